/- sort.Find returns r, where the comparison is positive below r and not positive from r on. -/
import Derived.Test.YtmfldcjecajkoaaLib
import Derived.Deep.LoopGhost
import Derived.Shelf.Abstract
namespace Go.Proofs.Ytmfldcjecajkoaa
set_option linter.unusedVariables false
set_option linter.unusedSimpArgs false
open Go.RowKit Go.ChangeShapes Go.WideShapes Go.ChangeAt

set_option maxHeartbeats 1000000 in
theorem find_any (g : Nat) (cb : Array Value) (n r : Nat) (c : Nat → Int) (w : World) {N : Int} (hN : N = (n : Int)) (eg : ∀ args w, (callFunc g args).run Try.prog w = .ok (.enter g args) w) (hsz : n < 4611686018427387904) (hr : r ≤ n)
    (hf : ∀ (e : Later w) (i : Nat), i < n → Calls Try.prog g (#[.int .i64 i] ++ cb) e.w fun x w' => x = .returned (.int .i64 (c i)) ∧ Below e.w.heap.size e.w w')
    (h1 : ∀ t, t < r → 0 < c t) (h2 : ∀ t, r ≤ t → t < n → c t ≤ 0) :
    Calls Try.prog 34 #[.int .i64 N, .func (.func g) #[] cb] w fun e w' => e = .returned (.tuple #[.int .i64 r, .bool (decide (r < n) && (c r == 0))]) ∧ Below w.heap.size w w' := by
  subst hN
  have HF := Lib.hid hf
  have H1 := Lib.hid h1
  have H2 := Lib.hid h2
  clear hf h1 h2
  go_enter Try.func34, Try.ntmps34
  go_wp2
  go_loopg [4, 6] n (fun kx s4 s6 wr => ∃ (i j : Nat) (e : Later w), s4 = .int .i64 i ∧ s6 = .int .i64 j ∧ i ≤ r ∧ r ≤ j ∧ j ≤ n ∧ j - i ≤ kx ∧ wr = e.w)
  case atStart => exact ⟨0, n, ⟨w, Below.refl _ _⟩, rfl, rfl, Nat.zero_le _, hr, Nat.le_refl _, by omega, rfl⟩
  case round =>
    obtain ⟨i, j, e, rfl, rfl, hi, hj, hjn, hk, rfl⟩ := hrel
    by_cases hlt : i < j
    · have hc := HF.out e ((i + j) / 2) (by omega)
      rw [show (((i + j) / 2 : Nat) : Int) = ((i : Int) + (j : Int)) / 2 by omega] at hc
      have hcp : (i + j) / 2 < r → 0 < c ((i + j) / 2) := fun h => H1.out _ h
      have hcn : r ≤ (i + j) / 2 → c ((i + j) / 2) ≤ 0 := fun h => H2.out _ h (by omega)
      generalize c ((i + j) / 2) = v at hc hcp hcn
      by_cases hp : (i + j) / 2 < r
      · have hv := hcp hp
        clear hcp hcn
        go_wp2_with (go_at_fn g; refine hc.mono ?_; rintro x w' ⟨rfl, hb⟩)
        go_roundg (j - ((i + j) / 2 + 1))
        case measure => omega
        case rel =>
          obtain ⟨e', rfl⟩ := e.next hb
          exact ⟨(i + j) / 2 + 1, j, e', by rw [show ((i : Int) + (j : Int)) / 2 + 1 = (((i + j) / 2 + 1 : Nat) : Int) by omega], rfl, by omega, by omega, by omega, Nat.le_refl _, rfl⟩
      · have hv := hcn (by omega)
        clear hcp hcn
        go_wp2_with (go_at_fn g; refine hc.mono ?_; rintro x w' ⟨rfl, hb⟩)
        go_roundg ((i + j) / 2 - i)
        case measure => omega
        case rel =>
          obtain ⟨e', rfl⟩ := e.next hb
          exact ⟨i, (i + j) / 2, e', rfl, by rw [show ((i : Int) + (j : Int)) / 2 = (((i + j) / 2 : Nat) : Int) by omega], by omega, by omega, by omega, Nat.le_refl _, rfl⟩
    · obtain rfl : i = r := by omega
      obtain rfl : i = j := by omega
      by_cases hin : i < n
      · have hc := HF.out e i hin
        have hd : decide (i < n) = true := by simpa using hin
        go_wp2_with (go_at_fn g; refine hc.mono ?_; rintro x w' ⟨rfl, hb⟩)
        go_ret2
        exact ⟨by simp [hd], by obtain ⟨e', rfl⟩ := e.next hb; exact e'.h⟩
      · have hd : decide (i < n) = false := by simpa using hin
        go_wp2
        go_ret2
        exact ⟨by simp [hd], e.h⟩

end Go.Proofs.Ytmfldcjecajkoaa
