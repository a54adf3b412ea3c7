/- Contracts of sort.Search, slices.IndexFunc and slices.ContainsFunc over slices of integers. -/
import Derived.Test.YtohdbneaganfbaaOpen
import Derived.Deep.LoopGhost
import Derived.Shelf.Abstract
namespace Go.Proofs.Ytohdbneaganfbaa
set_option linter.unusedVariables false
set_option linter.unusedSimpArgs false
open Go.RowKit Go.ChangeShapes Go.WideShapes Go.ChangeAt

set_option maxHeartbeats 1000000 in
theorem search_any (g : Nat) (cb : Array Value) (n r : Nat) (p : Nat → Bool) (w : World) {N : Int} (hN : N = (n : Int)) (eg : ∀ args w, (callFunc g args).run Try.prog w = .ok (.enter g args) w) (hsz : n < 4611686018427387904) (hr : r ≤ n)
    (hf : ∀ (e : Later w) (i : Nat), i < n → Calls Try.prog g (#[.int .i64 i] ++ cb) e.w fun x w' => x = .returned (.bool (p i)) ∧ Below e.w.heap.size e.w w')
    (h1 : ∀ t, t < r → p t = false) (h2 : ∀ t, r ≤ t → t < n → p t = true) :
    Calls Try.prog 61 #[.int .i64 N, .func (.func g) #[] cb] w fun e w' => e = .returned (.int .i64 r) ∧ Below w.heap.size w w' := by
  subst hN
  have HF := Lib.hid hf
  have H1 := Lib.hid h1
  have H2 := Lib.hid h2
  clear hf h1 h2
  go_enter Try.func61, Try.ntmps61
  go_wp2
  go_loopg [5, 6] n (fun kx s4 s6 wr => ∃ (i j : Nat) (e : Later w), s4 = .int .i64 i ∧ s6 = .int .i64 j ∧ i ≤ r ∧ r ≤ j ∧ j ≤ n ∧ j - i ≤ kx ∧ wr = e.w)
  case atStart => exact ⟨0, n, ⟨w, Below.refl _ _⟩, rfl, rfl, Nat.zero_le _, hr, Nat.le_refl _, by omega, rfl⟩
  case round =>
    obtain ⟨i, j, e, rfl, rfl, hi, hj, hjn, hk, rfl⟩ := hrel
    by_cases hlt : i < j
    · have hc := HF.out e ((i + j) / 2) (by omega)
      rw [show (((i + j) / 2 : Nat) : Int) = ((i : Int) + (j : Int)) / 2 by omega] at hc
      by_cases hp : (i + j) / 2 < r
      · rw [H1.out _ hp] at hc
        go_wp2_with (go_at_fn g; refine hc.mono ?_; rintro x w' ⟨rfl, hb⟩)
        go_roundg (j - ((i + j) / 2 + 1))
        case measure => omega
        case rel =>
          obtain ⟨e', rfl⟩ := e.next hb
          exact ⟨(i + j) / 2 + 1, j, e', by rw [show ((i : Int) + (j : Int)) / 2 + 1 = (((i + j) / 2 + 1 : Nat) : Int) by omega], rfl, by omega, by omega, by omega, Nat.le_refl _, rfl⟩
      · rw [H2.out _ (by omega) (by omega)] at hc
        go_wp2_with (go_at_fn g; refine hc.mono ?_; rintro x w' ⟨rfl, hb⟩)
        go_roundg ((i + j) / 2 - i)
        case measure => omega
        case rel =>
          obtain ⟨e', rfl⟩ := e.next hb
          exact ⟨i, (i + j) / 2, e', rfl, by rw [show ((i : Int) + (j : Int)) / 2 = (((i + j) / 2 : Nat) : Int) by omega], by omega, by omega, by omega, Nat.le_refl _, rfl⟩
    · obtain rfl : i = r := by omega
      obtain rfl : i = j := by omega
      go_wp2
      go_ret
      exact ⟨rfl, e.h⟩

def idxI (p : Int → Bool) (xs : List Int) : Int := if xs.any p = true then (xs.findIdx p : Nat) else -1
theorem idxI_hit {p : Int → Bool} {xs : List Int} {k : Nat} (hk : k < xs.length) (h0 : ∀ t, t < k → p (xs.getD t 0) = false) (h1 : p (xs.getD k 0) = true) : idxI p xs = k := by
  have hg : ∀ t (h : t < xs.length), xs.getD t 0 = xs[t] := fun t h => by simp [List.getD, List.getElem?_eq_getElem h]
  have hf : xs.findIdx p = k := by
    rw [List.findIdx_eq hk]
    refine ⟨by rw [← hg k hk]; exact h1, fun j hj => ?_⟩
    rw [← hg j (by omega)]
    exact h0 j hj
  have ha : xs.any p = true := List.any_eq_true.2 ⟨xs[k], List.getElem_mem hk, by rw [← hg k hk]; exact h1⟩
  simp [idxI, ha, hf]
theorem idxI_miss {p : Int → Bool} {xs : List Int} (h0 : ∀ t, t < xs.length → p (xs.getD t 0) = false) : idxI p xs = -1 := by
  have ha : xs.any p = false := by
    rw [List.any_eq_false]
    intro x hx
    obtain ⟨t, ht, rfl⟩ := List.getElem_of_mem hx
    have := h0 t ht
    simpa [List.getD, List.getElem?_eq_getElem ht] using this
  simp [idxI, ha]
theorem idxI_any (p : Int → Bool) (xs : List Int) : decide (0 ≤ idxI p xs) = xs.any p := by
  unfold idxI
  split
  · rename_i h; rw [h]; simp
  · rename_i h; simp at h ⊢; simpa using h

set_option maxHeartbeats 1000000 in
theorem indexFunc_any (g : Nat) (cb : Array Value) (r : Option Addr) (cap : Nat) (xs : List Int) (p : Int → Bool) (w : World) (eg : ∀ args w, (callFunc g args).run Try.prog w = .ok (.enter g args) w) (hxs : IsInts w r cap .i64 xs)
    (hf : ∀ (e : Later w) (x : Int), x ∈ xs → Calls Try.prog g (#[.int .i64 x] ++ cb) e.w fun a w' => a = .returned (.bool (p x)) ∧ Below e.w.heap.size e.w w') :
    Calls Try.prog 100 #[.slice r xs.length cap, .func (.func g) #[] cb] w fun e w' => e = .returned (.int .i64 (idxI p xs)) ∧ Below w.heap.size w w' := by
  have HF := Lib.hid hf
  have hmax := hxs.max
  have hle := hxs.le
  unfold maxLen at hmax
  clear hf
  by_cases hne : xs = []
  · subst hne
    go_enter Try.func100, Try.ntmps100
    go_wp2
    go_rounds 1
    go_ret
    exact ⟨rfl, Below.refl _ _⟩
  · obtain ⟨b, off, rfl, hb, hc⟩ := hxs.cells hne
    have HC := Lib.hid hc
    clear hc
    generalize hn : xs.length = n at *
    have HN := Lib.hid hn
    clear hn
    go_enter Try.func100, Try.ntmps100
    go_wp2
    go_loopg [8] n (fun kx s8 wr => ∃ (k : Nat) (e : Later w), s8 = .int .i64 k ∧ k ≤ n ∧ n - k ≤ kx ∧ wr = e.w ∧ Hid (∀ t, t < k → p (xs.getD t 0) = false))
    case atStart => exact ⟨0, ⟨w, Below.refl _ _⟩, rfl, Nat.zero_le _, by omega, rfl, Lib.hid (fun t h => absurd h (Nat.not_lt_zero _))⟩
    case round =>
      obtain ⟨k, e, rfl, hk, hkx, rfl, HP⟩ := hrel
      by_cases hlt : k < n
      · have hlen := HN.out
        have hcell : e.w.cell? ⟨b, off + k, none⟩ = some (.int .i64 (xs.getD k 0)) := by
          rw [Later.cell e hb]
          exact HC.out k (by omega)
        have hmem : xs.getD k 0 ∈ xs := by
          rw [List.getD, List.getElem?_eq_getElem (show k < xs.length by omega)]
          exact List.getElem_mem _
        have hcall := HF.out e _ hmem
        have HK : Hid (k < xs.length) := Lib.hid (by omega)
        have HX : Hid (∀ b, p (xs.getD k 0) = b → p (xs.getD k 0) = b) := Lib.hid (fun _ h => h)
        generalize hx : xs.getD k 0 = x at hcell hcall
        have HE := Lib.hid hx
        clear hx hlen hmem
        cases hp : p x <;> rw [hp] at hcall <;> have HQ := Lib.hid hp <;> clear hp
        · go_wp2_with (go_at_fn g; refine hcall.mono ?_; rintro a w' ⟨rfl, hb2⟩)
          go_roundg (n - (k + 1))
          case measure => omega
          case rel =>
            obtain ⟨e', rfl⟩ := e.next hb2
            refine ⟨k + 1, e', by go_num, by omega, Nat.le_refl _, rfl, Lib.hid (fun t ht => ?_)⟩
            by_cases h : t < k
            · exact HP.out t h
            · obtain rfl : t = k := by omega
              rw [HE.out]
              exact HQ.out
        · go_wp2_with (go_at_fn g; refine hcall.mono ?_; rintro a w' ⟨rfl, hb2⟩)
          go_ret
          refine ⟨ret_int ?_, by obtain ⟨e', rfl⟩ := e.next hb2; exact e'.h⟩
          exact (idxI_hit HK.out HP.out (by rw [HE.out]; exact HQ.out)).symm
      · obtain rfl : k = n := by omega
        go_wp2
        go_ret
        refine ⟨ret_int ?_, e.h⟩
        exact (idxI_miss (fun t ht => HP.out t (by have := HN.out; omega))).symm

theorem containsFunc_any (g : Nat) (cb : Array Value) (r : Option Addr) (cap : Nat) (xs : List Int) (p : Int → Bool) (w : World) (eg : ∀ args w, (callFunc g args).run Try.prog w = .ok (.enter g args) w) (hxs : IsInts w r cap .i64 xs)
    (hf : ∀ (e : Later w) (x : Int), x ∈ xs → Calls Try.prog g (#[.int .i64 x] ++ cb) e.w fun a w' => a = .returned (.bool (p x)) ∧ Below e.w.heap.size e.w w') :
    Calls Try.prog 66 #[.slice r xs.length cap, .func (.func g) #[] cb] w fun e w' => e = .returned (.bool (xs.any p)) ∧ Below w.heap.size w w' := by
  have HI := Lib.hid (indexFunc_any g cb r cap xs p w eg hxs hf)
  clear hf hxs
  go_enter Try.func66, Try.ntmps66
  go_wp2_with ((go_at_call 100; refine (HI.out).mono ?_; rintro e hb1w ⟨rfl, hb1⟩; obtain ⟨hb1c, hb1f⟩ := bcell hb1; have hb1s := hb1.size; (try simp only [World.size_alloc] at hb1s); (try (have : w.heap.size < hb1w.heap.size := by omega)); (try (have : w.heap.size + 1 < hb1w.heap.size := by omega)); (try (have : w.heap.size + 1 + 1 < hb1w.heap.size := by omega)); (try (have : w.heap.size + 1 + 1 + 1 < hb1w.heap.size := by omega)); (try (have : bX < hb1w.heap.size := by omega)); (try (have : bY < hb1w.heap.size := by omega)); (try (have : bZ < hb1w.heap.size := by omega))))
  go_ret
  exact ⟨ret_bool (idxI_any p xs), by (repeat' (first | (with_reducible exact Below.refl _ _) | (with_reducible assumption) | (with_reducible refine below_alloc ?_ _) | (with_reducible refine Below.drew ?_) | (with_reducible refine below_drewN ?_ _) | (with_reducible refine below_step (by assumption) ?_) | (with_reducible refine below_later ?_ _) | (with_reducible refine Below.setCell ?_ ?_ _) | go_size))⟩

end Go.Proofs.Ytohdbneaganfbaa
