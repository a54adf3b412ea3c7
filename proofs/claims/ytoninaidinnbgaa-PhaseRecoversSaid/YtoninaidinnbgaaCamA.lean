/- Contracts of IsSortedFunc of integers, of ValidCam and Halves of cams, and of the reference's. Printed by a program. -/
import Derived.Test.YtoninaidinnbgaaFrame
import Derived.Test.YtoninaidinnbgaaOpen
import Derived.Deep.LoopGhost
import Derived.Shelf.Abstract
namespace Go.Proofs.Ytoninaidinnbgaa
set_option linter.unusedVariables false
set_option linter.unusedSimpArgs false
open Go.RowKit Go.ChangeShapes Go.WideShapes Go.ChangeAt

theorem nan_any (x : Int) (w : World) : Calls Try.prog 41 #[.int .i64 x] w fun e w' => e = .returned (.bool false) ∧ w = w' := by
  go_enter Try.func41, Try.ntmps41
  go_wp2
  go_ret
  exact ⟨by simp, rfl⟩
def cmpI (x y : Int) : Int := if x < y then -1 else if y < x then 1 else 0
theorem cmp_any (x y : Int) (w : World) : Calls Try.prog 39 #[.int .i64 x, .int .i64 y] w fun e w' => e = .returned (.int .i64 (cmpI x y)) ∧ w = w' := by
  by_cases h1 : x < y
  · have H := Lib.hid (show cmpI x y = -1 by simp [cmpI, h1])
    go_enter Try.func39, Try.ntmps39
    go_wp2_with ((go_at_call 41; refine (nan_any _ _).mono ?_; rintro e w' ⟨rfl, rfl⟩))
    go_ret
    exact ⟨by rw [H.out]; rfl, rfl⟩
  · by_cases h2 : y < x
    · have H := Lib.hid (show cmpI x y = 1 by simp [cmpI, h1, h2])
      go_enter Try.func39, Try.ntmps39
      go_wp2_with ((go_at_call 41; refine (nan_any _ _).mono ?_; rintro e w' ⟨rfl, rfl⟩))
      go_ret
      exact ⟨by rw [H.out]; rfl, rfl⟩
    · have H := Lib.hid (show cmpI x y = 0 by simp [cmpI, h1, h2])
      go_enter Try.func39, Try.ntmps39
      go_wp2_with ((go_at_call 41; refine (nan_any _ _).mono ?_; rintro e w' ⟨rfl, rfl⟩))
      go_ret
      exact ⟨by rw [H.out]; rfl, rfl⟩

def SortedL (xs : List Int) : Prop := ∀ t, t + 1 < xs.length → xs.getD t 0 ≤ xs.getD (t + 1) 0
open Classical in
noncomputable def sortB (xs : List Int) : Bool := decide (SortedL xs)
theorem sortB_true {xs : List Int} : sortB xs = true ↔ SortedL xs := by simp [sortB]
theorem sortB_false {xs : List Int} : sortB xs = false ↔ ¬ SortedL xs := by simp [sortB]
set_option maxHeartbeats 1000000 in
theorem sorted_any (r : Option Addr) (cap : Nat) (xs : List Int) (w : World) (hx : IsInts w r cap .i64 xs) (hne : xs ≠ []) :
    Calls Try.prog 38 #[.slice r xs.length cap, .func (.func 39) #[] #[]] w fun e w' => e = .returned (.bool (sortB xs)) ∧ Below w.heap.size w w' := by
  obtain ⟨bX, off, rfl, hb, hc⟩ := hx.cells hne
  have hmax := hx.max
  have hle := hx.le
  unfold maxLen at hmax
  have h0 : 0 < xs.length := List.length_pos_iff.2 hne
  have HC := Lib.hid hc
  have HT := Lib.hid (@sortB_true xs)
  have HF := Lib.hid (@sortB_false xs)
  have eg : ∀ args w, (callFunc 39 args).run Try.prog w = .ok (.enter 39 args) w := enters_of Try.func39 (by kernel_rfl) rfl
  clear hc hx hne
  generalize hn : xs.length = n at *
  have HN := Lib.hid hn
  clear hn
  go_enter Try.func38, Try.ntmps38
  go_wp2
  go_loopg [5] n (fun kx s5 wr => ∃ (k : Nat) (e : Later w), s5 = .int .i64 k ∧ k < n ∧ k ≤ kx ∧ wr = e.w ∧ Hid (∀ t, k ≤ t → t + 1 < n → xs.getD t 0 ≤ xs.getD (t + 1) 0))
  case atStart => exact ⟨n - 1, ⟨_, Below.refl _ _⟩, by go_num, by omega, by omega, rfl, Lib.hid (fun t h1 h2 => by omega)⟩
  case round =>
    obtain ⟨k, e, rfl, hk, hkx, rfl, HQ⟩ := hrel
    have hes := e.h.size
    have hbe : bX < e.w.heap.size := by omega
    by_cases hk0 : k = 0
    · have H := Lib.hid (HT.out.2 (fun t ht => HQ.out t (by omega) (by have := HN.out; omega)))
      subst hk0
      go_wp2
      go_ret
      exact ⟨by rw [H.out]; first | done | rfl, e.h⟩
    · have k1 : (0 : Int) < (k : Int) := by omega
      have k6 : 0 < k := by omega
      have k2 : (0 : Int) ≤ (k : Int) := by omega
      have k3 : (k : Int) < n := by omega
      have hw1 : IntKind.i64.wrap ((k : Int) - 1) = (k : Int) - 1 := IntWalk.i64_in _ (by omega)
      have k4 : (0 : Int) ≤ (k : Int) - 1 := by omega
      have k5 : (k : Int) - 1 < n := by omega
      have hc1 : e.w.cell? ⟨bX, off + k, none⟩ = some (.int .i64 (xs.getD k 0)) := by
        rw [Later.cell e hb]
        exact HC.out k hk
      have hc2 : e.w.cell? ⟨bX, off + (k - 1), none⟩ = some (.int .i64 (xs.getD (k - 1) 0)) := by
        rw [Later.cell e hb]
        exact HC.out (k - 1) (by omega)
      have HB : Hid (xs.getD k 0 < xs.getD (k - 1) 0 → sortB xs = false) := Lib.hid (fun h => HF.out.2 (fun hh => by
        have := hh (k - 1) (by have := HN.out; omega)
        rw [show k - 1 + 1 = k by omega] at this
        omega))
      have HG : Hid (¬ xs.getD k 0 < xs.getD (k - 1) 0 → ∀ t, k - 1 ≤ t → t + 1 < n → xs.getD t 0 ≤ xs.getD (t + 1) 0) := Lib.hid (fun h t h1 h2 => by
        by_cases e : t = k - 1
        · subst e
          rw [show k - 1 + 1 = k by omega]
          omega
        · exact HQ.out t (by omega) h2)
      generalize xs.getD k 0 = x at hc1 HB HG
      generalize xs.getD (k - 1) 0 = y at hc2 HB HG
      by_cases hxy : x < y
      · have H := Lib.hid (HB.out hxy)
        have hcm : cmpI x y < 0 := by simp [cmpI, hxy]
        clear hk0 HG
        go_wp2
        (refine wp_region_later (by kernel_rfl) (by kernel_rfl) ?_; (repeat (go_big_quiet_step ((go_at_fn 39; exact later_same (cmp_any _ _ _))))); refine wpQuiet_nil ?_; rintro _ ⟨e1, rfl⟩; have e1s := e1.h.size; (try simp only [World.size_alloc, World.size_drewN, World.drewN_heap] at e1s); (try (have : w.heap.size < e1.w.heap.size := by omega)); (try (have : w.heap.size + 1 < e1.w.heap.size := by omega)); (try (have : w.heap.size + 1 + 1 < e1.w.heap.size := by omega)); (try (have : w.heap.size + 1 + 1 + 1 < e1.w.heap.size := by omega)); (try (have : bX < e1.w.heap.size := by omega)); (try (have : bY < e1.w.heap.size := by omega)); (try (have : bZ < e1.w.heap.size := by omega)))
        go_wp2
        go_ret
        exact ⟨by rw [H.out]; first | done | rfl, below_later e.h e1⟩
      · have HG2 := Lib.hid (HG.out hxy)
        have hcm : ¬ cmpI x y < 0 := by unfold cmpI; rw [if_neg hxy]; split <;> omega
        clear hk0 HB HG
        go_wp2
        (refine wp_region_later (by kernel_rfl) (by kernel_rfl) ?_; (repeat (go_big_quiet_step ((go_at_fn 39; exact later_same (cmp_any _ _ _))))); refine wpQuiet_nil ?_; rintro _ ⟨e1, rfl⟩; have e1s := e1.h.size; (try simp only [World.size_alloc, World.size_drewN, World.drewN_heap] at e1s); (try (have : w.heap.size < e1.w.heap.size := by omega)); (try (have : w.heap.size + 1 < e1.w.heap.size := by omega)); (try (have : w.heap.size + 1 + 1 < e1.w.heap.size := by omega)); (try (have : w.heap.size + 1 + 1 + 1 < e1.w.heap.size := by omega)); (try (have : bX < e1.w.heap.size := by omega)); (try (have : bY < e1.w.heap.size := by omega)); (try (have : bZ < e1.w.heap.size := by omega)))
        go_wp2
        go_roundg (k - 1)
        case measure => omega
        case rel => exact ⟨k - 1, ⟨_, below_later e.h e1⟩, by go_num, by omega, Nat.le_refl _, rfl, HG2⟩

/-- How many of the first edges lie in the first half. -/
def cntI (xs : List Int) : Nat → Nat
  | 0 => 0
  | k + 1 => cntI xs k + if xs.getD k 0 < 23040 then 1 else 0
theorem cntI_le (xs : List Int) : ∀ k, cntI xs k ≤ k
  | 0 => Nat.le_refl _
  | k + 1 => by
    have := cntI_le xs k
    unfold cntI
    split <;> omega
def halfI (xs : List Int) : Int × Int := (((cntI xs xs.length : Nat) : Int), (xs.length : Int) - ((cntI xs xs.length : Nat) : Int))
@[go_sem] def tupC (p : Int × Int) : Value := .tuple #[.int .i64 p.1, .int .i64 p.2]
set_option maxHeartbeats 1000000 in
theorem halves_any (r : Option Addr) (cap : Nat) (xs : List Int) (w : World) (hx : IsInts w r cap .i64 xs) :
    Calls Try.prog 40 #[.agg #[.slice r xs.length cap]] w fun e w' => e = .returned (tupC (halfI xs)) ∧ Below w.heap.size w w' := by
  have H : Hid (halfI xs = (((cntI xs xs.length : Nat) : Int), (xs.length : Int) - ((cntI xs xs.length : Nat) : Int))) := Lib.hid rfl
  by_cases hne : xs = []
  · subst hne
    clear hx
    go_enter Try.func40, Try.ntmps40
    go_wp2
    go_rounds 1
    go_ret2
    exact ⟨by rw [H.out]; rfl, by (repeat' (first | (with_reducible exact Below.refl _ _) | (with_reducible assumption) | (with_reducible refine below_alloc ?_ _) | (with_reducible refine Below.drew ?_) | (with_reducible refine below_drewN ?_ _) | (with_reducible refine below_step (by assumption) ?_) | (with_reducible refine below_later ?_ _) | (with_reducible refine Below.setCell ?_ ?_ _) | go_size))⟩
  · obtain ⟨bX, off, rfl, hb, hc⟩ := hx.cells hne
    have hmax := hx.max
    have hle := hx.le
    unfold maxLen at hmax
    have HC := Lib.hid hc
    clear hc hx hne
    generalize hn : xs.length = n at *
    have HN := Lib.hid hn
    clear hn
    go_enter Try.func40, Try.ntmps40
    go_wp2
    go_loopg [2, 3, 9] n (fun kx s2 s3 s9 wr => ∃ (k : Nat) (e : Later (w.alloc (.cells #[.slice (some ⟨bX, off, none⟩) n cap] 24))), s2 = .int .i64 (cntI xs k : Nat) ∧ s3 = .int .i64 ((k : Int) - (cntI xs k : Nat)) ∧ s9 = .int .i64 k ∧ k ≤ n ∧ n - k ≤ kx ∧ wr = e.w)
    case atStart => exact ⟨0, ⟨_, Below.refl _ _⟩, rfl, by simp [cntI], rfl, by omega, by omega, rfl⟩
    case round =>
      obtain ⟨k, e, rfl, rfl, rfl, hk, hkx, rfl⟩ := hrel
      have hes := e.h.size
      have hbo : w.heap.size < e.w.heap.size := by simp only [World.size_alloc] at hes; omega
      have hbe : bX < e.w.heap.size := by omega
      have hct := cntI_le xs k
      by_cases hlt : k < n
      · have hc1 : e.w.cell? ⟨bX, off + k, none⟩ = some (.int .i64 (xs.getD k 0)) := by
          have hbw : Below w.heap.size w e.w := by (repeat' (first | (with_reducible exact Below.refl _ _) | (with_reducible assumption) | (with_reducible refine below_alloc ?_ _) | (with_reducible refine Below.drew ?_) | (with_reducible refine below_drewN ?_ _) | (with_reducible refine below_step (by assumption) ?_) | (with_reducible refine below_later ?_ _) | (with_reducible refine Below.setCell ?_ ?_ _) | go_size))
          rw [hbw.cell (p := ⟨bX, off + k, none⟩) hb]
          exact HC.out k hlt
        have HK : Hid (cntI xs (k + 1) = cntI xs k + if xs.getD k 0 < 23040 then 1 else 0) := Lib.hid rfl
        have hk1 : (0 : Int) ≤ (k : Int) := by omega
        have hk2 : (k : Int) < n := by omega
        generalize xs.getD k 0 = x at hc1 HK
        generalize cntI xs k = c at *
        by_cases hx : x < 23040
        · have HK2 := Lib.hid (HK.out.trans (by rw [if_pos hx]))
          clear HK
          go_wp2
          go_roundg (n - (k + 1))
          case measure => omega
          case rel => exact ⟨k + 1, ⟨_, by (repeat' (first | (with_reducible exact Below.refl _ _) | (with_reducible assumption) | (with_reducible refine below_alloc ?_ _) | (with_reducible refine Below.drew ?_) | (with_reducible refine below_drewN ?_ _) | (with_reducible refine below_step (by assumption) ?_) | (with_reducible refine below_later ?_ _) | (with_reducible refine Below.setCell ?_ ?_ _) | go_size))⟩, by rw [HK2.out]; go_num, by rw [HK2.out]; go_num, by go_num, by omega, by omega, rfl⟩
        · have HK2 := Lib.hid (HK.out.trans (by rw [if_neg hx]))
          clear HK
          go_wp2
          go_roundg (n - (k + 1))
          case measure => omega
          case rel => exact ⟨k + 1, ⟨_, by (repeat' (first | (with_reducible exact Below.refl _ _) | (with_reducible assumption) | (with_reducible refine below_alloc ?_ _) | (with_reducible refine Below.drew ?_) | (with_reducible refine below_drewN ?_ _) | (with_reducible refine below_step (by assumption) ?_) | (with_reducible refine below_later ?_ _) | (with_reducible refine Below.setCell ?_ ?_ _) | go_size))⟩, by rw [HK2.out]; go_num, by rw [HK2.out]; go_num, by go_num, by omega, by omega, rfl⟩
      · obtain rfl : k = n := by omega
        generalize cntI xs k = c at *
        go_wp2
        go_ret2
        exact ⟨by rw [H.out]; first | rfl | (simp [tupC]; done) | (simp [tupC]; omega), by (repeat' (first | (with_reducible exact Below.refl _ _) | (with_reducible assumption) | (with_reducible refine below_alloc ?_ _) | (with_reducible refine Below.drew ?_) | (with_reducible refine below_drewN ?_ _) | (with_reducible refine below_step (by assumption) ?_) | (with_reducible refine below_later ?_ _) | (with_reducible refine Below.setCell ?_ ?_ _) | go_size))⟩
end Go.Proofs.Ytoninaidinnbgaa
