/- Contracts of package phase: ascending, slices.Clone of integers, Cam and Turn of valid phases; the reference's Ascends and Turn. -/
import Derived.Test.YtoninaidinnbgaaPhaseA
import Derived.Test.YtoninaidinnbgaaOwnMore
import Derived.Deep.LoopGhost
import Derived.Laws.Cover3
namespace Go.Proofs.Ytoninaidinnbgaa
set_option linter.unusedVariables false
set_option linter.unusedSimpArgs false
open Go.RowKit Go.ChangeShapes Go.WideShapes Go.ChangeAt

open Classical in
noncomputable def ascB (xs : List Int) : Bool := decide (∀ t, t + 1 < xs.length → xs.getD t 0 < xs.getD (t + 1) 0)
theorem ascB_true {xs : List Int} : ascB xs = true ↔ ∀ t, t + 1 < xs.length → xs.getD t 0 < xs.getD (t + 1) 0 := by simp [ascB]
theorem ascB_false {xs : List Int} : ascB xs = false ↔ ¬ ∀ t, t + 1 < xs.length → xs.getD t 0 < xs.getD (t + 1) 0 := by simp [ascB]
set_option maxHeartbeats 1000000 in
theorem asc_any (r : Option Addr) (cap : Nat) (xs : List Int) (w : World) (hx : IsInts w r cap .i64 xs) : Calls Try.prog 33 #[.slice r xs.length cap] w fun e w' => e = .returned (.bool (ascB xs)) ∧ Below w.heap.size w w' := by
  by_cases hne : xs = []
  · subst hne
    have H := Lib.hid (ascB_true.2 (fun t h => absurd h (by simp)) : ascB [] = true)
    clear hx
    go_enter Try.func33, Try.ntmps33
    go_wp2
    go_rounds 1
    go_ret
    exact ⟨ret_bool H.out.symm, by (repeat' (first | (with_reducible exact Below.refl _ _) | (with_reducible assumption) | (with_reducible refine below_alloc ?_ _) | (with_reducible refine Below.drew ?_) | (with_reducible refine below_drewN ?_ _) | (with_reducible refine below_step (by assumption) ?_) | (with_reducible refine below_later ?_ _) | (with_reducible refine Below.setCell ?_ ?_ _) | go_size))⟩
  · obtain ⟨bX, off, rfl, hb, hc⟩ := hx.cells hne
    have hmax := Nat.le_trans hx.le hx.max
    unfold maxLen at hmax
    have h0 : 0 < xs.length := List.length_pos_iff.2 hne
    have HC := Lib.hid hc
    have HT := Lib.hid (@ascB_true xs)
    have HF := Lib.hid (@ascB_false xs)
    clear hx hc hne
    generalize hn : xs.length = n at *
    have HN := Lib.hid hn
    clear hn
    have hw1 : IntKind.i64.wrap ((n : Int) - 1) = (n : Int) - 1 := IntWalk.i64_in _ (by omega)
    go_enter Try.func33, Try.ntmps33
    go_wp2
    go_loopg [7] n (fun kx s7 wr => ∃ (k : Nat) (e : Later w), s7 = .int .i64 k ∧ k < n ∧ n - k ≤ kx ∧ wr = e.w ∧ Hid (∀ t, t < k → xs.getD t 0 < xs.getD (t + 1) 0))
    case atStart => exact ⟨0, ⟨_, Below.refl _ _⟩, rfl, by omega, by omega, rfl, Lib.hid (fun t h => absurd h (Nat.not_lt_zero _))⟩
    case round =>
      obtain ⟨k, e, rfl, hk, hkx, rfl, HQ⟩ := hrel
      by_cases hlt : k + 1 < n
      · have hk1 : (0 : Int) ≤ (k : Int) := by omega
        have hk2 : (k : Int) < (n : Int) - 1 := by omega
        have hk3 : (k : Int) < (n : Int) := by omega
        have hk4 : (0 : Int) ≤ (k : Int) + 1 := by omega
        have hk5 : (k : Int) + 1 < (n : Int) := by omega
        have hc1 : e.w.cell? ⟨bX, off + k, none⟩ = some (.int .i64 (xs.getD k 0)) := by
          rw [Later.cell e hb]; exact HC.out k (by omega)
        have hc2 : e.w.cell? ⟨bX, off + (k + 1), none⟩ = some (.int .i64 (xs.getD (k + 1) 0)) := by
          rw [Later.cell e hb]; exact HC.out (k + 1) (by omega)
        have HB : Hid (¬ xs.getD k 0 < xs.getD (k + 1) 0 → ascB xs = false) := Lib.hid (fun h => HF.out.2 (fun hh => h (hh k (by have := HN.out; omega))))
        have HG : Hid (xs.getD k 0 < xs.getD (k + 1) 0 → ∀ t, t < k + 1 → xs.getD t 0 < xs.getD (t + 1) 0) := Lib.hid (fun h t ht => by
          by_cases e : t = k
          · subst e; exact h
          · exact HQ.out t (by omega))
        generalize xs.getD k 0 = x at hc1 HB HG
        generalize xs.getD (k + 1) 0 = y at hc2 HB HG
        by_cases hxy : x < y
        · have HG2 := Lib.hid (HG.out hxy)
          have hyx : ¬ y ≤ x := by omega
          clear HG HB
          go_wp2
          go_quiet (fail)
          go_wp2
          go_roundg (n - (k + 1))
          case measure => omega
          case rel => exact ⟨k + 1, ⟨_, below_drewN e.h _⟩, by go_num, by omega, by omega, rfl, HG2⟩
        · have H := Lib.hid (HB.out hxy)
          have hyx : y ≤ x := by omega
          clear HG HB
          go_wp2
          go_quiet (fail)
          go_wp2
          go_ret
          exact ⟨ret_bool H.out.symm, by (repeat' (first | (with_reducible exact Below.refl _ _) | (with_reducible assumption) | (with_reducible refine below_alloc ?_ _) | (with_reducible refine Below.drew ?_) | (with_reducible refine below_drewN ?_ _) | (with_reducible refine below_step (by assumption) ?_) | (with_reducible refine below_later ?_ _) | (with_reducible refine Below.setCell ?_ ?_ _) | go_size))⟩
      · have hk2 : ¬ (k : Int) < (n : Int) - 1 := by omega
        have H := Lib.hid (HT.out.2 (fun t ht => HQ.out t (by have := HN.out; omega)))
        go_wp2
        go_ret
        exact ⟨ret_bool H.out.symm, by (repeat' (first | (with_reducible exact Below.refl _ _) | (with_reducible assumption) | (with_reducible refine below_alloc ?_ _) | (with_reducible refine Below.drew ?_) | (with_reducible refine below_drewN ?_ _) | (with_reducible refine below_step (by assumption) ?_) | (with_reducible refine below_later ?_ _) | (with_reducible refine Below.setCell ?_ ?_ _) | go_size))⟩
set_option maxHeartbeats 1000000 in
theorem rasc_any (r : Option Addr) (cap : Nat) (xs : List Int) (w : World) (hx : IsInts w r cap .i64 xs) : Calls Try.prog 21 #[.slice r xs.length cap] w fun e w' => e = .returned (.bool (ascB xs)) ∧ Below w.heap.size w w' := by
  by_cases hne : xs = []
  · subst hne
    have H := Lib.hid (ascB_true.2 (fun t h => absurd h (by simp)) : ascB [] = true)
    clear hx
    go_enter Try.func21, Try.ntmps21
    go_wp2
    go_rounds 1
    go_ret
    exact ⟨ret_bool H.out.symm, by (repeat' (first | (with_reducible exact Below.refl _ _) | (with_reducible assumption) | (with_reducible refine below_alloc ?_ _) | (with_reducible refine Below.drew ?_) | (with_reducible refine below_drewN ?_ _) | (with_reducible refine below_step (by assumption) ?_) | (with_reducible refine below_later ?_ _) | (with_reducible refine Below.setCell ?_ ?_ _) | go_size))⟩
  · obtain ⟨bX, off, rfl, hb, hc⟩ := hx.cells hne
    have hmax := Nat.le_trans hx.le hx.max
    unfold maxLen at hmax
    have h0 : 0 < xs.length := List.length_pos_iff.2 hne
    have HC := Lib.hid hc
    have HT := Lib.hid (@ascB_true xs)
    have HF := Lib.hid (@ascB_false xs)
    clear hx hc hne
    generalize hn : xs.length = n at *
    have HN := Lib.hid hn
    clear hn
    go_enter Try.func21, Try.ntmps21
    go_wp2
    go_loopg [3] n (fun kx s3 wr => ∃ (k : Nat) (e : Later w), s3 = .int .i64 k ∧ 1 ≤ k ∧ k ≤ n ∧ n - k ≤ kx ∧ wr = e.w ∧ Hid (∀ t, t + 1 < k → xs.getD t 0 < xs.getD (t + 1) 0))
    case atStart => exact ⟨1, ⟨_, Below.refl _ _⟩, rfl, by omega, by omega, by omega, rfl, Lib.hid (fun t h => absurd h (by omega))⟩
    case round =>
      obtain ⟨k, e, rfl, hk0, hk, hkx, rfl, HQ⟩ := hrel
      by_cases hlt : k < n
      · have hk1 : (0 : Int) ≤ (k : Int) := by omega
        have hk2 : (k : Int) < (n : Int) := by omega
        have hw1 : IntKind.i64.wrap ((k : Int) - 1) = (k : Int) - 1 := IntWalk.i64_in _ (by omega)
        have k4 : (0 : Int) ≤ (k : Int) - 1 := by omega
        have k5 : (k : Int) - 1 < n := by omega
        have hc1 : e.w.cell? ⟨bX, off + k, none⟩ = some (.int .i64 (xs.getD k 0)) := by
          rw [Later.cell e hb]; exact HC.out k (by omega)
        have hc2 : e.w.cell? ⟨bX, off + (k - 1), none⟩ = some (.int .i64 (xs.getD (k - 1) 0)) := by
          rw [Later.cell e hb]; exact HC.out (k - 1) (by omega)
        have HB : Hid (¬ xs.getD (k - 1) 0 < xs.getD k 0 → ascB xs = false) := Lib.hid (fun h => HF.out.2 (fun hh => h (by
          have := hh (k - 1) (by have := HN.out; omega)
          rwa [show k - 1 + 1 = k by omega] at this)))
        have HG : Hid (xs.getD (k - 1) 0 < xs.getD k 0 → ∀ t, t + 1 < k + 1 → xs.getD t 0 < xs.getD (t + 1) 0) := Lib.hid (fun h t ht => by
          by_cases e : t = k - 1
          · subst e; rwa [show k - 1 + 1 = k by omega]
          · exact HQ.out t (by omega))
        generalize xs.getD k 0 = x at hc1 HB HG
        generalize xs.getD (k - 1) 0 = y at hc2 HB HG
        by_cases hxy : y < x
        · have HG2 := Lib.hid (HG.out hxy)
          have hyx : ¬ x ≤ y := by omega
          clear HG HB
          go_wp2
          go_quiet (fail)
          go_wp2
          go_roundg (n - (k + 1))
          case measure => omega
          case rel => exact ⟨k + 1, ⟨_, below_drewN e.h _⟩, by go_num, by omega, by omega, by omega, rfl, HG2⟩
        · have H := Lib.hid (HB.out hxy)
          have hyx : x ≤ y := by omega
          clear HG HB
          go_wp2
          go_quiet (fail)
          go_wp2
          go_ret
          exact ⟨ret_bool H.out.symm, by (repeat' (first | (with_reducible exact Below.refl _ _) | (with_reducible assumption) | (with_reducible refine below_alloc ?_ _) | (with_reducible refine Below.drew ?_) | (with_reducible refine below_drewN ?_ _) | (with_reducible refine below_step (by assumption) ?_) | (with_reducible refine below_later ?_ _) | (with_reducible refine Below.setCell ?_ ?_ _) | go_size))⟩
      · obtain rfl : k = n := by omega
        have H := Lib.hid (HT.out.2 (fun t ht => HQ.out t (by have := HN.out; omega)))
        go_wp2
        go_ret
        exact ⟨ret_bool H.out.symm, by (repeat' (first | (with_reducible exact Below.refl _ _) | (with_reducible assumption) | (with_reducible refine below_alloc ?_ _) | (with_reducible refine Below.drew ?_) | (with_reducible refine below_drewN ?_ _) | (with_reducible refine below_step (by assumption) ?_) | (with_reducible refine below_later ?_ _) | (with_reducible refine Below.setCell ?_ ?_ _) | go_size))⟩
theorem run_eqlN {t e : TypeId} (h : Try.prog.underlying t = some (.slice e)) (a : Option Addr) (l c : Nat) (w : World) : (binOp .eql t (.slice a l c) (.slice none 0 0)).run Try.prog w = .ok (.bool a.isNone) w := by
  simp [binOp, run_equal_slice_nil w t e a l c h]
/-- slices.Clone of integers. -/
theorem cloneI_any (r : Option Addr) (cap : Nat) (xs : List Int) (w : World) (hx : IsInts w r cap .i64 xs) (hl : xs.length ≤ 1099511627776) : Calls Try.prog 26 #[.slice r xs.length cap] w fun e w' => ∃ r' cap', e = .returned (.slice r' xs.length cap') ∧ OwnI w' w.heap.size r' cap' xs ∧ IsInts w' r' cap' .i64 xs ∧ Below w.heap.size w w' := by
  have HW := Lib.hid hx.wf
  cases r with
  | none =>
    have hy : xs = [] := by
      rcases Classical.em (xs = []) with h | h
      · exact h
      · obtain ⟨b, off, h1, _⟩ := hx.cells h
        cases h1
    subst hy
    have HX := Lib.hid hx
    clear hx
    have hq : ∀ w, (binOp .eql 22 (.slice none 0 cap) (.slice none 0 0)).run Try.prog w = .ok (.bool true) w := fun w => run_eqlN Try.underlying22 _ _ _ w
    go_enter Try.func26, Try.ntmps26
    go_wp2
    go_ret
    exact ⟨none, 0, rfl, OwnI.nil _ _, (OwnI.nil w w.heap.size).ints (by simp), by (repeat' (first | (with_reducible exact Below.refl _ _) | (with_reducible assumption) | (with_reducible refine below_alloc ?_ _) | (with_reducible refine Below.drew ?_) | (with_reducible refine below_drewN ?_ _) | (with_reducible refine below_step (by assumption) ?_) | (with_reducible refine below_later ?_ _) | (with_reducible refine Below.setCell ?_ ?_ _) | go_size))⟩
  | some ad =>
    have HX : Hid (∀ w', Below w.heap.size w w' → IsInts w' (some ad) cap .i64 xs) := Lib.hid (fun _ h => hx.later h)
    clear hx
    have HE : Hid (OwnI (w.alloc (.cells #[] 3)) w.heap.size (some ⟨w.heap.size, 0, none⟩) 0 []) := Lib.hid ⟨by simp, Or.inr ⟨w.heap.size, 0, #[], rfl, Nat.le_refl _, heap_alloc_new w _, by simp, by simp [maxLen], by simp, by simp⟩⟩
    have hq : ∀ w, (binOp .eql 22 (.slice (some ad) xs.length cap) (.slice none 0 0)).run Try.prog w = .ok (.bool false) w := fun w => run_eqlN Try.underlying22 _ _ _ w
    go_enter Try.func26, Try.ntmps26
    go_wp2_with (at_builtin; refine wpList_append_ints (by rfl) _ _ (by rfl) w.heap.size (some ⟨w.heap.size, 0, none⟩) (some ad) 0 cap [] xs (by rfl) (by rfl) HE.out (HX.out _ (by (repeat' (first | (with_reducible exact Below.refl _ _) | (with_reducible assumption) | (with_reducible refine below_alloc ?_ _) | (with_reducible refine Below.drew ?_) | (with_reducible refine below_drewN ?_ _) | (with_reducible refine below_step (by assumption) ?_) | (with_reducible refine below_later ?_ _) | (with_reducible refine Below.setCell ?_ ?_ _) | go_size)))) (by simpa using hl) (by go_size) ?_; intro r' cap' w1 hown1 hbw1; have HO1 := Lib.hid hown1; clear hown1)
    go_ret
    have hO := HO1.out
    rw [List.nil_append] at hO
    exact ⟨r', cap', rfl, hO, hO.ints HW.out, Below.trans ((Below.refl _ w).alloc (Nat.le_refl _) _) hbw1⟩
/-- Cam of valid phases. -/
theorem pCam_any (r : Option Addr) (cap : Nat) (xs : List Int) (k s k' s' : Bool) (h c h' c' : Int) (w : World) (hx : IsInts w r cap .i64 xs) (hok : cphB xs ⟨k, h, c, s⟩ = true) (he : (Ph.mk k h c s).edge = ⟨k', h', c', s'⟩) :
    Calls Try.prog 14 #[.agg #[.slice r xs.length cap], .agg #[.bool k, .int .i64 h, .int .i64 c, .bool s]] w fun e w' => e = .returned (.tuple #[.agg #[.bool k', .int .i64 h', .int .i64 c', .bool s'], .int .i64 0]) ∧ Below w.heap.size w w' := by
  have HX : Hid (∀ w', Below w.heap.size w w' → IsInts w' r cap .i64 xs) := Lib.hid (fun _ h => hx.later h)
  have HV := Lib.hid (fun w hx => pValid_any r cap xs k s h c w hx)
  rw [hok] at HV
  have hc : 0 ≤ c ∧ c ≤ 16 := by
    simp only [cphB, Bool.and_eq_true, phB_true] at hok
    exact hok.2.cnt
  obtain ⟨c0, c1⟩ := hc
  have HE := Lib.hid he
  clear he hx hok
  cases s
  · have e := HE.out
    simp only [Ph.edge, Ph.mk.injEq, if_neg Bool.false_ne_true] at e
    obtain ⟨rfl, rfl, rfl, rfl⟩ := e
    go_enter Try.func14, Try.ntmps14
    go_wp2_with ((go_at_call 13; refine (HV.out _ (HX.out _ (by (repeat' (first | (with_reducible exact Below.refl _ _) | (with_reducible assumption) | (with_reducible refine below_alloc ?_ _) | (with_reducible refine Below.drew ?_) | (with_reducible refine below_drewN ?_ _) | (with_reducible refine below_step (by assumption) ?_) | (with_reducible refine below_later ?_ _) | (with_reducible refine Below.setCell ?_ ?_ _) | go_size))))).mono ?_; rintro e hb1w ⟨rfl, hb1⟩; obtain ⟨hb1c, hb1f⟩ := bcell hb1; have hb1s := hb1.size; (try simp only [World.size_alloc] at hb1s); (try (have : w.heap.size < hb1w.heap.size := by omega)); (try (have : w.heap.size + 1 < hb1w.heap.size := by omega)); (try (have : w.heap.size + 1 + 1 < hb1w.heap.size := by omega)); (try (have : w.heap.size + 1 + 1 + 1 < hb1w.heap.size := by omega)); (try (have : bX < hb1w.heap.size := by omega)); (try (have : bY < hb1w.heap.size := by omega)); (try (have : bZ < hb1w.heap.size := by omega))))
    all_goals refine bodyPost_ret (by simp [results, Try.results14, go_sem, *]; try rfl) rfl ?_
    all_goals exact ⟨rfl, by (repeat' (first | (with_reducible exact Below.refl _ _) | (with_reducible assumption) | (with_reducible refine below_alloc ?_ _) | (with_reducible refine Below.drew ?_) | (with_reducible refine below_drewN ?_ _) | (with_reducible refine below_step (by assumption) ?_) | (with_reducible refine below_later ?_ _) | (with_reducible refine Below.setCell ?_ ?_ _) | go_size))⟩
  · have e := HE.out
    simp only [Ph.edge, Ph.mk.injEq, if_true] at e
    obtain ⟨rfl, rfl, e2, rfl⟩ := e
    by_cases h3 : c < 16
    · obtain rfl : c + 1 = c' := by omega
      have h4 : ¬ 16 < c + 1 := by omega
      have h5 : c + 1 ≤ 16 := by omega
      clear e2
      go_enter Try.func14, Try.ntmps14
      go_wp2_with ((go_at_call 13; refine (HV.out _ (HX.out _ (by (repeat' (first | (with_reducible exact Below.refl _ _) | (with_reducible assumption) | (with_reducible refine below_alloc ?_ _) | (with_reducible refine Below.drew ?_) | (with_reducible refine below_drewN ?_ _) | (with_reducible refine below_step (by assumption) ?_) | (with_reducible refine below_later ?_ _) | (with_reducible refine Below.setCell ?_ ?_ _) | go_size))))).mono ?_; rintro e hb1w ⟨rfl, hb1⟩; obtain ⟨hb1c, hb1f⟩ := bcell hb1; have hb1s := hb1.size; (try simp only [World.size_alloc] at hb1s); (try (have : w.heap.size < hb1w.heap.size := by omega)); (try (have : w.heap.size + 1 < hb1w.heap.size := by omega)); (try (have : w.heap.size + 1 + 1 < hb1w.heap.size := by omega)); (try (have : w.heap.size + 1 + 1 + 1 < hb1w.heap.size := by omega)); (try (have : bX < hb1w.heap.size := by omega)); (try (have : bY < hb1w.heap.size := by omega)); (try (have : bZ < hb1w.heap.size := by omega))))
      all_goals refine bodyPost_ret (by simp [results, Try.results14, go_sem, *]; try rfl) rfl ?_
      all_goals exact ⟨by first | rfl | (congr; omega), by (repeat' (first | (with_reducible exact Below.refl _ _) | (with_reducible assumption) | (with_reducible refine below_alloc ?_ _) | (with_reducible refine Below.drew ?_) | (with_reducible refine below_drewN ?_ _) | (with_reducible refine below_step (by assumption) ?_) | (with_reducible refine below_later ?_ _) | (with_reducible refine Below.setCell ?_ ?_ _) | go_size))⟩
    · obtain rfl : c = 16 := by omega
      obtain rfl : c' = 16 := by omega
      clear e2
      go_enter Try.func14, Try.ntmps14
      go_wp2_with ((go_at_call 13; refine (HV.out _ (HX.out _ (by (repeat' (first | (with_reducible exact Below.refl _ _) | (with_reducible assumption) | (with_reducible refine below_alloc ?_ _) | (with_reducible refine Below.drew ?_) | (with_reducible refine below_drewN ?_ _) | (with_reducible refine below_step (by assumption) ?_) | (with_reducible refine below_later ?_ _) | (with_reducible refine Below.setCell ?_ ?_ _) | go_size))))).mono ?_; rintro e hb1w ⟨rfl, hb1⟩; obtain ⟨hb1c, hb1f⟩ := bcell hb1; have hb1s := hb1.size; (try simp only [World.size_alloc] at hb1s); (try (have : w.heap.size < hb1w.heap.size := by omega)); (try (have : w.heap.size + 1 < hb1w.heap.size := by omega)); (try (have : w.heap.size + 1 + 1 < hb1w.heap.size := by omega)); (try (have : w.heap.size + 1 + 1 + 1 < hb1w.heap.size := by omega)); (try (have : bX < hb1w.heap.size := by omega)); (try (have : bY < hb1w.heap.size := by omega)); (try (have : bZ < hb1w.heap.size := by omega))))
      all_goals refine bodyPost_ret (by simp [results, Try.results14, go_sem, *]; try rfl) rfl ?_
      all_goals exact ⟨by first | rfl | (congr; omega), by (repeat' (first | (with_reducible exact Below.refl _ _) | (with_reducible assumption) | (with_reducible refine below_alloc ?_ _) | (with_reducible refine Below.drew ?_) | (with_reducible refine below_drewN ?_ _) | (with_reducible refine below_step (by assumption) ?_) | (with_reducible refine below_later ?_ _) | (with_reducible refine Below.setCell ?_ ?_ _) | go_size))⟩
theorem pCam_bad (r : Option Addr) (cap : Nat) (xs : List Int) (k s : Bool) (h c : Int) (w : World) (hx : IsInts w r cap .i64 xs) (hok : cphB xs ⟨k, h, c, s⟩ = false) :
    Calls Try.prog 14 #[.agg #[.slice r xs.length cap], .agg #[.bool k, .int .i64 h, .int .i64 c, .bool s]] w fun e w' => e = .returned (.tuple #[.agg #[.bool false, .int .i64 0, .int .i64 0, .bool false], .int .i64 1]) ∧ Below w.heap.size w w' := by
  have HX : Hid (∀ w', Below w.heap.size w w' → IsInts w' r cap .i64 xs) := Lib.hid (fun _ h => hx.later h)
  have HV := Lib.hid (fun w hx => pValid_any r cap xs k s h c w hx)
  rw [hok] at HV
  clear hx hok
  go_enter Try.func14, Try.ntmps14
  go_wp2_with ((go_at_call 13; refine (HV.out _ (HX.out _ (by (repeat' (first | (with_reducible exact Below.refl _ _) | (with_reducible assumption) | (with_reducible refine below_alloc ?_ _) | (with_reducible refine Below.drew ?_) | (with_reducible refine below_drewN ?_ _) | (with_reducible refine below_step (by assumption) ?_) | (with_reducible refine below_later ?_ _) | (with_reducible refine Below.setCell ?_ ?_ _) | go_size))))).mono ?_; rintro e hb1w ⟨rfl, hb1⟩; obtain ⟨hb1c, hb1f⟩ := bcell hb1; have hb1s := hb1.size; (try simp only [World.size_alloc] at hb1s); (try (have : w.heap.size < hb1w.heap.size := by omega)); (try (have : w.heap.size + 1 < hb1w.heap.size := by omega)); (try (have : w.heap.size + 1 + 1 < hb1w.heap.size := by omega)); (try (have : w.heap.size + 1 + 1 + 1 < hb1w.heap.size := by omega)); (try (have : bX < hb1w.heap.size := by omega)); (try (have : bY < hb1w.heap.size := by omega)); (try (have : bZ < hb1w.heap.size := by omega))))
  all_goals refine bodyPost_ret (by simp [results, Try.results14, go_sem, *]; try rfl) rfl ?_
  all_goals exact ⟨rfl, by (repeat' (first | (with_reducible exact Below.refl _ _) | (with_reducible assumption) | (with_reducible refine below_alloc ?_ _) | (with_reducible refine Below.drew ?_) | (with_reducible refine below_drewN ?_ _) | (with_reducible refine below_step (by assumption) ?_) | (with_reducible refine below_later ?_ _) | (with_reducible refine Below.setCell ?_ ?_ _) | go_size))⟩
theorem pTurn_bad (r : Option Addr) (cap : Nat) (xs : List Int) (k s : Bool) (h c : Int) (w : World) (hx : IsInts w r cap .i64 xs) (hok : cphB xs ⟨k, h, c, s⟩ = false) :
    Calls Try.prog 15 #[.agg #[.slice r xs.length cap], .agg #[.bool k, .int .i64 h, .int .i64 c, .bool s]] w fun e w' => e = .returned (.tuple #[.agg #[.bool false, .int .i64 0, .int .i64 0, .bool false], .int .i64 1]) ∧ Below w.heap.size w w' := by
  have HX : Hid (∀ w', Below w.heap.size w w' → IsInts w' r cap .i64 xs) := Lib.hid (fun _ h => hx.later h)
  have HV := Lib.hid (fun w hx => pValid_any r cap xs k s h c w hx)
  rw [hok] at HV
  clear hx hok
  go_enter Try.func15, Try.ntmps15
  go_wp2_with ((go_at_call 13; refine (HV.out _ (HX.out _ (by (repeat' (first | (with_reducible exact Below.refl _ _) | (with_reducible assumption) | (with_reducible refine below_alloc ?_ _) | (with_reducible refine Below.drew ?_) | (with_reducible refine below_drewN ?_ _) | (with_reducible refine below_step (by assumption) ?_) | (with_reducible refine below_later ?_ _) | (with_reducible refine Below.setCell ?_ ?_ _) | go_size))))).mono ?_; rintro e hb1w ⟨rfl, hb1⟩; obtain ⟨hb1c, hb1f⟩ := bcell hb1; have hb1s := hb1.size; (try simp only [World.size_alloc] at hb1s); (try (have : w.heap.size < hb1w.heap.size := by omega)); (try (have : w.heap.size + 1 < hb1w.heap.size := by omega)); (try (have : w.heap.size + 1 + 1 < hb1w.heap.size := by omega)); (try (have : w.heap.size + 1 + 1 + 1 < hb1w.heap.size := by omega)); (try (have : bX < hb1w.heap.size := by omega)); (try (have : bY < hb1w.heap.size := by omega)); (try (have : bZ < hb1w.heap.size := by omega))))
  all_goals refine bodyPost_ret (by simp [results, Try.results15, go_sem, *]; try rfl) rfl ?_
  all_goals exact ⟨rfl, by (repeat' (first | (with_reducible exact Below.refl _ _) | (with_reducible assumption) | (with_reducible refine below_alloc ?_ _) | (with_reducible refine Below.drew ?_) | (with_reducible refine below_drewN ?_ _) | (with_reducible refine below_step (by assumption) ?_) | (with_reducible refine below_later ?_ _) | (with_reducible refine Below.setCell ?_ ?_ _) | go_size))⟩
end Go.Proofs.Ytoninaidinnbgaa
