/- The law SparkFires returns true for all engines and lists. No conditions. Printed by a program. -/
import Derived.Test.YtohdbneaganfbaaFireD
import Derived.Test.YtohdbneaganfbaaTab31
import Derived.Test.YtohdbneaganfbaaOpenEngine
import Derived.Test.YtohdbneaganfbaaFrame
namespace Go.Proofs.Ytohdbneaganfbaa
set_option linter.unusedVariables false
set_option linter.unusedSimpArgs false
open Go.RowKit Go.ChangeShapes Go.WideShapes Go.ChangeAt

theorem sFires_bad (r rA rD rE rI : Option Addr) (cap cA cD cE cI : Nat) (xs A D E I : List Int) (f : Int) (w : World) (hx : IsInts w r cap .i64 xs) (hA : IsInts w rA cA .i64 A) (hD : IsInts w rD cD .i64 D) (hE : IsInts w rE cE .i64 E) (hI : IsInts w rI cI .i64 I) (h : frsB xs f A D E I = false) : Calls Try.prog 52 #[.agg #[.slice r xs.length cap, .int .i64 f], .slice rA A.length cA, .slice rD D.length cD, .slice rE E.length cE, .slice rI I.length cI] w fun e w' => e = .returned (.tuple #[.slice none 0 0, .int .i64 1]) ∧ Below w.heap.size w w' :=
  (sFires_any r rA rD rE rI cap cA cD cE cI xs A D E I f w hx hA hD hE hI).mono fun _ _ hp => by
    rcases hp with ⟨_, h1, h2⟩ | ⟨h1, _⟩
    · exact ⟨h1, h2⟩
    · rw [h] at h1; cases h1
theorem sFires_good (r rA rD rE rI : Option Addr) (cap cA cD cE cI : Nat) (xs A D E I : List Int) (f : Int) (w : World) (hx : IsInts w r cap .i64 xs) (hA : IsInts w rA cA .i64 A) (hD : IsInts w rD cD .i64 D) (hE : IsInts w rE cE .i64 E) (hI : IsInts w rI cI .i64 I) (h : frsB xs f A D E I = true) : Calls Try.prog 52 #[.agg #[.slice r xs.length cap, .int .i64 f], .slice rA A.length cA, .slice rD D.length cD, .slice rE E.length cE, .slice rI I.length cI] w fun e w' => ∃ r cap, e = .returned (.tuple #[.slice r xs.length cap, .int .i64 0]) ∧ OwnR 77 7 frC w' w.heap.size r cap (frL A D E I xs.length) ∧ Below w.heap.size w w' :=
  (sFires_any r rA rD rE rI cap cA cD cE cI xs A D E I f w hx hA hD hE hI).mono fun _ _ hp => by
    rcases hp with ⟨h1, _⟩ | ⟨_, h1⟩
    · rw [h] at h1; cases h1
    · exact h1
theorem rFires_bad (r rA rD rE rI : Option Addr) (cap cA cD cE cI : Nat) (xs A D E I : List Int) (f : Int) (w : World) (hx : IsInts w r cap .i64 xs) (hA : IsInts w rA cA .i64 A) (hD : IsInts w rD cD .i64 D) (hE : IsInts w rE cE .i64 E) (hI : IsInts w rI cI .i64 I) (h : frsB xs f A D E I = false) : Calls Try.prog 54 #[.agg #[.slice r xs.length cap, .int .i64 f], .slice rA A.length cA, .slice rD D.length cD, .slice rE E.length cE, .slice rI I.length cI] w fun e w' => e = .returned (.tuple #[.slice none 0 0, .bool false]) ∧ Below w.heap.size w w' :=
  (rFires_any r rA rD rE rI cap cA cD cE cI xs A D E I f w hx hA hD hE hI).mono fun _ _ hp => by
    rcases hp with ⟨_, h1, h2⟩ | ⟨h1, _⟩
    · exact ⟨h1, h2⟩
    · rw [h] at h1; cases h1
theorem rFires_good (r rA rD rE rI : Option Addr) (cap cA cD cE cI : Nat) (xs A D E I : List Int) (f : Int) (w : World) (hx : IsInts w r cap .i64 xs) (hA : IsInts w rA cA .i64 A) (hD : IsInts w rD cD .i64 D) (hE : IsInts w rE cE .i64 E) (hI : IsInts w rI cI .i64 I) (h : frsB xs f A D E I = true) : Calls Try.prog 54 #[.agg #[.slice r xs.length cap, .int .i64 f], .slice rA A.length cA, .slice rD D.length cD, .slice rE E.length cE, .slice rI I.length cI] w fun e w' => ∃ r cap, e = .returned (.tuple #[.slice r xs.length cap, .bool true]) ∧ OwnR 77 7 frC w' w.heap.size r cap (frL A D E I xs.length) ∧ Below w.heap.size w w' :=
  (rFires_any r rA rD rE rI cap cA cD cE cI xs A D E I f w hx hA hD hE hI).mono fun _ _ hp => by
    rcases hp with ⟨h1, _⟩ | ⟨_, h1⟩
    · rw [h] at h1; cases h1
    · exact h1
theorem max4_run (a b c d : Int) : ∃ m : Int, ∀ w, (Builtin.max_ #[3, 3, 3, 3] 3 #[.int .i64 a, .int .i64 b, .int .i64 c, .int .i64 d]).run Try.prog w = .ok (.int .i64 m) w :=
  ⟨_, fun _ => rfl⟩
theorem wf_getD {W : World} {r : Option Addr} {c : Nat} {xs : List Int} (h : IsInts W r c .i64 xs) (k : Nat) : (Lit.int .i64 (xs.getD k 0)).wf = true := by
  by_cases hk : k < xs.length
  · exact h.wf _ (getD_mem hk)
  · have : xs.getD k 0 = 0 := by simp [List.getD, List.getElem?_eq_none (Nat.le_of_not_lt hk)]
    rw [this]; decide
theorem frL_wf {A D E I : List Int} {n : Nat} (hn : n ≤ 8) (hA : ∀ k : Nat, (Lit.int .i64 (A.getD k 0)).wf = true) (hD : ∀ k : Nat, (Lit.int .i64 (D.getD k 0)).wf = true) (hE : ∀ k : Nat, (Lit.int .i64 (E.getD k 0)).wf = true) (hI : ∀ k : Nat, (Lit.int .i64 (I.getD k 0)).wf = true) : ∀ x ∈ frL A D E I n, FrWf x := by
  intro x hx
  simp only [frL, List.mem_map, List.mem_range] at hx
  obtain ⟨k, hk, rfl⟩ := hx
  refine ⟨?_, hA k, hD k, hE k, hI k⟩
  show (Lit.int .i64 ((k : Int) + 1)).wf = true
  simp [Lit.wf, IntKind.min, IntKind.max, IntKind.bits, IntKind.signed]
  omega
set_option maxRecDepth 100000 in
set_option maxHeartbeats 4000000 in
theorem sfires_walk (r rA rD rE rI : Option Addr) (cap cA cD cE cI : Nat) (xs A D E I : List Int) (f : Int) (w : World) (hx : IsInts w r cap .i64 xs) (hA : IsInts w rA cA .i64 A) (hD : IsInts w rD cD .i64 D) (hE : IsInts w rE cE .i64 E) (hI : IsInts w rI cI .i64 I) : Calls Try.prog 14 #[.agg #[.slice r xs.length cap, .int .i64 f], .slice rA A.length cA, .slice rD D.length cD, .slice rE E.length cE, .slice rI I.length cI] w fun e w' => e = .returned (.bool true) ∧ Below w.heap.size w w' := by
  have HX : Hid (∀ w', Below w.heap.size w w' → IsInts w' r cap .i64 xs) := Lib.hid (fun _ h => hx.later h)
  have HA : Hid (∀ w', Below w.heap.size w w' → IsInts w' rA cA .i64 A) := Lib.hid (fun _ h => hA.later h)
  have HD : Hid (∀ w', Below w.heap.size w w' → IsInts w' rD cD .i64 D) := Lib.hid (fun _ h => hD.later h)
  have HE : Hid (∀ w', Below w.heap.size w w' → IsInts w' rE cE .i64 E) := Lib.hid (fun _ h => hE.later h)
  have HI : Hid (∀ w', Below w.heap.size w w' → IsInts w' rI cI .i64 I) := Lib.hid (fun _ h => hI.later h)
  have HWF : Hid (∀ n, n ≤ 8 → ∀ x ∈ frL A D E I n, FrWf x) := Lib.hid (fun n hn => frL_wf hn (wf_getD hA) (wf_getD hD) (wf_getD hE) (wf_getD hI))
  clear hx hA hD hE hI
  obtain ⟨m3, hm3⟩ := max4_run (A.length : Int) (D.length : Int) (E.length : Int) (I.length : Int)
  by_cases hg : 20 < m3
  · clear HWF
    go_enter Try.func14, Try.ntmps14
    go_wp2_with ((go_at_call 31; refine (awake31_any _).mono ?_; rintro e hb1w ⟨rfl, hb1⟩; obtain ⟨hb1c, hb1f⟩ := bcell hb1; have hb1s := hb1.size; (try simp only [World.size_alloc] at hb1s); (try (have : w.heap.size < hb1w.heap.size := by omega)); (try (have : w.heap.size + 1 < hb1w.heap.size := by omega)); (try (have : w.heap.size + 1 + 1 < hb1w.heap.size := by omega)); (try (have : w.heap.size + 1 + 1 + 1 < hb1w.heap.size := by omega)); (try (have : bX < hb1w.heap.size := by omega)); (try (have : bY < hb1w.heap.size := by omega)); (try (have : bZ < hb1w.heap.size := by omega))))
    go_ret
    exact ⟨rfl, by (repeat' (first | (with_reducible exact Below.refl _ _) | (with_reducible assumption) | (with_reducible refine below_alloc ?_ _) | (with_reducible refine Below.drew ?_) | (with_reducible refine below_drewN ?_ _) | (with_reducible refine below_step (by assumption) ?_) | (with_reducible refine below_later ?_ _) | (with_reducible refine Below.setCell ?_ ?_ _) | go_size))⟩
  · cases hr : frsB xs f A D E I with
    | false =>
      have HB1 := Lib.hid (fun w hx hA hD hE hI => sFires_bad r rA rD rE rI cap cA cD cE cI xs A D E I f w hx hA hD hE hI hr)
      have HB2 := Lib.hid (fun w hx hA hD hE hI => rFires_bad r rA rD rE rI cap cA cD cE cI xs A D E I f w hx hA hD hE hI hr)
      clear HWF
      go_enter Try.func14, Try.ntmps14
      go_wp2_with (first | (go_at_call 31; refine (awake31_any _).mono ?_; rintro e hb1w ⟨rfl, hb1⟩; obtain ⟨hb1c, hb1f⟩ := bcell hb1; have hb1s := hb1.size; (try simp only [World.size_alloc] at hb1s); (try (have : w.heap.size < hb1w.heap.size := by omega)); (try (have : w.heap.size + 1 < hb1w.heap.size := by omega)); (try (have : w.heap.size + 1 + 1 < hb1w.heap.size := by omega)); (try (have : w.heap.size + 1 + 1 + 1 < hb1w.heap.size := by omega)); (try (have : bX < hb1w.heap.size := by omega)); (try (have : bY < hb1w.heap.size := by omega)); (try (have : bZ < hb1w.heap.size := by omega))) | (go_at_call 52; refine (HB1.out _ (HX.out _ (by (repeat' (first | (with_reducible exact Below.refl _ _) | (with_reducible assumption) | (with_reducible refine below_alloc ?_ _) | (with_reducible refine Below.drew ?_) | (with_reducible refine below_drewN ?_ _) | (with_reducible refine below_step (by assumption) ?_) | (with_reducible refine below_later ?_ _) | (with_reducible refine Below.setCell ?_ ?_ _) | go_size)))) (HA.out _ (by (repeat' (first | (with_reducible exact Below.refl _ _) | (with_reducible assumption) | (with_reducible refine below_alloc ?_ _) | (with_reducible refine Below.drew ?_) | (with_reducible refine below_drewN ?_ _) | (with_reducible refine below_step (by assumption) ?_) | (with_reducible refine below_later ?_ _) | (with_reducible refine Below.setCell ?_ ?_ _) | go_size)))) (HD.out _ (by (repeat' (first | (with_reducible exact Below.refl _ _) | (with_reducible assumption) | (with_reducible refine below_alloc ?_ _) | (with_reducible refine Below.drew ?_) | (with_reducible refine below_drewN ?_ _) | (with_reducible refine below_step (by assumption) ?_) | (with_reducible refine below_later ?_ _) | (with_reducible refine Below.setCell ?_ ?_ _) | go_size)))) (HE.out _ (by (repeat' (first | (with_reducible exact Below.refl _ _) | (with_reducible assumption) | (with_reducible refine below_alloc ?_ _) | (with_reducible refine Below.drew ?_) | (with_reducible refine below_drewN ?_ _) | (with_reducible refine below_step (by assumption) ?_) | (with_reducible refine below_later ?_ _) | (with_reducible refine Below.setCell ?_ ?_ _) | go_size)))) (HI.out _ (by (repeat' (first | (with_reducible exact Below.refl _ _) | (with_reducible assumption) | (with_reducible refine below_alloc ?_ _) | (with_reducible refine Below.drew ?_) | (with_reducible refine below_drewN ?_ _) | (with_reducible refine below_step (by assumption) ?_) | (with_reducible refine below_later ?_ _) | (with_reducible refine Below.setCell ?_ ?_ _) | go_size))))).mono ?_; rintro e hb2w ⟨rfl, hb2⟩; obtain ⟨hb2c, hb2f⟩ := bcell hb2; have hb2s := hb2.size; (try simp only [World.size_alloc] at hb2s); (try (have : w.heap.size < hb2w.heap.size := by omega)); (try (have : w.heap.size + 1 < hb2w.heap.size := by omega)); (try (have : w.heap.size + 1 + 1 < hb2w.heap.size := by omega)); (try (have : w.heap.size + 1 + 1 + 1 < hb2w.heap.size := by omega)); (try (have : bX < hb2w.heap.size := by omega)); (try (have : bY < hb2w.heap.size := by omega)); (try (have : bZ < hb2w.heap.size := by omega))) | (go_at_call 54; refine (HB2.out _ (HX.out _ (by (repeat' (first | (with_reducible exact Below.refl _ _) | (with_reducible assumption) | (with_reducible refine below_alloc ?_ _) | (with_reducible refine Below.drew ?_) | (with_reducible refine below_drewN ?_ _) | (with_reducible refine below_step (by assumption) ?_) | (with_reducible refine below_later ?_ _) | (with_reducible refine Below.setCell ?_ ?_ _) | go_size)))) (HA.out _ (by (repeat' (first | (with_reducible exact Below.refl _ _) | (with_reducible assumption) | (with_reducible refine below_alloc ?_ _) | (with_reducible refine Below.drew ?_) | (with_reducible refine below_drewN ?_ _) | (with_reducible refine below_step (by assumption) ?_) | (with_reducible refine below_later ?_ _) | (with_reducible refine Below.setCell ?_ ?_ _) | go_size)))) (HD.out _ (by (repeat' (first | (with_reducible exact Below.refl _ _) | (with_reducible assumption) | (with_reducible refine below_alloc ?_ _) | (with_reducible refine Below.drew ?_) | (with_reducible refine below_drewN ?_ _) | (with_reducible refine below_step (by assumption) ?_) | (with_reducible refine below_later ?_ _) | (with_reducible refine Below.setCell ?_ ?_ _) | go_size)))) (HE.out _ (by (repeat' (first | (with_reducible exact Below.refl _ _) | (with_reducible assumption) | (with_reducible refine below_alloc ?_ _) | (with_reducible refine Below.drew ?_) | (with_reducible refine below_drewN ?_ _) | (with_reducible refine below_step (by assumption) ?_) | (with_reducible refine below_later ?_ _) | (with_reducible refine Below.setCell ?_ ?_ _) | go_size)))) (HI.out _ (by (repeat' (first | (with_reducible exact Below.refl _ _) | (with_reducible assumption) | (with_reducible refine below_alloc ?_ _) | (with_reducible refine Below.drew ?_) | (with_reducible refine below_drewN ?_ _) | (with_reducible refine below_step (by assumption) ?_) | (with_reducible refine below_later ?_ _) | (with_reducible refine Below.setCell ?_ ?_ _) | go_size))))).mono ?_; rintro e hb3w ⟨rfl, hb3⟩; obtain ⟨hb3c, hb3f⟩ := bcell hb3; have hb3s := hb3.size; (try simp only [World.size_alloc] at hb3s); (try (have : w.heap.size < hb3w.heap.size := by omega)); (try (have : w.heap.size + 1 < hb3w.heap.size := by omega)); (try (have : w.heap.size + 1 + 1 < hb3w.heap.size := by omega)); (try (have : w.heap.size + 1 + 1 + 1 < hb3w.heap.size := by omega)); (try (have : bX < hb3w.heap.size := by omega)); (try (have : bY < hb3w.heap.size := by omega)); (try (have : bZ < hb3w.heap.size := by omega))))
      go_ret
      exact ⟨rfl, by (repeat' (first | (with_reducible exact Below.refl _ _) | (with_reducible assumption) | (with_reducible refine below_alloc ?_ _) | (with_reducible refine Below.drew ?_) | (with_reducible refine below_drewN ?_ _) | (with_reducible refine below_step (by assumption) ?_) | (with_reducible refine below_later ?_ _) | (with_reducible refine Below.setCell ?_ ?_ _) | go_size))⟩
    | true =>
      have hok := frsB_true.1 hr
      have HB1 := Lib.hid (fun w hx hA hD hE hI => sFires_good r rA rD rE rI cap cA cD cE cI xs A D E I f w hx hA hD hE hI hr)
      have HB2 := Lib.hid (fun w hx hA hD hE hI => rFires_good r rA rD rE rI cap cA cD cE cI xs A D E I f w hx hA hD hE hI hr)
      have HWF2 := Lib.hid (HWF.out xs.length hok.eng.hi)
      have HLN := Lib.hid (frL_len A D E I xs.length)
      have HNE : Hid (frL A D E I xs.length ≠ []) := Lib.hid (fun e => by have h1 := frL_len A D E I xs.length; have h2 := hok.eng.lo; rw [e, List.length_nil] at h1; omega)
      clear HWF hok
      generalize frL A D E I xs.length = rows at *
      go_enter Try.func14, Try.ntmps14
      go_wp2_with (first | (go_at_call 31; refine (awake31_any _).mono ?_; rintro e hb1w ⟨rfl, hb1⟩; obtain ⟨hb1c, hb1f⟩ := bcell hb1; have hb1s := hb1.size; (try simp only [World.size_alloc] at hb1s); (try (have : w.heap.size < hb1w.heap.size := by omega)); (try (have : w.heap.size + 1 < hb1w.heap.size := by omega)); (try (have : w.heap.size + 1 + 1 < hb1w.heap.size := by omega)); (try (have : w.heap.size + 1 + 1 + 1 < hb1w.heap.size := by omega)); (try (have : bX < hb1w.heap.size := by omega)); (try (have : bY < hb1w.heap.size := by omega)); (try (have : bZ < hb1w.heap.size := by omega))) | (go_at_call 52; refine (HB1.out _ (HX.out _ (by (repeat' (first | (with_reducible exact Below.refl _ _) | (with_reducible assumption) | (with_reducible refine below_alloc ?_ _) | (with_reducible refine Below.drew ?_) | (with_reducible refine below_drewN ?_ _) | (with_reducible refine below_step (by assumption) ?_) | (with_reducible refine below_later ?_ _) | (with_reducible refine Below.setCell ?_ ?_ _) | go_size)))) (HA.out _ (by (repeat' (first | (with_reducible exact Below.refl _ _) | (with_reducible assumption) | (with_reducible refine below_alloc ?_ _) | (with_reducible refine Below.drew ?_) | (with_reducible refine below_drewN ?_ _) | (with_reducible refine below_step (by assumption) ?_) | (with_reducible refine below_later ?_ _) | (with_reducible refine Below.setCell ?_ ?_ _) | go_size)))) (HD.out _ (by (repeat' (first | (with_reducible exact Below.refl _ _) | (with_reducible assumption) | (with_reducible refine below_alloc ?_ _) | (with_reducible refine Below.drew ?_) | (with_reducible refine below_drewN ?_ _) | (with_reducible refine below_step (by assumption) ?_) | (with_reducible refine below_later ?_ _) | (with_reducible refine Below.setCell ?_ ?_ _) | go_size)))) (HE.out _ (by (repeat' (first | (with_reducible exact Below.refl _ _) | (with_reducible assumption) | (with_reducible refine below_alloc ?_ _) | (with_reducible refine Below.drew ?_) | (with_reducible refine below_drewN ?_ _) | (with_reducible refine below_step (by assumption) ?_) | (with_reducible refine below_later ?_ _) | (with_reducible refine Below.setCell ?_ ?_ _) | go_size)))) (HI.out _ (by (repeat' (first | (with_reducible exact Below.refl _ _) | (with_reducible assumption) | (with_reducible refine below_alloc ?_ _) | (with_reducible refine Below.drew ?_) | (with_reducible refine below_drewN ?_ _) | (with_reducible refine below_step (by assumption) ?_) | (with_reducible refine below_later ?_ _) | (with_reducible refine Below.setCell ?_ ?_ _) | go_size))))).mono ?_; rintro e hb2w ⟨r2, k2, rfl, ho2, hb2⟩; have HO2 := Lib.hid ho2; clear ho2; obtain ⟨hb2c, hb2f⟩ := bcell hb2; have hb2s := hb2.size; (have q2 : w.heap.size < hb2w.heap.size := by (simp only [World.size_alloc] at *; omega))) | (go_at_call 54; refine (HB2.out _ (HX.out _ (by (repeat' (first | (with_reducible exact Below.refl _ _) | (with_reducible assumption) | (with_reducible refine below_alloc ?_ _) | (with_reducible refine Below.drew ?_) | (with_reducible refine below_drewN ?_ _) | (with_reducible refine below_step (by assumption) ?_) | (with_reducible refine below_later ?_ _) | (with_reducible refine Below.setCell ?_ ?_ _) | go_size)))) (HA.out _ (by (repeat' (first | (with_reducible exact Below.refl _ _) | (with_reducible assumption) | (with_reducible refine below_alloc ?_ _) | (with_reducible refine Below.drew ?_) | (with_reducible refine below_drewN ?_ _) | (with_reducible refine below_step (by assumption) ?_) | (with_reducible refine below_later ?_ _) | (with_reducible refine Below.setCell ?_ ?_ _) | go_size)))) (HD.out _ (by (repeat' (first | (with_reducible exact Below.refl _ _) | (with_reducible assumption) | (with_reducible refine below_alloc ?_ _) | (with_reducible refine Below.drew ?_) | (with_reducible refine below_drewN ?_ _) | (with_reducible refine below_step (by assumption) ?_) | (with_reducible refine below_later ?_ _) | (with_reducible refine Below.setCell ?_ ?_ _) | go_size)))) (HE.out _ (by (repeat' (first | (with_reducible exact Below.refl _ _) | (with_reducible assumption) | (with_reducible refine below_alloc ?_ _) | (with_reducible refine Below.drew ?_) | (with_reducible refine below_drewN ?_ _) | (with_reducible refine below_step (by assumption) ?_) | (with_reducible refine below_later ?_ _) | (with_reducible refine Below.setCell ?_ ?_ _) | go_size)))) (HI.out _ (by (repeat' (first | (with_reducible exact Below.refl _ _) | (with_reducible assumption) | (with_reducible refine below_alloc ?_ _) | (with_reducible refine Below.drew ?_) | (with_reducible refine below_drewN ?_ _) | (with_reducible refine below_step (by assumption) ?_) | (with_reducible refine below_later ?_ _) | (with_reducible refine Below.setCell ?_ ?_ _) | go_size))))).mono ?_; rintro e hb3w ⟨r3, k3, rfl, ho3, hb3⟩; have HO3 := Lib.hid ho3; clear ho3; obtain ⟨hb3c, hb3f⟩ := bcell hb3; have hb3s := hb3.size) | (go_at_call 55; refine (equalF_any r2 r3 k2 k3 xs.length rows _ HLN.out HNE.out HWF2.out (HO2.out.below (show Below hb2w.heap.size hb2w hb3w by (repeat' (first | (with_reducible exact Below.refl _ _) | (with_reducible assumption) | (with_reducible refine below_alloc ?_ _) | (with_reducible refine Below.drew ?_) | (with_reducible refine below_drewN ?_ _) | (with_reducible refine below_step (by assumption) ?_) | (with_reducible refine below_later ?_ _) | (with_reducible refine Below.setCell ?_ ?_ _) | go_size))) (Nat.le_refl _)) HO3.out).mono ?_; rintro e hb4w ⟨rfl, hb4⟩; obtain ⟨hb4c, hb4f⟩ := bcell hb4; have hb4s := hb4.size; (try simp only [World.size_alloc] at hb4s); (try (have : w.heap.size < hb4w.heap.size := by omega)); (try (have : w.heap.size + 1 < hb4w.heap.size := by omega)); (try (have : w.heap.size + 1 + 1 < hb4w.heap.size := by omega)); (try (have : w.heap.size + 1 + 1 + 1 < hb4w.heap.size := by omega)); (try (have : bX < hb4w.heap.size := by omega)); (try (have : bY < hb4w.heap.size := by omega)); (try (have : bZ < hb4w.heap.size := by omega))))
      go_ret
      exact ⟨rfl, by (repeat' (first | (with_reducible exact Below.refl _ _) | (with_reducible assumption) | (with_reducible refine below_alloc ?_ _) | (with_reducible refine Below.drew ?_) | (with_reducible refine below_drewN ?_ _) | (with_reducible refine below_step (by assumption) ?_) | (with_reducible refine below_later ?_ _) | (with_reducible refine Below.setCell ?_ ?_ _) | go_size))⟩

set_option maxRecDepth 100000 in
theorem sfires_holds : Rows.SparkFiresSaid :=
  OpenClaim.holds_of_wide 14 Try.f14 rfl rfl rfl rfl rfl rfl rfl ⟨rfl, rfl, rfl, rfl, rfl⟩ rfl rfl rfl rfl rfl (by kernel_rfl) Try.func14 (by kernel_rfl)
    (of_decide_eq_true (by kernel_rfl)) (by unfold Func.isWrapper; first | (rw [if_pos (by decide +kernel)]; kernel_rfl) | (rw [if_neg (by decide +kernel)]; exact ⟨rfl, rfl⟩))
    (fun os started H enc _ => by
      refine law_frame started (s := Rows.sparkFiresSpec) (conds := Rows.sparkFiresRow.domain) Try.func14 (by kernel_rfl) rfl 4 rfl Try.underlying4 (by decide +kernel) (fun ds h => ?_)
        (ChangeSpec.witness6 (enc := enc) (C := Try.checked) false ⟨#[], #[.agg #[.slice none 0 0, .int .i64 0], .slice none 0 0, .slice none 0 0, .slice none 0 0, .slice none 0 0], []⟩ 12 (by kernel_rfl) (by kernel_rfl) (by kernel_rfl) (by kernel_rfl)) ?_
      · match ds, h with
        | [_, _, _, _, _], _ => rfl
      · intro W base args ds p hval hA _
        rw [Try.params14] at hA hval
        obtain ⟨v0, vs0, d0, ds0, p0, q0, hargs, rfl, rfl, h0, r0⟩ := trodAll_cons hA
        obtain ⟨v1, vs1, d1, ds1, p1, q1, rfl, rfl, rfl, h1, r1⟩ := trodAll_cons r0
        obtain ⟨v2, vs2, d2, ds2, p2, q2, rfl, rfl, rfl, h2, r2⟩ := trodAll_cons r1
        obtain ⟨v3, vs3, d3, ds3, p3, q3, rfl, rfl, rfl, h3, r3⟩ := trodAll_cons r2
        obtain ⟨v4, vs4, d4, ds4, p4, q4, rfl, rfl, rfl, h4, r4⟩ := trodAll_cons r3
        obtain ⟨rfl, rfl, rfl⟩ := trodAll_nil r4
        obtain rfl : args = #[v0, v1, v2, v3, v4] := by cases args; simp_all
        obtain ⟨cs0, rfl, k0⟩ := arg_agg Try.underlying71 (hval 0 _ v0 rfl rfl) h0
        obtain ⟨r0_0, c0_0, a0_0, a1_0, rfl, g0_0, g1_0⟩ := open_Engine k0
        obtain ⟨r1, c1, b1, e1, w1⟩ := rd_ints Try.underlying22 Try.underlying3 (by kernel_rfl) (arg_slice Try.underlying22 (hval 1 _ v1 rfl rfl) h1)
        simp only [List.cons.injEq, and_true] at e1
        subst e1
        obtain ⟨r2, c2, b2, e2, w2⟩ := rd_ints Try.underlying22 Try.underlying3 (by kernel_rfl) (arg_slice Try.underlying22 (hval 2 _ v2 rfl rfl) h2)
        simp only [List.cons.injEq, and_true] at e2
        subst e2
        obtain ⟨r3, c3, b3, e3, w3⟩ := rd_ints Try.underlying22 Try.underlying3 (by kernel_rfl) (arg_slice Try.underlying22 (hval 3 _ v3 rfl rfl) h3)
        simp only [List.cons.injEq, and_true] at e3
        subst e3
        obtain ⟨r4, c4, b4, e4, w4⟩ := rd_ints Try.underlying22 Try.underlying3 (by kernel_rfl) (arg_slice Try.underlying22 (hval 4 _ v4 rfl rfl) h4)
        simp only [List.cons.injEq, and_true] at e4
        subst e4
        apply sfires_walk <;> (first | assumption | rfl))
#print axioms sfires_holds

end Go.Proofs.Ytohdbneaganfbaa
