/- The law SensorSteps returns true for every sensor, reading and number. No conditions. Printed by a program. -/
import Derived.Test.YthghalhbgppdhaaSensorC
import Derived.Test.YthghalhbgppdhaaSensorE
import Derived.Test.YthghalhbgppdhaaCurveB
namespace Go.Proofs.Ythghalhbgppdhaa
set_option linter.unusedVariables false
set_option linter.unusedSimpArgs false
open Go.RowKit Go.ChangeShapes Go.WideShapes Go.ChangeAt

theorem wf_small {a : Int} (h1 : -4611686018427387904 ≤ a) (h2 : a ≤ 4611686018427387904) : (Lit.int .i64 a).wf = true := WalkArith.wf_i64 (by omega)
theorem stepV_wf {xs ys : List Int} {lo hi v b n hold : Int} {g : Bool} (hv : I64 v) {p1 p3 p4 : Int} {p2 : Bool} (h : stepV xs ys lo hi v g b n hold = (p1, p2, p3, p4)) : (Lit.int .i64 p1).wf = true ∧ (Lit.int .i64 p3).wf = true := by
  unfold stepV at h
  split at h
  · rename_i h0
    have hb : -1073741824 ≤ v ∧ v ≤ 1073741824 ∧ 0 ≤ b ∧ b ≤ 1001 := by simpa [readB] using h0.2
    have hC := (sensorB_true.1 h0.1).1
    split at h
    · split at h
      · simp only [Prod.mk.injEq] at h
        have := cval_bd hC (lo := -1073741824) (hi := 1073741824) (fun t ht => far_bd hC.2.2 ht) (mvI n)
        exact ⟨wf_small (by omega) (by omega), wf_small (by omega) (by omega)⟩
      · split at h
        · simp only [Prod.mk.injEq] at h
          exact ⟨wf_small (by omega) (by omega), wf_small (by omega) (by omega)⟩
        · simp only [Prod.mk.injEq] at h
          exact ⟨wf_small (by omega) (by omega), wf_small (by omega) (by omega)⟩
    · simp only [Prod.mk.injEq] at h
      exact ⟨wf_small (by omega) (by omega), wf_small (by omega) (by omega)⟩
  · simp only [Prod.mk.injEq] at h
    exact ⟨wf_small (by omega) (by omega), wf_small (by omega) (by omega)⟩

set_option maxRecDepth 100000 in
theorem steps_walk (rx ry : Option Addr) (cx cy : Nat) (xs ys : List Int) (lo hi : Int) (v b n hold : Int) (g : Bool) (w : World) (hx : IsInts w rx cx .i64 xs) (hy : IsInts w ry cy .i64 ys) (hv : I64 v) :
    Calls Try.prog 7 #[.agg #[.slice rx xs.length cx, .slice ry ys.length cy, .int .i64 lo, .int .i64 hi], .agg #[.int .i64 v, .bool g, .int .i64 b], .int .i64 n, .int .i64 hold] w fun e w' => e = .returned (.bool true) ∧ Below w.heap.size w w' := by
  have HX : Hid (∀ w', Below w.heap.size w w' → IsInts w' rx cx .i64 xs) := Lib.hid (fun _ h => hx.later h)
  have HY : Hid (∀ w', Below w.heap.size w w' → IsInts w' ry cy .i64 ys) := Lib.hid (fun _ h => hy.later h)
  clear hx hy
  cases hf : decide (xs.length ≤ 40 ∧ ys.length ≤ 40) with
  | false =>
    go_enter Try.func7, Try.ntmps7
    go_wp2_with (first | (go_at_call 11; refine (awake_any _).mono ?_; rintro e w' ⟨rfl, rfl⟩) | (go_at_call 16; refine (few_any _ _ _ _ _ _ _ _ _).mono ?_; rintro e hb2w ⟨rfl, hb2⟩; obtain ⟨hb2c, hb2f⟩ := bcell hb2; have hb2s := hb2.size; (try simp only [World.size_alloc] at hb2s); (try (have : w.heap.size < hb2w.heap.size := by omega)); (try (have : w.heap.size + 1 < hb2w.heap.size := by omega)); (try (have : w.heap.size + 1 + 1 < hb2w.heap.size := by omega)); (try (have : w.heap.size + 1 + 1 + 1 < hb2w.heap.size := by omega)); (try (have : bX < hb2w.heap.size := by omega)); (try (have : bY < hb2w.heap.size := by omega)); (try (have : bZ < hb2w.heap.size := by omega))))
    go_ret
    exact ⟨rfl, by (repeat' (first | (with_reducible exact Below.refl _ _) | (with_reducible assumption) | (with_reducible refine below_alloc ?_ _) | (with_reducible refine Below.drew ?_) | (with_reducible refine below_drewN ?_ _) | (with_reducible refine below_step (by assumption) ?_) | (with_reducible refine below_later ?_ _) | (with_reducible refine Below.setCell ?_ ?_ _) | go_size))⟩
  | true =>
    obtain ⟨p1, p2, p3, p4, hp⟩ : ∃ p1 p2 p3 p4, stepV xs ys lo hi v g b n hold = (p1, p2, p3, p4) := ⟨_, _, _, _, rfl⟩
    have ⟨w1, w2⟩ := stepV_wf hv hp
    have he := fun w => eql_reading p1 p3 p2 w1 w2 w
    clear w1 w2 hv
    go_enter Try.func7, Try.ntmps7
    go_wp2_with (first | (go_at_call 11; refine (awake_any _).mono ?_; rintro e w' ⟨rfl, rfl⟩) | (go_at_call 16; refine (few_any _ _ _ _ _ _ _ _ _).mono ?_; rintro e hb2w ⟨rfl, hb2⟩; obtain ⟨hb2c, hb2f⟩ := bcell hb2; have hb2s := hb2.size; (try simp only [World.size_alloc] at hb2s); (try (have : w.heap.size < hb2w.heap.size := by omega)); (try (have : w.heap.size + 1 < hb2w.heap.size := by omega)); (try (have : w.heap.size + 1 + 1 < hb2w.heap.size := by omega)); (try (have : w.heap.size + 1 + 1 + 1 < hb2w.heap.size := by omega)); (try (have : bX < hb2w.heap.size := by omega)); (try (have : bY < hb2w.heap.size := by omega)); (try (have : bZ < hb2w.heap.size := by omega))) | ((go_at_call 24; refine (rstep_any _ _ _ _ _ _ _ _ _ _ _ _ _ _ (HX.out _ (by (repeat' (first | (with_reducible exact Below.refl _ _) | (with_reducible assumption) | (with_reducible refine below_alloc ?_ _) | (with_reducible refine Below.drew ?_) | (with_reducible refine below_drewN ?_ _) | (with_reducible refine below_step (by assumption) ?_) | (with_reducible refine below_later ?_ _) | (with_reducible refine Below.setCell ?_ ?_ _) | go_size)))) (HY.out _ (by (repeat' (first | (with_reducible exact Below.refl _ _) | (with_reducible assumption) | (with_reducible refine below_alloc ?_ _) | (with_reducible refine Below.drew ?_) | (with_reducible refine below_drewN ?_ _) | (with_reducible refine below_step (by assumption) ?_) | (with_reducible refine below_later ?_ _) | (with_reducible refine Below.setCell ?_ ?_ _) | go_size))))).mono ?_; rintro e hb4w ⟨rfl, hb4⟩; obtain ⟨hb4c, hb4f⟩ := bcell hb4; have hb4s := hb4.size; (try simp only [World.size_alloc] at hb4s); (try (have : w.heap.size < hb4w.heap.size := by omega)); (try (have : w.heap.size + 1 < hb4w.heap.size := by omega)); (try (have : w.heap.size + 1 + 1 < hb4w.heap.size := by omega)); (try (have : w.heap.size + 1 + 1 + 1 < hb4w.heap.size := by omega)); (try (have : bX < hb4w.heap.size := by omega)); (try (have : bY < hb4w.heap.size := by omega)); (try (have : bZ < hb4w.heap.size := by omega))); (have : hb3w.heap.size < hb4w.heap.size := by omega)) | (go_at_call 23; refine (step_any _ _ _ _ _ _ _ _ _ _ _ _ _ _ (HX.out _ (by (repeat' (first | (with_reducible exact Below.refl _ _) | (with_reducible assumption) | (with_reducible refine below_alloc ?_ _) | (with_reducible refine Below.drew ?_) | (with_reducible refine below_drewN ?_ _) | (with_reducible refine below_step (by assumption) ?_) | (with_reducible refine below_later ?_ _) | (with_reducible refine Below.setCell ?_ ?_ _) | go_size)))) (HY.out _ (by (repeat' (first | (with_reducible exact Below.refl _ _) | (with_reducible assumption) | (with_reducible refine below_alloc ?_ _) | (with_reducible refine Below.drew ?_) | (with_reducible refine below_drewN ?_ _) | (with_reducible refine below_step (by assumption) ?_) | (with_reducible refine below_later ?_ _) | (with_reducible refine Below.setCell ?_ ?_ _) | go_size))))).mono ?_; rintro e hb3w ⟨rfl, hb3⟩; obtain ⟨hb3c, hb3f⟩ := bcell hb3; have hb3s := hb3.size; (try simp only [World.size_alloc] at hb3s); (try (have : w.heap.size < hb3w.heap.size := by omega)); (try (have : w.heap.size + 1 < hb3w.heap.size := by omega)); (try (have : w.heap.size + 1 + 1 < hb3w.heap.size := by omega)); (try (have : w.heap.size + 1 + 1 + 1 < hb3w.heap.size := by omega)); (try (have : bX < hb3w.heap.size := by omega)); (try (have : bY < hb3w.heap.size := by omega)); (try (have : bZ < hb3w.heap.size := by omega))))
    all_goals go_ret
    all_goals exact ⟨by simp, by (repeat' (first | (with_reducible exact Below.refl _ _) | (with_reducible assumption) | (with_reducible refine below_alloc ?_ _) | (with_reducible refine Below.drew ?_) | (with_reducible refine below_drewN ?_ _) | (with_reducible refine below_step (by assumption) ?_) | (with_reducible refine below_later ?_ _) | (with_reducible refine Below.setCell ?_ ?_ _) | go_size))⟩

set_option maxRecDepth 100000 in
theorem steps_holds : Rows.SensorStepsSaid :=
  OpenClaim.holds_of_wide 7 Try.f7 rfl rfl rfl rfl rfl rfl rfl ⟨rfl, rfl, rfl, rfl, rfl⟩ rfl rfl rfl rfl rfl (by kernel_rfl) Try.func7 (by kernel_rfl)
    (of_decide_eq_true (by kernel_rfl)) (by unfold Func.isWrapper; first | (rw [if_pos (by decide +kernel)]; kernel_rfl) | (rw [if_neg (by decide +kernel)]; exact ⟨rfl, rfl⟩))
    (fun os started H enc _ => by
      refine law_frame started (s := Rows.sensorStepsSpec) (conds := Rows.sensorStepsRow.domain) Try.func7 (by kernel_rfl) rfl 4 rfl Try.underlying4 (by decide +kernel) (fun ds h => ?_)
        (ChangeSpec.witness6 (enc := enc) (C := Try.checked) false ⟨#[], #[.agg #[.slice none 0 0, .slice none 0 0, .int .i64 0, .int .i64 0], .agg #[.int .i64 0, .bool false, .int .i64 0], .int .i64 0, .int .i64 0], []⟩ 12 (by kernel_rfl) (by kernel_rfl) (by kernel_rfl) (by kernel_rfl)) ?_
      · match ds, h with
        | [_, _, _, _], _ => rfl
      · intro W base args ds p hval hA _
        rw [Try.params7] at hA hval
        obtain ⟨v0, vs0, d0, ds0, p0, q0, hargs, rfl, rfl, h0, r0⟩ := trodAll_cons hA
        obtain ⟨v1, vs1, d1, ds1, p1, q1, rfl, rfl, rfl, h1, r1⟩ := trodAll_cons r0
        obtain ⟨v2, vs2, d2, ds2, p2, q2, rfl, rfl, rfl, h2, r2⟩ := trodAll_cons r1
        obtain ⟨v3, vs3, d3, ds3, p3, q3, rfl, rfl, rfl, h3, r3⟩ := trodAll_cons r2
        obtain ⟨rfl, rfl, rfl⟩ := trodAll_nil r3
        obtain rfl : args = #[v0, v1, v2, v3] := by cases args; simp_all
        obtain ⟨cs0, rfl, k0⟩ := arg_agg Try.underlying31 (hval 0 _ v0 rfl rfl) h0
        obtain ⟨r0_0, c0_0, a0_0, r1_0, c1_0, a1_0, a2_0, a3_0, rfl, g0_0, g1_0, g2_0, g3_0⟩ := open_Sensor k0
        obtain ⟨cs1, rfl, k1⟩ := arg_agg Try.underlying40 (hval 1 _ v1 rfl rfl) h1
        obtain ⟨a0_1, a1_1, a2_1, rfl, g0_1, g2_1⟩ := open_Reading k1
        obtain ⟨b2, rfl, rfl, rfl, w2⟩ := open_int Try.underlying3 (hval 2 _ v2 rfl rfl) h2
        obtain ⟨b3, rfl, rfl, rfl, w3⟩ := open_int Try.underlying3 (hval 3 _ v3 rfl rfl) h3
        apply steps_walk <;> (first | assumption | rfl))
#print axioms steps_holds

end Go.Proofs.Ythghalhbgppdhaa
