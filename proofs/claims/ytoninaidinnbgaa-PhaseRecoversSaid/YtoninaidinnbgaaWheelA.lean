/- Contracts of Valid, Space, Teeth and Angle of wheels, and of the reference's. -/
import Derived.Test.YtoninaidinnbgaaFrame
import Derived.Test.YtoninaidinnbgaaOpen
namespace Go.Proofs.Ytoninaidinnbgaa
set_option linter.unusedVariables false
set_option linter.unusedSimpArgs false
open Go.RowKit Go.ChangeShapes Go.WideShapes Go.ChangeAt

def wheelB (T M : Int) : Bool := decide ((M = 1 ∨ M = 2) ∧ 12 ≤ T ∧ T ≤ 120 ∧ 8 * M ≤ T ∧ 23040 % T = 0)
theorem wheelB_true {T M : Int} : wheelB T M = true ↔ (M = 1 ∨ M = 2) ∧ 12 ≤ T ∧ T ≤ 120 ∧ 8 * M ≤ T ∧ 23040 % T = 0 := by simp [wheelB]
@[irreducible] def spI (T : Int) : Int := 23040 / T
theorem spI_bd {T M : Int} (h : wheelB T M = true) : 192 ≤ spI T ∧ spI T ≤ 1920 ∧ T * spI T = 23040 := by
  obtain ⟨_, h1, h2, _, h3⟩ := wheelB_true.1 h
  have h4 : T * spI T = 23040 := by
    unfold spI
    have := Int.mul_ediv_add_emod 23040 T
    omega
  refine ⟨?_, ?_, h4⟩
  · unfold spI
    exact (Int.le_ediv_iff_mul_le (by omega)).2 (by omega)
  · unfold spI
    exact Int.lt_add_one_iff.1 ((Int.ediv_lt_iff_lt_mul (by omega)).2 (by omega))

theorem wvalid_any (T M : Int) (w : World) : Calls Try.prog 29 #[.agg #[.int .i64 T, .int .i64 M]] w fun e w' => e = .returned (.bool (wheelB T M)) ∧ Below w.heap.size w w' := by
  have HF : Hid (¬ ((M = 1 ∨ M = 2) ∧ 12 ≤ T ∧ T ≤ 120 ∧ 8 * M ≤ T ∧ 23040 % T = 0) → wheelB T M = false) := Lib.hid (fun h => by simp only [wheelB, h, decide_false])
  have HT : Hid (((M = 1 ∨ M = 2) ∧ 12 ≤ T ∧ T ≤ 120 ∧ 8 * M ≤ T) → wheelB T M = (23040 % T == 0)) := Lib.hid (fun h => by obtain ⟨a, b, c, d⟩ := h; simp only [wheelB, a, b, c, d, true_and]; exact Bool.eq_iff_iff.2 (by simp))
  by_cases h1 : 12 ≤ T ∧ T ≤ 120
  · obtain ⟨t1, t2⟩ := h1
    have t3 : ¬ T = 0 := by omega
    by_cases hM1 : M = 1
    · subst hM1
      have t4 : 8 ≤ T := by omega
      have H := Lib.hid (HT.out (by omega))
      go_enter Try.func29, Try.ntmps29
      go_wp2
      all_goals go_ret
      all_goals exact ⟨by rw [H.out]; simp [*], by (repeat' (first | (with_reducible exact Below.refl _ _) | (with_reducible assumption) | (with_reducible refine below_alloc ?_ _) | (with_reducible refine Below.drew ?_) | (with_reducible refine below_drewN ?_ _) | (with_reducible refine below_step (by assumption) ?_) | (with_reducible refine below_later ?_ _) | (with_reducible refine Below.setCell ?_ ?_ _) | go_size))⟩
    · by_cases hM2 : M = 2
      · subst hM2
        by_cases t4 : 16 ≤ T
        · have H := Lib.hid (HT.out (by omega))
          go_enter Try.func29, Try.ntmps29
          go_wp2
          all_goals go_ret
          all_goals exact ⟨by rw [H.out]; simp [*], by (repeat' (first | (with_reducible exact Below.refl _ _) | (with_reducible assumption) | (with_reducible refine below_alloc ?_ _) | (with_reducible refine Below.drew ?_) | (with_reducible refine below_drewN ?_ _) | (with_reducible refine below_step (by assumption) ?_) | (with_reducible refine below_later ?_ _) | (with_reducible refine Below.setCell ?_ ?_ _) | go_size))⟩
        · have H := Lib.hid (HF.out (by omega))
          have t5 : T < 16 := by omega
          go_enter Try.func29, Try.ntmps29
          go_wp2
          all_goals go_ret
          all_goals exact ⟨by rw [H.out]; simp [*], by (repeat' (first | (with_reducible exact Below.refl _ _) | (with_reducible assumption) | (with_reducible refine below_alloc ?_ _) | (with_reducible refine Below.drew ?_) | (with_reducible refine below_drewN ?_ _) | (with_reducible refine below_step (by assumption) ?_) | (with_reducible refine below_later ?_ _) | (with_reducible refine Below.setCell ?_ ?_ _) | go_size))⟩
      · have H := Lib.hid (HF.out (by omega))
        go_enter Try.func29, Try.ntmps29
        go_wp2
        all_goals go_ret
        all_goals exact ⟨by rw [H.out]; simp [*], by (repeat' (first | (with_reducible exact Below.refl _ _) | (with_reducible assumption) | (with_reducible refine below_alloc ?_ _) | (with_reducible refine Below.drew ?_) | (with_reducible refine below_drewN ?_ _) | (with_reducible refine below_step (by assumption) ?_) | (with_reducible refine below_later ?_ _) | (with_reducible refine Below.setCell ?_ ?_ _) | go_size))⟩
  · have H := Lib.hid (HF.out (by omega))
    by_cases hM : M = 1 ∨ M = 2
    · by_cases t1 : 12 ≤ T
      · have t2 : ¬ T ≤ 120 := by omega
        clear h1
        rcases hM with rfl | rfl
        all_goals
          go_enter Try.func29, Try.ntmps29
          go_wp2
          all_goals go_ret
          all_goals exact ⟨by rw [H.out]; simp [*], by (repeat' (first | (with_reducible exact Below.refl _ _) | (with_reducible assumption) | (with_reducible refine below_alloc ?_ _) | (with_reducible refine Below.drew ?_) | (with_reducible refine below_drewN ?_ _) | (with_reducible refine below_step (by assumption) ?_) | (with_reducible refine below_later ?_ _) | (with_reducible refine Below.setCell ?_ ?_ _) | go_size))⟩
      · have t2 : T < 12 := by omega
        clear h1
        rcases hM with rfl | rfl
        all_goals
          go_enter Try.func29, Try.ntmps29
          go_wp2
          all_goals go_ret
          all_goals exact ⟨by rw [H.out]; simp [*], by (repeat' (first | (with_reducible exact Below.refl _ _) | (with_reducible assumption) | (with_reducible refine below_alloc ?_ _) | (with_reducible refine Below.drew ?_) | (with_reducible refine below_drewN ?_ _) | (with_reducible refine below_step (by assumption) ?_) | (with_reducible refine below_later ?_ _) | (with_reducible refine Below.setCell ?_ ?_ _) | go_size))⟩
    · have m1 : ¬ M = 1 := fun h => hM (Or.inl h)
      have m2 : ¬ M = 2 := fun h => hM (Or.inr h)
      clear h1 hM
      go_enter Try.func29, Try.ntmps29
      go_wp2
      all_goals go_ret
      all_goals exact ⟨by rw [H.out]; simp [*], by (repeat' (first | (with_reducible exact Below.refl _ _) | (with_reducible assumption) | (with_reducible refine below_alloc ?_ _) | (with_reducible refine Below.drew ?_) | (with_reducible refine below_drewN ?_ _) | (with_reducible refine below_step (by assumption) ?_) | (with_reducible refine below_later ?_ _) | (with_reducible refine Below.setCell ?_ ?_ _) | go_size))⟩
def spB (T M : Int) : Int := if wheelB T M = true then spI T else 0
def teB (T M : Int) : Int := if wheelB T M = true then T - M else 0
theorem space_any (T M : Int) (w : World) : Calls Try.prog 37 #[.agg #[.int .i64 T, .int .i64 M]] w fun e w' => e = .returned (.int .i64 (spB T M)) ∧ Below w.heap.size w w' := by
  cases h : wheelB T M with
  | false =>
    have H := Lib.hid (show spB T M = 0 by simp [spB, h])
    go_enter Try.func37, Try.ntmps37
    go_wp2_with ((go_at_call 29; refine (wvalid_any _ _ _).mono ?_; rintro e hb1w ⟨rfl, hb1⟩; obtain ⟨hb1c, hb1f⟩ := bcell hb1; have hb1s := hb1.size; (try simp only [World.size_alloc] at hb1s); (try (have : w.heap.size < hb1w.heap.size := by omega)); (try (have : w.heap.size + 1 < hb1w.heap.size := by omega)); (try (have : w.heap.size + 1 + 1 < hb1w.heap.size := by omega)); (try (have : w.heap.size + 1 + 1 + 1 < hb1w.heap.size := by omega)); (try (have : bX < hb1w.heap.size := by omega)); (try (have : bY < hb1w.heap.size := by omega)); (try (have : bZ < hb1w.heap.size := by omega))))
    go_ret
    exact ⟨by rw [H.out]; first | done | rfl, by (repeat' (first | (with_reducible exact Below.refl _ _) | (with_reducible assumption) | (with_reducible refine below_alloc ?_ _) | (with_reducible refine Below.drew ?_) | (with_reducible refine below_drewN ?_ _) | (with_reducible refine below_step (by assumption) ?_) | (with_reducible refine below_later ?_ _) | (with_reducible refine Below.setCell ?_ ?_ _) | go_size))⟩
  | true =>
    have H := Lib.hid (show spB T M = 23040 / T by simp [spB, h, spI])
    obtain ⟨_, t1, t2, _⟩ := wheelB_true.1 h
    have t3 : ¬ T = 0 := by omega
    go_enter Try.func37, Try.ntmps37
    go_wp2_with ((go_at_call 29; refine (wvalid_any _ _ _).mono ?_; rintro e hb1w ⟨rfl, hb1⟩; obtain ⟨hb1c, hb1f⟩ := bcell hb1; have hb1s := hb1.size; (try simp only [World.size_alloc] at hb1s); (try (have : w.heap.size < hb1w.heap.size := by omega)); (try (have : w.heap.size + 1 < hb1w.heap.size := by omega)); (try (have : w.heap.size + 1 + 1 < hb1w.heap.size := by omega)); (try (have : w.heap.size + 1 + 1 + 1 < hb1w.heap.size := by omega)); (try (have : bX < hb1w.heap.size := by omega)); (try (have : bY < hb1w.heap.size := by omega)); (try (have : bZ < hb1w.heap.size := by omega))))
    go_ret
    exact ⟨by rw [H.out]; try rfl, by (repeat' (first | (with_reducible exact Below.refl _ _) | (with_reducible assumption) | (with_reducible refine below_alloc ?_ _) | (with_reducible refine Below.drew ?_) | (with_reducible refine below_drewN ?_ _) | (with_reducible refine below_step (by assumption) ?_) | (with_reducible refine below_later ?_ _) | (with_reducible refine Below.setCell ?_ ?_ _) | go_size))⟩
theorem teeth_any (T M : Int) (w : World) : Calls Try.prog 36 #[.agg #[.int .i64 T, .int .i64 M]] w fun e w' => e = .returned (.int .i64 (teB T M)) ∧ Below w.heap.size w w' := by
  cases h : wheelB T M with
  | false =>
    have H := Lib.hid (show teB T M = 0 by simp [teB, h])
    go_enter Try.func36, Try.ntmps36
    go_wp2_with ((go_at_call 29; refine (wvalid_any _ _ _).mono ?_; rintro e hb1w ⟨rfl, hb1⟩; obtain ⟨hb1c, hb1f⟩ := bcell hb1; have hb1s := hb1.size; (try simp only [World.size_alloc] at hb1s); (try (have : w.heap.size < hb1w.heap.size := by omega)); (try (have : w.heap.size + 1 < hb1w.heap.size := by omega)); (try (have : w.heap.size + 1 + 1 < hb1w.heap.size := by omega)); (try (have : w.heap.size + 1 + 1 + 1 < hb1w.heap.size := by omega)); (try (have : bX < hb1w.heap.size := by omega)); (try (have : bY < hb1w.heap.size := by omega)); (try (have : bZ < hb1w.heap.size := by omega))))
    go_ret
    exact ⟨by rw [H.out]; first | done | rfl, by (repeat' (first | (with_reducible exact Below.refl _ _) | (with_reducible assumption) | (with_reducible refine below_alloc ?_ _) | (with_reducible refine Below.drew ?_) | (with_reducible refine below_drewN ?_ _) | (with_reducible refine below_step (by assumption) ?_) | (with_reducible refine below_later ?_ _) | (with_reducible refine Below.setCell ?_ ?_ _) | go_size))⟩
  | true =>
    have H := Lib.hid (show teB T M = T - M by simp [teB, h])
    obtain ⟨t0, t1, t2, _⟩ := wheelB_true.1 h
    have m1 : 1 ≤ M := by omega
    have m2 : M ≤ 2 := by omega
    clear t0
    go_enter Try.func36, Try.ntmps36
    go_wp2_with ((go_at_call 29; refine (wvalid_any _ _ _).mono ?_; rintro e hb1w ⟨rfl, hb1⟩; obtain ⟨hb1c, hb1f⟩ := bcell hb1; have hb1s := hb1.size; (try simp only [World.size_alloc] at hb1s); (try (have : w.heap.size < hb1w.heap.size := by omega)); (try (have : w.heap.size + 1 < hb1w.heap.size := by omega)); (try (have : w.heap.size + 1 + 1 < hb1w.heap.size := by omega)); (try (have : w.heap.size + 1 + 1 + 1 < hb1w.heap.size := by omega)); (try (have : bX < hb1w.heap.size := by omega)); (try (have : bY < hb1w.heap.size := by omega)); (try (have : bZ < hb1w.heap.size := by omega))))
    go_ret
    exact ⟨by rw [H.out]; try rfl, by (repeat' (first | (with_reducible exact Below.refl _ _) | (with_reducible assumption) | (with_reducible refine below_alloc ?_ _) | (with_reducible refine Below.drew ?_) | (with_reducible refine below_drewN ?_ _) | (with_reducible refine below_step (by assumption) ?_) | (with_reducible refine below_later ?_ _) | (with_reducible refine Below.setCell ?_ ?_ _) | go_size))⟩
def angV (T M i : Int) : Int × Int := if wheelB T M = true then (if 0 ≤ i ∧ i < T - M then (i * spI T, 0) else (0, 2)) else (0, 1)
@[go_sem] def tup2 (p : Int × Int) : Value := .tuple #[.int .i64 p.1, .int .i64 p.2]
theorem angle_any (T M i : Int) (w : World) : Calls Try.prog 28 #[.agg #[.int .i64 T, .int .i64 M], .int .i64 i] w fun e w' => e = .returned (tup2 (angV T M i)) ∧ Below w.heap.size w w' := by
  have HSP := Lib.hid (fun w => space_any T M w)
  have HTE := Lib.hid (fun w => teeth_any T M w)
  cases h : wheelB T M with
  | false =>
    have H := Lib.hid (show angV T M i = (0, 1) by simp [angV, h])
    go_enter Try.func28, Try.ntmps28
    go_wp2_with ((go_at_call 29; refine (wvalid_any _ _ _).mono ?_; rintro e hb1w ⟨rfl, hb1⟩; obtain ⟨hb1c, hb1f⟩ := bcell hb1; have hb1s := hb1.size; (try simp only [World.size_alloc] at hb1s); (try (have : w.heap.size < hb1w.heap.size := by omega)); (try (have : w.heap.size + 1 < hb1w.heap.size := by omega)); (try (have : w.heap.size + 1 + 1 < hb1w.heap.size := by omega)); (try (have : w.heap.size + 1 + 1 + 1 < hb1w.heap.size := by omega)); (try (have : bX < hb1w.heap.size := by omega)); (try (have : bY < hb1w.heap.size := by omega)); (try (have : bZ < hb1w.heap.size := by omega))))
    go_ret2
    exact ⟨by rw [H.out]; rfl, by (repeat' (first | (with_reducible exact Below.refl _ _) | (with_reducible assumption) | (with_reducible refine below_alloc ?_ _) | (with_reducible refine Below.drew ?_) | (with_reducible refine below_drewN ?_ _) | (with_reducible refine below_step (by assumption) ?_) | (with_reducible refine below_later ?_ _) | (with_reducible refine Below.setCell ?_ ?_ _) | go_size))⟩
  | true =>
    have ⟨s1, s2, _⟩ := spI_bd h
    obtain ⟨t0, t1, t2, _⟩ := wheelB_true.1 h
    have e1 : spB T M = spI T := by simp [spB, h]
    have e2 : teB T M = T - M := by simp [teB, h]
    by_cases h0 : i < 0
    · have H := Lib.hid (show angV T M i = (0, 2) by simp only [angV, h, if_true]; rw [if_neg (by omega)])
      go_enter Try.func28, Try.ntmps28
      go_wp2_with (first | (go_at_call 29; refine (wvalid_any _ _ _).mono ?_; rintro e hb1w ⟨rfl, hb1⟩; obtain ⟨hb1c, hb1f⟩ := bcell hb1; have hb1s := hb1.size; (try simp only [World.size_alloc] at hb1s); (try (have : w.heap.size < hb1w.heap.size := by omega)); (try (have : w.heap.size + 1 < hb1w.heap.size := by omega)); (try (have : w.heap.size + 1 + 1 < hb1w.heap.size := by omega)); (try (have : w.heap.size + 1 + 1 + 1 < hb1w.heap.size := by omega)); (try (have : bX < hb1w.heap.size := by omega)); (try (have : bY < hb1w.heap.size := by omega)); (try (have : bZ < hb1w.heap.size := by omega))) | (go_at_call 36; refine (HTE.out _).mono ?_; rintro e hb2w ⟨rfl, hb2⟩; obtain ⟨hb2c, hb2f⟩ := bcell hb2; have hb2s := hb2.size; (try simp only [World.size_alloc] at hb2s); (try (have : w.heap.size < hb2w.heap.size := by omega)); (try (have : w.heap.size + 1 < hb2w.heap.size := by omega)); (try (have : w.heap.size + 1 + 1 < hb2w.heap.size := by omega)); (try (have : w.heap.size + 1 + 1 + 1 < hb2w.heap.size := by omega)); (try (have : bX < hb2w.heap.size := by omega)); (try (have : bY < hb2w.heap.size := by omega)); (try (have : bZ < hb2w.heap.size := by omega))) | (go_at_call 37; refine (HSP.out _).mono ?_; rintro e hb3w ⟨rfl, hb3⟩; obtain ⟨hb3c, hb3f⟩ := bcell hb3; have hb3s := hb3.size; (try simp only [World.size_alloc] at hb3s); (try (have : w.heap.size < hb3w.heap.size := by omega)); (try (have : w.heap.size + 1 < hb3w.heap.size := by omega)); (try (have : w.heap.size + 1 + 1 < hb3w.heap.size := by omega)); (try (have : w.heap.size + 1 + 1 + 1 < hb3w.heap.size := by omega)); (try (have : bX < hb3w.heap.size := by omega)); (try (have : bY < hb3w.heap.size := by omega)); (try (have : bZ < hb3w.heap.size := by omega))))
      go_ret2
      exact ⟨by rw [H.out]; rfl, by (repeat' (first | (with_reducible exact Below.refl _ _) | (with_reducible assumption) | (with_reducible refine below_alloc ?_ _) | (with_reducible refine Below.drew ?_) | (with_reducible refine below_drewN ?_ _) | (with_reducible refine below_step (by assumption) ?_) | (with_reducible refine below_later ?_ _) | (with_reducible refine Below.setCell ?_ ?_ _) | go_size))⟩
    · have i0 : 0 ≤ i := by omega
      by_cases hi : T - M ≤ i
      · have H := Lib.hid (show angV T M i = (0, 2) by simp only [angV, h, if_true]; rw [if_neg (by omega)])
        go_enter Try.func28, Try.ntmps28
        go_wp2_with (first | (go_at_call 29; refine (wvalid_any _ _ _).mono ?_; rintro e hb1w ⟨rfl, hb1⟩; obtain ⟨hb1c, hb1f⟩ := bcell hb1; have hb1s := hb1.size; (try simp only [World.size_alloc] at hb1s); (try (have : w.heap.size < hb1w.heap.size := by omega)); (try (have : w.heap.size + 1 < hb1w.heap.size := by omega)); (try (have : w.heap.size + 1 + 1 < hb1w.heap.size := by omega)); (try (have : w.heap.size + 1 + 1 + 1 < hb1w.heap.size := by omega)); (try (have : bX < hb1w.heap.size := by omega)); (try (have : bY < hb1w.heap.size := by omega)); (try (have : bZ < hb1w.heap.size := by omega))) | (go_at_call 36; refine (HTE.out _).mono ?_; rintro e hb2w ⟨rfl, hb2⟩; obtain ⟨hb2c, hb2f⟩ := bcell hb2; have hb2s := hb2.size; (try simp only [World.size_alloc] at hb2s); (try (have : w.heap.size < hb2w.heap.size := by omega)); (try (have : w.heap.size + 1 < hb2w.heap.size := by omega)); (try (have : w.heap.size + 1 + 1 < hb2w.heap.size := by omega)); (try (have : w.heap.size + 1 + 1 + 1 < hb2w.heap.size := by omega)); (try (have : bX < hb2w.heap.size := by omega)); (try (have : bY < hb2w.heap.size := by omega)); (try (have : bZ < hb2w.heap.size := by omega))) | (go_at_call 37; refine (HSP.out _).mono ?_; rintro e hb3w ⟨rfl, hb3⟩; obtain ⟨hb3c, hb3f⟩ := bcell hb3; have hb3s := hb3.size; (try simp only [World.size_alloc] at hb3s); (try (have : w.heap.size < hb3w.heap.size := by omega)); (try (have : w.heap.size + 1 < hb3w.heap.size := by omega)); (try (have : w.heap.size + 1 + 1 < hb3w.heap.size := by omega)); (try (have : w.heap.size + 1 + 1 + 1 < hb3w.heap.size := by omega)); (try (have : bX < hb3w.heap.size := by omega)); (try (have : bY < hb3w.heap.size := by omega)); (try (have : bZ < hb3w.heap.size := by omega))))
        go_ret2
        exact ⟨by rw [H.out]; rfl, by (repeat' (first | (with_reducible exact Below.refl _ _) | (with_reducible assumption) | (with_reducible refine below_alloc ?_ _) | (with_reducible refine Below.drew ?_) | (with_reducible refine below_drewN ?_ _) | (with_reducible refine below_step (by assumption) ?_) | (with_reducible refine below_later ?_ _) | (with_reducible refine Below.setCell ?_ ?_ _) | go_size))⟩
      · have H := Lib.hid (show angV T M i = (i * spI T, 0) by simp only [angV, h, if_true]; rw [if_pos ⟨i0, by omega⟩])
        have hm : 0 ≤ i * spI T ∧ i * spI T ≤ 120 * 1920 := ⟨Int.mul_nonneg i0 (by omega), Int.mul_le_mul (by omega) s2 (by omega) (by omega)⟩
        have hw1 : IntKind.i64.wrap (i * spI T) = i * spI T := IntWalk.i64_in _ (by omega)
        generalize spI T = s at *
        clear s1 s2 hm h0
        go_enter Try.func28, Try.ntmps28
        go_wp2_with (first | (go_at_call 29; refine (wvalid_any _ _ _).mono ?_; rintro e hb1w ⟨rfl, hb1⟩; obtain ⟨hb1c, hb1f⟩ := bcell hb1; have hb1s := hb1.size; (try simp only [World.size_alloc] at hb1s); (try (have : w.heap.size < hb1w.heap.size := by omega)); (try (have : w.heap.size + 1 < hb1w.heap.size := by omega)); (try (have : w.heap.size + 1 + 1 < hb1w.heap.size := by omega)); (try (have : w.heap.size + 1 + 1 + 1 < hb1w.heap.size := by omega)); (try (have : bX < hb1w.heap.size := by omega)); (try (have : bY < hb1w.heap.size := by omega)); (try (have : bZ < hb1w.heap.size := by omega))) | (go_at_call 36; refine (HTE.out _).mono ?_; rintro e hb2w ⟨rfl, hb2⟩; obtain ⟨hb2c, hb2f⟩ := bcell hb2; have hb2s := hb2.size; (try simp only [World.size_alloc] at hb2s); (try (have : w.heap.size < hb2w.heap.size := by omega)); (try (have : w.heap.size + 1 < hb2w.heap.size := by omega)); (try (have : w.heap.size + 1 + 1 < hb2w.heap.size := by omega)); (try (have : w.heap.size + 1 + 1 + 1 < hb2w.heap.size := by omega)); (try (have : bX < hb2w.heap.size := by omega)); (try (have : bY < hb2w.heap.size := by omega)); (try (have : bZ < hb2w.heap.size := by omega))) | (go_at_call 37; refine (HSP.out _).mono ?_; rintro e hb3w ⟨rfl, hb3⟩; obtain ⟨hb3c, hb3f⟩ := bcell hb3; have hb3s := hb3.size; (try simp only [World.size_alloc] at hb3s); (try (have : w.heap.size < hb3w.heap.size := by omega)); (try (have : w.heap.size + 1 < hb3w.heap.size := by omega)); (try (have : w.heap.size + 1 + 1 < hb3w.heap.size := by omega)); (try (have : w.heap.size + 1 + 1 + 1 < hb3w.heap.size := by omega)); (try (have : bX < hb3w.heap.size := by omega)); (try (have : bY < hb3w.heap.size := by omega)); (try (have : bZ < hb3w.heap.size := by omega))))
        go_ret2
        exact ⟨by rw [H.out]; rfl, by (repeat' (first | (with_reducible exact Below.refl _ _) | (with_reducible assumption) | (with_reducible refine below_alloc ?_ _) | (with_reducible refine Below.drew ?_) | (with_reducible refine below_drewN ?_ _) | (with_reducible refine below_step (by assumption) ?_) | (with_reducible refine below_later ?_ _) | (with_reducible refine Below.setCell ?_ ?_ _) | go_size))⟩
end Go.Proofs.Ytoninaidinnbgaa
