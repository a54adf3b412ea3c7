/- The law WheelSpaces returns true for every wheel and position. No conditions. Printed by a program. -/
import Derived.Test.YtjkdekblenlflaaWheelAwake
namespace Go.Proofs.Ytjkdekblenlflaa
set_option linter.unusedVariables false
set_option linter.unusedSimpArgs false
open Go.RowKit Go.ChangeShapes Go.WideShapes Go.ChangeAt

theorem spaces_plain {T M p : Int} (h : wheelB T M = true) (h0 : 0 ≤ p) : ∃ P i Q k, wnext T M p = (P, i) ∧ wnext T M P = (Q, k) ∧ p < P ∧ P ≤ p + 23040 ∧ 0 ≤ i ∧ i < T - M ∧ P % 23040 = i * spI T ∧ P ≤ Q ∧ Q ≤ P + 23040 ∧
    ((i = T - M - 1 ∧ k = 0 ∧ Q - P = (M + 1) * spI T) ∨ (i < T - M - 1 ∧ k = i + 1 ∧ Q - P = spI T)) := by
  have ⟨s1, s2, s3⟩ := spI_bd h
  obtain ⟨t0, t1, t2, _⟩ := wheelB_true.1 h
  have hw : ∀ p, wnext T M p = if T - M ≤ p % 23040 / spI T + 1 then (p - p % 23040 + 23040, 0) else (p - p % 23040 + (p % 23040 / spI T + 1) * spI T, p % 23040 / spI T + 1) := fun _ => rfl
  generalize spI T = s at *
  have q0 : 0 ≤ p % 23040 / s := Int.ediv_nonneg (by omega) (by omega)
  have q1 : p % 23040 / s * s ≤ p % 23040 := Int.ediv_mul_le _ (by omega)
  have q2 : p % 23040 < (p % 23040 / s + 1) * s := Int.lt_ediv_add_one_mul_self _ (by omega)
  have e1 := hw p
  by_cases hc : T - M ≤ p % 23040 / s + 1
  · rw [if_pos hc] at e1
    have hz : (p - p % 23040 + 23040) % 23040 = 0 := by omega
    have e2 := hw (p - p % 23040 + 23040)
    rw [hz, Int.zero_ediv, if_neg (by omega)] at e2
    refine ⟨_, _, _, _, e1, e2, by omega, by omega, by omega, by omega, by rw [hz]; simp, by omega, by omega, Or.inr ⟨by omega, by omega, by omega⟩⟩
  · rw [if_neg hc] at e1
    generalize hj : p % 23040 / s + 1 = j at *
    have hj0 : p % 23040 / s = j - 1 := by omega
    rw [hj0, Int.sub_mul] at q1
    have hjT : (j + M) * s ≤ T * s := Int.mul_le_mul_of_nonneg_right (by omega) (by omega)
    have hMs : 0 ≤ M * s := Int.mul_nonneg (by omega) (by omega)
    have hMs2 : s ≤ M * s := by rcases t0 with rfl | rfl <;> omega
    rw [Int.add_mul, s3] at hjT
    have hz : (p - p % 23040 + j * s) % 23040 = j * s := by omega
    have hd : j * s / s = j := Int.mul_ediv_cancel _ (by omega)
    have e2 := hw (p - p % 23040 + j * s)
    rw [hz, hd] at e2
    by_cases hl : T - M ≤ j + 1
    · rw [if_pos hl] at e2
      have hjj : j = T - M - 1 := by omega
      have hjs : j * s = 23040 - (M + 1) * s := by
        rw [hjj, ← s3, show T - M - 1 = T - (M + 1) by omega, Int.sub_mul]
      refine ⟨_, _, _, _, e1, e2, by omega, by omega, by omega, by omega, hz, by omega, by omega, Or.inl ⟨hjj, rfl, by omega⟩⟩
    · rw [if_neg hl] at e2
      have hj1 : (j + 1) * s = j * s + s := by rw [Int.add_mul]; omega
      refine ⟨_, _, _, _, e1, e2, by omega, by omega, by omega, by omega, hz, by omega, by omega, Or.inr ⟨by omega, rfl, by omega⟩⟩

set_option maxRecDepth 100000 in
theorem spaces_walk (T M p : Int) (w : World) : Calls Try.prog 6 #[.agg #[.int .i64 T, .int .i64 M], .int .i64 p] w fun e w' => e = .returned (.bool true) ∧ Below w.heap.size w w' := by
  cases h : wheelB T M with
  | false =>
    go_enter Try.func6, Try.ntmps6
    go_wp2_with (first | (go_at_call 10; refine (awake_any _).mono ?_; rintro e hb1w ⟨rfl, hb1⟩; obtain ⟨hb1c, hb1f⟩ := bcell hb1; have hb1s := hb1.size; (try simp only [World.size_alloc] at hb1s); (try (have : w.heap.size < hb1w.heap.size := by omega)); (try (have : w.heap.size + 1 < hb1w.heap.size := by omega)); (try (have : w.heap.size + 1 + 1 < hb1w.heap.size := by omega)); (try (have : w.heap.size + 1 + 1 + 1 < hb1w.heap.size := by omega)); (try (have : bX < hb1w.heap.size := by omega)); (try (have : bY < hb1w.heap.size := by omega)); (try (have : bZ < hb1w.heap.size := by omega))) | (go_at_call 13; refine (wvalid_any _ _ _).mono ?_; rintro e hb4w ⟨rfl, hb4⟩; obtain ⟨hb4c, hb4f⟩ := bcell hb4; have hb4s := hb4.size; (try simp only [World.size_alloc] at hb4s); (try (have : w.heap.size < hb4w.heap.size := by omega)); (try (have : w.heap.size + 1 < hb4w.heap.size := by omega)); (try (have : w.heap.size + 1 + 1 < hb4w.heap.size := by omega)); (try (have : w.heap.size + 1 + 1 + 1 < hb4w.heap.size := by omega)); (try (have : bX < hb4w.heap.size := by omega)); (try (have : bY < hb4w.heap.size := by omega)); (try (have : bZ < hb4w.heap.size := by omega))))
    go_ret
    exact ⟨by simp, by (repeat' (first | (with_reducible exact Below.refl _ _) | (with_reducible assumption) | (with_reducible refine below_alloc ?_ _) | (with_reducible refine Below.drew ?_) | (with_reducible refine below_drewN ?_ _) | (with_reducible refine below_step (by assumption) ?_) | (with_reducible refine below_later ?_ _) | (with_reducible refine Below.setCell ?_ ?_ _) | go_size))⟩
  | true =>
    by_cases h0 : p < 0
    · go_enter Try.func6, Try.ntmps6
      go_wp2_with (first | (go_at_call 10; refine (awake_any _).mono ?_; rintro e hb1w ⟨rfl, hb1⟩; obtain ⟨hb1c, hb1f⟩ := bcell hb1; have hb1s := hb1.size; (try simp only [World.size_alloc] at hb1s); (try (have : w.heap.size < hb1w.heap.size := by omega)); (try (have : w.heap.size + 1 < hb1w.heap.size := by omega)); (try (have : w.heap.size + 1 + 1 < hb1w.heap.size := by omega)); (try (have : w.heap.size + 1 + 1 + 1 < hb1w.heap.size := by omega)); (try (have : bX < hb1w.heap.size := by omega)); (try (have : bY < hb1w.heap.size := by omega)); (try (have : bZ < hb1w.heap.size := by omega))) | (go_at_call 13; refine (wvalid_any _ _ _).mono ?_; rintro e hb4w ⟨rfl, hb4⟩; obtain ⟨hb4c, hb4f⟩ := bcell hb4; have hb4s := hb4.size; (try simp only [World.size_alloc] at hb4s); (try (have : w.heap.size < hb4w.heap.size := by omega)); (try (have : w.heap.size + 1 < hb4w.heap.size := by omega)); (try (have : w.heap.size + 1 + 1 < hb4w.heap.size := by omega)); (try (have : w.heap.size + 1 + 1 + 1 < hb4w.heap.size := by omega)); (try (have : bX < hb4w.heap.size := by omega)); (try (have : bY < hb4w.heap.size := by omega)); (try (have : bZ < hb4w.heap.size := by omega))))
      go_ret
      exact ⟨by simp, by (repeat' (first | (with_reducible exact Below.refl _ _) | (with_reducible assumption) | (with_reducible refine below_alloc ?_ _) | (with_reducible refine Below.drew ?_) | (with_reducible refine below_drewN ?_ _) | (with_reducible refine below_step (by assumption) ?_) | (with_reducible refine below_later ?_ _) | (with_reducible refine Below.setCell ?_ ?_ _) | go_size))⟩
    · have i0 : 0 ≤ p := by omega
      by_cases h9 : 549755813888 ≤ p
      · clear h0
        go_enter Try.func6, Try.ntmps6
        go_wp2_with (first | (go_at_call 10; refine (awake_any _).mono ?_; rintro e hb1w ⟨rfl, hb1⟩; obtain ⟨hb1c, hb1f⟩ := bcell hb1; have hb1s := hb1.size; (try simp only [World.size_alloc] at hb1s); (try (have : w.heap.size < hb1w.heap.size := by omega)); (try (have : w.heap.size + 1 < hb1w.heap.size := by omega)); (try (have : w.heap.size + 1 + 1 < hb1w.heap.size := by omega)); (try (have : w.heap.size + 1 + 1 + 1 < hb1w.heap.size := by omega)); (try (have : bX < hb1w.heap.size := by omega)); (try (have : bY < hb1w.heap.size := by omega)); (try (have : bZ < hb1w.heap.size := by omega))) | (go_at_call 13; refine (wvalid_any _ _ _).mono ?_; rintro e hb4w ⟨rfl, hb4⟩; obtain ⟨hb4c, hb4f⟩ := bcell hb4; have hb4s := hb4.size; (try simp only [World.size_alloc] at hb4s); (try (have : w.heap.size < hb4w.heap.size := by omega)); (try (have : w.heap.size + 1 < hb4w.heap.size := by omega)); (try (have : w.heap.size + 1 + 1 < hb4w.heap.size := by omega)); (try (have : w.heap.size + 1 + 1 + 1 < hb4w.heap.size := by omega)); (try (have : bX < hb4w.heap.size := by omega)); (try (have : bY < hb4w.heap.size := by omega)); (try (have : bZ < hb4w.heap.size := by omega))))
        go_ret
        exact ⟨by simp, by (repeat' (first | (with_reducible exact Below.refl _ _) | (with_reducible assumption) | (with_reducible refine below_alloc ?_ _) | (with_reducible refine Below.drew ?_) | (with_reducible refine below_drewN ?_ _) | (with_reducible refine below_step (by assumption) ?_) | (with_reducible refine below_later ?_ _) | (with_reducible refine Below.setCell ?_ ?_ _) | go_size))⟩
      · have i9 : p < 549755813888 := by omega
        obtain ⟨P, i, Q, k, e1, e2, a1, a2, a3, a4, a5, a6, a7, hh⟩ := spaces_plain h i0
        have ⟨s1, s2, _⟩ := spI_bd h
        obtain ⟨t0, t1, t2, _⟩ := wheelB_true.1 h
        have m1 : 1 ≤ M := by omega
        have m2 : M ≤ 2 := by omega
        have n1 : next3 T M p = (P, i, 0) := by simp only [next3, h, if_true, e1]; rw [if_pos (posB_true.2 (by omega))]
        have n2 : next3 T M P = (Q, k, 0) := by simp only [next3, h, if_true, e2]; rw [if_pos (posB_true.2 (by omega))]
        have n3 : angV T M i = (P % 23040, 0) := by simp only [angV, h, if_true]; rw [if_pos (by omega), a5]
        have n4 : spB T M = spI T := by simp [spB, h]
        have n5 : teB T M = T - M := by simp [teB, h]
        have p0 : 0 ≤ P := by omega
        have hw1 : IntKind.i64.wrap ((M + 1) * spI T) = (M + 1) * spI T := by
          rcases t0 with rfl | rfl <;> exact IntWalk.i64_in _ (by omega)
        have hw2 : IntKind.i64.wrap (Q - P) = Q - P := IntWalk.i64_in _ (by omega)
        clear e1 e2 a5 h0 h9 t0
        rcases hh with ⟨b1, b2, b3⟩ | ⟨b1, b2, b3⟩
        · have b4 : i = T - M - 1 := b1
          subst b1
          subst b2
          go_enter Try.func6, Try.ntmps6
          go_wp2_with (first | (go_at_call 10; refine (awake_any _).mono ?_; rintro e hb1w ⟨rfl, hb1⟩; obtain ⟨hb1c, hb1f⟩ := bcell hb1; have hb1s := hb1.size; (try simp only [World.size_alloc] at hb1s); (try (have : w.heap.size < hb1w.heap.size := by omega)); (try (have : w.heap.size + 1 < hb1w.heap.size := by omega)); (try (have : w.heap.size + 1 + 1 < hb1w.heap.size := by omega)); (try (have : w.heap.size + 1 + 1 + 1 < hb1w.heap.size := by omega)); (try (have : bX < hb1w.heap.size := by omega)); (try (have : bY < hb1w.heap.size := by omega)); (try (have : bZ < hb1w.heap.size := by omega))) | (go_at_call 13; refine (wvalid_any _ _ _).mono ?_; rintro e hb4w ⟨rfl, hb4⟩; obtain ⟨hb4c, hb4f⟩ := bcell hb4; have hb4s := hb4.size; (try simp only [World.size_alloc] at hb4s); (try (have : w.heap.size < hb4w.heap.size := by omega)); (try (have : w.heap.size + 1 < hb4w.heap.size := by omega)); (try (have : w.heap.size + 1 + 1 < hb4w.heap.size := by omega)); (try (have : w.heap.size + 1 + 1 + 1 < hb4w.heap.size := by omega)); (try (have : bX < hb4w.heap.size := by omega)); (try (have : bY < hb4w.heap.size := by omega)); (try (have : bZ < hb4w.heap.size := by omega))) | (go_at_call 18; refine (next_any _ _ _ _).mono ?_; rintro e hb2w ⟨rfl, hb2⟩; obtain ⟨hb2c, hb2f⟩ := bcell hb2; have hb2s := hb2.size; (try simp only [World.size_alloc] at hb2s); (try (have : w.heap.size < hb2w.heap.size := by omega)); (try (have : w.heap.size + 1 < hb2w.heap.size := by omega)); (try (have : w.heap.size + 1 + 1 < hb2w.heap.size := by omega)); (try (have : w.heap.size + 1 + 1 + 1 < hb2w.heap.size := by omega)); (try (have : bX < hb2w.heap.size := by omega)); (try (have : bY < hb2w.heap.size := by omega)); (try (have : bZ < hb2w.heap.size := by omega))) | (go_at_call 11; refine (angle_any _ _ _ _).mono ?_; rintro e hb5w ⟨rfl, hb5⟩; obtain ⟨hb5c, hb5f⟩ := bcell hb5; have hb5s := hb5.size; (try simp only [World.size_alloc] at hb5s); (try (have : w.heap.size < hb5w.heap.size := by omega)); (try (have : w.heap.size + 1 < hb5w.heap.size := by omega)); (try (have : w.heap.size + 1 + 1 < hb5w.heap.size := by omega)); (try (have : w.heap.size + 1 + 1 + 1 < hb5w.heap.size := by omega)); (try (have : bX < hb5w.heap.size := by omega)); (try (have : bY < hb5w.heap.size := by omega)); (try (have : bZ < hb5w.heap.size := by omega))) | (go_at_call 15; refine (teeth_any _ _ _).mono ?_; rintro e hb6w ⟨rfl, hb6⟩; obtain ⟨hb6c, hb6f⟩ := bcell hb6; have hb6s := hb6.size; (try simp only [World.size_alloc] at hb6s); (try (have : w.heap.size < hb6w.heap.size := by omega)); (try (have : w.heap.size + 1 < hb6w.heap.size := by omega)); (try (have : w.heap.size + 1 + 1 < hb6w.heap.size := by omega)); (try (have : w.heap.size + 1 + 1 + 1 < hb6w.heap.size := by omega)); (try (have : bX < hb6w.heap.size := by omega)); (try (have : bY < hb6w.heap.size := by omega)); (try (have : bZ < hb6w.heap.size := by omega))))
          (refine wp_region_later (by kernel_rfl) (by kernel_rfl) ?_; (repeat (go_big_quiet_step ((go_at_call 14; exact later_call (space_any _ _ _))))); refine wpQuiet_nil ?_; rintro _ ⟨e1, rfl⟩; have e1s := e1.h.size; (try simp only [World.size_alloc, World.size_drewN, World.drewN_heap] at e1s); (try (have : w.heap.size < e1.w.heap.size := by omega)); (try (have : w.heap.size + 1 < e1.w.heap.size := by omega)); (try (have : w.heap.size + 1 + 1 < e1.w.heap.size := by omega)); (try (have : w.heap.size + 1 + 1 + 1 < e1.w.heap.size := by omega)); (try (have : bX < e1.w.heap.size := by omega)); (try (have : bY < e1.w.heap.size := by omega)); (try (have : bZ < e1.w.heap.size := by omega)))
          go_wp2
          go_ret
          exact ⟨by simp [*], by (repeat' (first | (with_reducible exact Below.refl _ _) | (with_reducible assumption) | (with_reducible refine below_alloc ?_ _) | (with_reducible refine Below.drew ?_) | (with_reducible refine below_drewN ?_ _) | (with_reducible refine below_step (by assumption) ?_) | (with_reducible refine below_later ?_ _) | (with_reducible refine Below.setCell ?_ ?_ _) | go_size))⟩
        · have b4 : ¬ i = T - M - 1 := by omega
          subst b2
          go_enter Try.func6, Try.ntmps6
          go_wp2_with (first | (go_at_call 10; refine (awake_any _).mono ?_; rintro e hb1w ⟨rfl, hb1⟩; obtain ⟨hb1c, hb1f⟩ := bcell hb1; have hb1s := hb1.size; (try simp only [World.size_alloc] at hb1s); (try (have : w.heap.size < hb1w.heap.size := by omega)); (try (have : w.heap.size + 1 < hb1w.heap.size := by omega)); (try (have : w.heap.size + 1 + 1 < hb1w.heap.size := by omega)); (try (have : w.heap.size + 1 + 1 + 1 < hb1w.heap.size := by omega)); (try (have : bX < hb1w.heap.size := by omega)); (try (have : bY < hb1w.heap.size := by omega)); (try (have : bZ < hb1w.heap.size := by omega))) | (go_at_call 13; refine (wvalid_any _ _ _).mono ?_; rintro e hb4w ⟨rfl, hb4⟩; obtain ⟨hb4c, hb4f⟩ := bcell hb4; have hb4s := hb4.size; (try simp only [World.size_alloc] at hb4s); (try (have : w.heap.size < hb4w.heap.size := by omega)); (try (have : w.heap.size + 1 < hb4w.heap.size := by omega)); (try (have : w.heap.size + 1 + 1 < hb4w.heap.size := by omega)); (try (have : w.heap.size + 1 + 1 + 1 < hb4w.heap.size := by omega)); (try (have : bX < hb4w.heap.size := by omega)); (try (have : bY < hb4w.heap.size := by omega)); (try (have : bZ < hb4w.heap.size := by omega))) | (go_at_call 18; refine (next_any _ _ _ _).mono ?_; rintro e hb2w ⟨rfl, hb2⟩; obtain ⟨hb2c, hb2f⟩ := bcell hb2; have hb2s := hb2.size; (try simp only [World.size_alloc] at hb2s); (try (have : w.heap.size < hb2w.heap.size := by omega)); (try (have : w.heap.size + 1 < hb2w.heap.size := by omega)); (try (have : w.heap.size + 1 + 1 < hb2w.heap.size := by omega)); (try (have : w.heap.size + 1 + 1 + 1 < hb2w.heap.size := by omega)); (try (have : bX < hb2w.heap.size := by omega)); (try (have : bY < hb2w.heap.size := by omega)); (try (have : bZ < hb2w.heap.size := by omega))) | (go_at_call 11; refine (angle_any _ _ _ _).mono ?_; rintro e hb5w ⟨rfl, hb5⟩; obtain ⟨hb5c, hb5f⟩ := bcell hb5; have hb5s := hb5.size; (try simp only [World.size_alloc] at hb5s); (try (have : w.heap.size < hb5w.heap.size := by omega)); (try (have : w.heap.size + 1 < hb5w.heap.size := by omega)); (try (have : w.heap.size + 1 + 1 < hb5w.heap.size := by omega)); (try (have : w.heap.size + 1 + 1 + 1 < hb5w.heap.size := by omega)); (try (have : bX < hb5w.heap.size := by omega)); (try (have : bY < hb5w.heap.size := by omega)); (try (have : bZ < hb5w.heap.size := by omega))) | (go_at_call 15; refine (teeth_any _ _ _).mono ?_; rintro e hb6w ⟨rfl, hb6⟩; obtain ⟨hb6c, hb6f⟩ := bcell hb6; have hb6s := hb6.size; (try simp only [World.size_alloc] at hb6s); (try (have : w.heap.size < hb6w.heap.size := by omega)); (try (have : w.heap.size + 1 < hb6w.heap.size := by omega)); (try (have : w.heap.size + 1 + 1 < hb6w.heap.size := by omega)); (try (have : w.heap.size + 1 + 1 + 1 < hb6w.heap.size := by omega)); (try (have : bX < hb6w.heap.size := by omega)); (try (have : bY < hb6w.heap.size := by omega)); (try (have : bZ < hb6w.heap.size := by omega))) | (go_at_call 14; refine (space_any _ _ _).mono ?_; rintro e hb7w ⟨rfl, hb7⟩; obtain ⟨hb7c, hb7f⟩ := bcell hb7; have hb7s := hb7.size; (try simp only [World.size_alloc] at hb7s); (try (have : w.heap.size < hb7w.heap.size := by omega)); (try (have : w.heap.size + 1 < hb7w.heap.size := by omega)); (try (have : w.heap.size + 1 + 1 < hb7w.heap.size := by omega)); (try (have : w.heap.size + 1 + 1 + 1 < hb7w.heap.size := by omega)); (try (have : bX < hb7w.heap.size := by omega)); (try (have : bY < hb7w.heap.size := by omega)); (try (have : bZ < hb7w.heap.size := by omega))))
          go_ret
          exact ⟨by simp [*], by (repeat' (first | (with_reducible exact Below.refl _ _) | (with_reducible assumption) | (with_reducible refine below_alloc ?_ _) | (with_reducible refine Below.drew ?_) | (with_reducible refine below_drewN ?_ _) | (with_reducible refine below_step (by assumption) ?_) | (with_reducible refine below_later ?_ _) | (with_reducible refine Below.setCell ?_ ?_ _) | go_size))⟩

set_option maxRecDepth 100000 in
theorem spaces_holds : Rows.WheelSpacesSaid :=
  OpenClaim.holds_of_wide 6 Try.f6 rfl rfl rfl rfl rfl rfl rfl ⟨rfl, rfl, rfl, rfl, rfl⟩ rfl rfl rfl rfl rfl (by kernel_rfl) Try.func6 (by kernel_rfl)
    (of_decide_eq_true (by kernel_rfl)) (by unfold Func.isWrapper; first | (rw [if_pos (by decide +kernel)]; kernel_rfl) | (rw [if_neg (by decide +kernel)]; exact ⟨rfl, rfl⟩))
    (fun os started H enc _ => by
      refine law_frame started (s := Rows.wheelSpacesSpec) (conds := Rows.wheelSpacesRow.domain) Try.func6 (by kernel_rfl) rfl 4 rfl Try.underlying4 (by decide +kernel) (fun ds h => ?_)
        (ChangeSpec.witness6 (enc := enc) (C := Try.checked) false ⟨#[], #[.agg #[.int .i64 0, .int .i64 0], .int .i64 0], []⟩ 12 (by kernel_rfl) (by kernel_rfl) (by kernel_rfl) (by kernel_rfl)) ?_
      · match ds, h with
        | [_, _], _ => rfl
      · intro W base args ds p hval hA _
        rw [Try.params6] at hA hval
        obtain ⟨v0, vs0, d0, ds0, p0, q0, hargs, rfl, rfl, h0, r0⟩ := trodAll_cons hA
        obtain ⟨v1, vs1, d1, ds1, p1, q1, rfl, rfl, rfl, h1, r1⟩ := trodAll_cons r0
        obtain ⟨rfl, rfl, rfl⟩ := trodAll_nil r1
        obtain rfl : args = #[v0, v1] := by cases args; simp_all
        obtain ⟨cs0, rfl, k0⟩ := arg_agg Try.underlying23 (hval 0 _ v0 rfl rfl) h0
        obtain ⟨a0_0, a1_0, rfl, g0_0, g1_0⟩ := open_Wheel k0
        obtain ⟨b1, rfl, rfl, rfl, w1⟩ := open_int Try.underlying3 (hval 1 _ v1 rfl rfl) h1
        apply spaces_walk <;> (first | assumption | rfl))
#print axioms spaces_holds

end Go.Proofs.Ytjkdekblenlflaa
