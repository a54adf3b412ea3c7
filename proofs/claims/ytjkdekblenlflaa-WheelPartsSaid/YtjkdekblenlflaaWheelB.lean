/- Contracts of Mod, position, next and Next of wheels, and of the reference's Position and Next. Printed by a program. -/
import Derived.Test.YtjkdekblenlflaaWheelA
import Derived.Deep.LoopGhost
namespace Go.Proofs.Ytjkdekblenlflaa
set_option linter.unusedVariables false
set_option linter.unusedSimpArgs false
open Go.RowKit Go.ChangeShapes Go.WideShapes Go.ChangeAt

theorem modR_any {a : Int} (w : World) (h0 : 0 ≤ a) : Calls Try.prog 42 #[.int .i64 a, .int .i64 23040] w fun e w' => e = .returned (.int .i64 (a % 23040)) ∧ w = w' := by
  go_enter Try.func42, Try.ntmps42
  go_wp2
  all_goals go_ret
  all_goals exact ⟨by simp [*], rfl⟩
theorem modC_any {a : Int} (w : World) (h0 : 0 ≤ a) : Calls Try.prog 42 #[.int .i64 a, .int .i64 46080] w fun e w' => e = .returned (.int .i64 (a % 46080)) ∧ w = w' := by
  go_enter Try.func42, Try.ntmps42
  go_wp2
  all_goals go_ret
  all_goals exact ⟨by simp [*], rfl⟩

def posB (p : Int) : Bool := decide (0 ≤ p ∧ p ≤ 1099511627776)
theorem posB_true {p : Int} : posB p = true ↔ 0 ≤ p ∧ p ≤ 1099511627776 := by simp [posB]
theorem pos_any (p : Int) (w : World) : Calls Try.prog 34 #[.int .i64 p] w fun e w' => e = .returned (.bool (posB p)) ∧ w = w' := by
  go_enter Try.func34, Try.ntmps34
  go_wp2
  all_goals go_ret
  all_goals exact ⟨ret_bool (by grind [posB]), rfl⟩
theorem rpos_any (p : Int) (w : World) : Calls Try.prog 19 #[.int .i64 p] w fun e w' => e = .returned (.bool (posB p)) ∧ w = w' := by
  go_enter Try.func19, Try.ntmps19
  go_wp2
  all_goals go_ret
  all_goals exact ⟨ret_bool (by grind [posB]), rfl⟩

/-- The edge behind a position, and its tooth. -/
def wnext (T M p : Int) : Int × Int :=
  if T - M ≤ p % 23040 / spI T + 1 then (p - p % 23040 + 23040, 0) else (p - p % 23040 + (p % 23040 / spI T + 1) * spI T, p % 23040 / spI T + 1)
theorem wnext_any (T M p : Int) (w : World) (h : wheelB T M = true) (h0 : 0 ≤ p) (h1 : p ≤ 2199023255552) : Calls Try.prog 35 #[.agg #[.int .i64 T, .int .i64 M], .int .i64 p] w fun e w' => e = .returned (tup2 (wnext T M p)) ∧ Below w.heap.size w w' := by
  have HSP := Lib.hid (fun w => space_any T M w)
  have HTE := Lib.hid (fun w => teeth_any T M w)
  have ⟨s1, s2, _⟩ := spI_bd h
  obtain ⟨t0, t1, t2, _⟩ := wheelB_true.1 h
  have e1 : spB T M = spI T := by simp [spB, h]
  have e2 : teB T M = T - M := by simp [teB, h]
  have H : Hid (wnext T M p = if T - M ≤ p % 23040 / spI T + 1 then (p - p % 23040 + 23040, 0) else (p - p % 23040 + (p % 23040 / spI T + 1) * spI T, p % 23040 / spI T + 1)) := Lib.hid rfl
  generalize spI T = s at *
  have q1 : 0 ≤ p % 23040 / s := Int.ediv_nonneg (by omega) (by omega)
  have q2 : p % 23040 / s ≤ 23039 := Int.le_trans (Int.ediv_le_self _ (by omega)) (by omega)
  have r0 : (p - (p - p % 23040)) = p % 23040 := by omega
  have r1 : p - p % 23040 ≤ p := by omega
  have r2 : 0 ≤ p - p % 23040 := by omega
  have r3 : 0 ≤ p % 23040 := by omega
  have r4 : p % 23040 < 23040 := by omega
  have s3 : ¬ s = 0 := by omega
  have HM := Lib.hid (fun w => modR_any w h0)
  generalize p % 23040 = q at *
  by_cases ht : T - M ≤ q / s + 1
  · have H2 := Lib.hid (H.out.trans (if_pos ht))
    clear H
    go_enter Try.func35, Try.ntmps35
    go_wp2_with (first | (go_at_call 42; refine (HM.out _).mono ?_; rintro e w' ⟨rfl, rfl⟩) | (go_at_call 14; refine (HSP.out _).mono ?_; rintro e hb3w ⟨rfl, hb3⟩; obtain ⟨hb3c, hb3f⟩ := bcell hb3; have hb3s := hb3.size; (try simp only [World.size_alloc] at hb3s); (try (have : w.heap.size < hb3w.heap.size := by omega)); (try (have : w.heap.size + 1 < hb3w.heap.size := by omega)); (try (have : w.heap.size + 1 + 1 < hb3w.heap.size := by omega)); (try (have : w.heap.size + 1 + 1 + 1 < hb3w.heap.size := by omega)); (try (have : bX < hb3w.heap.size := by omega)); (try (have : bY < hb3w.heap.size := by omega)); (try (have : bZ < hb3w.heap.size := by omega))) | (go_at_call 15; refine (HTE.out _).mono ?_; rintro e hb2w ⟨rfl, hb2⟩; obtain ⟨hb2c, hb2f⟩ := bcell hb2; have hb2s := hb2.size; (try simp only [World.size_alloc] at hb2s); (try (have : w.heap.size < hb2w.heap.size := by omega)); (try (have : w.heap.size + 1 < hb2w.heap.size := by omega)); (try (have : w.heap.size + 1 + 1 < hb2w.heap.size := by omega)); (try (have : w.heap.size + 1 + 1 + 1 < hb2w.heap.size := by omega)); (try (have : bX < hb2w.heap.size := by omega)); (try (have : bY < hb2w.heap.size := by omega)); (try (have : bZ < hb2w.heap.size := by omega))))
    go_ret2
    exact ⟨by rw [H2.out]; rfl, by (repeat' (first | (with_reducible exact Below.refl _ _) | (with_reducible assumption) | (with_reducible refine below_alloc ?_ _) | (with_reducible refine Below.drew ?_) | (with_reducible refine below_drewN ?_ _) | (with_reducible refine below_step (by assumption) ?_) | (with_reducible refine below_later ?_ _) | (with_reducible refine Below.setCell ?_ ?_ _) | go_size))⟩
  · have H2 := Lib.hid (H.out.trans (if_neg ht))
    have hm : 0 ≤ (q / s + 1) * s ∧ (q / s + 1) * s ≤ 120 * 1920 := ⟨Int.mul_nonneg (by omega) (by omega), Int.mul_le_mul (by omega) s2 (by omega) (by omega)⟩
    have hw1 : IntKind.i64.wrap ((q / s + 1) * s) = (q / s + 1) * s := IntWalk.i64_in _ (by omega)
    have hw2 : IntKind.i64.wrap (p - q + (q / s + 1) * s) = p - q + (q / s + 1) * s := IntWalk.i64_in _ (by omega)
    clear H
    go_enter Try.func35, Try.ntmps35
    go_wp2_with (first | (go_at_call 42; refine (HM.out _).mono ?_; rintro e w' ⟨rfl, rfl⟩) | (go_at_call 14; refine (HSP.out _).mono ?_; rintro e hb3w ⟨rfl, hb3⟩; obtain ⟨hb3c, hb3f⟩ := bcell hb3; have hb3s := hb3.size; (try simp only [World.size_alloc] at hb3s); (try (have : w.heap.size < hb3w.heap.size := by omega)); (try (have : w.heap.size + 1 < hb3w.heap.size := by omega)); (try (have : w.heap.size + 1 + 1 < hb3w.heap.size := by omega)); (try (have : w.heap.size + 1 + 1 + 1 < hb3w.heap.size := by omega)); (try (have : bX < hb3w.heap.size := by omega)); (try (have : bY < hb3w.heap.size := by omega)); (try (have : bZ < hb3w.heap.size := by omega))) | (go_at_call 15; refine (HTE.out _).mono ?_; rintro e hb2w ⟨rfl, hb2⟩; obtain ⟨hb2c, hb2f⟩ := bcell hb2; have hb2s := hb2.size; (try simp only [World.size_alloc] at hb2s); (try (have : w.heap.size < hb2w.heap.size := by omega)); (try (have : w.heap.size + 1 < hb2w.heap.size := by omega)); (try (have : w.heap.size + 1 + 1 < hb2w.heap.size := by omega)); (try (have : w.heap.size + 1 + 1 + 1 < hb2w.heap.size := by omega)); (try (have : bX < hb2w.heap.size := by omega)); (try (have : bY < hb2w.heap.size := by omega)); (try (have : bZ < hb2w.heap.size := by omega))))
    go_ret2
    exact ⟨by rw [H2.out]; rfl, by (repeat' (first | (with_reducible exact Below.refl _ _) | (with_reducible assumption) | (with_reducible refine below_alloc ?_ _) | (with_reducible refine Below.drew ?_) | (with_reducible refine below_drewN ?_ _) | (with_reducible refine below_step (by assumption) ?_) | (with_reducible refine below_later ?_ _) | (with_reducible refine Below.setCell ?_ ?_ _) | go_size))⟩
end Go.Proofs.Ytjkdekblenlflaa
