/- Contracts of the small functions of fuel and of its reference. -/
import Derived.Test.YtmfldcjecajkoaaLib
namespace Go.Proofs.Ytmfldcjecajkoaa
set_option linter.unusedVariables false
set_option linter.unusedSimpArgs false
open Go.RowKit Go.ChangeShapes Go.WideShapes Go.ChangeAt

def inB (x lo hi : Int) : Bool := decide (lo ≤ x ∧ x ≤ hi)
def goodB (f e : Int) : Bool := decide (0 ≤ f ∧ f ≤ 1023 ∧ 0 ≤ e ∧ e ≤ 1024)

theorem in_any (x lo hi : Int) (w : World) : Calls Try.prog 28 #[.int .i64 x, .int .i64 lo, .int .i64 hi] w fun e w' => e = .returned (.bool (inB x lo hi)) ∧ w = w' := by
  go_enter Try.func28, Try.ntmps28
  go_wp2
  all_goals go_ret
  all_goals exact ⟨ret_bool (by grind [inB]), rfl⟩

theorem mass_any (x : Int) (w : World) : Calls Try.prog 31 #[.int .i64 x] w fun e w' => e = .returned (.bool (inB x 0 1048576)) ∧ w = w' := by
  go_enter Try.func31, Try.ntmps31
  go_wp2
  all_goals go_ret
  all_goals exact ⟨ret_bool (by grind [inB]), rfl⟩

theorem body_any (a0 a1 a2 a3 a4 a5 a6 : Int) (w : World) : Calls Try.prog 30 #[.agg #[.int .i64 a0, .int .i64 a1, .int .i64 a2, .int .i64 a3, .int .i64 a4, .int .i64 a5, .int .i64 a6]] w fun e w' => e = .returned (.bool (goodB a4 a5)) ∧ Below w.heap.size w w' := by
  go_enter Try.func30, Try.ntmps30
  go_wp2
  all_goals go_ret
  all_goals exact ⟨ret_bool (by grind [goodB, inB]), by (repeat' (first | (with_reducible exact Below.refl _ _) | (with_reducible assumption) | (with_reducible refine below_alloc ?_ _) | (with_reducible refine Below.drew ?_) | (with_reducible refine below_drewN ?_ _) | (with_reducible refine below_step (by assumption) ?_) | (with_reducible refine below_later ?_ _) | (with_reducible refine Below.setCell ?_ ?_ _) | go_size))⟩

theorem good_any (a0 a1 a2 a3 a4 a5 a6 : Int) (w : World) : Calls Try.prog 27 #[.agg #[.int .i64 a0, .int .i64 a1, .int .i64 a2, .int .i64 a3, .int .i64 a4, .int .i64 a5, .int .i64 a6]] w fun e w' => e = .returned (.bool (goodB a4 a5)) ∧ Below w.heap.size w w' := by
  go_enter Try.func27, Try.ntmps27
  go_wp2_with (go_at_call 28; refine (in_any _ _ _ _).mono ?_; rintro e w' ⟨rfl, rfl⟩)
  all_goals go_ret
  all_goals exact ⟨ret_bool (by grind [goodB, inB]), by (repeat' (first | (with_reducible exact Below.refl _ _) | (with_reducible assumption) | (with_reducible refine below_alloc ?_ _) | (with_reducible refine Below.drew ?_) | (with_reducible refine below_drewN ?_ _) | (with_reducible refine below_step (by assumption) ?_) | (with_reducible refine below_later ?_ _) | (with_reducible refine Below.setCell ?_ ?_ _) | go_size))⟩

def wallI (f i : Int) : Int := i * f / 1024
theorem mul_bd {a b A B : Int} (h0 : 0 ≤ a) (h1 : a ≤ A) (h2 : 0 ≤ b) (h3 : b ≤ B) : 0 ≤ a * b ∧ a * b ≤ A * B :=
  ⟨Int.mul_nonneg h0 h2, Int.mul_le_mul h1 h3 h2 (by omega)⟩
theorem wallI_bd {f i : Int} (hf0 : 0 ≤ f) (hf : f ≤ 1024) (hi0 : 0 ≤ i) (hi : i ≤ 1073741824) : 0 ≤ i * f ∧ i * f ≤ 1099511627776 ∧ 0 ≤ wallI f i ∧ wallI f i ≤ i := by
  have h := mul_bd hi0 hi hf0 hf
  have h2 : i * f ≤ i * 1024 := Int.mul_le_mul_of_nonneg_left hf hi0
  unfold wallI
  omega

theorem wall_any (a0 a1 a2 a3 a4 a5 a6 i : Int) (w : World) (hf0 : 0 ≤ a4) (hf : a4 ≤ 1023) (hi0 : 0 ≤ i) (hi : i ≤ 1048576) :
    Calls Try.prog 32 #[.agg #[.int .i64 a0, .int .i64 a1, .int .i64 a2, .int .i64 a3, .int .i64 a4, .int .i64 a5, .int .i64 a6], .int .i64 i] w fun e w' => e = .returned (.int .i64 (wallI a4 i)) ∧ Below w.heap.size w w' := by
  have ⟨h1, h2, _, _⟩ := wallI_bd hf0 (by omega) hi0 (by omega)
  go_enter Try.func32, Try.ntmps32
  go_wp2
  go_ret
  exact ⟨rfl, by (repeat' (first | (with_reducible exact Below.refl _ _) | (with_reducible assumption) | (with_reducible refine below_alloc ?_ _) | (with_reducible refine Below.drew ?_) | (with_reducible refine below_drewN ?_ _) | (with_reducible refine below_step (by assumption) ?_) | (with_reducible refine below_later ?_ _) | (with_reducible refine Below.setCell ?_ ?_ _) | go_size))⟩

theorem off_any (a0 a1 a2 a3 a4 a5 a6 i : Int) (w : World) (hf0 : 0 ≤ a5) (hf : a5 ≤ 1024) (hi0 : 0 ≤ i) (hi : i ≤ 1073741824) :
    Calls Try.prog 33 #[.agg #[.int .i64 a0, .int .i64 a1, .int .i64 a2, .int .i64 a3, .int .i64 a4, .int .i64 a5, .int .i64 a6], .int .i64 i] w fun e w' => e = .returned (.int .i64 (wallI a5 i)) ∧ Below w.heap.size w w' := by
  have ⟨h1, h2, _, _⟩ := wallI_bd hf0 (by omega) hi0 (by omega)
  go_enter Try.func33, Try.ntmps33
  go_wp2
  go_ret
  exact ⟨rfl, by (repeat' (first | (with_reducible exact Below.refl _ _) | (with_reducible assumption) | (with_reducible refine below_alloc ?_ _) | (with_reducible refine Below.drew ?_) | (with_reducible refine below_drewN ?_ _) | (with_reducible refine below_step (by assumption) ?_) | (with_reducible refine below_later ?_ _) | (with_reducible refine Below.setCell ?_ ?_ _) | go_size))⟩

theorem step_any (a0 a1 a2 a3 a4 a5 a6 film i : Int) (w : World) (hf0 : 0 ≤ a4) (hf : a4 ≤ 1023) (he0 : 0 ≤ a5) (he : a5 ≤ 1024) (hi0 : 0 ≤ i) (hi : i ≤ 1048576) (hg0 : 0 ≤ film) (hg : film ≤ 1073741824) :
    Calls Try.prog 29 #[.agg #[.int .i64 a0, .int .i64 a1, .int .i64 a2, .int .i64 a3, .int .i64 a4, .int .i64 a5, .int .i64 a6], .int .i64 film, .int .i64 i] w fun e w' => e = .returned (.tuple #[.int .i64 (i - wallI a4 i + wallI a5 film), .int .i64 (film + wallI a4 i - wallI a5 film)]) ∧ Below w.heap.size w w' := by
  have ⟨h1, h2, _, _⟩ := wallI_bd hf0 (by omega) hi0 (show i ≤ 1073741824 by omega)
  have ⟨h3, h4, _, _⟩ := wallI_bd he0 (by omega) hg0 (by omega)
  go_enter Try.func29, Try.ntmps29
  go_wp2
  go_quiet (fail)
  go_wp2
  go_ret2
  exact ⟨rfl, by (repeat' (first | (with_reducible exact Below.refl _ _) | (with_reducible assumption) | (with_reducible refine below_alloc ?_ _) | (with_reducible refine Below.drew ?_) | (with_reducible refine below_drewN ?_ _) | (with_reducible refine below_step (by assumption) ?_) | (with_reducible refine below_later ?_ _) | (with_reducible refine Below.setCell ?_ ?_ _) | go_size))⟩

end Go.Proofs.Ytmfldcjecajkoaa
