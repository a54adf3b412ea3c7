/- Plain facts of the law AirRises. Printed by a program. -/
import Derived.Test.YtohdbneaganfbaaAirB
namespace Go.Proofs.Ytohdbneaganfbaa
set_option linter.unusedVariables false
set_option linter.unusedSimpArgs false
open Go.RowKit Go.ChangeShapes Go.WideShapes Go.ChangeAt

theorem rises_lr {X Y : List Int} {Z : List (List Int)} {xs ys : List Int} {s p q t : Int} (h : p ≤ q) : (∃ a e, achg2 X Y Z xs ys s p t = (a, e) ∧ ¬ e = 0) ∨ (∃ a b f, achg2 X Y Z xs ys s p t = (a, 0) ∧ achg2 X Y Z xs ys s q t = (b, f) ∧ ¬ f = 0) ∨ (∃ a b, achg2 X Y Z xs ys s p t = (a, 0) ∧ achg2 X Y Z xs ys s q t = (b, 0) ∧ a ≤ b) := by
  cases hb : airB X Y Z xs ys with
  | false => exact .inl ⟨0, 1, achg2_bad hb s p t, by decide⟩
  | true =>
    have hok := airB_true.1 hb
    by_cases h1 : inB s 0 12000 = true ∧ inB p 50 3000 = true ∧ inB t (-40) 150 = true
    · by_cases h2 : inB s 0 12000 = true ∧ inB q 50 3000 = true ∧ inB t (-40) 150 = true
      · exact .inr (.inr ⟨_, _, achg2_in hb h1, achg2_in hb h2, airV_up hok h⟩)
      · exact .inr (.inl ⟨_, 0, 2, achg2_in hb h1, achg2_out hb h2, by decide⟩)
    · exact .inl ⟨0, 2, achg2_out hb h1, by decide⟩
theorem rises_press {X Y : List Int} {Z : List (List Int)} {xs ys : List Int} {s q t : Int} (hok : AirOk X Y Z xs ys) : (∃ e, aprs2 X Y Z xs ys s q t = (0, e) ∧ ¬ e = 0 ∧ ¬ e = 7) ∨ (aprs2 X Y Z xs ys s q t = (0, 7) ∧ ∃ l, achg2 X Y Z xs ys s 3000 t = (l, 0) ∧ l < q) ∨
    (∃ p, aprs2 X Y Z xs ys s q t = (p, 0) ∧ 50 ≤ p ∧ p ≤ 3000 ∧ ∃ c, achg2 X Y Z xs ys s p t = (c, 0) ∧ q ≤ c ∧ (p = 50 ∨ (¬ p = 50 ∧ ∃ d, achg2 X Y Z xs ys s (p - 1) t = (d, 0) ∧ d < q))) := by
  have hb := airB_true.2 hok
  by_cases hi : inB s 0 12000 = true ∧ inB q 0 1048576 = true ∧ inB t (-40) 150 = true
  · obtain ⟨r1, r2, r3⟩ := prsN_spec hok s t q
    by_cases hr : prsN X Y Z xs ys s t q = 2951
    · refine .inr (.inl ⟨by rw [aprs2_in hb hi, if_pos hr], _, achg2_in hb ⟨hi.1, by decide, hi.2.2⟩, ?_⟩)
      have h1 := r2 2950 (by omega)
      rw [decide_eq_false_iff_not] at h1
      rw [show (3000 : Int) = 50 + ((2950 : Nat) : Int) by omega]
      omega
    · refine .inr (.inr ⟨_, by rw [aprs2_in hb hi, if_neg hr], by omega, by omega, _, achg2_in hb ⟨hi.1, inB_true.2 (by omega), hi.2.2⟩, ?_, ?_⟩)
      · have h1 := r3 _ (Nat.le_refl _) (by omega)
        rwa [decide_eq_true_eq] at h1
      · rcases Nat.eq_zero_or_pos (prsN X Y Z xs ys s t q) with hz | hz
        · left; omega
        · right
          refine ⟨by omega, _, achg2_in hb ⟨hi.1, inB_true.2 (by omega), hi.2.2⟩, ?_⟩
          have h1 := r2 (prsN X Y Z xs ys s t q - 1) (by omega)
          rw [decide_eq_false_iff_not] at h1
          rw [show (50 : Int) + (prsN X Y Z xs ys s t q : Int) - 1 = 50 + ((prsN X Y Z xs ys s t q - 1 : Nat) : Int) by omega]
          omega
  · exact .inl ⟨2, aprs2_out hb hi, by decide, by decide⟩
end Go.Proofs.Ytohdbneaganfbaa
