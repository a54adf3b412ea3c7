/- Plain facts of the inverse law of torque. -/
import Derived.Test.YtpmjnpbigppllaaTorqF
namespace Go.Proofs.Ytpmjnpbigppllaa
set_option linter.unusedVariables false
set_option linter.unusedSimpArgs false
open Go.RowKit Go.ChangeShapes Go.WideShapes Go.ChangeAt

theorem inv_charge {X Y : List Int} {Z : List (List Int)} {xs ys : List Int} (hT : TqOk X Y Z xs ys) (s want : Int) (a0 : 0 ≤ Y.getD 0 0) (a1 : Y.getD (Y.length - 1) 0 ≤ 1048576) :
    ((opt2 X Y Z xs ys s (Y.getD (Y.length - 1) 0)).2 = 2 ∧ (charge2 X Y Z xs ys s want).2 = 2) ∨ ((opt2 X Y Z xs ys s (Y.getD (Y.length - 1) 0)).2 = 0 ∧
      (((charge2 X Y Z xs ys s want).2 = 7 ∧ (opt2 X Y Z xs ys s (Y.getD (Y.length - 1) 0)).1 < want) ∨
       (∃ c, charge2 X Y Z xs ys s want = (c, 0) ∧ Y.getD 0 0 ≤ c ∧ c ≤ Y.getD (Y.length - 1) 0 ∧ (∃ v, opt2 X Y Z xs ys s c = (v, 0) ∧ want ≤ v) ∧ (c = Y.getD 0 0 ∨ (Y.getD 0 0 < c ∧ ∃ v, opt2 X Y Z xs ys s (c - 1) = (v, 0) ∧ v < want))))) := by
  obtain ⟨y1, y2, y3, y4⟩ := chS_bd hT.map.2.1
  obtain ⟨r1, r2, r3⟩ := chN_spec hT s want
  have hb := tqB_true.2 hT
  cases i1 : inB s 0 12000 with
  | false => exact .inl ⟨by simp [opt2, hb, i1], by simp [charge2, hb, i1]⟩
  | true =>
    have ho : ∀ c, 0 ≤ c → c ≤ 1048576 → opt2 X Y Z xs ys s c = (mval X Y Z s c, 0) := fun c h1 h2 => by simp [opt2, hb, i1, inB_true.2 (show 0 ≤ c ∧ c ≤ 1048576 from ⟨h1, h2⟩)]
    rw [ho _ (by omega) a1]
    refine .inr ⟨rfl, ?_⟩
    by_cases hr : chN X Y Z s want = chS Y
    · refine .inl ⟨by simp [charge2, hb, i1, hr], ?_⟩
      have := r2 (chS Y - 1) (by omega)
      rw [show Y.getD 0 0 + ((chS Y - 1 : Nat) : Int) = Y.getD (Y.length - 1) 0 by omega, decide_eq_false_iff_not] at this
      exact Int.not_le.1 this
    · refine .inr ⟨Y.getD 0 0 + (chN X Y Z s want : Int), by simp only [charge2, hb, i1, if_true]; rw [if_neg hr], by omega, by omega, ⟨_, ho _ (by omega) (by omega), ?_⟩, ?_⟩
      · have := r3 _ (Nat.le_refl _) (by omega)
        rwa [decide_eq_true_eq] at this
      · rcases Nat.eq_zero_or_pos (chN X Y Z s want) with hz | hz
        · left; rw [hz]; simp
        · right
          refine ⟨by omega, _, ho _ (by omega) (by omega), ?_⟩
          have := r2 (chN X Y Z s want - 1) (by omega)
          rw [show Y.getD 0 0 + ((chN X Y Z s want - 1 : Nat) : Int) = Y.getD 0 0 + (chN X Y Z s want : Int) - 1 by omega, decide_eq_false_iff_not] at this
          exact Int.not_le.1 this

theorem inv_late {X Y : List Int} {Z : List (List Int)} {xs ys : List Int} (hT : TqOk X Y Z xs ys) (s c want : Int) :
    (¬ (late2 X Y Z xs ys s c want).2 = 0 ∧ (¬ (tor2 X Y Z xs ys s c 0 1 1).2 = 0 ∨ ((tor2 X Y Z xs ys s c 0 1 1).2 = 0 ∧ (late2 X Y Z xs ys s c want).2 = 7 ∧ (tor2 X Y Z xs ys s c 0 1 1).1 < want)) ) ∨
    (∃ l, late2 X Y Z xs ys s c want = (l, 0) ∧ 0 ≤ l ∧ l ≤ 2560 ∧ (∃ v, tor2 X Y Z xs ys s c l 1 1 = (v, 0) ∧ want ≤ v) ∧ ((¬ (tor2 X Y Z xs ys s c (l + 1) 1 1).2 = 0 ∧ l = 2560) ∨ (∃ v, tor2 X Y Z xs ys s c (l + 1) 1 1 = (v, 0) ∧ v < want))) := by
  rcases opt2_cases X Y Z xs ys s c with ⟨h, hn⟩ | ⟨h, _, hn⟩ | ⟨h, _, i1, i2, b1, b2⟩
  · exact absurd hT hn
  · exact .inl ⟨by simp [late2, h], .inl (by simp [tor2, h])⟩
  · obtain ⟨r1, r2, r3⟩ := lateN_spec hT (want := want) b1
    have hv : ∀ l : Int, 0 ≤ l → l ≤ 2560 → tor2 X Y Z xs ys s c l 1 1 = (tqV (mval X Y Z s c) (cval xs ys l) 1 1, 0) := fun l h1 h2 => by
      simp [tor2, h, inB_true.2 (show 0 ≤ l ∧ l ≤ 2560 from ⟨h1, h2⟩), inB_true.2 (show (1 : Int) ≤ 1 ∧ (1 : Int) ≤ 8 by omega), inB_true.2 (show (0 : Int) ≤ 1 ∧ (1 : Int) ≤ 1 by omega)]
    by_cases hz : lateN xs ys (mval X Y Z s c) want = 0
    · refine .inl ⟨by simp [late2, h, hz], .inr ?_⟩
      rw [hv 0 (by omega) (by omega)]
      refine ⟨rfl, by simp [late2, h, hz], ?_⟩
      have := r3 0 (by omega) (by omega)
      rw [decide_eq_true_eq] at this
      exact this
    · refine .inr ⟨(lateN xs ys (mval X Y Z s c) want : Int) - 1, by simp [late2, h, hz], by omega, by omega, ⟨_, hv _ (by omega) (by omega), ?_⟩, ?_⟩
      · have := r2 (lateN xs ys (mval X Y Z s c) want - 1) (by omega)
        rw [show ((lateN xs ys (mval X Y Z s c) want - 1 : Nat) : Int) = (lateN xs ys (mval X Y Z s c) want : Int) - 1 by omega, decide_eq_false_iff_not] at this
        exact Int.not_lt.1 this
      · rw [show (lateN xs ys (mval X Y Z s c) want : Int) - 1 + 1 = (lateN xs ys (mval X Y Z s c) want : Int) by omega]
        by_cases ht : lateN xs ys (mval X Y Z s c) want = 2561
        · left
          rw [ht]
          exact ⟨by simp [tor2, h, inB_false.2 (show ¬ ((0 : Int) ≤ 2561 ∧ (2561 : Int) ≤ 2560) by omega)], by omega⟩
        · right
          refine ⟨_, hv _ (by omega) (by omega), ?_⟩
          have := r3 _ (Nat.le_refl _) (by omega)
          rwa [decide_eq_true_eq] at this
end Go.Proofs.Ytpmjnpbigppllaa
