/- Plain facts of the law TopInverse: from torque to charge to pressure and back. -/
import Derived.Test.YtpmjnpbigppllaaTorqInvP
import Derived.Test.YtpmjnpbigppllaaFlatP
namespace Go.Proofs.Ytpmjnpbigppllaa
set_option linter.unusedVariables false
set_option linter.unusedSimpArgs false

theorem top_torque {X Y : List Int} {Z : List (List Int)} {xs ys : List Int} {s want q : Int} (h : charge2 X Y Z xs ys s want = (q, 0)) :
    TqOk X Y Z xs ys ∧ inB s 0 12000 = true ∧ (∀ c, q ≤ c → want ≤ mval X Y Z s c) ∧ (q = Y.getD 0 0 ∨ ∀ c, c < q → mval X Y Z s c < want) := by
  cases hb : tqB X Y Z xs ys with
  | false => simp [charge2, hb] at h
  | true =>
    have hT := tqB_true.1 hb
    cases i1 : inB s 0 12000 with
    | false => simp [charge2, hb, i1] at h
    | true =>
      obtain ⟨r1, r2, r3⟩ := chN_spec hT s want
      by_cases hr : chN X Y Z s want = chS Y
      · simp [charge2, hb, i1, hr] at h
      · simp only [charge2, hb, i1, if_true] at h
        rw [if_neg hr, Prod.mk.injEq] at h
        obtain ⟨h, _⟩ := h
        refine ⟨hT, rfl, fun c hc => ?_, ?_⟩
        · have h1 := r3 _ (Nat.le_refl _) (by omega)
          rw [decide_eq_true_eq] at h1
          exact Int.le_trans h1 (tq_up hT (by omega))
        · rcases Nat.eq_zero_or_pos (chN X Y Z s want) with hz | hz
          · left; omega
          · right
            intro c hc
            have h1 := r2 (chN X Y Z s want - 1) (by omega)
            rw [decide_eq_false_iff_not] at h1
            have h2 := tq_up hT (s := s) (show c ≤ Y.getD 0 0 + ((chN X Y Z s want - 1 : Nat) : Int) by omega)
            omega
theorem top_air {X Y : List Int} {Z : List (List Int)} {xs ys : List Int} {s q t p : Int} (h : aprs2 X Y Z xs ys s q t = (p, 0)) :
    50 ≤ p ∧ p ≤ 3000 ∧ (∃ r, achg2 X Y Z xs ys s p t = (r, 0) ∧ q ≤ r) ∧ (p = 50 ∨ (¬ p = 50 ∧ ∃ l, achg2 X Y Z xs ys s (p - 1) t = (l, 0) ∧ l < q)) := by
  cases hb : airB X Y Z xs ys with
  | false => rw [aprs2_bad hb] at h; simp at h
  | true =>
    have hT := airB_true.1 hb
    by_cases hi : inB s 0 12000 = true ∧ inB q 0 1048576 = true ∧ inB t (-40) 150 = true
    · rw [aprs2_in hb hi] at h
      obtain ⟨r1, r2, r3⟩ := prsN_spec hT s t q
      by_cases hr : prsN X Y Z xs ys s t q = 2951
      · rw [if_pos hr] at h; simp at h
      · rw [if_neg hr, Prod.mk.injEq] at h
        obtain ⟨rfl, _⟩ := h
        refine ⟨by omega, by omega, ⟨_, achg2_in hb ⟨hi.1, inB_true.2 (by omega), hi.2.2⟩, ?_⟩, ?_⟩
        · have h1 := r3 _ (Nat.le_refl _) (by omega)
          rwa [decide_eq_true_eq] at h1
        · rcases Nat.eq_zero_or_pos (prsN X Y Z xs ys s t q) with hz | hz
          · left; omega
          · right
            refine ⟨by omega, _, achg2_in hb ⟨hi.1, inB_true.2 (by omega), hi.2.2⟩, ?_⟩
            have h1 := r2 (prsN X Y Z xs ys s t q - 1) (by omega)
            rw [decide_eq_false_iff_not] at h1
            rw [show (50 : Int) + (prsN X Y Z xs ys s t q : Int) - 1 = 50 + ((prsN X Y Z xs ys s t q - 1 : Nat) : Int) by omega]
            omega
    · rw [aprs2_out hb hi] at h; simp at h
theorem top_opt {X Y : List Int} {Z : List (List Int)} {xs ys : List Int} {s c g : Int} (h : opt2 X Y Z xs ys s c = (g, 0)) : g = mval X Y Z s c := by
  rcases opt2_cases X Y Z xs ys s c with ⟨h1, _⟩ | ⟨h1, _⟩ | ⟨h1, _⟩
  · rw [h1] at h; simp at h
  · rw [h1] at h; simp at h
  · rw [h1] at h; simp at h; exact h.symm
/-- What follows from a charge q for a torque, and a pressure p for the charge. -/
theorem top_plain {X Y A B : List Int} {Z C : List (List Int)} {xs ys us vs : List Int} {s want q t p : Int} (h : charge2 X Y Z xs ys s want = (q, 0)) (hp : aprs2 A B C us vs s q t = (p, 0)) :
    50 ≤ p ∧ p ≤ 3000 ∧ ∃ r, achg2 A B C us vs s p t = (r, 0) ∧ q ≤ r ∧ ((∃ g e, opt2 X Y Z xs ys s r = (g, e) ∧ ¬ e = 0) ∨ (∃ g, opt2 X Y Z xs ys s r = (g, 0) ∧ want ≤ g ∧
      (p = 50 ∨ (¬ p = 50 ∧ ∃ l, achg2 A B C us vs s (p - 1) t = (l, 0) ∧ l < q ∧ ((∃ v e, opt2 X Y Z xs ys s l = (v, e) ∧ ¬ e = 0) ∨ ∃ v, opt2 X Y Z xs ys s l = (v, 0) ∧ (v < want ∨ (¬ v < want ∧ 1 < Y.length ∧ q = Y.getD 0 0))))))) := by
  obtain ⟨hT, hs, t1, t2⟩ := top_torque h
  obtain ⟨p0, p1, ⟨r, hr, hqr⟩, a2⟩ := top_air hp
  refine ⟨p0, p1, r, hr, hqr, ?_⟩
  obtain ⟨⟨g, e⟩, hg⟩ : ∃ x, opt2 X Y Z xs ys s r = x := ⟨_, rfl⟩
  by_cases he : e = 0
  · subst he
    right
    refine ⟨g, hg, by rw [top_opt hg]; exact t1 r hqr, ?_⟩
    rcases a2 with a2 | ⟨a2, l, hl, hlq⟩
    · exact .inl a2
    · refine .inr ⟨a2, l, hl, hlq, ?_⟩
      obtain ⟨⟨v, j⟩, hv⟩ : ∃ x, opt2 X Y Z xs ys s l = x := ⟨_, rfl⟩
      by_cases hj : j = 0
      · subst hj
        right
        refine ⟨v, hv, ?_⟩
        by_cases hw : v < want
        · exact .inl hw
        · refine .inr ⟨hw, by have := hT.map.2.1.1; omega, ?_⟩
          rcases t2 with t2 | t2
          · exact t2
          · have := t2 l hlq
            rw [top_opt hv] at hw
            exact absurd this hw
      · exact .inl ⟨v, j, hv, hj⟩
  · exact .inl ⟨g, e, hg, he⟩
end Go.Proofs.Ytpmjnpbigppllaa
