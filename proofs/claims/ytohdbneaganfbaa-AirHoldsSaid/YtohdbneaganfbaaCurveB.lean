/- Bounds of the value of a curve, and that it rises or falls with its nodes. -/
import Derived.Test.YtohdbneaganfbaaCurveW
namespace Go.Proofs.Ytohdbneaganfbaa
set_option linter.unusedVariables false
set_option linter.unusedSimpArgs false

theorem cval_bd {xs ys : List Int} (h : CurveOk xs ys) {lo hi : Int} (hb : ∀ t, t < ys.length → lo ≤ ys.getD t 0 ∧ ys.getD t 0 ≤ hi) (x : Int) : lo ≤ cval xs ys x ∧ cval xs ys x ≤ hi := by
  obtain ⟨hl, hax, hfy⟩ := h
  have h2 := hax.1
  unfold cval
  split
  · exact hb 0 (by omega)
  · rename_i h0
    split
    · exact hb (xs.length - 1) (by omega)
    · rename_i h1
      obtain ⟨s1, s2, s3⟩ := seg_spec hax h0 h1
      have f1 := far_bd hax.2.2.1 (show segI xs x < xs.length by omega)
      have f2 := far_bd hax.2.2.1 (show segI xs x + 1 < xs.length by omega)
      have f3 := far_bd hfy (show segI xs x < ys.length by omega)
      have f4 := far_bd hfy (show segI xs x + 1 < ys.length by omega)
      have b3 := hb (segI xs x) (by omega)
      have b4 := hb (segI xs x + 1) (by omega)
      obtain ⟨p1, p2, p3, p4⟩ := cval_num (x := x) f1.1 f2.2 s2 s3 f3.1 f3.2 f4.1 f4.2
      omega

def UpL (ys : List Int) : Prop := ∀ t, t + 1 < ys.length → ys.getD t 0 ≤ ys.getD (t + 1) 0
def DownL (ys : List Int) : Prop := ∀ t, t + 1 < ys.length → ys.getD (t + 1) 0 ≤ ys.getD t 0
theorem up_le {ys : List Int} (h : UpL ys) {a b : Nat} (hab : a ≤ b) (hb : b < ys.length) : ys.getD a 0 ≤ ys.getD b 0 := by
  induction b with
  | zero => obtain rfl : a = 0 := by omega
            exact Int.le_refl _
  | succ b ih =>
    by_cases e : a = b + 1
    · subst e; exact Int.le_refl _
    · exact Int.le_trans (ih (by omega) (by omega)) (h b hb)
theorem down_le {ys : List Int} (h : DownL ys) {a b : Nat} (hab : a ≤ b) (hb : b < ys.length) : ys.getD b 0 ≤ ys.getD a 0 := by
  induction b with
  | zero => obtain rfl : a = 0 := by omega
            exact Int.le_refl _
  | succ b ih =>
    by_cases e : a = b + 1
    · subst e; exact Int.le_refl _
    · exact Int.le_trans (h b hb) (ih (by omega) (by omega))

theorem seg_mono {xs : List Int} {x x' : Int} (h : AxisOk xs) (hx : x ≤ x') (h0 : ¬ x ≤ xs.getD 0 0) (h1 : ¬ xs.getD (xs.length - 1) 0 ≤ x) (h0' : ¬ x' ≤ xs.getD 0 0) (h1' : ¬ xs.getD (xs.length - 1) 0 ≤ x') : segI xs x ≤ segI xs x' := by
  obtain ⟨a1, a2, a3⟩ := seg_spec h h0 h1
  obtain ⟨b1, b2, b3⟩ := seg_spec h h0' h1'
  rcases Nat.lt_or_ge (segI xs x') (segI xs x) with c | c
  · have : xs.getD (segI xs x' + 1) 0 ≤ xs.getD (segI xs x) 0 := by
      by_cases e : segI xs x' + 1 = segI xs x
      · rw [e]; exact Int.le_refl _
      · exact Int.le_of_lt (axis_mono h (by omega) (by omega))
    omega
  · exact c

/-- Between two nodes. -/
theorem mid_bd {xs ys : List Int} (h : CurveOk xs ys) (x : Int) (h0 : ¬ x ≤ xs.getD 0 0) (h1 : ¬ xs.getD (xs.length - 1) 0 ≤ x) :
    min (ys.getD (segI xs x) 0) (ys.getD (segI xs x + 1) 0) ≤ cval xs ys x ∧ cval xs ys x ≤ max (ys.getD (segI xs x) 0) (ys.getD (segI xs x + 1) 0) := by
  obtain ⟨hl, hax, hfy⟩ := h
  obtain ⟨s1, s2, s3⟩ := seg_spec hax h0 h1
  have f1 := far_bd hax.2.2.1 (show segI xs x < xs.length by omega)
  have f2 := far_bd hax.2.2.1 (show segI xs x + 1 < xs.length by omega)
  have f3 := far_bd hfy (show segI xs x < ys.length by omega)
  have f4 := far_bd hfy (show segI xs x + 1 < ys.length by omega)
  obtain ⟨p1, p2, p3, p4⟩ := cval_num (x := x) f1.1 f2.2 s2 s3 f3.1 f3.2 f4.1 f4.2
  unfold cval
  rw [if_neg h0, if_neg h1]
  exact ⟨p3, p4⟩

theorem cval_up {xs ys : List Int} (h : CurveOk xs ys) (hu : UpL ys) {x x' : Int} (hx : x ≤ x') : cval xs ys x ≤ cval xs ys x' := by
  obtain ⟨hl, hax, hfy⟩ := h
  have h2 := hax.1
  have hall := cval_bd ⟨hl, hax, hfy⟩ (lo := ys.getD 0 0) (hi := ys.getD (xs.length - 1) 0) (fun t ht => ⟨up_le hu (by omega) ht, up_le hu (by omega) (by omega)⟩)
  by_cases a0 : x ≤ xs.getD 0 0
  · have e : cval xs ys x = ys.getD 0 0 := by simp only [cval, a0, if_true]
    rw [e]; exact (hall x').1
  · by_cases a1 : xs.getD (xs.length - 1) 0 ≤ x'
    · have a0' : ¬ x' ≤ xs.getD 0 0 := by
        have := axis_mono hax (show 0 < xs.length - 1 by omega) (by omega)
        omega
      have e : cval xs ys x' = ys.getD (xs.length - 1) 0 := by simp only [cval, a0', a1, if_true, if_false]
      rw [e]; exact (hall x).2
    · have a1' : ¬ xs.getD (xs.length - 1) 0 ≤ x := by omega
      have a0' : ¬ x' ≤ xs.getD 0 0 := by omega
      have hs := seg_mono hax hx a0 a1' a0' a1
      obtain ⟨s1, s2, s3⟩ := seg_spec hax a0 a1'
      obtain ⟨t1, t2, t3⟩ := seg_spec hax a0' a1
      rcases Nat.lt_or_ge (segI xs x) (segI xs x') with c | c
      · have m1 := (mid_bd ⟨hl, hax, hfy⟩ x a0 a1').2
        have m2 := (mid_bd ⟨hl, hax, hfy⟩ x' a0' a1).1
        have u1 := up_le hu (show segI xs x ≤ segI xs x + 1 by omega) (by omega)
        have u2 := up_le hu (show segI xs x + 1 ≤ segI xs x' by omega) (by omega)
        have u3 := up_le hu (show segI xs x' ≤ segI xs x' + 1 by omega) (by omega)
        omega
      · have e : segI xs x' = segI xs x := by omega
        unfold cval
        rw [if_neg a0, if_neg a1', if_neg a0', if_neg a1, e]
        have u1 := up_le hu (show segI xs x ≤ segI xs x + 1 by omega) (by omega)
        have hd : 0 < xs.getD (segI xs x + 1) 0 - xs.getD (segI xs x) 0 := by omega
        have hm : (x - xs.getD (segI xs x) 0) * (ys.getD (segI xs x + 1) 0 - ys.getD (segI xs x) 0) ≤ (x' - xs.getD (segI xs x) 0) * (ys.getD (segI xs x + 1) 0 - ys.getD (segI xs x) 0) :=
          Int.mul_le_mul_of_nonneg_right (by omega) (by omega)
        have := Int.ediv_le_ediv hd hm
        omega

theorem cval_down {xs ys : List Int} (h : CurveOk xs ys) (hu : DownL ys) {x x' : Int} (hx : x ≤ x') : cval xs ys x' ≤ cval xs ys x := by
  obtain ⟨hl, hax, hfy⟩ := h
  have h2 := hax.1
  have hall := cval_bd ⟨hl, hax, hfy⟩ (lo := ys.getD (xs.length - 1) 0) (hi := ys.getD 0 0) (fun t ht => ⟨down_le hu (by omega) (by omega), down_le hu (by omega) ht⟩)
  by_cases a0 : x ≤ xs.getD 0 0
  · have e : cval xs ys x = ys.getD 0 0 := by simp only [cval, a0, if_true]
    rw [e]; exact (hall x').2
  · by_cases a1 : xs.getD (xs.length - 1) 0 ≤ x'
    · have a0' : ¬ x' ≤ xs.getD 0 0 := by
        have := axis_mono hax (show 0 < xs.length - 1 by omega) (by omega)
        omega
      have e : cval xs ys x' = ys.getD (xs.length - 1) 0 := by simp only [cval, a0', a1, if_true, if_false]
      rw [e]; exact (hall x).1
    · have a1' : ¬ xs.getD (xs.length - 1) 0 ≤ x := by omega
      have a0' : ¬ x' ≤ xs.getD 0 0 := by omega
      have hs := seg_mono hax hx a0 a1' a0' a1
      obtain ⟨s1, s2, s3⟩ := seg_spec hax a0 a1'
      obtain ⟨t1, t2, t3⟩ := seg_spec hax a0' a1
      rcases Nat.lt_or_ge (segI xs x) (segI xs x') with c | c
      · have m1 := (mid_bd ⟨hl, hax, hfy⟩ x a0 a1').1
        have m2 := (mid_bd ⟨hl, hax, hfy⟩ x' a0' a1).2
        have u1 := down_le hu (show segI xs x ≤ segI xs x + 1 by omega) (by omega)
        have u2 := down_le hu (show segI xs x + 1 ≤ segI xs x' by omega) (by omega)
        have u3 := down_le hu (show segI xs x' ≤ segI xs x' + 1 by omega) (by omega)
        omega
      · have e : segI xs x' = segI xs x := by omega
        unfold cval
        rw [if_neg a0, if_neg a1', if_neg a0', if_neg a1, e]
        have u1 := down_le hu (show segI xs x ≤ segI xs x + 1 by omega) (by omega)
        have hd : 0 < xs.getD (segI xs x + 1) 0 - xs.getD (segI xs x) 0 := by omega
        have hm : (x' - xs.getD (segI xs x) 0) * (ys.getD (segI xs x + 1) 0 - ys.getD (segI xs x) 0) ≤ (x - xs.getD (segI xs x) 0) * (ys.getD (segI xs x + 1) 0 - ys.getD (segI xs x) 0) :=
          Int.mul_le_mul_of_nonpos_right (by omega) (by omega)
        have := Int.ediv_le_ediv hd hm
        omega

end Go.Proofs.Ytohdbneaganfbaa
