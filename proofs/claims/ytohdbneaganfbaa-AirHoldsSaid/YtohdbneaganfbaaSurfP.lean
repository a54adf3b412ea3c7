/- Maps in plain terms: what a valid map is, its value, bounds and order of values. -/
import Derived.Test.YtohdbneaganfbaaCurveB
namespace Go.Proofs.Ytohdbneaganfbaa
set_option linter.unusedVariables false
set_option linter.unusedSimpArgs false

def RowsOk (n : Nat) (Z : List (List Int)) : Prop := ∀ t, t < Z.length → (Z.getD t []).length = n ∧ (Z.getD t []).any farB = false
def MapOk (X Y : List Int) (Z : List (List Int)) : Prop := AxisOk X ∧ AxisOk Y ∧ Z.length = X.length ∧ RowsOk Y.length Z
open Classical in
noncomputable def mapB (X Y : List Int) (Z : List (List Int)) : Bool := decide (MapOk X Y Z)
theorem mapB_true {X Y : List Int} {Z : List (List Int)} : mapB X Y Z = true ↔ MapOk X Y Z := by simp [mapB]
theorem mapB_false {X Y : List Int} {Z : List (List Int)} : mapB X Y Z = false ↔ ¬ MapOk X Y Z := by simp [mapB]

/-- A column of the grid. -/
def colZ (Z : List (List Int)) (j : Nat) : List Int := Z.map fun r => r.getD j 0
/-- The values of the columns. -/
def colV (X : List Int) (Z : List (List Int)) (x : Int) (n : Nat) : List Int := (List.range n).map fun j => cval X (colZ Z j) x
/-- The value of a map. -/
@[irreducible] def mval (X Y : List Int) (Z : List (List Int)) (x y : Int) : Int := cval Y (colV X Z x Y.length) y

theorem colZ_len (Z : List (List Int)) (j : Nat) : (colZ Z j).length = Z.length := by simp [colZ]
theorem colZ_get {Z : List (List Int)} {j t : Nat} (h : t < Z.length) : (colZ Z j).getD t 0 = (Z.getD t []).getD j 0 := by
  simp [colZ, List.getD, List.getElem?_map, List.getElem?_eq_getElem h]
theorem colV_len (X : List Int) (Z : List (List Int)) (x : Int) (n : Nat) : (colV X Z x n).length = n := by simp [colV]
theorem colV_get {X : List Int} {Z : List (List Int)} {x : Int} {n j : Nat} (h : j < n) : (colV X Z x n).getD j 0 = cval X (colZ Z j) x := by
  simp [colV, List.getD, List.getElem?_map, h]
theorem any_far_of {xs : List Int} (h : ∀ t, t < xs.length → -1073741824 ≤ xs.getD t 0 ∧ xs.getD t 0 ≤ 1073741824) : xs.any farB = false :=
  far_all fun t ht => by have := h t ht; simp only [farB, decide_eq_false_iff_not]; omega
theorem colZ_ok {X Y : List Int} {Z : List (List Int)} (h : MapOk X Y Z) {j : Nat} (hj : j < Y.length) : CurveOk X (colZ Z j) := by
  obtain ⟨hX, hY, hl, hr⟩ := h
  refine ⟨by rw [colZ_len, hl], hX, any_far_of fun t ht => ?_⟩
  rw [colZ_len] at ht
  rw [colZ_get ht]
  have ⟨h1, h2⟩ := hr t ht
  exact far_bd h2 (by omega)
theorem colV_ok {X Y : List Int} {Z : List (List Int)} (h : MapOk X Y Z) (x : Int) : CurveOk Y (colV X Z x Y.length) := by
  refine ⟨by rw [colV_len], h.2.1, any_far_of fun t ht => ?_⟩
  rw [colV_len] at ht
  rw [colV_get ht]
  have hc := colZ_ok h ht
  exact cval_bd hc (fun j hj => far_bd hc.2.2 hj) x
theorem mval_bd {X Y : List Int} {Z : List (List Int)} (h : MapOk X Y Z) {lo hi : Int} (hb : ∀ t j, t < Z.length → j < Y.length → lo ≤ (Z.getD t []).getD j 0 ∧ (Z.getD t []).getD j 0 ≤ hi) (x y : Int) : lo ≤ mval X Y Z x y ∧ mval X Y Z x y ≤ hi := by
  unfold mval
  refine cval_bd (colV_ok h x) (fun j hj => ?_) y
  rw [colV_len] at hj
  rw [colV_get hj]
  refine cval_bd (colZ_ok h hj) (fun t ht => ?_) x
  rw [colZ_len] at ht
  rw [colZ_get ht]
  exact hb t j ht hj

/-- A number led to the range of an axis. -/
def clampI (lo hi x : Int) : Int := if x < lo then lo else if hi < x then hi else x
/-- The segment of a number of the axis' range. -/
@[irreducible] def sgI (xs : List Int) (x : Int) : Nat := min (least (fun i => decide (x < xs.getD i 0)) xs.length - 1) (xs.length - 2)
theorem sg_low {xs : List Int} (h : AxisOk xs) : least (fun i => decide (xs.getD 0 0 < xs.getD i 0)) xs.length = 1 := by
  have h2 := h.1
  refine least_eq (by omega) (fun t ht => ?_) (fun hl => ?_)
  · obtain rfl : t = 0 := by omega
    simp
  · have := axis_mono h (show 0 < 1 by omega) (by omega)
    simpa using this
theorem sg_high {xs : List Int} (h : AxisOk xs) {x : Int} (hx : xs.getD (xs.length - 1) 0 ≤ x) : least (fun i => decide (x < xs.getD i 0)) xs.length = xs.length := by
  have h2 := h.1
  refine least_eq (Nat.le_refl _) (fun t ht => ?_) (fun hl => absurd hl (Nat.lt_irrefl _))
  simp only [decide_eq_false_iff_not, Int.not_lt]
  by_cases e : t = xs.length - 1
  · subst e; exact hx
  · have := axis_mono h (show t < xs.length - 1 by omega) (by omega)
    omega
theorem sg_spec {xs : List Int} (h : AxisOk xs) {x : Int} (h0 : xs.getD 0 0 ≤ x) (h1 : x ≤ xs.getD (xs.length - 1) 0) : sgI xs x + 1 < xs.length ∧ xs.getD (sgI xs x) 0 ≤ x ∧ x ≤ xs.getD (sgI xs x + 1) 0 := by
  have h2 := h.1
  by_cases a : x ≤ xs.getD 0 0
  · obtain rfl : x = xs.getD 0 0 := by omega
    have e : sgI xs (xs.getD 0 0) = 0 := by unfold sgI; rw [sg_low h]; omega
    rw [e]
    have := axis_mono h (show 0 < 0 + 1 by omega) (by omega)
    omega
  · by_cases b : xs.getD (xs.length - 1) 0 ≤ x
    · have e : sgI xs x = xs.length - 2 := by unfold sgI; rw [sg_high h b]; omega
      rw [e, show xs.length - 2 + 1 = xs.length - 1 by omega]
      have := axis_mono h (show xs.length - 2 < xs.length - 1 by omega) (by omega)
      omega
    · have ⟨s1, s2⟩ := seg_least h a b
      have ⟨g1, g2, g3⟩ := seg_spec h a b
      have e : sgI xs x = segI xs x := by unfold sgI; rw [s1]; omega
      rw [e]
      omega
theorem clamp_bd {xs : List Int} (h : AxisOk xs) (x : Int) : xs.getD 0 0 ≤ clampI (xs.getD 0 0) (xs.getD (xs.length - 1) 0) x ∧ clampI (xs.getD 0 0) (xs.getD (xs.length - 1) 0) x ≤ xs.getD (xs.length - 1) 0 := by
  have h2 := h.1
  have := axis_mono h (show 0 < xs.length - 1 by omega) (by omega)
  unfold clampI
  split
  · omega
  · split <;> omega
theorem cval_sg {xs : List Int} (h : AxisOk xs) (ys : List Int) (x : Int) {x' : Int} (hx : x' = clampI (xs.getD 0 0) (xs.getD (xs.length - 1) 0) x) :
    cval xs ys x = ys.getD (sgI xs x') 0 + (x' - xs.getD (sgI xs x') 0) * (ys.getD (sgI xs x' + 1) 0 - ys.getD (sgI xs x') 0) / (xs.getD (sgI xs x' + 1) 0 - xs.getD (sgI xs x') 0) := by
  have h2 := h.1
  have hlt := axis_mono h (show 0 < xs.length - 1 by omega) (by omega)
  by_cases a : x ≤ xs.getD 0 0
  · obtain rfl : x' = xs.getD 0 0 := by subst hx; unfold clampI; split <;> (try split) <;> omega
    have e : sgI xs (xs.getD 0 0) = 0 := by unfold sgI; rw [sg_low h]; omega
    rw [e]
    unfold cval
    rw [if_pos a, Int.sub_self, Int.zero_mul, Int.zero_ediv, Int.add_zero]
  · by_cases b : xs.getD (xs.length - 1) 0 ≤ x
    · obtain rfl : x' = xs.getD (xs.length - 1) 0 := by subst hx; unfold clampI; split <;> (try split) <;> omega
      have e : sgI xs (xs.getD (xs.length - 1) 0) = xs.length - 2 := by unfold sgI; rw [sg_high h (Int.le_refl _)]; omega
      rw [e, show xs.length - 2 + 1 = xs.length - 1 by omega]
      have := axis_mono h (show xs.length - 2 < xs.length - 1 by omega) (by omega)
      unfold cval
      rw [if_neg a, if_pos b, Int.mul_ediv_cancel_left _ (by omega)]
      omega
    · obtain rfl : x' = x := by subst hx; unfold clampI; split <;> (try split) <;> omega
      have ⟨s1, s2⟩ := seg_least h a b
      have e : sgI xs x' = segI xs x' := by unfold sgI; rw [s1]; omega
      rw [e]
      unfold cval
      rw [if_neg a, if_neg b]
theorem sg_num {x a b c d : Int} (a1 : -1073741824 ≤ a) (a2 : b ≤ 1073741824) (hab : a < b) (b1 : a ≤ x) (b2 : x ≤ b) (c1 : -1073741824 ≤ c) (c2 : c ≤ 1073741824) (d1 : -1073741824 ≤ d) (d2 : d ≤ 1073741824) :
    -4611686018427387904 ≤ (x - a) * (d - c) ∧ (x - a) * (d - c) ≤ 4611686018427387904 ∧ min c d ≤ c + (x - a) * (d - c) / (b - a) ∧ c + (x - a) * (d - c) / (b - a) ≤ max c d := by
  by_cases h : x < b
  · exact cval_num a1 a2 b1 h c1 c2 d1 d2
  · obtain rfl : x = b := by omega
    have e : (x - a) * (d - c) / (x - a) = d - c := Int.mul_ediv_cancel_left _ (by omega)
    rw [e]
    by_cases g : 0 ≤ d - c
    · have g1 : 0 ≤ (x - a) * (d - c) := Int.mul_nonneg (by omega) g
      have g2 : (x - a) * (d - c) ≤ 2147483648 * 2147483648 := Int.mul_le_mul (by omega) (by omega) g (by omega)
      omega
    · have en : (x - a) * (d - c) = -((x - a) * (c - d)) := by rw [← Int.mul_neg]; congr 1; omega
      have g1 : 0 ≤ (x - a) * (c - d) := Int.mul_nonneg (by omega) (by omega)
      have g2 : (x - a) * (c - d) ≤ 2147483648 * 2147483648 := Int.mul_le_mul (by omega) (by omega) (by omega) (by omega)
      omega
/-- Greater nodes, no less a value. -/
theorem cval_le {xs ys zs : List Int} (hy : CurveOk xs ys) (hz : CurveOk xs zs) (h : ∀ t, t < xs.length → ys.getD t 0 ≤ zs.getD t 0) (x : Int) : cval xs ys x ≤ cval xs zs x := by
  have hax := hy.2.1
  have ⟨c1, c2⟩ := clamp_bd hax x
  have e1 := cval_sg hax ys x rfl
  have e2 := cval_sg hax zs x rfl
  generalize clampI (xs.getD 0 0) (xs.getD (xs.length - 1) 0) x = x' at *
  have ⟨s1, s2, s3⟩ := sg_spec hax c1 c2
  have l1 := h (sgI xs x') (by omega)
  have l2 := h (sgI xs x' + 1) s1
  have l3 := axis_mono hax (show sgI xs x' < sgI xs x' + 1 by omega) s1
  rw [e1, e2]
  clear e1 e2
  generalize xs.getD (sgI xs x') 0 = a at *
  generalize xs.getD (sgI xs x' + 1) 0 = b at *
  generalize ys.getD (sgI xs x') 0 = c at *
  generalize ys.getD (sgI xs x' + 1) 0 = d at *
  generalize zs.getD (sgI xs x') 0 = c' at *
  generalize zs.getD (sgI xs x' + 1) 0 = d' at *
  have hp : 0 < b - a := by omega
  have hq : 0 ≤ x' - a := by omega
  have hq2 : 0 ≤ b - a - (x' - a) := by omega
  generalize x' - a = q at *
  generalize b - a = D at *
  have k1 := Int.mul_le_mul_of_nonneg_left l2 hq
  have k2 := Int.mul_le_mul_of_nonneg_right l1 hq2
  rw [Int.mul_sub, Int.mul_sub] at k2
  have e1 := Int.add_mul_ediv_right (q * (d - c)) c (show D ≠ 0 by omega)
  have e2 := Int.add_mul_ediv_right (q * (d' - c')) c' (show D ≠ 0 by omega)
  have := Int.ediv_le_ediv hp (show q * (d - c) + c * D ≤ q * (d' - c') + c' * D by
    rw [Int.mul_sub, Int.mul_sub, Int.mul_comm q c, Int.mul_comm q c']
    omega)
  omega
theorem mval_up {X Y : List Int} {Z : List (List Int)} (h : MapOk X Y Z) (hu : ∀ t, t < Z.length → UpL (Z.getD t [])) {x y y' : Int} (hy : y ≤ y') : mval X Y Z x y ≤ mval X Y Z x y' := by
  unfold mval
  refine cval_up (colV_ok h x) (fun j hj => ?_) hy
  rw [colV_len] at hj
  rw [colV_get hj, colV_get (show j < Y.length by omega)]
  refine cval_le (colZ_ok h (by omega)) (colZ_ok h hj) (fun t ht => ?_) x
  have ht2 : t < Z.length := by rw [h.2.2.1]; exact ht
  rw [colZ_get ht2, colZ_get ht2]
  exact hu t ht2 j (by rw [(h.2.2.2 t ht2).1]; exact hj)
end Go.Proofs.Ytohdbneaganfbaa
