/- Contracts of torque's Optimal, torque and Torque. Printed by a program. -/
import Derived.Test.YtohdbneaganfbaaTorqA
import Derived.Laws.Rows
namespace Go.Proofs.Ytohdbneaganfbaa
set_option linter.unusedVariables false
set_option linter.unusedSimpArgs false
open Go.RowKit Go.ChangeShapes Go.WideShapes Go.ChangeAt

@[go_sem] def tup2 (p : Int × Int) : Value := .tuple #[.int .i64 p.1, .int .i64 p.2]
theorem tq_rows {X Y : List Int} {Z : List (List Int)} {xs ys : List Int} (h : TqOk X Y Z xs ys) {t : Nat} (ht : t < Z.length) : (∀ j, j < Y.length → 0 ≤ (Z.getD t []).getD j 0 ∧ (Z.getD t []).getD j 0 ≤ 10000) ∧ UpL (Z.getD t []) := by
  have hr := map_any h.rows ht
  unfold tqRow at hr
  rw [Bool.or_eq_false_iff] at hr
  have hl := (h.map.2.2.2 t ht).1
  refine ⟨fun j hj => any_bd hr.1 (by omega), upB_true.1 (by simpa using hr.2)⟩
theorem tq_bd {X Y : List Int} {Z : List (List Int)} {xs ys : List Int} (h : TqOk X Y Z xs ys) (s c : Int) : 0 ≤ mval X Y Z s c ∧ mval X Y Z s c ≤ 10000 :=
  mval_bd h.map (fun t j ht hj => (tq_rows h ht).1 j hj) s c
theorem tq_up {X Y : List Int} {Z : List (List Int)} {xs ys : List Int} (h : TqOk X Y Z xs ys) {s c c' : Int} (hc : c ≤ c') : mval X Y Z s c ≤ mval X Y Z s c' :=
  mval_up h.map (fun t ht => (tq_rows h ht).2) hc
theorem eff_bd {X Y : List Int} {Z : List (List Int)} {xs ys : List Int} (h : TqOk X Y Z xs ys) (l : Int) : 0 ≤ cval xs ys l ∧ cval xs ys l ≤ 1000 :=
  cval_bd h.cur (fun t ht => any_bd h.bd ht) l
theorem eff_down {X Y : List Int} {Z : List (List Int)} {xs ys : List Int} (h : TqOk X Y Z xs ys) {l l' : Int} (hl : l ≤ l') : cval xs ys l' ≤ cval xs ys l := cval_down h.cur h.down hl
/-- The torque, in plain terms. -/
@[irreducible] def tqV (o e f c : Int) : Int := o * e * f / (1000 * c)
theorem tqV_num {o e f : Int} (o0 : 0 ≤ o) (o1 : o ≤ 10000) (e0 : 0 ≤ e) (e1 : e ≤ 1000) (f0 : 0 ≤ f) (f1 : f ≤ 8) : 0 ≤ o * e ∧ o * e ≤ 10000000 ∧ 0 ≤ o * e * f ∧ o * e * f ≤ 80000000 := by
  have h1 : 0 ≤ o * e := Int.mul_nonneg o0 e0
  have h2 : o * e ≤ 10000 * 1000 := Int.mul_le_mul o1 e1 e0 (by omega)
  exact ⟨h1, by omega, Int.mul_nonneg h1 f0, by have := Int.mul_le_mul (show o * e ≤ 10000000 by omega) f1 f0 (by omega); omega⟩
noncomputable def opt2 (X Y : List Int) (Z : List (List Int)) (xs ys : List Int) (s c : Int) : Int × Int :=
  if tqB X Y Z xs ys = true then (if inB s 0 12000 = true ∧ inB c 0 1048576 = true then (mval X Y Z s c, 0) else (0, 2)) else (0, 1)
theorem opt2_cases (X Y : List Int) (Z : List (List Int)) (xs ys : List Int) (s c : Int) : (opt2 X Y Z xs ys s c = (0, 1) ∧ ¬ TqOk X Y Z xs ys) ∨ (opt2 X Y Z xs ys s c = (0, 2) ∧ TqOk X Y Z xs ys ∧ ¬ (inB s 0 12000 = true ∧ inB c 0 1048576 = true)) ∨
    (opt2 X Y Z xs ys s c = (mval X Y Z s c, 0) ∧ TqOk X Y Z xs ys ∧ inB s 0 12000 = true ∧ inB c 0 1048576 = true ∧ 0 ≤ mval X Y Z s c ∧ mval X Y Z s c ≤ 10000) := by
  unfold opt2
  split
  · rename_i h
    have hT := tqB_true.1 h
    split
    · rename_i h2
      have ⟨b1, b2⟩ := tq_bd hT s c
      exact .inr (.inr ⟨rfl, hT, h2.1, h2.2, b1, b2⟩)
    · rename_i h2
      exact .inr (.inl ⟨rfl, hT, h2⟩)
  · rename_i h
    exact .inl ⟨rfl, fun hT => h (tqB_true.2 hT)⟩

noncomputable def tor2 (X Y : List Int) (Z : List (List Int)) (xs ys : List Int) (s c l f n : Int) : Int × Int :=
  if (opt2 X Y Z xs ys s c).2 = 0 then (if inB l 0 2560 = true ∧ inB n 1 8 = true ∧ inB f 0 n = true then (tqV (mval X Y Z s c) (cval xs ys l) f n, 0) else (0, 2)) else (0, (opt2 X Y Z xs ys s c).2)
end Go.Proofs.Ytohdbneaganfbaa
