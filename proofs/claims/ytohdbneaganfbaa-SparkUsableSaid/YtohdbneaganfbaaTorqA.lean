/- Contracts of torque's within, outside and Valid. Printed by a program. -/
import Derived.Test.YtohdbneaganfbaaTabs
import Derived.Test.YtohdbneaganfbaaSurfC
namespace Go.Proofs.Ytohdbneaganfbaa
set_option linter.unusedVariables false
set_option linter.unusedSimpArgs false
open Go.RowKit Go.ChangeShapes Go.WideShapes Go.ChangeAt

open Classical in
noncomputable def downB (xs : List Int) : Bool := decide (DownL xs)
theorem downB_true {xs : List Int} : downB xs = true ↔ DownL xs := by simp [downB]
theorem downB_false {xs : List Int} : downB xs = false ↔ ¬ DownL xs := by simp [downB]
/-- A row of the torques. -/
noncomputable def tqRow (row : List Int) : Bool := row.any (fun z => !inB z 0 10000) || !upB row
structure TqOk (X Y : List Int) (Z : List (List Int)) (xs ys : List Int) : Prop where
  map : MapOk X Y Z
  cur : CurveOk xs ys
  bd : ys.any (fun y => !inB y 0 1000) = false
  down : DownL ys
  rows : Z.any tqRow = false
open Classical in
noncomputable def tqB (X Y : List Int) (Z : List (List Int)) (xs ys : List Int) : Bool := decide (TqOk X Y Z xs ys)
theorem tqB_true {X Y : List Int} {Z : List (List Int)} {xs ys : List Int} : tqB X Y Z xs ys = true ↔ TqOk X Y Z xs ys := by simp [tqB]
theorem tqB_false {X Y : List Int} {Z : List (List Int)} {xs ys : List Int} : tqB X Y Z xs ys = false ↔ ¬ TqOk X Y Z xs ys := by simp [tqB]

end Go.Proofs.Ytohdbneaganfbaa
