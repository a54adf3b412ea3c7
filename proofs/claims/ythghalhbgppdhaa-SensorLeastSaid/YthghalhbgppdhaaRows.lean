/-
  No cell of these rows narrows 'for every input' (looked for: loops, veiled, ifaces, maps, wideKeys, modest, calm, conditions, laid).
  DERIVED. THE GIVEN ROWS OF THIS SEAT. 8 by the template 'for every input the law returns true; each argument reads behind the call as it read before'; 0 by the template 'total and deterministic' (their statements: YthghalhbgppdhaaTotals.lean).
  GIVEN WITH THE SEED: the statements are not yours to turn. If you find one false, say at which input.
  Laid BY PROGRAM, IN A SANDBOX (cutbox-rows.mjs): the forced cells as the released guide's own fill.sh prints them over the translation c484e10836cc6ffd… (all of the seat's roots in one cut). By AI agents, Wed Nov 11 2026. No macro, syntax, notation, axiom, sorry.
-/
import Derived.Test.YthghalhbgppdhaaChecked
import GoSem.Claim
import GoSem.ClaimJoined
import GoSem.ClaimMapViews
import Derived.JoinedTies
import Derived.KernelRfl
namespace Go.Proofs.Ythghalhbgppdhaa
/- THE CELL 'sum', in the pinned program and in every row, IS THE sha256 OF THE DUMP (.gsa) THAT YthghalhbgppdhaaProg.lean LOADS. Nothing in Lean hashes anything: it is a label: what it is worth is what the hold of that sum in a sandbox is worth. -/
noncomputable def Try.pinned : Pinned := { name := "ythghalhbgppdhaa", sum := "c484e10836cc6ffdd9061aea41bd4665de06394d7b639467c527e57918154443", checked := Try.checked }
namespace Rows
def none {H : Type} : Left H := { results := [], args := [] }

/-- 'magnetolaw26.SensorConverts': WHATEVER THE INPUT: true; the input reads as it did. -/
def sensorConvertsSpec : ChangeSpec := { name := "sensorConverts", fn := fun _ => fun
  | [d1, d2] => { results := [.lit (.bool true)], args := [d1, d2] }
  | _ => none }
def sensorConvertsRow : OpenClaim := { program := "ythghalhbgppdhaa", sum := "c484e10836cc6ffdd9061aea41bd4665de06394d7b639467c527e57918154443", func := "magneto/magnetolaw26.SensorConverts", spec := "sensorConverts", apart := false }
def SensorConvertsSaid : Prop := sensorConvertsRow.holds Try.pinned (OpenSpec.ofChange sensorConvertsSpec)

/-- ITS FALSE NEIGHBOUR: 'it returns false'. Refute it at one input. -/
def sensorConvertsWrong : ChangeSpec := { name := "sensorConverts", fn := fun _ => fun
  | [d1, d2] => { results := [.lit (.bool false)], args := [d1, d2] }
  | _ => none }
def SensorConvertsWrongFalsely : Prop := sensorConvertsRow.holds Try.pinned (OpenSpec.ofChange sensorConvertsWrong)

/-- 'magnetolaw26.SensorBack': WHATEVER THE INPUT: true; the input reads as it did. -/
def sensorBackSpec : ChangeSpec := { name := "sensorBack", fn := fun _ => fun
  | [d1, d2, d3] => { results := [.lit (.bool true)], args := [d1, d2, d3] }
  | _ => none }
def sensorBackRow : OpenClaim := { program := "ythghalhbgppdhaa", sum := "c484e10836cc6ffdd9061aea41bd4665de06394d7b639467c527e57918154443", func := "magneto/magnetolaw26.SensorBack", spec := "sensorBack", apart := false }
def SensorBackSaid : Prop := sensorBackRow.holds Try.pinned (OpenSpec.ofChange sensorBackSpec)

/-- ITS FALSE NEIGHBOUR: 'it returns false'. Refute it at one input. -/
def sensorBackWrong : ChangeSpec := { name := "sensorBack", fn := fun _ => fun
  | [d1, d2, d3] => { results := [.lit (.bool false)], args := [d1, d2, d3] }
  | _ => none }
def SensorBackWrongFalsely : Prop := sensorBackRow.holds Try.pinned (OpenSpec.ofChange sensorBackWrong)

/-- 'magnetolaw26.SensorValues': WHATEVER THE INPUT: true; the input reads as it did. -/
def sensorValuesSpec : ChangeSpec := { name := "sensorValues", fn := fun _ => fun
  | [d1, d2] => { results := [.lit (.bool true)], args := [d1, d2] }
  | _ => none }
def sensorValuesRow : OpenClaim := { program := "ythghalhbgppdhaa", sum := "c484e10836cc6ffdd9061aea41bd4665de06394d7b639467c527e57918154443", func := "magneto/magnetolaw26.SensorValues", spec := "sensorValues", unfollowed := true, recurses := true, named := ["math/bits.divideError", "math/bits.overflowError"], apart := false }
def SensorValuesSaid : Prop := sensorValuesRow.holds Try.pinned (OpenSpec.ofChange sensorValuesSpec)

/-- ITS FALSE NEIGHBOUR: 'it returns false'. Refute it at one input. -/
def sensorValuesWrong : ChangeSpec := { name := "sensorValues", fn := fun _ => fun
  | [d1, d2] => { results := [.lit (.bool false)], args := [d1, d2] }
  | _ => none }
def SensorValuesWrongFalsely : Prop := sensorValuesRow.holds Try.pinned (OpenSpec.ofChange sensorValuesWrong)

/-- 'magnetolaw26.SensorPlausible': WHATEVER THE INPUT: true; the input reads as it did. -/
def sensorPlausibleSpec : ChangeSpec := { name := "sensorPlausible", fn := fun _ => fun
  | [d1, d2] => { results := [.lit (.bool true)], args := [d1, d2] }
  | _ => none }
def sensorPlausibleRow : OpenClaim := { program := "ythghalhbgppdhaa", sum := "c484e10836cc6ffdd9061aea41bd4665de06394d7b639467c527e57918154443", func := "magneto/magnetolaw26.SensorPlausible", spec := "sensorPlausible", unfollowed := true, recurses := true, named := ["math/bits.divideError", "math/bits.overflowError"], apart := false }
def SensorPlausibleSaid : Prop := sensorPlausibleRow.holds Try.pinned (OpenSpec.ofChange sensorPlausibleSpec)

/-- ITS FALSE NEIGHBOUR: 'it returns false'. Refute it at one input. -/
def sensorPlausibleWrong : ChangeSpec := { name := "sensorPlausible", fn := fun _ => fun
  | [d1, d2] => { results := [.lit (.bool false)], args := [d1, d2] }
  | _ => none }
def SensorPlausibleWrongFalsely : Prop := sensorPlausibleRow.holds Try.pinned (OpenSpec.ofChange sensorPlausibleWrong)

/-- 'magnetolaw26.SensorSteps': WHATEVER THE INPUT: true; the input reads as it did. -/
def sensorStepsSpec : ChangeSpec := { name := "sensorSteps", fn := fun _ => fun
  | [d1, d2, d3, d4] => { results := [.lit (.bool true)], args := [d1, d2, d3, d4] }
  | _ => none }
def sensorStepsRow : OpenClaim := { program := "ythghalhbgppdhaa", sum := "c484e10836cc6ffdd9061aea41bd4665de06394d7b639467c527e57918154443", func := "magneto/magnetolaw26.SensorSteps", spec := "sensorSteps", unfollowed := true, recurses := true, named := ["math/bits.divideError", "math/bits.overflowError"], apart := false }
def SensorStepsSaid : Prop := sensorStepsRow.holds Try.pinned (OpenSpec.ofChange sensorStepsSpec)

/-- ITS FALSE NEIGHBOUR: 'it returns false'. Refute it at one input. -/
def sensorStepsWrong : ChangeSpec := { name := "sensorSteps", fn := fun _ => fun
  | [d1, d2, d3, d4] => { results := [.lit (.bool false)], args := [d1, d2, d3, d4] }
  | _ => none }
def SensorStepsWrongFalsely : Prop := sensorStepsRow.holds Try.pinned (OpenSpec.ofChange sensorStepsWrong)

/-- 'magnetolaw26.SensorHolds': WHATEVER THE INPUT: true; the input reads as it did. -/
def sensorHoldsSpec : ChangeSpec := { name := "sensorHolds", fn := fun _ => fun
  | [d1, d2, d3] => { results := [.lit (.bool true)], args := [d1, d2, d3] }
  | _ => none }
def sensorHoldsRow : OpenClaim := { program := "ythghalhbgppdhaa", sum := "c484e10836cc6ffdd9061aea41bd4665de06394d7b639467c527e57918154443", func := "magneto/magnetolaw26.SensorHolds", spec := "sensorHolds", unfollowed := true, recurses := true, named := ["math/bits.divideError", "math/bits.overflowError"], apart := false }
def SensorHoldsSaid : Prop := sensorHoldsRow.holds Try.pinned (OpenSpec.ofChange sensorHoldsSpec)

/-- ITS FALSE NEIGHBOUR: 'it returns false'. Refute it at one input. -/
def sensorHoldsWrong : ChangeSpec := { name := "sensorHolds", fn := fun _ => fun
  | [d1, d2, d3] => { results := [.lit (.bool false)], args := [d1, d2, d3] }
  | _ => none }
def SensorHoldsWrongFalsely : Prop := sensorHoldsRow.holds Try.pinned (OpenSpec.ofChange sensorHoldsWrong)

/-- 'magnetolaw26.SensorIdeals': WHATEVER THE INPUT: true; the input reads as it did. -/
def sensorIdealsSpec : ChangeSpec := { name := "sensorIdeals", fn := fun _ => fun
  | [d1, d2] => { results := [.lit (.bool true)], args := [d1, d2] }
  | _ => none }
def sensorIdealsRow : OpenClaim := { program := "ythghalhbgppdhaa", sum := "c484e10836cc6ffdd9061aea41bd4665de06394d7b639467c527e57918154443", func := "magneto/magnetolaw26.SensorIdeals", spec := "sensorIdeals", unfollowed := true, recurses := true, named := ["math/bits.divideError", "math/bits.overflowError"], apart := false }
def SensorIdealsSaid : Prop := sensorIdealsRow.holds Try.pinned (OpenSpec.ofChange sensorIdealsSpec)

/-- ITS FALSE NEIGHBOUR: 'it returns false'. Refute it at one input. -/
def sensorIdealsWrong : ChangeSpec := { name := "sensorIdeals", fn := fun _ => fun
  | [d1, d2] => { results := [.lit (.bool false)], args := [d1, d2] }
  | _ => none }
def SensorIdealsWrongFalsely : Prop := sensorIdealsRow.holds Try.pinned (OpenSpec.ofChange sensorIdealsWrong)

/-- 'magnetolaw26.SensorLeast': WHATEVER THE INPUT: true; the input reads as it did. -/
def sensorLeastSpec : ChangeSpec := { name := "sensorLeast", fn := fun _ => fun
  | [d1, d2, d3] => { results := [.lit (.bool true)], args := [d1, d2, d3] }
  | _ => none }
def sensorLeastRow : OpenClaim := { program := "ythghalhbgppdhaa", sum := "c484e10836cc6ffdd9061aea41bd4665de06394d7b639467c527e57918154443", func := "magneto/magnetolaw26.SensorLeast", spec := "sensorLeast", unfollowed := true, recurses := true, named := ["math/bits.divideError", "math/bits.overflowError"], apart := false }
def SensorLeastSaid : Prop := sensorLeastRow.holds Try.pinned (OpenSpec.ofChange sensorLeastSpec)

/-- ITS FALSE NEIGHBOUR: 'it returns false'. Refute it at one input. -/
def sensorLeastWrong : ChangeSpec := { name := "sensorLeast", fn := fun _ => fun
  | [d1, d2, d3] => { results := [.lit (.bool false)], args := [d1, d2, d3] }
  | _ => none }
def SensorLeastWrongFalsely : Prop := sensorLeastRow.holds Try.pinned (OpenSpec.ofChange sensorLeastWrong)

/- THE SECOND FORM. 'bulk': how many values and letters a reading holds, each counted each time it is reached (what is shared counts as often as it is met; a slice's spare places count too). A statement '..UptoSaid' is the law's where the arguments, and the package variables that the reading takes, are together of bulk at most 1048576: NARROWER than '..Said'. Prove '..Said' where nothing that the law and all that it calls make is longer than what came in: it says more and counts as full. Else prove '..UptoSaid'. A law counts once. -/
mutual
def uptoBulk {H : Type} : DataW H → Nat
  | .lit (.string bytes) => bytes.length + 1
  | .lit _ => 1
  | .nil => 1
  | .ptr d => uptoBulk d + 1
  | .slice elems spare => uptoBulkAll elems + uptoBulkAll spare + 1
  | .agg parts => uptoBulkAll parts + 1
  | .iface _ d => uptoBulk d + 1
  | .map entries => uptoBulkEntries entries + 1
  | .held _ => 1
def uptoBulkAll {H : Type} : List (DataW H) → Nat
  | [] => 0
  | d :: r => uptoBulk d + uptoBulkAll r
def uptoBulkEntries {H : Type} : List (Lit × DataW H) → Nat
  | [] => 0
  | x :: r => uptoBulkEntry x + uptoBulkEntries r
def uptoBulkEntry {H : Type} : Lit × DataW H → Nat
  | (.string bytes, d) => bytes.length + uptoBulk d + 1
  | (_, d) => uptoBulk d + 1
 end
def uptoSmall : (H : Type) → List (DataW H) → Bool := fun _ ds => decide (uptoBulkAll ds ≤ 1048576)
def OpenSpec.upto (s : _root_.Go.ChangeSpec) : _root_.Go.OpenSpec := { _root_.Go.OpenSpec.ofChange s with cond := some uptoSmall }

/-- 'magnetolaw26.SensorConverts', WHERE WHAT IT READS IS OF BULK AT MOST 1048576: true; the input reads as it did. -/
def sensorConvertsUptoRow : OpenClaim := { program := "ythghalhbgppdhaa", sum := "c484e10836cc6ffdd9061aea41bd4665de06394d7b639467c527e57918154443", func := "magneto/magnetolaw26.SensorConverts", spec := "sensorConverts", apart := false, narrowed := true }
def SensorConvertsUptoSaid : Prop := sensorConvertsUptoRow.holds Try.pinned (OpenSpec.upto sensorConvertsSpec)

/-- 'magnetolaw26.SensorBack', WHERE WHAT IT READS IS OF BULK AT MOST 1048576: true; the input reads as it did. -/
def sensorBackUptoRow : OpenClaim := { program := "ythghalhbgppdhaa", sum := "c484e10836cc6ffdd9061aea41bd4665de06394d7b639467c527e57918154443", func := "magneto/magnetolaw26.SensorBack", spec := "sensorBack", apart := false, narrowed := true }
def SensorBackUptoSaid : Prop := sensorBackUptoRow.holds Try.pinned (OpenSpec.upto sensorBackSpec)

/-- 'magnetolaw26.SensorValues', WHERE WHAT IT READS IS OF BULK AT MOST 1048576: true; the input reads as it did. -/
def sensorValuesUptoRow : OpenClaim := { program := "ythghalhbgppdhaa", sum := "c484e10836cc6ffdd9061aea41bd4665de06394d7b639467c527e57918154443", func := "magneto/magnetolaw26.SensorValues", spec := "sensorValues", unfollowed := true, recurses := true, named := ["math/bits.divideError", "math/bits.overflowError"], apart := false, narrowed := true }
def SensorValuesUptoSaid : Prop := sensorValuesUptoRow.holds Try.pinned (OpenSpec.upto sensorValuesSpec)

/-- 'magnetolaw26.SensorPlausible', WHERE WHAT IT READS IS OF BULK AT MOST 1048576: true; the input reads as it did. -/
def sensorPlausibleUptoRow : OpenClaim := { program := "ythghalhbgppdhaa", sum := "c484e10836cc6ffdd9061aea41bd4665de06394d7b639467c527e57918154443", func := "magneto/magnetolaw26.SensorPlausible", spec := "sensorPlausible", unfollowed := true, recurses := true, named := ["math/bits.divideError", "math/bits.overflowError"], apart := false, narrowed := true }
def SensorPlausibleUptoSaid : Prop := sensorPlausibleUptoRow.holds Try.pinned (OpenSpec.upto sensorPlausibleSpec)

/-- 'magnetolaw26.SensorSteps', WHERE WHAT IT READS IS OF BULK AT MOST 1048576: true; the input reads as it did. -/
def sensorStepsUptoRow : OpenClaim := { program := "ythghalhbgppdhaa", sum := "c484e10836cc6ffdd9061aea41bd4665de06394d7b639467c527e57918154443", func := "magneto/magnetolaw26.SensorSteps", spec := "sensorSteps", unfollowed := true, recurses := true, named := ["math/bits.divideError", "math/bits.overflowError"], apart := false, narrowed := true }
def SensorStepsUptoSaid : Prop := sensorStepsUptoRow.holds Try.pinned (OpenSpec.upto sensorStepsSpec)

/-- 'magnetolaw26.SensorHolds', WHERE WHAT IT READS IS OF BULK AT MOST 1048576: true; the input reads as it did. -/
def sensorHoldsUptoRow : OpenClaim := { program := "ythghalhbgppdhaa", sum := "c484e10836cc6ffdd9061aea41bd4665de06394d7b639467c527e57918154443", func := "magneto/magnetolaw26.SensorHolds", spec := "sensorHolds", unfollowed := true, recurses := true, named := ["math/bits.divideError", "math/bits.overflowError"], apart := false, narrowed := true }
def SensorHoldsUptoSaid : Prop := sensorHoldsUptoRow.holds Try.pinned (OpenSpec.upto sensorHoldsSpec)

/-- 'magnetolaw26.SensorIdeals', WHERE WHAT IT READS IS OF BULK AT MOST 1048576: true; the input reads as it did. -/
def sensorIdealsUptoRow : OpenClaim := { program := "ythghalhbgppdhaa", sum := "c484e10836cc6ffdd9061aea41bd4665de06394d7b639467c527e57918154443", func := "magneto/magnetolaw26.SensorIdeals", spec := "sensorIdeals", unfollowed := true, recurses := true, named := ["math/bits.divideError", "math/bits.overflowError"], apart := false, narrowed := true }
def SensorIdealsUptoSaid : Prop := sensorIdealsUptoRow.holds Try.pinned (OpenSpec.upto sensorIdealsSpec)

/-- 'magnetolaw26.SensorLeast', WHERE WHAT IT READS IS OF BULK AT MOST 1048576: true; the input reads as it did. -/
def sensorLeastUptoRow : OpenClaim := { program := "ythghalhbgppdhaa", sum := "c484e10836cc6ffdd9061aea41bd4665de06394d7b639467c527e57918154443", func := "magneto/magnetolaw26.SensorLeast", spec := "sensorLeast", unfollowed := true, recurses := true, named := ["math/bits.divideError", "math/bits.overflowError"], apart := false, narrowed := true }
def SensorLeastUptoSaid : Prop := sensorLeastUptoRow.holds Try.pinned (OpenSpec.upto sensorLeastSpec)

end Rows
end Go.Proofs.Ythghalhbgppdhaa
