/-
  No cell of these rows narrows 'for every input' (looked for: loops, veiled, ifaces, maps, wideKeys, modest, calm, conditions, laid).
  DERIVED. THE GIVEN ROWS OF THIS SEAT. 12 by the template 'for every input the law returns true; each argument reads behind the call as it read before'; 0 by the template 'total and deterministic' (their statements: YtohdbneaganfbaaTotals.lean).
  GIVEN WITH THE SEED: the statements are not yours to turn. If you find one false, say at which input.
  Laid BY PROGRAM, IN A SANDBOX (cutbox-rows.mjs): the forced cells as the released guide's own fill.sh prints them over the translation f9a6460c1798f265… (all of the seat's roots in one cut). By AI agents, Wed Nov 11 2026. No macro, syntax, notation, axiom, sorry.
-/
import Derived.Test.YtohdbneaganfbaaChecked
import GoSem.Claim
import GoSem.ClaimJoined
import GoSem.ClaimMapViews
import Derived.JoinedTies
import Derived.KernelRfl
namespace Go.Proofs.Ytohdbneaganfbaa
/- THE CELL 'sum', in the pinned program and in every row, IS THE sha256 OF THE DUMP (.gsa) THAT YtohdbneaganfbaaProg.lean LOADS. Nothing in Lean hashes anything: it is a label: what it is worth is what the hold of that sum in a sandbox is worth. -/
noncomputable def Try.pinned : Pinned := { name := "ytohdbneaganfbaa", sum := "f9a6460c1798f2656a2eeaa9d8563986c932f74f39cbff3de40df9ca40b72817", checked := Try.checked }
namespace Rows
def none {H : Type} : Left H := { results := [], args := [] }

/-- 'magnetolaw29.AirCharges': WHATEVER THE INPUT: true; the input reads as it did. -/
def airChargesSpec : ChangeSpec := { name := "airCharges", fn := fun _ => fun
  | [d1, d2, d3, d4, d5] => { results := [.lit (.bool true)], args := [d1, d2, d3, d4, d5] }
  | _ => none }
def airChargesRow : OpenClaim := { program := "ytohdbneaganfbaa", sum := "f9a6460c1798f2656a2eeaa9d8563986c932f74f39cbff3de40df9ca40b72817", func := "magneto/magnetolaw29.AirCharges", spec := "airCharges", unfollowed := true, recurses := true, named := ["math/bits.divideError", "math/bits.overflowError"], apart := false }
def AirChargesSaid : Prop := airChargesRow.holds Try.pinned (OpenSpec.ofChange airChargesSpec)

/-- ITS FALSE NEIGHBOUR: 'it returns false'. Refute it at one input. -/
def airChargesWrong : ChangeSpec := { name := "airCharges", fn := fun _ => fun
  | [d1, d2, d3, d4, d5] => { results := [.lit (.bool false)], args := [d1, d2, d3, d4, d5] }
  | _ => none }
def AirChargesWrongFalsely : Prop := airChargesRow.holds Try.pinned (OpenSpec.ofChange airChargesWrong)

/-- 'magnetolaw29.AirRises': WHATEVER THE INPUT: true; the input reads as it did. -/
def airRisesSpec : ChangeSpec := { name := "airRises", fn := fun _ => fun
  | [d1, d2, d3, d4, d5, d6] => { results := [.lit (.bool true)], args := [d1, d2, d3, d4, d5, d6] }
  | _ => none }
def airRisesRow : OpenClaim := { program := "ytohdbneaganfbaa", sum := "f9a6460c1798f2656a2eeaa9d8563986c932f74f39cbff3de40df9ca40b72817", func := "magneto/magnetolaw29.AirRises", spec := "airRises", unfollowed := true, recurses := true, named := ["math/bits.divideError", "math/bits.overflowError"], apart := false }
def AirRisesSaid : Prop := airRisesRow.holds Try.pinned (OpenSpec.ofChange airRisesSpec)

/-- ITS FALSE NEIGHBOUR: 'it returns false'. Refute it at one input. -/
def airRisesWrong : ChangeSpec := { name := "airRises", fn := fun _ => fun
  | [d1, d2, d3, d4, d5, d6] => { results := [.lit (.bool false)], args := [d1, d2, d3, d4, d5, d6] }
  | _ => none }
def AirRisesWrongFalsely : Prop := airRisesRow.holds Try.pinned (OpenSpec.ofChange airRisesWrong)

/-- 'magnetolaw29.AirFlows': WHATEVER THE INPUT: true; the input reads as it did. -/
def airFlowsSpec : ChangeSpec := { name := "airFlows", fn := fun _ => fun
  | [d1, d2, d3, d4] => { results := [.lit (.bool true)], args := [d1, d2, d3, d4] }
  | _ => none }
def airFlowsRow : OpenClaim := { program := "ytohdbneaganfbaa", sum := "f9a6460c1798f2656a2eeaa9d8563986c932f74f39cbff3de40df9ca40b72817", func := "magneto/magnetolaw29.AirFlows", spec := "airFlows", unfollowed := true, recurses := true, named := ["math/bits.divideError", "math/bits.overflowError"], apart := false }
def AirFlowsSaid : Prop := airFlowsRow.holds Try.pinned (OpenSpec.ofChange airFlowsSpec)

/-- ITS FALSE NEIGHBOUR: 'it returns false'. Refute it at one input. -/
def airFlowsWrong : ChangeSpec := { name := "airFlows", fn := fun _ => fun
  | [d1, d2, d3, d4] => { results := [.lit (.bool false)], args := [d1, d2, d3, d4] }
  | _ => none }
def AirFlowsWrongFalsely : Prop := airFlowsRow.holds Try.pinned (OpenSpec.ofChange airFlowsWrong)

/-- 'magnetolaw29.AirHolds': WHATEVER THE INPUT: true; the input reads as it did. -/
def airHoldsSpec : ChangeSpec := { name := "airHolds", fn := fun _ => fun
  | [d1, d2, d3] => { results := [.lit (.bool true)], args := [d1, d2, d3] }
  | _ => none }
def airHoldsRow : OpenClaim := { program := "ytohdbneaganfbaa", sum := "f9a6460c1798f2656a2eeaa9d8563986c932f74f39cbff3de40df9ca40b72817", func := "magneto/magnetolaw29.AirHolds", spec := "airHolds", unfollowed := true, recurses := true, named := ["math/bits.divideError", "math/bits.overflowError"], apart := false }
def AirHoldsSaid : Prop := airHoldsRow.holds Try.pinned (OpenSpec.ofChange airHoldsSpec)

/-- ITS FALSE NEIGHBOUR: 'it returns false'. Refute it at one input. -/
def airHoldsWrong : ChangeSpec := { name := "airHolds", fn := fun _ => fun
  | [d1, d2, d3] => { results := [.lit (.bool false)], args := [d1, d2, d3] }
  | _ => none }
def AirHoldsWrongFalsely : Prop := airHoldsRow.holds Try.pinned (OpenSpec.ofChange airHoldsWrong)

/-- 'magnetolaw31.SparkAngles': WHATEVER THE INPUT: true; the input reads as it did. -/
def sparkAnglesSpec : ChangeSpec := { name := "sparkAngles", fn := fun _ => fun
  | [d1, d2, d3, d4, d5] => { results := [.lit (.bool true)], args := [d1, d2, d3, d4, d5] }
  | _ => none }
def sparkAnglesRow : OpenClaim := { program := "ytohdbneaganfbaa", sum := "f9a6460c1798f2656a2eeaa9d8563986c932f74f39cbff3de40df9ca40b72817", func := "magneto/magnetolaw31.SparkAngles", spec := "sparkAngles", unfollowed := true, recurses := true, named := ["math/bits.divideError", "math/bits.overflowError"], apart := false }
def SparkAnglesSaid : Prop := sparkAnglesRow.holds Try.pinned (OpenSpec.ofChange sparkAnglesSpec)

/-- ITS FALSE NEIGHBOUR: 'it returns false'. Refute it at one input. -/
def sparkAnglesWrong : ChangeSpec := { name := "sparkAngles", fn := fun _ => fun
  | [d1, d2, d3, d4, d5] => { results := [.lit (.bool false)], args := [d1, d2, d3, d4, d5] }
  | _ => none }
def SparkAnglesWrongFalsely : Prop := sparkAnglesRow.holds Try.pinned (OpenSpec.ofChange sparkAnglesWrong)

/-- 'magnetolaw31.SparkLateness': WHATEVER THE INPUT: true; the input reads as it did. -/
def sparkLatenessSpec : ChangeSpec := { name := "sparkLateness", fn := fun _ => fun
  | [d1, d2, d3] => { results := [.lit (.bool true)], args := [d1, d2, d3] }
  | _ => none }
def sparkLatenessRow : OpenClaim := { program := "ytohdbneaganfbaa", sum := "f9a6460c1798f2656a2eeaa9d8563986c932f74f39cbff3de40df9ca40b72817", func := "magneto/magnetolaw31.SparkLateness", spec := "sparkLateness", unfollowed := true, recurses := true, named := ["math/bits.divideError", "math/bits.overflowError"], apart := false }
def SparkLatenessSaid : Prop := sparkLatenessRow.holds Try.pinned (OpenSpec.ofChange sparkLatenessSpec)

/-- ITS FALSE NEIGHBOUR: 'it returns false'. Refute it at one input. -/
def sparkLatenessWrong : ChangeSpec := { name := "sparkLateness", fn := fun _ => fun
  | [d1, d2, d3] => { results := [.lit (.bool false)], args := [d1, d2, d3] }
  | _ => none }
def SparkLatenessWrongFalsely : Prop := sparkLatenessRow.holds Try.pinned (OpenSpec.ofChange sparkLatenessWrong)

/-- 'magnetolaw31.SparkRetards': WHATEVER THE INPUT: true; the input reads as it did. -/
def sparkRetardsSpec : ChangeSpec := { name := "sparkRetards", fn := fun _ => fun
  | [d1, d2, d3, d4, d5, d6] => { results := [.lit (.bool true)], args := [d1, d2, d3, d4, d5, d6] }
  | _ => none }
def sparkRetardsRow : OpenClaim := { program := "ytohdbneaganfbaa", sum := "f9a6460c1798f2656a2eeaa9d8563986c932f74f39cbff3de40df9ca40b72817", func := "magneto/magnetolaw31.SparkRetards", spec := "sparkRetards", unfollowed := true, recurses := true, named := ["math/bits.divideError", "math/bits.overflowError"], apart := false }
def SparkRetardsSaid : Prop := sparkRetardsRow.holds Try.pinned (OpenSpec.ofChange sparkRetardsSpec)

/-- ITS FALSE NEIGHBOUR: 'it returns false'. Refute it at one input. -/
def sparkRetardsWrong : ChangeSpec := { name := "sparkRetards", fn := fun _ => fun
  | [d1, d2, d3, d4, d5, d6] => { results := [.lit (.bool false)], args := [d1, d2, d3, d4, d5, d6] }
  | _ => none }
def SparkRetardsWrongFalsely : Prop := sparkRetardsRow.holds Try.pinned (OpenSpec.ofChange sparkRetardsWrong)

/-- 'magnetolaw31.SparkFalls': WHATEVER THE INPUT: true; the input reads as it did. -/
def sparkFallsSpec : ChangeSpec := { name := "sparkFalls", fn := fun _ => fun
  | [d1, d2, d3] => { results := [.lit (.bool true)], args := [d1, d2, d3] }
  | _ => none }
def sparkFallsRow : OpenClaim := { program := "ytohdbneaganfbaa", sum := "f9a6460c1798f2656a2eeaa9d8563986c932f74f39cbff3de40df9ca40b72817", func := "magneto/magnetolaw31.SparkFalls", spec := "sparkFalls", unfollowed := true, recurses := true, named := ["math/bits.divideError", "math/bits.overflowError"], apart := false }
def SparkFallsSaid : Prop := sparkFallsRow.holds Try.pinned (OpenSpec.ofChange sparkFallsSpec)

/-- ITS FALSE NEIGHBOUR: 'it returns false'. Refute it at one input. -/
def sparkFallsWrong : ChangeSpec := { name := "sparkFalls", fn := fun _ => fun
  | [d1, d2, d3] => { results := [.lit (.bool false)], args := [d1, d2, d3] }
  | _ => none }
def SparkFallsWrongFalsely : Prop := sparkFallsRow.holds Try.pinned (OpenSpec.ofChange sparkFallsWrong)

/-- 'magnetolaw31.SparkInverse': WHATEVER THE INPUT: true; the input reads as it did. -/
def sparkInverseSpec : ChangeSpec := { name := "sparkInverse", fn := fun _ => fun
  | [d1, d2] => { results := [.lit (.bool true)], args := [d1, d2] }
  | _ => none }
def sparkInverseRow : OpenClaim := { program := "ytohdbneaganfbaa", sum := "f9a6460c1798f2656a2eeaa9d8563986c932f74f39cbff3de40df9ca40b72817", func := "magneto/magnetolaw31.SparkInverse", spec := "sparkInverse", unfollowed := true, recurses := true, named := ["math/bits.divideError", "math/bits.overflowError"], apart := false }
def SparkInverseSaid : Prop := sparkInverseRow.holds Try.pinned (OpenSpec.ofChange sparkInverseSpec)

/-- ITS FALSE NEIGHBOUR: 'it returns false'. Refute it at one input. -/
def sparkInverseWrong : ChangeSpec := { name := "sparkInverse", fn := fun _ => fun
  | [d1, d2] => { results := [.lit (.bool false)], args := [d1, d2] }
  | _ => none }
def SparkInverseWrongFalsely : Prop := sparkInverseRow.holds Try.pinned (OpenSpec.ofChange sparkInverseWrong)

/-- 'magnetolaw31.SparkDwells': WHATEVER THE INPUT: true; the input reads as it did. -/
def sparkDwellsSpec : ChangeSpec := { name := "sparkDwells", fn := fun _ => fun
  | [d1, d2, d3] => { results := [.lit (.bool true)], args := [d1, d2, d3] }
  | _ => none }
def sparkDwellsRow : OpenClaim := { program := "ytohdbneaganfbaa", sum := "f9a6460c1798f2656a2eeaa9d8563986c932f74f39cbff3de40df9ca40b72817", func := "magneto/magnetolaw31.SparkDwells", spec := "sparkDwells", unfollowed := true, recurses := true, named := ["math/bits.divideError", "math/bits.overflowError"], apart := false }
def SparkDwellsSaid : Prop := sparkDwellsRow.holds Try.pinned (OpenSpec.ofChange sparkDwellsSpec)

/-- ITS FALSE NEIGHBOUR: 'it returns false'. Refute it at one input. -/
def sparkDwellsWrong : ChangeSpec := { name := "sparkDwells", fn := fun _ => fun
  | [d1, d2, d3] => { results := [.lit (.bool false)], args := [d1, d2, d3] }
  | _ => none }
def SparkDwellsWrongFalsely : Prop := sparkDwellsRow.holds Try.pinned (OpenSpec.ofChange sparkDwellsWrong)

/-- 'magnetolaw31.SparkUsable': WHATEVER THE INPUT: true; the input reads as it did. -/
def sparkUsableSpec : ChangeSpec := { name := "sparkUsable", fn := fun _ => fun
  | [d1, d2, d3, d4, d5, d6, d7] => { results := [.lit (.bool true)], args := [d1, d2, d3, d4, d5, d6, d7] }
  | _ => none }
def sparkUsableRow : OpenClaim := { program := "ytohdbneaganfbaa", sum := "f9a6460c1798f2656a2eeaa9d8563986c932f74f39cbff3de40df9ca40b72817", func := "magneto/magnetolaw31.SparkUsable", spec := "sparkUsable", unfollowed := true, recurses := true, named := ["math/bits.divideError", "math/bits.overflowError"], apart := false }
def SparkUsableSaid : Prop := sparkUsableRow.holds Try.pinned (OpenSpec.ofChange sparkUsableSpec)

/-- ITS FALSE NEIGHBOUR: 'it returns false'. Refute it at one input. -/
def sparkUsableWrong : ChangeSpec := { name := "sparkUsable", fn := fun _ => fun
  | [d1, d2, d3, d4, d5, d6, d7] => { results := [.lit (.bool false)], args := [d1, d2, d3, d4, d5, d6, d7] }
  | _ => none }
def SparkUsableWrongFalsely : Prop := sparkUsableRow.holds Try.pinned (OpenSpec.ofChange sparkUsableWrong)

/-- 'magnetolaw31.SparkFires': WHATEVER THE INPUT: true; the input reads as it did. -/
def sparkFiresSpec : ChangeSpec := { name := "sparkFires", fn := fun _ => fun
  | [d1, d2, d3, d4, d5] => { results := [.lit (.bool true)], args := [d1, d2, d3, d4, d5] }
  | _ => none }
def sparkFiresRow : OpenClaim := { program := "ytohdbneaganfbaa", sum := "f9a6460c1798f2656a2eeaa9d8563986c932f74f39cbff3de40df9ca40b72817", func := "magneto/magnetolaw31.SparkFires", spec := "sparkFires", unfollowed := true, recurses := true, named := ["math/bits.divideError", "math/bits.overflowError"], apart := false }
def SparkFiresSaid : Prop := sparkFiresRow.holds Try.pinned (OpenSpec.ofChange sparkFiresSpec)

/-- ITS FALSE NEIGHBOUR: 'it returns false'. Refute it at one input. -/
def sparkFiresWrong : ChangeSpec := { name := "sparkFires", fn := fun _ => fun
  | [d1, d2, d3, d4, d5] => { results := [.lit (.bool false)], args := [d1, d2, d3, d4, d5] }
  | _ => none }
def SparkFiresWrongFalsely : Prop := sparkFiresRow.holds Try.pinned (OpenSpec.ofChange sparkFiresWrong)

/- THE SECOND FORM. 'bulk': how many values and letters a reading holds, each counted each time it is reached (what is shared counts as often as it is met; a slice's spare places count too). A statement '..UptoSaid' is the law's where the arguments, and the package variables that the reading takes, are together of bulk at most 1048576: NARROWER than '..Said'. Prove '..Said' where nothing that the law and all that it calls make is longer than what came in: it says more and counts as full. Else prove '..UptoSaid'. A law counts once. -/
mutual
def uptoBulk {H : Type} : DataW H → Nat
  | .lit (.string bytes) => bytes.length + 1
  | .lit _ => 1
  | .nil => 1
  | .ptr d => uptoBulk d + 1
  | .slice elems spare => uptoBulkAll elems + uptoBulkAll spare + 1
  | .agg parts => uptoBulkAll parts + 1
  | .iface _ d => uptoBulk d + 1
  | .map entries => uptoBulkEntries entries + 1
  | .held _ => 1
def uptoBulkAll {H : Type} : List (DataW H) → Nat
  | [] => 0
  | d :: r => uptoBulk d + uptoBulkAll r
def uptoBulkEntries {H : Type} : List (Lit × DataW H) → Nat
  | [] => 0
  | x :: r => uptoBulkEntry x + uptoBulkEntries r
def uptoBulkEntry {H : Type} : Lit × DataW H → Nat
  | (.string bytes, d) => bytes.length + uptoBulk d + 1
  | (_, d) => uptoBulk d + 1
 end
def uptoSmall : (H : Type) → List (DataW H) → Bool := fun _ ds => decide (uptoBulkAll ds ≤ 1048576)
def OpenSpec.upto (s : _root_.Go.ChangeSpec) : _root_.Go.OpenSpec := { _root_.Go.OpenSpec.ofChange s with cond := some uptoSmall }

/-- 'magnetolaw29.AirCharges', WHERE WHAT IT READS IS OF BULK AT MOST 1048576: true; the input reads as it did. -/
def airChargesUptoRow : OpenClaim := { program := "ytohdbneaganfbaa", sum := "f9a6460c1798f2656a2eeaa9d8563986c932f74f39cbff3de40df9ca40b72817", func := "magneto/magnetolaw29.AirCharges", spec := "airCharges", unfollowed := true, recurses := true, named := ["math/bits.divideError", "math/bits.overflowError"], apart := false, narrowed := true }
def AirChargesUptoSaid : Prop := airChargesUptoRow.holds Try.pinned (OpenSpec.upto airChargesSpec)

/-- 'magnetolaw29.AirRises', WHERE WHAT IT READS IS OF BULK AT MOST 1048576: true; the input reads as it did. -/
def airRisesUptoRow : OpenClaim := { program := "ytohdbneaganfbaa", sum := "f9a6460c1798f2656a2eeaa9d8563986c932f74f39cbff3de40df9ca40b72817", func := "magneto/magnetolaw29.AirRises", spec := "airRises", unfollowed := true, recurses := true, named := ["math/bits.divideError", "math/bits.overflowError"], apart := false, narrowed := true }
def AirRisesUptoSaid : Prop := airRisesUptoRow.holds Try.pinned (OpenSpec.upto airRisesSpec)

/-- 'magnetolaw29.AirFlows', WHERE WHAT IT READS IS OF BULK AT MOST 1048576: true; the input reads as it did. -/
def airFlowsUptoRow : OpenClaim := { program := "ytohdbneaganfbaa", sum := "f9a6460c1798f2656a2eeaa9d8563986c932f74f39cbff3de40df9ca40b72817", func := "magneto/magnetolaw29.AirFlows", spec := "airFlows", unfollowed := true, recurses := true, named := ["math/bits.divideError", "math/bits.overflowError"], apart := false, narrowed := true }
def AirFlowsUptoSaid : Prop := airFlowsUptoRow.holds Try.pinned (OpenSpec.upto airFlowsSpec)

/-- 'magnetolaw29.AirHolds', WHERE WHAT IT READS IS OF BULK AT MOST 1048576: true; the input reads as it did. -/
def airHoldsUptoRow : OpenClaim := { program := "ytohdbneaganfbaa", sum := "f9a6460c1798f2656a2eeaa9d8563986c932f74f39cbff3de40df9ca40b72817", func := "magneto/magnetolaw29.AirHolds", spec := "airHolds", unfollowed := true, recurses := true, named := ["math/bits.divideError", "math/bits.overflowError"], apart := false, narrowed := true }
def AirHoldsUptoSaid : Prop := airHoldsUptoRow.holds Try.pinned (OpenSpec.upto airHoldsSpec)

/-- 'magnetolaw31.SparkAngles', WHERE WHAT IT READS IS OF BULK AT MOST 1048576: true; the input reads as it did. -/
def sparkAnglesUptoRow : OpenClaim := { program := "ytohdbneaganfbaa", sum := "f9a6460c1798f2656a2eeaa9d8563986c932f74f39cbff3de40df9ca40b72817", func := "magneto/magnetolaw31.SparkAngles", spec := "sparkAngles", unfollowed := true, recurses := true, named := ["math/bits.divideError", "math/bits.overflowError"], apart := false, narrowed := true }
def SparkAnglesUptoSaid : Prop := sparkAnglesUptoRow.holds Try.pinned (OpenSpec.upto sparkAnglesSpec)

/-- 'magnetolaw31.SparkLateness', WHERE WHAT IT READS IS OF BULK AT MOST 1048576: true; the input reads as it did. -/
def sparkLatenessUptoRow : OpenClaim := { program := "ytohdbneaganfbaa", sum := "f9a6460c1798f2656a2eeaa9d8563986c932f74f39cbff3de40df9ca40b72817", func := "magneto/magnetolaw31.SparkLateness", spec := "sparkLateness", unfollowed := true, recurses := true, named := ["math/bits.divideError", "math/bits.overflowError"], apart := false, narrowed := true }
def SparkLatenessUptoSaid : Prop := sparkLatenessUptoRow.holds Try.pinned (OpenSpec.upto sparkLatenessSpec)

/-- 'magnetolaw31.SparkRetards', WHERE WHAT IT READS IS OF BULK AT MOST 1048576: true; the input reads as it did. -/
def sparkRetardsUptoRow : OpenClaim := { program := "ytohdbneaganfbaa", sum := "f9a6460c1798f2656a2eeaa9d8563986c932f74f39cbff3de40df9ca40b72817", func := "magneto/magnetolaw31.SparkRetards", spec := "sparkRetards", unfollowed := true, recurses := true, named := ["math/bits.divideError", "math/bits.overflowError"], apart := false, narrowed := true }
def SparkRetardsUptoSaid : Prop := sparkRetardsUptoRow.holds Try.pinned (OpenSpec.upto sparkRetardsSpec)

/-- 'magnetolaw31.SparkFalls', WHERE WHAT IT READS IS OF BULK AT MOST 1048576: true; the input reads as it did. -/
def sparkFallsUptoRow : OpenClaim := { program := "ytohdbneaganfbaa", sum := "f9a6460c1798f2656a2eeaa9d8563986c932f74f39cbff3de40df9ca40b72817", func := "magneto/magnetolaw31.SparkFalls", spec := "sparkFalls", unfollowed := true, recurses := true, named := ["math/bits.divideError", "math/bits.overflowError"], apart := false, narrowed := true }
def SparkFallsUptoSaid : Prop := sparkFallsUptoRow.holds Try.pinned (OpenSpec.upto sparkFallsSpec)

/-- 'magnetolaw31.SparkInverse', WHERE WHAT IT READS IS OF BULK AT MOST 1048576: true; the input reads as it did. -/
def sparkInverseUptoRow : OpenClaim := { program := "ytohdbneaganfbaa", sum := "f9a6460c1798f2656a2eeaa9d8563986c932f74f39cbff3de40df9ca40b72817", func := "magneto/magnetolaw31.SparkInverse", spec := "sparkInverse", unfollowed := true, recurses := true, named := ["math/bits.divideError", "math/bits.overflowError"], apart := false, narrowed := true }
def SparkInverseUptoSaid : Prop := sparkInverseUptoRow.holds Try.pinned (OpenSpec.upto sparkInverseSpec)

/-- 'magnetolaw31.SparkDwells', WHERE WHAT IT READS IS OF BULK AT MOST 1048576: true; the input reads as it did. -/
def sparkDwellsUptoRow : OpenClaim := { program := "ytohdbneaganfbaa", sum := "f9a6460c1798f2656a2eeaa9d8563986c932f74f39cbff3de40df9ca40b72817", func := "magneto/magnetolaw31.SparkDwells", spec := "sparkDwells", unfollowed := true, recurses := true, named := ["math/bits.divideError", "math/bits.overflowError"], apart := false, narrowed := true }
def SparkDwellsUptoSaid : Prop := sparkDwellsUptoRow.holds Try.pinned (OpenSpec.upto sparkDwellsSpec)

/-- 'magnetolaw31.SparkUsable', WHERE WHAT IT READS IS OF BULK AT MOST 1048576: true; the input reads as it did. -/
def sparkUsableUptoRow : OpenClaim := { program := "ytohdbneaganfbaa", sum := "f9a6460c1798f2656a2eeaa9d8563986c932f74f39cbff3de40df9ca40b72817", func := "magneto/magnetolaw31.SparkUsable", spec := "sparkUsable", unfollowed := true, recurses := true, named := ["math/bits.divideError", "math/bits.overflowError"], apart := false, narrowed := true }
def SparkUsableUptoSaid : Prop := sparkUsableUptoRow.holds Try.pinned (OpenSpec.upto sparkUsableSpec)

/-- 'magnetolaw31.SparkFires', WHERE WHAT IT READS IS OF BULK AT MOST 1048576: true; the input reads as it did. -/
def sparkFiresUptoRow : OpenClaim := { program := "ytohdbneaganfbaa", sum := "f9a6460c1798f2656a2eeaa9d8563986c932f74f39cbff3de40df9ca40b72817", func := "magneto/magnetolaw31.SparkFires", spec := "sparkFires", unfollowed := true, recurses := true, named := ["math/bits.divideError", "math/bits.overflowError"], apart := false, narrowed := true }
def SparkFiresUptoSaid : Prop := sparkFiresUptoRow.holds Try.pinned (OpenSpec.upto sparkFiresSpec)

end Rows
end Go.Proofs.Ytohdbneaganfbaa
