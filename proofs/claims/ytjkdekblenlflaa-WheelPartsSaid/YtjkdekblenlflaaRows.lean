/-
  No cell of these rows narrows 'for every input' (looked for: loops, veiled, ifaces, maps, wideKeys, modest, calm, conditions, laid).
  DERIVED. THE GIVEN ROWS OF THIS SEAT. 7 by the template 'for every input the law returns true; each argument reads behind the call as it read before'; 0 by the template 'total and deterministic' (their statements: YtjkdekblenlflaaTotals.lean).
  GIVEN WITH THE SEED: the statements are not yours to turn. If you find one false, say at which input.
  Laid BY PROGRAM, IN A SANDBOX (cutbox-rows.mjs): the forced cells as the released guide's own fill.sh prints them over the translation a788711216cb3008… (all of the seat's roots in one cut). By AI agents, Wed Nov 11 2026. No macro, syntax, notation, axiom, sorry.
-/
import Derived.Test.YtjkdekblenlflaaChecked
import GoSem.Claim
import GoSem.ClaimJoined
import GoSem.ClaimMapViews
import Derived.JoinedTies
import Derived.KernelRfl
namespace Go.Proofs.Ytjkdekblenlflaa
/- THE CELL 'sum', in the pinned program and in every row, IS THE sha256 OF THE DUMP (.gsa) THAT YtjkdekblenlflaaProg.lean LOADS. Nothing in Lean hashes anything: it is a label: what it is worth is what the hold of that sum in a sandbox is worth. -/
noncomputable def Try.pinned : Pinned := { name := "ytjkdekblenlflaa", sum := "a788711216cb30089385667b532d5029a1958375804c61b97180f6a5466f31a2", checked := Try.checked }
namespace Rows
def none {H : Type} : Left H := { results := [], args := [] }

/-- 'magnetolaw16.WheelKinds': WHATEVER THE INPUT: true; the input reads as it did. -/
def wheelKindsSpec : ChangeSpec := { name := "wheelKinds", fn := fun _ => fun
  | [d1, d2] => { results := [.lit (.bool true)], args := [d1, d2] }
  | _ => none }
def wheelKindsRow : OpenClaim := { program := "ytjkdekblenlflaa", sum := "a788711216cb30089385667b532d5029a1958375804c61b97180f6a5466f31a2", func := "magneto/magnetolaw16.WheelKinds", spec := "wheelKinds", unfollowed := true, recurses := true, apart := false }
def WheelKindsSaid : Prop := wheelKindsRow.holds Try.pinned (OpenSpec.ofChange wheelKindsSpec)

/-- ITS FALSE NEIGHBOUR: 'it returns false'. Refute it at one input. -/
def wheelKindsWrong : ChangeSpec := { name := "wheelKinds", fn := fun _ => fun
  | [d1, d2] => { results := [.lit (.bool false)], args := [d1, d2] }
  | _ => none }
def WheelKindsWrongFalsely : Prop := wheelKindsRow.holds Try.pinned (OpenSpec.ofChange wheelKindsWrong)

/-- 'magnetolaw16.WheelNext': WHATEVER THE INPUT: true; the input reads as it did. -/
def wheelNextSpec : ChangeSpec := { name := "wheelNext", fn := fun _ => fun
  | [d1, d2] => { results := [.lit (.bool true)], args := [d1, d2] }
  | _ => none }
def wheelNextRow : OpenClaim := { program := "ytjkdekblenlflaa", sum := "a788711216cb30089385667b532d5029a1958375804c61b97180f6a5466f31a2", func := "magneto/magnetolaw16.WheelNext", spec := "wheelNext", unfollowed := true, recurses := true, apart := false }
def WheelNextSaid : Prop := wheelNextRow.holds Try.pinned (OpenSpec.ofChange wheelNextSpec)

/-- ITS FALSE NEIGHBOUR: 'it returns false'. Refute it at one input. -/
def wheelNextWrong : ChangeSpec := { name := "wheelNext", fn := fun _ => fun
  | [d1, d2] => { results := [.lit (.bool false)], args := [d1, d2] }
  | _ => none }
def WheelNextWrongFalsely : Prop := wheelNextRow.holds Try.pinned (OpenSpec.ofChange wheelNextWrong)

/-- 'magnetolaw16.WheelCams': WHATEVER THE INPUT: true; the input reads as it did. -/
def wheelCamsSpec : ChangeSpec := { name := "wheelCams", fn := fun _ => fun
  | [d] => { results := [.lit (.bool true)], args := [d] }
  | _ => none }
def wheelCamsRow : OpenClaim := { program := "ytjkdekblenlflaa", sum := "a788711216cb30089385667b532d5029a1958375804c61b97180f6a5466f31a2", func := "magneto/magnetolaw16.WheelCams", spec := "wheelCams", unfollowed := true, recurses := true, apart := false }
def WheelCamsSaid : Prop := wheelCamsRow.holds Try.pinned (OpenSpec.ofChange wheelCamsSpec)

/-- ITS FALSE NEIGHBOUR: 'it returns false'. Refute it at one input. -/
def wheelCamsWrong : ChangeSpec := { name := "wheelCams", fn := fun _ => fun
  | [d] => { results := [.lit (.bool false)], args := [d] }
  | _ => none }
def WheelCamsWrongFalsely : Prop := wheelCamsRow.holds Try.pinned (OpenSpec.ofChange wheelCamsWrong)

/-- 'magnetolaw16.WheelSpaces': WHATEVER THE INPUT: true; the input reads as it did. -/
def wheelSpacesSpec : ChangeSpec := { name := "wheelSpaces", fn := fun _ => fun
  | [d1, d2] => { results := [.lit (.bool true)], args := [d1, d2] }
  | _ => none }
def wheelSpacesRow : OpenClaim := { program := "ytjkdekblenlflaa", sum := "a788711216cb30089385667b532d5029a1958375804c61b97180f6a5466f31a2", func := "magneto/magnetolaw16.WheelSpaces", spec := "wheelSpaces", unfollowed := true, recurses := true, apart := false }
def WheelSpacesSaid : Prop := wheelSpacesRow.holds Try.pinned (OpenSpec.ofChange wheelSpacesSpec)

/-- ITS FALSE NEIGHBOUR: 'it returns false'. Refute it at one input. -/
def wheelSpacesWrong : ChangeSpec := { name := "wheelSpaces", fn := fun _ => fun
  | [d1, d2] => { results := [.lit (.bool false)], args := [d1, d2] }
  | _ => none }
def WheelSpacesWrongFalsely : Prop := wheelSpacesRow.holds Try.pinned (OpenSpec.ofChange wheelSpacesWrong)

/-- 'magnetolaw16.WheelCounts': WHATEVER THE INPUT: true; the input reads as it did. -/
def wheelCountsSpec : ChangeSpec := { name := "wheelCounts", fn := fun _ => fun
  | [d1, d2, d3] => { results := [.lit (.bool true)], args := [d1, d2, d3] }
  | _ => none }
def wheelCountsRow : OpenClaim := { program := "ytjkdekblenlflaa", sum := "a788711216cb30089385667b532d5029a1958375804c61b97180f6a5466f31a2", func := "magneto/magnetolaw16.WheelCounts", spec := "wheelCounts", unfollowed := true, recurses := true, apart := false }
def WheelCountsSaid : Prop := wheelCountsRow.holds Try.pinned (OpenSpec.ofChange wheelCountsSpec)

/-- ITS FALSE NEIGHBOUR: 'it returns false'. Refute it at one input. -/
def wheelCountsWrong : ChangeSpec := { name := "wheelCounts", fn := fun _ => fun
  | [d1, d2, d3] => { results := [.lit (.bool false)], args := [d1, d2, d3] }
  | _ => none }
def WheelCountsWrongFalsely : Prop := wheelCountsRow.holds Try.pinned (OpenSpec.ofChange wheelCountsWrong)

/-- 'magnetolaw16.WheelBetween': WHATEVER THE INPUT: true; the input reads as it did. -/
def wheelBetweenSpec : ChangeSpec := { name := "wheelBetween", fn := fun _ => fun
  | [d1, d2, d3, d4] => { results := [.lit (.bool true)], args := [d1, d2, d3, d4] }
  | _ => none }
def wheelBetweenRow : OpenClaim := { program := "ytjkdekblenlflaa", sum := "a788711216cb30089385667b532d5029a1958375804c61b97180f6a5466f31a2", func := "magneto/magnetolaw16.WheelBetween", spec := "wheelBetween", unfollowed := true, recurses := true, apart := false }
def WheelBetweenSaid : Prop := wheelBetweenRow.holds Try.pinned (OpenSpec.ofChange wheelBetweenSpec)

/-- ITS FALSE NEIGHBOUR: 'it returns false'. Refute it at one input. -/
def wheelBetweenWrong : ChangeSpec := { name := "wheelBetween", fn := fun _ => fun
  | [d1, d2, d3, d4] => { results := [.lit (.bool false)], args := [d1, d2, d3, d4] }
  | _ => none }
def WheelBetweenWrongFalsely : Prop := wheelBetweenRow.holds Try.pinned (OpenSpec.ofChange wheelBetweenWrong)

/-- 'magnetolaw16.WheelParts': WHATEVER THE INPUT: true; the input reads as it did. -/
def wheelPartsSpec : ChangeSpec := { name := "wheelParts", fn := fun _ => fun
  | [d1, d2, d3, d4] => { results := [.lit (.bool true)], args := [d1, d2, d3, d4] }
  | _ => none }
def wheelPartsRow : OpenClaim := { program := "ytjkdekblenlflaa", sum := "a788711216cb30089385667b532d5029a1958375804c61b97180f6a5466f31a2", func := "magneto/magnetolaw16.WheelParts", spec := "wheelParts", unfollowed := true, recurses := true, apart := false }
def WheelPartsSaid : Prop := wheelPartsRow.holds Try.pinned (OpenSpec.ofChange wheelPartsSpec)

/-- ITS FALSE NEIGHBOUR: 'it returns false'. Refute it at one input. -/
def wheelPartsWrong : ChangeSpec := { name := "wheelParts", fn := fun _ => fun
  | [d1, d2, d3, d4] => { results := [.lit (.bool false)], args := [d1, d2, d3, d4] }
  | _ => none }
def WheelPartsWrongFalsely : Prop := wheelPartsRow.holds Try.pinned (OpenSpec.ofChange wheelPartsWrong)

/- THE SECOND FORM. 'bulk': how many values and letters a reading holds, each counted each time it is reached (what is shared counts as often as it is met; a slice's spare places count too). A statement '..UptoSaid' is the law's where the arguments, and the package variables that the reading takes, are together of bulk at most 1048576: NARROWER than '..Said'. Prove '..Said' where nothing that the law and all that it calls make is longer than what came in: it says more and counts as full. Else prove '..UptoSaid'. A law counts once. -/
mutual
def uptoBulk {H : Type} : DataW H → Nat
  | .lit (.string bytes) => bytes.length + 1
  | .lit _ => 1
  | .nil => 1
  | .ptr d => uptoBulk d + 1
  | .slice elems spare => uptoBulkAll elems + uptoBulkAll spare + 1
  | .agg parts => uptoBulkAll parts + 1
  | .iface _ d => uptoBulk d + 1
  | .map entries => uptoBulkEntries entries + 1
  | .held _ => 1
def uptoBulkAll {H : Type} : List (DataW H) → Nat
  | [] => 0
  | d :: r => uptoBulk d + uptoBulkAll r
def uptoBulkEntries {H : Type} : List (Lit × DataW H) → Nat
  | [] => 0
  | x :: r => uptoBulkEntry x + uptoBulkEntries r
def uptoBulkEntry {H : Type} : Lit × DataW H → Nat
  | (.string bytes, d) => bytes.length + uptoBulk d + 1
  | (_, d) => uptoBulk d + 1
 end
def uptoSmall : (H : Type) → List (DataW H) → Bool := fun _ ds => decide (uptoBulkAll ds ≤ 1048576)
def OpenSpec.upto (s : _root_.Go.ChangeSpec) : _root_.Go.OpenSpec := { _root_.Go.OpenSpec.ofChange s with cond := some uptoSmall }

/-- 'magnetolaw16.WheelKinds', WHERE WHAT IT READS IS OF BULK AT MOST 1048576: true; the input reads as it did. -/
def wheelKindsUptoRow : OpenClaim := { program := "ytjkdekblenlflaa", sum := "a788711216cb30089385667b532d5029a1958375804c61b97180f6a5466f31a2", func := "magneto/magnetolaw16.WheelKinds", spec := "wheelKinds", unfollowed := true, recurses := true, apart := false, narrowed := true }
def WheelKindsUptoSaid : Prop := wheelKindsUptoRow.holds Try.pinned (OpenSpec.upto wheelKindsSpec)

/-- 'magnetolaw16.WheelNext', WHERE WHAT IT READS IS OF BULK AT MOST 1048576: true; the input reads as it did. -/
def wheelNextUptoRow : OpenClaim := { program := "ytjkdekblenlflaa", sum := "a788711216cb30089385667b532d5029a1958375804c61b97180f6a5466f31a2", func := "magneto/magnetolaw16.WheelNext", spec := "wheelNext", unfollowed := true, recurses := true, apart := false, narrowed := true }
def WheelNextUptoSaid : Prop := wheelNextUptoRow.holds Try.pinned (OpenSpec.upto wheelNextSpec)

/-- 'magnetolaw16.WheelCams', WHERE WHAT IT READS IS OF BULK AT MOST 1048576: true; the input reads as it did. -/
def wheelCamsUptoRow : OpenClaim := { program := "ytjkdekblenlflaa", sum := "a788711216cb30089385667b532d5029a1958375804c61b97180f6a5466f31a2", func := "magneto/magnetolaw16.WheelCams", spec := "wheelCams", unfollowed := true, recurses := true, apart := false, narrowed := true }
def WheelCamsUptoSaid : Prop := wheelCamsUptoRow.holds Try.pinned (OpenSpec.upto wheelCamsSpec)

/-- 'magnetolaw16.WheelSpaces', WHERE WHAT IT READS IS OF BULK AT MOST 1048576: true; the input reads as it did. -/
def wheelSpacesUptoRow : OpenClaim := { program := "ytjkdekblenlflaa", sum := "a788711216cb30089385667b532d5029a1958375804c61b97180f6a5466f31a2", func := "magneto/magnetolaw16.WheelSpaces", spec := "wheelSpaces", unfollowed := true, recurses := true, apart := false, narrowed := true }
def WheelSpacesUptoSaid : Prop := wheelSpacesUptoRow.holds Try.pinned (OpenSpec.upto wheelSpacesSpec)

/-- 'magnetolaw16.WheelCounts', WHERE WHAT IT READS IS OF BULK AT MOST 1048576: true; the input reads as it did. -/
def wheelCountsUptoRow : OpenClaim := { program := "ytjkdekblenlflaa", sum := "a788711216cb30089385667b532d5029a1958375804c61b97180f6a5466f31a2", func := "magneto/magnetolaw16.WheelCounts", spec := "wheelCounts", unfollowed := true, recurses := true, apart := false, narrowed := true }
def WheelCountsUptoSaid : Prop := wheelCountsUptoRow.holds Try.pinned (OpenSpec.upto wheelCountsSpec)

/-- 'magnetolaw16.WheelBetween', WHERE WHAT IT READS IS OF BULK AT MOST 1048576: true; the input reads as it did. -/
def wheelBetweenUptoRow : OpenClaim := { program := "ytjkdekblenlflaa", sum := "a788711216cb30089385667b532d5029a1958375804c61b97180f6a5466f31a2", func := "magneto/magnetolaw16.WheelBetween", spec := "wheelBetween", unfollowed := true, recurses := true, apart := false, narrowed := true }
def WheelBetweenUptoSaid : Prop := wheelBetweenUptoRow.holds Try.pinned (OpenSpec.upto wheelBetweenSpec)

/-- 'magnetolaw16.WheelParts', WHERE WHAT IT READS IS OF BULK AT MOST 1048576: true; the input reads as it did. -/
def wheelPartsUptoRow : OpenClaim := { program := "ytjkdekblenlflaa", sum := "a788711216cb30089385667b532d5029a1958375804c61b97180f6a5466f31a2", func := "magneto/magnetolaw16.WheelParts", spec := "wheelParts", unfollowed := true, recurses := true, apart := false, narrowed := true }
def WheelPartsUptoSaid : Prop := wheelPartsUptoRow.holds Try.pinned (OpenSpec.upto wheelPartsSpec)

end Rows
end Go.Proofs.Ytjkdekblenlflaa
