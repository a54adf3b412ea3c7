/-
  No cell of these rows narrows 'for every input' (looked for: loops, veiled, ifaces, maps, wideKeys, modest, calm, conditions, laid).
  DERIVED. THE GIVEN ROWS OF THIS SEAT. 5 by the template 'for every input the law returns true; each argument reads behind the call as it read before'; 0 by the template 'total and deterministic' (their statements: YtfooefiaenlhmaaTotals.lean).
  GIVEN WITH THE SEED: the statements are not yours to turn. If you find one false, say at which input.
  Laid BY PROGRAM, IN A SANDBOX (cutbox-rows.mjs): the forced cells as the released guide's own fill.sh prints them over the translation ff0f9351b0871ca3… (all of the seat's roots in one cut). By AI agents, Wed Nov 11 2026. No macro, syntax, notation, axiom, sorry.
-/
import Derived.Test.YtfooefiaenlhmaaChecked
import GoSem.Claim
import GoSem.ClaimJoined
import GoSem.ClaimMapViews
import Derived.JoinedTies
import Derived.KernelRfl
namespace Go.Proofs.Ytfooefiaenlhmaa
/- THE CELL 'sum', in the pinned program and in every row, IS THE sha256 OF THE DUMP (.gsa) THAT YtfooefiaenlhmaaProg.lean LOADS. Nothing in Lean hashes anything: it is a label: what it is worth is what the hold of that sum in a sandbox is worth. -/
noncomputable def Try.pinned : Pinned := { name := "ytfooefiaenlhmaa", sum := "ff0f9351b0871ca31506e197280bfe247c3e1104a43f0fd9d979f8a4f0b28bfd", checked := Try.checked }
namespace Rows
def none {H : Type} : Left H := { results := [], args := [] }

/-- 'magnetolaw15.ImageEncodes': WHATEVER THE INPUT: true; the input reads as it did. -/
def imageEncodesSpec : ChangeSpec := { name := "imageEncodes", fn := fun _ => fun
  | [d1, d2] => { results := [.lit (.bool true)], args := [d1, d2] }
  | _ => none }
def imageEncodesRow : OpenClaim := { program := "ytfooefiaenlhmaa", sum := "ff0f9351b0871ca31506e197280bfe247c3e1104a43f0fd9d979f8a4f0b28bfd", func := "magneto/magnetolaw15.ImageEncodes", spec := "imageEncodes", inPlace := ["internal/bytealg.IndexByteString"], unfollowed := true, recurses := true, apart := false }
def ImageEncodesSaid : Prop := imageEncodesRow.holds Try.pinned (OpenSpec.ofChange imageEncodesSpec)

/-- ITS FALSE NEIGHBOUR: 'it returns false'. Refute it at one input. -/
def imageEncodesWrong : ChangeSpec := { name := "imageEncodes", fn := fun _ => fun
  | [d1, d2] => { results := [.lit (.bool false)], args := [d1, d2] }
  | _ => none }
def ImageEncodesWrongFalsely : Prop := imageEncodesRow.holds Try.pinned (OpenSpec.ofChange imageEncodesWrong)

/-- 'magnetolaw15.ImageWords': WHATEVER THE INPUT: true; the input reads as it did. -/
def imageWordsSpec : ChangeSpec := { name := "imageWords", fn := fun _ => fun
  | [d1, d2, d3] => { results := [.lit (.bool true)], args := [d1, d2, d3] }
  | _ => none }
def imageWordsRow : OpenClaim := { program := "ytfooefiaenlhmaa", sum := "ff0f9351b0871ca31506e197280bfe247c3e1104a43f0fd9d979f8a4f0b28bfd", func := "magneto/magnetolaw15.ImageWords", spec := "imageWords", inPlace := ["internal/bytealg.IndexByteString"], unfollowed := true, recurses := true, apart := false }
def ImageWordsSaid : Prop := imageWordsRow.holds Try.pinned (OpenSpec.ofChange imageWordsSpec)

/-- ITS FALSE NEIGHBOUR: 'it returns false'. Refute it at one input. -/
def imageWordsWrong : ChangeSpec := { name := "imageWords", fn := fun _ => fun
  | [d1, d2, d3] => { results := [.lit (.bool false)], args := [d1, d2, d3] }
  | _ => none }
def ImageWordsWrongFalsely : Prop := imageWordsRow.holds Try.pinned (OpenSpec.ofChange imageWordsWrong)

/-- 'magnetolaw15.ImageOwn': WHATEVER THE INPUT: true; the input reads as it did. -/
def imageOwnSpec : ChangeSpec := { name := "imageOwn", fn := fun _ => fun
  | [d1, d2, d3] => { results := [.lit (.bool true)], args := [d1, d2, d3] }
  | _ => none }
def imageOwnRow : OpenClaim := { program := "ytfooefiaenlhmaa", sum := "ff0f9351b0871ca31506e197280bfe247c3e1104a43f0fd9d979f8a4f0b28bfd", func := "magneto/magnetolaw15.ImageOwn", spec := "imageOwn", inPlace := ["internal/bytealg.IndexByteString"], unfollowed := true, recurses := true, apart := false }
def ImageOwnSaid : Prop := imageOwnRow.holds Try.pinned (OpenSpec.ofChange imageOwnSpec)

/-- ITS FALSE NEIGHBOUR: 'it returns false'. Refute it at one input. -/
def imageOwnWrong : ChangeSpec := { name := "imageOwn", fn := fun _ => fun
  | [d1, d2, d3] => { results := [.lit (.bool false)], args := [d1, d2, d3] }
  | _ => none }
def ImageOwnWrongFalsely : Prop := imageOwnRow.holds Try.pinned (OpenSpec.ofChange imageOwnWrong)

/-- 'magnetolaw15.ImageDetects': WHATEVER THE INPUT: true; the input reads as it did. -/
def imageDetectsSpec : ChangeSpec := { name := "imageDetects", fn := fun _ => fun
  | [d1, d2, d3] => { results := [.lit (.bool true)], args := [d1, d2, d3] }
  | _ => none }
def imageDetectsRow : OpenClaim := { program := "ytfooefiaenlhmaa", sum := "ff0f9351b0871ca31506e197280bfe247c3e1104a43f0fd9d979f8a4f0b28bfd", func := "magneto/magnetolaw15.ImageDetects", spec := "imageDetects", inPlace := ["internal/bytealg.IndexByteString"], unfollowed := true, recurses := true, apart := false }
def ImageDetectsSaid : Prop := imageDetectsRow.holds Try.pinned (OpenSpec.ofChange imageDetectsSpec)

/-- ITS FALSE NEIGHBOUR: 'it returns false'. Refute it at one input. -/
def imageDetectsWrong : ChangeSpec := { name := "imageDetects", fn := fun _ => fun
  | [d1, d2, d3] => { results := [.lit (.bool false)], args := [d1, d2, d3] }
  | _ => none }
def ImageDetectsWrongFalsely : Prop := imageDetectsRow.holds Try.pinned (OpenSpec.ofChange imageDetectsWrong)

/-- 'magnetolaw15.ImageBack': WHATEVER THE INPUT: true; the input reads as it did. -/
def imageBackSpec : ChangeSpec := { name := "imageBack", fn := fun _ => fun
  | [d1, d2] => { results := [.lit (.bool true)], args := [d1, d2] }
  | _ => none }
def imageBackRow : OpenClaim := { program := "ytfooefiaenlhmaa", sum := "ff0f9351b0871ca31506e197280bfe247c3e1104a43f0fd9d979f8a4f0b28bfd", func := "magneto/magnetolaw15.ImageBack", spec := "imageBack", inPlace := ["internal/bytealg.IndexByteString"], unfollowed := true, recurses := true, apart := false }
def ImageBackSaid : Prop := imageBackRow.holds Try.pinned (OpenSpec.ofChange imageBackSpec)

/-- ITS FALSE NEIGHBOUR: 'it returns false'. Refute it at one input. -/
def imageBackWrong : ChangeSpec := { name := "imageBack", fn := fun _ => fun
  | [d1, d2] => { results := [.lit (.bool false)], args := [d1, d2] }
  | _ => none }
def ImageBackWrongFalsely : Prop := imageBackRow.holds Try.pinned (OpenSpec.ofChange imageBackWrong)

/- THE SECOND FORM. 'bulk': how many values and letters a reading holds, each counted each time it is reached (what is shared counts as often as it is met; a slice's spare places count too). A statement '..UptoSaid' is the law's where the arguments, and the package variables that the reading takes, are together of bulk at most 1048576: NARROWER than '..Said'. Prove '..Said' where nothing that the law and all that it calls make is longer than what came in: it says more and counts as full. Else prove '..UptoSaid'. A law counts once. -/
mutual
def uptoBulk {H : Type} : DataW H → Nat
  | .lit (.string bytes) => bytes.length + 1
  | .lit _ => 1
  | .nil => 1
  | .ptr d => uptoBulk d + 1
  | .slice elems spare => uptoBulkAll elems + uptoBulkAll spare + 1
  | .agg parts => uptoBulkAll parts + 1
  | .iface _ d => uptoBulk d + 1
  | .map entries => uptoBulkEntries entries + 1
  | .held _ => 1
def uptoBulkAll {H : Type} : List (DataW H) → Nat
  | [] => 0
  | d :: r => uptoBulk d + uptoBulkAll r
def uptoBulkEntries {H : Type} : List (Lit × DataW H) → Nat
  | [] => 0
  | x :: r => uptoBulkEntry x + uptoBulkEntries r
def uptoBulkEntry {H : Type} : Lit × DataW H → Nat
  | (.string bytes, d) => bytes.length + uptoBulk d + 1
  | (_, d) => uptoBulk d + 1
 end
def uptoSmall : (H : Type) → List (DataW H) → Bool := fun _ ds => decide (uptoBulkAll ds ≤ 1048576)
def OpenSpec.upto (s : _root_.Go.ChangeSpec) : _root_.Go.OpenSpec := { _root_.Go.OpenSpec.ofChange s with cond := some uptoSmall }

/-- 'magnetolaw15.ImageEncodes', WHERE WHAT IT READS IS OF BULK AT MOST 1048576: true; the input reads as it did. -/
def imageEncodesUptoRow : OpenClaim := { program := "ytfooefiaenlhmaa", sum := "ff0f9351b0871ca31506e197280bfe247c3e1104a43f0fd9d979f8a4f0b28bfd", func := "magneto/magnetolaw15.ImageEncodes", spec := "imageEncodes", inPlace := ["internal/bytealg.IndexByteString"], unfollowed := true, recurses := true, apart := false, narrowed := true }
def ImageEncodesUptoSaid : Prop := imageEncodesUptoRow.holds Try.pinned (OpenSpec.upto imageEncodesSpec)

/-- 'magnetolaw15.ImageWords', WHERE WHAT IT READS IS OF BULK AT MOST 1048576: true; the input reads as it did. -/
def imageWordsUptoRow : OpenClaim := { program := "ytfooefiaenlhmaa", sum := "ff0f9351b0871ca31506e197280bfe247c3e1104a43f0fd9d979f8a4f0b28bfd", func := "magneto/magnetolaw15.ImageWords", spec := "imageWords", inPlace := ["internal/bytealg.IndexByteString"], unfollowed := true, recurses := true, apart := false, narrowed := true }
def ImageWordsUptoSaid : Prop := imageWordsUptoRow.holds Try.pinned (OpenSpec.upto imageWordsSpec)

/-- 'magnetolaw15.ImageOwn', WHERE WHAT IT READS IS OF BULK AT MOST 1048576: true; the input reads as it did. -/
def imageOwnUptoRow : OpenClaim := { program := "ytfooefiaenlhmaa", sum := "ff0f9351b0871ca31506e197280bfe247c3e1104a43f0fd9d979f8a4f0b28bfd", func := "magneto/magnetolaw15.ImageOwn", spec := "imageOwn", inPlace := ["internal/bytealg.IndexByteString"], unfollowed := true, recurses := true, apart := false, narrowed := true }
def ImageOwnUptoSaid : Prop := imageOwnUptoRow.holds Try.pinned (OpenSpec.upto imageOwnSpec)

/-- 'magnetolaw15.ImageDetects', WHERE WHAT IT READS IS OF BULK AT MOST 1048576: true; the input reads as it did. -/
def imageDetectsUptoRow : OpenClaim := { program := "ytfooefiaenlhmaa", sum := "ff0f9351b0871ca31506e197280bfe247c3e1104a43f0fd9d979f8a4f0b28bfd", func := "magneto/magnetolaw15.ImageDetects", spec := "imageDetects", inPlace := ["internal/bytealg.IndexByteString"], unfollowed := true, recurses := true, apart := false, narrowed := true }
def ImageDetectsUptoSaid : Prop := imageDetectsUptoRow.holds Try.pinned (OpenSpec.upto imageDetectsSpec)

/-- 'magnetolaw15.ImageBack', WHERE WHAT IT READS IS OF BULK AT MOST 1048576: true; the input reads as it did. -/
def imageBackUptoRow : OpenClaim := { program := "ytfooefiaenlhmaa", sum := "ff0f9351b0871ca31506e197280bfe247c3e1104a43f0fd9d979f8a4f0b28bfd", func := "magneto/magnetolaw15.ImageBack", spec := "imageBack", inPlace := ["internal/bytealg.IndexByteString"], unfollowed := true, recurses := true, apart := false, narrowed := true }
def ImageBackUptoSaid : Prop := imageBackUptoRow.holds Try.pinned (OpenSpec.upto imageBackSpec)

end Rows
end Go.Proofs.Ytfooefiaenlhmaa
