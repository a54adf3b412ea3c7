/-
  No cell of these rows narrows 'for every input' (looked for: loops, veiled, ifaces, maps, wideKeys, modest, calm, conditions, laid).
  DERIVED. THE GIVEN ROWS OF THIS SEAT. 9 by the template 'for every input the law returns true; each argument reads behind the call as it read before'; 0 by the template 'total and deterministic' (their statements: YtpmjnpbigppllaaTotals.lean).
  GIVEN WITH THE SEED: the statements are not yours to turn. If you find one false, say at which input.
  Laid BY PROGRAM, IN A SANDBOX (cutbox-rows.mjs): the forced cells as the released guide's own fill.sh prints them over the translation c0d670896e41bd74… (all of the seat's roots in one cut). By AI agents, Wed Nov 11 2026. No macro, syntax, notation, axiom, sorry.
-/
import Derived.Test.YtpmjnpbigppllaaChecked
import GoSem.Claim
import GoSem.ClaimJoined
import GoSem.ClaimMapViews
import Derived.JoinedTies
import Derived.KernelRfl
namespace Go.Proofs.Ytpmjnpbigppllaa
/- THE CELL 'sum', in the pinned program and in every row, IS THE sha256 OF THE DUMP (.gsa) THAT YtpmjnpbigppllaaProg.lean LOADS. Nothing in Lean hashes anything: it is a label: what it is worth is what the hold of that sum in a sandbox is worth. -/
noncomputable def Try.pinned : Pinned := { name := "ytpmjnpbigppllaa", sum := "c0d670896e41bd74314200844db2079b146faec74803397cc23f7e074cc7959a", checked := Try.checked }
namespace Rows
def none {H : Type} : Left H := { results := [], args := [] }

/-- 'magnetolaw35.TorqueForward': WHATEVER THE INPUT: true; the input reads as it did. -/
def torqueForwardSpec : ChangeSpec := { name := "torqueForward", fn := fun _ => fun
  | [d1, d2, d3, d4, d5, d6] => { results := [.lit (.bool true)], args := [d1, d2, d3, d4, d5, d6] }
  | _ => none }
def torqueForwardRow : OpenClaim := { program := "ytpmjnpbigppllaa", sum := "c0d670896e41bd74314200844db2079b146faec74803397cc23f7e074cc7959a", func := "magneto/magnetolaw35.TorqueForward", spec := "torqueForward", unfollowed := true, recurses := true, named := ["math/bits.divideError", "math/bits.overflowError"], apart := false }
def TorqueForwardSaid : Prop := torqueForwardRow.holds Try.pinned (OpenSpec.ofChange torqueForwardSpec)

/-- ITS FALSE NEIGHBOUR: 'it returns false'. Refute it at one input. -/
def torqueForwardWrong : ChangeSpec := { name := "torqueForward", fn := fun _ => fun
  | [d1, d2, d3, d4, d5, d6] => { results := [.lit (.bool false)], args := [d1, d2, d3, d4, d5, d6] }
  | _ => none }
def TorqueForwardWrongFalsely : Prop := torqueForwardRow.holds Try.pinned (OpenSpec.ofChange torqueForwardWrong)

/-- 'magnetolaw35.TorquePatterns': WHATEVER THE INPUT: true; the input reads as it did. -/
def torquePatternsSpec : ChangeSpec := { name := "torquePatterns", fn := fun _ => fun
  | [d1, d2, d3] => { results := [.lit (.bool true)], args := [d1, d2, d3] }
  | _ => none }
def torquePatternsRow : OpenClaim := { program := "ytpmjnpbigppllaa", sum := "c0d670896e41bd74314200844db2079b146faec74803397cc23f7e074cc7959a", func := "magneto/magnetolaw35.TorquePatterns", spec := "torquePatterns", unfollowed := true, recurses := true, named := ["math/bits.divideError", "math/bits.overflowError"], apart := false }
def TorquePatternsSaid : Prop := torquePatternsRow.holds Try.pinned (OpenSpec.ofChange torquePatternsSpec)

/-- ITS FALSE NEIGHBOUR: 'it returns false'. Refute it at one input. -/
def torquePatternsWrong : ChangeSpec := { name := "torquePatterns", fn := fun _ => fun
  | [d1, d2, d3] => { results := [.lit (.bool false)], args := [d1, d2, d3] }
  | _ => none }
def TorquePatternsWrongFalsely : Prop := torquePatternsRow.holds Try.pinned (OpenSpec.ofChange torquePatternsWrong)

/-- 'magnetolaw35.TorqueShares': WHATEVER THE INPUT: true; the input reads as it did. -/
def torqueSharesSpec : ChangeSpec := { name := "torqueShares", fn := fun _ => fun
  | [d1, d2, d3, d4, d5] => { results := [.lit (.bool true)], args := [d1, d2, d3, d4, d5] }
  | _ => none }
def torqueSharesRow : OpenClaim := { program := "ytpmjnpbigppllaa", sum := "c0d670896e41bd74314200844db2079b146faec74803397cc23f7e074cc7959a", func := "magneto/magnetolaw35.TorqueShares", spec := "torqueShares", unfollowed := true, recurses := true, named := ["math/bits.divideError", "math/bits.overflowError"], apart := false }
def TorqueSharesSaid : Prop := torqueSharesRow.holds Try.pinned (OpenSpec.ofChange torqueSharesSpec)

/-- ITS FALSE NEIGHBOUR: 'it returns false'. Refute it at one input. -/
def torqueSharesWrong : ChangeSpec := { name := "torqueShares", fn := fun _ => fun
  | [d1, d2, d3, d4, d5] => { results := [.lit (.bool false)], args := [d1, d2, d3, d4, d5] }
  | _ => none }
def TorqueSharesWrongFalsely : Prop := torqueSharesRow.holds Try.pinned (OpenSpec.ofChange torqueSharesWrong)

/-- 'magnetolaw35.TorqueMonotone': WHATEVER THE INPUT: true; the input reads as it did. -/
def torqueMonotoneSpec : ChangeSpec := { name := "torqueMonotone", fn := fun _ => fun
  | [d1, d2, d3, d4, d5, d6] => { results := [.lit (.bool true)], args := [d1, d2, d3, d4, d5, d6] }
  | _ => none }
def torqueMonotoneRow : OpenClaim := { program := "ytpmjnpbigppllaa", sum := "c0d670896e41bd74314200844db2079b146faec74803397cc23f7e074cc7959a", func := "magneto/magnetolaw35.TorqueMonotone", spec := "torqueMonotone", unfollowed := true, recurses := true, named := ["math/bits.divideError", "math/bits.overflowError"], apart := false }
def TorqueMonotoneSaid : Prop := torqueMonotoneRow.holds Try.pinned (OpenSpec.ofChange torqueMonotoneSpec)

/-- ITS FALSE NEIGHBOUR: 'it returns false'. Refute it at one input. -/
def torqueMonotoneWrong : ChangeSpec := { name := "torqueMonotone", fn := fun _ => fun
  | [d1, d2, d3, d4, d5, d6] => { results := [.lit (.bool false)], args := [d1, d2, d3, d4, d5, d6] }
  | _ => none }
def TorqueMonotoneWrongFalsely : Prop := torqueMonotoneRow.holds Try.pinned (OpenSpec.ofChange torqueMonotoneWrong)

/-- 'magnetolaw35.TorqueBounded': WHATEVER THE INPUT: true; the input reads as it did. -/
def torqueBoundedSpec : ChangeSpec := { name := "torqueBounded", fn := fun _ => fun
  | [d1, d2, d3, d4, d5] => { results := [.lit (.bool true)], args := [d1, d2, d3, d4, d5] }
  | _ => none }
def torqueBoundedRow : OpenClaim := { program := "ytpmjnpbigppllaa", sum := "c0d670896e41bd74314200844db2079b146faec74803397cc23f7e074cc7959a", func := "magneto/magnetolaw35.TorqueBounded", spec := "torqueBounded", unfollowed := true, recurses := true, named := ["math/bits.divideError", "math/bits.overflowError"], apart := false }
def TorqueBoundedSaid : Prop := torqueBoundedRow.holds Try.pinned (OpenSpec.ofChange torqueBoundedSpec)

/-- ITS FALSE NEIGHBOUR: 'it returns false'. Refute it at one input. -/
def torqueBoundedWrong : ChangeSpec := { name := "torqueBounded", fn := fun _ => fun
  | [d1, d2, d3, d4, d5] => { results := [.lit (.bool false)], args := [d1, d2, d3, d4, d5] }
  | _ => none }
def TorqueBoundedWrongFalsely : Prop := torqueBoundedRow.holds Try.pinned (OpenSpec.ofChange torqueBoundedWrong)

/-- 'magnetolaw35.TorqueFair': WHATEVER THE INPUT: true; the input reads as it did. -/
def torqueFairSpec : ChangeSpec := { name := "torqueFair", fn := fun _ => fun
  | [d1, d2, d3] => { results := [.lit (.bool true)], args := [d1, d2, d3] }
  | _ => none }
def torqueFairRow : OpenClaim := { program := "ytpmjnpbigppllaa", sum := "c0d670896e41bd74314200844db2079b146faec74803397cc23f7e074cc7959a", func := "magneto/magnetolaw35.TorqueFair", spec := "torqueFair", unfollowed := true, recurses := true, named := ["math/bits.divideError", "math/bits.overflowError"], apart := false }
def TorqueFairSaid : Prop := torqueFairRow.holds Try.pinned (OpenSpec.ofChange torqueFairSpec)

/-- ITS FALSE NEIGHBOUR: 'it returns false'. Refute it at one input. -/
def torqueFairWrong : ChangeSpec := { name := "torqueFair", fn := fun _ => fun
  | [d1, d2, d3] => { results := [.lit (.bool false)], args := [d1, d2, d3] }
  | _ => none }
def TorqueFairWrongFalsely : Prop := torqueFairRow.holds Try.pinned (OpenSpec.ofChange torqueFairWrong)

/-- 'magnetolaw35.TorqueBack': WHATEVER THE INPUT: true; the input reads as it did. -/
def torqueBackSpec : ChangeSpec := { name := "torqueBack", fn := fun _ => fun
  | [d1, d2, d3, d4] => { results := [.lit (.bool true)], args := [d1, d2, d3, d4] }
  | _ => none }
def torqueBackRow : OpenClaim := { program := "ytpmjnpbigppllaa", sum := "c0d670896e41bd74314200844db2079b146faec74803397cc23f7e074cc7959a", func := "magneto/magnetolaw35.TorqueBack", spec := "torqueBack", unfollowed := true, recurses := true, named := ["math/bits.divideError", "math/bits.overflowError"], apart := false }
def TorqueBackSaid : Prop := torqueBackRow.holds Try.pinned (OpenSpec.ofChange torqueBackSpec)

/-- ITS FALSE NEIGHBOUR: 'it returns false'. Refute it at one input. -/
def torqueBackWrong : ChangeSpec := { name := "torqueBack", fn := fun _ => fun
  | [d1, d2, d3, d4] => { results := [.lit (.bool false)], args := [d1, d2, d3, d4] }
  | _ => none }
def TorqueBackWrongFalsely : Prop := torqueBackRow.holds Try.pinned (OpenSpec.ofChange torqueBackWrong)

/-- 'magnetolaw35.TorqueInverse': WHATEVER THE INPUT: true; the input reads as it did. -/
def torqueInverseSpec : ChangeSpec := { name := "torqueInverse", fn := fun _ => fun
  | [d1, d2, d3, d4] => { results := [.lit (.bool true)], args := [d1, d2, d3, d4] }
  | _ => none }
def torqueInverseRow : OpenClaim := { program := "ytpmjnpbigppllaa", sum := "c0d670896e41bd74314200844db2079b146faec74803397cc23f7e074cc7959a", func := "magneto/magnetolaw35.TorqueInverse", spec := "torqueInverse", unfollowed := true, recurses := true, named := ["math/bits.divideError", "math/bits.overflowError"], apart := false }
def TorqueInverseSaid : Prop := torqueInverseRow.holds Try.pinned (OpenSpec.ofChange torqueInverseSpec)

/-- ITS FALSE NEIGHBOUR: 'it returns false'. Refute it at one input. -/
def torqueInverseWrong : ChangeSpec := { name := "torqueInverse", fn := fun _ => fun
  | [d1, d2, d3, d4] => { results := [.lit (.bool false)], args := [d1, d2, d3, d4] }
  | _ => none }
def TorqueInverseWrongFalsely : Prop := torqueInverseRow.holds Try.pinned (OpenSpec.ofChange torqueInverseWrong)

/-- 'magnetotop.TopInverse': WHATEVER THE INPUT: true; the input reads as it did. -/
def topInverseSpec : ChangeSpec := { name := "topInverse", fn := fun _ => fun
  | [d1, d2, d3, d4] => { results := [.lit (.bool true)], args := [d1, d2, d3, d4] }
  | _ => none }
def topInverseRow : OpenClaim := { program := "ytpmjnpbigppllaa", sum := "c0d670896e41bd74314200844db2079b146faec74803397cc23f7e074cc7959a", func := "magneto/magnetotop.TopInverse", spec := "topInverse", unfollowed := true, recurses := true, named := ["math/bits.divideError", "math/bits.overflowError"], apart := false }
def TopInverseSaid : Prop := topInverseRow.holds Try.pinned (OpenSpec.ofChange topInverseSpec)

/-- ITS FALSE NEIGHBOUR: 'it returns false'. Refute it at one input. -/
def topInverseWrong : ChangeSpec := { name := "topInverse", fn := fun _ => fun
  | [d1, d2, d3, d4] => { results := [.lit (.bool false)], args := [d1, d2, d3, d4] }
  | _ => none }
def TopInverseWrongFalsely : Prop := topInverseRow.holds Try.pinned (OpenSpec.ofChange topInverseWrong)

/- THE SECOND FORM. 'bulk': how many values and letters a reading holds, each counted each time it is reached (what is shared counts as often as it is met; a slice's spare places count too). A statement '..UptoSaid' is the law's where the arguments, and the package variables that the reading takes, are together of bulk at most 1048576: NARROWER than '..Said'. Prove '..Said' where nothing that the law and all that it calls make is longer than what came in: it says more and counts as full. Else prove '..UptoSaid'. A law counts once. -/
mutual
def uptoBulk {H : Type} : DataW H → Nat
  | .lit (.string bytes) => bytes.length + 1
  | .lit _ => 1
  | .nil => 1
  | .ptr d => uptoBulk d + 1
  | .slice elems spare => uptoBulkAll elems + uptoBulkAll spare + 1
  | .agg parts => uptoBulkAll parts + 1
  | .iface _ d => uptoBulk d + 1
  | .map entries => uptoBulkEntries entries + 1
  | .held _ => 1
def uptoBulkAll {H : Type} : List (DataW H) → Nat
  | [] => 0
  | d :: r => uptoBulk d + uptoBulkAll r
def uptoBulkEntries {H : Type} : List (Lit × DataW H) → Nat
  | [] => 0
  | x :: r => uptoBulkEntry x + uptoBulkEntries r
def uptoBulkEntry {H : Type} : Lit × DataW H → Nat
  | (.string bytes, d) => bytes.length + uptoBulk d + 1
  | (_, d) => uptoBulk d + 1
 end
def uptoSmall : (H : Type) → List (DataW H) → Bool := fun _ ds => decide (uptoBulkAll ds ≤ 1048576)
def OpenSpec.upto (s : _root_.Go.ChangeSpec) : _root_.Go.OpenSpec := { _root_.Go.OpenSpec.ofChange s with cond := some uptoSmall }

/-- 'magnetolaw35.TorqueForward', WHERE WHAT IT READS IS OF BULK AT MOST 1048576: true; the input reads as it did. -/
def torqueForwardUptoRow : OpenClaim := { program := "ytpmjnpbigppllaa", sum := "c0d670896e41bd74314200844db2079b146faec74803397cc23f7e074cc7959a", func := "magneto/magnetolaw35.TorqueForward", spec := "torqueForward", unfollowed := true, recurses := true, named := ["math/bits.divideError", "math/bits.overflowError"], apart := false, narrowed := true }
def TorqueForwardUptoSaid : Prop := torqueForwardUptoRow.holds Try.pinned (OpenSpec.upto torqueForwardSpec)

/-- 'magnetolaw35.TorquePatterns', WHERE WHAT IT READS IS OF BULK AT MOST 1048576: true; the input reads as it did. -/
def torquePatternsUptoRow : OpenClaim := { program := "ytpmjnpbigppllaa", sum := "c0d670896e41bd74314200844db2079b146faec74803397cc23f7e074cc7959a", func := "magneto/magnetolaw35.TorquePatterns", spec := "torquePatterns", unfollowed := true, recurses := true, named := ["math/bits.divideError", "math/bits.overflowError"], apart := false, narrowed := true }
def TorquePatternsUptoSaid : Prop := torquePatternsUptoRow.holds Try.pinned (OpenSpec.upto torquePatternsSpec)

/-- 'magnetolaw35.TorqueShares', WHERE WHAT IT READS IS OF BULK AT MOST 1048576: true; the input reads as it did. -/
def torqueSharesUptoRow : OpenClaim := { program := "ytpmjnpbigppllaa", sum := "c0d670896e41bd74314200844db2079b146faec74803397cc23f7e074cc7959a", func := "magneto/magnetolaw35.TorqueShares", spec := "torqueShares", unfollowed := true, recurses := true, named := ["math/bits.divideError", "math/bits.overflowError"], apart := false, narrowed := true }
def TorqueSharesUptoSaid : Prop := torqueSharesUptoRow.holds Try.pinned (OpenSpec.upto torqueSharesSpec)

/-- 'magnetolaw35.TorqueMonotone', WHERE WHAT IT READS IS OF BULK AT MOST 1048576: true; the input reads as it did. -/
def torqueMonotoneUptoRow : OpenClaim := { program := "ytpmjnpbigppllaa", sum := "c0d670896e41bd74314200844db2079b146faec74803397cc23f7e074cc7959a", func := "magneto/magnetolaw35.TorqueMonotone", spec := "torqueMonotone", unfollowed := true, recurses := true, named := ["math/bits.divideError", "math/bits.overflowError"], apart := false, narrowed := true }
def TorqueMonotoneUptoSaid : Prop := torqueMonotoneUptoRow.holds Try.pinned (OpenSpec.upto torqueMonotoneSpec)

/-- 'magnetolaw35.TorqueBounded', WHERE WHAT IT READS IS OF BULK AT MOST 1048576: true; the input reads as it did. -/
def torqueBoundedUptoRow : OpenClaim := { program := "ytpmjnpbigppllaa", sum := "c0d670896e41bd74314200844db2079b146faec74803397cc23f7e074cc7959a", func := "magneto/magnetolaw35.TorqueBounded", spec := "torqueBounded", unfollowed := true, recurses := true, named := ["math/bits.divideError", "math/bits.overflowError"], apart := false, narrowed := true }
def TorqueBoundedUptoSaid : Prop := torqueBoundedUptoRow.holds Try.pinned (OpenSpec.upto torqueBoundedSpec)

/-- 'magnetolaw35.TorqueFair', WHERE WHAT IT READS IS OF BULK AT MOST 1048576: true; the input reads as it did. -/
def torqueFairUptoRow : OpenClaim := { program := "ytpmjnpbigppllaa", sum := "c0d670896e41bd74314200844db2079b146faec74803397cc23f7e074cc7959a", func := "magneto/magnetolaw35.TorqueFair", spec := "torqueFair", unfollowed := true, recurses := true, named := ["math/bits.divideError", "math/bits.overflowError"], apart := false, narrowed := true }
def TorqueFairUptoSaid : Prop := torqueFairUptoRow.holds Try.pinned (OpenSpec.upto torqueFairSpec)

/-- 'magnetolaw35.TorqueBack', WHERE WHAT IT READS IS OF BULK AT MOST 1048576: true; the input reads as it did. -/
def torqueBackUptoRow : OpenClaim := { program := "ytpmjnpbigppllaa", sum := "c0d670896e41bd74314200844db2079b146faec74803397cc23f7e074cc7959a", func := "magneto/magnetolaw35.TorqueBack", spec := "torqueBack", unfollowed := true, recurses := true, named := ["math/bits.divideError", "math/bits.overflowError"], apart := false, narrowed := true }
def TorqueBackUptoSaid : Prop := torqueBackUptoRow.holds Try.pinned (OpenSpec.upto torqueBackSpec)

/-- 'magnetolaw35.TorqueInverse', WHERE WHAT IT READS IS OF BULK AT MOST 1048576: true; the input reads as it did. -/
def torqueInverseUptoRow : OpenClaim := { program := "ytpmjnpbigppllaa", sum := "c0d670896e41bd74314200844db2079b146faec74803397cc23f7e074cc7959a", func := "magneto/magnetolaw35.TorqueInverse", spec := "torqueInverse", unfollowed := true, recurses := true, named := ["math/bits.divideError", "math/bits.overflowError"], apart := false, narrowed := true }
def TorqueInverseUptoSaid : Prop := torqueInverseUptoRow.holds Try.pinned (OpenSpec.upto torqueInverseSpec)

/-- 'magnetotop.TopInverse', WHERE WHAT IT READS IS OF BULK AT MOST 1048576: true; the input reads as it did. -/
def topInverseUptoRow : OpenClaim := { program := "ytpmjnpbigppllaa", sum := "c0d670896e41bd74314200844db2079b146faec74803397cc23f7e074cc7959a", func := "magneto/magnetotop.TopInverse", spec := "topInverse", unfollowed := true, recurses := true, named := ["math/bits.divideError", "math/bits.overflowError"], apart := false, narrowed := true }
def TopInverseUptoSaid : Prop := topInverseUptoRow.holds Try.pinned (OpenSpec.upto topInverseSpec)

end Rows
end Go.Proofs.Ytpmjnpbigppllaa
