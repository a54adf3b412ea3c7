/-
  No cell of these rows narrows 'for every input' (looked for: loops, veiled, ifaces, maps, wideKeys, modest, calm, conditions, laid).
  DERIVED. THE GIVEN ROWS OF THIS SEAT. 9 by the template 'for every input the law returns true; each argument reads behind the call as it read before'; 0 by the template 'total and deterministic' (their statements: YtmfldcjecajkoaaTotals.lean).
  GIVEN WITH THE SEED: the statements are not yours to turn. If you find one false, say at which input.
  Laid BY PROGRAM, IN A SANDBOX (cutbox-rows.mjs): the forced cells as the released guide's own fill.sh prints them over the translation 4593c9bdb6c1edf7… (all of the seat's roots in one cut). By AI agents, Wed Nov 11 2026. No macro, syntax, notation, axiom, sorry.
-/
import Derived.Test.YtmfldcjecajkoaaChecked
import GoSem.Claim
import GoSem.ClaimJoined
import GoSem.ClaimMapViews
import Derived.JoinedTies
import Derived.KernelRfl
namespace Go.Proofs.Ytmfldcjecajkoaa
/- THE CELL 'sum', in the pinned program and in every row, IS THE sha256 OF THE DUMP (.gsa) THAT YtmfldcjecajkoaaProg.lean LOADS. Nothing in Lean hashes anything: it is a label: what it is worth is what the hold of that sum in a sandbox is worth. -/
noncomputable def Try.pinned : Pinned := { name := "ytmfldcjecajkoaa", sum := "4593c9bdb6c1edf72501dc1c4abc7be1cb8e3ac4312b037d13b030d972465b35", checked := Try.checked }
namespace Rows
def none {H : Type} : Left H := { results := [], args := [] }

/-- 'magnetolaw30.FuelFilms': WHATEVER THE INPUT: true; the input reads as it did. -/
def fuelFilmsSpec : ChangeSpec := { name := "fuelFilms", fn := fun _ => fun
  | [d1, d2, d3] => { results := [.lit (.bool true)], args := [d1, d2, d3] }
  | _ => none }
def fuelFilmsRow : OpenClaim := { program := "ytmfldcjecajkoaa", sum := "4593c9bdb6c1edf72501dc1c4abc7be1cb8e3ac4312b037d13b030d972465b35", func := "magneto/magnetolaw30.FuelFilms", spec := "fuelFilms", unfollowed := true, recurses := true, apart := false }
def FuelFilmsSaid : Prop := fuelFilmsRow.holds Try.pinned (OpenSpec.ofChange fuelFilmsSpec)

/-- ITS FALSE NEIGHBOUR: 'it returns false'. Refute it at one input. -/
def fuelFilmsWrong : ChangeSpec := { name := "fuelFilms", fn := fun _ => fun
  | [d1, d2, d3] => { results := [.lit (.bool false)], args := [d1, d2, d3] }
  | _ => none }
def FuelFilmsWrongFalsely : Prop := fuelFilmsRow.holds Try.pinned (OpenSpec.ofChange fuelFilmsWrong)

/-- 'magnetolaw30.FuelWants': WHATEVER THE INPUT: true; the input reads as it did. -/
def fuelWantsSpec : ChangeSpec := { name := "fuelWants", fn := fun _ => fun
  | [d1, d2, d3] => { results := [.lit (.bool true)], args := [d1, d2, d3] }
  | _ => none }
def fuelWantsRow : OpenClaim := { program := "ytmfldcjecajkoaa", sum := "4593c9bdb6c1edf72501dc1c4abc7be1cb8e3ac4312b037d13b030d972465b35", func := "magneto/magnetolaw30.FuelWants", spec := "fuelWants", unfollowed := true, recurses := true, apart := false }
def FuelWantsSaid : Prop := fuelWantsRow.holds Try.pinned (OpenSpec.ofChange fuelWantsSpec)

/-- ITS FALSE NEIGHBOUR: 'it returns false'. Refute it at one input. -/
def fuelWantsWrong : ChangeSpec := { name := "fuelWants", fn := fun _ => fun
  | [d1, d2, d3] => { results := [.lit (.bool false)], args := [d1, d2, d3] }
  | _ => none }
def FuelWantsWrongFalsely : Prop := fuelWantsRow.holds Try.pinned (OpenSpec.ofChange fuelWantsWrong)

/-- 'magnetolaw30.FuelConserves': WHATEVER THE INPUT: true; the input reads as it did. -/
def fuelConservesSpec : ChangeSpec := { name := "fuelConserves", fn := fun _ => fun
  | [d1, d2, d3] => { results := [.lit (.bool true)], args := [d1, d2, d3] }
  | _ => none }
def fuelConservesRow : OpenClaim := { program := "ytmfldcjecajkoaa", sum := "4593c9bdb6c1edf72501dc1c4abc7be1cb8e3ac4312b037d13b030d972465b35", func := "magneto/magnetolaw30.FuelConserves", spec := "fuelConserves", unfollowed := true, recurses := true, apart := false }
def FuelConservesSaid : Prop := fuelConservesRow.holds Try.pinned (OpenSpec.ofChange fuelConservesSpec)

/-- ITS FALSE NEIGHBOUR: 'it returns false'. Refute it at one input. -/
def fuelConservesWrong : ChangeSpec := { name := "fuelConserves", fn := fun _ => fun
  | [d1, d2, d3] => { results := [.lit (.bool false)], args := [d1, d2, d3] }
  | _ => none }
def FuelConservesWrongFalsely : Prop := fuelConservesRow.holds Try.pinned (OpenSpec.ofChange fuelConservesWrong)

/-- 'magnetolaw30.FuelExact': WHATEVER THE INPUT: true; the input reads as it did. -/
def fuelExactSpec : ChangeSpec := { name := "fuelExact", fn := fun _ => fun
  | [d1, d2, d3] => { results := [.lit (.bool true)], args := [d1, d2, d3] }
  | _ => none }
def fuelExactRow : OpenClaim := { program := "ytmfldcjecajkoaa", sum := "4593c9bdb6c1edf72501dc1c4abc7be1cb8e3ac4312b037d13b030d972465b35", func := "magneto/magnetolaw30.FuelExact", spec := "fuelExact", unfollowed := true, recurses := true, apart := false }
def FuelExactSaid : Prop := fuelExactRow.holds Try.pinned (OpenSpec.ofChange fuelExactSpec)

/-- ITS FALSE NEIGHBOUR: 'it returns false'. Refute it at one input. -/
def fuelExactWrong : ChangeSpec := { name := "fuelExact", fn := fun _ => fun
  | [d1, d2, d3] => { results := [.lit (.bool false)], args := [d1, d2, d3] }
  | _ => none }
def FuelExactWrongFalsely : Prop := fuelExactRow.holds Try.pinned (OpenSpec.ofChange fuelExactWrong)

/-- 'magnetolaw30.FuelMasses': WHATEVER THE INPUT: true; the input reads as it did. -/
def fuelMassesSpec : ChangeSpec := { name := "fuelMasses", fn := fun _ => fun
  | [d1, d2] => { results := [.lit (.bool true)], args := [d1, d2] }
  | _ => none }
def fuelMassesRow : OpenClaim := { program := "ytmfldcjecajkoaa", sum := "4593c9bdb6c1edf72501dc1c4abc7be1cb8e3ac4312b037d13b030d972465b35", func := "magneto/magnetolaw30.FuelMasses", spec := "fuelMasses", unfollowed := true, recurses := true, apart := false }
def FuelMassesSaid : Prop := fuelMassesRow.holds Try.pinned (OpenSpec.ofChange fuelMassesSpec)

/-- ITS FALSE NEIGHBOUR: 'it returns false'. Refute it at one input. -/
def fuelMassesWrong : ChangeSpec := { name := "fuelMasses", fn := fun _ => fun
  | [d1, d2] => { results := [.lit (.bool false)], args := [d1, d2] }
  | _ => none }
def FuelMassesWrongFalsely : Prop := fuelMassesRow.holds Try.pinned (OpenSpec.ofChange fuelMassesWrong)

/-- 'magnetolaw30.FuelRatio': WHATEVER THE INPUT: true; the input reads as it did. -/
def fuelRatioSpec : ChangeSpec := { name := "fuelRatio", fn := fun _ => fun
  | [d1, d2] => { results := [.lit (.bool true)], args := [d1, d2] }
  | _ => none }
def fuelRatioRow : OpenClaim := { program := "ytmfldcjecajkoaa", sum := "4593c9bdb6c1edf72501dc1c4abc7be1cb8e3ac4312b037d13b030d972465b35", func := "magneto/magnetolaw30.FuelRatio", spec := "fuelRatio", unfollowed := true, recurses := true, apart := false }
def FuelRatioSaid : Prop := fuelRatioRow.holds Try.pinned (OpenSpec.ofChange fuelRatioSpec)

/-- ITS FALSE NEIGHBOUR: 'it returns false'. Refute it at one input. -/
def fuelRatioWrong : ChangeSpec := { name := "fuelRatio", fn := fun _ => fun
  | [d1, d2] => { results := [.lit (.bool false)], args := [d1, d2] }
  | _ => none }
def FuelRatioWrongFalsely : Prop := fuelRatioRow.holds Try.pinned (OpenSpec.ofChange fuelRatioWrong)

/-- 'magnetolaw30.FuelSplits': WHATEVER THE INPUT: true; the input reads as it did. -/
def fuelSplitsSpec : ChangeSpec := { name := "fuelSplits", fn := fun _ => fun
  | [d1, d2, d3] => { results := [.lit (.bool true)], args := [d1, d2, d3] }
  | _ => none }
def fuelSplitsRow : OpenClaim := { program := "ytmfldcjecajkoaa", sum := "4593c9bdb6c1edf72501dc1c4abc7be1cb8e3ac4312b037d13b030d972465b35", func := "magneto/magnetolaw30.FuelSplits", spec := "fuelSplits", unfollowed := true, recurses := true, apart := false }
def FuelSplitsSaid : Prop := fuelSplitsRow.holds Try.pinned (OpenSpec.ofChange fuelSplitsSpec)

/-- ITS FALSE NEIGHBOUR: 'it returns false'. Refute it at one input. -/
def fuelSplitsWrong : ChangeSpec := { name := "fuelSplits", fn := fun _ => fun
  | [d1, d2, d3] => { results := [.lit (.bool false)], args := [d1, d2, d3] }
  | _ => none }
def FuelSplitsWrongFalsely : Prop := fuelSplitsRow.holds Try.pinned (OpenSpec.ofChange fuelSplitsWrong)

/-- 'magnetolaw30.FuelTimes': WHATEVER THE INPUT: true; the input reads as it did. -/
def fuelTimesSpec : ChangeSpec := { name := "fuelTimes", fn := fun _ => fun
  | [d1, d2, d3] => { results := [.lit (.bool true)], args := [d1, d2, d3] }
  | _ => none }
def fuelTimesRow : OpenClaim := { program := "ytmfldcjecajkoaa", sum := "4593c9bdb6c1edf72501dc1c4abc7be1cb8e3ac4312b037d13b030d972465b35", func := "magneto/magnetolaw30.FuelTimes", spec := "fuelTimes", unfollowed := true, recurses := true, named := ["math/bits.divideError", "math/bits.overflowError"], apart := false }
def FuelTimesSaid : Prop := fuelTimesRow.holds Try.pinned (OpenSpec.ofChange fuelTimesSpec)

/-- ITS FALSE NEIGHBOUR: 'it returns false'. Refute it at one input. -/
def fuelTimesWrong : ChangeSpec := { name := "fuelTimes", fn := fun _ => fun
  | [d1, d2, d3] => { results := [.lit (.bool false)], args := [d1, d2, d3] }
  | _ => none }
def FuelTimesWrongFalsely : Prop := fuelTimesRow.holds Try.pinned (OpenSpec.ofChange fuelTimesWrong)

/-- 'magnetolaw30.FuelBack': WHATEVER THE INPUT: true; the input reads as it did. -/
def fuelBackSpec : ChangeSpec := { name := "fuelBack", fn := fun _ => fun
  | [d1, d2, d3, d4] => { results := [.lit (.bool true)], args := [d1, d2, d3, d4] }
  | _ => none }
def fuelBackRow : OpenClaim := { program := "ytmfldcjecajkoaa", sum := "4593c9bdb6c1edf72501dc1c4abc7be1cb8e3ac4312b037d13b030d972465b35", func := "magneto/magnetolaw30.FuelBack", spec := "fuelBack", unfollowed := true, recurses := true, named := ["math/bits.divideError", "math/bits.overflowError"], apart := false }
def FuelBackSaid : Prop := fuelBackRow.holds Try.pinned (OpenSpec.ofChange fuelBackSpec)

/-- ITS FALSE NEIGHBOUR: 'it returns false'. Refute it at one input. -/
def fuelBackWrong : ChangeSpec := { name := "fuelBack", fn := fun _ => fun
  | [d1, d2, d3, d4] => { results := [.lit (.bool false)], args := [d1, d2, d3, d4] }
  | _ => none }
def FuelBackWrongFalsely : Prop := fuelBackRow.holds Try.pinned (OpenSpec.ofChange fuelBackWrong)

/- THE SECOND FORM. 'bulk': how many values and letters a reading holds, each counted each time it is reached (what is shared counts as often as it is met; a slice's spare places count too). A statement '..UptoSaid' is the law's where the arguments, and the package variables that the reading takes, are together of bulk at most 1048576: NARROWER than '..Said'. Prove '..Said' where nothing that the law and all that it calls make is longer than what came in: it says more and counts as full. Else prove '..UptoSaid'. A law counts once. -/
mutual
def uptoBulk {H : Type} : DataW H → Nat
  | .lit (.string bytes) => bytes.length + 1
  | .lit _ => 1
  | .nil => 1
  | .ptr d => uptoBulk d + 1
  | .slice elems spare => uptoBulkAll elems + uptoBulkAll spare + 1
  | .agg parts => uptoBulkAll parts + 1
  | .iface _ d => uptoBulk d + 1
  | .map entries => uptoBulkEntries entries + 1
  | .held _ => 1
def uptoBulkAll {H : Type} : List (DataW H) → Nat
  | [] => 0
  | d :: r => uptoBulk d + uptoBulkAll r
def uptoBulkEntries {H : Type} : List (Lit × DataW H) → Nat
  | [] => 0
  | x :: r => uptoBulkEntry x + uptoBulkEntries r
def uptoBulkEntry {H : Type} : Lit × DataW H → Nat
  | (.string bytes, d) => bytes.length + uptoBulk d + 1
  | (_, d) => uptoBulk d + 1
 end
def uptoSmall : (H : Type) → List (DataW H) → Bool := fun _ ds => decide (uptoBulkAll ds ≤ 1048576)
def OpenSpec.upto (s : _root_.Go.ChangeSpec) : _root_.Go.OpenSpec := { _root_.Go.OpenSpec.ofChange s with cond := some uptoSmall }

/-- 'magnetolaw30.FuelFilms', WHERE WHAT IT READS IS OF BULK AT MOST 1048576: true; the input reads as it did. -/
def fuelFilmsUptoRow : OpenClaim := { program := "ytmfldcjecajkoaa", sum := "4593c9bdb6c1edf72501dc1c4abc7be1cb8e3ac4312b037d13b030d972465b35", func := "magneto/magnetolaw30.FuelFilms", spec := "fuelFilms", unfollowed := true, recurses := true, apart := false, narrowed := true }
def FuelFilmsUptoSaid : Prop := fuelFilmsUptoRow.holds Try.pinned (OpenSpec.upto fuelFilmsSpec)

/-- 'magnetolaw30.FuelWants', WHERE WHAT IT READS IS OF BULK AT MOST 1048576: true; the input reads as it did. -/
def fuelWantsUptoRow : OpenClaim := { program := "ytmfldcjecajkoaa", sum := "4593c9bdb6c1edf72501dc1c4abc7be1cb8e3ac4312b037d13b030d972465b35", func := "magneto/magnetolaw30.FuelWants", spec := "fuelWants", unfollowed := true, recurses := true, apart := false, narrowed := true }
def FuelWantsUptoSaid : Prop := fuelWantsUptoRow.holds Try.pinned (OpenSpec.upto fuelWantsSpec)

/-- 'magnetolaw30.FuelConserves', WHERE WHAT IT READS IS OF BULK AT MOST 1048576: true; the input reads as it did. -/
def fuelConservesUptoRow : OpenClaim := { program := "ytmfldcjecajkoaa", sum := "4593c9bdb6c1edf72501dc1c4abc7be1cb8e3ac4312b037d13b030d972465b35", func := "magneto/magnetolaw30.FuelConserves", spec := "fuelConserves", unfollowed := true, recurses := true, apart := false, narrowed := true }
def FuelConservesUptoSaid : Prop := fuelConservesUptoRow.holds Try.pinned (OpenSpec.upto fuelConservesSpec)

/-- 'magnetolaw30.FuelExact', WHERE WHAT IT READS IS OF BULK AT MOST 1048576: true; the input reads as it did. -/
def fuelExactUptoRow : OpenClaim := { program := "ytmfldcjecajkoaa", sum := "4593c9bdb6c1edf72501dc1c4abc7be1cb8e3ac4312b037d13b030d972465b35", func := "magneto/magnetolaw30.FuelExact", spec := "fuelExact", unfollowed := true, recurses := true, apart := false, narrowed := true }
def FuelExactUptoSaid : Prop := fuelExactUptoRow.holds Try.pinned (OpenSpec.upto fuelExactSpec)

/-- 'magnetolaw30.FuelMasses', WHERE WHAT IT READS IS OF BULK AT MOST 1048576: true; the input reads as it did. -/
def fuelMassesUptoRow : OpenClaim := { program := "ytmfldcjecajkoaa", sum := "4593c9bdb6c1edf72501dc1c4abc7be1cb8e3ac4312b037d13b030d972465b35", func := "magneto/magnetolaw30.FuelMasses", spec := "fuelMasses", unfollowed := true, recurses := true, apart := false, narrowed := true }
def FuelMassesUptoSaid : Prop := fuelMassesUptoRow.holds Try.pinned (OpenSpec.upto fuelMassesSpec)

/-- 'magnetolaw30.FuelRatio', WHERE WHAT IT READS IS OF BULK AT MOST 1048576: true; the input reads as it did. -/
def fuelRatioUptoRow : OpenClaim := { program := "ytmfldcjecajkoaa", sum := "4593c9bdb6c1edf72501dc1c4abc7be1cb8e3ac4312b037d13b030d972465b35", func := "magneto/magnetolaw30.FuelRatio", spec := "fuelRatio", unfollowed := true, recurses := true, apart := false, narrowed := true }
def FuelRatioUptoSaid : Prop := fuelRatioUptoRow.holds Try.pinned (OpenSpec.upto fuelRatioSpec)

/-- 'magnetolaw30.FuelSplits', WHERE WHAT IT READS IS OF BULK AT MOST 1048576: true; the input reads as it did. -/
def fuelSplitsUptoRow : OpenClaim := { program := "ytmfldcjecajkoaa", sum := "4593c9bdb6c1edf72501dc1c4abc7be1cb8e3ac4312b037d13b030d972465b35", func := "magneto/magnetolaw30.FuelSplits", spec := "fuelSplits", unfollowed := true, recurses := true, apart := false, narrowed := true }
def FuelSplitsUptoSaid : Prop := fuelSplitsUptoRow.holds Try.pinned (OpenSpec.upto fuelSplitsSpec)

/-- 'magnetolaw30.FuelTimes', WHERE WHAT IT READS IS OF BULK AT MOST 1048576: true; the input reads as it did. -/
def fuelTimesUptoRow : OpenClaim := { program := "ytmfldcjecajkoaa", sum := "4593c9bdb6c1edf72501dc1c4abc7be1cb8e3ac4312b037d13b030d972465b35", func := "magneto/magnetolaw30.FuelTimes", spec := "fuelTimes", unfollowed := true, recurses := true, named := ["math/bits.divideError", "math/bits.overflowError"], apart := false, narrowed := true }
def FuelTimesUptoSaid : Prop := fuelTimesUptoRow.holds Try.pinned (OpenSpec.upto fuelTimesSpec)

/-- 'magnetolaw30.FuelBack', WHERE WHAT IT READS IS OF BULK AT MOST 1048576: true; the input reads as it did. -/
def fuelBackUptoRow : OpenClaim := { program := "ytmfldcjecajkoaa", sum := "4593c9bdb6c1edf72501dc1c4abc7be1cb8e3ac4312b037d13b030d972465b35", func := "magneto/magnetolaw30.FuelBack", spec := "fuelBack", unfollowed := true, recurses := true, named := ["math/bits.divideError", "math/bits.overflowError"], apart := false, narrowed := true }
def FuelBackUptoSaid : Prop := fuelBackUptoRow.holds Try.pinned (OpenSpec.upto fuelBackSpec)

end Rows
end Go.Proofs.Ytmfldcjecajkoaa
