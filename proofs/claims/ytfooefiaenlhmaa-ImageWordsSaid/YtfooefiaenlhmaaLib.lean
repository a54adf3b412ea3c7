/- General lemmas: regions of open order whose calls make memory, and what they leave of the world. No statement about the program. -/
import Derived.Test.YtfooefiaenlhmaaRows
import Derived.Handy
import Derived.BigQuiet
import Derived.Deep.QuietTactic
import Derived.Deep.DeepFit
import Derived.Outline
import Derived.Lib.Hide
import Derived.Lib.SmallJoins
import Derived.OpenShut
import Derived.Carry
import Derived.ChangeOld
import Derived.ShutString
import Derived.WalkLawsBesides
namespace Go.Proofs.Ytfooefiaenlhmaa
set_option linter.unusedVariables false
set_option linter.unusedSimpArgs false
open Go.RowKit Go.ChangeShapes Go.WideShapes Go.ChangeAt

/-- A world in which all that lay in W lies as it did. -/
structure Later (W : World) where
  w : World
  h : Below W.heap.size W w

instance Later.some (W : World) : Nonempty (Later W) := ⟨⟨W, Below.refl _ _⟩⟩

@[go_sem] theorem Later.cell {W : World} (e : Later W) {b o : Nat} (hb : b < W.heap.size) : e.w.cell? ⟨b, o, none⟩ = W.cell? ⟨b, o, none⟩ :=
  e.h.cell (p := ⟨b, o, none⟩) hb
@[go_sem] theorem Later.frozen {W : World} (e : Later W) {b o : Nat} (hb : b < W.heap.size) : e.w.frozen? ⟨b, o, none⟩ = W.frozen? ⟨b, o, none⟩ :=
  e.h.frozen (p := ⟨b, o, none⟩) hb

theorem Later.next {W : World} (e : Later W) {w' : World} (h : Below e.w.heap.size e.w w') : ∃ e' : Later W, w' = e'.w :=
  ⟨⟨w', e.h.trans (h.mono e.h.size)⟩, rfl⟩

/-- A callee's contract, met in a later world. -/
theorem later_call {P : Program} {f : FuncId} {args : Array Value} {W : World} {e : Later W} {v : Value}
    (h : Calls P f args e.w fun r w' => r = .returned v ∧ Below e.w.heap.size e.w w') : Calls P f args e.w fun r w'' => r = .returned v ∧ ∃ e' : Later W, w'' = e'.w :=
  h.mono fun _ _ ⟨he, hb⟩ => ⟨he, e.next hb⟩

/-- ONE WALK of a region of open order, whose operations read and whose calls make memory at most. -/
theorem wp_region_later {P : Program} {id : Nat} {Q : Exit → Act → World → Prop} {a : Act} {w : World} {l : List Oper} (hm : P.follows .mixedOrders = true) (hB : Region.lexB .any l.toArray = true)
    (h : wpQuiet P l.toArray (fun w' => ∃ e : Later w, w' = e.w) (fun a' => ∀ w', (∃ e : Later w, w' = e.w) → Q .normal a' w') l a) : (Code.region id l.toArray true).wp P Q a w :=
  wp_region_quiet (C := fun w' => ∃ e : Later w, w' = e.w) hm hB ⟨⟨_, (Below.refl _ _).drew⟩, rfl⟩ (by simpa using h)

theorem bcell {W w1 : World} (hb : Below W.heap.size W w1) : (∀ b o, b < W.heap.size → w1.cell? ⟨b, o, none⟩ = W.cell? ⟨b, o, none⟩) ∧ (∀ b o, b < W.heap.size → w1.frozen? ⟨b, o, none⟩ = W.frozen? ⟨b, o, none⟩) :=
  ⟨fun b o h => hb.cell (p := ⟨b, o, none⟩) h, fun b o h => hb.frozen (p := ⟨b, o, none⟩) h⟩
theorem below_step {w w1 w2 : World} (hb : Below w1.heap.size w1 w2) (h : Below w.heap.size w w1) : Below w.heap.size w w2 := h.trans (hb.mono h.size)
theorem below_alloc {w w1 : World} (h : Below w.heap.size w w1) (o : Obj) : Below w.heap.size w (w1.alloc o) := h.alloc h.size o
theorem below_drewN {B : Nat} {w w1 : World} (h : Below B w w1) (n : Nat) : Below B w (w1.drewN n) := ⟨h.os, h.tape, h.output, h.size, h.block⟩
theorem below_later {w w1 : World} (h : Below w.heap.size w w1) (e : Later w1) : Below w.heap.size w e.w := below_step e.h h
theorem later_same {P : Program} {f : FuncId} {args : Array Value} {W : World} {e : Later W} {v : Value}
    (h : Calls P f args e.w fun r w' => r = .returned v ∧ e.w = w') : Calls P f args e.w fun r w'' => r = .returned v ∧ ∃ e' : Later W, w'' = e'.w :=
  h.mono fun _ _ ⟨he, hb⟩ => ⟨he, ⟨e, hb.symm⟩⟩
theorem ret_int {k : IntKind} {a b : Int} (h : a = b) : Ending.returned (.int k a) = .returned (.int k b) := by rw [h]
theorem ret_bool {a b : Bool} (h : a = b) : Ending.returned (.bool a) = .returned (.bool b) := by rw [h]

end Go.Proofs.Ytfooefiaenlhmaa
