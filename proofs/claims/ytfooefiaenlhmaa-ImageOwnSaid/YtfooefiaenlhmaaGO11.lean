/- Lemmas for the laws of package magnetolaw15: what its functions return, for any arguments that the lemmas name. -/
import Derived.Test.YtfooefiaenlhmaaGO1
import Derived.Test.YtfooefiaenlhmaaGO2
import Derived.Test.YtfooefiaenlhmaaGO10
import Derived.Deep.LoopGhost
import Derived.Shelf.Abstract
import Derived.Shelf.Bits.Mul64
import Derived.StillTailTactics
namespace Go.Proofs.Ytfooefiaenlhmaa
set_option linter.unusedVariables false
set_option linter.unusedSimpArgs false
set_option maxHeartbeats 16000000
open Go.RowKit Go.ChangeShapes Go.WideShapes Go.ChangeAt
def OwnR {α : Type} (t : TypeId) (sz : Nat) (enc : α → List Value) (W : World) (base : Nat) (r : Option Addr) (cap : Nat) (rows : List α) : Prop := W.ownsRow base t sz (.slice r rows.length cap) rows.length (rows.flatMap enc)
section
variable {α : Type} {t : TypeId} {sz : Nat} {enc : α → List Value}
theorem OwnR.nil (W : World) (base : Nat) : OwnR t sz enc W base none 0 ([] : List α) := World.ownsRow_nil _ _ _ _
theorem OwnR.below {W W' : World} {base B : Nat} {r : Option Addr} {cap : Nat} {xs : List α} (h : OwnR t sz enc W base r cap xs) (hb : Below B W W') (hB : W.heap.size ≤ B) : OwnR t sz enc W' base r cap xs := by
 refine ⟨h.1, ?_⟩
 rcases h.2 with ⟨h1, h2⟩ | ⟨g, c, cur, h1, h2, h3, h4⟩
 ·
  exact Or.inl ⟨h1, h2⟩
 ·
  refine Or.inr ⟨g, c, cur, h1, h2, ?_, h4⟩
  rw [hb.block g ?_]
  ·
   exact h3
  ·
   rcases Nat.lt_or_ge g W.heap.size with hlt | hge
   ·
    omega
   ·
    rw [Array.getElem?_eq_none hge] at h3; cases h3
theorem OwnR.base {W : World} {base base' : Nat} {r : Option Addr} {cap : Nat} {xs : List α} (h : OwnR t sz enc W base r cap xs) (hb : base' ≤ base) : OwnR t sz enc W base' r cap xs := by
 refine ⟨h.1, ?_⟩
 rcases h.2 with h1 | ⟨g, c, cur, h1, h2, h3⟩
 ·
  exact Or.inl h1
 ·
  exact Or.inr ⟨g, c, cur, h1, by omega, h3⟩
theorem flat_at {xs : List α} (henc : ∀ x, (enc x).length = sz) : ∀ {i j : Nat} {x : α}, xs[i]? = some x → j < sz → (xs.flatMap enc)[i * sz + j]? = (enc x)[j]? := by
 induction xs with
 | nil => intro i j x h _; simp at h
 | cons a l ih =>
  intro i j x h hj
  rw [List.flatMap_cons]
  cases i with
  | zero =>
   simp at h
   subst h
   rw [Nat.zero_mul, Nat.zero_add, List.getElem?_append_left (by rw [henc]; exact hj)]
  | succ i =>
   have h' : l[i]? = some x := by simpa using h
   rw [List.getElem?_append_right (by rw [henc, Nat.succ_mul]; omega), henc, show (i + 1) * sz + j - sz = i * sz + j by rw [Nat.succ_mul]; omega]
   exact ih h' hj
theorem OwnR.cells {W : World} {base : Nat} {r : Option Addr} {cap : Nat} {xs : List α} (h : OwnR t sz enc W base r cap xs) (henc : ∀ x, (enc x).length = sz) (hne : xs ≠ []) :
  ∃ g, r = some ⟨g, 0, none⟩ ∧ base ≤ g ∧ g < W.heap.size ∧ xs.length ≤ cap ∧ cap ≤ maxLen ∧ ∀ i j x u, xs[i]? = some x → (enc x)[j]? = some u → W.cell? ⟨g, i * sz + j, none⟩ = some u := by
 obtain ⟨h0, h2⟩ := h
 rcases h2 with ⟨_, h3⟩ | ⟨g, c, cur, h1, h3, h4, h5, h6, h7, h8⟩
 ·
  exact absurd (List.length_eq_zero_iff.1 h3) hne
 ·
  simp only [Value.slice.injEq] at h1
  obtain ⟨rfl, _, rfl⟩ := h1
  have hlt : g < W.heap.size := by
   rcases Nat.lt_or_ge g W.heap.size with hlt | hge
   ·
    exact hlt
   ·
    rw [Array.getElem?_eq_none hge] at h4; cases h4
  refine ⟨g, rfl, h3, hlt, h5, h6, fun i j x u hi hj => ?_⟩
  have hil : i < xs.length := (List.getElem?_eq_some_iff.1 hi).1
  have hjl : j < sz := by rw [← henc x]; exact (List.getElem?_eq_some_iff.1 hj).1
  have hf := flat_at henc hi hjl
  rw [hj] at hf
  have hlt2 : i * sz + j < xs.length * sz := by
   have : (i + 1) * sz ≤ xs.length * sz := Nat.mul_le_mul_right sz hil
   rw [Nat.succ_mul] at this
   omega
  have := World.ownsRow.cellAt (w := W) (base := base) (e := t) (size := sz) (g := g) (n := xs.length) (cap := cap) (xs := xs.flatMap enc) ⟨h0, Or.inr ⟨g, cap, cur, rfl, h3, h4, h5, h6, h7, h8⟩⟩ (i * sz + j) hlt2
  rw [this, hf]
end
def AtV (W : World) (b : Nat) (l : List Value) : Prop := ∀ i v, l[i]? = some v → W.cell? ⟨b, i, none⟩ = some v ∧ W.frozen? ⟨b, i, none⟩ = false
theorem AtV.set {W : World} {b : Nat} {l : List Value} (h : AtV W b l) {j : Nat} (hj : j < l.length) (v : Value) : AtV (W.setCell ⟨b, j, none⟩ v) b (l.set j v) := by
 intro i u hi
 rw [World.frozen?_setCell]
 rw [List.getElem?_set] at hi
 by_cases e : j = i
 ·
  subst e
  rw [if_pos rfl, if_pos hj] at hi
  obtain ⟨h1, h2⟩ := h j _ (List.getElem?_eq_getElem hj)
  refine ⟨?_, h2⟩
  rw [World.cell?_setCell_same' _ _ _ (by rw [h1]; rfl)]
  simpa using hi
 ·
  rw [if_neg e] at hi
  obtain ⟨h1, h2⟩ := h i _ hi
  refine ⟨?_, h2⟩
  rw [World.cell?_setCell_other (h := fun h => e (by cases h; rfl))]
  exact h1
theorem AtV.keep {W W' : World} {b : Nat} {l : List Value} (h : AtV W b l) (hb : W'.heap[b]? = W.heap[b]?) : AtV W' b l := fun i v hi =>
 ⟨(World.cell?_of_block (a := ⟨b, i, none⟩) hb).trans (h i v hi).1, (World.frozen?_of_block (a := ⟨b, i, none⟩) hb).trans (h i v hi).2⟩
theorem AtV.new (w : World) (l : List Value) (t : TypeId) : AtV (w.alloc (.cells l.toArray t)) w.heap.size l := fun i v hi => by
 refine ⟨?_, ?_⟩
 ·
  rw [World.cell?_alloc_new]; simpa using hi
 ·
  first | go_keep | (simp [go_sem]; done) | (simp [World.frozen?]; done)
def Off (g : Option Addr) (q : Nat) : Prop := ∀ a, g = some a → a.block ≠ q
structure IntsO (B : Nat) (g : Option Addr) (W : World) (r : Option Addr) (c : Nat) (xs : List Int) : Prop where
 ints : IsInts W r c .i64 xs
 at_ : ∀ a, r = some a → B ≤ a.block ∧ a.block < W.heap.size ∧ Off g a.block
theorem ints_keep {W W' : World} {k : IntKind} {r : Option Addr} {c : Nat} {xs : List Int} (h : IsInts W r c k xs) (hk : ∀ a, r = some a → W'.heap[a.block]? = W.heap[a.block]?) (hz : W.heap.size ≤ W'.heap.size) : IsInts W' r c k xs :=
 ⟨h.le, h.max, h.wf, fun hne => by
  obtain ⟨b, off, h1, h2, h3⟩ := h.cells hne
  exact ⟨b, off, h1, by omega, fun i hi => (World.cell?_of_block (a := ⟨b, off + i, none⟩) (hk ⟨b, off, none⟩ h1)).trans (h3 i hi)⟩⟩
theorem IntsO.step {B : Nat} {g g' : Option Addr} {W W' : World} {r : Option Addr} {c : Nat} {xs : List Int} (h : IntsO B g W r c xs) (hst : ∀ q, B ≤ q → q < W.heap.size → Off g q → W'.heap[q]? = W.heap[q]?) (hz : W.heap.size ≤ W'.heap.size)
  (hg : ∀ a, g' = some a → (∃ a0, g = some a0 ∧ a0.block = a.block) ∨ W.heap.size ≤ a.block) : IntsO B g' W' r c xs :=
 ⟨ints_keep h.ints (fun a ha => hst _ (h.at_ a ha).1 (h.at_ a ha).2.1 (h.at_ a ha).2.2) hz, fun a ha => by
  obtain ⟨h1, h2, h3⟩ := h.at_ a ha
  refine ⟨h1, by omega, fun x hx => ?_⟩
  rcases hg x hx with ⟨a0, h4, h5⟩ | h4
  ·
   rw [← h5]; exact h3 a0 h4
  ·
   omega⟩
theorem IntsO.base {B B' : Nat} {g : Option Addr} {W : World} {r : Option Addr} {c : Nat} {xs : List Int} (h : IntsO B g W r c xs) (hb : B' ≤ B) : IntsO B' g W r c xs :=
 ⟨h.ints, fun a ha => ⟨by have := (h.at_ a ha).1; omega, (h.at_ a ha).2⟩⟩
theorem IntsO.new {B D : Nat} {g : Option Addr} {W : World} {r : Option Addr} {c : Nat} {xs : List Int} (h : OwnK .i64 3 W D r c xs) (hD : B ≤ D) (hg : ∀ a, g = some a → a.block < D) (hw : ∀ x ∈ xs, I64 x) : IntsO B g W r c xs :=
 ⟨h.ints (fun x hx => hw x hx), fun a ha => by
  obtain ⟨h1, h2⟩ := h.lt a ha
  exact ⟨by omega, h2, fun x hx => by have := hg x hx; omega⟩⟩
theorem IntsO.done {B : Nat} {g : Option Addr} {W : World} {r : Option Addr} {c : Nat} {xs : List Int} (h : IntsO B g W r c xs) {g' : Option Addr} (hg : ∀ a, g' = some a → a.block < B) : IntsO B g' W r c xs :=
 ⟨h.ints, fun a ha => ⟨(h.at_ a ha).1, (h.at_ a ha).2.1, fun x hx => by have := hg x hx; have := (h.at_ a ha).1; omega⟩⟩
section
variable {α : Type} {t : TypeId} {sz : Nat} {enc : α → List Value}
theorem OwnR.lt {W : World} {base : Nat} {r : Option Addr} {cap : Nat} {xs : List α} (h : OwnR t sz enc W base r cap xs) : ∀ a, r = some a → base ≤ a.block ∧ a.block < W.heap.size := fun a ha => by
 subst ha
 exact World.ownsRow.lt h a.block rfl
theorem OwnR.keep {W W' : World} {base : Nat} {r : Option Addr} {cap : Nat} {xs : List α} (h : OwnR t sz enc W base r cap xs) (hk : ∀ a, r = some a → W'.heap[a.block]? = W.heap[a.block]?) : OwnR t sz enc W' base r cap xs := by
 refine ⟨h.1, ?_⟩
 rcases h.2 with ⟨h1, h2⟩ | ⟨g, c, cur, h1, h2, h3, h4⟩
 ·
  exact Or.inl ⟨h1, h2⟩
 ·
  refine Or.inr ⟨g, c, cur, h1, h2, ?_, h4⟩
  simp only [Value.slice.injEq] at h1
  rw [hk _ h1.1]
  exact h3
theorem OwnR.isS {W : World} {base : Nat} {r : Option Addr} {cap : Nat} {xs : List α} (h : OwnR t sz enc W base r cap xs) (henc : ∀ x, (enc x).length = sz) : IsS sz enc W r cap xs := by
 by_cases hne : xs = []
 ·
  subst hne
  rcases h.2 with ⟨h1, h3⟩ | ⟨g, c, cur, h1, h3, h4, h5, h6, h7, h8⟩
  ·
   simp only [Value.slice.injEq] at h1
   obtain ⟨_, _, rfl⟩ := h1
   exact ⟨Nat.le_refl _, Nat.zero_le _, fun h => absurd rfl h⟩
  ·
   simp only [Value.slice.injEq] at h1
   obtain ⟨_, _, rfl⟩ := h1
   exact ⟨h5, h6, fun h => absurd rfl h⟩
 ·
  obtain ⟨g, h1, h2, h3, h4, h5, h6⟩ := h.cells henc hne
  exact ⟨h4, h5, fun _ => ⟨g, 0, h1, h3, fun i x hi j u hj => by rw [Nat.zero_add]; exact h6 i j x u hi hj⟩⟩
end
structure Rw where
 r : Option Addr
 c : Nat
 l : List Int
instance : Inhabited Rw := ⟨⟨none, 0, []⟩⟩
def Rw.enc (x : Rw) : List Value := [.slice x.r x.l.length x.c]
theorem infoInstr : (Try.prog.info? 50).map (fun i => (i.zero, i.size, i.bytes)) = some (some (.agg #[.int .i64 0, .int .i64 0, .int .i64 0, .int .i64 0, .int .i64 0]), 5, 40) := by kernel_rfl
theorem infoFixed : (Try.prog.info? 59).map (fun i => (i.zero, i.size, i.bytes)) = some (some (.agg #[.int .i64 0, .bool false, .int .i64 0, .int .i64 0, .int .i64 0, .int .i64 0, .int .i64 0, .int .i64 0, .int .i64 0, .int .i64 0]), 10, 80) := by kernel_rfl
theorem infoCurve : (Try.prog.info? 53).map (fun i => (i.zero, i.size, i.bytes)) = some (some (.agg #[.slice none 0 0, .slice none 0 0]), 2, 48) := by kernel_rfl
theorem infoMap : (Try.prog.info? 55).map (fun i => (i.zero, i.size, i.bytes)) = some (some (.agg #[.slice none 0 0, .slice none 0 0, .slice none 0 0]), 3, 72) := by kernel_rfl
theorem infoRow : (Try.prog.info? 26).map (fun i => (i.zero, i.size, i.bytes)) = some (some (.slice none 0 0), 1, 24) := by kernel_rfl
structure Keep2 (D b P : Nat) (W W' : World) : Prop where
 zero : Below 0 W W'
 block : ∀ q, q < D → q ≠ b → q ≠ P → W'.heap[q]? = W.heap[q]?
theorem Keep2.refl (D b P : Nat) (W : World) : Keep2 D b P W W := ⟨Below.refl _ _, fun _ _ _ _ => rfl⟩
theorem Keep2.trans {D b P : Nat} {W W' W'' : World} (h : Keep2 D b P W W') (k : Keep2 D b P W' W'') : Keep2 D b P W W'' := ⟨h.zero.trans k.zero, fun q h1 h2 h3 => (k.block q h1 h2 h3).trans (h.block q h1 h2 h3)⟩
theorem Keep2.mono {D D' b P : Nat} {W W' : World} (h : Keep2 D b P W W') (hd : D' ≤ D) : Keep2 D' b P W W' := ⟨h.zero, fun q h1 h2 h3 => h.block q (by omega) h2 h3⟩
theorem Keep2.setP {D b P : Nat} (W : World) (j : Nat) (v : Value) : Keep2 D b P W (W.setCell ⟨P, j, none⟩ v) := ⟨(Below.refl 0 W).setCell (p := ⟨P, j, none⟩) (Nat.zero_le _) v, fun q _ _ h => Below.heap_setCell _ _ _ _ h⟩
structure KeepA (P : Nat) (W W' : World) : Prop where
 size : W.heap.size ≤ W'.heap.size
 block : ∀ q, P < q → q < W.heap.size → W'.heap[q]? = W.heap[q]?
theorem KeepA.trans {P : Nat} {W W' W'' : World} (h : KeepA P W W') (k : KeepA P W' W'') : KeepA P W W'' := ⟨Nat.le_trans h.size k.size, fun q h1 h2 => (k.block q h1 (Nat.lt_of_lt_of_le h2 h.size)).trans (h.block q h1 h2)⟩
theorem KeepA.set {P : Nat} (W : World) {q : Nat} (hq : q ≤ P) (j : Nat) (v : Value) : KeepA P W (W.setCell ⟨q, j, none⟩ v) := ⟨by rw [zS]; exact Nat.le_refl _, fun k h1 _ => Below.heap_setCell _ _ _ _ (by show k ≠ q; omega)⟩
theorem Rdr.keep {W0 w w' : World} {b : Nat} {s : Sx} (h : Rdr W0 w b s) (hk : w'.heap[b]? = w.heap[b]?) (hz : w.heap.size ≤ w'.heap.size) : Rdr W0 w' b s := by
 obtain ⟨h1, h2, h3, ra, ca, bs, bad, h4, h5, h6⟩ := h
 exact ⟨by omega, (World.frozen?_of_block (a := ⟨b, 0, none⟩) hk).trans h2, (World.frozen?_of_block (a := ⟨b, 1, none⟩) hk).trans h3, ra, ca, bs, bad, (World.cell?_of_block (a := ⟨b, 0, none⟩) hk).trans h4, (World.cell?_of_block (a := ⟨b, 1, none⟩) hk).trans h5, h6⟩
theorem IsS.keep {α : Type} {sz : Nat} {enc : α → List Value} {W W' : World} {r : Option Addr} {cap : Nat} {xs : List α} (h : IsS sz enc W r cap xs) (hk : ∀ a, r = some a → W'.heap[a.block]? = W.heap[a.block]?) (hz : W.heap.size ≤ W'.heap.size) : IsS sz enc W' r cap xs :=
 ⟨h.le, h.max, fun hne => by
  obtain ⟨b, off, h1, h2, h3⟩ := h.cells hne
  exact ⟨b, off, h1, by omega, fun i x hi j u hj => (World.cell?_of_block (a := ⟨b, off + i * sz + j, none⟩) (hk ⟨b, off, none⟩ h1)).trans (h3 i x hi j u hj)⟩⟩
theorem SxB.drop {s : Sx} (h : SxB s) (n : Nat) : SxB (pTake n s).2 := by
 cases s with
 | none => intro bs e; simp [pTake] at e
 | some bs =>
  have := h bs rfl
  intro bs' e
  simp only [pTake] at e
  split at e
  ·
   simp only [Option.some.injEq] at e
   subst e
   exact fun x hx => this x (List.mem_of_mem_drop hx)
  ·
   cases e
theorem Rdr.bytes {W0 w : World} {b : Nat} {s : Sx} (h : Rdr W0 w b s) : SxB s := by
 obtain ⟨_, _, _, ra, ca, bs, bad, _, _, hx, _, rfl⟩ := h
 intro bs' e
 cases bad
 ·
  simp only [Bool.false_eq_true, if_false, Option.some.injEq] at e
  subst e
  exact fun x hx' => wf_u8 (hx.wf x hx')
 ·
  simp at e
theorem SxB.int {s : Sx} (h : SxB s) : SxB (pInt s).2 := by rw [pInt_take]; exact h.drop 8
theorem SxB.none : SxB none := fun bs e => by cases e
theorem SxB.rep {α : Type} {f : Sx → α × Sx} (hf : ∀ s, SxB s → SxB (f s).2) {s : Sx} (h : SxB s) (n : Nat) : SxB (pRep f n s).2 := by
 induction n with
 | zero => exact h
 | succ n ih => exact hf _ ih
theorem AtL.keep {W W' : World} {b : Nat} {l : List Int} (h : AtL W b l) (hb : W'.heap[b]? = W.heap[b]?) : AtL W' b l := fun i v hi =>
 ⟨(World.cell?_of_block (a := ⟨b, i, none⟩) hb).trans (h i v hi).1, (World.frozen?_of_block (a := ⟨b, i, none⟩) hb).trans (h i v hi).2⟩
theorem SxB.list {s : Sx} (h : SxB s) : SxB (pList s).2 := by
 unfold pList
 refine SxB.rep (fun s h => h.int) ?_ _
 rw [pCount_eq]
 have h2 := h.int
 generalize (pInt s).2 = t at *
 cases t with
 | none => exact SxB.none
 | some bs =>
  simp only
  split
  ·
   exact h2
  ·
   exact SxB.none
theorem IntsO.setP {B : Nat} {g : Option Addr} {W : World} {r : Option Addr} {c : Nat} {xs : List Int} (h : IntsO B g W r c xs) {P j : Nat} (hP : P < B) (v : Value) : IntsO B g (W.setCell ⟨P, j, none⟩ v) r c xs :=
 h.step (fun q h1 h2 _ => Below.heap_setCell _ _ _ _ (by show q ≠ P; omega)) (by rw [zS]; exact Nat.le_refl _) (fun a ha => .inl ⟨a, ha, rfl⟩)
theorem IntsO.grow {B : Nat} {g g' : Option Addr} {v2 w6 : World} {r : Option Addr} {c : Nat} {xs : List Int} (h : IntsO B g v2 r c xs) (hst : ∀ q, q < v2.heap.size → (∀ a, g = some a → a.block ≠ q) → w6.heap[q]? = v2.heap[q]?) (hz : v2.heap.size ≤ w6.heap.size)
  (hg : ∀ a, g' = some a → (∃ a0, g = some a0 ∧ a0.block = a.block) ∨ v2.heap.size ≤ a.block) {P j : Nat} (hP : P < B) (v : Value) : IntsO B g' (w6.setCell ⟨P, j, none⟩ v) r c xs := (h.step (fun q _ h2 h3 => hst q h2 h3) hz hg).setP hP v
theorem IntsO.drew {B : Nat} {g : Option Addr} {W : World} {r : Option Addr} {c : Nat} {xs : List Int} (h : IntsO B g W r c xs) : IntsO B g W.drew r c xs := h.step (fun _ _ _ _ => rfl) (Nat.le_refl _) (fun a ha => .inl ⟨a, ha, rfl⟩)
theorem Keep2.drew {D b P : Nat} {W W' : World} (h : Keep2 D b P W W') : Keep2 D b P W W'.drew := h.trans ⟨(Below.refl 0 W').drew, fun _ _ _ _ => rfl⟩
structure Mq where
 rx : Option Addr
 cx : Nat
 X : List Int
 ry : Option Addr
 cy : Nat
 Y : List Int
 rz : Option Addr
 cz : Nat
 Z : List Rw
instance : Inhabited Mq := ⟨⟨none, 0, [], none, 0, [], none, 0, []⟩⟩
def Mq.enc (m : Mq) : List Value := [.slice m.rx m.X.length m.cx, .slice m.ry m.Y.length m.cy, .slice m.rz m.Z.length m.cz]
structure MqO (B : Nat) (g : Option Addr) (W : World) (m : Mq) : Prop where
 x : IntsO B g W m.rx m.cx m.X
 y : IntsO B g W m.ry m.cy m.Y
 z : IsS 1 Rw.enc W m.rz m.cz m.Z
 at_ : ∀ a, m.rz = some a → B ≤ a.block ∧ a.block < W.heap.size ∧ Off g a.block
 rows : ∀ r ∈ m.Z, IntsO B g W r.r r.c r.l
theorem MqO.step {B : Nat} {g g' : Option Addr} {W W' : World} {m : Mq} (h : MqO B g W m) (hst : ∀ q, B ≤ q → q < W.heap.size → Off g q → W'.heap[q]? = W.heap[q]?) (hz : W.heap.size ≤ W'.heap.size)
  (hg : ∀ a, g' = some a → (∃ a0, g = some a0 ∧ a0.block = a.block) ∨ W.heap.size ≤ a.block) : MqO B g' W' m :=
 ⟨h.x.step hst hz hg, h.y.step hst hz hg, h.z.keep (fun a ha => hst _ (h.at_ a ha).1 (h.at_ a ha).2.1 (h.at_ a ha).2.2) hz, fun a ha => by
  obtain ⟨h1, h2, h3⟩ := h.at_ a ha
  refine ⟨h1, by omega, fun x hx => ?_⟩
  rcases hg x hx with ⟨a0, h4, h5⟩ | h4
  ·
   rw [← h5]; exact h3 a0 h4
  ·
   omega, fun r hr => (h.rows r hr).step hst hz hg⟩
theorem MqO.grow {B : Nat} {g g' : Option Addr} {v2 w6 : World} {m : Mq} (h : MqO B g v2 m) (hst : ∀ q, q < v2.heap.size → (∀ a, g = some a → a.block ≠ q) → w6.heap[q]? = v2.heap[q]?) (hz : v2.heap.size ≤ w6.heap.size)
  (hg : ∀ a, g' = some a → (∃ a0, g = some a0 ∧ a0.block = a.block) ∨ v2.heap.size ≤ a.block) {P j : Nat} (hP : P < B) (v : Value) : MqO B g' (w6.setCell ⟨P, j, none⟩ v) m :=
 (h.step (fun q _ h2 h3 => hst q h2 h3) hz hg).step (fun q h1 h2 _ => Below.heap_setCell _ _ _ _ (by show q ≠ P; omega)) (by rw [zS]; exact Nat.le_refl _) (fun a ha => .inl ⟨a, ha, rfl⟩)
def idxG {α : Type} (p : α → Bool) (xs : List α) : Int := if xs.any p = true then (xs.findIdx p : Nat) else -1
theorem idxG_hit {α : Type} [Inhabited α] {p : α → Bool} {xs : List α} {k : Nat} (hk : k < xs.length) (h0 : ∀ t, t < k → p (xs.getD t default) = false) (h1 : p (xs.getD k default) = true) : idxG p xs = k := by
 have ha : xs.any p = true := List.any_eq_true.2 ⟨_, getD_mem_of hk, h1⟩
 unfold idxG
 rw [if_pos ha]
 congr 1
 rw [List.findIdx_eq hk]
 refine ⟨by simpa [List.getD, List.getElem?_eq_getElem hk] using h1, fun j hj => ?_⟩
 have := h0 j hj
 simpa [List.getD, List.getElem?_eq_getElem (show j < xs.length by omega)] using this
theorem idxG_miss {α : Type} [Inhabited α] {p : α → Bool} {xs : List α} (h0 : ∀ t, t < xs.length → p (xs.getD t default) = false) : idxG p xs = -1 := by
 have ha : ¬ xs.any p = true := fun h => by
  obtain ⟨x, hx, hp⟩ := List.any_eq_true.1 h
  obtain ⟨i, hi, rfl⟩ := List.getElem_of_mem hx
  have := h0 i hi
  simp [List.getD, List.getElem?_eq_getElem hi] at this
  rw [this] at hp
  cases hp
 unfold idxG
 rw [if_neg ha]
theorem idxG_any {α : Type} (p : α → Bool) (xs : List α) : decide (0 ≤ idxG p xs) = xs.any p := by
 unfold idxG
 split
 ·
  rename_i h; rw [h]; simp
 ·
  rename_i h; simp at h ⊢; simpa using h
set_option maxRecDepth 100000 in
theorem idx_Fixed (g : Nat) (cb : Array Value) (r : Option Addr) (cap : Nat) (xs : List Fx) (p : Fx → Bool) (w : World) (eg : ∀ args w, (callFunc g args).run Try.prog w = .ok (.enter g args) w) (hxs : IsS 10 Fx.enc w r cap xs)
  (hf : ∀ (e : Later w) (x : Fx), x ∈ xs → Calls Try.prog g (#[.agg #[.int .i64 x.bits, .bool x.sg, .int .i64 x.num, .int .i64 x.off, .int .i64 x.den, .int .i64 x.m, .int .i64 x.kg, .int .i64 x.s, .int .i64 x.a, .int .i64 x.k]] ++ cb) e.w fun a w' => a = .returned (.bool (p x)) ∧ Below e.w.heap.size e.w w') :
  Calls Try.prog 97 #[.slice r xs.length cap, .func (.func g) #[] cb] w fun e w' => e = .returned (.int .i64 (idxG p xs)) ∧ Below w.heap.size w w' := by
 have HF := H! hf
 have hmax := hxs.max
 have hle := hxs.le
 unfold maxLen at hmax
 clear hf
 have HS := H! hxs
 clear hxs
 generalize hn : xs.length = n at *
 have HN := H! hn
 clear hn
 go_enter Try.func97, Try.ntmps97
 go_wp2
 go_loopg [8] n (fun kx s8 wr => ∃ (k : Nat) (e : Later w), s8 = .int .i64 k ∧ k ≤ n ∧ n - k ≤ kx ∧ wr = e.w ∧ Hid (∀ t, t < k → p (xs.getD t default) = false))
 case atStart => exact ⟨0, ⟨w, Below.refl _ _⟩, rfl, Nat.zero_le _, by omega, rfl, H! (fun t h => absurd h (Nat.not_lt_zero _))⟩
 case round =>
  obtain ⟨k, e, rfl, hk, hkx, rfl, HP⟩ := hrel
  by_cases hlt : k < n
  ·
   have hkl : k < xs.length := by have := HN.out; omega
   obtain ⟨b, off, rfl, hb, hc⟩ := HS.out.at_ hkl
   have hk1 : (0 : Int) ≤ (k : Int) := by omega
   have hk2 : (k : Int) < n := by omega
   have hc0 : e.w.cell? ⟨b, off + k * 10, none⟩ = some (.int .i64 (xs.getD k default).bits) := (e.h.cell (p := ⟨b, off + k * 10, none⟩) hb).trans (hc 0 _ rfl)
   have hc1 : e.w.cell? ⟨b, off + k * 10 + 1, none⟩ = some (.bool (xs.getD k default).sg) := (e.h.cell (p := ⟨b, off + k * 10 + 1, none⟩) hb).trans (hc 1 _ rfl)
   have hc2 : e.w.cell? ⟨b, off + k * 10 + 2, none⟩ = some (.int .i64 (xs.getD k default).num) := (e.h.cell (p := ⟨b, off + k * 10 + 2, none⟩) hb).trans (hc 2 _ rfl)
   have hc3 : e.w.cell? ⟨b, off + k * 10 + 3, none⟩ = some (.int .i64 (xs.getD k default).off) := (e.h.cell (p := ⟨b, off + k * 10 + 3, none⟩) hb).trans (hc 3 _ rfl)
   have hc4 : e.w.cell? ⟨b, off + k * 10 + 4, none⟩ = some (.int .i64 (xs.getD k default).den) := (e.h.cell (p := ⟨b, off + k * 10 + 4, none⟩) hb).trans (hc 4 _ rfl)
   have hc5 : e.w.cell? ⟨b, off + k * 10 + 5, none⟩ = some (.int .i64 (xs.getD k default).m) := (e.h.cell (p := ⟨b, off + k * 10 + 5, none⟩) hb).trans (hc 5 _ rfl)
   have hc6 : e.w.cell? ⟨b, off + k * 10 + 6, none⟩ = some (.int .i64 (xs.getD k default).kg) := (e.h.cell (p := ⟨b, off + k * 10 + 6, none⟩) hb).trans (hc 6 _ rfl)
   have hc7 : e.w.cell? ⟨b, off + k * 10 + 7, none⟩ = some (.int .i64 (xs.getD k default).s) := (e.h.cell (p := ⟨b, off + k * 10 + 7, none⟩) hb).trans (hc 7 _ rfl)
   have hc8 : e.w.cell? ⟨b, off + k * 10 + 8, none⟩ = some (.int .i64 (xs.getD k default).a) := (e.h.cell (p := ⟨b, off + k * 10 + 8, none⟩) hb).trans (hc 8 _ rfl)
   have hc9 : e.w.cell? ⟨b, off + k * 10 + 9, none⟩ = some (.int .i64 (xs.getD k default).k) := (e.h.cell (p := ⟨b, off + k * 10 + 9, none⟩) hb).trans (hc 9 _ rfl)
   clear hc
   have hcall := HF.out e _ (getD_mem_of hkl)
   have HK := H! hkl
   clear hkl
   generalize hx : xs.getD k default = x at *
   have HE := H! hx
   clear hx
   obtain ⟨x0, x1, x2, x3, x4, x5, x6, x7, x8, x9⟩ := x
   simp only at hc0 hc1 hc2 hc3 hc4 hc5 hc6 hc7 hc8 hc9 hcall
   cases hp : p ⟨x0, x1, x2, x3, x4, x5, x6, x7, x8, x9⟩ <;> rw [hp] at hcall <;> have HQ := H! hp <;> clear hp
   ·
    go_wp2_with (go_at_fn g; refine hcall.mono ?_; rintro a w' ⟨rfl, hb2⟩)
    go_roundg (n - (k + 1))
    case measure => omega
    case rel =>
     obtain ⟨e', rfl⟩ := e.next hb2
     refine ⟨k + 1, e', by go_num, by omega, Nat.le_refl _, rfl, H! (fun t ht => ?_)⟩
     by_cases h : t < k
     ·
      exact HP.out t h
     ·
      obtain rfl : t = k := by omega
      rw [HE.out]
      exact HQ.out
   ·
    go_wp2_with (go_at_fn g; refine hcall.mono ?_; rintro a w' ⟨rfl, hb2⟩)
    go_ret
    refine ⟨ret_int ?_, by obtain ⟨e', rfl⟩ := e.next hb2; exact e'.h⟩
    exact (idxG_hit HK.out HP.out (by rw [HE.out]; exact HQ.out)).symm
  ·
   obtain rfl : k = n := by omega
   go_wp2
   go_ret
   refine ⟨ret_int ?_, e.h⟩
   exact (idxG_miss (fun t ht => HP.out t (by have := HN.out; omega))).symm
theorem has_Fixed (g : Nat) (cb : Array Value) (r : Option Addr) (cap : Nat) (xs : List Fx) (p : Fx → Bool) (w : World) (eg : ∀ args w, (callFunc g args).run Try.prog w = .ok (.enter g args) w) (hxs : IsS 10 Fx.enc w r cap xs)
  (hf : ∀ (e : Later w) (x : Fx), x ∈ xs → Calls Try.prog g (#[.agg #[.int .i64 x.bits, .bool x.sg, .int .i64 x.num, .int .i64 x.off, .int .i64 x.den, .int .i64 x.m, .int .i64 x.kg, .int .i64 x.s, .int .i64 x.a, .int .i64 x.k]] ++ cb) e.w fun a w' => a = .returned (.bool (p x)) ∧ Below e.w.heap.size e.w w') :
  Calls Try.prog 58 #[.slice r xs.length cap, .func (.func g) #[] cb] w fun e w' => e = .returned (.bool (xs.any p)) ∧ Below w.heap.size w w' := by
 have HI := H! (idx_Fixed g cb r cap xs p w eg hxs hf)
 clear hf hxs
 go_enter Try.func58, Try.ntmps58
 go_wp2_with ((go_at_call 97; refine (HI.out).mono ?_; rintro e hb1w ⟨rfl, hb1⟩; obtain ⟨hb1c, hb1f⟩ := bcell hb1; have hb1s := hb1.size; (try simp only [zA] at hb1s); (try (have : w.heap.size < hb1w.heap.size := by omega)); (try (have : w.heap.size + 1 < hb1w.heap.size := by omega)); (try (have : w.heap.size + 1 + 1 < hb1w.heap.size := by omega)); (try (have : w.heap.size + 1 + 1 + 1 < hb1w.heap.size := by omega)); (try (have : bX < hb1w.heap.size := by omega)); (try (have : bY < hb1w.heap.size := by omega)); (try (have : bZ < hb1w.heap.size := by omega))))
 go_ret
 exact ⟨ret_bool (idxG_any p xs), bw⟩
set_option maxRecDepth 100000 in
theorem idx_Instr (g : Nat) (cb : Array Value) (r : Option Addr) (cap : Nat) (xs : List Ins) (p : Ins → Bool) (w : World) (eg : ∀ args w, (callFunc g args).run Try.prog w = .ok (.enter g args) w) (hxs : IsS 5 Ins.enc w r cap xs)
  (hf : ∀ (e : Later w) (x : Ins), x ∈ xs → Calls Try.prog g (#[.agg #[.int .i64 x.op, .int .i64 x.a, .int .i64 x.b, .int .i64 x.c, .int .i64 x.k]] ++ cb) e.w fun a w' => a = .returned (.bool (p x)) ∧ Below e.w.heap.size e.w w') :
  Calls Try.prog 104 #[.slice r xs.length cap, .func (.func g) #[] cb] w fun e w' => e = .returned (.int .i64 (idxG p xs)) ∧ Below w.heap.size w w' := by
 have HF := H! hf
 have hmax := hxs.max
 have hle := hxs.le
 unfold maxLen at hmax
 clear hf
 have HS := H! hxs
 clear hxs
 generalize hn : xs.length = n at *
 have HN := H! hn
 clear hn
 go_enter Try.func104, Try.ntmps104
 go_wp2
 go_loopg [8] n (fun kx s8 wr => ∃ (k : Nat) (e : Later w), s8 = .int .i64 k ∧ k ≤ n ∧ n - k ≤ kx ∧ wr = e.w ∧ Hid (∀ t, t < k → p (xs.getD t default) = false))
 case atStart => exact ⟨0, ⟨w, Below.refl _ _⟩, rfl, Nat.zero_le _, by omega, rfl, H! (fun t h => absurd h (Nat.not_lt_zero _))⟩
 case round =>
  obtain ⟨k, e, rfl, hk, hkx, rfl, HP⟩ := hrel
  by_cases hlt : k < n
  ·
   have hkl : k < xs.length := by have := HN.out; omega
   obtain ⟨b, off, rfl, hb, hc⟩ := HS.out.at_ hkl
   have hk1 : (0 : Int) ≤ (k : Int) := by omega
   have hk2 : (k : Int) < n := by omega
   have hc0 : e.w.cell? ⟨b, off + k * 5, none⟩ = some (.int .i64 (xs.getD k default).op) := (e.h.cell (p := ⟨b, off + k * 5, none⟩) hb).trans (hc 0 _ rfl)
   have hc1 : e.w.cell? ⟨b, off + k * 5 + 1, none⟩ = some (.int .i64 (xs.getD k default).a) := (e.h.cell (p := ⟨b, off + k * 5 + 1, none⟩) hb).trans (hc 1 _ rfl)
   have hc2 : e.w.cell? ⟨b, off + k * 5 + 2, none⟩ = some (.int .i64 (xs.getD k default).b) := (e.h.cell (p := ⟨b, off + k * 5 + 2, none⟩) hb).trans (hc 2 _ rfl)
   have hc3 : e.w.cell? ⟨b, off + k * 5 + 3, none⟩ = some (.int .i64 (xs.getD k default).c) := (e.h.cell (p := ⟨b, off + k * 5 + 3, none⟩) hb).trans (hc 3 _ rfl)
   have hc4 : e.w.cell? ⟨b, off + k * 5 + 4, none⟩ = some (.int .i64 (xs.getD k default).k) := (e.h.cell (p := ⟨b, off + k * 5 + 4, none⟩) hb).trans (hc 4 _ rfl)
   clear hc
   have hcall := HF.out e _ (getD_mem_of hkl)
   have HK := H! hkl
   clear hkl
   generalize hx : xs.getD k default = x at *
   have HE := H! hx
   clear hx
   obtain ⟨x0, x1, x2, x3, x4⟩ := x
   simp only at hc0 hc1 hc2 hc3 hc4 hcall
   cases hp : p ⟨x0, x1, x2, x3, x4⟩ <;> rw [hp] at hcall <;> have HQ := H! hp <;> clear hp
   ·
    go_wp2_with (go_at_fn g; refine hcall.mono ?_; rintro a w' ⟨rfl, hb2⟩)
    go_roundg (n - (k + 1))
    case measure => omega
    case rel =>
     obtain ⟨e', rfl⟩ := e.next hb2
     refine ⟨k + 1, e', by go_num, by omega, Nat.le_refl _, rfl, H! (fun t ht => ?_)⟩
     by_cases h : t < k
     ·
      exact HP.out t h
     ·
      obtain rfl : t = k := by omega
      rw [HE.out]
      exact HQ.out
   ·
    go_wp2_with (go_at_fn g; refine hcall.mono ?_; rintro a w' ⟨rfl, hb2⟩)
    go_ret
    refine ⟨ret_int ?_, by obtain ⟨e', rfl⟩ := e.next hb2; exact e'.h⟩
    exact (idxG_hit HK.out HP.out (by rw [HE.out]; exact HQ.out)).symm
  ·
   obtain rfl : k = n := by omega
   go_wp2
   go_ret
   refine ⟨ret_int ?_, e.h⟩
   exact (idxG_miss (fun t ht => HP.out t (by have := HN.out; omega))).symm
theorem has_Instr (g : Nat) (cb : Array Value) (r : Option Addr) (cap : Nat) (xs : List Ins) (p : Ins → Bool) (w : World) (eg : ∀ args w, (callFunc g args).run Try.prog w = .ok (.enter g args) w) (hxs : IsS 5 Ins.enc w r cap xs)
  (hf : ∀ (e : Later w) (x : Ins), x ∈ xs → Calls Try.prog g (#[.agg #[.int .i64 x.op, .int .i64 x.a, .int .i64 x.b, .int .i64 x.c, .int .i64 x.k]] ++ cb) e.w fun a w' => a = .returned (.bool (p x)) ∧ Below e.w.heap.size e.w w') :
  Calls Try.prog 65 #[.slice r xs.length cap, .func (.func g) #[] cb] w fun e w' => e = .returned (.bool (xs.any p)) ∧ Below w.heap.size w w' := by
 have HI := H! (idx_Instr g cb r cap xs p w eg hxs hf)
 clear hf hxs
 go_enter Try.func65, Try.ntmps65
 go_wp2_with ((go_at_call 104; refine (HI.out).mono ?_; rintro e hb1w ⟨rfl, hb1⟩; obtain ⟨hb1c, hb1f⟩ := bcell hb1; have hb1s := hb1.size; (try simp only [zA] at hb1s); (try (have : w.heap.size < hb1w.heap.size := by omega)); (try (have : w.heap.size + 1 < hb1w.heap.size := by omega)); (try (have : w.heap.size + 1 + 1 < hb1w.heap.size := by omega)); (try (have : w.heap.size + 1 + 1 + 1 < hb1w.heap.size := by omega)); (try (have : bX < hb1w.heap.size := by omega)); (try (have : bY < hb1w.heap.size := by omega)); (try (have : bZ < hb1w.heap.size := by omega))))
 go_ret
 exact ⟨ret_bool (idxG_any p xs), bw⟩
set_option maxRecDepth 100000 in
theorem idx_Curve (g : Nat) (cb : Array Value) (r : Option Addr) (cap : Nat) (xs : List Cv) (p : Cv → Bool) (w : World) (eg : ∀ args w, (callFunc g args).run Try.prog w = .ok (.enter g args) w) (hxs : IsS 2 Cv.enc w r cap xs)
  (hf : ∀ (e : Later w) (x : Cv), x ∈ xs → Calls Try.prog g (#[.agg #[.slice x.rx x.X.length x.cx, .slice x.ry x.Y.length x.cy]] ++ cb) e.w fun a w' => a = .returned (.bool (p x)) ∧ Below e.w.heap.size e.w w') :
  Calls Try.prog 54 #[.slice r xs.length cap, .func (.func g) #[] cb] w fun e w' => e = .returned (.int .i64 (idxG p xs)) ∧ Below w.heap.size w w' := by
 have HF := H! hf
 have hmax := hxs.max
 have hle := hxs.le
 unfold maxLen at hmax
 clear hf
 have HS := H! hxs
 clear hxs
 generalize hn : xs.length = n at *
 have HN := H! hn
 clear hn
 go_enter Try.func54, Try.ntmps54
 go_wp2
 go_loopg [8] n (fun kx s8 wr => ∃ (k : Nat) (e : Later w), s8 = .int .i64 k ∧ k ≤ n ∧ n - k ≤ kx ∧ wr = e.w ∧ Hid (∀ t, t < k → p (xs.getD t default) = false))
 case atStart => exact ⟨0, ⟨w, Below.refl _ _⟩, rfl, Nat.zero_le _, by omega, rfl, H! (fun t h => absurd h (Nat.not_lt_zero _))⟩
 case round =>
  obtain ⟨k, e, rfl, hk, hkx, rfl, HP⟩ := hrel
  by_cases hlt : k < n
  ·
   have hkl : k < xs.length := by have := HN.out; omega
   obtain ⟨b, off, rfl, hb, hc⟩ := HS.out.at_ hkl
   have hk1 : (0 : Int) ≤ (k : Int) := by omega
   have hk2 : (k : Int) < n := by omega
   have hc0 : e.w.cell? ⟨b, off + k * 2, none⟩ = some (.slice (xs.getD k default).rx (xs.getD k default).X.length (xs.getD k default).cx) := (e.h.cell (p := ⟨b, off + k * 2, none⟩) hb).trans (hc 0 _ rfl)
   have hc1 : e.w.cell? ⟨b, off + k * 2 + 1, none⟩ = some (.slice (xs.getD k default).ry (xs.getD k default).Y.length (xs.getD k default).cy) := (e.h.cell (p := ⟨b, off + k * 2 + 1, none⟩) hb).trans (hc 1 _ rfl)
   clear hc
   have hcall := HF.out e _ (getD_mem_of hkl)
   have HK := H! hkl
   clear hkl
   generalize hx : xs.getD k default = x at *
   have HE := H! hx
   clear hx
   obtain ⟨r0, c0, X0, r1, c1, X1⟩ := x
   simp only at hc0 hc1 hcall
   cases hp : p ⟨r0, c0, X0, r1, c1, X1⟩ <;> rw [hp] at hcall <;> have HQ := H! hp <;> clear hp
   ·
    go_wp2_with (go_at_fn g; refine hcall.mono ?_; rintro a w' ⟨rfl, hb2⟩)
    go_roundg (n - (k + 1))
    case measure => omega
    case rel =>
     obtain ⟨e', rfl⟩ := e.next hb2
     refine ⟨k + 1, e', by go_num, by omega, Nat.le_refl _, rfl, H! (fun t ht => ?_)⟩
     by_cases h : t < k
     ·
      exact HP.out t h
     ·
      obtain rfl : t = k := by omega
      rw [HE.out]
      exact HQ.out
   ·
    go_wp2_with (go_at_fn g; refine hcall.mono ?_; rintro a w' ⟨rfl, hb2⟩)
    go_ret
    refine ⟨ret_int ?_, by obtain ⟨e', rfl⟩ := e.next hb2; exact e'.h⟩
    exact (idxG_hit HK.out HP.out (by rw [HE.out]; exact HQ.out)).symm
  ·
   obtain rfl : k = n := by omega
   go_wp2
   go_ret
   refine ⟨ret_int ?_, e.h⟩
   exact (idxG_miss (fun t ht => HP.out t (by have := HN.out; omega))).symm
theorem has_Curve (g : Nat) (cb : Array Value) (r : Option Addr) (cap : Nat) (xs : List Cv) (p : Cv → Bool) (w : World) (eg : ∀ args w, (callFunc g args).run Try.prog w = .ok (.enter g args) w) (hxs : IsS 2 Cv.enc w r cap xs)
  (hf : ∀ (e : Later w) (x : Cv), x ∈ xs → Calls Try.prog g (#[.agg #[.slice x.rx x.X.length x.cx, .slice x.ry x.Y.length x.cy]] ++ cb) e.w fun a w' => a = .returned (.bool (p x)) ∧ Below e.w.heap.size e.w w') :
  Calls Try.prog 28 #[.slice r xs.length cap, .func (.func g) #[] cb] w fun e w' => e = .returned (.bool (xs.any p)) ∧ Below w.heap.size w w' := by
 have HI := H! (idx_Curve g cb r cap xs p w eg hxs hf)
 clear hf hxs
 go_enter Try.func28, Try.ntmps28
 go_wp2_with ((go_at_call 54; refine (HI.out).mono ?_; rintro e hb1w ⟨rfl, hb1⟩; obtain ⟨hb1c, hb1f⟩ := bcell hb1; have hb1s := hb1.size; (try simp only [zA] at hb1s); (try (have : w.heap.size < hb1w.heap.size := by omega)); (try (have : w.heap.size + 1 < hb1w.heap.size := by omega)); (try (have : w.heap.size + 1 + 1 < hb1w.heap.size := by omega)); (try (have : w.heap.size + 1 + 1 + 1 < hb1w.heap.size := by omega)); (try (have : bX < hb1w.heap.size := by omega)); (try (have : bY < hb1w.heap.size := by omega)); (try (have : bZ < hb1w.heap.size := by omega))))
 go_ret
 exact ⟨ret_bool (idxG_any p xs), bw⟩
set_option maxRecDepth 100000 in
theorem idx_Map (g : Nat) (cb : Array Value) (r : Option Addr) (cap : Nat) (xs : List Mp) (p : Mp → Bool) (w : World) (eg : ∀ args w, (callFunc g args).run Try.prog w = .ok (.enter g args) w) (hxs : IsS 3 Mp.enc w r cap xs)
  (hf : ∀ (e : Later w) (x : Mp), x ∈ xs → Calls Try.prog g (#[.agg #[.slice x.rx x.X.length x.cx, .slice x.ry x.Y.length x.cy, .slice x.rz x.Z.length x.cz]] ++ cb) e.w fun a w' => a = .returned (.bool (p x)) ∧ Below e.w.heap.size e.w w') :
  Calls Try.prog 55 #[.slice r xs.length cap, .func (.func g) #[] cb] w fun e w' => e = .returned (.int .i64 (idxG p xs)) ∧ Below w.heap.size w w' := by
 have HF := H! hf
 have hmax := hxs.max
 have hle := hxs.le
 unfold maxLen at hmax
 clear hf
 have HS := H! hxs
 clear hxs
 generalize hn : xs.length = n at *
 have HN := H! hn
 clear hn
 go_enter Try.func55, Try.ntmps55
 go_wp2
 go_loopg [8] n (fun kx s8 wr => ∃ (k : Nat) (e : Later w), s8 = .int .i64 k ∧ k ≤ n ∧ n - k ≤ kx ∧ wr = e.w ∧ Hid (∀ t, t < k → p (xs.getD t default) = false))
 case atStart => exact ⟨0, ⟨w, Below.refl _ _⟩, rfl, Nat.zero_le _, by omega, rfl, H! (fun t h => absurd h (Nat.not_lt_zero _))⟩
 case round =>
  obtain ⟨k, e, rfl, hk, hkx, rfl, HP⟩ := hrel
  by_cases hlt : k < n
  ·
   have hkl : k < xs.length := by have := HN.out; omega
   obtain ⟨b, off, rfl, hb, hc⟩ := HS.out.at_ hkl
   have hk1 : (0 : Int) ≤ (k : Int) := by omega
   have hk2 : (k : Int) < n := by omega
   have hc0 : e.w.cell? ⟨b, off + k * 3, none⟩ = some (.slice (xs.getD k default).rx (xs.getD k default).X.length (xs.getD k default).cx) := (e.h.cell (p := ⟨b, off + k * 3, none⟩) hb).trans (hc 0 _ rfl)
   have hc1 : e.w.cell? ⟨b, off + k * 3 + 1, none⟩ = some (.slice (xs.getD k default).ry (xs.getD k default).Y.length (xs.getD k default).cy) := (e.h.cell (p := ⟨b, off + k * 3 + 1, none⟩) hb).trans (hc 1 _ rfl)
   have hc2 : e.w.cell? ⟨b, off + k * 3 + 2, none⟩ = some (.slice (xs.getD k default).rz (xs.getD k default).Z.length (xs.getD k default).cz) := (e.h.cell (p := ⟨b, off + k * 3 + 2, none⟩) hb).trans (hc 2 _ rfl)
   clear hc
   have hcall := HF.out e _ (getD_mem_of hkl)
   have HK := H! hkl
   clear hkl
   generalize hx : xs.getD k default = x at *
   have HE := H! hx
   clear hx
   obtain ⟨r0, c0, X0, r1, c1, X1, r2, c2, X2⟩ := x
   simp only at hc0 hc1 hc2 hcall
   cases hp : p ⟨r0, c0, X0, r1, c1, X1, r2, c2, X2⟩ <;> rw [hp] at hcall <;> have HQ := H! hp <;> clear hp
   ·
    go_wp2_with (go_at_fn g; refine hcall.mono ?_; rintro a w' ⟨rfl, hb2⟩)
    go_roundg (n - (k + 1))
    case measure => omega
    case rel =>
     obtain ⟨e', rfl⟩ := e.next hb2
     refine ⟨k + 1, e', by go_num, by omega, Nat.le_refl _, rfl, H! (fun t ht => ?_)⟩
     by_cases h : t < k
     ·
      exact HP.out t h
     ·
      obtain rfl : t = k := by omega
      rw [HE.out]
      exact HQ.out
   ·
    go_wp2_with (go_at_fn g; refine hcall.mono ?_; rintro a w' ⟨rfl, hb2⟩)
    go_ret
    refine ⟨ret_int ?_, by obtain ⟨e', rfl⟩ := e.next hb2; exact e'.h⟩
    exact (idxG_hit HK.out HP.out (by rw [HE.out]; exact HQ.out)).symm
  ·
   obtain rfl : k = n := by omega
   go_wp2
   go_ret
   refine ⟨ret_int ?_, e.h⟩
   exact (idxG_miss (fun t ht => HP.out t (by have := HN.out; omega))).symm
theorem has_Map (g : Nat) (cb : Array Value) (r : Option Addr) (cap : Nat) (xs : List Mp) (p : Mp → Bool) (w : World) (eg : ∀ args w, (callFunc g args).run Try.prog w = .ok (.enter g args) w) (hxs : IsS 3 Mp.enc w r cap xs)
  (hf : ∀ (e : Later w) (x : Mp), x ∈ xs → Calls Try.prog g (#[.agg #[.slice x.rx x.X.length x.cx, .slice x.ry x.Y.length x.cy, .slice x.rz x.Z.length x.cz]] ++ cb) e.w fun a w' => a = .returned (.bool (p x)) ∧ Below e.w.heap.size e.w w') :
  Calls Try.prog 30 #[.slice r xs.length cap, .func (.func g) #[] cb] w fun e w' => e = .returned (.bool (xs.any p)) ∧ Below w.heap.size w w' := by
 have HI := H! (idx_Map g cb r cap xs p w eg hxs hf)
 clear hf hxs
 go_enter Try.func30, Try.ntmps30
 go_wp2_with ((go_at_call 55; refine (HI.out).mono ?_; rintro e hb1w ⟨rfl, hb1⟩; obtain ⟨hb1c, hb1f⟩ := bcell hb1; have hb1s := hb1.size; (try simp only [zA] at hb1s); (try (have : w.heap.size < hb1w.heap.size := by omega)); (try (have : w.heap.size + 1 < hb1w.heap.size := by omega)); (try (have : w.heap.size + 1 + 1 < hb1w.heap.size := by omega)); (try (have : w.heap.size + 1 + 1 + 1 < hb1w.heap.size := by omega)); (try (have : bX < hb1w.heap.size := by omega)); (try (have : bY < hb1w.heap.size := by omega)); (try (have : bZ < hb1w.heap.size := by omega))))
 go_ret
 exact ⟨ret_bool (idxG_any p xs), bw⟩
def least (p : Nat → Bool) : Nat → Nat
 | 0 => 0
 | n + 1 => if least p n < n then least p n else if p n then n else n + 1
def farB (n : Int) : Bool := decide (n < -1073741824 ∨ 1073741824 < n)
def AxisOk (xs : List Int) : Prop := 2 ≤ xs.length ∧ xs.length ≤ 32 ∧ xs.any farB = false ∧ ∀ t, t + 1 < xs.length → xs.getD t 0 < xs.getD (t + 1) 0
def CurveOk (xs ys : List Int) : Prop := xs.length = ys.length ∧ AxisOk xs ∧ ys.any farB = false
open Classical in
noncomputable def axisB (xs : List Int) : Bool := decide (AxisOk xs)
open Classical in
noncomputable def curveB (xs ys : List Int) : Bool := decide (CurveOk xs ys)
theorem axisB_true {xs : List Int} : axisB xs = true ↔ AxisOk xs := by simp [axisB]
theorem axisB_false {xs : List Int} : axisB xs = false ↔ ¬ AxisOk xs := by simp [axisB]
theorem curveB_true {xs ys : List Int} : curveB xs ys = true ↔ CurveOk xs ys := by simp [curveB]
theorem curveB_false {xs ys : List Int} : curveB xs ys = false ↔ ¬ CurveOk xs ys := by simp [curveB]
theorem getD_mem {xs : List Int} {t : Nat} (h : t < xs.length) : xs.getD t 0 ∈ xs := by
 rw [List.getD, List.getElem?_eq_getElem h]
 exact List.getElem_mem _
theorem far_all {xs : List Int} (h : ∀ t, t < xs.length → farB (xs.getD t 0) = false) : xs.any farB = false := by
 rw [List.any_eq_false]
 intro x hx
 obtain ⟨t, ht, rfl⟩ := List.getElem_of_mem hx
 have := h t ht
 simpa [List.getD, List.getElem?_eq_getElem ht] using this
theorem far_hit {xs : List Int} {t : Nat} (ht : t < xs.length) (h : farB (xs.getD t 0) = true) : xs.any farB = true :=
 List.any_eq_true.2 ⟨_, getD_mem ht, h⟩
def idxI (p : Int → Bool) (xs : List Int) : Int := if xs.any p = true then (xs.findIdx p : Nat) else -1
theorem idxI_hit {p : Int → Bool} {xs : List Int} {k : Nat} (hk : k < xs.length) (h0 : ∀ t, t < k → p (xs.getD t 0) = false) (h1 : p (xs.getD k 0) = true) : idxI p xs = k := by
 have hg : ∀ t (h : t < xs.length), xs.getD t 0 = xs[t] := fun t h => by simp [List.getD, List.getElem?_eq_getElem h]
 have hf : xs.findIdx p = k := by
  rw [List.findIdx_eq hk]
  refine ⟨by rw [← hg k hk]; exact h1, fun j hj => ?_⟩
  rw [← hg j (by omega)]
  exact h0 j hj
 have ha : xs.any p = true := List.any_eq_true.2 ⟨xs[k], List.getElem_mem hk, by rw [← hg k hk]; exact h1⟩
 simp [idxI, ha, hf]
theorem idxI_miss {p : Int → Bool} {xs : List Int} (h0 : ∀ t, t < xs.length → p (xs.getD t 0) = false) : idxI p xs = -1 := by
 have ha : xs.any p = false := by
  rw [List.any_eq_false]
  intro x hx
  obtain ⟨t, ht, rfl⟩ := List.getElem_of_mem hx
  have := h0 t ht
  simpa [List.getD, List.getElem?_eq_getElem ht] using this
 simp [idxI, ha]
theorem idxI_any (p : Int → Bool) (xs : List Int) : decide (0 ≤ idxI p xs) = xs.any p := by
 unfold idxI
 split
 ·
  rename_i h; rw [h]; simp
 ·
  rename_i h; simp at h ⊢; simpa using h
theorem indexFunc_any (g : Nat) (cb : Array Value) (r : Option Addr) (cap : Nat) (xs : List Int) (p : Int → Bool) (w : World) (eg : ∀ args w, (callFunc g args).run Try.prog w = .ok (.enter g args) w) (hxs : IsInts w r cap .i64 xs)
  (hf : ∀ (e : Later w) (x : Int), x ∈ xs → Calls Try.prog g (#[.int .i64 x] ++ cb) e.w fun a w' => a = .returned (.bool (p x)) ∧ Below e.w.heap.size e.w w') :
  Calls Try.prog 109 #[.slice r xs.length cap, .func (.func g) #[] cb] w fun e w' => e = .returned (.int .i64 (idxI p xs)) ∧ Below w.heap.size w w' := by
 have HF := H! hf
 have hmax := hxs.max
 have hle := hxs.le
 unfold maxLen at hmax
 clear hf
 by_cases hne : xs = []
 ·
  subst hne
  go_enter Try.func109, Try.ntmps109
  go_wp2
  go_rounds 1
  go_ret
  exact ⟨rfl, Below.refl _ _⟩
 ·
  obtain ⟨b, off, rfl, hb, hc⟩ := hxs.cells hne
  have HC := H! hc
  clear hc
  generalize hn : xs.length = n at *
  have HN := H! hn
  clear hn
  go_enter Try.func109, Try.ntmps109
  go_wp2
  go_loopg [8] n (fun kx s8 wr => ∃ (k : Nat) (e : Later w), s8 = .int .i64 k ∧ k ≤ n ∧ n - k ≤ kx ∧ wr = e.w ∧ Hid (∀ t, t < k → p (xs.getD t 0) = false))
  case atStart => exact ⟨0, ⟨w, Below.refl _ _⟩, rfl, Nat.zero_le _, by omega, rfl, H! (fun t h => absurd h (Nat.not_lt_zero _))⟩
  case round =>
   obtain ⟨k, e, rfl, hk, hkx, rfl, HP⟩ := hrel
   by_cases hlt : k < n
   ·
    have hlen := HN.out
    have hcell : e.w.cell? ⟨b, off + k, none⟩ = some (.int .i64 (xs.getD k 0)) := by
     rw [Later.cell e hb]
     exact HC.out k (by omega)
    have hmem : xs.getD k 0 ∈ xs := by
     rw [List.getD, List.getElem?_eq_getElem (show k < xs.length by omega)]
     exact List.getElem_mem _
    have hcall := HF.out e _ hmem
    have HK : Hid (k < xs.length) := H! (by omega)
    have HX : Hid (∀ b, p (xs.getD k 0) = b → p (xs.getD k 0) = b) := H! (fun _ h => h)
    generalize hx : xs.getD k 0 = x at hcell hcall
    have HE := H! hx
    clear hx hlen hmem
    cases hp : p x <;> rw [hp] at hcall <;> have HQ := H! hp <;> clear hp
    ·
     go_wp2_with (go_at_fn g; refine hcall.mono ?_; rintro a w' ⟨rfl, hb2⟩)
     go_roundg (n - (k + 1))
     case measure => omega
     case rel =>
      obtain ⟨e', rfl⟩ := e.next hb2
      refine ⟨k + 1, e', by go_num, by omega, Nat.le_refl _, rfl, H! (fun t ht => ?_)⟩
      by_cases h : t < k
      ·
       exact HP.out t h
      ·
       obtain rfl : t = k := by omega
       rw [HE.out]
       exact HQ.out
    ·
     go_wp2_with (go_at_fn g; refine hcall.mono ?_; rintro a w' ⟨rfl, hb2⟩)
     go_ret
     refine ⟨ret_int ?_, by obtain ⟨e', rfl⟩ := e.next hb2; exact e'.h⟩
     exact (idxI_hit HK.out HP.out (by rw [HE.out]; exact HQ.out)).symm
   ·
    obtain rfl : k = n := by omega
    go_wp2
    go_ret
    refine ⟨ret_int ?_, e.h⟩
    exact (idxI_miss (fun t ht => HP.out t (by have := HN.out; omega))).symm
theorem containsFunc_any (g : Nat) (cb : Array Value) (r : Option Addr) (cap : Nat) (xs : List Int) (p : Int → Bool) (w : World) (eg : ∀ args w, (callFunc g args).run Try.prog w = .ok (.enter g args) w) (hxs : IsInts w r cap .i64 xs)
  (hf : ∀ (e : Later w) (x : Int), x ∈ xs → Calls Try.prog g (#[.int .i64 x] ++ cb) e.w fun a w' => a = .returned (.bool (p x)) ∧ Below e.w.heap.size e.w w') :
  Calls Try.prog 68 #[.slice r xs.length cap, .func (.func g) #[] cb] w fun e w' => e = .returned (.bool (xs.any p)) ∧ Below w.heap.size w w' := by
 have HI := H! (indexFunc_any g cb r cap xs p w eg hxs hf)
 clear hf hxs
 go_enter Try.func68, Try.ntmps68
 go_wp2_with ((go_at_call 109; refine (HI.out).mono ?_; rintro e hb1w ⟨rfl, hb1⟩; obtain ⟨hb1c, hb1f⟩ := bcell hb1; have hb1s := hb1.size; (try simp only [zA] at hb1s); (try (have : w.heap.size < hb1w.heap.size := by omega)); (try (have : w.heap.size + 1 < hb1w.heap.size := by omega)); (try (have : w.heap.size + 1 + 1 < hb1w.heap.size := by omega)); (try (have : w.heap.size + 1 + 1 + 1 < hb1w.heap.size := by omega)); (try (have : bX < hb1w.heap.size := by omega)); (try (have : bY < hb1w.heap.size := by omega)); (try (have : bZ < hb1w.heap.size := by omega))))
 go_ret
 exact ⟨ret_bool (idxI_any p xs), bw⟩
theorem far_any (x : Int) (w : World) : Calls Try.prog 100 #[.int .i64 x] w fun e w' => e = .returned (.bool (farB x)) ∧ w = w' := by
 go_enter Try.func100, Try.ntmps100
 go_wp2
 all_goals go_ret
 all_goals exact ⟨ret_bool (by grind [farB]), rfl⟩
theorem below_same {P : Program} {f : FuncId} {args : Array Value} {w : World} {v : Value} (h : Calls P f args w fun e w' => e = .returned v ∧ w = w') : Calls P f args w fun e w' => e = .returned v ∧ Below w.heap.size w w' :=
 h.mono fun _ _ ⟨he, hw⟩ => ⟨he, by subst hw; exact Below.refl _ _⟩
theorem farAny_any (r : Option Addr) (cap : Nat) (xs : List Int) (w : World) (hxs : IsInts w r cap .i64 xs) :
  Calls Try.prog 68 #[.slice r xs.length cap, .func (.func 100) #[] #[]] w fun e w' => e = .returned (.bool (xs.any farB)) ∧ Below w.heap.size w w' :=
 containsFunc_any 100 #[] r cap xs farB w (enters_of Try.func100 (by kernel_rfl) rfl) hxs (fun e x _ => below_same (far_any x e.w))
theorem axis_any (r : Option Addr) (cap : Nat) (xs : List Int) (w : World) (hxs : IsInts w r cap .i64 xs) :
  Calls Try.prog 99 #[.slice r xs.length cap] w fun e w' => e = .returned (.bool (axisB xs)) ∧ Below w.heap.size w w' := by
 have HX := H! hxs
 by_cases h2 : xs.length < 2
 ·
  have H := H! (axisB_false.2 (fun h : AxisOk xs => by have := h.1; omega))
  have h2' : (xs.length : Int) < 2 := by omega
  clear hxs h2
  go_enter Try.func99, Try.ntmps99
  go_wp2
  go_ret
  exact ⟨by rw [H.out]; first | done | rfl, bw⟩
 ·
  by_cases h3 : 32 < xs.length
  ·
   have H := H! (axisB_false.2 (fun h : AxisOk xs => by have := h.2.1; omega))
   have h2' : ¬ (xs.length : Int) < 2 := by omega
   have h3' : (32 : Int) < xs.length := by omega
   clear hxs h2 h3
   go_enter Try.func99, Try.ntmps99
   go_wp2
   go_ret
   exact ⟨by rw [H.out]; first | done | rfl, bw⟩
  ·
   have h2' : ¬ (xs.length : Int) < 2 := by omega
   have h3' : ¬ (32 : Int) < xs.length := by omega
   cases hf : xs.any farB with
   | true =>
    have H := H! (axisB_false.2 (fun h : AxisOk xs => by have := h.2.2.1; rw [hf] at this; cases this))
    clear hxs
    go_enter Try.func99, Try.ntmps99
    go_wp2_with ((go_at_call 68; refine (farAny_any _ _ _ _ HX.out).mono ?_; rintro e hb1w ⟨rfl, hb1⟩; obtain ⟨hb1c, hb1f⟩ := bcell hb1; have hb1s := hb1.size; (try simp only [zA] at hb1s); (try (have : w.heap.size < hb1w.heap.size := by omega)); (try (have : w.heap.size + 1 < hb1w.heap.size := by omega)); (try (have : w.heap.size + 1 + 1 < hb1w.heap.size := by omega)); (try (have : w.heap.size + 1 + 1 + 1 < hb1w.heap.size := by omega)); (try (have : bX < hb1w.heap.size := by omega)); (try (have : bY < hb1w.heap.size := by omega)); (try (have : bZ < hb1w.heap.size := by omega))))
    go_ret
    exact ⟨by rw [H.out]; first | done | rfl, bw⟩
   | false =>
    obtain ⟨bX, off, rfl, hb, hc⟩ := hxs.cells (fun e => by subst e; simp at h2)
    have HC := H! hc
    clear hc hxs
    have HAX : Hid (∀ h : (∀ t, t + 1 < xs.length → xs.getD t 0 < xs.getD (t + 1) 0), AxisOk xs) := H! (fun h => ⟨by omega, by omega, hf, h⟩)
    generalize hn : xs.length = n at *
    have HN := H! hn
    clear hn
    go_enter Try.func99, Try.ntmps99
    go_wp2_with (go_at_call 68; (have hcl := farAny_any _ _ _ w HX.out); rw [HN.out] at hcl; refine hcl.mono ?_; clear hcl; rintro e hb1w ⟨rfl, hb1⟩)
    go_loopg [19] n (fun kx s19 wr => ∃ (k : Nat) (e : Later w), s19 = .int .i64 k ∧ k + 1 ≤ n ∧ n - k ≤ kx ∧ wr = e.w ∧ Hid (∀ t, t < k → xs.getD t 0 < xs.getD (t + 1) 0))
    case atStart => exact ⟨0, ⟨hb1w, hb1⟩, rfl, by omega, by omega, rfl, H! (fun t h => absurd h (Nat.not_lt_zero _))⟩
    case round =>
     obtain ⟨k, e, rfl, hk, hkx, rfl, HP⟩ := hrel
     by_cases hlt : k + 1 < n
     ·
      have hlt' : (k : Int) < (n : Int) - 1 := by omega
      have hk1 : (0 : Int) ≤ (k : Int) := by omega
      have hk2 : (k : Int) < n := by omega
      have hk3 : (k : Int) + 1 < n := by omega
      have hw1 : IntKind.i64.wrap ((k : Int) + 1) = (k : Int) + 1 := IntWalk.i64_in _ (by omega)
      have hc1 : e.w.cell? ⟨bX, off + k, none⟩ = some (.int .i64 (xs.getD k 0)) := by
       rw [Later.cell e hb]
       exact HC.out k (by omega)
      have hc2 : e.w.cell? ⟨bX, off + (k + 1), none⟩ = some (.int .i64 (xs.getD (k + 1) 0)) := by
       rw [Later.cell e hb]
       exact HC.out (k + 1) (by omega)
      have HV : Hid (∀ a b, xs.getD k 0 = a → xs.getD (k + 1) 0 = b → xs.getD k 0 = a ∧ xs.getD (k + 1) 0 = b) := H! (fun _ _ h h' => ⟨h, h'⟩)
      generalize hx : xs.getD k 0 = x at hc1
      generalize hy : xs.getD (k + 1) 0 = y at hc2
      have HXY := H! (And.intro hx hy)
      clear hx hy
      by_cases hxy : x < y
      ·
       go_wp2
       go_quiet (fail)
       go_wp2
       go_roundg (n - (k + 1))
       case measure => omega
       case rel =>
        refine ⟨k + 1, ⟨_, below_drewN e.h _⟩, by go_num, by omega, Nat.le_refl _, rfl, H! (fun t ht => ?_)⟩
        by_cases h : t < k
        ·
         exact HP.out t h
        ·
         obtain rfl : t = k := by omega
         rw [HXY.out.1, HXY.out.2]
         assumption
      ·
       have H : Hid (axisB xs = false) := H! (axisB_false.2 (fun h => by have := h.2.2.2 k (by have := HN.out; omega); rw [HXY.out.1, HXY.out.2] at this; exact hxy this))
       have hxy2 : y ≤ x := by omega
       go_wp2
       go_quiet (fail)
       go_wp2
       go_ret
       exact ⟨by rw [H.out]; first | done | rfl, below_drewN e.h _⟩
     ·
      obtain rfl : n = k + 1 := by omega
      go_wp2
      go_ret
      refine ⟨ret_bool ?_, e.h⟩
      exact (axisB_true.2 (HAX.out (fun t ht => HP.out t (by have := HN.out; omega)))).symm
theorem curveValid_any (rx ry : Option Addr) (cx cy : Nat) (xs ys : List Int) (w : World) (hx : IsInts w rx cx .i64 xs) (hy : IsInts w ry cy .i64 ys) :
  Calls Try.prog 62 #[.agg #[.slice rx xs.length cx, .slice ry ys.length cy]] w fun e w' => e = .returned (.bool (curveB xs ys)) ∧ Below w.heap.size w w' := by
 have HX : Hid (∀ w', Below w.heap.size w w' → IsInts w' rx cx .i64 xs) := H! (fun _ h => hx.later h)
 have HY : Hid (∀ w', Below w.heap.size w w' → IsInts w' ry cy .i64 ys) := H! (fun _ h => hy.later h)
 clear hx hy
 by_cases hl : xs.length = ys.length
 ·
  have hl' : ((xs.length : Int) == (ys.length : Int)) = true := by simp [hl]
  cases ha : axisB xs with
  | false =>
   have H : Hid (curveB xs ys = false) := H! (curveB_false.2 (fun h => axisB_false.1 ha h.2.1))
   clear hl
   go_enter Try.func62, Try.ntmps62
   go_wp2_with (first | (go_at_call 99; refine (axis_any _ _ _ _ (HX.out _ bw)).mono ?_; rintro e hb1w ⟨rfl, hb1⟩; obtain ⟨hb1c, hb1f⟩ := bcell hb1; have hb1s := hb1.size; (try simp only [zA] at hb1s); (try (have : w.heap.size < hb1w.heap.size := by omega)); (try (have : w.heap.size + 1 < hb1w.heap.size := by omega)); (try (have : w.heap.size + 1 + 1 < hb1w.heap.size := by omega)); (try (have : w.heap.size + 1 + 1 + 1 < hb1w.heap.size := by omega)); (try (have : bX < hb1w.heap.size := by omega)); (try (have : bY < hb1w.heap.size := by omega)); (try (have : bZ < hb1w.heap.size := by omega))) | (go_at_call 68; refine (farAny_any _ _ _ _ (HY.out _ bw)).mono ?_; rintro e hb2w ⟨rfl, hb2⟩; obtain ⟨hb2c, hb2f⟩ := bcell hb2; have hb2s := hb2.size; (try simp only [zA] at hb2s); (try (have : w.heap.size < hb2w.heap.size := by omega)); (try (have : w.heap.size + 1 < hb2w.heap.size := by omega)); (try (have : w.heap.size + 1 + 1 < hb2w.heap.size := by omega)); (try (have : w.heap.size + 1 + 1 + 1 < hb2w.heap.size := by omega)); (try (have : bX < hb2w.heap.size := by omega)); (try (have : bY < hb2w.heap.size := by omega)); (try (have : bZ < hb2w.heap.size := by omega))))
   go_ret
   exact ⟨by rw [H.out]; first | done | rfl, bw⟩
  | true =>
   cases hf : ys.any farB with
   | true =>
    have H : Hid (curveB xs ys = false) := H! (curveB_false.2 (fun h => by have := h.2.2; rw [hf] at this; cases this))
    clear hl
    go_enter Try.func62, Try.ntmps62
    go_wp2_with (first | (go_at_call 99; refine (axis_any _ _ _ _ (HX.out _ bw)).mono ?_; rintro e hb1w ⟨rfl, hb1⟩; obtain ⟨hb1c, hb1f⟩ := bcell hb1; have hb1s := hb1.size; (try simp only [zA] at hb1s); (try (have : w.heap.size < hb1w.heap.size := by omega)); (try (have : w.heap.size + 1 < hb1w.heap.size := by omega)); (try (have : w.heap.size + 1 + 1 < hb1w.heap.size := by omega)); (try (have : w.heap.size + 1 + 1 + 1 < hb1w.heap.size := by omega)); (try (have : bX < hb1w.heap.size := by omega)); (try (have : bY < hb1w.heap.size := by omega)); (try (have : bZ < hb1w.heap.size := by omega))) | (go_at_call 68; refine (farAny_any _ _ _ _ (HY.out _ bw)).mono ?_; rintro e hb2w ⟨rfl, hb2⟩; obtain ⟨hb2c, hb2f⟩ := bcell hb2; have hb2s := hb2.size; (try simp only [zA] at hb2s); (try (have : w.heap.size < hb2w.heap.size := by omega)); (try (have : w.heap.size + 1 < hb2w.heap.size := by omega)); (try (have : w.heap.size + 1 + 1 < hb2w.heap.size := by omega)); (try (have : w.heap.size + 1 + 1 + 1 < hb2w.heap.size := by omega)); (try (have : bX < hb2w.heap.size := by omega)); (try (have : bY < hb2w.heap.size := by omega)); (try (have : bZ < hb2w.heap.size := by omega))))
    go_ret
    exact ⟨by rw [H.out]; first | done | rfl, bw⟩
   | false =>
    have H : Hid (curveB xs ys = true) := H! (curveB_true.2 ⟨hl, axisB_true.1 ha, hf⟩)
    clear hl
    go_enter Try.func62, Try.ntmps62
    go_wp2_with (first | (go_at_call 99; refine (axis_any _ _ _ _ (HX.out _ bw)).mono ?_; rintro e hb1w ⟨rfl, hb1⟩; obtain ⟨hb1c, hb1f⟩ := bcell hb1; have hb1s := hb1.size; (try simp only [zA] at hb1s); (try (have : w.heap.size < hb1w.heap.size := by omega)); (try (have : w.heap.size + 1 < hb1w.heap.size := by omega)); (try (have : w.heap.size + 1 + 1 < hb1w.heap.size := by omega)); (try (have : w.heap.size + 1 + 1 + 1 < hb1w.heap.size := by omega)); (try (have : bX < hb1w.heap.size := by omega)); (try (have : bY < hb1w.heap.size := by omega)); (try (have : bZ < hb1w.heap.size := by omega))) | (go_at_call 68; refine (farAny_any _ _ _ _ (HY.out _ bw)).mono ?_; rintro e hb2w ⟨rfl, hb2⟩; obtain ⟨hb2c, hb2f⟩ := bcell hb2; have hb2s := hb2.size; (try simp only [zA] at hb2s); (try (have : w.heap.size < hb2w.heap.size := by omega)); (try (have : w.heap.size + 1 < hb2w.heap.size := by omega)); (try (have : w.heap.size + 1 + 1 < hb2w.heap.size := by omega)); (try (have : w.heap.size + 1 + 1 + 1 < hb2w.heap.size := by omega)); (try (have : bX < hb2w.heap.size := by omega)); (try (have : bY < hb2w.heap.size := by omega)); (try (have : bZ < hb2w.heap.size := by omega))))
    go_ret
    exact ⟨by rw [H.out]; first | done | rfl, bw⟩
 ·
  have hl' : ((xs.length : Int) == (ys.length : Int)) = false := by simp; omega
  have H : Hid (curveB xs ys = false) := H! (curveB_false.2 (fun h => hl h.1))
  clear hl
  go_enter Try.func62, Try.ntmps62
  go_wp2
  go_ret
  exact ⟨by rw [H.out]; first | done | rfl, bw⟩
def RowsOk (n : Nat) (Z : List (List Int)) : Prop := ∀ t, t < Z.length → (Z.getD t []).length = n ∧ (Z.getD t []).any farB = false
def MapOk (X Y : List Int) (Z : List (List Int)) : Prop := AxisOk X ∧ AxisOk Y ∧ Z.length = X.length ∧ RowsOk Y.length Z
open Classical in
noncomputable def mapB (X Y : List Int) (Z : List (List Int)) : Bool := decide (MapOk X Y Z)
theorem mapB_true {X Y : List Int} {Z : List (List Int)} : mapB X Y Z = true ↔ MapOk X Y Z := by simp [mapB]
theorem mapB_false {X Y : List Int} {Z : List (List Int)} : mapB X Y Z = false ↔ ¬ MapOk X Y Z := by simp [mapB]
theorem element_any (x : Int) (w : World) : Calls Try.prog 103 #[.int .i64 x] w fun e w' => e = .returned (.bool (!farB x)) ∧ w = w' := by
 go_enter Try.func103, Try.ntmps103
 go_wp2
 all_goals go_ret
 all_goals exact ⟨ret_bool (by grind [farB]), rfl⟩
theorem elementCl_any (x : Int) (w : World) : Calls Try.prog 102 #[.int .i64 x] w fun e w' => e = .returned (.bool (farB x)) ∧ w = w' := by
 go_enter Try.func102, Try.ntmps102
 go_wp2_with ((go_at_call 103; refine (element_any _ _).mono ?_; rintro e w' ⟨rfl, rfl⟩))
 go_ret
 exact ⟨by simp, rfl⟩
theorem sfar_any (r : Option Addr) (cap : Nat) (xs : List Int) (w : World) (hxs : IsInts w r cap .i64 xs) :
  Calls Try.prog 68 #[.slice r xs.length cap, .func (.func 102) #[] #[]] w fun e w' => e = .returned (.bool (xs.any farB)) ∧ Below w.heap.size w w' :=
 containsFunc_any 102 #[] r cap xs farB w (enters_of Try.func102 (by kernel_rfl) rfl) hxs (fun e x _ => below_same (elementCl_any x e.w))
theorem saxis_any (r : Option Addr) (cap : Nat) (xs : List Int) (w : World) (hxs : IsInts w r cap .i64 xs) :
  Calls Try.prog 101 #[.slice r xs.length cap] w fun e w' => e = .returned (.bool (axisB xs)) ∧ Below w.heap.size w w' := by
 by_cases h2 : xs.length < 2
 ·
  have H := H! (axisB_false.2 (fun h : AxisOk xs => by have := h.1; omega))
  have h2' : (xs.length : Int) < 2 := by omega
  clear hxs h2
  go_enter Try.func101, Try.ntmps101
  go_wp2
  go_ret
  exact ⟨by rw [H.out]; first | done | rfl, bw⟩
 ·
  by_cases h3 : 32 < xs.length
  ·
   have H := H! (axisB_false.2 (fun h : AxisOk xs => by have := h.2.1; omega))
   have h2' : ¬ (xs.length : Int) < 2 := by omega
   have h3' : (32 : Int) < xs.length := by omega
   clear hxs h2 h3
   go_enter Try.func101, Try.ntmps101
   go_wp2
   go_ret
   exact ⟨by rw [H.out]; first | done | rfl, bw⟩
  ·
   have h2' : ¬ (xs.length : Int) < 2 := by omega
   have h3' : ¬ (32 : Int) < xs.length := by omega
   obtain ⟨bX, off, rfl, hb, hc⟩ := hxs.cells (fun e => by subst e; simp at h2)
   have HC := H! hc
   have HAX : Hid ((∀ t, t < xs.length → farB (xs.getD t 0) = false) → (∀ t, t + 1 < xs.length → xs.getD t 0 < xs.getD (t + 1) 0) → AxisOk xs) := H! (fun g h => ⟨by omega, by omega, far_all g, h⟩)
   clear hc hxs
   generalize hn : xs.length = n at *
   have HN := H! hn
   clear hn
   go_enter Try.func101, Try.ntmps101
   go_wp2
   go_loopg [15] n (fun kx s15 wr => ∃ (k : Nat) (e : Later w), s15 = .int .i64 k ∧ k ≤ n ∧ n - k ≤ kx ∧ wr = e.w ∧ Hid (∀ t, t < k → farB (xs.getD t 0) = false) ∧ Hid (∀ t, t + 1 < k → xs.getD t 0 < xs.getD (t + 1) 0))
   case atStart => exact ⟨0, ⟨w, Below.refl _ _⟩, rfl, by omega, by omega, rfl, H! (fun t h => absurd h (Nat.not_lt_zero _)), H! (fun t h => absurd h (Nat.not_lt_zero _))⟩
   case round =>
    obtain ⟨k, e, rfl, hk, hkx, rfl, HP, HQ⟩ := hrel
    have hes := e.h.size
    have hbe : bX < e.w.heap.size := by omega
    by_cases hlt : k < n
    ·
     have hk1 : (0 : Int) ≤ (k : Int) := by omega
     have hk2 : (k : Int) < n := by omega
     have hc1 : e.w.cell? ⟨bX, off + k, none⟩ = some (.int .i64 (xs.getD k 0)) := by
      rw [Later.cell e hb]
      exact HC.out k (by have := HN.out; omega)
     have HF : Hid (farB (xs.getD k 0) = true → axisB xs = false) := H! (fun h => axisB_false.2 (fun hh => by have := far_hit (show k < xs.length by have := HN.out; omega) h; rw [hh.2.2.1] at this; cases this))
     cases hf : farB (xs.getD k 0) with
     | true =>
      have H := H! (HF.out hf)
      clear HF
      generalize xs.getD k 0 = x at hc1 hf
      go_wp2_with ((go_at_call 103; refine (element_any _ _).mono ?_; rintro e w' ⟨rfl, rfl⟩))
      go_ret
      exact ⟨by rw [H.out]; first | done | rfl, e.h⟩
     | false =>
      have HFK := H! hf
      clear HF
      by_cases hk0 : k = 0
      ·
       have hkd : decide ((0 : Int) < (k : Int)) = false := by simp; omega
       have hkd2 : decide (0 < k) = false := by simp; omega
       have HK := H! hk0
       clear hk0
       generalize hx : xs.getD k 0 = x at hc1 hf
       have HX := H! hx
       clear hx
       go_wp2_with ((go_at_call 103; refine (element_any _ _).mono ?_; rintro e w' ⟨rfl, rfl⟩))
       go_roundg (n - (k + 1))
       case measure => omega
       case rel =>
        have hkk := HK.out
        refine ⟨k + 1, e, by go_num, by omega, Nat.le_refl _, rfl, H! (fun t ht => ?_), H! (fun t ht => by omega)⟩
        obtain rfl : t = k := by omega
        exact HFK.out
      ·
       have hk3 : (0 : Int) < (k : Int) := by omega
       have hk6 : 0 < k := by omega
       have hw1 : IntKind.i64.wrap ((k : Int) - 1) = (k : Int) - 1 := IntWalk.i64_in _ (by omega)
       have hk4 : (0 : Int) ≤ (k : Int) - 1 := by omega
       have hk5 : (k : Int) - 1 < n := by omega
       have hc2 : e.w.cell? ⟨bX, off + (k - 1), none⟩ = some (.int .i64 (xs.getD (k - 1) 0)) := by
        rw [Later.cell e hb]
        exact HC.out (k - 1) (by have := HN.out; omega)
       have HV : Hid (∀ x y, xs.getD k 0 = x → xs.getD (k - 1) 0 = y → x ≤ y → axisB xs = false) := H! (fun x y h1 h2 h => axisB_false.2 (fun hh => by
        have := hh.2.2.2 (k - 1) (by have := HN.out; omega)
        rw [show k - 1 + 1 = k by omega, h1, h2] at this
        omega))
       generalize hx : xs.getD k 0 = x at hc1 hf
       generalize hy : xs.getD (k - 1) 0 = y at hc2
       have HXY := H! (And.intro hx hy)
       clear hx hy
       by_cases hxy : x ≤ y
       ·
        have H := H! (HV.out x y HXY.out.1 HXY.out.2 hxy)
        go_wp2_with ((go_at_call 103; refine (element_any _ _).mono ?_; rintro e w' ⟨rfl, rfl⟩))
        go_ret
        exact ⟨by rw [H.out]; first | done | rfl, e.h⟩
       ·
        have hxy2 : y < x := by omega
        have HLT := H! hxy2
        go_wp2_with ((go_at_call 103; refine (element_any _ _).mono ?_; rintro e w' ⟨rfl, rfl⟩))
        go_roundg (n - (k + 1))
        case measure => omega
        case rel =>
         refine ⟨k + 1, e, by go_num, by omega, Nat.le_refl _, rfl, H! (fun t ht => ?_), H! (fun t ht => ?_)⟩
         ·
          by_cases h : t < k
          ·
           exact HP.out t h
          ·
           obtain rfl : t = k := by omega
           exact HFK.out
         ·
          by_cases h : t + 1 < k
          ·
           exact HQ.out t h
          ·
           obtain rfl : t = k - 1 := by omega
           rw [show k - 1 + 1 = k by omega, HXY.out.1, HXY.out.2]
           exact HLT.out
    ·
     obtain rfl : k = n := by omega
     go_wp2
     go_ret
     refine ⟨ret_bool ?_, e.h⟩
     exact (axisB_true.2 (HAX.out HP.out HQ.out)).symm
theorem svalid_any (rX rY rZ : Option Addr) (cX cY cZ : Nat) (X Y : List Int) (Z : List (List Int)) (w : World) (hX : IsInts w rX cX .i64 X) (hY : IsInts w rY cY .i64 Y) (hZ : IsRows w rZ cZ Z) :
  Calls Try.prog 64 #[.agg #[.slice rX X.length cX, .slice rY Y.length cY, .slice rZ Z.length cZ]] w fun e w' => e = .returned (.bool (mapB X Y Z)) ∧ Below w.heap.size w w' := by
 have HX : Hid (∀ w', Below w.heap.size w w' → IsInts w' rX cX .i64 X) := H! (fun _ h => hX.later h)
 have HY : Hid (∀ w', Below w.heap.size w w' → IsInts w' rY cY .i64 Y) := H! (fun _ h => hY.later h)
 have HZ : Hid (∀ w', Below w.heap.size w w' → IsRows w' rZ cZ Z) := H! (fun _ h => hZ.later h)
 have hmax := hZ.max
 have hle := hZ.le
 unfold maxLen at hmax
 cases ax : axisB X with
 | false =>
  have H := H! (mapB_false.2 (fun h : MapOk X Y Z => axisB_false.1 ax h.1))
  clear hX hY hZ
  go_enter Try.func64, Try.ntmps64
  go_wp2_with ((go_at_call 101; refine (saxis_any _ _ X _ (HX.out _ bw)).mono ?_; rintro e hb1w ⟨rfl, hb1⟩; obtain ⟨hb1c, hb1f⟩ := bcell hb1; have hb1s := hb1.size; (try simp only [zA] at hb1s); (try (have : w.heap.size < hb1w.heap.size := by omega)); (try (have : w.heap.size + 1 < hb1w.heap.size := by omega)); (try (have : w.heap.size + 1 + 1 < hb1w.heap.size := by omega)); (try (have : w.heap.size + 1 + 1 + 1 < hb1w.heap.size := by omega)); (try (have : bX < hb1w.heap.size := by omega)); (try (have : bY < hb1w.heap.size := by omega)); (try (have : bZ < hb1w.heap.size := by omega))))
  go_ret
  exact ⟨by rw [H.out]; first | done | rfl, bw⟩
 | true =>
  cases ay : axisB Y with
  | false =>
   have H := H! (mapB_false.2 (fun h : MapOk X Y Z => axisB_false.1 ay h.2.1))
   clear hX hY hZ
   go_enter Try.func64, Try.ntmps64
   go_wp2_with ((go_at_call 101; refine (saxis_any _ _ _ _ (by first | exact HX.out _ bw | exact HY.out _ bw)).mono ?_; rintro e hb1w ⟨rfl, hb1⟩; obtain ⟨hb1c, hb1f⟩ := bcell hb1; have hb1s := hb1.size; (try simp only [zA] at hb1s); (try (have : w.heap.size < hb1w.heap.size := by omega)); (try (have : w.heap.size + 1 < hb1w.heap.size := by omega)); (try (have : w.heap.size + 1 + 1 < hb1w.heap.size := by omega)); (try (have : w.heap.size + 1 + 1 + 1 < hb1w.heap.size := by omega)); (try (have : bX < hb1w.heap.size := by omega)); (try (have : bY < hb1w.heap.size := by omega)); (try (have : bZ < hb1w.heap.size := by omega))))
   go_ret
   exact ⟨by rw [H.out]; first | done | rfl, bw⟩
  | true =>
   by_cases hl : Z.length = X.length
   ·
    have hl' : ((Z.length : Int) == (X.length : Int)) = true := by simp [hl]
    have hl2 : (Z.length : Int) = (X.length : Int) := by omega
    have h2 := (axisB_true.1 ax).1
    obtain ⟨bZ, oZ, rfl, hbZ, hcZ⟩ := hZ.cells (fun e => by rw [e] at hl; simp at hl; omega)
    have HC := H! hcZ
    have HT : Hid (RowsOk Y.length Z → mapB X Y Z = true) := H! (fun h => mapB_true.2 ⟨axisB_true.1 ax, axisB_true.1 ay, hl, h⟩)
    have HF : Hid (∀ t, t < Z.length → ¬ ((Z.getD t []).length = Y.length ∧ (Z.getD t []).any farB = false) → mapB X Y Z = false) := H! (fun t ht h => mapB_false.2 (fun hh => h (hh.2.2.2 t ht)))
    clear hX hY hZ hcZ
    generalize hn : Z.length = n at *
    have HN := H! hn
    clear hn
    go_enter Try.func64, Try.ntmps64
    go_wp2_with ((go_at_call 101; refine (saxis_any _ _ _ _ (by first | exact HX.out _ bw | exact HY.out _ bw)).mono ?_; rintro e hb1w ⟨rfl, hb1⟩; obtain ⟨hb1c, hb1f⟩ := bcell hb1; have hb1s := hb1.size; (try simp only [zA] at hb1s); (try (have : w.heap.size < hb1w.heap.size := by omega)); (try (have : w.heap.size + 1 < hb1w.heap.size := by omega)); (try (have : w.heap.size + 1 + 1 < hb1w.heap.size := by omega)); (try (have : w.heap.size + 1 + 1 + 1 < hb1w.heap.size := by omega)); (try (have : bX < hb1w.heap.size := by omega)); (try (have : bY < hb1w.heap.size := by omega)); (try (have : bZ < hb1w.heap.size := by omega))))
    go_loopg [27] n (fun kx s27 wr => ∃ (k : Nat) (e : Later hb1w), s27 = .int .i64 k ∧ k ≤ n ∧ n - k ≤ kx ∧ wr = e.w ∧ Hid (∀ t, t < k → (Z.getD t []).length = Y.length ∧ (Z.getD t []).any farB = false))
    case atStart => exact ⟨0, ⟨_, Below.refl _ _⟩, rfl, by omega, by omega, rfl, H! (fun t h => absurd h (Nat.not_lt_zero _))⟩
    case round =>
     obtain ⟨k, e, rfl, hk, hkx, rfl, HP⟩ := hrel
     have hes := e.h.size
     have hbo : w.heap.size < e.w.heap.size := by omega
     by_cases hlt : k < n
     ·
      have hbw : Below w.heap.size w e.w := bw
      have hkZ : k < Z.length := by have := HN.out; omega
      obtain ⟨ri, ci, g1, g2⟩ := HC.out k (by omega)
      have hc1 : e.w.cell? ⟨bZ, oZ + k, none⟩ = some (.slice ri (Z.getD k []).length ci) := by
       rw [hbw.cell (p := ⟨bZ, oZ + k, none⟩) hbZ]; exact g1
      have HR : Hid (∀ w', Below w.heap.size w w' → IsInts w' ri ci .i64 (Z.getD k [])) := H! (fun _ h => g2.later h)
      have hk1 : (0 : Int) ≤ (k : Int) := by omega
      have hk2 : (k : Int) < n := by omega
      have HB := H! (HF.out k hlt)
      have HG : Hid ((Z.getD k []).length = Y.length ∧ (Z.getD k []).any farB = false → ∀ t, t < k + 1 → (Z.getD t []).length = Y.length ∧ (Z.getD t []).any farB = false) := H! (fun h t ht => by
       by_cases e : t = k
       ·
        subst e; exact h
       ·
        exact HP.out t (by omega))
      clear g1 g2 hbw
      generalize Z.getD k [] = row at *
      by_cases hrl : row.length = Y.length
      ·
       have hr' : ((row.length : Int) == (Y.length : Int)) = true := by simp [hrl]
       have hr2 : (row.length : Int) = (Y.length : Int) := by omega
       cases hf : row.any farB with
       | true =>
        have H := H! (HB.out (fun h => by rw [hf] at h; cases h.2))
        clear hrl
        go_wp2_with ((go_at_call 68; refine (sfar_any _ _ _ _ (HR.out _ bw)).mono ?_; rintro e hb3w ⟨rfl, hb3⟩; obtain ⟨hb3c, hb3f⟩ := bcell hb3; have hb3s := hb3.size; (try simp only [zA] at hb3s); (try (have : w.heap.size < hb3w.heap.size := by omega)); (try (have : w.heap.size + 1 < hb3w.heap.size := by omega)); (try (have : w.heap.size + 1 + 1 < hb3w.heap.size := by omega)); (try (have : w.heap.size + 1 + 1 + 1 < hb3w.heap.size := by omega)); (try (have : bX < hb3w.heap.size := by omega)); (try (have : bY < hb3w.heap.size := by omega)); (try (have : bZ < hb3w.heap.size := by omega))))
        go_ret
        exact ⟨by rw [H.out]; first | done | rfl, bw⟩
       | false =>
        have HG2 := H! (HG.out ⟨hrl, hf⟩)
        clear hrl
        go_wp2_with ((go_at_call 68; refine (sfar_any _ _ _ _ (HR.out _ bw)).mono ?_; rintro e hb3w ⟨rfl, hb3⟩; obtain ⟨hb3c, hb3f⟩ := bcell hb3; have hb3s := hb3.size; (try simp only [zA] at hb3s); (try (have : w.heap.size < hb3w.heap.size := by omega)); (try (have : w.heap.size + 1 < hb3w.heap.size := by omega)); (try (have : w.heap.size + 1 + 1 < hb3w.heap.size := by omega)); (try (have : w.heap.size + 1 + 1 + 1 < hb3w.heap.size := by omega)); (try (have : bX < hb3w.heap.size := by omega)); (try (have : bY < hb3w.heap.size := by omega)); (try (have : bZ < hb3w.heap.size := by omega))))
        go_roundg (n - (k + 1))
        case measure => omega
        case rel => exact ⟨k + 1, ⟨hb3w, bw⟩, by go_num, by omega, by omega, rfl, HG2⟩
      ·
       have hr' : ((row.length : Int) == (Y.length : Int)) = false := by simp; omega
       have hr2 : ¬ (row.length : Int) = (Y.length : Int) := by omega
       have H := H! (HB.out (fun h => hrl h.1))
       clear hrl
       go_wp2
       go_ret
       exact ⟨by rw [H.out]; first | done | rfl, bw⟩
     ·
      obtain rfl : k = n := by omega
      have H := H! (HT.out (fun t ht => HP.out t (by have := HN.out; omega)))
      go_wp2
      go_ret
      exact ⟨by rw [H.out]; first | done | rfl, bw⟩
   ·
    have hl' : ((Z.length : Int) == (X.length : Int)) = false := by simp; omega
    have hl2 : ¬ (Z.length : Int) = (X.length : Int) := by omega
    have H := H! (mapB_false.2 (fun h : MapOk X Y Z => hl h.2.2.1))
    clear hX hY hZ hl
    go_enter Try.func64, Try.ntmps64
    go_wp2_with ((go_at_call 101; refine (saxis_any _ _ _ _ (by first | exact HX.out _ bw | exact HY.out _ bw)).mono ?_; rintro e hb1w ⟨rfl, hb1⟩; obtain ⟨hb1c, hb1f⟩ := bcell hb1; have hb1s := hb1.size; (try simp only [zA] at hb1s); (try (have : w.heap.size < hb1w.heap.size := by omega)); (try (have : w.heap.size + 1 < hb1w.heap.size := by omega)); (try (have : w.heap.size + 1 + 1 < hb1w.heap.size := by omega)); (try (have : w.heap.size + 1 + 1 + 1 < hb1w.heap.size := by omega)); (try (have : bX < hb1w.heap.size := by omega)); (try (have : bY < hb1w.heap.size := by omega)); (try (have : bZ < hb1w.heap.size := by omega))))
    go_ret
    exact ⟨by rw [H.out]; first | done | rfl, bw⟩
end Go.Proofs.Ytfooefiaenlhmaa
