/- Lemmas for the laws of package magnetolaw15: General lemmas: regions of open order whose calls make memory, and what they leave of the world. No statement about the program. The frame of a law: a call that returns true, and leaves all that was there as it was, meets the law's row. What a value that came in reads as: integers, slices of integers, structs cell by cell. A slice of numbers of any kind that a call made itself: what it owns, and append's step of numbers and of slices. No statement about the program. Sums of bytes; the image package's and the reference's Sum; words and bytes. bytes.Equal and slices.Equal of words. slices.Equal of words; the package's and the reference's Bytes. Chunks of four bytes: the library's iterator. Words of bytes: the package's Words. Words of bytes: the reference's Words. The writer of the package: a number is appended in eight bytes. The writer of the package: a list is appended. A body with its sum and zero bytes. slices.Grow and slices.Concat of two lists, of numbers and of bytes. The smallest program: it is valid, and its image. -/
import Derived.Test.YtfooefiaenlhmaaRows
import Derived.Handy
import Derived.BigQuiet
import Derived.Deep.QuietTactic
import Derived.Deep.DeepFit
import Derived.Outline
import Derived.Lib.Hide
import Derived.Lib.SmallJoins
import Derived.OpenShut
import Derived.Carry
import Derived.ChangeOld
import Derived.ShutString
import Derived.WalkLawsBesides
import Derived.Deep.AppendLies
import Derived.OwnWalk
import Derived.Maps.AppendAt
import Derived.Laws.Cover3
import Derived.Lib.AppendZeros
import Derived.Deep.LoopGhost
import Derived.Shelf.Abstract
import Derived.Laws.BytesArg
import Derived.Deep.RegionHeld3
import Derived.RangeFuncNested
import Derived.RangeFuncBound
import Derived.RangeFuncCalls
import Derived.RangeFuncLeaves
import Derived.RangeFuncBox
import Derived.Shelf.RegionOpen
import Derived.WalkKit
import Derived.OwnWalkIn
import Derived.TacticsInMore
import Derived.LoopNIn
import Derived.LoopIn
import Derived.Laws.BitsAllLaws
import Derived.Laws.OwnMore
import Derived.StillTailTactics
import Derived.Deep.RegionLaw
import Derived.IntWalk
namespace Go.Proofs.Ytfooefiaenlhmaa
set_option linter.unusedVariables false
set_option linter.unusedSimpArgs false
open Go.RowKit Go.ChangeShapes Go.WideShapes Go.ChangeAt

/-- A world in which all that lay in W lies as it did. -/
structure Later (W : World) where
  w : World
  h : Below W.heap.size W w

instance Later.some (W : World) : Nonempty (Later W) := ⟨⟨W, Below.refl _ _⟩⟩

@[go_sem] theorem Later.cell {W : World} (e : Later W) {b o : Nat} (hb : b < W.heap.size) : e.w.cell? ⟨b, o, none⟩ = W.cell? ⟨b, o, none⟩ :=
  e.h.cell (p := ⟨b, o, none⟩) hb
@[go_sem] theorem Later.frozen {W : World} (e : Later W) {b o : Nat} (hb : b < W.heap.size) : e.w.frozen? ⟨b, o, none⟩ = W.frozen? ⟨b, o, none⟩ :=
  e.h.frozen (p := ⟨b, o, none⟩) hb

theorem Later.next {W : World} (e : Later W) {w' : World} (h : Below e.w.heap.size e.w w') : ∃ e' : Later W, w' = e'.w :=
  ⟨⟨w', e.h.trans (h.mono e.h.size)⟩, rfl⟩

theorem bcell {W w1 : World} (hb : Below W.heap.size W w1) : (∀ b o, b < W.heap.size → w1.cell? ⟨b, o, none⟩ = W.cell? ⟨b, o, none⟩) ∧ (∀ b o, b < W.heap.size → w1.frozen? ⟨b, o, none⟩ = W.frozen? ⟨b, o, none⟩) :=
  ⟨fun b o h => hb.cell (p := ⟨b, o, none⟩) h, fun b o h => hb.frozen (p := ⟨b, o, none⟩) h⟩
theorem below_step {w w1 w2 : World} (hb : Below w1.heap.size w1 w2) (h : Below w.heap.size w w1) : Below w.heap.size w w2 := h.trans (hb.mono h.size)
theorem below_alloc {w w1 : World} (h : Below w.heap.size w w1) (o : Obj) : Below w.heap.size w (w1.alloc o) := h.alloc h.size o
theorem below_drewN {B : Nat} {w w1 : World} (h : Below B w w1) (n : Nat) : Below B w (w1.drewN n) := ⟨h.os, h.tape, h.output, h.size, h.block⟩
theorem below_later {w w1 : World} (h : Below w.heap.size w w1) (e : Later w1) : Below w.heap.size w e.w := below_step e.h h
theorem ret_int {k : IntKind} {a b : Int} (h : a = b) : Ending.returned (.int k a) = .returned (.int k b) := by rw [h]
theorem ret_bool {a b : Bool} (h : a = b) : Ending.returned (.bool a) = .returned (.bool b) := by rw [h]

end Go.Proofs.Ytfooefiaenlhmaa
namespace Go.Proofs.Ytfooefiaenlhmaa
set_option linter.unusedVariables false
set_option linter.unusedSimpArgs false
open Go.RowKit Go.ChangeShapes Go.WideShapes Go.ChangeAt

theorem own : ownKnob Try.prog.godebug = none := by kernel_rfl
theorem laidOut : laidOutB Try.prog = true := by kernel_rfl

theorem trodAll_len {H : Type} {enc : TypeId × Value → H} {P : Program} {w : World} {b : Nat} {sp : Nat → Bool} {hd : Bool} :
    ∀ (ts : List TypeId) (vs : List Value) (ds : List (DataW H)) (ps : List MemPlace), DataW.TrodAll enc P w b sp hd ts vs ds ps → ds.length = ts.length ∧ vs.length = ts.length
  | [], [], [], _, _ => ⟨rfl, rfl⟩
  | _ :: ts, _ :: vs, _ :: ds, _, ⟨_, q, _, h, _⟩ => by
    have := trodAll_len ts vs ds q h
    simp [this.1, this.2]
  | [], _ :: _, _, _, h => by simp [DataW.TrodAll] at h
  | [], [], _ :: _, _, h => by simp [DataW.TrodAll] at h
  | _ :: _, [], _, _, h => by simp [DataW.TrodAll] at h
  | _ :: _, _ :: _, [], _, h => by simp [DataW.TrodAll] at h

theorem trodAll_below {H : Type} {enc : TypeId × Value → H} {W W' : World} (hb : Below W.heap.size W W') :
    ∀ (ts : List TypeId) (vs : List Value) (ds : List (DataW H)) (ps : List MemPlace), (∀ t ∈ ts, Try.prog.readableRec t = true ∧ t < Try.prog.types.size) →
      DataW.TrodAll enc Try.prog W 0 (fun _ => true) true ts vs ds ps → (∀ x ∈ ps, x.block < W.heap.size) → DataW.TrodAll enc Try.prog W' 0 (fun b => decide (b < W.heap.size)) true ts vs ds ps
  | [], [], [], _, _, h, _ => h
  | t :: ts, v :: vs, d :: ds, _, hr, ⟨p, q, h1, h2, e⟩, hlt => by
    subst e
    exact ⟨p, q, Below.trod laidOut (hr t (by simp)).1 (hr t (by simp)).2 h1 hb (fun x hx => hlt x (List.mem_append_left _ hx)),
      trodAll_below hb ts vs ds q (fun t ht => hr t (List.mem_cons_of_mem _ ht)) h2 (fun x hx => hlt x (List.mem_append_right _ hx)), rfl⟩
  | [], _ :: _, _, _, _, h, _ => by simp [DataW.TrodAll] at h
  | [], [], _ :: _, _, _, h, _ => by simp [DataW.TrodAll] at h
  | _ :: _, [], _, _, _, h, _ => by simp [DataW.TrodAll] at h
  | _ :: _, _ :: _, [], _, _, h, _ => by simp [DataW.TrodAll] at h

set_option maxRecDepth 100000 in
theorem law_frame {H : Type} {enc : TypeId × Value → H} {os : Os} (started : os.Started) {k : FuncId} {fn : Func} {s : ChangeSpec} {conds : List PathCond}
    (hfn : Try.prog.funcs[k]? = some fn) (noInit : Try.prog.inits.idxOf? k = none) (hv : s.vars = []) (t : TypeId) (hrt : fn.resultTypes = #[t]) (ht : Try.prog.underlying t = some .bool)
    (hpar : ∀ t ∈ fn.params.toList, Try.prog.readableRec t = true ∧ t < Try.prog.types.size)
    (hs : ∀ ds : List (DataW H), ds.length = fn.params.toList.length → s.fn H (ds ++ []) = { results := [.lit (.bool true)], args := ds })
    (witness : ∃ (w : World) (tape : Tape) (i : Input), w.os = os ∧ (w.forCall tape i).Shaped Try.prog ∧ i.vars = [] ∧ Input.okWide Try.prog (w.forCall tape i) .any w.heap.size k i ∧
      s.pre6 enc Try.prog fn conds false (w.forCall tape i).memory i.args ∧ ({ modest := false } : Assume).holds Try.prog (lone (Frame.enter Try.prog k i.args .normal) [] (w.forCall tape i)))
    (hcall : ∀ (W : World) (base : Nat) (args : Array Value) (ds : List (DataW H)) (p : List MemPlace),
      (∀ (j : Nat) t v, fn.params[j]? = some t → args[j]? = some v → Value.okWide Try.prog W .any base t v) →
      DataW.TrodAll enc Try.prog W 0 (fun _ => true) true fn.params.toList args.toList ds p →
      (∀ x ∈ p, x.block < W.heap.size) →
      Calls Try.prog k args W fun e w' => e = .returned (.bool true) ∧ Below W.heap.size W w') :
    ReturnsInHanded {} Try.checked os k .any (s.pre6 enc Try.prog fn conds false) (s.post enc Try.prog fn false true false false) := by
  refine returnsInHanded_of_change (C := Try.checked) own started noInit hfn witness ?_
  intro W base args ds gs before hval hW _ _
  have hW' := hW
  obtain ⟨p, q, hA, hV, hpq, _, _⟩ := hW
  rw [hv] at hV
  obtain ⟨rfl, rfl⟩ := trodVars_none hV
  rw [List.append_nil] at hpq
  subst hpq
  have hlt := hW'.lt
  refine (hcall W base args ds before hval hA hlt).mono fun e W' ⟨he, hb⟩ => ?_
  subst he
  refine ⟨_, rfl, ds, [], before, [], before, [], hW', ?_, ?_, ?_, hb.frame _, fun h => by cases h⟩
  · rw [hs ds (trodAll_len _ _ _ _ hA).1, hrt]
    exact trodAll_mk1 (shut_bool ht true)
  · rw [hs ds (trodAll_len _ _ _ _ hA).1]
    exact trodAll_below hb _ _ _ _ hpar hA hlt
  · rw [hs ds (trodAll_len _ _ _ _ hA).1, hv]
    exact rfl

end Go.Proofs.Ytfooefiaenlhmaa
namespace Go.Proofs.Ytfooefiaenlhmaa
set_option linter.unusedVariables false
set_option linter.unusedSimpArgs false
open Go.RowKit Go.ChangeShapes Go.WideShapes Go.ChangeAt

def Rd (P : Program) (W : World) (t : TypeId) (cs : List Value) : Prop :=
  ∃ (H : Type) (enc : TypeId × Value → H) (fuel : Nat) (y : DataW H × List MemPlace), DataW.trod enc P W 0 (fun _ => true) true fuel t cs = some y
/-- An int of Go. -/
def I64 (a : Int) : Prop := (Lit.int .i64 a).wf = true
theorem I64.bd {a : Int} (h : I64 a) : -9223372036854775808 ≤ a ∧ a ≤ 9223372036854775807 := by
  unfold I64 at h
  simpa [Lit.wf, IntKind.min, IntKind.max, IntKind.bits, IntKind.signed] using h
/-- A slice of integers that came in: its numbers. -/
structure IsInts (W : World) (r : Option Addr) (cap : Nat) (k : IntKind) (xs : List Int) : Prop where
  le : xs.length ≤ cap
  max : cap ≤ maxLen
  wf : ∀ x ∈ xs, (Lit.int k x).wf = true
  cells : xs ≠ [] → ∃ b off, r = some ⟨b, off, none⟩ ∧ b < W.heap.size ∧ ∀ i, i < xs.length → W.cell? ⟨b, off + i, none⟩ = some (.int k (xs.getD i 0))

theorem rd_of {H : Type} {enc : TypeId × Value → H} {P : Program} {W : World} {t : TypeId} {v : Value} {d : DataW H} {ps : List MemPlace} (h : DataW.Trod enc P W 0 (fun _ => true) true t v d ps) : Rd P W t v.cells.toList := by
  obtain ⟨fuel, hf⟩ := h
  exact ⟨H, enc, fuel, _, hf⟩
theorem rd_int {P : Program} {W : World} {t : TypeId} {k : IntKind} {cs : List Value} (ht : P.underlying t = some (.int k)) (h : Rd P W t cs) : ∃ n, cs = [.int k n] ∧ (Lit.int k n).wf = true := by
  obtain ⟨H, enc, fuel, y, hf⟩ := h
  obtain ⟨n, h1, _, h3⟩ := DataW.trod_int ht hf
  exact ⟨n, h1, h3⟩
theorem rd_bool {P : Program} {W : World} {t : TypeId} {cs : List Value} (ht : P.underlying t = some .bool) (h : Rd P W t cs) : ∃ b, cs = [.bool b] := by
  obtain ⟨H, enc, fuel, y, hf⟩ := h
  cases fuel with
  | zero => simp [DataW.trod] at hf
  | succ n =>
    unfold DataW.trod at hf
    rw [ht] at hf
    split at hf <;> simp_all
theorem rd_struct {P : Program} {W : World} {t : TypeId} {fs : Array Field} {cs : List Value} (ht : P.underlying t = some (.struct fs)) (h : Rd P W t cs) :
    cs.length = P.cellsOf t ∧ ∀ (i : Nat) (f : Field), fs[i]? = some f → Rd P W f.type ((cs.drop f.offset).take (P.cellsOf f.type)) := by
  obtain ⟨H, enc, fuel, y, hf⟩ := h
  obtain ⟨xs, n, _, _, hl, hx, hi⟩ := DataW.trod_struct ht hf
  refine ⟨hl, fun i f hif => ?_⟩
  have hlt : i < xs.length := by
    rw [hx]
    exact (Array.getElem?_eq_some_iff.1 hif).1
  have := hi i f hif
  rw [List.getElem?_eq_getElem hlt] at this
  exact ⟨H, enc, n, _, this⟩
theorem rd_ints {P : Program} {W : World} {t e : TypeId} {k : IntKind} {cs : List Value} (ht : P.underlying t = some (.slice e)) (he : P.underlying e = some (.int k)) (hc : P.cellsOf e = 1) (h : Rd P W t cs) :
    ∃ (r : Option Addr) (cap : Nat) (xs : List Int), cs = [.slice r xs.length cap] ∧ IsInts W r cap k xs := by
  obtain ⟨H, enc, fuel, y, hf⟩ := h
  rcases open_ints ht he hc hf with ⟨rfl, _⟩ | ⟨a, len, cap, zs, rfl, _, hl, hm, hz, _, hcell, hw⟩
  · exact ⟨none, 0, [], rfl, ⟨Nat.le_refl _, Nat.zero_le _, by simp, fun h => absurd rfl h⟩⟩
  · simp only [if_true] at hz
    have hlen : (zs.take len).length = len := by rw [List.length_take]; omega
    refine ⟨some a, cap, zs.take len, by rw [hlen], ⟨by omega, hm, fun x hx => hw x (List.mem_of_mem_take hx), fun hne => ?_⟩⟩
    have h0 : 0 < len := by
      rcases Nat.eq_zero_or_pos len with h | h
      · subst h; simp at hne
      · exact h
    obtain ⟨b, off, spot⟩ := a
    have hc0 := hcell 0 (by omega)
    have hspot : spot = none := by simpa [Addr.add] using World.cell?_spot hc0
    subst hspot
    have hb := World.block_lt_of_cell? _ _ hc0
    refine ⟨b, off, rfl, by simpa [Addr.add] using hb, fun i hi => ?_⟩
    have := hcell i (by omega)
    have hg : (zs.take len).getD i 0 = zs.getD i 0 := by
      rw [hlen] at hi
      simp [List.getD, List.getElem?_take, hi]
    rw [hg, ← this]
    by_cases hi0 : i = 0
    · subst hi0; simp [Addr.add]
    · simp [Addr.add, hi0]
theorem arg_agg {H : Type} {enc : TypeId × Value → H} {P : Program} {W : World} {b : Nat} {t : TypeId} {fs : Array Field} {v : Value} {d : DataW H} {ps : List MemPlace} (ht : P.underlying t = some (.struct fs)) (hv : Value.okWide P W .any b t v)
    (h : DataW.Trod enc P W 0 (fun _ => true) true t v d ps) : ∃ cs : List Value, v = .agg cs.toArray ∧ Rd P W t cs := by
  obtain ⟨cs, rfl, _⟩ := okWide_struct ht hv
  have := rd_of h
  exact ⟨cs.toList, by simp, by simpa [Value.cells] using this⟩
theorem arg_slice {H : Type} {enc : TypeId × Value → H} {P : Program} {W : World} {b : Nat} {t e : TypeId} {v : Value} {d : DataW H} {ps : List MemPlace} (ht : P.underlying t = some (.slice e)) (hv : Value.okWide P W .any b t v)
    (h : DataW.Trod enc P W 0 (fun _ => true) true t v d ps) : Rd P W t [v] := by
  obtain ⟨a, l, c, rfl⟩ := okWide_slice ht hv
  have := rd_of h
  simpa [Value.cells] using this
theorem len_succ {n : Nat} {l : List Value} (h : l.length = n + 1) : ∃ a t, l = a :: t ∧ t.length = n := by
  cases l with
  | nil => simp at h
  | cons a t => exact ⟨a, t, rfl, by simpa using h⟩
/-- The numbers of a slice are there in a later world, too. -/
theorem IsInts.later {W W' : World} {r : Option Addr} {cap : Nat} {k : IntKind} {xs : List Int} (h : IsInts W r cap k xs) (hb : Below W.heap.size W W') : IsInts W' r cap k xs :=
  ⟨h.le, h.max, h.wf, fun hne => by
    obtain ⟨b, off, h1, h2, h3⟩ := h.cells hne
    exact ⟨b, off, h1, Nat.lt_of_lt_of_le h2 hb.size, fun i hi => by rw [hb.cell (p := ⟨b, off + i, none⟩) h2]; exact h3 i hi⟩⟩

end Go.Proofs.Ytfooefiaenlhmaa
namespace Go.Proofs.Ytfooefiaenlhmaa
set_option linter.unusedVariables false
set_option linter.unusedSimpArgs false
open Go.RowKit Go.ChangeShapes Go.WideShapes Go.ChangeAt

/-- The slice r of xs.length numbers of kind k owns xs, in blocks from 'base' on. -/
def OwnK (k : IntKind) (te : TypeId) (W : World) (base : Nat) (r : Option Addr) (cap : Nat) (xs : List Int) : Prop := W.ownsRow base te 1 (.slice r xs.length cap) xs.length (xs.map (Value.int k))
section
variable {k : IntKind} {te : TypeId}
theorem OwnK.nil (W : World) (base : Nat) : OwnK k te W base none 0 [] := World.ownsRow_nil _ _ _ _
theorem OwnK.lt {W : World} {base : Nat} {r : Option Addr} {cap : Nat} {xs : List Int} (h : OwnK k te W base r cap xs) : ∀ a, r = some a → base ≤ a.block ∧ a.block < W.heap.size := fun a ha => by
  subst ha
  exact World.ownsRow.lt h a.block rfl
theorem OwnK.below {W W' : World} {base B : Nat} {r : Option Addr} {cap : Nat} {xs : List Int} (h : OwnK k te W base r cap xs) (hb : Below B W W') (hB : W.heap.size ≤ B) : OwnK k te W' base r cap xs := by
  refine ⟨h.1, ?_⟩
  rcases h.2 with ⟨h1, h2⟩ | ⟨g, c, cur, h1, h2, h3, h4⟩
  · exact Or.inl ⟨h1, h2⟩
  · refine Or.inr ⟨g, c, cur, h1, h2, ?_, h4⟩
    rw [hb.block g ?_]
    · exact h3
    · rcases Nat.lt_or_ge g W.heap.size with hlt | hge
      · omega
      · rw [Array.getElem?_eq_none hge] at h3; cases h3
/-- A store to a block that is not the slice's. -/
theorem OwnK.set {W : World} {base : Nat} {r : Option Addr} {cap : Nat} {xs : List Int} (h : OwnK k te W base r cap xs) {a : Addr} (ha : a.block < base) (u : Value) : OwnK k te (W.setCell a u) base r cap xs := ownsRow_setCell_below h ha u
theorem OwnK.base {W : World} {base base' : Nat} {r : Option Addr} {cap : Nat} {xs : List Int} (h : OwnK k te W base r cap xs) (hb : base' ≤ base) : OwnK k te W base' r cap xs := by
  refine ⟨h.1, ?_⟩
  rcases h.2 with h1 | ⟨g, c, cur, h1, h2, h3⟩
  · exact Or.inl h1
  · exact Or.inr ⟨g, c, cur, h1, by omega, h3⟩
theorem OwnK.ints {W : World} {base : Nat} {r : Option Addr} {cap : Nat} {xs : List Int} (h : OwnK k te W base r cap xs) (hw : ∀ x ∈ xs, (Lit.int k x).wf = true) : IsInts W r cap k xs := by
  obtain ⟨h0, h2⟩ := h
  rcases h2 with ⟨h1, h3⟩ | ⟨g, c, cur, h1, h3, h4, h5, h6, h7, h8⟩
  · obtain rfl : xs = [] := List.length_eq_zero_iff.1 h3
    simp only [Value.slice.injEq] at h1
    obtain ⟨rfl, _, rfl⟩ := h1
    exact ⟨Nat.le_refl _, Nat.zero_le _, by simp, fun h => absurd rfl h⟩
  · simp only [Value.slice.injEq] at h1
    obtain ⟨rfl, _, rfl⟩ := h1
    have hlt : g < W.heap.size := by
      rcases Nat.lt_or_ge g W.heap.size with hlt | hge
      · exact hlt
      · rw [Array.getElem?_eq_none hge] at h4; cases h4
    refine ⟨h5, h6, hw, fun _ => ⟨g, 0, rfl, hlt, fun i hi => ?_⟩⟩
    have := World.ownsRow.cellAt (w := W) (base := base) (e := te) (size := 1) (g := g) (n := xs.length) (cap := cap) (xs := xs.map (Value.int k)) ⟨h0, Or.inr ⟨g, cap, cur, rfl, h3, h4, h5, h6, h7, h8⟩⟩ i (by omega)
    rw [Nat.zero_add, this]
    simp [List.getElem?_map, List.getD, List.getElem?_eq_getElem hi]
theorem OwnK.le {W : World} {base : Nat} {r : Option Addr} {cap : Nat} {xs : List Int} (h : OwnK k te W base r cap xs) : xs.length ≤ cap := by
  rcases h.2 with ⟨h1, h3⟩ | ⟨g, c, cur, h1, h3, h4, h5, h6, h7, h8⟩
  · omega
  · simp only [Value.slice.injEq] at h1
    omega
/-- Numbers written out are appended. -/
theorem wpList_append_k {ts : TypeId} {z : Value} {by' : Nat} (hts : Try.prog.underlying ts = some (.slice te)) (hinf : (Try.prog.info? te).map (fun i => (i.zero, i.size, i.bytes)) = some (some z, 1, by')) (hzs : z.cells.size = 1) (hby : by' ≤ 8)
    {ops : Array Oper} {rest : List Oper} {o : Oper} {a : Act} {Q : Exit → Act → World → Prop} {w : World} (hgd : o.guard = none) (s x : Operand)
    (ho : o.op = .call { callee := .builtin .append, args := #[s, x], argTypes := #[ts, ts] }) (w0 : World) (base : Nat) (r : Option Addr) (cap : Nat) (xs ps : List Int) (n : Nat) (hn : ps.length = n) (hn0 : 0 < n)
    (hw : w = w0.alloc (.cells (ps.map (Value.int k)).toArray te)) (hs : a.eval s = .slice r xs.length cap) (hx : a.eval x = .slice (some ⟨w0.heap.size, 0, none⟩) n n)
    (hown : OwnK k te w0 base r cap xs) (hl : xs.length + n ≤ 1099511627776) (hb : base ≤ w0.heap.size)
    (h : ∀ r' cap' w', OwnK k te w' base r' cap' (xs ++ ps) → Below base w0 w' → wpList Try.prog ops Q rest (a.put o.dst (.slice r' (xs.length + n) cap')) w') : wpList Try.prog ops Q (o :: rest) a w := by
  subst hw
  subst hn
  obtain ⟨i0, hi, hz0, hz1, hz2⟩ := info_parts hinf
  have hown2 : (w0.alloc (.cells (ps.map (Value.int k)).toArray te)).ownsRow base te 1 (.slice r xs.length cap) xs.length (xs.map (Value.int k)) := World.ownsRow.alloc hown _
  refine wpList_append_lies (w0.alloc (.cells (ps.map (Value.int k)).toArray te)) hgd s x ts ho base te i0 z 1 by' hts hi hz0 hz1 hz2 hzs (by omega) _ xs.length (xs.map (Value.int k)) hs hown2 ⟨w0.heap.size, 0, none⟩ ps.length ps.length (ps.map (Value.int k)) hx (by simp) ?_ (ints_oneCell k ps) hn0 ?_ ?_ (by simp; omega) _ rfl ?_
  · intro j u hj
    have : (⟨w0.heap.size, 0, none⟩ : Addr).add j = ⟨w0.heap.size, j, none⟩ := by
      by_cases hj0 : j = 0
      · subst hj0; simp [Addr.add]
      · simp [Addr.add, hj0]
    rw [this, World.cell?_alloc_new]
    simpa using hj
  · unfold maxLen; omega
  · have : (xs.length + ps.length) * by' ≤ 1099511627776 * 8 := Nat.mul_le_mul (by omega) hby
    omega
  · intro g cap' w1 hown' hgrow _ _
    refine h _ _ _ ?_ ?_
    · unfold OwnK
      rw [List.length_append, List.map_append]
      exact hown'
    · exact ((Below.refl base w0).alloc hb _).grown hgrow (by simp only [World.size_alloc]; omega) (fun k hk => (World.ownsRow.lt hown2 k hk).1)
theorem run_append_noneK {t e : TypeId} (ty : TypeId) (i : TypeInfo) (ht : Try.prog.underlying t = some (.slice e)) (hi : Try.prog.info? e = some i) (w : World) (r : Option Addr) (len cap c : Nat) (hl : len ≤ cap) :
    (Builtin.append_ #[t, t] ty #[.slice r len cap, .slice none 0 c]).run Try.prog w = .ok (.slice r len cap) w := by
  cases r <;> simp [Builtin.append_, run_underlying ht, sizeOf, typeInfo, hi, Builtin.lenOf, hl, Builtin.firstCells, storeCells]
/-- A slice is appended. -/
theorem wpList_append_ks {ts : TypeId} {z : Value} {by' : Nat} (hts : Try.prog.underlying ts = some (.slice te)) (hinf : (Try.prog.info? te).map (fun i => (i.zero, i.size, i.bytes)) = some (some z, 1, by')) (hzs : z.cells.size = 1) (hby : by' ≤ 8)
    {ops : Array Oper} {rest : List Oper} {o : Oper} {a : Act} {Q : Exit → Act → World → Prop} {w : World} (hgd : o.guard = none) (s x : Operand)
    (ho : o.op = .call { callee := .builtin .append, args := #[s, x], argTypes := #[ts, ts] }) (base : Nat) (r r2 : Option Addr) (cap c2 : Nat) (xs ys : List Int)
    (hs : a.eval s = .slice r xs.length cap) (hx : a.eval x = .slice r2 ys.length c2) (hown : OwnK k te w base r cap xs) (hys : IsInts w r2 c2 k ys) (hl : xs.length + ys.length ≤ 1099511627776) (hb : base ≤ w.heap.size)
    (h : ∀ r' cap' w', OwnK k te w' base r' cap' (xs ++ ys) → Below base w w' → wpList Try.prog ops Q rest (a.put o.dst (.slice r' (xs ++ ys).length cap')) w') : wpList Try.prog ops Q (o :: rest) a w := by
  obtain ⟨i0, hi, hz0, hz1, hz2⟩ := info_parts hinf
  cases r2 with
  | none =>
    have hy : ys = [] := by
      rcases Classical.em (ys = []) with h | h
      · exact h
      · obtain ⟨b, off, h1, _⟩ := hys.cells h
        cases h1
    subst hy
    refine Lib.wpList_append_run w hgd s x _ _ ho _ _ hs hx _ w (run_append_noneK o.type i0 hts hi w r xs.length cap c2 hown.le) ?_
    have := h r cap w (by rw [List.append_nil]; exact hown) (Below.refl _ _)
    rwa [List.append_nil] at this
  | some ad =>
    refine wpList_append_own_at w hgd s x ts ho base te i0 z 1 by' hts hi hz0 hz1 hz2 hzs (by omega) _ xs.length (xs.map (Value.int k)) hs hown ad ys.length c2 (ys.map (Value.int k)) hx (by simp) ?_ (ints_oneCell k ys) (by unfold maxLen; omega) (by have : (xs.length + ys.length) * by' ≤ 1099511627776 * 8 := Nat.mul_le_mul (by omega) hby; omega) hb ?_
    · intro j u hj
      have hj2 : j < ys.length := by
        rcases Nat.lt_or_ge j ys.length with h | h
        · exact h
        · rw [List.getElem?_eq_none (by simpa using h)] at hj; cases hj
      obtain ⟨b, off, h1, h2, h3⟩ := hys.cells (fun e => by subst e; simp at hj2)
      simp only [Option.some.injEq] at h1
      subst h1
      have h4 := h3 j hj2
      have h5 : (Addr.add ⟨b, off, none⟩ j : Addr) = ⟨b, off + j, none⟩ := by
        by_cases h0 : j = 0
        · subst h0; simp [Addr.add]
        · simp [Addr.add, h0]
      rw [h5, h4, ← hj]
      simp [List.getD, List.getElem?_eq_getElem hj2]
    · intro v' w1 hown1 hgrow _ _
      have hB : Below base w w1 := (Below.refl base w).grown hgrow hb (fun k hk => (World.ownsRow.lt hown k hk).1)
      have hlen : (xs ++ ys).length = xs.length + ys.length := by simp
      rw [← List.map_append] at hown1
      obtain ⟨r', cap', rfl⟩ : ∃ r' cap', v' = .slice r' (xs ++ ys).length cap' := by
        rcases hown1.2 with ⟨h1, h3⟩ | ⟨g, c, cur, h1, _⟩
        · exact ⟨none, 0, by rw [h1, hlen, h3]⟩
        · exact ⟨_, _, by rw [h1, hlen]⟩
      refine h r' cap' w1 ?_ hB
      unfold OwnK
      rw [hlen] at hown1 ⊢
      exact hown1
end
theorem infoU8 : (Try.prog.info? 5).map (fun i => (i.zero, i.size, i.bytes)) = some (some (.int .u8 0), 1, 1) := by kernel_rfl
theorem infoU32 : (Try.prog.info? 35).map (fun i => (i.zero, i.size, i.bytes)) = some (some (.int .u32 0), 1, 4) := by kernel_rfl
theorem run_eqlN {t e : TypeId} (h : Try.prog.underlying t = some (.slice e)) (a : Option Addr) (l c : Nat) (w : World) : (binOp .eql t (.slice a l c) (.slice none 0 0)).run Try.prog w = .ok (.bool a.isNone) w := by
  simp [binOp, run_equal_slice_nil w t e a l c h]
end Go.Proofs.Ytfooefiaenlhmaa
namespace Go.Proofs.Ytfooefiaenlhmaa
set_option linter.unusedVariables false
set_option linter.unusedSimpArgs false
open Go.RowKit Go.ChangeShapes Go.WideShapes Go.ChangeAt

/-- A step of the sum. -/
def sumS (s c : Int) : Int := (16777619 * s + c) % 4294967296
def sumF (s : Int) (bs : List Int) : Int := bs.foldl sumS s
def sumB (bs : List Int) : Int := sumF 1 bs
theorem sumF_bd {s : Int} (h : 0 ≤ s ∧ s < 4294967296) (bs : List Int) : 0 ≤ sumF s bs ∧ sumF s bs < 4294967296 := by
  induction bs generalizing s with
  | nil => exact h
  | cons c bs ih => exact ih ⟨by unfold sumS; omega, by unfold sumS; omega⟩
theorem sumF_take {bs : List Int} {k : Nat} (hk : k < bs.length) (s : Int) : sumF s (bs.take (k + 1)) = sumS (sumF s (bs.take k)) (bs.getD k 0) := by
  rw [List.take_add_one, List.getElem?_eq_getElem hk]
  unfold sumF
  rw [List.foldl_append]
  simp [List.getD, List.getElem?_eq_getElem hk]
theorem wf_u8 {x : Int} (h : (Lit.int .u8 x).wf = true) : 0 ≤ x ∧ x ≤ 255 := by simpa [Lit.wf, IntKind.min, IntKind.max, IntKind.bits, IntKind.signed] using h
theorem wf_u32 {x : Int} (h : (Lit.int .u32 x).wf = true) : 0 ≤ x ∧ x ≤ 4294967295 := by simpa [Lit.wf, IntKind.min, IntKind.max, IntKind.bits, IntKind.signed] using h
theorem u8_wf {x : Int} (h0 : 0 ≤ x) (h1 : x ≤ 255) : (Lit.int .u8 x).wf = true := by simp [Lit.wf, IntKind.min, IntKind.max, IntKind.bits, IntKind.signed]; omega
theorem u32_wf {x : Int} (h0 : 0 ≤ x) (h1 : x ≤ 4294967295) : (Lit.int .u32 x).wf = true := by simp [Lit.wf, IntKind.min, IntKind.max, IntKind.bits, IntKind.signed]; omega
theorem ret_u32 {a b : Int} (h : a = b) : Ending.returned (.int .u32 a) = .returned (.int .u32 b) := by rw [h]
theorem getD_mem' {xs : List Int} {k : Nat} (hk : k < xs.length) : xs.getD k 0 ∈ xs := by
  simp [List.getD, List.getElem?_eq_getElem hk]
set_option maxHeartbeats 1000000 in
theorem isum_any (r : Option Addr) (cap : Nat) (bs : List Int) (w : World) (hx : IsInts w r cap .u8 bs) : Calls Try.prog 11 #[.slice r bs.length cap] w fun e w' => e = .returned (.int .u32 (sumB bs)) ∧ Below w.heap.size w w' := by
  by_cases hne : bs = []
  · subst hne
    clear hx
    have H : Hid (sumB [] = 1) := Lib.hid rfl
    go_enter Try.func11, Try.ntmps11
    go_wp2
    go_rounds 1
    go_ret
    exact ⟨ret_u32 H.out.symm, by (repeat' (first | (with_reducible exact Below.refl _ _) | (with_reducible assumption) | (with_reducible refine below_alloc ?_ _) | (with_reducible refine Below.drew ?_) | (with_reducible refine below_drewN ?_ _) | (with_reducible refine below_step (by assumption) ?_) | (with_reducible refine below_later ?_ _) | (with_reducible refine Below.setCell ?_ ?_ _) | go_size))⟩
  · obtain ⟨bX, off, rfl, hb, hc⟩ := hx.cells hne
    have hmax := Nat.le_trans hx.le hx.max
    unfold maxLen at hmax
    have HC := Lib.hid hc
    have HS : Hid (∀ k, k < bs.length → sumF 1 (bs.take (k + 1)) = sumS (sumF 1 (bs.take k)) (bs.getD k 0)) := Lib.hid (fun k hk => sumF_take hk 1)
    have HBD : Hid (∀ k, 0 ≤ sumF 1 (bs.take k) ∧ sumF 1 (bs.take k) < 4294967296) := Lib.hid (fun k => sumF_bd (by omega) _)
    have HW : Hid (∀ k, k < bs.length → 0 ≤ bs.getD k 0 ∧ bs.getD k 0 ≤ 255) := Lib.hid (fun k hk => wf_u8 (hx.wf _ (getD_mem' hk)))
    have HE : Hid (sumF 1 (bs.take bs.length) = sumB bs) := Lib.hid (by rw [List.take_length]; rfl)
    clear hc hx hne
    generalize sumB bs = res at *
    generalize hn : bs.length = n at *
    have HN := Lib.hid hn
    clear hn
    go_enter Try.func11, Try.ntmps11
    go_wp2
    go_loopg [3, 8] n (fun kx s3 s8 wr => ∃ (k : Nat) (e : Later w), s3 = .int .u32 (sumF 1 (bs.take k)) ∧ s8 = .int .i64 k ∧ k ≤ n ∧ n - k ≤ kx ∧ wr = e.w)
    case atStart => exact ⟨0, ⟨_, Below.refl _ _⟩, rfl, rfl, by omega, by omega, rfl⟩
    case round =>
      obtain ⟨k, e, rfl, rfl, hk, hkx, rfl⟩ := hrel
      by_cases hlt : k < n
      · have hk1 : (0 : Int) ≤ (k : Int) := by omega
        have hk2 : (k : Int) < n := by omega
        have hc1 : e.w.cell? ⟨bX, off + k, none⟩ = some (.int .u8 (bs.getD k 0)) := by
          rw [Later.cell e hb]; exact HC.out k hlt
        have HSK := Lib.hid (HS.out k hlt)
        have ⟨x0, x1⟩ := HW.out k hlt
        have ⟨s0, s1⟩ := HBD.out k
        generalize bs.getD k 0 = x at *
        generalize sumF 1 (bs.take k) = s at *
        go_wp2
        go_roundg (n - (k + 1))
        case measure => omega
        case rel => exact ⟨k + 1, e, by rw [HSK.out]; unfold sumS; first | (simp [IntKind.wrap_u32]; done) | (simp [IntKind.wrap_u32]; omega), by go_num, by omega, by omega, rfl⟩
      · obtain rfl : k = n := by omega
        have H := Lib.hid HE.out
        go_wp2
        go_ret
        exact ⟨ret_u32 H.out, by (repeat' (first | (with_reducible exact Below.refl _ _) | (with_reducible assumption) | (with_reducible refine below_alloc ?_ _) | (with_reducible refine Below.drew ?_) | (with_reducible refine below_drewN ?_ _) | (with_reducible refine below_step (by assumption) ?_) | (with_reducible refine below_later ?_ _) | (with_reducible refine Below.setCell ?_ ?_ _) | go_size))⟩
end Go.Proofs.Ytfooefiaenlhmaa
namespace Go.Proofs.Ytfooefiaenlhmaa
set_option linter.unusedVariables false
set_option linter.unusedSimpArgs false
open Go.RowKit Go.ChangeShapes Go.WideShapes Go.ChangeAt

def ByteL (xs : List Int) : Prop := ∀ x ∈ xs, 0 ≤ x ∧ x ≤ 255
theorem strOfNums_inj {xs ys : List Int} (hx : ByteL xs) (hy : ByteL ys) : strOfNums xs = strOfNums ys ↔ xs = ys := by
  constructor
  · intro h
    have h1 : (xs.map fun n => UInt8.ofNat n.toNat) = (ys.map fun n => UInt8.ofNat n.toNat) := by
      have := congrArg (fun b : ByteArray => b.data.toList) h
      simpa [strOfNums] using this
    have hl : xs.length = ys.length := by simpa using congrArg List.length h1
    apply List.ext_getElem hl
    intro i h2 h3
    have h4 := congrArg (fun l => l[i]?) h1
    simp [List.getElem?_map, h2, h3] at h4
    have a := hx _ (List.getElem_mem h2)
    have b := hy _ (List.getElem_mem h3)
    have h5 := congrArg UInt8.toNat h4
    simp only [UInt8.toNat_ofNat'] at h5
    omega
  · intro h
    rw [h]
theorem conv_bytes {W : World} {r : Option Addr} {c : Nat} {xs : List Int} (h : IsInts W r c .u8 xs) : (convert 29 9 (.slice r xs.length c)).run Try.prog W = .ok (.string (strOfNums xs)) W := by
  by_cases hne : xs = []
  · subst hne
    cases r with
    | none => exact run_convert_bytes_nil W _ _ Try.underlying29 Try.underlying5 _ _ _ Try.underlying9
    | some a =>
      have hl := run_loadCells_list (P := Try.prog) W a [] (by simp)
      show (convert 29 9 (.slice (some a) 0 c)).run Try.prog W = _
      rw [run_convert_bytes_string W _ _ _ _ _ _ Try.underlying29 Try.underlying5 Try.underlying9, run_bytesToString W a 0 c [] (by simpa using hl)]
      rfl
  · obtain ⟨b, off, rfl, hb, hc⟩ := h.cells hne
    exact run_convert_bytes_arg W _ _ Try.underlying29 Try.underlying5 b off xs.length c xs rfl (fun i hi => by
      have := hc i hi
      simpa [List.getD, List.getElem?_eq_getElem hi] using this) _ Try.underlying9
theorem bEq_any (r q : Option Addr) (c d : Nat) (xs ys : List Int) (w : World) (hx : IsInts w r c .u8 xs) (hy : IsInts w q d .u8 ys) :
    Calls Try.prog 14 #[.slice r xs.length c, .slice q ys.length d] w fun e w' => e = .returned (.bool (decide (xs = ys))) ∧ Below w.heap.size w w' := by
  have h1 := conv_bytes hx
  have h2 := conv_bytes hy
  have HS : Hid (((strOfNums xs).toList == (strOfNums ys).toList) = decide (xs = ys)) := Lib.hid (by
    have := strOfNums_inj (fun x h => wf_u8 (hx.wf x h)) (fun x h => wf_u8 (hy.wf x h))
    rw [ByteArray.toList_eq, ByteArray.toList_eq]
    by_cases h : xs = ys
    · simp [h]
    · have h3 : ¬ (strOfNums xs).data = (strOfNums ys).data := fun e2 => h (this.1 (by
        cases hs1 : strOfNums xs
        cases hs2 : strOfNums ys
        rw [hs1, hs2] at e2
        exact congrArg ByteArray.mk e2))
      simp [h, h3])
  clear hx hy
  generalize strOfNums xs = s1 at *
  generalize strOfNums ys = s2 at *
  go_enter Try.func14, Try.ntmps14
  go_wp2
  go_ret
  exact ⟨ret_bool HS.out, by (repeat' (first | (with_reducible exact Below.refl _ _) | (with_reducible assumption) | (with_reducible refine below_alloc ?_ _) | (with_reducible refine Below.drew ?_) | (with_reducible refine below_drewN ?_ _) | (with_reducible refine below_step (by assumption) ?_) | (with_reducible refine below_later ?_ _) | (with_reducible refine Below.setCell ?_ ?_ _) | go_size))⟩
end Go.Proofs.Ytfooefiaenlhmaa
namespace Go.Proofs.Ytfooefiaenlhmaa
set_option linter.unusedVariables false
set_option linter.unusedSimpArgs false
open Go.RowKit Go.ChangeShapes Go.WideShapes Go.ChangeAt

theorem getD_ext {xs ys : List Int} (hl : xs.length = ys.length) (h : ∀ t, t < xs.length → xs.getD t 0 = ys.getD t 0) : xs = ys := by
  refine List.ext_getElem hl (fun i h1 h2 => ?_)
  have := h i h1
  simpa [List.getD, List.getElem?_eq_getElem h1, List.getElem?_eq_getElem h2] using this

/-- One operation of a region of open order by a law on lists of operations. -/
theorem step_of_list {P : Program} {ops : Array Oper} {o : Oper} {a : Act} {w : World} {K : Act → World → Prop} {Q : Exit → Act → World → Prop}
    (h : wpList P ops (fun e a w => e = .normal ∧ K a w) [o] a w) : if Region.wanted o (yielded ops a.tmps) = true then Oper.wp P o a w K Q else K (a.put o.dst undef) w := by
  unfold wpList at h
  split
  · rename_i hw
    rw [if_pos hw] at h
    rcases h with h | ⟨_, _, _, h, _⟩
    · unfold Oper.wp at h ⊢
      generalize (execOp a.eval o).run P w = r at *
      cases r with
      | ok n w' =>
        cases n <;> simp only [Oper.upon, wpList] at h ⊢
        case value => exact h.2
        case skip => exact h.2
        case defer => exact h.2
        case enter =>
          refine Calls.mono h fun e w'' he => ?_
          cases e with
          | returned u => exact he.2
          | panicked c => cases he.1
          | outgrown => obtain ⟨_, _, h, _⟩ := he; cases h
        case row => exact Rows.mono h fun u w'' he => he.2
      | halt x w' =>
        cases x <;> simp only [Oper.upon] at h ⊢
        case panic u => cases h.1
    · cases h
  · rename_i hw
    rw [if_neg hw] at h
    exact h.2
/-- The bytes of a word. -/
def b4 (x : Int) : List Int := [x / 16777216, x / 65536 % 256, x / 256 % 256, x % 256]
def bytesW (ws : List Int) : List Int := ws.flatMap b4
theorem b4_len (x : Int) : (b4 x).length = 4 := rfl
theorem bytesW_take {ws : List Int} {k : Nat} (hk : k < ws.length) : bytesW (ws.take (k + 1)) = bytesW (ws.take k) ++ b4 (ws.getD k 0) := by
  rw [List.take_add_one, List.getElem?_eq_getElem hk]
  unfold bytesW
  rw [List.flatMap_append]
  simp [List.getD, List.getElem?_eq_getElem hk]
theorem bytesW_len (ws : List Int) : (bytesW ws).length = 4 * ws.length := by
  induction ws with
  | nil => rfl
  | cons x ws ih => simp only [bytesW, List.flatMap_cons, List.length_append, b4_len, List.length_cons] at ih ⊢; omega
theorem b4_wrap {x : Int} (h0 : 0 ≤ x) (h1 : x ≤ 4294967295) : [IntKind.u8.wrap (x / 16777216), IntKind.u8.wrap (x / 65536), IntKind.u8.wrap (x / 256), IntKind.u8.wrap x] = b4 x := by
  have e : ∀ y : Int, IntKind.u8.wrap y = y % 256 := fun y => by simp [IntKind.wrap, IntKind.signed, IntKind.bits]
  rw [e, e, e, e]
  unfold b4
  rw [Int.emod_eq_of_lt (a := x / 16777216) (by omega) (by omega)]
theorem b4_byte {x : Int} (h : 0 ≤ x ∧ x ≤ 4294967295) : ByteL (b4 x) := by
  intro y hy
  simp only [b4, List.mem_cons, List.not_mem_nil, or_false] at hy
  rcases hy with rfl | rfl | rfl | rfl <;> omega
set_option maxRecDepth 100000 in
set_option maxHeartbeats 2000000 in
theorem ibytes_any (r : Option Addr) (cap : Nat) (ws : List Int) (w : World) (hx : IsInts w r cap .u32 ws) (hl : ws.length ≤ 100000) : Calls Try.prog 16 #[.slice r ws.length cap] w fun e w' => ∃ ro co, e = .returned (.tuple #[.slice ro (bytesW ws).length co, .int .i64 0]) ∧ OwnK .u8 5 w' w.heap.size ro co (bytesW ws) ∧ Below w.heap.size w w' := by
  have HX : Hid (ws = [] ∨ ∃ b off, r = some ⟨b, off, none⟩ ∧ b < w.heap.size ∧ ∀ i, i < ws.length → w.cell? ⟨b, off + i, none⟩ = some (.int .u32 (ws.getD i 0))) := Lib.hid (by
    by_cases e : ws = []
    · exact .inl e
    · exact .inr (hx.cells e))
  have HS : Hid (∀ k, k < ws.length → bytesW (ws.take (k + 1)) = bytesW (ws.take k) ++ b4 (ws.getD k 0)) := Lib.hid (fun k hk => bytesW_take hk)
  have HW : Hid (∀ k, k < ws.length → 0 ≤ ws.getD k 0 ∧ ws.getD k 0 ≤ 4294967295) := Lib.hid (fun k hk => wf_u32 (hx.wf _ (getD_mem' hk)))
  have HLN : Hid (∀ k, k ≤ ws.length → (bytesW (ws.take k)).length = 4 * k) := Lib.hid (fun k hk => by rw [bytesW_len, List.length_take]; omega)
  have HE : Hid (bytesW (ws.take ws.length) = bytesW ws) := Lib.hid (by rw [List.take_length])
  have HE2 : Hid ((bytesW ws).length = 4 * ws.length) := Lib.hid (bytesW_len ws)
  have hl2 : ¬ (100000 : Int) < ws.length := by omega
  clear hx
  generalize bytesW ws = res at *
  generalize hn : ws.length = n at *
  have HN := Lib.hid hn
  clear hn
  go_enter Try.func16, Try.ntmps16
  go_wp2
  go_loopg [4, 12] n (fun kx s4 s12 wr => ∃ (k : Nat) (e : Later w) (ro : Option Addr) (co : Nat) (out : List Int), s4 = .slice ro out.length co ∧ s12 = .int .i64 k ∧ k ≤ n ∧ n - k ≤ kx ∧ wr = e.w ∧ out.length ≤ 400000 ∧ Hid (OwnK .u8 5 e.w w.heap.size ro co out) ∧ Hid (out = bytesW (ws.take k)))
  case atStart => exact ⟨0, ⟨w, Below.refl _ _⟩, none, 0, [], rfl, rfl, by omega, by omega, rfl, by simp, Lib.hid (OwnK.nil _ _), Lib.hid rfl⟩
  case round =>
    obtain ⟨k, e, ro, co, out, rfl, rfl, hk, hkx, rfl, hol, HO, HQ⟩ := hrel
    have hes := e.h.size
    by_cases hlt : k < n
    · have hk1 : (0 : Int) ≤ (k : Int) := by omega
      have hk2 : (k : Int) < n := by omega
      obtain ⟨bX, off, rfl, hb, hc⟩ := HX.out.resolve_left (fun e => by have := HN.out; rw [e] at this; simp at this; omega)
      have hc1 : e.w.cell? ⟨bX, off + k, none⟩ = some (.int .u32 (ws.getD k 0)) := by
        rw [Later.cell e hb]; exact hc k hlt
      have ⟨x0, x1⟩ := HW.out k hlt
      have HQ2 := Lib.hid (HS.out k hlt)
      rw [← HQ.out] at HQ2
      have hl3 : (out ++ b4 (ws.getD k 0)).length ≤ 400000 := by rw [← HQ2.out, HLN.out _ (by omega)]; omega
      clear hc
      generalize ws.getD k 0 = x at *
      go_wp2_with (at_builtin; refine wpList_append_k Try.underlying29 infoU8 rfl (by omega) (by rfl) _ _ (by rfl) e.w w.heap.size ro co out (b4 x) 4 rfl (by omega) (by rfl) (by rfl) (by rfl) HO.out (by omega) (by omega) ?_; intro r' c' w1 hown1 hbw1)
      have HO1 := Lib.hid hown1
      clear hown1
      go_roundg (n - (k + 1))
      case measure => omega
      case rel => exact ⟨k + 1, ⟨w1, e.h.trans hbw1⟩, r', c', out ++ b4 x, by simp [b4], by go_num, by omega, by omega, rfl, hl3, HO1, Lib.hid HQ2.out.symm⟩
    · obtain rfl : k = n := by omega
      have HQ3 : Hid (out = res) := Lib.hid (HQ.out.trans HE.out)
      have hol2 := HQ3.out
      clear HQ
      go_wp2
      go_ret2
      refine ⟨ro, co, by first | rfl | (rw [hol2]; rfl), ?_, e.h⟩
      rw [← HQ3.out]
      exact HO.out

end Go.Proofs.Ytfooefiaenlhmaa
namespace Go.Proofs.Ytfooefiaenlhmaa
set_option linter.unusedVariables false
set_option linter.unusedSimpArgs false
open Go.RowKit Go.ChangeShapes Go.WideShapes Go.ChangeAt Go.Shelf
attribute [local go_sem] Oper.semAt_some

/-- What lies below B stays, but for the block Bo. -/
structure KeepB (B Bo : Nat) (W W' : World) : Prop where
  zero : Below 0 W W'
  block : ∀ q, q < B → q ≠ Bo → W'.heap[q]? = W.heap[q]?
theorem KeepB.refl (B Bo : Nat) (W : World) : KeepB B Bo W W := ⟨Below.refl _ _, fun _ _ _ => rfl⟩
theorem KeepB.trans {B Bo : Nat} {W W' W'' : World} (h : KeepB B Bo W W') (k : KeepB B Bo W' W'') : KeepB B Bo W W'' :=
  ⟨h.zero.trans k.zero, fun q hq hn => (k.block q hq hn).trans (h.block q hq hn)⟩
theorem KeepB.put {B Bo : Nat} (W : World) (l : Nat) (o o' : Obj) (hl : B ≤ l) (h : W.heap[l]? = some o) : KeepB B Bo W (W.putObj l o') :=
  ⟨(Below.refl 0 W).grown (grownBy_putObj' W l o') (Nat.zero_le _) (fun k e => by cases e; exact Nat.zero_le _), fun q hq _ => World.putObj_heap_other (by omega)⟩
theorem KeepB.below {B Bo n : Nat} {W W' : World} (h : KeepB B Bo W W') (hn : n ≤ B) (ho : n ≤ Bo) : Below n W W' :=
  ⟨h.zero.os, h.zero.tape, h.zero.output, h.zero.size, fun k hk => h.block k (by omega) (by omega)⟩
theorem KeepB.cell {B Bo q o : Nat} {W W' : World} (h : KeepB B Bo W W') (hq : q < B) (hn : q ≠ Bo) : W'.cell? ⟨q, o, none⟩ = W.cell? ⟨q, o, none⟩ :=
  World.cell?_of_block (a := ⟨q, o, none⟩) (h.block q hq hn)
/-- The number of a chunk. -/
def Ch (n : Nat) : Type := { k : Nat // 4 * k < n }
def chEnc (b off n : Nat) (x : Ch n) : Array Value := #[.slice (some ⟨b, off + 4 * x.1, none⟩) (min 4 (n - 4 * x.1)) (min 4 (n - 4 * x.1))]
def chL (n k : Nat) : List (Ch n) := (List.range k).filterMap fun i => if h : 4 * i < n then some ⟨i, h⟩ else none
theorem chL_succ {n k : Nat} (h : 4 * k < n) : chL n (k + 1) = chL n k ++ [⟨k, h⟩] := by
  unfold chL
  rw [List.range_succ, List.filterMap_append]
  simp only [List.filterMap_cons, List.filterMap_nil, dif_pos h]
theorem chL_len {n k : Nat} (h : ∀ i, i < k → 4 * i < n) : (chL n k).length = k := by
  induction k with
  | zero => rfl
  | succ k ih => rw [chL_succ (h k (by omega)), List.length_append, ih (fun i hi => h i (by omega))]; rfl
set_option maxRecDepth 100000 in
set_option maxHeartbeats 2000000 in
theorem chunk1_in (l B1 B2 B Bo b off n cap : Nat) (hn : 0 < n) (hcap : n ≤ cap) (hmax : n ≤ 1000000) (hb : b < B) (hbo : b ≠ Bo) (h1 : B1 < B) (h1o : B1 ≠ Bo) (h2 : B2 < B) (h2o : B2 ≠ Bo) (J Jx : List (Ch n) → World → Prop) (W : World) (hJa : AbidesFrom W.heap.size J)
    (hY : ∀ pre x W1, J pre W1 → pre.length < n → YieldAt Fence.wide (9 - 1) Try.prog l (chEnc b off n x) W1 fun e W' =>
      (e = .returned (.bool true) ∧ J (pre ++ [x]) W' ∧ KeepB B Bo W1 W') ∨ (e = .returned (.bool false) ∧ Jx (pre ++ [x]) W'))
    (hc1 : W.cell? ⟨B1, 0, none⟩ = some (.slice (some ⟨b, off, none⟩) n cap)) (hc2 : W.cell? ⟨B2, 0, none⟩ = some (.int .i64 4)) (h0 : J [] W) :
    CallsIn Fence.wide 9 Try.prog 84 #[.func (.yield l) #[] #[], .pointer (some ⟨B1, 0, none⟩), .pointer (some ⟨B2, 0, none⟩)] W fun e W' => (∃ v, e = .returned v) ∧
      ((∃ ys, ys = chL n ((n + 3) / 4) ∧ J ys W') ∨ (∃ pre, True ∧ Jx pre W')) := by
  have hmx : (Try.prog.follows .mixedOrders) = true := by kernel_rfl
  refine callsIn_of_wp Try.func84 rfl trivial ?_ rfl
  simp only [Try.ntmps84, List.size_toArray, List.length_cons, List.length_nil, Nat.reduceAdd, Nat.reduceSub, Array.replicate_succ, Array.replicate_zero, List.push_toArray, List.append_toArray, List.nil_append, List.cons_append]
  gi_wp2
  gi_loopw [4] (fun i wr => ∃ k : Nat, i = .int .i64 ((4 * k : Nat) : Int) ∧ k ≤ (n + 3) / 4 ∧ J (chL n k) wr ∧ KeepB B Bo W wr) (fun i _ => n + 4 - (intOf i).toNat)
  case atStart => exact ⟨0, rfl, Nat.zero_le _, h0, KeepB.refl _ _ _⟩
  case round =>
    obtain ⟨k, rfl, hk, hJs, hK⟩ := hrel
    have hc1 : wr.cell? ⟨B1, 0, none⟩ = some (.slice (some ⟨b, off, none⟩) n cap) := (hK.cell h1 h1o).trans hc1
    have hc2 : wr.cell? ⟨B2, 0, none⟩ = some (.int .i64 4) := (hK.cell h2 h2o).trans hc2
    by_cases hlt : 4 * k < n
    · have hJd : J (chL n k) wr.drew := hJa _ _ _ none hJs ⟨rfl, rfl, rfl, Nat.le_refl _, fun _ _ _ => rfl⟩ (fun r e => by cases e)
      obtain ⟨fn, tmps, assign, body, hy, hR⟩ := hY _ ⟨k, hlt⟩ wr.drew hJd (by rw [chL_len (fun i hi => by omega)]; omega)
      have hd1 : wr.drew.cell? ⟨B1, 0, none⟩ = some (.slice (some ⟨b, off, none⟩) n cap) := hc1
      have hd2 : wr.drew.cell? ⟨B2, 0, none⟩ = some (.int .i64 4) := hc2
      have hle : ((4 * k : Nat) : Int) < n := by omega
      simp only [chEnc] at hy
      by_cases h4 : 4 ≤ n - 4 * k
      · have hy2 := hy
        rw [show min 4 (n - 4 * k) = 4 by omega] at hy2
        rw [show min 4 (n - 4 * k) = (4 * (k : Int) + 4).toNat - 4 * k by omega] at hy
        gi_wp2
        gi_region_with_o (fail)
        all_goals first | (exfalso; omega) | skip
        all_goals
          gi_wp2
          refine hR.mono ?_
          rintro e W3 (⟨rfl, hJ3, hk3⟩ | ⟨rfl, hJx3⟩)
          · have hc2 : W3.cell? ⟨B2, 0, none⟩ = some (.int .i64 4) := (hk3.cell h2 h2o).trans hc2
            gi_wp2
            go_roundw
            case rel => exact ⟨k + 1, by go_num, by omega, by rw [chL_succ hlt]; exact hJ3, hK.trans (KeepB.trans ⟨(Below.refl _ _).drew, fun _ _ _ => rfl⟩ hk3)⟩
            case measure => simp [intOf]; omega
          · gi_wp2
            refine bodyPost_ret (results_none rfl _ _ _) rfl ?_
            exact ⟨⟨_, rfl⟩, .inr ⟨_, trivial, hJx3⟩⟩
      · have hy2 := hy
        rw [show min 4 (n - 4 * k) = n - 4 * k by omega] at hy2
        rw [show min 4 (n - 4 * k) = (4 * (k : Int) + ((n - 4 * k : Nat) : Int)).toNat - 4 * k by omega] at hy
        gi_wp2
        gi_region_with_o (fail)
        all_goals first | (exfalso; omega) | skip
        all_goals
          gi_wp2
          refine hR.mono ?_
          rintro e W3 (⟨rfl, hJ3, hk3⟩ | ⟨rfl, hJx3⟩)
          · have hc2 : W3.cell? ⟨B2, 0, none⟩ = some (.int .i64 4) := (hk3.cell h2 h2o).trans hc2
            gi_wp2
            go_roundw
            case rel => exact ⟨k + 1, by go_num, by omega, by rw [chL_succ hlt]; exact hJ3, hK.trans (KeepB.trans ⟨(Below.refl _ _).drew, fun _ _ _ => rfl⟩ hk3)⟩
            case measure => simp [intOf]; omega
          · gi_wp2
            refine bodyPost_ret (results_none rfl _ _ _) rfl ?_
            exact ⟨⟨_, rfl⟩, .inr ⟨_, trivial, hJx3⟩⟩
    · obtain rfl : k = (n + 3) / 4 := by omega
      have hle : ¬ (((4 * ((n + 3) / 4) : Nat) : Int) < n) := by omega
      gi_wp2
      go_end0
      exact ⟨⟨_, rfl⟩, .inl hJs⟩

set_option maxRecDepth 100000 in
set_option maxHeartbeats 2000000 in
theorem chunk0_in (l B1 B2 cap : Nat) (r : Option Addr) (J : List (Ch 0) → World → Prop) (W : World)
    (hc1 : W.cell? ⟨B1, 0, none⟩ = some (.slice r 0 cap)) (hc2 : W.cell? ⟨B2, 0, none⟩ = some (.int .i64 4)) (h0 : J [] W) :
    CallsIn Fence.wide 9 Try.prog 84 #[.func (.yield l) #[] #[], .pointer (some ⟨B1, 0, none⟩), .pointer (some ⟨B2, 0, none⟩)] W fun e W' => (∃ v, e = .returned v) ∧ J [] W' := by
  refine callsIn_of_wp Try.func84 rfl trivial ?_ rfl
  simp only [Try.ntmps84, List.size_toArray, List.length_cons, List.length_nil, Nat.reduceAdd, Nat.reduceSub, Array.replicate_succ, Array.replicate_zero, List.push_toArray, List.append_toArray, List.nil_append, List.cons_append]
  gi_wp2
  gi_loopw [4] (fun i wr => i = .int .i64 0 ∧ wr = W) (fun i _ => 0)
  case atStart => exact ⟨rfl, rfl⟩
  case round =>
    obtain ⟨rfl, rfl⟩ := hrel
    gi_wp2
    go_end0
    exact ⟨⟨_, rfl⟩, h0⟩

set_option maxRecDepth 100000 in
set_option maxHeartbeats 2000000 in
theorem chunk_in (r : Option Addr) (n cap : Nat) (w : World) :
    CallsIn Fence.wide 9 Try.prog 44 #[.slice r n cap, .int .i64 4] w fun e w' => e = .returned (.func (.func 84) #[] #[.pointer (some ⟨w.heap.size, 0, none⟩), .pointer (some ⟨w.heap.size + 1, 0, none⟩)]) ∧ w' = (w.alloc (.cells #[.slice r n cap] 29)).alloc (.cells #[.int .i64 4] 3) := by
  refine callsIn_of_wp Try.func44 rfl trivial ?_ rfl
  simp only [Try.ntmps44, List.size_toArray, List.length_cons, List.length_nil, Nat.reduceAdd, Nat.reduceSub, Array.replicate_succ, Array.replicate_zero, List.push_toArray, List.append_toArray, List.nil_append, List.cons_append]
  gi_wp2
  go_ret
  exact ⟨rfl, rfl⟩

/-- The chunks of a slice of bytes come one after the other. -/
theorem chunk_seq (B1 B2 B Bo cap : Nat) (r : Option Addr) (bs : List Int) (w : World) (hmax : bs.length ≤ 1000000) (hx : IsInts w r cap .u8 bs) (hB : w.heap.size ≤ B) (hob : bs ≠ [] → ∀ a, r = some a → a.block ≠ Bo)
    (h1 : B1 < w.heap.size) (h1o : B1 ≠ Bo) (h2 : B2 < w.heap.size) (h2o : B2 ≠ Bo) (hc1 : w.cell? ⟨B1, 0, none⟩ = some (.slice r bs.length cap)) (hc2 : w.cell? ⟨B2, 0, none⟩ = some (.int .i64 4)) :
    ∃ b off, (0 < bs.length → b < w.heap.size ∧ b ≠ Bo ∧ ∀ i, i < bs.length → w.cell? ⟨b, off + i, none⟩ = some (.int .u8 (bs.getD i 0))) ∧
      SeqStopsK Fence.wide 9 Try.prog 84 #[.pointer (some ⟨B1, 0, none⟩), .pointer (some ⟨B2, 0, none⟩)] (chEnc b off bs.length) (KeepB B Bo) (fun ys => ys = chL bs.length ((bs.length + 3) / 4)) (fun _ => True) bs.length w := by
  by_cases hne : bs = []
  · subst hne
    refine ⟨0, 0, fun h => absurd h (Nat.lt_irrefl 0), fun l J Jx W hW hJ hJx hY h0 => ?_⟩
    refine (chunk0_in l B1 B2 cap r J W ?_ ?_ h0).mono ?_
    · exact (hW.cell (p := ⟨B1, 0, none⟩) h1).trans hc1
    · exact (hW.cell (p := ⟨B2, 0, none⟩) h2).trans hc2
    · rintro e W' ⟨he, hj⟩
      exact ⟨he, .inl ⟨[], rfl, hj⟩⟩
  · obtain ⟨b, off, rfl, hb, hc⟩ := hx.cells hne
    have hlen : 0 < bs.length := List.length_pos_iff.2 hne
    refine ⟨b, off, fun _ => ⟨hb, hob hne _ rfl, hc⟩, fun l J Jx W hW hJ hJx hY h0 => ?_⟩
    exact chunk1_in l B1 B2 B Bo b off bs.length cap hlen hx.le hmax (by omega) (hob hne _ rfl) (by omega) h1o (by omega) h2o J Jx W hJ hY ((hW.cell (p := ⟨B1, 0, none⟩) h1).trans hc1) ((hW.cell (p := ⟨B2, 0, none⟩) h2).trans hc2) h0

/-- A collector's box: what a round keeps. -/
theorem box_append {W w1 : World} {B Bo : Nat} {t e : TypeId} {size : Nat} {v v' : Value} {k m : Nat} {xs ys : List Value} {tmp : Obj}
    (hv : Boxed W Bo t v) (hte : t ≠ e) (hrow : W.ownsRow B e size v k xs) (hB : B ≤ W.heap.size) (hown' : w1.ownsRow B e size v' m ys) (hgrow : (W.alloc tmp).grownBy w1 v.ownBlock) :
    Boxed w1 Bo t v ∧ Boxed (w1.setCell ⟨Bo, 0, none⟩ v') Bo t v' ∧ (w1.setCell ⟨Bo, 0, none⟩ v').ownsRow B e size v' m ys ∧ KeepsOthers W (w1.setCell ⟨Bo, 0, none⟩ v') ∧ KeepB B Bo W (w1.setCell ⟨Bo, 0, none⟩ v') := by
  have hv1 : Boxed w1 Bo t v := (hv.alloc tmp).kept hgrow (hv.not_row hte hrow)
  have hge : ∀ j, v.ownBlock = some j → B ≤ j := fun j ej => by
    rcases hrow.2 with ⟨rfl, _⟩ | ⟨g, cap, cur, rfl, hb, _, _⟩
    · simp [Value.ownBlock] at ej
    · obtain rfl : g = j := by simpa [Value.ownBlock] using ej
      exact hb
  refine ⟨hv1, hv1.set v', hown'.kept (grownBy_setCell' w1 Bo v') (.inr (hv1.not_row hte hown').symm), ?_, ?_, ?_⟩
  · refine ((KeepsOthers.alloc W tmp).trans (KeepsOthers.of_grownBy hgrow fun j o ej hj => ?_)).trans (KeepsOthers.setCell _ _ _)
    rcases (hrow.alloc tmp).2 with ⟨rfl, _⟩ | ⟨g, cap, cur, rfl, _, hgb, _⟩
    · simp [Value.ownBlock] at ej
    · obtain rfl : g = j := by simpa [Value.ownBlock] using ej
      rw [hgb] at hj; cases hj; rfl
  · exact (((Below.refl 0 W).alloc (Nat.zero_le _) tmp).grown hgrow (Nat.zero_le _) fun j ej => Nat.zero_le _).setCell (p := ⟨Bo, 0, none⟩) (Nat.zero_le _) v'
  · intro q hq hqo
    rw [Below.heap_setCell _ _ _ _ hqo, hgrow.block q (by rw [World.size_alloc]; omega) (fun e => by have := hge q e.symm; omega), Below.heap_alloc _ _ _ (by omega)]
end Go.Proofs.Ytfooefiaenlhmaa
namespace Go.Proofs.Ytfooefiaenlhmaa
set_option linter.unusedVariables false
set_option linter.unusedSimpArgs false
open Go.RowKit Go.ChangeShapes Go.WideShapes Go.ChangeAt Go.Shelf
attribute [local go_sem] Oper.semAt_some

/-- The value of the first k of some bytes. -/
def wAcc (f : Nat → Int) : Nat → Int
  | 0 => 0
  | k + 1 => wAcc f k * 256 + f k
theorem wAcc_bd {f : Nat → Int} (hf : ∀ i, 0 ≤ f i ∧ f i ≤ 255) : ∀ k, 0 ≤ wAcc f k ∧ wAcc f k < 256 ^ k
  | 0 => by simp [wAcc]
  | k + 1 => by
    have h := wAcc_bd hf k
    have g := hf k
    have e : (256 : Int) ^ (k + 1) = 256 ^ k * 256 := Int.pow_succ _ _
    simp only [wAcc]
    rw [e]
    omega
theorem wAcc4 {f : Nat → Int} (hf : ∀ i, 0 ≤ f i ∧ f i ≤ 255) : ∀ k, k < 4 → 0 ≤ wAcc f k ∧ wAcc f k < 16777216 := by
  intro k hk
  have h := wAcc_bd hf k
  obtain rfl | rfl | rfl | rfl : k = 0 ∨ k = 1 ∨ k = 2 ∨ k = 3 := by omega
  all_goals (constructor; exact h.1; have := h.2; omega)
def byteOf (bs : List Int) (i : Nat) : Int := bs.getD i 0
theorem byteOf_bd {bs : List Int} (h : ByteL bs) (i : Nat) : 0 ≤ byteOf bs i ∧ byteOf bs i ≤ 255 := by
  unfold byteOf
  by_cases hi : i < bs.length
  · exact h _ (getD_mem' hi)
  · rw [List.getD_eq_getElem?_getD, List.getElem?_eq_none (by omega)]
    simp
theorem byteOf_out {bs : List Int} {i : Nat} (h : bs.length ≤ i) : byteOf bs i = 0 := by
  unfold byteOf
  rw [List.getD_eq_getElem?_getD, List.getElem?_eq_none h]
  rfl
/-- A word of bytes. -/
def wordAt (bs : List Int) (k : Nat) : Int := wAcc (fun i => byteOf bs (4 * k + i)) 4
def wordsB (bs : List Int) : List Int := (List.range ((bs.length + 3) / 4)).map (wordAt bs)
theorem wordsB_len (bs : List Int) : (wordsB bs).length = (bs.length + 3) / 4 := by simp [wordsB]
theorem or_low {a b : Int} (h0 : 0 ≤ a) (h1 : a < 16777216) (b0 : 0 ≤ b) (b1 : b ≤ 255) : bits .or .u32 (a * 256) b = a * 256 + b := by
  rw [u32_or _ _ (by omega) (by omega) (by omega) (by omega)]
  have e : (a * 256).toNat = 2 ^ 8 * a.toNat := by omega
  rw [e, ← Nat.two_pow_add_eq_or_of_lt (by omega : b.toNat < 2 ^ 8)]
  omega
theorem wordAt_bd {bs : List Int} (h : ByteL bs) (k : Nat) : 0 ≤ wordAt bs k ∧ wordAt bs k ≤ 4294967295 := by
  have := wAcc_bd (f := fun i => byteOf bs (4 * k + i)) (fun i => byteOf_bd h _) 4
  unfold wordAt
  omega
theorem wordsB_bd {bs : List Int} (h : ByteL bs) : ∀ x ∈ wordsB bs, 0 ≤ x ∧ x ≤ 4294967295 := by
  intro x hx
  simp only [wordsB, List.mem_map] at hx
  obtain ⟨k, _, rfl⟩ := hx
  exact wordAt_bd h k
theorem chL_map {n k : Nat} (h : ∀ i, i < k → 4 * i < n) (f : Nat → Int) : (chL n k).map (fun x => f x.1) = (List.range k).map f := by
  induction k with
  | zero => rfl
  | succ k ih => rw [chL_succ (h k (by omega)), List.map_append, ih (fun i hi => h i (by omega)), List.range_succ, List.map_append]; rfl

theorem ownFrom_keepB {β : Type} {B Bo D : Nat} {w₀ : World} (hB : B ≤ D) (h0 : B ≤ w₀.heap.size := by exact Nat.le_refl _) : OwnFrom D (fun (_ : β) W => KeepB B Bo w₀ W) := fun _ X Y row hs hg hr =>
  ⟨hs.zero.grown hg (Nat.zero_le _) (fun k e => Nat.zero_le _), fun q hq hn => by
    rw [hg.block q (by have := hs.zero.size; omega) (fun e => by have := (hr q e.symm).1; omega)]
    exact hs.block q hq hn⟩
def wordsI (n : Nat) (f : Nat → Int) (B Bo : Nat) (pre : List (Ch n)) (W : World) : Prop := ∃ v, Boxed W Bo 40 v ∧ W.ownsRow B 35 1 v pre.length ((pre.map (fun x => f x.1)).map (Value.int .u32)) ∧ True
theorem wordsI_own (n : Nat) (f : Nat → Int) (B Bo : Nat) : Own (wordsI n f B Bo) := holdsRow_own B Bo 40 35 1 (fun pre : List (Ch n) => pre.length) (fun pre : List (Ch n) => (pre.map (fun x : Ch n => f x.1)).map (Value.int .u32)) (fun _ _ => True)
theorem wordsI_snoc {n : Nat} {f : Nat → Int} {B Bo : Nat} {pre : List (Ch n)} {x : Ch n} {W : World} {v : Value} (h1 : Boxed W Bo 40 v) (h2 : W.ownsRow B 35 1 v (pre.length + 1) ((pre.map (fun x : Ch n => f x.1)).map (Value.int .u32) ++ [.int .u32 (f x.1)])) : wordsI n f B Bo (pre ++ [x]) W :=
  ⟨v, h1, by simpa using h2, trivial⟩
set_option maxRecDepth 100000 in
set_option maxHeartbeats 400000 in
theorem iwords_any (r : Option Addr) (cap : Nat) (bs : List Int) (w : World) (hx : IsInts w r cap .u8 bs) (hl : bs.length ≤ 1000000) : Calls Try.prog 17 #[.slice r bs.length cap] w fun e w' => ∃ ro co, e = .returned (.slice ro (wordsB bs).length co) ∧ OwnK .u32 35 w' w.heap.size ro co (wordsB bs) ∧ Below w.heap.size w w' := by
  have hby : ByteL bs := fun x h => wf_u8 (hx.wf x h)
  obtain ⟨i0, hi0, hz0, hz1, hz2⟩ := info_parts infoU32
  refine (callsIn_wide (n := 10)).1 ?_
  refine callsIn_of_wp_marks Try.func17 rfl trivial ?_ rfl
  simp only [Try.ntmps17, List.size_toArray, List.length_cons, List.length_nil, Nat.reduceAdd, Nat.reduceSub, Array.replicate_succ, Array.replicate_zero, List.push_toArray, List.append_toArray, List.nil_append, List.cons_append]
  gi_wp2_with (refine ⟨trivial, ?_⟩; gi_at_call 44; refine (chunk_in _ _ _ _).mono ?_; rintro e w' ⟨rfl, rfl⟩)
  have bO := Boxed.new w 40 (.slice none 0 0)
  have hB0 : Below w.heap.size w (((w.alloc (.cells #[.slice none 0 0] 40)).alloc (.cells #[.slice r bs.length cap] 29)).alloc (.cells #[.int .i64 4] 3)) := ((((Below.refl _ w).alloc (Nat.le_refl _) _).alloc (by simp) _).alloc (by simp; omega) _)
  have hz : (((w.alloc (.cells #[.slice none 0 0] 40)).alloc (.cells #[.slice r bs.length cap] 29)).alloc (.cells #[.int .i64 4] 3)).heap.size = w.heap.size + 3 := by simp
  have bO3 := (bO.alloc (.cells #[.slice r bs.length cap] 29)).alloc (.cells #[.int .i64 4] 3)
  have c1 := ((Boxed.new (w.alloc (.cells #[.slice none 0 0] 40)) 29 (.slice r bs.length cap)).alloc (.cells #[.int .i64 4] 3)).cell
  have c2 := (Boxed.new ((w.alloc (.cells #[.slice none 0 0] 40)).alloc (.cells #[.slice r bs.length cap] 29)) 3 (.int .i64 4)).cell
  rw [World.size_alloc] at c1
  rw [World.size_alloc, World.size_alloc] at c2
  generalize hW0 : ((w.alloc (.cells #[.slice none 0 0] 40)).alloc (.cells #[.slice r bs.length cap] 29)).alloc (.cells #[.int .i64 4] 3) = W0 at *
  have hra1 : bs ≠ [] → ∀ a, r = some a → a.block ≠ w.heap.size := fun hne a ha => by
    obtain ⟨b, off, h1, h2, _⟩ := hx.cells hne
    rw [ha] at h1
    simp only [Option.some.injEq] at h1
    subst h1
    exact Nat.ne_of_lt h2
  obtain ⟨b, off, hcell, hseq⟩ := chunk_seq (w.heap.size + 1) (w.heap.size + 1 + 1) W0.heap.size w.heap.size cap r bs W0 hl (hx.later hB0) (Nat.le_refl _) hra1 (by omega) (by omega) (by omega) (by omega) c1 c2
  refine wpIn_rangeFunc_ownG (F := Fence.wide) (n := 10) rfl (by omega) (gf := 84) (lb := #[.pointer (some ⟨w.heap.size + 1, 0, none⟩), .pointer (some ⟨w.heap.size + 1 + 1, 0, none⟩)]) rfl trivial (enters_of Try.func84 (by kernel_rfl) rfl)
    hseq KeepB.trans (fun W l o o' hl h _ _ => KeepB.put W l o o' hl h) (Below.refl _ _) (fun _ => rfl)
    (fun pre W => wordsI bs.length (wordAt bs) W0.heap.size w.heap.size pre W ∧ KeepB W0.heap.size w.heap.size W0 W)
    (fun _ _ _ => False) ?hI (fun _ _ _ _ _ hs _ _ => hs) ?h0 ?a1 ?assign ?body ?done ?stop
  case assign =>
    intro l x W K hK
    gi_wp2
    exact hK
  case hI =>
    exact OwnFrom.and (Own.from (wordsI_own _ _ _ _) _) (ownFrom_keepB (Nat.le_refl _))
  case h0 =>
    exact ⟨⟨_, bO3, World.ownsRow_nil _ _ _ _, trivial⟩, KeepB.refl _ _ _⟩
  case body =>
    intro l pre x W hI1 hlt
    obtain ⟨⟨v, hv, hrow, hnil⟩, hB⟩ := hI1
    clear hnil
    have hc := hv.cell
    have hk : 4 * x.1 < bs.length := x.2
    have HFIN : Hid (∀ W' v', Boxed W' w.heap.size 40 v' → W'.ownsRow W0.heap.size 35 1 v' (pre.length + 1) ((pre.map (fun x : Ch bs.length => wordAt bs x.1)).map (Value.int .u32) ++ [.int .u32 (wAcc (fun i => byteOf bs (4 * x.1 + i)) 4)]) → wordsI bs.length (wordAt bs) W0.heap.size w.heap.size (pre ++ [x]) W') := Lib.hid (fun _ _ h1 h2 => wordsI_snoc h1 h2)
    simp only [chEnc]
    generalize x.1 = k at *
    generalize (pre.map (fun x : Ch bs.length => wordAt bs x.1)).map (Value.int .u32) = L at *
    obtain ⟨hb, hbo, hcl⟩ := hcell (by omega)
    have hcw : Hid (∀ i, 4 * k + i < bs.length → W.cell? ⟨b, off + 4 * k + i, none⟩ = some (.int .u8 (byteOf bs (4 * k + i)))) := Lib.hid (fun i hi => by
      rw [hB.cell hb hbo, Nat.add_assoc]
      exact hcl _ hi)
    have HF : Hid (∀ i, 0 ≤ byteOf bs (4 * k + i) ∧ byteOf bs (4 * k + i) ≤ 255) := Lib.hid (fun i => byteOf_bd hby _)
    have HA : Hid (∀ i, i < 4 → 0 ≤ wAcc (fun i => byteOf bs (4 * k + i)) i ∧ wAcc (fun i => byteOf bs (4 * k + i)) i < 16777216) := Lib.hid (wAcc4 HF.out)
    have HOut : Hid (∀ i, bs.length ≤ 4 * k + i → byteOf bs (4 * k + i) = 0) := Lib.hid (fun i hi => byteOf_out hi)
    have hm1 : min 4 (bs.length - 4 * k) ≤ 4 := by omega
    have hm2 : 4 * k + min 4 (bs.length - 4 * k) ≤ bs.length := by omega
    have hm3 : min 4 (bs.length - 4 * k) < 4 → 4 * k + min 4 (bs.length - 4 * k) = bs.length := by omega
    generalize min 4 (bs.length - 4 * k) = m at *
    clear hcl hcell hseq
    gi_wp2
    gi_loopw [5, 10] (fun s5 s10 wr => ∃ i : Nat, i ≤ 4 ∧ s10 = .int .i64 i ∧ s5 = .int .u32 (wAcc (fun i => byteOf bs (4 * k + i)) i) ∧ wr = W) (fun _ s10 _ => 4 - (intOf s10).toNat)
    case atStart => exact ⟨0, by omega, rfl, rfl, rfl⟩
    case round =>
      obtain ⟨i, hi, rfl, rfl, rfl⟩ := hrel
      by_cases hi4 : i < 4
      · have hA := HA.out i hi4
        have hF := HF.out i
        have hi5 : (i : Int) < 4 := by omega
        have e1 : wAcc (fun i => byteOf bs (4 * k + i)) (i + 1) = wAcc (fun i => byteOf bs (4 * k + i)) i * 256 + byteOf bs (4 * k + i) := rfl
        have H1 := Lib.hid e1
        clear e1
        have hO := HOut.out i
        have hcc := hcw.out i
        have hor := or_low hA.1 hA.2 hF.1 hF.2
        generalize wAcc (fun i => byteOf bs (4 * k + i)) i = a at *
        generalize byteOf bs (4 * k + i) = x at *
        have hwr : IntKind.u32.wrap (a * 256) = a * 256 := by simp [IntKind.wrap, IntKind.signed, IntKind.bits]; omega
        by_cases him : i < m
        · have hcc := hcc (by omega)
          have him2 : (i : Int) < m := by omega
          gi_wp2
          go_roundw
          case rel => exact ⟨i + 1, by omega, by go_num, by rw [H1.out], trivial⟩
          case measure => simp [intOf]; omega
        · have hO := hO (by omega)
          have him2 : ¬ (i : Int) < m := by omega
          gi_wp2
          go_roundw
          case rel => exact ⟨i + 1, by omega, by go_num, by rw [H1.out, hO, Int.add_zero], trivial⟩
          case measure => simp [intOf]; omega
      · obtain rfl : i = 4 := by omega
        gi_wp2_with (gi_at_builtin; refine wpListIn_append_own _ rfl _ _ 40 rfl W0.heap.size 35 i0 (.int .u32 0) 1 4 Try.underlying40 hi0 hz0 hz1 hz2 rfl (by decide) _ _ _ rfl (hrow.alloc _) ⟨wr.heap.size, 0, none⟩ 1 1 [.int .u32 _] rfl rfl (cell_one_new _ _ _) (by simp [Value.oneCell']) (by unfold maxLen; omega) (by omega) (by have := hB.zero.size; simp; omega) ?_; intro v' w1 hown' hgrow _; obtain ⟨g', cap', rfl⟩ := ownsRow_succ hown'; obtain ⟨hv1, hv2, hr2, hk2, hb2⟩ := box_append hv (by decide) hrow hB.zero.size hown' hgrow; have hc1 := hv1.cell; have hf1 := hv1.frozen)
        exact ⟨hk2.from _, hb2, HFIN.out _ _ hv2 hr2, hB.trans hb2⟩
  case done =>
    rintro D ys W hD rfl ⟨⟨v, hv, hrow, hnil⟩, hB⟩ hK
    have hc := hv.cell
    gi_wp2
    refine ⟨by simp, .inl ⟨_, _, rfl, run_takeDeferred hK, ?_⟩⟩
    have hB2 : Below w.heap.size w (W.putObj D (.deferred none)) := hB0.trans ((hB.below (by omega) (Nat.le_refl _)).trans (belowK_b (w := W0) (by omega) W D _ _ hD hK rfl rfl))
    have hrow2 := ownsRow_putObj hrow (.deferred none) hK rfl
    have hn3 : ∀ i, i < (bs.length + 3) / 4 → 4 * i < bs.length := fun i hi => by omega
    rw [chL_map hn3, chL_len hn3] at hrow2
    have hvv : ∃ ro co, v = .slice ro (wordsB bs).length co := by
      rw [wordsB_len]
      rcases hrow2.2 with ⟨h1, h3⟩ | ⟨g, c, cur, h1, _⟩
      · exact ⟨none, 0, by rw [h1, h3]⟩
      · exact ⟨_, _, by rw [h1]⟩
    obtain ⟨ro, co, rfl⟩ := hvv
    refine ⟨_, results_tmp rfl _ _ _, ro, co, rfl, OwnK.base ?_ (by omega : w.heap.size ≤ W0.heap.size), hB2⟩
    unfold OwnK
    rw [wordsB_len] at hrow2 ⊢
    exact hrow2
  case stop =>
    rintro D c pre W _ _ h _
    exact h.elim
end Go.Proofs.Ytfooefiaenlhmaa
namespace Go.Proofs.Ytfooefiaenlhmaa
set_option linter.unusedVariables false
set_option linter.unusedSimpArgs false
open Go.RowKit Go.ChangeShapes Go.WideShapes Go.ChangeAt

theorem wp_still_tail {P : Program} {id : Nat} {Q : Exit → Act → World → Prop} {a : Act} {w : World} {l : List Oper} (n : Nat) (hm : P.follows .mixedOrders = true) (hB : Region.lexTailB .any l.toArray n = true)
    (h : ∀ W, Below w.heap.size w W → W.heap.size = w.heap.size → wpStill P l.toArray W (fun a' => wpList P l.toArray Q (l.drop n) a' W) (l.take n) a) : (Code.region id l.toArray true).wp P Q a w :=
  wp_region_still_tail n hm hB (h w.drew (Below.refl _ _).drew rfl)
theorem wordAt_eq (bs : List Int) (k : Nat) : wordAt bs k = ((byteOf bs (4 * k) * 256 + byteOf bs (4 * k + 1)) * 256 + byteOf bs (4 * k + 2)) * 256 + byteOf bs (4 * k + 3) := by
  simp [wordAt, wAcc]
theorem wordsB_get {bs : List Int} {k : Nat} (h : k < (bs.length + 3) / 4) : (wordsB bs).getD k 0 = wordAt bs k := by
  unfold wordsB
  rw [List.getD_eq_getElem?_getD, List.getElem?_map, List.getElem?_range h]
  rfl
theorem OwnK.at_ {k : IntKind} {te : TypeId} {W : World} {base : Nat} {r : Option Addr} {cap : Nat} {xs : List Int} (h : OwnK k te W base r cap xs) {j : Nat} (hj : j < xs.length) :
    ∃ g, r = some ⟨g, 0, none⟩ ∧ base ≤ g ∧ g < W.heap.size ∧ W.cell? ⟨g, j, none⟩ = some (.int k (xs.getD j 0)) ∧ W.frozen? ⟨g, j, none⟩ = false ∧ ∀ u, OwnK k te (W.setCell ⟨g, j, none⟩ (.int k u)) base r cap (xs.set j u) ∧ Below base W (W.setCell ⟨g, j, none⟩ (.int k u)) := by
  have h0 := h.2
  rcases h0 with ⟨_, h3⟩ | ⟨g, c, cur, h1, hb, _⟩
  · omega
  · simp only [Value.slice.injEq] at h1
    obtain ⟨rfl, _, _⟩ := h1
    refine ⟨g, rfl, hb, (h.lt _ rfl).2, ?_, World.ownsRow.frozenAt (w := W) h j, fun u => ⟨?_, (Below.refl base W).setCell (p := ⟨g, j, none⟩) hb _⟩⟩
    · have := World.ownsRow.cellAt (w := W) h j (by omega)
      rw [this]
      simp [List.getElem?_map, List.getD, List.getElem?_eq_getElem hj]
    · have := (World.ownsRow.stored (w := W) h j (.int k u)).1
      unfold OwnK
      rw [List.length_set, List.map_set]
      exact this
end Go.Proofs.Ytfooefiaenlhmaa
namespace Go.Proofs.Ytfooefiaenlhmaa
set_option linter.unusedVariables false
set_option linter.unusedSimpArgs false
open Go.RowKit Go.ChangeShapes Go.WideShapes Go.ChangeAt

/-- The writer in block b holds xs. -/
def Wr (w : World) (b : Nat) (xs : List Int) : Prop := ∃ r cap, b < w.heap.size ∧ w.cell? ⟨b, 0, none⟩ = some (.slice r xs.length cap) ∧ w.frozen? ⟨b, 0, none⟩ = false ∧ OwnK .u8 5 w (b + 1) r cap xs
/-- Numbers written out are appended; what else stays. -/
theorem wpList_append_kf {k : IntKind} {te : TypeId} {ts : TypeId} {z : Value} {by' : Nat} (hts : Try.prog.underlying ts = some (.slice te)) (hinf : (Try.prog.info? te).map (fun i => (i.zero, i.size, i.bytes)) = some (some z, 1, by')) (hzs : z.cells.size = 1) (hby : by' ≤ 8)
    {ops : Array Oper} {rest : List Oper} {o : Oper} {a : Act} {Q : Exit → Act → World → Prop} {w : World} (hgd : o.guard = none) (s x : Operand)
    (ho : o.op = .call { callee := .builtin .append, args := #[s, x], argTypes := #[ts, ts] }) (w0 : World) (base : Nat) (r : Option Addr) (cap : Nat) (xs ps : List Int) (n : Nat) (hn : ps.length = n) (hn0 : 0 < n)
    (hw : w = w0.alloc (.cells (ps.map (Value.int k)).toArray te)) (hs : a.eval s = .slice r xs.length cap) (hx : a.eval x = .slice (some ⟨w0.heap.size, 0, none⟩) n n)
    (hown : OwnK k te w0 base r cap xs) (hl : xs.length + n ≤ 1099511627776) (hb : base ≤ w0.heap.size)
    (h : ∀ r' cap' w', OwnK k te w' base r' cap' (xs ++ ps) → Below base w0 w' → (∀ q, q < w0.heap.size → (∀ a, r = some a → a.block ≠ q) → w'.heap[q]? = w0.heap[q]?) → (∀ a, r' = some a → (∃ a0, r = some a0 ∧ a0.block = a.block) ∨ w0.heap.size ≤ a.block) → wpList Try.prog ops Q rest (a.put o.dst (.slice r' (xs.length + n) cap')) w') : wpList Try.prog ops Q (o :: rest) a w := by
  subst hw
  subst hn
  obtain ⟨i0, hi, hz0, hz1, hz2⟩ := info_parts hinf
  have hown2 : (w0.alloc (.cells (ps.map (Value.int k)).toArray te)).ownsRow base te 1 (.slice r xs.length cap) xs.length (xs.map (Value.int k)) := World.ownsRow.alloc hown _
  refine wpList_append_lies (w0.alloc (.cells (ps.map (Value.int k)).toArray te)) hgd s x ts ho base te i0 z 1 by' hts hi hz0 hz1 hz2 hzs (by omega) _ xs.length (xs.map (Value.int k)) hs hown2 ⟨w0.heap.size, 0, none⟩ ps.length ps.length (ps.map (Value.int k)) hx (by simp) ?_ (ints_oneCell k ps) hn0 ?_ ?_ (by simp; omega) _ rfl ?_
  · intro j u hj
    have : (⟨w0.heap.size, 0, none⟩ : Addr).add j = ⟨w0.heap.size, j, none⟩ := by
      by_cases hj0 : j = 0
      · subst hj0; simp [Addr.add]
      · simp [Addr.add, hj0]
    rw [this, World.cell?_alloc_new]
    simpa using hj
  · unfold maxLen; omega
  · have : (xs.length + ps.length) * by' ≤ 1099511627776 * 8 := Nat.mul_le_mul (by omega) hby
    omega
  · intro g cap' w1 hown' hgrow hg _
    refine h _ _ _ ?_ ?_ ?_ ?_
    · unfold OwnK
      rw [List.length_append, List.map_append]
      exact hown'
    · exact ((Below.refl base w0).alloc hb _).grown hgrow (by simp only [World.size_alloc]; omega) (fun k hk => (World.ownsRow.lt hown2 k hk).1)
    · intro q hq hr
      rw [hgrow.block q (by rw [World.size_alloc]; omega) ?_, Below.heap_alloc _ _ _ hq]
      cases r with
      | none => simp [Value.ownBlock]
      | some a0 =>
        simp only [Value.ownBlock, ne_eq, Option.some.injEq]
        exact fun e => hr a0 rfl e.symm
    · intro a ha
      obtain rfl : ⟨g, 0, none⟩ = a := by simpa using ha
      rcases hg with hg | hg
      · cases r with
        | none => simp [Value.ownBlock] at hg
        | some a0 =>
          simp only [Value.ownBlock, Option.some.injEq] at hg
          exact .inl ⟨a0, rfl, hg⟩
      · right
        rw [hg, World.size_alloc]
        exact Nat.le_succ _
/-- A block that the writer in block b does not hold. -/
def Safe (w : World) (b q : Nat) : Prop := q < w.heap.size ∧ q ≠ b ∧ ∀ ad l c, w.cell? ⟨b, 0, none⟩ = some (.slice (some ad) l c) → ad.block ≠ q
/-- What the writer does not hold stays. -/
def KeepW (w w' : World) (b : Nat) : Prop := ∀ q, Safe w b q → Safe w' b q ∧ w'.heap[q]? = w.heap[q]?
theorem KeepW.refl (w : World) (b : Nat) : KeepW w w b := fun _ h => ⟨h, rfl⟩
theorem KeepW.trans {a b c : World} {d : Nat} (h : KeepW a b d) (k : KeepW b c d) : KeepW a c d := fun q hq => ⟨(k q (h q hq).1).1, (k q (h q hq).1).2.trans (h q hq).2⟩
def byteAt (n : Int) (j : Nat) : Int := n / 2 ^ (56 - 8 * j) % 256
/-- A number in eight bytes. -/
def num8 (n : Int) : List Int := [byteAt n 0, byteAt n 1, byteAt n 2, byteAt n 3, byteAt n 4, byteAt n 5, byteAt n 6, byteAt n 7]
theorem num8_take {n : Int} {j : Nat} (hj : j < 8) : (num8 n).take (j + 1) = (num8 n).take j ++ [byteAt n j] := by
  rcases j with _ | _ | _ | _ | _ | _ | _ | _ | j <;> first | rfl | omega
theorem num8_len (n : Int) : (num8 n).length = 8 := rfl
theorem byteAt_byte (n : Int) (j : Nat) : 0 ≤ byteAt n j ∧ byteAt n j ≤ 255 := by unfold byteAt; omega
theorem num8_byte (n : Int) : ByteL (num8 n) := by
  intro y hy
  simp only [num8, List.mem_cons, List.not_mem_nil, or_false] at hy
  rcases hy with rfl | rfl | rfl | rfl | rfl | rfl | rfl | rfl <;> exact byteAt_byte _ _
theorem shr_byte (n : Int) {k : Nat} (hk : k < 8) : IntKind.u8.wrap (IntKind.u64.wrap n / 2 ^ (56 - 8 * (k : Int)).toNat) = byteAt n k := by
  have e : ∀ y : Int, IntKind.u8.wrap y = y % 256 := fun y => by simp [IntKind.wrap, IntKind.signed, IntKind.bits]
  have e2 : ∀ y : Int, IntKind.u64.wrap y = y % 18446744073709551616 := fun y => by simp [IntKind.wrap, IntKind.signed, IntKind.bits]
  rw [e, e2]
  unfold byteAt
  rcases k with _ | _ | _ | _ | _ | _ | _ | _ | k
  · show n % 18446744073709551616 / (2 : Int) ^ 56 % 256 = n / (2 : Int) ^ 56 % 256
    rw [show (2 : Int) ^ 56 = 72057594037927936 from rfl]
    omega
  · show n % 18446744073709551616 / (2 : Int) ^ 48 % 256 = n / (2 : Int) ^ 48 % 256
    rw [show (2 : Int) ^ 48 = 281474976710656 from rfl]
    omega
  · show n % 18446744073709551616 / (2 : Int) ^ 40 % 256 = n / (2 : Int) ^ 40 % 256
    rw [show (2 : Int) ^ 40 = 1099511627776 from rfl]
    omega
  · show n % 18446744073709551616 / (2 : Int) ^ 32 % 256 = n / (2 : Int) ^ 32 % 256
    rw [show (2 : Int) ^ 32 = 4294967296 from rfl]
    omega
  · show n % 18446744073709551616 / (2 : Int) ^ 24 % 256 = n / (2 : Int) ^ 24 % 256
    rw [show (2 : Int) ^ 24 = 16777216 from rfl]
    omega
  · show n % 18446744073709551616 / (2 : Int) ^ 16 % 256 = n / (2 : Int) ^ 16 % 256
    rw [show (2 : Int) ^ 16 = 65536 from rfl]
    omega
  · show n % 18446744073709551616 / (2 : Int) ^ 8 % 256 = n / (2 : Int) ^ 8 % 256
    rw [show (2 : Int) ^ 8 = 256 from rfl]
    omega
  · show n % 18446744073709551616 / (2 : Int) ^ 0 % 256 = n / (2 : Int) ^ 0 % 256
    rw [show (2 : Int) ^ 0 = 1 from rfl]
    omega
  · omega
set_option maxRecDepth 100000 in
set_option maxHeartbeats 2000000 in
theorem wint_any (b : Nat) (n : Int) (xs : List Int) (w : World) (hw : Wr w b xs) (hl : xs.length ≤ 100000000000) : Calls Try.prog 72 #[.pointer (some ⟨b, 0, none⟩), .int .i64 n] w fun e w' => e = .returned (.tuple #[]) ∧ Wr w' b (xs ++ num8 n) ∧ Below b w w' ∧ KeepW w w' b := by
  go_enter Try.func72, Try.ntmps72
  go_wp2
  go_loopg [4] 8 (fun kx s4 wr => ∃ (k : Nat) (out : List Int) (kk : Int), s4 = .int .i64 kk ∧ kk = 56 - 8 * (k : Int) ∧ k ≤ 8 ∧ 8 - k ≤ kx ∧ Below b w wr ∧ Hid (KeepW w wr b) ∧ Hid (Wr wr b out) ∧ Hid (out = xs ++ (num8 n).take k) ∧ out.length = xs.length + k)
  case atStart => exact ⟨0, xs, 56, rfl, by omega, by omega, by omega, Below.refl _ _, Lib.hid (KeepW.refl _ _), Lib.hid hw, Lib.hid (by simp), by simp⟩
  case round =>
    obtain ⟨k, out, kk, rfl, hkk, hk, hkx, hbw, HKW, HW, HQ, hol⟩ := hrel
    by_cases hlt : k < 8
    · obtain ⟨r, cap, hb, hc, hf, hown⟩ := HW.out
      have hk1 : (0 : Int) ≤ kk := by omega
      have hk2 : IntKind.i64.wrap (kk - 8) = kk - 8 := IntWalk.i64_in _ (by omega)
      have hk3 : min kk.toNat 64 = kk.toNat := by omega
      have HKK := Lib.hid hkk
      clear hkk
      have HO := Lib.hid hown
      clear hown
      have hol3 : out.length ≤ 100000000008 := by omega
      have HOL := Lib.hid hol
      clear hol
      have hWn : Below b w wr.drew := hbw.drew
      have hca : ∀ o, (wr.drew.alloc o).cell? ⟨b, 0, none⟩ = some (.slice r out.length cap) := fun o => by
        rw [World.cell?_alloc_some _ _ _ (by rw [show wr.drew.cell? ⟨b, 0, none⟩ = _ from hc]; rfl)]
        exact hc
      go_wp2
      go_region_law ((refine step_of_list ?_); (refine wpList_append_kf Try.underlying29 infoU8 rfl (by omega) (by rfl) _ _ (by rfl) wr.drew (b + 1) r cap out [IntKind.u8.wrap (IntKind.u64.wrap n / 2 ^ kk.toNat)] 1 rfl (by omega) (by rfl) (by rfl) (by rfl) (HO.out.below (Below.refl _ _).drew (Nat.le_refl _)) (by omega) hb ?_); (intro r' c' w1 hown1 hbw1 hst1 hrr1); (have HST := Lib.hid hst1); (have HRR := Lib.hid hrr1); (clear hst1 hrr1); (have HO1 := Lib.hid hown1); (clear hown1); (have hcw1 : w1.cell? ⟨b, 0, none⟩ = some (.slice r out.length cap) := by rw [hbw1.cell (p := ⟨b, 0, none⟩) (Nat.lt_succ_self b)]; exact hc); (have hfw1 : w1.frozen? ⟨b, 0, none⟩ = false := by rw [hbw1.frozen (p := ⟨b, 0, none⟩) (Nat.lt_succ_self b)]; exact hf); (refine ⟨rfl, ?_⟩))
      all_goals
        have hv : IntKind.u8.wrap (IntKind.u64.wrap n / 2 ^ kk.toNat) = byteAt n k := by
          rw [HKK.out]; exact shr_byte n hlt
        rw [hv] at HO1
        have hlen : (out ++ [byteAt n k]).length = out.length + 1 := by simp
        have HWr : Hid (Wr (w1.setCell ⟨b, 0, none⟩ (.slice r' (out.length + 1) c')) b (out ++ [byteAt n k])) := Lib.hid (by
          refine ⟨r', c', ?_, ?_, ?_, ?_⟩
          · rw [World.size_setCell]; exact Nat.lt_of_lt_of_le hb hbw1.size
          · rw [World.cell?_setCell_same' _ _ _ (by rw [hcw1]; rfl), hlen]
          · rw [World.frozen?_setCell]; exact hfw1
          · exact HO1.out.set (Nat.lt_succ_self b) _)
        have hbz : Below b w (w1.setCell ⟨b, 0, none⟩ (.slice r' (out.length + 1) c')) := (hWn.trans (hbw1.mono (Nat.le_succ b))).setCell (Nat.le_refl b) _
        have HQ2 : Hid (out ++ [byteAt n k] = xs ++ (num8 n).take (k + 1)) := Lib.hid (by rw [HQ.out, num8_take hlt, List.append_assoc])
        have HL2 : Hid ((out ++ [byteAt n k]).length = xs.length + (k + 1)) := Lib.hid (by rw [hlen, HOL.out]; omega)
        have HKW2 : Hid (KeepW w (w1.setCell ⟨b, 0, none⟩ (.slice r' (out.length + 1) c')) b) := Lib.hid (HKW.out.trans (fun q hq => by
          obtain ⟨h1, h2, h3⟩ := hq
          have hr : ∀ a, r = some a → a.block ≠ q := fun a ha => h3 a _ _ (by rw [hc, ha])
          refine ⟨⟨?_, h2, fun ad l c hc3 => ?_⟩, ?_⟩
          · rw [World.size_setCell]; exact Nat.lt_of_lt_of_le h1 hbw1.size
          · rw [World.cell?_setCell_same' _ _ _ (by rw [hcw1]; rfl)] at hc3
            simp only [Option.some.injEq, Value.slice.injEq] at hc3
            rcases HRR.out ad hc3.1 with ⟨a0, ha0, he⟩ | hge
            · rw [← he]; exact hr a0 ha0
            · exact fun e => by rw [e] at hge; exact absurd h1 (Nat.not_lt.2 hge)
          · rw [Below.heap_setCell _ _ _ _ h2]; exact HST.out q h1 hr))
        generalize w1.setCell ⟨b, 0, none⟩ (.slice r' (out.length + 1) c') = W2 at *
        clear hcw1 hfw1 hca hc hf hv hlen HO1 HO HW HST HRR
        go_wp2
        go_roundg (8 - (k + 1))
        case measure => omega
        case rel => exact ⟨k + 1, _, kk - 8, by go_num, by have := HKK.out; omega, by omega, by omega, hbz, HKW2, HWr, HQ2, HL2.out⟩
    · obtain rfl : k = 8 := by omega
      obtain rfl : kk = -8 := by omega
      go_wp2
      refine bodyPost_end (results_none rfl _ _ _) rfl ?_
      refine ⟨rfl, ?_, hbw, HKW.out⟩
      have := HW.out
      rw [HQ.out] at this
      exact this
end Go.Proofs.Ytfooefiaenlhmaa
namespace Go.Proofs.Ytfooefiaenlhmaa
set_option linter.unusedVariables false
set_option linter.unusedSimpArgs false
open Go.RowKit Go.ChangeShapes Go.WideShapes Go.ChangeAt

def nums8 (l : List Int) : List Int := l.flatMap num8
/-- A list of numbers in bytes. -/
def list8 (l : List Int) : List Int := num8 l.length ++ nums8 l
theorem nums8_take {l : List Int} {k : Nat} (hk : k < l.length) : nums8 (l.take (k + 1)) = nums8 (l.take k) ++ num8 (l.getD k 0) := by
  rw [List.take_add_one, List.getElem?_eq_getElem hk]
  unfold nums8
  rw [List.flatMap_append]
  simp [List.getD, List.getElem?_eq_getElem hk]
theorem nums8_len (l : List Int) : (nums8 l).length = 8 * l.length := by
  induction l with
  | nil => rfl
  | cons x l ih => simp only [nums8, List.flatMap_cons, List.length_append, num8_len, List.length_cons] at ih ⊢; omega
theorem nums8_byte (l : List Int) : ByteL (nums8 l) := by
  intro y hy
  simp only [nums8, List.mem_flatMap] at hy
  obtain ⟨x, hx, hy⟩ := hy
  exact num8_byte x y hy
theorem list8_len (l : List Int) : (list8 l).length = 8 + 8 * l.length := by
  unfold list8; rw [List.length_append, num8_len, nums8_len]
set_option maxRecDepth 100000 in
set_option maxHeartbeats 2000000 in
theorem wlist_any (b : Nat) (r : Option Addr) (cap : Nat) (l : List Int) (xs : List Int) (W0 w : World) (hx : IsInts W0 r cap .i64 l) (hB : W0.heap.size ≤ b) (hb0 : Below W0.heap.size W0 w) (hw : Wr w b xs) (hl : xs.length + 8 * l.length ≤ 90000000000) : Calls Try.prog 74 #[.pointer (some ⟨b, 0, none⟩), .slice r l.length cap] w fun e w' => e = .returned (.tuple #[]) ∧ Wr w' b (xs ++ list8 l) ∧ Below b w w' ∧ KeepW w w' b := by
  have HX : Hid (l = [] ∨ ∃ b off, r = some ⟨b, off, none⟩ ∧ b < W0.heap.size ∧ ∀ i, i < l.length → W0.cell? ⟨b, off + i, none⟩ = some (.int .i64 (l.getD i 0))) := Lib.hid (by
    by_cases e : l = []
    · exact .inl e
    · exact .inr (hx.cells e))
  have HS : Hid (∀ k, k < l.length → nums8 (l.take (k + 1)) = nums8 (l.take k) ++ num8 (l.getD k 0)) := Lib.hid (fun k hk => nums8_take hk)
  have HLN : Hid (∀ k, k ≤ l.length → (nums8 (l.take k)).length = 8 * k) := Lib.hid (fun k hk => by rw [nums8_len, List.length_take]; omega)
  have HE : Hid (xs ++ list8 l = xs ++ num8 l.length ++ nums8 (l.take l.length)) := Lib.hid (by rw [List.take_length, list8, List.append_assoc])
  have hlm : l.length < 1000000000000 := by omega
  clear hx
  have HB0 := Lib.hid hb0
  have HWr := Lib.hid hw
  clear hb0 hw
  generalize list8 l = res at *
  generalize hn : l.length = n at *
  have HN := Lib.hid hn
  clear hn
  go_enter Try.func74, Try.ntmps74
  go_wp2_with (go_at_call 72; refine (wint_any b _ xs _ HWr.out (by omega)).mono ?_; rintro e w1 ⟨rfl, hW1, hb1, hk1⟩)
  have HW1 := Lib.hid hW1
  have HK1 := Lib.hid hk1
  clear hW1 hk1
  go_loopg [12] n (fun kx s12 wr => ∃ (k : Nat) (out : List Int), s12 = .int .i64 k ∧ k ≤ n ∧ n - k ≤ kx ∧ Below b w wr ∧ Hid (KeepW w wr b) ∧ Hid (Wr wr b out) ∧ Hid (out = xs ++ num8 n ++ nums8 (l.take k)))
  case atStart => exact ⟨0, _, rfl, by omega, by omega, hb1, HK1, HW1, Lib.hid (by simp [nums8])⟩
  case round =>
    obtain ⟨k, out, rfl, hk, hkx, hbw, HKW, HW, HQ⟩ := hrel
    by_cases hlt : k < n
    · have hk1 : (0 : Int) ≤ (k : Int) := by omega
      have hk2 : (k : Int) < n := by omega
      obtain ⟨bX, off, rfl, hb, hc⟩ := HX.out.resolve_left (fun e => by have := HN.out; rw [e] at this; simp at this; omega)
      have hc1 : wr.cell? ⟨bX, off + k, none⟩ = some (.int .i64 (l.getD k 0)) := by
        rw [(HB0.out.trans (hbw.mono hB)).cell (p := ⟨bX, off + k, none⟩) hb]; exact hc k hlt
      have HQ2 := Lib.hid (HS.out k hlt)
      have hol : out.length ≤ 100000000000 := by
        have := HLN.out k (by omega)
        rw [HQ.out, List.length_append, List.length_append, num8_len, this]
        omega
      clear hc
      generalize l.getD k 0 = x at *
      go_wp2_with (go_at_call 72; refine (wint_any b _ out _ HW.out hol).mono ?_; rintro e w2 ⟨rfl, hW2, hb2, hk3⟩)
      have HW2 := Lib.hid hW2
      have HK2 := Lib.hid (HKW.out.trans hk3)
      clear hW2 hk3
      go_roundg (n - (k + 1))
      case measure => omega
      case rel => exact ⟨k + 1, _, by go_num, by omega, by omega, hbw.trans hb2, HK2, HW2, Lib.hid (by rw [HQ2.out, HQ.out, List.append_assoc])⟩
    · obtain rfl : k = n := by omega
      go_wp2
      refine bodyPost_end (results_none rfl _ _ _) rfl ?_
      refine ⟨rfl, ?_, hbw, HKW.out⟩
      rw [HE.out, ← HQ.out]
      exact HW.out
end Go.Proofs.Ytfooefiaenlhmaa
namespace Go.Proofs.Ytfooefiaenlhmaa
set_option linter.unusedVariables false
set_option linter.unusedSimpArgs false
open Go.RowKit Go.ChangeShapes Go.WideShapes Go.ChangeAt

/-- How many zero bytes follow n bytes. -/
def padN (n : Nat) : Nat := (4 - n % 4) % 4
def summed (xs : List Int) : List Int := xs ++ b4 (sumB xs)
/-- A body with its sum and zero bytes. -/
def sealL (xs : List Int) : List Int := summed xs ++ List.replicate (padN (summed xs).length) 0
theorem summed_len (xs : List Int) : (summed xs).length = xs.length + 4 := by unfold summed; rw [List.length_append, b4_len]
theorem sumB_u32 (xs : List Int) : 0 ≤ sumB xs ∧ sumB xs ≤ 4294967295 := by have := sumF_bd (s := 1) (by omega) xs; unfold sumB; omega
theorem padN_lt (n : Nat) : padN n ≤ 3 := by unfold padN; omega
theorem padN_mod {n k : Nat} (hk : k ≤ padN n) : ((n + k) % 4 = 0) ↔ k = padN n := by unfold padN at *; omega
theorem sealL_len (xs : List Int) : (sealL xs).length = xs.length + 4 + padN (xs.length + 4) := by unfold sealL; rw [List.length_append, List.length_replicate, summed_len]
theorem sealL_byte {xs : List Int} (h : ByteL xs) : ByteL (sealL xs) := by
  intro y hy
  simp only [sealL, summed, List.mem_append, List.mem_replicate] at hy
  rcases hy with (hy | hy) | ⟨_, rfl⟩
  · exact h y hy
  · exact b4_byte (sumB_u32 xs) y hy
  · omega
set_option maxRecDepth 100000 in
set_option maxHeartbeats 2000000 in
theorem sealed_any (base : Nat) (r : Option Addr) (cap : Nat) (xs : List Int) (w : World) (ho : OwnK .u8 5 w base r cap xs) (hb : ByteL xs) (hl : xs.length ≤ 90000000000) (hbase : base ≤ w.heap.size) : Calls Try.prog 35 #[.slice r xs.length cap] w fun e w' => ∃ ro co, e = .returned (.slice ro (sealL xs).length co) ∧ OwnK .u8 5 w' base ro co (sealL xs) ∧ Below base w w' := by
  have hx : IsInts w r cap .u8 xs := ho.ints (fun x hx => u8_wf (hb x hx).1 (hb x hx).2)
  have ⟨s0, s1⟩ := sumB_u32 xs
  have HO := Lib.hid ho
  clear ho
  have HM : Hid (∀ k, k ≤ padN (summed xs).length → ((((summed xs ++ List.replicate k (0 : Int)).length : Int)) % 4 = 0 ↔ k = padN (summed xs).length)) := Lib.hid (fun k hk => by
    rw [List.length_append, List.length_replicate]
    have := padN_mod (n := (summed xs).length) hk
    omega)
  have HL : Hid ((summed xs).length = xs.length + 4) := Lib.hid (summed_len xs)
  have HP : Hid (padN (summed xs).length ≤ 3) := Lib.hid (padN_lt _)
  have HE : Hid (sealL xs = summed xs ++ List.replicate (padN (summed xs).length) 0) := Lib.hid rfl
  have HU : Hid (summed xs = xs ++ b4 (sumB xs)) := Lib.hid rfl
  generalize sealL xs = res at *
  generalize padN (summed xs).length = pd at *
  generalize summed xs = sm at *
  go_enter Try.func35, Try.ntmps35
  generalize hsm : sumB xs = sv at *
  go_wp2_with (first | (go_at_call 11; refine (isum_any _ _ _ _ hx).mono ?_; rintro e w1 ⟨rfl, hb1⟩; rw [hsm]; have hbz : base ≤ w1.heap.size := Nat.le_trans hbase hb1.size) | (at_builtin; refine wpList_append_k Try.underlying29 infoU8 rfl (by omega) (by rfl) _ _ (by rfl) w1 base r cap xs (b4 sv) 4 rfl (by omega) (by first | rfl | (rw [← b4_wrap s0 s1]; rfl)) (by rfl) (by rfl) (HO.out.below hb1 (Nat.le_refl _)) (by omega) hbz ?_; intro r' c' w2 hown2 hbw2; have HO2 := Lib.hid hown2; clear hown2))
  have hlen : xs.length + 4 = sm.length := HL.out.symm
  rw [hlen]
  have hO3 : Hid (OwnK .u8 5 w2 base r' c' sm) := Lib.hid (by rw [HU.out]; exact HO2.out)
  have hbw : Below base w w2 := (hb1.mono hbase).trans hbw2
  clear HO2 HO
  have hsml : sm.length ≤ 90000000004 := by omega
  go_loopg [0] 4 (fun kx s0 wr => ∃ (k : Nat) (ro : Option Addr) (co : Nat) (out : List Int), s0 = .slice ro out.length co ∧ k ≤ pd ∧ pd - k ≤ kx ∧ Below base w wr ∧ Hid (OwnK .u8 5 wr base ro co out) ∧ Hid (out = sm ++ List.replicate k 0) ∧ out.length ≤ 90000000010)
  case atStart => exact ⟨0, _, _, sm, rfl, by omega, by have := HP.out; omega, hbw, hO3, Lib.hid (by simp), by omega⟩
  case round =>
    obtain ⟨k, ro, co, out, rfl, hk, hkx, hbr, HOr, HQ, hol⟩ := hrel
    have hbs : base ≤ wr.heap.size := Nat.le_trans hbase hbr.size
    have HMk := Lib.hid (HM.out k hk)
    rw [← HQ.out] at HMk
    by_cases hlt : k < pd
    · have hm : ¬ ((out.length : Int) % 4 = 0) := fun h => by have := HMk.out.1 h; omega
      go_wp2_with (at_builtin; refine wpList_append_k Try.underlying29 infoU8 rfl (by omega) (by rfl) _ _ (by rfl) wr base ro co out [0] 1 rfl (by omega) (by rfl) (by rfl) (by rfl) HOr.out (by omega) hbs ?_; intro r2 c2 w3 hown3 hbw3; have HO4 := Lib.hid hown3; clear hown3)
      go_roundg (pd - (k + 1))
      case measure => omega
      case rel => exact ⟨k + 1, r2, c2, out ++ [0], by simp, by omega, by omega, hbr.trans hbw3, HO4, Lib.hid (by rw [HQ.out, List.append_assoc, List.replicate_succ']), by have := HQ.out; have := HP.out; rw [HQ.out]; simp only [List.length_append, List.length_replicate, List.length_singleton]; omega⟩
    · obtain rfl : k = pd := by omega
      have hm : (out.length : Int) % 4 = 0 := HMk.out.2 rfl
      go_wp2
      go_ret
      have he : out = res := by rw [HE.out, HQ.out]
      subst he
      exact ⟨ro, co, rfl, HOr.out, hbr⟩
end Go.Proofs.Ytfooefiaenlhmaa
namespace Go.Proofs.Ytfooefiaenlhmaa
set_option linter.unusedVariables false
set_option linter.unusedSimpArgs false
open Go.RowKit Go.ChangeShapes Go.WideShapes Go.ChangeAt

theorem infoI64 : (Try.prog.info? 3).map (fun i => (i.zero, i.size, i.bytes)) = some (some (.int .i64 0), 1, 8) := by kernel_rfl
set_option maxRecDepth 100000 in
theorem growI (n : Nat) (hn : n ≤ 1000000) (w : World) : Calls Try.prog 110 #[.slice none 0 0, .int .i64 n] w fun e w' => ∃ r cap, e = .returned (.slice r 0 cap) ∧ OwnK .i64 3 w' w.heap.size r cap [] ∧ Below w.heap.size w w' := by
  by_cases h0 : n = 0
  · subst h0
    go_enter Try.func110, Try.ntmps110
    go_wp2
    go_ret
    exact ⟨none, 0, rfl, OwnK.nil _ _, by (repeat' (first | (with_reducible exact Below.refl _ _) | (with_reducible assumption) | (with_reducible refine below_alloc ?_ _) | (with_reducible refine Below.drew ?_) | (with_reducible refine below_drewN ?_ _) | (with_reducible refine below_step (by assumption) ?_) | (with_reducible refine below_later ?_ _) | (with_reducible refine Below.setCell ?_ ?_ _) | go_size))⟩
  · have hn0 : (0 : Int) < n := by omega
    obtain ⟨i0, hi, hz0, hz1, hz2⟩ := info_parts infoI64
    have hs8 : i0.size = 1 := hz1
    have hb8 : i0.bytes = 8 := hz2
    go_enter Try.func110, Try.ntmps110
    go_wp2_with (at_builtin; refine Lib.wpList_append_run _ (by rfl) _ _ _ _ (by rfl) _ _ (by rfl) (by rfl) _ _ (Lib.run_append_nil_zeros _ _ _ _ 3 i0 (.int .i64 0) .i64 .i64 Try.underlying26 Try.underlying3 hi hz0 n (by omega) (by omega) (by omega) (by rw [hz2]; omega)) ?_)
    go_ret
    refine ⟨some ⟨w.heap.size, 0, none⟩, grownCap w n 0 3, rfl, ⟨by simp, Or.inr ⟨w.heap.size, grownCap w n 0 3, _, rfl, Nat.le_refl _, heap_alloc_new w _, Nat.zero_le _, grownCap_le_maxLen w n 0 3 (by unfold maxLen; omega), ?_, by simp⟩⟩, by (repeat' (first | (with_reducible exact Below.refl _ _) | (with_reducible assumption) | (with_reducible refine below_alloc ?_ _) | (with_reducible refine Below.drew ?_) | (with_reducible refine below_drewN ?_ _) | (with_reducible refine below_step (by assumption) ?_) | (with_reducible refine below_later ?_ _) | (with_reducible refine Below.setCell ?_ ?_ _) | go_size))⟩
    have := grownCap_ge w n 0 3
    simp only [Array.size_append, size_zeroCells, List.size_toArray, List.length_singleton]
    omega

set_option maxRecDepth 100000 in
set_option maxHeartbeats 2000000 in
theorem concat2I (b : Nat) (r1 r2 : Option Addr) (c1 c2 : Nat) (xs ys : List Int) (w : World) (hb : b < w.heap.size) (d0 : w.cell? ⟨b, 0, none⟩ = some (.slice r1 xs.length c1)) (d1 : w.cell? ⟨b, 1, none⟩ = some (.slice r2 ys.length c2))
    (hx : IsInts w r1 c1 .i64 xs) (hy : IsInts w r2 c2 .i64 ys) (hl : xs.length + ys.length ≤ 100000) (hw : ∀ x ∈ xs ++ ys, (Lit.int .i64 x).wf = true) :
    Calls Try.prog 70 #[.slice (some ⟨b, 0, none⟩) 2 2] w fun e w' => ∃ r cap, e = .returned (.slice r (xs ++ ys).length cap) ∧ IsInts w' r cap .i64 (xs ++ ys) ∧ Below w.heap.size w w' := by
  have HX : Hid (∀ w', Below w.heap.size w w' → IsInts w' r1 c1 .i64 xs) := Lib.hid (fun _ h => hx.later h)
  have HY : Hid (∀ w', Below w.heap.size w w' → IsInts w' r2 c2 .i64 ys) := Lib.hid (fun _ h => hy.later h)
  have HW := Lib.hid hw
  have HL : Hid ((xs ++ ys).length = xs.length + ys.length) := Lib.hid (by simp)
  clear hx hy hw
  go_enter Try.func70, Try.ntmps70
  go_wp2
  go_loopg [3, 11] 2 (fun kx s3 s11 wr => wr = w ∧ ((s3 = .int .i64 0 ∧ s11 = .int .i64 0 ∧ 2 ≤ kx) ∨ (s3 = .int .i64 xs.length ∧ s11 = .int .i64 1 ∧ 1 ≤ kx) ∨ (s3 = .int .i64 ((xs.length : Int) + ys.length) ∧ s11 = .int .i64 2)))
  case atStart => exact ⟨rfl, .inl ⟨rfl, rfl, Nat.le_refl _⟩⟩
  case round =>
    obtain ⟨rfl, h⟩ := hrel
    rcases h with ⟨rfl, rfl, hk⟩ | ⟨rfl, rfl, hk⟩ | ⟨rfl, rfl⟩
    · go_wp2
      go_roundg 1
      case measure => omega
      case rel => exact ⟨rfl, .inr (.inl ⟨by go_num, by go_num, Nat.le_refl _⟩)⟩
    · go_wp2
      go_roundg 0
      case measure => omega
      case rel => exact ⟨rfl, .inr (.inr ⟨by go_num, by go_num⟩)⟩
    · go_wp2_with (go_at_call 110; rw [show ((xs.length : Int) + ys.length) = ((xs.length + ys.length : Nat) : Int) by omega]; refine (growI (xs.length + ys.length) (by omega) _).mono ?_; rintro x hb1w ⟨r0, q0, rfl, hown0, hb1⟩; have HO0 := Lib.hid hown0; clear hown0; have hb1s := hb1.size)
      go_loopg [6, 27] 2 (fun kx s6 s27 we => ∃ (e : Later wr) (r : Option Addr) (cap : Nat), we = e.w ∧ ((s6 = .slice r 0 cap ∧ s27 = .int .i64 0 ∧ 2 ≤ kx ∧ Hid (OwnK .i64 3 e.w wr.heap.size r cap [])) ∨ (s6 = .slice r xs.length cap ∧ s27 = .int .i64 1 ∧ 1 ≤ kx ∧ Hid (OwnK .i64 3 e.w wr.heap.size r cap xs)) ∨ (s6 = .slice r (xs ++ ys).length cap ∧ s27 = .int .i64 2 ∧ Hid (OwnK .i64 3 e.w wr.heap.size r cap (xs ++ ys)))))
      case atStart => exact ⟨⟨hb1w, hb1⟩, r0, q0, rfl, .inl ⟨rfl, rfl, Nat.le_refl _, HO0⟩⟩
      case round =>
        clear HO0
        obtain ⟨e, r, cap, rfl, h⟩ := hrel
        have hes := e.h.size
        rcases h with ⟨rfl, rfl, hk, HO⟩ | ⟨rfl, rfl, hk, HO⟩ | ⟨rfl, rfl, HO⟩
        · go_wp2_with (at_builtin; refine wpList_append_ks Try.underlying26 infoI64 rfl (by omega) (by rfl) _ _ (by rfl) _ r r1 cap c1 [] xs (by rfl) (by rfl) HO.out (HX.out _ e.h) (by simp; omega) (by omega) ?_; intro r' cap' w1 hown1 hbw1; have HO1 := Lib.hid hown1; clear hown1)
          go_roundg 1
          case measure => omega
          case rel => exact ⟨⟨w1, e.h.trans hbw1⟩, r', cap', rfl, .inr (.inl ⟨rfl, by go_num, Nat.le_refl _, HO1⟩)⟩
        · go_wp2_with (at_builtin; refine wpList_append_ks Try.underlying26 infoI64 rfl (by omega) (by rfl) _ _ (by rfl) _ r r2 cap c2 xs ys (by rfl) (by rfl) HO.out (HY.out _ e.h) (by omega) (by omega) ?_; intro r' cap' w1 hown1 hbw1; have HO1 := Lib.hid hown1; clear hown1)
          go_roundg 0
          case measure => omega
          case rel => exact ⟨⟨w1, e.h.trans hbw1⟩, r', cap', rfl, .inr (.inr ⟨by simp, by go_num, HO1⟩)⟩
        · go_wp2
          go_ret
          exact ⟨r, cap, rfl, HO.out.ints HW.out, e.h⟩
end Go.Proofs.Ytfooefiaenlhmaa
namespace Go.Proofs.Ytfooefiaenlhmaa
set_option linter.unusedVariables false
set_option linter.unusedSimpArgs false
open Go.RowKit Go.ChangeShapes Go.WideShapes Go.ChangeAt

set_option maxRecDepth 100000 in
theorem idx0F (v : Value) (w : World) : Calls Try.prog 97 #[.slice none 0 0, v] w fun e w' => e = .returned (.int .i64 (-1)) ∧ Below w.heap.size w w' := by
  go_enter Try.func97, Try.ntmps97
  go_wp2
  go_loopg [8] 0 (fun kx s8 wr => s8 = .int .i64 0 ∧ Below w.heap.size w wr)
  case atStart => exact ⟨rfl, Below.refl _ _⟩
  case round =>
    obtain ⟨rfl, hb⟩ := hrel
    go_wp2
    go_ret
    exact ⟨rfl, hb⟩
set_option maxRecDepth 100000 in
theorem has0F (v : Value) (w : World) : Calls Try.prog 58 #[.slice none 0 0, v] w fun e w' => e = .returned (.bool false) ∧ Below w.heap.size w w' := by
  go_enter Try.func58, Try.ntmps58
  go_wp2_with (go_at_call 97; refine (idx0F _ _).mono ?_; rintro e w1 ⟨rfl, hb⟩)
  go_ret
  exact ⟨rfl, hb⟩
set_option maxRecDepth 100000 in
theorem idx0C (v : Value) (w : World) : Calls Try.prog 54 #[.slice none 0 0, v] w fun e w' => e = .returned (.int .i64 (-1)) ∧ Below w.heap.size w w' := by
  go_enter Try.func54, Try.ntmps54
  go_wp2
  go_loopg [8] 0 (fun kx s8 wr => s8 = .int .i64 0 ∧ Below w.heap.size w wr)
  case atStart => exact ⟨rfl, Below.refl _ _⟩
  case round =>
    obtain ⟨rfl, hb⟩ := hrel
    go_wp2
    go_ret
    exact ⟨rfl, hb⟩
set_option maxRecDepth 100000 in
theorem has0C (v : Value) (w : World) : Calls Try.prog 28 #[.slice none 0 0, v] w fun e w' => e = .returned (.bool false) ∧ Below w.heap.size w w' := by
  go_enter Try.func28, Try.ntmps28
  go_wp2_with (go_at_call 54; refine (idx0C _ _).mono ?_; rintro e w1 ⟨rfl, hb⟩)
  go_ret
  exact ⟨rfl, hb⟩
set_option maxRecDepth 100000 in
theorem idx0M (v : Value) (w : World) : Calls Try.prog 55 #[.slice none 0 0, v] w fun e w' => e = .returned (.int .i64 (-1)) ∧ Below w.heap.size w w' := by
  go_enter Try.func55, Try.ntmps55
  go_wp2
  go_loopg [8] 0 (fun kx s8 wr => s8 = .int .i64 0 ∧ Below w.heap.size w wr)
  case atStart => exact ⟨rfl, Below.refl _ _⟩
  case round =>
    obtain ⟨rfl, hb⟩ := hrel
    go_wp2
    go_ret
    exact ⟨rfl, hb⟩
set_option maxRecDepth 100000 in
theorem has0M (v : Value) (w : World) : Calls Try.prog 30 #[.slice none 0 0, v] w fun e w' => e = .returned (.bool false) ∧ Below w.heap.size w w' := by
  go_enter Try.func30, Try.ntmps30
  go_wp2_with (go_at_call 55; refine (idx0M _ _).mono ?_; rintro e w1 ⟨rfl, hb⟩)
  go_ret
  exact ⟨rfl, hb⟩
set_option maxRecDepth 100000 in
theorem idx0I (v : Value) (w : World) : Calls Try.prog 104 #[.slice none 0 0, v] w fun e w' => e = .returned (.int .i64 (-1)) ∧ Below w.heap.size w w' := by
  go_enter Try.func104, Try.ntmps104
  go_wp2
  go_loopg [8] 0 (fun kx s8 wr => s8 = .int .i64 0 ∧ Below w.heap.size w wr)
  case atStart => exact ⟨rfl, Below.refl _ _⟩
  case round =>
    obtain ⟨rfl, hb⟩ := hrel
    go_wp2
    go_ret
    exact ⟨rfl, hb⟩
set_option maxRecDepth 100000 in
theorem has0I (v : Value) (w : World) : Calls Try.prog 65 #[.slice none 0 0, v] w fun e w' => e = .returned (.bool false) ∧ Below w.heap.size w w' := by
  go_enter Try.func65, Try.ntmps65
  go_wp2_with (go_at_call 104; refine (idx0I _ _).mono ?_; rintro e w1 ⟨rfl, hb⟩)
  go_ret
  exact ⟨rfl, hb⟩
set_option maxRecDepth 100000 in
theorem idx0N (v : Value) (w : World) : Calls Try.prog 109 #[.slice none 0 0, v] w fun e w' => e = .returned (.int .i64 (-1)) ∧ Below w.heap.size w w' := by
  go_enter Try.func109, Try.ntmps109
  go_wp2
  go_loopg [8] 0 (fun kx s8 wr => s8 = .int .i64 0 ∧ Below w.heap.size w wr)
  case atStart => exact ⟨rfl, Below.refl _ _⟩
  case round =>
    obtain ⟨rfl, hb⟩ := hrel
    go_wp2
    go_ret
    exact ⟨rfl, hb⟩
set_option maxRecDepth 100000 in
theorem has0N (v : Value) (w : World) : Calls Try.prog 68 #[.slice none 0 0, v] w fun e w' => e = .returned (.bool false) ∧ Below w.heap.size w w' := by
  go_enter Try.func68, Try.ntmps68
  go_wp2_with (go_at_call 109; refine (idx0N _ _).mono ?_; rintro e w1 ⟨rfl, hb⟩)
  go_ret
  exact ⟨rfl, hb⟩
@[go_sem] theorem run_store_func {P : Program} {w : World} {a : Addr} {m : Mode} (f : Fn) (x y : Array Value) : (store a (.func f x y) m).run P w = stored P w a (.func f x y) m := run_store P w a _ m rfl
theorem infoBool : (Try.prog.info? 4).map (fun i => (i.zero, i.size, i.bytes)) = some (some (.bool false), 1, 1) := by kernel_rfl
theorem nilI {w : World} {k : IntKind} : IsInts w none 0 k [] := ⟨Nat.le_refl _, Nat.zero_le _, by simp, fun h => absurd rfl h⟩
def prog0 : Value := .agg #[.slice none 0 0, .slice none 0 0, .slice none 0 0, .slice none 0 0, .int .i64 0, .slice none 0 0, .slice none 0 0, .slice none 0 0, .slice none 0 0]
set_option maxRecDepth 100000 in
set_option maxHeartbeats 2000000 in
theorem valid0 (w : World) : Calls Try.prog 34 #[prog0] w fun e w' => e = .returned (.bool true) ∧ Below w.heap.size w w' := by
  unfold prog0
  go_enter Try.func34, Try.ntmps34
  go_wp2_with (first | (go_at_call 58; refine (has0F _ _).mono ?_; rintro e hb0w ⟨rfl, hb0⟩; obtain ⟨hb0c, hb0f⟩ := bcell hb0; have hb0s := hb0.size; (try simp only [World.size_alloc] at hb0s); (try (have : w.heap.size < hb0w.heap.size := by omega)); (try (have : w.heap.size + 1 < hb0w.heap.size := by omega)); (try (have : w.heap.size + 1 + 1 < hb0w.heap.size := by omega)); (try (have : w.heap.size + 1 + 1 + 1 < hb0w.heap.size := by omega)); (try (have : bX < hb0w.heap.size := by omega)); (try (have : bY < hb0w.heap.size := by omega)); (try (have : bZ < hb0w.heap.size := by omega))) | (go_at_call 28; refine (has0C _ _).mono ?_; rintro e hb1w ⟨rfl, hb1⟩; obtain ⟨hb1c, hb1f⟩ := bcell hb1; have hb1s := hb1.size; (try simp only [World.size_alloc] at hb1s); (try (have : w.heap.size < hb1w.heap.size := by omega)); (try (have : w.heap.size + 1 < hb1w.heap.size := by omega)); (try (have : w.heap.size + 1 + 1 < hb1w.heap.size := by omega)); (try (have : w.heap.size + 1 + 1 + 1 < hb1w.heap.size := by omega)); (try (have : bX < hb1w.heap.size := by omega)); (try (have : bY < hb1w.heap.size := by omega)); (try (have : bZ < hb1w.heap.size := by omega))) | (go_at_call 30; refine (has0M _ _).mono ?_; rintro e hb2w ⟨rfl, hb2⟩; obtain ⟨hb2c, hb2f⟩ := bcell hb2; have hb2s := hb2.size; (try simp only [World.size_alloc] at hb2s); (try (have : w.heap.size < hb2w.heap.size := by omega)); (try (have : w.heap.size + 1 < hb2w.heap.size := by omega)); (try (have : w.heap.size + 1 + 1 < hb2w.heap.size := by omega)); (try (have : w.heap.size + 1 + 1 + 1 < hb2w.heap.size := by omega)); (try (have : bX < hb2w.heap.size := by omega)); (try (have : bY < hb2w.heap.size := by omega)); (try (have : bZ < hb2w.heap.size := by omega))) | (go_at_call 65; refine (has0I _ _).mono ?_; rintro e hb3w ⟨rfl, hb3⟩; obtain ⟨hb3c, hb3f⟩ := bcell hb3; have hb3s := hb3.size; (try simp only [World.size_alloc] at hb3s); (try (have : w.heap.size < hb3w.heap.size := by omega)); (try (have : w.heap.size + 1 < hb3w.heap.size := by omega)); (try (have : w.heap.size + 1 + 1 < hb3w.heap.size := by omega)); (try (have : w.heap.size + 1 + 1 + 1 < hb3w.heap.size := by omega)); (try (have : bX < hb3w.heap.size := by omega)); (try (have : bY < hb3w.heap.size := by omega)); (try (have : bZ < hb3w.heap.size := by omega))))
  have hq : ∀ o, (hb3w.alloc (.cells #[.slice none 0 0, .slice none 0 0, .slice none 0 0] 26)).cell? ⟨w.heap.size, o, none⟩ = hb0w.cell? ⟨w.heap.size, o, none⟩ := fun o => by
    rw [((Below.refl hb3w.heap.size hb3w).alloc (Nat.le_refl _) _).cell (p := ⟨w.heap.size, o, none⟩) (by show w.heap.size < hb3w.heap.size; omega), hb3c _ _ (by omega), hb2c _ _ (by omega), hb1c _ _ (by omega)]
  have q4 : (hb3w.alloc (.cells #[.slice none 0 0, .slice none 0 0, .slice none 0 0] 26)).cell? ⟨w.heap.size, 4, none⟩ = some (.int .i64 0) := by rw [hq, hb0c _ _ (by simp only [World.size_alloc]; omega)]; first | go_keep | simp
  have q5 : (hb3w.alloc (.cells #[.slice none 0 0, .slice none 0 0, .slice none 0 0] 26)).cell? ⟨w.heap.size, 5, none⟩ = some (.slice none 0 0) := by rw [hq, hb0c _ _ (by simp only [World.size_alloc]; omega)]; first | go_keep | simp
  have q6 : (hb3w.alloc (.cells #[.slice none 0 0, .slice none 0 0, .slice none 0 0] 26)).cell? ⟨w.heap.size, 6, none⟩ = some (.slice none 0 0) := by rw [hq, hb0c _ _ (by simp only [World.size_alloc]; omega)]; first | go_keep | simp
  have q8 : (hb3w.alloc (.cells #[.slice none 0 0, .slice none 0 0, .slice none 0 0] 26)).cell? ⟨w.heap.size, 8, none⟩ = some (.slice none 0 0) := by rw [hq, hb0c _ _ (by simp only [World.size_alloc]; omega)]; first | go_keep | simp
  have l0 : (hb3w.alloc (.cells #[.slice none 0 0, .slice none 0 0, .slice none 0 0] 26)).cell? ⟨hb3w.heap.size, 0, none⟩ = some (.slice none 0 0) := by go_keep
  have l1 : (hb3w.alloc (.cells #[.slice none 0 0, .slice none 0 0, .slice none 0 0] 26)).cell? ⟨hb3w.heap.size, 1, none⟩ = some (.slice none 0 0) := by go_keep
  have l2 : (hb3w.alloc (.cells #[.slice none 0 0, .slice none 0 0, .slice none 0 0] 26)).cell? ⟨hb3w.heap.size, 2, none⟩ = some (.slice none 0 0) := by go_keep
  have hbW : Below w.heap.size w (hb3w.alloc (.cells #[.slice none 0 0, .slice none 0 0, .slice none 0 0] 26)) := by (repeat' (first | (with_reducible exact Below.refl _ _) | (with_reducible assumption) | (with_reducible refine below_alloc ?_ _) | (with_reducible refine Below.drew ?_) | (with_reducible refine below_drewN ?_ _) | (with_reducible refine below_step (by assumption) ?_) | (with_reducible refine below_later ?_ _) | (with_reducible refine Below.setCell ?_ ?_ _) | go_size))
  have z1 : w.heap.size < (hb3w.alloc (.cells #[.slice none 0 0, .slice none 0 0, .slice none 0 0] 26)).heap.size := by rw [World.size_alloc]; omega
  have z2 : hb3w.heap.size < (hb3w.alloc (.cells #[.slice none 0 0, .slice none 0 0, .slice none 0 0] 26)).heap.size := by rw [World.size_alloc]; omega
  generalize hb3w.alloc (.cells #[.slice none 0 0, .slice none 0 0, .slice none 0 0] 26) = W3 at *
  generalize hb3w.heap.size = bl at *
  clear hq hb0c hb1c hb2c hb3c hb0f hb1f hb2f hb3f hb0 hb1 hb2 hb3
  go_loopg [5, 78] 3 (fun kx s5 s78 wr => ∃ (k : Nat) (e : Later W3), s78 = .int .i64 k ∧ k ≤ 3 ∧ 3 - k ≤ kx ∧ wr = e.w)
  case atStart => exact ⟨0, ⟨W3, Below.refl _ _⟩, rfl, by omega, by omega, rfl⟩
  case round =>
    obtain ⟨k, e, rfl, hk, hkx, rfl⟩ := hrel
    have hes := e.h.size
    by_cases hlt : k < 3
    · obtain rfl | rfl | rfl : k = 0 ∨ k = 1 ∨ k = 2 := by omega
      · go_wp2_with (first | (go_at_call 68; refine (has0N _ _).mono ?_; rintro x w2 ⟨rfl, hb2⟩))
        go_roundg 2
        case measure => omega
        case rel => exact ⟨1, ⟨w2, e.h.trans (hb2.mono e.h.size)⟩, by go_num, by omega, by omega, rfl⟩
      · go_wp2_with (first | (go_at_call 68; refine (has0N _ _).mono ?_; rintro x w2 ⟨rfl, hb2⟩))
        go_roundg 1
        case measure => omega
        case rel => exact ⟨2, ⟨w2, e.h.trans (hb2.mono e.h.size)⟩, by go_num, by omega, by omega, rfl⟩
      · go_wp2_with (first | (go_at_call 68; refine (has0N _ _).mono ?_; rintro x w2 ⟨rfl, hb2⟩))
        go_roundg 0
        case measure => omega
        case rel => exact ⟨3, ⟨w2, e.h.trans (hb2.mono e.h.size)⟩, by go_num, by omega, by omega, rfl⟩
    · obtain rfl : k = 3 := by omega
      obtain ⟨i0, hi, hz0, hz1, hz2⟩ := info_parts infoBool
      have hbm : ∀ n : Nat, n = 0 → i0.bytes * n ≤ 281474976710656 := fun n h => by subst h; omega
      go_wp2_with (first | (at_make; refine wpList_make_full _ (by rfl) _ _ _ (by rfl) e.w.heap.size 4 i0 (.bool false) 1 Try.underlying77 hi hz0 hz1 .i64 .i64 _ _ 0 (by rfl) (by rfl) (by rfl) (by rfl) (by rw [hz2]; omega) (by unfold maxLen; omega) (Nat.le_refl _) ?_; intro w4 hown hgrow; have hb4 : Below e.w.heap.size e.w w4 := (Below.refl _ _).grown hgrow (Nat.le_refl _) (fun k hk => by cases hk); clear hown; have z4 : w.heap.size < e.w.heap.size := (by omega); have z5 : w.heap.size < w4.heap.size := Nat.lt_of_lt_of_le z4 hb4.size; have r5 : w4.cell? ⟨w.heap.size, 5, none⟩ = some (.slice none 0 0) := (by rw [hb4.cell (p := ⟨w.heap.size, 5, none⟩) z4, e.h.cell (p := ⟨w.heap.size, 5, none⟩) z1]; exact q5); have r6 : w4.cell? ⟨w.heap.size, 6, none⟩ = some (.slice none 0 0) := (by rw [hb4.cell (p := ⟨w.heap.size, 6, none⟩) z4, e.h.cell (p := ⟨w.heap.size, 6, none⟩) z1]; exact q6); have r8 : w4.cell? ⟨w.heap.size, 8, none⟩ = some (.slice none 0 0) := (by rw [hb4.cell (p := ⟨w.heap.size, 8, none⟩) z4, e.h.cell (p := ⟨w.heap.size, 8, none⟩) z1]; exact q8)) | (go_at_call 70; refine (concat2I w4.heap.size none none 0 0 [] [] _ (by rw [World.size_alloc]; omega) (by simp) (by simp) nilI nilI (by simp) (by simp)).mono ?_; rintro x w5 ⟨r5, c5, rfl, _, hb5⟩; have r8b : w5.cell? ⟨w.heap.size, 8, none⟩ = some (.slice none 0 0) := (by rw [hb5.cell (p := ⟨w.heap.size, 8, none⟩) (by rw [World.size_alloc]; show w.heap.size < w4.heap.size + 1; omega), ((Below.refl w4.heap.size w4).alloc (Nat.le_refl _) _).cell (p := ⟨w.heap.size, 8, none⟩) z5]; exact r8); have hbz : Below w.heap.size w w5 := hbW.trans ((e.h.mono (by omega)).trans ((hb4.mono (by omega)).trans ((((Below.refl w4.heap.size w4).alloc (Nat.le_refl _) _).mono (by omega)).trans (hb5.mono (by rw [World.size_alloc]; omega)))))))
      go_loopg [8, 101] 0 (fun kx s8 s101 wr => s101 = .int .i64 0 ∧ wr = w5)
      case atStart => exact ⟨rfl, rfl⟩
      case round =>
        obtain ⟨rfl, rfl⟩ := hrel
        go_wp2_with (go_at_call 68; refine (has0N _ _).mono ?_; rintro x w6 ⟨rfl, hb6⟩)
        go_ret
        exact ⟨rfl, hbz.trans (hb6.mono hbz.size)⟩
end Go.Proofs.Ytfooefiaenlhmaa
