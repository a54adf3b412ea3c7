/- Lemmas for the laws of package magnetolaw15: what its functions return, for any arguments that the lemmas name. -/
import Derived.Test.YtfooefiaenlhmaaRows
import Derived.Handy
import Derived.BigQuiet
import Derived.Deep.QuietTactic
import Derived.Deep.DeepFit
import Derived.Outline
import Derived.Lib.Hide
import Derived.Lib.SmallJoins
import Derived.OpenShut
import Derived.Carry
import Derived.ChangeOld
import Derived.ShutString
import Derived.WalkLawsBesides
import Derived.Deep.AppendLies
import Derived.OwnWalk
import Derived.Maps.AppendAt
import Derived.Laws.Cover3
import Derived.Lib.AppendZeros
import Derived.Deep.LoopGhost
import Derived.Shelf.Abstract
import Derived.Laws.BytesArg
import Derived.Deep.RegionHeld3
import Derived.RangeFuncNested
import Derived.RangeFuncBound
import Derived.RangeFuncCalls
import Derived.RangeFuncLeaves
import Derived.RangeFuncBox
import Derived.Shelf.RegionOpen
import Derived.WalkKit
import Derived.OwnWalkIn
import Derived.TacticsInMore
import Derived.LoopNIn
import Derived.LoopIn
import Derived.Laws.BitsAllLaws
import Derived.Laws.OwnMore
import Derived.StillTailTactics
import Derived.Deep.RegionLaw
import Derived.IntWalk
namespace Go.Proofs.Ytfooefiaenlhmaa
set_option linter.unusedVariables false
set_option linter.unusedSimpArgs false
set_option maxHeartbeats 16000000
open Go.RowKit Go.ChangeShapes Go.WideShapes Go.ChangeAt
structure Later (W : World) where
  w : World
  h : Below W.heap.size W w
instance Later.some (W : World) : Nonempty (Later W) := ⟨⟨W, Below.refl _ _⟩⟩
@[go_sem] theorem Later.cell {W : World} (e : Later W) {b o : Nat} (hb : b < W.heap.size) : e.w.cell? ⟨b, o, none⟩ = W.cell? ⟨b, o, none⟩ :=
  e.h.cell (p := ⟨b, o, none⟩) hb
@[go_sem] theorem Later.frozen {W : World} (e : Later W) {b o : Nat} (hb : b < W.heap.size) : e.w.frozen? ⟨b, o, none⟩ = W.frozen? ⟨b, o, none⟩ :=
  e.h.frozen (p := ⟨b, o, none⟩) hb
theorem Later.next {W : World} (e : Later W) {w' : World} (h : Below e.w.heap.size e.w w') : ∃ e' : Later W, w' = e'.w :=
  ⟨⟨w', e.h.trans (h.mono e.h.size)⟩, rfl⟩
theorem bcell {W w1 : World} (hb : Below W.heap.size W w1) : (∀ b o, b < W.heap.size → w1.cell? ⟨b, o, none⟩ = W.cell? ⟨b, o, none⟩) ∧ (∀ b o, b < W.heap.size → w1.frozen? ⟨b, o, none⟩ = W.frozen? ⟨b, o, none⟩) :=
  ⟨fun b o h => hb.cell (p := ⟨b, o, none⟩) h, fun b o h => hb.frozen (p := ⟨b, o, none⟩) h⟩
theorem below_step {w w1 w2 : World} (hb : Below w1.heap.size w1 w2) (h : Below w.heap.size w w1) : Below w.heap.size w w2 := h.trans (hb.mono h.size)
theorem below_alloc {w w1 : World} (h : Below w.heap.size w w1) (o : Obj) : Below w.heap.size w (w1.alloc o) := h.alloc h.size o
theorem below_drewN {B : Nat} {w w1 : World} (h : Below B w w1) (n : Nat) : Below B w (w1.drewN n) := ⟨h.os, h.tape, h.output, h.size, h.block⟩
theorem below_later {w w1 : World} (h : Below w.heap.size w w1) (e : Later w1) : Below w.heap.size w e.w := below_step e.h h
theorem ret_int {k : IntKind} {a b : Int} (h : a = b) : Ending.returned (.int k a) = .returned (.int k b) := by rw [h]
theorem ret_bool {a b : Bool} (h : a = b) : Ending.returned (.bool a) = .returned (.bool b) := by rw [h]
theorem bw {n : Nat} {w w' : World} (h : Below n w w' := by (repeat' (first | (with_reducible exact Below.refl _ _) | (with_reducible assumption) | (with_reducible refine below_alloc ?_ _) | (with_reducible refine Below.drew ?_) | (with_reducible refine below_drewN ?_ _) | (with_reducible refine below_step (by assumption) ?_) | (with_reducible refine below_later ?_ _) | (with_reducible refine Below.setCell ?_ ?_ _) | go_size))) : Below n w w' := h
theorem H! {p : Prop} (h : p) : Hid p := Lib.hid h
theorem zA (w : World) (o : Obj) : (w.alloc o).heap.size = w.heap.size + 1 := World.size_alloc w o
theorem zS (w : World) (a : Addr) (v : Value) : (w.setCell a v).heap.size = w.heap.size := World.size_setCell w a v
theorem own : ownKnob Try.prog.godebug = none := by kernel_rfl
theorem laidOut : laidOutB Try.prog = true := by kernel_rfl
theorem trodAll_len {H : Type} {enc : TypeId × Value → H} {P : Program} {w : World} {b : Nat} {sp : Nat → Bool} {hd : Bool} :
  ∀ (ts : List TypeId) (vs : List Value) (ds : List (DataW H)) (ps : List MemPlace), DataW.TrodAll enc P w b sp hd ts vs ds ps → ds.length = ts.length ∧ vs.length = ts.length
 | [], [], [], _, _ => ⟨rfl, rfl⟩
 | _ :: ts, _ :: vs, _ :: ds, _, ⟨_, q, _, h, _⟩ => by
  have := trodAll_len ts vs ds q h
  simp [this.1, this.2]
 | [], _ :: _, _, _, h => by simp [DataW.TrodAll] at h
 | [], [], _ :: _, _, h => by simp [DataW.TrodAll] at h
 | _ :: _, [], _, _, h => by simp [DataW.TrodAll] at h
 | _ :: _, _ :: _, [], _, h => by simp [DataW.TrodAll] at h
theorem trodAll_below {H : Type} {enc : TypeId × Value → H} {W W' : World} (hb : Below W.heap.size W W') :
  ∀ (ts : List TypeId) (vs : List Value) (ds : List (DataW H)) (ps : List MemPlace), (∀ t ∈ ts, Try.prog.readableRec t = true ∧ t < Try.prog.types.size) →
   DataW.TrodAll enc Try.prog W 0 (fun _ => true) true ts vs ds ps → (∀ x ∈ ps, x.block < W.heap.size) → DataW.TrodAll enc Try.prog W' 0 (fun b => decide (b < W.heap.size)) true ts vs ds ps
 | [], [], [], _, _, h, _ => h
 | t :: ts, v :: vs, d :: ds, _, hr, ⟨p, q, h1, h2, e⟩, hlt => by
  subst e
  exact ⟨p, q, Below.trod laidOut (hr t (by simp)).1 (hr t (by simp)).2 h1 hb (fun x hx => hlt x (List.mem_append_left _ hx)),
   trodAll_below hb ts vs ds q (fun t ht => hr t (List.mem_cons_of_mem _ ht)) h2 (fun x hx => hlt x (List.mem_append_right _ hx)), rfl⟩
 | [], _ :: _, _, _, _, h, _ => by simp [DataW.TrodAll] at h
 | [], [], _ :: _, _, _, h, _ => by simp [DataW.TrodAll] at h
 | _ :: _, [], _, _, _, h, _ => by simp [DataW.TrodAll] at h
 | _ :: _, _ :: _, [], _, _, h, _ => by simp [DataW.TrodAll] at h
set_option maxRecDepth 100000 in
theorem law_frame {H : Type} {enc : TypeId × Value → H} {os : Os} (started : os.Started) {k : FuncId} {fn : Func} {s : ChangeSpec} {conds : List PathCond}
  (hfn : Try.prog.funcs[k]? = some fn) (noInit : Try.prog.inits.idxOf? k = none) (hv : s.vars = []) (t : TypeId) (hrt : fn.resultTypes = #[t]) (ht : Try.prog.underlying t = some .bool)
  (hpar : ∀ t ∈ fn.params.toList, Try.prog.readableRec t = true ∧ t < Try.prog.types.size)
  (hs : ∀ ds : List (DataW H), ds.length = fn.params.toList.length → s.fn H (ds ++ []) = { results := [.lit (.bool true)], args := ds })
  (witness : ∃ (w : World) (tape : Tape) (i : Input), w.os = os ∧ (w.forCall tape i).Shaped Try.prog ∧ i.vars = [] ∧ Input.okWide Try.prog (w.forCall tape i) .any w.heap.size k i ∧
   s.pre6 enc Try.prog fn conds false (w.forCall tape i).memory i.args ∧ ({ modest := false } : Assume).holds Try.prog (lone (Frame.enter Try.prog k i.args .normal) [] (w.forCall tape i)))
  (hcall : ∀ (W : World) (base : Nat) (args : Array Value) (ds : List (DataW H)) (p : List MemPlace),
   (∀ (j : Nat) t v, fn.params[j]? = some t → args[j]? = some v → Value.okWide Try.prog W .any base t v) →
   DataW.TrodAll enc Try.prog W 0 (fun _ => true) true fn.params.toList args.toList ds p →
   (∀ x ∈ p, x.block < W.heap.size) →
   Calls Try.prog k args W fun e w' => e = .returned (.bool true) ∧ Below W.heap.size W w') :
  ReturnsInHanded {} Try.checked os k .any (s.pre6 enc Try.prog fn conds false) (s.post enc Try.prog fn false true false false) := by
 refine returnsInHanded_of_change (C := Try.checked) own started noInit hfn witness ?_
 intro W base args ds gs before hval hW _ _
 have hW' := hW
 obtain ⟨p, q, hA, hV, hpq, _, _⟩ := hW
 rw [hv] at hV
 obtain ⟨rfl, rfl⟩ := trodVars_none hV
 rw [List.append_nil] at hpq
 subst hpq
 have hlt := hW'.lt
 refine (hcall W base args ds before hval hA hlt).mono fun e W' ⟨he, hb⟩ => ?_
 subst he
 refine ⟨_, rfl, ds, [], before, [], before, [], hW', ?_, ?_, ?_, hb.frame _, fun h => by cases h⟩
 ·
  rw [hs ds (trodAll_len _ _ _ _ hA).1, hrt]
  exact trodAll_mk1 (shut_bool ht true)
 ·
  rw [hs ds (trodAll_len _ _ _ _ hA).1]
  exact trodAll_below hb _ _ _ _ hpar hA hlt
 ·
  rw [hs ds (trodAll_len _ _ _ _ hA).1, hv]
  exact rfl
def Rd (P : Program) (W : World) (t : TypeId) (cs : List Value) : Prop :=
 ∃ (H : Type) (enc : TypeId × Value → H) (fuel : Nat) (y : DataW H × List MemPlace), DataW.trod enc P W 0 (fun _ => true) true fuel t cs = some y
def I64 (a : Int) : Prop := (Lit.int .i64 a).wf = true
theorem I64.bd {a : Int} (h : I64 a) : -9223372036854775808 ≤ a ∧ a ≤ 9223372036854775807 := by
 unfold I64 at h
 simpa [Lit.wf, IntKind.min, IntKind.max, IntKind.bits, IntKind.signed] using h
structure IsInts (W : World) (r : Option Addr) (cap : Nat) (k : IntKind) (xs : List Int) : Prop where
 le : xs.length ≤ cap
 max : cap ≤ maxLen
 wf : ∀ x ∈ xs, (Lit.int k x).wf = true
 cells : xs ≠ [] → ∃ b off, r = some ⟨b, off, none⟩ ∧ b < W.heap.size ∧ ∀ i, i < xs.length → W.cell? ⟨b, off + i, none⟩ = some (.int k (xs.getD i 0))
theorem rd_of {H : Type} {enc : TypeId × Value → H} {P : Program} {W : World} {t : TypeId} {v : Value} {d : DataW H} {ps : List MemPlace} (h : DataW.Trod enc P W 0 (fun _ => true) true t v d ps) : Rd P W t v.cells.toList := by
 obtain ⟨fuel, hf⟩ := h
 exact ⟨H, enc, fuel, _, hf⟩
theorem rd_int {P : Program} {W : World} {t : TypeId} {k : IntKind} {cs : List Value} (ht : P.underlying t = some (.int k)) (h : Rd P W t cs) : ∃ n, cs = [.int k n] ∧ (Lit.int k n).wf = true := by
 obtain ⟨H, enc, fuel, y, hf⟩ := h
 obtain ⟨n, h1, _, h3⟩ := DataW.trod_int ht hf
 exact ⟨n, h1, h3⟩
theorem rd_bool {P : Program} {W : World} {t : TypeId} {cs : List Value} (ht : P.underlying t = some .bool) (h : Rd P W t cs) : ∃ b, cs = [.bool b] := by
 obtain ⟨H, enc, fuel, y, hf⟩ := h
 cases fuel with
 | zero => simp [DataW.trod] at hf
 | succ n =>
  unfold DataW.trod at hf
  rw [ht] at hf
  split at hf <;> simp_all
theorem rd_struct {P : Program} {W : World} {t : TypeId} {fs : Array Field} {cs : List Value} (ht : P.underlying t = some (.struct fs)) (h : Rd P W t cs) :
  cs.length = P.cellsOf t ∧ ∀ (i : Nat) (f : Field), fs[i]? = some f → Rd P W f.type ((cs.drop f.offset).take (P.cellsOf f.type)) := by
 obtain ⟨H, enc, fuel, y, hf⟩ := h
 obtain ⟨xs, n, _, _, hl, hx, hi⟩ := DataW.trod_struct ht hf
 refine ⟨hl, fun i f hif => ?_⟩
 have hlt : i < xs.length := by
  rw [hx]
  exact (Array.getElem?_eq_some_iff.1 hif).1
 have := hi i f hif
 rw [List.getElem?_eq_getElem hlt] at this
 exact ⟨H, enc, n, _, this⟩
theorem rd_ints {P : Program} {W : World} {t e : TypeId} {k : IntKind} {cs : List Value} (ht : P.underlying t = some (.slice e)) (he : P.underlying e = some (.int k)) (hc : P.cellsOf e = 1) (h : Rd P W t cs) :
  ∃ (r : Option Addr) (cap : Nat) (xs : List Int), cs = [.slice r xs.length cap] ∧ IsInts W r cap k xs := by
 obtain ⟨H, enc, fuel, y, hf⟩ := h
 rcases open_ints ht he hc hf with ⟨rfl, _⟩ | ⟨a, len, cap, zs, rfl, _, hl, hm, hz, _, hcell, hw⟩
 ·
  exact ⟨none, 0, [], rfl, ⟨Nat.le_refl _, Nat.zero_le _, by simp, fun h => absurd rfl h⟩⟩
 ·
  simp only [if_true] at hz
  have hlen : (zs.take len).length = len := by rw [List.length_take]; omega
  refine ⟨some a, cap, zs.take len, by rw [hlen], ⟨by omega, hm, fun x hx => hw x (List.mem_of_mem_take hx), fun hne => ?_⟩⟩
  have h0 : 0 < len := by
   rcases Nat.eq_zero_or_pos len with h | h
   ·
    subst h; simp at hne
   ·
    exact h
  obtain ⟨b, off, spot⟩ := a
  have hc0 := hcell 0 (by omega)
  have hspot : spot = none := by simpa [Addr.add] using World.cell?_spot hc0
  subst hspot
  have hb := World.block_lt_of_cell? _ _ hc0
  refine ⟨b, off, rfl, by simpa [Addr.add] using hb, fun i hi => ?_⟩
  have := hcell i (by omega)
  have hg : (zs.take len).getD i 0 = zs.getD i 0 := by
   rw [hlen] at hi
   simp [List.getD, List.getElem?_take, hi]
  rw [hg, ← this]
  by_cases hi0 : i = 0
  ·
   subst hi0; simp [Addr.add]
  ·
   simp [Addr.add, hi0]
theorem arg_agg {H : Type} {enc : TypeId × Value → H} {P : Program} {W : World} {b : Nat} {t : TypeId} {fs : Array Field} {v : Value} {d : DataW H} {ps : List MemPlace} (ht : P.underlying t = some (.struct fs)) (hv : Value.okWide P W .any b t v)
  (h : DataW.Trod enc P W 0 (fun _ => true) true t v d ps) : ∃ cs : List Value, v = .agg cs.toArray ∧ Rd P W t cs := by
 obtain ⟨cs, rfl, _⟩ := okWide_struct ht hv
 have := rd_of h
 exact ⟨cs.toList, by simp, by simpa [Value.cells] using this⟩
theorem len_succ {n : Nat} {l : List Value} (h : l.length = n + 1) : ∃ a t, l = a :: t ∧ t.length = n := by
 cases l with
 | nil => simp at h
 | cons a t => exact ⟨a, t, rfl, by simpa using h⟩
theorem IsInts.later {W W' : World} {r : Option Addr} {cap : Nat} {k : IntKind} {xs : List Int} (h : IsInts W r cap k xs) (hb : Below W.heap.size W W') : IsInts W' r cap k xs :=
 ⟨h.le, h.max, h.wf, fun hne => by
  obtain ⟨b, off, h1, h2, h3⟩ := h.cells hne
  exact ⟨b, off, h1, Nat.lt_of_lt_of_le h2 hb.size, fun i hi => by rw [hb.cell (p := ⟨b, off + i, none⟩) h2]; exact h3 i hi⟩⟩
def OwnK (k : IntKind) (te : TypeId) (W : World) (base : Nat) (r : Option Addr) (cap : Nat) (xs : List Int) : Prop := W.ownsRow base te 1 (.slice r xs.length cap) xs.length (xs.map (Value.int k))
section
variable {k : IntKind} {te : TypeId}
theorem OwnK.nil (W : World) (base : Nat) : OwnK k te W base none 0 [] := World.ownsRow_nil _ _ _ _
theorem OwnK.lt {W : World} {base : Nat} {r : Option Addr} {cap : Nat} {xs : List Int} (h : OwnK k te W base r cap xs) : ∀ a, r = some a → base ≤ a.block ∧ a.block < W.heap.size := fun a ha => by
 subst ha
 exact World.ownsRow.lt h a.block rfl
theorem OwnK.below {W W' : World} {base B : Nat} {r : Option Addr} {cap : Nat} {xs : List Int} (h : OwnK k te W base r cap xs) (hb : Below B W W') (hB : W.heap.size ≤ B) : OwnK k te W' base r cap xs := by
 refine ⟨h.1, ?_⟩
 rcases h.2 with ⟨h1, h2⟩ | ⟨g, c, cur, h1, h2, h3, h4⟩
 ·
  exact Or.inl ⟨h1, h2⟩
 ·
  refine Or.inr ⟨g, c, cur, h1, h2, ?_, h4⟩
  rw [hb.block g ?_]
  ·
   exact h3
  ·
   rcases Nat.lt_or_ge g W.heap.size with hlt | hge
   ·
    omega
   ·
    rw [Array.getElem?_eq_none hge] at h3; cases h3
theorem OwnK.set {W : World} {base : Nat} {r : Option Addr} {cap : Nat} {xs : List Int} (h : OwnK k te W base r cap xs) {a : Addr} (ha : a.block < base) (u : Value) : OwnK k te (W.setCell a u) base r cap xs := ownsRow_setCell_below h ha u
theorem OwnK.base {W : World} {base base' : Nat} {r : Option Addr} {cap : Nat} {xs : List Int} (h : OwnK k te W base r cap xs) (hb : base' ≤ base) : OwnK k te W base' r cap xs := by
 refine ⟨h.1, ?_⟩
 rcases h.2 with h1 | ⟨g, c, cur, h1, h2, h3⟩
 ·
  exact Or.inl h1
 ·
  exact Or.inr ⟨g, c, cur, h1, by omega, h3⟩
theorem OwnK.ints {W : World} {base : Nat} {r : Option Addr} {cap : Nat} {xs : List Int} (h : OwnK k te W base r cap xs) (hw : ∀ x ∈ xs, (Lit.int k x).wf = true) : IsInts W r cap k xs := by
 obtain ⟨h0, h2⟩ := h
 rcases h2 with ⟨h1, h3⟩ | ⟨g, c, cur, h1, h3, h4, h5, h6, h7, h8⟩
 ·
  obtain rfl : xs = [] := List.length_eq_zero_iff.1 h3
  simp only [Value.slice.injEq] at h1
  obtain ⟨rfl, _, rfl⟩ := h1
  exact ⟨Nat.le_refl _, Nat.zero_le _, by simp, fun h => absurd rfl h⟩
 ·
  simp only [Value.slice.injEq] at h1
  obtain ⟨rfl, _, rfl⟩ := h1
  have hlt : g < W.heap.size := by
   rcases Nat.lt_or_ge g W.heap.size with hlt | hge
   ·
    exact hlt
   ·
    rw [Array.getElem?_eq_none hge] at h4; cases h4
  refine ⟨h5, h6, hw, fun _ => ⟨g, 0, rfl, hlt, fun i hi => ?_⟩⟩
  have := World.ownsRow.cellAt (w := W) (base := base) (e := te) (size := 1) (g := g) (n := xs.length) (cap := cap) (xs := xs.map (Value.int k)) ⟨h0, Or.inr ⟨g, cap, cur, rfl, h3, h4, h5, h6, h7, h8⟩⟩ i (by omega)
  rw [Nat.zero_add, this]
  simp [List.getElem?_map, List.getD, List.getElem?_eq_getElem hi]
theorem OwnK.le {W : World} {base : Nat} {r : Option Addr} {cap : Nat} {xs : List Int} (h : OwnK k te W base r cap xs) : xs.length ≤ cap := by
 rcases h.2 with ⟨h1, h3⟩ | ⟨g, c, cur, h1, h3, h4, h5, h6, h7, h8⟩
 ·
  omega
 ·
  simp only [Value.slice.injEq] at h1
  omega
theorem wpList_append_k {ts : TypeId} {z : Value} {by' : Nat} (hts : Try.prog.underlying ts = some (.slice te)) (hinf : (Try.prog.info? te).map (fun i => (i.zero, i.size, i.bytes)) = some (some z, 1, by')) (hzs : z.cells.size = 1) (hby : by' ≤ 8)
  {ops : Array Oper} {rest : List Oper} {o : Oper} {a : Act} {Q : Exit → Act → World → Prop} {w : World} (hgd : o.guard = none) (s x : Operand)
  (ho : o.op = .call { callee := .builtin .append, args := #[s, x], argTypes := #[ts, ts] }) (w0 : World) (base : Nat) (r : Option Addr) (cap : Nat) (xs ps : List Int) (n : Nat) (hn : ps.length = n) (hn0 : 0 < n)
  (hw : w = w0.alloc (.cells (ps.map (Value.int k)).toArray te)) (hs : a.eval s = .slice r xs.length cap) (hx : a.eval x = .slice (some ⟨w0.heap.size, 0, none⟩) n n)
  (hown : OwnK k te w0 base r cap xs) (hl : xs.length + n ≤ 1099511627776) (hb : base ≤ w0.heap.size)
  (h : ∀ r' cap' w', OwnK k te w' base r' cap' (xs ++ ps) → Below base w0 w' → wpList Try.prog ops Q rest (a.put o.dst (.slice r' (xs.length + n) cap')) w') : wpList Try.prog ops Q (o :: rest) a w := by
 subst hw
 subst hn
 obtain ⟨i0, hi, hz0, hz1, hz2⟩ := info_parts hinf
 have hown2 : (w0.alloc (.cells (ps.map (Value.int k)).toArray te)).ownsRow base te 1 (.slice r xs.length cap) xs.length (xs.map (Value.int k)) := World.ownsRow.alloc hown _
 refine wpList_append_lies (w0.alloc (.cells (ps.map (Value.int k)).toArray te)) hgd s x ts ho base te i0 z 1 by' hts hi hz0 hz1 hz2 hzs (by omega) _ xs.length (xs.map (Value.int k)) hs hown2 ⟨w0.heap.size, 0, none⟩ ps.length ps.length (ps.map (Value.int k)) hx (by simp) ?_ (ints_oneCell k ps) hn0 ?_ ?_ (by simp; omega) _ rfl ?_
 ·
  intro j u hj
  have : (⟨w0.heap.size, 0, none⟩ : Addr).add j = ⟨w0.heap.size, j, none⟩ := by
   by_cases hj0 : j = 0
   ·
    subst hj0; simp [Addr.add]
   ·
    simp [Addr.add, hj0]
  rw [this, World.cell?_alloc_new]
  simpa using hj
 ·
  unfold maxLen; omega
 ·
  have : (xs.length + ps.length) * by' ≤ 1099511627776 * 8 := Nat.mul_le_mul (by omega) hby
  omega
 ·
  intro g cap' w1 hown' hgrow _ _
  refine h _ _ _ ?_ ?_
  ·
   unfold OwnK
   rw [List.length_append, List.map_append]
   exact hown'
  ·
   exact ((Below.refl base w0).alloc hb _).grown hgrow (by simp only [zA]; omega) (fun k hk => (World.ownsRow.lt hown2 k hk).1)
theorem run_append_noneK {t e : TypeId} (ty : TypeId) (i : TypeInfo) (ht : Try.prog.underlying t = some (.slice e)) (hi : Try.prog.info? e = some i) (w : World) (r : Option Addr) (len cap c : Nat) (hl : len ≤ cap) :
  (Builtin.append_ #[t, t] ty #[.slice r len cap, .slice none 0 c]).run Try.prog w = .ok (.slice r len cap) w := by
 cases r <;> simp [Builtin.append_, run_underlying ht, sizeOf, typeInfo, hi, Builtin.lenOf, hl, Builtin.firstCells, storeCells]
theorem wpList_append_ks {ts : TypeId} {z : Value} {by' : Nat} (hts : Try.prog.underlying ts = some (.slice te)) (hinf : (Try.prog.info? te).map (fun i => (i.zero, i.size, i.bytes)) = some (some z, 1, by')) (hzs : z.cells.size = 1) (hby : by' ≤ 8)
  {ops : Array Oper} {rest : List Oper} {o : Oper} {a : Act} {Q : Exit → Act → World → Prop} {w : World} (hgd : o.guard = none) (s x : Operand)
  (ho : o.op = .call { callee := .builtin .append, args := #[s, x], argTypes := #[ts, ts] }) (base : Nat) (r r2 : Option Addr) (cap c2 : Nat) (xs ys : List Int)
  (hs : a.eval s = .slice r xs.length cap) (hx : a.eval x = .slice r2 ys.length c2) (hown : OwnK k te w base r cap xs) (hys : IsInts w r2 c2 k ys) (hl : xs.length + ys.length ≤ 1099511627776) (hb : base ≤ w.heap.size)
  (h : ∀ r' cap' w', OwnK k te w' base r' cap' (xs ++ ys) → Below base w w' → wpList Try.prog ops Q rest (a.put o.dst (.slice r' (xs ++ ys).length cap')) w') : wpList Try.prog ops Q (o :: rest) a w := by
 obtain ⟨i0, hi, hz0, hz1, hz2⟩ := info_parts hinf
 cases r2 with
 | none =>
  have hy : ys = [] := by
   rcases Classical.em (ys = []) with h | h
   ·
    exact h
   ·
    obtain ⟨b, off, h1, _⟩ := hys.cells h
    cases h1
  subst hy
  refine Lib.wpList_append_run w hgd s x _ _ ho _ _ hs hx _ w (run_append_noneK o.type i0 hts hi w r xs.length cap c2 hown.le) ?_
  have := h r cap w (by rw [List.append_nil]; exact hown) (Below.refl _ _)
  rwa [List.append_nil] at this
 | some ad =>
  refine wpList_append_own_at w hgd s x ts ho base te i0 z 1 by' hts hi hz0 hz1 hz2 hzs (by omega) _ xs.length (xs.map (Value.int k)) hs hown ad ys.length c2 (ys.map (Value.int k)) hx (by simp) ?_ (ints_oneCell k ys) (by unfold maxLen; omega) (by have : (xs.length + ys.length) * by' ≤ 1099511627776 * 8 := Nat.mul_le_mul (by omega) hby; omega) hb ?_
  ·
   intro j u hj
   have hj2 : j < ys.length := by
    rcases Nat.lt_or_ge j ys.length with h | h
    ·
     exact h
    ·
     rw [List.getElem?_eq_none (by simpa using h)] at hj; cases hj
   obtain ⟨b, off, h1, h2, h3⟩ := hys.cells (fun e => by subst e; simp at hj2)
   simp only [Option.some.injEq] at h1
   subst h1
   have h4 := h3 j hj2
   have h5 : (Addr.add ⟨b, off, none⟩ j : Addr) = ⟨b, off + j, none⟩ := by
    by_cases h0 : j = 0
    ·
     subst h0; simp [Addr.add]
    ·
     simp [Addr.add, h0]
   rw [h5, h4, ← hj]
   simp [List.getD, List.getElem?_eq_getElem hj2]
  ·
   intro v' w1 hown1 hgrow _ _
   have hB : Below base w w1 := (Below.refl base w).grown hgrow hb (fun k hk => (World.ownsRow.lt hown k hk).1)
   have hlen : (xs ++ ys).length = xs.length + ys.length := by simp
   rw [← List.map_append] at hown1
   obtain ⟨r', cap', rfl⟩ : ∃ r' cap', v' = .slice r' (xs ++ ys).length cap' := by
    rcases hown1.2 with ⟨h1, h3⟩ | ⟨g, c, cur, h1, _⟩
    ·
     exact ⟨none, 0, by rw [h1, hlen, h3]⟩
    ·
     exact ⟨_, _, by rw [h1, hlen]⟩
   refine h r' cap' w1 ?_ hB
   unfold OwnK
   rw [hlen] at hown1 ⊢
   exact hown1
end
theorem infoU8 : (Try.prog.info? 5).map (fun i => (i.zero, i.size, i.bytes)) = some (some (.int .u8 0), 1, 1) := by kernel_rfl
theorem run_eqlN {t e : TypeId} (h : Try.prog.underlying t = some (.slice e)) (a : Option Addr) (l c : Nat) (w : World) : (binOp .eql t (.slice a l c) (.slice none 0 0)).run Try.prog w = .ok (.bool a.isNone) w := by
 simp [binOp, run_equal_slice_nil w t e a l c h]
def sumS (s c : Int) : Int := (16777619 * s + c) % 4294967296
def sumF (s : Int) (bs : List Int) : Int := bs.foldl sumS s
def sumB (bs : List Int) : Int := sumF 1 bs
theorem sumF_bd {s : Int} (h : 0 ≤ s ∧ s < 4294967296) (bs : List Int) : 0 ≤ sumF s bs ∧ sumF s bs < 4294967296 := by
 induction bs generalizing s with
 | nil => exact h
 | cons c bs ih => exact ih ⟨by unfold sumS; omega, by unfold sumS; omega⟩
theorem sumF_take {bs : List Int} {k : Nat} (hk : k < bs.length) (s : Int) : sumF s (bs.take (k + 1)) = sumS (sumF s (bs.take k)) (bs.getD k 0) := by
 rw [List.take_add_one, List.getElem?_eq_getElem hk]
 unfold sumF
 rw [List.foldl_append]
 simp [List.getD, List.getElem?_eq_getElem hk]
theorem wf_u8 {x : Int} (h : (Lit.int .u8 x).wf = true) : 0 ≤ x ∧ x ≤ 255 := by simpa [Lit.wf, IntKind.min, IntKind.max, IntKind.bits, IntKind.signed] using h
theorem u8_wf {x : Int} (h0 : 0 ≤ x) (h1 : x ≤ 255) : (Lit.int .u8 x).wf = true := by simp [Lit.wf, IntKind.min, IntKind.max, IntKind.bits, IntKind.signed]; omega
theorem ret_u32 {a b : Int} (h : a = b) : Ending.returned (.int .u32 a) = .returned (.int .u32 b) := by rw [h]
theorem getD_mem' {xs : List Int} {k : Nat} (hk : k < xs.length) : xs.getD k 0 ∈ xs := by
 simp [List.getD, List.getElem?_eq_getElem hk]
theorem isum_any (r : Option Addr) (cap : Nat) (bs : List Int) (w : World) (hx : IsInts w r cap .u8 bs) : Calls Try.prog 11 #[.slice r bs.length cap] w fun e w' => e = .returned (.int .u32 (sumB bs)) ∧ Below w.heap.size w w' := by
 by_cases hne : bs = []
 ·
  subst hne
  clear hx
  have H : Hid (sumB [] = 1) := H! rfl
  go_enter Try.func11, Try.ntmps11
  go_wp2
  go_rounds 1
  go_ret
  exact ⟨ret_u32 H.out.symm, bw⟩
 ·
  obtain ⟨bX, off, rfl, hb, hc⟩ := hx.cells hne
  have hmax := Nat.le_trans hx.le hx.max
  unfold maxLen at hmax
  have HC := H! hc
  have HS : Hid (∀ k, k < bs.length → sumF 1 (bs.take (k + 1)) = sumS (sumF 1 (bs.take k)) (bs.getD k 0)) := H! (fun k hk => sumF_take hk 1)
  have HBD : Hid (∀ k, 0 ≤ sumF 1 (bs.take k) ∧ sumF 1 (bs.take k) < 4294967296) := H! (fun k => sumF_bd (by omega) _)
  have HW : Hid (∀ k, k < bs.length → 0 ≤ bs.getD k 0 ∧ bs.getD k 0 ≤ 255) := H! (fun k hk => wf_u8 (hx.wf _ (getD_mem' hk)))
  have HE : Hid (sumF 1 (bs.take bs.length) = sumB bs) := H! (by rw [List.take_length]; rfl)
  clear hc hx hne
  generalize sumB bs = res at *
  generalize hn : bs.length = n at *
  have HN := H! hn
  clear hn
  go_enter Try.func11, Try.ntmps11
  go_wp2
  go_loopg [3, 8] n (fun kx s3 s8 wr => ∃ (k : Nat) (e : Later w), s3 = .int .u32 (sumF 1 (bs.take k)) ∧ s8 = .int .i64 k ∧ k ≤ n ∧ n - k ≤ kx ∧ wr = e.w)
  case atStart => exact ⟨0, ⟨_, Below.refl _ _⟩, rfl, rfl, by omega, by omega, rfl⟩
  case round =>
   obtain ⟨k, e, rfl, rfl, hk, hkx, rfl⟩ := hrel
   by_cases hlt : k < n
   ·
    have hk1 : (0 : Int) ≤ (k : Int) := by omega
    have hk2 : (k : Int) < n := by omega
    have hc1 : e.w.cell? ⟨bX, off + k, none⟩ = some (.int .u8 (bs.getD k 0)) := by
     rw [Later.cell e hb]; exact HC.out k hlt
    have HSK := H! (HS.out k hlt)
    have ⟨x0, x1⟩ := HW.out k hlt
    have ⟨s0, s1⟩ := HBD.out k
    generalize bs.getD k 0 = x at *
    generalize sumF 1 (bs.take k) = s at *
    go_wp2
    go_roundg (n - (k + 1))
    case measure => omega
    case rel => exact ⟨k + 1, e, by rw [HSK.out]; unfold sumS; first | (simp [IntKind.wrap_u32]; done) | (simp [IntKind.wrap_u32]; omega), by go_num, by omega, by omega, rfl⟩
   ·
    obtain rfl : k = n := by omega
    have H := H! HE.out
    go_wp2
    go_ret
    exact ⟨ret_u32 H.out, bw⟩
def ByteL (xs : List Int) : Prop := ∀ x ∈ xs, 0 ≤ x ∧ x ≤ 255
theorem strOfNums_inj {xs ys : List Int} (hx : ByteL xs) (hy : ByteL ys) : strOfNums xs = strOfNums ys ↔ xs = ys := by
 constructor
 ·
  intro h
  have h1 : (xs.map fun n => UInt8.ofNat n.toNat) = (ys.map fun n => UInt8.ofNat n.toNat) := by
   have := congrArg (fun b : ByteArray => b.data.toList) h
   simpa [strOfNums] using this
  have hl : xs.length = ys.length := by simpa using congrArg List.length h1
  apply List.ext_getElem hl
  intro i h2 h3
  have h4 := congrArg (fun l => l[i]?) h1
  simp [List.getElem?_map, h2, h3] at h4
  have a := hx _ (List.getElem_mem h2)
  have b := hy _ (List.getElem_mem h3)
  have h5 := congrArg UInt8.toNat h4
  simp only [UInt8.toNat_ofNat'] at h5
  omega
 ·
  intro h
  rw [h]
theorem conv_bytes {W : World} {r : Option Addr} {c : Nat} {xs : List Int} (h : IsInts W r c .u8 xs) : (convert 29 9 (.slice r xs.length c)).run Try.prog W = .ok (.string (strOfNums xs)) W := by
 by_cases hne : xs = []
 ·
  subst hne
  cases r with
  | none => exact run_convert_bytes_nil W _ _ Try.underlying29 Try.underlying5 _ _ _ Try.underlying9
  | some a =>
   have hl := run_loadCells_list (P := Try.prog) W a [] (by simp)
   show (convert 29 9 (.slice (some a) 0 c)).run Try.prog W = _
   rw [run_convert_bytes_string W _ _ _ _ _ _ Try.underlying29 Try.underlying5 Try.underlying9, run_bytesToString W a 0 c [] (by simpa using hl)]
   rfl
 ·
  obtain ⟨b, off, rfl, hb, hc⟩ := h.cells hne
  exact run_convert_bytes_arg W _ _ Try.underlying29 Try.underlying5 b off xs.length c xs rfl (fun i hi => by
   have := hc i hi
   simpa [List.getD, List.getElem?_eq_getElem hi] using this) _ Try.underlying9
theorem bEq_any (r q : Option Addr) (c d : Nat) (xs ys : List Int) (w : World) (hx : IsInts w r c .u8 xs) (hy : IsInts w q d .u8 ys) :
  Calls Try.prog 14 #[.slice r xs.length c, .slice q ys.length d] w fun e w' => e = .returned (.bool (decide (xs = ys))) ∧ Below w.heap.size w w' := by
 have h1 := conv_bytes hx
 have h2 := conv_bytes hy
 have HS : Hid (((strOfNums xs).toList == (strOfNums ys).toList) = decide (xs = ys)) := H! (by
  have := strOfNums_inj (fun x h => wf_u8 (hx.wf x h)) (fun x h => wf_u8 (hy.wf x h))
  rw [ByteArray.toList_eq, ByteArray.toList_eq]
  by_cases h : xs = ys
  ·
   simp [h]
  ·
   have h3 : ¬ (strOfNums xs).data = (strOfNums ys).data := fun e2 => h (this.1 (by
    cases hs1 : strOfNums xs
    cases hs2 : strOfNums ys
    rw [hs1, hs2] at e2
    exact congrArg ByteArray.mk e2))
   simp [h, h3])
 clear hx hy
 generalize strOfNums xs = s1 at *
 generalize strOfNums ys = s2 at *
 go_enter Try.func14, Try.ntmps14
 go_wp2
 go_ret
 exact ⟨ret_bool HS.out, bw⟩
theorem step_of_list {P : Program} {ops : Array Oper} {o : Oper} {a : Act} {w : World} {K : Act → World → Prop} {Q : Exit → Act → World → Prop}
  (h : wpList P ops (fun e a w => e = .normal ∧ K a w) [o] a w) : if Region.wanted o (yielded ops a.tmps) = true then Oper.wp P o a w K Q else K (a.put o.dst undef) w := by
 unfold wpList at h
 split
 ·
  rename_i hw
  rw [if_pos hw] at h
  rcases h with h | ⟨_, _, _, h, _⟩
  ·
   unfold Oper.wp at h ⊢
   generalize (execOp a.eval o).run P w = r at *
   cases r with
   | ok n w' =>
    cases n <;> simp only [Oper.upon, wpList] at h ⊢
    case value => exact h.2
    case skip => exact h.2
    case defer => exact h.2
    case enter =>
     refine Calls.mono h fun e w'' he => ?_
     cases e with
     | returned u => exact he.2
     | panicked c => cases he.1
     | outgrown => obtain ⟨_, _, h, _⟩ := he; cases h
    case row => exact Rows.mono h fun u w'' he => he.2
   | halt x w' =>
    cases x <;> simp only [Oper.upon] at h ⊢
    case panic u => cases h.1
  ·
   cases h
 ·
  rename_i hw
  rw [if_neg hw] at h
  exact h.2
def b4 (x : Int) : List Int := [x / 16777216, x / 65536 % 256, x / 256 % 256, x % 256]
theorem b4_len (x : Int) : (b4 x).length = 4 := rfl
theorem b4_wrap {x : Int} (h0 : 0 ≤ x) (h1 : x ≤ 4294967295) : [IntKind.u8.wrap (x / 16777216), IntKind.u8.wrap (x / 65536), IntKind.u8.wrap (x / 256), IntKind.u8.wrap x] = b4 x := by
 have e : ∀ y : Int, IntKind.u8.wrap y = y % 256 := fun y => by simp [IntKind.wrap, IntKind.signed, IntKind.bits]
 rw [e, e, e, e]
 unfold b4
 rw [Int.emod_eq_of_lt (a := x / 16777216) (by omega) (by omega)]
theorem b4_byte {x : Int} (h : 0 ≤ x ∧ x ≤ 4294967295) : ByteL (b4 x) := by
 intro y hy
 simp only [b4, List.mem_cons, List.not_mem_nil, or_false] at hy
 rcases hy with rfl | rfl | rfl | rfl <;> omega
section
open Go.Shelf
attribute [local go_sem] Oper.semAt_some
structure KeepB (B Bo : Nat) (W W' : World) : Prop where
 zero : Below 0 W W'
 block : ∀ q, q < B → q ≠ Bo → W'.heap[q]? = W.heap[q]?
theorem KeepB.refl (B Bo : Nat) (W : World) : KeepB B Bo W W := ⟨Below.refl _ _, fun _ _ _ => rfl⟩
theorem KeepB.trans {B Bo : Nat} {W W' W'' : World} (h : KeepB B Bo W W') (k : KeepB B Bo W' W'') : KeepB B Bo W W'' :=
 ⟨h.zero.trans k.zero, fun q hq hn => (k.block q hq hn).trans (h.block q hq hn)⟩
theorem KeepB.put {B Bo : Nat} (W : World) (l : Nat) (o o' : Obj) (hl : B ≤ l) (h : W.heap[l]? = some o) : KeepB B Bo W (W.putObj l o') :=
 ⟨(Below.refl 0 W).grown (grownBy_putObj' W l o') (Nat.zero_le _) (fun k e => by cases e; exact Nat.zero_le _), fun q hq _ => World.putObj_heap_other (by omega)⟩
theorem KeepB.below {B Bo n : Nat} {W W' : World} (h : KeepB B Bo W W') (hn : n ≤ B) (ho : n ≤ Bo) : Below n W W' :=
 ⟨h.zero.os, h.zero.tape, h.zero.output, h.zero.size, fun k hk => h.block k (by omega) (by omega)⟩
theorem KeepB.cell {B Bo q o : Nat} {W W' : World} (h : KeepB B Bo W W') (hq : q < B) (hn : q ≠ Bo) : W'.cell? ⟨q, o, none⟩ = W.cell? ⟨q, o, none⟩ :=
 World.cell?_of_block (a := ⟨q, o, none⟩) (h.block q hq hn)
end
section
open Go.Shelf
attribute [local go_sem] Oper.semAt_some
theorem ownFrom_keepB {β : Type} {B Bo D : Nat} {w₀ : World} (hB : B ≤ D) (h0 : B ≤ w₀.heap.size := by exact Nat.le_refl _) : OwnFrom D (fun (_ : β) W => KeepB B Bo w₀ W) := fun _ X Y row hs hg hr =>
 ⟨hs.zero.grown hg (Nat.zero_le _) (fun k e => Nat.zero_le _), fun q hq hn => by
  rw [hg.block q (by have := hs.zero.size; omega) (fun e => by have := (hr q e.symm).1; omega)]
  exact hs.block q hq hn⟩
end
theorem wp_still_tail {P : Program} {id : Nat} {Q : Exit → Act → World → Prop} {a : Act} {w : World} {l : List Oper} (n : Nat) (hm : P.follows .mixedOrders = true) (hB : Region.lexTailB .any l.toArray n = true)
  (h : ∀ W, Below w.heap.size w W → W.heap.size = w.heap.size → wpStill P l.toArray W (fun a' => wpList P l.toArray Q (l.drop n) a' W) (l.take n) a) : (Code.region id l.toArray true).wp P Q a w :=
 wp_region_still_tail n hm hB (h w.drew (Below.refl _ _).drew rfl)
theorem OwnK.at_ {k : IntKind} {te : TypeId} {W : World} {base : Nat} {r : Option Addr} {cap : Nat} {xs : List Int} (h : OwnK k te W base r cap xs) {j : Nat} (hj : j < xs.length) :
  ∃ g, r = some ⟨g, 0, none⟩ ∧ base ≤ g ∧ g < W.heap.size ∧ W.cell? ⟨g, j, none⟩ = some (.int k (xs.getD j 0)) ∧ W.frozen? ⟨g, j, none⟩ = false ∧ ∀ u, OwnK k te (W.setCell ⟨g, j, none⟩ (.int k u)) base r cap (xs.set j u) ∧ Below base W (W.setCell ⟨g, j, none⟩ (.int k u)) := by
 have h0 := h.2
 rcases h0 with ⟨_, h3⟩ | ⟨g, c, cur, h1, hb, _⟩
 ·
  omega
 ·
  simp only [Value.slice.injEq] at h1
  obtain ⟨rfl, _, _⟩ := h1
  refine ⟨g, rfl, hb, (h.lt _ rfl).2, ?_, World.ownsRow.frozenAt (w := W) h j, fun u => ⟨?_, (Below.refl base W).setCell (p := ⟨g, j, none⟩) hb _⟩⟩
  ·
   have := World.ownsRow.cellAt (w := W) h j (by omega)
   rw [this]
   simp [List.getElem?_map, List.getD, List.getElem?_eq_getElem hj]
  ·
   have := (World.ownsRow.stored (w := W) h j (.int k u)).1
   unfold OwnK
   rw [List.length_set, List.map_set]
   exact this
def Wr (w : World) (b : Nat) (xs : List Int) : Prop := ∃ r cap, b < w.heap.size ∧ w.cell? ⟨b, 0, none⟩ = some (.slice r xs.length cap) ∧ w.frozen? ⟨b, 0, none⟩ = false ∧ OwnK .u8 5 w (b + 1) r cap xs
theorem wpList_append_kf {k : IntKind} {te : TypeId} {ts : TypeId} {z : Value} {by' : Nat} (hts : Try.prog.underlying ts = some (.slice te)) (hinf : (Try.prog.info? te).map (fun i => (i.zero, i.size, i.bytes)) = some (some z, 1, by')) (hzs : z.cells.size = 1) (hby : by' ≤ 8)
  {ops : Array Oper} {rest : List Oper} {o : Oper} {a : Act} {Q : Exit → Act → World → Prop} {w : World} (hgd : o.guard = none) (s x : Operand)
  (ho : o.op = .call { callee := .builtin .append, args := #[s, x], argTypes := #[ts, ts] }) (w0 : World) (base : Nat) (r : Option Addr) (cap : Nat) (xs ps : List Int) (n : Nat) (hn : ps.length = n) (hn0 : 0 < n)
  (hw : w = w0.alloc (.cells (ps.map (Value.int k)).toArray te)) (hs : a.eval s = .slice r xs.length cap) (hx : a.eval x = .slice (some ⟨w0.heap.size, 0, none⟩) n n)
  (hown : OwnK k te w0 base r cap xs) (hl : xs.length + n ≤ 1099511627776) (hb : base ≤ w0.heap.size)
  (h : ∀ r' cap' w', OwnK k te w' base r' cap' (xs ++ ps) → Below base w0 w' → (∀ q, q < w0.heap.size → (∀ a, r = some a → a.block ≠ q) → w'.heap[q]? = w0.heap[q]?) → (∀ a, r' = some a → (∃ a0, r = some a0 ∧ a0.block = a.block) ∨ w0.heap.size ≤ a.block) → wpList Try.prog ops Q rest (a.put o.dst (.slice r' (xs.length + n) cap')) w') : wpList Try.prog ops Q (o :: rest) a w := by
 subst hw
 subst hn
 obtain ⟨i0, hi, hz0, hz1, hz2⟩ := info_parts hinf
 have hown2 : (w0.alloc (.cells (ps.map (Value.int k)).toArray te)).ownsRow base te 1 (.slice r xs.length cap) xs.length (xs.map (Value.int k)) := World.ownsRow.alloc hown _
 refine wpList_append_lies (w0.alloc (.cells (ps.map (Value.int k)).toArray te)) hgd s x ts ho base te i0 z 1 by' hts hi hz0 hz1 hz2 hzs (by omega) _ xs.length (xs.map (Value.int k)) hs hown2 ⟨w0.heap.size, 0, none⟩ ps.length ps.length (ps.map (Value.int k)) hx (by simp) ?_ (ints_oneCell k ps) hn0 ?_ ?_ (by simp; omega) _ rfl ?_
 ·
  intro j u hj
  have : (⟨w0.heap.size, 0, none⟩ : Addr).add j = ⟨w0.heap.size, j, none⟩ := by
   by_cases hj0 : j = 0
   ·
    subst hj0; simp [Addr.add]
   ·
    simp [Addr.add, hj0]
  rw [this, World.cell?_alloc_new]
  simpa using hj
 ·
  unfold maxLen; omega
 ·
  have : (xs.length + ps.length) * by' ≤ 1099511627776 * 8 := Nat.mul_le_mul (by omega) hby
  omega
 ·
  intro g cap' w1 hown' hgrow hg _
  refine h _ _ _ ?_ ?_ ?_ ?_
  ·
   unfold OwnK
   rw [List.length_append, List.map_append]
   exact hown'
  ·
   exact ((Below.refl base w0).alloc hb _).grown hgrow (by simp only [zA]; omega) (fun k hk => (World.ownsRow.lt hown2 k hk).1)
  ·
   intro q hq hr
   rw [hgrow.block q (by rw [zA]; omega) ?_, Below.heap_alloc _ _ _ hq]
   cases r with
   | none => simp [Value.ownBlock]
   | some a0 =>
    simp only [Value.ownBlock, ne_eq, Option.some.injEq]
    exact fun e => hr a0 rfl e.symm
  ·
   intro a ha
   obtain rfl : ⟨g, 0, none⟩ = a := by simpa using ha
   rcases hg with hg | hg
   ·
    cases r with
    | none => simp [Value.ownBlock] at hg
    | some a0 =>
     simp only [Value.ownBlock, Option.some.injEq] at hg
     exact .inl ⟨a0, rfl, hg⟩
   ·
    right
    rw [hg, zA]
    exact Nat.le_succ _
def Safe (w : World) (b q : Nat) : Prop := q < w.heap.size ∧ q ≠ b ∧ ∀ ad l c, w.cell? ⟨b, 0, none⟩ = some (.slice (some ad) l c) → ad.block ≠ q
def KeepW (w w' : World) (b : Nat) : Prop := ∀ q, Safe w b q → Safe w' b q ∧ w'.heap[q]? = w.heap[q]?
theorem KeepW.refl (w : World) (b : Nat) : KeepW w w b := fun _ h => ⟨h, rfl⟩
theorem KeepW.trans {a b c : World} {d : Nat} (h : KeepW a b d) (k : KeepW b c d) : KeepW a c d := fun q hq => ⟨(k q (h q hq).1).1, (k q (h q hq).1).2.trans (h q hq).2⟩
def byteAt (n : Int) (j : Nat) : Int := n / 2 ^ (56 - 8 * j) % 256
def num8 (n : Int) : List Int := [byteAt n 0, byteAt n 1, byteAt n 2, byteAt n 3, byteAt n 4, byteAt n 5, byteAt n 6, byteAt n 7]
theorem num8_take {n : Int} {j : Nat} (hj : j < 8) : (num8 n).take (j + 1) = (num8 n).take j ++ [byteAt n j] := by
 rcases j with _ | _ | _ | _ | _ | _ | _ | _ | j <;> first | rfl | omega
theorem num8_len (n : Int) : (num8 n).length = 8 := rfl
theorem byteAt_byte (n : Int) (j : Nat) : 0 ≤ byteAt n j ∧ byteAt n j ≤ 255 := by unfold byteAt; omega
theorem num8_byte (n : Int) : ByteL (num8 n) := by
 intro y hy
 simp only [num8, List.mem_cons, List.not_mem_nil, or_false] at hy
 rcases hy with rfl | rfl | rfl | rfl | rfl | rfl | rfl | rfl <;> exact byteAt_byte _ _
theorem shr_byte (n : Int) {k : Nat} (hk : k < 8) : IntKind.u8.wrap (IntKind.u64.wrap n / 2 ^ (56 - 8 * (k : Int)).toNat) = byteAt n k := by
 have e : ∀ y : Int, IntKind.u8.wrap y = y % 256 := fun y => by simp [IntKind.wrap, IntKind.signed, IntKind.bits]
 have e2 : ∀ y : Int, IntKind.u64.wrap y = y % 18446744073709551616 := fun y => by simp [IntKind.wrap, IntKind.signed, IntKind.bits]
 rw [e, e2]
 unfold byteAt
 rcases k with _ | _ | _ | _ | _ | _ | _ | _ | k
 ·
  show n % 18446744073709551616 / (2 : Int) ^ 56 % 256 = n / (2 : Int) ^ 56 % 256
  rw [show (2 : Int) ^ 56 = 72057594037927936 from rfl]
  omega
 ·
  show n % 18446744073709551616 / (2 : Int) ^ 48 % 256 = n / (2 : Int) ^ 48 % 256
  rw [show (2 : Int) ^ 48 = 281474976710656 from rfl]
  omega
 ·
  show n % 18446744073709551616 / (2 : Int) ^ 40 % 256 = n / (2 : Int) ^ 40 % 256
  rw [show (2 : Int) ^ 40 = 1099511627776 from rfl]
  omega
 ·
  show n % 18446744073709551616 / (2 : Int) ^ 32 % 256 = n / (2 : Int) ^ 32 % 256
  rw [show (2 : Int) ^ 32 = 4294967296 from rfl]
  omega
 ·
  show n % 18446744073709551616 / (2 : Int) ^ 24 % 256 = n / (2 : Int) ^ 24 % 256
  rw [show (2 : Int) ^ 24 = 16777216 from rfl]
  omega
 ·
  show n % 18446744073709551616 / (2 : Int) ^ 16 % 256 = n / (2 : Int) ^ 16 % 256
  rw [show (2 : Int) ^ 16 = 65536 from rfl]
  omega
 ·
  show n % 18446744073709551616 / (2 : Int) ^ 8 % 256 = n / (2 : Int) ^ 8 % 256
  rw [show (2 : Int) ^ 8 = 256 from rfl]
  omega
 ·
  show n % 18446744073709551616 / (2 : Int) ^ 0 % 256 = n / (2 : Int) ^ 0 % 256
  rw [show (2 : Int) ^ 0 = 1 from rfl]
  omega
 ·
  omega
set_option maxRecDepth 100000 in
theorem wint_any (b : Nat) (n : Int) (xs : List Int) (w : World) (hw : Wr w b xs) (hl : xs.length ≤ 100000000000) : Calls Try.prog 72 #[.pointer (some ⟨b, 0, none⟩), .int .i64 n] w fun e w' => e = .returned (.tuple #[]) ∧ Wr w' b (xs ++ num8 n) ∧ Below b w w' ∧ KeepW w w' b := by
 go_enter Try.func72, Try.ntmps72
 go_wp2
 go_loopg [4] 8 (fun kx s4 wr => ∃ (k : Nat) (out : List Int) (kk : Int), s4 = .int .i64 kk ∧ kk = 56 - 8 * (k : Int) ∧ k ≤ 8 ∧ 8 - k ≤ kx ∧ Below b w wr ∧ Hid (KeepW w wr b) ∧ Hid (Wr wr b out) ∧ Hid (out = xs ++ (num8 n).take k) ∧ out.length = xs.length + k)
 case atStart => exact ⟨0, xs, 56, rfl, by omega, by omega, by omega, Below.refl _ _, H! (KeepW.refl _ _), H! hw, H! (by simp), by simp⟩
 case round =>
  obtain ⟨k, out, kk, rfl, hkk, hk, hkx, hbw, HKW, HW, HQ, hol⟩ := hrel
  by_cases hlt : k < 8
  ·
   obtain ⟨r, cap, hb, hc, hf, hown⟩ := HW.out
   have hk1 : (0 : Int) ≤ kk := by omega
   have hk2 : IntKind.i64.wrap (kk - 8) = kk - 8 := IntWalk.i64_in _ (by omega)
   have hk3 : min kk.toNat 64 = kk.toNat := by omega
   have HKK := H! hkk
   clear hkk
   have HO := H! hown
   clear hown
   have hol3 : out.length ≤ 100000000008 := by omega
   have HOL := H! hol
   clear hol
   have hWn : Below b w wr.drew := hbw.drew
   have hca : ∀ o, (wr.drew.alloc o).cell? ⟨b, 0, none⟩ = some (.slice r out.length cap) := fun o => by
    rw [World.cell?_alloc_some _ _ _ (by rw [show wr.drew.cell? ⟨b, 0, none⟩ = _ from hc]; rfl)]
    exact hc
   go_wp2
   go_region_law ((refine step_of_list ?_); (refine wpList_append_kf Try.underlying29 infoU8 rfl (by omega) (by rfl) _ _ (by rfl) wr.drew (b + 1) r cap out [IntKind.u8.wrap (IntKind.u64.wrap n / 2 ^ kk.toNat)] 1 rfl (by omega) (by rfl) (by rfl) (by rfl) (HO.out.below (Below.refl _ _).drew (Nat.le_refl _)) (by omega) hb ?_); (intro r' c' w1 hown1 hbw1 hst1 hrr1); (have HST := H! hst1); (have HRR := H! hrr1); (clear hst1 hrr1); (have HO1 := H! hown1); (clear hown1); (have hcw1 : w1.cell? ⟨b, 0, none⟩ = some (.slice r out.length cap) := by rw [hbw1.cell (p := ⟨b, 0, none⟩) (Nat.lt_succ_self b)]; exact hc); (have hfw1 : w1.frozen? ⟨b, 0, none⟩ = false := by rw [hbw1.frozen (p := ⟨b, 0, none⟩) (Nat.lt_succ_self b)]; exact hf); (refine ⟨rfl, ?_⟩))
   all_goals
    have hv : IntKind.u8.wrap (IntKind.u64.wrap n / 2 ^ kk.toNat) = byteAt n k := by
     rw [HKK.out]; exact shr_byte n hlt
    rw [hv] at HO1
    have hlen : (out ++ [byteAt n k]).length = out.length + 1 := by simp
    have HWr : Hid (Wr (w1.setCell ⟨b, 0, none⟩ (.slice r' (out.length + 1) c')) b (out ++ [byteAt n k])) := H! (by
     refine ⟨r', c', ?_, ?_, ?_, ?_⟩
     ·
      rw [zS]; exact Nat.lt_of_lt_of_le hb hbw1.size
     ·
      rw [World.cell?_setCell_same' _ _ _ (by rw [hcw1]; rfl), hlen]
     ·
      rw [World.frozen?_setCell]; exact hfw1
     ·
      exact HO1.out.set (Nat.lt_succ_self b) _)
    have hbz : Below b w (w1.setCell ⟨b, 0, none⟩ (.slice r' (out.length + 1) c')) := (hWn.trans (hbw1.mono (Nat.le_succ b))).setCell (Nat.le_refl b) _
    have HQ2 : Hid (out ++ [byteAt n k] = xs ++ (num8 n).take (k + 1)) := H! (by rw [HQ.out, num8_take hlt, List.append_assoc])
    have HL2 : Hid ((out ++ [byteAt n k]).length = xs.length + (k + 1)) := H! (by rw [hlen, HOL.out]; omega)
    have HKW2 : Hid (KeepW w (w1.setCell ⟨b, 0, none⟩ (.slice r' (out.length + 1) c')) b) := H! (HKW.out.trans (fun q hq => by
     obtain ⟨h1, h2, h3⟩ := hq
     have hr : ∀ a, r = some a → a.block ≠ q := fun a ha => h3 a _ _ (by rw [hc, ha])
     refine ⟨⟨?_, h2, fun ad l c hc3 => ?_⟩, ?_⟩
     ·
      rw [zS]; exact Nat.lt_of_lt_of_le h1 hbw1.size
     ·
      rw [World.cell?_setCell_same' _ _ _ (by rw [hcw1]; rfl)] at hc3
      simp only [Option.some.injEq, Value.slice.injEq] at hc3
      rcases HRR.out ad hc3.1 with ⟨a0, ha0, he⟩ | hge
      ·
       rw [← he]; exact hr a0 ha0
      ·
       exact fun e => by rw [e] at hge; exact absurd h1 (Nat.not_lt.2 hge)
     ·
      rw [Below.heap_setCell _ _ _ _ h2]; exact HST.out q h1 hr))
    generalize w1.setCell ⟨b, 0, none⟩ (.slice r' (out.length + 1) c') = W2 at *
    clear hcw1 hfw1 hca hc hf hv hlen HO1 HO HW HST HRR
    go_wp2
    go_roundg (8 - (k + 1))
    case measure => omega
    case rel => exact ⟨k + 1, _, kk - 8, by go_num, by have := HKK.out; omega, by omega, by omega, hbz, HKW2, HWr, HQ2, HL2.out⟩
  ·
   obtain rfl : k = 8 := by omega
   obtain rfl : kk = -8 := by omega
   go_wp2
   refine bodyPost_end (results_none rfl _ _ _) rfl ?_
   refine ⟨rfl, ?_, hbw, HKW.out⟩
   have := HW.out
   rw [HQ.out] at this
   exact this
def nums8 (l : List Int) : List Int := l.flatMap num8
def list8 (l : List Int) : List Int := num8 l.length ++ nums8 l
theorem nums8_take {l : List Int} {k : Nat} (hk : k < l.length) : nums8 (l.take (k + 1)) = nums8 (l.take k) ++ num8 (l.getD k 0) := by
 rw [List.take_add_one, List.getElem?_eq_getElem hk]
 unfold nums8
 rw [List.flatMap_append]
 simp [List.getD, List.getElem?_eq_getElem hk]
theorem nums8_len (l : List Int) : (nums8 l).length = 8 * l.length := by
 induction l with
 | nil => rfl
 | cons x l ih => simp only [nums8, List.flatMap_cons, List.length_append, num8_len, List.length_cons] at ih ⊢; omega
theorem nums8_byte (l : List Int) : ByteL (nums8 l) := by
 intro y hy
 simp only [nums8, List.mem_flatMap] at hy
 obtain ⟨x, hx, hy⟩ := hy
 exact num8_byte x y hy
theorem list8_len (l : List Int) : (list8 l).length = 8 + 8 * l.length := by
 unfold list8; rw [List.length_append, num8_len, nums8_len]
set_option maxRecDepth 100000 in
theorem wlist_any (b : Nat) (r : Option Addr) (cap : Nat) (l : List Int) (xs : List Int) (W0 w : World) (hx : IsInts W0 r cap .i64 l) (hB : W0.heap.size ≤ b) (hb0 : Below W0.heap.size W0 w) (hw : Wr w b xs) (hl : xs.length + 8 * l.length ≤ 90000000000) : Calls Try.prog 74 #[.pointer (some ⟨b, 0, none⟩), .slice r l.length cap] w fun e w' => e = .returned (.tuple #[]) ∧ Wr w' b (xs ++ list8 l) ∧ Below b w w' ∧ KeepW w w' b := by
 have HX : Hid (l = [] ∨ ∃ b off, r = some ⟨b, off, none⟩ ∧ b < W0.heap.size ∧ ∀ i, i < l.length → W0.cell? ⟨b, off + i, none⟩ = some (.int .i64 (l.getD i 0))) := H! (by
  by_cases e : l = []
  ·
   exact .inl e
  ·
   exact .inr (hx.cells e))
 have HS : Hid (∀ k, k < l.length → nums8 (l.take (k + 1)) = nums8 (l.take k) ++ num8 (l.getD k 0)) := H! (fun k hk => nums8_take hk)
 have HLN : Hid (∀ k, k ≤ l.length → (nums8 (l.take k)).length = 8 * k) := H! (fun k hk => by rw [nums8_len, List.length_take]; omega)
 have HE : Hid (xs ++ list8 l = xs ++ num8 l.length ++ nums8 (l.take l.length)) := H! (by rw [List.take_length, list8, List.append_assoc])
 have hlm : l.length < 1000000000000 := by omega
 clear hx
 have HB0 := H! hb0
 have HWr := H! hw
 clear hb0 hw
 generalize list8 l = res at *
 generalize hn : l.length = n at *
 have HN := H! hn
 clear hn
 go_enter Try.func74, Try.ntmps74
 go_wp2_with (go_at_call 72; refine (wint_any b _ xs _ HWr.out (by omega)).mono ?_; rintro e w1 ⟨rfl, hW1, hb1, hk1⟩)
 have HW1 := H! hW1
 have HK1 := H! hk1
 clear hW1 hk1
 go_loopg [12] n (fun kx s12 wr => ∃ (k : Nat) (out : List Int), s12 = .int .i64 k ∧ k ≤ n ∧ n - k ≤ kx ∧ Below b w wr ∧ Hid (KeepW w wr b) ∧ Hid (Wr wr b out) ∧ Hid (out = xs ++ num8 n ++ nums8 (l.take k)))
 case atStart => exact ⟨0, _, rfl, by omega, by omega, hb1, HK1, HW1, H! (by simp [nums8])⟩
 case round =>
  obtain ⟨k, out, rfl, hk, hkx, hbw, HKW, HW, HQ⟩ := hrel
  by_cases hlt : k < n
  ·
   have hk1 : (0 : Int) ≤ (k : Int) := by omega
   have hk2 : (k : Int) < n := by omega
   obtain ⟨bX, off, rfl, hb, hc⟩ := HX.out.resolve_left (fun e => by have := HN.out; rw [e] at this; simp at this; omega)
   have hc1 : wr.cell? ⟨bX, off + k, none⟩ = some (.int .i64 (l.getD k 0)) := by
    rw [(HB0.out.trans (hbw.mono hB)).cell (p := ⟨bX, off + k, none⟩) hb]; exact hc k hlt
   have HQ2 := H! (HS.out k hlt)
   have hol : out.length ≤ 100000000000 := by
    have := HLN.out k (by omega)
    rw [HQ.out, List.length_append, List.length_append, num8_len, this]
    omega
   clear hc
   generalize l.getD k 0 = x at *
   go_wp2_with (go_at_call 72; refine (wint_any b _ out _ HW.out hol).mono ?_; rintro e w2 ⟨rfl, hW2, hb2, hk3⟩)
   have HW2 := H! hW2
   have HK2 := H! (HKW.out.trans hk3)
   clear hW2 hk3
   go_roundg (n - (k + 1))
   case measure => omega
   case rel => exact ⟨k + 1, _, by go_num, by omega, by omega, hbw.trans hb2, HK2, HW2, H! (by rw [HQ2.out, HQ.out, List.append_assoc])⟩
  ·
   obtain rfl : k = n := by omega
   go_wp2
   refine bodyPost_end (results_none rfl _ _ _) rfl ?_
   refine ⟨rfl, ?_, hbw, HKW.out⟩
   rw [HE.out, ← HQ.out]
   exact HW.out
def padN (n : Nat) : Nat := (4 - n % 4) % 4
def summed (xs : List Int) : List Int := xs ++ b4 (sumB xs)
def sealL (xs : List Int) : List Int := summed xs ++ List.replicate (padN (summed xs).length) 0
theorem summed_len (xs : List Int) : (summed xs).length = xs.length + 4 := by unfold summed; rw [List.length_append, b4_len]
theorem sumB_u32 (xs : List Int) : 0 ≤ sumB xs ∧ sumB xs ≤ 4294967295 := by have := sumF_bd (s := 1) (by omega) xs; unfold sumB; omega
theorem padN_lt (n : Nat) : padN n ≤ 3 := by unfold padN; omega
theorem padN_mod {n k : Nat} (hk : k ≤ padN n) : ((n + k) % 4 = 0) ↔ k = padN n := by unfold padN at *; omega
theorem sealL_byte {xs : List Int} (h : ByteL xs) : ByteL (sealL xs) := by
 intro y hy
 simp only [sealL, summed, List.mem_append, List.mem_replicate] at hy
 rcases hy with (hy | hy) | ⟨_, rfl⟩
 ·
  exact h y hy
 ·
  exact b4_byte (sumB_u32 xs) y hy
 ·
  omega
set_option maxRecDepth 100000 in
theorem sealed_any (base : Nat) (r : Option Addr) (cap : Nat) (xs : List Int) (w : World) (ho : OwnK .u8 5 w base r cap xs) (hb : ByteL xs) (hl : xs.length ≤ 90000000000) (hbase : base ≤ w.heap.size) : Calls Try.prog 35 #[.slice r xs.length cap] w fun e w' => ∃ ro co, e = .returned (.slice ro (sealL xs).length co) ∧ OwnK .u8 5 w' base ro co (sealL xs) ∧ Below base w w' := by
 have hx : IsInts w r cap .u8 xs := ho.ints (fun x hx => u8_wf (hb x hx).1 (hb x hx).2)
 have ⟨s0, s1⟩ := sumB_u32 xs
 have HO := H! ho
 clear ho
 have HM : Hid (∀ k, k ≤ padN (summed xs).length → ((((summed xs ++ List.replicate k (0 : Int)).length : Int)) % 4 = 0 ↔ k = padN (summed xs).length)) := H! (fun k hk => by
  rw [List.length_append, List.length_replicate]
  have := padN_mod (n := (summed xs).length) hk
  omega)
 have HL : Hid ((summed xs).length = xs.length + 4) := H! (summed_len xs)
 have HP : Hid (padN (summed xs).length ≤ 3) := H! (padN_lt _)
 have HE : Hid (sealL xs = summed xs ++ List.replicate (padN (summed xs).length) 0) := H! rfl
 have HU : Hid (summed xs = xs ++ b4 (sumB xs)) := H! rfl
 generalize sealL xs = res at *
 generalize padN (summed xs).length = pd at *
 generalize summed xs = sm at *
 go_enter Try.func35, Try.ntmps35
 generalize hsm : sumB xs = sv at *
 go_wp2_with (first | (go_at_call 11; refine (isum_any _ _ _ _ hx).mono ?_; rintro e w1 ⟨rfl, hb1⟩; rw [hsm]; have hbz : base ≤ w1.heap.size := Nat.le_trans hbase hb1.size) | (at_builtin; refine wpList_append_k Try.underlying29 infoU8 rfl (by omega) (by rfl) _ _ (by rfl) w1 base r cap xs (b4 sv) 4 rfl (by omega) (by first | rfl | (rw [← b4_wrap s0 s1]; rfl)) (by rfl) (by rfl) (HO.out.below hb1 (Nat.le_refl _)) (by omega) hbz ?_; intro r' c' w2 hown2 hbw2; have HO2 := H! hown2; clear hown2))
 have hlen : xs.length + 4 = sm.length := HL.out.symm
 rw [hlen]
 have hO3 : Hid (OwnK .u8 5 w2 base r' c' sm) := H! (by rw [HU.out]; exact HO2.out)
 have hbw : Below base w w2 := (hb1.mono hbase).trans hbw2
 clear HO2 HO
 have hsml : sm.length ≤ 90000000004 := by omega
 go_loopg [0] 4 (fun kx s0 wr => ∃ (k : Nat) (ro : Option Addr) (co : Nat) (out : List Int), s0 = .slice ro out.length co ∧ k ≤ pd ∧ pd - k ≤ kx ∧ Below base w wr ∧ Hid (OwnK .u8 5 wr base ro co out) ∧ Hid (out = sm ++ List.replicate k 0) ∧ out.length ≤ 90000000010)
 case atStart => exact ⟨0, _, _, sm, rfl, by omega, by have := HP.out; omega, hbw, hO3, H! (by simp), by omega⟩
 case round =>
  obtain ⟨k, ro, co, out, rfl, hk, hkx, hbr, HOr, HQ, hol⟩ := hrel
  have hbs : base ≤ wr.heap.size := Nat.le_trans hbase hbr.size
  have HMk := H! (HM.out k hk)
  rw [← HQ.out] at HMk
  by_cases hlt : k < pd
  ·
   have hm : ¬ ((out.length : Int) % 4 = 0) := fun h => by have := HMk.out.1 h; omega
   go_wp2_with (at_builtin; refine wpList_append_k Try.underlying29 infoU8 rfl (by omega) (by rfl) _ _ (by rfl) wr base ro co out [0] 1 rfl (by omega) (by rfl) (by rfl) (by rfl) HOr.out (by omega) hbs ?_; intro r2 c2 w3 hown3 hbw3; have HO4 := H! hown3; clear hown3)
   go_roundg (pd - (k + 1))
   case measure => omega
   case rel => exact ⟨k + 1, r2, c2, out ++ [0], by simp, by omega, by omega, hbr.trans hbw3, HO4, H! (by rw [HQ.out, List.append_assoc, List.replicate_succ']), by have := HQ.out; have := HP.out; rw [HQ.out]; simp only [List.length_append, List.length_replicate, List.length_singleton]; omega⟩
  ·
   obtain rfl : k = pd := by omega
   have hm : (out.length : Int) % 4 = 0 := HMk.out.2 rfl
   go_wp2
   go_ret
   have he : out = res := by rw [HE.out, HQ.out]
   subst he
   exact ⟨ro, co, rfl, HOr.out, hbr⟩
theorem infoI64 : (Try.prog.info? 3).map (fun i => (i.zero, i.size, i.bytes)) = some (some (.int .i64 0), 1, 8) := by kernel_rfl
set_option maxRecDepth 100000 in
theorem growI (n : Nat) (hn : n ≤ 1000000) (w : World) : Calls Try.prog 110 #[.slice none 0 0, .int .i64 n] w fun e w' => ∃ r cap, e = .returned (.slice r 0 cap) ∧ OwnK .i64 3 w' w.heap.size r cap [] ∧ Below w.heap.size w w' := by
 by_cases h0 : n = 0
 ·
  subst h0
  go_enter Try.func110, Try.ntmps110
  go_wp2
  go_ret
  exact ⟨none, 0, rfl, OwnK.nil _ _, bw⟩
 ·
  have hn0 : (0 : Int) < n := by omega
  obtain ⟨i0, hi, hz0, hz1, hz2⟩ := info_parts infoI64
  have hs8 : i0.size = 1 := hz1
  have hb8 : i0.bytes = 8 := hz2
  go_enter Try.func110, Try.ntmps110
  go_wp2_with (at_builtin; refine Lib.wpList_append_run _ (by rfl) _ _ _ _ (by rfl) _ _ (by rfl) (by rfl) _ _ (Lib.run_append_nil_zeros _ _ _ _ 3 i0 (.int .i64 0) .i64 .i64 Try.underlying26 Try.underlying3 hi hz0 n (by omega) (by omega) (by omega) (by rw [hz2]; omega)) ?_)
  go_ret
  refine ⟨some ⟨w.heap.size, 0, none⟩, grownCap w n 0 3, rfl, ⟨by simp, Or.inr ⟨w.heap.size, grownCap w n 0 3, _, rfl, Nat.le_refl _, heap_alloc_new w _, Nat.zero_le _, grownCap_le_maxLen w n 0 3 (by unfold maxLen; omega), ?_, by simp⟩⟩, bw⟩
  have := grownCap_ge w n 0 3
  simp only [Array.size_append, size_zeroCells, List.size_toArray, List.length_singleton]
  omega
set_option maxRecDepth 100000 in
theorem concat2I (b : Nat) (r1 r2 : Option Addr) (c1 c2 : Nat) (xs ys : List Int) (w : World) (hb : b < w.heap.size) (d0 : w.cell? ⟨b, 0, none⟩ = some (.slice r1 xs.length c1)) (d1 : w.cell? ⟨b, 1, none⟩ = some (.slice r2 ys.length c2))
  (hx : IsInts w r1 c1 .i64 xs) (hy : IsInts w r2 c2 .i64 ys) (hl : xs.length + ys.length ≤ 100000) (hw : ∀ x ∈ xs ++ ys, (Lit.int .i64 x).wf = true) :
  Calls Try.prog 70 #[.slice (some ⟨b, 0, none⟩) 2 2] w fun e w' => ∃ r cap, e = .returned (.slice r (xs ++ ys).length cap) ∧ IsInts w' r cap .i64 (xs ++ ys) ∧ Below w.heap.size w w' := by
 have HX : Hid (∀ w', Below w.heap.size w w' → IsInts w' r1 c1 .i64 xs) := H! (fun _ h => hx.later h)
 have HY : Hid (∀ w', Below w.heap.size w w' → IsInts w' r2 c2 .i64 ys) := H! (fun _ h => hy.later h)
 have HW := H! hw
 have HL : Hid ((xs ++ ys).length = xs.length + ys.length) := H! (by simp)
 clear hx hy hw
 go_enter Try.func70, Try.ntmps70
 go_wp2
 go_loopg [3, 11] 2 (fun kx s3 s11 wr => wr = w ∧ ((s3 = .int .i64 0 ∧ s11 = .int .i64 0 ∧ 2 ≤ kx) ∨ (s3 = .int .i64 xs.length ∧ s11 = .int .i64 1 ∧ 1 ≤ kx) ∨ (s3 = .int .i64 ((xs.length : Int) + ys.length) ∧ s11 = .int .i64 2)))
 case atStart => exact ⟨rfl, .inl ⟨rfl, rfl, Nat.le_refl _⟩⟩
 case round =>
  obtain ⟨rfl, h⟩ := hrel
  rcases h with ⟨rfl, rfl, hk⟩ | ⟨rfl, rfl, hk⟩ | ⟨rfl, rfl⟩
  ·
   go_wp2
   go_roundg 1
   case measure => omega
   case rel => exact ⟨rfl, .inr (.inl ⟨by go_num, by go_num, Nat.le_refl _⟩)⟩
  ·
   go_wp2
   go_roundg 0
   case measure => omega
   case rel => exact ⟨rfl, .inr (.inr ⟨by go_num, by go_num⟩)⟩
  ·
   go_wp2_with (go_at_call 110; rw [show ((xs.length : Int) + ys.length) = ((xs.length + ys.length : Nat) : Int) by omega]; refine (growI (xs.length + ys.length) (by omega) _).mono ?_; rintro x hb1w ⟨r0, q0, rfl, hown0, hb1⟩; have HO0 := H! hown0; clear hown0; have hb1s := hb1.size)
   go_loopg [6, 27] 2 (fun kx s6 s27 we => ∃ (e : Later wr) (r : Option Addr) (cap : Nat), we = e.w ∧ ((s6 = .slice r 0 cap ∧ s27 = .int .i64 0 ∧ 2 ≤ kx ∧ Hid (OwnK .i64 3 e.w wr.heap.size r cap [])) ∨ (s6 = .slice r xs.length cap ∧ s27 = .int .i64 1 ∧ 1 ≤ kx ∧ Hid (OwnK .i64 3 e.w wr.heap.size r cap xs)) ∨ (s6 = .slice r (xs ++ ys).length cap ∧ s27 = .int .i64 2 ∧ Hid (OwnK .i64 3 e.w wr.heap.size r cap (xs ++ ys)))))
   case atStart => exact ⟨⟨hb1w, hb1⟩, r0, q0, rfl, .inl ⟨rfl, rfl, Nat.le_refl _, HO0⟩⟩
   case round =>
    clear HO0
    obtain ⟨e, r, cap, rfl, h⟩ := hrel
    have hes := e.h.size
    rcases h with ⟨rfl, rfl, hk, HO⟩ | ⟨rfl, rfl, hk, HO⟩ | ⟨rfl, rfl, HO⟩
    ·
     go_wp2_with (at_builtin; refine wpList_append_ks Try.underlying26 infoI64 rfl (by omega) (by rfl) _ _ (by rfl) _ r r1 cap c1 [] xs (by rfl) (by rfl) HO.out (HX.out _ e.h) (by simp; omega) (by omega) ?_; intro r' cap' w1 hown1 hbw1; have HO1 := H! hown1; clear hown1)
     go_roundg 1
     case measure => omega
     case rel => exact ⟨⟨w1, e.h.trans hbw1⟩, r', cap', rfl, .inr (.inl ⟨rfl, by go_num, Nat.le_refl _, HO1⟩)⟩
    ·
     go_wp2_with (at_builtin; refine wpList_append_ks Try.underlying26 infoI64 rfl (by omega) (by rfl) _ _ (by rfl) _ r r2 cap c2 xs ys (by rfl) (by rfl) HO.out (HY.out _ e.h) (by omega) (by omega) ?_; intro r' cap' w1 hown1 hbw1; have HO1 := H! hown1; clear hown1)
     go_roundg 0
     case measure => omega
     case rel => exact ⟨⟨w1, e.h.trans hbw1⟩, r', cap', rfl, .inr (.inr ⟨by simp, by go_num, HO1⟩)⟩
    ·
     go_wp2
     go_ret
     exact ⟨r, cap, rfl, HO.out.ints HW.out, e.h⟩
set_option maxRecDepth 100000 in
theorem idx0F (v : Value) (w : World) : Calls Try.prog 97 #[.slice none 0 0, v] w fun e w' => e = .returned (.int .i64 (-1)) ∧ Below w.heap.size w w' := by
 go_enter Try.func97, Try.ntmps97
 go_wp2
 go_loopg [8] 0 (fun kx s8 wr => s8 = .int .i64 0 ∧ Below w.heap.size w wr)
 case atStart => exact ⟨rfl, Below.refl _ _⟩
 case round =>
  obtain ⟨rfl, hb⟩ := hrel
  go_wp2
  go_ret
  exact ⟨rfl, hb⟩
set_option maxRecDepth 100000 in
theorem has0F (v : Value) (w : World) : Calls Try.prog 58 #[.slice none 0 0, v] w fun e w' => e = .returned (.bool false) ∧ Below w.heap.size w w' := by
 go_enter Try.func58, Try.ntmps58
 go_wp2_with (go_at_call 97; refine (idx0F _ _).mono ?_; rintro e w1 ⟨rfl, hb⟩)
 go_ret
 exact ⟨rfl, hb⟩
set_option maxRecDepth 100000 in
theorem idx0C (v : Value) (w : World) : Calls Try.prog 54 #[.slice none 0 0, v] w fun e w' => e = .returned (.int .i64 (-1)) ∧ Below w.heap.size w w' := by
 go_enter Try.func54, Try.ntmps54
 go_wp2
 go_loopg [8] 0 (fun kx s8 wr => s8 = .int .i64 0 ∧ Below w.heap.size w wr)
 case atStart => exact ⟨rfl, Below.refl _ _⟩
 case round =>
  obtain ⟨rfl, hb⟩ := hrel
  go_wp2
  go_ret
  exact ⟨rfl, hb⟩
set_option maxRecDepth 100000 in
theorem has0C (v : Value) (w : World) : Calls Try.prog 28 #[.slice none 0 0, v] w fun e w' => e = .returned (.bool false) ∧ Below w.heap.size w w' := by
 go_enter Try.func28, Try.ntmps28
 go_wp2_with (go_at_call 54; refine (idx0C _ _).mono ?_; rintro e w1 ⟨rfl, hb⟩)
 go_ret
 exact ⟨rfl, hb⟩
set_option maxRecDepth 100000 in
theorem idx0M (v : Value) (w : World) : Calls Try.prog 55 #[.slice none 0 0, v] w fun e w' => e = .returned (.int .i64 (-1)) ∧ Below w.heap.size w w' := by
 go_enter Try.func55, Try.ntmps55
 go_wp2
 go_loopg [8] 0 (fun kx s8 wr => s8 = .int .i64 0 ∧ Below w.heap.size w wr)
 case atStart => exact ⟨rfl, Below.refl _ _⟩
 case round =>
  obtain ⟨rfl, hb⟩ := hrel
  go_wp2
  go_ret
  exact ⟨rfl, hb⟩
set_option maxRecDepth 100000 in
theorem has0M (v : Value) (w : World) : Calls Try.prog 30 #[.slice none 0 0, v] w fun e w' => e = .returned (.bool false) ∧ Below w.heap.size w w' := by
 go_enter Try.func30, Try.ntmps30
 go_wp2_with (go_at_call 55; refine (idx0M _ _).mono ?_; rintro e w1 ⟨rfl, hb⟩)
 go_ret
 exact ⟨rfl, hb⟩
set_option maxRecDepth 100000 in
theorem idx0I (v : Value) (w : World) : Calls Try.prog 104 #[.slice none 0 0, v] w fun e w' => e = .returned (.int .i64 (-1)) ∧ Below w.heap.size w w' := by
 go_enter Try.func104, Try.ntmps104
 go_wp2
 go_loopg [8] 0 (fun kx s8 wr => s8 = .int .i64 0 ∧ Below w.heap.size w wr)
 case atStart => exact ⟨rfl, Below.refl _ _⟩
 case round =>
  obtain ⟨rfl, hb⟩ := hrel
  go_wp2
  go_ret
  exact ⟨rfl, hb⟩
set_option maxRecDepth 100000 in
theorem has0I (v : Value) (w : World) : Calls Try.prog 65 #[.slice none 0 0, v] w fun e w' => e = .returned (.bool false) ∧ Below w.heap.size w w' := by
 go_enter Try.func65, Try.ntmps65
 go_wp2_with (go_at_call 104; refine (idx0I _ _).mono ?_; rintro e w1 ⟨rfl, hb⟩)
 go_ret
 exact ⟨rfl, hb⟩
set_option maxRecDepth 100000 in
theorem idx0N (v : Value) (w : World) : Calls Try.prog 109 #[.slice none 0 0, v] w fun e w' => e = .returned (.int .i64 (-1)) ∧ Below w.heap.size w w' := by
 go_enter Try.func109, Try.ntmps109
 go_wp2
 go_loopg [8] 0 (fun kx s8 wr => s8 = .int .i64 0 ∧ Below w.heap.size w wr)
 case atStart => exact ⟨rfl, Below.refl _ _⟩
 case round =>
  obtain ⟨rfl, hb⟩ := hrel
  go_wp2
  go_ret
  exact ⟨rfl, hb⟩
set_option maxRecDepth 100000 in
theorem has0N (v : Value) (w : World) : Calls Try.prog 68 #[.slice none 0 0, v] w fun e w' => e = .returned (.bool false) ∧ Below w.heap.size w w' := by
 go_enter Try.func68, Try.ntmps68
 go_wp2_with (go_at_call 109; refine (idx0N _ _).mono ?_; rintro e w1 ⟨rfl, hb⟩)
 go_ret
 exact ⟨rfl, hb⟩
@[go_sem] theorem run_store_func {P : Program} {w : World} {a : Addr} {m : Mode} (f : Fn) (x y : Array Value) : (store a (.func f x y) m).run P w = stored P w a (.func f x y) m := run_store P w a _ m rfl
theorem infoBool : (Try.prog.info? 4).map (fun i => (i.zero, i.size, i.bytes)) = some (some (.bool false), 1, 1) := by kernel_rfl
theorem nilI {w : World} {k : IntKind} : IsInts w none 0 k [] := ⟨Nat.le_refl _, Nat.zero_le _, by simp, fun h => absurd rfl h⟩
def prog0 : Value := .agg #[.slice none 0 0, .slice none 0 0, .slice none 0 0, .slice none 0 0, .int .i64 0, .slice none 0 0, .slice none 0 0, .slice none 0 0, .slice none 0 0]
set_option maxRecDepth 100000 in
theorem valid0 (w : World) : Calls Try.prog 34 #[prog0] w fun e w' => e = .returned (.bool true) ∧ Below w.heap.size w w' := by
 unfold prog0
 go_enter Try.func34, Try.ntmps34
 go_wp2_with (first | (go_at_call 58; refine (has0F _ _).mono ?_; rintro e hb0w ⟨rfl, hb0⟩; obtain ⟨hb0c, hb0f⟩ := bcell hb0; have hb0s := hb0.size; (try simp only [zA] at hb0s); (try (have : w.heap.size < hb0w.heap.size := by omega)); (try (have : w.heap.size + 1 < hb0w.heap.size := by omega)); (try (have : w.heap.size + 1 + 1 < hb0w.heap.size := by omega)); (try (have : w.heap.size + 1 + 1 + 1 < hb0w.heap.size := by omega)); (try (have : bX < hb0w.heap.size := by omega)); (try (have : bY < hb0w.heap.size := by omega)); (try (have : bZ < hb0w.heap.size := by omega))) | (go_at_call 28; refine (has0C _ _).mono ?_; rintro e hb1w ⟨rfl, hb1⟩; obtain ⟨hb1c, hb1f⟩ := bcell hb1; have hb1s := hb1.size; (try simp only [zA] at hb1s); (try (have : w.heap.size < hb1w.heap.size := by omega)); (try (have : w.heap.size + 1 < hb1w.heap.size := by omega)); (try (have : w.heap.size + 1 + 1 < hb1w.heap.size := by omega)); (try (have : w.heap.size + 1 + 1 + 1 < hb1w.heap.size := by omega)); (try (have : bX < hb1w.heap.size := by omega)); (try (have : bY < hb1w.heap.size := by omega)); (try (have : bZ < hb1w.heap.size := by omega))) | (go_at_call 30; refine (has0M _ _).mono ?_; rintro e hb2w ⟨rfl, hb2⟩; obtain ⟨hb2c, hb2f⟩ := bcell hb2; have hb2s := hb2.size; (try simp only [zA] at hb2s); (try (have : w.heap.size < hb2w.heap.size := by omega)); (try (have : w.heap.size + 1 < hb2w.heap.size := by omega)); (try (have : w.heap.size + 1 + 1 < hb2w.heap.size := by omega)); (try (have : w.heap.size + 1 + 1 + 1 < hb2w.heap.size := by omega)); (try (have : bX < hb2w.heap.size := by omega)); (try (have : bY < hb2w.heap.size := by omega)); (try (have : bZ < hb2w.heap.size := by omega))) | (go_at_call 65; refine (has0I _ _).mono ?_; rintro e hb3w ⟨rfl, hb3⟩; obtain ⟨hb3c, hb3f⟩ := bcell hb3; have hb3s := hb3.size; (try simp only [zA] at hb3s); (try (have : w.heap.size < hb3w.heap.size := by omega)); (try (have : w.heap.size + 1 < hb3w.heap.size := by omega)); (try (have : w.heap.size + 1 + 1 < hb3w.heap.size := by omega)); (try (have : w.heap.size + 1 + 1 + 1 < hb3w.heap.size := by omega)); (try (have : bX < hb3w.heap.size := by omega)); (try (have : bY < hb3w.heap.size := by omega)); (try (have : bZ < hb3w.heap.size := by omega))))
 have hq : ∀ o, (hb3w.alloc (.cells #[.slice none 0 0, .slice none 0 0, .slice none 0 0] 26)).cell? ⟨w.heap.size, o, none⟩ = hb0w.cell? ⟨w.heap.size, o, none⟩ := fun o => by
  rw [((Below.refl hb3w.heap.size hb3w).alloc (Nat.le_refl _) _).cell (p := ⟨w.heap.size, o, none⟩) (by show w.heap.size < hb3w.heap.size; omega), hb3c _ _ (by omega), hb2c _ _ (by omega), hb1c _ _ (by omega)]
 have q4 : (hb3w.alloc (.cells #[.slice none 0 0, .slice none 0 0, .slice none 0 0] 26)).cell? ⟨w.heap.size, 4, none⟩ = some (.int .i64 0) := by rw [hq, hb0c _ _ (by simp only [zA]; omega)]; first | go_keep | simp
 have q5 : (hb3w.alloc (.cells #[.slice none 0 0, .slice none 0 0, .slice none 0 0] 26)).cell? ⟨w.heap.size, 5, none⟩ = some (.slice none 0 0) := by rw [hq, hb0c _ _ (by simp only [zA]; omega)]; first | go_keep | simp
 have q6 : (hb3w.alloc (.cells #[.slice none 0 0, .slice none 0 0, .slice none 0 0] 26)).cell? ⟨w.heap.size, 6, none⟩ = some (.slice none 0 0) := by rw [hq, hb0c _ _ (by simp only [zA]; omega)]; first | go_keep | simp
 have q8 : (hb3w.alloc (.cells #[.slice none 0 0, .slice none 0 0, .slice none 0 0] 26)).cell? ⟨w.heap.size, 8, none⟩ = some (.slice none 0 0) := by rw [hq, hb0c _ _ (by simp only [zA]; omega)]; first | go_keep | simp
 have l0 : (hb3w.alloc (.cells #[.slice none 0 0, .slice none 0 0, .slice none 0 0] 26)).cell? ⟨hb3w.heap.size, 0, none⟩ = some (.slice none 0 0) := by go_keep
 have l1 : (hb3w.alloc (.cells #[.slice none 0 0, .slice none 0 0, .slice none 0 0] 26)).cell? ⟨hb3w.heap.size, 1, none⟩ = some (.slice none 0 0) := by go_keep
 have l2 : (hb3w.alloc (.cells #[.slice none 0 0, .slice none 0 0, .slice none 0 0] 26)).cell? ⟨hb3w.heap.size, 2, none⟩ = some (.slice none 0 0) := by go_keep
 have hbW : Below w.heap.size w (hb3w.alloc (.cells #[.slice none 0 0, .slice none 0 0, .slice none 0 0] 26)) := bw
 have z1 : w.heap.size < (hb3w.alloc (.cells #[.slice none 0 0, .slice none 0 0, .slice none 0 0] 26)).heap.size := by rw [zA]; omega
 have z2 : hb3w.heap.size < (hb3w.alloc (.cells #[.slice none 0 0, .slice none 0 0, .slice none 0 0] 26)).heap.size := by rw [zA]; omega
 generalize hb3w.alloc (.cells #[.slice none 0 0, .slice none 0 0, .slice none 0 0] 26) = W3 at *
 generalize hb3w.heap.size = bl at *
 clear hq hb0c hb1c hb2c hb3c hb0f hb1f hb2f hb3f hb0 hb1 hb2 hb3
 go_loopg [5, 78] 3 (fun kx s5 s78 wr => ∃ (k : Nat) (e : Later W3), s78 = .int .i64 k ∧ k ≤ 3 ∧ 3 - k ≤ kx ∧ wr = e.w)
 case atStart => exact ⟨0, ⟨W3, Below.refl _ _⟩, rfl, by omega, by omega, rfl⟩
 case round =>
  obtain ⟨k, e, rfl, hk, hkx, rfl⟩ := hrel
  have hes := e.h.size
  by_cases hlt : k < 3
  ·
   obtain rfl | rfl | rfl : k = 0 ∨ k = 1 ∨ k = 2 := by omega
   ·
    go_wp2_with (first | (go_at_call 68; refine (has0N _ _).mono ?_; rintro x w2 ⟨rfl, hb2⟩))
    go_roundg 2
    case measure => omega
    case rel => exact ⟨1, ⟨w2, e.h.trans (hb2.mono e.h.size)⟩, by go_num, by omega, by omega, rfl⟩
   ·
    go_wp2_with (first | (go_at_call 68; refine (has0N _ _).mono ?_; rintro x w2 ⟨rfl, hb2⟩))
    go_roundg 1
    case measure => omega
    case rel => exact ⟨2, ⟨w2, e.h.trans (hb2.mono e.h.size)⟩, by go_num, by omega, by omega, rfl⟩
   ·
    go_wp2_with (first | (go_at_call 68; refine (has0N _ _).mono ?_; rintro x w2 ⟨rfl, hb2⟩))
    go_roundg 0
    case measure => omega
    case rel => exact ⟨3, ⟨w2, e.h.trans (hb2.mono e.h.size)⟩, by go_num, by omega, by omega, rfl⟩
  ·
   obtain rfl : k = 3 := by omega
   obtain ⟨i0, hi, hz0, hz1, hz2⟩ := info_parts infoBool
   have hbm : ∀ n : Nat, n = 0 → i0.bytes * n ≤ 281474976710656 := fun n h => by subst h; omega
   go_wp2_with (first | (at_make; refine wpList_make_full _ (by rfl) _ _ _ (by rfl) e.w.heap.size 4 i0 (.bool false) 1 Try.underlying77 hi hz0 hz1 .i64 .i64 _ _ 0 (by rfl) (by rfl) (by rfl) (by rfl) (by rw [hz2]; omega) (by unfold maxLen; omega) (Nat.le_refl _) ?_; intro w4 hown hgrow; have hb4 : Below e.w.heap.size e.w w4 := (Below.refl _ _).grown hgrow (Nat.le_refl _) (fun k hk => by cases hk); clear hown; have z4 : w.heap.size < e.w.heap.size := (by omega); have z5 : w.heap.size < w4.heap.size := Nat.lt_of_lt_of_le z4 hb4.size; have r5 : w4.cell? ⟨w.heap.size, 5, none⟩ = some (.slice none 0 0) := (by rw [hb4.cell (p := ⟨w.heap.size, 5, none⟩) z4, e.h.cell (p := ⟨w.heap.size, 5, none⟩) z1]; exact q5); have r6 : w4.cell? ⟨w.heap.size, 6, none⟩ = some (.slice none 0 0) := (by rw [hb4.cell (p := ⟨w.heap.size, 6, none⟩) z4, e.h.cell (p := ⟨w.heap.size, 6, none⟩) z1]; exact q6); have r8 : w4.cell? ⟨w.heap.size, 8, none⟩ = some (.slice none 0 0) := (by rw [hb4.cell (p := ⟨w.heap.size, 8, none⟩) z4, e.h.cell (p := ⟨w.heap.size, 8, none⟩) z1]; exact q8)) | (go_at_call 70; refine (concat2I w4.heap.size none none 0 0 [] [] _ (by rw [zA]; omega) (by simp) (by simp) nilI nilI (by simp) (by simp)).mono ?_; rintro x w5 ⟨r5, c5, rfl, _, hb5⟩; have r8b : w5.cell? ⟨w.heap.size, 8, none⟩ = some (.slice none 0 0) := (by rw [hb5.cell (p := ⟨w.heap.size, 8, none⟩) (by rw [zA]; show w.heap.size < w4.heap.size + 1; omega), ((Below.refl w4.heap.size w4).alloc (Nat.le_refl _) _).cell (p := ⟨w.heap.size, 8, none⟩) z5]; exact r8); have hbz : Below w.heap.size w w5 := hbW.trans ((e.h.mono (by omega)).trans ((hb4.mono (by omega)).trans ((((Below.refl w4.heap.size w4).alloc (Nat.le_refl _) _).mono (by omega)).trans (hb5.mono (by rw [zA]; omega)))))))
   go_loopg [8, 101] 0 (fun kx s8 s101 wr => s101 = .int .i64 0 ∧ wr = w5)
   case atStart => exact ⟨rfl, rfl⟩
   case round =>
    obtain ⟨rfl, rfl⟩ := hrel
    go_wp2_with (go_at_call 68; refine (has0N _ _).mono ?_; rintro x w6 ⟨rfl, hb6⟩)
    go_ret
    exact ⟨rfl, hbz.trans (hb6.mono hbz.size)⟩
def St (w v : World) (n : Nat) : Prop := Below w.heap.size w v ∧ Wr v (w.heap.size + 1) (List.replicate n 0) ∧ v.cell? ⟨w.heap.size, 0, none⟩ = some (.slice none 0 0) ∧ v.cell? ⟨w.heap.size, 1, none⟩ = some (.slice none 0 0) ∧ v.cell? ⟨w.heap.size, 2, none⟩ = some (.slice none 0 0) ∧ v.cell? ⟨w.heap.size, 3, none⟩ = some (.slice none 0 0) ∧ v.cell? ⟨w.heap.size, 4, none⟩ = some (.int .i64 0) ∧ v.cell? ⟨w.heap.size, 5, none⟩ = some (.slice none 0 0) ∧ v.cell? ⟨w.heap.size, 6, none⟩ = some (.slice none 0 0) ∧ v.cell? ⟨w.heap.size, 7, none⟩ = some (.slice none 0 0) ∧ v.cell? ⟨w.heap.size, 8, none⟩ = some (.slice none 0 0)
theorem St.next {w v v' : World} {n : Nat} {xs : List Int} (h : St w v n) (hb : Below (w.heap.size + 1) v v') (hx : xs = List.replicate 8 0) (hw : Wr v' (w.heap.size + 1) (List.replicate n 0 ++ xs)) : St w v' (n + 8) := by
 subst hx
 rw [List.replicate_append_replicate] at hw
 obtain ⟨h1, h2, c0, c1, c2, c3, c4, c5, c6, c7, c8⟩ := h
 exact ⟨h1.trans (hb.mono (Nat.le_succ _)), hw, (hb.cell (p := ⟨w.heap.size, 0, none⟩) (Nat.lt_succ_self _)).trans c0, (hb.cell (p := ⟨w.heap.size, 1, none⟩) (Nat.lt_succ_self _)).trans c1, (hb.cell (p := ⟨w.heap.size, 2, none⟩) (Nat.lt_succ_self _)).trans c2, (hb.cell (p := ⟨w.heap.size, 3, none⟩) (Nat.lt_succ_self _)).trans c3, (hb.cell (p := ⟨w.heap.size, 4, none⟩) (Nat.lt_succ_self _)).trans c4, (hb.cell (p := ⟨w.heap.size, 5, none⟩) (Nat.lt_succ_self _)).trans c5, (hb.cell (p := ⟨w.heap.size, 6, none⟩) (Nat.lt_succ_self _)).trans c6, (hb.cell (p := ⟨w.heap.size, 7, none⟩) (Nat.lt_succ_self _)).trans c7, (hb.cell (p := ⟨w.heap.size, 8, none⟩) (Nat.lt_succ_self _)).trans c8⟩
theorem Wr.new {v : World} {b : Nat} {xs : List Int} (h : Wr v b xs) (o : Obj) : Wr (v.alloc o) b xs ∧ Safe (v.alloc o) b v.heap.size := by
 obtain ⟨r, cap, hb, hc, hf, ho⟩ := h
 have hB : Below v.heap.size v (v.alloc o) := (Below.refl _ _).alloc (Nat.le_refl _) o
 have hc2 : (v.alloc o).cell? ⟨b, 0, none⟩ = some (.slice r xs.length cap) := by rw [hB.cell (p := ⟨b, 0, none⟩) hb]; exact hc
 refine ⟨⟨r, cap, by rw [zA]; omega, hc2, by rw [hB.frozen (p := ⟨b, 0, none⟩) hb]; exact hf, ho.below hB (Nat.le_refl _)⟩, by rw [zA]; omega, by omega, fun ad l c h3 => ?_⟩
 rw [hc2] at h3
 simp only [Option.some.injEq, Value.slice.injEq] at h3
 have := ho.lt ad h3.1
 omega
theorem St.alloc {w v : World} {n : Nat} (h : St w v n) (o : Obj) : St w (v.alloc o) n := by
 obtain ⟨h1, h2, c0, c1, c2, c3, c4, c5, c6, c7, c8⟩ := h
 have hB : Below v.heap.size v (v.alloc o) := (Below.refl _ _).alloc (Nat.le_refl _) o
 have hl : w.heap.size < v.heap.size := by obtain ⟨_, _, hb, _⟩ := h2; omega
 exact ⟨h1.trans (hB.mono (by omega)), (h2.new o).1, (hB.cell (p := ⟨w.heap.size, 0, none⟩) hl).trans c0, (hB.cell (p := ⟨w.heap.size, 1, none⟩) hl).trans c1, (hB.cell (p := ⟨w.heap.size, 2, none⟩) hl).trans c2, (hB.cell (p := ⟨w.heap.size, 3, none⟩) hl).trans c3, (hB.cell (p := ⟨w.heap.size, 4, none⟩) hl).trans c4, (hB.cell (p := ⟨w.heap.size, 5, none⟩) hl).trans c5, (hB.cell (p := ⟨w.heap.size, 6, none⟩) hl).trans c6, (hB.cell (p := ⟨w.heap.size, 7, none⟩) hl).trans c7, (hB.cell (p := ⟨w.heap.size, 8, none⟩) hl).trans c8⟩
theorem int0 (w v : World) (n : Nat) (h : St w v n) (hn : n ≤ 1000) : Calls Try.prog 72 #[.pointer (some ⟨w.heap.size + 1, 0, none⟩), .int .i64 0] v fun e v' => e = .returned (.tuple #[]) ∧ St w v' (n + 8) ∧ KeepW v v' (w.heap.size + 1) := by
 refine (wint_any (w.heap.size + 1) 0 (List.replicate n 0) v h.2.1 (by simp; omega)).mono ?_
 rintro e v' ⟨rfl, hw, hb, hk⟩
 exact ⟨rfl, h.next hb (by decide) hw, hk⟩
theorem list0 (w v : World) (n : Nat) (h : St w v n) (hn : n ≤ 1000) : Calls Try.prog 74 #[.pointer (some ⟨w.heap.size + 1, 0, none⟩), .slice none 0 0] v fun e v' => e = .returned (.tuple #[]) ∧ St w v' (n + 8) ∧ KeepW v v' (w.heap.size + 1) := by
 refine (wlist_any (w.heap.size + 1) none 0 [] (List.replicate n 0) w v nilI (Nat.le_succ _) h.1 h.2.1 (by simp; omega)).mono ?_
 rintro e v' ⟨rfl, hw, hb, hk⟩
 exact ⟨rfl, h.next hb (by decide) hw, hk⟩
set_option maxRecDepth 100000 in
theorem body0 (w : World) : Calls Try.prog 36 #[prog0] w fun e w' => ∃ r c, e = .returned (.slice r (List.replicate 72 (0 : Int)).length c) ∧ OwnK .u8 5 w' w.heap.size r c (List.replicate 72 0) ∧ Below w.heap.size w w' := by
 unfold prog0
 have H0 : Hid (St w ((w.alloc (.cells #[.slice none 0 0, .slice none 0 0, .slice none 0 0, .slice none 0 0, .int .i64 0, .slice none 0 0, .slice none 0 0, .slice none 0 0, .slice none 0 0] 28)).alloc (.cells #[.slice none 0 0] 107)) 0) := H! (by
  refine ⟨(((Below.refl _ _).alloc (Nat.le_refl _) _).alloc (by rw [zA]; omega) _), ⟨none, 0, by rw [zA, zA]; omega, ?_, ?_, OwnK.nil _ _⟩, ?_⟩
  ·
   rw [← zA w (.cells #[.slice none 0 0, .slice none 0 0, .slice none 0 0, .slice none 0 0, .int .i64 0, .slice none 0 0, .slice none 0 0, .slice none 0 0, .slice none 0 0] 28), World.cell?_alloc_new]; rfl
  ·
   simp
  ·
   simp)
 go_enter Try.func36, Try.ntmps36
 go_wp2_with (go_at_call 72; refine (int0 w _ 0 H0.out (by omega)).mono ?_; rintro x v1 ⟨rfl, hv, hkw⟩; clear hkw; have H1 := H! hv; obtain ⟨_, _, q0, q1, q2, q3, q4, q5, q6, q7, q8⟩ := hv)
 go_loopg [31] 0 (fun kx s31 wr => s31 = .int .i64 0 ∧ wr = v1)
 case atStart => exact ⟨rfl, rfl⟩
 case round =>
  obtain ⟨rfl, rfl⟩ := hrel
  go_wp2_with (go_at_call 72; refine (int0 w _ 8 H1.out (by omega)).mono ?_; rintro x v2 ⟨rfl, hv, hkw⟩; clear hkw; have H2 := H! hv; obtain ⟨_, _, q0, q1, q2, q3, q4, q5, q6, q7, q8⟩ := hv)
  go_loopg [58] 0 (fun kx s58 wr => s58 = .int .i64 0 ∧ wr = v2)
  case atStart => exact ⟨rfl, rfl⟩
  case round =>
   obtain ⟨rfl, rfl⟩ := hrel
   go_wp2_with (go_at_call 72; refine (int0 w _ 16 H2.out (by omega)).mono ?_; rintro x v3 ⟨rfl, hv, hkw⟩; clear hkw; have H3 := H! hv; obtain ⟨_, _, q0, q1, q2, q3, q4, q5, q6, q7, q8⟩ := hv)
   go_loopg [107] 0 (fun kx s107 wr => s107 = .int .i64 0 ∧ wr = v3)
   case atStart => exact ⟨rfl, rfl⟩
   case round =>
    obtain ⟨rfl, rfl⟩ := hrel
    go_wp2_with (go_at_call 72; refine (int0 w _ 24 H3.out (by omega)).mono ?_; rintro x v4 ⟨rfl, hv, hkw⟩; clear hkw; have H4 := H! hv; obtain ⟨_, _, q0, q1, q2, q3, q4, q5, q6, q7, q8⟩ := hv)
    go_loopg [128] 0 (fun kx s128 wr => s128 = .int .i64 0 ∧ wr = v4)
    case atStart => exact ⟨rfl, rfl⟩
    case round =>
     obtain ⟨rfl, rfl⟩ := hrel
     go_wp2_with (go_at_call 72; refine (int0 w _ 32 H4.out (by omega)).mono ?_; rintro x v5 ⟨rfl, hv, hkw⟩; clear hkw; have H5 := H! hv; obtain ⟨_, _, q0, q1, q2, q3, q4, q5, q6, q7, q8⟩ := hv)
     have HN : Hid (Wr (v5.alloc (.cells #[.slice none 0 0, .slice none 0 0, .slice none 0 0, .slice none 0 0] 26)) (w.heap.size + 1) (List.replicate 40 0) ∧ Safe (v5.alloc (.cells #[.slice none 0 0, .slice none 0 0, .slice none 0 0, .slice none 0 0] 26)) (w.heap.size + 1) v5.heap.size) := H! (H5.out.2.1.new _)
     have HS6 : Hid (St w (v5.alloc (.cells #[.slice none 0 0, .slice none 0 0, .slice none 0 0, .slice none 0 0] 26)) 40) := H! (H5.out.alloc _)
     have l0 : (v5.alloc (.cells #[.slice none 0 0, .slice none 0 0, .slice none 0 0, .slice none 0 0] 26)).cell? ⟨v5.heap.size, 0, none⟩ = some (.slice none 0 0) := by simp
     have l1 : (v5.alloc (.cells #[.slice none 0 0, .slice none 0 0, .slice none 0 0, .slice none 0 0] 26)).cell? ⟨v5.heap.size, 1, none⟩ = some (.slice none 0 0) := by simp
     have l2 : (v5.alloc (.cells #[.slice none 0 0, .slice none 0 0, .slice none 0 0, .slice none 0 0] 26)).cell? ⟨v5.heap.size, 2, none⟩ = some (.slice none 0 0) := by simp
     have l3 : (v5.alloc (.cells #[.slice none 0 0, .slice none 0 0, .slice none 0 0, .slice none 0 0] 26)).cell? ⟨v5.heap.size, 3, none⟩ = some (.slice none 0 0) := by simp
     generalize v5.alloc (.cells #[.slice none 0 0, .slice none 0 0, .slice none 0 0, .slice none 0 0] 26) = W6 at *
     generalize v5.heap.size = L at *
     go_loopg [20, 166] 4 (fun kx s20 s166 wr => ∃ k : Nat, s166 = .int .i64 k ∧ k ≤ 4 ∧ 4 - k ≤ kx ∧ Hid (St w wr (40 + 8 * k)) ∧ Hid (KeepW W6 wr (w.heap.size + 1)))
     case atStart => exact ⟨0, rfl, by omega, by omega, HS6, H! (KeepW.refl _ _)⟩
     case round =>
      obtain ⟨k, rfl, hk, hkx, HS, HK⟩ := hrel
      have hL := (HK.out L HN.out.2).2
      by_cases hlt : k < 4
      ·
       obtain rfl | rfl | rfl | rfl : k = 0 ∨ k = 1 ∨ k = 2 ∨ k = 3 := by omega
       ·
        have hc : wr.cell? ⟨L, 0, none⟩ = some (.slice none 0 0) := (World.cell?_of_block (a := ⟨L, 0, none⟩) hL).trans l0
        clear hL
        go_wp2_with (go_at_call 74; refine (list0 w _ _ HS.out (by omega)).mono ?_; rintro x v6 ⟨rfl, hv, hkw⟩; have H6 := H! hv; have HK6 := H! (HK.out.trans hkw); clear hv hkw)
        go_roundg 3
        case measure => omega
        case rel => exact ⟨1, by go_num, by omega, by omega, H6, HK6⟩
       ·
        have hc : wr.cell? ⟨L, 1, none⟩ = some (.slice none 0 0) := (World.cell?_of_block (a := ⟨L, 1, none⟩) hL).trans l1
        clear hL
        go_wp2_with (go_at_call 74; refine (list0 w _ _ HS.out (by omega)).mono ?_; rintro x v6 ⟨rfl, hv, hkw⟩; have H6 := H! hv; have HK6 := H! (HK.out.trans hkw); clear hv hkw)
        go_roundg 2
        case measure => omega
        case rel => exact ⟨2, by go_num, by omega, by omega, H6, HK6⟩
       ·
        have hc : wr.cell? ⟨L, 2, none⟩ = some (.slice none 0 0) := (World.cell?_of_block (a := ⟨L, 2, none⟩) hL).trans l2
        clear hL
        go_wp2_with (go_at_call 74; refine (list0 w _ _ HS.out (by omega)).mono ?_; rintro x v6 ⟨rfl, hv, hkw⟩; have H6 := H! hv; have HK6 := H! (HK.out.trans hkw); clear hv hkw)
        go_roundg 1
        case measure => omega
        case rel => exact ⟨3, by go_num, by omega, by omega, H6, HK6⟩
       ·
        have hc : wr.cell? ⟨L, 3, none⟩ = some (.slice none 0 0) := (World.cell?_of_block (a := ⟨L, 3, none⟩) hL).trans l3
        clear hL
        go_wp2_with (go_at_call 74; refine (list0 w _ _ HS.out (by omega)).mono ?_; rintro x v6 ⟨rfl, hv, hkw⟩; have H6 := H! hv; have HK6 := H! (HK.out.trans hkw); clear hv hkw)
        go_roundg 0
        case measure => omega
        case rel => exact ⟨4, by go_num, by omega, by omega, H6, HK6⟩
      ·
       obtain rfl : k = 4 := by omega
       obtain ⟨h1, ⟨r, c, hb, hc, hf, ho⟩, _⟩ := HS.out
       go_wp2
       go_ret
       exact ⟨r, c, rfl, ho.base (by omega), h1⟩
def z72 : List Int := List.replicate 72 0
theorem z72_byte : ByteL z72 := by
 intro y hy
 simp only [z72, List.mem_replicate] at hy
 omega
set_option maxRecDepth 100000 in
theorem encode0 (w : World) : Calls Try.prog 10 #[prog0] w fun e w' => ∃ r c, e = .returned (.tuple #[.slice r (sealL z72).length c, .int .i64 0]) ∧ OwnK .u8 5 w' w.heap.size r c (sealL z72) ∧ Below w.heap.size w w' := by
 unfold prog0
 have HL : Hid (z72.length = 72) := H! (by simp [z72])
 have HB : Hid (ByteL z72) := H! z72_byte
 have HD : Hid (∀ W : World, Calls Try.prog 36 #[prog0] W fun e w' => ∃ r c, e = .returned (.slice r z72.length c) ∧ OwnK .u8 5 w' W.heap.size r c z72 ∧ Below W.heap.size W w') := H! (fun W => body0 W)
 generalize hs : sealL z72 = res at *
 generalize hz : z72 = zz at *
 go_enter Try.func10, Try.ntmps10
 go_wp2_with (first | (go_at_call 34; refine (valid0 _).mono ?_; rintro e w1 ⟨rfl, hb1⟩; obtain ⟨hb1c, hb1f⟩ := bcell hb1; have hb1s := hb1.size) | (go_at_call 36; refine (HD.out _).mono ?_; rintro e w2 ⟨r2, c2, rfl, ho2, hb2⟩; have HO2 := H! ho2; clear ho2; have hb2s := hb2.size) | (go_at_call 35; refine (sealed_any w1.heap.size _ _ zz _ HO2.out HB.out (by rw [HL.out]; omega) hb2s).mono ?_; rintro e w3 ⟨r3, c3, rfl, ho3, hb3⟩; have HO3 := H! ho3; clear ho3))
 go_ret2
 have z0 : w.heap.size + 1 ≤ w1.heap.size := by rw [zA] at hb1s; exact hb1s
 refine ⟨r3, c3, rfl, ?_, ?_⟩
 ·
  have := HO3.out
  rw [hs] at this
  exact this.base (by omega)
 ·
  exact (((Below.refl w.heap.size w).alloc (Nat.le_refl _) _).trans (hb1.mono (by rw [zA]; omega))).trans ((hb2.mono (by omega)).trans (hb3.mono (by omega)))
theorem sealL_z72 : sealL z72 = z72 ++ b4 (sumB z72) := by
 unfold sealL
 rw [summed_len]
 simp [z72, padN, summed]
theorem isum0 (w : World) : Calls Try.prog 11 #[.slice none 0 0] w fun e w' => e = .returned (.int .u32 1) ∧ Below w.heap.size w w' := isum_any none 0 [] w nilI
end Go.Proofs.Ytfooefiaenlhmaa
