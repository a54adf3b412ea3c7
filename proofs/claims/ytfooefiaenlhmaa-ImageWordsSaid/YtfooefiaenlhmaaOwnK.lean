/- A slice of numbers of any kind that a call made itself: what it owns, and append's step of numbers and of slices. No statement about the program. -/
import Derived.Test.YtfooefiaenlhmaaOpen
import Derived.Deep.AppendLies
import Derived.OwnWalk
import Derived.Maps.AppendAt
import Derived.Laws.Cover3
import Derived.Lib.AppendZeros
namespace Go.Proofs.Ytfooefiaenlhmaa
set_option linter.unusedVariables false
set_option linter.unusedSimpArgs false
open Go.RowKit Go.ChangeShapes Go.WideShapes Go.ChangeAt

/-- The slice r of xs.length numbers of kind k owns xs, in blocks from 'base' on. -/
def OwnK (k : IntKind) (te : TypeId) (W : World) (base : Nat) (r : Option Addr) (cap : Nat) (xs : List Int) : Prop := W.ownsRow base te 1 (.slice r xs.length cap) xs.length (xs.map (Value.int k))
section
variable {k : IntKind} {te : TypeId}
theorem OwnK.nil (W : World) (base : Nat) : OwnK k te W base none 0 [] := World.ownsRow_nil _ _ _ _
theorem OwnK.lt {W : World} {base : Nat} {r : Option Addr} {cap : Nat} {xs : List Int} (h : OwnK k te W base r cap xs) : ∀ a, r = some a → base ≤ a.block ∧ a.block < W.heap.size := fun a ha => by
  subst ha
  exact World.ownsRow.lt h a.block rfl
theorem OwnK.below {W W' : World} {base B : Nat} {r : Option Addr} {cap : Nat} {xs : List Int} (h : OwnK k te W base r cap xs) (hb : Below B W W') (hB : W.heap.size ≤ B) : OwnK k te W' base r cap xs := by
  refine ⟨h.1, ?_⟩
  rcases h.2 with ⟨h1, h2⟩ | ⟨g, c, cur, h1, h2, h3, h4⟩
  · exact Or.inl ⟨h1, h2⟩
  · refine Or.inr ⟨g, c, cur, h1, h2, ?_, h4⟩
    rw [hb.block g ?_]
    · exact h3
    · rcases Nat.lt_or_ge g W.heap.size with hlt | hge
      · omega
      · rw [Array.getElem?_eq_none hge] at h3; cases h3
/-- A store to a block that is not the slice's. -/
theorem OwnK.set {W : World} {base : Nat} {r : Option Addr} {cap : Nat} {xs : List Int} (h : OwnK k te W base r cap xs) {a : Addr} (ha : a.block < base) (u : Value) : OwnK k te (W.setCell a u) base r cap xs := ownsRow_setCell_below h ha u
theorem OwnK.base {W : World} {base base' : Nat} {r : Option Addr} {cap : Nat} {xs : List Int} (h : OwnK k te W base r cap xs) (hb : base' ≤ base) : OwnK k te W base' r cap xs := by
  refine ⟨h.1, ?_⟩
  rcases h.2 with h1 | ⟨g, c, cur, h1, h2, h3⟩
  · exact Or.inl h1
  · exact Or.inr ⟨g, c, cur, h1, by omega, h3⟩
theorem OwnK.ints {W : World} {base : Nat} {r : Option Addr} {cap : Nat} {xs : List Int} (h : OwnK k te W base r cap xs) (hw : ∀ x ∈ xs, (Lit.int k x).wf = true) : IsInts W r cap k xs := by
  obtain ⟨h0, h2⟩ := h
  rcases h2 with ⟨h1, h3⟩ | ⟨g, c, cur, h1, h3, h4, h5, h6, h7, h8⟩
  · obtain rfl : xs = [] := List.length_eq_zero_iff.1 h3
    simp only [Value.slice.injEq] at h1
    obtain ⟨rfl, _, rfl⟩ := h1
    exact ⟨Nat.le_refl _, Nat.zero_le _, by simp, fun h => absurd rfl h⟩
  · simp only [Value.slice.injEq] at h1
    obtain ⟨rfl, _, rfl⟩ := h1
    have hlt : g < W.heap.size := by
      rcases Nat.lt_or_ge g W.heap.size with hlt | hge
      · exact hlt
      · rw [Array.getElem?_eq_none hge] at h4; cases h4
    refine ⟨h5, h6, hw, fun _ => ⟨g, 0, rfl, hlt, fun i hi => ?_⟩⟩
    have := World.ownsRow.cellAt (w := W) (base := base) (e := te) (size := 1) (g := g) (n := xs.length) (cap := cap) (xs := xs.map (Value.int k)) ⟨h0, Or.inr ⟨g, cap, cur, rfl, h3, h4, h5, h6, h7, h8⟩⟩ i (by omega)
    rw [Nat.zero_add, this]
    simp [List.getElem?_map, List.getD, List.getElem?_eq_getElem hi]
theorem OwnK.le {W : World} {base : Nat} {r : Option Addr} {cap : Nat} {xs : List Int} (h : OwnK k te W base r cap xs) : xs.length ≤ cap := by
  rcases h.2 with ⟨h1, h3⟩ | ⟨g, c, cur, h1, h3, h4, h5, h6, h7, h8⟩
  · omega
  · simp only [Value.slice.injEq] at h1
    omega
/-- Numbers written out are appended. -/
theorem wpList_append_k {ts : TypeId} {z : Value} {by' : Nat} (hts : Try.prog.underlying ts = some (.slice te)) (hinf : (Try.prog.info? te).map (fun i => (i.zero, i.size, i.bytes)) = some (some z, 1, by')) (hzs : z.cells.size = 1) (hby : by' ≤ 8)
    {ops : Array Oper} {rest : List Oper} {o : Oper} {a : Act} {Q : Exit → Act → World → Prop} {w : World} (hgd : o.guard = none) (s x : Operand)
    (ho : o.op = .call { callee := .builtin .append, args := #[s, x], argTypes := #[ts, ts] }) (w0 : World) (base : Nat) (r : Option Addr) (cap : Nat) (xs ps : List Int) (n : Nat) (hn : ps.length = n) (hn0 : 0 < n)
    (hw : w = w0.alloc (.cells (ps.map (Value.int k)).toArray te)) (hs : a.eval s = .slice r xs.length cap) (hx : a.eval x = .slice (some ⟨w0.heap.size, 0, none⟩) n n)
    (hown : OwnK k te w0 base r cap xs) (hl : xs.length + n ≤ 1099511627776) (hb : base ≤ w0.heap.size)
    (h : ∀ r' cap' w', OwnK k te w' base r' cap' (xs ++ ps) → Below base w0 w' → wpList Try.prog ops Q rest (a.put o.dst (.slice r' (xs.length + n) cap')) w') : wpList Try.prog ops Q (o :: rest) a w := by
  subst hw
  subst hn
  obtain ⟨i0, hi, hz0, hz1, hz2⟩ := info_parts hinf
  have hown2 : (w0.alloc (.cells (ps.map (Value.int k)).toArray te)).ownsRow base te 1 (.slice r xs.length cap) xs.length (xs.map (Value.int k)) := World.ownsRow.alloc hown _
  refine wpList_append_lies (w0.alloc (.cells (ps.map (Value.int k)).toArray te)) hgd s x ts ho base te i0 z 1 by' hts hi hz0 hz1 hz2 hzs (by omega) _ xs.length (xs.map (Value.int k)) hs hown2 ⟨w0.heap.size, 0, none⟩ ps.length ps.length (ps.map (Value.int k)) hx (by simp) ?_ (ints_oneCell k ps) hn0 ?_ ?_ (by simp; omega) _ rfl ?_
  · intro j u hj
    have : (⟨w0.heap.size, 0, none⟩ : Addr).add j = ⟨w0.heap.size, j, none⟩ := by
      by_cases hj0 : j = 0
      · subst hj0; simp [Addr.add]
      · simp [Addr.add, hj0]
    rw [this, World.cell?_alloc_new]
    simpa using hj
  · unfold maxLen; omega
  · have : (xs.length + ps.length) * by' ≤ 1099511627776 * 8 := Nat.mul_le_mul (by omega) hby
    omega
  · intro g cap' w1 hown' hgrow _ _
    refine h _ _ _ ?_ ?_
    · unfold OwnK
      rw [List.length_append, List.map_append]
      exact hown'
    · exact ((Below.refl base w0).alloc hb _).grown hgrow (by simp only [World.size_alloc]; omega) (fun k hk => (World.ownsRow.lt hown2 k hk).1)
theorem run_append_noneK {t e : TypeId} (ty : TypeId) (i : TypeInfo) (ht : Try.prog.underlying t = some (.slice e)) (hi : Try.prog.info? e = some i) (w : World) (r : Option Addr) (len cap c : Nat) (hl : len ≤ cap) :
    (Builtin.append_ #[t, t] ty #[.slice r len cap, .slice none 0 c]).run Try.prog w = .ok (.slice r len cap) w := by
  cases r <;> simp [Builtin.append_, run_underlying ht, sizeOf, typeInfo, hi, Builtin.lenOf, hl, Builtin.firstCells, storeCells]
/-- A slice is appended. -/
theorem wpList_append_ks {ts : TypeId} {z : Value} {by' : Nat} (hts : Try.prog.underlying ts = some (.slice te)) (hinf : (Try.prog.info? te).map (fun i => (i.zero, i.size, i.bytes)) = some (some z, 1, by')) (hzs : z.cells.size = 1) (hby : by' ≤ 8)
    {ops : Array Oper} {rest : List Oper} {o : Oper} {a : Act} {Q : Exit → Act → World → Prop} {w : World} (hgd : o.guard = none) (s x : Operand)
    (ho : o.op = .call { callee := .builtin .append, args := #[s, x], argTypes := #[ts, ts] }) (base : Nat) (r r2 : Option Addr) (cap c2 : Nat) (xs ys : List Int)
    (hs : a.eval s = .slice r xs.length cap) (hx : a.eval x = .slice r2 ys.length c2) (hown : OwnK k te w base r cap xs) (hys : IsInts w r2 c2 k ys) (hl : xs.length + ys.length ≤ 1099511627776) (hb : base ≤ w.heap.size)
    (h : ∀ r' cap' w', OwnK k te w' base r' cap' (xs ++ ys) → Below base w w' → wpList Try.prog ops Q rest (a.put o.dst (.slice r' (xs ++ ys).length cap')) w') : wpList Try.prog ops Q (o :: rest) a w := by
  obtain ⟨i0, hi, hz0, hz1, hz2⟩ := info_parts hinf
  cases r2 with
  | none =>
    have hy : ys = [] := by
      rcases Classical.em (ys = []) with h | h
      · exact h
      · obtain ⟨b, off, h1, _⟩ := hys.cells h
        cases h1
    subst hy
    refine Lib.wpList_append_run w hgd s x _ _ ho _ _ hs hx _ w (run_append_noneK o.type i0 hts hi w r xs.length cap c2 hown.le) ?_
    have := h r cap w (by rw [List.append_nil]; exact hown) (Below.refl _ _)
    rwa [List.append_nil] at this
  | some ad =>
    refine wpList_append_own_at w hgd s x ts ho base te i0 z 1 by' hts hi hz0 hz1 hz2 hzs (by omega) _ xs.length (xs.map (Value.int k)) hs hown ad ys.length c2 (ys.map (Value.int k)) hx (by simp) ?_ (ints_oneCell k ys) (by unfold maxLen; omega) (by have : (xs.length + ys.length) * by' ≤ 1099511627776 * 8 := Nat.mul_le_mul (by omega) hby; omega) hb ?_
    · intro j u hj
      have hj2 : j < ys.length := by
        rcases Nat.lt_or_ge j ys.length with h | h
        · exact h
        · rw [List.getElem?_eq_none (by simpa using h)] at hj; cases hj
      obtain ⟨b, off, h1, h2, h3⟩ := hys.cells (fun e => by subst e; simp at hj2)
      simp only [Option.some.injEq] at h1
      subst h1
      have h4 := h3 j hj2
      have h5 : (Addr.add ⟨b, off, none⟩ j : Addr) = ⟨b, off + j, none⟩ := by
        by_cases h0 : j = 0
        · subst h0; simp [Addr.add]
        · simp [Addr.add, h0]
      rw [h5, h4, ← hj]
      simp [List.getD, List.getElem?_eq_getElem hj2]
    · intro v' w1 hown1 hgrow _ _
      have hB : Below base w w1 := (Below.refl base w).grown hgrow hb (fun k hk => (World.ownsRow.lt hown k hk).1)
      have hlen : (xs ++ ys).length = xs.length + ys.length := by simp
      rw [← List.map_append] at hown1
      obtain ⟨r', cap', rfl⟩ : ∃ r' cap', v' = .slice r' (xs ++ ys).length cap' := by
        rcases hown1.2 with ⟨h1, h3⟩ | ⟨g, c, cur, h1, _⟩
        · exact ⟨none, 0, by rw [h1, hlen, h3]⟩
        · exact ⟨_, _, by rw [h1, hlen]⟩
      refine h r' cap' w1 ?_ hB
      unfold OwnK
      rw [hlen] at hown1 ⊢
      exact hown1
end
theorem infoU8 : (Try.prog.info? 5).map (fun i => (i.zero, i.size, i.bytes)) = some (some (.int .u8 0), 1, 1) := by kernel_rfl
theorem infoU32 : (Try.prog.info? 35).map (fun i => (i.zero, i.size, i.bytes)) = some (some (.int .u32 0), 1, 4) := by kernel_rfl
theorem run_eqlN {t e : TypeId} (h : Try.prog.underlying t = some (.slice e)) (a : Option Addr) (l c : Nat) (w : World) : (binOp .eql t (.slice a l c) (.slice none 0 0)).run Try.prog w = .ok (.bool a.isNone) w := by
  simp [binOp, run_equal_slice_nil w t e a l c h]
end Go.Proofs.Ytfooefiaenlhmaa
