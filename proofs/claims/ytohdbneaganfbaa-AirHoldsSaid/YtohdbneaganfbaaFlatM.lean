/- Tables that a function writes out: helpers of the walk. -/
import Derived.Test.YtohdbneaganfbaaFlatP
import Derived.Laws.Tables
import Derived.Laws.CopyOwn
namespace Go.Proofs.Ytohdbneaganfbaa
set_option linter.unusedVariables false
set_option linter.unusedSimpArgs false
open Go.RowKit Go.ChangeShapes Go.WideShapes Go.ChangeAt
theorem fwpList_alloc_row {P : Program} {ops : Array Oper} {rest : List Oper} {o : Oper} {a : Act} {w : World} {Q : Exit → Act → World → Prop} (hgd : o.guard = none) (ty : TypeId) (ho : o.op = .alloc ty) (i : TypeInfo) (z : Value) (hi : P.info? ty = some i) (hz : i.zero = some z)
    (h : wpList P ops Q rest (a.put o.dst (.pointer (some ⟨w.heap.size, 0, none⟩))) (w.alloc (.cells z.cells ty))) : wpList P ops Q (o :: rest) a w := by
  refine wpList_plain hgd fun K hK => ?_
  unfold Oper.wp execOp
  simp [ho, Instr.alloc, zeroValue, typeInfo, hi, hz]
  exact hK _ _ h
theorem heap_alloc_at {W : World} {o : Obj} {g : Nat} (h : g = W.heap.size) : (W.alloc o).heap[g]? = some o := by
  subst h
  exact heap_alloc_new _ _
theorem wpList_abs {P : Program} {ops : Array Oper} {rest : List Oper} {a : Act} {w : World} {Q : Exit → Act → World → Prop} (R : World → Prop) (hr : R w) (h : ∀ w', R w' → wpList P ops Q rest a w') : wpList P ops Q rest a w := h w hr
theorem finfoTab : ∃ i z, Try.prog.info? 31 = some i ∧ i.zero = some z ∧ z.cells.size = 24 ∧ i.size = 24 := by
  have hs : (Try.prog.info? 31).map (fun i => (i.zero.map (fun z => z.cells.size), i.size)) = some (some 24, 24) := by kernel_rfl
  obtain ⟨i, hi, hp⟩ := Option.map_eq_some_iff.1 hs
  simp only [Prod.mk.injEq] at hp
  obtain ⟨z, hz, hzs⟩ := Option.map_eq_some_iff.1 hp.1
  exact ⟨i, z, hi, hz, hzs, hp.2⟩
theorem fints2 {W : World} {b : Nat} {x y : Int} (hb : b < W.heap.size) (c0 : W.cell? ⟨b, 0, none⟩ = some (.int .i64 x)) (c1 : W.cell? ⟨b, 1, none⟩ = some (.int .i64 y))
    (hx : (Lit.int .i64 x).wf = true) (hy : (Lit.int .i64 y).wf = true) : IsInts W (some ⟨b, 0, none⟩) 2 .i64 [x, y] :=
  ⟨by simp, by simp [maxLen], by simp [hx, hy], fun _ => ⟨b, 0, rfl, hb, fun i hi => by
    match i, hi with
    | 0, _ => simpa using c0
    | 1, _ => simpa using c1⟩⟩
theorem frows2 {W : World} {b b1 b2 : Nat} {r1 r2 : List Int} (hb : b < W.heap.size) (l1 : r1.length = 2) (l2 : r2.length = 2) (c0 : W.cell? ⟨b, 0, none⟩ = some (.slice (some ⟨b1, 0, none⟩) 2 2)) (c1 : W.cell? ⟨b, 1, none⟩ = some (.slice (some ⟨b2, 0, none⟩) 2 2))
    (h1 : IsInts W (some ⟨b1, 0, none⟩) 2 .i64 r1) (h2 : IsInts W (some ⟨b2, 0, none⟩) 2 .i64 r2) : IsRows W (some ⟨b, 0, none⟩) 2 [r1, r2] :=
  ⟨by simp, by simp [maxLen], fun _ => ⟨b, 0, rfl, hb, fun i hi => by
    match i, hi with
    | 0, _ => exact ⟨_, 2, by simpa [l1] using c0, by simpa using h1⟩
    | 1, _ => exact ⟨_, 2, by simpa [l2] using c1, by simpa using h2⟩⟩⟩
end Go.Proofs.Ytohdbneaganfbaa
