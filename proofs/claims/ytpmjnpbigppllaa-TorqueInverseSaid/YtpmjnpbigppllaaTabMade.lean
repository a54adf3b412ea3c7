/- A function that returns tables written out: the row stays opaque. -/
import Derived.Test.YtpmjnpbigppllaaPat
import Derived.Laws.Tables
import Derived.Laws.CopyOwn
namespace Go.Proofs.Ytpmjnpbigppllaa
set_option linter.unusedVariables false
set_option linter.unusedSimpArgs false
open Go.RowKit Go.ChangeShapes Go.WideShapes Go.ChangeAt
theorem wpList_alloc_row {P : Program} {ops : Array Oper} {rest : List Oper} {o : Oper} {a : Act} {w : World} {Q : Exit → Act → World → Prop} (hgd : o.guard = none) (ty : TypeId) (ho : o.op = .alloc ty) (i : TypeInfo) (z : Value) (hi : P.info? ty = some i) (hz : i.zero = some z)
    (h : wpList P ops Q rest (a.put o.dst (.pointer (some ⟨w.heap.size, 0, none⟩))) (w.alloc (.cells z.cells ty))) : wpList P ops Q (o :: rest) a w := by
  refine wpList_plain hgd fun K hK => ?_
  unfold Oper.wp execOp
  simp [ho, Instr.alloc, zeroValue, typeInfo, hi, hz]
  exact hK _ _ h
theorem infoTab : ∃ i z, Try.prog.info? 31 = some i ∧ i.zero = some z ∧ z.cells.size = 24 ∧ i.size = 24 := by
  have hs : (Try.prog.info? 31).map (fun i => (i.zero.map (fun z => z.cells.size), i.size)) = some (some 24, 24) := by kernel_rfl
  obtain ⟨i, hi, hp⟩ := Option.map_eq_some_iff.1 hs
  simp only [Prod.mk.injEq] at hp
  obtain ⟨z, hz, hzs⟩ := Option.map_eq_some_iff.1 hp.1
  exact ⟨i, z, hi, hz, hzs, hp.2⟩
theorem ints2 {W : World} {b : Nat} {x y : Int} (hb : b < W.heap.size) (c0 : W.cell? ⟨b, 0, none⟩ = some (.int .i64 x)) (c1 : W.cell? ⟨b, 1, none⟩ = some (.int .i64 y))
    (hx : (Lit.int .i64 x).wf = true) (hy : (Lit.int .i64 y).wf = true) : IsInts W (some ⟨b, 0, none⟩) 2 .i64 [x, y] :=
  ⟨by simp, by simp [maxLen], by simp [hx, hy], fun _ => ⟨b, 0, rfl, hb, fun i hi => by
    match i, hi with
    | 0, _ => simpa using c0
    | 1, _ => simpa using c1⟩⟩
theorem rows2 {W : World} {b b1 b2 : Nat} {r1 r2 : List Int} (hb : b < W.heap.size) (l1 : r1.length = 2) (l2 : r2.length = 2) (c0 : W.cell? ⟨b, 0, none⟩ = some (.slice (some ⟨b1, 0, none⟩) 2 2)) (c1 : W.cell? ⟨b, 1, none⟩ = some (.slice (some ⟨b2, 0, none⟩) 2 2))
    (h1 : IsInts W (some ⟨b1, 0, none⟩) 2 .i64 r1) (h2 : IsInts W (some ⟨b2, 0, none⟩) 2 .i64 r2) : IsRows W (some ⟨b, 0, none⟩) 2 [r1, r2] :=
  ⟨by simp, by simp [maxLen], fun _ => ⟨b, 0, rfl, hb, fun i hi => by
    match i, hi with
    | 0, _ => exact ⟨_, 2, by simpa [l1] using c0, by simpa using h1⟩
    | 1, _ => exact ⟨_, 2, by simpa [l2] using c1, by simpa using h2⟩⟩⟩
set_option maxRecDepth 100000 in
theorem tables35_any (w : World) : Calls Try.prog 33 #[] w fun e w' => ∃ tab, e = .returned (.agg tab) ∧ tab.size = 24 ∧ MapAt w' tab 6 7 8 [0, 1000] [0, 1000] [[1000, 1000], [1000, 1000]] ∧ CurAt w' tab 18 19 [0, 1000] [1000, 500] ∧ Below w.heap.size w w' := by
  obtain ⟨i0, z, hi, hz, hzs, his⟩ := infoTab
  have HINF : Hid ((Try.prog.info? 31).map (·.size) = some 24) := Lib.hid (by rw [hi]; simp [his])
  have HI := Lib.hid hi
  have HZ := Lib.hid hz
  clear hi hz his
  generalize hold : z.cells = old at *
  go_enter Try.func33, Try.ntmps33
  go_wp2_with (first | (refine wpList_alloc_row rfl 31 rfl i0 z HI.out HZ.out ?_; rw [hold]) | (refine wpList_build rfl 31 _ rfl (by kernel_rfl) ?_; generalize hT : (Option.getD (Try.prog.built _ _) #[]) = tab; (have h24 : tab.size = 24 := by (rw [← hT]; kernel_rfl)); (have f6 : tab[6]? = some (.slice (some ⟨w.heap.size + 1, 0, none⟩) 2 2) := by (rw [← hT]; kernel_rfl)); (have f7 : tab[7]? = some (.slice (some ⟨w.heap.size + 1 + 1, 0, none⟩) 2 2) := by (rw [← hT]; kernel_rfl)); (have f8 : tab[8]? = some (.slice (some ⟨w.heap.size + 1 + 1 + 1 + 1 + 1, 0, none⟩) 2 2) := by (rw [← hT]; kernel_rfl)); (have f18 : tab[18]? = some (.slice (some ⟨w.heap.size + 1 + 1 + 1 + 1 + 1 + 1, 0, none⟩) 2 2) := by (rw [← hT]; kernel_rfl)); (have f19 : tab[19]? = some (.slice (some ⟨w.heap.size + 1 + 1 + 1 + 1 + 1 + 1 + 1, 0, none⟩) 2 2) := by (rw [← hT]; kernel_rfl)); (have f1 : tab.all (·.oneCell') = true := by (rw [← hT]; kernel_rfl)); have HS := Lib.hid h24; have HA := Lib.hid f1; clear hT h24 f1) | (refine wpList_store_row rfl 31 (.tmp 0) (.tmp 10) rfl w.heap.size tab rfl rfl 31 old ((Below.block (show Below (w.alloc (.cells old 31)).heap.size (w.alloc (.cells old 31)) _ by (repeat' (first | (with_reducible exact Below.refl _ _) | (with_reducible assumption) | (with_reducible refine below_alloc ?_ _) | (with_reducible refine Below.drew ?_) | (with_reducible refine below_drewN ?_ _) | (with_reducible refine below_step (by assumption) ?_) | (with_reducible refine below_later ?_ _) | (with_reducible refine Below.setCell ?_ ?_ _) | go_size))) _ (by simp)).trans (heap_alloc_new _ _)) (by rw [HS.out]; exact HINF.out) (by rw [HS.out]; exact hzs) HA.out ?_))
  refine bodyPost_ret (results_cell_row rfl _ _ w.heap.size 31 tab (0, 0) _ rfl (setRow_heap _ w.heap.size old tab 31 (0, 0) ((Below.block (show Below (w.alloc (.cells old 31)).heap.size (w.alloc (.cells old 31)) _ by (repeat' (first | (with_reducible exact Below.refl _ _) | (with_reducible assumption) | (with_reducible refine below_alloc ?_ _) | (with_reducible refine Below.drew ?_) | (with_reducible refine below_drewN ?_ _) | (with_reducible refine below_step (by assumption) ?_) | (with_reducible refine below_later ?_ _) | (with_reducible refine Below.setCell ?_ ?_ _) | go_size))) _ (by simp)).trans (heap_alloc_new _ _))) Try.underlying31 rfl (by rw [HS.out]; exact HINF.out)) rfl ?_
  exact ⟨tab, rfl, HS.out, ⟨_, 2, _, 2, _, 2, f6, f7, f8, (ints2 (by simp) (by rw [cell_setRow_other _ _ _ _ (by first | (simp; done) | (simp; omega))]; simp [go_sem]) (by rw [cell_setRow_other _ _ _ _ (by first | (simp; done) | (simp; omega))]; simp [go_sem]) (by decide) (by decide)), (ints2 (by simp) (by rw [cell_setRow_other _ _ _ _ (by first | (simp; done) | (simp; omega))]; simp [go_sem]) (by rw [cell_setRow_other _ _ _ _ (by first | (simp; done) | (simp; omega))]; simp [go_sem]) (by decide) (by decide)), rows2 (b1 := w.heap.size + 1 + 1 + 1) (b2 := w.heap.size + 1 + 1 + 1 + 1) (by simp) rfl rfl (by rw [cell_setRow_other _ _ _ _ (by first | (simp; done) | (simp; omega))]; simp [go_sem]) (by rw [cell_setRow_other _ _ _ _ (by first | (simp; done) | (simp; omega))]; simp [go_sem]) (ints2 (by simp) (by rw [cell_setRow_other _ _ _ _ (by first | (simp; done) | (simp; omega))]; simp [go_sem]) (by rw [cell_setRow_other _ _ _ _ (by first | (simp; done) | (simp; omega))]; simp [go_sem]) (by decide) (by decide)) (ints2 (by simp) (by rw [cell_setRow_other _ _ _ _ (by first | (simp; done) | (simp; omega))]; simp [go_sem]) (by rw [cell_setRow_other _ _ _ _ (by first | (simp; done) | (simp; omega))]; simp [go_sem]) (by decide) (by decide))⟩, ⟨_, 2, _, 2, f18, f19, (ints2 (by simp) (by rw [cell_setRow_other _ _ _ _ (by first | (simp; done) | (simp; omega))]; simp [go_sem]) (by rw [cell_setRow_other _ _ _ _ (by first | (simp; done) | (simp; omega))]; simp [go_sem]) (by decide) (by decide)), (ints2 (by simp) (by rw [cell_setRow_other _ _ _ _ (by first | (simp; done) | (simp; omega))]; simp [go_sem]) (by rw [cell_setRow_other _ _ _ _ (by first | (simp; done) | (simp; omega))]; simp [go_sem]) (by decide) (by decide))⟩, below_setRow (by (repeat' (first | (with_reducible exact Below.refl _ _) | (with_reducible assumption) | (with_reducible refine below_alloc ?_ _) | (with_reducible refine Below.drew ?_) | (with_reducible refine below_drewN ?_ _) | (with_reducible refine below_step (by assumption) ?_) | (with_reducible refine below_later ?_ _) | (with_reducible refine Below.setCell ?_ ?_ _) | go_size))) (Nat.le_refl _) tab⟩
end Go.Proofs.Ytpmjnpbigppllaa
