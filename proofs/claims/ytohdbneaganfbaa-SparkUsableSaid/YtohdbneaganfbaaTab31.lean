/- The example's tables of the chapter of spark, its examples (awake), and the contracts of 'is'. Printed by a program. -/
import Derived.Test.YtohdbneaganfbaaSparkB
import Derived.Test.YtohdbneaganfbaaFlatM
namespace Go.Proofs.Ytohdbneaganfbaa
set_option linter.unusedVariables false
set_option linter.unusedSimpArgs false
open Go.RowKit Go.ChangeShapes Go.WideShapes Go.ChangeAt

theorem fints3 {W : World} {b : Nat} {x y z : Int} (hb : b < W.heap.size) (c0 : W.cell? ⟨b, 0, none⟩ = some (.int .i64 x)) (c1 : W.cell? ⟨b, 1, none⟩ = some (.int .i64 y)) (c2 : W.cell? ⟨b, 2, none⟩ = some (.int .i64 z))
    (hx : (Lit.int .i64 x).wf = true) (hy : (Lit.int .i64 y).wf = true) (hz : (Lit.int .i64 z).wf = true) : IsInts W (some ⟨b, 0, none⟩) 3 .i64 [x, y, z] :=
  ⟨by simp, by simp [maxLen], by simp [hx, hy, hz], fun _ => ⟨b, 0, rfl, hb, fun i hi => by
    match i, hi with
    | 0, _ => simpa using c0
    | 1, _ => simpa using c1
    | 2, _ => simpa using c2⟩⟩
set_option maxRecDepth 100000 in
set_option maxHeartbeats 1000000 in
theorem tables31_any (w : World) : Calls Try.prog 77 #[] w fun e w' => ∃ tab, e = .returned (.agg tab) ∧ tab.size = 24 ∧ MapAt w' tab 3 4 5 [0, 1000] [0, 1000] [[1000, 1000], [1000, 1000]] ∧ CurAt w' tab 14 15 [6000, 14000] [9000, 3000] ∧ CurAt w' tab 18 19 [0, 1000, 2560] [1000, 500, 0] ∧ Below w.heap.size w w' := by
  obtain ⟨i0, z, hi, hz, hzs, his⟩ := finfoTab
  have HINF : Hid ((Try.prog.info? 31).map (·.size) = some 24) := Lib.hid (by rw [hi]; simp [his])
  have HI := Lib.hid hi
  have HZ := Lib.hid hz
  clear hi hz his
  generalize hold : z.cells = old at *
  go_enter Try.func77, Try.ntmps77
  go_wp2_with (first | (refine fwpList_alloc_row rfl 31 rfl i0 z HI.out HZ.out ?_; rw [hold]) | (refine wpList_build rfl 31 _ rfl (by kernel_rfl) ?_; generalize hT : (Option.getD (Try.prog.built _ _) #[]) = tab; (have h24 : tab.size = 24 := by (rw [← hT]; kernel_rfl)); (have f3 : tab[3]? = some (.slice (some ⟨w.heap.size + 1, 0, none⟩) 2 2) := by (rw [← hT]; kernel_rfl)); (have f4 : tab[4]? = some (.slice (some ⟨w.heap.size + 1 + 1, 0, none⟩) 2 2) := by (rw [← hT]; kernel_rfl)); (have f5 : tab[5]? = some (.slice (some ⟨w.heap.size + 1 + 1 + 1 + 1 + 1, 0, none⟩) 2 2) := by (rw [← hT]; kernel_rfl)); (have f14 : tab[14]? = some (.slice (some ⟨w.heap.size + 1 + 1 + 1 + 1 + 1 + 1, 0, none⟩) 2 2) := by (rw [← hT]; kernel_rfl)); (have f15 : tab[15]? = some (.slice (some ⟨w.heap.size + 1 + 1 + 1 + 1 + 1 + 1 + 1, 0, none⟩) 2 2) := by (rw [← hT]; kernel_rfl)); (have f18 : tab[18]? = some (.slice (some ⟨w.heap.size + 1 + 1 + 1 + 1 + 1 + 1 + 1 + 1, 0, none⟩) 3 3) := by (rw [← hT]; kernel_rfl)); (have f19 : tab[19]? = some (.slice (some ⟨w.heap.size + 1 + 1 + 1 + 1 + 1 + 1 + 1 + 1 + 1, 0, none⟩) 3 3) := by (rw [← hT]; kernel_rfl)); (have f100 : tab.all (·.oneCell') = true := by (rw [← hT]; kernel_rfl)); have HS := Lib.hid h24; have HA := Lib.hid f100; clear hT h24 f100) | (refine wpList_store_row rfl 31 (.tmp 0) (.tmp 13) rfl w.heap.size tab rfl rfl 31 old ((Below.block (show Below (w.alloc (.cells old 31)).heap.size (w.alloc (.cells old 31)) _ by (repeat' (first | (with_reducible exact Below.refl _ _) | (with_reducible assumption) | (with_reducible refine below_alloc ?_ _) | (with_reducible refine Below.drew ?_) | (with_reducible refine below_drewN ?_ _) | (with_reducible refine below_step (by assumption) ?_) | (with_reducible refine below_later ?_ _) | (with_reducible refine Below.setCell ?_ ?_ _) | go_size))) _ (by simp)).trans (heap_alloc_new _ _)) (by rw [HS.out]; exact HINF.out) (by rw [HS.out]; exact hzs) HA.out ?_))
  refine bodyPost_ret (results_cell_row rfl _ _ w.heap.size 31 tab (0, 0) _ rfl (setRow_heap _ w.heap.size old tab 31 (0, 0) ((Below.block (show Below (w.alloc (.cells old 31)).heap.size (w.alloc (.cells old 31)) _ by (repeat' (first | (with_reducible exact Below.refl _ _) | (with_reducible assumption) | (with_reducible refine below_alloc ?_ _) | (with_reducible refine Below.drew ?_) | (with_reducible refine below_drewN ?_ _) | (with_reducible refine below_step (by assumption) ?_) | (with_reducible refine below_later ?_ _) | (with_reducible refine Below.setCell ?_ ?_ _) | go_size))) _ (by simp)).trans (heap_alloc_new _ _))) Try.underlying31 rfl (by rw [HS.out]; exact HINF.out)) rfl ?_
  exact ⟨tab, rfl, HS.out, ⟨_, 2, _, 2, _, 2, f3, f4, f5, (fints2 (by simp) (by rw [cell_setRow_other _ _ _ _ (by first | (simp; done) | (simp; omega))]; simp [go_sem]) (by rw [cell_setRow_other _ _ _ _ (by first | (simp; done) | (simp; omega))]; simp [go_sem]) (by decide) (by decide)), (fints2 (by simp) (by rw [cell_setRow_other _ _ _ _ (by first | (simp; done) | (simp; omega))]; simp [go_sem]) (by rw [cell_setRow_other _ _ _ _ (by first | (simp; done) | (simp; omega))]; simp [go_sem]) (by decide) (by decide)), frows2 (b1 := w.heap.size + 1 + 1 + 1) (b2 := w.heap.size + 1 + 1 + 1 + 1) (by simp) rfl rfl (by rw [cell_setRow_other _ _ _ _ (by first | (simp; done) | (simp; omega))]; simp [go_sem]) (by rw [cell_setRow_other _ _ _ _ (by first | (simp; done) | (simp; omega))]; simp [go_sem]) (fints2 (by simp) (by rw [cell_setRow_other _ _ _ _ (by first | (simp; done) | (simp; omega))]; simp [go_sem]) (by rw [cell_setRow_other _ _ _ _ (by first | (simp; done) | (simp; omega))]; simp [go_sem]) (by decide) (by decide)) (fints2 (by simp) (by rw [cell_setRow_other _ _ _ _ (by first | (simp; done) | (simp; omega))]; simp [go_sem]) (by rw [cell_setRow_other _ _ _ _ (by first | (simp; done) | (simp; omega))]; simp [go_sem]) (by decide) (by decide))⟩, ⟨_, 2, _, 2, f14, f15, (fints2 (by simp) (by rw [cell_setRow_other _ _ _ _ (by first | (simp; done) | (simp; omega))]; simp [go_sem]) (by rw [cell_setRow_other _ _ _ _ (by first | (simp; done) | (simp; omega))]; simp [go_sem]) (by decide) (by decide)), (fints2 (by simp) (by rw [cell_setRow_other _ _ _ _ (by first | (simp; done) | (simp; omega))]; simp [go_sem]) (by rw [cell_setRow_other _ _ _ _ (by first | (simp; done) | (simp; omega))]; simp [go_sem]) (by decide) (by decide))⟩, ⟨_, 3, _, 3, f18, f19, (fints3 (by simp) (by rw [cell_setRow_other _ _ _ _ (by first | (simp; done) | (simp; omega))]; simp [go_sem]) (by rw [cell_setRow_other _ _ _ _ (by first | (simp; done) | (simp; omega))]; simp [go_sem]) (by rw [cell_setRow_other _ _ _ _ (by first | (simp; done) | (simp; omega))]; simp [go_sem]) (by decide) (by decide) (by decide)), (fints3 (by simp) (by rw [cell_setRow_other _ _ _ _ (by first | (simp; done) | (simp; omega))]; simp [go_sem]) (by rw [cell_setRow_other _ _ _ _ (by first | (simp; done) | (simp; omega))]; simp [go_sem]) (by rw [cell_setRow_other _ _ _ _ (by first | (simp; done) | (simp; omega))]; simp [go_sem]) (by decide) (by decide) (by decide))⟩, below_setRow (by (repeat' (first | (with_reducible exact Below.refl _ _) | (with_reducible assumption) | (with_reducible refine below_alloc ?_ _) | (with_reducible refine Below.drew ?_) | (with_reducible refine below_drewN ?_ _) | (with_reducible refine below_step (by assumption) ?_) | (with_reducible refine below_later ?_ _) | (with_reducible refine Below.setCell ?_ ?_ _) | go_size))) (Nat.le_refl _) tab⟩
theorem ex_map : MapOk [0, 1000] [0, 1000] [[1000, 1000], [1000, 1000]] :=
  ⟨fax2 (by omega) (by omega) (by omega), fax2 (by omega) (by omega) (by omega), by simp, fun t ht => by
    match t, ht with
    | 0, _ => exact ⟨by simp, by decide⟩
    | 1, _ => exact ⟨by simp, by decide⟩⟩
theorem ex_axis3 : AxisOk [0, 1000, 2560] :=
  ⟨by simp, by simp, by decide, fun t ht => by
    match t, ht with
    | 0, _ => simp
    | 1, _ => simp⟩
theorem ex_eff : EffOk [0, 1000, 2560] [1000, 500, 0] :=
  ⟨⟨by simp, ex_axis3, by decide⟩, by decide, fun t ht => by
    match t, ht with
    | 0, _ => simp
    | 1, _ => simp⟩
theorem ex_spk : SpkOk [0, 1000] [0, 1000] [[1000, 1000], [1000, 1000]] [6000, 14000] [9000, 3000] [0, 1000, 2560] [1000, 500, 0] where
  map := ex_map
  dw := fcv2 (by omega) (by omega) (by omega) (by omega) (by omega)
  dbd := by decide
  eff := ex_eff
  rows := by decide
theorem ex_mval (s c : Int) : mval [0, 1000] [0, 1000] [[1000, 1000], [1000, 1000]] s c = 1000 := by
  have := mval_bd ex_map (lo := 1000) (hi := 1000) (fun t j ht hj => by
    match t, ht, j, hj with
    | 0, _, 0, _ => simp
    | 0, _, 1, _ => simp
    | 1, _, 0, _ => simp
    | 1, _, 1, _ => simp) s c
  omega
theorem ex_cval {l : Int} (h0 : 0 < l) (h1 : l < 1000) : cval [0, 1000, 2560] [1000, 500, 0] l = 1000 + l * (-500) / 1000 := by
  have hs : segI [0, 1000, 2560] l = 0 := seg_eq ex_axis3 (i := 0) (by simp) (by simp; omega) (by simp; omega) (by simp; omega) (by simp; omega)
  unfold cval
  rw [if_neg (by simp; omega), if_neg (by simp; omega), hs]
  simp
theorem ex_cval0 : cval [0, 1000, 2560] [1000, 500, 0] 0 = 1000 := by
  unfold cval
  rw [if_pos (by simp)]
  rfl
theorem ex_angle : angle2 [0, 1000] [0, 1000] [[1000, 1000], [1000, 1000]] [6000, 14000] [9000, 3000] [0, 1000, 2560] [1000, 500, 0] 500 500 0 100 = (940, 0) := by
  rcases base2_cases [0, 1000] [0, 1000] [[1000, 1000], [1000, 1000]] [6000, 14000] [9000, 3000] [0, 1000, 2560] [1000, 500, 0] 500 500 with ⟨_, h⟩ | ⟨_, _, h⟩ | ⟨h, _⟩
  · exact absurd ex_spk (spkB_false.1 h)
  · exact absurd ⟨by decide, by decide⟩ h
  · unfold angle2
    rw [h, ex_mval]
    unfold angV
    decide
theorem ex_effi : effi2 [0, 1000] [0, 1000] [[1000, 1000], [1000, 1000]] [6000, 14000] [9000, 3000] [0, 1000, 2560] [1000, 500, 0] 500 = (750, 0) := by
  unfold effi2
  rw [if_pos (spkB_true.2 ex_spk), if_pos (by decide), ex_cval (by omega) (by omega)]
  decide
theorem ex_grt : grtN [0, 1000, 2560] [1000, 500, 0] 750 = 501 := by
  unfold grtN
  refine least_eq (by omega) (fun t ht => ?_) (fun _ => ?_)
  · rw [decide_eq_false_iff_not]
    by_cases h0 : t = 0
    · subst h0
      rw [show ((0 : Nat) : Int) = 0 by rfl, ex_cval0]
      decide
    · rw [ex_cval (by omega) (by omega)]
      omega
  · rw [decide_eq_true_eq, ex_cval (by omega) (by omega)]
    omega
theorem ex_late : sLate2 [0, 1000] [0, 1000] [[1000, 1000], [1000, 1000]] [6000, 14000] [9000, 3000] [0, 1000, 2560] [1000, 500, 0] 750 = (500, 0) := by
  unfold sLate2
  rw [if_pos (spkB_true.2 ex_spk), ex_grt]
  decide
set_option maxRecDepth 100000 in
theorem awake31_any (w : World) : Calls Try.prog 31 #[] w fun e w' => e = .returned (.bool true) ∧ Below w.heap.size w w' := by
  have HA := Lib.hid (fun tab w hsz hM hD hE => sAngle_any tab [0, 1000] [0, 1000] [[1000, 1000], [1000, 1000]] [6000, 14000] [9000, 3000] [0, 1000, 2560] [1000, 500, 0] w hsz hM hD hE 500 500 0 100)
  have HE := Lib.hid (fun tab w hsz hM hD hE => sEff_any tab [0, 1000] [0, 1000] [[1000, 1000], [1000, 1000]] [6000, 14000] [9000, 3000] [0, 1000, 2560] [1000, 500, 0] w hsz hM hD hE 500)
  have HL := Lib.hid (fun tab w hsz hM hD hE => sLate_any tab [0, 1000] [0, 1000] [[1000, 1000], [1000, 1000]] [6000, 14000] [9000, 3000] [0, 1000, 2560] [1000, 500, 0] w hsz hM hD hE 750)
  rw [ex_angle] at HA
  rw [ex_effi] at HE
  rw [ex_late] at HL
  go_enter Try.func31, Try.ntmps31
  go_wp2_with (first | (go_at_call 77; refine (tables31_any _).mono ?_; rintro e hb1w ⟨tab, rfl, ht1, ht2, ht3, ht4, hb1⟩; have HT1 := Lib.hid ht1; have HT2 := Lib.hid ht2; have HT3 := Lib.hid ht3; have HT4 := Lib.hid ht4; clear ht1 ht2 ht3 ht4; have hb1s := hb1.size) | (go_at_call 33; refine (HA.out _ _ HT1.out HT2.out HT3.out HT4.out).mono ?_; rintro e hb2w ⟨rfl, hb2⟩; obtain ⟨hb2c, hb2f⟩ := bcell hb2; have hb2s := hb2.size; (try simp only [World.size_alloc] at hb2s); (try (have : w.heap.size < hb2w.heap.size := by omega)); (try (have : w.heap.size + 1 < hb2w.heap.size := by omega)); (try (have : w.heap.size + 1 + 1 < hb2w.heap.size := by omega)); (try (have : w.heap.size + 1 + 1 + 1 < hb2w.heap.size := by omega)); (try (have : bX < hb2w.heap.size := by omega)); (try (have : bY < hb2w.heap.size := by omega)); (try (have : bZ < hb2w.heap.size := by omega))) | (go_at_call 42; refine (HE.out _ _ HT1.out HT2.out HT3.out HT4.out).mono ?_; rintro e hb3w ⟨rfl, hb3⟩; obtain ⟨hb3c, hb3f⟩ := bcell hb3; have hb3s := hb3.size; (try simp only [World.size_alloc] at hb3s); (try (have : w.heap.size < hb3w.heap.size := by omega)); (try (have : w.heap.size + 1 < hb3w.heap.size := by omega)); (try (have : w.heap.size + 1 + 1 < hb3w.heap.size := by omega)); (try (have : w.heap.size + 1 + 1 + 1 < hb3w.heap.size := by omega)); (try (have : bX < hb3w.heap.size := by omega)); (try (have : bY < hb3w.heap.size := by omega)); (try (have : bZ < hb3w.heap.size := by omega))) | (go_at_call 43; refine (HL.out _ _ HT1.out HT2.out HT3.out HT4.out).mono ?_; rintro e hb4w ⟨rfl, hb4⟩; obtain ⟨hb4c, hb4f⟩ := bcell hb4; have hb4s := hb4.size; (try simp only [World.size_alloc] at hb4s); (try (have : w.heap.size < hb4w.heap.size := by omega)); (try (have : w.heap.size + 1 < hb4w.heap.size := by omega)); (try (have : w.heap.size + 1 + 1 < hb4w.heap.size := by omega)); (try (have : w.heap.size + 1 + 1 + 1 < hb4w.heap.size := by omega)); (try (have : bX < hb4w.heap.size := by omega)); (try (have : bY < hb4w.heap.size := by omega)); (try (have : bZ < hb4w.heap.size := by omega))))
  go_ret
  exact ⟨rfl, by (repeat' (first | (with_reducible exact Below.refl _ _) | (with_reducible assumption) | (with_reducible refine below_alloc ?_ _) | (with_reducible refine Below.drew ?_) | (with_reducible refine below_drewN ?_ _) | (with_reducible refine below_step (by assumption) ?_) | (with_reducible refine below_later ?_ _) | (with_reducible refine Below.setCell ?_ ?_ _) | go_size))⟩

theorem is1_any (b : Bool) (f : Value) (w : World) : Calls Try.prog 35 #[.int .i64 0, .int .i64 1, .bool false, .bool b, f] w fun e w' => e = .returned (.bool true) ∧ Below w.heap.size w w' := by
  go_enter Try.func35, Try.ntmps35
  go_wp2
  go_ret
  exact ⟨rfl, by (repeat' (first | (with_reducible exact Below.refl _ _) | (with_reducible assumption) | (with_reducible refine below_alloc ?_ _) | (with_reducible refine Below.drew ?_) | (with_reducible refine below_drewN ?_ _) | (with_reducible refine below_step (by assumption) ?_) | (with_reducible refine below_later ?_ _) | (with_reducible refine Below.setCell ?_ ?_ _) | go_size))⟩
theorem is2_any (f : Value) (w : World) : Calls Try.prog 35 #[.int .i64 0, .int .i64 2, .bool true, .bool false, f] w fun e w' => e = .returned (.bool true) ∧ Below w.heap.size w w' := by
  go_enter Try.func35, Try.ntmps35
  go_wp2
  go_ret
  exact ⟨rfl, by (repeat' (first | (with_reducible exact Below.refl _ _) | (with_reducible assumption) | (with_reducible refine below_alloc ?_ _) | (with_reducible refine Below.drew ?_) | (with_reducible refine below_drewN ?_ _) | (with_reducible refine below_step (by assumption) ?_) | (with_reducible refine below_later ?_ _) | (with_reducible refine Below.setCell ?_ ?_ _) | go_size))⟩
theorem is3_any (v : Int) (g : Nat) (cb : Array Value) (w : World) (eg : ∀ args w, (callFunc g args).run Try.prog w = .ok (.enter g args) w) (hc : Calls Try.prog g cb w fun e w' => e = .returned (.int .i64 v) ∧ Below w.heap.size w w') :
    Calls Try.prog 35 #[.int .i64 v, .int .i64 0, .bool true, .bool true, .func (.func g) #[] cb] w fun e w' => e = .returned (.bool true) ∧ Below w.heap.size w w' := by
  go_enter Try.func35, Try.ntmps35
  go_wp2_with (go_at_fn g; refine hc.mono ?_; rintro x w' ⟨rfl, hb⟩)
  go_ret
  exact ⟨by first | rfl | simp, by (repeat' (first | (with_reducible exact Below.refl _ _) | (with_reducible assumption) | (with_reducible refine below_alloc ?_ _) | (with_reducible refine Below.drew ?_) | (with_reducible refine below_drewN ?_ _) | (with_reducible refine below_step (by assumption) ?_) | (with_reducible refine below_later ?_ _) | (with_reducible refine Below.setCell ?_ ?_ _) | go_size))⟩
theorem speeds_any (s c : Int) (w : World) : Calls Try.prog 36 #[.int .i64 s, .int .i64 c] w fun e w' => e = .returned (.bool (inB s 0 12000 && inB c 0 1048576)) ∧ w = w' := by
  cases h : inB s 0 12000 <;> cases h2 : inB c 0 1048576
  all_goals
    go_enter Try.func36, Try.ntmps36
    go_wp2_with ((go_at_call 39; refine (rin_any _ _ _ _).mono ?_; rintro e w' ⟨rfl, rfl⟩))
    go_ret
    exact ⟨by simp, rfl⟩
end Go.Proofs.Ytohdbneaganfbaa
