/- The example's tables of the chapter of air, its examples (awake), and great. Printed by a program. -/
import Derived.Test.YtohdbneaganfbaaFlatM
namespace Go.Proofs.Ytohdbneaganfbaa
set_option linter.unusedVariables false
set_option linter.unusedSimpArgs false
open Go.RowKit Go.ChangeShapes Go.WideShapes Go.ChangeAt

set_option maxRecDepth 100000 in
set_option maxHeartbeats 1000000 in
theorem flat29_any (w : World) : Calls Try.prog 56 #[] w fun e w' => ∃ tab, e = .returned (.agg tab) ∧ tab.size = 24 ∧ MapAt w' tab 0 1 2 [0, 7000] [50, 1050] [[0, 100000], [0, 100000]] ∧ CurAt w' tab 12 13 [0, 100] [1000, 1000] ∧ Below w.heap.size w w' := by
  obtain ⟨i0, z, hi, hz, hzs, his⟩ := finfoTab
  have HINF : Hid ((Try.prog.info? 31).map (·.size) = some 24) := Lib.hid (by rw [hi]; simp [his])
  have HI := Lib.hid hi
  have HZ := Lib.hid hz
  clear hi hz his
  generalize hold : z.cells = old at *
  go_enter Try.func56, Try.ntmps56
  go_wp2_with (first | (refine fwpList_alloc_row rfl 31 rfl i0 z HI.out HZ.out ?_; rw [hold]) | (refine wpList_build rfl 31 _ rfl (by kernel_rfl) ?_; generalize hT : (Option.getD (Try.prog.built _ _) #[]) = tab; (have h24 : tab.size = 24 := by (rw [← hT]; kernel_rfl)); (have f0 : tab[0]? = some (.slice (some ⟨w.heap.size + 1, 0, none⟩) 2 2) := by (rw [← hT]; kernel_rfl)); (have f1 : tab[1]? = some (.slice (some ⟨w.heap.size + 1 + 1, 0, none⟩) 2 2) := by (rw [← hT]; kernel_rfl)); (have f2 : tab[2]? = some (.slice (some ⟨w.heap.size + 1 + 1 + 1 + 1 + 1, 0, none⟩) 2 2) := by (rw [← hT]; kernel_rfl)); (have f12 : tab[12]? = some (.slice (some ⟨w.heap.size + 1 + 1 + 1 + 1 + 1 + 1, 0, none⟩) 2 2) := by (rw [← hT]; kernel_rfl)); (have f13 : tab[13]? = some (.slice (some ⟨w.heap.size + 1 + 1 + 1 + 1 + 1 + 1 + 1, 0, none⟩) 2 2) := by (rw [← hT]; kernel_rfl)); (have f100 : tab.all (·.oneCell') = true := by (rw [← hT]; kernel_rfl)); have HS := Lib.hid h24; have HA := Lib.hid f100; clear hT h24 f100) | (refine wpList_store_row rfl 31 (.tmp 0) (.tmp 10) rfl w.heap.size tab rfl rfl 31 old ((Below.block (show Below (w.alloc (.cells old 31)).heap.size (w.alloc (.cells old 31)) _ by (repeat' (first | (with_reducible exact Below.refl _ _) | (with_reducible assumption) | (with_reducible refine below_alloc ?_ _) | (with_reducible refine Below.drew ?_) | (with_reducible refine below_drewN ?_ _) | (with_reducible refine below_step (by assumption) ?_) | (with_reducible refine below_later ?_ _) | (with_reducible refine Below.setCell ?_ ?_ _) | go_size))) _ (by simp)).trans (heap_alloc_new _ _)) (by rw [HS.out]; exact HINF.out) (by rw [HS.out]; exact hzs) HA.out ?_))
  refine bodyPost_ret (results_cell_row rfl _ _ w.heap.size 31 tab (0, 0) _ rfl (setRow_heap _ w.heap.size old tab 31 (0, 0) ((Below.block (show Below (w.alloc (.cells old 31)).heap.size (w.alloc (.cells old 31)) _ by (repeat' (first | (with_reducible exact Below.refl _ _) | (with_reducible assumption) | (with_reducible refine below_alloc ?_ _) | (with_reducible refine Below.drew ?_) | (with_reducible refine below_drewN ?_ _) | (with_reducible refine below_step (by assumption) ?_) | (with_reducible refine below_later ?_ _) | (with_reducible refine Below.setCell ?_ ?_ _) | go_size))) _ (by simp)).trans (heap_alloc_new _ _))) Try.underlying31 rfl (by rw [HS.out]; exact HINF.out)) rfl ?_
  exact ⟨tab, rfl, HS.out, ⟨_, 2, _, 2, _, 2, f0, f1, f2, (fints2 (by simp) (by rw [cell_setRow_other _ _ _ _ (by first | (simp; done) | (simp; omega))]; simp [go_sem]) (by rw [cell_setRow_other _ _ _ _ (by first | (simp; done) | (simp; omega))]; simp [go_sem]) (by decide) (by decide)), (fints2 (by simp) (by rw [cell_setRow_other _ _ _ _ (by first | (simp; done) | (simp; omega))]; simp [go_sem]) (by rw [cell_setRow_other _ _ _ _ (by first | (simp; done) | (simp; omega))]; simp [go_sem]) (by decide) (by decide)), frows2 (b1 := w.heap.size + 1 + 1 + 1) (b2 := w.heap.size + 1 + 1 + 1 + 1) (by simp) rfl rfl (by rw [cell_setRow_other _ _ _ _ (by first | (simp; done) | (simp; omega))]; simp [go_sem]) (by rw [cell_setRow_other _ _ _ _ (by first | (simp; done) | (simp; omega))]; simp [go_sem]) (fints2 (by simp) (by rw [cell_setRow_other _ _ _ _ (by first | (simp; done) | (simp; omega))]; simp [go_sem]) (by rw [cell_setRow_other _ _ _ _ (by first | (simp; done) | (simp; omega))]; simp [go_sem]) (by decide) (by decide)) (fints2 (by simp) (by rw [cell_setRow_other _ _ _ _ (by first | (simp; done) | (simp; omega))]; simp [go_sem]) (by rw [cell_setRow_other _ _ _ _ (by first | (simp; done) | (simp; omega))]; simp [go_sem]) (by decide) (by decide))⟩, ⟨_, 2, _, 2, f12, f13, (fints2 (by simp) (by rw [cell_setRow_other _ _ _ _ (by first | (simp; done) | (simp; omega))]; simp [go_sem]) (by rw [cell_setRow_other _ _ _ _ (by first | (simp; done) | (simp; omega))]; simp [go_sem]) (by decide) (by decide)), (fints2 (by simp) (by rw [cell_setRow_other _ _ _ _ (by first | (simp; done) | (simp; omega))]; simp [go_sem]) (by rw [cell_setRow_other _ _ _ _ (by first | (simp; done) | (simp; omega))]; simp [go_sem]) (by decide) (by decide))⟩, below_setRow (by (repeat' (first | (with_reducible exact Below.refl _ _) | (with_reducible assumption) | (with_reducible refine below_alloc ?_ _) | (with_reducible refine Below.drew ?_) | (with_reducible refine below_drewN ?_ _) | (with_reducible refine below_step (by assumption) ?_) | (with_reducible refine below_later ?_ _) | (with_reducible refine Below.setCell ?_ ?_ _) | go_size))) (Nat.le_refl _) tab⟩

set_option maxRecDepth 100000 in
theorem awake29_any (w : World) : Calls Try.prog 15 #[] w fun e w' => e = .returned (.bool true) ∧ Below w.heap.size w w' := by
  have HC := Lib.hid (fun tab w hsz hM hE => aCharge_any tab [0, 7000] [50, 1050] [[0, 100000], [0, 100000]] [0, 100] [1000, 1000] w hsz hM hE 2000 550 20)
  have HP := Lib.hid (fun tab w hsz hM hE => aPressure_any tab [0, 7000] [50, 1050] [[0, 100000], [0, 100000]] [0, 100] [1000, 1000] w hsz hM hE 2000 50001 20)
  rw [flat_chg (s := 2000) (p := 550) (t := 20) (by decide) (by decide) (by decide) (by omega) (by omega)] at HC
  rw [flat_prs (s := 2000) (want := 50001) (t := 20) (r := 501) (by decide) (by decide) (by decide) (by omega) (by omega) (by omega)] at HP
  go_enter Try.func15, Try.ntmps15
  go_wp2_with (first | (go_at_call 56; refine (flat29_any _).mono ?_; rintro e hb1w ⟨tab, rfl, ht1, ht2, ht3, hb1⟩; have HT1 := Lib.hid ht1; have HT2 := Lib.hid ht2; have HT3 := Lib.hid ht3; clear ht1 ht2 ht3; have hb1s := hb1.size) | (go_at_call 17; refine (HC.out _ _ HT1.out HT2.out HT3.out).mono ?_; rintro e hb2w ⟨rfl, hb2⟩; obtain ⟨hb2c, hb2f⟩ := bcell hb2; have hb2s := hb2.size; (try simp only [World.size_alloc] at hb2s); (try (have : w.heap.size < hb2w.heap.size := by omega)); (try (have : w.heap.size + 1 < hb2w.heap.size := by omega)); (try (have : w.heap.size + 1 + 1 < hb2w.heap.size := by omega)); (try (have : w.heap.size + 1 + 1 + 1 < hb2w.heap.size := by omega)); (try (have : bX < hb2w.heap.size := by omega)); (try (have : bY < hb2w.heap.size := by omega)); (try (have : bZ < hb2w.heap.size := by omega))) | (go_at_call 19; refine (HP.out _ _ HT1.out HT2.out HT3.out).mono ?_; rintro e hb3w ⟨rfl, hb3⟩; obtain ⟨hb3c, hb3f⟩ := bcell hb3; have hb3s := hb3.size; (try simp only [World.size_alloc] at hb3s); (try (have : w.heap.size < hb3w.heap.size := by omega)); (try (have : w.heap.size + 1 < hb3w.heap.size := by omega)); (try (have : w.heap.size + 1 + 1 < hb3w.heap.size := by omega)); (try (have : w.heap.size + 1 + 1 + 1 < hb3w.heap.size := by omega)); (try (have : bX < hb3w.heap.size := by omega)); (try (have : bY < hb3w.heap.size := by omega)); (try (have : bZ < hb3w.heap.size := by omega))))
  go_ret
  exact ⟨rfl, by (repeat' (first | (with_reducible exact Below.refl _ _) | (with_reducible assumption) | (with_reducible refine below_alloc ?_ _) | (with_reducible refine Below.drew ?_) | (with_reducible refine below_drewN ?_ _) | (with_reducible refine below_step (by assumption) ?_) | (with_reducible refine below_later ?_ _) | (with_reducible refine Below.setCell ?_ ?_ _) | go_size))⟩

/-- Whether tables have more than 40 nodes. -/
def great5 (a b c d e : Nat) : Bool := decide (40 < a ∨ 40 < b ∨ 40 < c ∨ 40 < d ∨ 40 < e)
set_option maxRecDepth 100000 in
theorem great29_any (tab : Array Value) (X Y : List Int) (Z : List (List Int)) (xs ys : List Int) (w : World) (hsz : tab.size = 24) (hM : MapAt w tab 0 1 2 X Y Z) (hE : CurAt w tab 12 13 xs ys) :
    Calls Try.prog 16 #[.agg tab] w fun e w' => e = .returned (.bool (great5 X.length Y.length Z.length xs.length ys.length)) ∧ Below w.heap.size w w' := by
  obtain ⟨rX, cX, rY, cY, rZ, cZ, h6, h7, h8, hX, hY, hZ⟩ := hM.ex
  obtain ⟨rx, cx, ry, cy, h18, h19, hx, hy⟩ := hE.ex
  have HI : Hid ((Try.prog.info? 31).map (·.size) = some tab.size) := Lib.hid (by rw [hsz]; kernel_rfl)
  have l1 := Nat.le_trans hX.le hX.max
  have l2 := Nat.le_trans hY.le hY.max
  have l3 := Nat.le_trans hZ.le hZ.max
  have l4 := Nat.le_trans hx.le hx.max
  have l5 := Nat.le_trans hy.le hy.max
  unfold maxLen at l1 l2 l3 l4 l5
  clear hsz hM hE hX hY hZ hx hy
  by_cases a0 : 40 < X.length
  · have H : Hid (great5 X.length Y.length Z.length xs.length ys.length = true) := Lib.hid (by simp [great5, a0])
    have c0 : (40 : Int) < (X.length : Int) := by omega
    go_enter Try.func16, Try.ntmps16
    go_wp2
    go_ret
    exact ⟨by rw [H.out]; first | done | rfl | (exact ret_bool (decide_eq_true (by omega))), by (repeat' (first | (with_reducible exact Below.refl _ _) | (with_reducible assumption) | (with_reducible refine below_alloc ?_ _) | (with_reducible refine Below.drew ?_) | (with_reducible refine below_drewN ?_ _) | (with_reducible refine below_step (by assumption) ?_) | (with_reducible refine below_later ?_ _) | (with_reducible refine Below.setCell ?_ ?_ _) | go_size))⟩
  · have b0 : ¬ (40 : Int) < (X.length : Int) := by omega
    by_cases a1 : 40 < Y.length
    · have H : Hid (great5 X.length Y.length Z.length xs.length ys.length = true) := Lib.hid (by simp [great5, a1])
      have c1 : (40 : Int) < (Y.length : Int) := by omega
      go_enter Try.func16, Try.ntmps16
      go_wp2
      go_ret
      exact ⟨by rw [H.out]; first | done | rfl | (exact ret_bool (decide_eq_true (by omega))), by (repeat' (first | (with_reducible exact Below.refl _ _) | (with_reducible assumption) | (with_reducible refine below_alloc ?_ _) | (with_reducible refine Below.drew ?_) | (with_reducible refine below_drewN ?_ _) | (with_reducible refine below_step (by assumption) ?_) | (with_reducible refine below_later ?_ _) | (with_reducible refine Below.setCell ?_ ?_ _) | go_size))⟩
    · have b1 : ¬ (40 : Int) < (Y.length : Int) := by omega
      by_cases a2 : 40 < Z.length
      · have H : Hid (great5 X.length Y.length Z.length xs.length ys.length = true) := Lib.hid (by simp [great5, a2])
        have c2 : (40 : Int) < (Z.length : Int) := by omega
        go_enter Try.func16, Try.ntmps16
        go_wp2
        go_ret
        exact ⟨by rw [H.out]; first | done | rfl | (exact ret_bool (decide_eq_true (by omega))), by (repeat' (first | (with_reducible exact Below.refl _ _) | (with_reducible assumption) | (with_reducible refine below_alloc ?_ _) | (with_reducible refine Below.drew ?_) | (with_reducible refine below_drewN ?_ _) | (with_reducible refine below_step (by assumption) ?_) | (with_reducible refine below_later ?_ _) | (with_reducible refine Below.setCell ?_ ?_ _) | go_size))⟩
      · have b2 : ¬ (40 : Int) < (Z.length : Int) := by omega
        by_cases a3 : 40 < xs.length
        · have H : Hid (great5 X.length Y.length Z.length xs.length ys.length = true) := Lib.hid (by simp [great5, a3])
          have c3 : (40 : Int) < (xs.length : Int) := by omega
          go_enter Try.func16, Try.ntmps16
          go_wp2
          go_ret
          exact ⟨by rw [H.out]; first | done | rfl | (exact ret_bool (decide_eq_true (by omega))), by (repeat' (first | (with_reducible exact Below.refl _ _) | (with_reducible assumption) | (with_reducible refine below_alloc ?_ _) | (with_reducible refine Below.drew ?_) | (with_reducible refine below_drewN ?_ _) | (with_reducible refine below_step (by assumption) ?_) | (with_reducible refine below_later ?_ _) | (with_reducible refine Below.setCell ?_ ?_ _) | go_size))⟩
        · have b3 : ¬ (40 : Int) < (xs.length : Int) := by omega
          by_cases a4 : 40 < ys.length
          · have H : Hid (great5 X.length Y.length Z.length xs.length ys.length = true) := Lib.hid (by simp [great5, a4])
            have c4 : (40 : Int) < (ys.length : Int) := by omega
            go_enter Try.func16, Try.ntmps16
            go_wp2
            go_ret
            exact ⟨by rw [H.out]; first | done | rfl | (exact ret_bool (decide_eq_true (by omega))), by (repeat' (first | (with_reducible exact Below.refl _ _) | (with_reducible assumption) | (with_reducible refine below_alloc ?_ _) | (with_reducible refine Below.drew ?_) | (with_reducible refine below_drewN ?_ _) | (with_reducible refine below_step (by assumption) ?_) | (with_reducible refine below_later ?_ _) | (with_reducible refine Below.setCell ?_ ?_ _) | go_size))⟩
          · have b4 : ¬ (40 : Int) < (ys.length : Int) := by omega
            have H : Hid (great5 X.length Y.length Z.length xs.length ys.length = false) := Lib.hid (by simp only [great5, decide_eq_false_iff_not]; omega)
            go_enter Try.func16, Try.ntmps16
            go_wp2
            go_ret
            exact ⟨by rw [H.out]; first | done | rfl, by (repeat' (first | (with_reducible exact Below.refl _ _) | (with_reducible assumption) | (with_reducible refine below_alloc ?_ _) | (with_reducible refine Below.drew ?_) | (with_reducible refine below_drewN ?_ _) | (with_reducible refine below_step (by assumption) ?_) | (with_reducible refine below_later ?_ _) | (with_reducible refine Below.setCell ?_ ?_ _) | go_size))⟩
end Go.Proofs.Ytohdbneaganfbaa
