/- The law TorqueInverse returns true for all tables and numbers. No conditions. Printed by a program. -/
import Derived.Test.YtpmjnpbigppllaaTorqAwake
import Derived.Test.YtpmjnpbigppllaaTabG
import Derived.Test.YtpmjnpbigppllaaOpenTables
import Derived.Test.YtpmjnpbigppllaaFrame
import Derived.Test.YtpmjnpbigppllaaTorqInv0
import Derived.Test.YtpmjnpbigppllaaTorqInv1
import Derived.Test.YtpmjnpbigppllaaTorqInv2
import Derived.Test.YtpmjnpbigppllaaTorqInv3
namespace Go.Proofs.Ytpmjnpbigppllaa
set_option linter.unusedVariables false
set_option linter.unusedSimpArgs false
open Go.RowKit Go.ChangeShapes Go.WideShapes Go.ChangeAt

set_option maxRecDepth 100000 in
set_option maxHeartbeats 4000000 in
theorem tinv_bad_walk (tab : Array Value) (rX rY rZ rx ry : Option Addr) (cX cY cZ cx cy : Nat) (X Y : List Int) (Z : List (List Int)) (xs ys : List Int) (w : World) (hsz : tab.size = 24) (h6 : tab[6]? = some (.slice rX X.length cX)) (h7 : tab[7]? = some (.slice rY Y.length cY)) (h8 : tab[8]? = some (.slice rZ Z.length cZ)) (h18 : tab[18]? = some (.slice rx xs.length cx)) (h19 : tab[19]? = some (.slice ry ys.length cy)) (hX : IsInts w rX cX .i64 X) (hY : IsInts w rY cY .i64 Y) (hZ : IsRows w rZ cZ Z) (hx : IsInts w rx cx .i64 xs) (hy : IsInts w ry cy .i64 ys) (s c want : Int) (hb : tqB X Y Z xs ys = false) : Calls Try.prog 10 #[.agg tab, .int .i64 s, .int .i64 c, .int .i64 want] w fun e w' => e = .returned (.bool true) ∧ Below w.heap.size w w' := by
  have hM : MapAt w tab 6 7 8 X Y Z := ⟨rX, cX, rY, cY, rZ, cZ, h6, h7, h8, hX, hY, hZ⟩
  have hE : CurAt w tab 18 19 xs ys := ⟨rx, cx, ry, cy, h18, h19, hx, hy⟩
  have HM : Hid (∀ w', Below w.heap.size w w' → MapAt w' tab 6 7 8 X Y Z) := Lib.hid (fun _ h => hM.later h)
  have HE : Hid (∀ w', Below w.heap.size w w' → CurAt w' tab 18 19 xs ys) := Lib.hid (fun _ h => hE.later h)
  have HI : Hid ((Try.prog.info? 31).map (·.size) = some tab.size) := Lib.hid (by rw [hsz]; kernel_rfl)
  have HSZ := Lib.hid hsz
  clear hsz hM hE h6 h7 h8 h18 h19 hX hY hZ hx hy
  go_enter Try.func10, Try.ntmps10
  go_wp2_with (first | (with_reducible refine wpList_load_row rfl 31 (.tmp 4) rfl w.heap.size (by with_unfolding_all rfl) 31 tab (0, 0) _ ((Below.block (show Below (w.alloc (.cells tab 31)).heap.size (w.alloc (.cells tab 31)) _ by (repeat' (first | (with_reducible exact Below.refl _ _) | (with_reducible assumption) | (with_reducible refine below_alloc ?_ _) | (with_reducible refine Below.drew ?_) | (with_reducible refine below_drewN ?_ _) | (with_reducible refine below_step (by assumption) ?_) | (with_reducible refine below_later ?_ _) | (with_reducible refine Below.setCell ?_ ?_ _) | go_size))) _ (by simp)).trans (heap_alloc_new _ _)) Try.underlying31 rfl HI.out ?_) | (go_at_call 12; refine (awake_any _).mono ?_; rintro e hb1w ⟨rfl, hb1⟩; obtain ⟨hb1c, hb1f⟩ := bcell hb1; have hb1s := hb1.size; (try simp only [World.size_alloc] at hb1s); (try (have : w.heap.size < hb1w.heap.size := by omega)); (try (have : w.heap.size + 1 < hb1w.heap.size := by omega)); (try (have : w.heap.size + 1 + 1 < hb1w.heap.size := by omega)); (try (have : w.heap.size + 1 + 1 + 1 < hb1w.heap.size := by omega)); (try (have : bX < hb1w.heap.size := by omega)); (try (have : bY < hb1w.heap.size := by omega)); (try (have : bZ < hb1w.heap.size := by omega))) | (go_at_call 16; refine (tvalid_any _ _ _ _ _ _ _ HSZ.out (HM.out _ (by (repeat' (first | (with_reducible exact Below.refl _ _) | (with_reducible assumption) | (with_reducible refine below_alloc ?_ _) | (with_reducible refine Below.drew ?_) | (with_reducible refine below_drewN ?_ _) | (with_reducible refine below_step (by assumption) ?_) | (with_reducible refine below_later ?_ _) | (with_reducible refine Below.setCell ?_ ?_ _) | go_size)))) (HE.out _ (by (repeat' (first | (with_reducible exact Below.refl _ _) | (with_reducible assumption) | (with_reducible refine below_alloc ?_ _) | (with_reducible refine Below.drew ?_) | (with_reducible refine below_drewN ?_ _) | (with_reducible refine below_step (by assumption) ?_) | (with_reducible refine below_later ?_ _) | (with_reducible refine Below.setCell ?_ ?_ _) | go_size))))).mono ?_; rintro e hb2w ⟨rfl, hb2⟩; obtain ⟨hb2c, hb2f⟩ := bcell hb2; have hb2s := hb2.size; (try simp only [World.size_alloc] at hb2s); (try (have : w.heap.size < hb2w.heap.size := by omega)); (try (have : w.heap.size + 1 < hb2w.heap.size := by omega)); (try (have : w.heap.size + 1 + 1 < hb2w.heap.size := by omega)); (try (have : w.heap.size + 1 + 1 + 1 < hb2w.heap.size := by omega)); (try (have : bX < hb2w.heap.size := by omega)); (try (have : bY < hb2w.heap.size := by omega)); (try (have : bZ < hb2w.heap.size := by omega))))
  go_ret
  exact ⟨by first | rfl | (simp; done) | (simp [*]; done), by (repeat' (first | (with_reducible exact Below.refl _ _) | (with_reducible assumption) | (with_reducible refine below_alloc ?_ _) | (with_reducible refine Below.drew ?_) | (with_reducible refine below_drewN ?_ _) | (with_reducible refine below_step (by assumption) ?_) | (with_reducible refine below_later ?_ _) | (with_reducible refine Below.setCell ?_ ?_ _) | go_size))⟩

set_option maxRecDepth 100000 in
set_option maxHeartbeats 4000000 in
theorem tinv_low_walk (tab : Array Value) (rX rY rZ rx ry : Option Addr) (cX cY cZ cx cy : Nat) (X Y : List Int) (Z : List (List Int)) (xs ys : List Int) (w : World) (hsz : tab.size = 24) (h6 : tab[6]? = some (.slice rX X.length cX)) (h7 : tab[7]? = some (.slice rY Y.length cY)) (h8 : tab[8]? = some (.slice rZ Z.length cZ)) (h18 : tab[18]? = some (.slice rx xs.length cx)) (h19 : tab[19]? = some (.slice ry ys.length cy)) (hX : IsInts w rX cX .i64 X) (hY : IsInts w rY cY .i64 Y) (hZ : IsRows w rZ cZ Z) (hx : IsInts w rx cx .i64 xs) (hy : IsInts w ry cy .i64 ys) (s c want : Int) (hb : tqB X Y Z xs ys = true) (h2 : 1 < Y.length) (a0 : Y.getD 0 0 < 0) : Calls Try.prog 10 #[.agg tab, .int .i64 s, .int .i64 c, .int .i64 want] w fun e w' => e = .returned (.bool true) ∧ Below w.heap.size w w' := by
  have hM : MapAt w tab 6 7 8 X Y Z := ⟨rX, cX, rY, cY, rZ, cZ, h6, h7, h8, hX, hY, hZ⟩
  have hE : CurAt w tab 18 19 xs ys := ⟨rx, cx, ry, cy, h18, h19, hx, hy⟩
  have HM : Hid (∀ w', Below w.heap.size w w' → MapAt w' tab 6 7 8 X Y Z) := Lib.hid (fun _ h => hM.later h)
  have HE : Hid (∀ w', Below w.heap.size w w' → CurAt w' tab 18 19 xs ys) := Lib.hid (fun _ h => hE.later h)
  have HI : Hid ((Try.prog.info? 31).map (·.size) = some tab.size) := Lib.hid (by rw [hsz]; kernel_rfl)
  have HSZ := Lib.hid hsz
  obtain ⟨bY, oY, rfl, hbY, hcY⟩ := hY.cells (fun e => by rw [e] at h2; simp at h2)
  have HH7 := Lib.hid h7
  have k1 := hcY 0 (by omega)
  have k2 := hcY (Y.length - 1) (by omega)
  rw [Nat.add_zero] at k1
  have hmx := Nat.le_trans hY.le hY.max
  clear hsz hM hE h6 h8 h18 h19 hX hY hZ hx hy hcY
  generalize Y.getD 0 0 = fi at *
  generalize Y.getD (Y.length - 1) 0 = la at *
  have j1 : (0 : Int) < (Y.length : Int) := by omega
  have j2 : (1 : Int) ≤ (Y.length : Int) := by omega
  have j3 : 0 < Y.length := by omega
  have j9 : ¬ (Y.length : Int) < 2 := by omega
  have j4 : IntKind.i64.wrap ((Y.length : Int) - 1) = (Y.length : Int) - 1 := IntWalk.i64_in _ (by unfold maxLen at hmx; omega)
  have j5 : ((Y.length : Int) - 1).toNat = Y.length - 1 := by omega
  have j6 : (0 : Int) ≤ (Y.length : Int) - 1 := by omega
  have q2 : bY < w.heap.size + 1 := by omega
  go_enter Try.func10, Try.ntmps10
  go_wp2_with (first | (with_reducible refine wpList_load_row rfl 31 (.tmp 4) rfl w.heap.size (by with_unfolding_all rfl) 31 tab (0, 0) _ ((Below.block (show Below (w.alloc (.cells tab 31)).heap.size (w.alloc (.cells tab 31)) _ by (repeat' (first | (with_reducible exact Below.refl _ _) | (with_reducible assumption) | (with_reducible refine below_alloc ?_ _) | (with_reducible refine Below.drew ?_) | (with_reducible refine below_drewN ?_ _) | (with_reducible refine below_step (by assumption) ?_) | (with_reducible refine below_later ?_ _) | (with_reducible refine Below.setCell ?_ ?_ _) | go_size))) _ (by simp)).trans (heap_alloc_new _ _)) Try.underlying31 rfl HI.out ?_) | (go_at_call 12; refine (awake_any _).mono ?_; rintro e hb1w ⟨rfl, hb1⟩; obtain ⟨hb1c, hb1f⟩ := bcell hb1; have hb1s := hb1.size; (try simp only [World.size_alloc] at hb1s); (try (have : w.heap.size < hb1w.heap.size := by omega)); (try (have : w.heap.size + 1 < hb1w.heap.size := by omega)); (try (have : w.heap.size + 1 + 1 < hb1w.heap.size := by omega)); (try (have : w.heap.size + 1 + 1 + 1 < hb1w.heap.size := by omega)); (try (have : bX < hb1w.heap.size := by omega)); (try (have : bY < hb1w.heap.size := by omega)); (try (have : bZ < hb1w.heap.size := by omega))) | (go_at_call 16; refine (tvalid_any _ _ _ _ _ _ _ HSZ.out (HM.out _ (by (repeat' (first | (with_reducible exact Below.refl _ _) | (with_reducible assumption) | (with_reducible refine below_alloc ?_ _) | (with_reducible refine Below.drew ?_) | (with_reducible refine below_drewN ?_ _) | (with_reducible refine below_step (by assumption) ?_) | (with_reducible refine below_later ?_ _) | (with_reducible refine Below.setCell ?_ ?_ _) | go_size)))) (HE.out _ (by (repeat' (first | (with_reducible exact Below.refl _ _) | (with_reducible assumption) | (with_reducible refine below_alloc ?_ _) | (with_reducible refine Below.drew ?_) | (with_reducible refine below_drewN ?_ _) | (with_reducible refine below_step (by assumption) ?_) | (with_reducible refine below_later ?_ _) | (with_reducible refine Below.setCell ?_ ?_ _) | go_size))))).mono ?_; rintro e hb2w ⟨rfl, hb2⟩; obtain ⟨hb2c, hb2f⟩ := bcell hb2; have hb2s := hb2.size; (try simp only [World.size_alloc] at hb2s); (try (have : w.heap.size < hb2w.heap.size := by omega)); (try (have : w.heap.size + 1 < hb2w.heap.size := by omega)); (try (have : w.heap.size + 1 + 1 < hb2w.heap.size := by omega)); (try (have : w.heap.size + 1 + 1 + 1 < hb2w.heap.size := by omega)); (try (have : bX < hb2w.heap.size := by omega)); (try (have : bY < hb2w.heap.size := by omega)); (try (have : bZ < hb2w.heap.size := by omega))))
  go_ret
  exact ⟨by first | rfl | (simp; done) | (simp [*]; done), by (repeat' (first | (with_reducible exact Below.refl _ _) | (with_reducible assumption) | (with_reducible refine below_alloc ?_ _) | (with_reducible refine Below.drew ?_) | (with_reducible refine below_drewN ?_ _) | (with_reducible refine below_step (by assumption) ?_) | (with_reducible refine below_later ?_ _) | (with_reducible refine Below.setCell ?_ ?_ _) | go_size))⟩

set_option maxRecDepth 100000 in
set_option maxHeartbeats 4000000 in
theorem tinv_high_walk (tab : Array Value) (rX rY rZ rx ry : Option Addr) (cX cY cZ cx cy : Nat) (X Y : List Int) (Z : List (List Int)) (xs ys : List Int) (w : World) (hsz : tab.size = 24) (h6 : tab[6]? = some (.slice rX X.length cX)) (h7 : tab[7]? = some (.slice rY Y.length cY)) (h8 : tab[8]? = some (.slice rZ Z.length cZ)) (h18 : tab[18]? = some (.slice rx xs.length cx)) (h19 : tab[19]? = some (.slice ry ys.length cy)) (hX : IsInts w rX cX .i64 X) (hY : IsInts w rY cY .i64 Y) (hZ : IsRows w rZ cZ Z) (hx : IsInts w rx cx .i64 xs) (hy : IsInts w ry cy .i64 ys) (s c want : Int) (hb : tqB X Y Z xs ys = true) (h2 : 1 < Y.length) (a0 : ¬ Y.getD 0 0 < 0) (a1 : 1048576 < (Y.getD (Y.length - 1) 0)) : Calls Try.prog 10 #[.agg tab, .int .i64 s, .int .i64 c, .int .i64 want] w fun e w' => e = .returned (.bool true) ∧ Below w.heap.size w w' := by
  have hM : MapAt w tab 6 7 8 X Y Z := ⟨rX, cX, rY, cY, rZ, cZ, h6, h7, h8, hX, hY, hZ⟩
  have hE : CurAt w tab 18 19 xs ys := ⟨rx, cx, ry, cy, h18, h19, hx, hy⟩
  have HM : Hid (∀ w', Below w.heap.size w w' → MapAt w' tab 6 7 8 X Y Z) := Lib.hid (fun _ h => hM.later h)
  have HE : Hid (∀ w', Below w.heap.size w w' → CurAt w' tab 18 19 xs ys) := Lib.hid (fun _ h => hE.later h)
  have HI : Hid ((Try.prog.info? 31).map (·.size) = some tab.size) := Lib.hid (by rw [hsz]; kernel_rfl)
  have HSZ := Lib.hid hsz
  obtain ⟨bY, oY, rfl, hbY, hcY⟩ := hY.cells (fun e => by rw [e] at h2; simp at h2)
  have HH7 := Lib.hid h7
  have k1 := hcY 0 (by omega)
  have k2 := hcY (Y.length - 1) (by omega)
  rw [Nat.add_zero] at k1
  have hmx := Nat.le_trans hY.le hY.max
  clear hsz hM hE h6 h8 h18 h19 hX hY hZ hx hy hcY
  generalize Y.getD 0 0 = fi at *
  generalize Y.getD (Y.length - 1) 0 = la at *
  have j1 : (0 : Int) < (Y.length : Int) := by omega
  have j2 : (1 : Int) ≤ (Y.length : Int) := by omega
  have j3 : 0 < Y.length := by omega
  have j9 : ¬ (Y.length : Int) < 2 := by omega
  have j4 : IntKind.i64.wrap ((Y.length : Int) - 1) = (Y.length : Int) - 1 := IntWalk.i64_in _ (by unfold maxLen at hmx; omega)
  have j5 : ((Y.length : Int) - 1).toNat = Y.length - 1 := by omega
  have j6 : (0 : Int) ≤ (Y.length : Int) - 1 := by omega
  have q2 : bY < w.heap.size + 1 := by omega
  go_enter Try.func10, Try.ntmps10
  go_wp2_with (first | (with_reducible refine wpList_load_row rfl 31 (.tmp 4) rfl w.heap.size (by with_unfolding_all rfl) 31 tab (0, 0) _ ((Below.block (show Below (w.alloc (.cells tab 31)).heap.size (w.alloc (.cells tab 31)) _ by (repeat' (first | (with_reducible exact Below.refl _ _) | (with_reducible assumption) | (with_reducible refine below_alloc ?_ _) | (with_reducible refine Below.drew ?_) | (with_reducible refine below_drewN ?_ _) | (with_reducible refine below_step (by assumption) ?_) | (with_reducible refine below_later ?_ _) | (with_reducible refine Below.setCell ?_ ?_ _) | go_size))) _ (by simp)).trans (heap_alloc_new _ _)) Try.underlying31 rfl HI.out ?_) | (go_at_call 12; refine (awake_any _).mono ?_; rintro e hb1w ⟨rfl, hb1⟩; obtain ⟨hb1c, hb1f⟩ := bcell hb1; have hb1s := hb1.size; (try simp only [World.size_alloc] at hb1s); (try (have : w.heap.size < hb1w.heap.size := by omega)); (try (have : w.heap.size + 1 < hb1w.heap.size := by omega)); (try (have : w.heap.size + 1 + 1 < hb1w.heap.size := by omega)); (try (have : w.heap.size + 1 + 1 + 1 < hb1w.heap.size := by omega)); (try (have : bX < hb1w.heap.size := by omega)); (try (have : bY < hb1w.heap.size := by omega)); (try (have : bZ < hb1w.heap.size := by omega))) | (go_at_call 16; refine (tvalid_any _ _ _ _ _ _ _ HSZ.out (HM.out _ (by (repeat' (first | (with_reducible exact Below.refl _ _) | (with_reducible assumption) | (with_reducible refine below_alloc ?_ _) | (with_reducible refine Below.drew ?_) | (with_reducible refine below_drewN ?_ _) | (with_reducible refine below_step (by assumption) ?_) | (with_reducible refine below_later ?_ _) | (with_reducible refine Below.setCell ?_ ?_ _) | go_size)))) (HE.out _ (by (repeat' (first | (with_reducible exact Below.refl _ _) | (with_reducible assumption) | (with_reducible refine below_alloc ?_ _) | (with_reducible refine Below.drew ?_) | (with_reducible refine below_drewN ?_ _) | (with_reducible refine below_step (by assumption) ?_) | (with_reducible refine below_later ?_ _) | (with_reducible refine Below.setCell ?_ ?_ _) | go_size))))).mono ?_; rintro e hb2w ⟨rfl, hb2⟩; obtain ⟨hb2c, hb2f⟩ := bcell hb2; have hb2s := hb2.size; (try simp only [World.size_alloc] at hb2s); (try (have : w.heap.size < hb2w.heap.size := by omega)); (try (have : w.heap.size + 1 < hb2w.heap.size := by omega)); (try (have : w.heap.size + 1 + 1 < hb2w.heap.size := by omega)); (try (have : w.heap.size + 1 + 1 + 1 < hb2w.heap.size := by omega)); (try (have : bX < hb2w.heap.size := by omega)); (try (have : bY < hb2w.heap.size := by omega)); (try (have : bZ < hb2w.heap.size := by omega))))
  go_ret
  exact ⟨by first | rfl | (simp; done) | (simp [*]; done), by (repeat' (first | (with_reducible exact Below.refl _ _) | (with_reducible assumption) | (with_reducible refine below_alloc ?_ _) | (with_reducible refine Below.drew ?_) | (with_reducible refine below_drewN ?_ _) | (with_reducible refine below_step (by assumption) ?_) | (with_reducible refine below_later ?_ _) | (with_reducible refine Below.setCell ?_ ?_ _) | go_size))⟩

set_option maxRecDepth 100000 in
set_option maxHeartbeats 4000000 in
theorem tinv_walk (tab : Array Value) (rX rY rZ rx ry : Option Addr) (cX cY cZ cx cy : Nat) (X Y : List Int) (Z : List (List Int)) (xs ys : List Int) (w : World) (hsz : tab.size = 24) (h6 : tab[6]? = some (.slice rX X.length cX)) (h7 : tab[7]? = some (.slice rY Y.length cY)) (h8 : tab[8]? = some (.slice rZ Z.length cZ)) (h18 : tab[18]? = some (.slice rx xs.length cx)) (h19 : tab[19]? = some (.slice ry ys.length cy)) (hX : IsInts w rX cX .i64 X) (hY : IsInts w rY cY .i64 Y) (hZ : IsRows w rZ cZ Z) (hx : IsInts w rx cx .i64 xs) (hy : IsInts w ry cy .i64 ys) (s c want : Int) : Calls Try.prog 10 #[.agg tab, .int .i64 s, .int .i64 c, .int .i64 want] w fun e w' => e = .returned (.bool true) ∧ Below w.heap.size w w' := by
  cases hb : tqB X Y Z xs ys with
  | false => exact tinv_bad_walk tab rX rY rZ rx ry cX cY cZ cx cy X Y Z xs ys w hsz h6 h7 h8 h18 h19 hX hY hZ hx hy s c want hb
  | true =>
    have hT := tqB_true.1 hb
    have h2 : 1 < Y.length := by have := hT.map.2.1.1; omega
    by_cases a0 : Y.getD 0 0 < 0
    · exact tinv_low_walk tab rX rY rZ rx ry cX cY cZ cx cy X Y Z xs ys w hsz h6 h7 h8 h18 h19 hX hY hZ hx hy s c want hb h2 a0
    · by_cases a1 : 1048576 < (Y.getD (Y.length - 1) 0)
      · exact tinv_high_walk tab rX rY rZ rx ry cX cY cZ cx cy X Y Z xs ys w hsz h6 h7 h8 h18 h19 hX hY hZ hx hy s c want hb h2 a0 a1
      · have hl := inv_late hT s c want
        rcases inv_charge hT s want (by omega) (by omega) with hk | ⟨hk0, ⟨hk, hk1⟩ | ⟨q, hk, q1, q2, hk2, q3 | ⟨q3, hk3⟩⟩⟩
        · exact tinv0_walk tab rX rY rZ rx ry cX cY cZ cx cy X Y Z xs ys w hsz h6 h7 h8 h18 h19 hX hY hZ hx hy s c want hb h2 a0 a1 hk hl
        · exact tinv1_walk tab rX rY rZ rx ry cX cY cZ cx cy X Y Z xs ys w hsz h6 h7 h8 h18 h19 hX hY hZ hx hy s c want hb h2 a0 a1 ⟨hk0, hk, hk1⟩ hl
        · exact tinv2_walk tab rX rY rZ rx ry cX cY cZ cx cy X Y Z xs ys w hsz h6 h7 h8 h18 h19 hX hY hZ hx hy s c want hb h2 a0 a1 q hk0 hk ⟨q3.symm, q2⟩ hk2 hl
        · exact tinv3_walk tab rX rY rZ rx ry cX cY cZ cx cy X Y Z xs ys w hsz h6 h7 h8 h18 h19 hX hY hZ hx hy s c want hb h2 a0 a1 q hk0 hk ⟨q3, q2⟩ hk2 hk3 hl

set_option maxRecDepth 100000 in
theorem tinv_holds : Rows.TorqueInverseSaid :=
  OpenClaim.holds_of_wide 10 Try.f10 rfl rfl rfl rfl rfl rfl rfl ⟨rfl, rfl, rfl, rfl, rfl⟩ rfl rfl rfl rfl rfl (by kernel_rfl) Try.func10 (by kernel_rfl)
    (of_decide_eq_true (by kernel_rfl)) (by unfold Func.isWrapper; first | (rw [if_pos (by decide +kernel)]; kernel_rfl) | (rw [if_neg (by decide +kernel)]; exact ⟨rfl, rfl⟩))
    (fun os started H enc _ => by
      refine law_frame started (s := Rows.torqueInverseSpec) (conds := Rows.torqueInverseRow.domain) Try.func10 (by kernel_rfl) rfl 4 rfl Try.underlying4 (by decide +kernel) (fun ds h => ?_)
        (ChangeSpec.witness6 (enc := enc) (C := Try.checked) false ⟨#[], #[.agg #[.slice none 0 0, .slice none 0 0, .slice none 0 0, .slice none 0 0, .slice none 0 0, .slice none 0 0, .slice none 0 0, .slice none 0 0, .slice none 0 0, .slice none 0 0, .slice none 0 0, .slice none 0 0, .slice none 0 0, .slice none 0 0, .slice none 0 0, .slice none 0 0, .slice none 0 0, .slice none 0 0, .slice none 0 0, .slice none 0 0, .int .i64 0, .int .i64 0, .int .i64 0, .int .i64 0], .int .i64 0, .int .i64 0, .int .i64 0], []⟩ 12 (by kernel_rfl) (by kernel_rfl) (by kernel_rfl) (by kernel_rfl)) ?_
      · match ds, h with
        | [_, _, _, _], _ => rfl
      · intro W base args ds p hval hA _
        rw [Try.params10] at hA hval
        obtain ⟨v0, vs0, d0, ds0, p0, q0, hargs, rfl, rfl, h0, r0⟩ := trodAll_cons hA
        obtain ⟨v1, vs1, d1, ds1, p1, q1, rfl, rfl, rfl, h1, r1⟩ := trodAll_cons r0
        obtain ⟨v2, vs2, d2, ds2, p2, q2, rfl, rfl, rfl, h2, r2⟩ := trodAll_cons r1
        obtain ⟨v3, vs3, d3, ds3, p3, q3, rfl, rfl, rfl, h3, r3⟩ := trodAll_cons r2
        obtain ⟨rfl, rfl, rfl⟩ := trodAll_nil r3
        obtain rfl : args = #[v0, v1, v2, v3] := by cases args; simp_all
        obtain ⟨cs0, rfl, k0⟩ := arg_agg Try.underlying31 (hval 0 _ v0 rfl rfl) h0
        obtain ⟨r0_0, c0_0, a0_0, r1_0, c1_0, a1_0, r2_0, c2_0, a2_0, r3_0, c3_0, a3_0, r4_0, c4_0, a4_0, r5_0, c5_0, a5_0, r6_0, c6_0, a6_0, r7_0, c7_0, a7_0, r8_0, c8_0, a8_0, r9_0, c9_0, a9_0, r10_0, c10_0, a10_0, r11_0, c11_0, a11_0, r12_0, c12_0, a12_0, r13_0, c13_0, a13_0, r14_0, c14_0, a14_0, r15_0, c15_0, a15_0, r16_0, c16_0, a16_0, r17_0, c17_0, a17_0, r18_0, c18_0, a18_0, r19_0, c19_0, a19_0, a20_0, a21_0, a22_0, a23_0, rfl, g0_0, g1_0, g2_0, g3_0, g4_0, g5_0, g6_0, g7_0, g8_0, g9_0, g10_0, g11_0, g12_0, g13_0, g14_0, g15_0, g16_0, g17_0, g18_0, g19_0, g20_0, g21_0, g22_0, g23_0⟩ := open_Tables k0
        obtain ⟨b1, rfl, rfl, rfl, w1⟩ := open_int Try.underlying3 (hval 1 _ v1 rfl rfl) h1
        obtain ⟨b2, rfl, rfl, rfl, w2⟩ := open_int Try.underlying3 (hval 2 _ v2 rfl rfl) h2
        obtain ⟨b3, rfl, rfl, rfl, w3⟩ := open_int Try.underlying3 (hval 3 _ v3 rfl rfl) h3
        apply tinv_walk <;> (first | assumption | rfl))
#print axioms tinv_holds

end Go.Proofs.Ytpmjnpbigppllaa
