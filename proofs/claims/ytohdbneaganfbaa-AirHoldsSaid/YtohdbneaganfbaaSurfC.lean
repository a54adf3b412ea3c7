/- Contracts of surface's at and At. Printed by a program. -/
import Derived.Test.YtohdbneaganfbaaSurfB
namespace Go.Proofs.Ytohdbneaganfbaa
set_option linter.unusedVariables false
set_option linter.unusedSimpArgs false
open Go.RowKit Go.ChangeShapes Go.WideShapes Go.ChangeAt

theorem size_setCell (w : World) (a : Addr) (v : Value) : (w.setCell a v).heap.size = w.heap.size := by simp [World.setCell]
theorem row_at {W : World} {ri : Option Addr} {ci n : Nat} {row : List Int} (h : IsInts W ri ci .i64 row) (hl : row.length = n) {j : Nat} (hj : j < n) : ∃ b off, ri = some ⟨b, off, none⟩ ∧ b < W.heap.size ∧ W.cell? ⟨b, off + j, none⟩ = some (.int .i64 (row.getD j 0)) := by
  obtain ⟨b, off, h1, h2, h3⟩ := h.cells (fun e => by subst e; simp at hl; omega)
  exact ⟨b, off, h1, h2, h3 j (by omega)⟩

set_option maxRecDepth 100000 in
set_option maxHeartbeats 1000000 in
theorem atCl_any (bM bI bS : Nat) (rX rZ : Option Addr) (cX cZ : Nat) (X Y : List Int) (Z : List (List Int)) (x : Int) (j : Nat) (w : World) (hX : IsInts w rX cX .i64 X) (hZ : IsRows w rZ cZ Z) (hok : MapOk X Y Z) (hj : j < Y.length)
    {x' : Int} (hx' : x' = clampI (X.getD 0 0) (X.getD (X.length - 1) 0) x) (sM : bM < w.heap.size) (sI : bI < w.heap.size) (sS : bS < w.heap.size)
    (c0 : w.cell? ⟨bM, 0, none⟩ = some (.slice rX X.length cX)) (c2 : w.cell? ⟨bM, 2, none⟩ = some (.slice rZ Z.length cZ)) (ci : w.cell? ⟨bI, 0, none⟩ = some (.int .i64 (sgI X x' : Nat))) (cs : w.cell? ⟨bS, 0, none⟩ = some (.int .i64 x')) :
    Calls Try.prog 130 #[.int .i64 j, .pointer (some ⟨bM, 0, none⟩), .pointer (some ⟨bI, 0, none⟩), .pointer (some ⟨bS, 0, none⟩)] w fun e w' => e = .returned (.int .i64 (cval X (colZ Z j) x)) ∧ Below w.heap.size w w' := by
  have hax := hok.1
  have h2 := hax.1
  have h32 := hax.2.1
  have hy32 := hok.2.1.2.1
  have hl := hok.2.2.1
  have hc := colZ_ok hok hj
  have ⟨q1, q2⟩ := clamp_bd hax x
  rw [← hx'] at q1 q2
  have H := Lib.hid (cval_sg hax (colZ Z j) x hx')
  have ⟨s1, s2, s3⟩ := sg_spec hax q1 q2
  obtain ⟨bX, oX, rfl, hbX, hcX⟩ := hX.cells (fun e => by subst e; simp at h2)
  obtain ⟨bZ, oZ, rfl, hbZ, hcZ⟩ := hZ.cells (fun e => by subst e; simp at hl; omega)
  have k1 := hcX (sgI X x') (by omega)
  have k2 := hcX (sgI X x' + 1) (by omega)
  obtain ⟨r1, d1, k3, g1⟩ := hcZ (sgI X x') (by omega)
  obtain ⟨r2, d2, k4, g2⟩ := hcZ (sgI X x' + 1) (by omega)
  have l1 := (hok.2.2.2 (sgI X x') (by omega)).1
  have l2 := (hok.2.2.2 (sgI X x' + 1) (by omega)).1
  rw [l1] at k3
  rw [l2] at k4
  obtain ⟨b1, o1, rfl, hb1, e1⟩ := row_at g1 l1 hj
  obtain ⟨b2, o2, rfl, hb2, e2⟩ := row_at g2 l2 hj
  rw [← colZ_get (by omega)] at e1 e2
  have f1 := far_bd hax.2.2.1 (show sgI X x' < X.length by omega)
  have f2 := far_bd hax.2.2.1 (show sgI X x' + 1 < X.length by omega)
  have f3 := far_bd hc.2.2 (show sgI X x' < (colZ Z j).length by rw [colZ_len]; omega)
  have f4 := far_bd hc.2.2 (show sgI X x' + 1 < (colZ Z j).length by rw [colZ_len]; omega)
  have f5 := axis_mono hax (show sgI X x' < sgI X x' + 1 by omega) s1
  have HB := Lib.hid (fun w => sbetween_any f1.1 f2.2 f5 s2 s3 f3.1 f3.2 f4.1 f4.2 w)
  rw [hl] at c2
  clear hX hZ hok hcX hcZ g1 g2 l1 l2 hc hax q1 q2 hx' f1 f2 f3 f4 f5 s2 s3
  generalize sgI X x' = s at *
  generalize X.getD s 0 = a at *
  generalize X.getD (s + 1) 0 = b at *
  generalize (colZ Z j).getD s 0 = c at *
  generalize (colZ Z j).getD (s + 1) 0 = d at *
  generalize X.length = n at *
  generalize Y.length = m at *
  have i1 : (s : Int) < n := by omega
  have i2 : (s : Int) + 1 < n := by omega
  have i3 : (0 : Int) ≤ s := by omega
  have i4 : (0 : Int) ≤ (s : Int) + 1 := by omega
  have i5 : ((s : Int) + 1).toNat = s + 1 := by omega
  have w1 : IntKind.i64.wrap ((s : Int) + 1) = (s : Int) + 1 := IntWalk.i64_in _ (by omega)
  have j1 : (j : Int) < m := by omega
  have j2 : (0 : Int) ≤ j := by omega
  have s0 : s < n := by omega
  go_enter Try.func130, Try.ntmps130
  go_wp2
  (refine wp_region_later (by kernel_rfl) (by kernel_rfl) ?_; (repeat (go_big_quiet_step ((go_at_call 131; exact later_call (HB.out _))))); refine wpQuiet_nil ?_; rintro _ ⟨e1, rfl⟩; have e1s := e1.h.size; (try simp only [World.size_alloc, World.size_drewN, World.drewN_heap] at e1s); (try (have : w.heap.size < e1.w.heap.size := by omega)); (try (have : w.heap.size + 1 < e1.w.heap.size := by omega)); (try (have : w.heap.size + 1 + 1 < e1.w.heap.size := by omega)); (try (have : w.heap.size + 1 + 1 + 1 < e1.w.heap.size := by omega)); (try (have : bX < e1.w.heap.size := by omega)); (try (have : bY < e1.w.heap.size := by omega)); (try (have : bZ < e1.w.heap.size := by omega)))
  go_wp2
  go_ret
  exact ⟨by rw [H.out]; first | done | rfl, by (repeat' (first | (with_reducible exact Below.refl _ _) | (with_reducible assumption) | (with_reducible refine below_alloc ?_ _) | (with_reducible refine Below.drew ?_) | (with_reducible refine below_drewN ?_ _) | (with_reducible refine below_step (by assumption) ?_) | (with_reducible refine below_later ?_ _) | (with_reducible refine Below.setCell ?_ ?_ _) | go_size))⟩

set_option maxRecDepth 100000 in
set_option maxHeartbeats 2000000 in
theorem sat_any (rX rY rZ : Option Addr) (cX cY cZ : Nat) (X Y : List Int) (Z : List (List Int)) (x y : Int) (w : World) (hX : IsInts w rX cX .i64 X) (hY : IsInts w rY cY .i64 Y) (hZ : IsRows w rZ cZ Z) (hok : MapOk X Y Z) :
    Calls Try.prog 113 #[.agg #[.slice rX X.length cX, .slice rY Y.length cY, .slice rZ Z.length cZ], .int .i64 x, .int .i64 y] w fun e w' => e = .returned (.int .i64 (mval X Y Z x y)) ∧ Below w.heap.size w w' := by
  have HX : Hid (∀ w', Below w.heap.size w w' → IsInts w' rX cX .i64 X) := Lib.hid (fun _ h => hX.later h)
  have HY : Hid (∀ w', Below w.heap.size w w' → IsInts w' rY cY .i64 Y) := Lib.hid (fun _ h => hY.later h)
  have HZ : Hid (∀ w', Below w.heap.size w w' → IsRows w' rZ cZ Z) := Lib.hid (fun _ h => hZ.later h)
  have hay := hok.2.1
  have h2 := hay.1
  have h32 := hay.2.1
  have hl := hok.2.2.1
  obtain ⟨x', hx'⟩ : ∃ x', x' = clampI (X.getD 0 0) (X.getD (X.length - 1) 0) x := ⟨_, rfl⟩
  obtain ⟨y', hy'⟩ : ∃ y', y' = clampI (Y.getD 0 0) (Y.getD (Y.length - 1) 0) y := ⟨_, rfl⟩
  have hcv := colV_ok hok x
  have ⟨q1, q2⟩ := clamp_bd hay y
  rw [← hy'] at q1 q2
  have H : Hid (mval X Y Z x y = _) := Lib.hid ((by unfold mval; rfl : mval X Y Z x y = cval Y (colV X Z x Y.length) y).trans (cval_sg hay (colV X Z x Y.length) y hy'))
  have ⟨s1, s2, s3⟩ := sg_spec hay q1 q2
  obtain ⟨bY, oY, rfl, hbY, hcY⟩ := hY.cells (fun e => by rw [e] at h2; simp at h2)
  have k1 := hcY (sgI Y y') (by omega)
  have k2 := hcY (sgI Y y' + 1) (by omega)
  have f1 := far_bd hay.2.2.1 (show sgI Y y' < Y.length by omega)
  have f2 := far_bd hay.2.2.1 (show sgI Y y' + 1 < Y.length by omega)
  have f3 := far_bd hcv.2.2 (show sgI Y y' < (colV X Z x Y.length).length by rw [colV_len]; omega)
  have f4 := far_bd hcv.2.2 (show sgI Y y' + 1 < (colV X Z x Y.length).length by rw [colV_len]; omega)
  have f5 := axis_mono hay (show sgI Y y' < sgI Y y' + 1 by omega) s1
  have HB := Lib.hid (fun w => sbetween_any f1.1 f2.2 f5 s2 s3 f3.1 f3.2 f4.1 f4.2 w)
  have v1 := colV_get (X := X) (Z := Z) (x := x) (n := Y.length) (j := sgI Y y') (by omega)
  have v2 := colV_get (X := X) (Z := Z) (x := x) (n := Y.length) (j := sgI Y y' + 1) (by omega)
  have HC1 := Lib.hid (fun bM bI bS w hX hZ => atCl_any bM bI bS rX rZ cX cZ X Y Z x (sgI Y y') w hX hZ hok (by omega) hx')
  have HC2 := Lib.hid (fun bM bI bS w hX hZ => atCl_any bM bI bS rX rZ cX cZ X Y Z x (sgI Y y' + 1) w hX hZ hok (by omega) hx')
  rw [← v1] at HC1
  rw [← v2] at HC2
  have HSX := Lib.hid (fun w hX => ssegment_any rX cX X x w hX hok.1 hx')
  have HSY := Lib.hid (fun w hY => ssegment_any (some ⟨bY, oY, none⟩) cY Y y w hY hay hy')
  clear hX hY hZ hok hcY hcv hay q1 q2 hx' hy' f1 f2 f3 f4 f5 s2 s3 v1 v2
  generalize sgI X x' = sx at *
  generalize sgI Y y' = s at *
  generalize (colV X Z x Y.length).getD s 0 = c at *
  generalize (colV X Z x Y.length).getD (s + 1) 0 = d at *
  generalize Y.getD s 0 = a at *
  generalize Y.getD (s + 1) 0 = b at *
  generalize mval X Y Z x y = v at *
  generalize hn : Y.length = n at *
  have i1 : (s : Int) < n := by omega
  have i2 : (s : Int) + 1 < n := by omega
  have i3 : (0 : Int) ≤ s := by omega
  have i4 : (0 : Int) ≤ (s : Int) + 1 := by omega
  have i5 : ((s : Int) + 1).toNat = s + 1 := by omega
  have i6 : ((s + 1 : Nat) : Int) = (s : Int) + 1 := rfl
  rw [i6] at HC2
  have w1 : IntKind.i64.wrap ((s : Int) + 1) = (s : Int) + 1 := IntWalk.i64_in _ (by omega)
  have s0 : s < n := by omega
  clear i6 hn
  go_enter Try.func113, Try.ntmps113
  go_wp2_with (first | (have hq := hb1; clear hq; (go_at_call 129; refine (HSY.out _ (HY.out _ (by (repeat' (first | (with_reducible exact Below.refl _ _) | (with_reducible assumption) | (with_reducible refine below_alloc ?_ _) | (with_reducible refine Below.drew ?_) | (with_reducible refine below_drewN ?_ _) | (with_reducible refine below_step (by assumption) ?_) | (with_reducible refine below_later ?_ _) | (with_reducible refine Below.setCell ?_ ?_ _) | go_size))))).mono ?_; rintro e hb2w ⟨rfl, hb2⟩; obtain ⟨hb2c, hb2f⟩ := bcell hb2; have hb2s := hb2.size; (try simp only [World.size_alloc] at hb2s); (try (have : w.heap.size < hb2w.heap.size := by omega)); (try (have : w.heap.size + 1 < hb2w.heap.size := by omega)); (try (have : w.heap.size + 1 + 1 < hb2w.heap.size := by omega)); (try (have : w.heap.size + 1 + 1 + 1 < hb2w.heap.size := by omega)); (try (have : bX < hb2w.heap.size := by omega)); (try (have : bY < hb2w.heap.size := by omega)); (try (have : bZ < hb2w.heap.size := by omega)))) | (go_at_call 129; refine (HSX.out _ (HX.out _ (by (repeat' (first | (with_reducible exact Below.refl _ _) | (with_reducible assumption) | (with_reducible refine below_alloc ?_ _) | (with_reducible refine Below.drew ?_) | (with_reducible refine below_drewN ?_ _) | (with_reducible refine below_step (by assumption) ?_) | (with_reducible refine below_later ?_ _) | (with_reducible refine Below.setCell ?_ ?_ _) | go_size))))).mono ?_; rintro e hb1w ⟨rfl, hb1⟩; obtain ⟨hb1c, hb1f⟩ := bcell hb1; have hb1s := hb1.size; (try simp only [World.size_alloc] at hb1s); (try (have : w.heap.size < hb1w.heap.size := by omega)); (try (have : w.heap.size + 1 < hb1w.heap.size := by omega)); (try (have : w.heap.size + 1 + 1 < hb1w.heap.size := by omega)); (try (have : w.heap.size + 1 + 1 + 1 < hb1w.heap.size := by omega)); (try (have : bX < hb1w.heap.size := by omega)); (try (have : bY < hb1w.heap.size := by omega)); (try (have : bZ < hb1w.heap.size := by omega))))
  simp only [World.size_alloc, size_setCell] at hb2c hb2f hb2s
  have t1 : hb1w.heap.size < hb2w.heap.size := by omega
  have t2 : w.heap.size < hb2w.heap.size := by omega
  have t3 : w.heap.size + 1 < hb2w.heap.size := by omega
  have t4 : bY < hb2w.heap.size := by omega
  have t5 : w.heap.size < hb1w.heap.size + 1 := by omega
  have t6 : w.heap.size + 1 < hb1w.heap.size + 1 := by omega
  have t7 : bY < hb1w.heap.size + 1 := by omega
  have t8 : bY < w.heap.size + 1 + 1 := by omega
  have t9 : bY < w.heap.size + 1 := by omega
  have t10 : ¬ bY = w.heap.size + 1 := by omega
  have t11 : ¬ w.heap.size + 1 = bY := by omega
  (refine wp_region_later (by kernel_rfl) (by kernel_rfl) ?_; (repeat (go_big_quiet_step ((first | (go_at_call 130; (first | (with_reducible refine later_call (HC1.out w.heap.size hb1w.heap.size (w.heap.size + 1) _ ?_ ?_ ?_ ?_ ?_ ?_ ?_ ?_ ?_)) | (with_reducible refine later_call (HC2.out w.heap.size hb1w.heap.size (w.heap.size + 1) _ ?_ ?_ ?_ ?_ ?_ ?_ ?_ ?_ ?_))) <;> (first | exact Nat.lt_of_lt_of_le (by assumption) (Later.h _).size | exact HX.out _ (by (repeat' (first | (with_reducible exact Below.refl _ _) | (with_reducible assumption) | (with_reducible refine below_alloc ?_ _) | (with_reducible refine Below.drew ?_) | (with_reducible refine below_drewN ?_ _) | (with_reducible refine below_step (by assumption) ?_) | (with_reducible refine below_later ?_ _) | (with_reducible refine Below.setCell ?_ ?_ _) | go_size))) | exact HZ.out _ (by (repeat' (first | (with_reducible exact Below.refl _ _) | (with_reducible assumption) | (with_reducible refine below_alloc ?_ _) | (with_reducible refine Below.drew ?_) | (with_reducible refine below_drewN ?_ _) | (with_reducible refine below_step (by assumption) ?_) | (with_reducible refine below_later ?_ _) | (with_reducible refine Below.setCell ?_ ?_ _) | go_size))) | (simp [go_sem, *]; done))) | (go_at_call 131; exact later_call (HB.out _)))))); refine wpQuiet_nil ?_; rintro _ ⟨e1, rfl⟩; have e1s := e1.h.size; (try simp only [World.size_alloc, World.size_drewN, World.drewN_heap] at e1s); (try (have : w.heap.size < e1.w.heap.size := by omega)); (try (have : w.heap.size + 1 < e1.w.heap.size := by omega)); (try (have : w.heap.size + 1 + 1 < e1.w.heap.size := by omega)); (try (have : w.heap.size + 1 + 1 + 1 < e1.w.heap.size := by omega)); (try (have : bX < e1.w.heap.size := by omega)); (try (have : bY < e1.w.heap.size := by omega)); (try (have : bZ < e1.w.heap.size := by omega)))
  go_wp2
  go_ret
  exact ⟨by rw [H.out]; first | done | rfl, by (repeat' (first | (with_reducible exact Below.refl _ _) | (with_reducible assumption) | (with_reducible refine below_alloc ?_ _) | (with_reducible refine Below.drew ?_) | (with_reducible refine below_drewN ?_ _) | (with_reducible refine below_step (by assumption) ?_) | (with_reducible refine below_later ?_ _) | (with_reducible refine Below.setCell ?_ ?_ _) | go_size))⟩

set_option maxRecDepth 100000 in
theorem sAt_any (rX rY rZ : Option Addr) (cX cY cZ : Nat) (X Y : List Int) (Z : List (List Int)) (x y : Int) (w : World) (hX : IsInts w rX cX .i64 X) (hY : IsInts w rY cY .i64 Y) (hZ : IsRows w rZ cZ Z) (hok : MapOk X Y Z) :
    Calls Try.prog 80 #[.agg #[.slice rX X.length cX, .slice rY Y.length cY, .slice rZ Z.length cZ], .int .i64 x, .int .i64 y] w fun e w' => e = .returned (.int .i64 (mval X Y Z x y)) ∧ Below w.heap.size w w' := by
  have HX : Hid (∀ w', Below w.heap.size w w' → IsInts w' rX cX .i64 X) := Lib.hid (fun _ h => hX.later h)
  have HY : Hid (∀ w', Below w.heap.size w w' → IsInts w' rY cY .i64 Y) := Lib.hid (fun _ h => hY.later h)
  have HZ : Hid (∀ w', Below w.heap.size w w' → IsRows w' rZ cZ Z) := Lib.hid (fun _ h => hZ.later h)
  have hb := mapB_true.2 hok
  have HOK := Lib.hid hok
  clear hX hY hZ hok
  go_enter Try.func80, Try.ntmps80
  go_wp2_with (first | (go_at_call 63; refine (svalid_any _ _ _ _ _ _ _ _ _ _ (HX.out _ (by (repeat' (first | (with_reducible exact Below.refl _ _) | (with_reducible assumption) | (with_reducible refine below_alloc ?_ _) | (with_reducible refine Below.drew ?_) | (with_reducible refine below_drewN ?_ _) | (with_reducible refine below_step (by assumption) ?_) | (with_reducible refine below_later ?_ _) | (with_reducible refine Below.setCell ?_ ?_ _) | go_size)))) (HY.out _ (by (repeat' (first | (with_reducible exact Below.refl _ _) | (with_reducible assumption) | (with_reducible refine below_alloc ?_ _) | (with_reducible refine Below.drew ?_) | (with_reducible refine below_drewN ?_ _) | (with_reducible refine below_step (by assumption) ?_) | (with_reducible refine below_later ?_ _) | (with_reducible refine Below.setCell ?_ ?_ _) | go_size)))) (HZ.out _ (by (repeat' (first | (with_reducible exact Below.refl _ _) | (with_reducible assumption) | (with_reducible refine below_alloc ?_ _) | (with_reducible refine Below.drew ?_) | (with_reducible refine below_drewN ?_ _) | (with_reducible refine below_step (by assumption) ?_) | (with_reducible refine below_later ?_ _) | (with_reducible refine Below.setCell ?_ ?_ _) | go_size))))).mono ?_; rintro e hb1w ⟨rfl, hb1⟩; obtain ⟨hb1c, hb1f⟩ := bcell hb1; have hb1s := hb1.size; (try simp only [World.size_alloc] at hb1s); (try (have : w.heap.size < hb1w.heap.size := by omega)); (try (have : w.heap.size + 1 < hb1w.heap.size := by omega)); (try (have : w.heap.size + 1 + 1 < hb1w.heap.size := by omega)); (try (have : w.heap.size + 1 + 1 + 1 < hb1w.heap.size := by omega)); (try (have : bX < hb1w.heap.size := by omega)); (try (have : bY < hb1w.heap.size := by omega)); (try (have : bZ < hb1w.heap.size := by omega))) | (go_at_call 113; refine (sat_any _ _ _ _ _ _ _ _ _ _ _ _ (HX.out _ (by (repeat' (first | (with_reducible exact Below.refl _ _) | (with_reducible assumption) | (with_reducible refine below_alloc ?_ _) | (with_reducible refine Below.drew ?_) | (with_reducible refine below_drewN ?_ _) | (with_reducible refine below_step (by assumption) ?_) | (with_reducible refine below_later ?_ _) | (with_reducible refine Below.setCell ?_ ?_ _) | go_size)))) (HY.out _ (by (repeat' (first | (with_reducible exact Below.refl _ _) | (with_reducible assumption) | (with_reducible refine below_alloc ?_ _) | (with_reducible refine Below.drew ?_) | (with_reducible refine below_drewN ?_ _) | (with_reducible refine below_step (by assumption) ?_) | (with_reducible refine below_later ?_ _) | (with_reducible refine Below.setCell ?_ ?_ _) | go_size)))) (HZ.out _ (by (repeat' (first | (with_reducible exact Below.refl _ _) | (with_reducible assumption) | (with_reducible refine below_alloc ?_ _) | (with_reducible refine Below.drew ?_) | (with_reducible refine below_drewN ?_ _) | (with_reducible refine below_step (by assumption) ?_) | (with_reducible refine below_later ?_ _) | (with_reducible refine Below.setCell ?_ ?_ _) | go_size)))) HOK.out).mono ?_; rintro e hb2w ⟨rfl, hb2⟩; obtain ⟨hb2c, hb2f⟩ := bcell hb2; have hb2s := hb2.size; (try simp only [World.size_alloc] at hb2s); (try (have : w.heap.size < hb2w.heap.size := by omega)); (try (have : w.heap.size + 1 < hb2w.heap.size := by omega)); (try (have : w.heap.size + 1 + 1 < hb2w.heap.size := by omega)); (try (have : w.heap.size + 1 + 1 + 1 < hb2w.heap.size := by omega)); (try (have : bX < hb2w.heap.size := by omega)); (try (have : bY < hb2w.heap.size := by omega)); (try (have : bZ < hb2w.heap.size := by omega))))
  go_ret
  exact ⟨rfl, by (repeat' (first | (with_reducible exact Below.refl _ _) | (with_reducible assumption) | (with_reducible refine below_alloc ?_ _) | (with_reducible refine Below.drew ?_) | (with_reducible refine below_drewN ?_ _) | (with_reducible refine below_step (by assumption) ?_) | (with_reducible refine below_later ?_ _) | (with_reducible refine Below.setCell ?_ ?_ _) | go_size))⟩
end Go.Proofs.Ytohdbneaganfbaa
