/- Contracts of torque's Charge, of the reference's Least and Late. Printed by a program. -/
import Derived.Test.YtpmjnpbigppllaaTorqC
namespace Go.Proofs.Ytpmjnpbigppllaa
set_option linter.unusedVariables false
set_option linter.unusedSimpArgs false
open Go.RowKit Go.ChangeShapes Go.WideShapes Go.ChangeAt

def chS (Y : List Int) : Nat := (Y.getD (Y.length - 1) 0 - Y.getD 0 0 + 1).toNat
/-- The least charge with a torque, from the first of the axis on. -/
@[irreducible] noncomputable def chN (X Y : List Int) (Z : List (List Int)) (s want : Int) : Nat := least (fun i => decide (want ≤ mval X Y Z s (Y.getD 0 0 + (i : Int)))) (chS Y)
theorem chS_bd {Y : List Int} (h : AxisOk Y) : Y.getD 0 0 < Y.getD (Y.length - 1) 0 ∧ -1073741824 ≤ Y.getD 0 0 ∧ Y.getD (Y.length - 1) 0 ≤ 1073741824 ∧ (chS Y : Int) = Y.getD (Y.length - 1) 0 - Y.getD 0 0 + 1 := by
  have h2 := h.1
  have h1 := axis_mono h (show 0 < Y.length - 1 by omega) (by omega)
  have f1 := far_bd h.2.2.1 (show 0 < Y.length by omega)
  have f2 := far_bd h.2.2.1 (show Y.length - 1 < Y.length by omega)
  unfold chS
  omega
theorem chN_spec {X Y : List Int} {Z : List (List Int)} {xs ys : List Int} (h : TqOk X Y Z xs ys) (s want : Int) : chN X Y Z s want ≤ chS Y ∧ (∀ t : Nat, t < chN X Y Z s want → decide (want ≤ mval X Y Z s (Y.getD 0 0 + (t : Int))) = false) ∧ (∀ t : Nat, chN X Y Z s want ≤ t → t < chS Y → decide (want ≤ mval X Y Z s (Y.getD 0 0 + (t : Int))) = true) := by
  unfold chN
  refine least_split (fun a b hab ha => ?_) (chS Y)
  simp only [decide_eq_true_eq] at ha ⊢
  exact Int.le_trans ha (tq_up h (by omega))

set_option maxRecDepth 100000 in
theorem chargeCl_any (tab : Array Value) (X Y : List Int) (Z : List (List Int)) (bT bS bF bW : Nat) (s f want i : Int) (w : World) (hM : MapAt w tab 6 7 8 X Y Z) (hok : MapOk X Y Z) (i0 : 0 ≤ i) (i1 : i ≤ 4294967296) (f0 : -1073741824 ≤ f) (f1 : f ≤ 1073741824)
    (hrow : w.heap[bT]? = some (.cells tab 31)) (sT : bT < w.heap.size) (sS : bS < w.heap.size) (sF : bF < w.heap.size) (sW : bW < w.heap.size) (c0 : w.cell? ⟨bS, 0, none⟩ = some (.int .i64 s)) (c1 : w.cell? ⟨bF, 0, none⟩ = some (.int .i64 f)) (c2 : w.cell? ⟨bW, 0, none⟩ = some (.int .i64 want)) :
    Calls Try.prog 53 #[.int .i64 i, .pointer (some ⟨bT, 0, none⟩), .pointer (some ⟨bS, 0, none⟩), .pointer (some ⟨bF, 0, none⟩), .pointer (some ⟨bW, 0, none⟩)] w fun e w' => e = .returned (.bool (decide (want ≤ mval X Y Z s (f + i)))) ∧ Below w.heap.size w w' := by
  obtain ⟨rX, cX, rY, cY, rZ, cZ, h6, h7, h8, hX, hY, hZ⟩ := hM.ex
  have HX : Hid (∀ w', Below w.heap.size w w' → IsInts w' rX cX .i64 X) := Lib.hid (fun _ h => hX.later h)
  have HY : Hid (∀ w', Below w.heap.size w w' → IsInts w' rY cY .i64 Y) := Lib.hid (fun _ h => hY.later h)
  have HZ : Hid (∀ w', Below w.heap.size w w' → IsRows w' rZ cZ Z) := Lib.hid (fun _ h => hZ.later h)
  have k6 : w.cell? ⟨bT, 6, none⟩ = some (.slice rX X.length cX) := by rw [cell_of_row w bT 6 tab _ _ hrow]; exact h6
  have k7 : w.cell? ⟨bT, 7, none⟩ = some (.slice rY Y.length cY) := by rw [cell_of_row w bT 7 tab _ _ hrow]; exact h7
  have k8 : w.cell? ⟨bT, 8, none⟩ = some (.slice rZ Z.length cZ) := by rw [cell_of_row w bT 8 tab _ _ hrow]; exact h8
  have HAT := Lib.hid (fun w hX hY hZ => sAt_any rX rY rZ cX cY cZ X Y Z s (f + i) w hX hY hZ hok)
  have hw : IntKind.i64.wrap (f + i) = f + i := IntWalk.i64_in _ (by omega)
  clear hM hX hY hZ hok hrow h6 h7 h8 f0 f1 i0 i1
  generalize mval X Y Z s (f + i) = v at *
  go_enter Try.func53, Try.ntmps53
  go_wp2
  (refine wp_region_later (by kernel_rfl) (by kernel_rfl) ?_; (repeat (go_big_quiet_step ((go_at_call 36; exact later_call (HAT.out _ (HX.out _ (by (repeat' (first | (with_reducible exact Below.refl _ _) | (with_reducible assumption) | (with_reducible refine below_alloc ?_ _) | (with_reducible refine Below.drew ?_) | (with_reducible refine below_drewN ?_ _) | (with_reducible refine below_step (by assumption) ?_) | (with_reducible refine below_later ?_ _) | (with_reducible refine Below.setCell ?_ ?_ _) | go_size)))) (HY.out _ (by (repeat' (first | (with_reducible exact Below.refl _ _) | (with_reducible assumption) | (with_reducible refine below_alloc ?_ _) | (with_reducible refine Below.drew ?_) | (with_reducible refine below_drewN ?_ _) | (with_reducible refine below_step (by assumption) ?_) | (with_reducible refine below_later ?_ _) | (with_reducible refine Below.setCell ?_ ?_ _) | go_size)))) (HZ.out _ (by (repeat' (first | (with_reducible exact Below.refl _ _) | (with_reducible assumption) | (with_reducible refine below_alloc ?_ _) | (with_reducible refine Below.drew ?_) | (with_reducible refine below_drewN ?_ _) | (with_reducible refine below_step (by assumption) ?_) | (with_reducible refine below_later ?_ _) | (with_reducible refine Below.setCell ?_ ?_ _) | go_size))))))))); refine wpQuiet_nil ?_; rintro _ ⟨e1, rfl⟩; have e1s := e1.h.size; (try simp only [World.size_alloc, World.size_drewN, World.drewN_heap] at e1s); (try (have : w.heap.size < e1.w.heap.size := by omega)); (try (have : w.heap.size + 1 < e1.w.heap.size := by omega)); (try (have : w.heap.size + 1 + 1 < e1.w.heap.size := by omega)); (try (have : w.heap.size + 1 + 1 + 1 < e1.w.heap.size := by omega)); (try (have : bX < e1.w.heap.size := by omega)); (try (have : bY < e1.w.heap.size := by omega)); (try (have : bZ < e1.w.heap.size := by omega)))
  go_wp2
  go_ret
  exact ⟨rfl, by (repeat' (first | (with_reducible exact Below.refl _ _) | (with_reducible assumption) | (with_reducible refine below_alloc ?_ _) | (with_reducible refine Below.drew ?_) | (with_reducible refine below_drewN ?_ _) | (with_reducible refine below_step (by assumption) ?_) | (with_reducible refine below_later ?_ _) | (with_reducible refine Below.setCell ?_ ?_ _) | go_size))⟩

noncomputable def charge2 (X Y : List Int) (Z : List (List Int)) (xs ys : List Int) (s want : Int) : Int × Int :=
  if tqB X Y Z xs ys = true then (if inB s 0 12000 = true then (if chN X Y Z s want = chS Y then (0, 7) else (Y.getD 0 0 + (chN X Y Z s want : Int), 0)) else (0, 2)) else (0, 1)
set_option maxRecDepth 100000 in
set_option maxHeartbeats 1000000 in
theorem tcharge_any (tab : Array Value) (X Y : List Int) (Z : List (List Int)) (xs ys : List Int) (w : World) (hsz : tab.size = 24) (hM : MapAt w tab 6 7 8 X Y Z) (hE : CurAt w tab 18 19 xs ys) (s want : Int) :
    Calls Try.prog 25 #[.agg tab, .int .i64 s, .int .i64 want] w fun e w' => e = .returned (tup2 (charge2 X Y Z xs ys s want)) ∧ Below w.heap.size w w' := by
  have HM : Hid (∀ w', Below w.heap.size w w' → MapAt w' tab 6 7 8 X Y Z) := Lib.hid (fun _ h => hM.later h)
  have HE : Hid (∀ w', Below w.heap.size w w' → CurAt w' tab 18 19 xs ys) := Lib.hid (fun _ h => hE.later h)
  have HI : Hid ((Try.prog.info? 31).map (·.size) = some tab.size) := Lib.hid (by rw [hsz]; kernel_rfl)
  have HSZ := Lib.hid hsz
  clear hsz
  obtain ⟨rX, cX, rY, cY, rZ, cZ, h6, h7, h8, hX, hY, hZ⟩ := hM.ex
  cases hb : tqB X Y Z xs ys with
  | false =>
    have H := Lib.hid (show charge2 X Y Z xs ys s want = (0, 1) by simp [charge2, hb])
    clear hM hE hX hY hZ
    go_enter Try.func25, Try.ntmps25
    go_wp2_with (first | (refine wpList_load_row rfl 31 (.tmp 3) rfl w.heap.size rfl 31 tab (0, 0) _ ((Below.block (show Below (w.alloc (.cells tab 31)).heap.size (w.alloc (.cells tab 31)) _ by (repeat' (first | (with_reducible exact Below.refl _ _) | (with_reducible assumption) | (with_reducible refine below_alloc ?_ _) | (with_reducible refine Below.drew ?_) | (with_reducible refine below_drewN ?_ _) | (with_reducible refine below_step (by assumption) ?_) | (with_reducible refine below_later ?_ _) | (with_reducible refine Below.setCell ?_ ?_ _) | go_size))) _ (by simp)).trans (heap_alloc_new _ _)) Try.underlying31 rfl HI.out ?_) | (go_at_call 16; refine (tvalid_any _ _ _ _ _ _ _ HSZ.out (HM.out _ (by (repeat' (first | (with_reducible exact Below.refl _ _) | (with_reducible assumption) | (with_reducible refine below_alloc ?_ _) | (with_reducible refine Below.drew ?_) | (with_reducible refine below_drewN ?_ _) | (with_reducible refine below_step (by assumption) ?_) | (with_reducible refine below_later ?_ _) | (with_reducible refine Below.setCell ?_ ?_ _) | go_size)))) (HE.out _ (by (repeat' (first | (with_reducible exact Below.refl _ _) | (with_reducible assumption) | (with_reducible refine below_alloc ?_ _) | (with_reducible refine Below.drew ?_) | (with_reducible refine below_drewN ?_ _) | (with_reducible refine below_step (by assumption) ?_) | (with_reducible refine below_later ?_ _) | (with_reducible refine Below.setCell ?_ ?_ _) | go_size))))).mono ?_; rintro e hb1w ⟨rfl, hb1⟩; obtain ⟨hb1c, hb1f⟩ := bcell hb1; have hb1s := hb1.size; (try simp only [World.size_alloc] at hb1s); (try (have : w.heap.size < hb1w.heap.size := by omega)); (try (have : w.heap.size + 1 < hb1w.heap.size := by omega)); (try (have : w.heap.size + 1 + 1 < hb1w.heap.size := by omega)); (try (have : w.heap.size + 1 + 1 + 1 < hb1w.heap.size := by omega)); (try (have : bX < hb1w.heap.size := by omega)); (try (have : bY < hb1w.heap.size := by omega)); (try (have : bZ < hb1w.heap.size := by omega))))
    go_ret2
    exact ⟨by rw [H.out]; rfl, by (repeat' (first | (with_reducible exact Below.refl _ _) | (with_reducible assumption) | (with_reducible refine below_alloc ?_ _) | (with_reducible refine Below.drew ?_) | (with_reducible refine below_drewN ?_ _) | (with_reducible refine below_step (by assumption) ?_) | (with_reducible refine below_later ?_ _) | (with_reducible refine Below.setCell ?_ ?_ _) | go_size))⟩
  | true =>
    have hT := tqB_true.1 hb
    cases i1 : inB s 0 12000 with
    | false =>
      have H := Lib.hid (show charge2 X Y Z xs ys s want = (0, 2) by simp [charge2, hb, i1])
      clear hM hE hX hY hZ hT
      go_enter Try.func25, Try.ntmps25
      go_wp2_with (first | (refine wpList_load_row rfl 31 (.tmp 3) rfl w.heap.size rfl 31 tab (0, 0) _ ((Below.block (show Below (w.alloc (.cells tab 31)).heap.size (w.alloc (.cells tab 31)) _ by (repeat' (first | (with_reducible exact Below.refl _ _) | (with_reducible assumption) | (with_reducible refine below_alloc ?_ _) | (with_reducible refine Below.drew ?_) | (with_reducible refine below_drewN ?_ _) | (with_reducible refine below_step (by assumption) ?_) | (with_reducible refine below_later ?_ _) | (with_reducible refine Below.setCell ?_ ?_ _) | go_size))) _ (by simp)).trans (heap_alloc_new _ _)) Try.underlying31 rfl HI.out ?_) | (go_at_call 16; refine (tvalid_any _ _ _ _ _ _ _ HSZ.out (HM.out _ (by (repeat' (first | (with_reducible exact Below.refl _ _) | (with_reducible assumption) | (with_reducible refine below_alloc ?_ _) | (with_reducible refine Below.drew ?_) | (with_reducible refine below_drewN ?_ _) | (with_reducible refine below_step (by assumption) ?_) | (with_reducible refine below_later ?_ _) | (with_reducible refine Below.setCell ?_ ?_ _) | go_size)))) (HE.out _ (by (repeat' (first | (with_reducible exact Below.refl _ _) | (with_reducible assumption) | (with_reducible refine below_alloc ?_ _) | (with_reducible refine Below.drew ?_) | (with_reducible refine below_drewN ?_ _) | (with_reducible refine below_step (by assumption) ?_) | (with_reducible refine below_later ?_ _) | (with_reducible refine Below.setCell ?_ ?_ _) | go_size))))).mono ?_; rintro e hb1w ⟨rfl, hb1⟩; obtain ⟨hb1c, hb1f⟩ := bcell hb1; have hb1s := hb1.size; (try simp only [World.size_alloc] at hb1s); (try (have : w.heap.size < hb1w.heap.size := by omega)); (try (have : w.heap.size + 1 < hb1w.heap.size := by omega)); (try (have : w.heap.size + 1 + 1 < hb1w.heap.size := by omega)); (try (have : w.heap.size + 1 + 1 + 1 < hb1w.heap.size := by omega)); (try (have : bX < hb1w.heap.size := by omega)); (try (have : bY < hb1w.heap.size := by omega)); (try (have : bZ < hb1w.heap.size := by omega))) | (go_at_call 35; refine (twithin_any _ _ _ _).mono ?_; rintro e w' ⟨rfl, rfl⟩))
      go_ret2
      exact ⟨by rw [H.out]; rfl, by (repeat' (first | (with_reducible exact Below.refl _ _) | (with_reducible assumption) | (with_reducible refine below_alloc ?_ _) | (with_reducible refine Below.drew ?_) | (with_reducible refine below_drewN ?_ _) | (with_reducible refine below_step (by assumption) ?_) | (with_reducible refine below_later ?_ _) | (with_reducible refine Below.setCell ?_ ?_ _) | go_size))⟩
    | true =>
      have HV : Hid (charge2 X Y Z xs ys s want = if chN X Y Z s want = chS Y then (0, 7) else (Y.getD 0 0 + (chN X Y Z s want : Int), 0)) := Lib.hid (by simp [charge2, hb, i1])
      have h2 := hT.map.2.1.1
      have h32 := hT.map.2.1.2.1
      obtain ⟨y1, y2, y3, y4⟩ := chS_bd hT.map.2.1
      obtain ⟨r1, r2, r3⟩ := chN_spec hT s want
      have HR2 := Lib.hid r2
      have HR3 := Lib.hid r3
      have HCL := Lib.hid (fun bT bS bF bW i w hM a b hrow => chargeCl_any tab X Y Z bT bS bF bW s (Y.getD 0 0) want i w hM hT.map a b y2 (by omega) hrow)
      obtain ⟨bY, oY, rfl, hbY, hcY⟩ := hY.cells (fun e => by rw [e] at h2; simp at h2)
      have k1 := hcY 0 (by omega)
      have k2 := hcY (Y.length - 1) (by omega)
      rw [Nat.add_zero] at k1
      clear hM hE hX hY hZ hT hcY r2 r3
      generalize chN X Y Z s want = r at *
      generalize chS Y = n at *
      generalize Y.getD 0 0 = f at *
      generalize Y.getD (Y.length - 1) 0 = l at *
      have j1 : (0 : Int) < (Y.length : Int) := by omega
      have j2 : (1 : Int) ≤ (Y.length : Int) := by omega
      have j3 : 0 < Y.length := by omega
      have j4 : IntKind.i64.wrap ((Y.length : Int) - 1) = (Y.length : Int) - 1 := IntWalk.i64_in _ (by omega)
      have j5 : ((Y.length : Int) - 1).toNat = Y.length - 1 := by omega
      have j6 : (0 : Int) ≤ (Y.length : Int) - 1 := by omega
      have j7 : IntKind.i64.wrap (l - f) = l - f := IntWalk.i64_in _ (by omega)
      have j8 : IntKind.i64.wrap (l - f + 1) = l - f + 1 := IntWalk.i64_in _ (by omega)
      have q1 : bY < w.heap.size + 1 := by omega
      have q2 : bY < w.heap.size + 1 + 1 := by omega
      have q3 : bY < w.heap.size + 1 + 1 + 1 := by omega
      go_enter Try.func25, Try.ntmps25
      go_wp2_with (first | (refine wpList_load_row rfl 31 (.tmp 3) rfl w.heap.size rfl 31 tab (0, 0) _ ((Below.block (show Below (w.alloc (.cells tab 31)).heap.size (w.alloc (.cells tab 31)) _ by (repeat' (first | (with_reducible exact Below.refl _ _) | (with_reducible assumption) | (with_reducible refine below_alloc ?_ _) | (with_reducible refine Below.drew ?_) | (with_reducible refine below_drewN ?_ _) | (with_reducible refine below_step (by assumption) ?_) | (with_reducible refine below_later ?_ _) | (with_reducible refine Below.setCell ?_ ?_ _) | go_size))) _ (by simp)).trans (heap_alloc_new _ _)) Try.underlying31 rfl HI.out ?_) | (go_at_call 16; refine (tvalid_any _ _ _ _ _ _ _ HSZ.out (HM.out _ (by (repeat' (first | (with_reducible exact Below.refl _ _) | (with_reducible assumption) | (with_reducible refine below_alloc ?_ _) | (with_reducible refine Below.drew ?_) | (with_reducible refine below_drewN ?_ _) | (with_reducible refine below_step (by assumption) ?_) | (with_reducible refine below_later ?_ _) | (with_reducible refine Below.setCell ?_ ?_ _) | go_size)))) (HE.out _ (by (repeat' (first | (with_reducible exact Below.refl _ _) | (with_reducible assumption) | (with_reducible refine below_alloc ?_ _) | (with_reducible refine Below.drew ?_) | (with_reducible refine below_drewN ?_ _) | (with_reducible refine below_step (by assumption) ?_) | (with_reducible refine below_later ?_ _) | (with_reducible refine Below.setCell ?_ ?_ _) | go_size))))).mono ?_; rintro e hb1w ⟨rfl, hb1⟩; obtain ⟨hb1c, hb1f⟩ := bcell hb1; have hb1s := hb1.size; (try simp only [World.size_alloc] at hb1s); (try (have : w.heap.size < hb1w.heap.size := by omega)); (try (have : w.heap.size + 1 < hb1w.heap.size := by omega)); (try (have : w.heap.size + 1 + 1 < hb1w.heap.size := by omega)); (try (have : w.heap.size + 1 + 1 + 1 < hb1w.heap.size := by omega)); (try (have : bX < hb1w.heap.size := by omega)); (try (have : bY < hb1w.heap.size := by omega)); (try (have : bZ < hb1w.heap.size := by omega))) | (go_at_call 35; refine (twithin_any _ _ _ _).mono ?_; rintro e w' ⟨rfl, rfl⟩))
      have t1 : bY < hb1w.heap.size + 1 := by omega
      have t2 : w.heap.size < hb1w.heap.size + 1 := by omega
      go_quiet (fail)
      go_wp2_with (go_at_call 51; refine (search_any 53 #[.pointer (some ⟨w.heap.size, 0, none⟩), .pointer (some ⟨w.heap.size + 1, 0, none⟩), .pointer (some ⟨hb1w.heap.size, 0, none⟩), .pointer (some ⟨w.heap.size + 1 + 1, 0, none⟩)] n r (fun i => decide (want ≤ mval X Y Z s (f + (i : Int)))) _ (by omega) (enters_of Try.func53 (by kernel_rfl) rfl) (by omega) r1 ?hf HR2.out HR3.out).mono ?_)
      case hf =>
        intro e i hi
        have hs : (hb1w.alloc (.cells #[.int .i64 f] 3)).heap.size ≤ e.w.heap.size := e.h.size
        simp only [World.size_alloc] at hs
        exact HCL.out w.heap.size (w.heap.size + 1) hb1w.heap.size (w.heap.size + 1 + 1) i e.w (HM.out _ (by (repeat' (first | (with_reducible exact Below.refl _ _) | (with_reducible assumption) | (with_reducible refine below_alloc ?_ _) | (with_reducible refine Below.drew ?_) | (with_reducible refine below_drewN ?_ _) | (with_reducible refine below_step (by assumption) ?_) | (with_reducible refine below_later ?_ _) | (with_reducible refine Below.setCell ?_ ?_ _) | go_size)))) (by omega) (by omega) ((Below.block (show Below (w.alloc (.cells tab 31)).heap.size (w.alloc (.cells tab 31)) e.w by (repeat' (first | (with_reducible exact Below.refl _ _) | (with_reducible assumption) | (with_reducible refine below_alloc ?_ _) | (with_reducible refine Below.drew ?_) | (with_reducible refine below_drewN ?_ _) | (with_reducible refine below_step (by assumption) ?_) | (with_reducible refine below_later ?_ _) | (with_reducible refine Below.setCell ?_ ?_ _) | go_size))) _ (by simp)).trans (heap_alloc_new _ _)) (by omega) (by omega) (by omega) (by omega) (by rw [Later.cell _ (by go_size)]; simp [go_sem, *]) (by rw [Later.cell _ (by go_size)]; simp [go_sem, *]) (by rw [Later.cell _ (by go_size)]; simp [go_sem, *])
      rintro e hb2w ⟨rfl, hb2⟩
      obtain ⟨hb2c, hb2f⟩ := bcell hb2
      have hb2s : (hb1w.alloc (.cells #[.int .i64 f] 3)).heap.size ≤ hb2w.heap.size := hb2.size
      simp only [World.size_alloc] at hb2s
      have t3 : hb1w.heap.size < hb2w.heap.size := by omega
      have t4 : w.heap.size < hb2w.heap.size := by omega
      by_cases hr : r = n
      · have H := Lib.hid (HV.out.trans (if_pos hr))
        have hrn : ((r : Int) == l - f + 1) = true := by simp; omega
        have hrn2 : (r : Int) = l - f + 1 := by omega
        clear hr
        go_wp2
        go_ret2
        exact ⟨by rw [H.out]; rfl, by (repeat' (first | (with_reducible exact Below.refl _ _) | (with_reducible assumption) | (with_reducible refine below_alloc ?_ _) | (with_reducible refine Below.drew ?_) | (with_reducible refine below_drewN ?_ _) | (with_reducible refine below_step (by assumption) ?_) | (with_reducible refine below_later ?_ _) | (with_reducible refine Below.setCell ?_ ?_ _) | go_size))⟩
      · have H := Lib.hid (HV.out.trans (if_neg hr))
        have hrn : ((r : Int) == l - f + 1) = false := by simp; omega
        have hrn2 : ¬ (r : Int) = l - f + 1 := by omega
        have hw : IntKind.i64.wrap (f + (r : Int)) = f + (r : Int) := IntWalk.i64_in _ (by omega)
        clear hr
        go_wp2
        go_ret2
        exact ⟨by rw [H.out]; rfl, by (repeat' (first | (with_reducible exact Below.refl _ _) | (with_reducible assumption) | (with_reducible refine below_alloc ?_ _) | (with_reducible refine Below.drew ?_) | (with_reducible refine below_drewN ?_ _) | (with_reducible refine below_step (by assumption) ?_) | (with_reducible refine below_later ?_ _) | (with_reducible refine Below.setCell ?_ ?_ _) | go_size))⟩
end Go.Proofs.Ytpmjnpbigppllaa
