/- Contracts of the reference of maps: column, value, At. Printed by a program. -/
import Derived.Test.YtohdbneaganfbaaRef06B
import Derived.Deep.RegionWith
import Derived.RegionTactic
namespace Go.Proofs.Ytohdbneaganfbaa
set_option linter.unusedVariables false
set_option linter.unusedSimpArgs false
open Go.RowKit Go.ChangeShapes Go.WideShapes Go.ChangeAt

theorem take_more {l : List Int} {i : Nat} (h : i < l.length) : l.take i ++ [l.getD i 0] = l.take (i + 1) := by
  rw [List.take_add_one, List.getD, List.getElem?_eq_getElem h]
  rfl

set_option maxRecDepth 100000 in
set_option maxHeartbeats 2000000 in
theorem r6column_any (rX rY rZ : Option Addr) (cX cY cZ : Nat) (X Y : List Int) (Z : List (List Int)) (x : Int) (w : World) (hX : IsInts w rX cX .i64 X) (hY : IsInts w rY cY .i64 Y) (hZ : IsRows w rZ cZ Z) (hok : MapOk X Y Z) :
    Calls Try.prog 133 #[.agg #[.slice rX X.length cX, .slice rY Y.length cY, .slice rZ Z.length cZ], .int .i64 x] w fun e w' => ∃ r cap, e = .returned (.slice r (colV X Z x Y.length).length cap) ∧ IsInts w' r cap .i64 (colV X Z x Y.length) ∧ Below w.heap.size w w' := by
  have HX : Hid (∀ w', Below w.heap.size w w' → IsInts w' rX cX .i64 X) := Lib.hid (fun _ h => hX.later h)
  have hl := hok.2.2.1
  have h2 := hok.1.1
  have hx32 := hok.1.2.1
  have hy32 := hok.2.1.2.1
  obtain ⟨bZ, oZ, rfl, hbZ, hcZ⟩ := hZ.cells (fun e => by rw [e] at hl; simp at hl; omega)
  have HCZ := Lib.hid hcZ
  have HOKC := Lib.hid (fun j (hj : j < Y.length) => colZ_ok hok hj)
  have HROW := Lib.hid (fun t (ht : t < X.length) => (hok.2.2.2 t (by omega)).1)
  have HLZ := Lib.hid hl
  have HZ : Hid (∀ j i, i < X.length → (colZ Z j).getD i 0 = (Z.getD i []).getD j 0) := Lib.hid (fun j i hi => colZ_get (by omega))
  have HZL : Hid (∀ j, (colZ Z j).length = X.length) := Lib.hid (fun j => by rw [colZ_len]; exact hl)
  have HVL : Hid ((colV X Z x Y.length).length = Y.length) := Lib.hid (colV_len X Z x Y.length)
  have HVG : Hid (∀ j, j < Y.length → (colV X Z x Y.length).getD j 0 = cval X (colZ Z j) x) := Lib.hid (fun j hj => colV_get hj)
  have HVW : Hid (∀ v ∈ colV X Z x Y.length, (Lit.int .i64 v).wf = true) := Lib.hid (fun v hv => by
    obtain ⟨j, hj, rfl⟩ := List.mem_iff_getElem.1 hv
    have := far_bd (colV_ok hok x).2.2 hj
    rw [List.getD, List.getElem?_eq_getElem hj] at this
    exact WalkArith.wf_i64 (by simp only [Option.getD_some] at this; omega))
  rw [hl]
  clear hX hY hZ hok hcZ hl
  generalize hV : colV X Z x Y.length = V at *
  clear hV
  generalize hw0 : w.alloc (.cells #[.slice rX X.length cX, .slice rY Y.length cY, .slice (some ⟨bZ, oZ, none⟩) X.length cZ] 25) = w0
  have hw0s : w0.heap.size = w.heap.size + 1 := by rw [← hw0]; simp
  have hbw0 : Below w.heap.size w w0 := by rw [← hw0]; (repeat' (first | (with_reducible exact Below.refl _ _) | (with_reducible assumption) | (with_reducible refine below_alloc ?_ _) | (with_reducible refine Below.drew ?_) | (with_reducible refine below_drewN ?_ _) | (with_reducible refine below_step (by assumption) ?_) | (with_reducible refine below_later ?_ _) | (with_reducible refine Below.setCell ?_ ?_ _) | go_size))
  have d0 : w0.cell? ⟨w.heap.size, 0, none⟩ = some (.slice rX X.length cX) := by rw [← hw0]; simp [go_sem]
  have d1 : w0.cell? ⟨w.heap.size, 1, none⟩ = some (.slice rY Y.length cY) := by rw [← hw0]; simp [go_sem]
  have d2 : w0.cell? ⟨w.heap.size, 2, none⟩ = some (.slice (some ⟨bZ, oZ, none⟩) X.length cZ) := by rw [← hw0]; simp [go_sem]
  go_enter Try.func133, Try.ntmps133
  go_wp2
  try rw [hw0]
  clear hw0
  go_loopg [5, 6] Y.length (fun kx s5 s6 wr => ∃ (r : Option Addr) (cp k : Nat) (out : List Int) (e : Later w0), s5 = .slice r out.length cp ∧ s6 = .int .i64 k ∧ out.length ≤ 32 ∧ Hid (out.length = k) ∧ Hid (out = V.take k) ∧ k ≤ Y.length ∧ Y.length - k ≤ kx ∧ wr = e.w ∧ Hid (OwnI e.w w0.heap.size r cp out))
  case atStart => exact ⟨none, 0, 0, [], ⟨w0, Below.refl _ _⟩, rfl, rfl, by simp, Lib.hid rfl, Lib.hid rfl, by omega, by omega, rfl, Lib.hid (OwnI.nil _ _)⟩
  case round =>
    obtain ⟨r, cp, k, out, e, rfl, rfl, ho32, HOK, HOUT, hk, hkx, rfl, HO⟩ := hrel
    have hes := e.h.size
    have hbo : w.heap.size < e.w.heap.size := by omega
    have c0 : e.w.cell? ⟨w.heap.size, 0, none⟩ = some (.slice rX X.length cX) := by rw [e.h.cell (p := ⟨w.heap.size, 0, none⟩) (by show w.heap.size < _; omega)]; exact d0
    have c1 : e.w.cell? ⟨w.heap.size, 1, none⟩ = some (.slice rY Y.length cY) := by rw [e.h.cell (p := ⟨w.heap.size, 1, none⟩) (by show w.heap.size < _; omega)]; exact d1
    have c2 : e.w.cell? ⟨w.heap.size, 2, none⟩ = some (.slice (some ⟨bZ, oZ, none⟩) X.length cZ) := by rw [e.h.cell (p := ⟨w.heap.size, 2, none⟩) (by show w.heap.size < _; omega)]; exact d2
    by_cases hlt : k < Y.length
    · have hk1 : (0 : Int) ≤ (k : Int) := by omega
      have hk2 : (k : Int) < Y.length := by omega
      have HCC := Lib.hid (HOKC.out k hlt)
      have HCG := Lib.hid (HVG.out k hlt)
      have HCZL := Lib.hid (HZL.out k)
      have HZK := Lib.hid (HZ.out k)
      generalize hC : colZ Z k = C at *
      clear hC
      go_wp2
      go_loopg [7, 8] X.length (fun ky s7 s8 wq => ∃ (ri : Option Addr) (ci i : Nat) (ys : List Int) (q : Later e.w), s7 = .slice ri ys.length ci ∧ s8 = .int .i64 i ∧ ys.length ≤ 32 ∧ Hid (ys.length = i) ∧ Hid (ys = C.take i) ∧ i ≤ X.length ∧ X.length - i ≤ ky ∧ wq = q.w ∧ Hid (OwnI q.w e.w.heap.size ri ci ys))
      case atStart => exact ⟨none, 0, 0, [], ⟨e.w, Below.refl _ _⟩, rfl, rfl, by simp, Lib.hid rfl, Lib.hid rfl, by omega, by omega, rfl, Lib.hid (OwnI.nil _ _)⟩
      case round =>
        obtain ⟨ri, ci, i, ys, q, rfl, rfl, hy32', HYI, HYS, hi, hiy, rfl, HI⟩ := hrel
        have hqs := q.h.size
        have hbq : w.heap.size < q.w.heap.size := by omega
        have e0 : q.w.cell? ⟨w.heap.size, 0, none⟩ = some (.slice rX X.length cX) := by rw [q.h.cell (p := ⟨w.heap.size, 0, none⟩) hbo]; exact c0
        have e2 : q.w.cell? ⟨w.heap.size, 2, none⟩ = some (.slice (some ⟨bZ, oZ, none⟩) X.length cZ) := by rw [q.h.cell (p := ⟨w.heap.size, 2, none⟩) hbo]; exact c2
        have hbw : Below w.heap.size w q.w := by (repeat' (first | (with_reducible exact Below.refl _ _) | (with_reducible assumption) | (with_reducible refine below_alloc ?_ _) | (with_reducible refine Below.drew ?_) | (with_reducible refine below_drewN ?_ _) | (with_reducible refine below_step (by assumption) ?_) | (with_reducible refine below_later ?_ _) | (with_reducible refine Below.setCell ?_ ?_ _) | go_size))
        by_cases hil : i < X.length
        · obtain ⟨r1, n1, g1, g2⟩ := HCZ.out i (by have := HLZ.out; omega)
          rw [HROW.out i hil] at g1
          obtain ⟨b1, o1, rfl, hb1, e1⟩ := row_at g2 (HROW.out i hil) hlt
          have g3 : q.w.cell? ⟨bZ, oZ + i, none⟩ = some (.slice (some ⟨b1, o1, none⟩) Y.length n1) := by rw [hbw.cell (p := ⟨bZ, oZ + i, none⟩) hbZ]; exact g1
          have g4 : q.w.cell? ⟨b1, o1 + k, none⟩ = some (.int .i64 (C.getD i 0)) := by rw [hbw.cell (p := ⟨b1, o1 + k, none⟩) hb1, HZK.out i hil]; exact e1
          have htk : ys ++ [C.getD i 0] = C.take (i + 1) := by rw [HYS.out]; exact take_more (by have := HCZL.out; omega)
          have hi1 : (0 : Int) ≤ (i : Int) := by omega
          have hi2 : (i : Int) < X.length := by omega
          have HTK := Lib.hid htk
          clear htk g1 g2 e1 hbw
          generalize C.getD i 0 = z at *
          go_wp2_with (at_builtin; refine wpList_append_int (by rfl) _ _ (by rfl) q.w e.w.heap.size ri ci ys z (by rfl) (by rfl) (by rfl) HI.out (by omega) (by omega) ?_; intro r' cap' w1 hown1 hbw1; have HO1 := Lib.hid hown1; clear hown1)
          go_roundg (X.length - (i + 1))
          case measure => omega
          case rel => exact ⟨r', cap', i + 1, ys ++ [z], ⟨w1, q.h.trans hbw1⟩, by simp, by go_num, by have := HYI.out; simp; omega, Lib.hid (by have := HYI.out; simp; omega), HTK, by omega, by omega, rfl, HO1⟩
        · obtain rfl : i = X.length := by omega
          have hyc : ys = C := by rw [HYS.out, ← HCZL.out]; exact List.take_length
          subst hyc
          have HIC : Hid (IsInts q.w ri ci .i64 ys) := Lib.hid (HI.out.ints (fun v hv => by
            obtain ⟨j, hj, rfl⟩ := List.mem_iff_getElem.1 hv
            have := far_bd HCC.out.2.2 hj
            rw [List.getD, List.getElem?_eq_getElem hj] at this
            exact WalkArith.wf_i64 (by simp only [Option.getD_some] at this; omega)))
          have HXQ := Lib.hid (HX.out q.w hbw)
          have htk : out ++ [cval X ys x] = V.take (k + 1) := by rw [HOUT.out, ← HCG.out]; exact take_more (by have := HVL.out; omega)
          have HTK := Lib.hid htk
          have HOQ := Lib.hid (HO.out.below q.h (Nat.le_refl _))
          have HCU := Lib.hid (fun w' hx hy => r6curve_any rX ri cX ci X ys x w' hx hy HCC.out)
          clear htk hbw HI HO
          generalize cval X ys x = z at *
          go_wp2_with (first | (go_at_call 132; refine (HCU.out _ (HXQ.out.later (by (repeat' (first | (with_reducible exact Below.refl _ _) | (with_reducible assumption) | (with_reducible refine below_alloc ?_ _) | (with_reducible refine Below.drew ?_) | (with_reducible refine below_drewN ?_ _) | (with_reducible refine below_step (by assumption) ?_) | (with_reducible refine below_later ?_ _) | (with_reducible refine Below.setCell ?_ ?_ _) | go_size)))) (HIC.out.later (by (repeat' (first | (with_reducible exact Below.refl _ _) | (with_reducible assumption) | (with_reducible refine below_alloc ?_ _) | (with_reducible refine Below.drew ?_) | (with_reducible refine below_drewN ?_ _) | (with_reducible refine below_step (by assumption) ?_) | (with_reducible refine below_later ?_ _) | (with_reducible refine Below.setCell ?_ ?_ _) | go_size))))).mono ?_; rintro e hb1w ⟨rfl, hb1⟩; obtain ⟨hb1c, hb1f⟩ := bcell hb1; have hb1s := hb1.size; (try simp only [World.size_alloc] at hb1s); (try (have : w.heap.size < hb1w.heap.size := by omega)); (try (have : w.heap.size + 1 < hb1w.heap.size := by omega)); (try (have : w.heap.size + 1 + 1 < hb1w.heap.size := by omega)); (try (have : w.heap.size + 1 + 1 + 1 < hb1w.heap.size := by omega)); (try (have : bX < hb1w.heap.size := by omega)); (try (have : bY < hb1w.heap.size := by omega)); (try (have : bZ < hb1w.heap.size := by omega))) | (at_builtin; refine wpList_append_int (by rfl) _ _ (by rfl) hb1w w0.heap.size r cp out z (by rfl) (by rfl) (by rfl) (HOQ.out.below hb1 (Nat.le_refl _)) (by omega) (by omega) ?_; intro r' cap' w1 hown1 hbw1; have HO1 := Lib.hid hown1; clear hown1))
          go_roundg (Y.length - (k + 1))
          case measure => omega
          case rel => exact ⟨r', cap', k + 1, out ++ [z], ⟨w1, (e.h.trans (q.h.mono e.h.size)).trans ((hb1.mono (by omega)).trans hbw1)⟩, by simp, by go_num, by have := HOK.out; simp; omega, Lib.hid (by have := HOK.out; simp; omega), HTK, by omega, by omega, rfl, HO1⟩
    · obtain rfl : k = Y.length := by omega
      have hov : out = V := by rw [HOUT.out, ← HVL.out]; exact List.take_length
      subst hov
      go_wp2
      go_ret
      exact ⟨r, cp, rfl, HO.out.ints HVW.out, by (repeat' (first | (with_reducible exact Below.refl _ _) | (with_reducible assumption) | (with_reducible refine below_alloc ?_ _) | (with_reducible refine Below.drew ?_) | (with_reducible refine below_drewN ?_ _) | (with_reducible refine below_step (by assumption) ?_) | (with_reducible refine below_later ?_ _) | (with_reducible refine Below.setCell ?_ ?_ _) | go_size))⟩

set_option maxRecDepth 100000 in
theorem r6value_any (rX rY rZ : Option Addr) (cX cY cZ : Nat) (X Y : List Int) (Z : List (List Int)) (x y : Int) (w : World) (hX : IsInts w rX cX .i64 X) (hY : IsInts w rY cY .i64 Y) (hZ : IsRows w rZ cZ Z) (hok : MapOk X Y Z) :
    Calls Try.prog 115 #[.agg #[.slice rX X.length cX, .slice rY Y.length cY, .slice rZ Z.length cZ], .int .i64 x, .int .i64 y] w fun e w' => e = .returned (.int .i64 (mval X Y Z x y)) ∧ Below w.heap.size w w' := by
  have HX : Hid (∀ w', Below w.heap.size w w' → IsInts w' rX cX .i64 X) := Lib.hid (fun _ h => hX.later h)
  have HY : Hid (∀ w', Below w.heap.size w w' → IsInts w' rY cY .i64 Y) := Lib.hid (fun _ h => hY.later h)
  have HZ : Hid (∀ w', Below w.heap.size w w' → IsRows w' rZ cZ Z) := Lib.hid (fun _ h => hZ.later h)
  have hv : mval X Y Z x y = cval Y (colV X Z x Y.length) y := by unfold mval; rfl
  have HOK := Lib.hid hok
  have HCV := Lib.hid (colV_ok hok x)
  have HCO := Lib.hid (fun w hX hY hZ => r6column_any rX rY rZ cX cY cZ X Y Z x w hX hY hZ hok)
  rw [hv]
  clear hX hY hZ hok hv
  generalize colV X Z x Y.length = V at *
  go_enter Try.func115, Try.ntmps115
  go_wp2
  go_region_with (first | (go_at_call 133; refine (HCO.out _ (HX.out _ (by (repeat' (first | (with_reducible exact Below.refl _ _) | (with_reducible assumption) | (with_reducible refine below_alloc ?_ _) | (with_reducible refine Below.drew ?_) | (with_reducible refine below_drewN ?_ _) | (with_reducible refine below_step (by assumption) ?_) | (with_reducible refine below_later ?_ _) | (with_reducible refine Below.setCell ?_ ?_ _) | go_size)))) (HY.out _ (by (repeat' (first | (with_reducible exact Below.refl _ _) | (with_reducible assumption) | (with_reducible refine below_alloc ?_ _) | (with_reducible refine Below.drew ?_) | (with_reducible refine below_drewN ?_ _) | (with_reducible refine below_step (by assumption) ?_) | (with_reducible refine below_later ?_ _) | (with_reducible refine Below.setCell ?_ ?_ _) | go_size)))) (HZ.out _ (by (repeat' (first | (with_reducible exact Below.refl _ _) | (with_reducible assumption) | (with_reducible refine below_alloc ?_ _) | (with_reducible refine Below.drew ?_) | (with_reducible refine below_drewN ?_ _) | (with_reducible refine below_step (by assumption) ?_) | (with_reducible refine below_later ?_ _) | (with_reducible refine Below.setCell ?_ ?_ _) | go_size))))).mono ?_; rintro e hb1w ⟨hb1r, hb1k, rfl, hb1I, hb1⟩; have hb1H := Lib.hid hb1I; clear hb1I; obtain ⟨hb1c, hb1f⟩ := bcell hb1; have hb1s := hb1.size; (try simp only [World.size_alloc] at hb1s); (try (have : w.heap.size < hb1w.heap.size := by omega)); (try (have : w.heap.size + 1 < hb1w.heap.size := by omega)); (try (have : w.heap.size + 1 + 1 < hb1w.heap.size := by omega)); (try (have : w.heap.size + 1 + 1 + 1 < hb1w.heap.size := by omega)); (try (have : bX < hb1w.heap.size := by omega)); (try (have : bY < hb1w.heap.size := by omega)); (try (have : bZ < hb1w.heap.size := by omega))) | (go_at_call 132; refine (r6curve_any _ _ _ _ _ _ _ _ (HY.out _ (by (repeat' (first | (with_reducible exact Below.refl _ _) | (with_reducible assumption) | (with_reducible refine below_alloc ?_ _) | (with_reducible refine Below.drew ?_) | (with_reducible refine below_drewN ?_ _) | (with_reducible refine below_step (by assumption) ?_) | (with_reducible refine below_later ?_ _) | (with_reducible refine Below.setCell ?_ ?_ _) | go_size)))) (hb1H.out.later (by (repeat' (first | (with_reducible exact Below.refl _ _) | (with_reducible assumption) | (with_reducible refine below_alloc ?_ _) | (with_reducible refine Below.drew ?_) | (with_reducible refine below_drewN ?_ _) | (with_reducible refine below_step (by assumption) ?_) | (with_reducible refine below_later ?_ _) | (with_reducible refine Below.setCell ?_ ?_ _) | go_size)))) HCV.out).mono ?_; rintro e hb2w ⟨rfl, hb2⟩; obtain ⟨hb2c, hb2f⟩ := bcell hb2; have hb2s := hb2.size; (try simp only [World.size_alloc] at hb2s); (try (have : w.heap.size < hb2w.heap.size := by omega)); (try (have : w.heap.size + 1 < hb2w.heap.size := by omega)); (try (have : w.heap.size + 1 + 1 < hb2w.heap.size := by omega)); (try (have : w.heap.size + 1 + 1 + 1 < hb2w.heap.size := by omega)); (try (have : bX < hb2w.heap.size := by omega)); (try (have : bY < hb2w.heap.size := by omega)); (try (have : bZ < hb2w.heap.size := by omega))))
  all_goals go_wp2
  all_goals go_ret
  all_goals exact ⟨rfl, by (repeat' (first | (with_reducible exact Below.refl _ _) | (with_reducible assumption) | (with_reducible refine below_alloc ?_ _) | (with_reducible refine Below.drew ?_) | (with_reducible refine below_drewN ?_ _) | (with_reducible refine below_step (by assumption) ?_) | (with_reducible refine below_later ?_ _) | (with_reducible refine Below.setCell ?_ ?_ _) | go_size))⟩

set_option maxRecDepth 100000 in
theorem r6At_any (rX rY rZ : Option Addr) (cX cY cZ : Nat) (X Y : List Int) (Z : List (List Int)) (x y : Int) (w : World) (hX : IsInts w rX cX .i64 X) (hY : IsInts w rY cY .i64 Y) (hZ : IsRows w rZ cZ Z) (hok : MapOk X Y Z) :
    Calls Try.prog 84 #[.agg #[.slice rX X.length cX, .slice rY Y.length cY, .slice rZ Z.length cZ], .int .i64 x, .int .i64 y] w fun e w' => e = .returned (.int .i64 (mval X Y Z x y)) ∧ Below w.heap.size w w' := by
  have HX : Hid (∀ w', Below w.heap.size w w' → IsInts w' rX cX .i64 X) := Lib.hid (fun _ h => hX.later h)
  have HY : Hid (∀ w', Below w.heap.size w w' → IsInts w' rY cY .i64 Y) := Lib.hid (fun _ h => hY.later h)
  have HZ : Hid (∀ w', Below w.heap.size w w' → IsRows w' rZ cZ Z) := Lib.hid (fun _ h => hZ.later h)
  have hb := mapB_true.2 hok
  have HOK := Lib.hid hok
  clear hX hY hZ hok
  go_enter Try.func84, Try.ntmps84
  go_wp2_with (first | (go_at_call 68; refine (r6valid_any _ _ _ _ _ _ _ _ _ _ (HX.out _ (by (repeat' (first | (with_reducible exact Below.refl _ _) | (with_reducible assumption) | (with_reducible refine below_alloc ?_ _) | (with_reducible refine Below.drew ?_) | (with_reducible refine below_drewN ?_ _) | (with_reducible refine below_step (by assumption) ?_) | (with_reducible refine below_later ?_ _) | (with_reducible refine Below.setCell ?_ ?_ _) | go_size)))) (HY.out _ (by (repeat' (first | (with_reducible exact Below.refl _ _) | (with_reducible assumption) | (with_reducible refine below_alloc ?_ _) | (with_reducible refine Below.drew ?_) | (with_reducible refine below_drewN ?_ _) | (with_reducible refine below_step (by assumption) ?_) | (with_reducible refine below_later ?_ _) | (with_reducible refine Below.setCell ?_ ?_ _) | go_size)))) (HZ.out _ (by (repeat' (first | (with_reducible exact Below.refl _ _) | (with_reducible assumption) | (with_reducible refine below_alloc ?_ _) | (with_reducible refine Below.drew ?_) | (with_reducible refine below_drewN ?_ _) | (with_reducible refine below_step (by assumption) ?_) | (with_reducible refine below_later ?_ _) | (with_reducible refine Below.setCell ?_ ?_ _) | go_size))))).mono ?_; rintro e hb1w ⟨rfl, hb1⟩; obtain ⟨hb1c, hb1f⟩ := bcell hb1; have hb1s := hb1.size; (try simp only [World.size_alloc] at hb1s); (try (have : w.heap.size < hb1w.heap.size := by omega)); (try (have : w.heap.size + 1 < hb1w.heap.size := by omega)); (try (have : w.heap.size + 1 + 1 < hb1w.heap.size := by omega)); (try (have : w.heap.size + 1 + 1 + 1 < hb1w.heap.size := by omega)); (try (have : bX < hb1w.heap.size := by omega)); (try (have : bY < hb1w.heap.size := by omega)); (try (have : bZ < hb1w.heap.size := by omega))) | (go_at_call 115; refine (r6value_any _ _ _ _ _ _ _ _ _ _ _ _ (HX.out _ (by (repeat' (first | (with_reducible exact Below.refl _ _) | (with_reducible assumption) | (with_reducible refine below_alloc ?_ _) | (with_reducible refine Below.drew ?_) | (with_reducible refine below_drewN ?_ _) | (with_reducible refine below_step (by assumption) ?_) | (with_reducible refine below_later ?_ _) | (with_reducible refine Below.setCell ?_ ?_ _) | go_size)))) (HY.out _ (by (repeat' (first | (with_reducible exact Below.refl _ _) | (with_reducible assumption) | (with_reducible refine below_alloc ?_ _) | (with_reducible refine Below.drew ?_) | (with_reducible refine below_drewN ?_ _) | (with_reducible refine below_step (by assumption) ?_) | (with_reducible refine below_later ?_ _) | (with_reducible refine Below.setCell ?_ ?_ _) | go_size)))) (HZ.out _ (by (repeat' (first | (with_reducible exact Below.refl _ _) | (with_reducible assumption) | (with_reducible refine below_alloc ?_ _) | (with_reducible refine Below.drew ?_) | (with_reducible refine below_drewN ?_ _) | (with_reducible refine below_step (by assumption) ?_) | (with_reducible refine below_later ?_ _) | (with_reducible refine Below.setCell ?_ ?_ _) | go_size)))) HOK.out).mono ?_; rintro e hb2w ⟨rfl, hb2⟩; obtain ⟨hb2c, hb2f⟩ := bcell hb2; have hb2s := hb2.size; (try simp only [World.size_alloc] at hb2s); (try (have : w.heap.size < hb2w.heap.size := by omega)); (try (have : w.heap.size + 1 < hb2w.heap.size := by omega)); (try (have : w.heap.size + 1 + 1 < hb2w.heap.size := by omega)); (try (have : w.heap.size + 1 + 1 + 1 < hb2w.heap.size := by omega)); (try (have : bX < hb2w.heap.size := by omega)); (try (have : bY < hb2w.heap.size := by omega)); (try (have : bZ < hb2w.heap.size := by omega))))
  go_ret
  exact ⟨rfl, by (repeat' (first | (with_reducible exact Below.refl _ _) | (with_reducible assumption) | (with_reducible refine below_alloc ?_ _) | (with_reducible refine Below.drew ?_) | (with_reducible refine below_drewN ?_ _) | (with_reducible refine below_step (by assumption) ?_) | (with_reducible refine below_later ?_ _) | (with_reducible refine Below.setCell ?_ ?_ _) | go_size))⟩
end Go.Proofs.Ytohdbneaganfbaa
