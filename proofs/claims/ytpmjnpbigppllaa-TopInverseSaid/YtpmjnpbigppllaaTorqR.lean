/- Contracts of the reference of torque: Valid, Speed, Charge, Optimal, Torque. Printed by a program. -/
import Derived.Test.YtpmjnpbigppllaaRef31
namespace Go.Proofs.Ytpmjnpbigppllaa
set_option linter.unusedVariables false
set_option linter.unusedSimpArgs false
open Go.RowKit Go.ChangeShapes Go.WideShapes Go.ChangeAt

theorem row_ok {row : List Int} (h1 : ∀ t, t < row.length → inB (row.getD t 0) 0 10000 = true) (h2 : ∀ t, t + 1 < row.length → row.getD t 0 ≤ row.getD (t + 1) 0) : tqRow row = false := by
  unfold tqRow
  rw [any_in (fun t ht => inB_true.1 (h1 t ht)), upB_true.2 h2]
  rfl
theorem row_bad1 {row : List Int} {t : Nat} (ht : t < row.length) (h : inB (row.getD t 0) 0 10000 = false) : tqRow row = true := by
  unfold tqRow
  rw [any_hit ht (inB_false.1 h)]
  rfl
theorem row_bad2 {row : List Int} {t : Nat} (ht : t + 1 < row.length) (h : row.getD (t + 1) 0 < row.getD t 0) : tqRow row = true := by
  unfold tqRow
  rw [upB_false.2 (fun hh => by have := hh t ht; omega)]
  simp
theorem tq_iff {X Y : List Int} {Z : List (List Int)} {xs ys : List Int} : TqOk X Y Z xs ys ↔ MapOk X Y Z ∧ EffOk xs ys ∧ Z.any tqRow = false :=
  ⟨fun h => ⟨h.map, ⟨h.cur, h.bd, h.down⟩, h.rows⟩, fun h => ⟨h.1, h.2.1.1, h.2.1.2.1, h.2.1.2.2, h.2.2⟩⟩

set_option maxRecDepth 100000 in
set_option maxHeartbeats 1000000 in
theorem r35valid_any (tab : Array Value) (X Y : List Int) (Z : List (List Int)) (xs ys : List Int) (w : World) (hsz : tab.size = 24) (hM : MapAt w tab 6 7 8 X Y Z) (hE : CurAt w tab 18 19 xs ys)  :
    Calls Try.prog 15 #[.agg tab] w fun e w' => e = .returned (.bool (tqB X Y Z xs ys)) ∧ Below w.heap.size w w' := by
  have HM : Hid (∀ w', Below w.heap.size w w' → MapAt w' tab 6 7 8 X Y Z) := Lib.hid (fun _ h => hM.later h)
  have HE : Hid (∀ w', Below w.heap.size w w' → CurAt w' tab 18 19 xs ys) := Lib.hid (fun _ h => hE.later h)
  have HI : Hid ((Try.prog.info? 31).map (·.size) = some tab.size) := Lib.hid (by rw [hsz]; kernel_rfl)
  have HSZ := Lib.hid hsz
  clear hsz
  obtain ⟨rX, cX, rY, cY, rZ, cZ, h6, h7, h8, hX, hY, hZ⟩ := hM.ex
  obtain ⟨rx, cx, ry, cy, h18, h19, hx, hy⟩ := hE.ex
  have HX : Hid (∀ w', Below w.heap.size w w' → IsInts w' rX cX .i64 X) := Lib.hid (fun _ h => hX.later h)
  have HY : Hid (∀ w', Below w.heap.size w w' → IsInts w' rY cY .i64 Y) := Lib.hid (fun _ h => hY.later h)
  have HZ : Hid (∀ w', Below w.heap.size w w' → IsRows w' rZ cZ Z) := Lib.hid (fun _ h => hZ.later h)
  have Hx : Hid (∀ w', Below w.heap.size w w' → IsInts w' rx cx .i64 xs) := Lib.hid (fun _ h => hx.later h)
  have Hy : Hid (∀ w', Below w.heap.size w w' → IsInts w' ry cy .i64 ys) := Lib.hid (fun _ h => hy.later h)
  cases hm : mapB X Y Z with
  | false =>
    have H := Lib.hid (tqB_false.2 (fun h : TqOk X Y Z xs ys => mapB_false.1 hm h.map))
    clear hM hE hX hY hZ hx hy
    go_enter Try.func15, Try.ntmps15
    go_wp2_with (first | (go_at_call 38; refine (r6valid_any _ _ _ _ _ _ _ _ _ _ (HX.out _ (by (repeat' (first | (with_reducible exact Below.refl _ _) | (with_reducible assumption) | (with_reducible refine below_alloc ?_ _) | (with_reducible refine Below.drew ?_) | (with_reducible refine below_drewN ?_ _) | (with_reducible refine below_step (by assumption) ?_) | (with_reducible refine below_later ?_ _) | (with_reducible refine Below.setCell ?_ ?_ _) | go_size)))) (HY.out _ (by (repeat' (first | (with_reducible exact Below.refl _ _) | (with_reducible assumption) | (with_reducible refine below_alloc ?_ _) | (with_reducible refine Below.drew ?_) | (with_reducible refine below_drewN ?_ _) | (with_reducible refine below_step (by assumption) ?_) | (with_reducible refine below_later ?_ _) | (with_reducible refine Below.setCell ?_ ?_ _) | go_size)))) (HZ.out _ (by (repeat' (first | (with_reducible exact Below.refl _ _) | (with_reducible assumption) | (with_reducible refine below_alloc ?_ _) | (with_reducible refine Below.drew ?_) | (with_reducible refine below_drewN ?_ _) | (with_reducible refine below_step (by assumption) ?_) | (with_reducible refine below_later ?_ _) | (with_reducible refine Below.setCell ?_ ?_ _) | go_size))))).mono ?_; rintro e hb1w ⟨rfl, hb1⟩; obtain ⟨hb1c, hb1f⟩ := bcell hb1; have hb1s := hb1.size; (try simp only [World.size_alloc] at hb1s); (try (have : w.heap.size < hb1w.heap.size := by omega)); (try (have : w.heap.size + 1 < hb1w.heap.size := by omega)); (try (have : w.heap.size + 1 + 1 < hb1w.heap.size := by omega)); (try (have : w.heap.size + 1 + 1 + 1 < hb1w.heap.size := by omega)); (try (have : bX < hb1w.heap.size := by omega)); (try (have : bY < hb1w.heap.size := by omega)); (try (have : bZ < hb1w.heap.size := by omega))) | (go_at_call 39; refine (rcurve31_any _ _ _ _ _ _ _ (Hx.out _ (by (repeat' (first | (with_reducible exact Below.refl _ _) | (with_reducible assumption) | (with_reducible refine below_alloc ?_ _) | (with_reducible refine Below.drew ?_) | (with_reducible refine below_drewN ?_ _) | (with_reducible refine below_step (by assumption) ?_) | (with_reducible refine below_later ?_ _) | (with_reducible refine Below.setCell ?_ ?_ _) | go_size)))) (Hy.out _ (by (repeat' (first | (with_reducible exact Below.refl _ _) | (with_reducible assumption) | (with_reducible refine below_alloc ?_ _) | (with_reducible refine Below.drew ?_) | (with_reducible refine below_drewN ?_ _) | (with_reducible refine below_step (by assumption) ?_) | (with_reducible refine below_later ?_ _) | (with_reducible refine Below.setCell ?_ ?_ _) | go_size))))).mono ?_; rintro e hb2w ⟨rfl, hb2⟩; obtain ⟨hb2c, hb2f⟩ := bcell hb2; have hb2s := hb2.size; (try simp only [World.size_alloc] at hb2s); (try (have : w.heap.size < hb2w.heap.size := by omega)); (try (have : w.heap.size + 1 < hb2w.heap.size := by omega)); (try (have : w.heap.size + 1 + 1 < hb2w.heap.size := by omega)); (try (have : w.heap.size + 1 + 1 + 1 < hb2w.heap.size := by omega)); (try (have : bX < hb2w.heap.size := by omega)); (try (have : bY < hb2w.heap.size := by omega)); (try (have : bZ < hb2w.heap.size := by omega))))
    go_ret
    exact ⟨by rw [H.out]; first | done | rfl, by (repeat' (first | (with_reducible exact Below.refl _ _) | (with_reducible assumption) | (with_reducible refine below_alloc ?_ _) | (with_reducible refine Below.drew ?_) | (with_reducible refine below_drewN ?_ _) | (with_reducible refine below_step (by assumption) ?_) | (with_reducible refine below_later ?_ _) | (with_reducible refine Below.setCell ?_ ?_ _) | go_size))⟩
  | true =>
    cases hc : effB xs ys with
    | false =>
      have H := Lib.hid (tqB_false.2 (fun h : TqOk X Y Z xs ys => effB_false.1 hc (tq_iff.1 h).2.1))
      clear hM hE hX hY hZ hx hy
      go_enter Try.func15, Try.ntmps15
      go_wp2_with (first | (go_at_call 38; refine (r6valid_any _ _ _ _ _ _ _ _ _ _ (HX.out _ (by (repeat' (first | (with_reducible exact Below.refl _ _) | (with_reducible assumption) | (with_reducible refine below_alloc ?_ _) | (with_reducible refine Below.drew ?_) | (with_reducible refine below_drewN ?_ _) | (with_reducible refine below_step (by assumption) ?_) | (with_reducible refine below_later ?_ _) | (with_reducible refine Below.setCell ?_ ?_ _) | go_size)))) (HY.out _ (by (repeat' (first | (with_reducible exact Below.refl _ _) | (with_reducible assumption) | (with_reducible refine below_alloc ?_ _) | (with_reducible refine Below.drew ?_) | (with_reducible refine below_drewN ?_ _) | (with_reducible refine below_step (by assumption) ?_) | (with_reducible refine below_later ?_ _) | (with_reducible refine Below.setCell ?_ ?_ _) | go_size)))) (HZ.out _ (by (repeat' (first | (with_reducible exact Below.refl _ _) | (with_reducible assumption) | (with_reducible refine below_alloc ?_ _) | (with_reducible refine Below.drew ?_) | (with_reducible refine below_drewN ?_ _) | (with_reducible refine below_step (by assumption) ?_) | (with_reducible refine below_later ?_ _) | (with_reducible refine Below.setCell ?_ ?_ _) | go_size))))).mono ?_; rintro e hb1w ⟨rfl, hb1⟩; obtain ⟨hb1c, hb1f⟩ := bcell hb1; have hb1s := hb1.size; (try simp only [World.size_alloc] at hb1s); (try (have : w.heap.size < hb1w.heap.size := by omega)); (try (have : w.heap.size + 1 < hb1w.heap.size := by omega)); (try (have : w.heap.size + 1 + 1 < hb1w.heap.size := by omega)); (try (have : w.heap.size + 1 + 1 + 1 < hb1w.heap.size := by omega)); (try (have : bX < hb1w.heap.size := by omega)); (try (have : bY < hb1w.heap.size := by omega)); (try (have : bZ < hb1w.heap.size := by omega))) | (go_at_call 39; refine (rcurve31_any _ _ _ _ _ _ _ (Hx.out _ (by (repeat' (first | (with_reducible exact Below.refl _ _) | (with_reducible assumption) | (with_reducible refine below_alloc ?_ _) | (with_reducible refine Below.drew ?_) | (with_reducible refine below_drewN ?_ _) | (with_reducible refine below_step (by assumption) ?_) | (with_reducible refine below_later ?_ _) | (with_reducible refine Below.setCell ?_ ?_ _) | go_size)))) (Hy.out _ (by (repeat' (first | (with_reducible exact Below.refl _ _) | (with_reducible assumption) | (with_reducible refine below_alloc ?_ _) | (with_reducible refine Below.drew ?_) | (with_reducible refine below_drewN ?_ _) | (with_reducible refine below_step (by assumption) ?_) | (with_reducible refine below_later ?_ _) | (with_reducible refine Below.setCell ?_ ?_ _) | go_size))))).mono ?_; rintro e hb2w ⟨rfl, hb2⟩; obtain ⟨hb2c, hb2f⟩ := bcell hb2; have hb2s := hb2.size; (try simp only [World.size_alloc] at hb2s); (try (have : w.heap.size < hb2w.heap.size := by omega)); (try (have : w.heap.size + 1 < hb2w.heap.size := by omega)); (try (have : w.heap.size + 1 + 1 < hb2w.heap.size := by omega)); (try (have : w.heap.size + 1 + 1 + 1 < hb2w.heap.size := by omega)); (try (have : bX < hb2w.heap.size := by omega)); (try (have : bY < hb2w.heap.size := by omega)); (try (have : bZ < hb2w.heap.size := by omega))))
      go_ret
      exact ⟨by rw [H.out]; first | done | rfl, by (repeat' (first | (with_reducible exact Below.refl _ _) | (with_reducible assumption) | (with_reducible refine below_alloc ?_ _) | (with_reducible refine Below.drew ?_) | (with_reducible refine below_drewN ?_ _) | (with_reducible refine below_step (by assumption) ?_) | (with_reducible refine below_later ?_ _) | (with_reducible refine Below.setCell ?_ ?_ _) | go_size))⟩
    | true =>
      have HMO := Lib.hid (mapB_true.1 hm)
      have hl := HMO.out.2.2.1
      have h2 := HMO.out.1.1
      have h2y := HMO.out.2.1.1
      have h32 := HMO.out.1.2.1
      have h32y := HMO.out.2.1.2.1
      have HT : Hid ((∀ t, t < Z.length → tqRow (Z.getD t []) = false) → tqB X Y Z xs ys = true) := Lib.hid (fun h => tqB_true.2 (tq_iff.2 ⟨HMO.out, effB_true.1 hc, map_all h⟩))
      have HF : Hid (∀ t, t < Z.length → tqRow (Z.getD t []) = true → tqB X Y Z xs ys = false) := Lib.hid (fun t ht h => tqB_false.2 (fun hh => by have := map_any hh.rows ht; rw [h] at this; cases this))
      obtain ⟨bZ, oZ, rfl, hbZ, hcZ⟩ := hZ.cells (fun e => by rw [e] at hl; simp at hl; omega)
      have HC := Lib.hid hcZ
      have HRL := Lib.hid (fun t ht => (HMO.out.2.2.2 t ht).1)
      have HZL := Lib.hid hl
      have hz32 : Z.length ≤ 32 := by omega
      clear hM hE hX hY hZ hx hy hcZ hl
      go_enter Try.func15, Try.ntmps15
      go_wp2_with (first | (go_at_call 38; refine (r6valid_any _ _ _ _ _ _ _ _ _ _ (HX.out _ (by (repeat' (first | (with_reducible exact Below.refl _ _) | (with_reducible assumption) | (with_reducible refine below_alloc ?_ _) | (with_reducible refine Below.drew ?_) | (with_reducible refine below_drewN ?_ _) | (with_reducible refine below_step (by assumption) ?_) | (with_reducible refine below_later ?_ _) | (with_reducible refine Below.setCell ?_ ?_ _) | go_size)))) (HY.out _ (by (repeat' (first | (with_reducible exact Below.refl _ _) | (with_reducible assumption) | (with_reducible refine below_alloc ?_ _) | (with_reducible refine Below.drew ?_) | (with_reducible refine below_drewN ?_ _) | (with_reducible refine below_step (by assumption) ?_) | (with_reducible refine below_later ?_ _) | (with_reducible refine Below.setCell ?_ ?_ _) | go_size)))) (HZ.out _ (by (repeat' (first | (with_reducible exact Below.refl _ _) | (with_reducible assumption) | (with_reducible refine below_alloc ?_ _) | (with_reducible refine Below.drew ?_) | (with_reducible refine below_drewN ?_ _) | (with_reducible refine below_step (by assumption) ?_) | (with_reducible refine below_later ?_ _) | (with_reducible refine Below.setCell ?_ ?_ _) | go_size))))).mono ?_; rintro e hb1w ⟨rfl, hb1⟩; obtain ⟨hb1c, hb1f⟩ := bcell hb1; have hb1s := hb1.size; (try simp only [World.size_alloc] at hb1s); (try (have : w.heap.size < hb1w.heap.size := by omega)); (try (have : w.heap.size + 1 < hb1w.heap.size := by omega)); (try (have : w.heap.size + 1 + 1 < hb1w.heap.size := by omega)); (try (have : w.heap.size + 1 + 1 + 1 < hb1w.heap.size := by omega)); (try (have : bX < hb1w.heap.size := by omega)); (try (have : bY < hb1w.heap.size := by omega)); (try (have : bZ < hb1w.heap.size := by omega))) | (go_at_call 39; refine (rcurve31_any _ _ _ _ _ _ _ (Hx.out _ (by (repeat' (first | (with_reducible exact Below.refl _ _) | (with_reducible assumption) | (with_reducible refine below_alloc ?_ _) | (with_reducible refine Below.drew ?_) | (with_reducible refine below_drewN ?_ _) | (with_reducible refine below_step (by assumption) ?_) | (with_reducible refine below_later ?_ _) | (with_reducible refine Below.setCell ?_ ?_ _) | go_size)))) (Hy.out _ (by (repeat' (first | (with_reducible exact Below.refl _ _) | (with_reducible assumption) | (with_reducible refine below_alloc ?_ _) | (with_reducible refine Below.drew ?_) | (with_reducible refine below_drewN ?_ _) | (with_reducible refine below_step (by assumption) ?_) | (with_reducible refine below_later ?_ _) | (with_reducible refine Below.setCell ?_ ?_ _) | go_size))))).mono ?_; rintro e hb2w ⟨rfl, hb2⟩; obtain ⟨hb2c, hb2f⟩ := bcell hb2; have hb2s := hb2.size; (try simp only [World.size_alloc] at hb2s); (try (have : w.heap.size < hb2w.heap.size := by omega)); (try (have : w.heap.size + 1 < hb2w.heap.size := by omega)); (try (have : w.heap.size + 1 + 1 < hb2w.heap.size := by omega)); (try (have : w.heap.size + 1 + 1 + 1 < hb2w.heap.size := by omega)); (try (have : bX < hb2w.heap.size := by omega)); (try (have : bY < hb2w.heap.size := by omega)); (try (have : bZ < hb2w.heap.size := by omega))))
      go_loopg [3] Z.length (fun kx s3 wr => ∃ (k : Nat) (e : Later hb2w), s3 = .int .i64 k ∧ k ≤ Z.length ∧ Z.length - k ≤ kx ∧ wr = e.w ∧ Hid (∀ t, t < k → tqRow (Z.getD t []) = false))
      case atStart => exact ⟨0, ⟨_, Below.refl _ _⟩, rfl, by omega, by omega, rfl, Lib.hid (fun t h => absurd h (Nat.not_lt_zero _))⟩
      case round =>
        obtain ⟨k, e, rfl, hk, hkx, rfl, HP⟩ := hrel
        have hes := e.h.size
        have hbo : w.heap.size < e.w.heap.size := by omega
        have hbz : bZ < e.w.heap.size := by omega
        by_cases hlt : k < Z.length
        · have hbw : Below w.heap.size w e.w := by (repeat' (first | (with_reducible exact Below.refl _ _) | (with_reducible assumption) | (with_reducible refine below_alloc ?_ _) | (with_reducible refine Below.drew ?_) | (with_reducible refine below_drewN ?_ _) | (with_reducible refine below_step (by assumption) ?_) | (with_reducible refine below_later ?_ _) | (with_reducible refine Below.setCell ?_ ?_ _) | go_size))
          obtain ⟨ri, ci, g1, g2⟩ := HC.out k (by have := HZL.out; omega)
          have hrl := HRL.out k (by have := HZL.out; omega)
          rw [hrl] at g1
          have hc1 : e.w.cell? ⟨bZ, oZ + k, none⟩ = some (.slice ri Y.length ci) := by
            rw [hbw.cell (p := ⟨bZ, oZ + k, none⟩) hbZ]; exact g1
          obtain ⟨b1, o1, rfl, hb1lt, hcr⟩ := (g2.later hbw).cells (fun e => by rw [e] at hrl; simp at hrl; omega)
          have HCR := Lib.hid hcr
          have hk1 : (0 : Int) ≤ (k : Int) := by omega
          have hk2 : (k : Int) < Z.length := by omega
          have HB := Lib.hid (HF.out k (by have := HZL.out; omega))
          have HLT : Hid (k < Z.length) := Lib.hid hlt
          have HG : Hid (tqRow (Z.getD k []) = false → ∀ t, t < k + 1 → tqRow (Z.getD t []) = false) := Lib.hid (fun h t ht => by
            by_cases e : t = k
            · subst e; exact h
            · exact HP.out t (by omega))
          clear g1 g2 hcr hbw
          generalize Z.getD k [] = row at *
          have HRW := Lib.hid hrl
          clear hrl
          go_wp2
          go_loopg [4] Y.length (fun ky s4 wq => ∃ (j : Nat), s4 = .int .i64 j ∧ j ≤ Y.length ∧ Y.length - j ≤ ky ∧ wq = e.w ∧ Hid (∀ t, t < j → inB (row.getD t 0) 0 10000 = true) ∧ Hid (∀ t, t + 1 < j → row.getD t 0 ≤ row.getD (t + 1) 0))
          case atStart => exact ⟨0, rfl, by omega, by omega, rfl, Lib.hid (fun t h => absurd h (Nat.not_lt_zero _)), Lib.hid (fun t h => absurd h (Nat.not_lt_zero _))⟩
          case round =>
            obtain ⟨j, rfl, hj, hjy, rfl, HI1, HI2⟩ := hrel
            by_cases hjl : j < Y.length
            · have hj1 : (0 : Int) ≤ (j : Int) := by omega
              have hj2 : (j : Int) < Y.length := by omega
              have hc2 := HCR.out j (by have := HRW.out; omega)
              have HB1 : Hid (inB (row.getD j 0) 0 10000 = false → tqB X Y Z xs ys = false) := Lib.hid (fun h => HB.out (row_bad1 (by have := HRW.out; omega) h))
              have HG1 : Hid (inB (row.getD j 0) 0 10000 = true → ∀ t, t < j + 1 → inB (row.getD t 0) 0 10000 = true) := Lib.hid (fun h t ht => by
                by_cases e : t = j
                · subst e; exact h
                · exact HI1.out t (by omega))
              by_cases hj0 : j = 0
              · have HG2 : Hid (∀ t, t + 1 < j + 1 → row.getD t 0 ≤ row.getD (t + 1) 0) := Lib.hid (fun t ht => by omega)
                have hjz : ¬ (0 : Int) < (j : Int) := by omega
                have hjz2 : decide ((0 : Int) < (j : Int)) = false := by simp; omega
                have hjz3 : decide (0 < j) = false := by simp; omega
                have HJ0 := Lib.hid hj0
                clear hj0
                generalize row.getD j 0 = z at hc2 HB1 HG1
                by_cases hz0 : z < 0
                · have H := Lib.hid (HB1.out (inB_false.2 (by omega)))
                  go_wp2
                  go_ret
                  exact ⟨by rw [H.out]; first | done | rfl, by (repeat' (first | (with_reducible exact Below.refl _ _) | (with_reducible assumption) | (with_reducible refine below_alloc ?_ _) | (with_reducible refine Below.drew ?_) | (with_reducible refine below_drewN ?_ _) | (with_reducible refine below_step (by assumption) ?_) | (with_reducible refine below_later ?_ _) | (with_reducible refine Below.setCell ?_ ?_ _) | go_size))⟩
                · by_cases hz1 : 10000 < z
                  · have H := Lib.hid (HB1.out (inB_false.2 (by omega)))
                    go_wp2
                    go_ret
                    exact ⟨by rw [H.out]; first | done | rfl, by (repeat' (first | (with_reducible exact Below.refl _ _) | (with_reducible assumption) | (with_reducible refine below_alloc ?_ _) | (with_reducible refine Below.drew ?_) | (with_reducible refine below_drewN ?_ _) | (with_reducible refine below_step (by assumption) ?_) | (with_reducible refine below_later ?_ _) | (with_reducible refine Below.setCell ?_ ?_ _) | go_size))⟩
                  · have H := Lib.hid (HG1.out (inB_true.2 (by omega)))
                    go_wp2
                    go_roundg (Y.length - (j + 1))
                    case measure => omega
                    case rel => exact ⟨j + 1, by go_num, by omega, by omega, rfl, H, HG2⟩
              · have hj3 : (0 : Int) < (j : Int) := by omega
                have hj6 : 0 < j := by omega
                have hw1 : IntKind.i64.wrap ((j : Int) - 1) = (j : Int) - 1 := IntWalk.i64_in _ (by omega)
                have hj4 : (0 : Int) ≤ (j : Int) - 1 := by omega
                have hj7 : (1 : Int) ≤ (j : Int) := by omega
                have hj8 : 1 ≤ j := by omega
                have hj5 : (j : Int) - 1 < Y.length := by omega
                have hj9 : ((j : Int) - 1).toNat = j - 1 := by omega
                have hc3 := HCR.out (j - 1) (by have := HRW.out; omega)
                have HB2 : Hid (row.getD j 0 < row.getD (j - 1) 0 → tqB X Y Z xs ys = false) := Lib.hid (fun h => HB.out (row_bad2 (t := j - 1) (by have := HRW.out; omega) (by rw [show j - 1 + 1 = j by omega]; exact h)))
                have HG2 : Hid (row.getD (j - 1) 0 ≤ row.getD j 0 → ∀ t, t + 1 < j + 1 → row.getD t 0 ≤ row.getD (t + 1) 0) := Lib.hid (fun h t ht => by
                  by_cases e : t = j - 1
                  · subst e
                    rw [show j - 1 + 1 = j by omega]
                    exact h
                  · exact HI2.out t (by omega))
                generalize row.getD j 0 = z at hc2 HB1 HG1 HB2 HG2
                generalize row.getD (j - 1) 0 = y at hc3 HB2 HG2
                clear hj0
                by_cases hz0 : z < 0
                · have H := Lib.hid (HB1.out (inB_false.2 (by omega)))
                  go_wp2
                  go_ret
                  exact ⟨by rw [H.out]; first | done | rfl, by (repeat' (first | (with_reducible exact Below.refl _ _) | (with_reducible assumption) | (with_reducible refine below_alloc ?_ _) | (with_reducible refine Below.drew ?_) | (with_reducible refine below_drewN ?_ _) | (with_reducible refine below_step (by assumption) ?_) | (with_reducible refine below_later ?_ _) | (with_reducible refine Below.setCell ?_ ?_ _) | go_size))⟩
                · by_cases hz1 : 10000 < z
                  · have H := Lib.hid (HB1.out (inB_false.2 (by omega)))
                    go_wp2
                    go_ret
                    exact ⟨by rw [H.out]; first | done | rfl, by (repeat' (first | (with_reducible exact Below.refl _ _) | (with_reducible assumption) | (with_reducible refine below_alloc ?_ _) | (with_reducible refine Below.drew ?_) | (with_reducible refine below_drewN ?_ _) | (with_reducible refine below_step (by assumption) ?_) | (with_reducible refine below_later ?_ _) | (with_reducible refine Below.setCell ?_ ?_ _) | go_size))⟩
                  · have H := Lib.hid (HG1.out (inB_true.2 (by omega)))
                    by_cases hzy : z < y
                    · have H := Lib.hid (HB2.out hzy)
                      go_wp2
                      go_ret
                      exact ⟨by rw [H.out]; first | done | rfl, by (repeat' (first | (with_reducible exact Below.refl _ _) | (with_reducible assumption) | (with_reducible refine below_alloc ?_ _) | (with_reducible refine Below.drew ?_) | (with_reducible refine below_drewN ?_ _) | (with_reducible refine below_step (by assumption) ?_) | (with_reducible refine below_later ?_ _) | (with_reducible refine Below.setCell ?_ ?_ _) | go_size))⟩
                    · have H2 := Lib.hid (HG2.out (by omega))
                      go_wp2
                      go_roundg (Y.length - (j + 1))
                      case measure => omega
                      case rel => exact ⟨j + 1, by go_num, by omega, by omega, rfl, H, H2⟩
            · obtain rfl : j = Y.length := by omega
              have HG2 := Lib.hid (HG.out (row_ok (fun t ht => HI1.out t (by have := HRW.out; omega)) (fun t ht => HI2.out t (by have := HRW.out; omega))))
              go_wp2
              go_roundg (Z.length - (k + 1))
              case measure => have := HLT.out; omega
              case rel => exact ⟨k + 1, e, by go_num, by have := HLT.out; omega, by have := HLT.out; omega, rfl, HG2⟩
        · obtain rfl : k = Z.length := by omega
          have H := Lib.hid (HT.out (fun t ht => HP.out t (by have := HZL.out; omega)))
          go_wp2
          go_ret
          exact ⟨by rw [H.out]; first | done | rfl, by (repeat' (first | (with_reducible exact Below.refl _ _) | (with_reducible assumption) | (with_reducible refine below_alloc ?_ _) | (with_reducible refine Below.drew ?_) | (with_reducible refine below_drewN ?_ _) | (with_reducible refine below_step (by assumption) ?_) | (with_reducible refine below_later ?_ _) | (with_reducible refine Below.setCell ?_ ?_ _) | go_size))⟩

theorem r35speed_any (x : Int) (w : World) : Calls Try.prog 27 #[.int .i64 x] w fun e w' => e = .returned (.bool (inB x 0 12000)) ∧ w = w' := by
  go_enter Try.func27, Try.ntmps27
  go_wp2
  all_goals go_ret
  all_goals exact ⟨ret_bool (by grind [inB]), rfl⟩
theorem r35charge_any (x : Int) (w : World) : Calls Try.prog 29 #[.int .i64 x] w fun e w' => e = .returned (.bool (inB x 0 1048576)) ∧ w = w' := by
  go_enter Try.func29, Try.ntmps29
  go_wp2
  all_goals go_ret
  all_goals exact ⟨ret_bool (by grind [inB]), rfl⟩
theorem points_any (x y : Int) (w : World) : Calls Try.prog 17 #[.int .i64 x, .int .i64 y] w fun e w' => e = .returned (.bool (inB x 0 12000 && inB y 0 1048576)) ∧ w = w' := by
  cases h : inB x 0 12000 <;> cases h2 : inB y 0 1048576
  all_goals
    go_enter Try.func17, Try.ntmps17
    go_wp2_with (first | (go_at_call 27; refine (r35speed_any _ _).mono ?_; rintro e w' ⟨rfl, rfl⟩) | (go_at_call 29; refine (r35charge_any _ _).mono ?_; rintro e w' ⟨rfl, rfl⟩))
    go_ret
    exact ⟨by simp, rfl⟩
set_option maxRecDepth 100000 in
set_option maxHeartbeats 1000000 in
theorem r35opt_any (tab : Array Value) (X Y : List Int) (Z : List (List Int)) (xs ys : List Int) (w : World) (hsz : tab.size = 24) (hM : MapAt w tab 6 7 8 X Y Z) (hE : CurAt w tab 18 19 xs ys) (s c : Int) (hok : MapOk X Y Z) :
    Calls Try.prog 18 #[.agg tab, .int .i64 s, .int .i64 c] w fun e w' => e = .returned (.int .i64 (mval X Y Z s c)) ∧ Below w.heap.size w w' := by
  have HM : Hid (∀ w', Below w.heap.size w w' → MapAt w' tab 6 7 8 X Y Z) := Lib.hid (fun _ h => hM.later h)
  have HE : Hid (∀ w', Below w.heap.size w w' → CurAt w' tab 18 19 xs ys) := Lib.hid (fun _ h => hE.later h)
  have HI : Hid ((Try.prog.info? 31).map (·.size) = some tab.size) := Lib.hid (by rw [hsz]; kernel_rfl)
  have HSZ := Lib.hid hsz
  clear hsz
  obtain ⟨rX, cX, rY, cY, rZ, cZ, h6, h7, h8, hX, hY, hZ⟩ := hM.ex
  have HX : Hid (∀ w', Below w.heap.size w w' → IsInts w' rX cX .i64 X) := Lib.hid (fun _ h => hX.later h)
  have HY : Hid (∀ w', Below w.heap.size w w' → IsInts w' rY cY .i64 Y) := Lib.hid (fun _ h => hY.later h)
  have HZ : Hid (∀ w', Below w.heap.size w w' → IsRows w' rZ cZ Z) := Lib.hid (fun _ h => hZ.later h)
  have HAT := Lib.hid (fun w hX hY hZ => r6At_any rX rY rZ cX cY cZ X Y Z s c w hX hY hZ hok)
  clear hM hE hX hY hZ hok
  generalize mval X Y Z s c = v at *
  go_enter Try.func18, Try.ntmps18
  go_wp2_with ((go_at_call 48; refine (HAT.out _ (HX.out _ (by (repeat' (first | (with_reducible exact Below.refl _ _) | (with_reducible assumption) | (with_reducible refine below_alloc ?_ _) | (with_reducible refine Below.drew ?_) | (with_reducible refine below_drewN ?_ _) | (with_reducible refine below_step (by assumption) ?_) | (with_reducible refine below_later ?_ _) | (with_reducible refine Below.setCell ?_ ?_ _) | go_size)))) (HY.out _ (by (repeat' (first | (with_reducible exact Below.refl _ _) | (with_reducible assumption) | (with_reducible refine below_alloc ?_ _) | (with_reducible refine Below.drew ?_) | (with_reducible refine below_drewN ?_ _) | (with_reducible refine below_step (by assumption) ?_) | (with_reducible refine below_later ?_ _) | (with_reducible refine Below.setCell ?_ ?_ _) | go_size)))) (HZ.out _ (by (repeat' (first | (with_reducible exact Below.refl _ _) | (with_reducible assumption) | (with_reducible refine below_alloc ?_ _) | (with_reducible refine Below.drew ?_) | (with_reducible refine below_drewN ?_ _) | (with_reducible refine below_step (by assumption) ?_) | (with_reducible refine below_later ?_ _) | (with_reducible refine Below.setCell ?_ ?_ _) | go_size))))).mono ?_; rintro e hb1w ⟨rfl, hb1⟩; obtain ⟨hb1c, hb1f⟩ := bcell hb1; have hb1s := hb1.size; (try simp only [World.size_alloc] at hb1s); (try (have : w.heap.size < hb1w.heap.size := by omega)); (try (have : w.heap.size + 1 < hb1w.heap.size := by omega)); (try (have : w.heap.size + 1 + 1 < hb1w.heap.size := by omega)); (try (have : w.heap.size + 1 + 1 + 1 < hb1w.heap.size := by omega)); (try (have : bX < hb1w.heap.size := by omega)); (try (have : bY < hb1w.heap.size := by omega)); (try (have : bZ < hb1w.heap.size := by omega))))
  go_ret
  exact ⟨rfl, by (repeat' (first | (with_reducible exact Below.refl _ _) | (with_reducible assumption) | (with_reducible refine below_alloc ?_ _) | (with_reducible refine Below.drew ?_) | (with_reducible refine below_drewN ?_ _) | (with_reducible refine below_step (by assumption) ?_) | (with_reducible refine below_later ?_ _) | (with_reducible refine Below.setCell ?_ ?_ _) | go_size))⟩
set_option maxRecDepth 100000 in
set_option maxHeartbeats 1000000 in
theorem r35torq_any (tab : Array Value) (X Y : List Int) (Z : List (List Int)) (xs ys : List Int) (w : World) (hsz : tab.size = 24) (hM : MapAt w tab 6 7 8 X Y Z) (hE : CurAt w tab 18 19 xs ys) (s c l f n : Int) (hok : TqOk X Y Z xs ys) (f0 : 0 ≤ f) (f1 : f ≤ 8) (c0 : 1 ≤ n) (c1 : n ≤ 8) :
    Calls Try.prog 20 #[.agg tab, .int .i64 s, .int .i64 c, .int .i64 l, .int .i64 f, .int .i64 n] w fun e w' => e = .returned (.int .i64 (tqV (mval X Y Z s c) (cval xs ys l) f n)) ∧ Below w.heap.size w w' := by
  have HM : Hid (∀ w', Below w.heap.size w w' → MapAt w' tab 6 7 8 X Y Z) := Lib.hid (fun _ h => hM.later h)
  have HE : Hid (∀ w', Below w.heap.size w w' → CurAt w' tab 18 19 xs ys) := Lib.hid (fun _ h => hE.later h)
  have HI : Hid ((Try.prog.info? 31).map (·.size) = some tab.size) := Lib.hid (by rw [hsz]; kernel_rfl)
  have HSZ := Lib.hid hsz
  clear hsz
  obtain ⟨rx, cx, ry, cy, h18, h19, hx, hy⟩ := hE.ex
  have Hx : Hid (∀ w', Below w.heap.size w w' → IsInts w' rx cx .i64 xs) := Lib.hid (fun _ h => hx.later h)
  have Hy : Hid (∀ w', Below w.heap.size w w' → IsInts w' ry cy .i64 ys) := Lib.hid (fun _ h => hy.later h)
  have ⟨o0, o1⟩ := tq_bd hok s c
  have ⟨e0, e1⟩ := eff_bd hok l
  have ⟨n1, n2, n3, n4⟩ := tqV_num o0 o1 e0 e1 f0 f1
  have H : Hid (tqV (mval X Y Z s c) (cval xs ys l) f n = mval X Y Z s c * cval xs ys l * f / (1000 * n)) := Lib.hid (by unfold tqV; rfl)
  have HOP := Lib.hid (fun w hM hE => r35opt_any tab X Y Z xs ys w HSZ.out hM hE s c hok.map)
  have HEF := Lib.hid (fun w hx hy => reff_any rx ry cx cy xs ys l w hx hy hok.cur)
  clear hM hE hx hy hok
  generalize cval xs ys l = e at *
  generalize mval X Y Z s c = o at *
  have w1 : IntKind.i64.wrap (o * e) = o * e := IntWalk.i64_in _ (by omega)
  have w2 : IntKind.i64.wrap (o * e * f) = o * e * f := IntWalk.i64_in _ (by omega)
  have w3 : IntKind.i64.wrap (1000 * n) = 1000 * n := IntWalk.i64_in _ (by omega)
  have z : ¬ 1000 * n = 0 := by omega
  have z2 : ¬ n = 0 := by omega
  have d1 : (o * e * f).tdiv (1000 * n) = o * e * f / (1000 * n) := Int.tdiv_eq_ediv_of_nonneg n3
  have d2 : 0 ≤ o * e * f / (1000 * n) := Int.ediv_nonneg n3 (by omega)
  have d3 : o * e * f / (1000 * n) ≤ o * e * f := Int.ediv_le_self _ n3
  have w4 : IntKind.i64.wrap (o * e * f / (1000 * n)) = o * e * f / (1000 * n) := IntWalk.i64_in _ (by omega)
  go_enter Try.func20, Try.ntmps20
  go_wp2
  (refine wp_region_later (by kernel_rfl) (by kernel_rfl) ?_; (repeat (first | (refine wpQuiet_step (fun K hK => ?_); refine quiet_row_K rfl 31 (.tmp 6) rfl w.heap.size rfl 31 tab (0, 0) _ (fun W hW => by obtain ⟨e, rfl⟩ := hW; exact (Below.block (show Below (w.alloc (.cells tab 31)).heap.size (w.alloc (.cells tab 31)) e.w by (repeat' (first | (with_reducible exact Below.refl _ _) | (with_reducible assumption) | (with_reducible refine below_alloc ?_ _) | (with_reducible refine Below.drew ?_) | (with_reducible refine below_drewN ?_ _) | (with_reducible refine below_step (by assumption) ?_) | (with_reducible refine below_later ?_ _) | (with_reducible refine Below.setCell ?_ ?_ _) | go_size))) _ (by simp)).trans (heap_alloc_new _ _)) Try.underlying31 rfl HI.out ?_; go_simp; refine hK _ ?_; clear hK K) | go_big_quiet_step ((first | (go_at_call 18; exact later_call (HOP.out _ (HM.out _ (by (repeat' (first | (with_reducible exact Below.refl _ _) | (with_reducible assumption) | (with_reducible refine below_alloc ?_ _) | (with_reducible refine Below.drew ?_) | (with_reducible refine below_drewN ?_ _) | (with_reducible refine below_step (by assumption) ?_) | (with_reducible refine below_later ?_ _) | (with_reducible refine Below.setCell ?_ ?_ _) | go_size)))) (HE.out _ (by (repeat' (first | (with_reducible exact Below.refl _ _) | (with_reducible assumption) | (with_reducible refine below_alloc ?_ _) | (with_reducible refine Below.drew ?_) | (with_reducible refine below_drewN ?_ _) | (with_reducible refine below_step (by assumption) ?_) | (with_reducible refine below_later ?_ _) | (with_reducible refine Below.setCell ?_ ?_ _) | go_size)))))) | (go_at_call 50; exact later_call (HEF.out _ (Hx.out _ (by (repeat' (first | (with_reducible exact Below.refl _ _) | (with_reducible assumption) | (with_reducible refine below_alloc ?_ _) | (with_reducible refine Below.drew ?_) | (with_reducible refine below_drewN ?_ _) | (with_reducible refine below_step (by assumption) ?_) | (with_reducible refine below_later ?_ _) | (with_reducible refine Below.setCell ?_ ?_ _) | go_size)))) (Hy.out _ (by (repeat' (first | (with_reducible exact Below.refl _ _) | (with_reducible assumption) | (with_reducible refine below_alloc ?_ _) | (with_reducible refine Below.drew ?_) | (with_reducible refine below_drewN ?_ _) | (with_reducible refine below_step (by assumption) ?_) | (with_reducible refine below_later ?_ _) | (with_reducible refine Below.setCell ?_ ?_ _) | go_size)))))))))); refine wpQuiet_nil ?_; rintro _ ⟨e1, rfl⟩; have e1s := e1.h.size; (try simp only [World.size_alloc, World.size_drewN, World.drewN_heap] at e1s); (try (have : w.heap.size < e1.w.heap.size := by omega)); (try (have : w.heap.size + 1 < e1.w.heap.size := by omega)); (try (have : w.heap.size + 1 + 1 < e1.w.heap.size := by omega)); (try (have : w.heap.size + 1 + 1 + 1 < e1.w.heap.size := by omega)); (try (have : bX < e1.w.heap.size := by omega)); (try (have : bY < e1.w.heap.size := by omega)); (try (have : bZ < e1.w.heap.size := by omega)))
  go_wp2
  go_ret
  exact ⟨by rw [H.out]; first | done | rfl | simp [*], by (repeat' (first | (with_reducible exact Below.refl _ _) | (with_reducible assumption) | (with_reducible refine below_alloc ?_ _) | (with_reducible refine Below.drew ?_) | (with_reducible refine below_drewN ?_ _) | (with_reducible refine below_step (by assumption) ?_) | (with_reducible refine below_later ?_ _) | (with_reducible refine Below.setCell ?_ ?_ _) | go_size))⟩
end Go.Proofs.Ytpmjnpbigppllaa
