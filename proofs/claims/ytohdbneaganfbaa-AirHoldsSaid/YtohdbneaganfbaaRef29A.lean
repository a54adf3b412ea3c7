/- Contract of the reference of air: in, Valid. -/
import Derived.Test.YtohdbneaganfbaaAirB
import Derived.Test.YtohdbneaganfbaaRef05
import Derived.Test.YtohdbneaganfbaaRef06A
namespace Go.Proofs.Ytohdbneaganfbaa
set_option linter.unusedVariables false
set_option linter.unusedSimpArgs false
open Go.RowKit Go.ChangeShapes Go.WideShapes Go.ChangeAt

theorem r29in_any (x lo hi : Int) (w : World) : Calls Try.prog 59 #[.int .i64 x, .int .i64 lo, .int .i64 hi] w fun e w' => e = .returned (.bool (inB x lo hi)) ∧ w = w' := by
  go_enter Try.func59, Try.ntmps59
  go_wp2
  all_goals go_ret
  all_goals exact ⟨ret_bool (by grind [inB]), rfl⟩
theorem airRow_ok2 {row : List Int} (h1 : ∀ t, t < row.length → inB (row.getD t 0) 0 1048576 = true) (h2 : ∀ t, t + 1 < row.length → row.getD t 0 ≤ row.getD (t + 1) 0) : airRow row = false := by
  unfold airRow
  rw [any_in (fun t ht => inB_true.1 (h1 t ht)), upB_true.2 h2]
  rfl
theorem airRow_bad2 {row : List Int} {t : Nat} (ht : t + 1 < row.length) (h : row.getD (t + 1) 0 < row.getD t 0) : airRow row = true :=
  airRow_up (upB_false.2 (fun hh => by have := hh t ht; omega))

set_option maxRecDepth 100000 in
set_option maxHeartbeats 2000000 in
theorem r29valid_any (tab : Array Value) (X Y : List Int) (Z : List (List Int)) (xs ys : List Int) (w : World) (hsz : tab.size = 24) (hM : MapAt w tab 0 1 2 X Y Z) (hE : CurAt w tab 12 13 xs ys) :
    Calls Try.prog 22 #[.agg tab] w fun e w' => e = .returned (.bool (airB X Y Z xs ys)) ∧ Below w.heap.size w w' := by
  obtain ⟨rX, cX, rY, cY, rZ, cZ, h6, h7, h8, hX, hY, hZ⟩ := hM.ex
  obtain ⟨rx, cx, ry, cy, h18, h19, hx, hy⟩ := hE.ex
  have HX : Hid (∀ w', Below w.heap.size w w' → IsInts w' rX cX .i64 X) := Lib.hid (fun _ h => hX.later h)
  have HY : Hid (∀ w', Below w.heap.size w w' → IsInts w' rY cY .i64 Y) := Lib.hid (fun _ h => hY.later h)
  have HZ : Hid (∀ w', Below w.heap.size w w' → IsRows w' rZ cZ Z) := Lib.hid (fun _ h => hZ.later h)
  have Hx : Hid (∀ w', Below w.heap.size w w' → IsInts w' rx cx .i64 xs) := Lib.hid (fun _ h => hx.later h)
  have Hy : Hid (∀ w', Below w.heap.size w w' → IsInts w' ry cy .i64 ys) := Lib.hid (fun _ h => hy.later h)
  have HI : Hid ((Try.prog.info? 31).map (·.size) = some tab.size) := Lib.hid (by rw [hsz]; kernel_rfl)
  clear hsz hM hE hX hY hx
  cases hm : mapB X Y Z with
  | false =>
    have H := Lib.hid (airB_false.2 (fun h : AirOk X Y Z xs ys => mapB_false.1 hm h.map))
    clear hZ hy
    go_enter Try.func22, Try.ntmps22
    go_wp2_with ((go_at_call 68; refine (r6valid_any _ _ _ _ _ _ _ _ _ _ (HX.out _ (by (repeat' (first | (with_reducible exact Below.refl _ _) | (with_reducible assumption) | (with_reducible refine below_alloc ?_ _) | (with_reducible refine Below.drew ?_) | (with_reducible refine below_drewN ?_ _) | (with_reducible refine below_step (by assumption) ?_) | (with_reducible refine below_later ?_ _) | (with_reducible refine Below.setCell ?_ ?_ _) | go_size)))) (HY.out _ (by (repeat' (first | (with_reducible exact Below.refl _ _) | (with_reducible assumption) | (with_reducible refine below_alloc ?_ _) | (with_reducible refine Below.drew ?_) | (with_reducible refine below_drewN ?_ _) | (with_reducible refine below_step (by assumption) ?_) | (with_reducible refine below_later ?_ _) | (with_reducible refine Below.setCell ?_ ?_ _) | go_size)))) (HZ.out _ (by (repeat' (first | (with_reducible exact Below.refl _ _) | (with_reducible assumption) | (with_reducible refine below_alloc ?_ _) | (with_reducible refine Below.drew ?_) | (with_reducible refine below_drewN ?_ _) | (with_reducible refine below_step (by assumption) ?_) | (with_reducible refine below_later ?_ _) | (with_reducible refine Below.setCell ?_ ?_ _) | go_size))))).mono ?_; rintro e hb1w ⟨rfl, hb1⟩; obtain ⟨hb1c, hb1f⟩ := bcell hb1; have hb1s := hb1.size; (try simp only [World.size_alloc] at hb1s); (try (have : w.heap.size < hb1w.heap.size := by omega)); (try (have : w.heap.size + 1 < hb1w.heap.size := by omega)); (try (have : w.heap.size + 1 + 1 < hb1w.heap.size := by omega)); (try (have : w.heap.size + 1 + 1 + 1 < hb1w.heap.size := by omega)); (try (have : bX < hb1w.heap.size := by omega)); (try (have : bY < hb1w.heap.size := by omega)); (try (have : bZ < hb1w.heap.size := by omega))))
    go_ret
    exact ⟨by rw [H.out]; first | done | rfl, by (repeat' (first | (with_reducible exact Below.refl _ _) | (with_reducible assumption) | (with_reducible refine below_alloc ?_ _) | (with_reducible refine Below.drew ?_) | (with_reducible refine below_drewN ?_ _) | (with_reducible refine below_step (by assumption) ?_) | (with_reducible refine below_later ?_ _) | (with_reducible refine Below.setCell ?_ ?_ _) | go_size))⟩
  | true =>
    have hMOK := mapB_true.1 hm
    cases hc : curveB xs ys with
    | false =>
      have H := Lib.hid (airB_false.2 (fun h : AirOk X Y Z xs ys => curveB_false.1 hc h.cur))
      clear hZ hy hMOK
      go_enter Try.func22, Try.ntmps22
      go_wp2_with (first | (go_at_call 68; refine (r6valid_any _ _ _ _ _ _ _ _ _ _ (HX.out _ (by (repeat' (first | (with_reducible exact Below.refl _ _) | (with_reducible assumption) | (with_reducible refine below_alloc ?_ _) | (with_reducible refine Below.drew ?_) | (with_reducible refine below_drewN ?_ _) | (with_reducible refine below_step (by assumption) ?_) | (with_reducible refine below_later ?_ _) | (with_reducible refine Below.setCell ?_ ?_ _) | go_size)))) (HY.out _ (by (repeat' (first | (with_reducible exact Below.refl _ _) | (with_reducible assumption) | (with_reducible refine below_alloc ?_ _) | (with_reducible refine Below.drew ?_) | (with_reducible refine below_drewN ?_ _) | (with_reducible refine below_step (by assumption) ?_) | (with_reducible refine below_later ?_ _) | (with_reducible refine Below.setCell ?_ ?_ _) | go_size)))) (HZ.out _ (by (repeat' (first | (with_reducible exact Below.refl _ _) | (with_reducible assumption) | (with_reducible refine below_alloc ?_ _) | (with_reducible refine Below.drew ?_) | (with_reducible refine below_drewN ?_ _) | (with_reducible refine below_step (by assumption) ?_) | (with_reducible refine below_later ?_ _) | (with_reducible refine Below.setCell ?_ ?_ _) | go_size))))).mono ?_; rintro e hb1w ⟨rfl, hb1⟩; obtain ⟨hb1c, hb1f⟩ := bcell hb1; have hb1s := hb1.size; (try simp only [World.size_alloc] at hb1s); (try (have : w.heap.size < hb1w.heap.size := by omega)); (try (have : w.heap.size + 1 < hb1w.heap.size := by omega)); (try (have : w.heap.size + 1 + 1 < hb1w.heap.size := by omega)); (try (have : w.heap.size + 1 + 1 + 1 < hb1w.heap.size := by omega)); (try (have : bX < hb1w.heap.size := by omega)); (try (have : bY < hb1w.heap.size := by omega)); (try (have : bZ < hb1w.heap.size := by omega))) | (go_at_call 69; refine (rvalid_any _ _ _ _ _ _ _ (Hx.out _ (by (repeat' (first | (with_reducible exact Below.refl _ _) | (with_reducible assumption) | (with_reducible refine below_alloc ?_ _) | (with_reducible refine Below.drew ?_) | (with_reducible refine below_drewN ?_ _) | (with_reducible refine below_step (by assumption) ?_) | (with_reducible refine below_later ?_ _) | (with_reducible refine Below.setCell ?_ ?_ _) | go_size)))) (Hy.out _ (by (repeat' (first | (with_reducible exact Below.refl _ _) | (with_reducible assumption) | (with_reducible refine below_alloc ?_ _) | (with_reducible refine Below.drew ?_) | (with_reducible refine below_drewN ?_ _) | (with_reducible refine below_step (by assumption) ?_) | (with_reducible refine below_later ?_ _) | (with_reducible refine Below.setCell ?_ ?_ _) | go_size))))).mono ?_; rintro e hb2w ⟨rfl, hb2⟩; obtain ⟨hb2c, hb2f⟩ := bcell hb2; have hb2s := hb2.size; (try simp only [World.size_alloc] at hb2s); (try (have : w.heap.size < hb2w.heap.size := by omega)); (try (have : w.heap.size + 1 < hb2w.heap.size := by omega)); (try (have : w.heap.size + 1 + 1 < hb2w.heap.size := by omega)); (try (have : w.heap.size + 1 + 1 + 1 < hb2w.heap.size := by omega)); (try (have : bX < hb2w.heap.size := by omega)); (try (have : bY < hb2w.heap.size := by omega)); (try (have : bZ < hb2w.heap.size := by omega))))
      go_ret
      exact ⟨by rw [H.out]; first | done | rfl, by (repeat' (first | (with_reducible exact Below.refl _ _) | (with_reducible assumption) | (with_reducible refine below_alloc ?_ _) | (with_reducible refine Below.drew ?_) | (with_reducible refine below_drewN ?_ _) | (with_reducible refine below_step (by assumption) ?_) | (with_reducible refine below_later ?_ _) | (with_reducible refine Below.setCell ?_ ?_ _) | go_size))⟩
    | true =>
      have hl := hMOK.2.2.1
      have h2 := hMOK.1.1
      have h32 := hMOK.1.2.1
      have h2y := hMOK.2.1.1
      have h32y := hMOK.2.1.2.1
      have hCOK := curveB_true.1 hc
      have k2 := hCOK.2.1.1
      have k32 := hCOK.2.1.2.1
      have kl := hCOK.1
      obtain ⟨bZ, oZ, rfl, hbZ, hcZ⟩ := hZ.cells (fun e => by rw [e] at hl; simp at hl; omega)
      obtain ⟨bT, oT, rfl, hbT, hcT⟩ := hy.cells (fun e => by have := congrArg List.length e; simp only [List.length_nil] at this; omega)
      have HC := Lib.hid hcZ
      have HCT := Lib.hid hcT
      have HRL := Lib.hid (fun t ht => (hMOK.2.2.2 t ht).1)
      have HZL := Lib.hid hl
      have HYL := Lib.hid kl
      have hz32 : Z.length ≤ 32 := by omega
      have hy32 : ys.length ≤ 32 := by omega
      have HT : Hid ((∀ t, t < Z.length → airRow (Z.getD t []) = false) → (∀ t, t < ys.length → inB (ys.getD t 0) 100 3000 = true) → airB X Y Z xs ys = true) := Lib.hid (fun h g => airB_true.2 ⟨hMOK, hCOK, any_in (fun t ht => inB_true.1 (g t ht)), h⟩)
      have HF : Hid (∀ t, t < Z.length → airRow (Z.getD t []) = true → airB X Y Z xs ys = false) := Lib.hid (fun t ht h => airB_false.2 (fun hh => by have := hh.rows t ht; rw [h] at this; cases this))
      have HFY : Hid (∀ t, t < ys.length → inB (ys.getD t 0) 100 3000 = false → airB X Y Z xs ys = false) := Lib.hid (fun t ht h => airB_false.2 (fun hh => inB_false.1 h (any_bd hh.bd ht)))
      clear hZ hy hcZ hcT hMOK hCOK hl kl
      go_enter Try.func22, Try.ntmps22
      go_wp2_with (first | (go_at_call 68; refine (r6valid_any _ _ _ _ _ _ _ _ _ _ (HX.out _ (by (repeat' (first | (with_reducible exact Below.refl _ _) | (with_reducible assumption) | (with_reducible refine below_alloc ?_ _) | (with_reducible refine Below.drew ?_) | (with_reducible refine below_drewN ?_ _) | (with_reducible refine below_step (by assumption) ?_) | (with_reducible refine below_later ?_ _) | (with_reducible refine Below.setCell ?_ ?_ _) | go_size)))) (HY.out _ (by (repeat' (first | (with_reducible exact Below.refl _ _) | (with_reducible assumption) | (with_reducible refine below_alloc ?_ _) | (with_reducible refine Below.drew ?_) | (with_reducible refine below_drewN ?_ _) | (with_reducible refine below_step (by assumption) ?_) | (with_reducible refine below_later ?_ _) | (with_reducible refine Below.setCell ?_ ?_ _) | go_size)))) (HZ.out _ (by (repeat' (first | (with_reducible exact Below.refl _ _) | (with_reducible assumption) | (with_reducible refine below_alloc ?_ _) | (with_reducible refine Below.drew ?_) | (with_reducible refine below_drewN ?_ _) | (with_reducible refine below_step (by assumption) ?_) | (with_reducible refine below_later ?_ _) | (with_reducible refine Below.setCell ?_ ?_ _) | go_size))))).mono ?_; rintro e hb1w ⟨rfl, hb1⟩; obtain ⟨hb1c, hb1f⟩ := bcell hb1; have hb1s := hb1.size; (try simp only [World.size_alloc] at hb1s); (try (have : w.heap.size < hb1w.heap.size := by omega)); (try (have : w.heap.size + 1 < hb1w.heap.size := by omega)); (try (have : w.heap.size + 1 + 1 < hb1w.heap.size := by omega)); (try (have : w.heap.size + 1 + 1 + 1 < hb1w.heap.size := by omega)); (try (have : bX < hb1w.heap.size := by omega)); (try (have : bY < hb1w.heap.size := by omega)); (try (have : bZ < hb1w.heap.size := by omega))) | (go_at_call 69; refine (rvalid_any _ _ _ _ _ _ _ (Hx.out _ (by (repeat' (first | (with_reducible exact Below.refl _ _) | (with_reducible assumption) | (with_reducible refine below_alloc ?_ _) | (with_reducible refine Below.drew ?_) | (with_reducible refine below_drewN ?_ _) | (with_reducible refine below_step (by assumption) ?_) | (with_reducible refine below_later ?_ _) | (with_reducible refine Below.setCell ?_ ?_ _) | go_size)))) (Hy.out _ (by (repeat' (first | (with_reducible exact Below.refl _ _) | (with_reducible assumption) | (with_reducible refine below_alloc ?_ _) | (with_reducible refine Below.drew ?_) | (with_reducible refine below_drewN ?_ _) | (with_reducible refine below_step (by assumption) ?_) | (with_reducible refine below_later ?_ _) | (with_reducible refine Below.setCell ?_ ?_ _) | go_size))))).mono ?_; rintro e hb2w ⟨rfl, hb2⟩; obtain ⟨hb2c, hb2f⟩ := bcell hb2; have hb2s := hb2.size; (try simp only [World.size_alloc] at hb2s); (try (have : w.heap.size < hb2w.heap.size := by omega)); (try (have : w.heap.size + 1 < hb2w.heap.size := by omega)); (try (have : w.heap.size + 1 + 1 < hb2w.heap.size := by omega)); (try (have : w.heap.size + 1 + 1 + 1 < hb2w.heap.size := by omega)); (try (have : bX < hb2w.heap.size := by omega)); (try (have : bY < hb2w.heap.size := by omega)); (try (have : bZ < hb2w.heap.size := by omega))))
      go_loopg [3] Z.length (fun kx s3 wr => ∃ (k : Nat) (e : Later hb2w), s3 = .int .i64 k ∧ k ≤ Z.length ∧ Z.length - k ≤ kx ∧ wr = e.w ∧ Hid (∀ t, t < k → airRow (Z.getD t []) = false))
      case atStart => exact ⟨0, ⟨_, Below.refl _ _⟩, rfl, by omega, by omega, rfl, Lib.hid (fun t h => absurd h (Nat.not_lt_zero _))⟩
      case round =>
        obtain ⟨k, e, rfl, hk, hkx, rfl, HP⟩ := hrel
        have hes := e.h.size
        have hbo : w.heap.size < e.w.heap.size := by omega
        have hbz : bZ < e.w.heap.size := by omega
        by_cases hlt : k < Z.length
        · have hbw : Below w.heap.size w e.w := by (repeat' (first | (with_reducible exact Below.refl _ _) | (with_reducible assumption) | (with_reducible refine below_alloc ?_ _) | (with_reducible refine Below.drew ?_) | (with_reducible refine below_drewN ?_ _) | (with_reducible refine below_step (by assumption) ?_) | (with_reducible refine below_later ?_ _) | (with_reducible refine Below.setCell ?_ ?_ _) | go_size))
          obtain ⟨ri, ci, g1, g2⟩ := HC.out k (by have := HZL.out; omega)
          have hrl := HRL.out k (by have := HZL.out; omega)
          rw [hrl] at g1
          have hc1 : e.w.cell? ⟨bZ, oZ + k, none⟩ = some (.slice ri Y.length ci) := by
            rw [hbw.cell (p := ⟨bZ, oZ + k, none⟩) hbZ]; exact g1
          obtain ⟨b1, o1, rfl, hb1lt, hcr⟩ := (g2.later hbw).cells (fun e => by rw [e] at hrl; simp at hrl; omega)
          have HCR := Lib.hid hcr
          have hk1 : (0 : Int) ≤ (k : Int) := by omega
          have hk2 : (k : Int) < Z.length := by omega
          have HB := Lib.hid (HF.out k (by have := HZL.out; omega))
          have HLT : Hid (k < Z.length) := Lib.hid hlt
          have HG : Hid (airRow (Z.getD k []) = false → ∀ t, t < k + 1 → airRow (Z.getD t []) = false) := Lib.hid (fun h t ht => by
            by_cases e : t = k
            · subst e; exact h
            · exact HP.out t (by omega))
          clear g1 g2 hcr hbw
          generalize Z.getD k [] = row at *
          have HRW := Lib.hid hrl
          clear hrl
          go_wp2
          go_loopg [4] Y.length (fun ky s4 wq => ∃ (j : Nat) (q : Later e.w), s4 = .int .i64 j ∧ j ≤ Y.length ∧ Y.length - j ≤ ky ∧ wq = q.w ∧ Hid (∀ t, t < j → inB (row.getD t 0) 0 1048576 = true) ∧ Hid (∀ t, t + 1 < j → row.getD t 0 ≤ row.getD (t + 1) 0))
          case atStart => exact ⟨0, ⟨_, Below.refl _ _⟩, rfl, by omega, by omega, rfl, Lib.hid (fun t h => absurd h (Nat.not_lt_zero _)), Lib.hid (fun t h => absurd h (Nat.not_lt_zero _))⟩
          case round =>
            obtain ⟨j, q, rfl, hj, hjy, rfl, HI1, HI2⟩ := hrel
            have hqs := q.h.size
            have hqo : w.heap.size < q.w.heap.size := by omega
            have hqz : bZ < q.w.heap.size := by omega
            have hq1 : b1 < q.w.heap.size := by omega
            by_cases hjl : j < Y.length
            · have hj1 : (0 : Int) ≤ (j : Int) := by omega
              have hj2 : (j : Int) < Y.length := by omega
              have hc2 := HCR.out j (by have := HRW.out; omega)
              have HB1 : Hid (inB (row.getD j 0) 0 1048576 = false → airB X Y Z xs ys = false) := Lib.hid (fun h => HB.out (airRow_at (by have := HRW.out; omega) h))
              have HG1 : Hid (inB (row.getD j 0) 0 1048576 = true → ∀ t, t < j + 1 → inB (row.getD t 0) 0 1048576 = true) := Lib.hid (fun h t ht => by
                by_cases e : t = j
                · subst e; exact h
                · exact HI1.out t (by omega))
              by_cases hj0 : j = 0
              · have HG2 : Hid (∀ t, t + 1 < j + 1 → row.getD t 0 ≤ row.getD (t + 1) 0) := Lib.hid (fun t ht => by omega)
                have hjz : ¬ (0 : Int) < (j : Int) := by omega
                have hjz2 : decide ((0 : Int) < (j : Int)) = false := by simp; omega
                have hjz3 : decide (0 < j) = false := by simp; omega
                have HJ0 := Lib.hid hj0
                clear hj0
                generalize row.getD j 0 = z at hc2 HB1 HG1
                cases hz : inB z 0 1048576 with
                | false =>
                  have H := Lib.hid (HB1.out hz)
                  go_wp2
                  (refine wp_region_later (by kernel_rfl) (by kernel_rfl) ?_; (repeat (go_big_quiet_step ((go_at_call 59; exact later_same (r29in_any _ _ _ _))))); refine wpQuiet_nil ?_; rintro _ ⟨e1, rfl⟩; have e1s := e1.h.size; (try simp only [World.size_alloc, World.size_drewN, World.drewN_heap] at e1s); (try (have : w.heap.size < e1.w.heap.size := by omega)); (try (have : w.heap.size + 1 < e1.w.heap.size := by omega)); (try (have : w.heap.size + 1 + 1 < e1.w.heap.size := by omega)); (try (have : w.heap.size + 1 + 1 + 1 < e1.w.heap.size := by omega)); (try (have : bX < e1.w.heap.size := by omega)); (try (have : bY < e1.w.heap.size := by omega)); (try (have : bZ < e1.w.heap.size := by omega)))
                  go_wp2
                  go_ret
                  exact ⟨by rw [H.out]; first | done | rfl, by (repeat' (first | (with_reducible exact Below.refl _ _) | (with_reducible assumption) | (with_reducible refine below_alloc ?_ _) | (with_reducible refine Below.drew ?_) | (with_reducible refine below_drewN ?_ _) | (with_reducible refine below_step (by assumption) ?_) | (with_reducible refine below_later ?_ _) | (with_reducible refine Below.setCell ?_ ?_ _) | go_size))⟩
                | true =>
                  have H := Lib.hid (HG1.out hz)
                  go_wp2
                  (refine wp_region_later (by kernel_rfl) (by kernel_rfl) ?_; (repeat (go_big_quiet_step ((go_at_call 59; exact later_same (r29in_any _ _ _ _))))); refine wpQuiet_nil ?_; rintro _ ⟨e1, rfl⟩; have e1s := e1.h.size; (try simp only [World.size_alloc, World.size_drewN, World.drewN_heap] at e1s); (try (have : w.heap.size < e1.w.heap.size := by omega)); (try (have : w.heap.size + 1 < e1.w.heap.size := by omega)); (try (have : w.heap.size + 1 + 1 < e1.w.heap.size := by omega)); (try (have : w.heap.size + 1 + 1 + 1 < e1.w.heap.size := by omega)); (try (have : bX < e1.w.heap.size := by omega)); (try (have : bY < e1.w.heap.size := by omega)); (try (have : bZ < e1.w.heap.size := by omega)))
                  go_wp2
                  go_roundg (Y.length - (j + 1))
                  case measure => omega
                  case rel => exact ⟨j + 1, ⟨e1.w, by (repeat' (first | (with_reducible exact Below.refl _ _) | (with_reducible assumption) | (with_reducible refine below_alloc ?_ _) | (with_reducible refine Below.drew ?_) | (with_reducible refine below_drewN ?_ _) | (with_reducible refine below_step (by assumption) ?_) | (with_reducible refine below_later ?_ _) | (with_reducible refine Below.setCell ?_ ?_ _) | go_size))⟩, by go_num, by omega, by omega, rfl, H, HG2⟩
              · have hj3 : (0 : Int) < (j : Int) := by omega
                have hj6 : 0 < j := by omega
                have hj10 : decide (0 < j) = true := by simp; omega
                have hw1 : IntKind.i64.wrap ((j : Int) - 1) = (j : Int) - 1 := IntWalk.i64_in _ (by omega)
                have hj4 : (0 : Int) ≤ (j : Int) - 1 := by omega
                have hj7 : (1 : Int) ≤ (j : Int) := by omega
                have hj8 : 1 ≤ j := by omega
                have hj5 : (j : Int) - 1 < Y.length := by omega
                have hj9 : ((j : Int) - 1).toNat = j - 1 := by omega
                have hc3 := HCR.out (j - 1) (by have := HRW.out; omega)
                have HB2 : Hid (row.getD j 0 < row.getD (j - 1) 0 → airB X Y Z xs ys = false) := Lib.hid (fun h => HB.out (airRow_bad2 (t := j - 1) (by have := HRW.out; omega) (by rw [show j - 1 + 1 = j by omega]; exact h)))
                have HG2 : Hid (row.getD (j - 1) 0 ≤ row.getD j 0 → ∀ t, t + 1 < j + 1 → row.getD t 0 ≤ row.getD (t + 1) 0) := Lib.hid (fun h t ht => by
                  by_cases e : t = j - 1
                  · subst e
                    rw [show j - 1 + 1 = j by omega]
                    exact h
                  · exact HI2.out t (by omega))
                generalize row.getD j 0 = z at hc2 HB1 HG1 HB2 HG2
                generalize row.getD (j - 1) 0 = y at hc3 HB2 HG2
                clear hj0
                cases hz : inB z 0 1048576 with
                | false =>
                  have H := Lib.hid (HB1.out hz)
                  go_wp2
                  (refine wp_region_later (by kernel_rfl) (by kernel_rfl) ?_; (repeat (go_big_quiet_step ((go_at_call 59; exact later_same (r29in_any _ _ _ _))))); refine wpQuiet_nil ?_; rintro _ ⟨e1, rfl⟩; have e1s := e1.h.size; (try simp only [World.size_alloc, World.size_drewN, World.drewN_heap] at e1s); (try (have : w.heap.size < e1.w.heap.size := by omega)); (try (have : w.heap.size + 1 < e1.w.heap.size := by omega)); (try (have : w.heap.size + 1 + 1 < e1.w.heap.size := by omega)); (try (have : w.heap.size + 1 + 1 + 1 < e1.w.heap.size := by omega)); (try (have : bX < e1.w.heap.size := by omega)); (try (have : bY < e1.w.heap.size := by omega)); (try (have : bZ < e1.w.heap.size := by omega)))
                  go_wp2
                  go_ret
                  exact ⟨by rw [H.out]; first | done | rfl, by (repeat' (first | (with_reducible exact Below.refl _ _) | (with_reducible assumption) | (with_reducible refine below_alloc ?_ _) | (with_reducible refine Below.drew ?_) | (with_reducible refine below_drewN ?_ _) | (with_reducible refine below_step (by assumption) ?_) | (with_reducible refine below_later ?_ _) | (with_reducible refine Below.setCell ?_ ?_ _) | go_size))⟩
                | true =>
                  have H := Lib.hid (HG1.out hz)
                  by_cases hzy : z < y
                  · have H2 := Lib.hid (HB2.out hzy)
                    go_wp2
                    (refine wp_region_later (by kernel_rfl) (by kernel_rfl) ?_; (repeat (go_big_quiet_step ((go_at_call 59; exact later_same (r29in_any _ _ _ _))))); refine wpQuiet_nil ?_; rintro _ ⟨e1, rfl⟩; have e1s := e1.h.size; (try simp only [World.size_alloc, World.size_drewN, World.drewN_heap] at e1s); (try (have : w.heap.size < e1.w.heap.size := by omega)); (try (have : w.heap.size + 1 < e1.w.heap.size := by omega)); (try (have : w.heap.size + 1 + 1 < e1.w.heap.size := by omega)); (try (have : w.heap.size + 1 + 1 + 1 < e1.w.heap.size := by omega)); (try (have : bX < e1.w.heap.size := by omega)); (try (have : bY < e1.w.heap.size := by omega)); (try (have : bZ < e1.w.heap.size := by omega)))
                    go_wp2
                    go_ret
                    exact ⟨by rw [H2.out]; first | done | rfl, by (repeat' (first | (with_reducible exact Below.refl _ _) | (with_reducible assumption) | (with_reducible refine below_alloc ?_ _) | (with_reducible refine Below.drew ?_) | (with_reducible refine below_drewN ?_ _) | (with_reducible refine below_step (by assumption) ?_) | (with_reducible refine below_later ?_ _) | (with_reducible refine Below.setCell ?_ ?_ _) | go_size))⟩
                  · have H2 := Lib.hid (HG2.out (by omega))
                    go_wp2
                    (refine wp_region_later (by kernel_rfl) (by kernel_rfl) ?_; (repeat (go_big_quiet_step ((go_at_call 59; exact later_same (r29in_any _ _ _ _))))); refine wpQuiet_nil ?_; rintro _ ⟨e1, rfl⟩; have e1s := e1.h.size; (try simp only [World.size_alloc, World.size_drewN, World.drewN_heap] at e1s); (try (have : w.heap.size < e1.w.heap.size := by omega)); (try (have : w.heap.size + 1 < e1.w.heap.size := by omega)); (try (have : w.heap.size + 1 + 1 < e1.w.heap.size := by omega)); (try (have : w.heap.size + 1 + 1 + 1 < e1.w.heap.size := by omega)); (try (have : bX < e1.w.heap.size := by omega)); (try (have : bY < e1.w.heap.size := by omega)); (try (have : bZ < e1.w.heap.size := by omega)))
                    go_wp2
                    go_roundg (Y.length - (j + 1))
                    case measure => omega
                    case rel => exact ⟨j + 1, ⟨e1.w, by (repeat' (first | (with_reducible exact Below.refl _ _) | (with_reducible assumption) | (with_reducible refine below_alloc ?_ _) | (with_reducible refine Below.drew ?_) | (with_reducible refine below_drewN ?_ _) | (with_reducible refine below_step (by assumption) ?_) | (with_reducible refine below_later ?_ _) | (with_reducible refine Below.setCell ?_ ?_ _) | go_size))⟩, by go_num, by omega, by omega, rfl, H, H2⟩
            · obtain rfl : j = Y.length := by omega
              have HG2 := Lib.hid (HG.out (airRow_ok2 (fun t ht => HI1.out t (by have := HRW.out; omega)) (fun t ht => HI2.out t (by have := HRW.out; omega))))
              go_wp2
              go_roundg (Z.length - (k + 1))
              case measure => have := HLT.out; omega
              case rel => exact ⟨k + 1, ⟨q.w, e.h.trans (q.h.mono e.h.size)⟩, by go_num, by have := HLT.out; omega, by have := HLT.out; omega, rfl, HG2⟩
        · obtain rfl : k = Z.length := by omega
          have HALL : Hid (∀ t, t < Z.length → airRow (Z.getD t []) = false) := HP
          go_wp2
          go_loopg [5] ys.length (fun ky s5 wq => ∃ (j : Nat), s5 = .int .i64 j ∧ j ≤ ys.length ∧ ys.length - j ≤ ky ∧ wq = e.w ∧ Hid (∀ t, t < j → inB (ys.getD t 0) 100 3000 = true))
          case atStart => exact ⟨0, rfl, by omega, by omega, rfl, Lib.hid (fun t h => absurd h (Nat.not_lt_zero _))⟩
          case round =>
            obtain ⟨j, rfl, hj, hjy, rfl, HI1⟩ := hrel
            have hbt : bT < e.w.heap.size := by omega
            by_cases hjl : j < ys.length
            · have hj1 : (0 : Int) ≤ (j : Int) := by omega
              have hj2 : (j : Int) < ys.length := by omega
              have hc2 : e.w.cell? ⟨bT, oT + j, none⟩ = some (.int .i64 (ys.getD j 0)) := by
                have hbw : Below w.heap.size w e.w := by (repeat' (first | (with_reducible exact Below.refl _ _) | (with_reducible assumption) | (with_reducible refine below_alloc ?_ _) | (with_reducible refine Below.drew ?_) | (with_reducible refine below_drewN ?_ _) | (with_reducible refine below_step (by assumption) ?_) | (with_reducible refine below_later ?_ _) | (with_reducible refine Below.setCell ?_ ?_ _) | go_size))
                rw [hbw.cell (p := ⟨bT, oT + j, none⟩) hbT]
                exact HCT.out j (by omega)
              have HB1 : Hid (inB (ys.getD j 0) 100 3000 = false → airB X Y Z xs ys = false) := Lib.hid (fun h => HFY.out j (by omega) h)
              have HG1 : Hid (inB (ys.getD j 0) 100 3000 = true → ∀ t, t < j + 1 → inB (ys.getD t 0) 100 3000 = true) := Lib.hid (fun h t ht => by
                by_cases e : t = j
                · subst e; exact h
                · exact HI1.out t (by omega))
              generalize ys.getD j 0 = z at hc2 HB1 HG1
              cases hz : inB z 100 3000 with
              | false =>
                have H := Lib.hid (HB1.out hz)
                go_wp2_with ((go_at_call 59; refine (r29in_any _ _ _ _).mono ?_; rintro e w' ⟨rfl, rfl⟩))
                go_ret
                exact ⟨by rw [H.out]; first | done | rfl, by (repeat' (first | (with_reducible exact Below.refl _ _) | (with_reducible assumption) | (with_reducible refine below_alloc ?_ _) | (with_reducible refine Below.drew ?_) | (with_reducible refine below_drewN ?_ _) | (with_reducible refine below_step (by assumption) ?_) | (with_reducible refine below_later ?_ _) | (with_reducible refine Below.setCell ?_ ?_ _) | go_size))⟩
              | true =>
                have H := Lib.hid (HG1.out hz)
                go_wp2_with ((go_at_call 59; refine (r29in_any _ _ _ _).mono ?_; rintro e w' ⟨rfl, rfl⟩))
                go_roundg (ys.length - (j + 1))
                case measure => omega
                case rel => exact ⟨j + 1, by go_num, by omega, by omega, rfl, H⟩
            · obtain rfl : j = ys.length := by omega
              have H := Lib.hid (HT.out HALL.out HI1.out)
              go_wp2
              go_ret
              exact ⟨by rw [H.out]; first | done | rfl, by (repeat' (first | (with_reducible exact Below.refl _ _) | (with_reducible assumption) | (with_reducible refine below_alloc ?_ _) | (with_reducible refine Below.drew ?_) | (with_reducible refine below_drewN ?_ _) | (with_reducible refine below_step (by assumption) ?_) | (with_reducible refine below_later ?_ _) | (with_reducible refine Below.setCell ?_ ?_ _) | go_size))⟩
end Go.Proofs.Ytohdbneaganfbaa
