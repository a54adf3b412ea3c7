/- Contracts of air's between and Valid. -/
import Derived.Test.YtohdbneaganfbaaTabs
import Derived.Test.YtohdbneaganfbaaSurfC
namespace Go.Proofs.Ytohdbneaganfbaa
set_option linter.unusedVariables false
set_option linter.unusedSimpArgs false
open Go.RowKit Go.ChangeShapes Go.WideShapes Go.ChangeAt

theorem abetween_any (x lo hi : Int) (w : World) : Calls Try.prog 57 #[.int .i64 x, .int .i64 lo, .int .i64 hi] w fun e w' => e = .returned (.bool (inB x lo hi)) ∧ w = w' := by
  go_enter Try.func57, Try.ntmps57
  go_wp2
  all_goals go_ret
  all_goals exact ⟨ret_bool (by grind [inB]), rfl⟩
theorem atempCl_any (x : Int) (w : World) : Calls Try.prog 67 #[.int .i64 x] w fun e w' => e = .returned (.bool (!inB x 100 3000)) ∧ w = w' := by
  go_enter Try.func67, Try.ntmps67
  go_wp2_with ((go_at_call 57; refine (abetween_any _ _ _ _).mono ?_; rintro e w' ⟨rfl, rfl⟩))
  go_ret
  exact ⟨rfl, rfl⟩
theorem atemp_any (r : Option Addr) (cap : Nat) (xs : List Int) (w : World) (hxs : IsInts w r cap .i64 xs) :
    Calls Try.prog 66 #[.slice r xs.length cap, .func (.func 67) #[] #[]] w fun e w' => e = .returned (.bool (xs.any fun x => !inB x 100 3000)) ∧ Below w.heap.size w w' :=
  containsFunc_any 67 #[] r cap xs (fun x => !inB x 100 3000) w (enters_of Try.func67 (by kernel_rfl) rfl) hxs (fun e x _ => below_same (atempCl_any x e.w))

/-- A row of charges that is not valid. -/
noncomputable def airRow (row : List Int) : Bool := row.any (fun z => !inB z 0 1048576) || !upB row
structure AirOk (X Y : List Int) (Z : List (List Int)) (xs ys : List Int) : Prop where
  map : MapOk X Y Z
  cur : CurveOk xs ys
  bd : ys.any (fun y => !inB y 100 3000) = false
  rows : ∀ t, t < Z.length → airRow (Z.getD t []) = false
open Classical in
noncomputable def airB (X Y : List Int) (Z : List (List Int)) (xs ys : List Int) : Bool := decide (AirOk X Y Z xs ys)
theorem airB_true {X Y : List Int} {Z : List (List Int)} {xs ys : List Int} : airB X Y Z xs ys = true ↔ AirOk X Y Z xs ys := by simp [airB]
theorem airB_false {X Y : List Int} {Z : List (List Int)} {xs ys : List Int} : airB X Y Z xs ys = false ↔ ¬ AirOk X Y Z xs ys := by simp [airB]
theorem airRow_up {row : List Int} (h : upB row = false) : airRow row = true := by simp [airRow, h]
theorem airRow_at {row : List Int} {t : Nat} (ht : t < row.length) (h : inB (row.getD t 0) 0 1048576 = false) : airRow row = true := by
  have := any_hit (lo := 0) (hi := 1048576) ht (inB_false.1 h)
  simp [airRow, this]
theorem airRow_ok {row : List Int} (h2 : 0 < row.length) (hu : upB row = true) (h0 : inB (row.getD 0 0) 0 1048576 = true) (h1 : inB (row.getD (row.length - 1) 0) 0 1048576 = true) : airRow row = false := by
  have hup := upB_true.1 hu
  have a0 := inB_true.1 h0
  have a1 := inB_true.1 h1
  have := any_in (ys := row) (lo := 0) (hi := 1048576) (fun t ht => by
    have l1 := up_le hup (Nat.zero_le t) ht
    have l2 := up_le hup (show t ≤ row.length - 1 by omega) (by omega)
    omega)
  simp [airRow, this, hu]
theorem airRow_bd {row : List Int} (h : airRow row = false) : (∀ t, t < row.length → 0 ≤ row.getD t 0 ∧ row.getD t 0 ≤ 1048576) ∧ UpL row := by
  unfold airRow at h
  rw [Bool.or_eq_false_iff] at h
  exact ⟨fun t ht => any_bd h.1 ht, upB_true.1 (by simpa using h.2)⟩

set_option maxRecDepth 100000 in
set_option maxHeartbeats 2000000 in
theorem avalid_any (tab : Array Value) (X Y : List Int) (Z : List (List Int)) (xs ys : List Int) (w : World) (hsz : tab.size = 24) (hM : MapAt w tab 0 1 2 X Y Z) (hE : CurAt w tab 12 13 xs ys) :
    Calls Try.prog 21 #[.agg tab] w fun e w' => e = .returned (.bool (airB X Y Z xs ys)) ∧ Below w.heap.size w w' := by
  obtain ⟨rX, cX, rY, cY, rZ, cZ, h6, h7, h8, hX, hY, hZ⟩ := hM.ex
  obtain ⟨rx, cx, ry, cy, h18, h19, hx, hy⟩ := hE.ex
  have HX : Hid (∀ w', Below w.heap.size w w' → IsInts w' rX cX .i64 X) := Lib.hid (fun _ h => hX.later h)
  have HY : Hid (∀ w', Below w.heap.size w w' → IsInts w' rY cY .i64 Y) := Lib.hid (fun _ h => hY.later h)
  have HZ : Hid (∀ w', Below w.heap.size w w' → IsRows w' rZ cZ Z) := Lib.hid (fun _ h => hZ.later h)
  have Hx : Hid (∀ w', Below w.heap.size w w' → IsInts w' rx cx .i64 xs) := Lib.hid (fun _ h => hx.later h)
  have Hy : Hid (∀ w', Below w.heap.size w w' → IsInts w' ry cy .i64 ys) := Lib.hid (fun _ h => hy.later h)
  have HI : Hid ((Try.prog.info? 31).map (·.size) = some tab.size) := Lib.hid (by rw [hsz]; kernel_rfl)
  have hmx := Nat.le_trans hZ.le hZ.max
  unfold maxLen at hmx
  clear hsz hM hE hX hY hx hy
  cases hm : mapB X Y Z with
  | false =>
    have H := Lib.hid (airB_false.2 (fun h : AirOk X Y Z xs ys => mapB_false.1 hm h.map))
    clear hZ
    go_enter Try.func21, Try.ntmps21
    go_wp2_with ((go_at_call 63; refine (svalid_any _ _ _ _ _ _ _ _ _ _ (HX.out _ (by (repeat' (first | (with_reducible exact Below.refl _ _) | (with_reducible assumption) | (with_reducible refine below_alloc ?_ _) | (with_reducible refine Below.drew ?_) | (with_reducible refine below_drewN ?_ _) | (with_reducible refine below_step (by assumption) ?_) | (with_reducible refine below_later ?_ _) | (with_reducible refine Below.setCell ?_ ?_ _) | go_size)))) (HY.out _ (by (repeat' (first | (with_reducible exact Below.refl _ _) | (with_reducible assumption) | (with_reducible refine below_alloc ?_ _) | (with_reducible refine Below.drew ?_) | (with_reducible refine below_drewN ?_ _) | (with_reducible refine below_step (by assumption) ?_) | (with_reducible refine below_later ?_ _) | (with_reducible refine Below.setCell ?_ ?_ _) | go_size)))) (HZ.out _ (by (repeat' (first | (with_reducible exact Below.refl _ _) | (with_reducible assumption) | (with_reducible refine below_alloc ?_ _) | (with_reducible refine Below.drew ?_) | (with_reducible refine below_drewN ?_ _) | (with_reducible refine below_step (by assumption) ?_) | (with_reducible refine below_later ?_ _) | (with_reducible refine Below.setCell ?_ ?_ _) | go_size))))).mono ?_; rintro e hb1w ⟨rfl, hb1⟩; obtain ⟨hb1c, hb1f⟩ := bcell hb1; have hb1s := hb1.size; (try simp only [World.size_alloc] at hb1s); (try (have : w.heap.size < hb1w.heap.size := by omega)); (try (have : w.heap.size + 1 < hb1w.heap.size := by omega)); (try (have : w.heap.size + 1 + 1 < hb1w.heap.size := by omega)); (try (have : w.heap.size + 1 + 1 + 1 < hb1w.heap.size := by omega)); (try (have : bX < hb1w.heap.size := by omega)); (try (have : bY < hb1w.heap.size := by omega)); (try (have : bZ < hb1w.heap.size := by omega))))
    go_ret
    exact ⟨by rw [H.out]; first | done | rfl, by (repeat' (first | (with_reducible exact Below.refl _ _) | (with_reducible assumption) | (with_reducible refine below_alloc ?_ _) | (with_reducible refine Below.drew ?_) | (with_reducible refine below_drewN ?_ _) | (with_reducible refine below_step (by assumption) ?_) | (with_reducible refine below_later ?_ _) | (with_reducible refine Below.setCell ?_ ?_ _) | go_size))⟩
  | true =>
    have hMOK := mapB_true.1 hm
    cases hc : curveB xs ys with
    | false =>
      have H := Lib.hid (airB_false.2 (fun h : AirOk X Y Z xs ys => curveB_false.1 hc h.cur))
      clear hZ hMOK
      go_enter Try.func21, Try.ntmps21
      go_wp2_with (first | (go_at_call 63; refine (svalid_any _ _ _ _ _ _ _ _ _ _ (HX.out _ (by (repeat' (first | (with_reducible exact Below.refl _ _) | (with_reducible assumption) | (with_reducible refine below_alloc ?_ _) | (with_reducible refine Below.drew ?_) | (with_reducible refine below_drewN ?_ _) | (with_reducible refine below_step (by assumption) ?_) | (with_reducible refine below_later ?_ _) | (with_reducible refine Below.setCell ?_ ?_ _) | go_size)))) (HY.out _ (by (repeat' (first | (with_reducible exact Below.refl _ _) | (with_reducible assumption) | (with_reducible refine below_alloc ?_ _) | (with_reducible refine Below.drew ?_) | (with_reducible refine below_drewN ?_ _) | (with_reducible refine below_step (by assumption) ?_) | (with_reducible refine below_later ?_ _) | (with_reducible refine Below.setCell ?_ ?_ _) | go_size)))) (HZ.out _ (by (repeat' (first | (with_reducible exact Below.refl _ _) | (with_reducible assumption) | (with_reducible refine below_alloc ?_ _) | (with_reducible refine Below.drew ?_) | (with_reducible refine below_drewN ?_ _) | (with_reducible refine below_step (by assumption) ?_) | (with_reducible refine below_later ?_ _) | (with_reducible refine Below.setCell ?_ ?_ _) | go_size))))).mono ?_; rintro e hb1w ⟨rfl, hb1⟩; obtain ⟨hb1c, hb1f⟩ := bcell hb1; have hb1s := hb1.size; (try simp only [World.size_alloc] at hb1s); (try (have : w.heap.size < hb1w.heap.size := by omega)); (try (have : w.heap.size + 1 < hb1w.heap.size := by omega)); (try (have : w.heap.size + 1 + 1 < hb1w.heap.size := by omega)); (try (have : w.heap.size + 1 + 1 + 1 < hb1w.heap.size := by omega)); (try (have : bX < hb1w.heap.size := by omega)); (try (have : bY < hb1w.heap.size := by omega)); (try (have : bZ < hb1w.heap.size := by omega))) | (go_at_call 64; refine (curveValid_any _ _ _ _ _ _ _ (Hx.out _ (by (repeat' (first | (with_reducible exact Below.refl _ _) | (with_reducible assumption) | (with_reducible refine below_alloc ?_ _) | (with_reducible refine Below.drew ?_) | (with_reducible refine below_drewN ?_ _) | (with_reducible refine below_step (by assumption) ?_) | (with_reducible refine below_later ?_ _) | (with_reducible refine Below.setCell ?_ ?_ _) | go_size)))) (Hy.out _ (by (repeat' (first | (with_reducible exact Below.refl _ _) | (with_reducible assumption) | (with_reducible refine below_alloc ?_ _) | (with_reducible refine Below.drew ?_) | (with_reducible refine below_drewN ?_ _) | (with_reducible refine below_step (by assumption) ?_) | (with_reducible refine below_later ?_ _) | (with_reducible refine Below.setCell ?_ ?_ _) | go_size))))).mono ?_; rintro e hb2w ⟨rfl, hb2⟩; obtain ⟨hb2c, hb2f⟩ := bcell hb2; have hb2s := hb2.size; (try simp only [World.size_alloc] at hb2s); (try (have : w.heap.size < hb2w.heap.size := by omega)); (try (have : w.heap.size + 1 < hb2w.heap.size := by omega)); (try (have : w.heap.size + 1 + 1 < hb2w.heap.size := by omega)); (try (have : w.heap.size + 1 + 1 + 1 < hb2w.heap.size := by omega)); (try (have : bX < hb2w.heap.size := by omega)); (try (have : bY < hb2w.heap.size := by omega)); (try (have : bZ < hb2w.heap.size := by omega))))
      go_ret
      exact ⟨by rw [H.out]; first | done | rfl, by (repeat' (first | (with_reducible exact Below.refl _ _) | (with_reducible assumption) | (with_reducible refine below_alloc ?_ _) | (with_reducible refine Below.drew ?_) | (with_reducible refine below_drewN ?_ _) | (with_reducible refine below_step (by assumption) ?_) | (with_reducible refine below_later ?_ _) | (with_reducible refine Below.setCell ?_ ?_ _) | go_size))⟩
    | true =>
      have h2 := hMOK.1.1
      have hl := hMOK.2.2.1
      obtain ⟨bZ, oZ, rfl, hbZ, hcZ⟩ := hZ.cells (fun e => by rw [e] at hl; simp at hl; omega)
      have HC := Lib.hid hcZ
      have HLEN : Hid (∀ t, t < Z.length → 2 ≤ (Z.getD t []).length) := Lib.hid (fun t ht => by have := (hMOK.2.2.2 t ht).1; have := hMOK.2.1.1; omega)
      have HF : Hid (∀ t, t < Z.length → airRow (Z.getD t []) = true → airB X Y Z xs ys = false) := Lib.hid (fun t ht h => airB_false.2 (fun hh => by have := hh.rows t ht; rw [h] at this; cases this))
      have HT : Hid ((∀ t, t < Z.length → airRow (Z.getD t []) = false) → airB X Y Z xs ys = !ys.any (fun x => !inB x 100 3000)) := Lib.hid (fun h => by
        cases hb : ys.any (fun x => !inB x 100 3000) with
        | false => exact airB_true.2 ⟨hMOK, curveB_true.1 hc, hb, h⟩
        | true => exact airB_false.2 (fun hh => by have := hh.bd; rw [hb] at this; cases this))
      have HSV := Lib.hid (fun w hX hY hZ => svalid_any rX rY (some ⟨bZ, oZ, none⟩) cX cY cZ X Y Z w hX hY hZ)
      rw [hm] at HSV
      clear hZ hcZ hMOK hl h2
      generalize hn : Z.length = n at *
      have HN := Lib.hid hn
      clear hn
      go_enter Try.func21, Try.ntmps21
      go_wp2_with (first | (go_at_call 63; refine (HSV.out _ (HX.out _ (by (repeat' (first | (with_reducible exact Below.refl _ _) | (with_reducible assumption) | (with_reducible refine below_alloc ?_ _) | (with_reducible refine Below.drew ?_) | (with_reducible refine below_drewN ?_ _) | (with_reducible refine below_step (by assumption) ?_) | (with_reducible refine below_later ?_ _) | (with_reducible refine Below.setCell ?_ ?_ _) | go_size)))) (HY.out _ (by (repeat' (first | (with_reducible exact Below.refl _ _) | (with_reducible assumption) | (with_reducible refine below_alloc ?_ _) | (with_reducible refine Below.drew ?_) | (with_reducible refine below_drewN ?_ _) | (with_reducible refine below_step (by assumption) ?_) | (with_reducible refine below_later ?_ _) | (with_reducible refine Below.setCell ?_ ?_ _) | go_size)))) (HZ.out _ (by (repeat' (first | (with_reducible exact Below.refl _ _) | (with_reducible assumption) | (with_reducible refine below_alloc ?_ _) | (with_reducible refine Below.drew ?_) | (with_reducible refine below_drewN ?_ _) | (with_reducible refine below_step (by assumption) ?_) | (with_reducible refine below_later ?_ _) | (with_reducible refine Below.setCell ?_ ?_ _) | go_size))))).mono ?_; rintro e hb1w ⟨rfl, hb1⟩; obtain ⟨hb1c, hb1f⟩ := bcell hb1; have hb1s := hb1.size; (try simp only [World.size_alloc] at hb1s); (try (have : w.heap.size < hb1w.heap.size := by omega)); (try (have : w.heap.size + 1 < hb1w.heap.size := by omega)); (try (have : w.heap.size + 1 + 1 < hb1w.heap.size := by omega)); (try (have : w.heap.size + 1 + 1 + 1 < hb1w.heap.size := by omega)); (try (have : bX < hb1w.heap.size := by omega)); (try (have : bY < hb1w.heap.size := by omega)); (try (have : bZ < hb1w.heap.size := by omega))) | (go_at_call 64; refine (curveValid_any _ _ _ _ _ _ _ (Hx.out _ (by (repeat' (first | (with_reducible exact Below.refl _ _) | (with_reducible assumption) | (with_reducible refine below_alloc ?_ _) | (with_reducible refine Below.drew ?_) | (with_reducible refine below_drewN ?_ _) | (with_reducible refine below_step (by assumption) ?_) | (with_reducible refine below_later ?_ _) | (with_reducible refine Below.setCell ?_ ?_ _) | go_size)))) (Hy.out _ (by (repeat' (first | (with_reducible exact Below.refl _ _) | (with_reducible assumption) | (with_reducible refine below_alloc ?_ _) | (with_reducible refine Below.drew ?_) | (with_reducible refine below_drewN ?_ _) | (with_reducible refine below_step (by assumption) ?_) | (with_reducible refine below_later ?_ _) | (with_reducible refine Below.setCell ?_ ?_ _) | go_size))))).mono ?_; rintro e hb2w ⟨rfl, hb2⟩; obtain ⟨hb2c, hb2f⟩ := bcell hb2; have hb2s := hb2.size; (try simp only [World.size_alloc] at hb2s); (try (have : w.heap.size < hb2w.heap.size := by omega)); (try (have : w.heap.size + 1 < hb2w.heap.size := by omega)); (try (have : w.heap.size + 1 + 1 < hb2w.heap.size := by omega)); (try (have : w.heap.size + 1 + 1 + 1 < hb2w.heap.size := by omega)); (try (have : bX < hb2w.heap.size := by omega)); (try (have : bY < hb2w.heap.size := by omega)); (try (have : bZ < hb2w.heap.size := by omega))))
      go_loopg [19] n (fun kx s19 wr => ∃ (k : Nat) (e : Later hb2w), s19 = .int .i64 k ∧ k ≤ n ∧ n - k ≤ kx ∧ wr = e.w ∧ Hid (∀ t, t < k → airRow (Z.getD t []) = false))
      case atStart => exact ⟨0, ⟨_, Below.refl _ _⟩, rfl, by omega, by omega, rfl, Lib.hid (fun t h => absurd h (Nat.not_lt_zero _))⟩
      case round =>
        obtain ⟨k, e, rfl, hk, hkx, rfl, HP⟩ := hrel
        have hes := e.h.size
        have hbo : w.heap.size < e.w.heap.size := by omega
        by_cases hlt : k < n
        · have hbw : Below w.heap.size w e.w := by (repeat' (first | (with_reducible exact Below.refl _ _) | (with_reducible assumption) | (with_reducible refine below_alloc ?_ _) | (with_reducible refine Below.drew ?_) | (with_reducible refine below_drewN ?_ _) | (with_reducible refine below_step (by assumption) ?_) | (with_reducible refine below_later ?_ _) | (with_reducible refine Below.setCell ?_ ?_ _) | go_size))
          obtain ⟨ri, ci, g1, g2⟩ := HC.out k (by omega)
          have hc1 : e.w.cell? ⟨bZ, oZ + k, none⟩ = some (.slice ri (Z.getD k []).length ci) := by
            rw [hbw.cell (p := ⟨bZ, oZ + k, none⟩) hbZ]; exact g1
          have HR : Hid (∀ w', Below w.heap.size w w' → IsInts w' ri ci .i64 (Z.getD k [])) := Lib.hid (fun _ h => g2.later h)
          have hk1 : (0 : Int) ≤ (k : Int) := by omega
          have hk2 : (k : Int) < n := by omega
          have h2 := HLEN.out k hlt
          obtain ⟨bR, oR, rfl, hbR, hcR⟩ := g2.cells (fun e => by rw [e] at h2; simp at h2)
          have d0 : e.w.cell? ⟨bR, oR, none⟩ = some (.int .i64 ((Z.getD k []).getD 0 0)) := by
            rw [hbw.cell (p := ⟨bR, oR, none⟩) hbR]
            have := hcR 0 (by omega)
            rwa [Nat.add_zero] at this
          have d1 : e.w.cell? ⟨bR, oR + ((Z.getD k []).length - 1), none⟩ = some (.int .i64 ((Z.getD k []).getD ((Z.getD k []).length - 1) 0)) := by
            rw [hbw.cell (p := ⟨bR, oR + ((Z.getD k []).length - 1), none⟩) hbR]
            exact hcR _ (by omega)
          have hbe : bR < e.w.heap.size := by have := hbw.size; omega
          have hmr := Nat.le_trans g2.le g2.max
          unfold maxLen at hmr
          have HB := Lib.hid (HF.out k hlt)
          have HG : Hid (airRow (Z.getD k []) = false → ∀ t, t < k + 1 → airRow (Z.getD t []) = false) := Lib.hid (fun h t ht => by
            by_cases e : t = k
            · subst e; exact h
            · exact HP.out t (by omega))
          have HK := Lib.hid (@airRow_ok (Z.getD k []))
          have HA0 := Lib.hid (@airRow_at (Z.getD k []) 0 (by omega))
          have HA1 := Lib.hid (@airRow_at (Z.getD k []) ((Z.getD k []).length - 1) (by omega))
          have HU := Lib.hid (@airRow_up (Z.getD k []))
          have hne : Z.getD k [] ≠ [] := fun e => by rw [e] at h2; simp at h2
          have HNE := Lib.hid hne
          clear g1 g2 hbw hcR hne
          generalize Z.getD k [] = row at *
          generalize row.getD 0 0 = fi at *
          generalize row.getD (row.length - 1) 0 = la at *
          have j1 : (0 : Int) < (row.length : Int) := by omega
          have j2 : (1 : Int) ≤ (row.length : Int) := by omega
          have j3 : 0 < row.length := by omega
          have j4 : IntKind.i64.wrap ((row.length : Int) - 1) = (row.length : Int) - 1 := IntWalk.i64_in _ (by omega)
          have j5 : ((row.length : Int) - 1).toNat = row.length - 1 := by omega
          have j6 : (0 : Int) ≤ (row.length : Int) - 1 := by omega
          cases hu : upB row with
          | false =>
            have H := Lib.hid (HB.out (HU.out hu))
            go_wp2_with ((go_at_call 65; refine (isSorted_any _ _ _ _ (HR.out _ (by (repeat' (first | (with_reducible exact Below.refl _ _) | (with_reducible assumption) | (with_reducible refine below_alloc ?_ _) | (with_reducible refine Below.drew ?_) | (with_reducible refine below_drewN ?_ _) | (with_reducible refine below_step (by assumption) ?_) | (with_reducible refine below_later ?_ _) | (with_reducible refine Below.setCell ?_ ?_ _) | go_size)))) HNE.out).mono ?_; rintro e hb3w ⟨rfl, hb3⟩; obtain ⟨hb3c, hb3f⟩ := bcell hb3; have hb3s := hb3.size; (try simp only [World.size_alloc] at hb3s); (try (have : w.heap.size < hb3w.heap.size := by omega)); (try (have : w.heap.size + 1 < hb3w.heap.size := by omega)); (try (have : w.heap.size + 1 + 1 < hb3w.heap.size := by omega)); (try (have : w.heap.size + 1 + 1 + 1 < hb3w.heap.size := by omega)); (try (have : bX < hb3w.heap.size := by omega)); (try (have : bY < hb3w.heap.size := by omega)); (try (have : bZ < hb3w.heap.size := by omega))))
            go_ret
            exact ⟨by rw [H.out]; first | done | rfl, by (repeat' (first | (with_reducible exact Below.refl _ _) | (with_reducible assumption) | (with_reducible refine below_alloc ?_ _) | (with_reducible refine Below.drew ?_) | (with_reducible refine below_drewN ?_ _) | (with_reducible refine below_step (by assumption) ?_) | (with_reducible refine below_later ?_ _) | (with_reducible refine Below.setCell ?_ ?_ _) | go_size))⟩
          | true =>
            cases i0 : inB fi 0 1048576 with
            | false =>
              have H := Lib.hid (HB.out (HA0.out i0))
              go_wp2_with (first | (go_at_call 65; refine (isSorted_any _ _ _ _ (HR.out _ (by (repeat' (first | (with_reducible exact Below.refl _ _) | (with_reducible assumption) | (with_reducible refine below_alloc ?_ _) | (with_reducible refine Below.drew ?_) | (with_reducible refine below_drewN ?_ _) | (with_reducible refine below_step (by assumption) ?_) | (with_reducible refine below_later ?_ _) | (with_reducible refine Below.setCell ?_ ?_ _) | go_size)))) HNE.out).mono ?_; rintro e hb3w ⟨rfl, hb3⟩; obtain ⟨hb3c, hb3f⟩ := bcell hb3; have hb3s := hb3.size; (try simp only [World.size_alloc] at hb3s); (try (have : w.heap.size < hb3w.heap.size := by omega)); (try (have : w.heap.size + 1 < hb3w.heap.size := by omega)); (try (have : w.heap.size + 1 + 1 < hb3w.heap.size := by omega)); (try (have : w.heap.size + 1 + 1 + 1 < hb3w.heap.size := by omega)); (try (have : bX < hb3w.heap.size := by omega)); (try (have : bY < hb3w.heap.size := by omega)); (try (have : bZ < hb3w.heap.size := by omega))) | (go_at_call 57; refine (abetween_any _ _ _ _).mono ?_; rintro e w' ⟨rfl, rfl⟩))
              go_ret
              exact ⟨by rw [H.out]; first | done | rfl, by (repeat' (first | (with_reducible exact Below.refl _ _) | (with_reducible assumption) | (with_reducible refine below_alloc ?_ _) | (with_reducible refine Below.drew ?_) | (with_reducible refine below_drewN ?_ _) | (with_reducible refine below_step (by assumption) ?_) | (with_reducible refine below_later ?_ _) | (with_reducible refine Below.setCell ?_ ?_ _) | go_size))⟩
            | true =>
              cases i1 : inB la 0 1048576 with
              | false =>
                have H := Lib.hid (HB.out (HA1.out i1))
                go_wp2_with (first | (go_at_call 65; refine (isSorted_any _ _ _ _ (HR.out _ (by (repeat' (first | (with_reducible exact Below.refl _ _) | (with_reducible assumption) | (with_reducible refine below_alloc ?_ _) | (with_reducible refine Below.drew ?_) | (with_reducible refine below_drewN ?_ _) | (with_reducible refine below_step (by assumption) ?_) | (with_reducible refine below_later ?_ _) | (with_reducible refine Below.setCell ?_ ?_ _) | go_size)))) HNE.out).mono ?_; rintro e hb3w ⟨rfl, hb3⟩; obtain ⟨hb3c, hb3f⟩ := bcell hb3; have hb3s := hb3.size; (try simp only [World.size_alloc] at hb3s); (try (have : w.heap.size < hb3w.heap.size := by omega)); (try (have : w.heap.size + 1 < hb3w.heap.size := by omega)); (try (have : w.heap.size + 1 + 1 < hb3w.heap.size := by omega)); (try (have : w.heap.size + 1 + 1 + 1 < hb3w.heap.size := by omega)); (try (have : bX < hb3w.heap.size := by omega)); (try (have : bY < hb3w.heap.size := by omega)); (try (have : bZ < hb3w.heap.size := by omega))) | (go_at_call 57; refine (abetween_any _ _ _ _).mono ?_; rintro e w' ⟨rfl, rfl⟩))
                go_ret
                exact ⟨by rw [H.out]; first | done | rfl, by (repeat' (first | (with_reducible exact Below.refl _ _) | (with_reducible assumption) | (with_reducible refine below_alloc ?_ _) | (with_reducible refine Below.drew ?_) | (with_reducible refine below_drewN ?_ _) | (with_reducible refine below_step (by assumption) ?_) | (with_reducible refine below_later ?_ _) | (with_reducible refine Below.setCell ?_ ?_ _) | go_size))⟩
              | true =>
                have HG2 := Lib.hid (HG.out (HK.out (by omega) hu i0 i1))
                go_wp2_with (first | (go_at_call 65; refine (isSorted_any _ _ _ _ (HR.out _ (by (repeat' (first | (with_reducible exact Below.refl _ _) | (with_reducible assumption) | (with_reducible refine below_alloc ?_ _) | (with_reducible refine Below.drew ?_) | (with_reducible refine below_drewN ?_ _) | (with_reducible refine below_step (by assumption) ?_) | (with_reducible refine below_later ?_ _) | (with_reducible refine Below.setCell ?_ ?_ _) | go_size)))) HNE.out).mono ?_; rintro e hb3w ⟨rfl, hb3⟩; obtain ⟨hb3c, hb3f⟩ := bcell hb3; have hb3s := hb3.size; (try simp only [World.size_alloc] at hb3s); (try (have : w.heap.size < hb3w.heap.size := by omega)); (try (have : w.heap.size + 1 < hb3w.heap.size := by omega)); (try (have : w.heap.size + 1 + 1 < hb3w.heap.size := by omega)); (try (have : w.heap.size + 1 + 1 + 1 < hb3w.heap.size := by omega)); (try (have : bX < hb3w.heap.size := by omega)); (try (have : bY < hb3w.heap.size := by omega)); (try (have : bZ < hb3w.heap.size := by omega))) | (go_at_call 57; refine (abetween_any _ _ _ _).mono ?_; rintro e w' ⟨rfl, rfl⟩))
                go_roundg (n - (k + 1))
                case measure => omega
                case rel => exact ⟨k + 1, ⟨hb3w, by (repeat' (first | (with_reducible exact Below.refl _ _) | (with_reducible assumption) | (with_reducible refine below_alloc ?_ _) | (with_reducible refine Below.drew ?_) | (with_reducible refine below_drewN ?_ _) | (with_reducible refine below_step (by assumption) ?_) | (with_reducible refine below_later ?_ _) | (with_reducible refine Below.setCell ?_ ?_ _) | go_size))⟩, by go_num, by omega, by omega, rfl, HG2⟩
        · obtain rfl : k = n := by omega
          have H := Lib.hid (HT.out HP.out)
          go_wp2_with ((go_at_call 66; refine (atemp_any _ _ _ _ (Hy.out _ (by (repeat' (first | (with_reducible exact Below.refl _ _) | (with_reducible assumption) | (with_reducible refine below_alloc ?_ _) | (with_reducible refine Below.drew ?_) | (with_reducible refine below_drewN ?_ _) | (with_reducible refine below_step (by assumption) ?_) | (with_reducible refine below_later ?_ _) | (with_reducible refine Below.setCell ?_ ?_ _) | go_size))))).mono ?_; rintro e hb4w ⟨rfl, hb4⟩; obtain ⟨hb4c, hb4f⟩ := bcell hb4; have hb4s := hb4.size; (try simp only [World.size_alloc] at hb4s); (try (have : w.heap.size < hb4w.heap.size := by omega)); (try (have : w.heap.size + 1 < hb4w.heap.size := by omega)); (try (have : w.heap.size + 1 + 1 < hb4w.heap.size := by omega)); (try (have : w.heap.size + 1 + 1 + 1 < hb4w.heap.size := by omega)); (try (have : bX < hb4w.heap.size := by omega)); (try (have : bY < hb4w.heap.size := by omega)); (try (have : bZ < hb4w.heap.size := by omega))))
          go_ret
          exact ⟨by rw [H.out]; first | done | rfl, by (repeat' (first | (with_reducible exact Below.refl _ _) | (with_reducible assumption) | (with_reducible refine below_alloc ?_ _) | (with_reducible refine Below.drew ?_) | (with_reducible refine below_drewN ?_ _) | (with_reducible refine below_step (by assumption) ?_) | (with_reducible refine below_later ?_ _) | (with_reducible refine Below.setCell ?_ ?_ _) | go_size))⟩
end Go.Proofs.Ytohdbneaganfbaa
