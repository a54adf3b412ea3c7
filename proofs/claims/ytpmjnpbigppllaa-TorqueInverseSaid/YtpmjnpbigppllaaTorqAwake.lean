/- The examples of the chapter of torque hold: awake returns true. -/
import Derived.Test.YtpmjnpbigppllaaTabMade
import Derived.Test.YtpmjnpbigppllaaEqB
namespace Go.Proofs.Ytpmjnpbigppllaa
set_option linter.unusedVariables false
set_option linter.unusedSimpArgs false
open Go.RowKit Go.ChangeShapes Go.WideShapes Go.ChangeAt

theorem ax2 {a b : Int} (h : a < b) (ha : -1073741824 ≤ a) (hb : b ≤ 1073741824) : AxisOk [a, b] :=
  ⟨by simp, by simp, any_far_of (fun t ht => by
    match t, ht with
    | 0, _ => simp; omega
    | 1, _ => simp; omega), fun t ht => by
    match t, ht with
    | 0, _ => simpa using h⟩
theorem cv2 {a b c d : Int} (h : a < b) (ha : -1073741824 ≤ a) (hb : b ≤ 1073741824) (hc : -1073741824 ≤ c ∧ c ≤ 1073741824) (hd : -1073741824 ≤ d ∧ d ≤ 1073741824) : CurveOk [a, b] [c, d] :=
  ⟨by simp, ax2 h ha hb, any_far_of (fun t ht => by
    match t, ht with
    | 0, _ => simpa using hc
    | 1, _ => simpa using hd)⟩
theorem map2 : MapOk [0, 1000] [0, 1000] [[1000, 1000], [1000, 1000]] :=
  ⟨ax2 (by omega) (by omega) (by omega), ax2 (by omega) (by omega) (by omega), by simp, fun t ht => by
    match t, ht with
    | 0, _ => exact ⟨by simp, by decide⟩
    | 1, _ => exact ⟨by simp, by decide⟩⟩
theorem row2_ok : tqRow [1000, 1000] = false :=
  row_ok (fun t ht => by
    match t, ht with
    | 0, _ => decide
    | 1, _ => decide) (fun t ht => by
    match t, ht with
    | 0, _ => simp)
theorem tq_ex : TqOk [0, 1000] [0, 1000] [[1000, 1000], [1000, 1000]] [0, 1000] [1000, 500] where
  map := map2
  cur := cv2 (by omega) (by omega) (by omega) (by omega) (by omega)
  bd := by decide
  down := fun t ht => by
    match t, ht with
    | 0, _ => simp
  rows := by simp [row2_ok]
theorem mval_ex (s c : Int) : mval [0, 1000] [0, 1000] [[1000, 1000], [1000, 1000]] s c = 1000 := by
  have := mval_bd map2 (lo := 1000) (hi := 1000) (fun t j ht hj => by
    match t, ht, j, hj with
    | 0, _, 0, _ => simp
    | 0, _, 1, _ => simp
    | 1, _, 0, _ => simp
    | 1, _, 1, _ => simp) s c
  omega
theorem cval_ex {l : Int} (h0 : 0 < l) (h1 : l < 1000) : cval [0, 1000] [1000, 500] l = 1000 + l * (-500) / 1000 := by
  have hs : segI [0, 1000] l = 0 := seg_eq (ax2 (by omega) (by omega) (by omega)) (i := 0) (by simp) (by simp; omega) (by simp; omega) (by simp; omega) (by simp; omega)
  unfold cval
  rw [if_neg (by simp; omega), if_neg (by simp; omega), hs]
  simp
theorem cval_ex0 : cval [0, 1000] [1000, 500] 0 = 1000 := by
  unfold cval
  rw [if_pos (by simp)]
  rfl
theorem cval_ex1 : cval [0, 1000] [1000, 500] 2560 = 500 := by
  unfold cval
  rw [if_neg (by simp), if_pos (by simp)]
  rfl
theorem tor_ex : tor2 [0, 1000] [0, 1000] [[1000, 1000], [1000, 1000]] [0, 1000] [1000, 500] 500 500 500 2 4 = (375, 0) := by
  rcases opt2_cases [0, 1000] [0, 1000] [[1000, 1000], [1000, 1000]] [0, 1000] [1000, 500] 500 500 with ⟨_, h⟩ | ⟨_, _, h⟩ | ⟨h, _⟩
  · exact absurd tq_ex h
  · exact absurd ⟨by decide, by decide⟩ h
  · unfold tor2
    rw [h, mval_ex, cval_ex (by omega) (by omega)]
    unfold tqV
    decide
theorem sh_ex : share3 [0, 1000] [0, 1000] [[1000, 1000], [1000, 1000]] [0, 1000] [1000, 500] 500 500 600 4 = (4, 799, 0) := by
  rcases opt2_cases [0, 1000] [0, 1000] [[1000, 1000], [1000, 1000]] [0, 1000] [1000, 500] 500 500 with ⟨_, h⟩ | ⟨_, _, h⟩ | ⟨h, _⟩
  · exact absurd tq_ex h
  · exact absurd ⟨by decide, by decide⟩ h
  · have hF : shF [0, 1000] [1000, 500] 1000 4 600 = 4 := by
      unfold shF
      rw [show (4 : Int).toNat = 3 + 1 by rfl, downTo_here]
      rw [shP_eq, cval_ex1]
      unfold tqV
      decide
    have hL : shL [0, 1000] [1000, 500] 1000 4 600 4 = 799 := by
      unfold shL
      refine least_eq (by omega) (fun t ht => ?_) (fun _ => ?_)
      · rw [decide_eq_false_iff_not]
        unfold tqV
        by_cases h0 : t = 0
        · subst h0
          rw [show ((0 : Nat) : Int) = 0 by rfl, cval_ex0]
          decide
        · rw [cval_ex (by omega) (by omega)]
          omega
      · rw [decide_eq_true_eq]
        unfold tqV
        rw [cval_ex (by omega) (by omega)]
        omega
    unfold share3
    rw [h, mval_ex, hF, hL]
    decide
theorem pat_ex : patL 4 2 0 = [false, true, false, true] := by
  unfold patL
  rw [show (4 : Int).toNat = 4 by rfl]
  unfold patB
  decide
theorem bools4 {W : World} {b : Nat} {p q r s : Bool} (hb : b < W.heap.size) (c0 : W.cell? ⟨b, 0, none⟩ = some (.bool p)) (c1 : W.cell? ⟨b, 1, none⟩ = some (.bool q)) (c2 : W.cell? ⟨b, 2, none⟩ = some (.bool r)) (c3 : W.cell? ⟨b, 3, none⟩ = some (.bool s)) : IsBools W (some ⟨b, 0, none⟩) 4 [p, q, r, s] :=
  ⟨by simp, by simp [maxLen], fun _ => ⟨b, 0, rfl, hb, fun i hi => by
    match i, hi with
    | 0, _ => simpa using c0
    | 1, _ => simpa using c1
    | 2, _ => simpa using c2
    | 3, _ => simpa using c3⟩⟩
set_option maxRecDepth 100000 in
theorem awake_any (w : World) : Calls Try.prog 12 #[] w fun e w' => e = .returned (.bool true) ∧ Below w.heap.size w w' := by
  have HT := Lib.hid (fun tab w hsz hM hE => Torque_any tab [0, 1000] [0, 1000] [[1000, 1000], [1000, 1000]] [0, 1000] [1000, 500] w hsz hM hE 500 500 500 2 4)
  have HS := Lib.hid (fun tab w hsz hM hE => tshare_any tab [0, 1000] [0, 1000] [[1000, 1000], [1000, 1000]] [0, 1000] [1000, 500] w hsz hM hE 500 500 600 4)
  have HP := Lib.hid (fun w => pattern_any 4 2 0 w (by omega) (by omega) (by omega) (by omega) (by omega) (by omega))
  rw [tor_ex] at HT
  rw [sh_ex] at HS
  rw [pat_ex] at HP
  go_enter Try.func12, Try.ntmps12
  go_wp2_with (first | (go_at_call 33; refine (tables35_any _).mono ?_; rintro e hb1w ⟨tab, rfl, ht1, ht2, ht3, hb1⟩; have HT1 := Lib.hid ht1; have HT2 := Lib.hid ht2; have HT3 := Lib.hid ht3; clear ht1 ht2 ht3; have hb1s := hb1.size) | (go_at_call 14; refine (HT.out _ _ HT1.out HT2.out HT3.out).mono ?_; rintro e hb2w ⟨rfl, hb2⟩; obtain ⟨hb2c, hb2f⟩ := bcell hb2; have hb2s := hb2.size; (try simp only [World.size_alloc] at hb2s); (try (have : w.heap.size < hb2w.heap.size := by omega)); (try (have : w.heap.size + 1 < hb2w.heap.size := by omega)); (try (have : w.heap.size + 1 + 1 < hb2w.heap.size := by omega)); (try (have : w.heap.size + 1 + 1 + 1 < hb2w.heap.size := by omega)); (try (have : bX < hb2w.heap.size := by omega)); (try (have : bY < hb2w.heap.size := by omega)); (try (have : bZ < hb2w.heap.size := by omega))) | (go_at_call 23; refine (HS.out _ _ HT1.out HT2.out HT3.out).mono ?_; rintro e hb3w ⟨rfl, hb3⟩; obtain ⟨hb3c, hb3f⟩ := bcell hb3; have hb3s := hb3.size; (try simp only [World.size_alloc] at hb3s); (try (have : w.heap.size < hb3w.heap.size := by omega)); (try (have : w.heap.size + 1 < hb3w.heap.size := by omega)); (try (have : w.heap.size + 1 + 1 < hb3w.heap.size := by omega)); (try (have : w.heap.size + 1 + 1 + 1 < hb3w.heap.size := by omega)); (try (have : bX < hb3w.heap.size := by omega)); (try (have : bY < hb3w.heap.size := by omega)); (try (have : bZ < hb3w.heap.size := by omega))) | (go_at_call 21; refine (HP.out _).mono ?_; rintro e hb4w ⟨r4, rfl, hb4B, hb4⟩; have HB4 := Lib.hid hb4B; clear hb4B; have hb4s := hb4.size) | (go_at_call 34; refine (equalB_any r4 (some ⟨hb4w.heap.size, 0, none⟩) 4 4 [false, true, false, true] [false, true, false, true] _ (HB4.out.later (by (repeat' (first | (with_reducible exact Below.refl _ _) | (with_reducible assumption) | (with_reducible refine below_alloc ?_ _) | (with_reducible refine Below.drew ?_) | (with_reducible refine below_drewN ?_ _) | (with_reducible refine below_step (by assumption) ?_) | (with_reducible refine below_later ?_ _) | (with_reducible refine Below.setCell ?_ ?_ _) | go_size)))) (bools4 (by go_size) (by simp [go_sem]) (by simp [go_sem]) (by simp [go_sem]) (by simp [go_sem]))).mono ?_; rintro e hb5w ⟨rfl, hb5⟩; obtain ⟨hb5c, hb5f⟩ := bcell hb5; have hb5s := hb5.size; (try simp only [World.size_alloc] at hb5s); (try (have : w.heap.size < hb5w.heap.size := by omega)); (try (have : w.heap.size + 1 < hb5w.heap.size := by omega)); (try (have : w.heap.size + 1 + 1 < hb5w.heap.size := by omega)); (try (have : w.heap.size + 1 + 1 + 1 < hb5w.heap.size := by omega)); (try (have : bX < hb5w.heap.size := by omega)); (try (have : bY < hb5w.heap.size := by omega)); (try (have : bZ < hb5w.heap.size := by omega))))
  go_ret
  exact ⟨by simp, by (repeat' (first | (with_reducible exact Below.refl _ _) | (with_reducible assumption) | (with_reducible refine below_alloc ?_ _) | (with_reducible refine Below.drew ?_) | (with_reducible refine below_drewN ?_ _) | (with_reducible refine below_step (by assumption) ?_) | (with_reducible refine below_later ?_ _) | (with_reducible refine Below.setCell ?_ ?_ _) | go_size))⟩
end Go.Proofs.Ytpmjnpbigppllaa
