/- Contracts of arith.Mod and Clamp, and of plant.Good. Printed by a program. -/
import Derived.Test.YtohdbneaganfbaaAirC
import Derived.Deep.LoopGhost
namespace Go.Proofs.Ytohdbneaganfbaa
set_option linter.unusedVariables false
set_option linter.unusedSimpArgs false
open Go.RowKit Go.ChangeShapes Go.WideShapes Go.ChangeAt

def clampH (x lo hi : Int) : Int := if x < lo then lo else if hi < x then hi else x
theorem clampH_any {lo hi : Int} (x : Int) (h : lo < hi) (w : World) : Calls Try.prog 81 #[.int .i64 x, .int .i64 lo, .int .i64 hi] w fun e w' => e = .returned (.int .i64 (clampH x lo hi)) ∧ w = w' := by
  by_cases h1 : x < lo
  · have H := Lib.hid (show clampH x lo hi = lo by simp [clampH, h1])
    go_enter Try.func81, Try.ntmps81
    go_wp2
    all_goals go_ret
    all_goals exact ⟨by rw [H.out]; simp; try omega, rfl⟩
  · by_cases h2 : hi < x
    · have H := Lib.hid (show clampH x lo hi = hi by simp [clampH, h1, h2])
      go_enter Try.func81, Try.ntmps81
      go_wp2
      all_goals go_ret
      all_goals exact ⟨by rw [H.out]; simp; try omega, rfl⟩
    · have H := Lib.hid (show clampH x lo hi = x by simp [clampH, h1, h2])
      go_enter Try.func81, Try.ntmps81
      go_wp2
      all_goals go_ret
      all_goals exact ⟨by rw [H.out]; simp; try omega, rfl⟩
theorem tmod_split {a c : Int} (c0 : 1 ≤ c) : (a.tmod c = 0 ∧ a % c = 0) ∨ (0 < a.tmod c ∧ a.tmod c < c ∧ a % c = a.tmod c) ∨ (a.tmod c < 0 ∧ -c < a.tmod c ∧ a % c = a.tmod c + c) := by
  have h1 := Int.emod_nonneg a (show c ≠ 0 by omega)
  have h2 := Int.emod_lt_of_pos a (show 0 < c by omega)
  by_cases h : 0 ≤ a
  · have e := Int.tmod_eq_emod_of_nonneg (b := c) h
    omega
  · have e : a.tmod c = -((-a) % c) := by
      have h3 : a = -(-a) := by omega
      rw [h3, Int.neg_tmod, Int.tmod_eq_emod_of_nonneg (by omega)]
      simp
    have h3 := Int.emod_nonneg (-a) (show c ≠ 0 by omega)
    have h4 := Int.emod_lt_of_pos (-a) (show 0 < c by omega)
    have h5 : a % c = if (-a) % c = 0 then 0 else c - (-a) % c := by
      have h6 : (-a) % c = -a - c * (-a / c) := Int.emod_def _ _
      have h7 := neg_floor (a := a) c0
      rw [Int.emod_def a c, h7]
      generalize -a / c = Q at *
      generalize -a % c = R at *
      split
      · rw [if_neg (by omega), Int.mul_sub, Int.mul_neg, Int.mul_one]
        omega
      · rw [if_pos (by omega), Int.mul_neg]
        omega
    split at h5 <;> omega
set_option maxHeartbeats 1000000 in
theorem mod_any {a c : Int} (h0 : -4611686018427387904 ≤ a) (h1 : a ≤ 4611686018427387904) (c0 : 1 ≤ c) (c1 : c ≤ 4611686018427387904) (w : World) :
    Calls Try.prog 108 #[.int .i64 a, .int .i64 c] w fun e w' => e = .returned (.int .i64 (a % c)) ∧ Below w.heap.size w w' := by
  have hs := tmod_split (a := a) c0
  have k1 : ¬ c = 0 := by omega
  have k2 : (c == 0) = false := by simp; omega
  have k3 : ¬ c = -1 := by omega
  have k4 : (c == -1) = false := by simp; omega
  have k5 : ¬ c < 0 := by omega
  obtain ⟨r, hr⟩ : ∃ r, r = a.tmod c := ⟨_, rfl⟩
  have hr2 : a.tmod c = r := hr.symm
  rw [hr2] at hs
  clear hr
  rcases hs with ⟨rfl, hm⟩ | ⟨r0, r1, hm⟩ | ⟨r0, r1, hm⟩
  · have H := Lib.hid hm
    clear hm
    have q1 : wrap64 0 = 0 := by simp [wrap64]
    go_enter Try.func108, Try.ntmps108
    go_wp2
    all_goals go_ret
    all_goals exact ⟨ret_int (by first | (rw [H.out]; done) | (rw [H.out]; simp [hr2]; done) | (rw [H.out]; simp [hr2]; omega)), by (repeat' (first | (with_reducible exact Below.refl _ _) | (with_reducible assumption) | (with_reducible refine below_alloc ?_ _) | (with_reducible refine Below.drew ?_) | (with_reducible refine below_drewN ?_ _) | (with_reducible refine below_step (by assumption) ?_) | (with_reducible refine below_later ?_ _) | (with_reducible refine Below.setCell ?_ ?_ _) | go_size))⟩
  · have H := Lib.hid hm
    clear hm
    have q1 : wrap64 r = r := by unfold wrap64; omega
    have q2 : ¬ r = 0 := by omega
    have q3 : (r == 0) = false := by simp; omega
    have q4 : ¬ r < 0 := by omega
    go_enter Try.func108, Try.ntmps108
    go_wp2
    all_goals go_ret
    all_goals exact ⟨ret_int (by first | (rw [H.out]; done) | (rw [H.out]; simp [hr2]; done) | (rw [H.out]; simp [hr2]; omega)), by (repeat' (first | (with_reducible exact Below.refl _ _) | (with_reducible assumption) | (with_reducible refine below_alloc ?_ _) | (with_reducible refine Below.drew ?_) | (with_reducible refine below_drewN ?_ _) | (with_reducible refine below_step (by assumption) ?_) | (with_reducible refine below_later ?_ _) | (with_reducible refine Below.setCell ?_ ?_ _) | go_size))⟩
  · have H := Lib.hid hm
    clear hm
    have q1 : wrap64 r = r := by unfold wrap64; omega
    have q2 : ¬ r = 0 := by omega
    have q3 : (r == 0) = false := by simp; omega
    have q5 : IntKind.i64.wrap (r + c) = r + c := IntWalk.i64_in _ (by omega)
    go_enter Try.func108, Try.ntmps108
    go_wp2
    all_goals go_ret
    all_goals exact ⟨ret_int (by first | (rw [H.out]; done) | (rw [H.out]; simp [hr2]; done) | (rw [H.out]; simp [hr2]; omega)), by (repeat' (first | (with_reducible exact Below.refl _ _) | (with_reducible assumption) | (with_reducible refine below_alloc ?_ _) | (with_reducible refine Below.drew ?_) | (with_reducible refine below_drewN ?_ _) | (with_reducible refine below_step (by assumption) ?_) | (with_reducible refine below_later ?_ _) | (with_reducible refine Below.setCell ?_ ?_ _) | go_size))⟩
def goodB (i f v t m ev d po s re p fi : Int) (xs : List Int) : Bool := bodyB i f v t m ev d && inB po 0 3019898879 && inB s 0 262144 && inB re 0 (i - 1) && inB p 50 1013 && inB fi 0 2147483648 && decide ((xs.length : Int) ≤ d + 1) && xs.all (fun x => inB x 500 2000)
theorem goodB_bd {i f v t m ev d po s re p fi : Int} {xs : List Int} (h : goodB i f v t m ev d po s re p fi xs = true) : bodyB i f v t m ev d = true ∧ (0 ≤ po ∧ po ≤ 3019898879) ∧ (0 ≤ s ∧ s ≤ 262144) ∧ (0 ≤ re ∧ re ≤ i - 1) ∧ (50 ≤ p ∧ p ≤ 1013) ∧ (0 ≤ fi ∧ fi ≤ 2147483648) ∧ (xs.length : Int) ≤ d + 1 := by
  simp only [goodB, Bool.and_eq_true, inB_true, decide_eq_true_eq] at h
  obtain ⟨⟨⟨⟨⟨⟨⟨h1, h2⟩, h3⟩, h4⟩, h5⟩, h6⟩, h7⟩, h8⟩ := h
  exact ⟨h1, h2, h3, h4, h5, h6, h7⟩
theorem all_hit {xs : List Int} {k : Nat} (hk : k < xs.length) (h : inB (xs.getD k 0) 500 2000 = false) : xs.all (fun x => inB x 500 2000) = false := by
  rw [List.all_eq_false]
  refine ⟨xs[k], List.getElem_mem hk, ?_⟩
  simp [List.getD, List.getElem?_eq_getElem hk] at h
  simp [h]
theorem all_miss {xs : List Int} (h : ∀ t, t < xs.length → inB (xs.getD t 0) 500 2000 = true) : xs.all (fun x => inB x 500 2000) = true := by
  rw [List.all_eq_true]
  intro x hx
  obtain ⟨t, ht, rfl⟩ := List.getElem_of_mem hx
  have := h t ht
  simpa [List.getD, List.getElem?_eq_getElem ht] using this
set_option maxRecDepth 100000 in
set_option maxHeartbeats 4000000 in
theorem good_any (i f v t m ev d po s re p fi : Int) (r : Option Addr) (c : Nat) (xs : List Int) (w : World) (hx : IsInts w r c .i64 xs) :
    Calls Try.prog 28 #[.agg #[.int .i64 i, .int .i64 f, .int .i64 v, .int .i64 t, .int .i64 m, .int .i64 ev, .int .i64 d], .agg #[.int .i64 po, .int .i64 s, .int .i64 re, .int .i64 p, .int .i64 fi, .slice r xs.length c]] w fun e w' => e = .returned (.bool (goodB i f v t m ev d po s re p fi xs)) ∧ Below w.heap.size w w' := by
  have HB := Lib.hid (fun w => pbody_any i f v t m ev d w)
  have HP := Lib.hid (fun x lo hi w => pwithin_any x lo hi w)
  have hmax := Nat.le_trans hx.le hx.max
  unfold maxLen at hmax
  cases h0 : bodyB i f v t m ev d with
  | false =>
    rw [h0] at HB
    have H : Hid (goodB i f v t m ev d po s re p fi xs = false) := Lib.hid (by simp [goodB, h0])
    clear hx
    go_enter Try.func28, Try.ntmps28
    go_wp2_with (first | (go_at_call 27; refine (HB.out _).mono ?_; rintro e hb1w ⟨rfl, hb1⟩; obtain ⟨hb1c, hb1f⟩ := bcell hb1; have hb1s := hb1.size; (try simp only [World.size_alloc] at hb1s); (try (have : w.heap.size < hb1w.heap.size := by omega)); (try (have : w.heap.size + 1 < hb1w.heap.size := by omega)); (try (have : w.heap.size + 1 + 1 < hb1w.heap.size := by omega)); (try (have : w.heap.size + 1 + 1 + 1 < hb1w.heap.size := by omega)); (try (have : bX < hb1w.heap.size := by omega)); (try (have : bY < hb1w.heap.size := by omega)); (try (have : bZ < hb1w.heap.size := by omega))) | (go_at_call 74; refine (HP.out _ _ _ _).mono ?_; rintro e w' ⟨rfl, rfl⟩))
    go_ret
    exact ⟨by rw [H.out]; first | done | rfl | simp [*], by (repeat' (first | (with_reducible exact Below.refl _ _) | (with_reducible assumption) | (with_reducible refine below_alloc ?_ _) | (with_reducible refine Below.drew ?_) | (with_reducible refine below_drewN ?_ _) | (with_reducible refine below_step (by assumption) ?_) | (with_reducible refine below_later ?_ _) | (with_reducible refine Below.setCell ?_ ?_ _) | go_size))⟩
  | true =>
    rw [h0] at HB
    have ⟨⟨i0, i1⟩, _, _, _, _, _, ⟨d0, d1⟩⟩ := bodyB_bd h0
    have hw1 : IntKind.i64.wrap (i - 1) = i - 1 := IntWalk.i64_in _ (by omega)
    have hw2 : IntKind.i64.wrap (d + 1) = d + 1 := IntWalk.i64_in _ (by omega)
    cases h1 : inB po 0 3019898879 with
    | false =>
      have H : Hid (goodB i f v t m ev d po s re p fi xs = false) := Lib.hid (by simp [goodB, h1])
      clear hx
      go_enter Try.func28, Try.ntmps28
      go_wp2_with (first | (go_at_call 27; refine (HB.out _).mono ?_; rintro e hb1w ⟨rfl, hb1⟩; obtain ⟨hb1c, hb1f⟩ := bcell hb1; have hb1s := hb1.size; (try simp only [World.size_alloc] at hb1s); (try (have : w.heap.size < hb1w.heap.size := by omega)); (try (have : w.heap.size + 1 < hb1w.heap.size := by omega)); (try (have : w.heap.size + 1 + 1 < hb1w.heap.size := by omega)); (try (have : w.heap.size + 1 + 1 + 1 < hb1w.heap.size := by omega)); (try (have : bX < hb1w.heap.size := by omega)); (try (have : bY < hb1w.heap.size := by omega)); (try (have : bZ < hb1w.heap.size := by omega))) | (go_at_call 74; refine (HP.out _ _ _ _).mono ?_; rintro e w' ⟨rfl, rfl⟩))
      go_ret
      exact ⟨by rw [H.out]; first | done | rfl | simp [*], by (repeat' (first | (with_reducible exact Below.refl _ _) | (with_reducible assumption) | (with_reducible refine below_alloc ?_ _) | (with_reducible refine Below.drew ?_) | (with_reducible refine below_drewN ?_ _) | (with_reducible refine below_step (by assumption) ?_) | (with_reducible refine below_later ?_ _) | (with_reducible refine Below.setCell ?_ ?_ _) | go_size))⟩
    | true =>
      cases h2 : inB s 0 262144 with
      | false =>
        have H : Hid (goodB i f v t m ev d po s re p fi xs = false) := Lib.hid (by simp [goodB, h2])
        clear hx
        go_enter Try.func28, Try.ntmps28
        go_wp2_with (first | (go_at_call 27; refine (HB.out _).mono ?_; rintro e hb1w ⟨rfl, hb1⟩; obtain ⟨hb1c, hb1f⟩ := bcell hb1; have hb1s := hb1.size; (try simp only [World.size_alloc] at hb1s); (try (have : w.heap.size < hb1w.heap.size := by omega)); (try (have : w.heap.size + 1 < hb1w.heap.size := by omega)); (try (have : w.heap.size + 1 + 1 < hb1w.heap.size := by omega)); (try (have : w.heap.size + 1 + 1 + 1 < hb1w.heap.size := by omega)); (try (have : bX < hb1w.heap.size := by omega)); (try (have : bY < hb1w.heap.size := by omega)); (try (have : bZ < hb1w.heap.size := by omega))) | (go_at_call 74; refine (HP.out _ _ _ _).mono ?_; rintro e w' ⟨rfl, rfl⟩))
        go_ret
        exact ⟨by rw [H.out]; first | done | rfl | simp [*], by (repeat' (first | (with_reducible exact Below.refl _ _) | (with_reducible assumption) | (with_reducible refine below_alloc ?_ _) | (with_reducible refine Below.drew ?_) | (with_reducible refine below_drewN ?_ _) | (with_reducible refine below_step (by assumption) ?_) | (with_reducible refine below_later ?_ _) | (with_reducible refine Below.setCell ?_ ?_ _) | go_size))⟩
      | true =>
        cases h3 : inB re 0 (i - 1) with
        | false =>
          have H : Hid (goodB i f v t m ev d po s re p fi xs = false) := Lib.hid (by simp [goodB, h3])
          clear hx
          go_enter Try.func28, Try.ntmps28
          go_wp2_with (first | (go_at_call 27; refine (HB.out _).mono ?_; rintro e hb1w ⟨rfl, hb1⟩; obtain ⟨hb1c, hb1f⟩ := bcell hb1; have hb1s := hb1.size; (try simp only [World.size_alloc] at hb1s); (try (have : w.heap.size < hb1w.heap.size := by omega)); (try (have : w.heap.size + 1 < hb1w.heap.size := by omega)); (try (have : w.heap.size + 1 + 1 < hb1w.heap.size := by omega)); (try (have : w.heap.size + 1 + 1 + 1 < hb1w.heap.size := by omega)); (try (have : bX < hb1w.heap.size := by omega)); (try (have : bY < hb1w.heap.size := by omega)); (try (have : bZ < hb1w.heap.size := by omega))) | (go_at_call 74; refine (HP.out _ _ _ _).mono ?_; rintro e w' ⟨rfl, rfl⟩))
          go_ret
          exact ⟨by rw [H.out]; first | done | rfl | simp [*], by (repeat' (first | (with_reducible exact Below.refl _ _) | (with_reducible assumption) | (with_reducible refine below_alloc ?_ _) | (with_reducible refine Below.drew ?_) | (with_reducible refine below_drewN ?_ _) | (with_reducible refine below_step (by assumption) ?_) | (with_reducible refine below_later ?_ _) | (with_reducible refine Below.setCell ?_ ?_ _) | go_size))⟩
        | true =>
          cases h4 : inB p 50 1013 with
          | false =>
            have H : Hid (goodB i f v t m ev d po s re p fi xs = false) := Lib.hid (by simp [goodB, h4])
            clear hx
            go_enter Try.func28, Try.ntmps28
            go_wp2_with (first | (go_at_call 27; refine (HB.out _).mono ?_; rintro e hb1w ⟨rfl, hb1⟩; obtain ⟨hb1c, hb1f⟩ := bcell hb1; have hb1s := hb1.size; (try simp only [World.size_alloc] at hb1s); (try (have : w.heap.size < hb1w.heap.size := by omega)); (try (have : w.heap.size + 1 < hb1w.heap.size := by omega)); (try (have : w.heap.size + 1 + 1 < hb1w.heap.size := by omega)); (try (have : w.heap.size + 1 + 1 + 1 < hb1w.heap.size := by omega)); (try (have : bX < hb1w.heap.size := by omega)); (try (have : bY < hb1w.heap.size := by omega)); (try (have : bZ < hb1w.heap.size := by omega))) | (go_at_call 74; refine (HP.out _ _ _ _).mono ?_; rintro e w' ⟨rfl, rfl⟩))
            go_ret
            exact ⟨by rw [H.out]; first | done | rfl | simp [*], by (repeat' (first | (with_reducible exact Below.refl _ _) | (with_reducible assumption) | (with_reducible refine below_alloc ?_ _) | (with_reducible refine Below.drew ?_) | (with_reducible refine below_drewN ?_ _) | (with_reducible refine below_step (by assumption) ?_) | (with_reducible refine below_later ?_ _) | (with_reducible refine Below.setCell ?_ ?_ _) | go_size))⟩
          | true =>
            cases h5 : inB fi 0 2147483648 with
            | false =>
              have H : Hid (goodB i f v t m ev d po s re p fi xs = false) := Lib.hid (by simp [goodB, h5])
              clear hx
              go_enter Try.func28, Try.ntmps28
              go_wp2_with (first | (go_at_call 27; refine (HB.out _).mono ?_; rintro e hb1w ⟨rfl, hb1⟩; obtain ⟨hb1c, hb1f⟩ := bcell hb1; have hb1s := hb1.size; (try simp only [World.size_alloc] at hb1s); (try (have : w.heap.size < hb1w.heap.size := by omega)); (try (have : w.heap.size + 1 < hb1w.heap.size := by omega)); (try (have : w.heap.size + 1 + 1 < hb1w.heap.size := by omega)); (try (have : w.heap.size + 1 + 1 + 1 < hb1w.heap.size := by omega)); (try (have : bX < hb1w.heap.size := by omega)); (try (have : bY < hb1w.heap.size := by omega)); (try (have : bZ < hb1w.heap.size := by omega))) | (go_at_call 74; refine (HP.out _ _ _ _).mono ?_; rintro e w' ⟨rfl, rfl⟩))
              go_ret
              exact ⟨by rw [H.out]; first | done | rfl | simp [*], by (repeat' (first | (with_reducible exact Below.refl _ _) | (with_reducible assumption) | (with_reducible refine below_alloc ?_ _) | (with_reducible refine Below.drew ?_) | (with_reducible refine below_drewN ?_ _) | (with_reducible refine below_step (by assumption) ?_) | (with_reducible refine below_later ?_ _) | (with_reducible refine Below.setCell ?_ ?_ _) | go_size))⟩
            | true =>
              by_cases h6 : d + 1 < (xs.length : Int)
              · have H : Hid (goodB i f v t m ev d po s re p fi xs = false) := Lib.hid (by simp [goodB]; intros; omega)
                clear hx
                go_enter Try.func28, Try.ntmps28
                go_wp2_with (first | (go_at_call 27; refine (HB.out _).mono ?_; rintro e hb1w ⟨rfl, hb1⟩; obtain ⟨hb1c, hb1f⟩ := bcell hb1; have hb1s := hb1.size; (try simp only [World.size_alloc] at hb1s); (try (have : w.heap.size < hb1w.heap.size := by omega)); (try (have : w.heap.size + 1 < hb1w.heap.size := by omega)); (try (have : w.heap.size + 1 + 1 < hb1w.heap.size := by omega)); (try (have : w.heap.size + 1 + 1 + 1 < hb1w.heap.size := by omega)); (try (have : bX < hb1w.heap.size := by omega)); (try (have : bY < hb1w.heap.size := by omega)); (try (have : bZ < hb1w.heap.size := by omega))) | (go_at_call 74; refine (HP.out _ _ _ _).mono ?_; rintro e w' ⟨rfl, rfl⟩))
                go_ret
                exact ⟨by rw [H.out]; first | done | rfl | simp [*], by (repeat' (first | (with_reducible exact Below.refl _ _) | (with_reducible assumption) | (with_reducible refine below_alloc ?_ _) | (with_reducible refine Below.drew ?_) | (with_reducible refine below_drewN ?_ _) | (with_reducible refine below_step (by assumption) ?_) | (with_reducible refine below_later ?_ _) | (with_reducible refine Below.setCell ?_ ?_ _) | go_size))⟩
              have HG : Hid (goodB i f v t m ev d po s re p fi xs = xs.all (fun x => inB x 500 2000)) := Lib.hid (by
                have h7 : decide ((xs.length : Int) ≤ d + 1) = true := by simp; omega
                simp only [goodB, h0, h1, h2, h3, h4, h5, h7, Bool.true_and])
              have HX : Hid (xs = [] ∨ ∃ b off, r = some ⟨b, off, none⟩ ∧ b < w.heap.size ∧ ∀ i, i < xs.length → w.cell? ⟨b, off + i, none⟩ = some (.int .i64 (xs.getD i 0))) := Lib.hid (by
                by_cases e : xs = []
                · exact .inl e
                · exact .inr (hx.cells e))
              clear hx
              generalize goodB i f v t m ev d po s re p fi xs = res at *
              have HT : Hid ((∀ t, t < xs.length → inB (xs.getD t 0) 500 2000 = true) → res = true) := Lib.hid (fun h => by rw [HG.out]; exact all_miss h)
              have HF : Hid (∀ k, k < xs.length → inB (xs.getD k 0) 500 2000 = false → res = false) := Lib.hid (fun k hk h => by rw [HG.out]; exact all_hit hk h)
              clear HG
              generalize hn : xs.length = n at *
              have HN := Lib.hid hn
              clear hn
              go_enter Try.func28, Try.ntmps28
              go_wp2_with (first | (go_at_call 27; refine (HB.out _).mono ?_; rintro e hb1w ⟨rfl, hb1⟩; obtain ⟨hb1c, hb1f⟩ := bcell hb1; have hb1s := hb1.size; (try simp only [World.size_alloc] at hb1s); (try (have : w.heap.size < hb1w.heap.size := by omega)); (try (have : w.heap.size + 1 < hb1w.heap.size := by omega)); (try (have : w.heap.size + 1 + 1 < hb1w.heap.size := by omega)); (try (have : w.heap.size + 1 + 1 + 1 < hb1w.heap.size := by omega)); (try (have : bX < hb1w.heap.size := by omega)); (try (have : bY < hb1w.heap.size := by omega)); (try (have : bZ < hb1w.heap.size := by omega))) | (go_at_call 74; refine (HP.out _ _ _ _).mono ?_; rintro e w' ⟨rfl, rfl⟩))
              go_loopg [55] n (fun kx s55 wr => ∃ (k : Nat) (e : Later w), s55 = .int .i64 k ∧ k ≤ n ∧ n - k ≤ kx ∧ wr = e.w ∧ Hid (∀ t, t < k → inB (xs.getD t 0) 500 2000 = true))
              case atStart => exact ⟨0, ⟨hb1w, by (repeat' (first | (with_reducible exact Below.refl _ _) | (with_reducible assumption) | (with_reducible refine below_alloc ?_ _) | (with_reducible refine Below.drew ?_) | (with_reducible refine below_drewN ?_ _) | (with_reducible refine below_step (by assumption) ?_) | (with_reducible refine below_later ?_ _) | (with_reducible refine Below.setCell ?_ ?_ _) | go_size))⟩, rfl, by omega, by omega, rfl, Lib.hid (fun t h => absurd h (Nat.not_lt_zero _))⟩
              case round =>
                obtain ⟨k, e, rfl, hk, hkx, rfl, HQ⟩ := hrel
                by_cases hlt : k < n
                · have hk1 : (0 : Int) ≤ (k : Int) := by omega
                  have hk2 : (k : Int) < n := by omega
                  obtain ⟨bX, off, rfl, hb, hc⟩ := HX.out.resolve_left (fun e => by have := HN.out; rw [e] at this; simp at this; omega)
                  have hc1 : e.w.cell? ⟨bX, off + k, none⟩ = some (.int .i64 (xs.getD k 0)) := by
                    rw [Later.cell e hb]; exact hc k hlt
                  have HF1 := Lib.hid (HF.out k hlt)
                  have HG1 : Hid (inB (xs.getD k 0) 500 2000 = true → ∀ t, t < k + 1 → inB (xs.getD t 0) 500 2000 = true) := Lib.hid (fun h t ht => by
                    by_cases e : t = k
                    · subst e; exact h
                    · exact HQ.out t (by omega))
                  clear hc
                  generalize xs.getD k 0 = x at hc1 HF1 HG1
                  cases hi : inB x 500 2000 with
                  | false =>
                    have H := Lib.hid (HF1.out hi)
                    go_wp2_with ((go_at_call 74; refine (HP.out _ _ _ _).mono ?_; rintro e w' ⟨rfl, rfl⟩))
                    go_ret
                    exact ⟨by first | (rw [H.out]; done) | (rw [H.out]; rfl), by (repeat' (first | (with_reducible exact Below.refl _ _) | (with_reducible assumption) | (with_reducible refine below_alloc ?_ _) | (with_reducible refine Below.drew ?_) | (with_reducible refine below_drewN ?_ _) | (with_reducible refine below_step (by assumption) ?_) | (with_reducible refine below_later ?_ _) | (with_reducible refine Below.setCell ?_ ?_ _) | go_size))⟩
                  | true =>
                    have H := Lib.hid (HG1.out hi)
                    go_wp2_with ((go_at_call 74; refine (HP.out _ _ _ _).mono ?_; rintro e w' ⟨rfl, rfl⟩))
                    go_roundg (n - (k + 1))
                    case measure => omega
                    case rel => exact ⟨k + 1, e, by go_num, by omega, by omega, rfl, H⟩
                · obtain rfl : k = n := by omega
                  have H := Lib.hid (HT.out HQ.out)
                  go_wp2
                  go_ret
                  exact ⟨by first | (rw [H.out]; done) | (rw [H.out]; rfl), by (repeat' (first | (with_reducible exact Below.refl _ _) | (with_reducible assumption) | (with_reducible refine below_alloc ?_ _) | (with_reducible refine Below.drew ?_) | (with_reducible refine below_drewN ?_ _) | (with_reducible refine below_step (by assumption) ?_) | (with_reducible refine below_later ?_ _) | (with_reducible refine Below.setCell ?_ ?_ _) | go_size))⟩
end Go.Proofs.Ytohdbneaganfbaa
