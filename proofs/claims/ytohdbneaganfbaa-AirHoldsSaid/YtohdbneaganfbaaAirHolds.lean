/- The law AirHolds returns true for all bodies, states and numbers. No conditions. -/
import Derived.Test.YtohdbneaganfbaaHoldD
import Derived.Test.YtohdbneaganfbaaFlat29
import Derived.Test.YtohdbneaganfbaaOpenBody
import Derived.Test.YtohdbneaganfbaaOpenPlant
import Derived.Test.YtohdbneaganfbaaFrame
namespace Go.Proofs.Ytohdbneaganfbaa
set_option linter.unusedVariables false
set_option linter.unusedSimpArgs false
open Go.RowKit Go.ChangeShapes Go.WideShapes Go.ChangeAt

set_option maxRecDepth 100000 in
set_option maxHeartbeats 4000000 in
theorem aholds_walk (i f v t m ev d po s re p fi : Int) (r : Option Addr) (c : Nat) (xs : List Int) (k : Int) (w : World) (hx : IsInts w r c .i64 xs) : Calls Try.prog 6 #[.agg #[.int .i64 i, .int .i64 f, .int .i64 v, .int .i64 t, .int .i64 m, .int .i64 ev, .int .i64 d], .agg #[.int .i64 po, .int .i64 s, .int .i64 re, .int .i64 p, .int .i64 fi, .slice r xs.length c], .int .i64 k] w fun e w' => e = .returned (.bool true) ∧ Below w.heap.size w w' := by
  have HX : Hid (∀ w', Below w.heap.size w w' → IsInts w' r c .i64 xs) := Lib.hid (fun _ h => hx.later h)
  have HB := Lib.hid (fun w => pbody_any i f v t m ev d w)
  have HR := Lib.hid (fun w => rbody_any i f v t m ev d w)
  have HG := Lib.hid (fun w hx => good_any i f v t m ev d po s re p fi r c xs w hx)
  clear hx
  cases hb : bodyB i f v t m ev d with
  | false =>
    rw [hb] at HB HR
    go_enter Try.func6, Try.ntmps6
    go_wp2_with (first | (go_at_call 15; refine (awake29_any _).mono ?_; rintro e hb1w ⟨rfl, hb1⟩; obtain ⟨hb1c, hb1f⟩ := bcell hb1; have hb1s := hb1.size; (try simp only [World.size_alloc] at hb1s); (try (have : w.heap.size < hb1w.heap.size := by omega)); (try (have : w.heap.size + 1 < hb1w.heap.size := by omega)); (try (have : w.heap.size + 1 + 1 < hb1w.heap.size := by omega)); (try (have : w.heap.size + 1 + 1 + 1 < hb1w.heap.size := by omega)); (try (have : bX < hb1w.heap.size := by omega)); (try (have : bY < hb1w.heap.size := by omega)); (try (have : bZ < hb1w.heap.size := by omega))) | (go_at_call 27; refine (HB.out _).mono ?_; rintro e hb2w ⟨rfl, hb2⟩; obtain ⟨hb2c, hb2f⟩ := bcell hb2; have hb2s := hb2.size; (try simp only [World.size_alloc] at hb2s); (try (have : w.heap.size < hb2w.heap.size := by omega)); (try (have : w.heap.size + 1 < hb2w.heap.size := by omega)); (try (have : w.heap.size + 1 + 1 < hb2w.heap.size := by omega)); (try (have : w.heap.size + 1 + 1 + 1 < hb2w.heap.size := by omega)); (try (have : bX < hb2w.heap.size := by omega)); (try (have : bY < hb2w.heap.size := by omega)); (try (have : bZ < hb2w.heap.size := by omega))))
    go_ret
    exact ⟨rfl, by (repeat' (first | (with_reducible exact Below.refl _ _) | (with_reducible assumption) | (with_reducible refine below_alloc ?_ _) | (with_reducible refine Below.drew ?_) | (with_reducible refine below_drewN ?_ _) | (with_reducible refine below_step (by assumption) ?_) | (with_reducible refine below_later ?_ _) | (with_reducible refine Below.setCell ?_ ?_ _) | go_size))⟩
  | true =>
    rw [hb] at HB HR
    cases hg : goodB i f v t m ev d po s re p fi xs with
    | false =>
      rw [hg] at HG
      go_enter Try.func6, Try.ntmps6
      go_wp2_with (first | (go_at_call 15; refine (awake29_any _).mono ?_; rintro e hb1w ⟨rfl, hb1⟩; obtain ⟨hb1c, hb1f⟩ := bcell hb1; have hb1s := hb1.size; (try simp only [World.size_alloc] at hb1s); (try (have : w.heap.size < hb1w.heap.size := by omega)); (try (have : w.heap.size + 1 < hb1w.heap.size := by omega)); (try (have : w.heap.size + 1 + 1 < hb1w.heap.size := by omega)); (try (have : w.heap.size + 1 + 1 + 1 < hb1w.heap.size := by omega)); (try (have : bX < hb1w.heap.size := by omega)); (try (have : bY < hb1w.heap.size := by omega)); (try (have : bZ < hb1w.heap.size := by omega))) | (go_at_call 27; refine (HB.out _).mono ?_; rintro e hb2w ⟨rfl, hb2⟩; obtain ⟨hb2c, hb2f⟩ := bcell hb2; have hb2s := hb2.size; (try simp only [World.size_alloc] at hb2s); (try (have : w.heap.size < hb2w.heap.size := by omega)); (try (have : w.heap.size + 1 < hb2w.heap.size := by omega)); (try (have : w.heap.size + 1 + 1 < hb2w.heap.size := by omega)); (try (have : w.heap.size + 1 + 1 + 1 < hb2w.heap.size := by omega)); (try (have : bX < hb2w.heap.size := by omega)); (try (have : bY < hb2w.heap.size := by omega)); (try (have : bZ < hb2w.heap.size := by omega))) | (go_at_call 28; refine (HG.out _ (HX.out _ (by (repeat' (first | (with_reducible exact Below.refl _ _) | (with_reducible assumption) | (with_reducible refine below_alloc ?_ _) | (with_reducible refine Below.drew ?_) | (with_reducible refine below_drewN ?_ _) | (with_reducible refine below_step (by assumption) ?_) | (with_reducible refine below_later ?_ _) | (with_reducible refine Below.setCell ?_ ?_ _) | go_size))))).mono ?_; rintro e hb3w ⟨rfl, hb3⟩; obtain ⟨hb3c, hb3f⟩ := bcell hb3; have hb3s := hb3.size; (try simp only [World.size_alloc] at hb3s); (try (have : w.heap.size < hb3w.heap.size := by omega)); (try (have : w.heap.size + 1 < hb3w.heap.size := by omega)); (try (have : w.heap.size + 1 + 1 < hb3w.heap.size := by omega)); (try (have : w.heap.size + 1 + 1 + 1 < hb3w.heap.size := by omega)); (try (have : bX < hb3w.heap.size := by omega)); (try (have : bY < hb3w.heap.size := by omega)); (try (have : bZ < hb3w.heap.size := by omega))))
      go_ret
      exact ⟨rfl, by (repeat' (first | (with_reducible exact Below.refl _ _) | (with_reducible assumption) | (with_reducible refine below_alloc ?_ _) | (with_reducible refine Below.drew ?_) | (with_reducible refine below_drewN ?_ _) | (with_reducible refine below_step (by assumption) ?_) | (with_reducible refine below_later ?_ _) | (with_reducible refine Below.setCell ?_ ?_ _) | go_size))⟩
    | true =>
      rw [hg] at HG
      by_cases k1 : k < 1
      · go_enter Try.func6, Try.ntmps6
        go_wp2_with (first | (go_at_call 15; refine (awake29_any _).mono ?_; rintro e hb1w ⟨rfl, hb1⟩; obtain ⟨hb1c, hb1f⟩ := bcell hb1; have hb1s := hb1.size; (try simp only [World.size_alloc] at hb1s); (try (have : w.heap.size < hb1w.heap.size := by omega)); (try (have : w.heap.size + 1 < hb1w.heap.size := by omega)); (try (have : w.heap.size + 1 + 1 < hb1w.heap.size := by omega)); (try (have : w.heap.size + 1 + 1 + 1 < hb1w.heap.size := by omega)); (try (have : bX < hb1w.heap.size := by omega)); (try (have : bY < hb1w.heap.size := by omega)); (try (have : bZ < hb1w.heap.size := by omega))) | (go_at_call 27; refine (HB.out _).mono ?_; rintro e hb2w ⟨rfl, hb2⟩; obtain ⟨hb2c, hb2f⟩ := bcell hb2; have hb2s := hb2.size; (try simp only [World.size_alloc] at hb2s); (try (have : w.heap.size < hb2w.heap.size := by omega)); (try (have : w.heap.size + 1 < hb2w.heap.size := by omega)); (try (have : w.heap.size + 1 + 1 < hb2w.heap.size := by omega)); (try (have : w.heap.size + 1 + 1 + 1 < hb2w.heap.size := by omega)); (try (have : bX < hb2w.heap.size := by omega)); (try (have : bY < hb2w.heap.size := by omega)); (try (have : bZ < hb2w.heap.size := by omega))) | (go_at_call 28; refine (HG.out _ (HX.out _ (by (repeat' (first | (with_reducible exact Below.refl _ _) | (with_reducible assumption) | (with_reducible refine below_alloc ?_ _) | (with_reducible refine Below.drew ?_) | (with_reducible refine below_drewN ?_ _) | (with_reducible refine below_step (by assumption) ?_) | (with_reducible refine below_later ?_ _) | (with_reducible refine Below.setCell ?_ ?_ _) | go_size))))).mono ?_; rintro e hb3w ⟨rfl, hb3⟩; obtain ⟨hb3c, hb3f⟩ := bcell hb3; have hb3s := hb3.size; (try simp only [World.size_alloc] at hb3s); (try (have : w.heap.size < hb3w.heap.size := by omega)); (try (have : w.heap.size + 1 < hb3w.heap.size := by omega)); (try (have : w.heap.size + 1 + 1 < hb3w.heap.size := by omega)); (try (have : w.heap.size + 1 + 1 + 1 < hb3w.heap.size := by omega)); (try (have : bX < hb3w.heap.size := by omega)); (try (have : bY < hb3w.heap.size := by omega)); (try (have : bZ < hb3w.heap.size := by omega))) | (go_at_call 29; refine (HR.out _).mono ?_; rintro e hb4w ⟨rfl, hb4⟩; obtain ⟨hb4c, hb4f⟩ := bcell hb4; have hb4s := hb4.size; (try simp only [World.size_alloc] at hb4s); (try (have : w.heap.size < hb4w.heap.size := by omega)); (try (have : w.heap.size + 1 < hb4w.heap.size := by omega)); (try (have : w.heap.size + 1 + 1 < hb4w.heap.size := by omega)); (try (have : w.heap.size + 1 + 1 + 1 < hb4w.heap.size := by omega)); (try (have : bX < hb4w.heap.size := by omega)); (try (have : bY < hb4w.heap.size := by omega)); (try (have : bZ < hb4w.heap.size := by omega))))
        go_ret
        exact ⟨rfl, by (repeat' (first | (with_reducible exact Below.refl _ _) | (with_reducible assumption) | (with_reducible refine below_alloc ?_ _) | (with_reducible refine Below.drew ?_) | (with_reducible refine below_drewN ?_ _) | (with_reducible refine below_step (by assumption) ?_) | (with_reducible refine below_later ?_ _) | (with_reducible refine Below.setCell ?_ ?_ _) | go_size))⟩
      by_cases k2 : 10000 < k
      · go_enter Try.func6, Try.ntmps6
        go_wp2_with (first | (go_at_call 15; refine (awake29_any _).mono ?_; rintro e hb1w ⟨rfl, hb1⟩; obtain ⟨hb1c, hb1f⟩ := bcell hb1; have hb1s := hb1.size; (try simp only [World.size_alloc] at hb1s); (try (have : w.heap.size < hb1w.heap.size := by omega)); (try (have : w.heap.size + 1 < hb1w.heap.size := by omega)); (try (have : w.heap.size + 1 + 1 < hb1w.heap.size := by omega)); (try (have : w.heap.size + 1 + 1 + 1 < hb1w.heap.size := by omega)); (try (have : bX < hb1w.heap.size := by omega)); (try (have : bY < hb1w.heap.size := by omega)); (try (have : bZ < hb1w.heap.size := by omega))) | (go_at_call 27; refine (HB.out _).mono ?_; rintro e hb2w ⟨rfl, hb2⟩; obtain ⟨hb2c, hb2f⟩ := bcell hb2; have hb2s := hb2.size; (try simp only [World.size_alloc] at hb2s); (try (have : w.heap.size < hb2w.heap.size := by omega)); (try (have : w.heap.size + 1 < hb2w.heap.size := by omega)); (try (have : w.heap.size + 1 + 1 < hb2w.heap.size := by omega)); (try (have : w.heap.size + 1 + 1 + 1 < hb2w.heap.size := by omega)); (try (have : bX < hb2w.heap.size := by omega)); (try (have : bY < hb2w.heap.size := by omega)); (try (have : bZ < hb2w.heap.size := by omega))) | (go_at_call 28; refine (HG.out _ (HX.out _ (by (repeat' (first | (with_reducible exact Below.refl _ _) | (with_reducible assumption) | (with_reducible refine below_alloc ?_ _) | (with_reducible refine Below.drew ?_) | (with_reducible refine below_drewN ?_ _) | (with_reducible refine below_step (by assumption) ?_) | (with_reducible refine below_later ?_ _) | (with_reducible refine Below.setCell ?_ ?_ _) | go_size))))).mono ?_; rintro e hb3w ⟨rfl, hb3⟩; obtain ⟨hb3c, hb3f⟩ := bcell hb3; have hb3s := hb3.size; (try simp only [World.size_alloc] at hb3s); (try (have : w.heap.size < hb3w.heap.size := by omega)); (try (have : w.heap.size + 1 < hb3w.heap.size := by omega)); (try (have : w.heap.size + 1 + 1 < hb3w.heap.size := by omega)); (try (have : w.heap.size + 1 + 1 + 1 < hb3w.heap.size := by omega)); (try (have : bX < hb3w.heap.size := by omega)); (try (have : bY < hb3w.heap.size := by omega)); (try (have : bZ < hb3w.heap.size := by omega))) | (go_at_call 29; refine (HR.out _).mono ?_; rintro e hb4w ⟨rfl, hb4⟩; obtain ⟨hb4c, hb4f⟩ := bcell hb4; have hb4s := hb4.size; (try simp only [World.size_alloc] at hb4s); (try (have : w.heap.size < hb4w.heap.size := by omega)); (try (have : w.heap.size + 1 < hb4w.heap.size := by omega)); (try (have : w.heap.size + 1 + 1 < hb4w.heap.size := by omega)); (try (have : w.heap.size + 1 + 1 + 1 < hb4w.heap.size := by omega)); (try (have : bX < hb4w.heap.size := by omega)); (try (have : bY < hb4w.heap.size := by omega)); (try (have : bZ < hb4w.heap.size := by omega))))
        go_ret
        exact ⟨rfl, by (repeat' (first | (with_reducible exact Below.refl _ _) | (with_reducible assumption) | (with_reducible refine below_alloc ?_ _) | (with_reducible refine Below.drew ?_) | (with_reducible refine below_drewN ?_ _) | (with_reducible refine below_step (by assumption) ?_) | (with_reducible refine below_later ?_ _) | (with_reducible refine Below.setCell ?_ ?_ _) | go_size))⟩
      obtain ⟨hbd, hpo, ⟨s0, s1⟩, hre, ⟨p0, p1⟩, hfi, hlx⟩ := goodB_bd hg
      obtain ⟨hi, hf, hv, ⟨t0, t1⟩, hm, hev, hd⟩ := bodyB_bd hb
      have n1 : ¬ s < 0 := by omega
      have n2 : ¬ p < 50 := by omega
      have n3 : ¬ 1013 < p := by omega
      have c0 : 0 ≤ s * p := Int.mul_nonneg s0 (by omega)
      have c1 : s * p ≤ 262144 * 1013 := Int.mul_le_mul s1 p1 (by omega) (by omega)
      obtain ⟨U, hU⟩ : ∃ U, U = s * p / 1024 := ⟨_, rfl⟩
      have U0 : 0 ≤ U ∧ U ≤ 259328 := by omega
      have w6 : IntKind.i64.wrap (s * p) = s * p := IntWalk.i64_in _ (by omega)
      have w7 : (s * p).tdiv 1024 = U := by rw [Int.tdiv_eq_ediv_of_nonneg c0]; exact hU.symm
      have w8 : s * p / 1024 = U := hU.symm
      have w9 : wrap64 U = U := by unfold wrap64; omega
      have HTH := Lib.hid (fun w => throttle_any i f v t m ev d U p w)
      rw [thr2_in hb ⟨inB_true.2 ⟨by omega, by omega⟩, inB_true.2 ⟨p0, p1⟩⟩] at HTH
      have ⟨hN, hNb, hNa⟩ := thrN_spec (t := t) (d := 1013 - p) (flow := U) t0 (by omega)
      obtain ⟨D, hD⟩ : ∃ D, D = 1013 - p := ⟨_, rfl⟩
      have D0 : 0 ≤ D ∧ D ≤ 963 := by omega
      have w10 : (1013 : Int) - p = D := hD.symm
      rw [← hD] at HTH hN hNb hNa
      have m0 : 0 ≤ t * D := Int.mul_nonneg t0 D0.1
      have m1 : t * D ≤ 65536 * 963 := Int.mul_le_mul t1 D0.2 D0.1 (by omega)
      by_cases hn : thrN t D U = 1001
      · rw [if_pos hn] at HTH
        have hlast := hNb 1000 (by omega)
        rw [decide_eq_false_iff_not] at hlast
        have e1 : thrV t ((1000 : Nat) : Int) D = t * D := by
          unfold thrV
          rw [show t * ((1000 : Nat) : Int) * D = t * D * 1000 by rw [Int.mul_assoc, Int.mul_comm ((1000 : Nat) : Int) D, ← Int.mul_assoc]; rfl]
          omega
        have hml : t * D < U := by omega
        have HTH2 : Hid (∀ w, Calls Try.prog 25 #[.agg #[.int .i64 i, .int .i64 f, .int .i64 v, .int .i64 t, .int .i64 m, .int .i64 ev, .int .i64 d], .int .i64 U, .int .i64 p] w fun e w' => e = .returned (.tuple #[.int .i64 0, .int .i64 7]) ∧ Below w.heap.size w w') := Lib.hid HTH.out
        have w11 : IntKind.i64.wrap (t * D) = t * D := IntWalk.i64_in _ (by omega)
        clear HTH hN hNb hNa hlast e1 hn hb hg hU hD hbd hpo hre hfi hlx hi hf hv hm hev hd
        go_enter Try.func6, Try.ntmps6
        go_wp2_with (first | (go_at_call 15; refine (awake29_any _).mono ?_; rintro e hb1w ⟨rfl, hb1⟩; obtain ⟨hb1c, hb1f⟩ := bcell hb1; have hb1s := hb1.size; (try simp only [World.size_alloc] at hb1s); (try (have : w.heap.size < hb1w.heap.size := by omega)); (try (have : w.heap.size + 1 < hb1w.heap.size := by omega)); (try (have : w.heap.size + 1 + 1 < hb1w.heap.size := by omega)); (try (have : w.heap.size + 1 + 1 + 1 < hb1w.heap.size := by omega)); (try (have : bX < hb1w.heap.size := by omega)); (try (have : bY < hb1w.heap.size := by omega)); (try (have : bZ < hb1w.heap.size := by omega))) | (go_at_call 27; refine (HB.out _).mono ?_; rintro e hb2w ⟨rfl, hb2⟩; obtain ⟨hb2c, hb2f⟩ := bcell hb2; have hb2s := hb2.size; (try simp only [World.size_alloc] at hb2s); (try (have : w.heap.size < hb2w.heap.size := by omega)); (try (have : w.heap.size + 1 < hb2w.heap.size := by omega)); (try (have : w.heap.size + 1 + 1 < hb2w.heap.size := by omega)); (try (have : w.heap.size + 1 + 1 + 1 < hb2w.heap.size := by omega)); (try (have : bX < hb2w.heap.size := by omega)); (try (have : bY < hb2w.heap.size := by omega)); (try (have : bZ < hb2w.heap.size := by omega))) | (go_at_call 28; refine (HG.out _ (HX.out _ (by (repeat' (first | (with_reducible exact Below.refl _ _) | (with_reducible assumption) | (with_reducible refine below_alloc ?_ _) | (with_reducible refine Below.drew ?_) | (with_reducible refine below_drewN ?_ _) | (with_reducible refine below_step (by assumption) ?_) | (with_reducible refine below_later ?_ _) | (with_reducible refine Below.setCell ?_ ?_ _) | go_size))))).mono ?_; rintro e hb3w ⟨rfl, hb3⟩; obtain ⟨hb3c, hb3f⟩ := bcell hb3; have hb3s := hb3.size; (try simp only [World.size_alloc] at hb3s); (try (have : w.heap.size < hb3w.heap.size := by omega)); (try (have : w.heap.size + 1 < hb3w.heap.size := by omega)); (try (have : w.heap.size + 1 + 1 < hb3w.heap.size := by omega)); (try (have : w.heap.size + 1 + 1 + 1 < hb3w.heap.size := by omega)); (try (have : bX < hb3w.heap.size := by omega)); (try (have : bY < hb3w.heap.size := by omega)); (try (have : bZ < hb3w.heap.size := by omega))) | (go_at_call 29; refine (HR.out _).mono ?_; rintro e hb4w ⟨rfl, hb4⟩; obtain ⟨hb4c, hb4f⟩ := bcell hb4; have hb4s := hb4.size; (try simp only [World.size_alloc] at hb4s); (try (have : w.heap.size < hb4w.heap.size := by omega)); (try (have : w.heap.size + 1 < hb4w.heap.size := by omega)); (try (have : w.heap.size + 1 + 1 < hb4w.heap.size := by omega)); (try (have : w.heap.size + 1 + 1 + 1 < hb4w.heap.size := by omega)); (try (have : bX < hb4w.heap.size := by omega)); (try (have : bY < hb4w.heap.size := by omega)); (try (have : bZ < hb4w.heap.size := by omega))) | (go_at_call 25; refine (HTH2.out _).mono ?_; rintro e hb5w ⟨rfl, hb5⟩; obtain ⟨hb5c, hb5f⟩ := bcell hb5; have hb5s := hb5.size; (try simp only [World.size_alloc] at hb5s); (try (have : w.heap.size < hb5w.heap.size := by omega)); (try (have : w.heap.size + 1 < hb5w.heap.size := by omega)); (try (have : w.heap.size + 1 + 1 < hb5w.heap.size := by omega)); (try (have : w.heap.size + 1 + 1 + 1 < hb5w.heap.size := by omega)); (try (have : bX < hb5w.heap.size := by omega)); (try (have : bY < hb5w.heap.size := by omega)); (try (have : bZ < hb5w.heap.size := by omega))))
        go_ret
        exact ⟨by first | rfl | (simp; done), by (repeat' (first | (with_reducible exact Below.refl _ _) | (with_reducible assumption) | (with_reducible refine below_alloc ?_ _) | (with_reducible refine Below.drew ?_) | (with_reducible refine below_drewN ?_ _) | (with_reducible refine below_step (by assumption) ?_) | (with_reducible refine below_later ?_ _) | (with_reducible refine Below.setCell ?_ ?_ _) | go_size))⟩
      · rw [if_neg hn] at HTH
        have hat := hNa (thrN t D U) (Nat.le_refl _) (by omega)
        rw [decide_eq_true_eq] at hat
        have hbl : thrN t D U = 0 ∨ (0 < thrN t D U ∧ ¬ U ≤ thrV t (((thrN t D U - 1 : Nat)) : Int) D) := by
          by_cases h0 : thrN t D U = 0
          · exact .inl h0
          · right
            refine ⟨by omega, ?_⟩
            have := hNb (thrN t D U - 1) (by omega)
            rwa [decide_eq_false_iff_not] at this
        unfold thrV at hat hbl
        generalize thrN t D U = N at *
        obtain ⟨x, hxN⟩ : ∃ x : Int, x = (N : Int) := ⟨_, rfl⟩
        rw [← hxN] at HTH hat
        have x0 : 0 ≤ x ∧ x ≤ 1000 := by omega
        have HTH2 : Hid (∀ w, Calls Try.prog 25 #[.agg #[.int .i64 i, .int .i64 f, .int .i64 v, .int .i64 t, .int .i64 m, .int .i64 ev, .int .i64 d], .int .i64 U, .int .i64 p] w fun e w' => e = .returned (.tuple #[.int .i64 x, .int .i64 0]) ∧ Below w.heap.size w w') := Lib.hid HTH.out
        have HST := Lib.hid (fun w hx => step_any i f v t m ev d po s re p fi x k r c xs w hx hg x0 ⟨by omega, by omega⟩ (by rw [w8, w10]; exact hat))
        have a0 : 0 ≤ t * x := Int.mul_nonneg t0 x0.1
        have a1 : t * x ≤ 65536 * 1000 := Int.mul_le_mul t1 x0.2 x0.1 (by omega)
        have b0 : 0 ≤ t * x * D := Int.mul_nonneg a0 D0.1
        have b1 : t * x * D ≤ 65536 * 1000 * 963 := Int.mul_le_mul a1 D0.2 D0.1 (by omega)
        obtain ⟨I, hI⟩ : ∃ I, I = t * x * D / 1000 := ⟨_, rfl⟩
        have v1 : IntKind.i64.wrap (t * x) = t * x := IntWalk.i64_in _ (by omega)
        have v2 : IntKind.i64.wrap (t * x * D) = t * x * D := IntWalk.i64_in _ (by omega)
        have v3 : (t * x * D).tdiv 1000 = I := by rw [Int.tdiv_eq_ediv_of_nonneg b0]; exact hI.symm
        have v4 : t * x * D / 1000 = I := hI.symm
        have v5 : wrap64 I = I := by unfold wrap64; omega
        have hIU : ¬ I < U := by omega
        have y1 : ¬ x < 0 := by omega
        have y2 : ¬ 1000 < x := by omega
        rcases hbl with h0 | ⟨h0, hlt⟩
        · obtain rfl : x = 0 := by omega
          clear HTH hN hNb hNa hat hn hb hg hU hD hbd hpo hre hfi hlx hi hf hv hm hev hd hI h0 hxN
          go_enter Try.func6, Try.ntmps6
          go_wp2_with (first | (go_at_call 15; refine (awake29_any _).mono ?_; rintro e hb1w ⟨rfl, hb1⟩; obtain ⟨hb1c, hb1f⟩ := bcell hb1; have hb1s := hb1.size; (try simp only [World.size_alloc] at hb1s); (try (have : w.heap.size < hb1w.heap.size := by omega)); (try (have : w.heap.size + 1 < hb1w.heap.size := by omega)); (try (have : w.heap.size + 1 + 1 < hb1w.heap.size := by omega)); (try (have : w.heap.size + 1 + 1 + 1 < hb1w.heap.size := by omega)); (try (have : bX < hb1w.heap.size := by omega)); (try (have : bY < hb1w.heap.size := by omega)); (try (have : bZ < hb1w.heap.size := by omega))) | (go_at_call 27; refine (HB.out _).mono ?_; rintro e hb2w ⟨rfl, hb2⟩; obtain ⟨hb2c, hb2f⟩ := bcell hb2; have hb2s := hb2.size; (try simp only [World.size_alloc] at hb2s); (try (have : w.heap.size < hb2w.heap.size := by omega)); (try (have : w.heap.size + 1 < hb2w.heap.size := by omega)); (try (have : w.heap.size + 1 + 1 < hb2w.heap.size := by omega)); (try (have : w.heap.size + 1 + 1 + 1 < hb2w.heap.size := by omega)); (try (have : bX < hb2w.heap.size := by omega)); (try (have : bY < hb2w.heap.size := by omega)); (try (have : bZ < hb2w.heap.size := by omega))) | (go_at_call 28; refine (HG.out _ (HX.out _ (by (repeat' (first | (with_reducible exact Below.refl _ _) | (with_reducible assumption) | (with_reducible refine below_alloc ?_ _) | (with_reducible refine Below.drew ?_) | (with_reducible refine below_drewN ?_ _) | (with_reducible refine below_step (by assumption) ?_) | (with_reducible refine below_later ?_ _) | (with_reducible refine Below.setCell ?_ ?_ _) | go_size))))).mono ?_; rintro e hb3w ⟨rfl, hb3⟩; obtain ⟨hb3c, hb3f⟩ := bcell hb3; have hb3s := hb3.size; (try simp only [World.size_alloc] at hb3s); (try (have : w.heap.size < hb3w.heap.size := by omega)); (try (have : w.heap.size + 1 < hb3w.heap.size := by omega)); (try (have : w.heap.size + 1 + 1 < hb3w.heap.size := by omega)); (try (have : w.heap.size + 1 + 1 + 1 < hb3w.heap.size := by omega)); (try (have : bX < hb3w.heap.size := by omega)); (try (have : bY < hb3w.heap.size := by omega)); (try (have : bZ < hb3w.heap.size := by omega))) | (go_at_call 29; refine (HR.out _).mono ?_; rintro e hb4w ⟨rfl, hb4⟩; obtain ⟨hb4c, hb4f⟩ := bcell hb4; have hb4s := hb4.size; (try simp only [World.size_alloc] at hb4s); (try (have : w.heap.size < hb4w.heap.size := by omega)); (try (have : w.heap.size + 1 < hb4w.heap.size := by omega)); (try (have : w.heap.size + 1 + 1 < hb4w.heap.size := by omega)); (try (have : w.heap.size + 1 + 1 + 1 < hb4w.heap.size := by omega)); (try (have : bX < hb4w.heap.size := by omega)); (try (have : bY < hb4w.heap.size := by omega)); (try (have : bZ < hb4w.heap.size := by omega))) | (go_at_call 25; refine (HTH2.out _).mono ?_; rintro e hb5w ⟨rfl, hb5⟩; obtain ⟨hb5c, hb5f⟩ := bcell hb5; have hb5s := hb5.size; (try simp only [World.size_alloc] at hb5s); (try (have : w.heap.size < hb5w.heap.size := by omega)); (try (have : w.heap.size + 1 < hb5w.heap.size := by omega)); (try (have : w.heap.size + 1 + 1 < hb5w.heap.size := by omega)); (try (have : w.heap.size + 1 + 1 + 1 < hb5w.heap.size := by omega)); (try (have : bX < hb5w.heap.size := by omega)); (try (have : bY < hb5w.heap.size := by omega)); (try (have : bZ < hb5w.heap.size := by omega))) | (go_at_call 30; refine (HST.out _ (HX.out _ (by (repeat' (first | (with_reducible exact Below.refl _ _) | (with_reducible assumption) | (with_reducible refine below_alloc ?_ _) | (with_reducible refine Below.drew ?_) | (with_reducible refine below_drewN ?_ _) | (with_reducible refine below_step (by assumption) ?_) | (with_reducible refine below_later ?_ _) | (with_reducible refine Below.setCell ?_ ?_ _) | go_size))))).mono ?_; rintro e hb6w ⟨b0, b1, b2, P', r', c', rfl, hP, hb6⟩; obtain ⟨hb6c, hb6f⟩ := bcell hb6; have hb6s := hb6.size; (have q1 : w.heap.size < hb6w.heap.size := by omega); (have q2 : w.heap.size + 1 < hb6w.heap.size := by omega)))
          go_ret
          exact ⟨by first | rfl | (simp; done), by (repeat' (first | (with_reducible exact Below.refl _ _) | (with_reducible assumption) | (with_reducible refine below_alloc ?_ _) | (with_reducible refine Below.drew ?_) | (with_reducible refine below_drewN ?_ _) | (with_reducible refine below_step (by assumption) ?_) | (with_reducible refine below_later ?_ _) | (with_reducible refine Below.setCell ?_ ?_ _) | go_size))⟩
        · have hx1 : ((N - 1 : Nat) : Int) = x - 1 := by omega
          rw [hx1] at hlt
          have xp : 0 < x := by omega
          have a2 : 0 ≤ t * (x - 1) := Int.mul_nonneg t0 (by omega)
          have a3 : t * (x - 1) ≤ 65536 * 1000 := Int.mul_le_mul t1 (by omega) (by omega) (by omega)
          have b2 : 0 ≤ t * (x - 1) * D := Int.mul_nonneg a2 D0.1
          have b3 : t * (x - 1) * D ≤ 65536 * 1000 * 963 := Int.mul_le_mul a3 D0.2 D0.1 (by omega)
          obtain ⟨J, hJ⟩ : ∃ J, J = t * (x - 1) * D / 1000 := ⟨_, rfl⟩
          have v6 : IntKind.i64.wrap (t * (x - 1)) = t * (x - 1) := IntWalk.i64_in _ (by omega)
          have v7 : IntKind.i64.wrap (t * (x - 1) * D) = t * (x - 1) * D := IntWalk.i64_in _ (by omega)
          have v8 : (t * (x - 1) * D).tdiv 1000 = J := by rw [Int.tdiv_eq_ediv_of_nonneg b2]; exact hJ.symm
          have v9 : t * (x - 1) * D / 1000 = J := hJ.symm
          have v10 : wrap64 J = J := by unfold wrap64; omega
          have v11 : IntKind.i64.wrap (x - 1) = x - 1 := IntWalk.i64_in _ (by omega)
          have hJU : ¬ U ≤ J := by omega
          clear HTH hN hNb hNa hat hn hb hg hU hD hbd hpo hre hfi hlx hi hf hv hm hev hd hI hJ hlt h0 hxN hx1
          go_enter Try.func6, Try.ntmps6
          go_wp2_with (first | (go_at_call 15; refine (awake29_any _).mono ?_; rintro e hb1w ⟨rfl, hb1⟩; obtain ⟨hb1c, hb1f⟩ := bcell hb1; have hb1s := hb1.size; (try simp only [World.size_alloc] at hb1s); (try (have : w.heap.size < hb1w.heap.size := by omega)); (try (have : w.heap.size + 1 < hb1w.heap.size := by omega)); (try (have : w.heap.size + 1 + 1 < hb1w.heap.size := by omega)); (try (have : w.heap.size + 1 + 1 + 1 < hb1w.heap.size := by omega)); (try (have : bX < hb1w.heap.size := by omega)); (try (have : bY < hb1w.heap.size := by omega)); (try (have : bZ < hb1w.heap.size := by omega))) | (go_at_call 27; refine (HB.out _).mono ?_; rintro e hb2w ⟨rfl, hb2⟩; obtain ⟨hb2c, hb2f⟩ := bcell hb2; have hb2s := hb2.size; (try simp only [World.size_alloc] at hb2s); (try (have : w.heap.size < hb2w.heap.size := by omega)); (try (have : w.heap.size + 1 < hb2w.heap.size := by omega)); (try (have : w.heap.size + 1 + 1 < hb2w.heap.size := by omega)); (try (have : w.heap.size + 1 + 1 + 1 < hb2w.heap.size := by omega)); (try (have : bX < hb2w.heap.size := by omega)); (try (have : bY < hb2w.heap.size := by omega)); (try (have : bZ < hb2w.heap.size := by omega))) | (go_at_call 28; refine (HG.out _ (HX.out _ (by (repeat' (first | (with_reducible exact Below.refl _ _) | (with_reducible assumption) | (with_reducible refine below_alloc ?_ _) | (with_reducible refine Below.drew ?_) | (with_reducible refine below_drewN ?_ _) | (with_reducible refine below_step (by assumption) ?_) | (with_reducible refine below_later ?_ _) | (with_reducible refine Below.setCell ?_ ?_ _) | go_size))))).mono ?_; rintro e hb3w ⟨rfl, hb3⟩; obtain ⟨hb3c, hb3f⟩ := bcell hb3; have hb3s := hb3.size; (try simp only [World.size_alloc] at hb3s); (try (have : w.heap.size < hb3w.heap.size := by omega)); (try (have : w.heap.size + 1 < hb3w.heap.size := by omega)); (try (have : w.heap.size + 1 + 1 < hb3w.heap.size := by omega)); (try (have : w.heap.size + 1 + 1 + 1 < hb3w.heap.size := by omega)); (try (have : bX < hb3w.heap.size := by omega)); (try (have : bY < hb3w.heap.size := by omega)); (try (have : bZ < hb3w.heap.size := by omega))) | (go_at_call 29; refine (HR.out _).mono ?_; rintro e hb4w ⟨rfl, hb4⟩; obtain ⟨hb4c, hb4f⟩ := bcell hb4; have hb4s := hb4.size; (try simp only [World.size_alloc] at hb4s); (try (have : w.heap.size < hb4w.heap.size := by omega)); (try (have : w.heap.size + 1 < hb4w.heap.size := by omega)); (try (have : w.heap.size + 1 + 1 < hb4w.heap.size := by omega)); (try (have : w.heap.size + 1 + 1 + 1 < hb4w.heap.size := by omega)); (try (have : bX < hb4w.heap.size := by omega)); (try (have : bY < hb4w.heap.size := by omega)); (try (have : bZ < hb4w.heap.size := by omega))) | (go_at_call 25; refine (HTH2.out _).mono ?_; rintro e hb5w ⟨rfl, hb5⟩; obtain ⟨hb5c, hb5f⟩ := bcell hb5; have hb5s := hb5.size; (try simp only [World.size_alloc] at hb5s); (try (have : w.heap.size < hb5w.heap.size := by omega)); (try (have : w.heap.size + 1 < hb5w.heap.size := by omega)); (try (have : w.heap.size + 1 + 1 < hb5w.heap.size := by omega)); (try (have : w.heap.size + 1 + 1 + 1 < hb5w.heap.size := by omega)); (try (have : bX < hb5w.heap.size := by omega)); (try (have : bY < hb5w.heap.size := by omega)); (try (have : bZ < hb5w.heap.size := by omega))) | (go_at_call 30; refine (HST.out _ (HX.out _ (by (repeat' (first | (with_reducible exact Below.refl _ _) | (with_reducible assumption) | (with_reducible refine below_alloc ?_ _) | (with_reducible refine Below.drew ?_) | (with_reducible refine below_drewN ?_ _) | (with_reducible refine below_step (by assumption) ?_) | (with_reducible refine below_later ?_ _) | (with_reducible refine Below.setCell ?_ ?_ _) | go_size))))).mono ?_; rintro e hb6w ⟨z0, z1, z2, P', r', c', rfl, hP, hb6⟩; obtain ⟨hb6c, hb6f⟩ := bcell hb6; have hb6s := hb6.size; (have q1 : w.heap.size < hb6w.heap.size := by omega); (have q2 : w.heap.size + 1 < hb6w.heap.size := by omega)))
          go_ret
          exact ⟨by first | rfl | (simp; done), by (repeat' (first | (with_reducible exact Below.refl _ _) | (with_reducible assumption) | (with_reducible refine below_alloc ?_ _) | (with_reducible refine Below.drew ?_) | (with_reducible refine below_drewN ?_ _) | (with_reducible refine below_step (by assumption) ?_) | (with_reducible refine below_later ?_ _) | (with_reducible refine Below.setCell ?_ ?_ _) | go_size))⟩

set_option maxRecDepth 100000 in
theorem aholds_holds : Rows.AirHoldsSaid :=
  OpenClaim.holds_of_wide 6 Try.f6 rfl rfl rfl rfl rfl rfl rfl ⟨rfl, rfl, rfl, rfl, rfl⟩ rfl rfl rfl rfl rfl (by kernel_rfl) Try.func6 (by kernel_rfl)
    (of_decide_eq_true (by kernel_rfl)) (by unfold Func.isWrapper; first | (rw [if_pos (by decide +kernel)]; kernel_rfl) | (rw [if_neg (by decide +kernel)]; exact ⟨rfl, rfl⟩))
    (fun os started H enc _ => by
      refine law_frame started (s := Rows.airHoldsSpec) (conds := Rows.airHoldsRow.domain) Try.func6 (by kernel_rfl) rfl 4 rfl Try.underlying4 (by decide +kernel) (fun ds h => ?_)
        (ChangeSpec.witness6 (enc := enc) (C := Try.checked) false ⟨#[], #[.agg #[.int .i64 0, .int .i64 0, .int .i64 0, .int .i64 0, .int .i64 0, .int .i64 0, .int .i64 0], .agg #[.int .i64 0, .int .i64 0, .int .i64 0, .int .i64 0, .int .i64 0, .slice none 0 0], .int .i64 0], []⟩ 12 (by kernel_rfl) (by kernel_rfl) (by kernel_rfl) (by kernel_rfl)) ?_
      · match ds, h with
        | [_, _, _], _ => rfl
      · intro W base args ds p hval hA _
        rw [Try.params6] at hA hval
        obtain ⟨v0, vs0, d0, ds0, p0, q0, hargs, rfl, rfl, h0, r0⟩ := trodAll_cons hA
        obtain ⟨v1, vs1, d1, ds1, p1, q1, rfl, rfl, rfl, h1, r1⟩ := trodAll_cons r0
        obtain ⟨v2, vs2, d2, ds2, p2, q2, rfl, rfl, rfl, h2, r2⟩ := trodAll_cons r1
        obtain ⟨rfl, rfl, rfl⟩ := trodAll_nil r2
        obtain rfl : args = #[v0, v1, v2] := by cases args; simp_all
        obtain ⟨cs0, rfl, k0⟩ := arg_agg Try.underlying42 (hval 0 _ v0 rfl rfl) h0
        obtain ⟨a0_0, a1_0, a2_0, a3_0, a4_0, a5_0, a6_0, rfl, g0_0, g1_0, g2_0, g3_0, g4_0, g5_0, g6_0⟩ := open_Body k0
        obtain ⟨cs1, rfl, k1⟩ := arg_agg Try.underlying49 (hval 1 _ v1 rfl rfl) h1
        obtain ⟨a0_1, a1_1, a2_1, a3_1, a4_1, r5_1, c5_1, a5_1, rfl, g0_1, g1_1, g2_1, g3_1, g4_1, g5_1⟩ := open_Plant k1
        obtain ⟨b2, rfl, rfl, rfl, w2⟩ := open_int Try.underlying3 (hval 2 _ v2 rfl rfl) h2
        apply aholds_walk <;> (first | assumption | rfl))
#print axioms aholds_holds

end Go.Proofs.Ytohdbneaganfbaa
