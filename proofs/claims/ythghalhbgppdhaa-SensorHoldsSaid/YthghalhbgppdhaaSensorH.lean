/- The law SensorHolds returns true for every sensor, list of raw values and hold. No conditions. Printed by a program. -/
import Derived.Test.YthghalhbgppdhaaSensorC
import Derived.Test.YthghalhbgppdhaaCurveB
import Derived.Deep.LoopGhost
namespace Go.Proofs.Ythghalhbgppdhaa
set_option linter.unusedVariables false
set_option linter.unusedSimpArgs false
open Go.RowKit Go.ChangeShapes Go.WideShapes Go.ChangeAt

theorem stepV_ok {xs ys : List Int} {lo hi v b n hold : Int} {g : Bool} (hs : sensorB xs ys lo hi = true) (v1 : -1073741824 ≤ v) (v2 : v ≤ 1073741824) (b1 : 0 ≤ b) (b2 : b ≤ 999) (n1 : 0 ≤ n) (n2 : n ≤ 4095) (h1 : 0 ≤ hold) (h2 : hold ≤ 1000) :
    stepV xs ys lo hi v g b n hold = if plausB lo hi n = true then (cval xs ys (mvI n), true, 0, 0) else (v, g && decide (b + 1 ≤ hold), b + 1, 0) := by
  have hg : readB v b = true := by simp [readB]; omega
  have hr : rawOkB n = true := by simp [rawOkB]; omega
  simp only [stepV, hs, hg, hr, h1, h2, and_self, if_true]
  split
  · rfl
  · rw [if_pos (by omega)]
theorem cval_sensor {xs ys : List Int} {lo hi : Int} (hs : sensorB xs ys lo hi = true) (t : Int) : -1073741824 ≤ cval xs ys t ∧ cval xs ys t ≤ 1073741824 := by
  have hC := (sensorB_true.1 hs).1
  have := cval_bd hC (lo := -1073741824) (hi := 1073741824) (fun t ht => far_bd hC.2.2 ht) t
  omega

set_option maxRecDepth 100000 in
theorem holds_out (rx ry : Option Addr) (cx cy : Nat) (xs ys : List Int) (lo hi : Int) (r : Option Addr) (n cap : Nat) (hold : Int) (w : World) (hx : IsInts w rx cx .i64 xs) (hy : IsInts w ry cy .i64 ys) (hh : ¬ (xs.length ≤ 40 ∧ ys.length ≤ 40) ∨ 60 < n ∨ sensorB xs ys lo hi = false) :
    Calls Try.prog 8 #[.agg #[.slice rx xs.length cx, .slice ry ys.length cy, .int .i64 lo, .int .i64 hi], .slice r n cap, .int .u8 hold] w fun e w' => e = .returned (.bool true) ∧ Below w.heap.size w w' := by
  have HX : Hid (∀ w', Below w.heap.size w w' → IsInts w' rx cx .i64 xs) := Lib.hid (fun _ h => hx.later h)
  have HY : Hid (∀ w', Below w.heap.size w w' → IsInts w' ry cy .i64 ys) := Lib.hid (fun _ h => hy.later h)
  clear hx hy
  cases hf : decide (xs.length ≤ 40 ∧ ys.length ≤ 40) with
  | false =>
    clear hh
    go_enter Try.func8, Try.ntmps8
    go_wp2_with (first | (go_at_call 11; refine (awake_any _).mono ?_; rintro e w' ⟨rfl, rfl⟩) | (go_at_call 16; refine (few_any _ _ _ _ _ _ _ _ _).mono ?_; rintro e hb2w ⟨rfl, hb2⟩; obtain ⟨hb2c, hb2f⟩ := bcell hb2; have hb2s := hb2.size; (try simp only [World.size_alloc] at hb2s); (try (have : w.heap.size < hb2w.heap.size := by omega)); (try (have : w.heap.size + 1 < hb2w.heap.size := by omega)); (try (have : w.heap.size + 1 + 1 < hb2w.heap.size := by omega)); (try (have : w.heap.size + 1 + 1 + 1 < hb2w.heap.size := by omega)); (try (have : bX < hb2w.heap.size := by omega)); (try (have : bY < hb2w.heap.size := by omega)); (try (have : bZ < hb2w.heap.size := by omega))))
    go_ret
    exact ⟨by simp, by (repeat' (first | (with_reducible exact Below.refl _ _) | (with_reducible assumption) | (with_reducible refine below_alloc ?_ _) | (with_reducible refine Below.drew ?_) | (with_reducible refine below_drewN ?_ _) | (with_reducible refine below_step (by assumption) ?_) | (with_reducible refine below_later ?_ _) | (with_reducible refine Below.setCell ?_ ?_ _) | go_size))⟩
  | true =>
    have hf2 : xs.length ≤ 40 ∧ ys.length ≤ 40 := by simpa using hf
    by_cases hn : 60 < n
    · have hn2 : (60 : Int) < (n : Int) := by omega
      clear hh hf2
      go_enter Try.func8, Try.ntmps8
      go_wp2_with (first | (go_at_call 11; refine (awake_any _).mono ?_; rintro e w' ⟨rfl, rfl⟩) | (go_at_call 16; refine (few_any _ _ _ _ _ _ _ _ _).mono ?_; rintro e hb2w ⟨rfl, hb2⟩; obtain ⟨hb2c, hb2f⟩ := bcell hb2; have hb2s := hb2.size; (try simp only [World.size_alloc] at hb2s); (try (have : w.heap.size < hb2w.heap.size := by omega)); (try (have : w.heap.size + 1 < hb2w.heap.size := by omega)); (try (have : w.heap.size + 1 + 1 < hb2w.heap.size := by omega)); (try (have : w.heap.size + 1 + 1 + 1 < hb2w.heap.size := by omega)); (try (have : bX < hb2w.heap.size := by omega)); (try (have : bY < hb2w.heap.size := by omega)); (try (have : bZ < hb2w.heap.size := by omega))))
      go_ret
      exact ⟨by simp, by (repeat' (first | (with_reducible exact Below.refl _ _) | (with_reducible assumption) | (with_reducible refine below_alloc ?_ _) | (with_reducible refine Below.drew ?_) | (with_reducible refine below_drewN ?_ _) | (with_reducible refine below_step (by assumption) ?_) | (with_reducible refine below_later ?_ _) | (with_reducible refine Below.setCell ?_ ?_ _) | go_size))⟩
    · have hs : sensorB xs ys lo hi = false := by rcases hh with h | h | h; exact absurd hf2 h; exact absurd h hn; exact h
      clear hh hf2
      have hn2 : (n : Int) ≤ 60 := by omega
      go_enter Try.func8, Try.ntmps8
      go_wp2_with (first | (go_at_call 11; refine (awake_any _).mono ?_; rintro e w' ⟨rfl, rfl⟩) | (go_at_call 16; refine (few_any _ _ _ _ _ _ _ _ _).mono ?_; rintro e hb2w ⟨rfl, hb2⟩; obtain ⟨hb2c, hb2f⟩ := bcell hb2; have hb2s := hb2.size; (try simp only [World.size_alloc] at hb2s); (try (have : w.heap.size < hb2w.heap.size := by omega)); (try (have : w.heap.size + 1 < hb2w.heap.size := by omega)); (try (have : w.heap.size + 1 + 1 < hb2w.heap.size := by omega)); (try (have : w.heap.size + 1 + 1 + 1 < hb2w.heap.size := by omega)); (try (have : bX < hb2w.heap.size := by omega)); (try (have : bY < hb2w.heap.size := by omega)); (try (have : bZ < hb2w.heap.size := by omega))) | (go_at_call 19; refine (svalid_any _ _ _ _ _ _ _ _ _ (HX.out _ (by (repeat' (first | (with_reducible exact Below.refl _ _) | (with_reducible assumption) | (with_reducible refine below_alloc ?_ _) | (with_reducible refine Below.drew ?_) | (with_reducible refine below_drewN ?_ _) | (with_reducible refine below_step (by assumption) ?_) | (with_reducible refine below_later ?_ _) | (with_reducible refine Below.setCell ?_ ?_ _) | go_size)))) (HY.out _ (by (repeat' (first | (with_reducible exact Below.refl _ _) | (with_reducible assumption) | (with_reducible refine below_alloc ?_ _) | (with_reducible refine Below.drew ?_) | (with_reducible refine below_drewN ?_ _) | (with_reducible refine below_step (by assumption) ?_) | (with_reducible refine below_later ?_ _) | (with_reducible refine Below.setCell ?_ ?_ _) | go_size))))).mono ?_; rintro e hb3w ⟨rfl, hb3⟩; obtain ⟨hb3c, hb3f⟩ := bcell hb3; have hb3s := hb3.size; (try simp only [World.size_alloc] at hb3s); (try (have : w.heap.size < hb3w.heap.size := by omega)); (try (have : w.heap.size + 1 < hb3w.heap.size := by omega)); (try (have : w.heap.size + 1 + 1 < hb3w.heap.size := by omega)); (try (have : w.heap.size + 1 + 1 + 1 < hb3w.heap.size := by omega)); (try (have : bX < hb3w.heap.size := by omega)); (try (have : bY < hb3w.heap.size := by omega)); (try (have : bZ < hb3w.heap.size := by omega))))
      go_ret
      exact ⟨by simp, by (repeat' (first | (with_reducible exact Below.refl _ _) | (with_reducible assumption) | (with_reducible refine below_alloc ?_ _) | (with_reducible refine Below.drew ?_) | (with_reducible refine below_drewN ?_ _) | (with_reducible refine below_step (by assumption) ?_) | (with_reducible refine below_later ?_ _) | (with_reducible refine Below.setCell ?_ ?_ _) | go_size))⟩

set_option maxRecDepth 100000 in
theorem holds_nil (rx ry : Option Addr) (cx cy : Nat) (xs ys : List Int) (lo hi : Int) (r : Option Addr) (cap : Nat) (hold : Int) (w : World) (hx : IsInts w rx cx .i64 xs) (hy : IsInts w ry cy .i64 ys) (h1 : 0 ≤ hold) (h2 : hold ≤ 255) (hf : decide (xs.length ≤ 40 ∧ ys.length ≤ 40) = true) (hs : sensorB xs ys lo hi = true) :
    Calls Try.prog 8 #[.agg #[.slice rx xs.length cx, .slice ry ys.length cy, .int .i64 lo, .int .i64 hi], .slice r 0 cap, .int .u8 hold] w fun e w' => e = .returned (.bool true) ∧ Below w.heap.size w w' := by
  have HX : Hid (∀ w', Below w.heap.size w w' → IsInts w' rx cx .i64 xs) := Lib.hid (fun _ h => hx.later h)
  have HY : Hid (∀ w', Below w.heap.size w w' → IsInts w' ry cy .i64 ys) := Lib.hid (fun _ h => hy.later h)
  clear hx hy
  go_enter Try.func8, Try.ntmps8
  go_wp2_with (first | (go_at_call 11; refine (awake_any _).mono ?_; rintro e w' ⟨rfl, rfl⟩) | (go_at_call 16; refine (few_any _ _ _ _ _ _ _ _ _).mono ?_; rintro e hb2w ⟨rfl, hb2⟩; obtain ⟨hb2c, hb2f⟩ := bcell hb2; have hb2s := hb2.size; (try simp only [World.size_alloc] at hb2s); (try (have : w.heap.size < hb2w.heap.size := by omega)); (try (have : w.heap.size + 1 < hb2w.heap.size := by omega)); (try (have : w.heap.size + 1 + 1 < hb2w.heap.size := by omega)); (try (have : w.heap.size + 1 + 1 + 1 < hb2w.heap.size := by omega)); (try (have : bX < hb2w.heap.size := by omega)); (try (have : bY < hb2w.heap.size := by omega)); (try (have : bZ < hb2w.heap.size := by omega))) | (go_at_call 19; refine (svalid_any _ _ _ _ _ _ _ _ _ (HX.out _ (by (repeat' (first | (with_reducible exact Below.refl _ _) | (with_reducible assumption) | (with_reducible refine below_alloc ?_ _) | (with_reducible refine Below.drew ?_) | (with_reducible refine below_drewN ?_ _) | (with_reducible refine below_step (by assumption) ?_) | (with_reducible refine below_later ?_ _) | (with_reducible refine Below.setCell ?_ ?_ _) | go_size)))) (HY.out _ (by (repeat' (first | (with_reducible exact Below.refl _ _) | (with_reducible assumption) | (with_reducible refine below_alloc ?_ _) | (with_reducible refine Below.drew ?_) | (with_reducible refine below_drewN ?_ _) | (with_reducible refine below_step (by assumption) ?_) | (with_reducible refine below_later ?_ _) | (with_reducible refine Below.setCell ?_ ?_ _) | go_size))))).mono ?_; rintro e hb3w ⟨rfl, hb3⟩; obtain ⟨hb3c, hb3f⟩ := bcell hb3; have hb3s := hb3.size; (try simp only [World.size_alloc] at hb3s); (try (have : w.heap.size < hb3w.heap.size := by omega)); (try (have : w.heap.size + 1 < hb3w.heap.size := by omega)); (try (have : w.heap.size + 1 + 1 < hb3w.heap.size := by omega)); (try (have : w.heap.size + 1 + 1 + 1 < hb3w.heap.size := by omega)); (try (have : bX < hb3w.heap.size := by omega)); (try (have : bY < hb3w.heap.size := by omega)); (try (have : bZ < hb3w.heap.size := by omega))))
  go_rounds 1
  go_ret
  exact ⟨by simp, by (repeat' (first | (with_reducible exact Below.refl _ _) | (with_reducible assumption) | (with_reducible refine below_alloc ?_ _) | (with_reducible refine Below.drew ?_) | (with_reducible refine below_drewN ?_ _) | (with_reducible refine below_step (by assumption) ?_) | (with_reducible refine below_later ?_ _) | (with_reducible refine Below.setCell ?_ ?_ _) | go_size))⟩

set_option maxHeartbeats 4000000 in
set_option maxRecDepth 100000 in
theorem holds_in (rx ry : Option Addr) (cx cy : Nat) (xs ys : List Int) (lo hi : Int) (bz off cap : Nat) (zs : List Int) (hold : Int) (w : World) (hx : IsInts w rx cx .i64 xs) (hy : IsInts w ry cy .i64 ys) (h1 : 0 ≤ hold) (h2 : hold ≤ 255) (hf : decide (xs.length ≤ 40 ∧ ys.length ≤ 40) = true) (hs : sensorB xs ys lo hi = true) (hl : zs.length ≤ 60) (hb : bz < w.heap.size)
    (hc : ∀ i, i < zs.length → w.cell? ⟨bz, off + i, none⟩ = some (.int .u16 (zs.getD i 0))) (hw : ∀ i, i < zs.length → 0 ≤ zs.getD i 0 ∧ zs.getD i 0 ≤ 65535) :
    Calls Try.prog 8 #[.agg #[.slice rx xs.length cx, .slice ry ys.length cy, .int .i64 lo, .int .i64 hi], .slice (some ⟨bz, off, none⟩) zs.length cap, .int .u8 hold] w fun e w' => e = .returned (.bool true) ∧ Below w.heap.size w w' := by
  have HX : Hid (∀ w', Below w.heap.size w w' → IsInts w' rx cx .i64 xs) := Lib.hid (fun _ h => hx.later h)
  have HY : Hid (∀ w', Below w.heap.size w w' → IsInts w' ry cy .i64 ys) := Lib.hid (fun _ h => hy.later h)
  clear hx hy
  have HC := Lib.hid hc
  have HW := Lib.hid hw
  have HS := Lib.hid (fun t => cval_sensor hs t)
  have HT := Lib.hid (fun v b n (g : Bool) (v1 : -1073741824 ≤ v) (v2 : v ≤ 1073741824) (b1 : 0 ≤ b) (b2 : b ≤ 999) (n1 : 0 ≤ n) (n2 : n ≤ 4095) => stepV_ok (g := g) hs v1 v2 b1 b2 n1 n2 (show 0 ≤ hold % 70 by omega) (show hold % 70 ≤ 1000 by omega))
  have HV : Hid (∀ n, 0 ≤ n → n ≤ 4095 → sval xs ys lo hi n = cval xs ys (mvI n) ∧ sokB xs ys lo hi n = plausB lo hi n) := Lib.hid (fun n n1 n2 => by
    have hr : rawOkB n = true := by simp [rawOkB]; omega
    exact ⟨by simp [sval, hs, hr], by simp [sokB, hs, hr]⟩)
  clear hc hw
  generalize hn : zs.length = n at *
  have HN := Lib.hid hn
  clear hn
  go_enter Try.func8, Try.ntmps8
  go_wp2_with (first | (go_at_call 11; refine (awake_any _).mono ?_; rintro e w' ⟨rfl, rfl⟩) | (go_at_call 16; refine (few_any _ _ _ _ _ _ _ _ _).mono ?_; rintro e hb2w ⟨rfl, hb2⟩; obtain ⟨hb2c, hb2f⟩ := bcell hb2; have hb2s := hb2.size; (try simp only [World.size_alloc] at hb2s); (try (have : w.heap.size < hb2w.heap.size := by omega)); (try (have : w.heap.size + 1 < hb2w.heap.size := by omega)); (try (have : w.heap.size + 1 + 1 < hb2w.heap.size := by omega)); (try (have : w.heap.size + 1 + 1 + 1 < hb2w.heap.size := by omega)); (try (have : bX < hb2w.heap.size := by omega)); (try (have : bY < hb2w.heap.size := by omega)); (try (have : bZ < hb2w.heap.size := by omega))) | (go_at_call 19; refine (svalid_any _ _ _ _ _ _ _ _ _ (HX.out _ (by (repeat' (first | (with_reducible exact Below.refl _ _) | (with_reducible assumption) | (with_reducible refine below_alloc ?_ _) | (with_reducible refine Below.drew ?_) | (with_reducible refine below_drewN ?_ _) | (with_reducible refine below_step (by assumption) ?_) | (with_reducible refine below_later ?_ _) | (with_reducible refine Below.setCell ?_ ?_ _) | go_size)))) (HY.out _ (by (repeat' (first | (with_reducible exact Below.refl _ _) | (with_reducible assumption) | (with_reducible refine below_alloc ?_ _) | (with_reducible refine Below.drew ?_) | (with_reducible refine below_drewN ?_ _) | (with_reducible refine below_step (by assumption) ?_) | (with_reducible refine below_later ?_ _) | (with_reducible refine Below.setCell ?_ ?_ _) | go_size))))).mono ?_; rintro e hb3w ⟨rfl, hb3⟩; obtain ⟨hb3c, hb3f⟩ := bcell hb3; have hb3s := hb3.size; (try simp only [World.size_alloc] at hb3s); (try (have : w.heap.size < hb3w.heap.size := by omega)); (try (have : w.heap.size + 1 < hb3w.heap.size := by omega)); (try (have : w.heap.size + 1 + 1 < hb3w.heap.size := by omega)); (try (have : w.heap.size + 1 + 1 + 1 < hb3w.heap.size := by omega)); (try (have : bX < hb3w.heap.size := by omega)); (try (have : bY < hb3w.heap.size := by omega)); (try (have : bZ < hb3w.heap.size := by omega))))
  clear hf hs
  have hp1 : 0 ≤ hold % 70 := by omega
  have hp2 : hold % 70 ≤ 69 := by omega
  generalize hold % 70 = p at *
  go_loopg [9, 10, 38] 60 (fun kx s9 s10 s38 wr => ∃ (last since b : Int) (g : Bool) (k : Nat) (e : Later hb3w), s9 = .int .i64 last ∧ s10 = .int .i64 since ∧ s38 = .int .i64 k ∧ k ≤ n ∧ -1 ≤ since ∧ since ≤ k ∧ 0 ≤ b ∧ b ≤ k ∧ -1073741824 ≤ last ∧ last ≤ 1073741824 ∧ g = (decide (0 ≤ since) && decide (since ≤ p)) ∧ (0 ≤ since → b = since) ∧ n - k ≤ kx ∧ wr = e.w ∧ hb3w.heap.size < e.w.heap.size ∧
    e.w.cell? ⟨hb3w.heap.size, 0, none⟩ = some (.int .i64 last) ∧ e.w.cell? ⟨hb3w.heap.size, 1, none⟩ = some (.bool g) ∧ e.w.cell? ⟨hb3w.heap.size, 2, none⟩ = some (.int .i64 b) ∧
    e.w.frozen? ⟨hb3w.heap.size, 0, none⟩ = false ∧ e.w.frozen? ⟨hb3w.heap.size, 1, none⟩ = false ∧ e.w.frozen? ⟨hb3w.heap.size, 2, none⟩ = false)
  case atStart => exact ⟨0, -1, 0, false, 0, ⟨_, (Below.refl _ hb3w).alloc (Nat.le_refl _) _⟩, rfl, rfl, rfl, by omega, by omega, by omega, by omega, by omega, by omega, by omega, by simp, by omega, by omega, rfl, by simp, by simp [go_sem], by simp [go_sem], by simp [go_sem], by simp [go_sem], by simp [go_sem], by simp [go_sem]⟩
  case round =>
    obtain ⟨last, since, b, g, k, e, rfl, rfl, rfl, hk, s1, s2, b1, b2, l1, l2, hg, hbs, hkx, rfl, hbe, c0, c1, c2, f0, f1, f2⟩ := hrel
    have hes := e.h.size
    have hk0 : w.heap.size < e.w.heap.size := by omega
    by_cases hlt : k < n
    · have hcell : e.w.cell? ⟨bz, off + k, none⟩ = some (.int .u16 (zs.getD k 0)) := by
        have hbw : Below w.heap.size w e.w := by (repeat' (first | (with_reducible exact Below.refl _ _) | (with_reducible assumption) | (with_reducible refine below_alloc ?_ _) | (with_reducible refine Below.drew ?_) | (with_reducible refine below_drewN ?_ _) | (with_reducible refine below_step (by assumption) ?_) | (with_reducible refine below_later ?_ _) | (with_reducible refine Below.setCell ?_ ?_ _) | go_size))
        rw [hbw.cell (p := ⟨_, off + k, none⟩) hb]
        exact HC.out k (by have := HN.out; omega)
      have ⟨y1, y2⟩ := HW.out k (by have := HN.out; omega)
      generalize zs.getD k 0 = y at hcell y1 y2
      have m1 : 0 ≤ y % 4096 := by omega
      have m2 : y % 4096 ≤ 4095 := by omega
      have ⟨hv1, hv2⟩ := HV.out _ m1 m2
      have ⟨l3, l4⟩ := HS.out (mvI (y % 4096))
      have hst := HT.out last b (y % 4096) g l1 l2 b1 (by omega) m1 m2
      generalize cval xs ys (mvI (y % 4096)) = cv at *
      clear HT HS HV
      cases hp : plausB lo hi (y % 4096) with
      | true =>
        rw [hp] at hst hv2
        simp only [if_true] at hst
        clear hp hbs hg
        go_wp2_with (first | ((go_at_call 23; refine (step_any _ _ _ _ _ _ _ _ _ _ _ _ _ _ (HX.out _ (by (repeat' (first | (with_reducible exact Below.refl _ _) | (with_reducible assumption) | (with_reducible refine below_alloc ?_ _) | (with_reducible refine Below.drew ?_) | (with_reducible refine below_drewN ?_ _) | (with_reducible refine below_step (by assumption) ?_) | (with_reducible refine below_later ?_ _) | (with_reducible refine Below.setCell ?_ ?_ _) | go_size)))) (HY.out _ (by (repeat' (first | (with_reducible exact Below.refl _ _) | (with_reducible assumption) | (with_reducible refine below_alloc ?_ _) | (with_reducible refine Below.drew ?_) | (with_reducible refine below_drewN ?_ _) | (with_reducible refine below_step (by assumption) ?_) | (with_reducible refine below_later ?_ _) | (with_reducible refine Below.setCell ?_ ?_ _) | go_size))))).mono ?_; rintro e hb4w ⟨rfl, hb4⟩; obtain ⟨hb4c, hb4f⟩ := bcell hb4; have hb4s := hb4.size; (try simp only [World.size_alloc] at hb4s); (try (have : w.heap.size < hb4w.heap.size := by omega)); (try (have : w.heap.size + 1 < hb4w.heap.size := by omega)); (try (have : w.heap.size + 1 + 1 < hb4w.heap.size := by omega)); (try (have : w.heap.size + 1 + 1 + 1 < hb4w.heap.size := by omega)); (try (have : bX < hb4w.heap.size := by omega)); (try (have : bY < hb4w.heap.size := by omega)); (try (have : bZ < hb4w.heap.size := by omega))); (have : hb3w.heap.size < hb4w.heap.size := by omega)) | (go_at_call 17; refine (sval_any _ _ _ _ _ _ _ _ _ _ (HX.out _ (by (repeat' (first | (with_reducible exact Below.refl _ _) | (with_reducible assumption) | (with_reducible refine below_alloc ?_ _) | (with_reducible refine Below.drew ?_) | (with_reducible refine below_drewN ?_ _) | (with_reducible refine below_step (by assumption) ?_) | (with_reducible refine below_later ?_ _) | (with_reducible refine Below.setCell ?_ ?_ _) | go_size)))) (HY.out _ (by (repeat' (first | (with_reducible exact Below.refl _ _) | (with_reducible assumption) | (with_reducible refine below_alloc ?_ _) | (with_reducible refine Below.drew ?_) | (with_reducible refine below_drewN ?_ _) | (with_reducible refine below_step (by assumption) ?_) | (with_reducible refine below_later ?_ _) | (with_reducible refine Below.setCell ?_ ?_ _) | go_size))))).mono ?_; rintro e hb5w ⟨rfl, hb5⟩; obtain ⟨hb5c, hb5f⟩ := bcell hb5; have hb5s := hb5.size; (try simp only [World.size_alloc] at hb5s); (try (have : w.heap.size < hb5w.heap.size := by omega)); (try (have : w.heap.size + 1 < hb5w.heap.size := by omega)); (try (have : w.heap.size + 1 + 1 < hb5w.heap.size := by omega)); (try (have : w.heap.size + 1 + 1 + 1 < hb5w.heap.size := by omega)); (try (have : bX < hb5w.heap.size := by omega)); (try (have : bY < hb5w.heap.size := by omega)); (try (have : bZ < hb5w.heap.size := by omega))))
        go_roundg (n - (k + 1))
        case measure => omega
        case rel =>
          have hz : hb3w.heap.size < hb5w.heap.size := by simp [go_sem] at hb5s; omega
          have hz4 : hb3w.heap.size < hb4w.heap.size := by omega
          exact ⟨cv, 0, 0, true, k + 1, ⟨hb5w, by (repeat' (first | (with_reducible exact Below.refl _ _) | (with_reducible assumption) | (with_reducible refine below_alloc ?_ _) | (with_reducible refine Below.drew ?_) | (with_reducible refine below_drewN ?_ _) | (with_reducible refine below_step (by assumption) ?_) | (with_reducible refine below_later ?_ _) | (with_reducible refine Below.setCell ?_ ?_ _) | go_size))⟩, rfl, rfl, by go_num, by omega, by omega, by omega, by omega, by omega, by omega, by omega, by simp; try omega, by intros; omega, by omega, rfl, hz, by simp [go_sem, *], by simp [go_sem, *], by simp [go_sem, *], by simp [go_sem, *], by simp [go_sem, *], by simp [go_sem, *]⟩
      | false =>
        rw [hp] at hst hv2
        simp only [Bool.false_eq_true, if_false] at hst
        clear hp
        by_cases hs0 : 0 ≤ since
        · obtain rfl := hbs hs0
          clear hbs
          by_cases hs1 : b + 1 ≤ p
          · obtain rfl : g = true := by rw [hg]; simp; omega
            simp only [hs1, decide_true, Bool.and_true] at hst
            clear hg
            go_wp2_with (first | ((go_at_call 23; refine (step_any _ _ _ _ _ _ _ _ _ _ _ _ _ _ (HX.out _ (by (repeat' (first | (with_reducible exact Below.refl _ _) | (with_reducible assumption) | (with_reducible refine below_alloc ?_ _) | (with_reducible refine Below.drew ?_) | (with_reducible refine below_drewN ?_ _) | (with_reducible refine below_step (by assumption) ?_) | (with_reducible refine below_later ?_ _) | (with_reducible refine Below.setCell ?_ ?_ _) | go_size)))) (HY.out _ (by (repeat' (first | (with_reducible exact Below.refl _ _) | (with_reducible assumption) | (with_reducible refine below_alloc ?_ _) | (with_reducible refine Below.drew ?_) | (with_reducible refine below_drewN ?_ _) | (with_reducible refine below_step (by assumption) ?_) | (with_reducible refine below_later ?_ _) | (with_reducible refine Below.setCell ?_ ?_ _) | go_size))))).mono ?_; rintro e hb4w ⟨rfl, hb4⟩; obtain ⟨hb4c, hb4f⟩ := bcell hb4; have hb4s := hb4.size; (try simp only [World.size_alloc] at hb4s); (try (have : w.heap.size < hb4w.heap.size := by omega)); (try (have : w.heap.size + 1 < hb4w.heap.size := by omega)); (try (have : w.heap.size + 1 + 1 < hb4w.heap.size := by omega)); (try (have : w.heap.size + 1 + 1 + 1 < hb4w.heap.size := by omega)); (try (have : bX < hb4w.heap.size := by omega)); (try (have : bY < hb4w.heap.size := by omega)); (try (have : bZ < hb4w.heap.size := by omega))); (have : hb3w.heap.size < hb4w.heap.size := by omega)) | (go_at_call 17; refine (sval_any _ _ _ _ _ _ _ _ _ _ (HX.out _ (by (repeat' (first | (with_reducible exact Below.refl _ _) | (with_reducible assumption) | (with_reducible refine below_alloc ?_ _) | (with_reducible refine Below.drew ?_) | (with_reducible refine below_drewN ?_ _) | (with_reducible refine below_step (by assumption) ?_) | (with_reducible refine below_later ?_ _) | (with_reducible refine Below.setCell ?_ ?_ _) | go_size)))) (HY.out _ (by (repeat' (first | (with_reducible exact Below.refl _ _) | (with_reducible assumption) | (with_reducible refine below_alloc ?_ _) | (with_reducible refine Below.drew ?_) | (with_reducible refine below_drewN ?_ _) | (with_reducible refine below_step (by assumption) ?_) | (with_reducible refine below_later ?_ _) | (with_reducible refine Below.setCell ?_ ?_ _) | go_size))))).mono ?_; rintro e hb5w ⟨rfl, hb5⟩; obtain ⟨hb5c, hb5f⟩ := bcell hb5; have hb5s := hb5.size; (try simp only [World.size_alloc] at hb5s); (try (have : w.heap.size < hb5w.heap.size := by omega)); (try (have : w.heap.size + 1 < hb5w.heap.size := by omega)); (try (have : w.heap.size + 1 + 1 < hb5w.heap.size := by omega)); (try (have : w.heap.size + 1 + 1 + 1 < hb5w.heap.size := by omega)); (try (have : bX < hb5w.heap.size := by omega)); (try (have : bY < hb5w.heap.size := by omega)); (try (have : bZ < hb5w.heap.size := by omega))))
            go_roundg (n - (k + 1))
            case measure => omega
            case rel =>
              have hz : hb3w.heap.size < hb5w.heap.size := by simp [go_sem] at hb5s; omega
              have hz4 : hb3w.heap.size < hb4w.heap.size := by omega
              exact ⟨last, (b + 1), (b + 1), true, k + 1, ⟨hb5w, by (repeat' (first | (with_reducible exact Below.refl _ _) | (with_reducible assumption) | (with_reducible refine below_alloc ?_ _) | (with_reducible refine Below.drew ?_) | (with_reducible refine below_drewN ?_ _) | (with_reducible refine below_step (by assumption) ?_) | (with_reducible refine below_later ?_ _) | (with_reducible refine Below.setCell ?_ ?_ _) | go_size))⟩, rfl, rfl, by go_num, by omega, by omega, by omega, by omega, by omega, by omega, by omega, by simp; try omega, by intros; omega, by omega, rfl, hz, by simp [go_sem, *], by simp [go_sem, *], by simp [go_sem, *], by simp [go_sem, *], by simp [go_sem, *], by simp [go_sem, *]⟩
          · simp only [hs1, decide_false, Bool.and_false] at hst
            clear hg
            go_wp2_with (first | ((go_at_call 23; refine (step_any _ _ _ _ _ _ _ _ _ _ _ _ _ _ (HX.out _ (by (repeat' (first | (with_reducible exact Below.refl _ _) | (with_reducible assumption) | (with_reducible refine below_alloc ?_ _) | (with_reducible refine Below.drew ?_) | (with_reducible refine below_drewN ?_ _) | (with_reducible refine below_step (by assumption) ?_) | (with_reducible refine below_later ?_ _) | (with_reducible refine Below.setCell ?_ ?_ _) | go_size)))) (HY.out _ (by (repeat' (first | (with_reducible exact Below.refl _ _) | (with_reducible assumption) | (with_reducible refine below_alloc ?_ _) | (with_reducible refine Below.drew ?_) | (with_reducible refine below_drewN ?_ _) | (with_reducible refine below_step (by assumption) ?_) | (with_reducible refine below_later ?_ _) | (with_reducible refine Below.setCell ?_ ?_ _) | go_size))))).mono ?_; rintro e hb4w ⟨rfl, hb4⟩; obtain ⟨hb4c, hb4f⟩ := bcell hb4; have hb4s := hb4.size; (try simp only [World.size_alloc] at hb4s); (try (have : w.heap.size < hb4w.heap.size := by omega)); (try (have : w.heap.size + 1 < hb4w.heap.size := by omega)); (try (have : w.heap.size + 1 + 1 < hb4w.heap.size := by omega)); (try (have : w.heap.size + 1 + 1 + 1 < hb4w.heap.size := by omega)); (try (have : bX < hb4w.heap.size := by omega)); (try (have : bY < hb4w.heap.size := by omega)); (try (have : bZ < hb4w.heap.size := by omega))); (have : hb3w.heap.size < hb4w.heap.size := by omega)) | (go_at_call 17; refine (sval_any _ _ _ _ _ _ _ _ _ _ (HX.out _ (by (repeat' (first | (with_reducible exact Below.refl _ _) | (with_reducible assumption) | (with_reducible refine below_alloc ?_ _) | (with_reducible refine Below.drew ?_) | (with_reducible refine below_drewN ?_ _) | (with_reducible refine below_step (by assumption) ?_) | (with_reducible refine below_later ?_ _) | (with_reducible refine Below.setCell ?_ ?_ _) | go_size)))) (HY.out _ (by (repeat' (first | (with_reducible exact Below.refl _ _) | (with_reducible assumption) | (with_reducible refine below_alloc ?_ _) | (with_reducible refine Below.drew ?_) | (with_reducible refine below_drewN ?_ _) | (with_reducible refine below_step (by assumption) ?_) | (with_reducible refine below_later ?_ _) | (with_reducible refine Below.setCell ?_ ?_ _) | go_size))))).mono ?_; rintro e hb5w ⟨rfl, hb5⟩; obtain ⟨hb5c, hb5f⟩ := bcell hb5; have hb5s := hb5.size; (try simp only [World.size_alloc] at hb5s); (try (have : w.heap.size < hb5w.heap.size := by omega)); (try (have : w.heap.size + 1 < hb5w.heap.size := by omega)); (try (have : w.heap.size + 1 + 1 < hb5w.heap.size := by omega)); (try (have : w.heap.size + 1 + 1 + 1 < hb5w.heap.size := by omega)); (try (have : bX < hb5w.heap.size := by omega)); (try (have : bY < hb5w.heap.size := by omega)); (try (have : bZ < hb5w.heap.size := by omega))))
            go_roundg (n - (k + 1))
            case measure => omega
            case rel =>
              have hz : hb3w.heap.size < hb5w.heap.size := by simp [go_sem] at hb5s; omega
              have hz4 : hb3w.heap.size < hb4w.heap.size := by omega
              exact ⟨last, (b + 1), (b + 1), false, k + 1, ⟨hb5w, by (repeat' (first | (with_reducible exact Below.refl _ _) | (with_reducible assumption) | (with_reducible refine below_alloc ?_ _) | (with_reducible refine Below.drew ?_) | (with_reducible refine below_drewN ?_ _) | (with_reducible refine below_step (by assumption) ?_) | (with_reducible refine below_later ?_ _) | (with_reducible refine Below.setCell ?_ ?_ _) | go_size))⟩, rfl, rfl, by go_num, by omega, by omega, by omega, by omega, by omega, by omega, by omega, by simp; try omega, by intros; omega, by omega, rfl, hz, by simp [go_sem, *], by simp [go_sem, *], by simp [go_sem, *], by simp [go_sem, *], by simp [go_sem, *], by simp [go_sem, *]⟩
        · obtain rfl : g = false := by rw [hg]; simp; omega
          simp only [Bool.false_and] at hst
          clear hg hbs
          go_wp2_with (first | ((go_at_call 23; refine (step_any _ _ _ _ _ _ _ _ _ _ _ _ _ _ (HX.out _ (by (repeat' (first | (with_reducible exact Below.refl _ _) | (with_reducible assumption) | (with_reducible refine below_alloc ?_ _) | (with_reducible refine Below.drew ?_) | (with_reducible refine below_drewN ?_ _) | (with_reducible refine below_step (by assumption) ?_) | (with_reducible refine below_later ?_ _) | (with_reducible refine Below.setCell ?_ ?_ _) | go_size)))) (HY.out _ (by (repeat' (first | (with_reducible exact Below.refl _ _) | (with_reducible assumption) | (with_reducible refine below_alloc ?_ _) | (with_reducible refine Below.drew ?_) | (with_reducible refine below_drewN ?_ _) | (with_reducible refine below_step (by assumption) ?_) | (with_reducible refine below_later ?_ _) | (with_reducible refine Below.setCell ?_ ?_ _) | go_size))))).mono ?_; rintro e hb4w ⟨rfl, hb4⟩; obtain ⟨hb4c, hb4f⟩ := bcell hb4; have hb4s := hb4.size; (try simp only [World.size_alloc] at hb4s); (try (have : w.heap.size < hb4w.heap.size := by omega)); (try (have : w.heap.size + 1 < hb4w.heap.size := by omega)); (try (have : w.heap.size + 1 + 1 < hb4w.heap.size := by omega)); (try (have : w.heap.size + 1 + 1 + 1 < hb4w.heap.size := by omega)); (try (have : bX < hb4w.heap.size := by omega)); (try (have : bY < hb4w.heap.size := by omega)); (try (have : bZ < hb4w.heap.size := by omega))); (have : hb3w.heap.size < hb4w.heap.size := by omega)) | (go_at_call 17; refine (sval_any _ _ _ _ _ _ _ _ _ _ (HX.out _ (by (repeat' (first | (with_reducible exact Below.refl _ _) | (with_reducible assumption) | (with_reducible refine below_alloc ?_ _) | (with_reducible refine Below.drew ?_) | (with_reducible refine below_drewN ?_ _) | (with_reducible refine below_step (by assumption) ?_) | (with_reducible refine below_later ?_ _) | (with_reducible refine Below.setCell ?_ ?_ _) | go_size)))) (HY.out _ (by (repeat' (first | (with_reducible exact Below.refl _ _) | (with_reducible assumption) | (with_reducible refine below_alloc ?_ _) | (with_reducible refine Below.drew ?_) | (with_reducible refine below_drewN ?_ _) | (with_reducible refine below_step (by assumption) ?_) | (with_reducible refine below_later ?_ _) | (with_reducible refine Below.setCell ?_ ?_ _) | go_size))))).mono ?_; rintro e hb5w ⟨rfl, hb5⟩; obtain ⟨hb5c, hb5f⟩ := bcell hb5; have hb5s := hb5.size; (try simp only [World.size_alloc] at hb5s); (try (have : w.heap.size < hb5w.heap.size := by omega)); (try (have : w.heap.size + 1 < hb5w.heap.size := by omega)); (try (have : w.heap.size + 1 + 1 < hb5w.heap.size := by omega)); (try (have : w.heap.size + 1 + 1 + 1 < hb5w.heap.size := by omega)); (try (have : bX < hb5w.heap.size := by omega)); (try (have : bY < hb5w.heap.size := by omega)); (try (have : bZ < hb5w.heap.size := by omega))))
          go_roundg (n - (k + 1))
          case measure => omega
          case rel =>
            have hz : hb3w.heap.size < hb5w.heap.size := by simp [go_sem] at hb5s; omega
            have hz4 : hb3w.heap.size < hb4w.heap.size := by omega
            exact ⟨last, since, (b + 1), false, k + 1, ⟨hb5w, by (repeat' (first | (with_reducible exact Below.refl _ _) | (with_reducible assumption) | (with_reducible refine below_alloc ?_ _) | (with_reducible refine Below.drew ?_) | (with_reducible refine below_drewN ?_ _) | (with_reducible refine below_step (by assumption) ?_) | (with_reducible refine below_later ?_ _) | (with_reducible refine Below.setCell ?_ ?_ _) | go_size))⟩, rfl, rfl, by go_num, by omega, by omega, by omega, by omega, by omega, by omega, by omega, by simp; try omega, by intros; omega, by omega, rfl, hz, by simp [go_sem, *], by simp [go_sem, *], by simp [go_sem, *], by simp [go_sem, *], by simp [go_sem, *], by simp [go_sem, *]⟩
    · obtain rfl : k = n := by omega
      go_wp2
      go_ret
      exact ⟨by simp, by (repeat' (first | (with_reducible exact Below.refl _ _) | (with_reducible assumption) | (with_reducible refine below_alloc ?_ _) | (with_reducible refine Below.drew ?_) | (with_reducible refine below_drewN ?_ _) | (with_reducible refine below_step (by assumption) ?_) | (with_reducible refine below_later ?_ _) | (with_reducible refine Below.setCell ?_ ?_ _) | go_size))⟩

theorem holds_walk (rx ry : Option Addr) (cx cy : Nat) (xs ys : List Int) (lo hi : Int) (r : Option Addr) (cap : Nat) (zs : List Int) (hold : Int) (w : World) (hx : IsInts w rx cx .i64 xs) (hy : IsInts w ry cy .i64 ys) (hz : IsInts w r cap .u16 zs) (hh : (Lit.int .u8 hold).wf = true) :
    Calls Try.prog 8 #[.agg #[.slice rx xs.length cx, .slice ry ys.length cy, .int .i64 lo, .int .i64 hi], .slice r zs.length cap, .int .u8 hold] w fun e w' => e = .returned (.bool true) ∧ Below w.heap.size w w' := by
  have ⟨h1, h2⟩ := u8_bd hh
  by_cases hf : xs.length ≤ 40 ∧ ys.length ≤ 40
  · by_cases hl : zs.length ≤ 60
    · cases hs : sensorB xs ys lo hi with
      | false => exact holds_out _ _ _ _ _ _ _ _ _ _ _ _ _ hx hy (Or.inr (Or.inr hs))
      | true =>
        by_cases hne : zs = []
        · subst hne
          exact holds_nil _ _ _ _ _ _ _ _ _ _ _ _ hx hy h1 h2 (by simpa using hf) hs
        · obtain ⟨b, off, rfl, hb, hc⟩ := hz.cells hne
          have hw : ∀ i, i < zs.length → 0 ≤ zs.getD i 0 ∧ zs.getD i 0 ≤ 65535 := fun i hi => by
            refine u16_bd (hz.wf _ ?_)
            rw [List.getD, List.getElem?_eq_getElem hi]
            exact List.getElem_mem hi
          exact holds_in _ _ _ _ _ _ _ _ _ _ _ _ _ _ hx hy h1 h2 (by simpa using hf) hs hl hb hc hw
    · exact holds_out _ _ _ _ _ _ _ _ _ _ _ _ _ hx hy (Or.inr (Or.inl (by omega)))
  · exact holds_out _ _ _ _ _ _ _ _ _ _ _ _ _ hx hy (Or.inl hf)

set_option maxRecDepth 100000 in
theorem holds_holds : Rows.SensorHoldsSaid :=
  OpenClaim.holds_of_wide 8 Try.f8 rfl rfl rfl rfl rfl rfl rfl ⟨rfl, rfl, rfl, rfl, rfl⟩ rfl rfl rfl rfl rfl (by kernel_rfl) Try.func8 (by kernel_rfl)
    (of_decide_eq_true (by kernel_rfl)) (by unfold Func.isWrapper; first | (rw [if_pos (by decide +kernel)]; kernel_rfl) | (rw [if_neg (by decide +kernel)]; exact ⟨rfl, rfl⟩))
    (fun os started H enc _ => by
      refine law_frame started (s := Rows.sensorHoldsSpec) (conds := Rows.sensorHoldsRow.domain) Try.func8 (by kernel_rfl) rfl 4 rfl Try.underlying4 (by decide +kernel) (fun ds h => ?_)
        (ChangeSpec.witness6 (enc := enc) (C := Try.checked) false ⟨#[], #[.agg #[.slice none 0 0, .slice none 0 0, .int .i64 0, .int .i64 0], .slice none 0 0, .int .u8 0], []⟩ 12 (by kernel_rfl) (by kernel_rfl) (by kernel_rfl) (by kernel_rfl)) ?_
      · match ds, h with
        | [_, _, _], _ => rfl
      · intro W base args ds p hval hA _
        rw [Try.params8] at hA hval
        obtain ⟨v0, vs0, d0, ds0, p0, q0, hargs, rfl, rfl, h0, r0⟩ := trodAll_cons hA
        obtain ⟨v1, vs1, d1, ds1, p1, q1, rfl, rfl, rfl, h1, r1⟩ := trodAll_cons r0
        obtain ⟨v2, vs2, d2, ds2, p2, q2, rfl, rfl, rfl, h2, r2⟩ := trodAll_cons r1
        obtain ⟨rfl, rfl, rfl⟩ := trodAll_nil r2
        obtain rfl : args = #[v0, v1, v2] := by cases args; simp_all
        obtain ⟨cs0, rfl, k0⟩ := arg_agg Try.underlying31 (hval 0 _ v0 rfl rfl) h0
        obtain ⟨r0_0, c0_0, a0_0, r1_0, c1_0, a1_0, a2_0, a3_0, rfl, g0_0, g1_0, g2_0, g3_0⟩ := open_Sensor k0
        obtain ⟨r1, c1, b1, e1, w1⟩ := rd_ints Try.underlying47 Try.underlying25 (by kernel_rfl) (arg_slice Try.underlying47 (hval 1 _ v1 rfl rfl) h1)
        simp only [List.cons.injEq, and_true] at e1
        subst e1
        obtain ⟨b2, rfl, rfl, rfl, w2⟩ := open_int Try.underlying5 (hval 2 _ v2 rfl rfl) h2
        apply holds_walk <;> (first | assumption | rfl))
#print axioms holds_holds

end Go.Proofs.Ythghalhbgppdhaa
