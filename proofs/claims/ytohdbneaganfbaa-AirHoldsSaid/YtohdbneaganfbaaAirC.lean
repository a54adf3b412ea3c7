/- Contracts: bodies, the least speed for turns per minute, flow and throttle of air, and their references. Printed by a program. -/
import Derived.Test.YtohdbneaganfbaaAirA
import Derived.Test.YtohdbneaganfbaaRef29A
import Derived.Test.YtohdbneaganfbaaArithR
namespace Go.Proofs.Ytohdbneaganfbaa
set_option linter.unusedVariables false
set_option linter.unusedSimpArgs false
open Go.RowKit Go.ChangeShapes Go.WideShapes Go.ChangeAt

@[go_sem] def ctup2 (p : Int × Int) : Value := .tuple #[.int .i64 p.1, .int .i64 p.2]
theorem pwithin_any (x lo hi : Int) (w : World) : Calls Try.prog 74 #[.int .i64 x, .int .i64 lo, .int .i64 hi] w fun e w' => e = .returned (.bool (inB x lo hi)) ∧ w = w' := by
  go_enter Try.func74, Try.ntmps74
  go_wp2
  all_goals go_ret
  all_goals exact ⟨ret_bool (by grind [inB]), rfl⟩
/-- Whether the parameters of an engine are valid. -/
def bodyB (i f v t m ev d : Int) : Bool := inB i 100 1048576 && inB f 0 65536 && inB t 0 65536 && inB v 1 65536 && inB m 0 1023 && inB ev 1 1024 && inB d 0 20
theorem bodyB_bd {i f v t m ev d : Int} (h : bodyB i f v t m ev d = true) : (100 ≤ i ∧ i ≤ 1048576) ∧ (0 ≤ f ∧ f ≤ 65536) ∧ (1 ≤ v ∧ v ≤ 65536) ∧ (0 ≤ t ∧ t ≤ 65536) ∧ (0 ≤ m ∧ m ≤ 1023) ∧ (1 ≤ ev ∧ ev ≤ 1024) ∧ (0 ≤ d ∧ d ≤ 20) := by
  simp only [bodyB, Bool.and_eq_true, inB_true] at h
  omega
set_option maxHeartbeats 1000000 in
theorem pbody_any (i f v t m ev d : Int) (w : World) : Calls Try.prog 27 #[.agg #[.int .i64 i, .int .i64 f, .int .i64 v, .int .i64 t, .int .i64 m, .int .i64 ev, .int .i64 d]] w fun e w' => e = .returned (.bool (bodyB i f v t m ev d)) ∧ Below w.heap.size w w' := by
  cases h0 : inB i 100 1048576 with
  | false =>
    have H : Hid (bodyB i f v t m ev d = false) := Lib.hid (by simp [bodyB, h0])
    go_enter Try.func27, Try.ntmps27
    go_wp2_with ((go_at_call 74; refine (pwithin_any _ _ _ _).mono ?_; rintro e w' ⟨rfl, rfl⟩))
    go_ret
    exact ⟨by rw [H.out]; first | done | rfl | simp [*], by (repeat' (first | (with_reducible exact Below.refl _ _) | (with_reducible assumption) | (with_reducible refine below_alloc ?_ _) | (with_reducible refine Below.drew ?_) | (with_reducible refine below_drewN ?_ _) | (with_reducible refine below_step (by assumption) ?_) | (with_reducible refine below_later ?_ _) | (with_reducible refine Below.setCell ?_ ?_ _) | go_size))⟩
  | true =>
    cases h1 : inB f 0 65536 with
    | false =>
      have H : Hid (bodyB i f v t m ev d = false) := Lib.hid (by simp [bodyB, h1])
      go_enter Try.func27, Try.ntmps27
      go_wp2_with ((go_at_call 74; refine (pwithin_any _ _ _ _).mono ?_; rintro e w' ⟨rfl, rfl⟩))
      go_ret
      exact ⟨by rw [H.out]; first | done | rfl | simp [*], by (repeat' (first | (with_reducible exact Below.refl _ _) | (with_reducible assumption) | (with_reducible refine below_alloc ?_ _) | (with_reducible refine Below.drew ?_) | (with_reducible refine below_drewN ?_ _) | (with_reducible refine below_step (by assumption) ?_) | (with_reducible refine below_later ?_ _) | (with_reducible refine Below.setCell ?_ ?_ _) | go_size))⟩
    | true =>
      cases h2 : inB t 0 65536 with
      | false =>
        have H : Hid (bodyB i f v t m ev d = false) := Lib.hid (by simp [bodyB, h2])
        go_enter Try.func27, Try.ntmps27
        go_wp2_with ((go_at_call 74; refine (pwithin_any _ _ _ _).mono ?_; rintro e w' ⟨rfl, rfl⟩))
        go_ret
        exact ⟨by rw [H.out]; first | done | rfl | simp [*], by (repeat' (first | (with_reducible exact Below.refl _ _) | (with_reducible assumption) | (with_reducible refine below_alloc ?_ _) | (with_reducible refine Below.drew ?_) | (with_reducible refine below_drewN ?_ _) | (with_reducible refine below_step (by assumption) ?_) | (with_reducible refine below_later ?_ _) | (with_reducible refine Below.setCell ?_ ?_ _) | go_size))⟩
      | true =>
        cases h3 : inB v 1 65536 with
        | false =>
          have H : Hid (bodyB i f v t m ev d = false) := Lib.hid (by simp [bodyB, h3])
          go_enter Try.func27, Try.ntmps27
          go_wp2_with ((go_at_call 74; refine (pwithin_any _ _ _ _).mono ?_; rintro e w' ⟨rfl, rfl⟩))
          go_ret
          exact ⟨by rw [H.out]; first | done | rfl | simp [*], by (repeat' (first | (with_reducible exact Below.refl _ _) | (with_reducible assumption) | (with_reducible refine below_alloc ?_ _) | (with_reducible refine Below.drew ?_) | (with_reducible refine below_drewN ?_ _) | (with_reducible refine below_step (by assumption) ?_) | (with_reducible refine below_later ?_ _) | (with_reducible refine Below.setCell ?_ ?_ _) | go_size))⟩
        | true =>
          cases h4 : inB m 0 1023 with
          | false =>
            have H : Hid (bodyB i f v t m ev d = false) := Lib.hid (by simp [bodyB, h4])
            go_enter Try.func27, Try.ntmps27
            go_wp2_with ((go_at_call 74; refine (pwithin_any _ _ _ _).mono ?_; rintro e w' ⟨rfl, rfl⟩))
            go_ret
            exact ⟨by rw [H.out]; first | done | rfl | simp [*], by (repeat' (first | (with_reducible exact Below.refl _ _) | (with_reducible assumption) | (with_reducible refine below_alloc ?_ _) | (with_reducible refine Below.drew ?_) | (with_reducible refine below_drewN ?_ _) | (with_reducible refine below_step (by assumption) ?_) | (with_reducible refine below_later ?_ _) | (with_reducible refine Below.setCell ?_ ?_ _) | go_size))⟩
          | true =>
            cases h5 : inB ev 1 1024 with
            | false =>
              have H : Hid (bodyB i f v t m ev d = false) := Lib.hid (by simp [bodyB, h5])
              go_enter Try.func27, Try.ntmps27
              go_wp2_with ((go_at_call 74; refine (pwithin_any _ _ _ _).mono ?_; rintro e w' ⟨rfl, rfl⟩))
              go_ret
              exact ⟨by rw [H.out]; first | done | rfl | simp [*], by (repeat' (first | (with_reducible exact Below.refl _ _) | (with_reducible assumption) | (with_reducible refine below_alloc ?_ _) | (with_reducible refine Below.drew ?_) | (with_reducible refine below_drewN ?_ _) | (with_reducible refine below_step (by assumption) ?_) | (with_reducible refine below_later ?_ _) | (with_reducible refine Below.setCell ?_ ?_ _) | go_size))⟩
            | true =>
              cases h6 : inB d 0 20 with
              | false =>
                have H : Hid (bodyB i f v t m ev d = false) := Lib.hid (by simp [bodyB, h6])
                go_enter Try.func27, Try.ntmps27
                go_wp2_with ((go_at_call 74; refine (pwithin_any _ _ _ _).mono ?_; rintro e w' ⟨rfl, rfl⟩))
                go_ret
                exact ⟨by rw [H.out]; first | done | rfl | simp [*], by (repeat' (first | (with_reducible exact Below.refl _ _) | (with_reducible assumption) | (with_reducible refine below_alloc ?_ _) | (with_reducible refine Below.drew ?_) | (with_reducible refine below_drewN ?_ _) | (with_reducible refine below_step (by assumption) ?_) | (with_reducible refine below_later ?_ _) | (with_reducible refine Below.setCell ?_ ?_ _) | go_size))⟩
              | true =>
                have H : Hid (bodyB i f v t m ev d = true) := Lib.hid (by simp [bodyB, h0, h1, h2, h3, h4, h5, h6])
                go_enter Try.func27, Try.ntmps27
                go_wp2_with ((go_at_call 74; refine (pwithin_any _ _ _ _).mono ?_; rintro e w' ⟨rfl, rfl⟩))
                go_ret
                exact ⟨by rw [H.out]; first | done | rfl | simp [*], by (repeat' (first | (with_reducible exact Below.refl _ _) | (with_reducible assumption) | (with_reducible refine below_alloc ?_ _) | (with_reducible refine Below.drew ?_) | (with_reducible refine below_drewN ?_ _) | (with_reducible refine below_step (by assumption) ?_) | (with_reducible refine below_later ?_ _) | (with_reducible refine Below.setCell ?_ ?_ _) | go_size))⟩
set_option maxHeartbeats 1000000 in
theorem rbody_any (i f v t m ev d : Int) (w : World) : Calls Try.prog 29 #[.agg #[.int .i64 i, .int .i64 f, .int .i64 v, .int .i64 t, .int .i64 m, .int .i64 ev, .int .i64 d]] w fun e w' => e = .returned (.bool (bodyB i f v t m ev d)) ∧ Below w.heap.size w w' := by
  cases h0 : inB i 100 1048576 with
  | false =>
    have H : Hid (bodyB i f v t m ev d = false) := Lib.hid (by simp [bodyB, h0])
    go_enter Try.func29, Try.ntmps29
    go_wp2_with ((go_at_call 59; refine (r29in_any _ _ _ _).mono ?_; rintro e w' ⟨rfl, rfl⟩))
    go_ret
    exact ⟨by rw [H.out]; first | done | rfl | simp [*], by (repeat' (first | (with_reducible exact Below.refl _ _) | (with_reducible assumption) | (with_reducible refine below_alloc ?_ _) | (with_reducible refine Below.drew ?_) | (with_reducible refine below_drewN ?_ _) | (with_reducible refine below_step (by assumption) ?_) | (with_reducible refine below_later ?_ _) | (with_reducible refine Below.setCell ?_ ?_ _) | go_size))⟩
  | true =>
    cases h1 : inB f 0 65536 with
    | false =>
      have H : Hid (bodyB i f v t m ev d = false) := Lib.hid (by simp [bodyB, h1])
      go_enter Try.func29, Try.ntmps29
      go_wp2_with ((go_at_call 59; refine (r29in_any _ _ _ _).mono ?_; rintro e w' ⟨rfl, rfl⟩))
      go_ret
      exact ⟨by rw [H.out]; first | done | rfl | simp [*], by (repeat' (first | (with_reducible exact Below.refl _ _) | (with_reducible assumption) | (with_reducible refine below_alloc ?_ _) | (with_reducible refine Below.drew ?_) | (with_reducible refine below_drewN ?_ _) | (with_reducible refine below_step (by assumption) ?_) | (with_reducible refine below_later ?_ _) | (with_reducible refine Below.setCell ?_ ?_ _) | go_size))⟩
    | true =>
      cases h2 : inB t 0 65536 with
      | false =>
        have H : Hid (bodyB i f v t m ev d = false) := Lib.hid (by simp [bodyB, h2])
        go_enter Try.func29, Try.ntmps29
        go_wp2_with ((go_at_call 59; refine (r29in_any _ _ _ _).mono ?_; rintro e w' ⟨rfl, rfl⟩))
        go_ret
        exact ⟨by rw [H.out]; first | done | rfl | simp [*], by (repeat' (first | (with_reducible exact Below.refl _ _) | (with_reducible assumption) | (with_reducible refine below_alloc ?_ _) | (with_reducible refine Below.drew ?_) | (with_reducible refine below_drewN ?_ _) | (with_reducible refine below_step (by assumption) ?_) | (with_reducible refine below_later ?_ _) | (with_reducible refine Below.setCell ?_ ?_ _) | go_size))⟩
      | true =>
        cases h3 : inB v 1 65536 with
        | false =>
          have H : Hid (bodyB i f v t m ev d = false) := Lib.hid (by simp [bodyB, h3])
          go_enter Try.func29, Try.ntmps29
          go_wp2_with ((go_at_call 59; refine (r29in_any _ _ _ _).mono ?_; rintro e w' ⟨rfl, rfl⟩))
          go_ret
          exact ⟨by rw [H.out]; first | done | rfl | simp [*], by (repeat' (first | (with_reducible exact Below.refl _ _) | (with_reducible assumption) | (with_reducible refine below_alloc ?_ _) | (with_reducible refine Below.drew ?_) | (with_reducible refine below_drewN ?_ _) | (with_reducible refine below_step (by assumption) ?_) | (with_reducible refine below_later ?_ _) | (with_reducible refine Below.setCell ?_ ?_ _) | go_size))⟩
        | true =>
          cases h4 : inB m 0 1023 with
          | false =>
            have H : Hid (bodyB i f v t m ev d = false) := Lib.hid (by simp [bodyB, h4])
            go_enter Try.func29, Try.ntmps29
            go_wp2_with ((go_at_call 59; refine (r29in_any _ _ _ _).mono ?_; rintro e w' ⟨rfl, rfl⟩))
            go_ret
            exact ⟨by rw [H.out]; first | done | rfl | simp [*], by (repeat' (first | (with_reducible exact Below.refl _ _) | (with_reducible assumption) | (with_reducible refine below_alloc ?_ _) | (with_reducible refine Below.drew ?_) | (with_reducible refine below_drewN ?_ _) | (with_reducible refine below_step (by assumption) ?_) | (with_reducible refine below_later ?_ _) | (with_reducible refine Below.setCell ?_ ?_ _) | go_size))⟩
          | true =>
            cases h5 : inB ev 1 1024 with
            | false =>
              have H : Hid (bodyB i f v t m ev d = false) := Lib.hid (by simp [bodyB, h5])
              go_enter Try.func29, Try.ntmps29
              go_wp2_with ((go_at_call 59; refine (r29in_any _ _ _ _).mono ?_; rintro e w' ⟨rfl, rfl⟩))
              go_ret
              exact ⟨by rw [H.out]; first | done | rfl | simp [*], by (repeat' (first | (with_reducible exact Below.refl _ _) | (with_reducible assumption) | (with_reducible refine below_alloc ?_ _) | (with_reducible refine Below.drew ?_) | (with_reducible refine below_drewN ?_ _) | (with_reducible refine below_step (by assumption) ?_) | (with_reducible refine below_later ?_ _) | (with_reducible refine Below.setCell ?_ ?_ _) | go_size))⟩
            | true =>
              cases h6 : inB d 0 20 with
              | false =>
                have H : Hid (bodyB i f v t m ev d = false) := Lib.hid (by simp [bodyB, h6])
                go_enter Try.func29, Try.ntmps29
                go_wp2_with ((go_at_call 59; refine (r29in_any _ _ _ _).mono ?_; rintro e w' ⟨rfl, rfl⟩))
                go_ret
                exact ⟨by rw [H.out]; first | done | rfl | simp [*], by (repeat' (first | (with_reducible exact Below.refl _ _) | (with_reducible assumption) | (with_reducible refine below_alloc ?_ _) | (with_reducible refine Below.drew ?_) | (with_reducible refine below_drewN ?_ _) | (with_reducible refine below_step (by assumption) ?_) | (with_reducible refine below_later ?_ _) | (with_reducible refine Below.setCell ?_ ?_ _) | go_size))⟩
              | true =>
                have H : Hid (bodyB i f v t m ev d = true) := Lib.hid (by simp [bodyB, h0, h1, h2, h3, h4, h5, h6])
                go_enter Try.func29, Try.ntmps29
                go_wp2_with ((go_at_call 59; refine (r29in_any _ _ _ _).mono ?_; rintro e w' ⟨rfl, rfl⟩))
                go_ret
                exact ⟨by rw [H.out]; first | done | rfl | simp [*], by (repeat' (first | (with_reducible exact Below.refl _ _) | (with_reducible assumption) | (with_reducible refine below_alloc ?_ _) | (with_reducible refine Below.drew ?_) | (with_reducible refine below_drewN ?_ _) | (with_reducible refine below_step (by assumption) ?_) | (with_reducible refine below_later ?_ _) | (with_reducible refine Below.setCell ?_ ?_ _) | go_size))⟩

/-- The least speed with so many turns per minute. -/
@[irreducible] def rpmV (s : Int) : Int := (s * 1509949440 + 59999999) / 60000000
theorem rpmV_bd {s : Int} (h0 : 0 ≤ s) (h1 : s ≤ 20000) : 0 ≤ rpmV s ∧ rpmV s ≤ 503317 := by unfold rpmV; omega
theorem rpmV_le {s v : Int} (h : rpmV s ≤ v) : s ≤ v * 60000000 / 1509949440 := by unfold rpmV at h; omega
theorem rpmV_gt {s v : Int} (h : v < rpmV s) : v * 60000000 / 1509949440 < s := by unfold rpmV at h; omega
theorem fromRpm_any {s : Int} (h0 : 0 ≤ s) (h1 : s ≤ 20000) (w : World) : Calls Try.prog 70 #[.int .i64 s] w fun e w' => e = .returned (ctup2 (rpmV s, 0)) ∧ Below w.heap.size w w' := by
  have H : Hid (rpmV s = (s * 1509949440 + 59999999) / 60000000) := Lib.hid (by unfold rpmV; rfl)
  have w1 : IntKind.i64.wrap (s * 65536) = s * 65536 := IntWalk.i64_in _ (by omega)
  have w2 : IntKind.i64.wrap (s * 65536 * 23040) = s * 65536 * 23040 := IntWalk.i64_in _ (by omega)
  have HD := Lib.hid (fun w => div_up (a := s * 65536 * 23040) (c := 60000000) (by omega) (by omega) (by omega) (by omega) w)
  rw [show (s * 65536 * 23040 + (60000000 - 1)) / 60000000 = rpmV s by rw [H.out]; omega] at HD
  generalize rpmV s = v at *
  go_enter Try.func70, Try.ntmps70
  go_wp2_with ((go_at_call 105; refine (HD.out _).mono ?_; rintro e hb1w ⟨rfl, hb1⟩; obtain ⟨hb1c, hb1f⟩ := bcell hb1; have hb1s := hb1.size; (try simp only [World.size_alloc] at hb1s); (try (have : w.heap.size < hb1w.heap.size := by omega)); (try (have : w.heap.size + 1 < hb1w.heap.size := by omega)); (try (have : w.heap.size + 1 + 1 < hb1w.heap.size := by omega)); (try (have : w.heap.size + 1 + 1 + 1 < hb1w.heap.size := by omega)); (try (have : bX < hb1w.heap.size := by omega)); (try (have : bY < hb1w.heap.size := by omega)); (try (have : bZ < hb1w.heap.size := by omega))))
  go_ret2
  exact ⟨rfl, by (repeat' (first | (with_reducible exact Below.refl _ _) | (with_reducible assumption) | (with_reducible refine below_alloc ?_ _) | (with_reducible refine Below.drew ?_) | (with_reducible refine below_drewN ?_ _) | (with_reducible refine below_step (by assumption) ?_) | (with_reducible refine below_later ?_ _) | (with_reducible refine Below.setCell ?_ ?_ _) | go_size))⟩
theorem rrpm_any {v : Int} (h0 : 0 ≤ v) (h1 : v ≤ 1048576) (w : World) : Calls Try.prog 107 #[.int .i64 v] w fun e w' => e = .returned (.int .i64 (v * 60000000 / 1509949440)) ∧ Below w.heap.size w w' := by
  have HF := Lib.hid (fun w => rfloor_any (a := v * 60000000) (c := 1509949440) (by omega) (by omega) (by omega) (by omega) w)
  go_enter Try.func107, Try.ntmps107
  go_wp2_with ((go_at_call 71; refine (HF.out _).mono ?_; rintro e hb1w ⟨rfl, hb1⟩; obtain ⟨hb1c, hb1f⟩ := bcell hb1; have hb1s := hb1.size; (try simp only [World.size_alloc] at hb1s); (try (have : w.heap.size < hb1w.heap.size := by omega)); (try (have : w.heap.size + 1 < hb1w.heap.size := by omega)); (try (have : w.heap.size + 1 + 1 < hb1w.heap.size := by omega)); (try (have : w.heap.size + 1 + 1 + 1 < hb1w.heap.size := by omega)); (try (have : bX < hb1w.heap.size := by omega)); (try (have : bY < hb1w.heap.size := by omega)); (try (have : bZ < hb1w.heap.size := by omega))))
  go_ret
  exact ⟨rfl, by (repeat' (first | (with_reducible exact Below.refl _ _) | (with_reducible assumption) | (with_reducible refine below_alloc ?_ _) | (with_reducible refine Below.drew ?_) | (with_reducible refine below_drewN ?_ _) | (with_reducible refine below_step (by assumption) ?_) | (with_reducible refine below_later ?_ _) | (with_reducible refine Below.setCell ?_ ?_ _) | go_size))⟩
set_option maxHeartbeats 1000000 in
theorem rfromRpm_any {s : Int} (h0 : 0 ≤ s) (h1 : s ≤ 20000) (w : World) : Calls Try.prog 72 #[.int .i64 s] w fun e w' => e = .returned (.int .i64 (rpmV s)) ∧ Below w.heap.size w w' := by
  obtain ⟨r0, r1⟩ := rpmV_bd h0 h1
  have HL : Hid (∀ v, rpmV s ≤ v → s ≤ v * 60000000 / 1509949440) := Lib.hid (fun v h => rpmV_le h)
  have HG : Hid (∀ v, v < rpmV s → v * 60000000 / 1509949440 < s) := Lib.hid (fun v h => rpmV_gt h)
  generalize rpmV s = r at *
  go_enter Try.func72, Try.ntmps72
  go_wp2
  go_loopg [3, 4] 1048576 (fun kx s3 s4 wr => ∃ (lo hi : Int) (e : Later w), s3 = .int .i64 lo ∧ s4 = .int .i64 hi ∧ 0 ≤ lo ∧ lo ≤ r ∧ r ≤ hi ∧ hi ≤ 1048576 ∧ (hi - lo).toNat ≤ kx ∧ wr = e.w)
  case atStart => exact ⟨0, 1048576, ⟨w, Below.refl _ _⟩, rfl, rfl, by omega, by omega, by omega, by omega, by omega, rfl⟩
  case round =>
    obtain ⟨lo, hi, e, rfl, rfl, l0, l1, l2, l3, hk, rfl⟩ := hrel
    by_cases hlt : lo < hi
    · have d2 : lo ≤ (lo + hi) / 2 := by omega
      have d3 : (lo + hi) / 2 < hi := by omega
      have d4 : 0 ≤ (lo + hi) / 2 := by omega
      have HF := Lib.hid (fun w => rfloor_any (a := lo + hi) (c := 2) (by omega) (by omega) (by omega) (by omega) w)
      have HR := Lib.hid (fun w => rrpm_any (v := (lo + hi) / 2) (by omega) (by omega) w)
      by_cases hp : (lo + hi) / 2 < r
      · have hv := HG.out _ hp
        generalize (lo + hi) / 2 * 60000000 / 1509949440 = q at *
        generalize hm : (lo + hi) / 2 = m at *
        have HM := Lib.hid hm
        clear hm
        go_wp2_with (first | (go_at_call 71; refine (HF.out _).mono ?_; rintro e hb1w ⟨rfl, hb1⟩; obtain ⟨hb1c, hb1f⟩ := bcell hb1; have hb1s := hb1.size; (try simp only [World.size_alloc] at hb1s); (try (have : w.heap.size < hb1w.heap.size := by omega)); (try (have : w.heap.size + 1 < hb1w.heap.size := by omega)); (try (have : w.heap.size + 1 + 1 < hb1w.heap.size := by omega)); (try (have : w.heap.size + 1 + 1 + 1 < hb1w.heap.size := by omega)); (try (have : bX < hb1w.heap.size := by omega)); (try (have : bY < hb1w.heap.size := by omega)); (try (have : bZ < hb1w.heap.size := by omega))) | (go_at_call 107; refine (HR.out _).mono ?_; rintro e hb2w ⟨rfl, hb2⟩; obtain ⟨hb2c, hb2f⟩ := bcell hb2; have hb2s := hb2.size; (try simp only [World.size_alloc] at hb2s); (try (have : w.heap.size < hb2w.heap.size := by omega)); (try (have : w.heap.size + 1 < hb2w.heap.size := by omega)); (try (have : w.heap.size + 1 + 1 < hb2w.heap.size := by omega)); (try (have : w.heap.size + 1 + 1 + 1 < hb2w.heap.size := by omega)); (try (have : bX < hb2w.heap.size := by omega)); (try (have : bY < hb2w.heap.size := by omega)); (try (have : bZ < hb2w.heap.size := by omega))))
        go_roundg (hi - (m + 1)).toNat
        case measure => omega
        case rel => exact ⟨m + 1, hi, ⟨hb2w, by (repeat' (first | (with_reducible exact Below.refl _ _) | (with_reducible assumption) | (with_reducible refine below_alloc ?_ _) | (with_reducible refine Below.drew ?_) | (with_reducible refine below_drewN ?_ _) | (with_reducible refine below_step (by assumption) ?_) | (with_reducible refine below_later ?_ _) | (with_reducible refine Below.setCell ?_ ?_ _) | go_size))⟩, rfl, rfl, by omega, by omega, by omega, by omega, by omega, rfl⟩
      · have hv := HL.out _ (show r ≤ (lo + hi) / 2 by omega)
        generalize (lo + hi) / 2 * 60000000 / 1509949440 = q at *
        generalize hm : (lo + hi) / 2 = m at *
        have HM := Lib.hid hm
        clear hm
        go_wp2_with (first | (go_at_call 71; refine (HF.out _).mono ?_; rintro e hb1w ⟨rfl, hb1⟩; obtain ⟨hb1c, hb1f⟩ := bcell hb1; have hb1s := hb1.size; (try simp only [World.size_alloc] at hb1s); (try (have : w.heap.size < hb1w.heap.size := by omega)); (try (have : w.heap.size + 1 < hb1w.heap.size := by omega)); (try (have : w.heap.size + 1 + 1 < hb1w.heap.size := by omega)); (try (have : w.heap.size + 1 + 1 + 1 < hb1w.heap.size := by omega)); (try (have : bX < hb1w.heap.size := by omega)); (try (have : bY < hb1w.heap.size := by omega)); (try (have : bZ < hb1w.heap.size := by omega))) | (go_at_call 107; refine (HR.out _).mono ?_; rintro e hb2w ⟨rfl, hb2⟩; obtain ⟨hb2c, hb2f⟩ := bcell hb2; have hb2s := hb2.size; (try simp only [World.size_alloc] at hb2s); (try (have : w.heap.size < hb2w.heap.size := by omega)); (try (have : w.heap.size + 1 < hb2w.heap.size := by omega)); (try (have : w.heap.size + 1 + 1 < hb2w.heap.size := by omega)); (try (have : w.heap.size + 1 + 1 + 1 < hb2w.heap.size := by omega)); (try (have : bX < hb2w.heap.size := by omega)); (try (have : bY < hb2w.heap.size := by omega)); (try (have : bZ < hb2w.heap.size := by omega))))
        go_roundg (m - lo).toNat
        case measure => omega
        case rel => exact ⟨lo, m, ⟨hb2w, by (repeat' (first | (with_reducible exact Below.refl _ _) | (with_reducible assumption) | (with_reducible refine below_alloc ?_ _) | (with_reducible refine Below.drew ?_) | (with_reducible refine below_drewN ?_ _) | (with_reducible refine below_step (by assumption) ?_) | (with_reducible refine below_later ?_ _) | (with_reducible refine Below.setCell ?_ ?_ _) | go_size))⟩, rfl, rfl, by omega, by omega, by omega, by omega, by omega, rfl⟩
    · obtain rfl : lo = r := by omega
      go_wp2
      go_ret
      exact ⟨rfl, by (repeat' (first | (with_reducible exact Below.refl _ _) | (with_reducible assumption) | (with_reducible refine below_alloc ?_ _) | (with_reducible refine Below.drew ?_) | (with_reducible refine below_drewN ?_ _) | (with_reducible refine below_step (by assumption) ?_) | (with_reducible refine below_later ?_ _) | (with_reducible refine Below.setCell ?_ ?_ _) | go_size))⟩

def flow2 (s p : Int) : Int × Int := if inB s 0 12000 = true ∧ inB p 50 3000 = true then (rpmV s * p / 1024, 0) else (0, 2)
theorem flow_num {v p : Int} (v0 : 0 ≤ v) (v1 : v ≤ 503317) (p0 : 50 ≤ p) (p1 : p ≤ 3000) : 0 ≤ v * p ∧ v * p ≤ 1509951000 := by
  refine ⟨Int.mul_nonneg v0 (by omega), ?_⟩
  have := Int.mul_le_mul v1 p1 (by omega) (by omega)
  omega
set_option maxHeartbeats 1000000 in
theorem flow_any (s p : Int) (w : World) : Calls Try.prog 23 #[.int .i64 s, .int .i64 p] w fun e w' => e = .returned (ctup2 (flow2 s p)) ∧ Below w.heap.size w w' := by
  cases i1 : inB s 0 12000 with
  | false =>
    have H : Hid (flow2 s p = (0, 2)) := Lib.hid (by simp [flow2, i1])
    go_enter Try.func23, Try.ntmps23
    go_wp2_with (first | (go_at_call 57; refine (abetween_any _ _ _ _).mono ?_; rintro e w' ⟨rfl, rfl⟩) | (go_at_call 70; refine (HF.out _).mono ?_; rintro e hb1w ⟨rfl, hb1⟩; obtain ⟨hb1c, hb1f⟩ := bcell hb1; have hb1s := hb1.size; (try simp only [World.size_alloc] at hb1s); (try (have : w.heap.size < hb1w.heap.size := by omega)); (try (have : w.heap.size + 1 < hb1w.heap.size := by omega)); (try (have : w.heap.size + 1 + 1 < hb1w.heap.size := by omega)); (try (have : w.heap.size + 1 + 1 + 1 < hb1w.heap.size := by omega)); (try (have : bX < hb1w.heap.size := by omega)); (try (have : bY < hb1w.heap.size := by omega)); (try (have : bZ < hb1w.heap.size := by omega))))
    go_ret2
    exact ⟨by rw [H.out]; rfl, by (repeat' (first | (with_reducible exact Below.refl _ _) | (with_reducible assumption) | (with_reducible refine below_alloc ?_ _) | (with_reducible refine Below.drew ?_) | (with_reducible refine below_drewN ?_ _) | (with_reducible refine below_step (by assumption) ?_) | (with_reducible refine below_later ?_ _) | (with_reducible refine Below.setCell ?_ ?_ _) | go_size))⟩
  | true =>
    cases i2 : inB p 50 3000 with
    | false =>
      have H : Hid (flow2 s p = (0, 2)) := Lib.hid (by simp [flow2, i2])
      go_enter Try.func23, Try.ntmps23
      go_wp2_with (first | (go_at_call 57; refine (abetween_any _ _ _ _).mono ?_; rintro e w' ⟨rfl, rfl⟩) | (go_at_call 70; refine (HF.out _).mono ?_; rintro e hb1w ⟨rfl, hb1⟩; obtain ⟨hb1c, hb1f⟩ := bcell hb1; have hb1s := hb1.size; (try simp only [World.size_alloc] at hb1s); (try (have : w.heap.size < hb1w.heap.size := by omega)); (try (have : w.heap.size + 1 < hb1w.heap.size := by omega)); (try (have : w.heap.size + 1 + 1 < hb1w.heap.size := by omega)); (try (have : w.heap.size + 1 + 1 + 1 < hb1w.heap.size := by omega)); (try (have : bX < hb1w.heap.size := by omega)); (try (have : bY < hb1w.heap.size := by omega)); (try (have : bZ < hb1w.heap.size := by omega))))
      go_ret2
      exact ⟨by rw [H.out]; rfl, by (repeat' (first | (with_reducible exact Below.refl _ _) | (with_reducible assumption) | (with_reducible refine below_alloc ?_ _) | (with_reducible refine Below.drew ?_) | (with_reducible refine below_drewN ?_ _) | (with_reducible refine below_step (by assumption) ?_) | (with_reducible refine below_later ?_ _) | (with_reducible refine Below.setCell ?_ ?_ _) | go_size))⟩
    | true =>
      have H : Hid (flow2 s p = (rpmV s * p / 1024, 0)) := Lib.hid (by simp [flow2, i1, i2])
      have b1 := inB_true.1 i1
      have b2 := inB_true.1 i2
      have ⟨r0, r1⟩ := rpmV_bd (s := s) (by omega) (by omega)
      have ⟨n0, n1⟩ := flow_num r0 r1 b2.1 b2.2
      have HF := Lib.hid (fun w => fromRpm_any (s := s) (by omega) (by omega) w)
      have HFL := Lib.hid (fun w => rfloor_any (a := rpmV s * p) (c := 1024) (by omega) (by omega) (by omega) (by omega) w)
      have hw : IntKind.i64.wrap (rpmV s * p) = rpmV s * p := IntWalk.i64_in _ (by omega)
      have hd : (rpmV s * p).tdiv 1024 = rpmV s * p / 1024 := Int.tdiv_eq_ediv_of_nonneg n0
      have hw2 : IntKind.i64.wrap (rpmV s * p / 1024) = rpmV s * p / 1024 := IntWalk.i64_in _ (by omega)
      clear b1 b2
      generalize rpmV s = v at *
      go_enter Try.func23, Try.ntmps23
      go_wp2_with (first | (go_at_call 57; refine (abetween_any _ _ _ _).mono ?_; rintro e w' ⟨rfl, rfl⟩) | (go_at_call 70; refine (HF.out _).mono ?_; rintro e hb1w ⟨rfl, hb1⟩; obtain ⟨hb1c, hb1f⟩ := bcell hb1; have hb1s := hb1.size; (try simp only [World.size_alloc] at hb1s); (try (have : w.heap.size < hb1w.heap.size := by omega)); (try (have : w.heap.size + 1 < hb1w.heap.size := by omega)); (try (have : w.heap.size + 1 + 1 < hb1w.heap.size := by omega)); (try (have : w.heap.size + 1 + 1 + 1 < hb1w.heap.size := by omega)); (try (have : bX < hb1w.heap.size := by omega)); (try (have : bY < hb1w.heap.size := by omega)); (try (have : bZ < hb1w.heap.size := by omega))))
      go_ret2
      exact ⟨by rw [H.out]; rfl, by (repeat' (first | (with_reducible exact Below.refl _ _) | (with_reducible assumption) | (with_reducible refine below_alloc ?_ _) | (with_reducible refine Below.drew ?_) | (with_reducible refine below_drewN ?_ _) | (with_reducible refine below_step (by assumption) ?_) | (with_reducible refine below_later ?_ _) | (with_reducible refine Below.setCell ?_ ?_ _) | go_size))⟩
set_option maxHeartbeats 1000000 in
theorem rflow_any (s p : Int) (w : World) : Calls Try.prog 24 #[.int .i64 s, .int .i64 p] w fun e w' => e = .returned (ctup2 (flow2 s p)) ∧ Below w.heap.size w w' := by
  cases i1 : inB s 0 12000 with
  | false =>
    have H : Hid (flow2 s p = (0, 2)) := Lib.hid (by simp [flow2, i1])
    go_enter Try.func24, Try.ntmps24
    go_wp2_with (first | (go_at_call 59; refine (r29in_any _ _ _ _).mono ?_; rintro e w' ⟨rfl, rfl⟩) | (go_at_call 72; refine (HF.out _).mono ?_; rintro e hb1w ⟨rfl, hb1⟩; obtain ⟨hb1c, hb1f⟩ := bcell hb1; have hb1s := hb1.size; (try simp only [World.size_alloc] at hb1s); (try (have : w.heap.size < hb1w.heap.size := by omega)); (try (have : w.heap.size + 1 < hb1w.heap.size := by omega)); (try (have : w.heap.size + 1 + 1 < hb1w.heap.size := by omega)); (try (have : w.heap.size + 1 + 1 + 1 < hb1w.heap.size := by omega)); (try (have : bX < hb1w.heap.size := by omega)); (try (have : bY < hb1w.heap.size := by omega)); (try (have : bZ < hb1w.heap.size := by omega))) | (go_at_call 71; refine (HFL.out _).mono ?_; rintro e hb2w ⟨rfl, hb2⟩; obtain ⟨hb2c, hb2f⟩ := bcell hb2; have hb2s := hb2.size; (try simp only [World.size_alloc] at hb2s); (try (have : w.heap.size < hb2w.heap.size := by omega)); (try (have : w.heap.size + 1 < hb2w.heap.size := by omega)); (try (have : w.heap.size + 1 + 1 < hb2w.heap.size := by omega)); (try (have : w.heap.size + 1 + 1 + 1 < hb2w.heap.size := by omega)); (try (have : bX < hb2w.heap.size := by omega)); (try (have : bY < hb2w.heap.size := by omega)); (try (have : bZ < hb2w.heap.size := by omega))))
    go_ret2
    exact ⟨by rw [H.out]; rfl, by (repeat' (first | (with_reducible exact Below.refl _ _) | (with_reducible assumption) | (with_reducible refine below_alloc ?_ _) | (with_reducible refine Below.drew ?_) | (with_reducible refine below_drewN ?_ _) | (with_reducible refine below_step (by assumption) ?_) | (with_reducible refine below_later ?_ _) | (with_reducible refine Below.setCell ?_ ?_ _) | go_size))⟩
  | true =>
    cases i2 : inB p 50 3000 with
    | false =>
      have H : Hid (flow2 s p = (0, 2)) := Lib.hid (by simp [flow2, i2])
      go_enter Try.func24, Try.ntmps24
      go_wp2_with (first | (go_at_call 59; refine (r29in_any _ _ _ _).mono ?_; rintro e w' ⟨rfl, rfl⟩) | (go_at_call 72; refine (HF.out _).mono ?_; rintro e hb1w ⟨rfl, hb1⟩; obtain ⟨hb1c, hb1f⟩ := bcell hb1; have hb1s := hb1.size; (try simp only [World.size_alloc] at hb1s); (try (have : w.heap.size < hb1w.heap.size := by omega)); (try (have : w.heap.size + 1 < hb1w.heap.size := by omega)); (try (have : w.heap.size + 1 + 1 < hb1w.heap.size := by omega)); (try (have : w.heap.size + 1 + 1 + 1 < hb1w.heap.size := by omega)); (try (have : bX < hb1w.heap.size := by omega)); (try (have : bY < hb1w.heap.size := by omega)); (try (have : bZ < hb1w.heap.size := by omega))) | (go_at_call 71; refine (HFL.out _).mono ?_; rintro e hb2w ⟨rfl, hb2⟩; obtain ⟨hb2c, hb2f⟩ := bcell hb2; have hb2s := hb2.size; (try simp only [World.size_alloc] at hb2s); (try (have : w.heap.size < hb2w.heap.size := by omega)); (try (have : w.heap.size + 1 < hb2w.heap.size := by omega)); (try (have : w.heap.size + 1 + 1 < hb2w.heap.size := by omega)); (try (have : w.heap.size + 1 + 1 + 1 < hb2w.heap.size := by omega)); (try (have : bX < hb2w.heap.size := by omega)); (try (have : bY < hb2w.heap.size := by omega)); (try (have : bZ < hb2w.heap.size := by omega))))
      go_ret2
      exact ⟨by rw [H.out]; rfl, by (repeat' (first | (with_reducible exact Below.refl _ _) | (with_reducible assumption) | (with_reducible refine below_alloc ?_ _) | (with_reducible refine Below.drew ?_) | (with_reducible refine below_drewN ?_ _) | (with_reducible refine below_step (by assumption) ?_) | (with_reducible refine below_later ?_ _) | (with_reducible refine Below.setCell ?_ ?_ _) | go_size))⟩
    | true =>
      have H : Hid (flow2 s p = (rpmV s * p / 1024, 0)) := Lib.hid (by simp [flow2, i1, i2])
      have b1 := inB_true.1 i1
      have b2 := inB_true.1 i2
      have ⟨r0, r1⟩ := rpmV_bd (s := s) (by omega) (by omega)
      have ⟨n0, n1⟩ := flow_num r0 r1 b2.1 b2.2
      have HF := Lib.hid (fun w => rfromRpm_any (s := s) (by omega) (by omega) w)
      have HFL := Lib.hid (fun w => rfloor_any (a := rpmV s * p) (c := 1024) (by omega) (by omega) (by omega) (by omega) w)
      have hw : IntKind.i64.wrap (rpmV s * p) = rpmV s * p := IntWalk.i64_in _ (by omega)
      have hd : (rpmV s * p).tdiv 1024 = rpmV s * p / 1024 := Int.tdiv_eq_ediv_of_nonneg n0
      have hw2 : IntKind.i64.wrap (rpmV s * p / 1024) = rpmV s * p / 1024 := IntWalk.i64_in _ (by omega)
      clear b1 b2
      generalize rpmV s = v at *
      go_enter Try.func24, Try.ntmps24
      go_wp2_with (first | (go_at_call 59; refine (r29in_any _ _ _ _).mono ?_; rintro e w' ⟨rfl, rfl⟩) | (go_at_call 72; refine (HF.out _).mono ?_; rintro e hb1w ⟨rfl, hb1⟩; obtain ⟨hb1c, hb1f⟩ := bcell hb1; have hb1s := hb1.size; (try simp only [World.size_alloc] at hb1s); (try (have : w.heap.size < hb1w.heap.size := by omega)); (try (have : w.heap.size + 1 < hb1w.heap.size := by omega)); (try (have : w.heap.size + 1 + 1 < hb1w.heap.size := by omega)); (try (have : w.heap.size + 1 + 1 + 1 < hb1w.heap.size := by omega)); (try (have : bX < hb1w.heap.size := by omega)); (try (have : bY < hb1w.heap.size := by omega)); (try (have : bZ < hb1w.heap.size := by omega))) | (go_at_call 71; refine (HFL.out _).mono ?_; rintro e hb2w ⟨rfl, hb2⟩; obtain ⟨hb2c, hb2f⟩ := bcell hb2; have hb2s := hb2.size; (try simp only [World.size_alloc] at hb2s); (try (have : w.heap.size < hb2w.heap.size := by omega)); (try (have : w.heap.size + 1 < hb2w.heap.size := by omega)); (try (have : w.heap.size + 1 + 1 < hb2w.heap.size := by omega)); (try (have : w.heap.size + 1 + 1 + 1 < hb2w.heap.size := by omega)); (try (have : bX < hb2w.heap.size := by omega)); (try (have : bY < hb2w.heap.size := by omega)); (try (have : bZ < hb2w.heap.size := by omega))))
      go_ret2
      exact ⟨by rw [H.out]; rfl, by (repeat' (first | (with_reducible exact Below.refl _ _) | (with_reducible assumption) | (with_reducible refine below_alloc ?_ _) | (with_reducible refine Below.drew ?_) | (with_reducible refine below_drewN ?_ _) | (with_reducible refine below_step (by assumption) ?_) | (with_reducible refine below_later ?_ _) | (with_reducible refine Below.setCell ?_ ?_ _) | go_size))⟩

/-- The inflow at a throttle. -/
@[irreducible] def thrV (t k d : Int) : Int := t * k * d / 1000
theorem thr_num {t k d : Int} (t0 : 0 ≤ t) (t1 : t ≤ 65536) (k0 : 0 ≤ k) (k1 : k ≤ 1001) (d0 : 0 ≤ d) (d1 : d ≤ 963) : 0 ≤ t * k ∧ t * k ≤ 65601536 ∧ 0 ≤ t * k * d ∧ t * k * d ≤ 63174279168 := by
  have h1 : 0 ≤ t * k := Int.mul_nonneg t0 k0
  have h2 : t * k ≤ 65536 * 1001 := Int.mul_le_mul t1 k1 k0 (by omega)
  refine ⟨h1, by omega, Int.mul_nonneg h1 d0, ?_⟩
  have := Int.mul_le_mul (show t * k ≤ 65601536 by omega) d1 d0 (by omega)
  omega
theorem thrV_up {t k k' d : Int} (t0 : 0 ≤ t) (d0 : 0 ≤ d) (h : k ≤ k') : thrV t k d ≤ thrV t k' d := by
  unfold thrV
  exact Int.ediv_le_ediv (by omega) (Int.mul_le_mul_of_nonneg_right (Int.mul_le_mul_of_nonneg_left h t0) d0)
/-- The least throttle with a flow, or 1001. -/
@[irreducible] def thrN (t d flow : Int) : Nat := least (fun k => decide (flow ≤ thrV t (k : Int) d)) 1001
theorem thr_split {p : Nat → Bool} (hm : ∀ a b, a ≤ b → p a = true → p b = true) (n : Nat) : least p n ≤ n ∧ (∀ t, t < least p n → p t = false) ∧ (∀ t, least p n ≤ t → t < n → p t = true) :=
  ⟨least_le p n, fun t ht => least_below p n t ht, fun t ht htn => least_mono hm n t ht htn⟩
theorem thrN_spec {t d flow : Int} (t0 : 0 ≤ t) (d0 : 0 ≤ d) : thrN t d flow ≤ 1001 ∧ (∀ k : Nat, k < thrN t d flow → decide (flow ≤ thrV t (k : Int) d) = false) ∧ (∀ k : Nat, thrN t d flow ≤ k → k < 1001 → decide (flow ≤ thrV t (k : Int) d) = true) := by
  unfold thrN
  refine thr_split (fun a b hab ha => ?_) 1001
  simp only [decide_eq_true_eq] at ha ⊢
  exact Int.le_trans ha (thrV_up t0 d0 (by omega))
theorem thrCl_any (bB bP bF : Nat) (i f v t m ev d p flow k : Int) (w : World) (t0 : 0 ≤ t) (t1 : t ≤ 65536) (k0 : 0 ≤ k) (k1 : k ≤ 1001) (p0 : 50 ≤ p) (p1 : p ≤ 1013)
    (c0 : w.cell? ⟨bB, 3, none⟩ = some (.int .i64 t)) (c1 : w.cell? ⟨bP, 0, none⟩ = some (.int .i64 p)) (c2 : w.cell? ⟨bF, 0, none⟩ = some (.int .i64 flow)) :
    Calls Try.prog 73 #[.int .i64 k, .pointer (some ⟨bB, 0, none⟩), .pointer (some ⟨bP, 0, none⟩), .pointer (some ⟨bF, 0, none⟩)] w fun e w' => e = .returned (.bool (decide (flow ≤ thrV t k (1013 - p)))) ∧ Below w.heap.size w w' := by
  have H : Hid (thrV t k (1013 - p) = t * k * (1013 - p) / 1000) := Lib.hid (by unfold thrV; rfl)
  obtain ⟨n1, n2, n3, n4⟩ := thr_num t0 t1 k0 k1 (show 0 ≤ 1013 - p by omega) (by omega)
  have w1 : IntKind.i64.wrap (t * k) = t * k := IntWalk.i64_in _ (by omega)
  have w2 : IntKind.i64.wrap (t * k * (1013 - p)) = t * k * (1013 - p) := IntWalk.i64_in _ (by omega)
  have hd : (t * k * (1013 - p)).tdiv 1000 = t * k * (1013 - p) / 1000 := Int.tdiv_eq_ediv_of_nonneg n3
  have w3 : IntKind.i64.wrap (t * k * (1013 - p) / 1000) = t * k * (1013 - p) / 1000 := IntWalk.i64_in _ (by omega)
  have w4 : IntKind.i64.wrap (1013 - p) = 1013 - p := IntWalk.i64_in _ (by omega)
  go_enter Try.func73, Try.ntmps73
  go_wp2
  go_ret
  exact ⟨by rw [H.out]; first | done | rfl, by (repeat' (first | (with_reducible exact Below.refl _ _) | (with_reducible assumption) | (with_reducible refine below_alloc ?_ _) | (with_reducible refine Below.drew ?_) | (with_reducible refine below_drewN ?_ _) | (with_reducible refine below_step (by assumption) ?_) | (with_reducible refine below_later ?_ _) | (with_reducible refine Below.setCell ?_ ?_ _) | go_size))⟩
def thr2 (i f v t m ev d flow p : Int) : Int × Int :=
  if bodyB i f v t m ev d = true then (if inB flow 0 1099511627776 = true ∧ inB p 50 1013 = true then (if thrN t (1013 - p) flow = 1001 then (0, 7) else ((thrN t (1013 - p) flow : Int), 0)) else (0, 2)) else (0, 1)
theorem thr2_bad {i f v t m ev d : Int} (h : bodyB i f v t m ev d = false) (flow p : Int) : thr2 i f v t m ev d flow p = (0, 1) := by simp [thr2, h]
theorem thr2_out {i f v t m ev d : Int} (h : bodyB i f v t m ev d = true) {flow p : Int} (hn : ¬ (inB flow 0 1099511627776 = true ∧ inB p 50 1013 = true)) : thr2 i f v t m ev d flow p = (0, 2) := by unfold thr2; rw [if_pos h, if_neg hn]
theorem thr2_in {i f v t m ev d : Int} (h : bodyB i f v t m ev d = true) {flow p : Int} (hn : inB flow 0 1099511627776 = true ∧ inB p 50 1013 = true) : thr2 i f v t m ev d flow p = if thrN t (1013 - p) flow = 1001 then (0, 7) else ((thrN t (1013 - p) flow : Int), 0) := by unfold thr2; rw [if_pos h, if_pos hn]
set_option maxRecDepth 100000 in
set_option maxHeartbeats 1000000 in
theorem throttle_any (i f v t m ev d flow p : Int) (w : World) : Calls Try.prog 25 #[.agg #[.int .i64 i, .int .i64 f, .int .i64 v, .int .i64 t, .int .i64 m, .int .i64 ev, .int .i64 d], .int .i64 flow, .int .i64 p] w fun e w' => e = .returned (ctup2 (thr2 i f v t m ev d flow p)) ∧ Below w.heap.size w w' := by
  cases hb : bodyB i f v t m ev d with
  | false =>
    have H := Lib.hid (thr2_bad hb flow p)
    go_enter Try.func25, Try.ntmps25
    go_wp2_with (first | (go_at_call 27; refine (pbody_any _ _ _ _ _ _ _ _).mono ?_; rintro e hb1w ⟨rfl, hb1⟩; obtain ⟨hb1c, hb1f⟩ := bcell hb1; have hb1s := hb1.size; (try simp only [World.size_alloc] at hb1s); (try (have : w.heap.size < hb1w.heap.size := by omega)); (try (have : w.heap.size + 1 < hb1w.heap.size := by omega)); (try (have : w.heap.size + 1 + 1 < hb1w.heap.size := by omega)); (try (have : w.heap.size + 1 + 1 + 1 < hb1w.heap.size := by omega)); (try (have : bX < hb1w.heap.size := by omega)); (try (have : bY < hb1w.heap.size := by omega)); (try (have : bZ < hb1w.heap.size := by omega))) | (go_at_call 57; refine (abetween_any _ _ _ _).mono ?_; rintro e w' ⟨rfl, rfl⟩))
    go_ret2
    exact ⟨by rw [H.out]; rfl, by (repeat' (first | (with_reducible exact Below.refl _ _) | (with_reducible assumption) | (with_reducible refine below_alloc ?_ _) | (with_reducible refine Below.drew ?_) | (with_reducible refine below_drewN ?_ _) | (with_reducible refine below_step (by assumption) ?_) | (with_reducible refine below_later ?_ _) | (with_reducible refine Below.setCell ?_ ?_ _) | go_size))⟩
  | true =>
    cases i1 : inB flow 0 1099511627776 with
    | false =>
      have H := Lib.hid (thr2_out hb (flow := flow) (p := p) (by simp [i1]))
      go_enter Try.func25, Try.ntmps25
      go_wp2_with (first | (go_at_call 27; refine (pbody_any _ _ _ _ _ _ _ _).mono ?_; rintro e hb1w ⟨rfl, hb1⟩; obtain ⟨hb1c, hb1f⟩ := bcell hb1; have hb1s := hb1.size; (try simp only [World.size_alloc] at hb1s); (try (have : w.heap.size < hb1w.heap.size := by omega)); (try (have : w.heap.size + 1 < hb1w.heap.size := by omega)); (try (have : w.heap.size + 1 + 1 < hb1w.heap.size := by omega)); (try (have : w.heap.size + 1 + 1 + 1 < hb1w.heap.size := by omega)); (try (have : bX < hb1w.heap.size := by omega)); (try (have : bY < hb1w.heap.size := by omega)); (try (have : bZ < hb1w.heap.size := by omega))) | (go_at_call 57; refine (abetween_any _ _ _ _).mono ?_; rintro e w' ⟨rfl, rfl⟩))
      go_ret2
      exact ⟨by rw [H.out]; rfl, by (repeat' (first | (with_reducible exact Below.refl _ _) | (with_reducible assumption) | (with_reducible refine below_alloc ?_ _) | (with_reducible refine Below.drew ?_) | (with_reducible refine below_drewN ?_ _) | (with_reducible refine below_step (by assumption) ?_) | (with_reducible refine below_later ?_ _) | (with_reducible refine Below.setCell ?_ ?_ _) | go_size))⟩
    | true =>
      cases i2 : inB p 50 1013 with
      | false =>
        have H := Lib.hid (thr2_out hb (flow := flow) (p := p) (by simp [i2]))
        go_enter Try.func25, Try.ntmps25
        go_wp2_with (first | (go_at_call 27; refine (pbody_any _ _ _ _ _ _ _ _).mono ?_; rintro e hb1w ⟨rfl, hb1⟩; obtain ⟨hb1c, hb1f⟩ := bcell hb1; have hb1s := hb1.size; (try simp only [World.size_alloc] at hb1s); (try (have : w.heap.size < hb1w.heap.size := by omega)); (try (have : w.heap.size + 1 < hb1w.heap.size := by omega)); (try (have : w.heap.size + 1 + 1 < hb1w.heap.size := by omega)); (try (have : w.heap.size + 1 + 1 + 1 < hb1w.heap.size := by omega)); (try (have : bX < hb1w.heap.size := by omega)); (try (have : bY < hb1w.heap.size := by omega)); (try (have : bZ < hb1w.heap.size := by omega))) | (go_at_call 57; refine (abetween_any _ _ _ _).mono ?_; rintro e w' ⟨rfl, rfl⟩))
        go_ret2
        exact ⟨by rw [H.out]; rfl, by (repeat' (first | (with_reducible exact Below.refl _ _) | (with_reducible assumption) | (with_reducible refine below_alloc ?_ _) | (with_reducible refine Below.drew ?_) | (with_reducible refine below_drewN ?_ _) | (with_reducible refine below_step (by assumption) ?_) | (with_reducible refine below_later ?_ _) | (with_reducible refine Below.setCell ?_ ?_ _) | go_size))⟩
      | true =>
        have HV := Lib.hid (thr2_in hb (flow := flow) (p := p) ⟨i1, i2⟩)
        have ⟨p0, p1⟩ := inB_true.1 i2
        have ⟨_, _, _, ⟨t0, t1⟩, _⟩ := bodyB_bd hb
        obtain ⟨r1, r2, r3⟩ := thrN_spec (t := t) (d := 1013 - p) (flow := flow) t0 (by omega)
        have HR2 := Lib.hid r2
        have HR3 := Lib.hid r3
        clear r2 r3
        generalize thrN t (1013 - p) flow = r at *
        go_enter Try.func25, Try.ntmps25
        go_wp2_with (first | (go_at_call 27; refine (pbody_any _ _ _ _ _ _ _ _).mono ?_; rintro e hb1w ⟨rfl, hb1⟩; obtain ⟨hb1c, hb1f⟩ := bcell hb1; have hb1s := hb1.size; (try simp only [World.size_alloc] at hb1s); (try (have : w.heap.size < hb1w.heap.size := by omega)); (try (have : w.heap.size + 1 < hb1w.heap.size := by omega)); (try (have : w.heap.size + 1 + 1 < hb1w.heap.size := by omega)); (try (have : w.heap.size + 1 + 1 + 1 < hb1w.heap.size := by omega)); (try (have : bX < hb1w.heap.size := by omega)); (try (have : bY < hb1w.heap.size := by omega)); (try (have : bZ < hb1w.heap.size := by omega))) | (go_at_call 57; refine (abetween_any _ _ _ _).mono ?_; rintro e w' ⟨rfl, rfl⟩) | (go_at_call 61; refine (search_any 73 #[.pointer (some ⟨w.heap.size, 0, none⟩), .pointer (some ⟨w.heap.size + 1 + 1, 0, none⟩), .pointer (some ⟨w.heap.size + 1, 0, none⟩)] 1001 r (fun k => decide (flow ≤ thrV t (k : Int) (1013 - p))) _ (by rfl) (enters_of Try.func73 (by kernel_rfl) rfl) (by omega) (by omega) ?hf HR2.out HR3.out).mono ?_))
        case hf =>
          intro e k hk
          have hs : hb1w.heap.size ≤ e.w.heap.size := e.h.size
          exact thrCl_any w.heap.size (w.heap.size + 1 + 1) (w.heap.size + 1) i f v t m ev d p flow k e.w t0 t1 (by omega) (by omega) p0 p1 (by rw [Later.cell _ (by go_size)]; simp [go_sem, *]) (by rw [Later.cell _ (by go_size)]; simp [go_sem, *]) (by rw [Later.cell _ (by go_size)]; simp [go_sem, *])
        rintro e hb2w ⟨rfl, hb2⟩
        by_cases hr0 : r = 1001
        · have H := Lib.hid (HV.out.trans (if_pos hr0))
          subst hr0
          go_wp2
          go_ret2
          exact ⟨by rw [H.out]; rfl, by (repeat' (first | (with_reducible exact Below.refl _ _) | (with_reducible assumption) | (with_reducible refine below_alloc ?_ _) | (with_reducible refine Below.drew ?_) | (with_reducible refine below_drewN ?_ _) | (with_reducible refine below_step (by assumption) ?_) | (with_reducible refine below_later ?_ _) | (with_reducible refine Below.setCell ?_ ?_ _) | go_size))⟩
        · have H := Lib.hid (HV.out.trans (if_neg hr0))
          have hr1 : ¬ (1000 : Int) < (r : Int) := by omega
          go_wp2
          go_ret2
          exact ⟨by rw [H.out]; rfl, by (repeat' (first | (with_reducible exact Below.refl _ _) | (with_reducible assumption) | (with_reducible refine below_alloc ?_ _) | (with_reducible refine Below.drew ?_) | (with_reducible refine below_drewN ?_ _) | (with_reducible refine below_step (by assumption) ?_) | (with_reducible refine below_later ?_ _) | (with_reducible refine Below.setCell ?_ ?_ _) | go_size))⟩
set_option maxRecDepth 100000 in
set_option maxHeartbeats 1000000 in
theorem rthrottle_any (i f v t m ev d flow p : Int) (w : World) : Calls Try.prog 26 #[.agg #[.int .i64 i, .int .i64 f, .int .i64 v, .int .i64 t, .int .i64 m, .int .i64 ev, .int .i64 d], .int .i64 flow, .int .i64 p] w fun e w' => e = .returned (ctup2 (thr2 i f v t m ev d flow p)) ∧ Below w.heap.size w w' := by
  cases hb : bodyB i f v t m ev d with
  | false =>
    have H := Lib.hid (thr2_bad hb flow p)
    go_enter Try.func26, Try.ntmps26
    go_wp2_with (first | (go_at_call 29; refine (rbody_any _ _ _ _ _ _ _ _).mono ?_; rintro e hb1w ⟨rfl, hb1⟩; obtain ⟨hb1c, hb1f⟩ := bcell hb1; have hb1s := hb1.size; (try simp only [World.size_alloc] at hb1s); (try (have : w.heap.size < hb1w.heap.size := by omega)); (try (have : w.heap.size + 1 < hb1w.heap.size := by omega)); (try (have : w.heap.size + 1 + 1 < hb1w.heap.size := by omega)); (try (have : w.heap.size + 1 + 1 + 1 < hb1w.heap.size := by omega)); (try (have : bX < hb1w.heap.size := by omega)); (try (have : bY < hb1w.heap.size := by omega)); (try (have : bZ < hb1w.heap.size := by omega))) | (go_at_call 59; refine (r29in_any _ _ _ _).mono ?_; rintro e w' ⟨rfl, rfl⟩))
    go_ret2
    exact ⟨by rw [H.out]; rfl, by (repeat' (first | (with_reducible exact Below.refl _ _) | (with_reducible assumption) | (with_reducible refine below_alloc ?_ _) | (with_reducible refine Below.drew ?_) | (with_reducible refine below_drewN ?_ _) | (with_reducible refine below_step (by assumption) ?_) | (with_reducible refine below_later ?_ _) | (with_reducible refine Below.setCell ?_ ?_ _) | go_size))⟩
  | true =>
    cases i1 : inB flow 0 1099511627776 with
    | false =>
      have H := Lib.hid (thr2_out hb (flow := flow) (p := p) (by simp [i1]))
      go_enter Try.func26, Try.ntmps26
      go_wp2_with (first | (go_at_call 29; refine (rbody_any _ _ _ _ _ _ _ _).mono ?_; rintro e hb1w ⟨rfl, hb1⟩; obtain ⟨hb1c, hb1f⟩ := bcell hb1; have hb1s := hb1.size; (try simp only [World.size_alloc] at hb1s); (try (have : w.heap.size < hb1w.heap.size := by omega)); (try (have : w.heap.size + 1 < hb1w.heap.size := by omega)); (try (have : w.heap.size + 1 + 1 < hb1w.heap.size := by omega)); (try (have : w.heap.size + 1 + 1 + 1 < hb1w.heap.size := by omega)); (try (have : bX < hb1w.heap.size := by omega)); (try (have : bY < hb1w.heap.size := by omega)); (try (have : bZ < hb1w.heap.size := by omega))) | (go_at_call 59; refine (r29in_any _ _ _ _).mono ?_; rintro e w' ⟨rfl, rfl⟩))
      go_ret2
      exact ⟨by rw [H.out]; rfl, by (repeat' (first | (with_reducible exact Below.refl _ _) | (with_reducible assumption) | (with_reducible refine below_alloc ?_ _) | (with_reducible refine Below.drew ?_) | (with_reducible refine below_drewN ?_ _) | (with_reducible refine below_step (by assumption) ?_) | (with_reducible refine below_later ?_ _) | (with_reducible refine Below.setCell ?_ ?_ _) | go_size))⟩
    | true =>
      cases i2 : inB p 50 1013 with
      | false =>
        have H := Lib.hid (thr2_out hb (flow := flow) (p := p) (by simp [i2]))
        go_enter Try.func26, Try.ntmps26
        go_wp2_with (first | (go_at_call 29; refine (rbody_any _ _ _ _ _ _ _ _).mono ?_; rintro e hb1w ⟨rfl, hb1⟩; obtain ⟨hb1c, hb1f⟩ := bcell hb1; have hb1s := hb1.size; (try simp only [World.size_alloc] at hb1s); (try (have : w.heap.size < hb1w.heap.size := by omega)); (try (have : w.heap.size + 1 < hb1w.heap.size := by omega)); (try (have : w.heap.size + 1 + 1 < hb1w.heap.size := by omega)); (try (have : w.heap.size + 1 + 1 + 1 < hb1w.heap.size := by omega)); (try (have : bX < hb1w.heap.size := by omega)); (try (have : bY < hb1w.heap.size := by omega)); (try (have : bZ < hb1w.heap.size := by omega))) | (go_at_call 59; refine (r29in_any _ _ _ _).mono ?_; rintro e w' ⟨rfl, rfl⟩))
        go_ret2
        exact ⟨by rw [H.out]; rfl, by (repeat' (first | (with_reducible exact Below.refl _ _) | (with_reducible assumption) | (with_reducible refine below_alloc ?_ _) | (with_reducible refine Below.drew ?_) | (with_reducible refine below_drewN ?_ _) | (with_reducible refine below_step (by assumption) ?_) | (with_reducible refine below_later ?_ _) | (with_reducible refine Below.setCell ?_ ?_ _) | go_size))⟩
      | true =>
        have HV := Lib.hid (thr2_in hb (flow := flow) (p := p) ⟨i1, i2⟩)
        have ⟨p0, p1⟩ := inB_true.1 i2
        have ⟨_, _, _, ⟨t0, t1⟩, _⟩ := bodyB_bd hb
        obtain ⟨r1, r2, r3⟩ := thrN_spec (t := t) (d := 1013 - p) (flow := flow) t0 (by omega)
        have HR2 := Lib.hid r2
        have HR3 := Lib.hid r3
        clear r2 r3
        generalize thrN t (1013 - p) flow = r at *
        go_enter Try.func26, Try.ntmps26
        go_wp2_with (first | (go_at_call 29; refine (rbody_any _ _ _ _ _ _ _ _).mono ?_; rintro e hb1w ⟨rfl, hb1⟩; obtain ⟨hb1c, hb1f⟩ := bcell hb1; have hb1s := hb1.size; (try simp only [World.size_alloc] at hb1s); (try (have : w.heap.size < hb1w.heap.size := by omega)); (try (have : w.heap.size + 1 < hb1w.heap.size := by omega)); (try (have : w.heap.size + 1 + 1 < hb1w.heap.size := by omega)); (try (have : w.heap.size + 1 + 1 + 1 < hb1w.heap.size := by omega)); (try (have : bX < hb1w.heap.size := by omega)); (try (have : bY < hb1w.heap.size := by omega)); (try (have : bZ < hb1w.heap.size := by omega))) | (go_at_call 59; refine (r29in_any _ _ _ _).mono ?_; rintro e w' ⟨rfl, rfl⟩))
        go_loopg [8] 1001 (fun kx s8 wr => ∃ (k : Nat) (e : Later hb1w), s8 = .int .i64 k ∧ k ≤ r ∧ 1001 - k ≤ kx ∧ wr = e.w)
        case atStart => exact ⟨0, ⟨_, Below.refl _ _⟩, rfl, by omega, by omega, rfl⟩
        case round =>
          obtain ⟨k, e, rfl, hk, hkx, rfl⟩ := hrel
          have hes := e.h.size
          have hbo : w.heap.size < e.w.heap.size := by omega
          by_cases hk1 : k < 1001
          · have hk2 : (k : Int) ≤ 1000 := by omega
            have hk3 : (0 : Int) ≤ (k : Int) := by omega
            obtain ⟨n1, n2, n3, n4⟩ := thr_num (k := (k : Int)) t0 t1 (by omega) (by omega) (show 0 ≤ 1013 - p by omega) (by omega)
            have w1 : IntKind.i64.wrap (t * (k : Int)) = t * (k : Int) := IntWalk.i64_in _ (by omega)
            have w2 : IntKind.i64.wrap (t * (k : Int) * (1013 - p)) = t * (k : Int) * (1013 - p) := IntWalk.i64_in _ (by omega)
            have w4 : IntKind.i64.wrap (1013 - p) = 1013 - p := IntWalk.i64_in _ (by omega)
            have HFL := Lib.hid (fun w => rfloor_any (a := t * (k : Int) * (1013 - p)) (c := 1000) (by omega) (by omega) (by omega) (by omega) w)
            have he : thrV t (k : Int) (1013 - p) = t * (k : Int) * (1013 - p) / 1000 := by unfold thrV; rfl
            by_cases hr : k = r
            · have hv := HR3.out k (by omega) hk1
              rw [decide_eq_true_eq, he] at hv
              have hr0 : ¬ r = 1001 := by omega
              have H := Lib.hid (HV.out.trans (if_neg hr0))
              subst hr
              clear he hr0
              go_wp2_with ((go_at_call 71; refine (HFL.out _).mono ?_; rintro e hb2w ⟨rfl, hb2⟩; obtain ⟨hb2c, hb2f⟩ := bcell hb2; have hb2s := hb2.size; (try simp only [World.size_alloc] at hb2s); (try (have : w.heap.size < hb2w.heap.size := by omega)); (try (have : w.heap.size + 1 < hb2w.heap.size := by omega)); (try (have : w.heap.size + 1 + 1 < hb2w.heap.size := by omega)); (try (have : w.heap.size + 1 + 1 + 1 < hb2w.heap.size := by omega)); (try (have : bX < hb2w.heap.size := by omega)); (try (have : bY < hb2w.heap.size := by omega)); (try (have : bZ < hb2w.heap.size := by omega))))
              go_ret2
              exact ⟨by rw [H.out]; rfl, by (repeat' (first | (with_reducible exact Below.refl _ _) | (with_reducible assumption) | (with_reducible refine below_alloc ?_ _) | (with_reducible refine Below.drew ?_) | (with_reducible refine below_drewN ?_ _) | (with_reducible refine below_step (by assumption) ?_) | (with_reducible refine below_later ?_ _) | (with_reducible refine Below.setCell ?_ ?_ _) | go_size))⟩
            · have hv := HR2.out k (by omega)
              rw [decide_eq_false_iff_not, he] at hv
              clear he
              go_wp2_with ((go_at_call 71; refine (HFL.out _).mono ?_; rintro e hb2w ⟨rfl, hb2⟩; obtain ⟨hb2c, hb2f⟩ := bcell hb2; have hb2s := hb2.size; (try simp only [World.size_alloc] at hb2s); (try (have : w.heap.size < hb2w.heap.size := by omega)); (try (have : w.heap.size + 1 < hb2w.heap.size := by omega)); (try (have : w.heap.size + 1 + 1 < hb2w.heap.size := by omega)); (try (have : w.heap.size + 1 + 1 + 1 < hb2w.heap.size := by omega)); (try (have : bX < hb2w.heap.size := by omega)); (try (have : bY < hb2w.heap.size := by omega)); (try (have : bZ < hb2w.heap.size := by omega))))
              go_roundg (1001 - (k + 1))
              case measure => omega
              case rel => exact ⟨k + 1, ⟨hb2w, by (repeat' (first | (with_reducible exact Below.refl _ _) | (with_reducible assumption) | (with_reducible refine below_alloc ?_ _) | (with_reducible refine Below.drew ?_) | (with_reducible refine below_drewN ?_ _) | (with_reducible refine below_step (by assumption) ?_) | (with_reducible refine below_later ?_ _) | (with_reducible refine Below.setCell ?_ ?_ _) | go_size))⟩, by go_num, by omega, by omega, rfl⟩
          · obtain rfl : r = 1001 := by omega
            obtain rfl : k = 1001 := by omega
            have H := Lib.hid (HV.out.trans (if_pos rfl))
            go_wp2
            go_ret2
            exact ⟨by rw [H.out]; rfl, by (repeat' (first | (with_reducible exact Below.refl _ _) | (with_reducible assumption) | (with_reducible refine below_alloc ?_ _) | (with_reducible refine Below.drew ?_) | (with_reducible refine below_drewN ?_ _) | (with_reducible refine below_step (by assumption) ?_) | (with_reducible refine below_later ?_ _) | (with_reducible refine Below.setCell ?_ ?_ _) | go_size))⟩
end Go.Proofs.Ytohdbneaganfbaa
