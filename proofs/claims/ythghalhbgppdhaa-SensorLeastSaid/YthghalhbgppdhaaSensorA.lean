/- Contracts of the converter of sensors: Clamp, Raw, Millivolts, and the reference's; the laws SensorConverts and SensorBack. -/
import Derived.Test.YthghalhbgppdhaaFrame
import Derived.Test.YthghalhbgppdhaaOpen
namespace Go.Proofs.Ythghalhbgppdhaa
set_option linter.unusedVariables false
set_option linter.unusedSimpArgs false
open Go.RowKit Go.ChangeShapes Go.WideShapes Go.ChangeAt

def clampI (x lo hi : Int) : Int := if x < lo then lo else if hi < x then hi else x
theorem clamp_any {lo hi : Int} (x : Int) (h : lo ≤ hi) (w : World) : Calls Try.prog 28 #[.int .i64 x, .int .i64 lo, .int .i64 hi] w fun e w' => e = .returned (.int .i64 (clampI x lo hi)) ∧ w = w' := by
  by_cases h1 : x < lo
  · have H := Lib.hid (show clampI x lo hi = lo by simp [clampI, h1])
    by_cases h2 : lo = hi
    · subst h2
      go_enter Try.func28, Try.ntmps28
      go_wp2
      all_goals go_ret
      all_goals exact ⟨by rw [H.out]; simp; try omega, rfl⟩
    · have h3 : lo < hi := by omega
      clear h2
      go_enter Try.func28, Try.ntmps28
      go_wp2
      all_goals go_ret
      all_goals exact ⟨by rw [H.out]; simp; try omega, rfl⟩
  · by_cases h2 : hi < x
    · have H := Lib.hid (show clampI x lo hi = hi by simp [clampI, h1, h2])
      go_enter Try.func28, Try.ntmps28
      go_wp2
      all_goals go_ret
      all_goals exact ⟨by rw [H.out]; simp; try omega, rfl⟩
    · have H := Lib.hid (show clampI x lo hi = x by simp [clampI, h1, h2])
      go_enter Try.func28, Try.ntmps28
      go_wp2
      all_goals go_ret
      all_goals exact ⟨by rw [H.out]; simp; try omega, rfl⟩

def rawI (mv : Int) : Int := if clampI mv 0 5000 * 4096 / 5000 < 4095 then clampI mv 0 5000 * 4096 / 5000 else 4095
def mvI (raw : Int) : Int := (clampI raw 0 4095 * 5000 + 4095) / 4096
theorem clampI_bd {lo hi : Int} (x : Int) (h : lo ≤ hi) : lo ≤ clampI x lo hi ∧ clampI x lo hi ≤ hi := by
  unfold clampI
  split
  · omega
  · split <;> omega
theorem rawI_bd (mv : Int) : 0 ≤ rawI mv ∧ rawI mv ≤ 4095 := by
  have := clampI_bd (lo := 0) (hi := 5000) mv (by omega)
  unfold rawI
  split <;> omega
theorem mvI_bd (raw : Int) : 0 ≤ mvI raw ∧ mvI raw ≤ 5000 := by
  have := clampI_bd (lo := 0) (hi := 4095) raw (by omega)
  unfold mvI
  omega

theorem raw_any (mv : Int) (w : World) : Calls Try.prog 12 #[.int .i64 mv] w fun e w' => e = .returned (.int .i64 (rawI mv)) ∧ w = w' := by
  have ⟨c1, c2⟩ := clampI_bd (lo := 0) (hi := 5000) mv (by omega)
  have H : Hid (rawI mv = if clampI mv 0 5000 * 4096 / 5000 < 4095 then clampI mv 0 5000 * 4096 / 5000 else 4095) := Lib.hid rfl
  have HC := Lib.hid (clamp_any (lo := 0) (hi := 5000) mv (by omega) w)
  generalize clampI mv 0 5000 = c at *
  by_cases hc : c * 4096 / 5000 < 4095
  · go_enter Try.func12, Try.ntmps12
    go_wp2_with ((go_at_call 28; refine (HC.out).mono ?_; rintro e w' ⟨rfl, rfl⟩))
    all_goals go_ret
    all_goals exact ⟨by rw [H.out]; simp [hc]; try omega, rfl⟩
  · go_enter Try.func12, Try.ntmps12
    go_wp2_with ((go_at_call 28; refine (HC.out).mono ?_; rintro e w' ⟨rfl, rfl⟩))
    all_goals go_ret
    all_goals exact ⟨by rw [H.out]; simp [hc]; try omega, rfl⟩

theorem mv_any (raw : Int) (w : World) : Calls Try.prog 14 #[.int .i64 raw] w fun e w' => e = .returned (.int .i64 (mvI raw)) ∧ w = w' := by
  have ⟨c1, c2⟩ := clampI_bd (lo := 0) (hi := 4095) raw (by omega)
  have H : Hid (mvI raw = (clampI raw 0 4095 * 5000 + 4095) / 4096) := Lib.hid rfl
  have HC := Lib.hid (clamp_any (lo := 0) (hi := 4095) raw (by omega) w)
  generalize clampI raw 0 4095 = c at *
  go_enter Try.func14, Try.ntmps14
  go_wp2_with ((go_at_call 28; refine (HC.out).mono ?_; rintro e w' ⟨rfl, rfl⟩))
  all_goals go_ret
  all_goals exact ⟨by rw [H.out]; first | rfl | (simp; omega), rfl⟩

theorem rraw_any (mv : Int) (w : World) : Calls Try.prog 13 #[.int .i64 mv] w fun e w' => e = .returned (.int .i64 (rawI mv)) ∧ w = w' := by
  have H : Hid (rawI mv = if clampI mv 0 5000 * 4096 / 5000 < 4095 then clampI mv 0 5000 * 4096 / 5000 else 4095) := Lib.hid rfl
  by_cases h1 : mv < 0
  · have HC := Lib.hid (show clampI mv 0 5000 = 0 by simp [clampI, h1])
    go_enter Try.func13, Try.ntmps13
    go_wp2
    all_goals go_ret
    all_goals exact ⟨by rw [H.out, HC.out]; simp; try omega, rfl⟩
  · by_cases h2 : 5000 < mv
    · have HC := Lib.hid (show clampI mv 0 5000 = 5000 by simp [clampI, h1, h2])
      go_enter Try.func13, Try.ntmps13
      go_wp2
      all_goals go_ret
      all_goals exact ⟨by rw [H.out, HC.out]; simp; try omega, rfl⟩
    · have HC := Lib.hid (show clampI mv 0 5000 = mv by simp [clampI, h1, h2])
      by_cases hc : mv * 4096 / 5000 < 4095
      · go_enter Try.func13, Try.ntmps13
        go_wp2
        all_goals go_ret
        all_goals exact ⟨by rw [H.out, HC.out]; simp [hc]; try omega, rfl⟩
      · go_enter Try.func13, Try.ntmps13
        go_wp2
        all_goals go_ret
        all_goals exact ⟨by rw [H.out, HC.out]; simp [hc]; try omega, rfl⟩

theorem rmv_any (raw : Int) (w : World) : Calls Try.prog 15 #[.int .i64 raw] w fun e w' => e = .returned (.int .i64 (mvI raw)) ∧ w = w' := by
  have H : Hid (mvI raw = (clampI raw 0 4095 * 5000 + 4095) / 4096) := Lib.hid rfl
  by_cases h1 : raw < 0
  · have HC := Lib.hid (show clampI raw 0 4095 = 0 by simp [clampI, h1])
    go_enter Try.func15, Try.ntmps15
    go_wp2
    all_goals go_ret
    all_goals exact ⟨by rw [H.out, HC.out]; simp; try omega, rfl⟩
  · by_cases h2 : 4095 < raw
    · have HC := Lib.hid (show clampI raw 0 4095 = 4095 by simp [clampI, h1, h2])
      go_enter Try.func15, Try.ntmps15
      go_wp2
      all_goals go_ret
      all_goals exact ⟨by rw [H.out, HC.out]; simp; try omega, rfl⟩
    · have HC := Lib.hid (show clampI raw 0 4095 = raw by simp [clampI, h1, h2])
      go_enter Try.func15, Try.ntmps15
      go_wp2
      all_goals go_ret
      all_goals exact ⟨by rw [H.out, HC.out]; first | rfl | (simp; try omega), rfl⟩

theorem awake_any (w : World) : Calls Try.prog 11 #[] w fun e w' => e = .returned (.bool true) ∧ w = w' := by
  have e1 : rawI 2500 = 2048 := by decide
  have e2 : mvI 2048 = 2500 := by decide
  have e3 : rawI 1 = 0 := by decide
  have e4 : mvI 1 = 2 := by decide
  go_enter Try.func11, Try.ntmps11
  go_wp2_with (first | (go_at_call 12; refine (raw_any _ _).mono ?_; rintro e w' ⟨rfl, rfl⟩) | (go_at_call 14; refine (mv_any _ _).mono ?_; rintro e w' ⟨rfl, rfl⟩))
  go_ret
  exact ⟨rfl, rfl⟩

theorem converts_walk (mv raw : Int) (w : World) : Calls Try.prog 3 #[.int .i64 mv, .int .i64 raw] w fun e w' => e = .returned (.bool true) ∧ Below w.heap.size w w' := by
  go_enter Try.func3, Try.ntmps3
  go_wp2_with (first | (go_at_call 11; refine (awake_any _).mono ?_; rintro e w' ⟨rfl, rfl⟩) | (go_at_call 12; refine (raw_any _ _).mono ?_; rintro e w' ⟨rfl, rfl⟩) | (go_at_call 14; refine (mv_any _ _).mono ?_; rintro e w' ⟨rfl, rfl⟩) | (go_at_call 13; refine (rraw_any _ _).mono ?_; rintro e w' ⟨rfl, rfl⟩) | (go_at_call 15; refine (rmv_any _ _).mono ?_; rintro e w' ⟨rfl, rfl⟩))
  go_ret
  exact ⟨by simp, by (repeat' (first | (with_reducible exact Below.refl _ _) | (with_reducible assumption) | (with_reducible refine below_alloc ?_ _) | (with_reducible refine Below.drew ?_) | (with_reducible refine below_drewN ?_ _) | (with_reducible refine below_step (by assumption) ?_) | (with_reducible refine below_later ?_ _) | (with_reducible refine Below.setCell ?_ ?_ _) | go_size))⟩

theorem u16_bd {a : Int} (h : (Lit.int .u16 a).wf = true) : 0 ≤ a ∧ a ≤ 65535 := by
  simpa [Lit.wf, IntKind.min, IntKind.max, IntKind.bits, IntKind.signed] using h
theorem u8_bd {a : Int} (h : (Lit.int .u8 a).wf = true) : 0 ≤ a ∧ a ≤ 255 := by
  simpa [Lit.wf, IntKind.min, IntKind.max, IntKind.bits, IntKind.signed] using h

theorem conv_plain {n v k : Int} (n1 : 0 ≤ n) (n2 : n ≤ 4095) (v1 : 0 ≤ v) (v2 : v ≤ 5000) (k1 : 0 ≤ k) :
    rawI (mvI n) = n ∧ (0 < n → rawI (mvI n - 1) < n) ∧ rawI v ≤ rawI (v + k) ∧ mvI (rawI v) ≤ v := by
  have em : ∀ r, 0 ≤ r → r ≤ 4095 → mvI r = (r * 5000 + 4095) / 4096 := fun r h1 h2 => by
    unfold mvI clampI
    rw [if_neg (by omega), if_neg (by omega)]
  have er : ∀ m, 0 ≤ m → m ≤ 5000 → rawI m = if m * 4096 / 5000 < 4095 then m * 4096 / 5000 else 4095 := fun m h1 h2 => by
    have hc : clampI m 0 5000 = m := by
      unfold clampI
      rw [if_neg (by omega), if_neg (by omega)]
    unfold rawI
    rw [hc]
  refine ⟨?_, fun h => ?_, ?_, ?_⟩
  · rw [em n n1 n2, er _ (by omega) (by omega)]
    split <;> omega
  · rw [em n n1 n2, er _ (by omega) (by omega)]
    split <;> omega
  · by_cases hk : v + k ≤ 5000
    · rw [er v v1 v2, er (v + k) (by omega) hk]
      split <;> split <;> omega
    · rw [er v v1 v2]
      have : rawI (v + k) = 4095 := by
        have hc : clampI (v + k) 0 5000 = 5000 := by
          unfold clampI
          rw [if_neg (by omega), if_pos (by omega)]
        unfold rawI
        rw [hc]
        decide
      rw [this]
      split <;> omega
  · rw [er v v1 v2]
    split
    · rw [em _ (by omega) (by omega)]; omega
    · rw [em _ (by omega) (by omega)]; omega

theorem back_walk (r m k : Int) (w : World) (hr : (Lit.int .u16 r).wf = true) (hm : (Lit.int .u16 m).wf = true) (hk : (Lit.int .u8 k).wf = true) :
    Calls Try.prog 4 #[.int .u16 r, .int .u16 m, .int .u8 k] w fun e w' => e = .returned (.bool true) ∧ Below w.heap.size w w' := by
  have ⟨r1, r2⟩ := u16_bd hr
  have ⟨m1, m2⟩ := u16_bd hm
  have ⟨k1, k2⟩ := u8_bd hk
  clear hr hm hk
  obtain ⟨p1, p2, p3, p4⟩ := conv_plain (n := r % 4096) (v := m % 5001) (k := k) (by omega) (by omega) (by omega) (by omega) k1
  have ⟨b1, b2⟩ := mvI_bd (r % 4096)
  have ⟨b3, b4⟩ := rawI_bd (m % 5001)
  have ⟨b5, b6⟩ := rawI_bd (m % 5001 + k)
  by_cases h0 : 0 < r % 4096
  · have p2' := p2 h0
    clear p2
    go_enter Try.func4, Try.ntmps4
    go_wp2_with (first | (go_at_call 11; refine (awake_any _).mono ?_; rintro e w' ⟨rfl, rfl⟩) | (go_at_call 12; refine (raw_any _ _).mono ?_; rintro e w' ⟨rfl, rfl⟩) | (go_at_call 14; refine (mv_any _ _).mono ?_; rintro e w' ⟨rfl, rfl⟩))
    go_ret
    exact ⟨by simp, by (repeat' (first | (with_reducible exact Below.refl _ _) | (with_reducible assumption) | (with_reducible refine below_alloc ?_ _) | (with_reducible refine Below.drew ?_) | (with_reducible refine below_drewN ?_ _) | (with_reducible refine below_step (by assumption) ?_) | (with_reducible refine below_later ?_ _) | (with_reducible refine Below.setCell ?_ ?_ _) | go_size))⟩
  · have h00 : r % 4096 = 0 := by omega
    have hd : decide (0 < r % 4096) = false := by simpa using h0
    clear p2 h00
    go_enter Try.func4, Try.ntmps4
    go_wp2_with (first | (go_at_call 11; refine (awake_any _).mono ?_; rintro e w' ⟨rfl, rfl⟩) | (go_at_call 12; refine (raw_any _ _).mono ?_; rintro e w' ⟨rfl, rfl⟩) | (go_at_call 14; refine (mv_any _ _).mono ?_; rintro e w' ⟨rfl, rfl⟩))
    go_ret
    exact ⟨by simp, by (repeat' (first | (with_reducible exact Below.refl _ _) | (with_reducible assumption) | (with_reducible refine below_alloc ?_ _) | (with_reducible refine Below.drew ?_) | (with_reducible refine below_drewN ?_ _) | (with_reducible refine below_step (by assumption) ?_) | (with_reducible refine below_later ?_ _) | (with_reducible refine Below.setCell ?_ ?_ _) | go_size))⟩

set_option maxRecDepth 100000 in
theorem converts_holds : Rows.SensorConvertsSaid :=
  OpenClaim.holds_of_wide 3 Try.f3 rfl rfl rfl rfl rfl rfl rfl ⟨rfl, rfl, rfl, rfl, rfl⟩ rfl rfl rfl rfl rfl (by kernel_rfl) Try.func3 (by kernel_rfl)
    (of_decide_eq_true (by kernel_rfl)) (by unfold Func.isWrapper; first | (rw [if_pos (by decide +kernel)]; kernel_rfl) | (rw [if_neg (by decide +kernel)]; exact ⟨rfl, rfl⟩))
    (fun os started H enc _ => by
      refine law_frame started (s := Rows.sensorConvertsSpec) (conds := Rows.sensorConvertsRow.domain) Try.func3 (by kernel_rfl) rfl 4 rfl Try.underlying4 (by decide +kernel) (fun ds h => ?_)
        (ChangeSpec.witness6 (enc := enc) (C := Try.checked) false ⟨#[], #[.int .i64 0, .int .i64 0], []⟩ 12 (by kernel_rfl) (by kernel_rfl) (by kernel_rfl) (by kernel_rfl)) ?_
      · match ds, h with
        | [_, _], _ => rfl
      · intro W base args ds p hval hA _
        rw [Try.params3] at hA hval
        obtain ⟨v0, vs0, d0, ds0, p0, q0, hargs, rfl, rfl, h0, r0⟩ := trodAll_cons hA
        obtain ⟨v1, vs1, d1, ds1, p1, q1, rfl, rfl, rfl, h1, r1⟩ := trodAll_cons r0
        obtain ⟨rfl, rfl, rfl⟩ := trodAll_nil r1
        obtain rfl : args = #[v0, v1] := by cases args; simp_all
        obtain ⟨b0, rfl, rfl, rfl, w0⟩ := open_int Try.underlying3 (hval 0 _ v0 rfl rfl) h0
        obtain ⟨b1, rfl, rfl, rfl, w1⟩ := open_int Try.underlying3 (hval 1 _ v1 rfl rfl) h1
        apply converts_walk <;> (first | assumption | rfl))
#print axioms converts_holds

set_option maxRecDepth 100000 in
theorem back_holds : Rows.SensorBackSaid :=
  OpenClaim.holds_of_wide 4 Try.f4 rfl rfl rfl rfl rfl rfl rfl ⟨rfl, rfl, rfl, rfl, rfl⟩ rfl rfl rfl rfl rfl (by kernel_rfl) Try.func4 (by kernel_rfl)
    (of_decide_eq_true (by kernel_rfl)) (by unfold Func.isWrapper; first | (rw [if_pos (by decide +kernel)]; kernel_rfl) | (rw [if_neg (by decide +kernel)]; exact ⟨rfl, rfl⟩))
    (fun os started H enc _ => by
      refine law_frame started (s := Rows.sensorBackSpec) (conds := Rows.sensorBackRow.domain) Try.func4 (by kernel_rfl) rfl 4 rfl Try.underlying4 (by decide +kernel) (fun ds h => ?_)
        (ChangeSpec.witness6 (enc := enc) (C := Try.checked) false ⟨#[], #[.int .u16 0, .int .u16 0, .int .u8 0], []⟩ 12 (by kernel_rfl) (by kernel_rfl) (by kernel_rfl) (by kernel_rfl)) ?_
      · match ds, h with
        | [_, _, _], _ => rfl
      · intro W base args ds p hval hA _
        rw [Try.params4] at hA hval
        obtain ⟨v0, vs0, d0, ds0, p0, q0, hargs, rfl, rfl, h0, r0⟩ := trodAll_cons hA
        obtain ⟨v1, vs1, d1, ds1, p1, q1, rfl, rfl, rfl, h1, r1⟩ := trodAll_cons r0
        obtain ⟨v2, vs2, d2, ds2, p2, q2, rfl, rfl, rfl, h2, r2⟩ := trodAll_cons r1
        obtain ⟨rfl, rfl, rfl⟩ := trodAll_nil r2
        obtain rfl : args = #[v0, v1, v2] := by cases args; simp_all
        obtain ⟨b0, rfl, rfl, rfl, w0⟩ := open_int Try.underlying25 (hval 0 _ v0 rfl rfl) h0
        obtain ⟨b1, rfl, rfl, rfl, w1⟩ := open_int Try.underlying25 (hval 1 _ v1 rfl rfl) h1
        obtain ⟨b2, rfl, rfl, rfl, w2⟩ := open_int Try.underlying5 (hval 2 _ v2 rfl rfl) h2
        apply back_walk <;> (first | assumption | rfl))
#print axioms back_holds


end Go.Proofs.Ythghalhbgppdhaa
