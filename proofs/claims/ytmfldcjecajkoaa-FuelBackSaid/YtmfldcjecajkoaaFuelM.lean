/- Contracts of Mass and Split, in fuel and in the reference. -/
import Derived.Test.YtmfldcjecajkoaaFuelB
namespace Go.Proofs.Ytmfldcjecajkoaa
set_option linter.unusedVariables false
set_option linter.unusedSimpArgs false
open Go.RowKit Go.ChangeShapes Go.WideShapes Go.ChangeAt

def mass2 (c f : Int) : Int × Int := if inB c 0 1048576 = true ∧ inB f 500 2000 = true then (c * 10000 / (f * 147), 0) else (0, 2)
def split3 (t s l : Int) : Int × Int × Int :=
  if inB t 0 1048576 = true ∧ inB s 0 1000 = true ∧ inB l 0 1048576 = true then
    if t * s / 1000 < l ∨ t - t * s / 1000 < l then (t, 0, 0) else (t * s / 1000, t - t * s / 1000, 0)
  else (0, 0, 2)
@[go_sem] def tup2 (p : Int × Int) : Value := .tuple #[.int .i64 p.1, .int .i64 p.2]

theorem mass2_any (c f : Int) (w : World) : Calls Try.prog 17 #[.int .i64 c, .int .i64 f] w fun e w' => e = .returned (tup2 (mass2 c f)) ∧ Below w.heap.size w w' := by
  by_cases h1 : inB c 0 1048576 = true
  · have ⟨c1, c2⟩ := inB_spec h1
    by_cases h2 : inB f 500 2000 = true
    · have ⟨f1, f2⟩ := inB_spec h2
      have H := Lib.hid (show mass2 c f = (c * 10000 / (f * 147), 0) by simp [mass2, h1, h2])
      go_enter Try.func17, Try.ntmps17
      go_wp2_with ((go_at_call 28; refine (in_any _ _ _ _).mono ?_; rintro e w' ⟨rfl, rfl⟩))
      go_ret2
      exact ⟨by rw [H.out]; rfl, by (repeat' (first | (with_reducible exact Below.refl _ _) | (with_reducible assumption) | (with_reducible refine below_alloc ?_ _) | (with_reducible refine Below.drew ?_) | (with_reducible refine below_drewN ?_ _) | (with_reducible refine below_step (by assumption) ?_) | (with_reducible refine below_later ?_ _) | (with_reducible refine Below.setCell ?_ ?_ _) | go_size))⟩
    · have H := Lib.hid (show mass2 c f = (0, 2) by simp [mass2, h2])
      go_enter Try.func17, Try.ntmps17
      go_wp2_with ((go_at_call 28; refine (in_any _ _ _ _).mono ?_; rintro e w' ⟨rfl, rfl⟩))
      go_ret2
      exact ⟨by rw [H.out]; rfl, by (repeat' (first | (with_reducible exact Below.refl _ _) | (with_reducible assumption) | (with_reducible refine below_alloc ?_ _) | (with_reducible refine Below.drew ?_) | (with_reducible refine below_drewN ?_ _) | (with_reducible refine below_step (by assumption) ?_) | (with_reducible refine below_later ?_ _) | (with_reducible refine Below.setCell ?_ ?_ _) | go_size))⟩
  · have H := Lib.hid (show mass2 c f = (0, 2) by simp [mass2, h1])
    go_enter Try.func17, Try.ntmps17
    go_wp2_with ((go_at_call 28; refine (in_any _ _ _ _).mono ?_; rintro e w' ⟨rfl, rfl⟩))
    go_ret2
    exact ⟨by rw [H.out]; rfl, by (repeat' (first | (with_reducible exact Below.refl _ _) | (with_reducible assumption) | (with_reducible refine below_alloc ?_ _) | (with_reducible refine Below.drew ?_) | (with_reducible refine below_drewN ?_ _) | (with_reducible refine below_step (by assumption) ?_) | (with_reducible refine below_later ?_ _) | (with_reducible refine Below.setCell ?_ ?_ _) | go_size))⟩

theorem rmass2_any (c f : Int) (w : World) : Calls Try.prog 18 #[.int .i64 c, .int .i64 f] w fun e w' => e = .returned (tup2 (mass2 c f)) ∧ Below w.heap.size w w' := by
  by_cases h1 : inB c 0 1048576 = true
  · have ⟨c1, c2⟩ := inB_spec h1
    by_cases h2 : inB f 500 2000 = true
    · have ⟨f1, f2⟩ := inB_spec h2
      have H := Lib.hid (show mass2 c f = (c * 10000 / (f * 147), 0) by simp [mass2, h1, h2])
      go_enter Try.func18, Try.ntmps18
      go_wp2_with ((go_at_call 31; refine (mass_any _ _).mono ?_; rintro e w' ⟨rfl, rfl⟩))
      go_ret2
      exact ⟨by rw [H.out]; rfl, by (repeat' (first | (with_reducible exact Below.refl _ _) | (with_reducible assumption) | (with_reducible refine below_alloc ?_ _) | (with_reducible refine Below.drew ?_) | (with_reducible refine below_drewN ?_ _) | (with_reducible refine below_step (by assumption) ?_) | (with_reducible refine below_later ?_ _) | (with_reducible refine Below.setCell ?_ ?_ _) | go_size))⟩
    · have H := Lib.hid (show mass2 c f = (0, 2) by simp [mass2, h2])
      simp only [inB, decide_eq_true_eq, not_and] at h2
      go_enter Try.func18, Try.ntmps18
      go_wp2_with ((go_at_call 31; refine (mass_any _ _).mono ?_; rintro e w' ⟨rfl, rfl⟩))
      all_goals first | (go_ret2; exact ⟨by rw [H.out]; rfl, by (repeat' (first | (with_reducible exact Below.refl _ _) | (with_reducible assumption) | (with_reducible refine below_alloc ?_ _) | (with_reducible refine Below.drew ?_) | (with_reducible refine below_drewN ?_ _) | (with_reducible refine below_step (by assumption) ?_) | (with_reducible refine below_later ?_ _) | (with_reducible refine Below.setCell ?_ ?_ _) | go_size))⟩) | (exfalso; omega)
  · have H := Lib.hid (show mass2 c f = (0, 2) by simp [mass2, h1])
    go_enter Try.func18, Try.ntmps18
    go_wp2_with ((go_at_call 31; refine (mass_any _ _).mono ?_; rintro e w' ⟨rfl, rfl⟩))
    all_goals first | (go_ret2; exact ⟨by rw [H.out]; rfl, by (repeat' (first | (with_reducible exact Below.refl _ _) | (with_reducible assumption) | (with_reducible refine below_alloc ?_ _) | (with_reducible refine Below.drew ?_) | (with_reducible refine below_drewN ?_ _) | (with_reducible refine below_step (by assumption) ?_) | (with_reducible refine below_later ?_ _) | (with_reducible refine Below.setCell ?_ ?_ _) | go_size))⟩) | (exfalso; omega)

theorem split_bd {t s : Int} (t1 : 0 ≤ t) (t2 : t ≤ 1048576) (s1 : 0 ≤ s) (s2 : s ≤ 1000) : 0 ≤ t * s ∧ t * s ≤ 1048576000 ∧ 0 ≤ t * s / 1000 ∧ t * s / 1000 ≤ t := by
  have h := mul_bd t1 t2 s1 s2
  have h2 : t * s ≤ t * 1000 := Int.mul_le_mul_of_nonneg_left s2 t1
  omega

theorem split_any (t s l : Int) (w : World) : Calls Try.prog 19 #[.int .i64 t, .int .i64 s, .int .i64 l] w fun e w' => e = .returned (tup3 (split3 t s l)) ∧ Below w.heap.size w w' := by
  by_cases h1 : inB t 0 1048576 = true
  · have ⟨t1, t2⟩ := inB_spec h1
    by_cases h2 : inB s 0 1000 = true
    · have ⟨s1, s2⟩ := inB_spec h2
      by_cases h3 : inB l 0 1048576 = true
      · have ⟨l1, l2⟩ := inB_spec h3
        have ⟨b1, b2, b3, b4⟩ := split_bd t1 t2 s1 s2
        by_cases hb : t * s / 1000 < l ∨ t - t * s / 1000 < l
        · have H := Lib.hid (show split3 t s l = (t, 0, 0) by simp [split3, h1, h2, h3, hb])
          go_enter Try.func19, Try.ntmps19
          go_wp2_with ((go_at_call 28; refine (in_any _ _ _ _).mono ?_; rintro e w' ⟨rfl, rfl⟩))
          all_goals first | (go_ret3; exact ⟨by rw [H.out]; rfl, by (repeat' (first | (with_reducible exact Below.refl _ _) | (with_reducible assumption) | (with_reducible refine below_alloc ?_ _) | (with_reducible refine Below.drew ?_) | (with_reducible refine below_drewN ?_ _) | (with_reducible refine below_step (by assumption) ?_) | (with_reducible refine below_later ?_ _) | (with_reducible refine Below.setCell ?_ ?_ _) | go_size))⟩) | (exfalso; omega)
        · have H := Lib.hid (show split3 t s l = (t * s / 1000, t - t * s / 1000, 0) by simp [split3, h1, h2, h3, hb])
          go_enter Try.func19, Try.ntmps19
          go_wp2_with ((go_at_call 28; refine (in_any _ _ _ _).mono ?_; rintro e w' ⟨rfl, rfl⟩))
          all_goals first | (go_ret3; exact ⟨by rw [H.out]; rfl, by (repeat' (first | (with_reducible exact Below.refl _ _) | (with_reducible assumption) | (with_reducible refine below_alloc ?_ _) | (with_reducible refine Below.drew ?_) | (with_reducible refine below_drewN ?_ _) | (with_reducible refine below_step (by assumption) ?_) | (with_reducible refine below_later ?_ _) | (with_reducible refine Below.setCell ?_ ?_ _) | go_size))⟩) | (exfalso; omega)
      · have H := Lib.hid (show split3 t s l = (0, 0, 2) by simp [split3, h3])
        go_enter Try.func19, Try.ntmps19
        go_wp2_with ((go_at_call 28; refine (in_any _ _ _ _).mono ?_; rintro e w' ⟨rfl, rfl⟩))
        go_ret3
        exact ⟨by rw [H.out]; rfl, by (repeat' (first | (with_reducible exact Below.refl _ _) | (with_reducible assumption) | (with_reducible refine below_alloc ?_ _) | (with_reducible refine Below.drew ?_) | (with_reducible refine below_drewN ?_ _) | (with_reducible refine below_step (by assumption) ?_) | (with_reducible refine below_later ?_ _) | (with_reducible refine Below.setCell ?_ ?_ _) | go_size))⟩
    · have H := Lib.hid (show split3 t s l = (0, 0, 2) by simp [split3, h2])
      go_enter Try.func19, Try.ntmps19
      go_wp2_with ((go_at_call 28; refine (in_any _ _ _ _).mono ?_; rintro e w' ⟨rfl, rfl⟩))
      go_ret3
      exact ⟨by rw [H.out]; rfl, by (repeat' (first | (with_reducible exact Below.refl _ _) | (with_reducible assumption) | (with_reducible refine below_alloc ?_ _) | (with_reducible refine Below.drew ?_) | (with_reducible refine below_drewN ?_ _) | (with_reducible refine below_step (by assumption) ?_) | (with_reducible refine below_later ?_ _) | (with_reducible refine Below.setCell ?_ ?_ _) | go_size))⟩
  · have H := Lib.hid (show split3 t s l = (0, 0, 2) by simp [split3, h1])
    go_enter Try.func19, Try.ntmps19
    go_wp2_with ((go_at_call 28; refine (in_any _ _ _ _).mono ?_; rintro e w' ⟨rfl, rfl⟩))
    go_ret3
    exact ⟨by rw [H.out]; rfl, by (repeat' (first | (with_reducible exact Below.refl _ _) | (with_reducible assumption) | (with_reducible refine below_alloc ?_ _) | (with_reducible refine Below.drew ?_) | (with_reducible refine below_drewN ?_ _) | (with_reducible refine below_step (by assumption) ?_) | (with_reducible refine below_later ?_ _) | (with_reducible refine Below.setCell ?_ ?_ _) | go_size))⟩

theorem rsplit_any (t s l : Int) (w : World) : Calls Try.prog 20 #[.int .i64 t, .int .i64 s, .int .i64 l] w fun e w' => e = .returned (tup3 (split3 t s l)) ∧ Below w.heap.size w w' := by
  by_cases h1 : inB t 0 1048576 = true
  · have ⟨t1, t2⟩ := inB_spec h1
    by_cases h2 : inB s 0 1000 = true
    · have ⟨s1, s2⟩ := inB_spec h2
      by_cases h3 : inB l 0 1048576 = true
      · have ⟨l1, l2⟩ := inB_spec h3
        have ⟨b1, b2, b3, b4⟩ := split_bd t1 t2 s1 s2
        by_cases hb : t * s / 1000 < l ∨ t - t * s / 1000 < l
        · have H := Lib.hid (show split3 t s l = (t, 0, 0) by simp [split3, h1, h2, h3, hb])
          go_enter Try.func20, Try.ntmps20
          go_wp2_with ((go_at_call 31; refine (mass_any _ _).mono ?_; rintro e w' ⟨rfl, rfl⟩))
          all_goals first | (go_ret3; exact ⟨by rw [H.out]; rfl, by (repeat' (first | (with_reducible exact Below.refl _ _) | (with_reducible assumption) | (with_reducible refine below_alloc ?_ _) | (with_reducible refine Below.drew ?_) | (with_reducible refine below_drewN ?_ _) | (with_reducible refine below_step (by assumption) ?_) | (with_reducible refine below_later ?_ _) | (with_reducible refine Below.setCell ?_ ?_ _) | go_size))⟩) | (exfalso; omega)
        · have H := Lib.hid (show split3 t s l = (t * s / 1000, t - t * s / 1000, 0) by simp [split3, h1, h2, h3, hb])
          go_enter Try.func20, Try.ntmps20
          go_wp2_with ((go_at_call 31; refine (mass_any _ _).mono ?_; rintro e w' ⟨rfl, rfl⟩))
          all_goals first | (go_ret3; exact ⟨by rw [H.out]; rfl, by (repeat' (first | (with_reducible exact Below.refl _ _) | (with_reducible assumption) | (with_reducible refine below_alloc ?_ _) | (with_reducible refine Below.drew ?_) | (with_reducible refine below_drewN ?_ _) | (with_reducible refine below_step (by assumption) ?_) | (with_reducible refine below_later ?_ _) | (with_reducible refine Below.setCell ?_ ?_ _) | go_size))⟩) | (exfalso; omega)
      · have H := Lib.hid (show split3 t s l = (0, 0, 2) by simp [split3, h3])
        go_enter Try.func20, Try.ntmps20
        go_wp2_with ((go_at_call 31; refine (mass_any _ _).mono ?_; rintro e w' ⟨rfl, rfl⟩))
        all_goals first | (go_ret3; exact ⟨by rw [H.out]; rfl, by (repeat' (first | (with_reducible exact Below.refl _ _) | (with_reducible assumption) | (with_reducible refine below_alloc ?_ _) | (with_reducible refine Below.drew ?_) | (with_reducible refine below_drewN ?_ _) | (with_reducible refine below_step (by assumption) ?_) | (with_reducible refine below_later ?_ _) | (with_reducible refine Below.setCell ?_ ?_ _) | go_size))⟩) | (exfalso; omega)
    · have H := Lib.hid (show split3 t s l = (0, 0, 2) by simp [split3, h2])
      simp only [inB, decide_eq_true_eq, not_and] at h2
      go_enter Try.func20, Try.ntmps20
      go_wp2_with ((go_at_call 31; refine (mass_any _ _).mono ?_; rintro e w' ⟨rfl, rfl⟩))
      all_goals first | (go_ret3; exact ⟨by rw [H.out]; rfl, by (repeat' (first | (with_reducible exact Below.refl _ _) | (with_reducible assumption) | (with_reducible refine below_alloc ?_ _) | (with_reducible refine Below.drew ?_) | (with_reducible refine below_drewN ?_ _) | (with_reducible refine below_step (by assumption) ?_) | (with_reducible refine below_later ?_ _) | (with_reducible refine Below.setCell ?_ ?_ _) | go_size))⟩) | (exfalso; omega)
  · have H := Lib.hid (show split3 t s l = (0, 0, 2) by simp [split3, h1])
    go_enter Try.func20, Try.ntmps20
    go_wp2_with ((go_at_call 31; refine (mass_any _ _).mono ?_; rintro e w' ⟨rfl, rfl⟩))
    all_goals first | (go_ret3; exact ⟨by rw [H.out]; rfl, by (repeat' (first | (with_reducible exact Below.refl _ _) | (with_reducible assumption) | (with_reducible refine below_alloc ?_ _) | (with_reducible refine Below.drew ?_) | (with_reducible refine below_drewN ?_ _) | (with_reducible refine below_step (by assumption) ?_) | (with_reducible refine below_later ?_ _) | (with_reducible refine Below.setCell ?_ ?_ _) | go_size))⟩) | (exfalso; omega)

end Go.Proofs.Ytmfldcjecajkoaa
