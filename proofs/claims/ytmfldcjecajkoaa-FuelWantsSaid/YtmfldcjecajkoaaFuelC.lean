/- The contract of the reference's Film. -/
import Derived.Test.YtmfldcjecajkoaaFuelB
namespace Go.Proofs.Ytmfldcjecajkoaa
set_option linter.unusedVariables false
set_option linter.unusedSimpArgs false
open Go.RowKit Go.ChangeShapes Go.WideShapes Go.ChangeAt

theorem rfilm_any (a0 a1 a2 a3 a4 a5 a6 film i : Int) (w : World) :
    Calls Try.prog 14 #[.agg #[.int .i64 a0, .int .i64 a1, .int .i64 a2, .int .i64 a3, .int .i64 a4, .int .i64 a5, .int .i64 a6], .int .i64 film, .int .i64 i] w fun e w' => e = .returned (tup3 (film3 a4 a5 film i)) ∧ Below w.heap.size w w' := by
  by_cases hg : goodB a4 a5 = true
  · have ⟨g1, g2, g3, g4⟩ := goodB_spec hg
    by_cases h1 : inB film 0 1073741824 = true
    · have ⟨f1, f2⟩ := inB_spec h1
      by_cases h2 : inB i 0 1048576 = true
      · have ⟨i1, i2⟩ := inB_spec h2
        have ⟨_, _, b1, b2⟩ := wallI_bd g1 (by omega) i1 (by omega)
        have ⟨_, _, b3, b4⟩ := wallI_bd g3 (by omega) f1 (by omega)
        by_cases hb : film + wallI a4 i - wallI a5 film > 1073741824
        · have hfin : film3 a4 a5 film i = (0, 0, 9) := by simp [film3, hg, h1, h2, hb]
          have H := Lib.hid hfin; clear hfin
          go_enter Try.func14, Try.ntmps14
          go_wp2_with (first | (go_at_call 30; refine (body_any _ _ _ _ _ _ _ _).mono ?_; rintro e hb1w ⟨rfl, hb1⟩; obtain ⟨hb1c, hb1f⟩ := bcell hb1; have hb1s := hb1.size; (try simp only [World.size_alloc] at hb1s); (try (have : w.heap.size < hb1w.heap.size := by omega)); (try (have : w.heap.size + 1 < hb1w.heap.size := by omega)); (try (have : w.heap.size + 2 < hb1w.heap.size := by omega))) | (go_at_call 31; refine (mass_any _ _).mono ?_; rintro e w' ⟨rfl, rfl⟩))
          (refine wp_region_later (by kernel_rfl) (by kernel_rfl) ?_; (repeat (go_big_quiet_step (first | (go_at_call 32; exact later_call (wall_any _ _ _ _ _ _ _ _ _ (by omega) (by omega) (by omega) (by omega))) | (go_at_call 33; exact later_call (off_any _ _ _ _ _ _ _ _ _ (by omega) (by omega) (by omega) (by omega)))))); refine wpQuiet_nil ?_; rintro _ ⟨e1, rfl⟩; have e1s := e1.h.size; (try simp only [World.size_alloc, World.size_drewN, World.drewN_heap] at e1s); (try (have : w.heap.size < e1.w.heap.size := by omega)); (try (have : w.heap.size + 1 < e1.w.heap.size := by omega)); (try (have : w.heap.size + 2 < e1.w.heap.size := by omega)))
          go_wp2
          go_ret3
          exact ⟨by rw [H.out]; rfl, by (repeat' (first | (with_reducible exact Below.refl _ _) | (with_reducible assumption) | (with_reducible refine below_alloc ?_ _) | (with_reducible refine Below.drew ?_) | (with_reducible refine below_drewN ?_ _) | (with_reducible refine below_step (by assumption) ?_) | (with_reducible refine below_later ?_ _) | (with_reducible refine Below.setCell ?_ ?_ _) | go_size))⟩
        · have hfin : film3 a4 a5 film i = (i - wallI a4 i + wallI a5 film, film + wallI a4 i - wallI a5 film, 0) := by simp [film3, hg, h1, h2, hb]
          have H := Lib.hid hfin; clear hfin
          go_enter Try.func14, Try.ntmps14
          go_wp2_with (first | (go_at_call 30; refine (body_any _ _ _ _ _ _ _ _).mono ?_; rintro e hb1w ⟨rfl, hb1⟩; obtain ⟨hb1c, hb1f⟩ := bcell hb1; have hb1s := hb1.size; (try simp only [World.size_alloc] at hb1s); (try (have : w.heap.size < hb1w.heap.size := by omega)); (try (have : w.heap.size + 1 < hb1w.heap.size := by omega)); (try (have : w.heap.size + 2 < hb1w.heap.size := by omega))) | (go_at_call 31; refine (mass_any _ _).mono ?_; rintro e w' ⟨rfl, rfl⟩))
          (refine wp_region_later (by kernel_rfl) (by kernel_rfl) ?_; (repeat (go_big_quiet_step (first | (go_at_call 32; exact later_call (wall_any _ _ _ _ _ _ _ _ _ (by omega) (by omega) (by omega) (by omega))) | (go_at_call 33; exact later_call (off_any _ _ _ _ _ _ _ _ _ (by omega) (by omega) (by omega) (by omega)))))); refine wpQuiet_nil ?_; rintro _ ⟨e1, rfl⟩; have e1s := e1.h.size; (try simp only [World.size_alloc, World.size_drewN, World.drewN_heap] at e1s); (try (have : w.heap.size < e1.w.heap.size := by omega)); (try (have : w.heap.size + 1 < e1.w.heap.size := by omega)); (try (have : w.heap.size + 2 < e1.w.heap.size := by omega)))
          go_wp2
          (refine wp_region_later (by kernel_rfl) (by kernel_rfl) ?_; (repeat (go_big_quiet_step (first | (go_at_call 32; exact later_call (wall_any _ _ _ _ _ _ _ _ _ (by omega) (by omega) (by omega) (by omega))) | (go_at_call 33; exact later_call (off_any _ _ _ _ _ _ _ _ _ (by omega) (by omega) (by omega) (by omega)))))); refine wpQuiet_nil ?_; rintro _ ⟨e2, rfl⟩; have e2s := e2.h.size; (try simp only [World.size_alloc, World.size_drewN, World.drewN_heap] at e2s); (try (have : w.heap.size < e2.w.heap.size := by omega)); (try (have : w.heap.size + 1 < e2.w.heap.size := by omega)); (try (have : w.heap.size + 2 < e2.w.heap.size := by omega)))
          go_wp2
          go_ret3
          exact ⟨by rw [H.out]; rfl, by (repeat' (first | (with_reducible exact Below.refl _ _) | (with_reducible assumption) | (with_reducible refine below_alloc ?_ _) | (with_reducible refine Below.drew ?_) | (with_reducible refine below_drewN ?_ _) | (with_reducible refine below_step (by assumption) ?_) | (with_reducible refine below_later ?_ _) | (with_reducible refine Below.setCell ?_ ?_ _) | go_size))⟩
      · have hfin : film3 a4 a5 film i = (0, 0, 2) := by simp [film3, hg, h1, h2]
        have H := Lib.hid hfin; clear hfin
        go_enter Try.func14, Try.ntmps14
        go_wp2_with (first | (go_at_call 30; refine (body_any _ _ _ _ _ _ _ _).mono ?_; rintro e hb1w ⟨rfl, hb1⟩; obtain ⟨hb1c, hb1f⟩ := bcell hb1; have hb1s := hb1.size; (try simp only [World.size_alloc] at hb1s); (try (have : w.heap.size < hb1w.heap.size := by omega)); (try (have : w.heap.size + 1 < hb1w.heap.size := by omega)); (try (have : w.heap.size + 2 < hb1w.heap.size := by omega))) | (go_at_call 31; refine (mass_any _ _).mono ?_; rintro e w' ⟨rfl, rfl⟩))
        go_ret3
        exact ⟨by rw [H.out]; rfl, by (repeat' (first | (with_reducible exact Below.refl _ _) | (with_reducible assumption) | (with_reducible refine below_alloc ?_ _) | (with_reducible refine Below.drew ?_) | (with_reducible refine below_drewN ?_ _) | (with_reducible refine below_step (by assumption) ?_) | (with_reducible refine below_later ?_ _) | (with_reducible refine Below.setCell ?_ ?_ _) | go_size))⟩
    · have hfin : film3 a4 a5 film i = (0, 0, 2) := by simp [film3, hg, h1]
      have H := Lib.hid hfin; clear hfin
      go_enter Try.func14, Try.ntmps14
      simp only [inB, decide_eq_true_eq, not_and] at h1
      go_wp2_with (first | (go_at_call 30; refine (body_any _ _ _ _ _ _ _ _).mono ?_; rintro e hb1w ⟨rfl, hb1⟩; obtain ⟨hb1c, hb1f⟩ := bcell hb1; have hb1s := hb1.size; (try simp only [World.size_alloc] at hb1s); (try (have : w.heap.size < hb1w.heap.size := by omega)); (try (have : w.heap.size + 1 < hb1w.heap.size := by omega)); (try (have : w.heap.size + 2 < hb1w.heap.size := by omega))) | (go_at_call 31; refine (mass_any _ _).mono ?_; rintro e w' ⟨rfl, rfl⟩))
      all_goals first | (go_ret3; exact ⟨by rw [H.out]; rfl, by (repeat' (first | (with_reducible exact Below.refl _ _) | (with_reducible assumption) | (with_reducible refine below_alloc ?_ _) | (with_reducible refine Below.drew ?_) | (with_reducible refine below_drewN ?_ _) | (with_reducible refine below_step (by assumption) ?_) | (with_reducible refine below_later ?_ _) | (with_reducible refine Below.setCell ?_ ?_ _) | go_size))⟩) | (exfalso; omega)
  · have hfin : film3 a4 a5 film i = (0, 0, 1) := by simp [film3, hg]
    have H := Lib.hid hfin; clear hfin
    go_enter Try.func14, Try.ntmps14
    go_wp2_with (first | (go_at_call 30; refine (body_any _ _ _ _ _ _ _ _).mono ?_; rintro e hb1w ⟨rfl, hb1⟩; obtain ⟨hb1c, hb1f⟩ := bcell hb1; have hb1s := hb1.size; (try simp only [World.size_alloc] at hb1s); (try (have : w.heap.size < hb1w.heap.size := by omega)); (try (have : w.heap.size + 1 < hb1w.heap.size := by omega)); (try (have : w.heap.size + 2 < hb1w.heap.size := by omega))) | (go_at_call 31; refine (mass_any _ _).mono ?_; rintro e w' ⟨rfl, rfl⟩))
    go_ret3
    exact ⟨by rw [H.out]; rfl, by (repeat' (first | (with_reducible exact Below.refl _ _) | (with_reducible assumption) | (with_reducible refine below_alloc ?_ _) | (with_reducible refine Below.drew ?_) | (with_reducible refine below_drewN ?_ _) | (with_reducible refine below_step (by assumption) ?_) | (with_reducible refine below_later ?_ _) | (with_reducible refine Below.setCell ?_ ?_ _) | go_size))⟩

end Go.Proofs.Ytmfldcjecajkoaa
