/- Contracts of Film, in fuel and in its reference: both return film3. -/
import Derived.Test.YtmfldcjecajkoaaFuelA
namespace Go.Proofs.Ytmfldcjecajkoaa
set_option linter.unusedVariables false
set_option linter.unusedSimpArgs false
open Go.RowKit Go.ChangeShapes Go.WideShapes Go.ChangeAt

def film3 (f e film i : Int) : Int × Int × Int :=
  if goodB f e = true then
    if inB film 0 1073741824 = true ∧ inB i 0 1048576 = true then
      if film + wallI f i - wallI e film > 1073741824 then (0, 0, 9) else (i - wallI f i + wallI e film, film + wallI f i - wallI e film, 0)
    else (0, 0, 2)
  else (0, 0, 1)
@[go_sem] def tup3 (p : Int × Int × Int) : Value := .tuple #[.int .i64 p.1, .int .i64 p.2.1, .int .i64 p.2.2]

theorem goodB_spec {f e : Int} (h : goodB f e = true) : 0 ≤ f ∧ f ≤ 1023 ∧ 0 ≤ e ∧ e ≤ 1024 := by simpa [goodB] using h
theorem inB_spec {x l h : Int} (hh : inB x l h = true) : l ≤ x ∧ x ≤ h := by simpa [inB] using hh

theorem film_any (a0 a1 a2 a3 a4 a5 a6 film i : Int) (w : World) :
    Calls Try.prog 13 #[.agg #[.int .i64 a0, .int .i64 a1, .int .i64 a2, .int .i64 a3, .int .i64 a4, .int .i64 a5, .int .i64 a6], .int .i64 film, .int .i64 i] w fun e w' => e = .returned (tup3 (film3 a4 a5 film i)) ∧ Below w.heap.size w w' := by
  by_cases hg : goodB a4 a5 = true
  · have ⟨g1, g2, g3, g4⟩ := goodB_spec hg
    by_cases h1 : inB film 0 1073741824 = true
    · have ⟨f1, f2⟩ := inB_spec h1
      by_cases h2 : inB i 0 1048576 = true
      · have ⟨i1, i2⟩ := inB_spec h2
        have ⟨_, _, b1, b2⟩ := wallI_bd g1 (by omega) i1 (by omega)
        have ⟨_, _, b3, b4⟩ := wallI_bd g3 (by omega) f1 (by omega)
        by_cases hb : film + wallI a4 i - wallI a5 film > 1073741824
        · have hfin : film3 a4 a5 film i = (0, 0, 9) := by simp [film3, hg, h1, h2, hb]
          have H := Lib.hid hfin; clear hfin
          go_enter Try.func13, Try.ntmps13
          go_wp2_with (first | (go_at_call 27; refine (good_any _ _ _ _ _ _ _ _).mono ?_; rintro e hb1w ⟨rfl, hb1⟩; obtain ⟨hb1c, hb1f⟩ := bcell hb1; have hb1s := hb1.size; (try simp only [World.size_alloc] at hb1s); (try (have : w.heap.size < hb1w.heap.size := by omega)); (try (have : w.heap.size + 1 < hb1w.heap.size := by omega)); (try (have : w.heap.size + 2 < hb1w.heap.size := by omega))) | (go_at_call 28; refine (in_any _ _ _ _).mono ?_; rintro e w' ⟨rfl, rfl⟩) | (go_at_call 29; refine (step_any _ _ _ _ _ _ _ _ _ _ (by omega) (by omega) (by omega) (by omega) (by omega) (by omega) (by omega) (by omega)).mono ?_; rintro e hb2w ⟨rfl, hb2⟩; obtain ⟨hb2c, hb2f⟩ := bcell hb2; have hb2s := hb2.size; (try simp only [World.size_alloc] at hb2s); (try (have : w.heap.size < hb2w.heap.size := by omega)); (try (have : w.heap.size + 1 < hb2w.heap.size := by omega)); (try (have : w.heap.size + 2 < hb2w.heap.size := by omega))))
          go_ret3
          exact ⟨by rw [H.out]; rfl, by (repeat' (first | (with_reducible exact Below.refl _ _) | (with_reducible assumption) | (with_reducible refine below_alloc ?_ _) | (with_reducible refine Below.drew ?_) | (with_reducible refine below_drewN ?_ _) | (with_reducible refine below_step (by assumption) ?_) | (with_reducible refine below_later ?_ _) | (with_reducible refine Below.setCell ?_ ?_ _) | go_size))⟩
        · have hfin : film3 a4 a5 film i = (i - wallI a4 i + wallI a5 film, film + wallI a4 i - wallI a5 film, 0) := by simp [film3, hg, h1, h2, hb]
          have H := Lib.hid hfin; clear hfin
          go_enter Try.func13, Try.ntmps13
          go_wp2_with (first | (go_at_call 27; refine (good_any _ _ _ _ _ _ _ _).mono ?_; rintro e hb1w ⟨rfl, hb1⟩; obtain ⟨hb1c, hb1f⟩ := bcell hb1; have hb1s := hb1.size; (try simp only [World.size_alloc] at hb1s); (try (have : w.heap.size < hb1w.heap.size := by omega)); (try (have : w.heap.size + 1 < hb1w.heap.size := by omega)); (try (have : w.heap.size + 2 < hb1w.heap.size := by omega))) | (go_at_call 28; refine (in_any _ _ _ _).mono ?_; rintro e w' ⟨rfl, rfl⟩) | (go_at_call 29; refine (step_any _ _ _ _ _ _ _ _ _ _ (by omega) (by omega) (by omega) (by omega) (by omega) (by omega) (by omega) (by omega)).mono ?_; rintro e hb2w ⟨rfl, hb2⟩; obtain ⟨hb2c, hb2f⟩ := bcell hb2; have hb2s := hb2.size; (try simp only [World.size_alloc] at hb2s); (try (have : w.heap.size < hb2w.heap.size := by omega)); (try (have : w.heap.size + 1 < hb2w.heap.size := by omega)); (try (have : w.heap.size + 2 < hb2w.heap.size := by omega))))
          go_ret3
          exact ⟨by rw [H.out]; rfl, by (repeat' (first | (with_reducible exact Below.refl _ _) | (with_reducible assumption) | (with_reducible refine below_alloc ?_ _) | (with_reducible refine Below.drew ?_) | (with_reducible refine below_drewN ?_ _) | (with_reducible refine below_step (by assumption) ?_) | (with_reducible refine below_later ?_ _) | (with_reducible refine Below.setCell ?_ ?_ _) | go_size))⟩
      · have hfin : film3 a4 a5 film i = (0, 0, 2) := by simp [film3, hg, h1, h2]
        have H := Lib.hid hfin; clear hfin
        go_enter Try.func13, Try.ntmps13
        go_wp2_with (first | (go_at_call 27; refine (good_any _ _ _ _ _ _ _ _).mono ?_; rintro e hb1w ⟨rfl, hb1⟩; obtain ⟨hb1c, hb1f⟩ := bcell hb1; have hb1s := hb1.size; (try simp only [World.size_alloc] at hb1s); (try (have : w.heap.size < hb1w.heap.size := by omega)); (try (have : w.heap.size + 1 < hb1w.heap.size := by omega)); (try (have : w.heap.size + 2 < hb1w.heap.size := by omega))) | (go_at_call 28; refine (in_any _ _ _ _).mono ?_; rintro e w' ⟨rfl, rfl⟩))
        go_ret3
        exact ⟨by rw [H.out]; rfl, by (repeat' (first | (with_reducible exact Below.refl _ _) | (with_reducible assumption) | (with_reducible refine below_alloc ?_ _) | (with_reducible refine Below.drew ?_) | (with_reducible refine below_drewN ?_ _) | (with_reducible refine below_step (by assumption) ?_) | (with_reducible refine below_later ?_ _) | (with_reducible refine Below.setCell ?_ ?_ _) | go_size))⟩
    · have hfin : film3 a4 a5 film i = (0, 0, 2) := by simp [film3, hg, h1]
      have H := Lib.hid hfin; clear hfin
      go_enter Try.func13, Try.ntmps13
      go_wp2_with (first | (go_at_call 27; refine (good_any _ _ _ _ _ _ _ _).mono ?_; rintro e hb1w ⟨rfl, hb1⟩; obtain ⟨hb1c, hb1f⟩ := bcell hb1; have hb1s := hb1.size; (try simp only [World.size_alloc] at hb1s); (try (have : w.heap.size < hb1w.heap.size := by omega)); (try (have : w.heap.size + 1 < hb1w.heap.size := by omega)); (try (have : w.heap.size + 2 < hb1w.heap.size := by omega))) | (go_at_call 28; refine (in_any _ _ _ _).mono ?_; rintro e w' ⟨rfl, rfl⟩))
      go_ret3
      exact ⟨by rw [H.out]; rfl, by (repeat' (first | (with_reducible exact Below.refl _ _) | (with_reducible assumption) | (with_reducible refine below_alloc ?_ _) | (with_reducible refine Below.drew ?_) | (with_reducible refine below_drewN ?_ _) | (with_reducible refine below_step (by assumption) ?_) | (with_reducible refine below_later ?_ _) | (with_reducible refine Below.setCell ?_ ?_ _) | go_size))⟩
  · have hfin : film3 a4 a5 film i = (0, 0, 1) := by simp [film3, hg]
    have H := Lib.hid hfin; clear hfin
    go_enter Try.func13, Try.ntmps13
    go_wp2_with (first | (go_at_call 27; refine (good_any _ _ _ _ _ _ _ _).mono ?_; rintro e hb1w ⟨rfl, hb1⟩; obtain ⟨hb1c, hb1f⟩ := bcell hb1; have hb1s := hb1.size; (try simp only [World.size_alloc] at hb1s); (try (have : w.heap.size < hb1w.heap.size := by omega)); (try (have : w.heap.size + 1 < hb1w.heap.size := by omega)); (try (have : w.heap.size + 2 < hb1w.heap.size := by omega))) | (go_at_call 28; refine (in_any _ _ _ _).mono ?_; rintro e w' ⟨rfl, rfl⟩))
    go_ret3
    exact ⟨by rw [H.out]; rfl, by (repeat' (first | (with_reducible exact Below.refl _ _) | (with_reducible assumption) | (with_reducible refine below_alloc ?_ _) | (with_reducible refine Below.drew ?_) | (with_reducible refine below_drewN ?_ _) | (with_reducible refine below_step (by assumption) ?_) | (with_reducible refine below_later ?_ _) | (with_reducible refine Below.setCell ?_ ?_ _) | go_size))⟩

end Go.Proofs.Ytmfldcjecajkoaa
