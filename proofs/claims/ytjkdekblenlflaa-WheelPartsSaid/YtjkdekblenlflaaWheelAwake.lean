/- awake of the laws of wheels returns true. -/
import Derived.Test.YtjkdekblenlflaaWheelC
import Derived.Test.YtjkdekblenlflaaCamB
import Derived.Test.YtjkdekblenlflaaOpenWheel
namespace Go.Proofs.Ytjkdekblenlflaa
set_option linter.unusedVariables false
set_option linter.unusedSimpArgs false
open Go.RowKit Go.ChangeShapes Go.WideShapes Go.ChangeAt

theorem ints3 {W : World} {b : Nat} {x y z : Int} (hb : b < W.heap.size) (c0 : W.cell? ⟨b, 0, none⟩ = some (.int .i64 x)) (c1 : W.cell? ⟨b, 1, none⟩ = some (.int .i64 y)) (c2 : W.cell? ⟨b, 2, none⟩ = some (.int .i64 z))
    (hx : (Lit.int .i64 x).wf = true) (hy : (Lit.int .i64 y).wf = true) (hz : (Lit.int .i64 z).wf = true) : IsInts W (some ⟨b, 0, none⟩) 3 .i64 [x, y, z] :=
  ⟨by simp, by simp [maxLen], by simp [hx, hy, hz], fun _ => ⟨b, 0, rfl, hb, fun i hi => by
    match i, hi with
    | 0, _ => simpa using c0
    | 1, _ => simpa using c1
    | 2, _ => simpa using c2⟩⟩
theorem ok_three {x y z : Int} (hx : EdgeOk x) (hy : EdgeOk y) (hz : EdgeOk z) (h1 : x + 1920 ≤ y) (h2 : y + 1920 ≤ z) (hh : (halfI [x, y, z]).1 ≠ (halfI [x, y, z]).2) : CamOk [x, y, z] :=
  ⟨by simp, by simp, fun t ht => by
    match t, ht with
    | 0, _ => simpa using hx
    | 1, _ => simpa using hy
    | 2, _ => simpa using hz, fun t ht => by
    match t, ht with
    | 0, _ => simpa using h1
    | 1, _ => simpa using h2
    | t + 2, h => simp at h; omega, hh⟩
theorem halves_ex : halfB [5000, 12000, 30000] = (2, 1) := by
  have h : halfI [5000, 12000, 30000] = (2, 1) := by decide
  unfold halfB
  rw [if_pos (ok_three (by unfold EdgeOk; decide) (by unfold EdgeOk; decide) (by unfold EdgeOk; decide) (by decide) (by decide) (by rw [h]; decide)), h]
theorem sp_ex : spI 60 = 384 := by unfold spI; decide
theorem wheel_ex : wheelB 60 2 = true := by decide
theorem ang_ex : angV 60 2 57 = (21888, 0) := by simp [angV, wheel_ex, sp_ex]
theorem next_ex : next3 60 2 21888 = (23040, 0, 0) := by
  have : wnext 60 2 21888 = (23040, 0) := by simp [wnext, sp_ex]
  simp [next3, wheel_ex, posB, this]
theorem awake_any (w : World) : Calls Try.prog 10 #[] w fun e w' => e = .returned (.bool true) ∧ Below w.heap.size w w' := by
  have h1 := halves_ex
  have h2 := ang_ex
  have h3 := next_ex
  have h4 : spB 60 2 = 384 := by simp [spB, wheel_ex, sp_ex]
  have h5 : teB 60 2 = 58 := by simp [teB, wheel_ex]
  go_enter Try.func10, Try.ntmps10
  go_wp2_with (first | (go_at_call 11; refine (angle_any _ _ _ _).mono ?_; rintro e hb1w ⟨rfl, hb1⟩; obtain ⟨hb1c, hb1f⟩ := bcell hb1; have hb1s := hb1.size; (try simp only [World.size_alloc] at hb1s); (try (have : w.heap.size < hb1w.heap.size := by omega)); (try (have : w.heap.size + 1 < hb1w.heap.size := by omega)); (try (have : w.heap.size + 1 + 1 < hb1w.heap.size := by omega)); (try (have : w.heap.size + 1 + 1 + 1 < hb1w.heap.size := by omega)); (try (have : bX < hb1w.heap.size := by omega)); (try (have : bY < hb1w.heap.size := by omega)); (try (have : bZ < hb1w.heap.size := by omega))) | (go_at_call 18; refine (next_any _ _ _ _).mono ?_; rintro e hb2w ⟨rfl, hb2⟩; obtain ⟨hb2c, hb2f⟩ := bcell hb2; have hb2s := hb2.size; (try simp only [World.size_alloc] at hb2s); (try (have : w.heap.size < hb2w.heap.size := by omega)); (try (have : w.heap.size + 1 < hb2w.heap.size := by omega)); (try (have : w.heap.size + 1 + 1 < hb2w.heap.size := by omega)); (try (have : w.heap.size + 1 + 1 + 1 < hb2w.heap.size := by omega)); (try (have : bX < hb2w.heap.size := by omega)); (try (have : bY < hb2w.heap.size := by omega)); (try (have : bZ < hb2w.heap.size := by omega))) | (go_at_call 21; refine (halves2_any (some ⟨hb2w.heap.size, 0, none⟩) 3 [5000, 12000, 30000] _ (ints3 (by go_size) (by simp [go_sem]) (by simp [go_sem]) (by simp [go_sem]) (by decide) (by decide) (by decide))).mono ?_; rintro e hb3w ⟨rfl, hb3⟩; obtain ⟨hb3c, hb3f⟩ := bcell hb3; have hb3s := hb3.size; (try simp only [World.size_alloc] at hb3s); (try (have : w.heap.size < hb3w.heap.size := by omega)); (try (have : w.heap.size + 1 < hb3w.heap.size := by omega)); (try (have : w.heap.size + 1 + 1 < hb3w.heap.size := by omega)); (try (have : w.heap.size + 1 + 1 + 1 < hb3w.heap.size := by omega)); (try (have : bX < hb3w.heap.size := by omega)); (try (have : bY < hb3w.heap.size := by omega)); (try (have : bZ < hb3w.heap.size := by omega))) | (go_at_call 14; refine (space_any _ _ _).mono ?_; rintro e hb4w ⟨rfl, hb4⟩; obtain ⟨hb4c, hb4f⟩ := bcell hb4; have hb4s := hb4.size; (try simp only [World.size_alloc] at hb4s); (try (have : w.heap.size < hb4w.heap.size := by omega)); (try (have : w.heap.size + 1 < hb4w.heap.size := by omega)); (try (have : w.heap.size + 1 + 1 < hb4w.heap.size := by omega)); (try (have : w.heap.size + 1 + 1 + 1 < hb4w.heap.size := by omega)); (try (have : bX < hb4w.heap.size := by omega)); (try (have : bY < hb4w.heap.size := by omega)); (try (have : bZ < hb4w.heap.size := by omega))) | (go_at_call 15; refine (teeth_any _ _ _).mono ?_; rintro e hb5w ⟨rfl, hb5⟩; obtain ⟨hb5c, hb5f⟩ := bcell hb5; have hb5s := hb5.size; (try simp only [World.size_alloc] at hb5s); (try (have : w.heap.size < hb5w.heap.size := by omega)); (try (have : w.heap.size + 1 < hb5w.heap.size := by omega)); (try (have : w.heap.size + 1 + 1 < hb5w.heap.size := by omega)); (try (have : w.heap.size + 1 + 1 + 1 < hb5w.heap.size := by omega)); (try (have : bX < hb5w.heap.size := by omega)); (try (have : bY < hb5w.heap.size := by omega)); (try (have : bZ < hb5w.heap.size := by omega))))
  go_ret
  exact ⟨by simp, by (repeat' (first | (with_reducible exact Below.refl _ _) | (with_reducible assumption) | (with_reducible refine below_alloc ?_ _) | (with_reducible refine Below.drew ?_) | (with_reducible refine below_drewN ?_ _) | (with_reducible refine below_step (by assumption) ?_) | (with_reducible refine below_later ?_ _) | (with_reducible refine Below.setCell ?_ ?_ _) | go_size))⟩
end Go.Proofs.Ytjkdekblenlflaa
