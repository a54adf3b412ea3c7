/- The examples of the chapter hold: awake returns true. -/
import Derived.Test.YtmfldcjecajkoaaFuelD
import Derived.Test.YtmfldcjecajkoaaFrame
namespace Go.Proofs.Ytmfldcjecajkoaa
set_option linter.unusedVariables false
set_option linter.unusedSimpArgs false
open Go.RowKit Go.ChangeShapes Go.WideShapes Go.ChangeAt

theorem film_ex : film3 300 512 1000 2000 = (1915, 1085, 0) := by decide
theorem wantR_ex : wantR 300 512 1000 1915 = 2000 := by
  refine wantR_eq (by omega) (by omega) (by omega) (fun t ht => ?_) (fun _ => by decide)
  have h : lackI 300 512 1000 1915 1999 = 1 := by decide
  have := lackI_mono (f := 300) (e := 512) (film := 1000) (mass := 1915) (by omega) (by omega) (show t ≤ 1999 by omega)
  omega
theorem want_ex : want3 300 512 1000 1915 = (2000, 1085, 0) := by
  unfold want3
  rw [wantR_ex]
  decide

theorem awake_any (w : World) : Calls Try.prog 12 #[] w fun e w' => e = .returned (.bool true) ∧ Below w.heap.size w w' := by
  have h1 := film_ex
  have h2 := want_ex
  go_enter Try.func12, Try.ntmps12
  go_wp2_with (first | (go_at_call 13; refine (film_any _ _ _ _ _ _ _ _ _ _).mono ?_; rintro e hb1w ⟨rfl, hb1⟩; obtain ⟨hb1c, hb1f⟩ := bcell hb1; have hb1s := hb1.size; (try simp only [World.size_alloc] at hb1s); (try (have : w.heap.size < hb1w.heap.size := by omega)); (try (have : w.heap.size + 1 < hb1w.heap.size := by omega)); (try (have : w.heap.size + 2 < hb1w.heap.size := by omega))) | (go_at_call 15; refine (want_any _ _ _ _ _ _ _ _ _ _).mono ?_; rintro e hb2w ⟨rfl, hb2⟩; obtain ⟨hb2c, hb2f⟩ := bcell hb2; have hb2s := hb2.size; (try simp only [World.size_alloc] at hb2s); (try (have : w.heap.size < hb2w.heap.size := by omega)); (try (have : w.heap.size + 1 < hb2w.heap.size := by omega)); (try (have : w.heap.size + 2 < hb2w.heap.size := by omega))))
  go_ret
  exact ⟨rfl, by (repeat' (first | (with_reducible exact Below.refl _ _) | (with_reducible assumption) | (with_reducible refine below_alloc ?_ _) | (with_reducible refine Below.drew ?_) | (with_reducible refine below_drewN ?_ _) | (with_reducible refine below_step (by assumption) ?_) | (with_reducible refine below_later ?_ _) | (with_reducible refine Below.setCell ?_ ?_ _) | go_size))⟩

theorem few_dummy : True := trivial
end Go.Proofs.Ytmfldcjecajkoaa
