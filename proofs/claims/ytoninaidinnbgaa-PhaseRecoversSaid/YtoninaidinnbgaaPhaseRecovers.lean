/- The law PhaseRecovers returns true for all cams, positions and numbers. No conditions. Printed by a program. -/
import Derived.Test.YtoninaidinnbgaaPhaseRight
import Derived.Test.YtoninaidinnbgaaDel
namespace Go.Proofs.Ytoninaidinnbgaa
set_option linter.unusedVariables false
set_option linter.unusedSimpArgs false
open Go.RowKit Go.ChangeShapes Go.WideShapes Go.ChangeAt

/-- slices.Clone of a list with elements: where the copy lies. -/
theorem cloneN_any (r : Option Addr) (cap : Nat) (xs : List Int) (w : World) (hx : IsInts w r cap .i64 xs) (hl : xs.length ≤ 1099511627776) (hne : xs ≠ []) : Calls Try.prog 26 #[.slice r xs.length cap] w fun e w' => ∃ g c, e = .returned (.slice (some ⟨g, 0, none⟩) xs.length c) ∧ (w.heap.size ≤ g ∧ g < w'.heap.size ∧ xs.length ≤ c ∧ c ≤ maxLen ∧ (∀ j, j < xs.length → w'.cell? ⟨g, 0 + j, none⟩ = some (.int .i64 (xs.getD j 0))) ∧ (∀ j, j < xs.length → w'.frozen? ⟨g, 0 + j, none⟩ = false)) ∧ Below w.heap.size w w' :=
  (cloneI_any r cap xs w hx hl).mono fun e w' ⟨r', c', he, ho, hi, hb⟩ => by
    obtain ⟨g, off, rfl, hg, hc⟩ := hi.cells hne
    have ho2 := ho
    rcases ho.2 with ⟨_, h3⟩ | ⟨g', c, cur, h1, h3, h4, h5, h6, h7, h8⟩
    · exact absurd (List.length_eq_zero_iff.1 h3) hne
    · simp only [Value.slice.injEq, Option.some.injEq, Addr.mk.injEq, and_true] at h1
      obtain ⟨⟨rfl, rfl⟩, _, rfl⟩ := h1
      refine ⟨g, c', he, ⟨h3, hg, h5, h6, hc, fun j _ => ?_⟩, hb⟩
      rw [Nat.zero_add]
      exact World.ownsRow.frozenAt (w := w') (base := w.heap.size) (e := 3) (size := 1) (g := g) (n := xs.length) (cap := c') (xs := xs.map (Value.int .i64)) ho2 j
theorem getD_eq {xs : List Int} {q : Nat} {x : Int} (h : xs[q]? = some x) : xs.getD q 0 = x := by simp [List.getD, h]
set_option maxRecDepth 100000 in
set_option maxHeartbeats 8000000 in
theorem prec_walk (r : Option Addr) (cap : Nat) (xs : List Int) (f wd l : Int) (w : World) (hx : IsInts w r cap .i64 xs) (hf : I64 f) (hwd : I64 wd) (hl : (Lit.int .u8 l).wf = true) : Calls Try.prog 6 #[.agg #[.slice r xs.length cap], .int .i64 f, .int .i64 wd, .int .u8 l] w fun e w' => e = .returned (.bool true) ∧ Below w.heap.size w w' := by
  have HX : Hid (∀ w', Below w.heap.size w w' → IsInts w' r cap .i64 xs) := Lib.hid (fun _ h => hx.later h)
  have ⟨l0, l1⟩ : 0 ≤ l ∧ l ≤ 255 := by simpa [Lit.wf, IntKind.min, IntKind.max, IntKind.bits, IntKind.signed] using hl
  clear hx hf hwd hl
  have HC := Lib.hid (fun w hx => r21cam_any r cap xs w hx)
  by_cases hg : (20 : Int) < xs.length
  · go_enter Try.func6, Try.ntmps6
    go_wp2_with (first | (go_at_call 8; refine (awake_any _).mono ?_; rintro e hb0w ⟨rfl, hb0⟩; obtain ⟨hb0c, hb0f⟩ := bcell hb0; have hb0s := hb0.size; (try simp only [World.size_alloc] at hb0s); (try (have : w.heap.size < hb0w.heap.size := by omega)); (try (have : w.heap.size + 1 < hb0w.heap.size := by omega)); (try (have : w.heap.size + 1 + 1 < hb0w.heap.size := by omega)); (try (have : w.heap.size + 1 + 1 + 1 < hb0w.heap.size := by omega)); (try (have : bX < hb0w.heap.size := by omega)); (try (have : bY < hb0w.heap.size := by omega)); (try (have : bZ < hb0w.heap.size := by omega))) | (go_at_call 9; refine (great_any _ _ _ _).mono ?_; rintro e hb1w ⟨rfl, hb1⟩; obtain ⟨hb1c, hb1f⟩ := bcell hb1; have hb1s := hb1.size; (try simp only [World.size_alloc] at hb1s); (try (have : w.heap.size < hb1w.heap.size := by omega)); (try (have : w.heap.size + 1 < hb1w.heap.size := by omega)); (try (have : w.heap.size + 1 + 1 < hb1w.heap.size := by omega)); (try (have : w.heap.size + 1 + 1 + 1 < hb1w.heap.size := by omega)); (try (have : bX < hb1w.heap.size := by omega)); (try (have : bY < hb1w.heap.size := by omega)); (try (have : bZ < hb1w.heap.size := by omega))) | (go_at_call 10; refine (HC.out _ (HX.out _ (by (repeat' (first | (with_reducible exact Below.refl _ _) | (with_reducible assumption) | (with_reducible refine below_alloc ?_ _) | (with_reducible refine Below.drew ?_) | (with_reducible refine below_drewN ?_ _) | (with_reducible refine below_step (by assumption) ?_) | (with_reducible refine below_later ?_ _) | (with_reducible refine Below.setCell ?_ ?_ _) | go_size))))).mono ?_; rintro e hb2w ⟨rfl, hb2⟩; obtain ⟨hb2c, hb2f⟩ := bcell hb2; have hb2s := hb2.size; (try simp only [World.size_alloc] at hb2s); (try (have : w.heap.size < hb2w.heap.size := by omega)); (try (have : w.heap.size + 1 < hb2w.heap.size := by omega)); (try (have : w.heap.size + 1 + 1 < hb2w.heap.size := by omega)); (try (have : w.heap.size + 1 + 1 + 1 < hb2w.heap.size := by omega)); (try (have : bX < hb2w.heap.size := by omega)); (try (have : bY < hb2w.heap.size := by omega)); (try (have : bZ < hb2w.heap.size := by omega))))
    go_ret
    exact ⟨by first | rfl | (simp; done), by (repeat' (first | (with_reducible exact Below.refl _ _) | (with_reducible assumption) | (with_reducible refine below_alloc ?_ _) | (with_reducible refine Below.drew ?_) | (with_reducible refine below_drewN ?_ _) | (with_reducible refine below_step (by assumption) ?_) | (with_reducible refine below_later ?_ _) | (with_reducible refine Below.setCell ?_ ?_ _) | go_size))⟩
  cases hc : camB xs with
  | false =>
    rw [hc] at HC
    clear hc
    go_enter Try.func6, Try.ntmps6
    go_wp2_with (first | (go_at_call 8; refine (awake_any _).mono ?_; rintro e hb0w ⟨rfl, hb0⟩; obtain ⟨hb0c, hb0f⟩ := bcell hb0; have hb0s := hb0.size; (try simp only [World.size_alloc] at hb0s); (try (have : w.heap.size < hb0w.heap.size := by omega)); (try (have : w.heap.size + 1 < hb0w.heap.size := by omega)); (try (have : w.heap.size + 1 + 1 < hb0w.heap.size := by omega)); (try (have : w.heap.size + 1 + 1 + 1 < hb0w.heap.size := by omega)); (try (have : bX < hb0w.heap.size := by omega)); (try (have : bY < hb0w.heap.size := by omega)); (try (have : bZ < hb0w.heap.size := by omega))) | (go_at_call 9; refine (great_any _ _ _ _).mono ?_; rintro e hb1w ⟨rfl, hb1⟩; obtain ⟨hb1c, hb1f⟩ := bcell hb1; have hb1s := hb1.size; (try simp only [World.size_alloc] at hb1s); (try (have : w.heap.size < hb1w.heap.size := by omega)); (try (have : w.heap.size + 1 < hb1w.heap.size := by omega)); (try (have : w.heap.size + 1 + 1 < hb1w.heap.size := by omega)); (try (have : w.heap.size + 1 + 1 + 1 < hb1w.heap.size := by omega)); (try (have : bX < hb1w.heap.size := by omega)); (try (have : bY < hb1w.heap.size := by omega)); (try (have : bZ < hb1w.heap.size := by omega))) | (go_at_call 10; refine (HC.out _ (HX.out _ (by (repeat' (first | (with_reducible exact Below.refl _ _) | (with_reducible assumption) | (with_reducible refine below_alloc ?_ _) | (with_reducible refine Below.drew ?_) | (with_reducible refine below_drewN ?_ _) | (with_reducible refine below_step (by assumption) ?_) | (with_reducible refine below_later ?_ _) | (with_reducible refine Below.setCell ?_ ?_ _) | go_size))))).mono ?_; rintro e hb2w ⟨rfl, hb2⟩; obtain ⟨hb2c, hb2f⟩ := bcell hb2; have hb2s := hb2.size; (try simp only [World.size_alloc] at hb2s); (try (have : w.heap.size < hb2w.heap.size := by omega)); (try (have : w.heap.size + 1 < hb2w.heap.size := by omega)); (try (have : w.heap.size + 1 + 1 < hb2w.heap.size := by omega)); (try (have : w.heap.size + 1 + 1 + 1 < hb2w.heap.size := by omega)); (try (have : bX < hb2w.heap.size := by omega)); (try (have : bY < hb2w.heap.size := by omega)); (try (have : bZ < hb2w.heap.size := by omega))))
    go_ret
    exact ⟨by first | rfl | (simp; done), by (repeat' (first | (with_reducible exact Below.refl _ _) | (with_reducible assumption) | (with_reducible refine below_alloc ?_ _) | (with_reducible refine Below.drew ?_) | (with_reducible refine below_drewN ?_ _) | (with_reducible refine below_step (by assumption) ?_) | (with_reducible refine below_later ?_ _) | (with_reducible refine Below.setCell ?_ ?_ _) | go_size))⟩

  | true =>
    rw [hc] at HC
    by_cases f1 : f < 0
    · go_enter Try.func6, Try.ntmps6
      go_wp2_with (first | (go_at_call 8; refine (awake_any _).mono ?_; rintro e hb0w ⟨rfl, hb0⟩; obtain ⟨hb0c, hb0f⟩ := bcell hb0; have hb0s := hb0.size; (try simp only [World.size_alloc] at hb0s); (try (have : w.heap.size < hb0w.heap.size := by omega)); (try (have : w.heap.size + 1 < hb0w.heap.size := by omega)); (try (have : w.heap.size + 1 + 1 < hb0w.heap.size := by omega)); (try (have : w.heap.size + 1 + 1 + 1 < hb0w.heap.size := by omega)); (try (have : bX < hb0w.heap.size := by omega)); (try (have : bY < hb0w.heap.size := by omega)); (try (have : bZ < hb0w.heap.size := by omega))) | (go_at_call 9; refine (great_any _ _ _ _).mono ?_; rintro e hb1w ⟨rfl, hb1⟩; obtain ⟨hb1c, hb1f⟩ := bcell hb1; have hb1s := hb1.size; (try simp only [World.size_alloc] at hb1s); (try (have : w.heap.size < hb1w.heap.size := by omega)); (try (have : w.heap.size + 1 < hb1w.heap.size := by omega)); (try (have : w.heap.size + 1 + 1 < hb1w.heap.size := by omega)); (try (have : w.heap.size + 1 + 1 + 1 < hb1w.heap.size := by omega)); (try (have : bX < hb1w.heap.size := by omega)); (try (have : bY < hb1w.heap.size := by omega)); (try (have : bZ < hb1w.heap.size := by omega))) | (go_at_call 10; refine (HC.out _ (HX.out _ (by (repeat' (first | (with_reducible exact Below.refl _ _) | (with_reducible assumption) | (with_reducible refine below_alloc ?_ _) | (with_reducible refine Below.drew ?_) | (with_reducible refine below_drewN ?_ _) | (with_reducible refine below_step (by assumption) ?_) | (with_reducible refine below_later ?_ _) | (with_reducible refine Below.setCell ?_ ?_ _) | go_size))))).mono ?_; rintro e hb2w ⟨rfl, hb2⟩; obtain ⟨hb2c, hb2f⟩ := bcell hb2; have hb2s := hb2.size; (try simp only [World.size_alloc] at hb2s); (try (have : w.heap.size < hb2w.heap.size := by omega)); (try (have : w.heap.size + 1 < hb2w.heap.size := by omega)); (try (have : w.heap.size + 1 + 1 < hb2w.heap.size := by omega)); (try (have : w.heap.size + 1 + 1 + 1 < hb2w.heap.size := by omega)); (try (have : bX < hb2w.heap.size := by omega)); (try (have : bY < hb2w.heap.size := by omega)); (try (have : bZ < hb2w.heap.size := by omega))))
      go_ret
      exact ⟨by first | rfl | (simp; done), by (repeat' (first | (with_reducible exact Below.refl _ _) | (with_reducible assumption) | (with_reducible refine below_alloc ?_ _) | (with_reducible refine Below.drew ?_) | (with_reducible refine below_drewN ?_ _) | (with_reducible refine below_step (by assumption) ?_) | (with_reducible refine below_later ?_ _) | (with_reducible refine Below.setCell ?_ ?_ _) | go_size))⟩
    by_cases f2 : (1099511627776 : Int) < f
    · go_enter Try.func6, Try.ntmps6
      go_wp2_with (first | (go_at_call 8; refine (awake_any _).mono ?_; rintro e hb0w ⟨rfl, hb0⟩; obtain ⟨hb0c, hb0f⟩ := bcell hb0; have hb0s := hb0.size; (try simp only [World.size_alloc] at hb0s); (try (have : w.heap.size < hb0w.heap.size := by omega)); (try (have : w.heap.size + 1 < hb0w.heap.size := by omega)); (try (have : w.heap.size + 1 + 1 < hb0w.heap.size := by omega)); (try (have : w.heap.size + 1 + 1 + 1 < hb0w.heap.size := by omega)); (try (have : bX < hb0w.heap.size := by omega)); (try (have : bY < hb0w.heap.size := by omega)); (try (have : bZ < hb0w.heap.size := by omega))) | (go_at_call 9; refine (great_any _ _ _ _).mono ?_; rintro e hb1w ⟨rfl, hb1⟩; obtain ⟨hb1c, hb1f⟩ := bcell hb1; have hb1s := hb1.size; (try simp only [World.size_alloc] at hb1s); (try (have : w.heap.size < hb1w.heap.size := by omega)); (try (have : w.heap.size + 1 < hb1w.heap.size := by omega)); (try (have : w.heap.size + 1 + 1 < hb1w.heap.size := by omega)); (try (have : w.heap.size + 1 + 1 + 1 < hb1w.heap.size := by omega)); (try (have : bX < hb1w.heap.size := by omega)); (try (have : bY < hb1w.heap.size := by omega)); (try (have : bZ < hb1w.heap.size := by omega))) | (go_at_call 10; refine (HC.out _ (HX.out _ (by (repeat' (first | (with_reducible exact Below.refl _ _) | (with_reducible assumption) | (with_reducible refine below_alloc ?_ _) | (with_reducible refine Below.drew ?_) | (with_reducible refine below_drewN ?_ _) | (with_reducible refine below_step (by assumption) ?_) | (with_reducible refine below_later ?_ _) | (with_reducible refine Below.setCell ?_ ?_ _) | go_size))))).mono ?_; rintro e hb2w ⟨rfl, hb2⟩; obtain ⟨hb2c, hb2f⟩ := bcell hb2; have hb2s := hb2.size; (try simp only [World.size_alloc] at hb2s); (try (have : w.heap.size < hb2w.heap.size := by omega)); (try (have : w.heap.size + 1 < hb2w.heap.size := by omega)); (try (have : w.heap.size + 1 + 1 < hb2w.heap.size := by omega)); (try (have : w.heap.size + 1 + 1 + 1 < hb2w.heap.size := by omega)); (try (have : bX < hb2w.heap.size := by omega)); (try (have : bY < hb2w.heap.size := by omega)); (try (have : bZ < hb2w.heap.size := by omega))))
      go_ret
      exact ⟨by first | rfl | (simp; done), by (repeat' (first | (with_reducible exact Below.refl _ _) | (with_reducible assumption) | (with_reducible refine below_alloc ?_ _) | (with_reducible refine Below.drew ?_) | (with_reducible refine below_drewN ?_ _) | (with_reducible refine below_step (by assumption) ?_) | (with_reducible refine below_later ?_ _) | (with_reducible refine Below.setCell ?_ ?_ _) | go_size))⟩
    by_cases f3 : wd < 0
    · go_enter Try.func6, Try.ntmps6
      go_wp2_with (first | (go_at_call 8; refine (awake_any _).mono ?_; rintro e hb0w ⟨rfl, hb0⟩; obtain ⟨hb0c, hb0f⟩ := bcell hb0; have hb0s := hb0.size; (try simp only [World.size_alloc] at hb0s); (try (have : w.heap.size < hb0w.heap.size := by omega)); (try (have : w.heap.size + 1 < hb0w.heap.size := by omega)); (try (have : w.heap.size + 1 + 1 < hb0w.heap.size := by omega)); (try (have : w.heap.size + 1 + 1 + 1 < hb0w.heap.size := by omega)); (try (have : bX < hb0w.heap.size := by omega)); (try (have : bY < hb0w.heap.size := by omega)); (try (have : bZ < hb0w.heap.size := by omega))) | (go_at_call 9; refine (great_any _ _ _ _).mono ?_; rintro e hb1w ⟨rfl, hb1⟩; obtain ⟨hb1c, hb1f⟩ := bcell hb1; have hb1s := hb1.size; (try simp only [World.size_alloc] at hb1s); (try (have : w.heap.size < hb1w.heap.size := by omega)); (try (have : w.heap.size + 1 < hb1w.heap.size := by omega)); (try (have : w.heap.size + 1 + 1 < hb1w.heap.size := by omega)); (try (have : w.heap.size + 1 + 1 + 1 < hb1w.heap.size := by omega)); (try (have : bX < hb1w.heap.size := by omega)); (try (have : bY < hb1w.heap.size := by omega)); (try (have : bZ < hb1w.heap.size := by omega))) | (go_at_call 10; refine (HC.out _ (HX.out _ (by (repeat' (first | (with_reducible exact Below.refl _ _) | (with_reducible assumption) | (with_reducible refine below_alloc ?_ _) | (with_reducible refine Below.drew ?_) | (with_reducible refine below_drewN ?_ _) | (with_reducible refine below_step (by assumption) ?_) | (with_reducible refine below_later ?_ _) | (with_reducible refine Below.setCell ?_ ?_ _) | go_size))))).mono ?_; rintro e hb2w ⟨rfl, hb2⟩; obtain ⟨hb2c, hb2f⟩ := bcell hb2; have hb2s := hb2.size; (try simp only [World.size_alloc] at hb2s); (try (have : w.heap.size < hb2w.heap.size := by omega)); (try (have : w.heap.size + 1 < hb2w.heap.size := by omega)); (try (have : w.heap.size + 1 + 1 < hb2w.heap.size := by omega)); (try (have : w.heap.size + 1 + 1 + 1 < hb2w.heap.size := by omega)); (try (have : bX < hb2w.heap.size := by omega)); (try (have : bY < hb2w.heap.size := by omega)); (try (have : bZ < hb2w.heap.size := by omega))))
      go_ret
      exact ⟨by first | rfl | (simp; done), by (repeat' (first | (with_reducible exact Below.refl _ _) | (with_reducible assumption) | (with_reducible refine below_alloc ?_ _) | (with_reducible refine Below.drew ?_) | (with_reducible refine below_drewN ?_ _) | (with_reducible refine below_step (by assumption) ?_) | (with_reducible refine below_later ?_ _) | (with_reducible refine Below.setCell ?_ ?_ _) | go_size))⟩
    by_cases f4 : (1382400 : Int) < wd
    · go_enter Try.func6, Try.ntmps6
      go_wp2_with (first | (go_at_call 8; refine (awake_any _).mono ?_; rintro e hb0w ⟨rfl, hb0⟩; obtain ⟨hb0c, hb0f⟩ := bcell hb0; have hb0s := hb0.size; (try simp only [World.size_alloc] at hb0s); (try (have : w.heap.size < hb0w.heap.size := by omega)); (try (have : w.heap.size + 1 < hb0w.heap.size := by omega)); (try (have : w.heap.size + 1 + 1 < hb0w.heap.size := by omega)); (try (have : w.heap.size + 1 + 1 + 1 < hb0w.heap.size := by omega)); (try (have : bX < hb0w.heap.size := by omega)); (try (have : bY < hb0w.heap.size := by omega)); (try (have : bZ < hb0w.heap.size := by omega))) | (go_at_call 9; refine (great_any _ _ _ _).mono ?_; rintro e hb1w ⟨rfl, hb1⟩; obtain ⟨hb1c, hb1f⟩ := bcell hb1; have hb1s := hb1.size; (try simp only [World.size_alloc] at hb1s); (try (have : w.heap.size < hb1w.heap.size := by omega)); (try (have : w.heap.size + 1 < hb1w.heap.size := by omega)); (try (have : w.heap.size + 1 + 1 < hb1w.heap.size := by omega)); (try (have : w.heap.size + 1 + 1 + 1 < hb1w.heap.size := by omega)); (try (have : bX < hb1w.heap.size := by omega)); (try (have : bY < hb1w.heap.size := by omega)); (try (have : bZ < hb1w.heap.size := by omega))) | (go_at_call 10; refine (HC.out _ (HX.out _ (by (repeat' (first | (with_reducible exact Below.refl _ _) | (with_reducible assumption) | (with_reducible refine below_alloc ?_ _) | (with_reducible refine Below.drew ?_) | (with_reducible refine below_drewN ?_ _) | (with_reducible refine below_step (by assumption) ?_) | (with_reducible refine below_later ?_ _) | (with_reducible refine Below.setCell ?_ ?_ _) | go_size))))).mono ?_; rintro e hb2w ⟨rfl, hb2⟩; obtain ⟨hb2c, hb2f⟩ := bcell hb2; have hb2s := hb2.size; (try simp only [World.size_alloc] at hb2s); (try (have : w.heap.size < hb2w.heap.size := by omega)); (try (have : w.heap.size + 1 < hb2w.heap.size := by omega)); (try (have : w.heap.size + 1 + 1 < hb2w.heap.size := by omega)); (try (have : w.heap.size + 1 + 1 + 1 < hb2w.heap.size := by omega)); (try (have : bX < hb2w.heap.size := by omega)); (try (have : bY < hb2w.heap.size := by omega)); (try (have : bZ < hb2w.heap.size := by omega))))
      go_ret
      exact ⟨by first | rfl | (simp; done), by (repeat' (first | (with_reducible exact Below.refl _ _) | (with_reducible assumption) | (with_reducible refine below_alloc ?_ _) | (with_reducible refine Below.drew ?_) | (with_reducible refine below_drewN ?_ _) | (with_reducible refine below_step (by assumption) ?_) | (with_reducible refine below_later ?_ _) | (with_reducible refine Below.setCell ?_ ?_ _) | go_size))⟩
    have hcam := camB_true.1 hc
    have ⟨⟨ha0, ha8⟩, ⟨hb0, hb8⟩⟩ := halfI_bd hcam
    obtain ⟨F, hF⟩ : ∃ F : Nat, f = F := ⟨f.toNat, by omega⟩
    obtain ⟨T, hT⟩ : ∃ T : Nat, f + wd = T := ⟨(f + wd).toNat, by omega⟩
    have hw1 : IntKind.i64.wrap (f + wd) = f + wd := IntWalk.i64_in _ (by omega)
    have ⟨as1, as2, ln1, ln2⟩ := ideal_asc hcam F T (by omega) (by omega)
    have HID := Lib.hid (fun w hx => ideal_any r cap xs F T w hx hcam (by omega) (by omega) (by omega))
    have HLO := Lib.hid (fun hab q hq => id_lost hcam hab F T (by omega) q hq)
    have HGT := Lib.hid (fun i hi => turnsFrom_get (F / 23040) (T / 23040 - F / 23040) i hi)
    have HTN := Lib.hid (turnsFrom_len (F / 23040) (T / 23040 - F / 23040))
    have HEP := Lib.hid (idE_pw hcam (F : Int) (T : Int) (F / 46080) (T / 46080 - F / 46080 + 1))
    have HEI : Hid (∀ x ∈ idE xs (F : Int) (T : Int) (F / 46080) (T / 46080 - F / 46080 + 1), 0 ≤ x ∧ x ≤ 2199023255552) := Lib.hid (fun x hx => by
      have := idE_in hcam F T (F / 46080) hx
      omega)
    have hRUN := fun (ts es : List Int) r1 r2 c1 c2 w hx h1 h2 as1 as2 ln1 ln2 => run_ok r r1 r2 cap c1 c2 xs ts es w hx h1 h2 hc as1 as2 ln1 ln2
    rw [← hF, ← hT] at HID HLO HEP HEI
    rw [← hF, ← hT] at as2 ln2
    have hK : F / 23040 ≤ 47721859 := by omega
    have HH0 := Lib.hid (fun w hx => r21halves_any r cap xs w hx)
    generalize idE xs f (f + wd) (F / 46080) (T / 46080 - F / 46080 + 1) = es at *
    generalize T / 23040 - F / 23040 = n at *
    generalize F / 23040 = m at *
    generalize turnsFrom m n = ts at *
    obtain ⟨a, b, hab0⟩ : ∃ a b, halfI xs = (a, b) := ⟨_, _, rfl⟩
    simp only [hab0] at HLO hRUN ha0 ha8 hb0 hb8
    rw [hab0] at HH0
    have HH : Hid (∀ w, IsInts w r cap .i64 xs → Calls Try.prog 24 #[.agg #[.slice r xs.length cap]] w fun e w' => e = .returned (.tuple #[.int .i64 a, .int .i64 b]) ∧ Below w.heap.size w w') := Lib.hid HH0.out
    clear HH0 hab0
    by_cases hab : a - b < 2 ∧ b - a < 2
    · obtain ⟨hab1, hab2⟩ := hab
      clear hRUN HLO hcam hc
      go_enter Try.func6, Try.ntmps6
      go_wp2_with (first | (go_at_call 8; refine (awake_any _).mono ?_; rintro e hb0w ⟨rfl, hb0⟩; obtain ⟨hb0c, hb0f⟩ := bcell hb0; have hb0s := hb0.size; (try simp only [World.size_alloc] at hb0s); (try (have : w.heap.size < hb0w.heap.size := by omega)); (try (have : w.heap.size + 1 < hb0w.heap.size := by omega)); (try (have : w.heap.size + 1 + 1 < hb0w.heap.size := by omega)); (try (have : w.heap.size + 1 + 1 + 1 < hb0w.heap.size := by omega)); (try (have : bX < hb0w.heap.size := by omega)); (try (have : bY < hb0w.heap.size := by omega)); (try (have : bZ < hb0w.heap.size := by omega))) | (go_at_call 9; refine (great_any _ _ _ _).mono ?_; rintro e hb1w ⟨rfl, hb1⟩; obtain ⟨hb1c, hb1f⟩ := bcell hb1; have hb1s := hb1.size; (try simp only [World.size_alloc] at hb1s); (try (have : w.heap.size < hb1w.heap.size := by omega)); (try (have : w.heap.size + 1 < hb1w.heap.size := by omega)); (try (have : w.heap.size + 1 + 1 < hb1w.heap.size := by omega)); (try (have : w.heap.size + 1 + 1 + 1 < hb1w.heap.size := by omega)); (try (have : bX < hb1w.heap.size := by omega)); (try (have : bY < hb1w.heap.size := by omega)); (try (have : bZ < hb1w.heap.size := by omega))) | (go_at_call 10; refine (HC.out _ (HX.out _ (by (repeat' (first | (with_reducible exact Below.refl _ _) | (with_reducible assumption) | (with_reducible refine below_alloc ?_ _) | (with_reducible refine Below.drew ?_) | (with_reducible refine below_drewN ?_ _) | (with_reducible refine below_step (by assumption) ?_) | (with_reducible refine below_later ?_ _) | (with_reducible refine Below.setCell ?_ ?_ _) | go_size))))).mono ?_; rintro e hb2w ⟨rfl, hb2⟩; obtain ⟨hb2c, hb2f⟩ := bcell hb2; have hb2s := hb2.size; (try simp only [World.size_alloc] at hb2s); (try (have : w.heap.size < hb2w.heap.size := by omega)); (try (have : w.heap.size + 1 < hb2w.heap.size := by omega)); (try (have : w.heap.size + 1 + 1 < hb2w.heap.size := by omega)); (try (have : w.heap.size + 1 + 1 + 1 < hb2w.heap.size := by omega)); (try (have : bX < hb2w.heap.size := by omega)); (try (have : bY < hb2w.heap.size := by omega)); (try (have : bZ < hb2w.heap.size := by omega))) | (go_at_call 24; refine (HH.out _ (HX.out _ (by (repeat' (first | (with_reducible exact Below.refl _ _) | (with_reducible assumption) | (with_reducible refine below_alloc ?_ _) | (with_reducible refine Below.drew ?_) | (with_reducible refine below_drewN ?_ _) | (with_reducible refine below_step (by assumption) ?_) | (with_reducible refine below_later ?_ _) | (with_reducible refine Below.setCell ?_ ?_ _) | go_size))))).mono ?_; rintro e hb8w ⟨rfl, hb8⟩; obtain ⟨hb8c, hb8f⟩ := bcell hb8; have hb8s := hb8.size; (try simp only [World.size_alloc] at hb8s); (try (have : w.heap.size < hb8w.heap.size := by omega)); (try (have : w.heap.size + 1 < hb8w.heap.size := by omega)); (try (have : w.heap.size + 1 + 1 < hb8w.heap.size := by omega)); (try (have : w.heap.size + 1 + 1 + 1 < hb8w.heap.size := by omega)); (try (have : bX < hb8w.heap.size := by omega)); (try (have : bY < hb8w.heap.size := by omega)); (try (have : bZ < hb8w.heap.size := by omega))))
      go_ret
      exact ⟨by first | rfl | (simp; done), by (repeat' (first | (with_reducible exact Below.refl _ _) | (with_reducible assumption) | (with_reducible refine below_alloc ?_ _) | (with_reducible refine Below.drew ?_) | (with_reducible refine below_drewN ?_ _) | (with_reducible refine below_step (by assumption) ?_) | (with_reducible refine below_later ?_ _) | (with_reducible refine Below.setCell ?_ ?_ _) | go_size))⟩

    have hab3 : ¬ (a - b < 2) ∨ (a - b < 2 ∧ ¬ b - a < 2) := by omega
    by_cases hes : es = []
    · subst hes
      rw [HTN.out] at HID
      have HN := Lib.hid HTN.out
      clear hRUN HLO hcam hc hF hT as1 as2 ln1 ln2 HTN HEP HEI hab
      clear F T
      rcases hab3 with hab4 | ⟨hab4, hab5⟩
      all_goals go_enter Try.func6, Try.ntmps6
      all_goals go_wp2_with (first | (go_at_call 8; refine (awake_any _).mono ?_; rintro e hb0w ⟨rfl, hb0⟩; obtain ⟨hb0c, hb0f⟩ := bcell hb0; have hb0s := hb0.size; (try simp only [World.size_alloc] at hb0s); (try (have : w.heap.size < hb0w.heap.size := by omega)); (try (have : w.heap.size + 1 < hb0w.heap.size := by omega)); (try (have : w.heap.size + 1 + 1 < hb0w.heap.size := by omega)); (try (have : w.heap.size + 1 + 1 + 1 < hb0w.heap.size := by omega)); (try (have : bX < hb0w.heap.size := by omega)); (try (have : bY < hb0w.heap.size := by omega)); (try (have : bZ < hb0w.heap.size := by omega))) | (go_at_call 9; refine (great_any _ _ _ _).mono ?_; rintro e hb1w ⟨rfl, hb1⟩; obtain ⟨hb1c, hb1f⟩ := bcell hb1; have hb1s := hb1.size; (try simp only [World.size_alloc] at hb1s); (try (have : w.heap.size < hb1w.heap.size := by omega)); (try (have : w.heap.size + 1 < hb1w.heap.size := by omega)); (try (have : w.heap.size + 1 + 1 < hb1w.heap.size := by omega)); (try (have : w.heap.size + 1 + 1 + 1 < hb1w.heap.size := by omega)); (try (have : bX < hb1w.heap.size := by omega)); (try (have : bY < hb1w.heap.size := by omega)); (try (have : bZ < hb1w.heap.size := by omega))) | (go_at_call 10; refine (HC.out _ (HX.out _ (by (repeat' (first | (with_reducible exact Below.refl _ _) | (with_reducible assumption) | (with_reducible refine below_alloc ?_ _) | (with_reducible refine Below.drew ?_) | (with_reducible refine below_drewN ?_ _) | (with_reducible refine below_step (by assumption) ?_) | (with_reducible refine below_later ?_ _) | (with_reducible refine Below.setCell ?_ ?_ _) | go_size))))).mono ?_; rintro e hb2w ⟨rfl, hb2⟩; obtain ⟨hb2c, hb2f⟩ := bcell hb2; have hb2s := hb2.size; (try simp only [World.size_alloc] at hb2s); (try (have : w.heap.size < hb2w.heap.size := by omega)); (try (have : w.heap.size + 1 < hb2w.heap.size := by omega)); (try (have : w.heap.size + 1 + 1 < hb2w.heap.size := by omega)); (try (have : w.heap.size + 1 + 1 + 1 < hb2w.heap.size := by omega)); (try (have : bX < hb2w.heap.size := by omega)); (try (have : bY < hb2w.heap.size := by omega)); (try (have : bZ < hb2w.heap.size := by omega))) | (go_at_call 24; refine (HH.out _ (HX.out _ (by (repeat' (first | (with_reducible exact Below.refl _ _) | (with_reducible assumption) | (with_reducible refine below_alloc ?_ _) | (with_reducible refine Below.drew ?_) | (with_reducible refine below_drewN ?_ _) | (with_reducible refine below_step (by assumption) ?_) | (with_reducible refine below_later ?_ _) | (with_reducible refine Below.setCell ?_ ?_ _) | go_size))))).mono ?_; rintro e hb8w ⟨rfl, hb8⟩; obtain ⟨hb8c, hb8f⟩ := bcell hb8; have hb8s := hb8.size; (try simp only [World.size_alloc] at hb8s); (try (have : w.heap.size < hb8w.heap.size := by omega)); (try (have : w.heap.size + 1 < hb8w.heap.size := by omega)); (try (have : w.heap.size + 1 + 1 < hb8w.heap.size := by omega)); (try (have : w.heap.size + 1 + 1 + 1 < hb8w.heap.size := by omega)); (try (have : bX < hb8w.heap.size := by omega)); (try (have : bY < hb8w.heap.size := by omega)); (try (have : bZ < hb8w.heap.size := by omega))) | (go_at_call 11; refine (HID.out _ (HX.out _ (by (repeat' (first | (with_reducible exact Below.refl _ _) | (with_reducible assumption) | (with_reducible refine below_alloc ?_ _) | (with_reducible refine Below.drew ?_) | (with_reducible refine below_drewN ?_ _) | (with_reducible refine below_step (by assumption) ?_) | (with_reducible refine below_later ?_ _) | (with_reducible refine Below.setCell ?_ ?_ _) | go_size))))).mono ?_; rintro e hb3w ⟨r1, c1, r2, c2, rfl, hi1, hi2, hb3⟩; have HI1 : Hid (∀ w', Below hb3w.heap.size hb3w w' → IsInts w' r1 c1 .i64 ts) := Lib.hid (fun _ h => hi1.later h); have HI2 : Hid (∀ w', Below hb3w.heap.size hb3w w' → IsInts w' r2 c2 .i64 []) := Lib.hid (fun _ h => hi2.later h); clear hi1 hi2; obtain ⟨hb3c, hb3f⟩ := bcell hb3; have hb3s := hb3.size; (try simp only [World.size_alloc] at hb3s); (have z3 : w.heap.size < hb3w.heap.size := by omega)))
      all_goals go_ret
      all_goals exact ⟨by first | rfl | (simp; done), by (repeat' (first | (with_reducible exact Below.refl _ _) | (with_reducible assumption) | (with_reducible refine below_alloc ?_ _) | (with_reducible refine Below.drew ?_) | (with_reducible refine below_drewN ?_ _) | (with_reducible refine below_step (by assumption) ?_) | (with_reducible refine below_later ?_ _) | (with_reducible refine Below.setCell ?_ ?_ _) | go_size))⟩

    have hep : 0 < es.length := List.length_pos_iff.2 hes
    obtain ⟨q, hq⟩ : ∃ q : Nat, q = l.toNat % es.length := ⟨_, rfl⟩
    have hql : q < es.length := by rw [hq]; exact Nat.mod_lt _ hep
    obtain ⟨d, gone, hgo, hrr, hd1, hd2⟩ := HLO.out hab q hql
    have hgd := getD_eq hgo
    have hgm := HEI.out gone (List.mem_of_getElem? hgo)
    have hpe : (es.eraseIdx q).Pairwise (· < ·) := HEP.out.sublist (List.eraseIdx_sublist _ _)
    have hle : (es.eraseIdx q).length = es.length - 1 := List.length_eraseIdx_of_lt hql
    have HRUN := Lib.hid (fun r1 r2 c1 c2 w hx h1 h2 => hRUN ts (es.eraseIdx q) r1 r2 c1 c2 w hx h1 h2 as1 (ascB_true.2 (fun t ht => pw_asc hpe t ht)) ln1 (by omega))
    rw [hrr] at HRUN
    simp only [hle] at HRUN
    have hn1 : n ≤ 1000 := by rw [← HTN.out]; exact ln1
    have HXL := Lib.hid (exL_len m n d)
    have HXG : Hid (∀ i, i < n → (exL m n d)[i]? = some (exP m d i)) := Lib.hid (fun i hi => by simp [exL, hi])
    have HCL : Hid (∀ r c w, IsInts w r c .i64 es → Calls Try.prog 26 #[.slice r es.length c] w fun e w' => ∃ g c, e = .returned (.slice (some ⟨g, 0, none⟩) es.length c) ∧ (w.heap.size ≤ g ∧ g < w'.heap.size ∧ es.length ≤ c ∧ c ≤ maxLen ∧ (∀ j, j < es.length → w'.cell? ⟨g, 0 + j, none⟩ = some (.int .i64 (es.getD j 0))) ∧ (∀ j, j < es.length → w'.frozen? ⟨g, 0 + j, none⟩ = false)) ∧ Below w.heap.size w w') := Lib.hid (fun r c w hx => cloneN_any r c es w hx (by omega) hes)
    have HN := Lib.hid HTN.out
    rw [HTN.out] at HID HRUN
    have HGQ : Hid (es.getD q 0 = gone) := Lib.hid hgd
    have HLE := Lib.hid hle
    have HQL := Lib.hid hql
    have HWF : Hid (∀ x ∈ es.eraseIdx q, (Lit.int .i64 x).wf = true) := Lib.hid (fun x hx => by
      have := HEI.out x (List.mem_of_mem_eraseIdx hx)
      exact WalkArith.wf_i64 (by omega))
    have HD1 := Lib.hid hd1
    have HD2 := Lib.hid hd2
    have hdel := fun b cap w hl hm hc hf => del_any b 0 cap q es w hql hl hm hc hf
    generalize hes2 : es.eraseIdx q = es2 at *
    have hl2 : ((l.toNat % es.length : Nat) : Int) = q := by rw [hq]
    generalize hn2 : es.length = n2 at *
    have HN2 := Lib.hid hn2
    generalize exL m n d = rows at *
    have HDL : Hid (∀ g c (W0 W1 W : World), (W0.heap.size ≤ g ∧ g < W1.heap.size ∧ n2 ≤ c ∧ c ≤ maxLen ∧ (∀ j, j < n2 → W1.cell? ⟨g, 0 + j, none⟩ = some (.int .i64 (es.getD j 0))) ∧ (∀ j, j < n2 → W1.frozen? ⟨g, 0 + j, none⟩ = false)) → Below W1.heap.size W1 W → Calls Try.prog 25 #[.slice (some ⟨g, 0, none⟩) n2 c, .int .i64 q, .int .i64 ((q : Int) + 1)] W fun e w' => e = .returned (.slice (some ⟨g, 0, none⟩) (n2 - 1) c) ∧ IsInts w' (some ⟨g, 0, none⟩) c .i64 es2 ∧ Below W0.heap.size W w') := Lib.hid (fun g c W0 W1 W ⟨h1, h2, h3, h4, h5, h6⟩ hB => (hdel g c W h3 h4 (fun j hj => (hB.cell (p := ⟨g, 0 + j, none⟩) h2).trans (h5 j hj)) (fun j hj => (hB.frozen (p := ⟨g, 0 + j, none⟩) h2).trans (h6 j hj))).mono fun e w' ⟨he, hc, hb⟩ => ⟨he, ⟨by rw [HLE.out]; omega, h4, HWF.out, fun _ => ⟨g, 0, rfl, Nat.lt_of_lt_of_le (Nat.lt_of_lt_of_le h2 hB.size) hb.size, fun i hi => hc i (by rw [← HLE.out]; exact hi)⟩⟩, hb.mono h1⟩)
    have q1 : (q : Int) < n2 := by omega
    have q2 : (0 : Int) ≤ (q : Int) := by omega
    have hlt : (l.toNat : Int) = l := Int.toNat_of_nonneg l0
    have q4 : l % (n2 : Int) = q := by
      rw [← hl2, Int.natCast_emod, hlt]
    have q3 : l.tmod (n2 : Int) = q := by
      rw [Int.tmod_eq_emod_of_nonneg l0]; exact q4
    clear hlt
    have HESN := Lib.hid hes
    have q5 : ¬ (n2 : Int) = 0 := by omega
    have q6 : ((n2 : Int) == 0) = false := by simp; omega
    have q7 : IntKind.i64.wrap l = l := IntWalk.i64_in _ (by omega)
    have q8 : wrap64 l = l := by unfold wrap64; omega
    have q9 : IntKind.i64.wrap ((q : Int) + 1) = (q : Int) + 1 := IntWalk.i64_in _ (by omega)
    have hn3 : ¬ n2 = 0 := by omega
    clear hRUN HLO hcam hc hF hT as1 as2 ln1 ln2 HTN HEP HEI hab hgo hrr hd1 hd2 hgd hq hql hle hdel hpe hes hep hl2 hn2 hes2
    clear F T
    rcases hab3 with hab4 | ⟨hab4, hab5⟩
    · go_enter Try.func6, Try.ntmps6
      go_wp2_with (first | (go_at_call 8; refine (awake_any _).mono ?_; rintro e hb0w ⟨rfl, hb0⟩; obtain ⟨hb0c, hb0f⟩ := bcell hb0; have hb0s := hb0.size; (try simp only [World.size_alloc] at hb0s); (try (have : w.heap.size < hb0w.heap.size := by omega)); (try (have : w.heap.size + 1 < hb0w.heap.size := by omega)); (try (have : w.heap.size + 1 + 1 < hb0w.heap.size := by omega)); (try (have : w.heap.size + 1 + 1 + 1 < hb0w.heap.size := by omega)); (try (have : bX < hb0w.heap.size := by omega)); (try (have : bY < hb0w.heap.size := by omega)); (try (have : bZ < hb0w.heap.size := by omega))) | (go_at_call 9; refine (great_any _ _ _ _).mono ?_; rintro e hb1w ⟨rfl, hb1⟩; obtain ⟨hb1c, hb1f⟩ := bcell hb1; have hb1s := hb1.size; (try simp only [World.size_alloc] at hb1s); (try (have : w.heap.size < hb1w.heap.size := by omega)); (try (have : w.heap.size + 1 < hb1w.heap.size := by omega)); (try (have : w.heap.size + 1 + 1 < hb1w.heap.size := by omega)); (try (have : w.heap.size + 1 + 1 + 1 < hb1w.heap.size := by omega)); (try (have : bX < hb1w.heap.size := by omega)); (try (have : bY < hb1w.heap.size := by omega)); (try (have : bZ < hb1w.heap.size := by omega))) | (go_at_call 10; refine (HC.out _ (HX.out _ (by (repeat' (first | (with_reducible exact Below.refl _ _) | (with_reducible assumption) | (with_reducible refine below_alloc ?_ _) | (with_reducible refine Below.drew ?_) | (with_reducible refine below_drewN ?_ _) | (with_reducible refine below_step (by assumption) ?_) | (with_reducible refine below_later ?_ _) | (with_reducible refine Below.setCell ?_ ?_ _) | go_size))))).mono ?_; rintro e hb2w ⟨rfl, hb2⟩; obtain ⟨hb2c, hb2f⟩ := bcell hb2; have hb2s := hb2.size; (try simp only [World.size_alloc] at hb2s); (try (have : w.heap.size < hb2w.heap.size := by omega)); (try (have : w.heap.size + 1 < hb2w.heap.size := by omega)); (try (have : w.heap.size + 1 + 1 < hb2w.heap.size := by omega)); (try (have : w.heap.size + 1 + 1 + 1 < hb2w.heap.size := by omega)); (try (have : bX < hb2w.heap.size := by omega)); (try (have : bY < hb2w.heap.size := by omega)); (try (have : bZ < hb2w.heap.size := by omega))) | (go_at_call 24; refine (HH.out _ (HX.out _ (by (repeat' (first | (with_reducible exact Below.refl _ _) | (with_reducible assumption) | (with_reducible refine below_alloc ?_ _) | (with_reducible refine Below.drew ?_) | (with_reducible refine below_drewN ?_ _) | (with_reducible refine below_step (by assumption) ?_) | (with_reducible refine below_later ?_ _) | (with_reducible refine Below.setCell ?_ ?_ _) | go_size))))).mono ?_; rintro e hb8w ⟨rfl, hb8⟩; obtain ⟨hb8c, hb8f⟩ := bcell hb8; have hb8s := hb8.size; (try simp only [World.size_alloc] at hb8s); (try (have : w.heap.size < hb8w.heap.size := by omega)); (try (have : w.heap.size + 1 < hb8w.heap.size := by omega)); (try (have : w.heap.size + 1 + 1 < hb8w.heap.size := by omega)); (try (have : w.heap.size + 1 + 1 + 1 < hb8w.heap.size := by omega)); (try (have : bX < hb8w.heap.size := by omega)); (try (have : bY < hb8w.heap.size := by omega)); (try (have : bZ < hb8w.heap.size := by omega))) | (go_at_call 11; refine (HID.out _ (HX.out _ (by (repeat' (first | (with_reducible exact Below.refl _ _) | (with_reducible assumption) | (with_reducible refine below_alloc ?_ _) | (with_reducible refine Below.drew ?_) | (with_reducible refine below_drewN ?_ _) | (with_reducible refine below_step (by assumption) ?_) | (with_reducible refine below_later ?_ _) | (with_reducible refine Below.setCell ?_ ?_ _) | go_size))))).mono ?_; rintro e hb3w ⟨r1, c1, r2, c2, rfl, hi1, hi2, hb3⟩; have HI1 : Hid (∀ w', Below hb3w.heap.size hb3w w' → IsInts w' r1 c1 .i64 ts) := Lib.hid (fun _ h => hi1.later h); have HI2 : Hid (∀ w', Below hb3w.heap.size hb3w w' → IsInts w' r2 c2 .i64 es) := Lib.hid (fun _ h => hi2.later h); obtain ⟨bE, oE, rfl, hbE, hcE⟩ := hi2.cells HESN.out; have hce := hcE q (by rw [HN2.out]; exact HQL.out); rw [HGQ.out] at hce; clear hi1 hi2 hcE; obtain ⟨hb3c, hb3f⟩ := bcell hb3; have hb3s := hb3.size; (try simp only [World.size_alloc] at hb3s); (have z3 : w.heap.size < hb3w.heap.size := by omega); (have hbxc : hb3w.cell? ⟨w.heap.size, 0, none⟩ = some (.slice r xs.length cap) := by rw [hb3c _ _ (by omega)]; simp [*])))
      go_region_held3 (fun w' => w'.cell? ⟨w.heap.size, 0, none⟩ = some (.slice r xs.length cap)) (go_keep) (first | (go_at_call 26; refine (HCL.out _ _ _ (HI2.out _ (by (repeat' (first | (with_reducible exact Below.refl _ _) | (with_reducible assumption) | (with_reducible refine below_alloc ?_ _) | (with_reducible refine Below.drew ?_) | (with_reducible refine below_drewN ?_ _) | (with_reducible refine below_step (by assumption) ?_) | (with_reducible refine below_later ?_ _) | (with_reducible refine Below.setCell ?_ ?_ _) | go_size))))).mono ?_; rintro e hbCw ⟨g, kc, rfl, hgc, hbC⟩; have HGC := Lib.hid hgc; clear hgc; have hbC3 : Below hb3w.heap.size hb3w hbCw := (by (repeat' (first | (with_reducible exact Below.refl _ _) | (with_reducible assumption) | (with_reducible refine below_alloc ?_ _) | (with_reducible refine Below.drew ?_) | (with_reducible refine below_drewN ?_ _) | (with_reducible refine below_step (by assumption) ?_) | (with_reducible refine below_later ?_ _) | (with_reducible refine Below.setCell ?_ ?_ _) | go_size))); obtain ⟨hbCc, hbCf⟩ := bcell hbC3; have hbCs := hbC3.size; (have zc : w.heap.size < hbCw.heap.size := by omega)) | (go_at_call 25; refine (HDL.out g kc _ hbCw _ HGC.out (by (repeat' (first | (with_reducible exact Below.refl _ _) | (with_reducible assumption) | (with_reducible refine below_alloc ?_ _) | (with_reducible refine Below.drew ?_) | (with_reducible refine below_drewN ?_ _) | (with_reducible refine below_step (by assumption) ?_) | (with_reducible refine below_later ?_ _) | (with_reducible refine Below.setCell ?_ ?_ _) | go_size)))).mono ?_; rintro e hbDw ⟨rfl, hde, hbD⟩; have HDE := Lib.hid hde; clear hde; have hbD3 : Below hb3w.heap.size hb3w hbDw := ((show Below hb3w.heap.size hb3w _ by (repeat' (first | (with_reducible exact Below.refl _ _) | (with_reducible assumption) | (with_reducible refine below_alloc ?_ _) | (with_reducible refine Below.drew ?_) | (with_reducible refine below_drewN ?_ _) | (with_reducible refine below_step (by assumption) ?_) | (with_reducible refine below_later ?_ _) | (with_reducible refine Below.setCell ?_ ?_ _) | go_size))).trans (hbD.mono (by first | exact Nat.le_refl _ | go_size))); obtain ⟨hbDc, hbDf⟩ := bcell hbD3; have hbDs := hbD3.size; (have zd : w.heap.size < hbDw.heap.size := by omega)) | (go_at_call 12; refine (HRUN.out _ _ _ _ _ (HX.out _ (by (repeat' (first | (with_reducible exact Below.refl _ _) | (with_reducible assumption) | (with_reducible refine below_alloc ?_ _) | (with_reducible refine Below.drew ?_) | (with_reducible refine below_drewN ?_ _) | (with_reducible refine below_step (by assumption) ?_) | (with_reducible refine below_later ?_ _) | (with_reducible refine Below.setCell ?_ ?_ _) | go_size)))) (HI1.out _ (by (repeat' (first | (with_reducible exact Below.refl _ _) | (with_reducible assumption) | (with_reducible refine below_alloc ?_ _) | (with_reducible refine Below.drew ?_) | (with_reducible refine below_drewN ?_ _) | (with_reducible refine below_step (by assumption) ?_) | (with_reducible refine below_later ?_ _) | (with_reducible refine Below.setCell ?_ ?_ _) | go_size)))) (HDE.out.later (by (repeat' (first | (with_reducible exact Below.refl _ _) | (with_reducible assumption) | (with_reducible refine below_alloc ?_ _) | (with_reducible refine Below.drew ?_) | (with_reducible refine below_drewN ?_ _) | (with_reducible refine below_step (by assumption) ?_) | (with_reducible refine below_later ?_ _) | (with_reducible refine Below.setCell ?_ ?_ _) | go_size))))).mono ?_; rintro e hb4w ⟨ro, co, rfl, ho, hb4⟩; have HO := Lib.hid ho; clear ho; have hb43 : Below hb3w.heap.size hb3w hb4w := (by (repeat' (first | (with_reducible exact Below.refl _ _) | (with_reducible assumption) | (with_reducible refine below_alloc ?_ _) | (with_reducible refine Below.drew ?_) | (with_reducible refine below_drewN ?_ _) | (with_reducible refine below_step (by assumption) ?_) | (with_reducible refine below_later ?_ _) | (with_reducible refine Below.setCell ?_ ?_ _) | go_size))); obtain ⟨hb4c, hb4f⟩ := bcell hb43; have hb4s := hb43.size; (have z4 : w.heap.size < hb4w.heap.size := by omega)))
      go_wp2
      have HIT := Lib.hid (HI1.out hb4w (by (repeat' (first | (with_reducible exact Below.refl _ _) | (with_reducible assumption) | (with_reducible refine below_alloc ?_ _) | (with_reducible refine Below.drew ?_) | (with_reducible refine below_drewN ?_ _) | (with_reducible refine below_step (by assumption) ?_) | (with_reducible refine below_later ?_ _) | (with_reducible refine Below.setCell ?_ ?_ _) | go_size))))
      go_loopg [17, 105] n (fun kx s17 s105 wr => ∃ (k : Nat) (bh : Int) (q : Later hb4w), s17 = .int .i64 bh ∧ s105 = .int .i64 k ∧ k ≤ n ∧ n - k ≤ kx ∧ wr = q.w ∧ Hid (bh = ((k - d : Nat) : Int)))
      case atStart => exact ⟨0, 0, ⟨hb4w, Below.refl _ _⟩, rfl, rfl, by omega, by omega, rfl, Lib.hid (by rw [Nat.zero_sub]; rfl)⟩
      case round =>
        obtain ⟨k, bh, qw, rfl, rfl, hk, hkx, rfl, HBH⟩ := hrel
        have hqs := qw.h.size
        have hqo : w.heap.size < qw.w.heap.size := by omega
        have hqo1 : w.heap.size < qw.w.heap.size + 1 := by omega
        by_cases hlt : k < n
        · have hk1 : (0 : Int) ≤ (k : Int) := by omega
          have hk2 : (k : Int) < n := by omega
          obtain ⟨bR, rfl, _, hbR, _, _, hcR⟩ := HO.out.cells phC_len (fun e => by have := HXL.out; rw [e] at this; simp at this; omega)
          obtain ⟨bT, oT, rfl, hbT, hcT⟩ := HIT.out.cells (fun e => by have := HN.out; rw [e] at this; simp at this; omega)
          have hrow := HXG.out k hlt
          have HY := Lib.hid (fun j u h => (qw.h.cell (p := ⟨bR, k * 4 + j, none⟩) hbR).trans (hcR k j _ u hrow h))
          have hct := hcT k (by have := HN.out; omega)
          rw [HGT.out k hlt] at hct
          have hcu := (qw.h.cell (p := ⟨bT, oT + k, none⟩) hbT).trans hct
          have hbT1 : bT < qw.w.heap.size := by omega
          have hbT2 : bT < qw.w.heap.size + 1 := by omega
          have hD1 := HD1.out k hlt
          have hD2 := HD2.out k hlt
          have d0 := HY.out 0 _ rfl
          have d1 := HY.out 1 _ rfl
          have d2 := HY.out 2 _ rfl
          have d3 := HY.out 3 _ rfl
          simp only [Nat.add_zero] at d0
          have hbhv := HBH.out
          obtain ⟨t, htd⟩ : ∃ t : Int, t = ((m + 1 + k : Nat) : Int) * 23040 := ⟨_, rfl⟩
          rw [← htd] at hcu hD1 hD2
          have t0 : 0 ≤ t := by omega
          have t1 : t ≤ 2305843009213693951 := by omega
          obtain ⟨qq, hqd⟩ : ∃ qq : Int, qq = ((m + 1 + k : Nat) : Int) := ⟨_, rfl⟩
          obtain ⟨hh, hhd⟩ : ∃ hh : Int, hh = (((m + 1 + k) % 2 : Nat) : Int) := ⟨_, rfl⟩
          have q0 : 0 ≤ qq := by omega
          have q11 : qq ≤ 100000000 := by omega
          have q12 : wrap64 qq = qq := by unfold wrap64; omega
          have r11 : t / 23040 = qq := by omega
          have r12 : t.tdiv 23040 = qq := by rw [Int.tdiv_eq_ediv_of_nonneg t0]; exact r11
          have r13 : qq % 2 = hh := by omega
          have r14 : qq.tmod 2 = hh := by rw [Int.tmod_eq_emod_of_nonneg q0]; exact r13
          have hh01 : 0 ≤ hh ∧ hh ≤ 1 := by omega
          have g1 : 0 ≤ gone := hgm.1
          have g2 : gone ≤ 2199023255552 := hgm.2
          have hw9 : IntKind.i64.wrap (t - gone) = t - gone := IntWalk.i64_in _ (by omega)
          have hw10 : wrap64 (t - gone) = t - gone := by unfold wrap64; omega
          have hXR : exP m d k = if k = 0 ∨ k = d then ⟨false, 0, 0, true⟩ else ⟨true, hh, 0, true⟩ := by rw [hhd]; rfl
          clear hrow hcR hct hcT
          have hkpos : k = 0 ∨ (0 < k ∧ decide (0 < k) = true ∧ decide ((0 : Int) < (k : Int)) = true ∧ (0 : Int) < (k : Int)) := by
            by_cases h : k = 0
            · exact .inl h
            · exact .inr ⟨by omega, by simp; omega, by simp; omega, by omega⟩
          rcases hkpos with rfl | ⟨hkp, hkd, hkd2, hkp2⟩
          · obtain rfl : bh = 0 := by omega
            by_cases hd0 : d = 0
            · have hge : gone ≤ t := hD1.2 (by omega)
              rw [show exP m d 0 = ⟨false, 0, 0, true⟩ from by rw [hXR, if_pos (by omega)]] at d0 d1 d2 d3
              simp only [Nat.zero_mul, Nat.zero_add] at d0 d1 d2 d3
              simp only [Nat.add_zero] at hcu
              clear hXR hqd hhd htd hD1 hD2 hbhv
              try clear hdk2
              go_wp2
              go_quiet (fail)
              go_wp2
              go_roundg (n - (0 + 1))
              case measure => omega
              case rel => exact ⟨0 + 1, 1, ⟨_, below_drewN (below_alloc qw.h _) _⟩, by go_num, by go_num, by omega, by omega, rfl, Lib.hid (by have := HBH.out; first | omega | (have := HDK.out; omega))⟩
            · have hge : ¬ gone ≤ t := fun h => by have := hD1.1 h; omega
              rw [show exP m d 0 = ⟨false, 0, 0, true⟩ from by rw [hXR, if_pos (by omega)]] at d0 d1 d2 d3
              simp only [Nat.zero_mul, Nat.zero_add] at d0 d1 d2 d3
              simp only [Nat.add_zero] at hcu
              clear hXR hqd hhd htd hD1 hD2 hbhv
              try clear hdk2
              go_wp2
              go_quiet (fail)
              go_wp2
              go_roundg (n - (0 + 1))
              case measure => omega
              case rel => exact ⟨0 + 1, 0, ⟨_, below_drewN (below_alloc qw.h _) _⟩, by go_num, by go_num, by omega, by omega, rfl, Lib.hid (by have := HBH.out; first | omega | (have := HDK.out; omega))⟩
          · by_cases hdk : k < d
            · have hge : ¬ gone ≤ t := fun h => by have := hD1.1 h; omega
              obtain rfl : bh = 0 := by omega
              rw [show exP m d k = ⟨true, hh, 0, true⟩ from by rw [hXR, if_neg (by omega)]] at d0 d1 d2 d3
              clear hXR hqd hhd htd hD1 hD2 hbhv
              try clear hdk2
              go_wp2
              go_quiet (fail)
              go_wp2
              go_roundg (n - (k + 1))
              case measure => omega
              case rel => exact ⟨k + 1, 0, ⟨_, below_drewN (below_alloc qw.h _) _⟩, by go_num, by go_num, by omega, by omega, rfl, Lib.hid (by have := HBH.out; first | omega | (have := HDK.out; omega))⟩
            · have hge : gone ≤ t := hD1.2 (by omega)
              by_cases hdk2 : k = d
              · obtain rfl : bh = 0 := by omega
                have hlt2 := hD2 hdk2
                have hlt3 : ¬ (23040 : Int) ≤ t - gone := by omega
                have HDK := Lib.hid hdk2
                rw [show exP m d k = ⟨false, 0, 0, true⟩ from by rw [hXR, if_pos (by omega)]] at d0 d1 d2 d3
                clear hXR hqd hhd htd hD1 hD2 hbhv
                try clear hdk2
                go_wp2
                go_quiet (fail)
                go_wp2
                go_roundg (n - (k + 1))
                case measure => omega
                case rel => exact ⟨k + 1, 1, ⟨_, below_drewN (below_alloc qw.h _) _⟩, by go_num, by go_num, by omega, by omega, rfl, Lib.hid (by have := HBH.out; first | omega | (have := HDK.out; omega))⟩
              · have b1 : 1 ≤ bh := by omega
                have b2 : bh ≤ 1000 := by omega
                have b3 : ¬ bh = 0 := by omega
                have b4 : (bh == 0) = false := by simp; omega
                have b5 : ¬ bh + 1 = 1 := by omega
                have b6 : (bh + 1 == 1) = false := by simp; omega
                have b8 : (bh + 1 != 1) = true := by simp; omega
                have b7 : IntKind.i64.wrap (bh + 1) = bh + 1 := IntWalk.i64_in _ (by omega)
                rw [show exP m d k = ⟨true, hh, 0, true⟩ from by rw [hXR, if_neg (by omega)]] at d0 d1 d2 d3
                clear hXR hqd hhd htd hD1 hD2 hbhv
                try clear hdk2
                go_wp2
                go_quiet (fail)
                go_wp2
                go_roundg (n - (k + 1))
                case measure => omega
                case rel => exact ⟨k + 1, bh + 1, ⟨_, below_drewN (below_alloc qw.h _) _⟩, by go_num, by go_num, by omega, by omega, rfl, Lib.hid (by have := HBH.out; first | omega | (have := HDK.out; omega))⟩
        · obtain rfl : k = n := by omega
          go_wp2
          go_ret
          exact ⟨rfl, by (repeat' (first | (with_reducible exact Below.refl _ _) | (with_reducible assumption) | (with_reducible refine below_alloc ?_ _) | (with_reducible refine Below.drew ?_) | (with_reducible refine below_drewN ?_ _) | (with_reducible refine below_step (by assumption) ?_) | (with_reducible refine below_later ?_ _) | (with_reducible refine Below.setCell ?_ ?_ _) | go_size))⟩
    · go_enter Try.func6, Try.ntmps6
      go_wp2_with (first | (go_at_call 8; refine (awake_any _).mono ?_; rintro e hb0w ⟨rfl, hb0⟩; obtain ⟨hb0c, hb0f⟩ := bcell hb0; have hb0s := hb0.size; (try simp only [World.size_alloc] at hb0s); (try (have : w.heap.size < hb0w.heap.size := by omega)); (try (have : w.heap.size + 1 < hb0w.heap.size := by omega)); (try (have : w.heap.size + 1 + 1 < hb0w.heap.size := by omega)); (try (have : w.heap.size + 1 + 1 + 1 < hb0w.heap.size := by omega)); (try (have : bX < hb0w.heap.size := by omega)); (try (have : bY < hb0w.heap.size := by omega)); (try (have : bZ < hb0w.heap.size := by omega))) | (go_at_call 9; refine (great_any _ _ _ _).mono ?_; rintro e hb1w ⟨rfl, hb1⟩; obtain ⟨hb1c, hb1f⟩ := bcell hb1; have hb1s := hb1.size; (try simp only [World.size_alloc] at hb1s); (try (have : w.heap.size < hb1w.heap.size := by omega)); (try (have : w.heap.size + 1 < hb1w.heap.size := by omega)); (try (have : w.heap.size + 1 + 1 < hb1w.heap.size := by omega)); (try (have : w.heap.size + 1 + 1 + 1 < hb1w.heap.size := by omega)); (try (have : bX < hb1w.heap.size := by omega)); (try (have : bY < hb1w.heap.size := by omega)); (try (have : bZ < hb1w.heap.size := by omega))) | (go_at_call 10; refine (HC.out _ (HX.out _ (by (repeat' (first | (with_reducible exact Below.refl _ _) | (with_reducible assumption) | (with_reducible refine below_alloc ?_ _) | (with_reducible refine Below.drew ?_) | (with_reducible refine below_drewN ?_ _) | (with_reducible refine below_step (by assumption) ?_) | (with_reducible refine below_later ?_ _) | (with_reducible refine Below.setCell ?_ ?_ _) | go_size))))).mono ?_; rintro e hb2w ⟨rfl, hb2⟩; obtain ⟨hb2c, hb2f⟩ := bcell hb2; have hb2s := hb2.size; (try simp only [World.size_alloc] at hb2s); (try (have : w.heap.size < hb2w.heap.size := by omega)); (try (have : w.heap.size + 1 < hb2w.heap.size := by omega)); (try (have : w.heap.size + 1 + 1 < hb2w.heap.size := by omega)); (try (have : w.heap.size + 1 + 1 + 1 < hb2w.heap.size := by omega)); (try (have : bX < hb2w.heap.size := by omega)); (try (have : bY < hb2w.heap.size := by omega)); (try (have : bZ < hb2w.heap.size := by omega))) | (go_at_call 24; refine (HH.out _ (HX.out _ (by (repeat' (first | (with_reducible exact Below.refl _ _) | (with_reducible assumption) | (with_reducible refine below_alloc ?_ _) | (with_reducible refine Below.drew ?_) | (with_reducible refine below_drewN ?_ _) | (with_reducible refine below_step (by assumption) ?_) | (with_reducible refine below_later ?_ _) | (with_reducible refine Below.setCell ?_ ?_ _) | go_size))))).mono ?_; rintro e hb8w ⟨rfl, hb8⟩; obtain ⟨hb8c, hb8f⟩ := bcell hb8; have hb8s := hb8.size; (try simp only [World.size_alloc] at hb8s); (try (have : w.heap.size < hb8w.heap.size := by omega)); (try (have : w.heap.size + 1 < hb8w.heap.size := by omega)); (try (have : w.heap.size + 1 + 1 < hb8w.heap.size := by omega)); (try (have : w.heap.size + 1 + 1 + 1 < hb8w.heap.size := by omega)); (try (have : bX < hb8w.heap.size := by omega)); (try (have : bY < hb8w.heap.size := by omega)); (try (have : bZ < hb8w.heap.size := by omega))) | (go_at_call 11; refine (HID.out _ (HX.out _ (by (repeat' (first | (with_reducible exact Below.refl _ _) | (with_reducible assumption) | (with_reducible refine below_alloc ?_ _) | (with_reducible refine Below.drew ?_) | (with_reducible refine below_drewN ?_ _) | (with_reducible refine below_step (by assumption) ?_) | (with_reducible refine below_later ?_ _) | (with_reducible refine Below.setCell ?_ ?_ _) | go_size))))).mono ?_; rintro e hb3w ⟨r1, c1, r2, c2, rfl, hi1, hi2, hb3⟩; have HI1 : Hid (∀ w', Below hb3w.heap.size hb3w w' → IsInts w' r1 c1 .i64 ts) := Lib.hid (fun _ h => hi1.later h); have HI2 : Hid (∀ w', Below hb3w.heap.size hb3w w' → IsInts w' r2 c2 .i64 es) := Lib.hid (fun _ h => hi2.later h); obtain ⟨bE, oE, rfl, hbE, hcE⟩ := hi2.cells HESN.out; have hce := hcE q (by rw [HN2.out]; exact HQL.out); rw [HGQ.out] at hce; clear hi1 hi2 hcE; obtain ⟨hb3c, hb3f⟩ := bcell hb3; have hb3s := hb3.size; (try simp only [World.size_alloc] at hb3s); (have z3 : w.heap.size < hb3w.heap.size := by omega); (have hbxc : hb3w.cell? ⟨w.heap.size, 0, none⟩ = some (.slice r xs.length cap) := by rw [hb3c _ _ (by omega)]; simp [*])))
      go_region_held3 (fun w' => w'.cell? ⟨w.heap.size, 0, none⟩ = some (.slice r xs.length cap)) (go_keep) (first | (go_at_call 26; refine (HCL.out _ _ _ (HI2.out _ (by (repeat' (first | (with_reducible exact Below.refl _ _) | (with_reducible assumption) | (with_reducible refine below_alloc ?_ _) | (with_reducible refine Below.drew ?_) | (with_reducible refine below_drewN ?_ _) | (with_reducible refine below_step (by assumption) ?_) | (with_reducible refine below_later ?_ _) | (with_reducible refine Below.setCell ?_ ?_ _) | go_size))))).mono ?_; rintro e hbCw ⟨g, kc, rfl, hgc, hbC⟩; have HGC := Lib.hid hgc; clear hgc; have hbC3 : Below hb3w.heap.size hb3w hbCw := (by (repeat' (first | (with_reducible exact Below.refl _ _) | (with_reducible assumption) | (with_reducible refine below_alloc ?_ _) | (with_reducible refine Below.drew ?_) | (with_reducible refine below_drewN ?_ _) | (with_reducible refine below_step (by assumption) ?_) | (with_reducible refine below_later ?_ _) | (with_reducible refine Below.setCell ?_ ?_ _) | go_size))); obtain ⟨hbCc, hbCf⟩ := bcell hbC3; have hbCs := hbC3.size; (have zc : w.heap.size < hbCw.heap.size := by omega)) | (go_at_call 25; refine (HDL.out g kc _ hbCw _ HGC.out (by (repeat' (first | (with_reducible exact Below.refl _ _) | (with_reducible assumption) | (with_reducible refine below_alloc ?_ _) | (with_reducible refine Below.drew ?_) | (with_reducible refine below_drewN ?_ _) | (with_reducible refine below_step (by assumption) ?_) | (with_reducible refine below_later ?_ _) | (with_reducible refine Below.setCell ?_ ?_ _) | go_size)))).mono ?_; rintro e hbDw ⟨rfl, hde, hbD⟩; have HDE := Lib.hid hde; clear hde; have hbD3 : Below hb3w.heap.size hb3w hbDw := ((show Below hb3w.heap.size hb3w _ by (repeat' (first | (with_reducible exact Below.refl _ _) | (with_reducible assumption) | (with_reducible refine below_alloc ?_ _) | (with_reducible refine Below.drew ?_) | (with_reducible refine below_drewN ?_ _) | (with_reducible refine below_step (by assumption) ?_) | (with_reducible refine below_later ?_ _) | (with_reducible refine Below.setCell ?_ ?_ _) | go_size))).trans (hbD.mono (by first | exact Nat.le_refl _ | go_size))); obtain ⟨hbDc, hbDf⟩ := bcell hbD3; have hbDs := hbD3.size; (have zd : w.heap.size < hbDw.heap.size := by omega)) | (go_at_call 12; refine (HRUN.out _ _ _ _ _ (HX.out _ (by (repeat' (first | (with_reducible exact Below.refl _ _) | (with_reducible assumption) | (with_reducible refine below_alloc ?_ _) | (with_reducible refine Below.drew ?_) | (with_reducible refine below_drewN ?_ _) | (with_reducible refine below_step (by assumption) ?_) | (with_reducible refine below_later ?_ _) | (with_reducible refine Below.setCell ?_ ?_ _) | go_size)))) (HI1.out _ (by (repeat' (first | (with_reducible exact Below.refl _ _) | (with_reducible assumption) | (with_reducible refine below_alloc ?_ _) | (with_reducible refine Below.drew ?_) | (with_reducible refine below_drewN ?_ _) | (with_reducible refine below_step (by assumption) ?_) | (with_reducible refine below_later ?_ _) | (with_reducible refine Below.setCell ?_ ?_ _) | go_size)))) (HDE.out.later (by (repeat' (first | (with_reducible exact Below.refl _ _) | (with_reducible assumption) | (with_reducible refine below_alloc ?_ _) | (with_reducible refine Below.drew ?_) | (with_reducible refine below_drewN ?_ _) | (with_reducible refine below_step (by assumption) ?_) | (with_reducible refine below_later ?_ _) | (with_reducible refine Below.setCell ?_ ?_ _) | go_size))))).mono ?_; rintro e hb4w ⟨ro, co, rfl, ho, hb4⟩; have HO := Lib.hid ho; clear ho; have hb43 : Below hb3w.heap.size hb3w hb4w := (by (repeat' (first | (with_reducible exact Below.refl _ _) | (with_reducible assumption) | (with_reducible refine below_alloc ?_ _) | (with_reducible refine Below.drew ?_) | (with_reducible refine below_drewN ?_ _) | (with_reducible refine below_step (by assumption) ?_) | (with_reducible refine below_later ?_ _) | (with_reducible refine Below.setCell ?_ ?_ _) | go_size))); obtain ⟨hb4c, hb4f⟩ := bcell hb43; have hb4s := hb43.size; (have z4 : w.heap.size < hb4w.heap.size := by omega)))
      go_wp2
      have HIT := Lib.hid (HI1.out hb4w (by (repeat' (first | (with_reducible exact Below.refl _ _) | (with_reducible assumption) | (with_reducible refine below_alloc ?_ _) | (with_reducible refine Below.drew ?_) | (with_reducible refine below_drewN ?_ _) | (with_reducible refine below_step (by assumption) ?_) | (with_reducible refine below_later ?_ _) | (with_reducible refine Below.setCell ?_ ?_ _) | go_size))))
      go_loopg [17, 105] n (fun kx s17 s105 wr => ∃ (k : Nat) (bh : Int) (q : Later hb4w), s17 = .int .i64 bh ∧ s105 = .int .i64 k ∧ k ≤ n ∧ n - k ≤ kx ∧ wr = q.w ∧ Hid (bh = ((k - d : Nat) : Int)))
      case atStart => exact ⟨0, 0, ⟨hb4w, Below.refl _ _⟩, rfl, rfl, by omega, by omega, rfl, Lib.hid (by rw [Nat.zero_sub]; rfl)⟩
      case round =>
        obtain ⟨k, bh, qw, rfl, rfl, hk, hkx, rfl, HBH⟩ := hrel
        have hqs := qw.h.size
        have hqo : w.heap.size < qw.w.heap.size := by omega
        have hqo1 : w.heap.size < qw.w.heap.size + 1 := by omega
        by_cases hlt : k < n
        · have hk1 : (0 : Int) ≤ (k : Int) := by omega
          have hk2 : (k : Int) < n := by omega
          obtain ⟨bR, rfl, _, hbR, _, _, hcR⟩ := HO.out.cells phC_len (fun e => by have := HXL.out; rw [e] at this; simp at this; omega)
          obtain ⟨bT, oT, rfl, hbT, hcT⟩ := HIT.out.cells (fun e => by have := HN.out; rw [e] at this; simp at this; omega)
          have hrow := HXG.out k hlt
          have HY := Lib.hid (fun j u h => (qw.h.cell (p := ⟨bR, k * 4 + j, none⟩) hbR).trans (hcR k j _ u hrow h))
          have hct := hcT k (by have := HN.out; omega)
          rw [HGT.out k hlt] at hct
          have hcu := (qw.h.cell (p := ⟨bT, oT + k, none⟩) hbT).trans hct
          have hbT1 : bT < qw.w.heap.size := by omega
          have hbT2 : bT < qw.w.heap.size + 1 := by omega
          have hD1 := HD1.out k hlt
          have hD2 := HD2.out k hlt
          have d0 := HY.out 0 _ rfl
          have d1 := HY.out 1 _ rfl
          have d2 := HY.out 2 _ rfl
          have d3 := HY.out 3 _ rfl
          simp only [Nat.add_zero] at d0
          have hbhv := HBH.out
          obtain ⟨t, htd⟩ : ∃ t : Int, t = ((m + 1 + k : Nat) : Int) * 23040 := ⟨_, rfl⟩
          rw [← htd] at hcu hD1 hD2
          have t0 : 0 ≤ t := by omega
          have t1 : t ≤ 2305843009213693951 := by omega
          obtain ⟨qq, hqd⟩ : ∃ qq : Int, qq = ((m + 1 + k : Nat) : Int) := ⟨_, rfl⟩
          obtain ⟨hh, hhd⟩ : ∃ hh : Int, hh = (((m + 1 + k) % 2 : Nat) : Int) := ⟨_, rfl⟩
          have q0 : 0 ≤ qq := by omega
          have q11 : qq ≤ 100000000 := by omega
          have q12 : wrap64 qq = qq := by unfold wrap64; omega
          have r11 : t / 23040 = qq := by omega
          have r12 : t.tdiv 23040 = qq := by rw [Int.tdiv_eq_ediv_of_nonneg t0]; exact r11
          have r13 : qq % 2 = hh := by omega
          have r14 : qq.tmod 2 = hh := by rw [Int.tmod_eq_emod_of_nonneg q0]; exact r13
          have hh01 : 0 ≤ hh ∧ hh ≤ 1 := by omega
          have g1 : 0 ≤ gone := hgm.1
          have g2 : gone ≤ 2199023255552 := hgm.2
          have hw9 : IntKind.i64.wrap (t - gone) = t - gone := IntWalk.i64_in _ (by omega)
          have hw10 : wrap64 (t - gone) = t - gone := by unfold wrap64; omega
          have hXR : exP m d k = if k = 0 ∨ k = d then ⟨false, 0, 0, true⟩ else ⟨true, hh, 0, true⟩ := by rw [hhd]; rfl
          clear hrow hcR hct hcT
          have hkpos : k = 0 ∨ (0 < k ∧ decide (0 < k) = true ∧ decide ((0 : Int) < (k : Int)) = true ∧ (0 : Int) < (k : Int)) := by
            by_cases h : k = 0
            · exact .inl h
            · exact .inr ⟨by omega, by simp; omega, by simp; omega, by omega⟩
          rcases hkpos with rfl | ⟨hkp, hkd, hkd2, hkp2⟩
          · obtain rfl : bh = 0 := by omega
            by_cases hd0 : d = 0
            · have hge : gone ≤ t := hD1.2 (by omega)
              rw [show exP m d 0 = ⟨false, 0, 0, true⟩ from by rw [hXR, if_pos (by omega)]] at d0 d1 d2 d3
              simp only [Nat.zero_mul, Nat.zero_add] at d0 d1 d2 d3
              simp only [Nat.add_zero] at hcu
              clear hXR hqd hhd htd hD1 hD2 hbhv
              try clear hdk2
              go_wp2
              go_quiet (fail)
              go_wp2
              go_roundg (n - (0 + 1))
              case measure => omega
              case rel => exact ⟨0 + 1, 1, ⟨_, below_drewN (below_alloc qw.h _) _⟩, by go_num, by go_num, by omega, by omega, rfl, Lib.hid (by have := HBH.out; first | omega | (have := HDK.out; omega))⟩
            · have hge : ¬ gone ≤ t := fun h => by have := hD1.1 h; omega
              rw [show exP m d 0 = ⟨false, 0, 0, true⟩ from by rw [hXR, if_pos (by omega)]] at d0 d1 d2 d3
              simp only [Nat.zero_mul, Nat.zero_add] at d0 d1 d2 d3
              simp only [Nat.add_zero] at hcu
              clear hXR hqd hhd htd hD1 hD2 hbhv
              try clear hdk2
              go_wp2
              go_quiet (fail)
              go_wp2
              go_roundg (n - (0 + 1))
              case measure => omega
              case rel => exact ⟨0 + 1, 0, ⟨_, below_drewN (below_alloc qw.h _) _⟩, by go_num, by go_num, by omega, by omega, rfl, Lib.hid (by have := HBH.out; first | omega | (have := HDK.out; omega))⟩
          · by_cases hdk : k < d
            · have hge : ¬ gone ≤ t := fun h => by have := hD1.1 h; omega
              obtain rfl : bh = 0 := by omega
              rw [show exP m d k = ⟨true, hh, 0, true⟩ from by rw [hXR, if_neg (by omega)]] at d0 d1 d2 d3
              clear hXR hqd hhd htd hD1 hD2 hbhv
              try clear hdk2
              go_wp2
              go_quiet (fail)
              go_wp2
              go_roundg (n - (k + 1))
              case measure => omega
              case rel => exact ⟨k + 1, 0, ⟨_, below_drewN (below_alloc qw.h _) _⟩, by go_num, by go_num, by omega, by omega, rfl, Lib.hid (by have := HBH.out; first | omega | (have := HDK.out; omega))⟩
            · have hge : gone ≤ t := hD1.2 (by omega)
              by_cases hdk2 : k = d
              · obtain rfl : bh = 0 := by omega
                have hlt2 := hD2 hdk2
                have hlt3 : ¬ (23040 : Int) ≤ t - gone := by omega
                have HDK := Lib.hid hdk2
                rw [show exP m d k = ⟨false, 0, 0, true⟩ from by rw [hXR, if_pos (by omega)]] at d0 d1 d2 d3
                clear hXR hqd hhd htd hD1 hD2 hbhv
                try clear hdk2
                go_wp2
                go_quiet (fail)
                go_wp2
                go_roundg (n - (k + 1))
                case measure => omega
                case rel => exact ⟨k + 1, 1, ⟨_, below_drewN (below_alloc qw.h _) _⟩, by go_num, by go_num, by omega, by omega, rfl, Lib.hid (by have := HBH.out; first | omega | (have := HDK.out; omega))⟩
              · have b1 : 1 ≤ bh := by omega
                have b2 : bh ≤ 1000 := by omega
                have b3 : ¬ bh = 0 := by omega
                have b4 : (bh == 0) = false := by simp; omega
                have b5 : ¬ bh + 1 = 1 := by omega
                have b6 : (bh + 1 == 1) = false := by simp; omega
                have b8 : (bh + 1 != 1) = true := by simp; omega
                have b7 : IntKind.i64.wrap (bh + 1) = bh + 1 := IntWalk.i64_in _ (by omega)
                rw [show exP m d k = ⟨true, hh, 0, true⟩ from by rw [hXR, if_neg (by omega)]] at d0 d1 d2 d3
                clear hXR hqd hhd htd hD1 hD2 hbhv
                try clear hdk2
                go_wp2
                go_quiet (fail)
                go_wp2
                go_roundg (n - (k + 1))
                case measure => omega
                case rel => exact ⟨k + 1, bh + 1, ⟨_, below_drewN (below_alloc qw.h _) _⟩, by go_num, by go_num, by omega, by omega, rfl, Lib.hid (by have := HBH.out; first | omega | (have := HDK.out; omega))⟩
        · obtain rfl : k = n := by omega
          go_wp2
          go_ret
          exact ⟨rfl, by (repeat' (first | (with_reducible exact Below.refl _ _) | (with_reducible assumption) | (with_reducible refine below_alloc ?_ _) | (with_reducible refine Below.drew ?_) | (with_reducible refine below_drewN ?_ _) | (with_reducible refine below_step (by assumption) ?_) | (with_reducible refine below_later ?_ _) | (with_reducible refine Below.setCell ?_ ?_ _) | go_size))⟩

set_option maxRecDepth 100000 in
theorem prec_holds : Rows.PhaseRecoversSaid :=
  OpenClaim.holds_of_wide 6 Try.f6 rfl rfl rfl rfl rfl rfl rfl ⟨rfl, rfl, rfl, rfl, rfl⟩ rfl rfl rfl rfl rfl (by kernel_rfl) Try.func6 (by kernel_rfl)
    (of_decide_eq_true (by kernel_rfl)) (by unfold Func.isWrapper; first | (rw [if_pos (by decide +kernel)]; kernel_rfl) | (rw [if_neg (by decide +kernel)]; exact ⟨rfl, rfl⟩))
    (fun os started H enc _ => by
      refine law_frame started (s := Rows.phaseRecoversSpec) (conds := Rows.phaseRecoversRow.domain) Try.func6 (by kernel_rfl) rfl 4 rfl Try.underlying4 (by decide +kernel) (fun ds h => ?_)
        (ChangeSpec.witness6 (enc := enc) (C := Try.checked) false ⟨#[], #[.agg #[.slice none 0 0], .int .i64 0, .int .i64 0, .int .u8 0], []⟩ 12 (by kernel_rfl) (by kernel_rfl) (by kernel_rfl) (by kernel_rfl)) ?_
      · match ds, h with
        | [_, _, _, _], _ => rfl
      · intro W base args ds p hval hA _
        rw [Try.params6] at hA hval
        obtain ⟨v0, vs0, d0, ds0, p0, q0, hargs, rfl, rfl, h0, r0⟩ := trodAll_cons hA
        obtain ⟨v1, vs1, d1, ds1, p1, q1, rfl, rfl, rfl, h1, r1⟩ := trodAll_cons r0
        obtain ⟨v2, vs2, d2, ds2, p2, q2, rfl, rfl, rfl, h2, r2⟩ := trodAll_cons r1
        obtain ⟨v3, vs3, d3, ds3, p3, q3, rfl, rfl, rfl, h3, r3⟩ := trodAll_cons r2
        obtain ⟨rfl, rfl, rfl⟩ := trodAll_nil r3
        obtain rfl : args = #[v0, v1, v2, v3] := by cases args; simp_all
        obtain ⟨cs0, rfl, k0⟩ := arg_agg Try.underlying24 (hval 0 _ v0 rfl rfl) h0
        obtain ⟨r0_0, c0_0, a0_0, rfl, g0_0⟩ := open_Cam k0
        obtain ⟨b1, rfl, rfl, rfl, w1⟩ := open_int Try.underlying3 (hval 1 _ v1 rfl rfl) h1
        obtain ⟨b2, rfl, rfl, rfl, w2⟩ := open_int Try.underlying3 (hval 2 _ v2 rfl rfl) h2
        obtain ⟨b3, rfl, rfl, rfl, w3⟩ := open_int Try.underlying5 (hval 3 _ v3 rfl rfl) h3
        apply prec_walk <;> (first | assumption | rfl))
#print axioms prec_holds

end Go.Proofs.Ytoninaidinnbgaa
