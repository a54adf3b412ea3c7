/- The contract of fuel.Want: it returns want3. -/
import Derived.Test.YtmfldcjecajkoaaFuelP
import Derived.Test.YtmfldcjecajkoaaFind
namespace Go.Proofs.Ytmfldcjecajkoaa
set_option linter.unusedVariables false
set_option linter.unusedSimpArgs false
open Go.RowKit Go.ChangeShapes Go.WideShapes Go.ChangeAt

theorem wantCl_any (b0 b1 b2 : Nat) (a0 a1 a2 a3 a4 a5 a6 film mass i : Int) (w : World)
    (c0 : w.cell? ⟨b0, 0, none⟩ = some (.int .i64 a0)) (c1 : w.cell? ⟨b0, 1, none⟩ = some (.int .i64 a1)) (c2 : w.cell? ⟨b0, 2, none⟩ = some (.int .i64 a2)) (c3 : w.cell? ⟨b0, 3, none⟩ = some (.int .i64 a3))
    (c4 : w.cell? ⟨b0, 4, none⟩ = some (.int .i64 a4)) (c5 : w.cell? ⟨b0, 5, none⟩ = some (.int .i64 a5)) (c6 : w.cell? ⟨b0, 6, none⟩ = some (.int .i64 a6))
    (d1 : w.cell? ⟨b1, 0, none⟩ = some (.int .i64 film)) (d2 : w.cell? ⟨b2, 0, none⟩ = some (.int .i64 mass)) (hl1 : b1 < w.heap.size) (hl2 : b2 < w.heap.size)
    (hf0 : 0 ≤ a4) (hf : a4 ≤ 1023) (he0 : 0 ≤ a5) (he : a5 ≤ 1024) (hi0 : 0 ≤ i) (hi : i ≤ 1048576) (hg0 : 0 ≤ film) (hg : film ≤ 1073741824) (hm0 : 0 ≤ mass) (hm : mass ≤ 1048576) :
    Calls Try.prog 35 #[.int .i64 i, .pointer (some ⟨b0, 0, none⟩), .pointer (some ⟨b1, 0, none⟩), .pointer (some ⟨b2, 0, none⟩)] w fun e w' => e = .returned (.int .i64 (mass - (i - wallI a4 i + wallI a5 film))) ∧ Below w.heap.size w w' := by
  have ⟨_, _, b1, b2⟩ := wallI_bd hf0 (by omega) hi0 (show i ≤ 1073741824 by omega)
  have ⟨_, _, b3, b4⟩ := wallI_bd he0 (by omega) hg0 (by omega)
  go_enter Try.func35, Try.ntmps35
  go_wp2_with (go_at_call 29; refine (step_any _ _ _ _ _ _ _ _ _ _ (by omega) (by omega) (by omega) (by omega) (by omega) (by omega) (by omega) (by omega)).mono ?_; rintro e hb1w ⟨rfl, hb1⟩; obtain ⟨hb1c, hb1f⟩ := bcell hb1; have hb1s := hb1.size; (try simp only [World.size_alloc] at hb1s); (try (have : w.heap.size < hb1w.heap.size := by omega)); (try (have : w.heap.size + 1 < hb1w.heap.size := by omega)); (try (have : w.heap.size + 2 < hb1w.heap.size := by omega)))
  go_ret
  exact ⟨rfl, by (repeat' (first | (with_reducible exact Below.refl _ _) | (with_reducible assumption) | (with_reducible refine below_alloc ?_ _) | (with_reducible refine Below.drew ?_) | (with_reducible refine below_drewN ?_ _) | (with_reducible refine below_step (by assumption) ?_) | (with_reducible refine below_later ?_ _) | (with_reducible refine Below.setCell ?_ ?_ _) | go_size))⟩

theorem want_any (a0 a1 a2 a3 a4 a5 a6 film mass : Int) (w : World) :
    Calls Try.prog 15 #[.agg #[.int .i64 a0, .int .i64 a1, .int .i64 a2, .int .i64 a3, .int .i64 a4, .int .i64 a5, .int .i64 a6], .int .i64 film, .int .i64 mass] w fun e w' => e = .returned (tup3 (want3 a4 a5 film mass)) ∧ Below w.heap.size w w' := by
  by_cases hg : goodB a4 a5 = true
  · have ⟨g1, g2, g3, g4⟩ := goodB_spec hg
    by_cases h1 : inB film 0 1073741824 = true
    · have ⟨f1, f2⟩ := inB_spec h1
      by_cases h2 : inB mass 0 1048576 = true
      · have ⟨i1, i2⟩ := inB_spec h2
        by_cases hr : wantR a4 a5 film mass > 1048576
        · have hrI : (wantR a4 a5 film mass : Int) > 1048576 := by omega
          have hfin : want3 a4 a5 film mass = (0, 0, 9) := by simp [want3, hg, h1, h2, hr]
          have H := Lib.hid hfin; clear hfin
          go_enter Try.func15, Try.ntmps15
          go_wp2_with (first | (go_at_call 27; refine (good_any _ _ _ _ _ _ _ _).mono ?_; rintro e hb1w ⟨rfl, hb1⟩; obtain ⟨hb1c, hb1f⟩ := bcell hb1; have hb1s := hb1.size; (try simp only [World.size_alloc] at hb1s); (try (have : w.heap.size < hb1w.heap.size := by omega)); (try (have : w.heap.size + 1 < hb1w.heap.size := by omega)); (try (have : w.heap.size + 2 < hb1w.heap.size := by omega))) | (go_at_call 28; refine (in_any _ _ _ _).mono ?_; rintro e w' ⟨rfl, rfl⟩) | (go_at_call 34; refine (find_any 35 #[.pointer (some ⟨w.heap.size, 0, none⟩), .pointer (some ⟨w.heap.size + 1, 0, none⟩), .pointer (some ⟨w.heap.size + 1 + 1, 0, none⟩)] 1048577 (wantR a4 a5 film mass) (lackI a4 a5 film mass) _ (by rfl) (enters_of Try.func35 (by kernel_rfl) rfl) (by omega) (wantR_le _ _ _ _) ?hf (fun t ht => wantR_below ht) (fun t h1 h2 => wantR_above g1 g2 h1 h2)).mono ?_))
          case hf => exact fun e i hi => wantCl_any w.heap.size (w.heap.size + 1) (w.heap.size + 1 + 1) a0 a1 a2 a3 a4 a5 a6 film mass i e.w (by rw [Later.cell _ (by omega), hb1c _ _ (by simp only [World.size_alloc]; omega)]; simp [go_sem]) (by rw [Later.cell _ (by omega), hb1c _ _ (by simp only [World.size_alloc]; omega)]; simp [go_sem]) (by rw [Later.cell _ (by omega), hb1c _ _ (by simp only [World.size_alloc]; omega)]; simp [go_sem]) (by rw [Later.cell _ (by omega), hb1c _ _ (by simp only [World.size_alloc]; omega)]; simp [go_sem]) (by rw [Later.cell _ (by omega), hb1c _ _ (by simp only [World.size_alloc]; omega)]; simp [go_sem]) (by rw [Later.cell _ (by omega), hb1c _ _ (by simp only [World.size_alloc]; omega)]; simp [go_sem]) (by rw [Later.cell _ (by omega), hb1c _ _ (by simp only [World.size_alloc]; omega)]; simp [go_sem]) (by rw [Later.cell _ (by omega), hb1c _ _ (by simp only [World.size_alloc]; omega)]; simp [go_sem]) (by rw [Later.cell _ (by omega), hb1c _ _ (by simp only [World.size_alloc]; omega)]; simp [go_sem]) (by have := e.h.size; omega) (by have := e.h.size; omega) g1 g2 g3 g4 (by omega) (by omega) f1 f2 i1 i2
          rintro e hb2w ⟨rfl, hb2⟩
          obtain ⟨hb2c, hb2f⟩ := bcell hb2
          have hb2s := hb2.size
          have hk : w.heap.size < hb2w.heap.size := by omega
          have hk1 : w.heap.size + 1 < hb2w.heap.size := by omega
          have hk2 : w.heap.size + 1 + 1 < hb2w.heap.size := by omega
          go_wp2_with (go_at_call 29; refine (step_any _ _ _ _ _ _ _ _ _ _ (by omega) (by omega) (by omega) (by omega) (by omega) (by omega) (by omega) (by omega)).mono ?_; rintro e hb3w ⟨rfl, hb3⟩; obtain ⟨hb3c, hb3f⟩ := bcell hb3; have hb3s := hb3.size; (try simp only [World.size_alloc] at hb3s); (try (have : w.heap.size < hb3w.heap.size := by omega)); (try (have : w.heap.size + 1 < hb3w.heap.size := by omega)); (try (have : w.heap.size + 2 < hb3w.heap.size := by omega)))
          go_ret3
          exact ⟨by rw [H.out]; rfl, by (repeat' (first | (with_reducible exact Below.refl _ _) | (with_reducible assumption) | (with_reducible refine below_alloc ?_ _) | (with_reducible refine Below.drew ?_) | (with_reducible refine below_drewN ?_ _) | (with_reducible refine below_step (by assumption) ?_) | (with_reducible refine below_later ?_ _) | (with_reducible refine Below.setCell ?_ ?_ _) | go_size))⟩
        · have hrI : (wantR a4 a5 film mass : Int) ≤ 1048576 := by omega
          have ⟨_, _, b1, b2⟩ := wallI_bd g1 (by omega) (show 0 ≤ (wantR a4 a5 film mass : Int) by omega) (by omega)
          have ⟨_, _, b3, b4⟩ := wallI_bd g3 (by omega) f1 (by omega)
          by_cases hb : film + wallI a4 (wantR a4 a5 film mass) - wallI a5 film > 1073741824
          · have hfin : want3 a4 a5 film mass = (0, 0, 9) := by simp [want3, hg, h1, h2, hr, hb]
            have H := Lib.hid hfin; clear hfin
            go_enter Try.func15, Try.ntmps15
            go_wp2_with (first | (go_at_call 27; refine (good_any _ _ _ _ _ _ _ _).mono ?_; rintro e hb1w ⟨rfl, hb1⟩; obtain ⟨hb1c, hb1f⟩ := bcell hb1; have hb1s := hb1.size; (try simp only [World.size_alloc] at hb1s); (try (have : w.heap.size < hb1w.heap.size := by omega)); (try (have : w.heap.size + 1 < hb1w.heap.size := by omega)); (try (have : w.heap.size + 2 < hb1w.heap.size := by omega))) | (go_at_call 28; refine (in_any _ _ _ _).mono ?_; rintro e w' ⟨rfl, rfl⟩) | (go_at_call 34; refine (find_any 35 #[.pointer (some ⟨w.heap.size, 0, none⟩), .pointer (some ⟨w.heap.size + 1, 0, none⟩), .pointer (some ⟨w.heap.size + 1 + 1, 0, none⟩)] 1048577 (wantR a4 a5 film mass) (lackI a4 a5 film mass) _ (by rfl) (enters_of Try.func35 (by kernel_rfl) rfl) (by omega) (wantR_le _ _ _ _) ?hf (fun t ht => wantR_below ht) (fun t h1 h2 => wantR_above g1 g2 h1 h2)).mono ?_))
            case hf => exact fun e i hi => wantCl_any w.heap.size (w.heap.size + 1) (w.heap.size + 1 + 1) a0 a1 a2 a3 a4 a5 a6 film mass i e.w (by rw [Later.cell _ (by omega), hb1c _ _ (by simp only [World.size_alloc]; omega)]; simp [go_sem]) (by rw [Later.cell _ (by omega), hb1c _ _ (by simp only [World.size_alloc]; omega)]; simp [go_sem]) (by rw [Later.cell _ (by omega), hb1c _ _ (by simp only [World.size_alloc]; omega)]; simp [go_sem]) (by rw [Later.cell _ (by omega), hb1c _ _ (by simp only [World.size_alloc]; omega)]; simp [go_sem]) (by rw [Later.cell _ (by omega), hb1c _ _ (by simp only [World.size_alloc]; omega)]; simp [go_sem]) (by rw [Later.cell _ (by omega), hb1c _ _ (by simp only [World.size_alloc]; omega)]; simp [go_sem]) (by rw [Later.cell _ (by omega), hb1c _ _ (by simp only [World.size_alloc]; omega)]; simp [go_sem]) (by rw [Later.cell _ (by omega), hb1c _ _ (by simp only [World.size_alloc]; omega)]; simp [go_sem]) (by rw [Later.cell _ (by omega), hb1c _ _ (by simp only [World.size_alloc]; omega)]; simp [go_sem]) (by have := e.h.size; omega) (by have := e.h.size; omega) g1 g2 g3 g4 (by omega) (by omega) f1 f2 i1 i2
            rintro e hb2w ⟨rfl, hb2⟩
            obtain ⟨hb2c, hb2f⟩ := bcell hb2
            have hb2s := hb2.size
            have hk : w.heap.size < hb2w.heap.size := by omega
            have hk1 : w.heap.size + 1 < hb2w.heap.size := by omega
            have hk2 : w.heap.size + 1 + 1 < hb2w.heap.size := by omega
            go_wp2_with (go_at_call 29; refine (step_any _ _ _ _ _ _ _ _ _ _ (by omega) (by omega) (by omega) (by omega) (by omega) (by omega) (by omega) (by omega)).mono ?_; rintro e hb3w ⟨rfl, hb3⟩; obtain ⟨hb3c, hb3f⟩ := bcell hb3; have hb3s := hb3.size; (try simp only [World.size_alloc] at hb3s); (try (have : w.heap.size < hb3w.heap.size := by omega)); (try (have : w.heap.size + 1 < hb3w.heap.size := by omega)); (try (have : w.heap.size + 2 < hb3w.heap.size := by omega)))
            go_ret3
            exact ⟨by rw [H.out]; rfl, by (repeat' (first | (with_reducible exact Below.refl _ _) | (with_reducible assumption) | (with_reducible refine below_alloc ?_ _) | (with_reducible refine Below.drew ?_) | (with_reducible refine below_drewN ?_ _) | (with_reducible refine below_step (by assumption) ?_) | (with_reducible refine below_later ?_ _) | (with_reducible refine Below.setCell ?_ ?_ _) | go_size))⟩
          · have hfin : want3 a4 a5 film mass = ((wantR a4 a5 film mass : Int), film + wallI a4 (wantR a4 a5 film mass) - wallI a5 film, 0) := by simp [want3, hg, h1, h2, hr, hb]
            have H := Lib.hid hfin; clear hfin
            go_enter Try.func15, Try.ntmps15
            go_wp2_with (first | (go_at_call 27; refine (good_any _ _ _ _ _ _ _ _).mono ?_; rintro e hb1w ⟨rfl, hb1⟩; obtain ⟨hb1c, hb1f⟩ := bcell hb1; have hb1s := hb1.size; (try simp only [World.size_alloc] at hb1s); (try (have : w.heap.size < hb1w.heap.size := by omega)); (try (have : w.heap.size + 1 < hb1w.heap.size := by omega)); (try (have : w.heap.size + 2 < hb1w.heap.size := by omega))) | (go_at_call 28; refine (in_any _ _ _ _).mono ?_; rintro e w' ⟨rfl, rfl⟩) | (go_at_call 34; refine (find_any 35 #[.pointer (some ⟨w.heap.size, 0, none⟩), .pointer (some ⟨w.heap.size + 1, 0, none⟩), .pointer (some ⟨w.heap.size + 1 + 1, 0, none⟩)] 1048577 (wantR a4 a5 film mass) (lackI a4 a5 film mass) _ (by rfl) (enters_of Try.func35 (by kernel_rfl) rfl) (by omega) (wantR_le _ _ _ _) ?hf (fun t ht => wantR_below ht) (fun t h1 h2 => wantR_above g1 g2 h1 h2)).mono ?_))
            case hf => exact fun e i hi => wantCl_any w.heap.size (w.heap.size + 1) (w.heap.size + 1 + 1) a0 a1 a2 a3 a4 a5 a6 film mass i e.w (by rw [Later.cell _ (by omega), hb1c _ _ (by simp only [World.size_alloc]; omega)]; simp [go_sem]) (by rw [Later.cell _ (by omega), hb1c _ _ (by simp only [World.size_alloc]; omega)]; simp [go_sem]) (by rw [Later.cell _ (by omega), hb1c _ _ (by simp only [World.size_alloc]; omega)]; simp [go_sem]) (by rw [Later.cell _ (by omega), hb1c _ _ (by simp only [World.size_alloc]; omega)]; simp [go_sem]) (by rw [Later.cell _ (by omega), hb1c _ _ (by simp only [World.size_alloc]; omega)]; simp [go_sem]) (by rw [Later.cell _ (by omega), hb1c _ _ (by simp only [World.size_alloc]; omega)]; simp [go_sem]) (by rw [Later.cell _ (by omega), hb1c _ _ (by simp only [World.size_alloc]; omega)]; simp [go_sem]) (by rw [Later.cell _ (by omega), hb1c _ _ (by simp only [World.size_alloc]; omega)]; simp [go_sem]) (by rw [Later.cell _ (by omega), hb1c _ _ (by simp only [World.size_alloc]; omega)]; simp [go_sem]) (by have := e.h.size; omega) (by have := e.h.size; omega) g1 g2 g3 g4 (by omega) (by omega) f1 f2 i1 i2
            rintro e hb2w ⟨rfl, hb2⟩
            obtain ⟨hb2c, hb2f⟩ := bcell hb2
            have hb2s := hb2.size
            have hk : w.heap.size < hb2w.heap.size := by omega
            have hk1 : w.heap.size + 1 < hb2w.heap.size := by omega
            have hk2 : w.heap.size + 1 + 1 < hb2w.heap.size := by omega
            go_wp2_with (go_at_call 29; refine (step_any _ _ _ _ _ _ _ _ _ _ (by omega) (by omega) (by omega) (by omega) (by omega) (by omega) (by omega) (by omega)).mono ?_; rintro e hb3w ⟨rfl, hb3⟩; obtain ⟨hb3c, hb3f⟩ := bcell hb3; have hb3s := hb3.size; (try simp only [World.size_alloc] at hb3s); (try (have : w.heap.size < hb3w.heap.size := by omega)); (try (have : w.heap.size + 1 < hb3w.heap.size := by omega)); (try (have : w.heap.size + 2 < hb3w.heap.size := by omega)))
            go_ret3
            exact ⟨by rw [H.out]; rfl, by (repeat' (first | (with_reducible exact Below.refl _ _) | (with_reducible assumption) | (with_reducible refine below_alloc ?_ _) | (with_reducible refine Below.drew ?_) | (with_reducible refine below_drewN ?_ _) | (with_reducible refine below_step (by assumption) ?_) | (with_reducible refine below_later ?_ _) | (with_reducible refine Below.setCell ?_ ?_ _) | go_size))⟩
      · have hfin : want3 a4 a5 film mass = (0, 0, 2) := by simp [want3, hg, h1, h2]
        have H := Lib.hid hfin; clear hfin
        go_enter Try.func15, Try.ntmps15
        go_wp2_with (first | (go_at_call 27; refine (good_any _ _ _ _ _ _ _ _).mono ?_; rintro e hb1w ⟨rfl, hb1⟩; obtain ⟨hb1c, hb1f⟩ := bcell hb1; have hb1s := hb1.size; (try simp only [World.size_alloc] at hb1s); (try (have : w.heap.size < hb1w.heap.size := by omega)); (try (have : w.heap.size + 1 < hb1w.heap.size := by omega)); (try (have : w.heap.size + 2 < hb1w.heap.size := by omega))) | (go_at_call 28; refine (in_any _ _ _ _).mono ?_; rintro e w' ⟨rfl, rfl⟩))
        go_ret3
        exact ⟨by rw [H.out]; rfl, by (repeat' (first | (with_reducible exact Below.refl _ _) | (with_reducible assumption) | (with_reducible refine below_alloc ?_ _) | (with_reducible refine Below.drew ?_) | (with_reducible refine below_drewN ?_ _) | (with_reducible refine below_step (by assumption) ?_) | (with_reducible refine below_later ?_ _) | (with_reducible refine Below.setCell ?_ ?_ _) | go_size))⟩
    · have hfin : want3 a4 a5 film mass = (0, 0, 2) := by simp [want3, hg, h1]
      have H := Lib.hid hfin; clear hfin
      go_enter Try.func15, Try.ntmps15
      go_wp2_with (first | (go_at_call 27; refine (good_any _ _ _ _ _ _ _ _).mono ?_; rintro e hb1w ⟨rfl, hb1⟩; obtain ⟨hb1c, hb1f⟩ := bcell hb1; have hb1s := hb1.size; (try simp only [World.size_alloc] at hb1s); (try (have : w.heap.size < hb1w.heap.size := by omega)); (try (have : w.heap.size + 1 < hb1w.heap.size := by omega)); (try (have : w.heap.size + 2 < hb1w.heap.size := by omega))) | (go_at_call 28; refine (in_any _ _ _ _).mono ?_; rintro e w' ⟨rfl, rfl⟩))
      go_ret3
      exact ⟨by rw [H.out]; rfl, by (repeat' (first | (with_reducible exact Below.refl _ _) | (with_reducible assumption) | (with_reducible refine below_alloc ?_ _) | (with_reducible refine Below.drew ?_) | (with_reducible refine below_drewN ?_ _) | (with_reducible refine below_step (by assumption) ?_) | (with_reducible refine below_later ?_ _) | (with_reducible refine Below.setCell ?_ ?_ _) | go_size))⟩
  · have hfin : want3 a4 a5 film mass = (0, 0, 1) := by simp [want3, hg]
    have H := Lib.hid hfin; clear hfin
    go_enter Try.func15, Try.ntmps15
    go_wp2_with (first | (go_at_call 27; refine (good_any _ _ _ _ _ _ _ _).mono ?_; rintro e hb1w ⟨rfl, hb1⟩; obtain ⟨hb1c, hb1f⟩ := bcell hb1; have hb1s := hb1.size; (try simp only [World.size_alloc] at hb1s); (try (have : w.heap.size < hb1w.heap.size := by omega)); (try (have : w.heap.size + 1 < hb1w.heap.size := by omega)); (try (have : w.heap.size + 2 < hb1w.heap.size := by omega))) | (go_at_call 28; refine (in_any _ _ _ _).mono ?_; rintro e w' ⟨rfl, rfl⟩))
    go_ret3
    exact ⟨by rw [H.out]; rfl, by (repeat' (first | (with_reducible exact Below.refl _ _) | (with_reducible assumption) | (with_reducible refine below_alloc ?_ _) | (with_reducible refine Below.drew ?_) | (with_reducible refine below_drewN ?_ _) | (with_reducible refine below_step (by assumption) ?_) | (with_reducible refine below_later ?_ _) | (with_reducible refine Below.setCell ?_ ?_ _) | go_size))⟩

end Go.Proofs.Ytmfldcjecajkoaa
