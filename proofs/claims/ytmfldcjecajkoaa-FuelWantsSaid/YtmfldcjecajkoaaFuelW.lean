/- The contract of the reference's Want: it returns want3; the law FuelWants. -/
import Derived.Test.YtmfldcjecajkoaaFuelAwake
import Derived.Test.YtmfldcjecajkoaaFuelC
import Derived.Deep.LoopGhost
import Derived.Test.YtmfldcjecajkoaaOpenBody
namespace Go.Proofs.Ytmfldcjecajkoaa
set_option linter.unusedVariables false
set_option linter.unusedSimpArgs false
open Go.RowKit Go.ChangeShapes Go.WideShapes Go.ChangeAt

theorem want_test {f e film mass rest : Int} (h0 : 0 ≤ f) (h1 : f ≤ 1023) (hrest : rest = max 0 (mass - wallI e film)) (t : Nat) : (rest ≤ (t : Int) - wallI f t ↔ lackI f e film mass t ≤ 0) := by
  have := netI_bd h0 h1 t
  unfold netI at this
  unfold lackI
  omega

set_option maxHeartbeats 1000000 in
theorem rwant_main (a0 a1 a2 a3 a4 a5 a6 film mass rest : Int) (w : World) (hg : goodB a4 a5 = true) (h1 : inB film 0 1073741824 = true) (h2 : inB mass 0 1048576 = true) (hrest : rest = max 0 (mass - wallI a5 film)) :
    Calls Try.prog 16 #[.agg #[.int .i64 a0, .int .i64 a1, .int .i64 a2, .int .i64 a3, .int .i64 a4, .int .i64 a5, .int .i64 a6], .int .i64 film, .int .i64 mass] w fun e w' => e = .returned (tup3 (want3 a4 a5 film mass)) ∧ Below w.heap.size w w' := by
  have ⟨g1, g2, g3, g4⟩ := goodB_spec hg
  have ⟨f1, f2⟩ := inB_spec h1
  have ⟨m1, m2⟩ := inB_spec h2
  have ⟨_, _, b3, b4⟩ := wallI_bd g3 (by omega) f1 (by omega)
  have ⟨_, _, b1, b2⟩ := wallI_bd g1 (by omega) (show 0 ≤ (1048576 : Int) by omega) (by omega)
  have r1 : 0 ≤ rest := by omega
  have r2 : rest ≤ 1048576 := by omega
  have ht := fun t => want_test (e := a5) (film := film) (mass := mass) g1 g2 hrest t
  have HR := Lib.hid hrest
  have hite : (if wallI a5 film < mass then mass - wallI a5 film else 0) = rest := by rw [hrest]; split <;> omega
  clear hrest
  by_cases hbig : (1048576 : Int) - wallI a4 1048576 < rest
  · have hr : wantR a4 a5 film mass > 1048576 := by
      by_cases h : wantR a4 a5 film mass ≤ 1048576
      · have := wantR_above g1 g2 h (by omega)
        have := (ht 1048576).2 this
        rw [show ((1048576 : Nat) : Int) = 1048576 from rfl] at this
        omega
      · omega
    have H := Lib.hid (show want3 a4 a5 film mass = (0, 0, 9) by simp [want3, hg, h1, h2, hr])
    clear ht
    go_enter Try.func16, Try.ntmps16
    go_wp2_with (first | (go_at_call 30; refine (body_any _ _ _ _ _ _ _ _).mono ?_; rintro e hb1w ⟨rfl, hb1⟩; obtain ⟨hb1c, hb1f⟩ := bcell hb1; have hb1s := hb1.size; (try simp only [World.size_alloc] at hb1s); (try (have : w.heap.size < hb1w.heap.size := by omega)); (try (have : w.heap.size + 1 < hb1w.heap.size := by omega)); (try (have : w.heap.size + 2 < hb1w.heap.size := by omega))) | (go_at_call 31; refine (mass_any _ _).mono ?_; rintro e w' ⟨rfl, rfl⟩) | (go_at_call 33; refine (off_any _ _ _ _ _ _ _ _ _ (by omega) (by omega) (by omega) (by omega)).mono ?_; rintro e hb2w ⟨rfl, hb2⟩; obtain ⟨hb2c, hb2f⟩ := bcell hb2; have hb2s := hb2.size; (try simp only [World.size_alloc] at hb2s); (try (have : w.heap.size < hb2w.heap.size := by omega)); (try (have : w.heap.size + 1 < hb2w.heap.size := by omega)); (try (have : w.heap.size + 2 < hb2w.heap.size := by omega))) | (go_at_call 32; refine (wall_any _ _ _ _ _ _ _ _ _ (by omega) (by omega) (by omega) (by omega)).mono ?_; rintro e hb3w ⟨rfl, hb3⟩; obtain ⟨hb3c, hb3f⟩ := bcell hb3; have hb3s := hb3.size; (try simp only [World.size_alloc] at hb3s); (try (have : w.heap.size < hb3w.heap.size := by omega)); (try (have : w.heap.size + 1 < hb3w.heap.size := by omega)); (try (have : w.heap.size + 2 < hb3w.heap.size := by omega))))
    go_ret3
    exact ⟨by rw [H.out]; rfl, by (repeat' (first | (with_reducible exact Below.refl _ _) | (with_reducible assumption) | (with_reducible refine below_alloc ?_ _) | (with_reducible refine Below.drew ?_) | (with_reducible refine below_drewN ?_ _) | (with_reducible refine below_step (by assumption) ?_) | (with_reducible refine below_later ?_ _) | (with_reducible refine Below.setCell ?_ ?_ _) | go_size))⟩
  · have hr : wantR a4 a5 film mass ≤ 1048576 := by
      by_cases h : wantR a4 a5 film mass ≤ 1048576
      · exact h
      · have := wantR_below (show 1048576 < wantR a4 a5 film mass by omega)
        have h3 : ¬ rest ≤ ((1048576 : Nat) : Int) - wallI a4 ((1048576 : Nat) : Int) := fun h => by have := (ht 1048576).1 h; omega
        rw [show ((1048576 : Nat) : Int) = 1048576 from rfl] at h3
        omega
    have hlow : rest.toNat ≤ wantR a4 a5 film mass := by
      have h3 := (ht (wantR a4 a5 film mass)).2 (wantR_above g1 g2 (Nat.le_refl _) (by omega))
      have h4 := (wallI_bd g1 (by omega) (show 0 ≤ (wantR a4 a5 film mass : Int) by omega) (by omega)).2.2.1
      omega
    have HL : ∀ t, t < wantR a4 a5 film mass → ¬ rest ≤ (t : Int) - wallI a4 t := fun t h h3 => by
      have := (ht t).1 h3
      have := wantR_below h
      omega
    have HU : ∀ t, wantR a4 a5 film mass ≤ t → t ≤ 1048576 → rest ≤ (t : Int) - wallI a4 t := fun t h h3 => (ht t).2 (wantR_above g1 g2 h (by omega))
    have HWB : ∀ t : Nat, t ≤ 1048576 → 0 ≤ wallI a4 t ∧ wallI a4 t ≤ t := fun t h => by
      have := wallI_bd g1 (by omega) (show 0 ≤ (t : Int) by omega) (by omega)
      omega
    have HL := Lib.hid HL
    have HU := Lib.hid HU
    have HWB := Lib.hid HWB
    clear ht
    obtain ⟨r, hrr⟩ : ∃ r, wantR a4 a5 film mass = r := ⟨_, rfl⟩
    have H : Hid (want3 a4 a5 film mass = if film + wallI a4 r - wallI a5 film > 1073741824 then (0, 0, 9) else ((r : Int), film + wallI a4 r - wallI a5 film, 0)) := by
      show _ = _
      rw [← hrr]
      simp [want3, hg, h1, h2, show ¬ wantR a4 a5 film mass > 1048576 by omega]
    have HF : Hid (film3 a4 a5 film r = if film + wallI a4 r - wallI a5 film > 1073741824 then (0, 0, 9) else ((r : Int) - wallI a4 r + wallI a5 film, film + wallI a4 r - wallI a5 film, 0)) := by
      show _ = _
      have hi : inB (r : Int) 0 1048576 = true := by simp [inB]; omega
      simp [film3, hg, h1, hi]
    rw [hrr] at hr hlow HL HU
    clear hrr
    go_enter Try.func16, Try.ntmps16
    go_wp2_with (first | (go_at_call 30; refine (body_any _ _ _ _ _ _ _ _).mono ?_; rintro e hb1w ⟨rfl, hb1⟩; obtain ⟨hb1c, hb1f⟩ := bcell hb1; have hb1s := hb1.size; (try simp only [World.size_alloc] at hb1s); (try (have : w.heap.size < hb1w.heap.size := by omega)); (try (have : w.heap.size + 1 < hb1w.heap.size := by omega)); (try (have : w.heap.size + 2 < hb1w.heap.size := by omega))) | (go_at_call 31; refine (mass_any _ _).mono ?_; rintro e w' ⟨rfl, rfl⟩) | (go_at_call 33; refine (off_any _ _ _ _ _ _ _ _ _ (by omega) (by omega) (by omega) (by omega)).mono ?_; rintro e hb2w ⟨rfl, hb2⟩; obtain ⟨hb2c, hb2f⟩ := bcell hb2; have hb2s := hb2.size; (try simp only [World.size_alloc] at hb2s); (try (have : w.heap.size < hb2w.heap.size := by omega)); (try (have : w.heap.size + 1 < hb2w.heap.size := by omega)); (try (have : w.heap.size + 2 < hb2w.heap.size := by omega))) | (go_at_call 32; refine (wall_any _ _ _ _ _ _ _ _ _ (by omega) (by omega) (by omega) (by omega)).mono ?_; rintro e hb3w ⟨rfl, hb3⟩; obtain ⟨hb3c, hb3f⟩ := bcell hb3; have hb3s := hb3.size; (try simp only [World.size_alloc] at hb3s); (try (have : w.heap.size < hb3w.heap.size := by omega)); (try (have : w.heap.size + 1 < hb3w.heap.size := by omega)); (try (have : w.heap.size + 2 < hb3w.heap.size := by omega))))
    go_loopg [10, 11] 1048576 (fun kx s10 s11 wr => ∃ (lo hi : Nat) (e : Later hb3w), s10 = .int .i64 lo ∧ s11 = .int .i64 hi ∧ lo ≤ r ∧ r ≤ hi ∧ hi ≤ 1048576 ∧ hi - lo ≤ kx ∧ wr = e.w)
    case atStart => exact ⟨rest.toNat, 1048576, ⟨hb3w, Below.refl _ _⟩, by rw [Int.toNat_of_nonneg r1], rfl, hlow, hr, Nat.le_refl _, by omega, rfl⟩
    case round =>
      obtain ⟨lo, hi, e, rfl, rfl, l1, l2, l3, l4, rfl⟩ := hrel
      have hes := e.h.size
      have hk : w.heap.size < e.w.heap.size := by omega
      by_cases hlt : lo < hi
      · have hmid : (lo : Int) ≤ ((lo : Int) + hi) / 2 ∧ ((lo : Int) + hi) / 2 < hi := by omega
        have ⟨wb1, wb2⟩ := HWB.out ((lo + hi) / 2) (by omega)
        rw [show (((lo + hi) / 2 : Nat) : Int) = ((lo : Int) + (hi : Int)) / 2 by omega] at wb1 wb2
        by_cases hp : (lo + hi) / 2 < r
        · have hc := HL.out _ hp
          rw [show (((lo + hi) / 2 : Nat) : Int) = ((lo : Int) + (hi : Int)) / 2 by omega] at hc
          go_wp2_with ((go_at_call 32; refine (wall_any _ _ _ _ _ _ _ _ _ (by omega) (by omega) (by omega) (by omega)).mono ?_; rintro e hb4w ⟨rfl, hb4⟩; obtain ⟨hb4c, hb4f⟩ := bcell hb4; have hb4s := hb4.size; (try simp only [World.size_alloc] at hb4s); (try (have : w.heap.size < hb4w.heap.size := by omega)); (try (have : w.heap.size + 1 < hb4w.heap.size := by omega)); (try (have : w.heap.size + 2 < hb4w.heap.size := by omega))))
          go_roundg (hi - ((lo + hi) / 2 + 1))
          case measure => omega
          case rel =>
            obtain ⟨e', rfl⟩ := e.next hb4
            exact ⟨(lo + hi) / 2 + 1, hi, e', by rw [show ((lo : Int) + (hi : Int)) / 2 + 1 = (((lo + hi) / 2 + 1 : Nat) : Int) by omega], rfl, by omega, by omega, by omega, Nat.le_refl _, rfl⟩
        · have hc := HU.out ((lo + hi) / 2) (by omega) (by omega)
          rw [show (((lo + hi) / 2 : Nat) : Int) = ((lo : Int) + (hi : Int)) / 2 by omega] at hc
          go_wp2_with ((go_at_call 32; refine (wall_any _ _ _ _ _ _ _ _ _ (by omega) (by omega) (by omega) (by omega)).mono ?_; rintro e hb4w ⟨rfl, hb4⟩; obtain ⟨hb4c, hb4f⟩ := bcell hb4; have hb4s := hb4.size; (try simp only [World.size_alloc] at hb4s); (try (have : w.heap.size < hb4w.heap.size := by omega)); (try (have : w.heap.size + 1 < hb4w.heap.size := by omega)); (try (have : w.heap.size + 2 < hb4w.heap.size := by omega))))
          go_roundg ((lo + hi) / 2 - lo)
          case measure => omega
          case rel =>
            obtain ⟨e', rfl⟩ := e.next hb4
            exact ⟨lo, (lo + hi) / 2, e', rfl, by rw [show ((lo : Int) + (hi : Int)) / 2 = (((lo + hi) / 2 : Nat) : Int) by omega], by omega, by omega, by omega, Nat.le_refl _, rfl⟩
      · obtain rfl : lo = r := by omega
        obtain rfl : lo = hi := by omega
        by_cases hb : film + wallI a4 lo - wallI a5 film > 1073741824
        · have hF2 := HF.out
          rw [if_pos hb] at hF2
          go_wp2_with ((go_at_call 14; refine (rfilm_any _ _ _ _ _ _ _ _ _ _).mono ?_; rintro e hb4w ⟨rfl, hb4⟩; obtain ⟨hb4c, hb4f⟩ := bcell hb4; have hb4s := hb4.size; (try simp only [World.size_alloc] at hb4s); (try (have : w.heap.size < hb4w.heap.size := by omega)); (try (have : w.heap.size + 1 < hb4w.heap.size := by omega)); (try (have : w.heap.size + 2 < hb4w.heap.size := by omega))))
          go_ret3
          exact ⟨by rw [H.out, if_pos hb]; rfl, below_step hb4 (by (repeat' (first | (with_reducible exact Below.refl _ _) | (with_reducible assumption) | (with_reducible refine below_alloc ?_ _) | (with_reducible refine Below.drew ?_) | (with_reducible refine below_drewN ?_ _) | (with_reducible refine below_step (by assumption) ?_) | (with_reducible refine below_later ?_ _) | (with_reducible refine Below.setCell ?_ ?_ _) | go_size)))⟩
        · have hF2 := HF.out
          rw [if_neg hb] at hF2
          go_wp2_with ((go_at_call 14; refine (rfilm_any _ _ _ _ _ _ _ _ _ _).mono ?_; rintro e hb4w ⟨rfl, hb4⟩; obtain ⟨hb4c, hb4f⟩ := bcell hb4; have hb4s := hb4.size; (try simp only [World.size_alloc] at hb4s); (try (have : w.heap.size < hb4w.heap.size := by omega)); (try (have : w.heap.size + 1 < hb4w.heap.size := by omega)); (try (have : w.heap.size + 2 < hb4w.heap.size := by omega))))
          go_ret3
          exact ⟨by rw [H.out, if_neg (by omega)]; rfl, by (repeat' (first | (with_reducible exact Below.refl _ _) | (with_reducible assumption) | (with_reducible refine below_alloc ?_ _) | (with_reducible refine Below.drew ?_) | (with_reducible refine below_drewN ?_ _) | (with_reducible refine below_step (by assumption) ?_) | (with_reducible refine below_later ?_ _) | (with_reducible refine Below.setCell ?_ ?_ _) | go_size))⟩

theorem rwant_any (a0 a1 a2 a3 a4 a5 a6 film mass : Int) (w : World) :
    Calls Try.prog 16 #[.agg #[.int .i64 a0, .int .i64 a1, .int .i64 a2, .int .i64 a3, .int .i64 a4, .int .i64 a5, .int .i64 a6], .int .i64 film, .int .i64 mass] w fun e w' => e = .returned (tup3 (want3 a4 a5 film mass)) ∧ Below w.heap.size w w' := by
  by_cases hg : goodB a4 a5 = true
  · by_cases h1 : inB film 0 1073741824 = true
    · have ⟨f1, f2⟩ := inB_spec h1
      by_cases h2 : inB mass 0 1048576 = true
      · exact rwant_main _ _ _ _ _ _ _ _ _ _ _ hg h1 h2 rfl
      · have H := Lib.hid (show want3 a4 a5 film mass = (0, 0, 2) by simp [want3, hg, h1, h2])
        go_enter Try.func16, Try.ntmps16
        go_wp2_with (first | (go_at_call 30; refine (body_any _ _ _ _ _ _ _ _).mono ?_; rintro e hb1w ⟨rfl, hb1⟩; obtain ⟨hb1c, hb1f⟩ := bcell hb1; have hb1s := hb1.size; (try simp only [World.size_alloc] at hb1s); (try (have : w.heap.size < hb1w.heap.size := by omega)); (try (have : w.heap.size + 1 < hb1w.heap.size := by omega)); (try (have : w.heap.size + 2 < hb1w.heap.size := by omega))) | (go_at_call 31; refine (mass_any _ _).mono ?_; rintro e w' ⟨rfl, rfl⟩))
        all_goals first | (go_ret3; exact ⟨by rw [H.out]; rfl, by (repeat' (first | (with_reducible exact Below.refl _ _) | (with_reducible assumption) | (with_reducible refine below_alloc ?_ _) | (with_reducible refine Below.drew ?_) | (with_reducible refine below_drewN ?_ _) | (with_reducible refine below_step (by assumption) ?_) | (with_reducible refine below_later ?_ _) | (with_reducible refine Below.setCell ?_ ?_ _) | go_size))⟩) | (exfalso; omega)
    · have H := Lib.hid (show want3 a4 a5 film mass = (0, 0, 2) by simp [want3, hg, h1])
      simp only [inB, decide_eq_true_eq, not_and] at h1
      go_enter Try.func16, Try.ntmps16
      go_wp2_with (first | (go_at_call 30; refine (body_any _ _ _ _ _ _ _ _).mono ?_; rintro e hb1w ⟨rfl, hb1⟩; obtain ⟨hb1c, hb1f⟩ := bcell hb1; have hb1s := hb1.size; (try simp only [World.size_alloc] at hb1s); (try (have : w.heap.size < hb1w.heap.size := by omega)); (try (have : w.heap.size + 1 < hb1w.heap.size := by omega)); (try (have : w.heap.size + 2 < hb1w.heap.size := by omega))) | (go_at_call 31; refine (mass_any _ _).mono ?_; rintro e w' ⟨rfl, rfl⟩))
      all_goals first | (go_ret3; exact ⟨by rw [H.out]; rfl, by (repeat' (first | (with_reducible exact Below.refl _ _) | (with_reducible assumption) | (with_reducible refine below_alloc ?_ _) | (with_reducible refine Below.drew ?_) | (with_reducible refine below_drewN ?_ _) | (with_reducible refine below_step (by assumption) ?_) | (with_reducible refine below_later ?_ _) | (with_reducible refine Below.setCell ?_ ?_ _) | go_size))⟩) | (exfalso; omega)
  · have H := Lib.hid (show want3 a4 a5 film mass = (0, 0, 1) by simp [want3, hg])
    go_enter Try.func16, Try.ntmps16
    go_wp2_with (first | (go_at_call 30; refine (body_any _ _ _ _ _ _ _ _).mono ?_; rintro e hb1w ⟨rfl, hb1⟩; obtain ⟨hb1c, hb1f⟩ := bcell hb1; have hb1s := hb1.size; (try simp only [World.size_alloc] at hb1s); (try (have : w.heap.size < hb1w.heap.size := by omega)); (try (have : w.heap.size + 1 < hb1w.heap.size := by omega)); (try (have : w.heap.size + 2 < hb1w.heap.size := by omega))) | (go_at_call 31; refine (mass_any _ _).mono ?_; rintro e w' ⟨rfl, rfl⟩))
    go_ret3
    exact ⟨by rw [H.out]; rfl, by (repeat' (first | (with_reducible exact Below.refl _ _) | (with_reducible assumption) | (with_reducible refine below_alloc ?_ _) | (with_reducible refine Below.drew ?_) | (with_reducible refine below_drewN ?_ _) | (with_reducible refine below_step (by assumption) ?_) | (with_reducible refine below_later ?_ _) | (with_reducible refine Below.setCell ?_ ?_ _) | go_size))⟩

theorem wants_walk (a0 a1 a2 a3 a4 a5 a6 film i : Int) (w : World) :
    Calls Try.prog 4 #[.agg #[.int .i64 a0, .int .i64 a1, .int .i64 a2, .int .i64 a3, .int .i64 a4, .int .i64 a5, .int .i64 a6], .int .i64 film, .int .i64 i] w fun e w' => e = .returned (.bool true) ∧ Below w.heap.size w w' := by
  go_enter Try.func4, Try.ntmps4
  go_wp2_with (first | (go_at_call 12; refine (awake_any _).mono ?_; rintro e hb1w ⟨rfl, hb1⟩; obtain ⟨hb1c, hb1f⟩ := bcell hb1; have hb1s := hb1.size; (try simp only [World.size_alloc] at hb1s); (try (have : w.heap.size < hb1w.heap.size := by omega)); (try (have : w.heap.size + 1 < hb1w.heap.size := by omega)); (try (have : w.heap.size + 2 < hb1w.heap.size := by omega))) | (go_at_call 15; refine (want_any _ _ _ _ _ _ _ _ _ _).mono ?_; rintro e hb2w ⟨rfl, hb2⟩; obtain ⟨hb2c, hb2f⟩ := bcell hb2; have hb2s := hb2.size; (try simp only [World.size_alloc] at hb2s); (try (have : w.heap.size < hb2w.heap.size := by omega)); (try (have : w.heap.size + 1 < hb2w.heap.size := by omega)); (try (have : w.heap.size + 2 < hb2w.heap.size := by omega))) | (go_at_call 16; refine (rwant_any _ _ _ _ _ _ _ _ _ _).mono ?_; rintro e hb3w ⟨rfl, hb3⟩; obtain ⟨hb3c, hb3f⟩ := bcell hb3; have hb3s := hb3.size; (try simp only [World.size_alloc] at hb3s); (try (have : w.heap.size < hb3w.heap.size := by omega)); (try (have : w.heap.size + 1 < hb3w.heap.size := by omega)); (try (have : w.heap.size + 2 < hb3w.heap.size := by omega))))
  go_ret
  exact ⟨rfl, by (repeat' (first | (with_reducible exact Below.refl _ _) | (with_reducible assumption) | (with_reducible refine below_alloc ?_ _) | (with_reducible refine Below.drew ?_) | (with_reducible refine below_drewN ?_ _) | (with_reducible refine below_step (by assumption) ?_) | (with_reducible refine below_later ?_ _) | (with_reducible refine Below.setCell ?_ ?_ _) | go_size))⟩

set_option maxRecDepth 100000 in
theorem wants_holds : Rows.FuelWantsSaid :=
  OpenClaim.holds_of_wide 4 Try.f4 rfl rfl rfl rfl rfl rfl rfl ⟨rfl, rfl, rfl, rfl, rfl⟩ rfl rfl rfl rfl rfl (by kernel_rfl) Try.func4 (by kernel_rfl)
    (of_decide_eq_true (by kernel_rfl)) (by unfold Func.isWrapper; first | (rw [if_pos (by decide +kernel)]; kernel_rfl) | (rw [if_neg (by decide +kernel)]; exact ⟨rfl, rfl⟩))
    (fun os started H enc _ => by
      refine law_frame started (s := Rows.fuelWantsSpec) (conds := Rows.fuelWantsRow.domain) Try.func4 (by kernel_rfl) rfl 4 rfl Try.underlying4 (by decide +kernel) (fun ds h => ?_)
        (ChangeSpec.witness6 (enc := enc) (C := Try.checked) false ⟨#[], #[.agg #[.int .i64 0, .int .i64 0, .int .i64 0, .int .i64 0, .int .i64 0, .int .i64 0, .int .i64 0], .int .i64 0, .int .i64 0], []⟩ 12 (by kernel_rfl) (by kernel_rfl) (by kernel_rfl) (by kernel_rfl)) ?_
      · match ds, h with
        | [_, _, _], _ => rfl
      · intro W base args ds p hval hA _
        rw [Try.params4] at hA hval
        obtain ⟨v0, vs0, d0, ds0, p0, q0, hargs, rfl, rfl, h0, r0⟩ := trodAll_cons hA
        obtain ⟨v1, vs1, d1, ds1, p1, q1, rfl, rfl, rfl, h1, r1⟩ := trodAll_cons r0
        obtain ⟨v2, vs2, d2, ds2, p2, q2, rfl, rfl, rfl, h2, r2⟩ := trodAll_cons r1
        obtain ⟨rfl, rfl, rfl⟩ := trodAll_nil r2
        obtain rfl : args = #[v0, v1, v2] := by cases args; simp_all
        obtain ⟨cs0, rfl, k0⟩ := arg_agg Try.underlying23 (hval 0 _ v0 rfl rfl) h0
        obtain ⟨a0_0, a1_0, a2_0, a3_0, a4_0, a5_0, a6_0, rfl, g0_0, g1_0, g2_0, g3_0, g4_0, g5_0, g6_0⟩ := open_Body k0
        obtain ⟨b1, rfl, rfl, rfl, w1⟩ := open_int Try.underlying3 (hval 1 _ v1 rfl rfl) h1
        obtain ⟨b2, rfl, rfl, rfl, w2⟩ := open_int Try.underlying3 (hval 2 _ v2 rfl rfl) h2
        apply wants_walk <;> assumption)
#print axioms wants_holds


end Go.Proofs.Ytmfldcjecajkoaa
