/- Contracts of curve's value and At. -/
import Derived.Test.YtohdbneaganfbaaCurveV
namespace Go.Proofs.Ytohdbneaganfbaa
set_option linter.unusedVariables false
set_option linter.unusedSimpArgs false
open Go.RowKit Go.ChangeShapes Go.WideShapes Go.ChangeAt

theorem cval_num {x a b c d : Int} (a1 : -1073741824 ≤ a) (a2 : b ≤ 1073741824) (b1 : a ≤ x) (b2 : x < b) (c1 : -1073741824 ≤ c) (c2 : c ≤ 1073741824) (d1 : -1073741824 ≤ d) (d2 : d ≤ 1073741824) :
    -4611686018427387904 ≤ (x - a) * (d - c) ∧ (x - a) * (d - c) ≤ 4611686018427387904 ∧ min c d ≤ c + (x - a) * (d - c) / (b - a) ∧ c + (x - a) * (d - c) / (b - a) ≤ max c d := by
  have hp : 0 < b - a := by omega
  have e1 := Int.mul_ediv_add_emod ((x - a) * (d - c)) (b - a)
  have e2 := Int.emod_nonneg ((x - a) * (d - c)) (show b - a ≠ 0 by omega)
  have e3 := Int.emod_lt_of_pos ((x - a) * (d - c)) hp
  have hx0 : 0 ≤ x - a := by omega
  have hx1 : x - a ≤ b - a := by omega
  by_cases h : 0 ≤ d - c
  · have g1 : 0 ≤ (x - a) * (d - c) := Int.mul_nonneg hx0 h
    have g2 : (x - a) * (d - c) ≤ (b - a) * (d - c) := Int.mul_le_mul_of_nonneg_right hx1 h
    have g3 : (x - a) * (d - c) ≤ 2147483648 * 2147483648 := Int.mul_le_mul (by omega) (by omega) h (by omega)
    have g4 : 0 ≤ (x - a) * (d - c) / (b - a) := Int.ediv_nonneg g1 (by omega)
    have g5 : (x - a) * (d - c) / (b - a) ≤ d - c := by
      have := Int.ediv_le_ediv hp g2
      rwa [Int.mul_ediv_cancel_left _ (by omega)] at this
    omega
  · have h' : 0 ≤ c - d := by omega
    have en : (x - a) * (d - c) = -((x - a) * (c - d)) := by rw [← Int.mul_neg]; congr 1; omega
    have g1 : 0 ≤ (x - a) * (c - d) := Int.mul_nonneg hx0 h'
    have g2 : (x - a) * (c - d) ≤ (b - a) * (c - d) := Int.mul_le_mul_of_nonneg_right hx1 h'
    have g3 : (x - a) * (c - d) ≤ 2147483648 * 2147483648 := Int.mul_le_mul (by omega) (by omega) h' (by omega)
    have g4 : (x - a) * (d - c) / (b - a) ≤ 0 := by
      have := Int.ediv_le_ediv hp (show (x - a) * (d - c) ≤ 0 by omega)
      simpa using this
    have g5 : d - c ≤ (x - a) * (d - c) / (b - a) := by
      have e4 : (b - a) * (d - c) ≤ (x - a) * (d - c) := by
        have en2 : (b - a) * (d - c) = -((b - a) * (c - d)) := by rw [← Int.mul_neg]; congr 1; omega
        omega
      have := Int.ediv_le_ediv hp e4
      rwa [Int.mul_ediv_cancel_left _ (by omega)] at this
    omega

theorem value_any (rx ry : Option Addr) (cx cy : Nat) (xs ys : List Int) (x : Int) (w : World) (hx : IsInts w rx cx .i64 xs) (hy : IsInts w ry cy .i64 ys) (hok : CurveOk xs ys) :
    Calls Try.prog 116 #[.agg #[.slice rx xs.length cx, .slice ry ys.length cy], .int .i64 x] w fun e w' => e = .returned (.int .i64 (cval xs ys x)) ∧ Below w.heap.size w w' := by
  obtain ⟨hl, hax, hfy⟩ := hok
  have h2 := hax.1
  have h32 := hax.2.1
  have hx' := hx
  have hy' := hy
  obtain ⟨bX, offX, rfl, hbX, hcX⟩ := hx.cells (fun e => by subst e; simp at h2)
  obtain ⟨bY, offY, rfl, hbY, hcY⟩ := hy.cells (fun e => by rw [e] at hl; simp only [List.length_nil] at hl; omega)
  have hX0 := hcX 0 (by omega)
  have hXn := hcX (xs.length - 1) (by omega)
  by_cases h0 : x ≤ xs.getD 0 0
  · have H := Lib.hid (show cval xs ys x = ys.getD 0 0 by simp only [cval, h0, if_true])
    have hY0 := hcY 0 (by omega)
    rw [Nat.add_zero] at hX0 hY0
    clear hx hy hx' hy' hcX hcY hXn hfy hax
    generalize xs.getD 0 0 = a at *
    generalize ys.getD 0 0 = b at *
    generalize hn : xs.length = n at *
    have hn2 : (0 : Int) < (n : Int) := by omega
    have hn3 : (0 : Int) < (ys.length : Int) := by omega
    clear hn
    go_enter Try.func116, Try.ntmps116
    go_wp2
    go_ret
    exact ⟨by rw [H.out]; rfl, by (repeat' (first | (with_reducible exact Below.refl _ _) | (with_reducible assumption) | (with_reducible refine below_alloc ?_ _) | (with_reducible refine Below.drew ?_) | (with_reducible refine below_drewN ?_ _) | (with_reducible refine below_step (by assumption) ?_) | (with_reducible refine below_later ?_ _) | (with_reducible refine Below.setCell ?_ ?_ _) | go_size))⟩
  · by_cases h1 : xs.getD (xs.length - 1) 0 ≤ x
    · have H := Lib.hid (show cval xs ys x = ys.getD (xs.length - 1) 0 by simp only [cval, h0, h1, if_true, if_false])
      have hYn := hcY (xs.length - 1) (by omega)
      rw [Nat.add_zero] at hX0
      clear hx hy hx' hy' hcX hcY hfy hax
      generalize xs.getD 0 0 = a at *
      generalize xs.getD (xs.length - 1) 0 = c at *
      generalize ys.getD (xs.length - 1) 0 = b at *
      generalize ys.length = m at *
      generalize xs.length = n at *
      obtain rfl : n = m := hl
      have hn2 : (0 : Int) < (n : Int) := by omega
      go_enter Try.func116, Try.ntmps116
      go_wp2
      go_ret
      exact ⟨by rw [H.out]; rfl, by (repeat' (first | (with_reducible exact Below.refl _ _) | (with_reducible assumption) | (with_reducible refine below_alloc ?_ _) | (with_reducible refine Below.drew ?_) | (with_reducible refine below_drewN ?_ _) | (with_reducible refine below_step (by assumption) ?_) | (with_reducible refine below_later ?_ _) | (with_reducible refine Below.setCell ?_ ?_ _) | go_size))⟩
    · obtain ⟨s1, s2, s3⟩ := seg_spec hax h0 h1
      have hXs := hcX (segI xs x) (by omega)
      have hXs1 := hcX (segI xs x + 1) (by omega)
      have hYs := hcY (segI xs x) (by omega)
      have hYs1 := hcY (segI xs x + 1) (by omega)
      have f1 := far_bd hax.2.2.1 (show segI xs x < xs.length by omega)
      have f2 := far_bd hax.2.2.1 (show segI xs x + 1 < xs.length by omega)
      have f3 := far_bd hfy (show segI xs x < ys.length by omega)
      have f4 := far_bd hfy (show segI xs x + 1 < ys.length by omega)
      have H := Lib.hid (show cval xs ys x = _ by simp only [cval, h0, h1, if_false]; rfl)
      have HSEG : Hid (∀ w', Below w.heap.size w w' → Calls Try.prog 134 #[.agg #[.slice (some ⟨bX, offX, none⟩) xs.length cx, .slice (some ⟨bY, offY, none⟩) ys.length cy], .int .i64 x] w' fun e w'' => e = .returned (.int .i64 (segI xs x)) ∧ Below w'.heap.size w' w'') :=
        Lib.hid (fun w' hb => segment_any _ _ _ _ xs ys x w' (hx.later hb) hax h0 h1)
      rw [Nat.add_zero] at hX0
      clear hx hy hx' hy' hcX hcY hfy hax
      generalize xs.getD (xs.length - 1) 0 = q at *
      generalize xs.getD 0 0 = z at *
      generalize segI xs x = s at *
      generalize xs.getD s 0 = a at *
      generalize xs.getD (s + 1) 0 = b at *
      generalize ys.getD s 0 = c at *
      generalize ys.getD (s + 1) 0 = d at *
      obtain ⟨p1, p2, p3, p4⟩ := cval_num (x := x) (a := a) (b := b) (c := c) (d := d) f1.1 f2.2 s2 s3 f3.1 f3.2 f4.1 f4.2
      generalize ys.length = m at *
      generalize xs.length = n at *
      obtain rfl : n = m := hl
      have hn2 : (0 : Int) < (n : Int) := by omega
      have i1 : (s : Int) < n := by omega
      have i2 : (s : Int) + 1 < n := by omega
      have i3 : (0 : Int) ≤ s := by omega
      have i4 : (0 : Int) ≤ (s : Int) + 1 := by omega
      have i5 : ((s : Int) + 1).toNat = s + 1 := by omega
      have w1 : IntKind.i64.wrap ((s : Int) + 1) = (s : Int) + 1 := IntWalk.i64_in _ (by omega)
      have w2 : IntKind.i64.wrap (x - a) = x - a := IntWalk.i64_in _ (by omega)
      have w3 : IntKind.i64.wrap (d - c) = d - c := IntWalk.i64_in _ (by omega)
      have w4 : IntKind.i64.wrap (b - a) = b - a := IntWalk.i64_in _ (by omega)
      have w5 : IntKind.i64.wrap ((x - a) * (d - c)) = (x - a) * (d - c) := IntWalk.i64_in _ (by omega)
      have w6 : IntKind.i64.wrap (c + (x - a) * (d - c) / (b - a)) = c + (x - a) * (d - c) / (b - a) := IntWalk.i64_in _ (by omega)
      have HF : Hid (∀ w', Calls Try.prog 93 #[.int .i64 ((x - a) * (d - c)), .int .i64 (b - a)] w' fun e w'' => e = .returned (.int .i64 ((x - a) * (d - c) / (b - a))) ∧ Below w'.heap.size w' w'') :=
        Lib.hid (fun w' => floor_any p1 p2 (by omega) (by omega) w')
      clear p3 p4
      go_enter Try.func116, Try.ntmps116
      go_wp2_with ((go_at_call 134; refine (HSEG.out _ (by (repeat' (first | (with_reducible exact Below.refl _ _) | (with_reducible assumption) | (with_reducible refine below_alloc ?_ _) | (with_reducible refine Below.drew ?_) | (with_reducible refine below_drewN ?_ _) | (with_reducible refine below_step (by assumption) ?_) | (with_reducible refine below_later ?_ _) | (with_reducible refine Below.setCell ?_ ?_ _) | go_size)))).mono ?_; rintro e hb1w ⟨rfl, hb1⟩; obtain ⟨hb1c, hb1f⟩ := bcell hb1; have hb1s := hb1.size; (try simp only [World.size_alloc] at hb1s); (try (have : w.heap.size < hb1w.heap.size := by omega)); (try (have : w.heap.size + 1 < hb1w.heap.size := by omega)); (try (have : w.heap.size + 1 + 1 < hb1w.heap.size := by omega)); (try (have : w.heap.size + 1 + 1 + 1 < hb1w.heap.size := by omega)); (try (have : bX < hb1w.heap.size := by omega)); (try (have : bY < hb1w.heap.size := by omega)); (try (have : bZ < hb1w.heap.size := by omega))))
      have hbw : Below w.heap.size w hb1w := by (repeat' (first | (with_reducible exact Below.refl _ _) | (with_reducible assumption) | (with_reducible refine below_alloc ?_ _) | (with_reducible refine Below.drew ?_) | (with_reducible refine below_drewN ?_ _) | (with_reducible refine below_step (by assumption) ?_) | (with_reducible refine below_later ?_ _) | (with_reducible refine Below.setCell ?_ ?_ _) | go_size))
      rw [← hbw.cell (p := ⟨bX, offX + s, none⟩) hbX] at hXs
      rw [← hbw.cell (p := ⟨bX, offX + (s + 1), none⟩) hbX] at hXs1
      rw [← hbw.cell (p := ⟨bY, offY + s, none⟩) hbY] at hYs
      rw [← hbw.cell (p := ⟨bY, offY + (s + 1), none⟩) hbY] at hYs1
      (refine wp_region_later (by kernel_rfl) (by kernel_rfl) ?_; (repeat (go_big_quiet_step ((go_at_call 93; exact later_call (HF.out _))))); refine wpQuiet_nil ?_; rintro _ ⟨e1, rfl⟩; have e1s := e1.h.size; (try simp only [World.size_alloc, World.size_drewN, World.drewN_heap] at e1s); (try (have : w.heap.size < e1.w.heap.size := by omega)); (try (have : w.heap.size + 1 < e1.w.heap.size := by omega)); (try (have : w.heap.size + 1 + 1 < e1.w.heap.size := by omega)); (try (have : w.heap.size + 1 + 1 + 1 < e1.w.heap.size := by omega)); (try (have : bX < e1.w.heap.size := by omega)); (try (have : bY < e1.w.heap.size := by omega)); (try (have : bZ < e1.w.heap.size := by omega)))
      go_wp2
      go_ret
      exact ⟨by rw [H.out]; rfl, by (repeat' (first | (with_reducible exact Below.refl _ _) | (with_reducible assumption) | (with_reducible refine below_alloc ?_ _) | (with_reducible refine Below.drew ?_) | (with_reducible refine below_drewN ?_ _) | (with_reducible refine below_step (by assumption) ?_) | (with_reducible refine below_later ?_ _) | (with_reducible refine Below.setCell ?_ ?_ _) | go_size))⟩

theorem at_any (rx ry : Option Addr) (cx cy : Nat) (xs ys : List Int) (x : Int) (w : World) (hx : IsInts w rx cx .i64 xs) (hy : IsInts w ry cy .i64 ys) (hok : CurveOk xs ys) :
    Calls Try.prog 85 #[.agg #[.slice rx xs.length cx, .slice ry ys.length cy], .int .i64 x] w fun e w' => e = .returned (.int .i64 (cval xs ys x)) ∧ Below w.heap.size w w' := by
  have HX : Hid (∀ w', Below w.heap.size w w' → IsInts w' rx cx .i64 xs) := Lib.hid (fun _ h => hx.later h)
  have HY : Hid (∀ w', Below w.heap.size w w' → IsInts w' ry cy .i64 ys) := Lib.hid (fun _ h => hy.later h)
  have hv := curveB_true.2 hok
  have HOK := Lib.hid hok
  clear hx hy hok
  go_enter Try.func85, Try.ntmps85
  go_wp2_with (first | (go_at_call 64; refine (curveValid_any _ _ _ _ _ _ _ (HX.out _ (by (repeat' (first | (with_reducible exact Below.refl _ _) | (with_reducible assumption) | (with_reducible refine below_alloc ?_ _) | (with_reducible refine Below.drew ?_) | (with_reducible refine below_drewN ?_ _) | (with_reducible refine below_step (by assumption) ?_) | (with_reducible refine below_later ?_ _) | (with_reducible refine Below.setCell ?_ ?_ _) | go_size)))) (HY.out _ (by (repeat' (first | (with_reducible exact Below.refl _ _) | (with_reducible assumption) | (with_reducible refine below_alloc ?_ _) | (with_reducible refine Below.drew ?_) | (with_reducible refine below_drewN ?_ _) | (with_reducible refine below_step (by assumption) ?_) | (with_reducible refine below_later ?_ _) | (with_reducible refine Below.setCell ?_ ?_ _) | go_size))))).mono ?_; rintro e hb1w ⟨rfl, hb1⟩; obtain ⟨hb1c, hb1f⟩ := bcell hb1; have hb1s := hb1.size; (try simp only [World.size_alloc] at hb1s); (try (have : w.heap.size < hb1w.heap.size := by omega)); (try (have : w.heap.size + 1 < hb1w.heap.size := by omega)); (try (have : w.heap.size + 1 + 1 < hb1w.heap.size := by omega)); (try (have : w.heap.size + 1 + 1 + 1 < hb1w.heap.size := by omega)); (try (have : bX < hb1w.heap.size := by omega)); (try (have : bY < hb1w.heap.size := by omega)); (try (have : bZ < hb1w.heap.size := by omega))) | (go_at_call 116; refine (value_any _ _ _ _ _ _ _ _ (HX.out _ (by (repeat' (first | (with_reducible exact Below.refl _ _) | (with_reducible assumption) | (with_reducible refine below_alloc ?_ _) | (with_reducible refine Below.drew ?_) | (with_reducible refine below_drewN ?_ _) | (with_reducible refine below_step (by assumption) ?_) | (with_reducible refine below_later ?_ _) | (with_reducible refine Below.setCell ?_ ?_ _) | go_size)))) (HY.out _ (by (repeat' (first | (with_reducible exact Below.refl _ _) | (with_reducible assumption) | (with_reducible refine below_alloc ?_ _) | (with_reducible refine Below.drew ?_) | (with_reducible refine below_drewN ?_ _) | (with_reducible refine below_step (by assumption) ?_) | (with_reducible refine below_later ?_ _) | (with_reducible refine Below.setCell ?_ ?_ _) | go_size)))) HOK.out).mono ?_; rintro e hb2w ⟨rfl, hb2⟩; obtain ⟨hb2c, hb2f⟩ := bcell hb2; have hb2s := hb2.size; (try simp only [World.size_alloc] at hb2s); (try (have : w.heap.size < hb2w.heap.size := by omega)); (try (have : w.heap.size + 1 < hb2w.heap.size := by omega)); (try (have : w.heap.size + 1 + 1 < hb2w.heap.size := by omega)); (try (have : w.heap.size + 1 + 1 + 1 < hb2w.heap.size := by omega)); (try (have : bX < hb2w.heap.size := by omega)); (try (have : bY < hb2w.heap.size := by omega)); (try (have : bZ < hb2w.heap.size := by omega))))
  go_ret
  exact ⟨rfl, by (repeat' (first | (with_reducible exact Below.refl _ _) | (with_reducible assumption) | (with_reducible refine below_alloc ?_ _) | (with_reducible refine Below.drew ?_) | (with_reducible refine below_drewN ?_ _) | (with_reducible refine below_step (by assumption) ?_) | (with_reducible refine below_later ?_ _) | (with_reducible refine Below.setCell ?_ ?_ _) | go_size))⟩

end Go.Proofs.Ytohdbneaganfbaa
