/- The law FuelExact returns true for every body, film and mass. No conditions. -/
import Derived.Test.YtmfldcjecajkoaaFuelCons
namespace Go.Proofs.Ytmfldcjecajkoaa
set_option linter.unusedVariables false
set_option linter.unusedSimpArgs false
open Go.RowKit Go.ChangeShapes Go.WideShapes Go.ChangeAt

theorem film3_at {f e film : Int} {i : Nat} (mass : Int) (h : goodB f e = true) (f1 : 0 ≤ film) (f2 : film ≤ 16777215) (i2 : i ≤ 1048576) :
    film3 f e film i = (mass - lackI f e film mass i, film + wallI f i - wallI e film, 0) := by
  have ⟨g1, g2, g3, g4⟩ := goodB_spec h
  have ⟨_, _, b1, b2⟩ := wallI_bd g1 (by omega) (show 0 ≤ (i : Int) by omega) (by omega)
  have ⟨_, _, b3, b4⟩ := wallI_bd g3 (by omega) f1 (by omega)
  have hi : inB i 0 1048576 = true := by simp [inB]; omega
  have hf : inB film 0 1073741824 = true := by simp [inB]; omega
  simp only [film3, h, hi, hf, if_true, and_self]
  rw [if_neg (by omega)]
  unfold lackI
  rw [show mass - (mass - ((i : Int) - wallI f i + wallI e film)) = (i : Int) - wallI f i + wallI e film by omega]

set_option maxRecDepth 100000 in
theorem exact_walk (a0 a1 a2 a3 a4 a5 a6 x y : Int) (w : World) (hx : (Lit.int .u32 x).wf = true) (hy : (Lit.int .u32 y).wf = true) :
    Calls Try.prog 6 #[.agg #[.int .i64 a0, .int .i64 a1, .int .i64 a2, .int .i64 a3, .int .i64 a4, .int .i64 a5, .int .i64 a6], .int .u32 x, .int .u32 y] w fun e w' => e = .returned (.bool true) ∧ Below w.heap.size w w' := by
  have ⟨x1, x2⟩ := u32_bd hx
  have ⟨y1, y2⟩ := u32_bd hy
  clear hx hy
  by_cases hg : goodB a4 a5 = true
  · have ⟨g1, g2, g3, g4⟩ := goodB_spec hg
    have hf : inB (x % 16777216) 0 1073741824 = true := by simp [inB]; omega
    have hm : inB (y % 1048577) 0 1048576 = true := by simp [inB]; omega
    obtain ⟨r, hr⟩ : ∃ r, wantR a4 a5 (x % 16777216) (y % 1048577) = r := ⟨_, rfl⟩
    by_cases hbig : r > 1048576
    · have hw : want3 a4 a5 (x % 16777216) (y % 1048577) = (0, 0, 9) := by simp [want3, hg, hf, hm, hr, hbig]
      have hF := film3_at (i := 1048576) (y % 1048577) hg (show 0 ≤ x % 16777216 by omega) (by omega) (by omega)
      have hlack := wantR_below (show 1048576 < wantR a4 a5 (x % 16777216) (y % 1048577) by omega)
      rw [show ((1048576 : Nat) : Int) = 1048576 from rfl] at hF
      have hlt : y % 1048577 - lackI a4 a5 (x % 16777216) (y % 1048577) 1048576 < y % 1048577 := by omega
      generalize y % 1048577 - lackI a4 a5 (x % 16777216) (y % 1048577) 1048576 = c at hF hlt
      clear hg hf hm hr hbig hlack
      go_enter Try.func6, Try.ntmps6
      go_wp2_with (first | (go_at_call 12; refine (awake_any _).mono ?_; rintro e hb1w ⟨rfl, hb1⟩; obtain ⟨hb1c, hb1f⟩ := bcell hb1; have hb1s := hb1.size; (try simp only [World.size_alloc] at hb1s); (try (have : w.heap.size < hb1w.heap.size := by omega)); (try (have : w.heap.size + 1 < hb1w.heap.size := by omega)); (try (have : w.heap.size + 2 < hb1w.heap.size := by omega))) | (go_at_call 15; refine (want_any _ _ _ _ _ _ _ _ _ _).mono ?_; rintro e hb2w ⟨rfl, hb2⟩; obtain ⟨hb2c, hb2f⟩ := bcell hb2; have hb2s := hb2.size; (try simp only [World.size_alloc] at hb2s); (try (have : w.heap.size < hb2w.heap.size := by omega)); (try (have : w.heap.size + 1 < hb2w.heap.size := by omega)); (try (have : w.heap.size + 2 < hb2w.heap.size := by omega))) | (go_at_call 13; refine (film_any _ _ _ _ _ _ _ _ _ _).mono ?_; rintro e hb3w ⟨rfl, hb3⟩; obtain ⟨hb3c, hb3f⟩ := bcell hb3; have hb3s := hb3.size; (try simp only [World.size_alloc] at hb3s); (try (have : w.heap.size < hb3w.heap.size := by omega)); (try (have : w.heap.size + 1 < hb3w.heap.size := by omega)); (try (have : w.heap.size + 2 < hb3w.heap.size := by omega))))
      go_ret
      exact ⟨by simp, by (repeat' (first | (with_reducible exact Below.refl _ _) | (with_reducible assumption) | (with_reducible refine below_alloc ?_ _) | (with_reducible refine Below.drew ?_) | (with_reducible refine below_drewN ?_ _) | (with_reducible refine below_step (by assumption) ?_) | (with_reducible refine below_later ?_ _) | (with_reducible refine Below.setCell ?_ ?_ _) | go_size))⟩
    · have ⟨_, _, b1, b2⟩ := wallI_bd g1 (by omega) (show 0 ≤ (r : Int) by omega) (by omega)
      have ⟨_, _, b3, b4⟩ := wallI_bd g3 (by omega) (show 0 ≤ x % 16777216 by omega) (by omega)
      have hw : want3 a4 a5 (x % 16777216) (y % 1048577) = ((r : Int), x % 16777216 + wallI a4 r - wallI a5 (x % 16777216), 0) := by
        simp only [want3, hg, hf, hm, hr, and_self, if_true]
        rw [if_neg (by omega), if_neg (by omega)]
      have hF := film3_at (i := r) (y % 1048577) hg (show 0 ≤ x % 16777216 by omega) (by omega) (by omega)
      have hl := wantR_above g1 g2 (show wantR a4 a5 (x % 16777216) (y % 1048577) ≤ r by omega) (by omega)
      by_cases h0 : r = 0
      · subst h0
        have hge : y % 1048577 ≤ y % 1048577 - lackI a4 a5 (x % 16777216) (y % 1048577) 0 := by omega
        generalize y % 1048577 - lackI a4 a5 (x % 16777216) (y % 1048577) 0 = c at hF hge
        generalize x % 16777216 + wallI a4 (0 : Nat) - wallI a5 (x % 16777216) = nx at hF hw
        simp only [Int.natCast_zero] at hF hw
        clear hg hf hm hr hbig hl b1 b2
        go_enter Try.func6, Try.ntmps6
        go_wp2_with (first | (go_at_call 12; refine (awake_any _).mono ?_; rintro e hb1w ⟨rfl, hb1⟩; obtain ⟨hb1c, hb1f⟩ := bcell hb1; have hb1s := hb1.size; (try simp only [World.size_alloc] at hb1s); (try (have : w.heap.size < hb1w.heap.size := by omega)); (try (have : w.heap.size + 1 < hb1w.heap.size := by omega)); (try (have : w.heap.size + 2 < hb1w.heap.size := by omega))) | (go_at_call 15; refine (want_any _ _ _ _ _ _ _ _ _ _).mono ?_; rintro e hb2w ⟨rfl, hb2⟩; obtain ⟨hb2c, hb2f⟩ := bcell hb2; have hb2s := hb2.size; (try simp only [World.size_alloc] at hb2s); (try (have : w.heap.size < hb2w.heap.size := by omega)); (try (have : w.heap.size + 1 < hb2w.heap.size := by omega)); (try (have : w.heap.size + 2 < hb2w.heap.size := by omega))) | (go_at_call 13; refine (film_any _ _ _ _ _ _ _ _ _ _).mono ?_; rintro e hb3w ⟨rfl, hb3⟩; obtain ⟨hb3c, hb3f⟩ := bcell hb3; have hb3s := hb3.size; (try simp only [World.size_alloc] at hb3s); (try (have : w.heap.size < hb3w.heap.size := by omega)); (try (have : w.heap.size + 1 < hb3w.heap.size := by omega)); (try (have : w.heap.size + 2 < hb3w.heap.size := by omega))))
        go_ret
        exact ⟨by simp, by (repeat' (first | (with_reducible exact Below.refl _ _) | (with_reducible assumption) | (with_reducible refine below_alloc ?_ _) | (with_reducible refine Below.drew ?_) | (with_reducible refine below_drewN ?_ _) | (with_reducible refine below_step (by assumption) ?_) | (with_reducible refine below_later ?_ _) | (with_reducible refine Below.setCell ?_ ?_ _) | go_size))⟩
      · obtain ⟨q, rfl⟩ : ∃ q, r = q + 1 := ⟨r - 1, by omega⟩
        have hF2 := film3_at (i := q) (y % 1048577) hg (show 0 ≤ x % 16777216 by omega) (by omega) (by omega)
        have hl2 := wantR_below (show q < wantR a4 a5 (x % 16777216) (y % 1048577) by omega)
        have hs := netI_succ g1 g2 q
        have heq : lackI a4 a5 (x % 16777216) (y % 1048577) (q + 1) = 0 := by
          unfold netI at hs
          unfold lackI at hl hl2 ⊢
          omega
        have hlt : y % 1048577 - lackI a4 a5 (x % 16777216) (y % 1048577) q < y % 1048577 := by omega
        rw [heq, Int.sub_zero] at hF
        generalize y % 1048577 - lackI a4 a5 (x % 16777216) (y % 1048577) q = c at hF2 hlt
        generalize x % 16777216 + wallI a4 (q + 1 : Nat) - wallI a5 (x % 16777216) = nx at hF hw
        simp only [Int.natCast_add, Int.natCast_one] at hF hw
        have q1 : (q : Int) + 1 ≤ 1048576 := by omega
        have q2 : ((q : Int) + 1 == 0) = false := by simp; omega
        clear hg hf hm hr hbig hl b1 b2 hl2 hs heq h0
        have qz : 0 ≤ (q : Int) := by omega
        generalize (q : Int) = z at hF hF2 hw q1 q2 qz
        have qe : z + 1 - 1 = z := by omega
        go_enter Try.func6, Try.ntmps6
        go_wp2_with (first | (go_at_call 12; refine (awake_any _).mono ?_; rintro e hb1w ⟨rfl, hb1⟩; obtain ⟨hb1c, hb1f⟩ := bcell hb1; have hb1s := hb1.size; (try simp only [World.size_alloc] at hb1s); (try (have : w.heap.size < hb1w.heap.size := by omega)); (try (have : w.heap.size + 1 < hb1w.heap.size := by omega)); (try (have : w.heap.size + 2 < hb1w.heap.size := by omega))) | (go_at_call 15; refine (want_any _ _ _ _ _ _ _ _ _ _).mono ?_; rintro e hb2w ⟨rfl, hb2⟩; obtain ⟨hb2c, hb2f⟩ := bcell hb2; have hb2s := hb2.size; (try simp only [World.size_alloc] at hb2s); (try (have : w.heap.size < hb2w.heap.size := by omega)); (try (have : w.heap.size + 1 < hb2w.heap.size := by omega)); (try (have : w.heap.size + 2 < hb2w.heap.size := by omega))) | (go_at_call 13; refine (film_any _ _ _ _ _ _ _ _ _ _).mono ?_; rintro e hb3w ⟨rfl, hb3⟩; obtain ⟨hb3c, hb3f⟩ := bcell hb3; have hb3s := hb3.size; (try simp only [World.size_alloc] at hb3s); (try (have : w.heap.size < hb3w.heap.size := by omega)); (try (have : w.heap.size + 1 < hb3w.heap.size := by omega)); (try (have : w.heap.size + 2 < hb3w.heap.size := by omega))))
        all_goals go_ret
        all_goals exact ⟨by simp, by (repeat' (first | (with_reducible exact Below.refl _ _) | (with_reducible assumption) | (with_reducible refine below_alloc ?_ _) | (with_reducible refine Below.drew ?_) | (with_reducible refine below_drewN ?_ _) | (with_reducible refine below_step (by assumption) ?_) | (with_reducible refine below_later ?_ _) | (with_reducible refine Below.setCell ?_ ?_ _) | go_size))⟩
  · have hw : want3 a4 a5 (x % 16777216) (y % 1048577) = (0, 0, 1) := by simp [want3, hg]
    have hF : film3 a4 a5 (x % 16777216) 0 = (0, 0, 1) := film3_bad hg
    clear hg
    go_enter Try.func6, Try.ntmps6
    go_wp2_with (first | (go_at_call 12; refine (awake_any _).mono ?_; rintro e hb1w ⟨rfl, hb1⟩; obtain ⟨hb1c, hb1f⟩ := bcell hb1; have hb1s := hb1.size; (try simp only [World.size_alloc] at hb1s); (try (have : w.heap.size < hb1w.heap.size := by omega)); (try (have : w.heap.size + 1 < hb1w.heap.size := by omega)); (try (have : w.heap.size + 2 < hb1w.heap.size := by omega))) | (go_at_call 15; refine (want_any _ _ _ _ _ _ _ _ _ _).mono ?_; rintro e hb2w ⟨rfl, hb2⟩; obtain ⟨hb2c, hb2f⟩ := bcell hb2; have hb2s := hb2.size; (try simp only [World.size_alloc] at hb2s); (try (have : w.heap.size < hb2w.heap.size := by omega)); (try (have : w.heap.size + 1 < hb2w.heap.size := by omega)); (try (have : w.heap.size + 2 < hb2w.heap.size := by omega))) | (go_at_call 13; refine (film_any _ _ _ _ _ _ _ _ _ _).mono ?_; rintro e hb3w ⟨rfl, hb3⟩; obtain ⟨hb3c, hb3f⟩ := bcell hb3; have hb3s := hb3.size; (try simp only [World.size_alloc] at hb3s); (try (have : w.heap.size < hb3w.heap.size := by omega)); (try (have : w.heap.size + 1 < hb3w.heap.size := by omega)); (try (have : w.heap.size + 2 < hb3w.heap.size := by omega))))
    go_ret
    exact ⟨by simp, by (repeat' (first | (with_reducible exact Below.refl _ _) | (with_reducible assumption) | (with_reducible refine below_alloc ?_ _) | (with_reducible refine Below.drew ?_) | (with_reducible refine below_drewN ?_ _) | (with_reducible refine below_step (by assumption) ?_) | (with_reducible refine below_later ?_ _) | (with_reducible refine Below.setCell ?_ ?_ _) | go_size))⟩

set_option maxRecDepth 100000 in
theorem exact_holds : Rows.FuelExactSaid :=
  OpenClaim.holds_of_wide 6 Try.f6 rfl rfl rfl rfl rfl rfl rfl ⟨rfl, rfl, rfl, rfl, rfl⟩ rfl rfl rfl rfl rfl (by kernel_rfl) Try.func6 (by kernel_rfl)
    (of_decide_eq_true (by kernel_rfl)) (by unfold Func.isWrapper; first | (rw [if_pos (by decide +kernel)]; kernel_rfl) | (rw [if_neg (by decide +kernel)]; exact ⟨rfl, rfl⟩))
    (fun os started H enc _ => by
      refine law_frame started (s := Rows.fuelExactSpec) (conds := Rows.fuelExactRow.domain) Try.func6 (by kernel_rfl) rfl 4 rfl Try.underlying4 (by decide +kernel) (fun ds h => ?_)
        (ChangeSpec.witness6 (enc := enc) (C := Try.checked) false ⟨#[], #[.agg #[.int .i64 0, .int .i64 0, .int .i64 0, .int .i64 0, .int .i64 0, .int .i64 0, .int .i64 0], .int .u32 0, .int .u32 0], []⟩ 12 (by kernel_rfl) (by kernel_rfl) (by kernel_rfl) (by kernel_rfl)) ?_
      · match ds, h with
        | [_, _, _], _ => rfl
      · intro W base args ds p hval hA _
        rw [Try.params6] at hA hval
        obtain ⟨v0, vs0, d0, ds0, p0, q0, hargs, rfl, rfl, h0, r0⟩ := trodAll_cons hA
        obtain ⟨v1, vs1, d1, ds1, p1, q1, rfl, rfl, rfl, h1, r1⟩ := trodAll_cons r0
        obtain ⟨v2, vs2, d2, ds2, p2, q2, rfl, rfl, rfl, h2, r2⟩ := trodAll_cons r1
        obtain ⟨rfl, rfl, rfl⟩ := trodAll_nil r2
        obtain rfl : args = #[v0, v1, v2] := by cases args; simp_all
        obtain ⟨cs0, rfl, k0⟩ := arg_agg Try.underlying23 (hval 0 _ v0 rfl rfl) h0
        obtain ⟨a0_0, a1_0, a2_0, a3_0, a4_0, a5_0, a6_0, rfl, g0_0, g1_0, g2_0, g3_0, g4_0, g5_0, g6_0⟩ := open_Body k0
        obtain ⟨b1, rfl, rfl, rfl, w1⟩ := open_int Try.underlying31 (hval 1 _ v1 rfl rfl) h1
        obtain ⟨b2, rfl, rfl, rfl, w2⟩ := open_int Try.underlying31 (hval 2 _ v2 rfl rfl) h2
        apply exact_walk <;> assumption)
#print axioms exact_holds


end Go.Proofs.Ytmfldcjecajkoaa
