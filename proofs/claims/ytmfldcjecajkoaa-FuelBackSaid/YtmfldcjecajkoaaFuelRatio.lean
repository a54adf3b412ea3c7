/- The laws FuelMasses, FuelRatio and FuelSplits return true for every input. No conditions. -/
import Derived.Test.YtmfldcjecajkoaaFuelM
import Derived.Test.YtmfldcjecajkoaaFuelAwake
import Derived.Test.YtmfldcjecajkoaaOpenBody
namespace Go.Proofs.Ytmfldcjecajkoaa
set_option linter.unusedVariables false
set_option linter.unusedSimpArgs false
open Go.RowKit Go.ChangeShapes Go.WideShapes Go.ChangeAt

theorem u32_bd {a : Int} (h : (Lit.int .u32 a).wf = true) : 0 ≤ a ∧ a ≤ 4294967295 := by
  simpa [Lit.wf, IntKind.min, IntKind.max, IntKind.bits, IntKind.signed] using h
theorem u16_bd {a : Int} (h : (Lit.int .u16 a).wf = true) : 0 ≤ a ∧ a ≤ 65535 := by
  simpa [Lit.wf, IntKind.min, IntKind.max, IntKind.bits, IntKind.signed] using h

theorem masses_walk (c f : Int) (w : World) :
    Calls Try.prog 7 #[.int .i64 c, .int .i64 f] w fun e w' => e = .returned (.bool true) ∧ Below w.heap.size w w' := by
  go_enter Try.func7, Try.ntmps7
  go_wp2_with (first | (go_at_call 12; refine (awake_any _).mono ?_; rintro e hb1w ⟨rfl, hb1⟩; obtain ⟨hb1c, hb1f⟩ := bcell hb1; have hb1s := hb1.size; (try simp only [World.size_alloc] at hb1s); (try (have : w.heap.size < hb1w.heap.size := by omega)); (try (have : w.heap.size + 1 < hb1w.heap.size := by omega)); (try (have : w.heap.size + 2 < hb1w.heap.size := by omega))) | (go_at_call 17; refine (mass2_any _ _ _).mono ?_; rintro e hb2w ⟨rfl, hb2⟩; obtain ⟨hb2c, hb2f⟩ := bcell hb2; have hb2s := hb2.size; (try simp only [World.size_alloc] at hb2s); (try (have : w.heap.size < hb2w.heap.size := by omega)); (try (have : w.heap.size + 1 < hb2w.heap.size := by omega)); (try (have : w.heap.size + 2 < hb2w.heap.size := by omega))) | (go_at_call 18; refine (rmass2_any _ _ _).mono ?_; rintro e hb3w ⟨rfl, hb3⟩; obtain ⟨hb3c, hb3f⟩ := bcell hb3; have hb3s := hb3.size; (try simp only [World.size_alloc] at hb3s); (try (have : w.heap.size < hb3w.heap.size := by omega)); (try (have : w.heap.size + 1 < hb3w.heap.size := by omega)); (try (have : w.heap.size + 2 < hb3w.heap.size := by omega))))
  go_ret
  exact ⟨rfl, by (repeat' (first | (with_reducible exact Below.refl _ _) | (with_reducible assumption) | (with_reducible refine below_alloc ?_ _) | (with_reducible refine Below.drew ?_) | (with_reducible refine below_drewN ?_ _) | (with_reducible refine below_step (by assumption) ?_) | (with_reducible refine below_later ?_ _) | (with_reducible refine Below.setCell ?_ ?_ _) | go_size))⟩

theorem ratio_plain {c f : Int} (c1 : 0 ≤ c) (c2 : c ≤ 1048576) (f1 : 500 ≤ f) (f2 : f ≤ 2000) :
    ∃ m, mass2 c f = (m, 0) ∧ 0 ≤ m ∧ m ≤ 10485760000 ∧ 0 ≤ m * f ∧ m * f ≤ 10485760000 ∧ 0 ≤ (m + 1) * f ∧ (m + 1) * f ≤ 10485762000 ∧ m * f * 147 ≤ c * 10000 ∧ c * 10000 < (m + 1) * f * 147 := by
  refine ⟨c * 10000 / (f * 147), by simp [mass2, inB, c1, c2, f1, f2], ?_⟩
  have hD : 0 < f * 147 := by omega
  have h1 := Int.ediv_mul_le (c * 10000) (show f * 147 ≠ 0 by omega)
  have h2 := Int.lt_ediv_add_one_mul_self (c * 10000) hD
  have h0 : 0 ≤ c * 10000 / (f * 147) := Int.ediv_nonneg (by omega) (by omega)
  have h3 : c * 10000 / (f * 147) ≤ c * 10000 := Int.ediv_le_self _ (by omega)
  generalize c * 10000 / (f * 147) = m at *
  have e1 : m * (f * 147) = m * f * 147 := by rw [Int.mul_assoc]
  have e2 : (m + 1) * (f * 147) = (m + 1) * f * 147 := by rw [Int.mul_assoc]
  have e3 : (m + 1) * f = m * f + f := by rw [Int.add_mul]; simp
  rw [e1] at h1
  rw [e2] at h2
  rw [e3] at h2 ⊢
  have h4 : 0 ≤ m * f := Int.mul_nonneg h0 (by omega)
  omega

theorem ratio_walk (x y : Int) (w : World) (hx : (Lit.int .u32 x).wf = true) (hy : (Lit.int .u16 y).wf = true) :
    Calls Try.prog 8 #[.int .u32 x, .int .u16 y] w fun e w' => e = .returned (.bool true) ∧ Below w.heap.size w w' := by
  have ⟨x1, x2⟩ := u32_bd hx
  have ⟨y1, y2⟩ := u16_bd hy
  clear hx hy
  obtain ⟨m, hm, m1, m2, m3, m4, m5, m6, m7, m8⟩ := ratio_plain (c := x % 1048577) (f := 500 + y % 1501) (by omega) (by omega) (by omega) (by omega)
  go_enter Try.func8, Try.ntmps8
  go_wp2_with (first | (go_at_call 12; refine (awake_any _).mono ?_; rintro e hb1w ⟨rfl, hb1⟩; obtain ⟨hb1c, hb1f⟩ := bcell hb1; have hb1s := hb1.size; (try simp only [World.size_alloc] at hb1s); (try (have : w.heap.size < hb1w.heap.size := by omega)); (try (have : w.heap.size + 1 < hb1w.heap.size := by omega)); (try (have : w.heap.size + 2 < hb1w.heap.size := by omega))) | (go_at_call 17; refine (mass2_any _ _ _).mono ?_; rintro e hb2w ⟨rfl, hb2⟩; obtain ⟨hb2c, hb2f⟩ := bcell hb2; have hb2s := hb2.size; (try simp only [World.size_alloc] at hb2s); (try (have : w.heap.size < hb2w.heap.size := by omega)); (try (have : w.heap.size + 1 < hb2w.heap.size := by omega)); (try (have : w.heap.size + 2 < hb2w.heap.size := by omega))))
  go_ret
  exact ⟨rfl, by (repeat' (first | (with_reducible exact Below.refl _ _) | (with_reducible assumption) | (with_reducible refine below_alloc ?_ _) | (with_reducible refine Below.drew ?_) | (with_reducible refine below_drewN ?_ _) | (with_reducible refine below_step (by assumption) ?_) | (with_reducible refine below_later ?_ _) | (with_reducible refine Below.setCell ?_ ?_ _) | go_size))⟩

theorem split3_plain (t s l : Int) : split3 t s l = (0, 0, 2) ∨ (split3 t s l = (t, 0, 0) ∧ 0 ≤ t ∧ t ≤ 1048576) ∨ ∃ a b, split3 t s l = (a, b, 0) ∧ 0 ≤ a ∧ a ≤ 1048576 ∧ 0 ≤ b ∧ b ≤ 1048576 ∧ t = a + b ∧ l ≤ a ∧ l ≤ b := by
  unfold split3
  split
  · rename_i h
    have ⟨t1, t2⟩ := inB_spec h.1
    have ⟨s1, s2⟩ := inB_spec h.2.1
    have ⟨b1, b2, b3, b4⟩ := split_bd t1 t2 s1 s2
    split
    · exact .inr (.inl ⟨rfl, t1, t2⟩)
    · exact .inr (.inr ⟨_, _, rfl, by omega, by omega, by omega, by omega, by omega, by omega, by omega⟩)
  · exact .inl rfl

theorem splits_walk (t s l : Int) (w : World) :
    Calls Try.prog 9 #[.int .i64 t, .int .i64 s, .int .i64 l] w fun e w' => e = .returned (.bool true) ∧ Below w.heap.size w w' := by
  rcases split3_plain t s l with h | ⟨h, t1, t2⟩ | ⟨a, b, h, a1, a2, b1, b2, rfl, l1, l2⟩
  · go_enter Try.func9, Try.ntmps9
    go_wp2_with (first | (go_at_call 12; refine (awake_any _).mono ?_; rintro e hb1w ⟨rfl, hb1⟩; obtain ⟨hb1c, hb1f⟩ := bcell hb1; have hb1s := hb1.size; (try simp only [World.size_alloc] at hb1s); (try (have : w.heap.size < hb1w.heap.size := by omega)); (try (have : w.heap.size + 1 < hb1w.heap.size := by omega)); (try (have : w.heap.size + 2 < hb1w.heap.size := by omega))) | (go_at_call 19; refine (split_any _ _ _ _).mono ?_; rintro e hb2w ⟨rfl, hb2⟩; obtain ⟨hb2c, hb2f⟩ := bcell hb2; have hb2s := hb2.size; (try simp only [World.size_alloc] at hb2s); (try (have : w.heap.size < hb2w.heap.size := by omega)); (try (have : w.heap.size + 1 < hb2w.heap.size := by omega)); (try (have : w.heap.size + 2 < hb2w.heap.size := by omega))) | (go_at_call 20; refine (rsplit_any _ _ _ _).mono ?_; rintro e hb3w ⟨rfl, hb3⟩; obtain ⟨hb3c, hb3f⟩ := bcell hb3; have hb3s := hb3.size; (try simp only [World.size_alloc] at hb3s); (try (have : w.heap.size < hb3w.heap.size := by omega)); (try (have : w.heap.size + 1 < hb3w.heap.size := by omega)); (try (have : w.heap.size + 2 < hb3w.heap.size := by omega))))
    go_ret
    exact ⟨rfl, by (repeat' (first | (with_reducible exact Below.refl _ _) | (with_reducible assumption) | (with_reducible refine below_alloc ?_ _) | (with_reducible refine Below.drew ?_) | (with_reducible refine below_drewN ?_ _) | (with_reducible refine below_step (by assumption) ?_) | (with_reducible refine below_later ?_ _) | (with_reducible refine Below.setCell ?_ ?_ _) | go_size))⟩
  · go_enter Try.func9, Try.ntmps9
    go_wp2_with (first | (go_at_call 12; refine (awake_any _).mono ?_; rintro e hb1w ⟨rfl, hb1⟩; obtain ⟨hb1c, hb1f⟩ := bcell hb1; have hb1s := hb1.size; (try simp only [World.size_alloc] at hb1s); (try (have : w.heap.size < hb1w.heap.size := by omega)); (try (have : w.heap.size + 1 < hb1w.heap.size := by omega)); (try (have : w.heap.size + 2 < hb1w.heap.size := by omega))) | (go_at_call 19; refine (split_any _ _ _ _).mono ?_; rintro e hb2w ⟨rfl, hb2⟩; obtain ⟨hb2c, hb2f⟩ := bcell hb2; have hb2s := hb2.size; (try simp only [World.size_alloc] at hb2s); (try (have : w.heap.size < hb2w.heap.size := by omega)); (try (have : w.heap.size + 1 < hb2w.heap.size := by omega)); (try (have : w.heap.size + 2 < hb2w.heap.size := by omega))) | (go_at_call 20; refine (rsplit_any _ _ _ _).mono ?_; rintro e hb3w ⟨rfl, hb3⟩; obtain ⟨hb3c, hb3f⟩ := bcell hb3; have hb3s := hb3.size; (try simp only [World.size_alloc] at hb3s); (try (have : w.heap.size < hb3w.heap.size := by omega)); (try (have : w.heap.size + 1 < hb3w.heap.size := by omega)); (try (have : w.heap.size + 2 < hb3w.heap.size := by omega))))
    go_ret
    exact ⟨by simp, by (repeat' (first | (with_reducible exact Below.refl _ _) | (with_reducible assumption) | (with_reducible refine below_alloc ?_ _) | (with_reducible refine Below.drew ?_) | (with_reducible refine below_drewN ?_ _) | (with_reducible refine below_step (by assumption) ?_) | (with_reducible refine below_later ?_ _) | (with_reducible refine Below.setCell ?_ ?_ _) | go_size))⟩
  · by_cases hb : b = 0
    · subst hb
      simp only [Int.add_zero] at h ⊢
      go_enter Try.func9, Try.ntmps9
      go_wp2_with (first | (go_at_call 12; refine (awake_any _).mono ?_; rintro e hb1w ⟨rfl, hb1⟩; obtain ⟨hb1c, hb1f⟩ := bcell hb1; have hb1s := hb1.size; (try simp only [World.size_alloc] at hb1s); (try (have : w.heap.size < hb1w.heap.size := by omega)); (try (have : w.heap.size + 1 < hb1w.heap.size := by omega)); (try (have : w.heap.size + 2 < hb1w.heap.size := by omega))) | (go_at_call 19; refine (split_any _ _ _ _).mono ?_; rintro e hb2w ⟨rfl, hb2⟩; obtain ⟨hb2c, hb2f⟩ := bcell hb2; have hb2s := hb2.size; (try simp only [World.size_alloc] at hb2s); (try (have : w.heap.size < hb2w.heap.size := by omega)); (try (have : w.heap.size + 1 < hb2w.heap.size := by omega)); (try (have : w.heap.size + 2 < hb2w.heap.size := by omega))) | (go_at_call 20; refine (rsplit_any _ _ _ _).mono ?_; rintro e hb3w ⟨rfl, hb3⟩; obtain ⟨hb3c, hb3f⟩ := bcell hb3; have hb3s := hb3.size; (try simp only [World.size_alloc] at hb3s); (try (have : w.heap.size < hb3w.heap.size := by omega)); (try (have : w.heap.size + 1 < hb3w.heap.size := by omega)); (try (have : w.heap.size + 2 < hb3w.heap.size := by omega))))
      go_ret
      exact ⟨by simp, by (repeat' (first | (with_reducible exact Below.refl _ _) | (with_reducible assumption) | (with_reducible refine below_alloc ?_ _) | (with_reducible refine Below.drew ?_) | (with_reducible refine below_drewN ?_ _) | (with_reducible refine below_step (by assumption) ?_) | (with_reducible refine below_later ?_ _) | (with_reducible refine Below.setCell ?_ ?_ _) | go_size))⟩
    · go_enter Try.func9, Try.ntmps9
      go_wp2_with (first | (go_at_call 12; refine (awake_any _).mono ?_; rintro e hb1w ⟨rfl, hb1⟩; obtain ⟨hb1c, hb1f⟩ := bcell hb1; have hb1s := hb1.size; (try simp only [World.size_alloc] at hb1s); (try (have : w.heap.size < hb1w.heap.size := by omega)); (try (have : w.heap.size + 1 < hb1w.heap.size := by omega)); (try (have : w.heap.size + 2 < hb1w.heap.size := by omega))) | (go_at_call 19; refine (split_any _ _ _ _).mono ?_; rintro e hb2w ⟨rfl, hb2⟩; obtain ⟨hb2c, hb2f⟩ := bcell hb2; have hb2s := hb2.size; (try simp only [World.size_alloc] at hb2s); (try (have : w.heap.size < hb2w.heap.size := by omega)); (try (have : w.heap.size + 1 < hb2w.heap.size := by omega)); (try (have : w.heap.size + 2 < hb2w.heap.size := by omega))) | (go_at_call 20; refine (rsplit_any _ _ _ _).mono ?_; rintro e hb3w ⟨rfl, hb3⟩; obtain ⟨hb3c, hb3f⟩ := bcell hb3; have hb3s := hb3.size; (try simp only [World.size_alloc] at hb3s); (try (have : w.heap.size < hb3w.heap.size := by omega)); (try (have : w.heap.size + 1 < hb3w.heap.size := by omega)); (try (have : w.heap.size + 2 < hb3w.heap.size := by omega))))
      go_ret
      exact ⟨by simp, by (repeat' (first | (with_reducible exact Below.refl _ _) | (with_reducible assumption) | (with_reducible refine below_alloc ?_ _) | (with_reducible refine Below.drew ?_) | (with_reducible refine below_drewN ?_ _) | (with_reducible refine below_step (by assumption) ?_) | (with_reducible refine below_later ?_ _) | (with_reducible refine Below.setCell ?_ ?_ _) | go_size))⟩

set_option maxRecDepth 100000 in
theorem masses_holds : Rows.FuelMassesSaid :=
  OpenClaim.holds_of_wide 7 Try.f7 rfl rfl rfl rfl rfl rfl rfl ⟨rfl, rfl, rfl, rfl, rfl⟩ rfl rfl rfl rfl rfl (by kernel_rfl) Try.func7 (by kernel_rfl)
    (of_decide_eq_true (by kernel_rfl)) (by unfold Func.isWrapper; first | (rw [if_pos (by decide +kernel)]; kernel_rfl) | (rw [if_neg (by decide +kernel)]; exact ⟨rfl, rfl⟩))
    (fun os started H enc _ => by
      refine law_frame started (s := Rows.fuelMassesSpec) (conds := Rows.fuelMassesRow.domain) Try.func7 (by kernel_rfl) rfl 4 rfl Try.underlying4 (by decide +kernel) (fun ds h => ?_)
        (ChangeSpec.witness6 (enc := enc) (C := Try.checked) false ⟨#[], #[.int .i64 0, .int .i64 0], []⟩ 12 (by kernel_rfl) (by kernel_rfl) (by kernel_rfl) (by kernel_rfl)) ?_
      · match ds, h with
        | [_, _], _ => rfl
      · intro W base args ds p hval hA _
        rw [Try.params7] at hA hval
        obtain ⟨v0, vs0, d0, ds0, p0, q0, hargs, rfl, rfl, h0, r0⟩ := trodAll_cons hA
        obtain ⟨v1, vs1, d1, ds1, p1, q1, rfl, rfl, rfl, h1, r1⟩ := trodAll_cons r0
        obtain ⟨rfl, rfl, rfl⟩ := trodAll_nil r1
        obtain rfl : args = #[v0, v1] := by cases args; simp_all
        obtain ⟨b0, rfl, rfl, rfl, w0⟩ := open_int Try.underlying3 (hval 0 _ v0 rfl rfl) h0
        obtain ⟨b1, rfl, rfl, rfl, w1⟩ := open_int Try.underlying3 (hval 1 _ v1 rfl rfl) h1
        apply masses_walk <;> assumption)
#print axioms masses_holds

set_option maxRecDepth 100000 in
theorem ratio_holds : Rows.FuelRatioSaid :=
  OpenClaim.holds_of_wide 8 Try.f8 rfl rfl rfl rfl rfl rfl rfl ⟨rfl, rfl, rfl, rfl, rfl⟩ rfl rfl rfl rfl rfl (by kernel_rfl) Try.func8 (by kernel_rfl)
    (of_decide_eq_true (by kernel_rfl)) (by unfold Func.isWrapper; first | (rw [if_pos (by decide +kernel)]; kernel_rfl) | (rw [if_neg (by decide +kernel)]; exact ⟨rfl, rfl⟩))
    (fun os started H enc _ => by
      refine law_frame started (s := Rows.fuelRatioSpec) (conds := Rows.fuelRatioRow.domain) Try.func8 (by kernel_rfl) rfl 4 rfl Try.underlying4 (by decide +kernel) (fun ds h => ?_)
        (ChangeSpec.witness6 (enc := enc) (C := Try.checked) false ⟨#[], #[.int .u32 0, .int .u16 0], []⟩ 12 (by kernel_rfl) (by kernel_rfl) (by kernel_rfl) (by kernel_rfl)) ?_
      · match ds, h with
        | [_, _], _ => rfl
      · intro W base args ds p hval hA _
        rw [Try.params8] at hA hval
        obtain ⟨v0, vs0, d0, ds0, p0, q0, hargs, rfl, rfl, h0, r0⟩ := trodAll_cons hA
        obtain ⟨v1, vs1, d1, ds1, p1, q1, rfl, rfl, rfl, h1, r1⟩ := trodAll_cons r0
        obtain ⟨rfl, rfl, rfl⟩ := trodAll_nil r1
        obtain rfl : args = #[v0, v1] := by cases args; simp_all
        obtain ⟨b0, rfl, rfl, rfl, w0⟩ := open_int Try.underlying31 (hval 0 _ v0 rfl rfl) h0
        obtain ⟨b1, rfl, rfl, rfl, w1⟩ := open_int Try.underlying40 (hval 1 _ v1 rfl rfl) h1
        apply ratio_walk <;> assumption)
#print axioms ratio_holds

set_option maxRecDepth 100000 in
theorem splits_holds : Rows.FuelSplitsSaid :=
  OpenClaim.holds_of_wide 9 Try.f9 rfl rfl rfl rfl rfl rfl rfl ⟨rfl, rfl, rfl, rfl, rfl⟩ rfl rfl rfl rfl rfl (by kernel_rfl) Try.func9 (by kernel_rfl)
    (of_decide_eq_true (by kernel_rfl)) (by unfold Func.isWrapper; first | (rw [if_pos (by decide +kernel)]; kernel_rfl) | (rw [if_neg (by decide +kernel)]; exact ⟨rfl, rfl⟩))
    (fun os started H enc _ => by
      refine law_frame started (s := Rows.fuelSplitsSpec) (conds := Rows.fuelSplitsRow.domain) Try.func9 (by kernel_rfl) rfl 4 rfl Try.underlying4 (by decide +kernel) (fun ds h => ?_)
        (ChangeSpec.witness6 (enc := enc) (C := Try.checked) false ⟨#[], #[.int .i64 0, .int .i64 0, .int .i64 0], []⟩ 12 (by kernel_rfl) (by kernel_rfl) (by kernel_rfl) (by kernel_rfl)) ?_
      · match ds, h with
        | [_, _, _], _ => rfl
      · intro W base args ds p hval hA _
        rw [Try.params9] at hA hval
        obtain ⟨v0, vs0, d0, ds0, p0, q0, hargs, rfl, rfl, h0, r0⟩ := trodAll_cons hA
        obtain ⟨v1, vs1, d1, ds1, p1, q1, rfl, rfl, rfl, h1, r1⟩ := trodAll_cons r0
        obtain ⟨v2, vs2, d2, ds2, p2, q2, rfl, rfl, rfl, h2, r2⟩ := trodAll_cons r1
        obtain ⟨rfl, rfl, rfl⟩ := trodAll_nil r2
        obtain rfl : args = #[v0, v1, v2] := by cases args; simp_all
        obtain ⟨b0, rfl, rfl, rfl, w0⟩ := open_int Try.underlying3 (hval 0 _ v0 rfl rfl) h0
        obtain ⟨b1, rfl, rfl, rfl, w1⟩ := open_int Try.underlying3 (hval 1 _ v1 rfl rfl) h1
        obtain ⟨b2, rfl, rfl, rfl, w2⟩ := open_int Try.underlying3 (hval 2 _ v2 rfl rfl) h2
        apply splits_walk <;> assumption)
#print axioms splits_holds


end Go.Proofs.Ytmfldcjecajkoaa
