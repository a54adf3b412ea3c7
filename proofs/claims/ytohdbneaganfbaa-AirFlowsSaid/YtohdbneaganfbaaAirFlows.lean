/- The law AirFlows returns true for all bodies and numbers. No conditions. Printed by a program. -/
import Derived.Test.YtohdbneaganfbaaAirC
import Derived.Test.YtohdbneaganfbaaFlat29
import Derived.Test.YtohdbneaganfbaaOpenBody
import Derived.Test.YtohdbneaganfbaaFrame
namespace Go.Proofs.Ytohdbneaganfbaa
set_option linter.unusedVariables false
set_option linter.unusedSimpArgs false
open Go.RowKit Go.ChangeShapes Go.WideShapes Go.ChangeAt

set_option maxRecDepth 100000 in
set_option maxHeartbeats 2000000 in
theorem aflows_walk (i f v t m ev d s p flow : Int) (w : World) : Calls Try.prog 5 #[.agg #[.int .i64 i, .int .i64 f, .int .i64 v, .int .i64 t, .int .i64 m, .int .i64 ev, .int .i64 d], .int .i64 s, .int .i64 p, .int .i64 flow] w fun e w' => e = .returned (.bool true) ∧ Below w.heap.size w w' := by
  obtain ⟨⟨a, e⟩, h1⟩ : ∃ x, flow2 s p = x := ⟨_, rfl⟩
  obtain ⟨⟨b, g⟩, h2⟩ : ∃ x, thr2 i f v t m ev d flow p = x := ⟨_, rfl⟩
  go_enter Try.func5, Try.ntmps5
  go_wp2_with (first | (go_at_call 15; refine (awake29_any _).mono ?_; rintro e hb1w ⟨rfl, hb1⟩; obtain ⟨hb1c, hb1f⟩ := bcell hb1; have hb1s := hb1.size; (try simp only [World.size_alloc] at hb1s); (try (have : w.heap.size < hb1w.heap.size := by omega)); (try (have : w.heap.size + 1 < hb1w.heap.size := by omega)); (try (have : w.heap.size + 1 + 1 < hb1w.heap.size := by omega)); (try (have : w.heap.size + 1 + 1 + 1 < hb1w.heap.size := by omega)); (try (have : bX < hb1w.heap.size := by omega)); (try (have : bY < hb1w.heap.size := by omega)); (try (have : bZ < hb1w.heap.size := by omega))) | (go_at_call 23; refine (flow_any _ _ _).mono ?_; rintro e hb2w ⟨rfl, hb2⟩; obtain ⟨hb2c, hb2f⟩ := bcell hb2; have hb2s := hb2.size; (try simp only [World.size_alloc] at hb2s); (try (have : w.heap.size < hb2w.heap.size := by omega)); (try (have : w.heap.size + 1 < hb2w.heap.size := by omega)); (try (have : w.heap.size + 1 + 1 < hb2w.heap.size := by omega)); (try (have : w.heap.size + 1 + 1 + 1 < hb2w.heap.size := by omega)); (try (have : bX < hb2w.heap.size := by omega)); (try (have : bY < hb2w.heap.size := by omega)); (try (have : bZ < hb2w.heap.size := by omega))) | (go_at_call 24; refine (rflow_any _ _ _).mono ?_; rintro e hb3w ⟨rfl, hb3⟩; obtain ⟨hb3c, hb3f⟩ := bcell hb3; have hb3s := hb3.size; (try simp only [World.size_alloc] at hb3s); (try (have : w.heap.size < hb3w.heap.size := by omega)); (try (have : w.heap.size + 1 < hb3w.heap.size := by omega)); (try (have : w.heap.size + 1 + 1 < hb3w.heap.size := by omega)); (try (have : w.heap.size + 1 + 1 + 1 < hb3w.heap.size := by omega)); (try (have : bX < hb3w.heap.size := by omega)); (try (have : bY < hb3w.heap.size := by omega)); (try (have : bZ < hb3w.heap.size := by omega))) | (go_at_call 25; refine (throttle_any _ _ _ _ _ _ _ _ _ _).mono ?_; rintro e hb4w ⟨rfl, hb4⟩; obtain ⟨hb4c, hb4f⟩ := bcell hb4; have hb4s := hb4.size; (try simp only [World.size_alloc] at hb4s); (try (have : w.heap.size < hb4w.heap.size := by omega)); (try (have : w.heap.size + 1 < hb4w.heap.size := by omega)); (try (have : w.heap.size + 1 + 1 < hb4w.heap.size := by omega)); (try (have : w.heap.size + 1 + 1 + 1 < hb4w.heap.size := by omega)); (try (have : bX < hb4w.heap.size := by omega)); (try (have : bY < hb4w.heap.size := by omega)); (try (have : bZ < hb4w.heap.size := by omega))) | (go_at_call 26; refine (rthrottle_any _ _ _ _ _ _ _ _ _ _).mono ?_; rintro e hb5w ⟨rfl, hb5⟩; obtain ⟨hb5c, hb5f⟩ := bcell hb5; have hb5s := hb5.size; (try simp only [World.size_alloc] at hb5s); (try (have : w.heap.size < hb5w.heap.size := by omega)); (try (have : w.heap.size + 1 < hb5w.heap.size := by omega)); (try (have : w.heap.size + 1 + 1 < hb5w.heap.size := by omega)); (try (have : w.heap.size + 1 + 1 + 1 < hb5w.heap.size := by omega)); (try (have : bX < hb5w.heap.size := by omega)); (try (have : bY < hb5w.heap.size := by omega)); (try (have : bZ < hb5w.heap.size := by omega))))
  go_ret
  exact ⟨by first | rfl | (simp; done) | (simp [*]; done), by (repeat' (first | (with_reducible exact Below.refl _ _) | (with_reducible assumption) | (with_reducible refine below_alloc ?_ _) | (with_reducible refine Below.drew ?_) | (with_reducible refine below_drewN ?_ _) | (with_reducible refine below_step (by assumption) ?_) | (with_reducible refine below_later ?_ _) | (with_reducible refine Below.setCell ?_ ?_ _) | go_size))⟩

set_option maxRecDepth 100000 in
theorem aflows_holds : Rows.AirFlowsSaid :=
  OpenClaim.holds_of_wide 5 Try.f5 rfl rfl rfl rfl rfl rfl rfl ⟨rfl, rfl, rfl, rfl, rfl⟩ rfl rfl rfl rfl rfl (by kernel_rfl) Try.func5 (by kernel_rfl)
    (of_decide_eq_true (by kernel_rfl)) (by unfold Func.isWrapper; first | (rw [if_pos (by decide +kernel)]; kernel_rfl) | (rw [if_neg (by decide +kernel)]; exact ⟨rfl, rfl⟩))
    (fun os started H enc _ => by
      refine law_frame started (s := Rows.airFlowsSpec) (conds := Rows.airFlowsRow.domain) Try.func5 (by kernel_rfl) rfl 4 rfl Try.underlying4 (by decide +kernel) (fun ds h => ?_)
        (ChangeSpec.witness6 (enc := enc) (C := Try.checked) false ⟨#[], #[.agg #[.int .i64 0, .int .i64 0, .int .i64 0, .int .i64 0, .int .i64 0, .int .i64 0, .int .i64 0], .int .i64 0, .int .i64 0, .int .i64 0], []⟩ 12 (by kernel_rfl) (by kernel_rfl) (by kernel_rfl) (by kernel_rfl)) ?_
      · match ds, h with
        | [_, _, _, _], _ => rfl
      · intro W base args ds p hval hA _
        rw [Try.params5] at hA hval
        obtain ⟨v0, vs0, d0, ds0, p0, q0, hargs, rfl, rfl, h0, r0⟩ := trodAll_cons hA
        obtain ⟨v1, vs1, d1, ds1, p1, q1, rfl, rfl, rfl, h1, r1⟩ := trodAll_cons r0
        obtain ⟨v2, vs2, d2, ds2, p2, q2, rfl, rfl, rfl, h2, r2⟩ := trodAll_cons r1
        obtain ⟨v3, vs3, d3, ds3, p3, q3, rfl, rfl, rfl, h3, r3⟩ := trodAll_cons r2
        obtain ⟨rfl, rfl, rfl⟩ := trodAll_nil r3
        obtain rfl : args = #[v0, v1, v2, v3] := by cases args; simp_all
        obtain ⟨cs0, rfl, k0⟩ := arg_agg Try.underlying42 (hval 0 _ v0 rfl rfl) h0
        obtain ⟨a0_0, a1_0, a2_0, a3_0, a4_0, a5_0, a6_0, rfl, g0_0, g1_0, g2_0, g3_0, g4_0, g5_0, g6_0⟩ := open_Body k0
        obtain ⟨b1, rfl, rfl, rfl, w1⟩ := open_int Try.underlying3 (hval 1 _ v1 rfl rfl) h1
        obtain ⟨b2, rfl, rfl, rfl, w2⟩ := open_int Try.underlying3 (hval 2 _ v2 rfl rfl) h2
        obtain ⟨b3, rfl, rfl, rfl, w3⟩ := open_int Try.underlying3 (hval 3 _ v3 rfl rfl) h3
        apply aflows_walk <;> (first | assumption | rfl))
#print axioms aflows_holds

end Go.Proofs.Ytohdbneaganfbaa
