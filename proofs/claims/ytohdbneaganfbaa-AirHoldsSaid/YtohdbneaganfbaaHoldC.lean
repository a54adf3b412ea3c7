/- Contract of the plant's breathes, where no less flows in than out. -/
import Derived.Test.YtohdbneaganfbaaHoldB
import Derived.Deep.RegionWith
namespace Go.Proofs.Ytohdbneaganfbaa
set_option linter.unusedVariables false
set_option linter.unusedSimpArgs false
open Go.RowKit Go.ChangeShapes Go.WideShapes Go.ChangeAt

theorem clampH_up {p q : Int} (h0 : 50 ≤ p) (h1 : p ≤ 1013) (hq : 0 ≤ q) : p ≤ clampH (p + q) 50 1013 := by
  unfold clampH
  split
  · omega
  · split <;> omega
set_option maxRecDepth 100000 in
set_option maxHeartbeats 2000000 in
theorem breathes_any (B : Nat) (po s re p fi i f v t m ev d k x sp : Int) (path : Value) (w : World) (hE : Eng w B po s re p fi path i f v t m ev d) (hs : 0 ≤ sp ∧ sp ≤ 262144) (hv : 1 ≤ v ∧ v ≤ 65536) (ht : 0 ≤ t ∧ t ≤ 65536) (hx : 0 ≤ x ∧ x ≤ 1000) (hp : 50 ≤ p ∧ p ≤ 1013) (hk : 1 ≤ k ∧ k ≤ 10000) (hge : sp * p / 1024 ≤ t * x * (1013 - p) / 1000) :
    Calls Try.prog 76 #[.pointer (some ⟨B, 0, none⟩), .int .i64 x, .int .i64 sp, .int .i64 k] w fun e w' => e = .returned (.tuple #[]) ∧ (∃ P', p ≤ P' ∧ Eng w' B po s re P' fi path i f v t m ev d) ∧ Below B w w' := by
  obtain ⟨s0, s1⟩ := hs
  obtain ⟨v0, v1⟩ := hv
  obtain ⟨t0, t1⟩ := ht
  obtain ⟨x0, x1⟩ := hx
  obtain ⟨p0, p1⟩ := hp
  obtain ⟨k0, k1⟩ := hk
  have a0 : 0 ≤ t * x := Int.mul_nonneg t0 x0
  have a1 : t * x ≤ 65536 * 1000 := Int.mul_le_mul t1 x1 x0 (by omega)
  obtain ⟨D, hD⟩ : ∃ D, D = 1013 - p := ⟨_, rfl⟩
  have D0 : 0 ≤ D ∧ D ≤ 963 := by omega
  have b0 : 0 ≤ t * x * D := Int.mul_nonneg a0 D0.1
  have b1 : t * x * D ≤ 65536 * 1000 * 963 := Int.mul_le_mul a1 D0.2 D0.1 (by omega)
  have c0 : 0 ≤ sp * p := Int.mul_nonneg s0 (by omega)
  have c1 : sp * p ≤ 262144 * 1013 := Int.mul_le_mul s1 p1 (by omega) (by omega)
  rw [← hD] at hge
  obtain ⟨I, hI⟩ : ∃ I, I = t * x * D / 1000 := ⟨_, rfl⟩
  obtain ⟨U, hU⟩ : ∃ U, U = sp * p / 1024 := ⟨_, rfl⟩
  rw [← hI, ← hU] at hge
  have I0 : 0 ≤ I ∧ I ≤ 63111168 := by omega
  have U0 : 0 ≤ U ∧ U ≤ 259328 := by omega
  obtain ⟨E, hEd⟩ : ∃ E, E = I - U := ⟨_, rfl⟩
  have E0 : 0 ≤ E ∧ E ≤ 63111168 := by omega
  have n0 : 0 ≤ E * k := Int.mul_nonneg E0.1 (by omega)
  have n1 : E * k ≤ 63111168 * 10000 := Int.mul_le_mul E0.2 k1 (by omega) (by omega)
  have hqd := div_bd (a := E * k) (c := 65536 * v) n0 (by omega)
  have HFL := Lib.hid (fun w => floor_any (a := E * k) (c := 65536 * v) (by omega) (by omega) (by omega) (by omega) w)
  have w1 : IntKind.i64.wrap (t * x) = t * x := IntWalk.i64_in _ (by omega)
  have w2 : IntKind.i64.wrap (t * x * D) = t * x * D := IntWalk.i64_in _ (by omega)
  have w3 : (t * x * D).tdiv 1000 = I := by rw [Int.tdiv_eq_ediv_of_nonneg b0]; exact hI.symm
  have w4 : t * x * D / 1000 = I := hI.symm
  have w5 : wrap64 I = I := by unfold wrap64; omega
  have w6 : IntKind.i64.wrap (sp * p) = sp * p := IntWalk.i64_in _ (by omega)
  have w7 : (sp * p).tdiv 1024 = U := by rw [Int.tdiv_eq_ediv_of_nonneg c0]; exact hU.symm
  have w8 : sp * p / 1024 = U := hU.symm
  have w9 : wrap64 U = U := by unfold wrap64; omega
  have w10 : (1013 : Int) - p = D := hD.symm
  have w11 : I - U = E := hEd.symm
  have w12 : IntKind.i64.wrap (E * k) = E * k := IntWalk.i64_in _ (by omega)
  have w13 : wrap64 (E * k) = E * k := by unfold wrap64; omega
  have w14 : wrap64 (t * x) = t * x := by unfold wrap64; omega
  have w15 : wrap64 (t * x * D) = t * x * D := by unfold wrap64; omega
  have w16 : wrap64 D = D := by unfold wrap64; omega
  have w17 : wrap64 E = E := by unfold wrap64; omega
  have w18 : wrap64 (65536 * v) = 65536 * v := by unfold wrap64; omega
  generalize E * k / (65536 * v) = Q at *
  have w19 : wrap64 (p + Q) = p + Q := by unfold wrap64; omega
  have hup := Lib.hid (clampH_up p0 p1 hqd.1)
  have HCL := Lib.hid (fun x w => clampH_any (lo := 50) (hi := 1013) x (by omega) w)
  have d3 := hE.c3
  have d8 := hE.c8
  have d9 := hE.c9
  have g3 := hE.fz 3 (by omega)
  have hlt := hE.lt
  have HE := Lib.hid hE
  obtain ⟨I1, I2⟩ := I0
  obtain ⟨U1, U2⟩ := U0
  obtain ⟨E1, E2⟩ := E0
  obtain ⟨D1, D2⟩ := D0
  obtain ⟨q1, q2, _, _⟩ := hqd
  clear hE hI hU hEd hD hge
  go_enter Try.func76, Try.ntmps76
  go_wp2
  go_quiet (fail)
  have hwd : Below w.heap.size w (w.drewN nq) := below_drewN (Below.refl _ _) _
  have hltd : B < (w.drewN nq).heap.size := hlt
  have d3d : (w.drewN nq).cell? ⟨B, 3, none⟩ = some (.int .i64 p) := d3
  have d8d : (w.drewN nq).cell? ⟨B, 8, none⟩ = some (.int .i64 v) := d8
  have g3d : (w.drewN nq).frozen? ⟨B, 3, none⟩ = false := g3
  generalize w.drewN nq = wd at *
  go_wp2
  have HLT := Lib.hid hlt
  have hw18 : IntKind.i64.wrap (65536 * v) = 65536 * v := IntWalk.i64_in _ (by omega)
  have hw19 : IntKind.i64.wrap (p + Q) = p + Q := IntWalk.i64_in _ (by omega)
  have hw17 : IntKind.i64.wrap E = E := IntWalk.i64_in _ (by omega)
  clear w1 w2 w3 w4 w5 w6 w7 w8 w9 w10 w14 w15 w16 a0 a1 b0 b1 c0 c1 D1 D2 I1 I2 U1 U2 E1 E2 n0 n1 q1 q2 s0 s1 t0 t1 x0 x1 p0 p1 k0 k1 v0 v1 d3 d8 d9 g3 hlt
  go_region_with (first | (go_at_call 93; refine (HFL.out _).mono ?_; rintro e hbFw ⟨rfl, hbF⟩; have hbF3 : Below wd.heap.size wd hbFw := (by (repeat' (first | (with_reducible exact Below.refl _ _) | (with_reducible assumption) | (with_reducible refine below_alloc ?_ _) | (with_reducible refine Below.drew ?_) | (with_reducible refine below_drewN ?_ _) | (with_reducible refine below_step (by assumption) ?_) | (with_reducible refine below_later ?_ _) | (with_reducible refine Below.setCell ?_ ?_ _) | go_size))); obtain ⟨hbFc, hbFf⟩ := bcell hbF3; have hbFs := hbF3.size) | (go_at_call 81; refine (HCL.out _ _).mono ?_; rintro e w' ⟨rfl, rfl⟩))
  all_goals have hbw : Below w.heap.size w hbFw := by (repeat' (first | (with_reducible exact Below.refl _ _) | (with_reducible assumption) | (with_reducible refine below_alloc ?_ _) | (with_reducible refine Below.drew ?_) | (with_reducible refine below_drewN ?_ _) | (with_reducible refine below_step (by assumption) ?_) | (with_reducible refine below_later ?_ _) | (with_reducible refine Below.setCell ?_ ?_ _) | go_size))
  all_goals change bodyPost _ _ _ _ _ _
  all_goals go_end0
  all_goals exact ⟨rfl, ⟨_, hup.out, (HE.out.later hbw).set3 _⟩, (hbw.mono (Nat.le_of_lt HLT.out)).setCell (Nat.le_refl _) _⟩
end Go.Proofs.Ytohdbneaganfbaa
