/- Contracts of the plant's turns and breathes. -/
import Derived.Test.YtohdbneaganfbaaHoldA
import Derived.Deep.RegionHeld3
namespace Go.Proofs.Ytohdbneaganfbaa
set_option linter.unusedVariables false
set_option linter.unusedSimpArgs false
open Go.RowKit Go.ChangeShapes Go.WideShapes Go.ChangeAt

/-- An engine with its parameters, in a block of its own. -/
structure Eng (W : World) (B : Nat) (po s re p fi : Int) (path : Value) (i f v t m ev d : Int) : Prop where
  lt : B < W.heap.size
  c0 : W.cell? ⟨B, 0, none⟩ = some (.int .i64 po)
  c1 : W.cell? ⟨B, 1, none⟩ = some (.int .i64 s)
  c2 : W.cell? ⟨B, 2, none⟩ = some (.int .i64 re)
  c3 : W.cell? ⟨B, 3, none⟩ = some (.int .i64 p)
  c4 : W.cell? ⟨B, 4, none⟩ = some (.int .i64 fi)
  c5 : W.cell? ⟨B, 5, none⟩ = some path
  c6 : W.cell? ⟨B, 6, none⟩ = some (.int .i64 i)
  c7 : W.cell? ⟨B, 7, none⟩ = some (.int .i64 f)
  c8 : W.cell? ⟨B, 8, none⟩ = some (.int .i64 v)
  c9 : W.cell? ⟨B, 9, none⟩ = some (.int .i64 t)
  c10 : W.cell? ⟨B, 10, none⟩ = some (.int .i64 m)
  c11 : W.cell? ⟨B, 11, none⟩ = some (.int .i64 ev)
  c12 : W.cell? ⟨B, 12, none⟩ = some (.int .i64 d)
  fz : ∀ k, k < 13 → W.frozen? ⟨B, k, none⟩ = false
theorem Eng.later {W W' : World} {B : Nat} {po s re p fi i f v t m ev d : Int} {path : Value} (h : Eng W B po s re p fi path i f v t m ev d) (hb : Below W.heap.size W W') : Eng W' B po s re p fi path i f v t m ev d := by
  have hc : ∀ k, W'.cell? ⟨B, k, none⟩ = W.cell? ⟨B, k, none⟩ := fun k => hb.cell (p := ⟨B, k, none⟩) h.lt
  have hf : ∀ k, W'.frozen? ⟨B, k, none⟩ = W.frozen? ⟨B, k, none⟩ := fun k => hb.frozen (p := ⟨B, k, none⟩) h.lt
  refine ⟨Nat.lt_of_lt_of_le h.lt hb.size, ?_, ?_, ?_, ?_, ?_, ?_, ?_, ?_, ?_, ?_, ?_, ?_, ?_, fun k hk => (hf k).trans (h.fz k hk)⟩
  all_goals rw [hc]
  · exact h.c0
  · exact h.c1
  · exact h.c2
  · exact h.c3
  · exact h.c4
  · exact h.c5
  · exact h.c6
  · exact h.c7
  · exact h.c8
  · exact h.c9
  · exact h.c10
  · exact h.c11
  · exact h.c12
/-- A cell of the block is stored to. -/
theorem eng_set {W : World} {B k : Nat} {x : Value} (u : Value) (hx : W.cell? ⟨B, k, none⟩ = some x) : (∀ j, (W.setCell ⟨B, k, none⟩ u).cell? ⟨B, j, none⟩ = if j = k then some u else W.cell? ⟨B, j, none⟩) ∧ (∀ a, (W.setCell ⟨B, k, none⟩ u).frozen? a = W.frozen? a) ∧ (W.setCell ⟨B, k, none⟩ u).heap.size = W.heap.size := by
  refine ⟨fun j => ?_, fun a => by simp, by simp⟩
  by_cases h : j = k
  · subst h
    rw [if_pos rfl]
    simp [go_sem, hx]
  · rw [if_neg h]
    simp [go_sem, h, Ne.symm h]
theorem Eng.set0 {W : World} {B : Nat} {po s re p fi i f v t m ev d : Int} {path : Value} (h : Eng W B po s re p fi path i f v t m ev d) (x : Int) : Eng (W.setCell ⟨B, 0, none⟩ (.int .i64 x)) B x s re p fi path i f v t m ev d := by
  obtain ⟨h1, h2, h3⟩ := eng_set (.int .i64 x) h.c0
  refine ⟨by rw [h3]; exact h.lt, (h1 0).trans (if_pos rfl), (h1 1).trans ((if_neg (by decide)).trans h.c1), (h1 2).trans ((if_neg (by decide)).trans h.c2), (h1 3).trans ((if_neg (by decide)).trans h.c3), (h1 4).trans ((if_neg (by decide)).trans h.c4), (h1 5).trans ((if_neg (by decide)).trans h.c5), (h1 6).trans ((if_neg (by decide)).trans h.c6), (h1 7).trans ((if_neg (by decide)).trans h.c7), (h1 8).trans ((if_neg (by decide)).trans h.c8), (h1 9).trans ((if_neg (by decide)).trans h.c9), (h1 10).trans ((if_neg (by decide)).trans h.c10), (h1 11).trans ((if_neg (by decide)).trans h.c11), (h1 12).trans ((if_neg (by decide)).trans h.c12), fun j hj => (h2 _).trans (h.fz j hj)⟩
theorem Eng.set1 {W : World} {B : Nat} {po s re p fi i f v t m ev d : Int} {path : Value} (h : Eng W B po s re p fi path i f v t m ev d) (x : Int) : Eng (W.setCell ⟨B, 1, none⟩ (.int .i64 x)) B po x re p fi path i f v t m ev d := by
  obtain ⟨h1, h2, h3⟩ := eng_set (.int .i64 x) h.c1
  refine ⟨by rw [h3]; exact h.lt, (h1 0).trans ((if_neg (by decide)).trans h.c0), (h1 1).trans (if_pos rfl), (h1 2).trans ((if_neg (by decide)).trans h.c2), (h1 3).trans ((if_neg (by decide)).trans h.c3), (h1 4).trans ((if_neg (by decide)).trans h.c4), (h1 5).trans ((if_neg (by decide)).trans h.c5), (h1 6).trans ((if_neg (by decide)).trans h.c6), (h1 7).trans ((if_neg (by decide)).trans h.c7), (h1 8).trans ((if_neg (by decide)).trans h.c8), (h1 9).trans ((if_neg (by decide)).trans h.c9), (h1 10).trans ((if_neg (by decide)).trans h.c10), (h1 11).trans ((if_neg (by decide)).trans h.c11), (h1 12).trans ((if_neg (by decide)).trans h.c12), fun j hj => (h2 _).trans (h.fz j hj)⟩
theorem Eng.set2 {W : World} {B : Nat} {po s re p fi i f v t m ev d : Int} {path : Value} (h : Eng W B po s re p fi path i f v t m ev d) (x : Int) : Eng (W.setCell ⟨B, 2, none⟩ (.int .i64 x)) B po s x p fi path i f v t m ev d := by
  obtain ⟨h1, h2, h3⟩ := eng_set (.int .i64 x) h.c2
  refine ⟨by rw [h3]; exact h.lt, (h1 0).trans ((if_neg (by decide)).trans h.c0), (h1 1).trans ((if_neg (by decide)).trans h.c1), (h1 2).trans (if_pos rfl), (h1 3).trans ((if_neg (by decide)).trans h.c3), (h1 4).trans ((if_neg (by decide)).trans h.c4), (h1 5).trans ((if_neg (by decide)).trans h.c5), (h1 6).trans ((if_neg (by decide)).trans h.c6), (h1 7).trans ((if_neg (by decide)).trans h.c7), (h1 8).trans ((if_neg (by decide)).trans h.c8), (h1 9).trans ((if_neg (by decide)).trans h.c9), (h1 10).trans ((if_neg (by decide)).trans h.c10), (h1 11).trans ((if_neg (by decide)).trans h.c11), (h1 12).trans ((if_neg (by decide)).trans h.c12), fun j hj => (h2 _).trans (h.fz j hj)⟩
theorem Eng.set3 {W : World} {B : Nat} {po s re p fi i f v t m ev d : Int} {path : Value} (h : Eng W B po s re p fi path i f v t m ev d) (x : Int) : Eng (W.setCell ⟨B, 3, none⟩ (.int .i64 x)) B po s re x fi path i f v t m ev d := by
  obtain ⟨h1, h2, h3⟩ := eng_set (.int .i64 x) h.c3
  refine ⟨by rw [h3]; exact h.lt, (h1 0).trans ((if_neg (by decide)).trans h.c0), (h1 1).trans ((if_neg (by decide)).trans h.c1), (h1 2).trans ((if_neg (by decide)).trans h.c2), (h1 3).trans (if_pos rfl), (h1 4).trans ((if_neg (by decide)).trans h.c4), (h1 5).trans ((if_neg (by decide)).trans h.c5), (h1 6).trans ((if_neg (by decide)).trans h.c6), (h1 7).trans ((if_neg (by decide)).trans h.c7), (h1 8).trans ((if_neg (by decide)).trans h.c8), (h1 9).trans ((if_neg (by decide)).trans h.c9), (h1 10).trans ((if_neg (by decide)).trans h.c10), (h1 11).trans ((if_neg (by decide)).trans h.c11), (h1 12).trans ((if_neg (by decide)).trans h.c12), fun j hj => (h2 _).trans (h.fz j hj)⟩
theorem Eng.set5 {W : World} {B : Nat} {po s re p fi i f v t m ev d : Int} {path : Value} (h : Eng W B po s re p fi path i f v t m ev d) (x : Value) : Eng (W.setCell ⟨B, 5, none⟩ x) B po s re p fi x i f v t m ev d := by
  obtain ⟨h1, h2, h3⟩ := eng_set x h.c5
  refine ⟨by rw [h3]; exact h.lt, (h1 0).trans ((if_neg (by decide)).trans h.c0), (h1 1).trans ((if_neg (by decide)).trans h.c1), (h1 2).trans ((if_neg (by decide)).trans h.c2), (h1 3).trans ((if_neg (by decide)).trans h.c3), (h1 4).trans ((if_neg (by decide)).trans h.c4), (h1 5).trans (if_pos rfl), (h1 6).trans ((if_neg (by decide)).trans h.c6), (h1 7).trans ((if_neg (by decide)).trans h.c7), (h1 8).trans ((if_neg (by decide)).trans h.c8), (h1 9).trans ((if_neg (by decide)).trans h.c9), (h1 10).trans ((if_neg (by decide)).trans h.c10), (h1 11).trans ((if_neg (by decide)).trans h.c11), (h1 12).trans ((if_neg (by decide)).trans h.c12), fun j hj => (h2 _).trans (h.fz j hj)⟩
set_option maxRecDepth 100000 in
set_option maxHeartbeats 2000000 in
theorem turns_any (B : Nat) (po s re p fi i f v t m ev d k : Int) (path : Value) (w : World) (hE : Eng w B po s re p fi path i f v t m ev d) (hs : 0 ≤ s ∧ s ≤ 262144) (hf : 0 ≤ f ∧ f ≤ 65536) (hi : 100 ≤ i ∧ i ≤ 1048576) (hr : 0 ≤ re ∧ re ≤ i - 1) (hk : 1 ≤ k ∧ k ≤ 10000) :
    Calls Try.prog 75 #[.pointer (some ⟨B, 0, none⟩), .int .i64 0, .int .i64 0, .int .i64 k] w fun e w' => e = .returned (.tuple #[]) ∧ (∃ s' re', Eng w' B po s' re' p fi path i f v t m ev d) ∧ Below B w w' := by
  obtain ⟨s0, s1⟩ := hs
  obtain ⟨f0, f1⟩ := hf
  obtain ⟨i0, i1⟩ := hi
  obtain ⟨r0, r1⟩ := hr
  obtain ⟨k0, k1⟩ := hk
  have hm0 : 0 ≤ f * s := Int.mul_nonneg f0 s0
  have hm1 : f * s ≤ 65536 * 262144 := Int.mul_le_mul f1 s1 s0 (by omega)
  obtain ⟨q, hq⟩ : ∃ q, q = f * s / 65536 := ⟨_, rfl⟩
  have q0 : 0 ≤ q ∧ q ≤ 262144 := by omega
  have hn0 : 0 ≤ q * k := Int.mul_nonneg q0.1 (by omega)
  have hn1 : q * k ≤ 262144 * 10000 := Int.mul_le_mul q0.2 k1 (by omega) (by omega)
  have w1 : IntKind.i64.wrap (f * s) = f * s := IntWalk.i64_in _ (by omega)
  have w2 : (f * s).tdiv 65536 = q := by rw [Int.tdiv_eq_ediv_of_nonneg hm0]; exact hq.symm
  have w3 : f * s / 65536 = q := hq.symm
  have w4 : wrap64 q = q := by unfold wrap64; omega
  have hz0 : -q * k = -(q * k) := Int.neg_mul _ _
  obtain ⟨N, hN⟩ : ∃ N, N = -q * k + re := ⟨_, rfl⟩
  have w5 : wrap64 (-q * k) = -q * k := by unfold wrap64; omega
  have w6 : wrap64 (-q * k + re) = N := by unfold wrap64; omega
  have n0 : -2621440000 ≤ N := by omega
  have n1 : N ≤ 1048576 := by omega
  have HFL := Lib.hid (fun w => floor_any (a := N) (c := i) (by omega) (by omega) (by omega) (by omega) w)
  have HMO := Lib.hid (fun w => mod_any (a := N) (c := i) (by omega) (by omega) (by omega) (by omega) w)
  have u0 : -3000000000 ≤ N / i := Int.le_ediv_of_mul_le (by omega) (by omega)
  have u1 : N / i ≤ 3000000000 := Int.ediv_le_of_le_mul (by omega) (by omega)
  generalize N / i = Q at *
  generalize N % i = R at *
  have HCL := Lib.hid (fun x w => clampH_any (lo := 0) (hi := 262144) x (by omega) w)
  have w7 : IntKind.i64.wrap (s + Q) = s + Q := IntWalk.i64_in _ (by omega)
  have d1 := hE.c1
  have d2 := hE.c2
  have d6 := hE.c6
  have d7 := hE.c7
  have g1 := hE.fz 1 (by omega)
  have g2 := hE.fz 2 (by omega)
  have hlt := hE.lt
  have HE := Lib.hid hE
  clear hE hq hN hz0
  go_enter Try.func75, Try.ntmps75
  go_wp2
  go_quiet (fail)
  simp only [w6]
  have hltd : B < (w.drewN nq).heap.size := hlt
  have d6d : (w.drewN nq).cell? ⟨B, 6, none⟩ = some (.int .i64 i) := d6
  have hwd : Below w.heap.size w (w.drewN nq) := below_drewN (Below.refl _ _) _
  generalize w.drewN nq = wd at *
  go_wp2
  (refine wp_region_later (by kernel_rfl) (by kernel_rfl) ?_; (repeat (go_big_quiet_step ((first | (go_at_call 93; exact later_call (HFL.out _)) | (go_at_call 108; exact later_call (HMO.out _)))))); refine wpQuiet_nil ?_; rintro _ ⟨e1, rfl⟩; have e1s := e1.h.size; (try simp only [World.size_alloc, World.size_drewN, World.drewN_heap] at e1s); (try (have : w.heap.size < e1.w.heap.size := by omega)); (try (have : w.heap.size + 1 < e1.w.heap.size := by omega)); (try (have : w.heap.size + 1 + 1 < e1.w.heap.size := by omega)); (try (have : w.heap.size + 1 + 1 + 1 < e1.w.heap.size := by omega)); (try (have : bX < e1.w.heap.size := by omega)); (try (have : bY < e1.w.heap.size := by omega)); (try (have : bZ < e1.w.heap.size := by omega)))
  have hlt1 : B < e1.w.heap.size := by have := e1.h.size; omega
  have HE1 := Lib.hid (HE.out.later (show Below w.heap.size w e1.w by (repeat' (first | (with_reducible exact Below.refl _ _) | (with_reducible assumption) | (with_reducible refine below_alloc ?_ _) | (with_reducible refine Below.drew ?_) | (with_reducible refine below_drewN ?_ _) | (with_reducible refine below_step (by assumption) ?_) | (with_reducible refine below_later ?_ _) | (with_reducible refine Below.setCell ?_ ?_ _) | go_size))))
  have y1 := HE1.out.fz 1 (by omega)
  have y2 := HE1.out.fz 2 (by omega)
  have z1 := HE1.out.c1
  have z2 := HE1.out.c2
  have hbe : Below w.heap.size w e1.w := by (repeat' (first | (with_reducible exact Below.refl _ _) | (with_reducible assumption) | (with_reducible refine below_alloc ?_ _) | (with_reducible refine Below.drew ?_) | (with_reducible refine below_drewN ?_ _) | (with_reducible refine below_step (by assumption) ?_) | (with_reducible refine below_later ?_ _) | (with_reducible refine Below.setCell ?_ ?_ _) | go_size))
  go_wp2_with ((go_at_call 81; refine (HCL.out _ _).mono ?_; rintro e w' ⟨rfl, rfl⟩))
  all_goals go_end0
  all_goals exact ⟨rfl, ⟨_, _, (HE1.out.set1 _).set2 _⟩, ((hbe.mono (Nat.le_of_lt hlt)).setCell (Nat.le_refl _) _).setCell (Nat.le_refl _) _⟩
end Go.Proofs.Ytohdbneaganfbaa
