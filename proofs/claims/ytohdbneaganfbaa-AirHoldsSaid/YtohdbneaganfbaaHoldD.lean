/- Contract of the plant's Step, where no less flows in than out. -/
import Derived.Test.YtohdbneaganfbaaHoldC
import Derived.Test.YtohdbneaganfbaaOwnMore
namespace Go.Proofs.Ytohdbneaganfbaa
set_option linter.unusedVariables false
set_option linter.unusedSimpArgs false
open Go.RowKit Go.ChangeShapes Go.WideShapes Go.ChangeAt

theorem Eng.keep {W W' : World} {B L : Nat} {po s re p fi i f v t m ev d : Int} {path : Value} (h : Eng W B po s re p fi path i f v t m ev d) (hb : Below L W W') (hL : B < L) : Eng W' B po s re p fi path i f v t m ev d := by
  have hc : ∀ k, W'.cell? ⟨B, k, none⟩ = W.cell? ⟨B, k, none⟩ := fun k => hb.cell (p := ⟨B, k, none⟩) hL
  have hf : ∀ k, W'.frozen? ⟨B, k, none⟩ = W.frozen? ⟨B, k, none⟩ := fun k => hb.frozen (p := ⟨B, k, none⟩) hL
  refine ⟨Nat.lt_of_lt_of_le h.lt hb.size, (hc _).trans h.c0, (hc _).trans h.c1, (hc _).trans h.c2, (hc _).trans h.c3, (hc _).trans h.c4, (hc _).trans h.c5, (hc _).trans h.c6, (hc _).trans h.c7, (hc _).trans h.c8, (hc _).trans h.c9, (hc _).trans h.c10, (hc _).trans h.c11, (hc _).trans h.c12, fun k hk => (hf k).trans (h.fz k hk)⟩
set_option maxRecDepth 100000 in
set_option maxHeartbeats 4000000 in
theorem step_any (i f v t m ev d po s re p fi x k : Int) (r : Option Addr) (c : Nat) (xs : List Int) (w : World) (hx : IsInts w r c .i64 xs) (hg : goodB i f v t m ev d po s re p fi xs = true) (hxx : 0 ≤ x ∧ x ≤ 1000) (hk : 1 ≤ k ∧ k ≤ 10000) (hge : s * p / 1024 ≤ t * x * (1013 - p) / 1000) :
    Calls Try.prog 30 #[.agg #[.int .i64 i, .int .i64 f, .int .i64 v, .int .i64 t, .int .i64 m, .int .i64 ev, .int .i64 d], .agg #[.int .i64 po, .int .i64 s, .int .i64 re, .int .i64 p, .int .i64 fi, .slice r xs.length c], .int .i64 x, .int .i64 0, .int .i64 0, .int .i64 k] w fun e w' => ∃ a0 a1 a2 P' r' c', e = .returned (.tuple #[.agg #[.int .i64 a0, .int .i64 a1, .int .i64 a2, .int .i64 P', .int .i64 fi, .slice r' xs.length c'], .agg #[.int .i64 k, .int .i64 s], .int .i64 0]) ∧ p ≤ P' ∧ Below w.heap.size w w' := by
  have HX : Hid (∀ w', Below w.heap.size w w' → IsInts w' r c .i64 xs) := Lib.hid (fun _ h => hx.later h)
  have HG := Lib.hid (fun w hx => good_any i f v t m ev d po s re p fi r c xs w hx)
  rw [hg] at HG
  obtain ⟨hbd, hpo, hs, hre, hp, hfi, hlx⟩ := goodB_bd hg
  obtain ⟨hi, hf, hv, ht, hm, hev, hd⟩ := bodyB_bd hbd
  have HTU : Hid (∀ (B : Nat) (path : Value) (w : World), Eng w B po s re p fi path i f v t m ev d → Calls Try.prog 75 #[.pointer (some ⟨B, 0, none⟩), .int .i64 0, .int .i64 0, .int .i64 k] w fun e w' => e = .returned (.tuple #[]) ∧ (∃ s' re', Eng w' B po s' re' p fi path i f v t m ev d) ∧ Below B w w') := Lib.hid (fun B path w hE => turns_any B po s re p fi i f v t m ev d k path w hE hs hf hi hre hk)
  have HBR : Hid (∀ (B : Nat) (po s' re' : Int) (path : Value) (w : World), Eng w B po s' re' p fi path i f v t m ev d → Calls Try.prog 76 #[.pointer (some ⟨B, 0, none⟩), .int .i64 x, .int .i64 s, .int .i64 k] w fun e w' => e = .returned (.tuple #[]) ∧ (∃ P', p ≤ P' ∧ Eng w' B po s' re' P' fi path i f v t m ev d) ∧ Below B w w') := Lib.hid (fun B po s' re' path w hE => breathes_any B po s' re' p fi i f v t m ev d k x s path w hE hs hv ht hxx hp hk hge)
  have h1 : inB x 0 1000 = true := inB_true.2 hxx
  have h2 : inB 0 (-5000) 10000 = true := by decide
  have h3 : inB 0 (-10000) 10000 = true := by decide
  have h4 : inB k 1 10000 = true := inB_true.2 hk
  have hn0 : 0 ≤ s * k := Int.mul_nonneg hs.1 (by omega)
  have hn1 : s * k ≤ 262144 * 10000 := Int.mul_le_mul hs.2 hk.2 (by omega) (by omega)
  have w1 : IntKind.i64.wrap (s * k) = s * k := IntWalk.i64_in _ (by omega)
  have w2 : IntKind.i64.wrap (po + s * k) = po + s * k := IntWalk.i64_in _ (by omega)
  obtain ⟨N8, hN8⟩ : ∃ N8, N8 = (po + s * k) % 3019898880 := ⟨_, rfl⟩
  have w3 : (po + s * k) % 3019898880 = N8 := hN8.symm
  have w4 : (po + s * k).tmod 3019898880 = N8 := by rw [Int.tmod_eq_emod_of_nonneg (by omega)]; exact hN8.symm
  have w5 : wrap64 N8 = N8 := by unfold wrap64; omega
  have w6 : wrap64 (s * k) = s * k := by unfold wrap64; omega
  have w7 : wrap64 (po + s * k) = po + s * k := by unfold wrap64; omega
  have hxl : xs.length ≤ 100 := by omega
  clear hx hg hbd hpo hs hre hp hfi hlx hi hf hv ht hm hev hd hxx hk hge hn0 hn1 hN8
  go_enter Try.func30, Try.ntmps30
  go_wp2_with (first | ((go_at_call 28; refine (HG.out _ (HX.out _ (by (repeat' (first | (with_reducible exact Below.refl _ _) | (with_reducible assumption) | (with_reducible refine below_alloc ?_ _) | (with_reducible refine Below.drew ?_) | (with_reducible refine below_drewN ?_ _) | (with_reducible refine below_step (by assumption) ?_) | (with_reducible refine below_later ?_ _) | (with_reducible refine Below.setCell ?_ ?_ _) | go_size))))).mono ?_; rintro e hb1w ⟨rfl, hb1⟩; obtain ⟨hb1c, hb1f⟩ := bcell hb1; have hb1s := hb1.size; (try simp only [World.size_alloc] at hb1s); (try (have : w.heap.size < hb1w.heap.size := by omega)); (try (have : w.heap.size + 1 < hb1w.heap.size := by omega)); (try (have : w.heap.size + 1 + 1 < hb1w.heap.size := by omega)); (try (have : w.heap.size + 1 + 1 + 1 < hb1w.heap.size := by omega)); (try (have : bX < hb1w.heap.size := by omega)); (try (have : bY < hb1w.heap.size := by omega)); (try (have : bZ < hb1w.heap.size := by omega)); (try (have : w.heap.size + 1 + 1 + 1 + 1 < hb1w.heap.size := by omega)); (try (have : w.heap.size + 1 + 1 + 1 + 1 + 1 < hb1w.heap.size := by omega))); have HE0 : Hid (OwnI ((hb1w.alloc (.cells #[.int .i64 po, .int .i64 s, .int .i64 re, .int .i64 p, .int .i64 fi, .slice r xs.length c, .int .i64 i, .int .i64 f, .int .i64 v, .int .i64 t, .int .i64 m, .int .i64 ev, .int .i64 d] 95)).alloc (.cells #[] 3)) (hb1w.heap.size + 1) (some ⟨hb1w.heap.size + 1, 0, none⟩) 0 []) := Lib.hid ⟨by simp, Or.inr ⟨hb1w.heap.size + 1, 0, #[], rfl, Nat.le_refl _, (by rw [← World.size_alloc hb1w (.cells #[.int .i64 po, .int .i64 s, .int .i64 re, .int .i64 p, .int .i64 fi, .slice r xs.length c, .int .i64 i, .int .i64 f, .int .i64 v, .int .i64 t, .int .i64 m, .int .i64 ev, .int .i64 d] 95)]; exact heap_alloc_new _ _), by simp, by simp [maxLen], by simp, by simp⟩⟩; have HEB : Hid (Eng (hb1w.alloc (.cells #[.int .i64 po, .int .i64 s, .int .i64 re, .int .i64 p, .int .i64 fi, .slice r xs.length c, .int .i64 i, .int .i64 f, .int .i64 v, .int .i64 t, .int .i64 m, .int .i64 ev, .int .i64 d] 95)) hb1w.heap.size po s re p fi (.slice r xs.length c) i f v t m ev d) := Lib.hid ⟨by go_size, by simp [go_sem], by simp [go_sem], by simp [go_sem], by simp [go_sem], by simp [go_sem], by simp [go_sem], by simp [go_sem], by simp [go_sem], by simp [go_sem], by simp [go_sem], by simp [go_sem], by simp [go_sem], by simp [go_sem], fun k _ => by simp [go_sem]⟩) | (go_at_call 74; refine (pwithin_any _ _ _ _).mono ?_; rintro e w' ⟨rfl, rfl⟩) | (at_builtin; refine wpList_append_ints (by rfl) _ _ (by rfl) (hb1w.heap.size + 1) (some ⟨hb1w.heap.size + 1, 0, none⟩) r 0 c [] xs (by rfl) (by rfl) HE0.out (HX.out _ (by (repeat' (first | (with_reducible exact Below.refl _ _) | (with_reducible assumption) | (with_reducible refine below_alloc ?_ _) | (with_reducible refine Below.drew ?_) | (with_reducible refine below_drewN ?_ _) | (with_reducible refine below_step (by assumption) ?_) | (with_reducible refine below_later ?_ _) | (with_reducible refine Below.setCell ?_ ?_ _) | go_size)))) (by simp; omega) (by go_size) ?_; intro r' cap' w3 hown3 hbw3; clear hown3; have hE3 : Hid (Eng w3 hb1w.heap.size po s re p fi (.slice r xs.length c) i f v t m ev d) := Lib.hid ((HEB.out.later ((Below.refl _ _).alloc (Nat.le_refl _) _)).keep hbw3 (by omega)); have hf5 := hE3.out.fz 5 (by omega); have hc5 := hE3.out.c5; have hbA : Below hb1w.heap.size hb1w w3 := (show Below hb1w.heap.size hb1w ((hb1w.alloc (.cells #[.int .i64 po, .int .i64 s, .int .i64 re, .int .i64 p, .int .i64 fi, .slice r xs.length c, .int .i64 i, .int .i64 f, .int .i64 v, .int .i64 t, .int .i64 m, .int .i64 ev, .int .i64 d] 95)).alloc (.cells #[] 3)) by (repeat' (first | (with_reducible exact Below.refl _ _) | (with_reducible assumption) | (with_reducible refine below_alloc ?_ _) | (with_reducible refine Below.drew ?_) | (with_reducible refine below_drewN ?_ _) | (with_reducible refine below_step (by assumption) ?_) | (with_reducible refine below_later ?_ _) | (with_reducible refine Below.setCell ?_ ?_ _) | go_size))).trans (hbw3.mono (by omega))) | (go_at_call 75; refine (HTU.out hb1w.heap.size _ _ (hE3.out.set5 _)).mono ?_; rintro e hbTw ⟨rfl, ⟨s', re', hET⟩, hbT⟩; have HET := Lib.hid hET; clear hET; have hbTB : Below hb1w.heap.size hb1w hbTw := (hbA.setCell (Nat.le_refl _) _).trans hbT; obtain ⟨hbTc, hbTf⟩ := bcell hbTB; have hbTs := hbTB.size; have z0 := HET.out.c0; have y0 := HET.out.fz 0 (by omega)))
  have hlo1 : w.heap.size + 1 < hb1w.heap.size := by omega
  have hps0 : hb1w.cell? ⟨w.heap.size + 1, 1, none⟩ = some (.int .i64 s) := by rw [hb1c _ _ (by simp only [World.size_alloc]; omega)]; simp [go_sem]
  have hps1 : hbTw.cell? ⟨w.heap.size + 1, 1, none⟩ = some (.int .i64 s) := (hbTc _ _ hlo1).trans hps0
  have k12_0 : hb1w.cell? ⟨w.heap.size + 1 + 1, 0, none⟩ = some (.int .i64 0) := by rw [hb1c _ _ (by simp only [World.size_alloc]; omega)]; simp [go_sem]
  have f12_0 : hb1w.frozen? ⟨w.heap.size + 1 + 1, 0, none⟩ = false := by rw [hb1f _ _ (by simp only [World.size_alloc]; omega)]; simp [go_sem]
  have k12_1 : hb1w.cell? ⟨w.heap.size + 1 + 1, 1, none⟩ = some (.int .i64 0) := by rw [hb1c _ _ (by simp only [World.size_alloc]; omega)]; simp [go_sem]
  have f12_1 : hb1w.frozen? ⟨w.heap.size + 1 + 1, 1, none⟩ = false := by rw [hb1f _ _ (by simp only [World.size_alloc]; omega)]; simp [go_sem]
  have k12_2 : hb1w.cell? ⟨w.heap.size + 1 + 1, 2, none⟩ = some (.int .i64 0) := by rw [hb1c _ _ (by simp only [World.size_alloc]; omega)]; simp [go_sem]
  have f12_2 : hb1w.frozen? ⟨w.heap.size + 1 + 1, 2, none⟩ = false := by rw [hb1f _ _ (by simp only [World.size_alloc]; omega)]; simp [go_sem]
  have k12_3 : hb1w.cell? ⟨w.heap.size + 1 + 1, 3, none⟩ = some (.int .i64 0) := by rw [hb1c _ _ (by simp only [World.size_alloc]; omega)]; simp [go_sem]
  have f12_3 : hb1w.frozen? ⟨w.heap.size + 1 + 1, 3, none⟩ = false := by rw [hb1f _ _ (by simp only [World.size_alloc]; omega)]; simp [go_sem]
  have k12_4 : hb1w.cell? ⟨w.heap.size + 1 + 1, 4, none⟩ = some (.int .i64 0) := by rw [hb1c _ _ (by simp only [World.size_alloc]; omega)]; simp [go_sem]
  have f12_4 : hb1w.frozen? ⟨w.heap.size + 1 + 1, 4, none⟩ = false := by rw [hb1f _ _ (by simp only [World.size_alloc]; omega)]; simp [go_sem]
  have k12_5 : hb1w.cell? ⟨w.heap.size + 1 + 1, 5, none⟩ = some (.slice none 0 0) := by rw [hb1c _ _ (by simp only [World.size_alloc]; omega)]; simp [go_sem]
  have f12_5 : hb1w.frozen? ⟨w.heap.size + 1 + 1, 5, none⟩ = false := by rw [hb1f _ _ (by simp only [World.size_alloc]; omega)]; simp [go_sem]
  have k13_0 : hb1w.cell? ⟨w.heap.size + 1 + 1 + 1, 0, none⟩ = some (.int .i64 0) := by rw [hb1c _ _ (by simp only [World.size_alloc]; omega)]; simp [go_sem]
  have f13_0 : hb1w.frozen? ⟨w.heap.size + 1 + 1 + 1, 0, none⟩ = false := by rw [hb1f _ _ (by simp only [World.size_alloc]; omega)]; simp [go_sem]
  have k13_1 : hb1w.cell? ⟨w.heap.size + 1 + 1 + 1, 1, none⟩ = some (.int .i64 0) := by rw [hb1c _ _ (by simp only [World.size_alloc]; omega)]; simp [go_sem]
  have f13_1 : hb1w.frozen? ⟨w.heap.size + 1 + 1 + 1, 1, none⟩ = false := by rw [hb1f _ _ (by simp only [World.size_alloc]; omega)]; simp [go_sem]
  have hlo2 : w.heap.size + 1 + 1 < hb1w.heap.size := by omega
  have hlo3 : w.heap.size + 1 + 1 + 1 < hb1w.heap.size := by omega
  have HED : Hid (Eng (hbTw.setCell ⟨hb1w.heap.size, 0, none⟩ (.int .i64 N8)).drew hb1w.heap.size N8 s' re' p fi (.slice r' ([] ++ xs).length cap') i f v t m ev d) := Lib.hid ((HET.out.set0 N8).later (Below.refl _ _).drew)
  have HBD : Hid (Below hb1w.heap.size hb1w (hbTw.setCell ⟨hb1w.heap.size, 0, none⟩ (.int .i64 N8)).drew) := Lib.hid ((hbTB.setCell (Nat.le_refl _) _).drew)
  have hpsD : (hbTw.setCell ⟨hb1w.heap.size, 0, none⟩ (.int .i64 N8)).drew.cell? ⟨w.heap.size + 1, 1, none⟩ = some (.int .i64 s) := (HBD.out.cell (p := ⟨w.heap.size + 1, 1, none⟩) hlo1).trans hps0
  go_region_with (fail)
  all_goals go_wp2_with (go_at_call 76; refine (HBR.out hb1w.heap.size _ _ _ _ _ HED.out).mono ?_; rintro e hbRw ⟨rfl, ⟨P', hP, hER⟩, hbR⟩; have HER := Lib.hid hER; clear hER; have hbRB : Below hb1w.heap.size hb1w hbRw := HBD.out.trans hbR; have HBRB := Lib.hid hbRB; obtain ⟨hbRc, hbRf⟩ := bcell hbRB; have c12_0 := (hbRc (w.heap.size + 1 + 1) 0 (by omega)).trans k12_0; have g12_0 := (hbRf (w.heap.size + 1 + 1) 0 (by omega)).trans f12_0; have c12_1 := (hbRc (w.heap.size + 1 + 1) 1 (by omega)).trans k12_1; have g12_1 := (hbRf (w.heap.size + 1 + 1) 1 (by omega)).trans f12_1; have c12_2 := (hbRc (w.heap.size + 1 + 1) 2 (by omega)).trans k12_2; have g12_2 := (hbRf (w.heap.size + 1 + 1) 2 (by omega)).trans f12_2; have c12_3 := (hbRc (w.heap.size + 1 + 1) 3 (by omega)).trans k12_3; have g12_3 := (hbRf (w.heap.size + 1 + 1) 3 (by omega)).trans f12_3; have c12_4 := (hbRc (w.heap.size + 1 + 1) 4 (by omega)).trans k12_4; have g12_4 := (hbRf (w.heap.size + 1 + 1) 4 (by omega)).trans f12_4; have c12_5 := (hbRc (w.heap.size + 1 + 1) 5 (by omega)).trans k12_5; have g12_5 := (hbRf (w.heap.size + 1 + 1) 5 (by omega)).trans f12_5; have c13_0 := (hbRc (w.heap.size + 1 + 1 + 1) 0 (by omega)).trans k13_0; have g13_0 := (hbRf (w.heap.size + 1 + 1 + 1) 0 (by omega)).trans f13_0; have c13_1 := (hbRc (w.heap.size + 1 + 1 + 1) 1 (by omega)).trans k13_1; have g13_1 := (hbRf (w.heap.size + 1 + 1 + 1) 1 (by omega)).trans f13_1; have e0 := HER.out.c0; have e1 := HER.out.c1; have e2 := HER.out.c2; have e3 := HER.out.c3; have e4 := HER.out.c4; have e5 := HER.out.c5; have hpsR := (hbRc (w.heap.size + 1) 1 (by omega)).trans hps0; clear hbRc hbRf)
  all_goals simp only [List.nil_append] at e5
  all_goals clear hpsD hps1 hps0 z0 y0 hbTs hlo2 hlo3 hbTc hbTf
  all_goals go_region_with (fail)
  all_goals go_wp2
  all_goals refine bodyPost_ret (by simp [results, Try.results30, go_sem, *]; try rfl) rfl ?_
  all_goals exact ⟨N8, s', re', P', r', cap', by first | rfl | (simp; done), hP, by (repeat' (first | (with_reducible exact Below.refl _ _) | (with_reducible assumption) | (with_reducible refine below_alloc ?_ _) | (with_reducible refine Below.drew ?_) | (with_reducible refine below_drewN ?_ _) | (with_reducible refine below_step (by assumption) ?_) | (with_reducible refine below_later ?_ _) | (with_reducible refine Below.setCell ?_ ?_ _) | go_size))⟩
end Go.Proofs.Ytohdbneaganfbaa
