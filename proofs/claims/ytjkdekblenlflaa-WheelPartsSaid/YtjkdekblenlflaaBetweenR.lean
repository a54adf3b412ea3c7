/- Contract of the reference's Between of wheels. -/
import Derived.Test.YtjkdekblenlflaaBetween
namespace Go.Proofs.Ytjkdekblenlflaa
set_option linter.unusedVariables false
set_option linter.unusedSimpArgs false
open Go.RowKit Go.ChangeShapes Go.WideShapes Go.ChangeAt

def rcolV (f : Int → Int) (a b : Int) : List Int × Bool := if (collL f a b).length ≤ 1000 then (collL f a b, true) else ([], false)
set_option maxHeartbeats 2000000 in
theorem rbetween_any (T M a b : Int) (w : World) (h : wheelB T M = true) (a0 : 0 ≤ a) (a1 : a ≤ 1099511627776) (b0 : b ≤ 1099511627776) :
    Calls Try.prog 30 #[.agg #[.int .i64 T, .int .i64 M], .int .i64 a, .int .i64 b] w fun e w' => ∃ r cap, e = .returned (.tuple #[.slice r (rcolV (wnxt T M) a b).1.length cap, .bool (rcolV (wnxt T M) a b).2]) ∧ IsInts w' r cap .i64 (rcolV (wnxt T M) a b).1 ∧ Below w.heap.size w w' := by
  have HF : Hid (∀ w p, 0 ≤ p → p ≤ 2199023255552 → Calls Try.prog 20 #[.agg #[.int .i64 T, .int .i64 M], .int .i64 p] w fun e w' => e = .returned (.tuple #[.int .i64 (wnxt T M p), .int .i64 (wnext T M p).2]) ∧ Below w.heap.size w w') := Lib.hid (fun w p p0 p1 => rnext_any T M p w h p0 p1)
  have HM := Lib.hid (fun p p0 => wnxt_bd (T := T) (M := M) (p := p) h p0)
  have HV : Hid (rcolV (wnxt T M) a b = if (collL (wnxt T M) a b).length ≤ 1000 then (collL (wnxt T M) a b, true) else ([], false)) := Lib.hid rfl
  have hfa := HF.out
  have ⟨fa1, fa2⟩ := HM.out a a0
  have HFA := Lib.hid (fun w => HF.out w a a0 (by omega))
  have HL : Hid (collL (wnxt T M) a b = [] ++ iterL (wnxt T M) b (1001 - 0) (wnxt T M a)) := Lib.hid rfl
  clear h hfa
  generalize hfa0 : wnxt T M a = fa at *
  go_enter Try.func30, Try.ntmps30
  go_wp2_with ((go_at_call 20; refine (HFA.out _).mono ?_; rintro e hb1w ⟨rfl, hb1⟩; obtain ⟨hb1c, hb1f⟩ := bcell hb1; have hb1s := hb1.size; (try simp only [World.size_alloc] at hb1s); (try (have : w.heap.size < hb1w.heap.size := by omega)); (try (have : w.heap.size + 1 < hb1w.heap.size := by omega)); (try (have : w.heap.size + 1 + 1 < hb1w.heap.size := by omega)); (try (have : w.heap.size + 1 + 1 + 1 < hb1w.heap.size := by omega)); (try (have : bX < hb1w.heap.size := by omega)); (try (have : bY < hb1w.heap.size := by omega)); (try (have : bZ < hb1w.heap.size := by omega))))
  go_loopg [8, 9] 1001 (fun kx s8 s9 wr => ∃ (r : Option Addr) (cap : Nat) (out : List Int) (p : Int) (e : Later hb1w), s8 = .slice r out.length cap ∧ s9 = .int .i64 p ∧ out.length ≤ 1000 ∧ a < p ∧ p ≤ 2199023255552 ∧ 1001 - out.length ≤ kx ∧ wr = e.w ∧ Hid (OwnI e.w hb1w.heap.size r cap out) ∧ Hid (∀ x ∈ out, 0 ≤ x ∧ x ≤ 1099511627776) ∧ Hid (collL (wnxt T M) a b = out ++ iterL (wnxt T M) b (1001 - out.length) p))
  case atStart => exact ⟨none, 0, [], fa, ⟨hb1w, Below.refl _ _⟩, rfl, rfl, by simp, by omega, by omega, by simp, rfl, Lib.hid (OwnI.nil _ _), Lib.hid (by simp), HL⟩
  case round =>
    obtain ⟨r, cap, out, p, e, rfl, rfl, hl, hp1, hp2, hkx, rfl, HO, HE, HQ⟩ := hrel
    have hes := e.h.size
    have hbo : w.heap.size < e.w.heap.size := by omega
    by_cases hpb : p ≤ b
    · by_cases hfull : out.length = 1000
      · have hfull2 : (out.length : Int) = 1000 := by omega
        have hv : rcolV (wnxt T M) a b = ([], false) := by
          rw [HV.out, if_neg]
          rw [HQ.out, hfull, show 1001 - 1000 = 0 + 1 by omega, iterL_in hpb]
          simp [hfull]
        have HVV := Lib.hid hv
        clear hfull hv
        go_wp2
        go_ret2
        rw [HVV.out]
        exact ⟨none, 0, rfl, (OwnI.nil e.w w.heap.size).ints (by simp), by (repeat' (first | (with_reducible exact Below.refl _ _) | (with_reducible assumption) | (with_reducible refine below_alloc ?_ _) | (with_reducible refine Below.drew ?_) | (with_reducible refine below_drewN ?_ _) | (with_reducible refine below_step (by assumption) ?_) | (with_reducible refine below_later ?_ _) | (with_reducible refine Below.setCell ?_ ?_ _) | go_size))⟩
      · have hfull2 : ¬ (out.length : Int) = 1000 := by omega
        have ⟨fp1, fp2⟩ := HM.out p (by omega)
        have HFP := Lib.hid (fun w => HF.out w p (by omega) (by omega))
        have HQ2 : Hid (collL (wnxt T M) a b = (out ++ [p]) ++ iterL (wnxt T M) b (1001 - (out ++ [p]).length) (wnxt T M p)) := Lib.hid (by
          rw [HQ.out, show 1001 - out.length = (1000 - out.length) + 1 by omega, iterL_in hpb]
          simp)
        have HE2 : Hid (∀ x ∈ out ++ [p], 0 ≤ x ∧ x ≤ 1099511627776) := Lib.hid (fun x hx => by
          rcases List.mem_append.1 hx with hx | hx
          · exact HE.out x hx
          · simp at hx; omega)
        generalize wnxt T M p = fp at *
        clear hfull
        go_wp2_with (first | (at_builtin; refine wpList_append_int (by rfl) _ _ (by rfl) e.w hb1w.heap.size r cap out p (by rfl) (by rfl) (by rfl) HO.out (by omega) (by omega) ?_; intro r' cap' w1 hown1 hbw1; have hw1c : w1.cell? ⟨w.heap.size, 0, none⟩ = e.w.cell? ⟨w.heap.size, 0, none⟩ := hbw1.cell (p := ⟨w.heap.size, 0, none⟩) (by omega); have hw1d : w1.cell? ⟨w.heap.size, 1, none⟩ = e.w.cell? ⟨w.heap.size, 1, none⟩ := hbw1.cell (p := ⟨w.heap.size, 1, none⟩) (by omega); have hw1s := hbw1.size; have hw1t : w.heap.size < w1.heap.size := by omega) | (go_at_call 20; refine (HFP.out _).mono ?_; rintro e hb2w ⟨rfl, hb2⟩; obtain ⟨hb2c, hb2f⟩ := bcell hb2; have hb2s := hb2.size; (try simp only [World.size_alloc] at hb2s); (try (have : w.heap.size < hb2w.heap.size := by omega)); (try (have : w.heap.size + 1 < hb2w.heap.size := by omega)); (try (have : w.heap.size + 1 + 1 < hb2w.heap.size := by omega)); (try (have : w.heap.size + 1 + 1 + 1 < hb2w.heap.size := by omega)); (try (have : bX < hb2w.heap.size := by omega)); (try (have : bY < hb2w.heap.size := by omega)); (try (have : bZ < hb2w.heap.size := by omega))))
        go_roundg (1001 - (out ++ [p]).length)
        case measure => simp; omega
        case rel =>
          exact ⟨r', cap', out ++ [p], fp, ⟨hb2w, (e.h.trans hbw1).trans (hb2.mono (e.h.trans hbw1).size)⟩, by simp, rfl, by simp; omega, by omega, by omega, Nat.le_refl _, rfl, Lib.hid (hown1.below hb2 (Nat.le_refl _)), HE2, HQ2⟩
    · have hv : rcolV (wnxt T M) a b = (out, true) := by
        have e1 : collL (wnxt T M) a b = out := by rw [HQ.out, iterL_out hpb]; simp
        rw [HV.out, e1, if_pos hl]
      have HVV := Lib.hid hv
      clear hv
      go_wp2
      go_ret2
      rw [HVV.out]
      exact ⟨r, cap, rfl, HO.out.ints (fun x hx => by have := HE.out x hx; exact WalkArith.wf_i64 (by omega)), by (repeat' (first | (with_reducible exact Below.refl _ _) | (with_reducible assumption) | (with_reducible refine below_alloc ?_ _) | (with_reducible refine Below.drew ?_) | (with_reducible refine below_drewN ?_ _) | (with_reducible refine below_step (by assumption) ?_) | (with_reducible refine below_later ?_ _) | (with_reducible refine Below.setCell ?_ ?_ _) | go_size))⟩
end Go.Proofs.Ytjkdekblenlflaa
