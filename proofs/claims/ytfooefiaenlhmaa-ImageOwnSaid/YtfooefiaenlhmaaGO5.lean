/- Lemmas for the laws of package magnetolaw15: what its functions return, for any arguments that the lemmas name. -/
import Derived.Test.YtfooefiaenlhmaaGO1
import Derived.Test.YtfooefiaenlhmaaGO2
import Derived.Test.YtfooefiaenlhmaaGO4
import Derived.StillTailTactics
namespace Go.Proofs.Ytfooefiaenlhmaa
set_option linter.unusedVariables false
set_option linter.unusedSimpArgs false
set_option maxHeartbeats 16000000
open Go.RowKit Go.ChangeShapes Go.WideShapes Go.ChangeAt
abbrev Sx := Option (List Int)
def rawB (bs : List Int) : Int := bs.foldl (fun n c => n * 256 + c) 0
def valB (bs : List Int) : Int := IntKind.i64.wrap (rawB bs)
def pInt : Sx → Int × Sx
 | none => (0, none)
 | some bs => if 8 ≤ bs.length then (valB (bs.take 8), some (bs.drop 8)) else (0, none)
def pCount (size : Nat) (s : Sx) : Nat × Sx :=
 match pInt s with
 | (_, none) => (0, none)
 | (n, some bs) => if 0 ≤ n ∧ n ≤ ((bs.length / size : Nat) : Int) then (n.toNat, some bs) else (0, none)
def pRep {α : Type} (f : Sx → α × Sx) : Nat → Sx → List α × Sx
 | 0, s => ([], s)
 | n + 1, s => ((pRep f n s).1 ++ [(f (pRep f n s).2).1], (f (pRep f n s).2).2)
def pList (s : Sx) : List Int × Sx := pRep pInt (pCount 8 s).1 (pCount 8 s).2
theorem run_ix (b k : Nat) (hk : k < 5) (w : World) : (Instr.index 142 (.agg #[.pointer (some ⟨b, 0, none⟩), .pointer (some ⟨b, 1, none⟩), .pointer (some ⟨b, 2, none⟩), .pointer (some ⟨b, 3, none⟩), .pointer (some ⟨b, 4, none⟩)]) (.int .i64 k)).run Try.prog w = .ok (.pointer (some ⟨b, k, none⟩)) w := by
 obtain rfl | rfl | rfl | rfl | rfl : k = 0 ∨ k = 1 ∨ k = 2 ∨ k = 3 ∨ k = 4 := by omega
 all_goals simp [Instr.index, run_underlying Try.underlying142, asIntOf, go_sem]
def in9 (x : Int) : Bool := decide (-9 ≤ x ∧ x ≤ 9)
def unitB (m kg s a k : Int) : Bool := in9 m && (in9 kg && (in9 s && (in9 a && in9 k)))
def fxB (t : Fx) : Bool := decide (t.bits = 8 ∨ t.bits = 16 ∨ t.bits = 32) && (decide (1 ≤ t.num ∧ t.num ≤ 1048576) && (decide (1 ≤ t.den ∧ t.den ≤ 1048576) && (decide (-1073741824 ≤ t.off ∧ t.off ≤ 1073741824) && unitB t.m t.kg t.s t.a t.k)))
theorem in9_bad {x : Int} (h : x < -9 ∨ 9 < x) : in9 x = false := by unfold in9; simp only [decide_eq_false_iff_not]; omega
theorem in9_good {x : Int} (h0 : ¬ x < -9) (h1 : ¬ 9 < x) : in9 x = true := by unfold in9; simp only [decide_eq_true_eq]; omega
set_option maxRecDepth 100000 in
theorem exps_any (b : Nat) (w : World) : Calls Try.prog 113 #[.pointer (some ⟨b, 0, none⟩)] w fun e w' => e = .returned (.agg #[.pointer (some ⟨b, 0, none⟩), .pointer (some ⟨b, 1, none⟩), .pointer (some ⟨b, 2, none⟩), .pointer (some ⟨b, 3, none⟩), .pointer (some ⟨b, 4, none⟩)]) ∧ Below w.heap.size w w' := by
 go_enter Try.func113, Try.ntmps113
 go_wp2
 refine wp_still_tail 15 (by kernel_rfl) (by kernel_rfl) ?_
 intro W hW hWs
 simp only [zA] at hWs
 have hw0 : w.heap.size < W.heap.size := by omega
 have d : ∀ j : Nat, W.cell? ⟨w.heap.size, j, none⟩ = (w.alloc (.cells #[.pointer none, .pointer none, .pointer none, .pointer none, .pointer none] 142)).cell? ⟨w.heap.size, j, none⟩ := fun j => hW.cell (p := ⟨w.heap.size, j, none⟩) (by rw [zA]; show w.heap.size < _; omega)
 have df : ∀ j : Nat, W.frozen? ⟨w.heap.size, j, none⟩ = (w.alloc (.cells #[.pointer none, .pointer none, .pointer none, .pointer none, .pointer none] 142)).frozen? ⟨w.heap.size, j, none⟩ := fun j => hW.frozen (p := ⟨w.heap.size, j, none⟩) (by rw [zA]; show w.heap.size < _; omega)
 simp only [List.take_succ_cons, List.take_zero, List.drop_succ_cons, List.drop_zero]
 repeat (first | (refine wpStill_step (fun K hK => ?_); go_simp; refine hK _ ?_; clear hK K))
 refine wpStill_nil ?_
 go_wp2
 refine bodyPost_ret (by simp [results, Try.results113, go_sem, *]; try rfl) rfl ?_
 exact ⟨rfl, bw⟩
set_option maxRecDepth 100000 in
theorem uvalid_any (m kg s a k : Int) (w : World) : Calls Try.prog 98 #[.agg #[.int .i64 m, .int .i64 kg, .int .i64 s, .int .i64 a, .int .i64 k]] w fun e w' => e = .returned (.bool (unitB m kg s a k)) ∧ Below w.heap.size w w' := by
 have HF : Hid (unitB m kg s a k = (in9 m && (in9 kg && (in9 s && (in9 a && in9 k))))) := H! rfl
 generalize unitB m kg s a k = R at *
 go_enter Try.func98, Try.ntmps98
 go_wp2_with (go_at_call 113; refine (exps_any _ _).mono ?_; rintro _ w1 ⟨rfl, hb1⟩; obtain ⟨hb1c, hb1f⟩ := bcell hb1; have hb1s := hb1.size; (try simp only [zA] at hb1s))
 have hx0 : w.heap.size < w1.heap.size := by omega
 have hB : Below w.heap.size w w1 := bw
 have d0 : w1.cell? ⟨w.heap.size, 0, none⟩ = some (.int .i64 m) := by rw [hb1c w.heap.size 0 (by simp only [zA]; omega)]; first | go_keep | (simp; done)
 have d1 : w1.cell? ⟨w.heap.size, 1, none⟩ = some (.int .i64 kg) := by rw [hb1c w.heap.size 1 (by simp only [zA]; omega)]; first | go_keep | (simp; done)
 have d2 : w1.cell? ⟨w.heap.size, 2, none⟩ = some (.int .i64 s) := by rw [hb1c w.heap.size 2 (by simp only [zA]; omega)]; first | go_keep | (simp; done)
 have d3 : w1.cell? ⟨w.heap.size, 3, none⟩ = some (.int .i64 a) := by rw [hb1c w.heap.size 3 (by simp only [zA]; omega)]; first | go_keep | (simp; done)
 have d4 : w1.cell? ⟨w.heap.size, 4, none⟩ = some (.int .i64 k) := by rw [hb1c w.heap.size 4 (by simp only [zA]; omega)]; first | go_keep | (simp; done)
 have ix0 : ∀ W, (Instr.index 142 (.agg #[.pointer (some ⟨w.heap.size, 0, none⟩), .pointer (some ⟨w.heap.size, 1, none⟩), .pointer (some ⟨w.heap.size, 2, none⟩), .pointer (some ⟨w.heap.size, 3, none⟩), .pointer (some ⟨w.heap.size, 4, none⟩)]) (.int .i64 0)).run Try.prog W = .ok (.pointer (some ⟨w.heap.size, 0, none⟩)) W := fun W => run_ix w.heap.size 0 (by omega) W
 have ix1 : ∀ W, (Instr.index 142 (.agg #[.pointer (some ⟨w.heap.size, 0, none⟩), .pointer (some ⟨w.heap.size, 1, none⟩), .pointer (some ⟨w.heap.size, 2, none⟩), .pointer (some ⟨w.heap.size, 3, none⟩), .pointer (some ⟨w.heap.size, 4, none⟩)]) (.int .i64 1)).run Try.prog W = .ok (.pointer (some ⟨w.heap.size, 1, none⟩)) W := fun W => run_ix w.heap.size 1 (by omega) W
 have ix2 : ∀ W, (Instr.index 142 (.agg #[.pointer (some ⟨w.heap.size, 0, none⟩), .pointer (some ⟨w.heap.size, 1, none⟩), .pointer (some ⟨w.heap.size, 2, none⟩), .pointer (some ⟨w.heap.size, 3, none⟩), .pointer (some ⟨w.heap.size, 4, none⟩)]) (.int .i64 2)).run Try.prog W = .ok (.pointer (some ⟨w.heap.size, 2, none⟩)) W := fun W => run_ix w.heap.size 2 (by omega) W
 have ix3 : ∀ W, (Instr.index 142 (.agg #[.pointer (some ⟨w.heap.size, 0, none⟩), .pointer (some ⟨w.heap.size, 1, none⟩), .pointer (some ⟨w.heap.size, 2, none⟩), .pointer (some ⟨w.heap.size, 3, none⟩), .pointer (some ⟨w.heap.size, 4, none⟩)]) (.int .i64 3)).run Try.prog W = .ok (.pointer (some ⟨w.heap.size, 3, none⟩)) W := fun W => run_ix w.heap.size 3 (by omega) W
 have ix4 : ∀ W, (Instr.index 142 (.agg #[.pointer (some ⟨w.heap.size, 0, none⟩), .pointer (some ⟨w.heap.size, 1, none⟩), .pointer (some ⟨w.heap.size, 2, none⟩), .pointer (some ⟨w.heap.size, 3, none⟩), .pointer (some ⟨w.heap.size, 4, none⟩)]) (.int .i64 4)).run Try.prog W = .ok (.pointer (some ⟨w.heap.size, 4, none⟩)) W := fun W => run_ix w.heap.size 4 (by omega) W
 clear hb1c hb1f hb1
 go_loopg [6] 5 (fun kx s6 wr => ∃ (j : Nat) (e : Later w1), s6 = .int .i64 j ∧ j ≤ 5 ∧ 5 - j ≤ kx ∧ wr = e.w ∧ Hid ((1 ≤ j → in9 m = true) ∧ (2 ≤ j → in9 kg = true) ∧ (3 ≤ j → in9 s = true) ∧ (4 ≤ j → in9 a = true) ∧ (5 ≤ j → in9 k = true)))
 case atStart => exact ⟨0, ⟨w1, Below.refl _ _⟩, rfl, by omega, by omega, rfl, H! ⟨fun h => absurd h (by omega), fun h => absurd h (by omega), fun h => absurd h (by omega), fun h => absurd h (by omega), fun h => absurd h (by omega)⟩⟩
 case round =>
  obtain ⟨j, e, rfl, hj, hjx, rfl, HG⟩ := hrel
  have hes := e.h.size
  by_cases hj5 : j < 5
  ·
   obtain rfl | rfl | rfl | rfl | rfl : j = 0 ∨ j = 1 ∨ j = 2 ∨ j = 3 ∨ j = 4 := by omega
   ·
    by_cases n0 : m < -9
    ·
     have HB : Hid (R = false) := H! (by rw [HF.out, in9_bad (x := m) (.inl n0)]; simp)
     go_wp2
     go_ret
     exact ⟨ret_bool HB.out.symm, hB.trans (e.h.mono (by omega))⟩
    ·
     by_cases n1 : 9 < m
     ·
      have HB : Hid (R = false) := H! (by rw [HF.out, in9_bad (x := m) (.inr n1)]; simp)
      go_wp2
      go_ret
      exact ⟨ret_bool HB.out.symm, hB.trans (e.h.mono (by omega))⟩
     ·
      have HG0 := H! (in9_good n0 n1)
      go_wp2
      go_roundg (5 - (0 + 1))
      case measure => omega
      case rel => exact ⟨0 + 1, e, by go_num, by omega, by omega, rfl, H! ⟨fun _ => HG0.out, fun h => absurd h (by omega), fun h => absurd h (by omega), fun h => absurd h (by omega), fun h => absurd h (by omega)⟩⟩
   ·
    by_cases n0 : kg < -9
    ·
     have HB : Hid (R = false) := H! (by rw [HF.out, in9_bad (x := kg) (.inl n0)]; simp)
     go_wp2
     go_ret
     exact ⟨ret_bool HB.out.symm, hB.trans (e.h.mono (by omega))⟩
    ·
     by_cases n1 : 9 < kg
     ·
      have HB : Hid (R = false) := H! (by rw [HF.out, in9_bad (x := kg) (.inr n1)]; simp)
      go_wp2
      go_ret
      exact ⟨ret_bool HB.out.symm, hB.trans (e.h.mono (by omega))⟩
     ·
      have HG1 := H! (in9_good n0 n1)
      go_wp2
      go_roundg (5 - (1 + 1))
      case measure => omega
      case rel => exact ⟨1 + 1, e, by go_num, by omega, by omega, rfl, H! ⟨fun _ => HG.out.1 (by omega), fun _ => HG1.out, fun h => absurd h (by omega), fun h => absurd h (by omega), fun h => absurd h (by omega)⟩⟩
   ·
    by_cases n0 : s < -9
    ·
     have HB : Hid (R = false) := H! (by rw [HF.out, in9_bad (x := s) (.inl n0)]; simp)
     go_wp2
     go_ret
     exact ⟨ret_bool HB.out.symm, hB.trans (e.h.mono (by omega))⟩
    ·
     by_cases n1 : 9 < s
     ·
      have HB : Hid (R = false) := H! (by rw [HF.out, in9_bad (x := s) (.inr n1)]; simp)
      go_wp2
      go_ret
      exact ⟨ret_bool HB.out.symm, hB.trans (e.h.mono (by omega))⟩
     ·
      have HG2 := H! (in9_good n0 n1)
      go_wp2
      go_roundg (5 - (2 + 1))
      case measure => omega
      case rel => exact ⟨2 + 1, e, by go_num, by omega, by omega, rfl, H! ⟨fun _ => HG.out.1 (by omega), fun _ => HG.out.2.1 (by omega), fun _ => HG2.out, fun h => absurd h (by omega), fun h => absurd h (by omega)⟩⟩
   ·
    by_cases n0 : a < -9
    ·
     have HB : Hid (R = false) := H! (by rw [HF.out, in9_bad (x := a) (.inl n0)]; simp)
     go_wp2
     go_ret
     exact ⟨ret_bool HB.out.symm, hB.trans (e.h.mono (by omega))⟩
    ·
     by_cases n1 : 9 < a
     ·
      have HB : Hid (R = false) := H! (by rw [HF.out, in9_bad (x := a) (.inr n1)]; simp)
      go_wp2
      go_ret
      exact ⟨ret_bool HB.out.symm, hB.trans (e.h.mono (by omega))⟩
     ·
      have HG3 := H! (in9_good n0 n1)
      go_wp2
      go_roundg (5 - (3 + 1))
      case measure => omega
      case rel => exact ⟨3 + 1, e, by go_num, by omega, by omega, rfl, H! ⟨fun _ => HG.out.1 (by omega), fun _ => HG.out.2.1 (by omega), fun _ => HG.out.2.2.1 (by omega), fun _ => HG3.out, fun h => absurd h (by omega)⟩⟩
   ·
    by_cases n0 : k < -9
    ·
     have HB : Hid (R = false) := H! (by rw [HF.out, in9_bad (x := k) (.inl n0)]; simp)
     go_wp2
     go_ret
     exact ⟨ret_bool HB.out.symm, hB.trans (e.h.mono (by omega))⟩
    ·
     by_cases n1 : 9 < k
     ·
      have HB : Hid (R = false) := H! (by rw [HF.out, in9_bad (x := k) (.inr n1)]; simp)
      go_wp2
      go_ret
      exact ⟨ret_bool HB.out.symm, hB.trans (e.h.mono (by omega))⟩
     ·
      have HG4 := H! (in9_good n0 n1)
      go_wp2
      go_roundg (5 - (4 + 1))
      case measure => omega
      case rel => exact ⟨4 + 1, e, by go_num, by omega, by omega, rfl, H! ⟨fun _ => HG.out.1 (by omega), fun _ => HG.out.2.1 (by omega), fun _ => HG.out.2.2.1 (by omega), fun _ => HG.out.2.2.2.1 (by omega), fun _ => HG4.out⟩⟩
  ·
   obtain rfl : j = 5 := by omega
   obtain ⟨G1, G2, G3, G4, G5⟩ := HG.out
   have HT : Hid (R = true) := H! (by rw [HF.out, G1 (by omega), G2 (by omega), G3 (by omega), G4 (by omega), G5 (by omega)]; rfl)
   go_wp2
   go_ret
   exact ⟨ret_bool HT.out.symm, hB.trans (e.h.mono (by omega))⟩
theorem uvalid_v {m kg s a k : Int} {v : Bool} (h : unitB m kg s a k = v) (w : World) : Calls Try.prog 98 #[.agg #[.int .i64 m, .int .i64 kg, .int .i64 s, .int .i64 a, .int .i64 k]] w fun e w' => e = .returned (.bool v) ∧ Below w.heap.size w w' := by
 subst h
 exact uvalid_any m kg s a k w
set_option maxRecDepth 100000 in
theorem fvalid_any (t : Fx) (w : World) : Calls Try.prog 60 #[.agg #[.int .i64 t.bits, .bool t.sg, .int .i64 t.num, .int .i64 t.off, .int .i64 t.den, .int .i64 t.m, .int .i64 t.kg, .int .i64 t.s, .int .i64 t.a, .int .i64 t.k]] w fun e w' => e = .returned (.bool (fxB t)) ∧ Below w.heap.size w w' := by
 obtain ⟨bits, sg, num, off, den, m, kg, s, a, k⟩ := t
 have HF : Hid (fxB ⟨bits, sg, num, off, den, m, kg, s, a, k⟩ = (decide (bits = 8 ∨ bits = 16 ∨ bits = 32) && (decide (1 ≤ num ∧ num ≤ 1048576) && (decide (1 ≤ den ∧ den ≤ 1048576) && (decide (-1073741824 ≤ off ∧ off ≤ 1073741824) && unitB m kg s a k))))) := H! rfl
 generalize fxB ⟨bits, sg, num, off, den, m, kg, s, a, k⟩ = R at *
 simp only
 cases hu : unitB m kg s a k
 ·
  have HU := H! hu
  go_enter Try.func60, Try.ntmps60
  go_wp2_with (first | (go_at_call 98; refine (uvalid_v HU.out _).mono ?_; rintro _ w1 ⟨rfl, hb1⟩))
  all_goals go_ret
  all_goals exact ⟨by rw [HF.out, HU.out]; first | rfl | (simp [*]; done) | (simp [*]; omega), bw⟩
 ·
  have HU := H! hu
  go_enter Try.func60, Try.ntmps60
  go_wp2_with (first | (go_at_call 98; refine (uvalid_v HU.out _).mono ?_; rintro _ w1 ⟨rfl, hb1⟩))
  all_goals go_ret
  all_goals exact ⟨by rw [HF.out, HU.out]; first | rfl | (simp [*]; done) | (simp [*]; omega), bw⟩
def combE (g m kg s a k m2 kg2 s2 a2 k2 : Int) : Int := if unitB m kg s a k && unitB m2 kg2 s2 a2 k2 then (if unitB (m + g * m2) (kg + g * kg2) (s + g * s2) (a + g * a2) (k + g * k2) then 0 else 2) else 1
def combV (g x y e : Int) : Int := if e = 0 then x + g * y else 0
def AtL (W : World) (b : Nat) (l : List Int) : Prop := ∀ i v, l[i]? = some v → W.cell? ⟨b, i, none⟩ = some (.int .i64 v) ∧ W.frozen? ⟨b, i, none⟩ = false
theorem AtL.set {W : World} {b : Nat} {l : List Int} (h : AtL W b l) {j : Nat} (hj : j < l.length) (v : Int) : AtL (W.setCell ⟨b, j, none⟩ (.int .i64 v)) b (l.set j v) := by
 intro i u hi
 rw [World.frozen?_setCell]
 rw [List.getElem?_set] at hi
 by_cases e : j = i
 ·
  subst e
  rw [if_pos rfl, if_pos hj] at hi
  obtain ⟨h1, h2⟩ := h j _ (List.getElem?_eq_getElem hj)
  refine ⟨?_, h2⟩
  rw [World.cell?_setCell_same' _ _ _ (by rw [h1]; rfl)]
  simpa using hi
 ·
  rw [if_neg e] at hi
  obtain ⟨h1, h2⟩ := h i _ hi
  refine ⟨?_, h2⟩
  rw [World.cell?_setCell_other (h := fun h => e (by cases h; rfl))]
  exact h1
theorem in9_bd {x : Int} (h : in9 x = true) : -9 ≤ x ∧ x ≤ 9 := by unfold in9 at h; simpa using h
theorem unitB_bd {m kg s a k : Int} (h : unitB m kg s a k = true) : (-9 ≤ m ∧ m ≤ 9) ∧ (-9 ≤ kg ∧ kg ≤ 9) ∧ (-9 ≤ s ∧ s ≤ 9) ∧ (-9 ≤ a ∧ a ≤ 9) ∧ (-9 ≤ k ∧ k ≤ 9) := by
 unfold unitB at h
 simp only [Bool.and_eq_true] at h
 obtain ⟨h0, h1, h2, h3, h4⟩ := h
 exact ⟨in9_bd h0, in9_bd h1, in9_bd h2, in9_bd h3, in9_bd h4⟩
theorem KeepB.setC {B Bo : Nat} (W : World) (j : Nat) (v : Value) : KeepB B Bo W (W.setCell ⟨Bo, j, none⟩ v) :=
 ⟨(Below.refl 0 W).setCell (p := ⟨Bo, j, none⟩) (Nat.zero_le _) v, fun q _ hn => Below.heap_setCell _ _ _ _ hn⟩
theorem KeepB.frozen {B Bo q o : Nat} {W W' : World} (h : KeepB B Bo W W') (hq : q < B) (hn : q ≠ Bo) : W'.frozen? ⟨q, o, none⟩ = W.frozen? ⟨q, o, none⟩ :=
 World.frozen?_of_block (a := ⟨q, o, none⟩) (h.block q hq hn)
set_option maxRecDepth 100000 in
theorem comb_any (g m kg s a k m2 kg2 s2 a2 k2 : Int) (hg : g = 1 ∨ g = -1) (w : World) : Calls Try.prog 128 #[.agg #[.int .i64 m, .int .i64 kg, .int .i64 s, .int .i64 a, .int .i64 k], .agg #[.int .i64 m2, .int .i64 kg2, .int .i64 s2, .int .i64 a2, .int .i64 k2], .int .i64 g] w fun e w' => e = .returned (.tuple #[.agg #[.int .i64 (combV g m m2 (combE g m kg s a k m2 kg2 s2 a2 k2)), .int .i64 (combV g kg kg2 (combE g m kg s a k m2 kg2 s2 a2 k2)), .int .i64 (combV g s s2 (combE g m kg s a k m2 kg2 s2 a2 k2)), .int .i64 (combV g a a2 (combE g m kg s a k m2 kg2 s2 a2 k2)), .int .i64 (combV g k k2 (combE g m kg s a k m2 kg2 s2 a2 k2))], .int .i64 (combE g m kg s a k m2 kg2 s2 a2 k2)]) ∧ Below w.heap.size w w' := by
 have HE : Hid (combE g m kg s a k m2 kg2 s2 a2 k2 = if unitB m kg s a k && unitB m2 kg2 s2 a2 k2 then (if unitB (m + g * m2) (kg + g * kg2) (s + g * s2) (a + g * a2) (k + g * k2) then 0 else 2) else 1) := H! rfl
 generalize combE g m kg s a k m2 kg2 s2 a2 k2 = E at *
 cases hu : unitB m kg s a k
 ·
  have HU := H! hu
  obtain rfl : E = 1 := by rw [HE.out, HU.out]; rfl
  clear HE
  go_enter Try.func128, Try.ntmps128
  go_wp2_with (first | (go_at_call 98; refine (uvalid_v HU.out _).mono ?_; rintro _ w1 ⟨rfl, hb1⟩; obtain ⟨hb1c, hb1f⟩ := bcell hb1; have hb1s := hb1.size; (try simp only [zA] at hb1s)))
  have hx2 : w.heap.size + 1 + 1 < w1.heap.size := by omega
  refine bodyPost_ret (by simp [results, Try.results128, go_sem, *]; try rfl) rfl ?_
  exact ⟨rfl, bw⟩
 ·
  have HU := H! hu
  cases hu2 : unitB m2 kg2 s2 a2 k2
  ·
   have HU2 := H! hu2
   obtain rfl : E = 1 := by rw [HE.out, HU.out, HU2.out]; rfl
   clear HE
   have tk0 : True := trivial
   go_enter Try.func128, Try.ntmps128
   go_wp2_with (first | (have _t := tk0; go_at_call 98; refine (uvalid_v HU.out _).mono ?_; rintro _ w1 ⟨rfl, hb1⟩; obtain ⟨hb1c, hb1f⟩ := bcell hb1; have hb1s := hb1.size; (try simp only [zA] at hb1s); have hx1 : w.heap.size + 1 < w1.heap.size := (by omega); have hx2 : w.heap.size + 1 + 1 < w1.heap.size := (by omega); have hx0 : w.heap.size < w1.heap.size := (by omega); clear tk0 _t) | (go_at_call 98; refine (uvalid_v HU2.out _).mono ?_; rintro _ w2 ⟨rfl, hb2⟩; obtain ⟨hb2c, hb2f⟩ := bcell hb2; have hb2s := hb2.size; have hy0 : w.heap.size < w2.heap.size := (by omega); have hy1 : w.heap.size + 1 < w2.heap.size := (by omega); have hy2 : w.heap.size + 1 + 1 < w2.heap.size := (by omega)))
   refine bodyPost_ret (by simp [results, Try.results128, go_sem, *]; try rfl) rfl ?_
   exact ⟨rfl, bw⟩
  ·
   have HU2 := H! hu2
   have hbd := unitB_bd hu
   have hbd2 := unitB_bd hu2
   have HE2 : Hid (E = if unitB (m + g * m2) (kg + g * kg2) (s + g * s2) (a + g * a2) (k + g * k2) then 0 else 2) := H! (by rw [HE.out, HU.out, HU2.out]; rfl)
   clear HE
   have tk0 : True := trivial
   have tk1 : True := trivial
   go_enter Try.func128, Try.ntmps128
   go_wp2_with (first | (have _t := tk0; go_at_call 98; refine (uvalid_v HU.out _).mono ?_; rintro _ w1 ⟨rfl, hb1⟩; obtain ⟨hb1c, hb1f⟩ := bcell hb1; have hb1s := hb1.size; (try simp only [zA] at hb1s); have hx1 : w.heap.size + 1 < w1.heap.size := (by omega); have hx2 : w.heap.size + 1 + 1 < w1.heap.size := (by omega); have hx0 : w.heap.size < w1.heap.size := (by omega); clear tk0 _t) | (go_at_call 98; refine (uvalid_v HU2.out _).mono ?_; rintro _ w2 ⟨rfl, hb2⟩; obtain ⟨hb2c, hb2f⟩ := bcell hb2; have hb2s := hb2.size; have hy0 : w.heap.size < w2.heap.size := (by omega); have hy1 : w.heap.size + 1 < w2.heap.size := (by omega); have hy2 : w.heap.size + 1 + 1 < w2.heap.size := (by omega)) | (have _t := tk1; go_at_call 113; refine (exps_any _ _).mono ?_; rintro _ w3 ⟨rfl, hb3⟩; obtain ⟨hb3c, hb3f⟩ := bcell hb3; have hb3s := hb3.size; clear tk1 _t) | (go_at_call 113; refine (exps_any _ _).mono ?_; rintro _ w4 ⟨rfl, hb4⟩; obtain ⟨hb4c, hb4f⟩ := bcell hb4; have hb4s := hb4.size))
   have hz0 : w.heap.size < w3.heap.size := by omega
   have hz1 : w.heap.size + 1 < w3.heap.size := by omega
   have hz2 : w.heap.size + 1 + 1 < w3.heap.size := by omega
   have ha0 : w.heap.size < w4.heap.size := by omega
   have ha1 : w.heap.size + 1 < w4.heap.size := by omega
   have ha2 : w.heap.size + 1 + 1 < w4.heap.size := by omega
   have hB5 : Below w.heap.size w ((w4.alloc (.cells #[.pointer (some ⟨w.heap.size, 0, none⟩), .pointer (some ⟨w.heap.size, 1, none⟩), .pointer (some ⟨w.heap.size, 2, none⟩), .pointer (some ⟨w.heap.size, 3, none⟩), .pointer (some ⟨w.heap.size, 4, none⟩)] 142)).alloc (.cells #[.pointer (some ⟨w.heap.size + 1, 0, none⟩), .pointer (some ⟨w.heap.size + 1, 1, none⟩), .pointer (some ⟨w.heap.size + 1, 2, none⟩), .pointer (some ⟨w.heap.size + 1, 3, none⟩), .pointer (some ⟨w.heap.size + 1, 4, none⟩)] 142)) := bw
   have hz5 : ((w4.alloc (.cells #[.pointer (some ⟨w.heap.size, 0, none⟩), .pointer (some ⟨w.heap.size, 1, none⟩), .pointer (some ⟨w.heap.size, 2, none⟩), .pointer (some ⟨w.heap.size, 3, none⟩), .pointer (some ⟨w.heap.size, 4, none⟩)] 142)).alloc (.cells #[.pointer (some ⟨w.heap.size + 1, 0, none⟩), .pointer (some ⟨w.heap.size + 1, 1, none⟩), .pointer (some ⟨w.heap.size + 1, 2, none⟩), .pointer (some ⟨w.heap.size + 1, 3, none⟩), .pointer (some ⟨w.heap.size + 1, 4, none⟩)] 142)).heap.size = w4.heap.size + 2 := by simp
   have hAt : Hid (AtL ((w4.alloc (.cells #[.pointer (some ⟨w.heap.size, 0, none⟩), .pointer (some ⟨w.heap.size, 1, none⟩), .pointer (some ⟨w.heap.size, 2, none⟩), .pointer (some ⟨w.heap.size, 3, none⟩), .pointer (some ⟨w.heap.size, 4, none⟩)] 142)).alloc (.cells #[.pointer (some ⟨w.heap.size + 1, 0, none⟩), .pointer (some ⟨w.heap.size + 1, 1, none⟩), .pointer (some ⟨w.heap.size + 1, 2, none⟩), .pointer (some ⟨w.heap.size + 1, 3, none⟩), .pointer (some ⟨w.heap.size + 1, 4, none⟩)] 142)) w.heap.size [m, kg, s, a, k]) := H! (fun i v hi => by
    have h5 : ((w4.alloc (.cells #[.pointer (some ⟨w.heap.size, 0, none⟩), .pointer (some ⟨w.heap.size, 1, none⟩), .pointer (some ⟨w.heap.size, 2, none⟩), .pointer (some ⟨w.heap.size, 3, none⟩), .pointer (some ⟨w.heap.size, 4, none⟩)] 142)).alloc (.cells #[.pointer (some ⟨w.heap.size + 1, 0, none⟩), .pointer (some ⟨w.heap.size + 1, 1, none⟩), .pointer (some ⟨w.heap.size + 1, 2, none⟩), .pointer (some ⟨w.heap.size + 1, 3, none⟩), .pointer (some ⟨w.heap.size + 1, 4, none⟩)] 142)).cell? ⟨w.heap.size, i, none⟩ = w4.cell? ⟨w.heap.size, i, none⟩ := (((Below.refl w4.heap.size w4).alloc (Nat.le_refl _) _).alloc (by simp) _).cell (p := ⟨w.heap.size, i, none⟩) ha0
    have f5 : ((w4.alloc (.cells #[.pointer (some ⟨w.heap.size, 0, none⟩), .pointer (some ⟨w.heap.size, 1, none⟩), .pointer (some ⟨w.heap.size, 2, none⟩), .pointer (some ⟨w.heap.size, 3, none⟩), .pointer (some ⟨w.heap.size, 4, none⟩)] 142)).alloc (.cells #[.pointer (some ⟨w.heap.size + 1, 0, none⟩), .pointer (some ⟨w.heap.size + 1, 1, none⟩), .pointer (some ⟨w.heap.size + 1, 2, none⟩), .pointer (some ⟨w.heap.size + 1, 3, none⟩), .pointer (some ⟨w.heap.size + 1, 4, none⟩)] 142)).frozen? ⟨w.heap.size, i, none⟩ = w4.frozen? ⟨w.heap.size, i, none⟩ := (((Below.refl w4.heap.size w4).alloc (Nat.le_refl _) _).alloc (by simp) _).frozen (p := ⟨w.heap.size, i, none⟩) ha0
    rw [h5, f5, hb4c _ _ hz0, hb4f _ _ hz0, hb3c _ _ hy0, hb3f _ _ hy0, hb2c _ _ hx0, hb2f _ _ hx0, hb1c _ _ (by simp only [zA]; omega), hb1f _ _ (by simp only [zA]; omega)]
    match i, hi with
    | 0, hi | 1, hi | 2, hi | 3, hi | 4, hi => simp at hi; subst hi; exact ⟨by first | go_keep | (simp [go_sem]; done), by first | go_keep | (simp [go_sem]; done) | (simp [World.frozen?]; done)⟩
    | i + 5, hi => simp at hi)
   have b0 : ((w4.alloc (.cells #[.pointer (some ⟨w.heap.size, 0, none⟩), .pointer (some ⟨w.heap.size, 1, none⟩), .pointer (some ⟨w.heap.size, 2, none⟩), .pointer (some ⟨w.heap.size, 3, none⟩), .pointer (some ⟨w.heap.size, 4, none⟩)] 142)).alloc (.cells #[.pointer (some ⟨w.heap.size + 1, 0, none⟩), .pointer (some ⟨w.heap.size + 1, 1, none⟩), .pointer (some ⟨w.heap.size + 1, 2, none⟩), .pointer (some ⟨w.heap.size + 1, 3, none⟩), .pointer (some ⟨w.heap.size + 1, 4, none⟩)] 142)).cell? ⟨w.heap.size + 1, 0, none⟩ = some (.int .i64 m2) := by
    rw [(((Below.refl w4.heap.size w4).alloc (Nat.le_refl _) _).alloc (by simp) _).cell (p := ⟨w.heap.size + 1, 0, none⟩) ha1, hb4c _ _ hz1, hb3c _ _ hy1, hb2c _ _ hx1, hb1c _ _ (by simp only [zA]; omega)]
    first | go_keep | simp
   have b1 : ((w4.alloc (.cells #[.pointer (some ⟨w.heap.size, 0, none⟩), .pointer (some ⟨w.heap.size, 1, none⟩), .pointer (some ⟨w.heap.size, 2, none⟩), .pointer (some ⟨w.heap.size, 3, none⟩), .pointer (some ⟨w.heap.size, 4, none⟩)] 142)).alloc (.cells #[.pointer (some ⟨w.heap.size + 1, 0, none⟩), .pointer (some ⟨w.heap.size + 1, 1, none⟩), .pointer (some ⟨w.heap.size + 1, 2, none⟩), .pointer (some ⟨w.heap.size + 1, 3, none⟩), .pointer (some ⟨w.heap.size + 1, 4, none⟩)] 142)).cell? ⟨w.heap.size + 1, 1, none⟩ = some (.int .i64 kg2) := by
    rw [(((Below.refl w4.heap.size w4).alloc (Nat.le_refl _) _).alloc (by simp) _).cell (p := ⟨w.heap.size + 1, 1, none⟩) ha1, hb4c _ _ hz1, hb3c _ _ hy1, hb2c _ _ hx1, hb1c _ _ (by simp only [zA]; omega)]
    first | go_keep | simp
   have b2 : ((w4.alloc (.cells #[.pointer (some ⟨w.heap.size, 0, none⟩), .pointer (some ⟨w.heap.size, 1, none⟩), .pointer (some ⟨w.heap.size, 2, none⟩), .pointer (some ⟨w.heap.size, 3, none⟩), .pointer (some ⟨w.heap.size, 4, none⟩)] 142)).alloc (.cells #[.pointer (some ⟨w.heap.size + 1, 0, none⟩), .pointer (some ⟨w.heap.size + 1, 1, none⟩), .pointer (some ⟨w.heap.size + 1, 2, none⟩), .pointer (some ⟨w.heap.size + 1, 3, none⟩), .pointer (some ⟨w.heap.size + 1, 4, none⟩)] 142)).cell? ⟨w.heap.size + 1, 2, none⟩ = some (.int .i64 s2) := by
    rw [(((Below.refl w4.heap.size w4).alloc (Nat.le_refl _) _).alloc (by simp) _).cell (p := ⟨w.heap.size + 1, 2, none⟩) ha1, hb4c _ _ hz1, hb3c _ _ hy1, hb2c _ _ hx1, hb1c _ _ (by simp only [zA]; omega)]
    first | go_keep | simp
   have b3 : ((w4.alloc (.cells #[.pointer (some ⟨w.heap.size, 0, none⟩), .pointer (some ⟨w.heap.size, 1, none⟩), .pointer (some ⟨w.heap.size, 2, none⟩), .pointer (some ⟨w.heap.size, 3, none⟩), .pointer (some ⟨w.heap.size, 4, none⟩)] 142)).alloc (.cells #[.pointer (some ⟨w.heap.size + 1, 0, none⟩), .pointer (some ⟨w.heap.size + 1, 1, none⟩), .pointer (some ⟨w.heap.size + 1, 2, none⟩), .pointer (some ⟨w.heap.size + 1, 3, none⟩), .pointer (some ⟨w.heap.size + 1, 4, none⟩)] 142)).cell? ⟨w.heap.size + 1, 3, none⟩ = some (.int .i64 a2) := by
    rw [(((Below.refl w4.heap.size w4).alloc (Nat.le_refl _) _).alloc (by simp) _).cell (p := ⟨w.heap.size + 1, 3, none⟩) ha1, hb4c _ _ hz1, hb3c _ _ hy1, hb2c _ _ hx1, hb1c _ _ (by simp only [zA]; omega)]
    first | go_keep | simp
   have b4 : ((w4.alloc (.cells #[.pointer (some ⟨w.heap.size, 0, none⟩), .pointer (some ⟨w.heap.size, 1, none⟩), .pointer (some ⟨w.heap.size, 2, none⟩), .pointer (some ⟨w.heap.size, 3, none⟩), .pointer (some ⟨w.heap.size, 4, none⟩)] 142)).alloc (.cells #[.pointer (some ⟨w.heap.size + 1, 0, none⟩), .pointer (some ⟨w.heap.size + 1, 1, none⟩), .pointer (some ⟨w.heap.size + 1, 2, none⟩), .pointer (some ⟨w.heap.size + 1, 3, none⟩), .pointer (some ⟨w.heap.size + 1, 4, none⟩)] 142)).cell? ⟨w.heap.size + 1, 4, none⟩ = some (.int .i64 k2) := by
    rw [(((Below.refl w4.heap.size w4).alloc (Nat.le_refl _) _).alloc (by simp) _).cell (p := ⟨w.heap.size + 1, 4, none⟩) ha1, hb4c _ _ hz1, hb3c _ _ hy1, hb2c _ _ hx1, hb1c _ _ (by simp only [zA]; omega)]
    first | go_keep | simp
   have z0 : ((w4.alloc (.cells #[.pointer (some ⟨w.heap.size, 0, none⟩), .pointer (some ⟨w.heap.size, 1, none⟩), .pointer (some ⟨w.heap.size, 2, none⟩), .pointer (some ⟨w.heap.size, 3, none⟩), .pointer (some ⟨w.heap.size, 4, none⟩)] 142)).alloc (.cells #[.pointer (some ⟨w.heap.size + 1, 0, none⟩), .pointer (some ⟨w.heap.size + 1, 1, none⟩), .pointer (some ⟨w.heap.size + 1, 2, none⟩), .pointer (some ⟨w.heap.size + 1, 3, none⟩), .pointer (some ⟨w.heap.size + 1, 4, none⟩)] 142)).cell? ⟨w.heap.size + 1 + 1, 0, none⟩ = some (.int .i64 0) ∧ ((w4.alloc (.cells #[.pointer (some ⟨w.heap.size, 0, none⟩), .pointer (some ⟨w.heap.size, 1, none⟩), .pointer (some ⟨w.heap.size, 2, none⟩), .pointer (some ⟨w.heap.size, 3, none⟩), .pointer (some ⟨w.heap.size, 4, none⟩)] 142)).alloc (.cells #[.pointer (some ⟨w.heap.size + 1, 0, none⟩), .pointer (some ⟨w.heap.size + 1, 1, none⟩), .pointer (some ⟨w.heap.size + 1, 2, none⟩), .pointer (some ⟨w.heap.size + 1, 3, none⟩), .pointer (some ⟨w.heap.size + 1, 4, none⟩)] 142)).frozen? ⟨w.heap.size + 1 + 1, 0, none⟩ = false := by
    rw [(((Below.refl w4.heap.size w4).alloc (Nat.le_refl _) _).alloc (by simp) _).cell (p := ⟨w.heap.size + 1 + 1, 0, none⟩) ha2, (((Below.refl w4.heap.size w4).alloc (Nat.le_refl _) _).alloc (by simp) _).frozen (p := ⟨w.heap.size + 1 + 1, 0, none⟩) ha2, hb4c _ _ hz2, hb4f _ _ hz2, hb3c _ _ hy2, hb3f _ _ hy2, hb2c _ _ hx2, hb2f _ _ hx2, hb1c _ _ (by simp only [zA]; omega), hb1f _ _ (by simp only [zA]; omega)]
    exact ⟨by first | go_keep | (simp [go_sem]; done), by first | go_keep | (simp [go_sem]; done) | (simp [World.frozen?]; done)⟩
   have z1 : ((w4.alloc (.cells #[.pointer (some ⟨w.heap.size, 0, none⟩), .pointer (some ⟨w.heap.size, 1, none⟩), .pointer (some ⟨w.heap.size, 2, none⟩), .pointer (some ⟨w.heap.size, 3, none⟩), .pointer (some ⟨w.heap.size, 4, none⟩)] 142)).alloc (.cells #[.pointer (some ⟨w.heap.size + 1, 0, none⟩), .pointer (some ⟨w.heap.size + 1, 1, none⟩), .pointer (some ⟨w.heap.size + 1, 2, none⟩), .pointer (some ⟨w.heap.size + 1, 3, none⟩), .pointer (some ⟨w.heap.size + 1, 4, none⟩)] 142)).cell? ⟨w.heap.size + 1 + 1, 1, none⟩ = some (.int .i64 0) ∧ ((w4.alloc (.cells #[.pointer (some ⟨w.heap.size, 0, none⟩), .pointer (some ⟨w.heap.size, 1, none⟩), .pointer (some ⟨w.heap.size, 2, none⟩), .pointer (some ⟨w.heap.size, 3, none⟩), .pointer (some ⟨w.heap.size, 4, none⟩)] 142)).alloc (.cells #[.pointer (some ⟨w.heap.size + 1, 0, none⟩), .pointer (some ⟨w.heap.size + 1, 1, none⟩), .pointer (some ⟨w.heap.size + 1, 2, none⟩), .pointer (some ⟨w.heap.size + 1, 3, none⟩), .pointer (some ⟨w.heap.size + 1, 4, none⟩)] 142)).frozen? ⟨w.heap.size + 1 + 1, 1, none⟩ = false := by
    rw [(((Below.refl w4.heap.size w4).alloc (Nat.le_refl _) _).alloc (by simp) _).cell (p := ⟨w.heap.size + 1 + 1, 1, none⟩) ha2, (((Below.refl w4.heap.size w4).alloc (Nat.le_refl _) _).alloc (by simp) _).frozen (p := ⟨w.heap.size + 1 + 1, 1, none⟩) ha2, hb4c _ _ hz2, hb4f _ _ hz2, hb3c _ _ hy2, hb3f _ _ hy2, hb2c _ _ hx2, hb2f _ _ hx2, hb1c _ _ (by simp only [zA]; omega), hb1f _ _ (by simp only [zA]; omega)]
    exact ⟨by first | go_keep | (simp [go_sem]; done), by first | go_keep | (simp [go_sem]; done) | (simp [World.frozen?]; done)⟩
   have z2 : ((w4.alloc (.cells #[.pointer (some ⟨w.heap.size, 0, none⟩), .pointer (some ⟨w.heap.size, 1, none⟩), .pointer (some ⟨w.heap.size, 2, none⟩), .pointer (some ⟨w.heap.size, 3, none⟩), .pointer (some ⟨w.heap.size, 4, none⟩)] 142)).alloc (.cells #[.pointer (some ⟨w.heap.size + 1, 0, none⟩), .pointer (some ⟨w.heap.size + 1, 1, none⟩), .pointer (some ⟨w.heap.size + 1, 2, none⟩), .pointer (some ⟨w.heap.size + 1, 3, none⟩), .pointer (some ⟨w.heap.size + 1, 4, none⟩)] 142)).cell? ⟨w.heap.size + 1 + 1, 2, none⟩ = some (.int .i64 0) ∧ ((w4.alloc (.cells #[.pointer (some ⟨w.heap.size, 0, none⟩), .pointer (some ⟨w.heap.size, 1, none⟩), .pointer (some ⟨w.heap.size, 2, none⟩), .pointer (some ⟨w.heap.size, 3, none⟩), .pointer (some ⟨w.heap.size, 4, none⟩)] 142)).alloc (.cells #[.pointer (some ⟨w.heap.size + 1, 0, none⟩), .pointer (some ⟨w.heap.size + 1, 1, none⟩), .pointer (some ⟨w.heap.size + 1, 2, none⟩), .pointer (some ⟨w.heap.size + 1, 3, none⟩), .pointer (some ⟨w.heap.size + 1, 4, none⟩)] 142)).frozen? ⟨w.heap.size + 1 + 1, 2, none⟩ = false := by
    rw [(((Below.refl w4.heap.size w4).alloc (Nat.le_refl _) _).alloc (by simp) _).cell (p := ⟨w.heap.size + 1 + 1, 2, none⟩) ha2, (((Below.refl w4.heap.size w4).alloc (Nat.le_refl _) _).alloc (by simp) _).frozen (p := ⟨w.heap.size + 1 + 1, 2, none⟩) ha2, hb4c _ _ hz2, hb4f _ _ hz2, hb3c _ _ hy2, hb3f _ _ hy2, hb2c _ _ hx2, hb2f _ _ hx2, hb1c _ _ (by simp only [zA]; omega), hb1f _ _ (by simp only [zA]; omega)]
    exact ⟨by first | go_keep | (simp [go_sem]; done), by first | go_keep | (simp [go_sem]; done) | (simp [World.frozen?]; done)⟩
   have z3 : ((w4.alloc (.cells #[.pointer (some ⟨w.heap.size, 0, none⟩), .pointer (some ⟨w.heap.size, 1, none⟩), .pointer (some ⟨w.heap.size, 2, none⟩), .pointer (some ⟨w.heap.size, 3, none⟩), .pointer (some ⟨w.heap.size, 4, none⟩)] 142)).alloc (.cells #[.pointer (some ⟨w.heap.size + 1, 0, none⟩), .pointer (some ⟨w.heap.size + 1, 1, none⟩), .pointer (some ⟨w.heap.size + 1, 2, none⟩), .pointer (some ⟨w.heap.size + 1, 3, none⟩), .pointer (some ⟨w.heap.size + 1, 4, none⟩)] 142)).cell? ⟨w.heap.size + 1 + 1, 3, none⟩ = some (.int .i64 0) ∧ ((w4.alloc (.cells #[.pointer (some ⟨w.heap.size, 0, none⟩), .pointer (some ⟨w.heap.size, 1, none⟩), .pointer (some ⟨w.heap.size, 2, none⟩), .pointer (some ⟨w.heap.size, 3, none⟩), .pointer (some ⟨w.heap.size, 4, none⟩)] 142)).alloc (.cells #[.pointer (some ⟨w.heap.size + 1, 0, none⟩), .pointer (some ⟨w.heap.size + 1, 1, none⟩), .pointer (some ⟨w.heap.size + 1, 2, none⟩), .pointer (some ⟨w.heap.size + 1, 3, none⟩), .pointer (some ⟨w.heap.size + 1, 4, none⟩)] 142)).frozen? ⟨w.heap.size + 1 + 1, 3, none⟩ = false := by
    rw [(((Below.refl w4.heap.size w4).alloc (Nat.le_refl _) _).alloc (by simp) _).cell (p := ⟨w.heap.size + 1 + 1, 3, none⟩) ha2, (((Below.refl w4.heap.size w4).alloc (Nat.le_refl _) _).alloc (by simp) _).frozen (p := ⟨w.heap.size + 1 + 1, 3, none⟩) ha2, hb4c _ _ hz2, hb4f _ _ hz2, hb3c _ _ hy2, hb3f _ _ hy2, hb2c _ _ hx2, hb2f _ _ hx2, hb1c _ _ (by simp only [zA]; omega), hb1f _ _ (by simp only [zA]; omega)]
    exact ⟨by first | go_keep | (simp [go_sem]; done), by first | go_keep | (simp [go_sem]; done) | (simp [World.frozen?]; done)⟩
   have z4 : ((w4.alloc (.cells #[.pointer (some ⟨w.heap.size, 0, none⟩), .pointer (some ⟨w.heap.size, 1, none⟩), .pointer (some ⟨w.heap.size, 2, none⟩), .pointer (some ⟨w.heap.size, 3, none⟩), .pointer (some ⟨w.heap.size, 4, none⟩)] 142)).alloc (.cells #[.pointer (some ⟨w.heap.size + 1, 0, none⟩), .pointer (some ⟨w.heap.size + 1, 1, none⟩), .pointer (some ⟨w.heap.size + 1, 2, none⟩), .pointer (some ⟨w.heap.size + 1, 3, none⟩), .pointer (some ⟨w.heap.size + 1, 4, none⟩)] 142)).cell? ⟨w.heap.size + 1 + 1, 4, none⟩ = some (.int .i64 0) ∧ ((w4.alloc (.cells #[.pointer (some ⟨w.heap.size, 0, none⟩), .pointer (some ⟨w.heap.size, 1, none⟩), .pointer (some ⟨w.heap.size, 2, none⟩), .pointer (some ⟨w.heap.size, 3, none⟩), .pointer (some ⟨w.heap.size, 4, none⟩)] 142)).alloc (.cells #[.pointer (some ⟨w.heap.size + 1, 0, none⟩), .pointer (some ⟨w.heap.size + 1, 1, none⟩), .pointer (some ⟨w.heap.size + 1, 2, none⟩), .pointer (some ⟨w.heap.size + 1, 3, none⟩), .pointer (some ⟨w.heap.size + 1, 4, none⟩)] 142)).frozen? ⟨w.heap.size + 1 + 1, 4, none⟩ = false := by
    rw [(((Below.refl w4.heap.size w4).alloc (Nat.le_refl _) _).alloc (by simp) _).cell (p := ⟨w.heap.size + 1 + 1, 4, none⟩) ha2, (((Below.refl w4.heap.size w4).alloc (Nat.le_refl _) _).alloc (by simp) _).frozen (p := ⟨w.heap.size + 1 + 1, 4, none⟩) ha2, hb4c _ _ hz2, hb4f _ _ hz2, hb3c _ _ hy2, hb3f _ _ hy2, hb2c _ _ hx2, hb2f _ _ hx2, hb1c _ _ (by simp only [zA]; omega), hb1f _ _ (by simp only [zA]; omega)]
    exact ⟨by first | go_keep | (simp [go_sem]; done), by first | go_keep | (simp [go_sem]; done) | (simp [World.frozen?]; done)⟩
   have p0 : ((w4.alloc (.cells #[.pointer (some ⟨w.heap.size, 0, none⟩), .pointer (some ⟨w.heap.size, 1, none⟩), .pointer (some ⟨w.heap.size, 2, none⟩), .pointer (some ⟨w.heap.size, 3, none⟩), .pointer (some ⟨w.heap.size, 4, none⟩)] 142)).alloc (.cells #[.pointer (some ⟨w.heap.size + 1, 0, none⟩), .pointer (some ⟨w.heap.size + 1, 1, none⟩), .pointer (some ⟨w.heap.size + 1, 2, none⟩), .pointer (some ⟨w.heap.size + 1, 3, none⟩), .pointer (some ⟨w.heap.size + 1, 4, none⟩)] 142)).cell? ⟨w4.heap.size, 0, none⟩ = some (.pointer (some ⟨w.heap.size, 0, none⟩)) := by first | go_keep | simp
   have p1 : ((w4.alloc (.cells #[.pointer (some ⟨w.heap.size, 0, none⟩), .pointer (some ⟨w.heap.size, 1, none⟩), .pointer (some ⟨w.heap.size, 2, none⟩), .pointer (some ⟨w.heap.size, 3, none⟩), .pointer (some ⟨w.heap.size, 4, none⟩)] 142)).alloc (.cells #[.pointer (some ⟨w.heap.size + 1, 0, none⟩), .pointer (some ⟨w.heap.size + 1, 1, none⟩), .pointer (some ⟨w.heap.size + 1, 2, none⟩), .pointer (some ⟨w.heap.size + 1, 3, none⟩), .pointer (some ⟨w.heap.size + 1, 4, none⟩)] 142)).cell? ⟨w4.heap.size, 1, none⟩ = some (.pointer (some ⟨w.heap.size, 1, none⟩)) := by first | go_keep | simp
   have p2 : ((w4.alloc (.cells #[.pointer (some ⟨w.heap.size, 0, none⟩), .pointer (some ⟨w.heap.size, 1, none⟩), .pointer (some ⟨w.heap.size, 2, none⟩), .pointer (some ⟨w.heap.size, 3, none⟩), .pointer (some ⟨w.heap.size, 4, none⟩)] 142)).alloc (.cells #[.pointer (some ⟨w.heap.size + 1, 0, none⟩), .pointer (some ⟨w.heap.size + 1, 1, none⟩), .pointer (some ⟨w.heap.size + 1, 2, none⟩), .pointer (some ⟨w.heap.size + 1, 3, none⟩), .pointer (some ⟨w.heap.size + 1, 4, none⟩)] 142)).cell? ⟨w4.heap.size, 2, none⟩ = some (.pointer (some ⟨w.heap.size, 2, none⟩)) := by first | go_keep | simp
   have p3 : ((w4.alloc (.cells #[.pointer (some ⟨w.heap.size, 0, none⟩), .pointer (some ⟨w.heap.size, 1, none⟩), .pointer (some ⟨w.heap.size, 2, none⟩), .pointer (some ⟨w.heap.size, 3, none⟩), .pointer (some ⟨w.heap.size, 4, none⟩)] 142)).alloc (.cells #[.pointer (some ⟨w.heap.size + 1, 0, none⟩), .pointer (some ⟨w.heap.size + 1, 1, none⟩), .pointer (some ⟨w.heap.size + 1, 2, none⟩), .pointer (some ⟨w.heap.size + 1, 3, none⟩), .pointer (some ⟨w.heap.size + 1, 4, none⟩)] 142)).cell? ⟨w4.heap.size, 3, none⟩ = some (.pointer (some ⟨w.heap.size, 3, none⟩)) := by first | go_keep | simp
   have p4 : ((w4.alloc (.cells #[.pointer (some ⟨w.heap.size, 0, none⟩), .pointer (some ⟨w.heap.size, 1, none⟩), .pointer (some ⟨w.heap.size, 2, none⟩), .pointer (some ⟨w.heap.size, 3, none⟩), .pointer (some ⟨w.heap.size, 4, none⟩)] 142)).alloc (.cells #[.pointer (some ⟨w.heap.size + 1, 0, none⟩), .pointer (some ⟨w.heap.size + 1, 1, none⟩), .pointer (some ⟨w.heap.size + 1, 2, none⟩), .pointer (some ⟨w.heap.size + 1, 3, none⟩), .pointer (some ⟨w.heap.size + 1, 4, none⟩)] 142)).cell? ⟨w4.heap.size, 4, none⟩ = some (.pointer (some ⟨w.heap.size, 4, none⟩)) := by first | go_keep | simp
   have q0 : ((w4.alloc (.cells #[.pointer (some ⟨w.heap.size, 0, none⟩), .pointer (some ⟨w.heap.size, 1, none⟩), .pointer (some ⟨w.heap.size, 2, none⟩), .pointer (some ⟨w.heap.size, 3, none⟩), .pointer (some ⟨w.heap.size, 4, none⟩)] 142)).alloc (.cells #[.pointer (some ⟨w.heap.size + 1, 0, none⟩), .pointer (some ⟨w.heap.size + 1, 1, none⟩), .pointer (some ⟨w.heap.size + 1, 2, none⟩), .pointer (some ⟨w.heap.size + 1, 3, none⟩), .pointer (some ⟨w.heap.size + 1, 4, none⟩)] 142)).cell? ⟨w4.heap.size + 1, 0, none⟩ = some (.pointer (some ⟨w.heap.size + 1, 0, none⟩)) := by first | go_keep | simp
   have q1 : ((w4.alloc (.cells #[.pointer (some ⟨w.heap.size, 0, none⟩), .pointer (some ⟨w.heap.size, 1, none⟩), .pointer (some ⟨w.heap.size, 2, none⟩), .pointer (some ⟨w.heap.size, 3, none⟩), .pointer (some ⟨w.heap.size, 4, none⟩)] 142)).alloc (.cells #[.pointer (some ⟨w.heap.size + 1, 0, none⟩), .pointer (some ⟨w.heap.size + 1, 1, none⟩), .pointer (some ⟨w.heap.size + 1, 2, none⟩), .pointer (some ⟨w.heap.size + 1, 3, none⟩), .pointer (some ⟨w.heap.size + 1, 4, none⟩)] 142)).cell? ⟨w4.heap.size + 1, 1, none⟩ = some (.pointer (some ⟨w.heap.size + 1, 1, none⟩)) := by first | go_keep | simp
   have q2 : ((w4.alloc (.cells #[.pointer (some ⟨w.heap.size, 0, none⟩), .pointer (some ⟨w.heap.size, 1, none⟩), .pointer (some ⟨w.heap.size, 2, none⟩), .pointer (some ⟨w.heap.size, 3, none⟩), .pointer (some ⟨w.heap.size, 4, none⟩)] 142)).alloc (.cells #[.pointer (some ⟨w.heap.size + 1, 0, none⟩), .pointer (some ⟨w.heap.size + 1, 1, none⟩), .pointer (some ⟨w.heap.size + 1, 2, none⟩), .pointer (some ⟨w.heap.size + 1, 3, none⟩), .pointer (some ⟨w.heap.size + 1, 4, none⟩)] 142)).cell? ⟨w4.heap.size + 1, 2, none⟩ = some (.pointer (some ⟨w.heap.size + 1, 2, none⟩)) := by first | go_keep | simp
   have q3 : ((w4.alloc (.cells #[.pointer (some ⟨w.heap.size, 0, none⟩), .pointer (some ⟨w.heap.size, 1, none⟩), .pointer (some ⟨w.heap.size, 2, none⟩), .pointer (some ⟨w.heap.size, 3, none⟩), .pointer (some ⟨w.heap.size, 4, none⟩)] 142)).alloc (.cells #[.pointer (some ⟨w.heap.size + 1, 0, none⟩), .pointer (some ⟨w.heap.size + 1, 1, none⟩), .pointer (some ⟨w.heap.size + 1, 2, none⟩), .pointer (some ⟨w.heap.size + 1, 3, none⟩), .pointer (some ⟨w.heap.size + 1, 4, none⟩)] 142)).cell? ⟨w4.heap.size + 1, 3, none⟩ = some (.pointer (some ⟨w.heap.size + 1, 3, none⟩)) := by first | go_keep | simp
   have q4 : ((w4.alloc (.cells #[.pointer (some ⟨w.heap.size, 0, none⟩), .pointer (some ⟨w.heap.size, 1, none⟩), .pointer (some ⟨w.heap.size, 2, none⟩), .pointer (some ⟨w.heap.size, 3, none⟩), .pointer (some ⟨w.heap.size, 4, none⟩)] 142)).alloc (.cells #[.pointer (some ⟨w.heap.size + 1, 0, none⟩), .pointer (some ⟨w.heap.size + 1, 1, none⟩), .pointer (some ⟨w.heap.size + 1, 2, none⟩), .pointer (some ⟨w.heap.size + 1, 3, none⟩), .pointer (some ⟨w.heap.size + 1, 4, none⟩)] 142)).cell? ⟨w4.heap.size + 1, 4, none⟩ = some (.pointer (some ⟨w.heap.size + 1, 4, none⟩)) := by first | go_keep | simp
   generalize ((w4.alloc (.cells #[.pointer (some ⟨w.heap.size, 0, none⟩), .pointer (some ⟨w.heap.size, 1, none⟩), .pointer (some ⟨w.heap.size, 2, none⟩), .pointer (some ⟨w.heap.size, 3, none⟩), .pointer (some ⟨w.heap.size, 4, none⟩)] 142)).alloc (.cells #[.pointer (some ⟨w.heap.size + 1, 0, none⟩), .pointer (some ⟨w.heap.size + 1, 1, none⟩), .pointer (some ⟨w.heap.size + 1, 2, none⟩), .pointer (some ⟨w.heap.size + 1, 3, none⟩), .pointer (some ⟨w.heap.size + 1, 4, none⟩)] 142)) = W5 at *
   clear hb1c hb1f hb2c hb2f hb3c hb3f hb4c hb4f
   go_loopg [22] 5 (fun kx s22 wr => ∃ (j : Nat), s22 = .int .i64 j ∧ j ≤ 5 ∧ 5 - j ≤ kx ∧ W5.heap.size ≤ wr.heap.size ∧ Below w.heap.size w wr ∧ KeepB W5.heap.size w.heap.size W5 wr ∧ Hid ((j = 0 → AtL wr w.heap.size [m, kg, s, a, k]) ∧ (j = 1 → AtL wr w.heap.size [(m + g * m2), kg, s, a, k]) ∧ (j = 2 → AtL wr w.heap.size [(m + g * m2), (kg + g * kg2), s, a, k]) ∧ (j = 3 → AtL wr w.heap.size [(m + g * m2), (kg + g * kg2), (s + g * s2), a, k]) ∧ (j = 4 → AtL wr w.heap.size [(m + g * m2), (kg + g * kg2), (s + g * s2), (a + g * a2), k]) ∧ (j = 5 → AtL wr w.heap.size [(m + g * m2), (kg + g * kg2), (s + g * s2), (a + g * a2), (k + g * k2)])))
   case atStart => exact ⟨0, rfl, by omega, by omega, Nat.le_refl _, hB5, KeepB.refl _ _ _, H! ⟨fun _ => hAt.out, fun h => absurd h (by omega), fun h => absurd h (by omega), fun h => absurd h (by omega), fun h => absurd h (by omega), fun h => absurd h (by omega)⟩⟩
   case round =>
    obtain ⟨j, rfl, hj, hjx, hsr, hBw, hKB, HA⟩ := hrel
    by_cases hj5 : j < 5
    ·
     obtain rfl | rfl | rfl | rfl | rfl : j = 0 ∨ j = 1 ∨ j = 2 ∨ j = 3 ∨ j = 4 := by omega
     ·
      have ca := HA.out.1 (by omega)
      have cj := ca 0 _ rfl
      obtain ⟨cj1, cj2⟩ := cj
      have bj : wr.cell? ⟨w.heap.size + 1, 0, none⟩ = some (.int .i64 m2) := (hKB.cell (by omega) (by omega)).trans b0
      have pj : wr.cell? ⟨w4.heap.size, 0, none⟩ = some (.pointer (some ⟨w.heap.size, 0, none⟩)) := (hKB.cell (by omega) (by omega)).trans p0
      have qj : wr.cell? ⟨w4.heap.size + 1, 0, none⟩ = some (.pointer (some ⟨w.heap.size + 1, 0, none⟩)) := (hKB.cell (by omega) (by omega)).trans q0
      have wm : IntKind.i64.wrap (g * m2) = g * m2 := IntWalk.i64_in _ (by rcases hg with rfl | rfl <;> omega)
      have wa : IntKind.i64.wrap (m + g * m2) = m + g * m2 := IntWalk.i64_in _ (by rcases hg with rfl | rfl <;> omega)
      have szr : w.heap.size < wr.heap.size := by omega
      have sz1 : w.heap.size + 1 < wr.heap.size := by omega
      have sz4 : w4.heap.size < wr.heap.size := by omega
      have sz5 : w4.heap.size + 1 < wr.heap.size := by omega
      go_wp2
      refine wp_still_tail 14 (by kernel_rfl) (by kernel_rfl) ?_
      intro W hW hWs
      have cW1 : W.cell? ⟨w.heap.size, 0, none⟩ = some (.int .i64 m) := (hW.cell (p := ⟨w.heap.size, 0, none⟩) szr).trans cj1
      have cW2 : W.frozen? ⟨w.heap.size, 0, none⟩ = false := (hW.frozen (p := ⟨w.heap.size, 0, none⟩) szr).trans cj2
      have bW : W.cell? ⟨w.heap.size + 1, 0, none⟩ = some (.int .i64 m2) := (hW.cell (p := ⟨w.heap.size + 1, 0, none⟩) sz1).trans bj
      have pW : W.cell? ⟨w4.heap.size, 0, none⟩ = some (.pointer (some ⟨w.heap.size, 0, none⟩)) := (hW.cell (p := ⟨w4.heap.size, 0, none⟩) sz4).trans pj
      have qW : W.cell? ⟨w4.heap.size + 1, 0, none⟩ = some (.pointer (some ⟨w.heap.size + 1, 0, none⟩)) := (hW.cell (p := ⟨w4.heap.size + 1, 0, none⟩) sz5).trans qj
      have HAW : Hid (AtL W w.heap.size [m, kg, s, a, k]) := H! (fun i v hi => by
       rw [hW.cell (p := ⟨w.heap.size, i, none⟩) szr, hW.frozen (p := ⟨w.heap.size, i, none⟩) szr]
       exact ca i v hi)
      simp only [List.take_succ_cons, List.take_zero, List.drop_succ_cons, List.drop_zero]
      repeat (first | (refine wpStill_step (fun K hK => ?_); go_simp; refine hK _ ?_; clear hK K))
      refine wpStill_nil ?_
      go_wp2
      go_roundg (5 - (0 + 1))
      case measure => omega
      case rel => exact ⟨0 + 1, by go_num, by omega, by omega, by rw [zS]; omega, hBw.trans ((hW.mono (show w.heap.size ≤ wr.heap.size by omega)).setCell (p := ⟨w.heap.size, 0, none⟩) (Nat.le_refl _) _), hKB.trans (KeepB.trans ⟨hW.mono (Nat.zero_le _), fun q hq _ => hW.block q (by omega)⟩ (KeepB.setC W 0 _)), H! ⟨fun h => absurd h (by omega), fun _ => HAW.out.set (by simp) _, fun h => absurd h (by omega), fun h => absurd h (by omega), fun h => absurd h (by omega), fun h => absurd h (by omega)⟩⟩
     ·
      have ca := HA.out.2.1 (by omega)
      have cj := ca 1 _ rfl
      obtain ⟨cj1, cj2⟩ := cj
      have bj : wr.cell? ⟨w.heap.size + 1, 1, none⟩ = some (.int .i64 kg2) := (hKB.cell (by omega) (by omega)).trans b1
      have pj : wr.cell? ⟨w4.heap.size, 1, none⟩ = some (.pointer (some ⟨w.heap.size, 1, none⟩)) := (hKB.cell (by omega) (by omega)).trans p1
      have qj : wr.cell? ⟨w4.heap.size + 1, 1, none⟩ = some (.pointer (some ⟨w.heap.size + 1, 1, none⟩)) := (hKB.cell (by omega) (by omega)).trans q1
      have wm : IntKind.i64.wrap (g * kg2) = g * kg2 := IntWalk.i64_in _ (by rcases hg with rfl | rfl <;> omega)
      have wa : IntKind.i64.wrap (kg + g * kg2) = kg + g * kg2 := IntWalk.i64_in _ (by rcases hg with rfl | rfl <;> omega)
      have szr : w.heap.size < wr.heap.size := by omega
      have sz1 : w.heap.size + 1 < wr.heap.size := by omega
      have sz4 : w4.heap.size < wr.heap.size := by omega
      have sz5 : w4.heap.size + 1 < wr.heap.size := by omega
      go_wp2
      refine wp_still_tail 14 (by kernel_rfl) (by kernel_rfl) ?_
      intro W hW hWs
      have cW1 : W.cell? ⟨w.heap.size, 1, none⟩ = some (.int .i64 kg) := (hW.cell (p := ⟨w.heap.size, 1, none⟩) szr).trans cj1
      have cW2 : W.frozen? ⟨w.heap.size, 1, none⟩ = false := (hW.frozen (p := ⟨w.heap.size, 1, none⟩) szr).trans cj2
      have bW : W.cell? ⟨w.heap.size + 1, 1, none⟩ = some (.int .i64 kg2) := (hW.cell (p := ⟨w.heap.size + 1, 1, none⟩) sz1).trans bj
      have pW : W.cell? ⟨w4.heap.size, 1, none⟩ = some (.pointer (some ⟨w.heap.size, 1, none⟩)) := (hW.cell (p := ⟨w4.heap.size, 1, none⟩) sz4).trans pj
      have qW : W.cell? ⟨w4.heap.size + 1, 1, none⟩ = some (.pointer (some ⟨w.heap.size + 1, 1, none⟩)) := (hW.cell (p := ⟨w4.heap.size + 1, 1, none⟩) sz5).trans qj
      have HAW : Hid (AtL W w.heap.size [(m + g * m2), kg, s, a, k]) := H! (fun i v hi => by
       rw [hW.cell (p := ⟨w.heap.size, i, none⟩) szr, hW.frozen (p := ⟨w.heap.size, i, none⟩) szr]
       exact ca i v hi)
      simp only [List.take_succ_cons, List.take_zero, List.drop_succ_cons, List.drop_zero]
      repeat (first | (refine wpStill_step (fun K hK => ?_); go_simp; refine hK _ ?_; clear hK K))
      refine wpStill_nil ?_
      go_wp2
      go_roundg (5 - (1 + 1))
      case measure => omega
      case rel => exact ⟨1 + 1, by go_num, by omega, by omega, by rw [zS]; omega, hBw.trans ((hW.mono (show w.heap.size ≤ wr.heap.size by omega)).setCell (p := ⟨w.heap.size, 1, none⟩) (Nat.le_refl _) _), hKB.trans (KeepB.trans ⟨hW.mono (Nat.zero_le _), fun q hq _ => hW.block q (by omega)⟩ (KeepB.setC W 1 _)), H! ⟨fun h => absurd h (by omega), fun h => absurd h (by omega), fun _ => HAW.out.set (by simp) _, fun h => absurd h (by omega), fun h => absurd h (by omega), fun h => absurd h (by omega)⟩⟩
     ·
      have ca := HA.out.2.2.1 (by omega)
      have cj := ca 2 _ rfl
      obtain ⟨cj1, cj2⟩ := cj
      have bj : wr.cell? ⟨w.heap.size + 1, 2, none⟩ = some (.int .i64 s2) := (hKB.cell (by omega) (by omega)).trans b2
      have pj : wr.cell? ⟨w4.heap.size, 2, none⟩ = some (.pointer (some ⟨w.heap.size, 2, none⟩)) := (hKB.cell (by omega) (by omega)).trans p2
      have qj : wr.cell? ⟨w4.heap.size + 1, 2, none⟩ = some (.pointer (some ⟨w.heap.size + 1, 2, none⟩)) := (hKB.cell (by omega) (by omega)).trans q2
      have wm : IntKind.i64.wrap (g * s2) = g * s2 := IntWalk.i64_in _ (by rcases hg with rfl | rfl <;> omega)
      have wa : IntKind.i64.wrap (s + g * s2) = s + g * s2 := IntWalk.i64_in _ (by rcases hg with rfl | rfl <;> omega)
      have szr : w.heap.size < wr.heap.size := by omega
      have sz1 : w.heap.size + 1 < wr.heap.size := by omega
      have sz4 : w4.heap.size < wr.heap.size := by omega
      have sz5 : w4.heap.size + 1 < wr.heap.size := by omega
      go_wp2
      refine wp_still_tail 14 (by kernel_rfl) (by kernel_rfl) ?_
      intro W hW hWs
      have cW1 : W.cell? ⟨w.heap.size, 2, none⟩ = some (.int .i64 s) := (hW.cell (p := ⟨w.heap.size, 2, none⟩) szr).trans cj1
      have cW2 : W.frozen? ⟨w.heap.size, 2, none⟩ = false := (hW.frozen (p := ⟨w.heap.size, 2, none⟩) szr).trans cj2
      have bW : W.cell? ⟨w.heap.size + 1, 2, none⟩ = some (.int .i64 s2) := (hW.cell (p := ⟨w.heap.size + 1, 2, none⟩) sz1).trans bj
      have pW : W.cell? ⟨w4.heap.size, 2, none⟩ = some (.pointer (some ⟨w.heap.size, 2, none⟩)) := (hW.cell (p := ⟨w4.heap.size, 2, none⟩) sz4).trans pj
      have qW : W.cell? ⟨w4.heap.size + 1, 2, none⟩ = some (.pointer (some ⟨w.heap.size + 1, 2, none⟩)) := (hW.cell (p := ⟨w4.heap.size + 1, 2, none⟩) sz5).trans qj
      have HAW : Hid (AtL W w.heap.size [(m + g * m2), (kg + g * kg2), s, a, k]) := H! (fun i v hi => by
       rw [hW.cell (p := ⟨w.heap.size, i, none⟩) szr, hW.frozen (p := ⟨w.heap.size, i, none⟩) szr]
       exact ca i v hi)
      simp only [List.take_succ_cons, List.take_zero, List.drop_succ_cons, List.drop_zero]
      repeat (first | (refine wpStill_step (fun K hK => ?_); go_simp; refine hK _ ?_; clear hK K))
      refine wpStill_nil ?_
      go_wp2
      go_roundg (5 - (2 + 1))
      case measure => omega
      case rel => exact ⟨2 + 1, by go_num, by omega, by omega, by rw [zS]; omega, hBw.trans ((hW.mono (show w.heap.size ≤ wr.heap.size by omega)).setCell (p := ⟨w.heap.size, 2, none⟩) (Nat.le_refl _) _), hKB.trans (KeepB.trans ⟨hW.mono (Nat.zero_le _), fun q hq _ => hW.block q (by omega)⟩ (KeepB.setC W 2 _)), H! ⟨fun h => absurd h (by omega), fun h => absurd h (by omega), fun h => absurd h (by omega), fun _ => HAW.out.set (by simp) _, fun h => absurd h (by omega), fun h => absurd h (by omega)⟩⟩
     ·
      have ca := HA.out.2.2.2.1 (by omega)
      have cj := ca 3 _ rfl
      obtain ⟨cj1, cj2⟩ := cj
      have bj : wr.cell? ⟨w.heap.size + 1, 3, none⟩ = some (.int .i64 a2) := (hKB.cell (by omega) (by omega)).trans b3
      have pj : wr.cell? ⟨w4.heap.size, 3, none⟩ = some (.pointer (some ⟨w.heap.size, 3, none⟩)) := (hKB.cell (by omega) (by omega)).trans p3
      have qj : wr.cell? ⟨w4.heap.size + 1, 3, none⟩ = some (.pointer (some ⟨w.heap.size + 1, 3, none⟩)) := (hKB.cell (by omega) (by omega)).trans q3
      have wm : IntKind.i64.wrap (g * a2) = g * a2 := IntWalk.i64_in _ (by rcases hg with rfl | rfl <;> omega)
      have wa : IntKind.i64.wrap (a + g * a2) = a + g * a2 := IntWalk.i64_in _ (by rcases hg with rfl | rfl <;> omega)
      have szr : w.heap.size < wr.heap.size := by omega
      have sz1 : w.heap.size + 1 < wr.heap.size := by omega
      have sz4 : w4.heap.size < wr.heap.size := by omega
      have sz5 : w4.heap.size + 1 < wr.heap.size := by omega
      go_wp2
      refine wp_still_tail 14 (by kernel_rfl) (by kernel_rfl) ?_
      intro W hW hWs
      have cW1 : W.cell? ⟨w.heap.size, 3, none⟩ = some (.int .i64 a) := (hW.cell (p := ⟨w.heap.size, 3, none⟩) szr).trans cj1
      have cW2 : W.frozen? ⟨w.heap.size, 3, none⟩ = false := (hW.frozen (p := ⟨w.heap.size, 3, none⟩) szr).trans cj2
      have bW : W.cell? ⟨w.heap.size + 1, 3, none⟩ = some (.int .i64 a2) := (hW.cell (p := ⟨w.heap.size + 1, 3, none⟩) sz1).trans bj
      have pW : W.cell? ⟨w4.heap.size, 3, none⟩ = some (.pointer (some ⟨w.heap.size, 3, none⟩)) := (hW.cell (p := ⟨w4.heap.size, 3, none⟩) sz4).trans pj
      have qW : W.cell? ⟨w4.heap.size + 1, 3, none⟩ = some (.pointer (some ⟨w.heap.size + 1, 3, none⟩)) := (hW.cell (p := ⟨w4.heap.size + 1, 3, none⟩) sz5).trans qj
      have HAW : Hid (AtL W w.heap.size [(m + g * m2), (kg + g * kg2), (s + g * s2), a, k]) := H! (fun i v hi => by
       rw [hW.cell (p := ⟨w.heap.size, i, none⟩) szr, hW.frozen (p := ⟨w.heap.size, i, none⟩) szr]
       exact ca i v hi)
      simp only [List.take_succ_cons, List.take_zero, List.drop_succ_cons, List.drop_zero]
      repeat (first | (refine wpStill_step (fun K hK => ?_); go_simp; refine hK _ ?_; clear hK K))
      refine wpStill_nil ?_
      go_wp2
      go_roundg (5 - (3 + 1))
      case measure => omega
      case rel => exact ⟨3 + 1, by go_num, by omega, by omega, by rw [zS]; omega, hBw.trans ((hW.mono (show w.heap.size ≤ wr.heap.size by omega)).setCell (p := ⟨w.heap.size, 3, none⟩) (Nat.le_refl _) _), hKB.trans (KeepB.trans ⟨hW.mono (Nat.zero_le _), fun q hq _ => hW.block q (by omega)⟩ (KeepB.setC W 3 _)), H! ⟨fun h => absurd h (by omega), fun h => absurd h (by omega), fun h => absurd h (by omega), fun h => absurd h (by omega), fun _ => HAW.out.set (by simp) _, fun h => absurd h (by omega)⟩⟩
     ·
      have ca := HA.out.2.2.2.2.1 (by omega)
      have cj := ca 4 _ rfl
      obtain ⟨cj1, cj2⟩ := cj
      have bj : wr.cell? ⟨w.heap.size + 1, 4, none⟩ = some (.int .i64 k2) := (hKB.cell (by omega) (by omega)).trans b4
      have pj : wr.cell? ⟨w4.heap.size, 4, none⟩ = some (.pointer (some ⟨w.heap.size, 4, none⟩)) := (hKB.cell (by omega) (by omega)).trans p4
      have qj : wr.cell? ⟨w4.heap.size + 1, 4, none⟩ = some (.pointer (some ⟨w.heap.size + 1, 4, none⟩)) := (hKB.cell (by omega) (by omega)).trans q4
      have wm : IntKind.i64.wrap (g * k2) = g * k2 := IntWalk.i64_in _ (by rcases hg with rfl | rfl <;> omega)
      have wa : IntKind.i64.wrap (k + g * k2) = k + g * k2 := IntWalk.i64_in _ (by rcases hg with rfl | rfl <;> omega)
      have szr : w.heap.size < wr.heap.size := by omega
      have sz1 : w.heap.size + 1 < wr.heap.size := by omega
      have sz4 : w4.heap.size < wr.heap.size := by omega
      have sz5 : w4.heap.size + 1 < wr.heap.size := by omega
      go_wp2
      refine wp_still_tail 14 (by kernel_rfl) (by kernel_rfl) ?_
      intro W hW hWs
      have cW1 : W.cell? ⟨w.heap.size, 4, none⟩ = some (.int .i64 k) := (hW.cell (p := ⟨w.heap.size, 4, none⟩) szr).trans cj1
      have cW2 : W.frozen? ⟨w.heap.size, 4, none⟩ = false := (hW.frozen (p := ⟨w.heap.size, 4, none⟩) szr).trans cj2
      have bW : W.cell? ⟨w.heap.size + 1, 4, none⟩ = some (.int .i64 k2) := (hW.cell (p := ⟨w.heap.size + 1, 4, none⟩) sz1).trans bj
      have pW : W.cell? ⟨w4.heap.size, 4, none⟩ = some (.pointer (some ⟨w.heap.size, 4, none⟩)) := (hW.cell (p := ⟨w4.heap.size, 4, none⟩) sz4).trans pj
      have qW : W.cell? ⟨w4.heap.size + 1, 4, none⟩ = some (.pointer (some ⟨w.heap.size + 1, 4, none⟩)) := (hW.cell (p := ⟨w4.heap.size + 1, 4, none⟩) sz5).trans qj
      have HAW : Hid (AtL W w.heap.size [(m + g * m2), (kg + g * kg2), (s + g * s2), (a + g * a2), k]) := H! (fun i v hi => by
       rw [hW.cell (p := ⟨w.heap.size, i, none⟩) szr, hW.frozen (p := ⟨w.heap.size, i, none⟩) szr]
       exact ca i v hi)
      simp only [List.take_succ_cons, List.take_zero, List.drop_succ_cons, List.drop_zero]
      repeat (first | (refine wpStill_step (fun K hK => ?_); go_simp; refine hK _ ?_; clear hK K))
      refine wpStill_nil ?_
      go_wp2
      go_roundg (5 - (4 + 1))
      case measure => omega
      case rel => exact ⟨4 + 1, by go_num, by omega, by omega, by rw [zS]; omega, hBw.trans ((hW.mono (show w.heap.size ≤ wr.heap.size by omega)).setCell (p := ⟨w.heap.size, 4, none⟩) (Nat.le_refl _) _), hKB.trans (KeepB.trans ⟨hW.mono (Nat.zero_le _), fun q hq _ => hW.block q (by omega)⟩ (KeepB.setC W 4 _)), H! ⟨fun h => absurd h (by omega), fun h => absurd h (by omega), fun h => absurd h (by omega), fun h => absurd h (by omega), fun h => absurd h (by omega), fun _ => HAW.out.set (by simp) _⟩⟩
    ·
     obtain rfl : j = 5 := by omega
     have ca := HA.out.2.2.2.2.2 (by omega)
     have f0 : wr.cell? ⟨w.heap.size, 0, none⟩ = some (.int .i64 (m + g * m2)) := (ca 0 _ rfl).1
     have f1 : wr.cell? ⟨w.heap.size, 1, none⟩ = some (.int .i64 (kg + g * kg2)) := (ca 1 _ rfl).1
     have f2 : wr.cell? ⟨w.heap.size, 2, none⟩ = some (.int .i64 (s + g * s2)) := (ca 2 _ rfl).1
     have f3 : wr.cell? ⟨w.heap.size, 3, none⟩ = some (.int .i64 (a + g * a2)) := (ca 3 _ rfl).1
     have f4 : wr.cell? ⟨w.heap.size, 4, none⟩ = some (.int .i64 (k + g * k2)) := (ca 4 _ rfl).1
     have y0 : wr.cell? ⟨w.heap.size + 1 + 1, 0, none⟩ = some (.int .i64 0) := (hKB.cell (by omega) (by omega)).trans z0.1
     have yf0 : wr.frozen? ⟨w.heap.size + 1 + 1, 0, none⟩ = false := (hKB.frozen (by omega) (by omega)).trans z0.2
     have y1 : wr.cell? ⟨w.heap.size + 1 + 1, 1, none⟩ = some (.int .i64 0) := (hKB.cell (by omega) (by omega)).trans z1.1
     have yf1 : wr.frozen? ⟨w.heap.size + 1 + 1, 1, none⟩ = false := (hKB.frozen (by omega) (by omega)).trans z1.2
     have y2 : wr.cell? ⟨w.heap.size + 1 + 1, 2, none⟩ = some (.int .i64 0) := (hKB.cell (by omega) (by omega)).trans z2.1
     have yf2 : wr.frozen? ⟨w.heap.size + 1 + 1, 2, none⟩ = false := (hKB.frozen (by omega) (by omega)).trans z2.2
     have y3 : wr.cell? ⟨w.heap.size + 1 + 1, 3, none⟩ = some (.int .i64 0) := (hKB.cell (by omega) (by omega)).trans z3.1
     have yf3 : wr.frozen? ⟨w.heap.size + 1 + 1, 3, none⟩ = false := (hKB.frozen (by omega) (by omega)).trans z3.2
     have y4 : wr.cell? ⟨w.heap.size + 1 + 1, 4, none⟩ = some (.int .i64 0) := (hKB.cell (by omega) (by omega)).trans z4.1
     have yf4 : wr.frozen? ⟨w.heap.size + 1 + 1, 4, none⟩ = false := (hKB.frozen (by omega) (by omega)).trans z4.2
     have sa0 : w.heap.size < wr.heap.size := by omega
     have sa2 : w.heap.size + 1 + 1 < wr.heap.size := by omega
     clear ca HA
     cases hu3 : unitB (m + g * m2) (kg + g * kg2) (s + g * s2) (a + g * a2) (k + g * k2)
     ·
      have HU3 := H! hu3
      obtain rfl : E = 2 := by rw [HE2.out, HU3.out]; rfl
      clear HE2 hu3
      go_wp2_with (first | (go_at_call 98; refine (uvalid_v HU3.out _).mono ?_; rintro _ w6 ⟨rfl, hb6⟩; obtain ⟨hb6c, hb6f⟩ := bcell hb6; have hb6s := hb6.size; have hb6w : Below w.heap.size wr w6 := hb6.mono (show w.heap.size ≤ wr.heap.size by omega); have sb2 : w.heap.size + 1 + 1 < w6.heap.size := (by omega)))
      refine bodyPost_ret (by simp [results, Try.results128, go_sem, *]; try rfl) rfl ?_
      exact ⟨rfl, hBw.trans bw⟩
     ·
      have HU3 := H! hu3
      obtain rfl : E = 0 := by rw [HE2.out, HU3.out]; rfl
      clear HE2 hu3
      go_wp2_with (first | (go_at_call 98; refine (uvalid_v HU3.out _).mono ?_; rintro _ w6 ⟨rfl, hb6⟩; obtain ⟨hb6c, hb6f⟩ := bcell hb6; have hb6s := hb6.size; have hb6w : Below w.heap.size wr w6 := hb6.mono (show w.heap.size ≤ wr.heap.size by omega); have sb2 : w.heap.size + 1 + 1 < w6.heap.size := (by omega); have sb0 : w.heap.size < w6.heap.size := (by omega)))
      refine bodyPost_ret (by simp [results, Try.results128, go_sem, *]; try rfl) rfl ?_
      exact ⟨rfl, hBw.trans bw⟩
end Go.Proofs.Ytfooefiaenlhmaa
