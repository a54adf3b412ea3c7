/- Lemmas for the laws of package magnetolaw15: machine.Valid: its calls of ContainsFunc. machine.Valid: the first calls. machine.Valid of any program. machine.Valid of any program. The reference's body of any program. machine.Encode of a well-formed instruction. image.body of a program with well-formed instructions. Reading a program from bytes: what is read, and that a body is read as its program. No statement about the program's functions. image.Encode of any program; the reference's sealed and Encode. Contracts of slices.IsSorted, IsSortedFunc of integers, of ContainsFunc of rows. Which programs exceed the limits of the statements. No conditions. -/
import Derived.Test.YtfooefiaenlhmaaGE7
import Derived.Deep.RegionHeld3
import Derived.Deep.Cut
namespace Go.Proofs.Ytfooefiaenlhmaa
set_option linter.unusedVariables false
set_option linter.unusedSimpArgs false
open Go.RowKit Go.ChangeShapes Go.WideShapes Go.ChangeAt

theorem mh_types (p : PV) (W : World) (hp : IsP W p) (X : Nat) (v : Bool) (hv : (p.types.any fun t => !fxB t) = v) (hX : X < W.heap.size) (hc : W.cell? ⟨X, 0, none⟩ = some (.func (.func 57) #[] #[])) : Calls Try.prog 58 #[.slice p.rt p.types.length p.ct, .func (.func 59) #[] #[.pointer (some ⟨X, 0, none⟩)]] W fun e w' => e = .returned (.bool v) ∧ Below W.heap.size W w' := by
  subst hv
  exact has_Fixed _ _ p.rt p.ct p.types (fun t => !fxB t) W (enters_of Try.func59 (by kernel_rfl) rfl) hp.types (fun e x _ => v2_any X x e.w (Nat.lt_of_lt_of_le hX e.h.size) ((Later.cell e hX).trans hc))
theorem mh_curves (p : PV) (W : World) (hp : IsP W p) (X : Nat) (v : Bool) (hv : (p.curves.any fun t => !cvB t) = v) (hX : X < W.heap.size) (hc : W.cell? ⟨X, 0, none⟩ = some (.func (.func 57) #[] #[])) : Calls Try.prog 28 #[.slice p.rv p.curves.length p.cv, .func (.func 61) #[] #[.pointer (some ⟨X, 0, none⟩)]] W fun e w' => e = .returned (.bool v) ∧ Below W.heap.size W w' := by
  subst hv
  exact has_Curve _ _ p.rv p.cv p.curves (fun t => !cvB t) W (enters_of Try.func61 (by kernel_rfl) rfl) hp.curves (fun e x hx => v3_any X x e.w ((hp.curvesG x hx).later e.h) (Nat.lt_of_lt_of_le hX e.h.size) ((Later.cell e hX).trans hc))
theorem mh_maps (p : PV) (W : World) (hp : IsP W p) (X : Nat) (v : Bool) (hv : (p.maps.any fun t => !mpB t) = v) (hX : X < W.heap.size) (hc : W.cell? ⟨X, 0, none⟩ = some (.func (.func 57) #[] #[])) : Calls Try.prog 30 #[.slice p.rm p.maps.length p.cm, .func (.func 63) #[] #[.pointer (some ⟨X, 0, none⟩)]] W fun e w' => e = .returned (.bool v) ∧ Below W.heap.size W w' := by
  subst hv
  exact has_Map _ _ p.rm p.cm p.maps (fun t => !mpB t) W (enters_of Try.func63 (by kernel_rfl) rfl) hp.maps (fun e x hx => v4_any X x e.w ((hp.mapsG x hx).later e.h) (Nat.lt_of_lt_of_le hX e.h.size) ((Later.cell e hX).trans hc))
theorem mh_code (p : PV) (W : World) (hp : IsP W p) (X B : Nat) (v : Bool) (hv : (p.code.any fun i => !fitB p.cells p.curves.length p.maps.length p.types i) = v) (hX : X < W.heap.size) (hB : B < W.heap.size) (hc : W.cell? ⟨X, 0, none⟩ = some (.func (.func 57) #[] #[])) (q0 : W.cell? ⟨B, 0, none⟩ = some (.slice p.rc p.code.length p.cc)) (q1 : W.cell? ⟨B, 1, none⟩ = some (.slice p.rt p.types.length p.ct)) (q2 : W.cell? ⟨B, 2, none⟩ = some (.slice p.rv p.curves.length p.cv)) (q3 : W.cell? ⟨B, 3, none⟩ = some (.slice p.rm p.maps.length p.cm)) (q4 : W.cell? ⟨B, 4, none⟩ = some (.int .i64 p.cells)) (q5 : W.cell? ⟨B, 5, none⟩ = some (.slice p.ri p.inputs.length p.ci)) (q6 : W.cell? ⟨B, 6, none⟩ = some (.slice p.rs p.states.length p.cs)) (q7 : W.cell? ⟨B, 7, none⟩ = some (.slice p.ro p.outputs.length p.co)) (q8 : W.cell? ⟨B, 8, none⟩ = some (.slice p.rn p.initial.length p.cn)) : Calls Try.prog 65 #[.slice p.rc p.code.length p.cc, .func (.func 66) #[] #[.pointer (some ⟨X, 0, none⟩), .pointer (some ⟨B, 0, none⟩)]] W fun e w' => e = .returned (.bool v) ∧ Below W.heap.size W w' := by
  subst hv
  exact has_Instr _ _ p.rc p.cc p.code (fun i => !fitB p.cells p.curves.length p.maps.length p.types i) W (enters_of Try.func66 (by kernel_rfl) rfl) hp.code (fun e x hx => v5_any X B p x e.w (hp.codeG x hx) (hp.types.later e.h) (Nat.lt_of_lt_of_le hX e.h.size) (Nat.lt_of_lt_of_le hB e.h.size) ((Later.cell e hX).trans hc) ((Later.cell e hB).trans q0) ((Later.cell e hB).trans q1) ((Later.cell e hB).trans q2) ((Later.cell e hB).trans q3) ((Later.cell e hB).trans q4) ((Later.cell e hB).trans q5) ((Later.cell e hB).trans q6) ((Later.cell e hB).trans q7) ((Later.cell e hB).trans q8))
theorem mh_list (B : Nat) (cells : Int) (r : Option Addr) (cap : Nat) (l : List Int) (W : World) (hl : IsInts W r cap .i64 l) (v : Bool) (hv : l.any (badC cells) = v) (hB : B < W.heap.size) (q4 : W.cell? ⟨B, 4, none⟩ = some (.int .i64 cells)) : Calls Try.prog 68 #[.slice r l.length cap, .func (.func 69) #[] #[.pointer (some ⟨B, 0, none⟩)]] W fun e w' => e = .returned (.bool v) ∧ Below W.heap.size W w' := by
  subst hv
  exact containsFunc_any _ _ r cap l (badC cells) W (enters_of Try.func69 (by kernel_rfl) rfl) hl (fun e x _ => v6_any B x cells e.w ((Later.cell e hB).trans q4))
theorem mh_ini (r : Option Addr) (cap : Nat) (l : List Int) (W : World) (hl : IsInts W r cap .i64 l) (v : Bool) (hv : l.any badN = v) : Calls Try.prog 68 #[.slice r l.length cap, .func (.func 71) #[] #[]] W fun e w' => e = .returned (.bool v) ∧ Below W.heap.size W w' := by
  subst hv
  exact containsFunc_any _ _ r cap l badN W (enters_of Try.func71 (by kernel_rfl) rfl) hl (fun e x _ => v7_any x e.w)
end Go.Proofs.Ytfooefiaenlhmaa
namespace Go.Proofs.Ytfooefiaenlhmaa
set_option linter.unusedVariables false
set_option linter.unusedSimpArgs false
open Go.RowKit Go.ChangeShapes Go.WideShapes Go.ChangeAt

set_option maxRecDepth 100000 in
set_option maxHeartbeats 4000000 in
theorem mv_T (rc : Option Addr) (cc : Nat) (code : List Ins) (rt : Option Addr) (ct : Nat) (types : List Fx) (rv : Option Addr) (cv : Nat) (curves : List Cv) (rm : Option Addr) (cm : Nat) (maps : List Mp) (cells : Int) (ri : Option Addr) (ci : Nat) (inputs : List Int) (rs : Option Addr) (cs : Nat) (states : List Int) (ro : Option Addr) (co : Nat) (outputs : List Int) (rn : Option Addr) (cn : Nat) (initial : List Int) (w : World) (hp : IsP w ⟨rc, cc, code, rt, ct, types, rv, cv, curves, rm, cm, maps, cells, ri, ci, inputs, rs, cs, states, ro, co, outputs, rn, cn, initial⟩) (hsz : szP ⟨rc, cc, code, rt, ct, types, rv, cv, curves, rm, cm, maps, cells, ri, ci, inputs, rs, cs, states, ro, co, outputs, rn, cn, initial⟩) (hT : (types.any fun t => !fxB t) = true) : Calls Try.prog 34 #[.agg #[.slice rc code.length cc, .slice rt types.length ct, .slice rv curves.length cv, .slice rm maps.length cm, .int .i64 cells, .slice ri inputs.length ci, .slice rs states.length cs, .slice ro outputs.length co, .slice rn initial.length cn]] w fun e w' => e = .returned (.bool false) ∧ Below w.heap.size w w' := by
  obtain ⟨z0, z1, z2, z3, z4, z5, z6⟩ := hsz
  simp only at z0 z1 z2 z3 z4 z5 z6
  have f0 : ¬ ((4000 : Int) < code.length) := by omega
  have f1 : ¬ ((100 : Int) < types.length) := by omega
  have f2 : ¬ ((100 : Int) < curves.length) := by omega
  have f3 : ¬ ((100 : Int) < maps.length) := by omega
  have hs01 : w.heap.size < w.heap.size + 1 + 1 := by omega
  have f4 : ¬ cells < 0 := by omega
  have f5 : ¬ 1000 < cells := by omega
  have HT : Hid (∀ W, Below w.heap.size w W → w.heap.size + 1 < W.heap.size → W.cell? ⟨w.heap.size + 1, 0, none⟩ = some (.func (.func 57) #[] #[]) → Calls Try.prog 58 #[.slice rt types.length ct, .func (.func 59) #[] #[.pointer (some ⟨w.heap.size + 1, 0, none⟩)]] W fun e w' => e = .returned (.bool true) ∧ Below W.heap.size W w') := Lib.hid (fun W hW hs hc => mh_types ⟨rc, cc, code, rt, ct, types, rv, cv, curves, rm, cm, maps, cells, ri, ci, inputs, rs, cs, states, ro, co, outputs, rn, cn, initial⟩ W (hp.later hW) (w.heap.size + 1) true hT hs hc)
  clear hp hT
  go_enter Try.func34, Try.ntmps34
  go_wp2_with (first | (go_at_call 58; refine (HT.out _ (by (repeat' (first | (with_reducible exact Below.refl _ _) | (with_reducible assumption) | (with_reducible refine below_alloc ?_ _) | (with_reducible refine Below.drew ?_) | (with_reducible refine below_drewN ?_ _) | (with_reducible refine below_step (by assumption) ?_) | (with_reducible refine below_later ?_ _) | (with_reducible refine Below.setCell ?_ ?_ _) | go_size))) (by first | omega | (simp only [World.size_alloc]; omega)) (by first | go_keep | (simp [go_sem, *]; done))).mono ?_; rintro _ hb0w ⟨rfl, hb0⟩; obtain ⟨hb0c, hb0f⟩ := bcell hb0; have hb0s := hb0.size; (try simp only [World.size_alloc] at hb0s); have hx0 : w.heap.size < hb0w.heap.size := (by omega); have hy0 : w.heap.size + 1 < hb0w.heap.size := (by omega)))
  all_goals go_ret
  all_goals exact ⟨rfl, by (repeat' (first | (with_reducible exact Below.refl _ _) | (with_reducible assumption) | (with_reducible refine below_alloc ?_ _) | (with_reducible refine Below.drew ?_) | (with_reducible refine below_drewN ?_ _) | (with_reducible refine below_step (by assumption) ?_) | (with_reducible refine below_later ?_ _) | (with_reducible refine Below.setCell ?_ ?_ _) | go_size))⟩
set_option maxRecDepth 100000 in
set_option maxHeartbeats 4000000 in
theorem mv_C (rc : Option Addr) (cc : Nat) (code : List Ins) (rt : Option Addr) (ct : Nat) (types : List Fx) (rv : Option Addr) (cv : Nat) (curves : List Cv) (rm : Option Addr) (cm : Nat) (maps : List Mp) (cells : Int) (ri : Option Addr) (ci : Nat) (inputs : List Int) (rs : Option Addr) (cs : Nat) (states : List Int) (ro : Option Addr) (co : Nat) (outputs : List Int) (rn : Option Addr) (cn : Nat) (initial : List Int) (w : World) (hp : IsP w ⟨rc, cc, code, rt, ct, types, rv, cv, curves, rm, cm, maps, cells, ri, ci, inputs, rs, cs, states, ro, co, outputs, rn, cn, initial⟩) (hsz : szP ⟨rc, cc, code, rt, ct, types, rv, cv, curves, rm, cm, maps, cells, ri, ci, inputs, rs, cs, states, ro, co, outputs, rn, cn, initial⟩) (hT : (types.any fun t => !fxB t) = false) (hC : (curves.any fun t => !cvB t) = true) : Calls Try.prog 34 #[.agg #[.slice rc code.length cc, .slice rt types.length ct, .slice rv curves.length cv, .slice rm maps.length cm, .int .i64 cells, .slice ri inputs.length ci, .slice rs states.length cs, .slice ro outputs.length co, .slice rn initial.length cn]] w fun e w' => e = .returned (.bool false) ∧ Below w.heap.size w w' := by
  obtain ⟨z0, z1, z2, z3, z4, z5, z6⟩ := hsz
  simp only at z0 z1 z2 z3 z4 z5 z6
  have f0 : ¬ ((4000 : Int) < code.length) := by omega
  have f1 : ¬ ((100 : Int) < types.length) := by omega
  have f2 : ¬ ((100 : Int) < curves.length) := by omega
  have f3 : ¬ ((100 : Int) < maps.length) := by omega
  have hs01 : w.heap.size < w.heap.size + 1 + 1 := by omega
  have f4 : ¬ cells < 0 := by omega
  have f5 : ¬ 1000 < cells := by omega
  have HT : Hid (∀ W, Below w.heap.size w W → w.heap.size + 1 < W.heap.size → W.cell? ⟨w.heap.size + 1, 0, none⟩ = some (.func (.func 57) #[] #[]) → Calls Try.prog 58 #[.slice rt types.length ct, .func (.func 59) #[] #[.pointer (some ⟨w.heap.size + 1, 0, none⟩)]] W fun e w' => e = .returned (.bool false) ∧ Below W.heap.size W w') := Lib.hid (fun W hW hs hc => mh_types ⟨rc, cc, code, rt, ct, types, rv, cv, curves, rm, cm, maps, cells, ri, ci, inputs, rs, cs, states, ro, co, outputs, rn, cn, initial⟩ W (hp.later hW) (w.heap.size + 1) false hT hs hc)
  have HC : Hid (∀ W, Below w.heap.size w W → w.heap.size + 1 < W.heap.size → W.cell? ⟨w.heap.size + 1, 0, none⟩ = some (.func (.func 57) #[] #[]) → Calls Try.prog 28 #[.slice rv curves.length cv, .func (.func 61) #[] #[.pointer (some ⟨w.heap.size + 1, 0, none⟩)]] W fun e w' => e = .returned (.bool true) ∧ Below W.heap.size W w') := Lib.hid (fun W hW hs hc => mh_curves ⟨rc, cc, code, rt, ct, types, rv, cv, curves, rm, cm, maps, cells, ri, ci, inputs, rs, cs, states, ro, co, outputs, rn, cn, initial⟩ W (hp.later hW) (w.heap.size + 1) true hC hs hc)
  clear hp hT hC
  go_enter Try.func34, Try.ntmps34
  go_wp2_with (first | (go_at_call 58; refine (HT.out _ (by (repeat' (first | (with_reducible exact Below.refl _ _) | (with_reducible assumption) | (with_reducible refine below_alloc ?_ _) | (with_reducible refine Below.drew ?_) | (with_reducible refine below_drewN ?_ _) | (with_reducible refine below_step (by assumption) ?_) | (with_reducible refine below_later ?_ _) | (with_reducible refine Below.setCell ?_ ?_ _) | go_size))) (by first | omega | (simp only [World.size_alloc]; omega)) (by first | go_keep | (simp [go_sem, *]; done))).mono ?_; rintro _ hb0w ⟨rfl, hb0⟩; obtain ⟨hb0c, hb0f⟩ := bcell hb0; have hb0s := hb0.size; (try simp only [World.size_alloc] at hb0s); have hx0 : w.heap.size < hb0w.heap.size := (by omega); have hy0 : w.heap.size + 1 < hb0w.heap.size := (by omega)) | (go_at_call 28; refine (HC.out _ (by (repeat' (first | (with_reducible exact Below.refl _ _) | (with_reducible assumption) | (with_reducible refine below_alloc ?_ _) | (with_reducible refine Below.drew ?_) | (with_reducible refine below_drewN ?_ _) | (with_reducible refine below_step (by assumption) ?_) | (with_reducible refine below_later ?_ _) | (with_reducible refine Below.setCell ?_ ?_ _) | go_size))) (by first | omega | (simp only [World.size_alloc]; omega)) (by first | go_keep | (simp [go_sem, *]; done))).mono ?_; rintro _ hb1w ⟨rfl, hb1⟩; obtain ⟨hb1c, hb1f⟩ := bcell hb1; have hb1s := hb1.size; (try simp only [World.size_alloc] at hb1s); have hx1 : w.heap.size < hb1w.heap.size := (by omega); have hy1 : w.heap.size + 1 < hb1w.heap.size := (by omega)))
  all_goals go_ret
  all_goals exact ⟨rfl, by (repeat' (first | (with_reducible exact Below.refl _ _) | (with_reducible assumption) | (with_reducible refine below_alloc ?_ _) | (with_reducible refine Below.drew ?_) | (with_reducible refine below_drewN ?_ _) | (with_reducible refine below_step (by assumption) ?_) | (with_reducible refine below_later ?_ _) | (with_reducible refine Below.setCell ?_ ?_ _) | go_size))⟩
set_option maxRecDepth 100000 in
set_option maxHeartbeats 4000000 in
theorem mv_M (rc : Option Addr) (cc : Nat) (code : List Ins) (rt : Option Addr) (ct : Nat) (types : List Fx) (rv : Option Addr) (cv : Nat) (curves : List Cv) (rm : Option Addr) (cm : Nat) (maps : List Mp) (cells : Int) (ri : Option Addr) (ci : Nat) (inputs : List Int) (rs : Option Addr) (cs : Nat) (states : List Int) (ro : Option Addr) (co : Nat) (outputs : List Int) (rn : Option Addr) (cn : Nat) (initial : List Int) (w : World) (hp : IsP w ⟨rc, cc, code, rt, ct, types, rv, cv, curves, rm, cm, maps, cells, ri, ci, inputs, rs, cs, states, ro, co, outputs, rn, cn, initial⟩) (hsz : szP ⟨rc, cc, code, rt, ct, types, rv, cv, curves, rm, cm, maps, cells, ri, ci, inputs, rs, cs, states, ro, co, outputs, rn, cn, initial⟩) (hT : (types.any fun t => !fxB t) = false) (hC : (curves.any fun t => !cvB t) = false) (hM : (maps.any fun t => !mpB t) = true) : Calls Try.prog 34 #[.agg #[.slice rc code.length cc, .slice rt types.length ct, .slice rv curves.length cv, .slice rm maps.length cm, .int .i64 cells, .slice ri inputs.length ci, .slice rs states.length cs, .slice ro outputs.length co, .slice rn initial.length cn]] w fun e w' => e = .returned (.bool false) ∧ Below w.heap.size w w' := by
  obtain ⟨z0, z1, z2, z3, z4, z5, z6⟩ := hsz
  simp only at z0 z1 z2 z3 z4 z5 z6
  have f0 : ¬ ((4000 : Int) < code.length) := by omega
  have f1 : ¬ ((100 : Int) < types.length) := by omega
  have f2 : ¬ ((100 : Int) < curves.length) := by omega
  have f3 : ¬ ((100 : Int) < maps.length) := by omega
  have hs01 : w.heap.size < w.heap.size + 1 + 1 := by omega
  have f4 : ¬ cells < 0 := by omega
  have f5 : ¬ 1000 < cells := by omega
  have HT : Hid (∀ W, Below w.heap.size w W → w.heap.size + 1 < W.heap.size → W.cell? ⟨w.heap.size + 1, 0, none⟩ = some (.func (.func 57) #[] #[]) → Calls Try.prog 58 #[.slice rt types.length ct, .func (.func 59) #[] #[.pointer (some ⟨w.heap.size + 1, 0, none⟩)]] W fun e w' => e = .returned (.bool false) ∧ Below W.heap.size W w') := Lib.hid (fun W hW hs hc => mh_types ⟨rc, cc, code, rt, ct, types, rv, cv, curves, rm, cm, maps, cells, ri, ci, inputs, rs, cs, states, ro, co, outputs, rn, cn, initial⟩ W (hp.later hW) (w.heap.size + 1) false hT hs hc)
  have HC : Hid (∀ W, Below w.heap.size w W → w.heap.size + 1 < W.heap.size → W.cell? ⟨w.heap.size + 1, 0, none⟩ = some (.func (.func 57) #[] #[]) → Calls Try.prog 28 #[.slice rv curves.length cv, .func (.func 61) #[] #[.pointer (some ⟨w.heap.size + 1, 0, none⟩)]] W fun e w' => e = .returned (.bool false) ∧ Below W.heap.size W w') := Lib.hid (fun W hW hs hc => mh_curves ⟨rc, cc, code, rt, ct, types, rv, cv, curves, rm, cm, maps, cells, ri, ci, inputs, rs, cs, states, ro, co, outputs, rn, cn, initial⟩ W (hp.later hW) (w.heap.size + 1) false hC hs hc)
  have HM : Hid (∀ W, Below w.heap.size w W → w.heap.size + 1 < W.heap.size → W.cell? ⟨w.heap.size + 1, 0, none⟩ = some (.func (.func 57) #[] #[]) → Calls Try.prog 30 #[.slice rm maps.length cm, .func (.func 63) #[] #[.pointer (some ⟨w.heap.size + 1, 0, none⟩)]] W fun e w' => e = .returned (.bool true) ∧ Below W.heap.size W w') := Lib.hid (fun W hW hs hc => mh_maps ⟨rc, cc, code, rt, ct, types, rv, cv, curves, rm, cm, maps, cells, ri, ci, inputs, rs, cs, states, ro, co, outputs, rn, cn, initial⟩ W (hp.later hW) (w.heap.size + 1) true hM hs hc)
  clear hp hT hC hM
  go_enter Try.func34, Try.ntmps34
  go_wp2_with (first | (go_at_call 58; refine (HT.out _ (by (repeat' (first | (with_reducible exact Below.refl _ _) | (with_reducible assumption) | (with_reducible refine below_alloc ?_ _) | (with_reducible refine Below.drew ?_) | (with_reducible refine below_drewN ?_ _) | (with_reducible refine below_step (by assumption) ?_) | (with_reducible refine below_later ?_ _) | (with_reducible refine Below.setCell ?_ ?_ _) | go_size))) (by first | omega | (simp only [World.size_alloc]; omega)) (by first | go_keep | (simp [go_sem, *]; done))).mono ?_; rintro _ hb0w ⟨rfl, hb0⟩; obtain ⟨hb0c, hb0f⟩ := bcell hb0; have hb0s := hb0.size; (try simp only [World.size_alloc] at hb0s); have hx0 : w.heap.size < hb0w.heap.size := (by omega); have hy0 : w.heap.size + 1 < hb0w.heap.size := (by omega)) | (go_at_call 28; refine (HC.out _ (by (repeat' (first | (with_reducible exact Below.refl _ _) | (with_reducible assumption) | (with_reducible refine below_alloc ?_ _) | (with_reducible refine Below.drew ?_) | (with_reducible refine below_drewN ?_ _) | (with_reducible refine below_step (by assumption) ?_) | (with_reducible refine below_later ?_ _) | (with_reducible refine Below.setCell ?_ ?_ _) | go_size))) (by first | omega | (simp only [World.size_alloc]; omega)) (by first | go_keep | (simp [go_sem, *]; done))).mono ?_; rintro _ hb1w ⟨rfl, hb1⟩; obtain ⟨hb1c, hb1f⟩ := bcell hb1; have hb1s := hb1.size; (try simp only [World.size_alloc] at hb1s); have hx1 : w.heap.size < hb1w.heap.size := (by omega); have hy1 : w.heap.size + 1 < hb1w.heap.size := (by omega)) | (go_at_call 30; refine (HM.out _ (by (repeat' (first | (with_reducible exact Below.refl _ _) | (with_reducible assumption) | (with_reducible refine below_alloc ?_ _) | (with_reducible refine Below.drew ?_) | (with_reducible refine below_drewN ?_ _) | (with_reducible refine below_step (by assumption) ?_) | (with_reducible refine below_later ?_ _) | (with_reducible refine Below.setCell ?_ ?_ _) | go_size))) (by first | omega | (simp only [World.size_alloc]; omega)) (by first | go_keep | (simp [go_sem, *]; done))).mono ?_; rintro _ hb2w ⟨rfl, hb2⟩; obtain ⟨hb2c, hb2f⟩ := bcell hb2; have hb2s := hb2.size; (try simp only [World.size_alloc] at hb2s); have hx2 : w.heap.size < hb2w.heap.size := (by omega); have hy2 : w.heap.size + 1 < hb2w.heap.size := (by omega)))
  all_goals go_ret
  all_goals exact ⟨rfl, by (repeat' (first | (with_reducible exact Below.refl _ _) | (with_reducible assumption) | (with_reducible refine below_alloc ?_ _) | (with_reducible refine Below.drew ?_) | (with_reducible refine below_drewN ?_ _) | (with_reducible refine below_step (by assumption) ?_) | (with_reducible refine below_later ?_ _) | (with_reducible refine Below.setCell ?_ ?_ _) | go_size))⟩
set_option maxRecDepth 100000 in
set_option maxHeartbeats 4000000 in
theorem mv_I (rc : Option Addr) (cc : Nat) (code : List Ins) (rt : Option Addr) (ct : Nat) (types : List Fx) (rv : Option Addr) (cv : Nat) (curves : List Cv) (rm : Option Addr) (cm : Nat) (maps : List Mp) (cells : Int) (ri : Option Addr) (ci : Nat) (inputs : List Int) (rs : Option Addr) (cs : Nat) (states : List Int) (ro : Option Addr) (co : Nat) (outputs : List Int) (rn : Option Addr) (cn : Nat) (initial : List Int) (w : World) (hp : IsP w ⟨rc, cc, code, rt, ct, types, rv, cv, curves, rm, cm, maps, cells, ri, ci, inputs, rs, cs, states, ro, co, outputs, rn, cn, initial⟩) (hsz : szP ⟨rc, cc, code, rt, ct, types, rv, cv, curves, rm, cm, maps, cells, ri, ci, inputs, rs, cs, states, ro, co, outputs, rn, cn, initial⟩) (hT : (types.any fun t => !fxB t) = false) (hC : (curves.any fun t => !cvB t) = false) (hM : (maps.any fun t => !mpB t) = false) (hI : (code.any fun i => !fitB cells curves.length maps.length types i) = true) : Calls Try.prog 34 #[.agg #[.slice rc code.length cc, .slice rt types.length ct, .slice rv curves.length cv, .slice rm maps.length cm, .int .i64 cells, .slice ri inputs.length ci, .slice rs states.length cs, .slice ro outputs.length co, .slice rn initial.length cn]] w fun e w' => e = .returned (.bool false) ∧ Below w.heap.size w w' := by
  obtain ⟨z0, z1, z2, z3, z4, z5, z6⟩ := hsz
  simp only at z0 z1 z2 z3 z4 z5 z6
  have f0 : ¬ ((4000 : Int) < code.length) := by omega
  have f1 : ¬ ((100 : Int) < types.length) := by omega
  have f2 : ¬ ((100 : Int) < curves.length) := by omega
  have f3 : ¬ ((100 : Int) < maps.length) := by omega
  have hs01 : w.heap.size < w.heap.size + 1 + 1 := by omega
  have f4 : ¬ cells < 0 := by omega
  have f5 : ¬ 1000 < cells := by omega
  have HT : Hid (∀ W, Below w.heap.size w W → w.heap.size + 1 < W.heap.size → W.cell? ⟨w.heap.size + 1, 0, none⟩ = some (.func (.func 57) #[] #[]) → Calls Try.prog 58 #[.slice rt types.length ct, .func (.func 59) #[] #[.pointer (some ⟨w.heap.size + 1, 0, none⟩)]] W fun e w' => e = .returned (.bool false) ∧ Below W.heap.size W w') := Lib.hid (fun W hW hs hc => mh_types ⟨rc, cc, code, rt, ct, types, rv, cv, curves, rm, cm, maps, cells, ri, ci, inputs, rs, cs, states, ro, co, outputs, rn, cn, initial⟩ W (hp.later hW) (w.heap.size + 1) false hT hs hc)
  have HC : Hid (∀ W, Below w.heap.size w W → w.heap.size + 1 < W.heap.size → W.cell? ⟨w.heap.size + 1, 0, none⟩ = some (.func (.func 57) #[] #[]) → Calls Try.prog 28 #[.slice rv curves.length cv, .func (.func 61) #[] #[.pointer (some ⟨w.heap.size + 1, 0, none⟩)]] W fun e w' => e = .returned (.bool false) ∧ Below W.heap.size W w') := Lib.hid (fun W hW hs hc => mh_curves ⟨rc, cc, code, rt, ct, types, rv, cv, curves, rm, cm, maps, cells, ri, ci, inputs, rs, cs, states, ro, co, outputs, rn, cn, initial⟩ W (hp.later hW) (w.heap.size + 1) false hC hs hc)
  have HM : Hid (∀ W, Below w.heap.size w W → w.heap.size + 1 < W.heap.size → W.cell? ⟨w.heap.size + 1, 0, none⟩ = some (.func (.func 57) #[] #[]) → Calls Try.prog 30 #[.slice rm maps.length cm, .func (.func 63) #[] #[.pointer (some ⟨w.heap.size + 1, 0, none⟩)]] W fun e w' => e = .returned (.bool false) ∧ Below W.heap.size W w') := Lib.hid (fun W hW hs hc => mh_maps ⟨rc, cc, code, rt, ct, types, rv, cv, curves, rm, cm, maps, cells, ri, ci, inputs, rs, cs, states, ro, co, outputs, rn, cn, initial⟩ W (hp.later hW) (w.heap.size + 1) false hM hs hc)
  have HI : Hid (∀ W, Below w.heap.size w W → w.heap.size + 1 < W.heap.size → W.cell? ⟨w.heap.size + 1, 0, none⟩ = some (.func (.func 57) #[] #[]) → W.cell? ⟨w.heap.size, 0, none⟩ = some (.slice rc code.length cc) → W.cell? ⟨w.heap.size, 1, none⟩ = some (.slice rt types.length ct) → W.cell? ⟨w.heap.size, 2, none⟩ = some (.slice rv curves.length cv) → W.cell? ⟨w.heap.size, 3, none⟩ = some (.slice rm maps.length cm) → W.cell? ⟨w.heap.size, 4, none⟩ = some (.int .i64 cells) → W.cell? ⟨w.heap.size, 5, none⟩ = some (.slice ri inputs.length ci) → W.cell? ⟨w.heap.size, 6, none⟩ = some (.slice rs states.length cs) → W.cell? ⟨w.heap.size, 7, none⟩ = some (.slice ro outputs.length co) → W.cell? ⟨w.heap.size, 8, none⟩ = some (.slice rn initial.length cn) → Calls Try.prog 65 #[.slice rc code.length cc, .func (.func 66) #[] #[.pointer (some ⟨w.heap.size + 1, 0, none⟩), .pointer (some ⟨w.heap.size, 0, none⟩)]] W fun e w' => e = .returned (.bool true) ∧ Below W.heap.size W w') := Lib.hid (fun W hW hs hc q0 q1 q2 q3 q4 q5 q6 q7 q8 => mh_code ⟨rc, cc, code, rt, ct, types, rv, cv, curves, rm, cm, maps, cells, ri, ci, inputs, rs, cs, states, ro, co, outputs, rn, cn, initial⟩ W (hp.later hW) (w.heap.size + 1) w.heap.size true hI hs (by omega) hc q0 q1 q2 q3 q4 q5 q6 q7 q8)
  clear hp hT hC hM hI
  go_enter Try.func34, Try.ntmps34
  go_wp2_with (first | (go_at_call 58; refine (HT.out _ (by (repeat' (first | (with_reducible exact Below.refl _ _) | (with_reducible assumption) | (with_reducible refine below_alloc ?_ _) | (with_reducible refine Below.drew ?_) | (with_reducible refine below_drewN ?_ _) | (with_reducible refine below_step (by assumption) ?_) | (with_reducible refine below_later ?_ _) | (with_reducible refine Below.setCell ?_ ?_ _) | go_size))) (by first | omega | (simp only [World.size_alloc]; omega)) (by first | go_keep | (simp [go_sem, *]; done))).mono ?_; rintro _ hb0w ⟨rfl, hb0⟩; obtain ⟨hb0c, hb0f⟩ := bcell hb0; have hb0s := hb0.size; (try simp only [World.size_alloc] at hb0s); have hx0 : w.heap.size < hb0w.heap.size := (by omega); have hy0 : w.heap.size + 1 < hb0w.heap.size := (by omega)) | (go_at_call 28; refine (HC.out _ (by (repeat' (first | (with_reducible exact Below.refl _ _) | (with_reducible assumption) | (with_reducible refine below_alloc ?_ _) | (with_reducible refine Below.drew ?_) | (with_reducible refine below_drewN ?_ _) | (with_reducible refine below_step (by assumption) ?_) | (with_reducible refine below_later ?_ _) | (with_reducible refine Below.setCell ?_ ?_ _) | go_size))) (by first | omega | (simp only [World.size_alloc]; omega)) (by first | go_keep | (simp [go_sem, *]; done))).mono ?_; rintro _ hb1w ⟨rfl, hb1⟩; obtain ⟨hb1c, hb1f⟩ := bcell hb1; have hb1s := hb1.size; (try simp only [World.size_alloc] at hb1s); have hx1 : w.heap.size < hb1w.heap.size := (by omega); have hy1 : w.heap.size + 1 < hb1w.heap.size := (by omega)) | (go_at_call 30; refine (HM.out _ (by (repeat' (first | (with_reducible exact Below.refl _ _) | (with_reducible assumption) | (with_reducible refine below_alloc ?_ _) | (with_reducible refine Below.drew ?_) | (with_reducible refine below_drewN ?_ _) | (with_reducible refine below_step (by assumption) ?_) | (with_reducible refine below_later ?_ _) | (with_reducible refine Below.setCell ?_ ?_ _) | go_size))) (by first | omega | (simp only [World.size_alloc]; omega)) (by first | go_keep | (simp [go_sem, *]; done))).mono ?_; rintro _ hb2w ⟨rfl, hb2⟩; obtain ⟨hb2c, hb2f⟩ := bcell hb2; have hb2s := hb2.size; (try simp only [World.size_alloc] at hb2s); have hx2 : w.heap.size < hb2w.heap.size := (by omega); have hy2 : w.heap.size + 1 < hb2w.heap.size := (by omega)) | (go_at_call 65; refine (HI.out _ (by (repeat' (first | (with_reducible exact Below.refl _ _) | (with_reducible assumption) | (with_reducible refine below_alloc ?_ _) | (with_reducible refine Below.drew ?_) | (with_reducible refine below_drewN ?_ _) | (with_reducible refine below_step (by assumption) ?_) | (with_reducible refine below_later ?_ _) | (with_reducible refine Below.setCell ?_ ?_ _) | go_size))) (by first | omega | (simp only [World.size_alloc]; omega)) (by first | go_keep | (simp [go_sem, *]; done)) (by first | go_keep | (simp [go_sem, *]; done)) (by first | go_keep | (simp [go_sem, *]; done)) (by first | go_keep | (simp [go_sem, *]; done)) (by first | go_keep | (simp [go_sem, *]; done)) (by first | go_keep | (simp [go_sem, *]; done)) (by first | go_keep | (simp [go_sem, *]; done)) (by first | go_keep | (simp [go_sem, *]; done)) (by first | go_keep | (simp [go_sem, *]; done)) (by first | go_keep | (simp [go_sem, *]; done))).mono ?_; rintro _ hb3w ⟨rfl, hb3⟩; obtain ⟨hb3c, hb3f⟩ := bcell hb3; have hb3s := hb3.size; (try simp only [World.size_alloc] at hb3s); have hx3 : w.heap.size < hb3w.heap.size := (by omega); have hy3 : w.heap.size + 1 < hb3w.heap.size := (by omega)))
  all_goals go_ret
  all_goals exact ⟨rfl, by (repeat' (first | (with_reducible exact Below.refl _ _) | (with_reducible assumption) | (with_reducible refine below_alloc ?_ _) | (with_reducible refine Below.drew ?_) | (with_reducible refine below_drewN ?_ _) | (with_reducible refine below_step (by assumption) ?_) | (with_reducible refine below_later ?_ _) | (with_reducible refine Below.setCell ?_ ?_ _) | go_size))⟩
end Go.Proofs.Ytfooefiaenlhmaa
namespace Go.Proofs.Ytfooefiaenlhmaa
set_option linter.unusedVariables false
set_option linter.unusedSimpArgs false
open Go.RowKit Go.ChangeShapes Go.WideShapes Go.ChangeAt

theorem inL_bad {cells : Int} {l : List Int} (h : 1000 < l.length ∨ l.any (badC cells) = true) : inL cells l = false := by
  unfold inL
  rcases h with h | h
  · rw [show decide (l.length ≤ 1000) = false by simp; omega, Bool.false_and]
  · rw [h]; simp
theorem inL_good {cells : Int} {l : List Int} (h0 : l.length ≤ 1000) (h1 : l.any (badC cells) = false) : inL cells l = true := by
  unfold inL
  rw [h1]; simp [h0]
theorem inL_bd {cells : Int} {l : List Int} (h : inL cells l = true) : l.length ≤ 1000 ∧ ∀ c ∈ l, 0 ≤ c ∧ c < cells := by
  unfold inL at h
  simp only [Bool.and_eq_true, decide_eq_true_eq, Bool.not_eq_true', List.any_eq_false] at h
  refine ⟨h.1, fun c hc => ?_⟩
  have := h.2 c hc
  unfold badC at this
  simp only [decide_eq_true_eq] at this
  omega
theorem nodup_bad {l : List Int} {k : Nat} (hk : k < l.length) (h : l.getD k 0 ∈ l.take k) : ¬ l.Nodup := fun hn => by
  rw [← List.take_append_drop k l] at hn
  have := (List.nodup_append.1 hn).2.2
  refine this _ h (l.getD k 0) ?_ rfl
  rw [List.mem_iff_getElem?]
  exact ⟨0, by simp [List.getElem?_drop, List.getD, List.getElem?_eq_getElem hk]⟩
theorem nodup_good {l : List Int} (h : ∀ k, k < l.length → l.getD k 0 ∉ l.take k) : l.Nodup := by
  have key : ∀ k, k ≤ l.length → (l.take k).Nodup := fun k => by
    induction k with
    | zero => intro _; simp
    | succ k ih =>
      intro hk
      rw [List.take_add_one, List.getElem?_eq_getElem (by omega)]
      refine List.nodup_append.2 ⟨ih (by omega), by simp, fun a ha b hb => ?_⟩
      obtain rfl : b = l[k] := by simpa using hb
      have := h k (by omega)
      rw [List.getD_eq_getElem?_getD, List.getElem?_eq_getElem (by omega)] at this
      exact fun e => this (by rw [e] at ha; exact ha)
  have := key l.length (Nat.le_refl _)
  rwa [List.take_length] at this
theorem concat2A (b : Nat) (r1 r2 : Option Addr) (c1 c2 : Nat) (xs ys all : List Int) (w : World) (hal : xs ++ ys = all) (hb : b < w.heap.size) (d0 : w.cell? ⟨b, 0, none⟩ = some (.slice r1 xs.length c1)) (d1 : w.cell? ⟨b, 1, none⟩ = some (.slice r2 ys.length c2))
    (hx : IsInts w r1 c1 .i64 xs) (hy : IsInts w r2 c2 .i64 ys) (hl : xs.length + ys.length ≤ 100000) (hw : ∀ x ∈ xs ++ ys, (Lit.int .i64 x).wf = true) :
    Calls Try.prog 70 #[.slice (some ⟨b, 0, none⟩) 2 2] w fun e w' => ∃ r cap, e = .returned (.slice r all.length cap) ∧ IsInts w' r cap .i64 all ∧ Below w.heap.size w w' := by
  subst hal
  exact concat2I b r1 r2 c1 c2 xs ys w hb d0 d1 hx hy hl hw
theorem lt_of_row {W : World} {g : Nat} {o : Obj} (h : W.heap[g]? = some o) : g < W.heap.size := by
  rcases Nat.lt_or_ge g W.heap.size with hh | hh
  · exact hh
  · rw [Array.getElem?_eq_none hh] at h; cases h
theorem made_b {W : World} {base g n : Nat} (h : W.ownsRow base 4 1 (.slice (some ⟨g, 0, none⟩) n n) n (madeCells (Value.bool false).cells (n * 1)).toList) : ∃ cur : Array Value, W.heap[g]? = some (.cells cur 4) ∧ cur.size = n ∧ ∀ t, t < n → cur[t]? = some (.bool false) := by
  rw [Nat.mul_one] at h
  have e : (madeCells (Value.bool false).cells n).toList = List.replicate n (Value.bool false) := toList_madeCells_one _ _
  rw [e] at h
  obtain ⟨_, ho⟩ := h
  rcases ho with ⟨hbad, _⟩ | ⟨g', cap, cur, he, _, hrow, _, _, hsz, hx⟩
  · cases hbad
  simp only [Value.slice.injEq, Option.some.injEq, Addr.mk.injEq, and_true, true_and] at he
  obtain ⟨rfl, rfl⟩ := he
  rw [Nat.mul_one] at hsz hx
  refine ⟨cur, hrow, hsz, fun t ht => ?_⟩
  have := congrArg (fun l : List Value => l[t]?) hx
  simp only [List.getElem?_take_of_lt ht, Array.getElem?_toList, List.getElem?_replicate, ht, if_true] at this
  exact this
theorem row_store2 {W : World} {g k : Nat} {arr : Array Value} {t : TypeId} (h : W.heap[g]? = some (.cells arr t)) (v : Value) : (W.setCell ⟨g, k, none⟩ v).heap[g]? = some (.cells (arr.setIfInBounds k v) t) := by
  simp [World.setCell, Array.getElem?_modify, h]
set_option maxRecDepth 100000 in
set_option maxHeartbeats 8000000 in
theorem mv_main (rc : Option Addr) (cc : Nat) (code : List Ins) (rt : Option Addr) (ct : Nat) (types : List Fx) (rv : Option Addr) (cv : Nat) (curves : List Cv) (rm : Option Addr) (cm : Nat) (maps : List Mp) (cells : Int) (ri : Option Addr) (ci : Nat) (inputs : List Int) (rs : Option Addr) (cs : Nat) (states : List Int) (ro : Option Addr) (co : Nat) (outputs : List Int) (rn : Option Addr) (cn : Nat) (initial : List Int) (w : World) (hp : IsP w ⟨rc, cc, code, rt, ct, types, rv, cv, curves, rm, cm, maps, cells, ri, ci, inputs, rs, cs, states, ro, co, outputs, rn, cn, initial⟩) (hsz : szP ⟨rc, cc, code, rt, ct, types, rv, cv, curves, rm, cm, maps, cells, ri, ci, inputs, rs, cs, states, ro, co, outputs, rn, cn, initial⟩) (hT : (types.any fun t => !fxB t) = false) (hC : (curves.any fun t => !cvB t) = false) (hM : (maps.any fun t => !mpB t) = false) (hI : (code.any fun i => !fitB cells curves.length maps.length types i) = false) :
    Calls Try.prog 34 #[.agg #[.slice rc code.length cc, .slice rt types.length ct, .slice rv curves.length cv, .slice rm maps.length cm, .int .i64 cells, .slice ri inputs.length ci, .slice rs states.length cs, .slice ro outputs.length co, .slice rn initial.length cn]] w fun e w' => e = .returned (.bool (inL cells inputs && (inL cells outputs && (inL cells states && (decide (inputs ++ states).Nodup && !(initial.any badN)))))) ∧ Below w.heap.size w w' := by
  obtain ⟨R, hR⟩ : ∃ R, R = (inL cells inputs && (inL cells outputs && (inL cells states && (decide (inputs ++ states).Nodup && !(initial.any badN))))) := ⟨_, rfl⟩
  rw [← hR]
  have HR := Lib.hid hR
  clear hR
  have hin := hp.inputs
  have hout := hp.outputs
  have hst := hp.states
  have hini := hp.initial
  have HP := Lib.hid hp
  simp only at hin hout hst hini
  have mi := Nat.le_trans hin.le hin.max
  have mo := Nat.le_trans hout.le hout.max
  have ms := Nat.le_trans hst.le hst.max
  unfold maxLen at mi mo ms
  have HIN := Lib.hid hin
  have HOUT := Lib.hid hout
  have HST := Lib.hid hst
  have HINI := Lib.hid hini
  clear hin hout hst hini
  obtain ⟨z0, z1, z2, z3, z4, z5, z6⟩ := hsz
  simp only at z0 z1 z2 z3 z4 z5 z6
  have f0 : ¬ ((4000 : Int) < code.length) := by omega
  have f1 : ¬ ((100 : Int) < types.length) := by omega
  have f2 : ¬ ((100 : Int) < curves.length) := by omega
  have f3 : ¬ ((100 : Int) < maps.length) := by omega
  have hs01 : w.heap.size < w.heap.size + 1 + 1 := by omega
  have f4 : ¬ cells < 0 := by omega
  have f5 : ¬ 1000 < cells := by omega
  have HT : Hid (∀ W, Below w.heap.size w W → w.heap.size + 1 < W.heap.size → W.cell? ⟨w.heap.size + 1, 0, none⟩ = some (.func (.func 57) #[] #[]) → Calls Try.prog 58 #[.slice rt types.length ct, .func (.func 59) #[] #[.pointer (some ⟨w.heap.size + 1, 0, none⟩)]] W fun e w' => e = .returned (.bool false) ∧ Below W.heap.size W w') := Lib.hid (fun W hW hs hc => mh_types ⟨rc, cc, code, rt, ct, types, rv, cv, curves, rm, cm, maps, cells, ri, ci, inputs, rs, cs, states, ro, co, outputs, rn, cn, initial⟩ W (HP.out.later hW) (w.heap.size + 1) false hT hs hc)
  have HC : Hid (∀ W, Below w.heap.size w W → w.heap.size + 1 < W.heap.size → W.cell? ⟨w.heap.size + 1, 0, none⟩ = some (.func (.func 57) #[] #[]) → Calls Try.prog 28 #[.slice rv curves.length cv, .func (.func 61) #[] #[.pointer (some ⟨w.heap.size + 1, 0, none⟩)]] W fun e w' => e = .returned (.bool false) ∧ Below W.heap.size W w') := Lib.hid (fun W hW hs hc => mh_curves ⟨rc, cc, code, rt, ct, types, rv, cv, curves, rm, cm, maps, cells, ri, ci, inputs, rs, cs, states, ro, co, outputs, rn, cn, initial⟩ W (HP.out.later hW) (w.heap.size + 1) false hC hs hc)
  have HM : Hid (∀ W, Below w.heap.size w W → w.heap.size + 1 < W.heap.size → W.cell? ⟨w.heap.size + 1, 0, none⟩ = some (.func (.func 57) #[] #[]) → Calls Try.prog 30 #[.slice rm maps.length cm, .func (.func 63) #[] #[.pointer (some ⟨w.heap.size + 1, 0, none⟩)]] W fun e w' => e = .returned (.bool false) ∧ Below W.heap.size W w') := Lib.hid (fun W hW hs hc => mh_maps ⟨rc, cc, code, rt, ct, types, rv, cv, curves, rm, cm, maps, cells, ri, ci, inputs, rs, cs, states, ro, co, outputs, rn, cn, initial⟩ W (HP.out.later hW) (w.heap.size + 1) false hM hs hc)
  have HI : Hid (∀ W, Below w.heap.size w W → w.heap.size + 1 < W.heap.size → W.cell? ⟨w.heap.size + 1, 0, none⟩ = some (.func (.func 57) #[] #[]) → W.cell? ⟨w.heap.size, 0, none⟩ = some (.slice rc code.length cc) → W.cell? ⟨w.heap.size, 1, none⟩ = some (.slice rt types.length ct) → W.cell? ⟨w.heap.size, 2, none⟩ = some (.slice rv curves.length cv) → W.cell? ⟨w.heap.size, 3, none⟩ = some (.slice rm maps.length cm) → W.cell? ⟨w.heap.size, 4, none⟩ = some (.int .i64 cells) → W.cell? ⟨w.heap.size, 5, none⟩ = some (.slice ri inputs.length ci) → W.cell? ⟨w.heap.size, 6, none⟩ = some (.slice rs states.length cs) → W.cell? ⟨w.heap.size, 7, none⟩ = some (.slice ro outputs.length co) → W.cell? ⟨w.heap.size, 8, none⟩ = some (.slice rn initial.length cn) → Calls Try.prog 65 #[.slice rc code.length cc, .func (.func 66) #[] #[.pointer (some ⟨w.heap.size + 1, 0, none⟩), .pointer (some ⟨w.heap.size, 0, none⟩)]] W fun e w' => e = .returned (.bool false) ∧ Below W.heap.size W w') := Lib.hid (fun W hW hs hc q0 q1 q2 q3 q4 q5 q6 q7 q8 => mh_code ⟨rc, cc, code, rt, ct, types, rv, cv, curves, rm, cm, maps, cells, ri, ci, inputs, rs, cs, states, ro, co, outputs, rn, cn, initial⟩ W (HP.out.later hW) (w.heap.size + 1) w.heap.size false hI hs (by omega) hc q0 q1 q2 q3 q4 q5 q6 q7 q8)
  clear hp hT hC hM hI
  have Z6 := Lib.hid z6
  go_enter Try.func34, Try.ntmps34
  go_wp2_with (first | (go_at_call 58; refine (HT.out _ (by (repeat' (first | (with_reducible exact Below.refl _ _) | (with_reducible assumption) | (with_reducible refine below_alloc ?_ _) | (with_reducible refine Below.drew ?_) | (with_reducible refine below_drewN ?_ _) | (with_reducible refine below_step (by assumption) ?_) | (with_reducible refine below_later ?_ _) | (with_reducible refine Below.setCell ?_ ?_ _) | go_size))) (by first | omega | (simp only [World.size_alloc]; omega)) (by first | go_keep | (simp [go_sem, *]; done))).mono ?_; rintro _ hb0w ⟨rfl, hb0⟩; obtain ⟨hb0c, hb0f⟩ := bcell hb0; have hb0s := hb0.size; (try simp only [World.size_alloc] at hb0s); have hx0 : w.heap.size < hb0w.heap.size := (by omega); have hy0 : w.heap.size + 1 < hb0w.heap.size := (by omega)) | (go_at_call 28; refine (HC.out _ (by (repeat' (first | (with_reducible exact Below.refl _ _) | (with_reducible assumption) | (with_reducible refine below_alloc ?_ _) | (with_reducible refine Below.drew ?_) | (with_reducible refine below_drewN ?_ _) | (with_reducible refine below_step (by assumption) ?_) | (with_reducible refine below_later ?_ _) | (with_reducible refine Below.setCell ?_ ?_ _) | go_size))) (by first | omega | (simp only [World.size_alloc]; omega)) (by first | go_keep | (simp [go_sem, *]; done))).mono ?_; rintro _ hb1w ⟨rfl, hb1⟩; obtain ⟨hb1c, hb1f⟩ := bcell hb1; have hb1s := hb1.size; (try simp only [World.size_alloc] at hb1s); have hx1 : w.heap.size < hb1w.heap.size := (by omega); have hy1 : w.heap.size + 1 < hb1w.heap.size := (by omega)) | (go_at_call 30; refine (HM.out _ (by (repeat' (first | (with_reducible exact Below.refl _ _) | (with_reducible assumption) | (with_reducible refine below_alloc ?_ _) | (with_reducible refine Below.drew ?_) | (with_reducible refine below_drewN ?_ _) | (with_reducible refine below_step (by assumption) ?_) | (with_reducible refine below_later ?_ _) | (with_reducible refine Below.setCell ?_ ?_ _) | go_size))) (by first | omega | (simp only [World.size_alloc]; omega)) (by first | go_keep | (simp [go_sem, *]; done))).mono ?_; rintro _ hb2w ⟨rfl, hb2⟩; obtain ⟨hb2c, hb2f⟩ := bcell hb2; have hb2s := hb2.size; (try simp only [World.size_alloc] at hb2s); have hx2 : w.heap.size < hb2w.heap.size := (by omega); have hy2 : w.heap.size + 1 < hb2w.heap.size := (by omega)) | (go_at_call 65; refine (HI.out _ (by (repeat' (first | (with_reducible exact Below.refl _ _) | (with_reducible assumption) | (with_reducible refine below_alloc ?_ _) | (with_reducible refine Below.drew ?_) | (with_reducible refine below_drewN ?_ _) | (with_reducible refine below_step (by assumption) ?_) | (with_reducible refine below_later ?_ _) | (with_reducible refine Below.setCell ?_ ?_ _) | go_size))) (by first | omega | (simp only [World.size_alloc]; omega)) (by first | go_keep | (simp [go_sem, *]; done)) (by first | go_keep | (simp [go_sem, *]; done)) (by first | go_keep | (simp [go_sem, *]; done)) (by first | go_keep | (simp [go_sem, *]; done)) (by first | go_keep | (simp [go_sem, *]; done)) (by first | go_keep | (simp [go_sem, *]; done)) (by first | go_keep | (simp [go_sem, *]; done)) (by first | go_keep | (simp [go_sem, *]; done)) (by first | go_keep | (simp [go_sem, *]; done)) (by first | go_keep | (simp [go_sem, *]; done))).mono ?_; rintro _ hb3w ⟨rfl, hb3⟩; obtain ⟨hb3c, hb3f⟩ := bcell hb3; have hb3s := hb3.size; (try simp only [World.size_alloc] at hb3s); have hx3 : w.heap.size < hb3w.heap.size := (by omega); have hy3 : w.heap.size + 1 < hb3w.heap.size := (by omega)))
  have hq : ∀ o, (hb3w.alloc (.cells #[.slice ri inputs.length ci, .slice ro outputs.length co, .slice rs states.length cs] 26)).cell? ⟨w.heap.size, o, none⟩ = hb0w.cell? ⟨w.heap.size, o, none⟩ := fun o => by
    rw [((Below.refl hb3w.heap.size hb3w).alloc (Nat.le_refl _) _).cell (p := ⟨w.heap.size, o, none⟩) (by show w.heap.size < hb3w.heap.size; omega), hb3c _ _ (by omega), hb2c _ _ (by omega), hb1c _ _ (by omega)]
  have q4 : (hb3w.alloc (.cells #[.slice ri inputs.length ci, .slice ro outputs.length co, .slice rs states.length cs] 26)).cell? ⟨w.heap.size, 4, none⟩ = some (.int .i64 cells) := by rw [hq, hb0c _ _ (by simp only [World.size_alloc]; omega)]; first | go_keep | (simp; done) | (simp [Z6.out]; done)
  have q5 : (hb3w.alloc (.cells #[.slice ri inputs.length ci, .slice ro outputs.length co, .slice rs states.length cs] 26)).cell? ⟨w.heap.size, 5, none⟩ = some (.slice ri inputs.length ci) := by rw [hq, hb0c _ _ (by simp only [World.size_alloc]; omega)]; first | go_keep | (simp; done) | (simp [Z6.out]; done)
  have q6 : (hb3w.alloc (.cells #[.slice ri inputs.length ci, .slice ro outputs.length co, .slice rs states.length cs] 26)).cell? ⟨w.heap.size, 6, none⟩ = some (.slice rs states.length cs) := by rw [hq, hb0c _ _ (by simp only [World.size_alloc]; omega)]; first | go_keep | (simp; done) | (simp [Z6.out]; done)
  have q8 : (hb3w.alloc (.cells #[.slice ri inputs.length ci, .slice ro outputs.length co, .slice rs states.length cs] 26)).cell? ⟨w.heap.size, 8, none⟩ = some (.slice rn initial.length cn) := by rw [hq, hb0c _ _ (by simp only [World.size_alloc]; omega)]; first | go_keep | (simp; done) | (simp [Z6.out]; done)
  clear z6
  have l0 : (hb3w.alloc (.cells #[.slice ri inputs.length ci, .slice ro outputs.length co, .slice rs states.length cs] 26)).cell? ⟨hb3w.heap.size, 0, none⟩ = some (.slice ri inputs.length ci) := by go_keep
  have l1 : (hb3w.alloc (.cells #[.slice ri inputs.length ci, .slice ro outputs.length co, .slice rs states.length cs] 26)).cell? ⟨hb3w.heap.size, 1, none⟩ = some (.slice ro outputs.length co) := by go_keep
  have l2 : (hb3w.alloc (.cells #[.slice ri inputs.length ci, .slice ro outputs.length co, .slice rs states.length cs] 26)).cell? ⟨hb3w.heap.size, 2, none⟩ = some (.slice rs states.length cs) := by go_keep
  have hbW : Below w.heap.size w (hb3w.alloc (.cells #[.slice ri inputs.length ci, .slice ro outputs.length co, .slice rs states.length cs] 26)) := by (repeat' (first | (with_reducible exact Below.refl _ _) | (with_reducible assumption) | (with_reducible refine below_alloc ?_ _) | (with_reducible refine Below.drew ?_) | (with_reducible refine below_drewN ?_ _) | (with_reducible refine below_step (by assumption) ?_) | (with_reducible refine below_later ?_ _) | (with_reducible refine Below.setCell ?_ ?_ _) | go_size))
  have z1 : w.heap.size < (hb3w.alloc (.cells #[.slice ri inputs.length ci, .slice ro outputs.length co, .slice rs states.length cs] 26)).heap.size := by rw [World.size_alloc]; omega
  have z2 : hb3w.heap.size < (hb3w.alloc (.cells #[.slice ri inputs.length ci, .slice ro outputs.length co, .slice rs states.length cs] 26)).heap.size := by rw [World.size_alloc]; omega
  generalize hb3w.alloc (.cells #[.slice ri inputs.length ci, .slice ro outputs.length co, .slice rs states.length cs] 26) = W3 at *
  generalize hb3w.heap.size = bl at *
  clear hq hb0c hb1c hb2c hb3c hb0f hb1f hb2f hb3f hb0 hb1 hb2 hb3 HT HC HM HI
  go_loopg [78] 3 (fun kx s78 wr => ∃ (k : Nat) (e : Later W3), s78 = .int .i64 k ∧ k ≤ 3 ∧ 3 - k ≤ kx ∧ wr = e.w ∧ Hid ((1 ≤ k → inL cells inputs = true) ∧ (2 ≤ k → inL cells outputs = true) ∧ (3 ≤ k → inL cells states = true)))
  case atStart => exact ⟨0, ⟨W3, Below.refl _ _⟩, rfl, by omega, by omega, rfl, Lib.hid ⟨fun h => absurd h (by omega), fun h => absurd h (by omega), fun h => absurd h (by omega)⟩⟩
  case round =>
    obtain ⟨k, e, rfl, hk, hkx, rfl, HG⟩ := hrel
    have hes := e.h.size
    by_cases hk3 : k < 3
    · obtain rfl | rfl | rfl : k = 0 ∨ k = 1 ∨ k = 2 := by omega
      · by_cases n0 : 1000 < inputs.length
        · have HB : Hid (R = false) := Lib.hid (by rw [HR.out, inL_bad (.inl n0)]; simp)
          have n0i : (1000 : Int) < inputs.length := by omega
          go_wp2
          go_ret
          exact ⟨ret_bool HB.out.symm, hbW.trans (e.h.mono (by omega))⟩
        · have n0i : ¬ (1000 : Int) < inputs.length := by omega
          cases hb : inputs.any (badC cells)
          · have HGD := Lib.hid (inL_good (cells := cells) (by omega) hb)
            go_wp2_with (go_at_call 68; refine (mh_list w.heap.size cells ri ci inputs e.w (HIN.out.later (hbW.trans (e.h.mono (by omega)))) false hb (Nat.lt_of_lt_of_le z1 hes) ((Later.cell e z1).trans q4)).mono ?_; rintro _ w5 ⟨rfl, hb5⟩; obtain ⟨e5, rfl⟩ := e.next hb5)
            go_roundg (3 - (0 + 1))
            case measure => omega
            case rel => exact ⟨0 + 1, e5, by go_num, by omega, by omega, rfl, Lib.hid ⟨fun _ => HGD.out, fun h => absurd h (by omega), fun h => absurd h (by omega)⟩⟩
          · have HB : Hid (R = false) := Lib.hid (by rw [HR.out, inL_bad (.inr hb)]; simp)
            go_wp2_with (go_at_call 68; refine (mh_list w.heap.size cells ri ci inputs e.w (HIN.out.later (hbW.trans (e.h.mono (by omega)))) true hb (Nat.lt_of_lt_of_le z1 hes) ((Later.cell e z1).trans q4)).mono ?_; rintro _ w5 ⟨rfl, hb5⟩; obtain ⟨e5, rfl⟩ := e.next hb5)
            go_ret
            exact ⟨ret_bool HB.out.symm, hbW.trans (e5.h.mono (by omega))⟩
      · by_cases n0 : 1000 < outputs.length
        · have HB : Hid (R = false) := Lib.hid (by rw [HR.out, HG.out.1 (by omega), inL_bad (.inl n0)]; simp)
          have n0i : (1000 : Int) < outputs.length := by omega
          go_wp2
          go_ret
          exact ⟨ret_bool HB.out.symm, hbW.trans (e.h.mono (by omega))⟩
        · have n0i : ¬ (1000 : Int) < outputs.length := by omega
          cases hb : outputs.any (badC cells)
          · have HGD := Lib.hid (inL_good (cells := cells) (by omega) hb)
            go_wp2_with (go_at_call 68; refine (mh_list w.heap.size cells ro co outputs e.w (HOUT.out.later (hbW.trans (e.h.mono (by omega)))) false hb (Nat.lt_of_lt_of_le z1 hes) ((Later.cell e z1).trans q4)).mono ?_; rintro _ w5 ⟨rfl, hb5⟩; obtain ⟨e5, rfl⟩ := e.next hb5)
            go_roundg (3 - (1 + 1))
            case measure => omega
            case rel => exact ⟨1 + 1, e5, by go_num, by omega, by omega, rfl, Lib.hid ⟨fun _ => HG.out.1 (by omega), fun _ => HGD.out, fun h => absurd h (by omega)⟩⟩
          · have HB : Hid (R = false) := Lib.hid (by rw [HR.out, HG.out.1 (by omega), inL_bad (.inr hb)]; simp)
            go_wp2_with (go_at_call 68; refine (mh_list w.heap.size cells ro co outputs e.w (HOUT.out.later (hbW.trans (e.h.mono (by omega)))) true hb (Nat.lt_of_lt_of_le z1 hes) ((Later.cell e z1).trans q4)).mono ?_; rintro _ w5 ⟨rfl, hb5⟩; obtain ⟨e5, rfl⟩ := e.next hb5)
            go_ret
            exact ⟨ret_bool HB.out.symm, hbW.trans (e5.h.mono (by omega))⟩
      · by_cases n0 : 1000 < states.length
        · have HB : Hid (R = false) := Lib.hid (by rw [HR.out, HG.out.1 (by omega), HG.out.2.1 (by omega), inL_bad (.inl n0)]; simp)
          have n0i : (1000 : Int) < states.length := by omega
          go_wp2
          go_ret
          exact ⟨ret_bool HB.out.symm, hbW.trans (e.h.mono (by omega))⟩
        · have n0i : ¬ (1000 : Int) < states.length := by omega
          cases hb : states.any (badC cells)
          · have HGD := Lib.hid (inL_good (cells := cells) (by omega) hb)
            go_wp2_with (go_at_call 68; refine (mh_list w.heap.size cells rs cs states e.w (HST.out.later (hbW.trans (e.h.mono (by omega)))) false hb (Nat.lt_of_lt_of_le z1 hes) ((Later.cell e z1).trans q4)).mono ?_; rintro _ w5 ⟨rfl, hb5⟩; obtain ⟨e5, rfl⟩ := e.next hb5)
            go_roundg (3 - (2 + 1))
            case measure => omega
            case rel => exact ⟨2 + 1, e5, by go_num, by omega, by omega, rfl, Lib.hid ⟨fun _ => HG.out.1 (by omega), fun _ => HG.out.2.1 (by omega), fun _ => HGD.out⟩⟩
          · have HB : Hid (R = false) := Lib.hid (by rw [HR.out, HG.out.1 (by omega), HG.out.2.1 (by omega), inL_bad (.inr hb)]; simp)
            go_wp2_with (go_at_call 68; refine (mh_list w.heap.size cells rs cs states e.w (HST.out.later (hbW.trans (e.h.mono (by omega)))) true hb (Nat.lt_of_lt_of_le z1 hes) ((Later.cell e z1).trans q4)).mono ?_; rintro _ w5 ⟨rfl, hb5⟩; obtain ⟨e5, rfl⟩ := e.next hb5)
            go_ret
            exact ⟨ret_bool HB.out.symm, hbW.trans (e5.h.mono (by omega))⟩
    · obtain rfl : k = 3 := by omega
      obtain ⟨G1, G2, G3⟩ := HG.out
      have g1 := G1 (by omega)
      have g2 := G2 (by omega)
      have g3 := G3 (by omega)
      clear G1 G2 G3 HG l0 l1 l2
      have z3 : w.heap.size < e.w.heap.size := Nat.lt_of_lt_of_le z1 hes
      obtain ⟨m, rfl⟩ : ∃ m : Nat, cells = m := ⟨cells.toNat, by omega⟩
      have hle : inputs.length + states.length ≤ 100000 := by
        have := (inL_bd g1).1
        have := (inL_bd g3).1
        omega
      obtain ⟨i0, hi, hz0, hz1, hz2⟩ := info_parts infoBool
      have hbe : Below w.heap.size w e.w := hbW.trans (e.h.mono (by omega))
      obtain ⟨all, hal⟩ : ∃ all, inputs ++ states = all := ⟨_, rfl⟩
      have HAL := Lib.hid hal
      have hlm : all.length ≤ 100000 := by rw [← hal, List.length_append]; exact hle
      rw [hal] at HR
      have HM : Hid (∀ c ∈ all, 0 ≤ c ∧ c < (m : Int)) := Lib.hid (fun c hc => (List.mem_append.1 (hal ▸ hc)).elim ((inL_bd g1).2 c) ((inL_bd g3).2 c))
      clear hal
      have u4 := (Later.cell e z1).trans q4
      have u5 := (Later.cell e z1).trans q5
      have u6 := (Later.cell e z1).trans q6
      have u8 := (Later.cell e z1).trans q8
      have G := Lib.hid (And.intro g1 (And.intro g2 g3))
      clear g1 g2 g3 q4 q5 q6 q8
      go_wp2_with (first | (at_make; refine wpList_make_full _ (by rfl) _ _ _ (by rfl) e.w.heap.size 4 i0 (.bool false) 1 Try.underlying77 hi hz0 hz1 .i64 .i64 _ _ m (by rfl) (by rfl) (by rfl) (by rfl) (by rw [hz2]; omega) (by unfold maxLen; omega) (Nat.le_refl _) ?_; intro w4 hown hgrow; have hb4 : Below e.w.heap.size e.w w4 := (Below.refl _ _).grown hgrow (Nat.le_refl _) (fun k hk => by cases hk); obtain ⟨cur, hrow, hsz, hcur⟩ := made_b hown; clear hown hgrow; have z4 : e.w.heap.size < w4.heap.size := lt_of_row hrow; have z5 : w.heap.size < w4.heap.size := (by omega); have r5 := (hb4.cell (p := ⟨w.heap.size, 5, none⟩) z3).trans u5; have r6 := (hb4.cell (p := ⟨w.heap.size, 6, none⟩) z3).trans u6; have r8 := (hb4.cell (p := ⟨w.heap.size, 8, none⟩) z3).trans u8; have hbw4 : Below w.heap.size w w4 := hbe.trans (hb4.mono (by omega))) | (go_at_call 70; refine (concat2A w4.heap.size ri rs ci cs inputs states all _ HAL.out (by rw [World.size_alloc]; omega) (by simp) (by simp) (HIN.out.later (hbw4.trans (((Below.refl w4.heap.size w4).alloc (Nat.le_refl _) _).mono (by omega)))) (HST.out.later (hbw4.trans (((Below.refl w4.heap.size w4).alloc (Nat.le_refl _) _).mono (by omega)))) hle (fun x hx => (List.mem_append.1 hx).elim (HIN.out.wf x) (HST.out.wf x))).mono ?_; rintro _ w5 ⟨ra, ca, rfl, hall, hb5⟩; have hb5' := hb5; rw [World.size_alloc] at hb5'; have z6 : w4.heap.size < w5.heap.size := (by have hsz5 := hb5'.size; rw [World.size_alloc] at hsz5; omega); have hrow5 : w5.heap[e.w.heap.size]? = some (.cells cur 4) := ((hb5'.block e.w.heap.size (by omega)).trans (((Below.refl w4.heap.size w4).alloc (Nat.le_refl _) _).block e.w.heap.size (by omega))).trans hrow; have r8b := (hb5'.cell (p := ⟨w.heap.size, 8, none⟩) (show w.heap.size < w4.heap.size + 1 from (by omega))).trans ((((Below.refl w4.heap.size w4).alloc (Nat.le_refl _) _).cell (p := ⟨w.heap.size, 8, none⟩) z5).trans r8); have hbz : Below w.heap.size w w5 := hbw4.trans ((((Below.refl w4.heap.size w4).alloc (Nat.le_refl _) _).mono (by omega)).trans (hb5'.mono (by omega)))))
      have HALL := Lib.hid hall
      clear hall
      generalize hgt : e.w.heap.size = gT at *
      go_loopg [8, 101] all.length (fun kx s8 s101 wr => ∃ (k : Nat) (arr : Array Value), s101 = .int .i64 k ∧ k ≤ all.length ∧ all.length - k ≤ kx ∧ KeepB w5.heap.size gT w5 wr ∧ Hid (wr.heap[gT]? = some (.cells arr 4)) ∧ arr.size = m ∧ Hid (∀ t : Nat, t < m → arr[t]? = some (.bool (decide ((t : Int) ∈ all.take k)))) ∧ Hid (∀ j, j < k → all.getD j 0 ∉ all.take j))
      case atStart => exact ⟨0, cur, rfl, by omega, by omega, KeepB.refl _ _ _, Lib.hid hrow5, hsz, Lib.hid (fun t ht => by rw [hcur t ht]; simp), Lib.hid (fun j hj => absurd hj (by omega))⟩
      case round =>
        obtain ⟨k, arr, rfl, hk, hkx, hK, HR2, hasz, HA, HN⟩ := hrel
        have hbr : Below w.heap.size w wr := hbz.trans (hK.below (by omega) (by omega))
        by_cases hlt : k < all.length
        · obtain ⟨b5, o5, rfl, hb5b, hcells⟩ := HALL.out.cells (by intro h; rw [h] at hlt; simp at hlt)
          have hc5 := hcells k hlt
          have hmem : all.getD k 0 ∈ all := by rw [List.getD_eq_getElem?_getD, List.getElem?_eq_getElem hlt]; exact List.getElem_mem hlt
          obtain ⟨c0, c1⟩ := HM.out _ hmem
          obtain ⟨t, ht⟩ : ∃ t : Nat, all.getD k 0 = t := ⟨(all.getD k 0).toNat, by omega⟩
          have hne : b5 ≠ gT := fun h => by
            subst h
            rw [cell_of_row w5 b5 (o5 + k) cur _ _ hrow5] at hc5
            have hlt2 : o5 + k < m := by
              rcases Nat.lt_or_ge (o5 + k) m with hh | hh
              · exact hh
              · rw [Array.getElem?_eq_none (by omega)] at hc5; cases hc5
            rw [hcur _ hlt2] at hc5
            cases hc5
          have hcw : wr.cell? ⟨b5, o5 + k, none⟩ = some (.int .i64 t) := by rw [hK.cell hb5b hne, hc5, ht]
          have HT2 := Lib.hid ht
          rw [ht] at c0 c1
          have htm : t < m := by omega
          have hct : wr.cell? ⟨gT, t, none⟩ = some (.bool (decide ((t : Int) ∈ all.take k))) := by rw [cell_of_row wr gT t arr _ _ HR2.out, HA.out t htm]
          have hft : wr.frozen? ⟨gT, t, none⟩ = false := by simp [World.frozen?, HR2.out]
          have hk1 : (0 : Int) ≤ (k : Int) := by omega
          have hk2 : (k : Int) < all.length := by omega
          clear ht hc5 hcells hmem
          cases hd : decide ((t : Int) ∈ all.take k)
          · rw [hd] at hct
            have HD := Lib.hid hd
            clear hd
            go_wp2
            go_roundg (all.length - (k + 1))
            case measure => omega
            case rel =>
              refine ⟨k + 1, arr.setIfInBounds t (.bool true), by go_num, by omega, by omega, hK.trans (KeepB.setC _ _ _), Lib.hid (row_store2 HR2.out _), by simpa using hasz, Lib.hid (fun u hu => ?_), Lib.hid (fun j hj => ?_)⟩
              · have hadd : all.take (k + 1) = all.take k ++ [(t : Int)] := by
                  have hh := HT2.out
                  rw [List.getD_eq_getElem?_getD, List.getElem?_eq_getElem hlt] at hh
                  rw [List.take_add_one, List.getElem?_eq_getElem hlt, ← hh]; rfl
                rw [Array.getElem?_setIfInBounds, hadd]
                by_cases he : t = u
                · subst he
                  simp [hasz, htm]
                · rw [if_neg he, HA.out u hu]
                  have : ¬ (u : Int) = t := by omega
                  simp [this]
              · by_cases hjk : j = k
                · subst hjk
                  rw [HT2.out]
                  exact of_decide_eq_false HD.out
                · exact HN.out j (by omega)
          · rw [hd] at hct
            have HB : Hid (R = false) := Lib.hid (by
              have hm : ¬ all.Nodup := nodup_bad hlt (by rw [HT2.out]; exact of_decide_eq_true hd)
              rw [HR.out, decide_eq_false hm]; simp)
            clear hd
            go_wp2
            go_ret
            exact ⟨ret_bool HB.out.symm, hbr⟩
        · obtain rfl : k = all.length := by omega
          have hnd : all.Nodup := nodup_good (fun j hj => HN.out j hj)
          have HE : Hid (R = !(initial.any badN)) := Lib.hid (by
            rw [HR.out, G.out.1, G.out.2.1, G.out.2.2, decide_eq_true hnd]; rfl)
          have hcr : wr.cell? ⟨w.heap.size, 8, none⟩ = some (.slice rn initial.length cn) := by rw [hK.cell (by omega) (by omega)]; exact r8b
          have hini2 := HINI.out.later hbr
          have HI2 := Lib.hid (mh_ini rn cn initial wr hini2 _ rfl)
          clear hini2 hnd
          generalize initial.any badN = bi at *
          go_wp2_with (go_at_call 68; refine HI2.out.mono ?_; rintro _ w6 ⟨rfl, hb6⟩)
          go_ret
          exact ⟨ret_bool HE.out.symm, hbr.trans (hb6.mono hbr.size)⟩
end Go.Proofs.Ytfooefiaenlhmaa
namespace Go.Proofs.Ytfooefiaenlhmaa
set_option linter.unusedVariables false
set_option linter.unusedSimpArgs false
open Go.RowKit Go.ChangeShapes Go.WideShapes Go.ChangeAt

/-- machine.Valid of any program. -/
theorem mvalid_any (p : PV) (w : World) (hp : IsP w p) : Calls Try.prog 34 #[p.val] w fun e w' => e = .returned (.bool (validB p)) ∧ Below w.heap.size w w' := by
  by_cases hsz : szP p
  rotate_left
  · have e : validB p = false := by unfold validB; rw [decide_eq_false hsz]; rfl
    rw [e]
    exact mv_sz p w hp hsz
  have e0 : decide (szP p) = true := decide_eq_true hsz
  cases hT : (p.types.any fun t => !fxB t)
  rotate_left
  · have e : validB p = false := by unfold validB; rw [hT]; simp
    rw [e]
    obtain ⟨rc, cc, code, rt, ct, types, rv, cv, curves, rm, cm, maps, cells, ri, ci, inputs, rs, cs, states, ro, co, outputs, rn, cn, initial⟩ := p
    simp only [PV.val]
    exact mv_T _ _ _ _ _ _ _ _ _ _ _ _ _ _ _ _ _ _ _ _ _ _ _ _ _ w hp hsz hT
  cases hC : (p.curves.any fun t => !cvB t)
  rotate_left
  · have e : validB p = false := by unfold validB; rw [hC]; simp
    rw [e]
    obtain ⟨rc, cc, code, rt, ct, types, rv, cv, curves, rm, cm, maps, cells, ri, ci, inputs, rs, cs, states, ro, co, outputs, rn, cn, initial⟩ := p
    simp only [PV.val]
    exact mv_C _ _ _ _ _ _ _ _ _ _ _ _ _ _ _ _ _ _ _ _ _ _ _ _ _ w hp hsz hT hC
  cases hM : (p.maps.any fun t => !mpB t)
  rotate_left
  · have e : validB p = false := by unfold validB; rw [hM]; simp
    rw [e]
    obtain ⟨rc, cc, code, rt, ct, types, rv, cv, curves, rm, cm, maps, cells, ri, ci, inputs, rs, cs, states, ro, co, outputs, rn, cn, initial⟩ := p
    simp only [PV.val]
    exact mv_M _ _ _ _ _ _ _ _ _ _ _ _ _ _ _ _ _ _ _ _ _ _ _ _ _ w hp hsz hT hC hM
  cases hI : (p.code.any fun i => !fitB p.cells p.curves.length p.maps.length p.types i)
  rotate_left
  · have e : validB p = false := by unfold validB; rw [hI]; simp
    rw [e]
    obtain ⟨rc, cc, code, rt, ct, types, rv, cv, curves, rm, cm, maps, cells, ri, ci, inputs, rs, cs, states, ro, co, outputs, rn, cn, initial⟩ := p
    simp only [PV.val]
    exact mv_I _ _ _ _ _ _ _ _ _ _ _ _ _ _ _ _ _ _ _ _ _ _ _ _ _ w hp hsz hT hC hM hI
  have e : validB p = (inL p.cells p.inputs && (inL p.cells p.outputs && (inL p.cells p.states && (decide (p.inputs ++ p.states).Nodup && !(p.initial.any badN))))) := by
    unfold validB
    rw [e0, hT, hC, hM, hI]
    simp only [Bool.not_false, Bool.true_and]
  rw [e]
  obtain ⟨rc, cc, code, rt, ct, types, rv, cv, curves, rm, cm, maps, cells, ri, ci, inputs, rs, cs, states, ro, co, outputs, rn, cn, initial⟩ := p
  simp only [PV.val]
  exact mv_main _ _ _ _ _ _ _ _ _ _ _ _ _ _ _ _ _ _ _ _ _ _ _ _ _ w hp hsz hT hC hM hI
end Go.Proofs.Ytfooefiaenlhmaa
namespace Go.Proofs.Ytfooefiaenlhmaa
set_option linter.unusedVariables false
set_option linter.unusedSimpArgs false
open Go.RowKit Go.ChangeShapes Go.WideShapes Go.ChangeAt

theorem i64_nat {n : Nat} (h : n ≤ 9223372036854775807) : I64 (n : Int) := by unfold I64; simp [Lit.wf, IntKind.min, IntKind.max, IntKind.bits, IntKind.signed]; omega
theorem ints_b {W : World} {base : Nat} {r : Option Addr} {c : Nat} {xs : List Int} (h : OwnK .u8 5 W base r c xs) (hb : ByteL xs) : IsInts W r c .u8 xs := h.ints (fun x hx => u8_wf (hb x hx).1 (hb x hx).2)
theorem bit_any (b : Bool) (v : Int) (hv : (if b then 1 else 0) = v) (w : World) : Calls Try.prog 48 #[.bool b] w fun e w' => e = .returned (.int .i64 v) ∧ w' = w := by
  subst hv
  cases b
  · go_enter Try.func48, Try.ntmps48
    go_wp2
    go_ret
    exact ⟨rfl, rfl⟩
  · go_enter Try.func48, Try.ntmps48
    go_wp2
    go_ret
    exact ⟨rfl, rfl⟩
set_option maxRecDepth 100000 in
set_option maxHeartbeats 8000000 in
theorem rbody_any (p : PV) (w : World) (hp : IsP w p) (hl : p.p.body.length ≤ 10000000000) : Calls Try.prog 22 #[p.val] w fun e w' => ∃ r c, e = .returned (.slice r p.p.body.length c) ∧ OwnK .u8 5 w' w.heap.size r c p.p.body ∧ Below w.heap.size w w' := by
  obtain ⟨rc, cc, code, rt, ct, types, rv, cv, curves, rm, cm, maps, cells, ri, ci, inputs, rs, cs, states, ro, co, outputs, rn, cn, initial⟩ := p
  have HE : Hid (PP.body (PV.p ⟨rc, cc, code, rt, ct, types, rv, cv, curves, rm, cm, maps, cells, ri, ci, inputs, rs, cs, states, ro, co, outputs, rn, cn, initial⟩) = num8 code.length ++ code.flatMap Ins.by8 ++ num8 types.length ++ types.flatMap Fx.by8 ++ num8 curves.length ++ curves.flatMap (fun c => curveB8 c.p) ++ num8 maps.length ++ maps.flatMap (fun m => mapB8 m.p) ++ num8 cells ++ list8 inputs ++ list8 states ++ list8 outputs ++ list8 initial) := Lib.hid (by unfold PP.body PV.p; simp only [List.length_map]; rw [flat_curves, flat_maps])
  have hs1 := hp.code
  have hg1 := hp.codeG
  have hs2 := hp.types
  have hg2 := hp.typesG
  have hs3 := hp.curves
  have hg3 := hp.curvesG
  have hs4 := hp.maps
  have hg4 := hp.mapsG
  have hcl := hp.cells
  have hi1 := hp.inputs
  have hi2 := hp.states
  have hi3 := hp.outputs
  have hi4 := hp.initial
  simp only at hs1 hg1 hs2 hg2 hs3 hg3 hs4 hg4 hcl hi1 hi2 hi3 hi4
  have hl2 := hl
  rw [HE.out] at hl2
  simp only [List.length_append, num8_len, list8_len] at hl2
  have hB1 : Below w.heap.size w (w.alloc (.cells #[.slice rc code.length cc, .slice rt types.length ct, .slice rv curves.length cv, .slice rm maps.length cm, .int .i64 cells, .slice ri inputs.length ci, .slice rs states.length cs, .slice ro outputs.length co, .slice rn initial.length cn] 28)) := (Below.refl _ _).alloc (Nat.le_refl _) _
  have HS1 := Lib.hid (hs1.later hB1)
  have HS2 := Lib.hid (hs2.later hB1)
  have HS3 := Lib.hid (hs3.later hB1)
  have HS4 := Lib.hid (hs4.later hB1)
  have HG1 := Lib.hid hg1
  have HG2 := Lib.hid hg2
  have HG3 := Lib.hid (fun x hx => (hg3 x hx).later hB1)
  have HG4 := Lib.hid (fun x hx => (hg4 x hx).later hB1)
  have HI1 := Lib.hid (hi1.later hB1)
  have HI2 := Lib.hid (hi2.later hB1)
  have HI3 := Lib.hid (hi3.later hB1)
  have HI4 := Lib.hid (hi4.later hB1)
  clear hs1 hs2 hs3 hs4 hg1 hg2 hg3 hg4 hi1 hi2 hi3 hi4 hp hl
  generalize hres : PP.body (PV.p ⟨rc, cc, code, rt, ct, types, rv, cv, curves, rm, cm, maps, cells, ri, ci, inputs, rs, cs, states, ro, co, outputs, rn, cn, initial⟩) = res at *
  clear hres
  have hm1 := HS1.out.max
  unfold maxLen at hm1
  have hmc1 := HS1.out.le
  have hmc2 := Nat.le_trans HS2.out.le HS2.out.max
  have hmc3 := Nat.le_trans HS3.out.le HS3.out.max
  have hmc4 := Nat.le_trans HS4.out.le HS4.out.max
  unfold maxLen at hmc2 hmc3 hmc4
  have hn1 : I64 (code.length : Int) := i64_nat (by omega)
  have hn2 : I64 (types.length : Int) := i64_nat (by omega)
  have hn3 : I64 (curves.length : Int) := i64_nat (by omega)
  have hn4 : I64 (maps.length : Int) := i64_nat (by omega)
  simp only [PV.val]
  go_enter Try.func22, Try.ntmps22
  go_wp2_with (go_at_call 46; refine (rnum_any _ hn1 _).mono ?_; rintro e w1 ⟨r1, c1, rfl, ho1, hb1⟩)
  have q0 : (w.alloc (.cells #[.slice rc code.length cc, .slice rt types.length ct, .slice rv curves.length cv, .slice rm maps.length cm, .int .i64 cells, .slice ri inputs.length ci, .slice rs states.length cs, .slice ro outputs.length co, .slice rn initial.length cn] 28)).cell? ⟨w.heap.size, 0, none⟩ = some (.slice rc code.length cc) := by simp
  have q1 : (w.alloc (.cells #[.slice rc code.length cc, .slice rt types.length ct, .slice rv curves.length cv, .slice rm maps.length cm, .int .i64 cells, .slice ri inputs.length ci, .slice rs states.length cs, .slice ro outputs.length co, .slice rn initial.length cn] 28)).cell? ⟨w.heap.size, 1, none⟩ = some (.slice rt types.length ct) := by simp
  have q2 : (w.alloc (.cells #[.slice rc code.length cc, .slice rt types.length ct, .slice rv curves.length cv, .slice rm maps.length cm, .int .i64 cells, .slice ri inputs.length ci, .slice rs states.length cs, .slice ro outputs.length co, .slice rn initial.length cn] 28)).cell? ⟨w.heap.size, 2, none⟩ = some (.slice rv curves.length cv) := by simp
  have q3 : (w.alloc (.cells #[.slice rc code.length cc, .slice rt types.length ct, .slice rv curves.length cv, .slice rm maps.length cm, .int .i64 cells, .slice ri inputs.length ci, .slice rs states.length cs, .slice ro outputs.length co, .slice rn initial.length cn] 28)).cell? ⟨w.heap.size, 3, none⟩ = some (.slice rm maps.length cm) := by simp
  have q4 : (w.alloc (.cells #[.slice rc code.length cc, .slice rt types.length ct, .slice rv curves.length cv, .slice rm maps.length cm, .int .i64 cells, .slice ri inputs.length ci, .slice rs states.length cs, .slice ro outputs.length co, .slice rn initial.length cn] 28)).cell? ⟨w.heap.size, 4, none⟩ = some (.int .i64 cells) := by simp
  have q5 : (w.alloc (.cells #[.slice rc code.length cc, .slice rt types.length ct, .slice rv curves.length cv, .slice rm maps.length cm, .int .i64 cells, .slice ri inputs.length ci, .slice rs states.length cs, .slice ro outputs.length co, .slice rn initial.length cn] 28)).cell? ⟨w.heap.size, 5, none⟩ = some (.slice ri inputs.length ci) := by simp
  have q6 : (w.alloc (.cells #[.slice rc code.length cc, .slice rt types.length ct, .slice rv curves.length cv, .slice rm maps.length cm, .int .i64 cells, .slice ri inputs.length ci, .slice rs states.length cs, .slice ro outputs.length co, .slice rn initial.length cn] 28)).cell? ⟨w.heap.size, 6, none⟩ = some (.slice rs states.length cs) := by simp
  have q7 : (w.alloc (.cells #[.slice rc code.length cc, .slice rt types.length ct, .slice rv curves.length cv, .slice rm maps.length cm, .int .i64 cells, .slice ri inputs.length ci, .slice rs states.length cs, .slice ro outputs.length co, .slice rn initial.length cn] 28)).cell? ⟨w.heap.size, 7, none⟩ = some (.slice ro outputs.length co) := by simp
  have q8 : (w.alloc (.cells #[.slice rc code.length cc, .slice rt types.length ct, .slice rv curves.length cv, .slice rm maps.length cm, .int .i64 cells, .slice ri inputs.length ci, .slice rs states.length cs, .slice ro outputs.length co, .slice rn initial.length cn] 28)).cell? ⟨w.heap.size, 8, none⟩ = some (.slice rn initial.length cn) := by simp
  have hz : w.heap.size < (w.alloc (.cells #[.slice rc code.length cc, .slice rt types.length ct, .slice rv curves.length cv, .slice rm maps.length cm, .int .i64 cells, .slice ri inputs.length ci, .slice rs states.length cs, .slice ro outputs.length co, .slice rn initial.length cn] 28)).heap.size := by rw [World.size_alloc]; omega
  generalize w.alloc (.cells #[.slice rc code.length cc, .slice rt types.length ct, .slice rv curves.length cv, .slice rm maps.length cm, .int .i64 cells, .slice ri inputs.length ci, .slice rs states.length cs, .slice ro outputs.length co, .slice rn initial.length cn] 28) = W1 at *
  have HO1 := Lib.hid ho1
  clear ho1
  have hb1s := hb1.size
  have HLB0 : Hid (∀ k, (num8 code.length ++ (code.take k).flatMap Ins.by8).length ≤ 10000000000) := Lib.hid (fun k => by have := flat_le Ins.by8 code k; simp only [List.length_append, num8_len]; omega)
  go_loopg [3, 4] code.length (fun kx s3 s4 wr => ∃ (k : Nat) (e : Later W1) (r : Option Addr) (c : Nat) (out : List Int), s3 = .slice r out.length c ∧ s4 = .int .i64 k ∧ k ≤ code.length ∧ code.length - k ≤ kx ∧ wr = e.w ∧ out.length ≤ 10000000000 ∧ Hid (OwnK .u8 5 e.w W1.heap.size r c out) ∧ Hid (out = num8 code.length ++ (code.take k).flatMap Ins.by8))
  case atStart => exact ⟨0, ⟨w1, hb1⟩, r1, c1, num8 code.length, rfl, rfl, by omega, by omega, rfl, by rw [num8_len]; omega, HO1, Lib.hid (by simp)⟩
  case round =>
    clear HO1
    obtain ⟨k, e, r, c, out, rfl, rfl, hk, hkx, rfl, hol, HO, HQ⟩ := hrel
    have hes := e.h.size
    by_cases hlt : k < code.length
    · have hk1 : (0 : Int) ≤ (k : Int) := by omega
      have hk2 : (k : Int) < code.length := by omega
      have HQ2 : Hid (out ++ Ins.by8 (code.getD k default) = num8 code.length ++ (code.take (k + 1)).flatMap Ins.by8) := Lib.hid (by rw [HQ.out, flat_take Ins.by8 hlt, List.append_assoc])
      have hbd : out.length + (Ins.by8 (code.getD k default)).length ≤ 10000000000 := by rw [← List.length_append, HQ2.out]; exact HLB0.out _
      obtain ⟨bX, off, rfl, hb, hc⟩ := HS1.out.at_ hlt
      have hc0 : e.w.cell? ⟨bX, off + k * 5, none⟩ = some (.int .i64 (code.getD k default).op) := (e.h.cell (p := ⟨bX, off + k * 5, none⟩) hb).trans (hc 0 _ rfl)
      have hc1 : e.w.cell? ⟨bX, off + k * 5 + 1, none⟩ = some (.int .i64 (code.getD k default).a) := (e.h.cell (p := ⟨bX, off + k * 5 + 1, none⟩) hb).trans (hc 1 _ rfl)
      have hc2 : e.w.cell? ⟨bX, off + k * 5 + 2, none⟩ = some (.int .i64 (code.getD k default).b) := (e.h.cell (p := ⟨bX, off + k * 5 + 2, none⟩) hb).trans (hc 2 _ rfl)
      have hc3 : e.w.cell? ⟨bX, off + k * 5 + 3, none⟩ = some (.int .i64 (code.getD k default).c) := (e.h.cell (p := ⟨bX, off + k * 5 + 3, none⟩) hb).trans (hc 3 _ rfl)
      have hc4 : e.w.cell? ⟨bX, off + k * 5 + 4, none⟩ = some (.int .i64 (code.getD k default).k) := (e.h.cell (p := ⟨bX, off + k * 5 + 4, none⟩) hb).trans (hc 4 _ rfl)
      clear hc
      generalize code.getD k default = x at *
      obtain ⟨xo, xa, xb, xc, xk⟩ := x
      simp only at hc0 hc1 hc2 hc3 hc4
      have hbd2 : out.length + 12 ≤ 10000000000 := hbd
      go_wp2_with (first | (go_at_call 47; refine (renc_any xo xa xb xc xk _).mono ?_; rintro _ w2 ⟨r2, c2, rfl, ho2, hb2⟩; have HO2 := Lib.hid (ints_b ho2 (encI_byte _ _ _ _ _)); clear ho2; have hb2s := hb2.size) | (at_builtin; refine wpList_append_ks Try.underlying29 infoU8 rfl (by omega) (by rfl) _ _ (by rfl) W1.heap.size r r2 c c2 out (encI xo xa xb xc xk) (by rfl) (by rfl) (HO.out.below hb2 (Nat.le_refl _)) HO2.out (by rw [encI_len]; omega) (by omega) ?_; intro r' c' w3 hown3 hbw3))
      have HO3 := Lib.hid hown3
      clear hown3
      go_roundg (code.length - (k + 1))
      case measure => omega
      case rel => exact ⟨k + 1, ⟨w3, (e.h.trans (hb2.mono hes)).trans hbw3⟩, r', c', out ++ encI xo xa xb xc xk, by first | rfl | (simp [encI_len]; done), by go_num, by omega, by omega, rfl, by rw [List.length_append, encI_len]; omega, HO3, HQ2⟩
    · obtain rfl : k = code.length := by omega
      have HQ1 : Hid (out = num8 code.length ++ code.flatMap Ins.by8) := Lib.hid (by rw [HQ.out, List.take_length])
      clear HQ hkx hlt hk HLB0
      go_wp2_with (first | (go_at_call 46; refine (rnum_any _ hn2 _).mono ?_; rintro _ w2 ⟨r2, c2, rfl, ho2, hb2⟩; have HO2 := Lib.hid (ints8 ho2); clear ho2; have hb2s := hb2.size) | (at_builtin; refine wpList_append_ks Try.underlying29 infoU8 rfl (by omega) (by rfl) _ _ (by rfl) W1.heap.size r r2 c c2 out (num8 types.length) (by rfl) (by rfl) (HO.out.below hb2 (Nat.le_refl _)) HO2.out (by rw [num8_len]; omega) (by omega) ?_; intro r3 c3 w3 hown3 hbw3))
      have HO3 := Lib.hid hown3
      have hbe3 := (e.h.trans (hb2.mono hes)).trans hbw3
      have hb3s := hbe3.size
      clear hown3
      have HLB1 : Hid (∀ k, (num8 code.length ++ code.flatMap Ins.by8 ++ num8 types.length ++ (types.take k).flatMap Fx.by8).length ≤ 10000000000) := Lib.hid (fun k => by have := flat_le Fx.by8 types k; simp only [List.length_append, num8_len]; omega)
      go_loopg [3, 5] types.length (fun kx s3 s5 wr => ∃ (k : Nat) (e : Later W1) (r : Option Addr) (c : Nat) (out : List Int), s3 = .slice r out.length c ∧ s5 = .int .i64 k ∧ k ≤ types.length ∧ types.length - k ≤ kx ∧ wr = e.w ∧ out.length ≤ 10000000000 ∧ Hid (OwnK .u8 5 e.w W1.heap.size r c out) ∧ Hid (out = num8 code.length ++ code.flatMap Ins.by8 ++ num8 types.length ++ (types.take k).flatMap Fx.by8))
      case atStart => exact ⟨0, ⟨w3, hbe3⟩, r3, c3, out ++ num8 types.length, by first | rfl | (simp [num8_len]; done), by first | rfl | go_num, by omega, by omega, rfl, by have h := HLB1.out 0; rw [List.take_zero, List.flatMap_nil, List.append_nil, ← HQ1.out] at h; exact h, HO3, Lib.hid (by rw [HQ1.out]; simp)⟩
      case round =>
        clear HO3
        obtain ⟨k, e, r, c, out, rfl, rfl, hk, hkx, rfl, hol, HO, HQ⟩ := hrel
        have hes := e.h.size
        by_cases hlt : k < types.length
        · have hk1 : (0 : Int) ≤ (k : Int) := by omega
          have hk2 : (k : Int) < types.length := by omega
          have HQ2 : Hid (out ++ Fx.by8 (types.getD k default) = num8 code.length ++ code.flatMap Ins.by8 ++ num8 types.length ++ (types.take (k + 1)).flatMap Fx.by8) := Lib.hid (by rw [HQ.out, flat_take Fx.by8 hlt, List.append_assoc])
          have hbd : out.length + (Fx.by8 (types.getD k default)).length ≤ 10000000000 := by rw [← List.length_append, HQ2.out]; exact HLB1.out _
          obtain ⟨bX, off, rfl, hb, hc⟩ := HS2.out.at_ hlt
          have hc0 : e.w.cell? ⟨bX, off + k * 10, none⟩ = some (.int .i64 (types.getD k default).bits) := (e.h.cell (p := ⟨bX, off + k * 10, none⟩) hb).trans (hc 0 _ rfl)
          have hc1 : e.w.cell? ⟨bX, off + k * 10 + 1, none⟩ = some (.bool (types.getD k default).sg) := (e.h.cell (p := ⟨bX, off + k * 10 + 1, none⟩) hb).trans (hc 1 _ rfl)
          have hc2 : e.w.cell? ⟨bX, off + k * 10 + 2, none⟩ = some (.int .i64 (types.getD k default).num) := (e.h.cell (p := ⟨bX, off + k * 10 + 2, none⟩) hb).trans (hc 2 _ rfl)
          have hc3 : e.w.cell? ⟨bX, off + k * 10 + 3, none⟩ = some (.int .i64 (types.getD k default).off) := (e.h.cell (p := ⟨bX, off + k * 10 + 3, none⟩) hb).trans (hc 3 _ rfl)
          have hc4 : e.w.cell? ⟨bX, off + k * 10 + 4, none⟩ = some (.int .i64 (types.getD k default).den) := (e.h.cell (p := ⟨bX, off + k * 10 + 4, none⟩) hb).trans (hc 4 _ rfl)
          have hc5 : e.w.cell? ⟨bX, off + k * 10 + 5, none⟩ = some (.int .i64 (types.getD k default).m) := (e.h.cell (p := ⟨bX, off + k * 10 + 5, none⟩) hb).trans (hc 5 _ rfl)
          have hc6 : e.w.cell? ⟨bX, off + k * 10 + 6, none⟩ = some (.int .i64 (types.getD k default).kg) := (e.h.cell (p := ⟨bX, off + k * 10 + 6, none⟩) hb).trans (hc 6 _ rfl)
          have hc7 : e.w.cell? ⟨bX, off + k * 10 + 7, none⟩ = some (.int .i64 (types.getD k default).s) := (e.h.cell (p := ⟨bX, off + k * 10 + 7, none⟩) hb).trans (hc 7 _ rfl)
          have hc8 : e.w.cell? ⟨bX, off + k * 10 + 8, none⟩ = some (.int .i64 (types.getD k default).a) := (e.h.cell (p := ⟨bX, off + k * 10 + 8, none⟩) hb).trans (hc 8 _ rfl)
          have hc9 : e.w.cell? ⟨bX, off + k * 10 + 9, none⟩ = some (.int .i64 (types.getD k default).k) := (e.h.cell (p := ⟨bX, off + k * 10 + 9, none⟩) hb).trans (hc 9 _ rfl)
          clear hc
          have hok := HG2.out _ (getD_mem_of hlt)
          generalize types.getD k default = x at *
          obtain ⟨x0, x1, x2, x3, x4, x5, x6, x7, x8, x9⟩ := x
          simp only at hc0 hc1 hc2 hc3 hc4 hc5 hc6 hc7 hc8 hc9
          obtain ⟨bv, hbv⟩ : ∃ v : Int, (if x1 then 1 else 0) = v := ⟨_, rfl⟩
          have HBIT := Lib.hid (bit_any x1 bv hbv)
          have HOK : Hid (∀ y ∈ [x0, bv, x2, x3, x4, x5, x6, x7, x8, x9], I64 y) := Lib.hid (by
            obtain ⟨o0, o2, o3, o4, o5, o6, o7, o8, o9⟩ := hok
            simp only at o0 o2 o3 o4 o5 o6 o7 o8 o9
            have ob : I64 bv := by rw [← hbv]; cases x1 <;> exact (by rfl)
            intro y hy
            simp only [List.mem_cons, List.not_mem_nil, or_false] at hy
            rcases hy with rfl | rfl | rfl | rfl | rfl | rfl | rfl | rfl | rfl | rfl <;> assumption)
          have HFB : Hid (Fx.by8 ⟨x0, x1, x2, x3, x4, x5, x6, x7, x8, x9⟩ = nums8 [x0, bv, x2, x3, x4, x5, x6, x7, x8, x9]) := Lib.hid (by unfold Fx.by8 Fx.nums; rw [← hbv])
          rw [HFB.out] at HQ2 hbd
          rw [nums8_len] at hbd
          simp only [List.length_cons, List.length_nil] at hbd
          clear hok hbv
          go_wp2
          have d : ∀ j : Nat, (e.w.alloc (.cells #[.int .i64 x0, .bool x1, .int .i64 x2, .int .i64 x3, .int .i64 x4, .int .i64 x5, .int .i64 x6, .int .i64 x7, .int .i64 x8, .int .i64 x9] 59)).cell? ⟨e.w.heap.size, j, none⟩ = (#[.int .i64 x0, .bool x1, .int .i64 x2, .int .i64 x3, .int .i64 x4, .int .i64 x5, .int .i64 x6, .int .i64 x7, .int .i64 x8, .int .i64 x9] : Array Value)[j]? := fun j => World.cell?_alloc_new _ _ _ _
          have hBx : Below W1.heap.size W1 (e.w.alloc (.cells #[.int .i64 x0, .bool x1, .int .i64 x2, .int .i64 x3, .int .i64 x4, .int .i64 x5, .int .i64 x6, .int .i64 x7, .int .i64 x8, .int .i64 x9] 59)) := e.h.alloc hes _
          have hzx : (e.w.alloc (.cells #[.int .i64 x0, .bool x1, .int .i64 x2, .int .i64 x3, .int .i64 x4, .int .i64 x5, .int .i64 x6, .int .i64 x7, .int .i64 x8, .int .i64 x9] 59)).heap.size = e.w.heap.size + 1 := World.size_alloc _ _
          have HOx := Lib.hid (HO.out.below ((Below.refl e.w.heap.size e.w).alloc (Nat.le_refl _) (.cells #[.int .i64 x0, .bool x1, .int .i64 x2, .int .i64 x3, .int .i64 x4, .int .i64 x5, .int .i64 x6, .int .i64 x7, .int .i64 x8, .int .i64 x9] 59)) (Nat.le_refl _))
          generalize e.w.alloc (.cells #[.int .i64 x0, .bool x1, .int .i64 x2, .int .i64 x3, .int .i64 x4, .int .i64 x5, .int .i64 x6, .int .i64 x7, .int .i64 x8, .int .i64 x9] 59) = Wx at *
          refine wp_still_tail 26 (by kernel_rfl) (by kernel_rfl) ?_
          intro W hW hWs
          have hlx : e.w.heap.size < Wx.heap.size := by omega
          have d0 : W.cell? ⟨e.w.heap.size, 0, none⟩ = some (.int .i64 x0) := (hW.cell (p := ⟨e.w.heap.size, 0, none⟩) hlx).trans (d 0)
          have d1 : W.cell? ⟨e.w.heap.size, 1, none⟩ = some (.bool x1) := (hW.cell (p := ⟨e.w.heap.size, 1, none⟩) hlx).trans (d 1)
          have d2 : W.cell? ⟨e.w.heap.size, 2, none⟩ = some (.int .i64 x2) := (hW.cell (p := ⟨e.w.heap.size, 2, none⟩) hlx).trans (d 2)
          have d3 : W.cell? ⟨e.w.heap.size, 3, none⟩ = some (.int .i64 x3) := (hW.cell (p := ⟨e.w.heap.size, 3, none⟩) hlx).trans (d 3)
          have d4 : W.cell? ⟨e.w.heap.size, 4, none⟩ = some (.int .i64 x4) := (hW.cell (p := ⟨e.w.heap.size, 4, none⟩) hlx).trans (d 4)
          have d5 : W.cell? ⟨e.w.heap.size, 5, none⟩ = some (.int .i64 x5) := (hW.cell (p := ⟨e.w.heap.size, 5, none⟩) hlx).trans (d 5)
          have d6 : W.cell? ⟨e.w.heap.size, 6, none⟩ = some (.int .i64 x6) := (hW.cell (p := ⟨e.w.heap.size, 6, none⟩) hlx).trans (d 6)
          have d7 : W.cell? ⟨e.w.heap.size, 7, none⟩ = some (.int .i64 x7) := (hW.cell (p := ⟨e.w.heap.size, 7, none⟩) hlx).trans (d 7)
          have d8 : W.cell? ⟨e.w.heap.size, 8, none⟩ = some (.int .i64 x8) := (hW.cell (p := ⟨e.w.heap.size, 8, none⟩) hlx).trans (d 8)
          have d9 : W.cell? ⟨e.w.heap.size, 9, none⟩ = some (.int .i64 x9) := (hW.cell (p := ⟨e.w.heap.size, 9, none⟩) hlx).trans (d 9)
          clear d
          simp only [List.take_succ_cons, List.take_zero, List.drop_succ_cons, List.drop_zero]
          repeat (first | (refine wpStill_step (fun K hK => ?_); go_simp; refine hK _ ?_; clear hK K) | (refine wpStill_step (fun K hK => ?_); go_simp; refine ⟨_, HBIT.out _, hK _ ?_⟩; clear hK K))
          refine wpStill_nil ?_
          go_wp2
          have HL10 := Lib.hid ((own_built .i64 3 W W.heap.size [x0, bv, x2, x3, x4, x5, x6, x7, x8, x9] (Nat.le_refl _) (by simp [maxLen])).ints HOK.out)
          have HOy := Lib.hid (HOx.out.below (hW.trans ((Below.refl Wx.heap.size W).alloc hW.size (.cells #[.int .i64 x0, .int .i64 bv, .int .i64 x2, .int .i64 x3, .int .i64 x4, .int .i64 x5, .int .i64 x6, .int .i64 x7, .int .i64 x8, .int .i64 x9] 3))) (Nat.le_refl _))
          have hBy : Below W1.heap.size W1 (W.alloc (.cells #[.int .i64 x0, .int .i64 bv, .int .i64 x2, .int .i64 x3, .int .i64 x4, .int .i64 x5, .int .i64 x6, .int .i64 x7, .int .i64 x8, .int .i64 x9] 3)) := (hBx.trans (hW.mono hBx.size)).alloc (by omega) _
          have hzy : W.heap.size < (W.alloc (.cells #[.int .i64 x0, .int .i64 bv, .int .i64 x2, .int .i64 x3, .int .i64 x4, .int .i64 x5, .int .i64 x6, .int .i64 x7, .int .i64 x8, .int .i64 x9] 3)).heap.size := by rw [World.size_alloc]; omega
          have HL10b : Hid (IsInts (W.alloc (.cells #[.int .i64 x0, .int .i64 bv, .int .i64 x2, .int .i64 x3, .int .i64 x4, .int .i64 x5, .int .i64 x6, .int .i64 x7, .int .i64 x8, .int .i64 x9] 3)) (some ⟨W.heap.size, 0, none⟩) 10 .i64 [x0, bv, x2, x3, x4, x5, x6, x7, x8, x9]) := HL10
          clear HL10 HOx
          generalize W.alloc (.cells #[.int .i64 x0, .int .i64 bv, .int .i64 x2, .int .i64 x3, .int .i64 x4, .int .i64 x5, .int .i64 x6, .int .i64 x7, .int .i64 x8, .int .i64 x9] 3) = W3 at *
          have hL : [x0, bv, x2, x3, x4, x5, x6, x7, x8, x9].length = 10 := rfl
          generalize [x0, bv, x2, x3, x4, x5, x6, x7, x8, x9] = L at *
          clear d0 d1 d2 d3 d4 d5 d6 d7 d8 d9 hc0 hc1 hc2 hc3 hc4 hc5 hc6 hc7 hc8 hc9 HBIT
          have HLL := Lib.hid hL
          clear hL
          have hA3 : W.heap.size = e.w.heap.size + 1 := by omega
          have HNA : Hid (∀ a, r = some a → a.block ≠ W.heap.size) := Lib.hid (fun a ha => by have := (HO.out.lt a ha).2; omega)
          go_loopg [3, 8] 10 (fun kx s3 s8 wr => ∃ (j : Nat) (r : Option Addr) (c : Nat) (out2 : List Int), s3 = .slice r out2.length c ∧ s8 = .int .i64 j ∧ j ≤ 10 ∧ 10 - j ≤ kx ∧ Below W1.heap.size W1 wr ∧ W3.heap.size ≤ wr.heap.size ∧ Hid (wr.heap[W.heap.size]? = W3.heap[W.heap.size]?) ∧ Hid (∀ a, r = some a → a.block ≠ W.heap.size) ∧ out2.length ≤ 10000000000 ∧ Hid (OwnK .u8 5 wr W1.heap.size r c out2) ∧ Hid (out2 = out ++ nums8 (L.take j)) ∧ Hid (out2.length = out.length + 8 * j))
          case atStart => exact ⟨0, r, c, out, rfl, rfl, by omega, by omega, hBy, Nat.le_refl _, Lib.hid rfl, HNA, hol, HOy, Lib.hid (by simp [nums8]), Lib.hid (by omega)⟩
          case round =>
            clear HOy HNA
            obtain ⟨j, r, c, out2, rfl, rfl, hj, hjx, hBr, hrs, HKA, HNA, hol2, HO2, HQj, HLj⟩ := hrel
            have hBrs := hBr.size
            have hByS := hBy.size
            by_cases hjl : j < 10
            · have hj1 : (0 : Int) ≤ (j : Int) := by omega
              have hj2 : (j : Int) < 10 := by omega
              obtain ⟨bL, ofL, hre, hbL, hcL⟩ := HL10b.out.cells (fun e => by have := HLL.out; rw [e] at this; simp at this)
              simp only [Option.some.injEq, Addr.mk.injEq, and_true] at hre
              obtain ⟨rfl, rfl⟩ := hre
              have hcj : wr.cell? ⟨e.w.heap.size + 1, j, none⟩ = some (.int .i64 (L.getD j 0)) := by
                have := (World.cell?_of_block (a := ⟨W.heap.size, 0 + j, none⟩) HKA.out).trans (hcL j (by rw [HLL.out]; exact hjl))
                rw [Nat.zero_add, hA3] at this
                exact this
              clear hcL
              have hyi : I64 (L.getD j 0) := HOK.out _ (getD_mem' (by rw [HLL.out]; exact hjl))
              have HQn := Lib.hid (nums8_take (l := L) (k := j) (by rw [HLL.out]; exact hjl))
              generalize L.getD j 0 = y at *
              have hbd2 : out2.length + 8 ≤ 10000000000 := by have := HLj.out; omega
              go_wp2_with (first | (go_at_call 46; refine (rnum_any _ hyi _).mono ?_; rintro _ w4 ⟨r4, c4, rfl, ho4, hb4⟩; have HO4 := Lib.hid (ints8 ho4); clear ho4; have hb4s := hb4.size) | (at_builtin; refine wpList_append_ksf Try.underlying29 infoU8 rfl (by omega) (by rfl) _ _ (by rfl) W1.heap.size r r4 c c4 out2 (num8 y) (by rfl) (by rfl) (HO2.out.below hb4 (Nat.le_refl _)) HO4.out (by rw [num8_len]; omega) (by omega) ?_; intro r5 c5 w5 hown5 hbw5 hst5 hrr5))
              have HO5 := Lib.hid hown5
              have HKA5 : Hid (w5.heap[W.heap.size]? = W3.heap[W.heap.size]?) := Lib.hid ((hst5 _ (by omega) HNA.out).trans ((hb4.block _ (by omega)).trans HKA.out))
              have HNA5 : Hid (∀ a, r5 = some a → a.block ≠ W.heap.size) := Lib.hid (fun a ha => by
                rcases hrr5 a ha with ⟨a0, h1, h2⟩ | h1
                · rw [← h2]; exact HNA.out a0 h1
                · omega)
              have hbw5s := hbw5.size
              clear hown5 hst5 hrr5
              go_roundg (10 - (j + 1))
              case measure => omega
              case rel => exact ⟨j + 1, r5, c5, out2 ++ num8 y, by first | rfl | (simp [num8_len]; done), by go_num, by omega, by omega, (hBr.trans (hb4.mono hBrs)).trans hbw5, by omega, HKA5, HNA5, by rw [List.length_append, num8_len]; omega, HO5, Lib.hid (by rw [HQj.out, HQn.out, List.append_assoc]), Lib.hid (by rw [List.length_append, num8_len, HLj.out]; omega)⟩
            · obtain rfl : j = 10 := by omega
              have HQe : Hid (out2 = out ++ nums8 L) := Lib.hid (by rw [HQj.out, List.take_of_length_le (by rw [HLL.out]; exact Nat.le_refl _)])
              clear HQj
              go_wp2
              go_roundg (types.length - (k + 1))
              case measure => omega
              case rel => exact ⟨k + 1, ⟨wr, hBr⟩, r, c, out2, rfl, by go_num, by omega, by omega, rfl, hol2, HO2, Lib.hid (by rw [HQe.out]; exact HQ2.out)⟩
        · obtain rfl : k = types.length := by omega
          have HQ1 : Hid (out = num8 code.length ++ code.flatMap Ins.by8 ++ num8 types.length ++ types.flatMap Fx.by8) := Lib.hid (by rw [HQ.out, List.take_length])
          clear HQ hkx hlt hk HLB1
          go_wp2_with (first | (go_at_call 46; refine (rnum_any _ hn3 _).mono ?_; rintro _ w2 ⟨r2, c2, rfl, ho2, hb2⟩; have HO2 := Lib.hid (ints8 ho2); clear ho2; have hb2s := hb2.size) | (at_builtin; refine wpList_append_ks Try.underlying29 infoU8 rfl (by omega) (by rfl) _ _ (by rfl) W1.heap.size r r2 c c2 out (num8 curves.length) (by rfl) (by rfl) (HO.out.below hb2 (Nat.le_refl _)) HO2.out (by rw [num8_len]; omega) (by omega) ?_; intro r3 c3 w3 hown3 hbw3))
          have HO3 := Lib.hid hown3
          have hbe3 := (e.h.trans (hb2.mono hes)).trans hbw3
          have hb3s := hbe3.size
          clear hown3
          have HLB2 : Hid (∀ k, (num8 code.length ++ code.flatMap Ins.by8 ++ num8 types.length ++ types.flatMap Fx.by8 ++ num8 curves.length ++ (curves.take k).flatMap (fun c : Cv => curveB8 c.p)).length ≤ 10000000000) := Lib.hid (fun k => by have := flat_le (fun c : Cv => curveB8 c.p) curves k; simp only [List.length_append, num8_len]; omega)
          go_loopg [3, 9] curves.length (fun kx s3 s9 wr => ∃ (k : Nat) (e : Later W1) (r : Option Addr) (c : Nat) (out : List Int), s3 = .slice r out.length c ∧ s9 = .int .i64 k ∧ k ≤ curves.length ∧ curves.length - k ≤ kx ∧ wr = e.w ∧ out.length ≤ 10000000000 ∧ Hid (OwnK .u8 5 e.w W1.heap.size r c out) ∧ Hid (out = num8 code.length ++ code.flatMap Ins.by8 ++ num8 types.length ++ types.flatMap Fx.by8 ++ num8 curves.length ++ (curves.take k).flatMap (fun c : Cv => curveB8 c.p)))
          case atStart => exact ⟨0, ⟨w3, hbe3⟩, r3, c3, out ++ num8 curves.length, by first | rfl | (simp [num8_len]; done), by first | rfl | go_num, by omega, by omega, rfl, by have h := HLB2.out 0; rw [List.take_zero, List.flatMap_nil, List.append_nil, ← HQ1.out] at h; exact h, HO3, Lib.hid (by rw [HQ1.out]; simp)⟩
          case round =>
            clear HO3
            obtain ⟨k, e, r, c, out, rfl, rfl, hk, hkx, rfl, hol, HO, HQ⟩ := hrel
            have hes := e.h.size
            by_cases hlt : k < curves.length
            · have hk1 : (0 : Int) ≤ (k : Int) := by omega
              have hk2 : (k : Int) < curves.length := by omega
              have HQ2 : Hid (out ++ (fun c : Cv => curveB8 c.p) (curves.getD k default) = num8 code.length ++ code.flatMap Ins.by8 ++ num8 types.length ++ types.flatMap Fx.by8 ++ num8 curves.length ++ (curves.take (k + 1)).flatMap (fun c : Cv => curveB8 c.p)) := Lib.hid (by rw [HQ.out, flat_take (fun c : Cv => curveB8 c.p) hlt, List.append_assoc])
              have hbd : out.length + ((fun c : Cv => curveB8 c.p) (curves.getD k default)).length ≤ 10000000000 := by rw [← List.length_append, HQ2.out]; exact HLB2.out _
              obtain ⟨bX, off, rfl, hb, hc⟩ := HS3.out.at_ hlt
              have hc0 : W1.cell? ⟨bX, off + k * 2, none⟩ = some (.slice (curves.getD k default).rx (curves.getD k default).X.length (curves.getD k default).cx) := hc 0 _ rfl
              have hc1 : W1.cell? ⟨bX, off + k * 2 + 1, none⟩ = some (.slice (curves.getD k default).ry (curves.getD k default).Y.length (curves.getD k default).cy) := hc 1 _ rfl
              clear hc
              obtain ⟨hoX, hoY⟩ := HG3.out _ (getD_mem_of hlt)
              generalize curves.getD k default = x at *
              obtain ⟨xr, xc, X, yr, yc, Y⟩ := x
              simp only at hc0 hc1 hoX hoY
              simp only [curveB8, Cv.p, List.length_append, list8_len] at hbd
              have HQ3 : Hid ((out ++ list8 X) ++ list8 Y = num8 code.length ++ code.flatMap Ins.by8 ++ num8 types.length ++ types.flatMap Fx.by8 ++ num8 curves.length ++ (curves.take (k + 1)).flatMap (fun c : Cv => curveB8 c.p)) := Lib.hid (by rw [List.append_assoc]; exact HQ2.out)
              have HXY := Lib.hid (And.intro hoX hoY)
              clear hoX hoY
              have es := hes
              have tk0 : True := trivial
              have tk1 : True := trivial
              have tk2 : True := trivial
              have tk3 : True := trivial
              go_wp2_with (first | (have _t := tk0; go_at_call 49; refine (rlist_any xr xc X _ (HXY.out.1.later e.h) (by omega)).mono ?_; rintro _ waA ⟨raA, caA, rfl, hoaA, hbaA⟩; have HOaA := Lib.hid (ints_b hoaA (list8_byte _)); clear hoaA tk0 _t; have hbaAs := hbaA.size) | (have _t := tk1; at_builtin; refine wpList_append_ks Try.underlying29 infoU8 rfl (by omega) (by rfl) _ _ (by rfl) W1.heap.size r raA c caA out (list8 X) (by rfl) (by rfl) (HO.out.below hbaA (Nat.le_refl _)) HOaA.out (by rw [list8_len]; omega) (by omega) ?_; intro rA cA wA hownA hbwA; obtain ⟨oA, hoA⟩ : ∃ l, l = out ++ (list8 X) := ⟨_, rfl⟩; rw [← hoA] at hownA ⊢; have HQA := Lib.hid hoA; have hlenA : oA.length = out.length + (list8 X).length := (by rw [hoA, List.length_append]); rw [list8_len] at hlenA; have holA : oA.length ≤ 10000000000 := (by omega); have HOA := Lib.hid hownA; have HLnA := Lib.hid hlenA; clear hownA hoA hlenA tk1 _t; obtain ⟨eA, hweA⟩ : ∃ e2 : Later W1, wA = e2.w := ⟨⟨wA, (e.h.trans (hbaA.mono es)).trans hbwA⟩, rfl⟩; subst hweA; have eAs := eA.h.size) | (have _t := tk2; go_at_call 49; refine (rlist_any yr yc Y _ (HXY.out.2.later eA.h) (by omega)).mono ?_; rintro _ waB ⟨raB, caB, rfl, hoaB, hbaB⟩; have HOaB := Lib.hid (ints_b hoaB (list8_byte _)); clear hoaB tk2 _t; have hbaBs := hbaB.size) | (have _t := tk3; at_builtin; refine wpList_append_ks Try.underlying29 infoU8 rfl (by omega) (by rfl) _ _ (by rfl) W1.heap.size rA raB cA caB oA (list8 Y) (by rfl) (by rfl) (HOA.out.below hbaB (Nat.le_refl _)) HOaB.out (by rw [list8_len]; omega) (by omega) ?_; intro rB cB wB hownB hbwB; obtain ⟨oB, hoB⟩ : ∃ l, l = oA ++ (list8 Y) := ⟨_, rfl⟩; rw [← hoB] at hownB ⊢; have HQB := Lib.hid hoB; have hlenB : oB.length = oA.length + (list8 Y).length := (by rw [hoB, List.length_append]); rw [list8_len] at hlenB; have holB : oB.length ≤ 10000000000 := (by have hhA := HLnA.out; omega); have HOB := Lib.hid hownB; have HLnB := Lib.hid hlenB; clear hownB hoB hlenB tk3 _t; obtain ⟨eB, hweB⟩ : ∃ e2 : Later W1, wB = e2.w := ⟨⟨wB, (eA.h.trans (hbaB.mono eAs)).trans hbwB⟩, rfl⟩; subst hweB; have eBs := eB.h.size))
              go_roundg (curves.length - (k + 1))
              case measure => omega
              case rel => exact ⟨k + 1, eB, rB, cB, oB, rfl, by go_num, by omega, by omega, rfl, holB, HOB, Lib.hid (by rw [HQB.out, HQA.out]; exact HQ3.out)⟩
            · obtain rfl : k = curves.length := by omega
              have HQ1 : Hid (out = num8 code.length ++ code.flatMap Ins.by8 ++ num8 types.length ++ types.flatMap Fx.by8 ++ num8 curves.length ++ curves.flatMap (fun c => curveB8 c.p)) := Lib.hid (by rw [HQ.out, List.take_length])
              clear HQ hkx hlt hk HLB2
              go_wp2_with (first | (go_at_call 46; refine (rnum_any _ hn4 _).mono ?_; rintro _ w2 ⟨r2, c2, rfl, ho2, hb2⟩; have HO2 := Lib.hid (ints8 ho2); clear ho2; have hb2s := hb2.size) | (at_builtin; refine wpList_append_ks Try.underlying29 infoU8 rfl (by omega) (by rfl) _ _ (by rfl) W1.heap.size r r2 c c2 out (num8 maps.length) (by rfl) (by rfl) (HO.out.below hb2 (Nat.le_refl _)) HO2.out (by rw [num8_len]; omega) (by omega) ?_; intro r3 c3 w3 hown3 hbw3))
              have HO3 := Lib.hid hown3
              have hbe3 := (e.h.trans (hb2.mono hes)).trans hbw3
              have hb3s := hbe3.size
              clear hown3
              have HLB3 : Hid (∀ k, (num8 code.length ++ code.flatMap Ins.by8 ++ num8 types.length ++ types.flatMap Fx.by8 ++ num8 curves.length ++ curves.flatMap (fun c => curveB8 c.p) ++ num8 maps.length ++ (maps.take k).flatMap (fun m : Mp => mapB8 m.p)).length ≤ 10000000000) := Lib.hid (fun k => by have := flat_le (fun m : Mp => mapB8 m.p) maps k; simp only [List.length_append, num8_len]; omega)
              go_loopg [3, 10] maps.length (fun kx s3 s10 wr => ∃ (k : Nat) (e : Later W1) (r : Option Addr) (c : Nat) (out : List Int), s3 = .slice r out.length c ∧ s10 = .int .i64 k ∧ k ≤ maps.length ∧ maps.length - k ≤ kx ∧ wr = e.w ∧ out.length ≤ 10000000000 ∧ Hid (OwnK .u8 5 e.w W1.heap.size r c out) ∧ Hid (out = num8 code.length ++ code.flatMap Ins.by8 ++ num8 types.length ++ types.flatMap Fx.by8 ++ num8 curves.length ++ curves.flatMap (fun c => curveB8 c.p) ++ num8 maps.length ++ (maps.take k).flatMap (fun m : Mp => mapB8 m.p)))
              case atStart => exact ⟨0, ⟨w3, hbe3⟩, r3, c3, out ++ num8 maps.length, by first | rfl | (simp [num8_len]; done), by first | rfl | go_num, by omega, by omega, rfl, by have h := HLB3.out 0; rw [List.take_zero, List.flatMap_nil, List.append_nil, ← HQ1.out] at h; exact h, HO3, Lib.hid (by rw [HQ1.out]; simp)⟩
              case round =>
                clear HO3
                obtain ⟨k, e, r, c, out, rfl, rfl, hk, hkx, rfl, hol, HO, HQ⟩ := hrel
                have hes := e.h.size
                by_cases hlt : k < maps.length
                · have hk1 : (0 : Int) ≤ (k : Int) := by omega
                  have hk2 : (k : Int) < maps.length := by omega
                  have HQ2 : Hid (out ++ (fun m : Mp => mapB8 m.p) (maps.getD k default) = num8 code.length ++ code.flatMap Ins.by8 ++ num8 types.length ++ types.flatMap Fx.by8 ++ num8 curves.length ++ curves.flatMap (fun c => curveB8 c.p) ++ num8 maps.length ++ (maps.take (k + 1)).flatMap (fun m : Mp => mapB8 m.p)) := Lib.hid (by rw [HQ.out, flat_take (fun m : Mp => mapB8 m.p) hlt, List.append_assoc])
                  have hbd : out.length + ((fun m : Mp => mapB8 m.p) (maps.getD k default)).length ≤ 10000000000 := by rw [← List.length_append, HQ2.out]; exact HLB3.out _
                  obtain ⟨bX, off, rfl, hb, hc⟩ := HS4.out.at_ hlt
                  have hc0 : W1.cell? ⟨bX, off + k * 3, none⟩ = some (.slice (maps.getD k default).rx (maps.getD k default).X.length (maps.getD k default).cx) := hc 0 _ rfl
                  have hc1 : W1.cell? ⟨bX, off + k * 3 + 1, none⟩ = some (.slice (maps.getD k default).ry (maps.getD k default).Y.length (maps.getD k default).cy) := hc 1 _ rfl
                  have hc2 : W1.cell? ⟨bX, off + k * 3 + 2, none⟩ = some (.slice (maps.getD k default).rz (maps.getD k default).Z.length (maps.getD k default).cz) := hc 2 _ rfl
                  clear hc
                  obtain ⟨hoX, hoY, hoZ⟩ := HG4.out _ (getD_mem_of hlt)
                  generalize maps.getD k default = x at *
                  obtain ⟨xr, xc, X, yr, yc, Y, zr, zc, Z⟩ := x
                  simp only at hc0 hc1 hc2 hoX hoY hoZ
                  simp only [mapB8, Mp.p, List.length_append, list8_len] at hbd
                  have HQ3 : Hid (((out ++ list8 X) ++ list8 Y) ++ Z.flatMap list8 = num8 code.length ++ code.flatMap Ins.by8 ++ num8 types.length ++ types.flatMap Fx.by8 ++ num8 curves.length ++ curves.flatMap (fun c => curveB8 c.p) ++ num8 maps.length ++ (maps.take (k + 1)).flatMap (fun m : Mp => mapB8 m.p)) := Lib.hid (by refine Eq.trans ?_ HQ2.out; show _ = out ++ (list8 X ++ list8 Y ++ Z.flatMap list8); simp only [List.append_assoc])
                  have HXY := Lib.hid (And.intro hoX (And.intro hoY hoZ))
                  have hzl := Nat.le_trans hoZ.le hoZ.max
                  unfold maxLen at hzl
                  clear hoX hoY hoZ
                  have es := hes
                  have tk0 : True := trivial
                  have tk1 : True := trivial
                  have tk2 : True := trivial
                  have tk3 : True := trivial
                  go_wp2_with (first | (have _t := tk0; go_at_call 49; refine (rlist_any xr xc X _ (HXY.out.1.later e.h) (by omega)).mono ?_; rintro _ waA ⟨raA, caA, rfl, hoaA, hbaA⟩; have HOaA := Lib.hid (ints_b hoaA (list8_byte _)); clear hoaA tk0 _t; have hbaAs := hbaA.size) | (have _t := tk1; at_builtin; refine wpList_append_ks Try.underlying29 infoU8 rfl (by omega) (by rfl) _ _ (by rfl) W1.heap.size r raA c caA out (list8 X) (by rfl) (by rfl) (HO.out.below hbaA (Nat.le_refl _)) HOaA.out (by rw [list8_len]; omega) (by omega) ?_; intro rA cA wA hownA hbwA; obtain ⟨oA, hoA⟩ : ∃ l, l = out ++ (list8 X) := ⟨_, rfl⟩; rw [← hoA] at hownA ⊢; have HQA := Lib.hid hoA; have hlenA : oA.length = out.length + (list8 X).length := (by rw [hoA, List.length_append]); rw [list8_len] at hlenA; have holA : oA.length ≤ 10000000000 := (by omega); have HOA := Lib.hid hownA; have HLnA := Lib.hid hlenA; clear hownA hoA hlenA tk1 _t; obtain ⟨eA, hweA⟩ : ∃ e2 : Later W1, wA = e2.w := ⟨⟨wA, (e.h.trans (hbaA.mono es)).trans hbwA⟩, rfl⟩; subst hweA; have eAs := eA.h.size) | (have _t := tk2; go_at_call 49; refine (rlist_any yr yc Y _ (HXY.out.2.1.later eA.h) (by omega)).mono ?_; rintro _ waB ⟨raB, caB, rfl, hoaB, hbaB⟩; have HOaB := Lib.hid (ints_b hoaB (list8_byte _)); clear hoaB tk2 _t; have hbaBs := hbaB.size) | (have _t := tk3; at_builtin; refine wpList_append_ks Try.underlying29 infoU8 rfl (by omega) (by rfl) _ _ (by rfl) W1.heap.size rA raB cA caB oA (list8 Y) (by rfl) (by rfl) (HOA.out.below hbaB (Nat.le_refl _)) HOaB.out (by rw [list8_len]; omega) (by omega) ?_; intro rB cB wB hownB hbwB; obtain ⟨oB, hoB⟩ : ∃ l, l = oA ++ (list8 Y) := ⟨_, rfl⟩; rw [← hoB] at hownB ⊢; have HQB := Lib.hid hoB; have hlenB : oB.length = oA.length + (list8 Y).length := (by rw [hoB, List.length_append]); rw [list8_len] at hlenB; have holB : oB.length ≤ 10000000000 := (by have hhA := HLnA.out; omega); have HOB := Lib.hid hownB; have HLnB := Lib.hid hlenB; clear hownB hoB hlenB tk3 _t; obtain ⟨eB, hweB⟩ : ∃ e2 : Later W1, wB = e2.w := ⟨⟨wB, (eA.h.trans (hbaB.mono eAs)).trans hbwB⟩, rfl⟩; subst hweB; have eBs := eB.h.size))
                  have HLZ : Hid (∀ j, (oB ++ (Z.take j).flatMap list8).length ≤ 10000000000) := Lib.hid (fun j => by
                    have h1 := flat_le list8 Z j
                    have h2 := HLnA.out
                    have h3 := HLnB.out
                    rw [List.length_append]
                    omega)
                  go_loopg [3, 11] Z.length (fun kx s3 s11 wr => ∃ (j : Nat) (e2 : Later W1) (r : Option Addr) (c : Nat) (out2 : List Int), s3 = .slice r out2.length c ∧ s11 = .int .i64 j ∧ j ≤ Z.length ∧ Z.length - j ≤ kx ∧ wr = e2.w ∧ out2.length ≤ 10000000000 ∧ Hid (OwnK .u8 5 e2.w W1.heap.size r c out2) ∧ Hid (out2 = oB ++ (Z.take j).flatMap list8))
                  case atStart => exact ⟨0, eB, rB, cB, oB, rfl, rfl, by omega, by omega, rfl, holB, HOB, Lib.hid (by simp)⟩
                  case round =>
                    clear HOB HOA HO
                    obtain ⟨j, e2, r, c, out2, rfl, rfl, hj, hjx, rfl, hol2, HO2, HQj⟩ := hrel
                    have e2s := e2.h.size
                    by_cases hjl : j < Z.length
                    · have hj1 : (0 : Int) ≤ (j : Int) := by omega
                      have hj2 : (j : Int) < Z.length := by omega
                      obtain ⟨bZ, ofZ, rfl, hbZ, hcZ⟩ := HXY.out.2.2.cells (fun e => by subst e; simp at hjl)
                      obtain ⟨ri, ci, hcz, hzI⟩ := hcZ j hjl
                      clear hcZ
                      have HQn : Hid ((Z.take (j + 1)).flatMap list8 = (Z.take j).flatMap list8 ++ list8 (Z.getD j [])) := Lib.hid (flat_take list8 hjl)
                      have hbd2 : out2.length + (8 + 8 * (Z.getD j []).length) ≤ 10000000000 := by
                        have := HLZ.out (j + 1)
                        rw [HQn.out, ← List.append_assoc, ← HQj.out, List.length_append, list8_len] at this
                        exact this
                      have HZI := Lib.hid hzI
                      clear hzI
                      generalize Z.getD j [] = row at *
                      have tk0 : True := trivial
                      have tk1 : True := trivial
                      go_wp2_with (first | (have _t := tk0; go_at_call 49; refine (rlist_any ri ci row _ (HZI.out.later e2.h) (by omega)).mono ?_; rintro _ waD ⟨raD, caD, rfl, hoaD, hbaD⟩; have HOaD := Lib.hid (ints_b hoaD (list8_byte _)); clear hoaD tk0 _t; have hbaDs := hbaD.size) | (have _t := tk1; at_builtin; refine wpList_append_ks Try.underlying29 infoU8 rfl (by omega) (by rfl) _ _ (by rfl) W1.heap.size r raD c caD out2 (list8 row) (by rfl) (by rfl) (HO2.out.below hbaD (Nat.le_refl _)) HOaD.out (by rw [list8_len]; omega) (by omega) ?_; intro rD cD wD hownD hbwD; obtain ⟨oD, hoD⟩ : ∃ l, l = out2 ++ (list8 row) := ⟨_, rfl⟩; rw [← hoD] at hownD ⊢; have HQD := Lib.hid hoD; have hlenD : oD.length = out2.length + (list8 row).length := (by rw [hoD, List.length_append]); rw [list8_len] at hlenD; have holD : oD.length ≤ 10000000000 := (by omega); have HOD := Lib.hid hownD; have HLnD := Lib.hid hlenD; clear hownD hoD hlenD tk1 _t; obtain ⟨eD, hweD⟩ : ∃ e2 : Later W1, wD = e2.w := ⟨⟨wD, (e2.h.trans (hbaD.mono e2s)).trans hbwD⟩, rfl⟩; subst hweD; have eDs := eD.h.size))
                      go_roundg (Z.length - (j + 1))
                      case measure => omega
                      case rel => exact ⟨j + 1, eD, rD, cD, oD, rfl, by go_num, by omega, by omega, rfl, holD, HOD, Lib.hid (by rw [HQD.out, HQj.out, HQn.out, List.append_assoc])⟩
                    · obtain rfl : j = Z.length := by omega
                      have HQe : Hid (out2 = oB ++ Z.flatMap list8) := Lib.hid (by rw [HQj.out, List.take_length])
                      clear HQj HLZ
                      go_wp2
                      go_roundg (maps.length - (k + 1))
                      case measure => omega
                      case rel => exact ⟨k + 1, e2, r, c, out2, rfl, by go_num, by omega, by omega, rfl, hol2, HO2, Lib.hid (by rw [HQe.out, HQB.out, HQA.out]; exact HQ3.out)⟩
                · obtain rfl : k = maps.length := by omega
                  have HQ1 : Hid (out = num8 code.length ++ code.flatMap Ins.by8 ++ num8 types.length ++ types.flatMap Fx.by8 ++ num8 curves.length ++ curves.flatMap (fun c => curveB8 c.p) ++ num8 maps.length ++ maps.flatMap (fun m => mapB8 m.p)) := Lib.hid (by rw [HQ.out, List.take_length])
                  clear HQ hkx hlt hk HLB3
                  have HLnO : Hid (out.length = 8 + (code.flatMap Ins.by8).length + 8 + (types.flatMap Fx.by8).length + 8 + (curves.flatMap (fun c => curveB8 c.p)).length + 8 + (maps.flatMap (fun m => mapB8 m.p)).length) := Lib.hid (by rw [HQ1.out]; simp only [List.length_append, num8_len])
                  have es := hes
                  have tk0 : True := trivial
                  have tk1 : True := trivial
                  have tk2 : True := trivial
                  have tk3 : True := trivial
                  have tk4 : True := trivial
                  have tk5 : True := trivial
                  have tk6 : True := trivial
                  have tk7 : True := trivial
                  have tk8 : True := trivial
                  have tk9 : True := trivial
                  go_wp2_with (first | (have _t := tk0; go_at_call 46; refine (rnum_any cells hcl _).mono ?_; rintro _ waT0 ⟨raT0, caT0, rfl, hoaT0, hbaT0⟩; have HOaT0 := Lib.hid (ints_b hoaT0 (num8_byte _)); clear hoaT0 tk0 _t; have hbaT0s := hbaT0.size) | (have _t := tk1; at_builtin; refine wpList_append_ks Try.underlying29 infoU8 rfl (by omega) (by rfl) _ _ (by rfl) W1.heap.size r raT0 c caT0 out (num8 cells) (by rfl) (by rfl) (HO.out.below hbaT0 (Nat.le_refl _)) HOaT0.out (by rw [num8_len]; omega) (by omega) ?_; intro rT0 cT0 wT0 hownT0 hbwT0; obtain ⟨oT0, hoT0⟩ : ∃ l, l = out ++ (num8 cells) := ⟨_, rfl⟩; rw [← hoT0] at hownT0 ⊢; have HQT0 := Lib.hid hoT0; have hlenT0 : oT0.length = out.length + (num8 cells).length := (by rw [hoT0, List.length_append]); rw [num8_len] at hlenT0; have holT0 : oT0.length ≤ 10000000000 := (by have hhO := HLnO.out; omega); have HOT0 := Lib.hid hownT0; have HLnT0 := Lib.hid hlenT0; clear hownT0 hoT0 hlenT0 tk1 _t; obtain ⟨eT0, hweT0⟩ : ∃ e2 : Later W1, wT0 = e2.w := ⟨⟨wT0, (e.h.trans (hbaT0.mono es)).trans hbwT0⟩, rfl⟩; subst hweT0; have eT0s := eT0.h.size) | (have _t := tk2; go_at_call 49; refine (rlist_any ri ci inputs _ (HI1.out.later eT0.h) (by omega)).mono ?_; rintro _ waT1 ⟨raT1, caT1, rfl, hoaT1, hbaT1⟩; have HOaT1 := Lib.hid (ints_b hoaT1 (list8_byte _)); clear hoaT1 tk2 _t; have hbaT1s := hbaT1.size) | (have _t := tk3; at_builtin; refine wpList_append_ks Try.underlying29 infoU8 rfl (by omega) (by rfl) _ _ (by rfl) W1.heap.size rT0 raT1 cT0 caT1 oT0 (list8 inputs) (by rfl) (by rfl) (HOT0.out.below hbaT1 (Nat.le_refl _)) HOaT1.out (by rw [list8_len]; omega) (by omega) ?_; intro rT1 cT1 wT1 hownT1 hbwT1; obtain ⟨oT1, hoT1⟩ : ∃ l, l = oT0 ++ (list8 inputs) := ⟨_, rfl⟩; rw [← hoT1] at hownT1 ⊢; have HQT1 := Lib.hid hoT1; have hlenT1 : oT1.length = oT0.length + (list8 inputs).length := (by rw [hoT1, List.length_append]); rw [list8_len] at hlenT1; have holT1 : oT1.length ≤ 10000000000 := (by have hhO := HLnO.out; have hhT0 := HLnT0.out; omega); have HOT1 := Lib.hid hownT1; have HLnT1 := Lib.hid hlenT1; clear hownT1 hoT1 hlenT1 tk3 _t; obtain ⟨eT1, hweT1⟩ : ∃ e2 : Later W1, wT1 = e2.w := ⟨⟨wT1, (eT0.h.trans (hbaT1.mono eT0s)).trans hbwT1⟩, rfl⟩; subst hweT1; have eT1s := eT1.h.size) | (have _t := tk4; go_at_call 49; refine (rlist_any rs cs states _ (HI2.out.later eT1.h) (by omega)).mono ?_; rintro _ waT2 ⟨raT2, caT2, rfl, hoaT2, hbaT2⟩; have HOaT2 := Lib.hid (ints_b hoaT2 (list8_byte _)); clear hoaT2 tk4 _t; have hbaT2s := hbaT2.size) | (have _t := tk5; at_builtin; refine wpList_append_ks Try.underlying29 infoU8 rfl (by omega) (by rfl) _ _ (by rfl) W1.heap.size rT1 raT2 cT1 caT2 oT1 (list8 states) (by rfl) (by rfl) (HOT1.out.below hbaT2 (Nat.le_refl _)) HOaT2.out (by rw [list8_len]; omega) (by omega) ?_; intro rT2 cT2 wT2 hownT2 hbwT2; obtain ⟨oT2, hoT2⟩ : ∃ l, l = oT1 ++ (list8 states) := ⟨_, rfl⟩; rw [← hoT2] at hownT2 ⊢; have HQT2 := Lib.hid hoT2; have hlenT2 : oT2.length = oT1.length + (list8 states).length := (by rw [hoT2, List.length_append]); rw [list8_len] at hlenT2; have holT2 : oT2.length ≤ 10000000000 := (by have hhO := HLnO.out; have hhT0 := HLnT0.out; have hhT1 := HLnT1.out; omega); have HOT2 := Lib.hid hownT2; have HLnT2 := Lib.hid hlenT2; clear hownT2 hoT2 hlenT2 tk5 _t; obtain ⟨eT2, hweT2⟩ : ∃ e2 : Later W1, wT2 = e2.w := ⟨⟨wT2, (eT1.h.trans (hbaT2.mono eT1s)).trans hbwT2⟩, rfl⟩; subst hweT2; have eT2s := eT2.h.size) | (have _t := tk6; go_at_call 49; refine (rlist_any ro co outputs _ (HI3.out.later eT2.h) (by omega)).mono ?_; rintro _ waT3 ⟨raT3, caT3, rfl, hoaT3, hbaT3⟩; have HOaT3 := Lib.hid (ints_b hoaT3 (list8_byte _)); clear hoaT3 tk6 _t; have hbaT3s := hbaT3.size) | (have _t := tk7; at_builtin; refine wpList_append_ks Try.underlying29 infoU8 rfl (by omega) (by rfl) _ _ (by rfl) W1.heap.size rT2 raT3 cT2 caT3 oT2 (list8 outputs) (by rfl) (by rfl) (HOT2.out.below hbaT3 (Nat.le_refl _)) HOaT3.out (by rw [list8_len]; omega) (by omega) ?_; intro rT3 cT3 wT3 hownT3 hbwT3; obtain ⟨oT3, hoT3⟩ : ∃ l, l = oT2 ++ (list8 outputs) := ⟨_, rfl⟩; rw [← hoT3] at hownT3 ⊢; have HQT3 := Lib.hid hoT3; have hlenT3 : oT3.length = oT2.length + (list8 outputs).length := (by rw [hoT3, List.length_append]); rw [list8_len] at hlenT3; have holT3 : oT3.length ≤ 10000000000 := (by have hhO := HLnO.out; have hhT0 := HLnT0.out; have hhT1 := HLnT1.out; have hhT2 := HLnT2.out; omega); have HOT3 := Lib.hid hownT3; have HLnT3 := Lib.hid hlenT3; clear hownT3 hoT3 hlenT3 tk7 _t; obtain ⟨eT3, hweT3⟩ : ∃ e2 : Later W1, wT3 = e2.w := ⟨⟨wT3, (eT2.h.trans (hbaT3.mono eT2s)).trans hbwT3⟩, rfl⟩; subst hweT3; have eT3s := eT3.h.size) | (have _t := tk8; go_at_call 49; refine (rlist_any rn cn initial _ (HI4.out.later eT3.h) (by omega)).mono ?_; rintro _ waT4 ⟨raT4, caT4, rfl, hoaT4, hbaT4⟩; have HOaT4 := Lib.hid (ints_b hoaT4 (list8_byte _)); clear hoaT4 tk8 _t; have hbaT4s := hbaT4.size) | (have _t := tk9; at_builtin; refine wpList_append_ks Try.underlying29 infoU8 rfl (by omega) (by rfl) _ _ (by rfl) W1.heap.size rT3 raT4 cT3 caT4 oT3 (list8 initial) (by rfl) (by rfl) (HOT3.out.below hbaT4 (Nat.le_refl _)) HOaT4.out (by rw [list8_len]; omega) (by omega) ?_; intro rT4 cT4 wT4 hownT4 hbwT4; obtain ⟨oT4, hoT4⟩ : ∃ l, l = oT3 ++ (list8 initial) := ⟨_, rfl⟩; rw [← hoT4] at hownT4 ⊢; have HQT4 := Lib.hid hoT4; have hlenT4 : oT4.length = oT3.length + (list8 initial).length := (by rw [hoT4, List.length_append]); rw [list8_len] at hlenT4; have holT4 : oT4.length ≤ 10000000000 := (by have hhO := HLnO.out; have hhT0 := HLnT0.out; have hhT1 := HLnT1.out; have hhT2 := HLnT2.out; have hhT3 := HLnT3.out; omega); have HOT4 := Lib.hid hownT4; have HLnT4 := Lib.hid hlenT4; clear hownT4 hoT4 hlenT4 tk9 _t; obtain ⟨eT4, hweT4⟩ : ∃ e2 : Later W1, wT4 = e2.w := ⟨⟨wT4, (eT3.h.trans (hbaT4.mono eT3s)).trans hbwT4⟩, rfl⟩; subst hweT4; have eT4s := eT4.h.size))
                  go_ret
                  have he : oT4 = res := by rw [HQT4.out, HQT3.out, HQT2.out, HQT1.out, HQT0.out, HQ1.out, HE.out]
                  subst he
                  exact ⟨rT4, cT4, rfl, HOT4.out.base (by omega), hB1.trans (eT4.h.mono (by omega))⟩
end Go.Proofs.Ytfooefiaenlhmaa
namespace Go.Proofs.Ytfooefiaenlhmaa
set_option linter.unusedVariables false
set_option linter.unusedSimpArgs false
open Go.RowKit Go.ChangeShapes Go.WideShapes Go.ChangeAt

set_option maxRecDepth 100000 in
set_option maxHeartbeats 4000000 in
theorem menc_any (op a b c k : Int) (hk : I64 k) (hf : formB op a b c k = true) (w : World) : Calls Try.prog 73 #[.agg #[.int .i64 op, .int .i64 a, .int .i64 b, .int .i64 c, .int .i64 k]] w fun e w' => ∃ ro co, e = .returned (.tuple #[.slice ro 12 co, .int .i64 0]) ∧ OwnK .u8 5 w' w.heap.size ro co (encI op a b c k) ∧ Below w.heap.size w w' := by
  have HFM := Lib.hid (fun W => formed_v hk hf W)
  have HO : Hid (∀ v : World, OwnK .u8 5 (v.alloc (.cells #[.int .u8 (op % 256), .int .u8 (a % 256), .int .u8 (b % 256), .int .u8 (c % 256)] 5)) v.heap.size (some ⟨v.heap.size, 0, none⟩) 4 [op % 256, a % 256, b % 256, c % 256]) := Lib.hid (fun v => own_built .u8 5 v v.heap.size [op % 256, a % 256, b % 256, c % 256] (Nat.le_refl _) (by simp [maxLen]))
  go_enter Try.func73, Try.ntmps73
  go_wp2_with (first | (go_at_call 105; refine (HFM.out _).mono ?_; rintro _ w1 ⟨rfl, hb1⟩; obtain ⟨hb1c, hb1f⟩ := bcell hb1; have hb1s := hb1.size; (try simp only [World.size_alloc] at hb1s); have hx1 : w.heap.size < w1.heap.size := (by omega)))
  have hB1 : Below w.heap.size w w1 := by (repeat' (first | (with_reducible exact Below.refl _ _) | (with_reducible assumption) | (with_reducible refine below_alloc ?_ _) | (with_reducible refine Below.drew ?_) | (with_reducible refine below_drewN ?_ _) | (with_reducible refine below_step (by assumption) ?_) | (with_reducible refine below_later ?_ _) | (with_reducible refine Below.setCell ?_ ?_ _) | go_size))
  have hc4 : (w1.alloc (.cells #[.int .u8 (op % 256), .int .u8 (a % 256), .int .u8 (b % 256), .int .u8 (c % 256)] 5)).cell? ⟨w.heap.size, 4, none⟩ = some (.int .i64 k) := by
    rw [((Below.refl w1.heap.size w1).alloc (Nat.le_refl _) _).cell (p := ⟨w.heap.size, 4, none⟩) hx1, hb1c _ _ (by simp only [World.size_alloc]; omega)]
    first | go_keep | simp
  have HO2 := Lib.hid (HO.out w1)
  have hz : (w1.alloc (.cells #[.int .u8 (op % 256), .int .u8 (a % 256), .int .u8 (b % 256), .int .u8 (c % 256)] 5)).heap.size = w1.heap.size + 1 := World.size_alloc _ _
  have hB2 : Below w.heap.size w (w1.alloc (.cells #[.int .u8 (op % 256), .int .u8 (a % 256), .int .u8 (b % 256), .int .u8 (c % 256)] 5)) := hB1.alloc (by omega) _
  generalize w1.alloc (.cells #[.int .u8 (op % 256), .int .u8 (a % 256), .int .u8 (b % 256), .int .u8 (c % 256)] 5) = W2 at *
  clear HO HFM hb1c hb1f hb1 hB1
  go_loopg [4, 5] 8 (fun kx s4 s5 wr => ∃ (j : Nat) (r : Option Addr) (co : Nat) (out : List Int) (kk : Int), s4 = .slice r out.length co ∧ s5 = .int .i64 kk ∧ kk = 56 - 8 * (j : Int) ∧ j ≤ 8 ∧ 8 - j ≤ kx ∧ Below w1.heap.size W2 wr ∧ Hid (OwnK .u8 5 wr w1.heap.size r co out) ∧ Hid (out = [op % 256, a % 256, b % 256, c % 256] ++ (num8 k).take j) ∧ Hid (out.length = 4 + j))
  case atStart => exact ⟨0, some ⟨w1.heap.size, 0, none⟩, 4, [op % 256, a % 256, b % 256, c % 256], 56, rfl, by first | rfl | go_num, by omega, by omega, by omega, Below.refl _ _, HO2, Lib.hid (by simp), Lib.hid rfl⟩
  case round =>
    clear HO2
    obtain ⟨j, r, co, out, kk, rfl, rfl, hkk, hj, hkx, hbr, HO, HQ, HL⟩ := hrel
    have hrs := hbr.size
    by_cases hlt : j < 8
    · have hk1 : (0 : Int) ≤ kk := by omega
      have hk2 : IntKind.i64.wrap (kk - 8) = kk - 8 := IntWalk.i64_in _ (by omega)
      have hk4 : min kk.toNat 64 = kk.toNat := by omega
      have hv : IntKind.u8.wrap (IntKind.u64.wrap k / 2 ^ kk.toNat) = byteAt k j := by rw [hkk]; exact shr_byte k hlt
      have HQ2 := Lib.hid (num8_take (n := k) hlt)
      have hol : out.length ≤ 12 := by have := HL.out; omega
      have hc4w : wr.cell? ⟨w.heap.size, 4, none⟩ = some (.int .i64 k) := (hbr.cell (p := ⟨w.heap.size, 4, none⟩) hx1).trans hc4
      have HKK := Lib.hid hkk
      clear hkk hc4
      generalize byteAt k j = x at *
      go_wp2_with (at_builtin; refine wpList_append_k Try.underlying29 infoU8 rfl (by omega) (by rfl) _ _ (by rfl) wr w1.heap.size r co out [x] 1 rfl (by omega) (by rfl) (by rfl) (by rfl) HO.out (by omega) (by omega) ?_; intro r' c' w3 hown1 hbw1)
      have HO1 := Lib.hid hown1
      clear hown1
      go_roundg (8 - (j + 1))
      case measure => omega
      case rel => exact ⟨j + 1, r', c', out ++ [x], kk - 8, by simp, by go_num, by have := HKK.out; omega, by omega, by omega, hbr.trans hbw1, HO1, Lib.hid (by rw [HQ.out, HQ2.out, List.append_assoc]), Lib.hid (by rw [List.length_append, HL.out]; rfl)⟩
    · obtain rfl : j = 8 := by omega
      obtain rfl : kk = -8 := by omega
      go_wp2
      have hol2 : out.length = 12 := HL.out
      refine bodyPost_ret (by simp [results, Try.results73, go_sem, *]; try rfl) rfl ?_
      refine ⟨r, co, by first | rfl | (rw [hol2]; rfl), ?_, hB2.trans (hbr.mono (by omega))⟩
      have := HO.out
      rw [HQ.out] at this
      exact this.base (by omega)
end Go.Proofs.Ytfooefiaenlhmaa
namespace Go.Proofs.Ytfooefiaenlhmaa
set_option linter.unusedVariables false
set_option linter.unusedSimpArgs false
open Go.RowKit Go.ChangeShapes Go.WideShapes Go.ChangeAt

theorem Wr.later {w w' : World} {b : Nat} {xs : List Int} (h : Wr w b xs) (hb : Below w.heap.size w w') : Wr w' b xs := by
  obtain ⟨r, cap, h1, h2, h3, h4⟩ := h
  exact ⟨r, cap, Nat.lt_of_lt_of_le h1 hb.size, (hb.cell (p := ⟨b, 0, none⟩) h1).trans h2, (hb.frozen (p := ⟨b, 0, none⟩) h1).trans h3, h4.below hb (Nat.le_refl _)⟩
theorem wr_put {w2 w3 : World} {b : Nat} {out ys : List Int} {r r' : Option Addr} {c c' : Nat} (hb : b < w2.heap.size) (hc : w2.cell? ⟨b, 0, none⟩ = some (.slice r out.length c)) (hf : w2.frozen? ⟨b, 0, none⟩ = false) (hown : OwnK .u8 5 w3 (b + 1) r' c' (out ++ ys)) (hbw : Below (b + 1) w2 w3) :
    ∀ n, n = (out ++ ys).length → Wr (w3.setCell ⟨b, 0, none⟩ (.slice r' n c')) b (out ++ ys) ∧ Below b w2 (w3.setCell ⟨b, 0, none⟩ (.slice r' n c')) := by
  rintro n rfl
  have hc3 : w3.cell? ⟨b, 0, none⟩ = some (.slice r out.length c) := (hbw.cell (p := ⟨b, 0, none⟩) (Nat.lt_succ_self b)).trans hc
  refine ⟨⟨r', c', ?_, ?_, ?_, hown.set (Nat.lt_succ_self b) _⟩, (hbw.mono (Nat.le_succ b)).setCell (Nat.le_refl b) _⟩
  · rw [World.size_setCell]; exact Nat.lt_of_lt_of_le hb hbw.size
  · rw [World.cell?_setCell_same' _ _ _ (by rw [hc3]; rfl)]
  · rw [World.frozen?_setCell, hbw.frozen (p := ⟨b, 0, none⟩) (Nat.lt_succ_self b)]; exact hf
set_option maxRecDepth 100000 in
set_option maxHeartbeats 16000000 in
theorem ibody_main (rc : Option Addr) (cc : Nat) (code : List Ins) (rt : Option Addr) (ct : Nat) (types : List Fx) (rv : Option Addr) (cv : Nat) (curves : List Cv) (rm : Option Addr) (cm : Nat) (maps : List Mp) (cells : Int) (ri : Option Addr) (ci : Nat) (inputs : List Int) (rs : Option Addr) (cs : Nat) (states : List Int) (ro : Option Addr) (co : Nat) (outputs : List Int) (rn : Option Addr) (cn : Nat) (initial : List Int) (w : World) (hp : IsP w ⟨rc, cc, code, rt, ct, types, rv, cv, curves, rm, cm, maps, cells, ri, ci, inputs, rs, cs, states, ro, co, outputs, rn, cn, initial⟩) (hfm : ∀ i ∈ code, formB i.op i.a i.b i.c i.k = true) (hl : (num8 code.length ++ code.flatMap Ins.by8 ++ num8 types.length ++ types.flatMap Fx.by8 ++ num8 curves.length ++ curves.flatMap (fun c => curveB8 c.p) ++ num8 maps.length ++ maps.flatMap (fun m => mapB8 m.p) ++ num8 cells ++ list8 inputs ++ list8 states ++ list8 outputs ++ list8 initial).length ≤ 10000000000) : Calls Try.prog 36 #[.agg #[.slice rc code.length cc, .slice rt types.length ct, .slice rv curves.length cv, .slice rm maps.length cm, .int .i64 cells, .slice ri inputs.length ci, .slice rs states.length cs, .slice ro outputs.length co, .slice rn initial.length cn]] w fun e w' => ∃ r c out, e = .returned (.slice r out.length c) ∧ OwnK .u8 5 w' w.heap.size r c out ∧ Below w.heap.size w w' ∧ out = num8 code.length ++ code.flatMap Ins.by8 ++ num8 types.length ++ types.flatMap Fx.by8 ++ num8 curves.length ++ curves.flatMap (fun c => curveB8 c.p) ++ num8 maps.length ++ maps.flatMap (fun m => mapB8 m.p) ++ num8 cells ++ list8 inputs ++ list8 states ++ list8 outputs ++ list8 initial := by
  have hs1 := hp.code
  have hg1 := hp.codeG
  have hs2 := hp.types
  have hg2 := hp.typesG
  have hs3 := hp.curves
  have hg3 := hp.curvesG
  have hs4 := hp.maps
  have hg4 := hp.mapsG
  have hcl := hp.cells
  have hi1 := hp.inputs
  have hi2 := hp.states
  have hi3 := hp.outputs
  have hi4 := hp.initial
  simp only at hs1 hg1 hs2 hg2 hs3 hg3 hs4 hg4 hcl hi1 hi2 hi3 hi4
  simp only [List.length_append, num8_len, list8_len] at hl
  have HS1 := Lib.hid hs1
  have HS2 := Lib.hid hs2
  have HS3 := Lib.hid hs3
  have HS4 := Lib.hid hs4
  have HG1 := Lib.hid (fun x hx => And.intro (hg1 x hx) (hfm x hx))
  have HG2 := Lib.hid hg2
  have HG3 := Lib.hid hg3
  have HG4 := Lib.hid hg4
  have HI1 := Lib.hid hi1
  have HI2 := Lib.hid hi2
  have HI3 := Lib.hid hi3
  have HI4 := Lib.hid hi4
  clear hs1 hs2 hs3 hs4 hg1 hg2 hg3 hg4 hi1 hi2 hi3 hi4 hp hfm
  have hmc1 := Nat.le_trans HS1.out.le HS1.out.max
  have hmc2 := Nat.le_trans HS2.out.le HS2.out.max
  have hmc3 := Nat.le_trans HS3.out.le HS3.out.max
  have hmc4 := Nat.le_trans HS4.out.le HS4.out.max
  unfold maxLen at hmc1 hmc2 hmc3 hmc4
  have hn1 : I64 (code.length : Int) := i64_nat (by omega)
  have hn2 : I64 (types.length : Int) := i64_nat (by omega)
  have hn3 : I64 (curves.length : Int) := i64_nat (by omega)
  have hn4 : I64 (maps.length : Int) := i64_nat (by omega)
  have H0 : Hid (Wr ((w.alloc (.cells #[.slice rc code.length cc, .slice rt types.length ct, .slice rv curves.length cv, .slice rm maps.length cm, .int .i64 cells, .slice ri inputs.length ci, .slice rs states.length cs, .slice ro outputs.length co, .slice rn initial.length cn] 28)).alloc (.cells #[.slice none 0 0] 107)) (w.heap.size + 1) []) := Lib.hid ⟨none, 0, by rw [World.size_alloc, World.size_alloc]; omega, by rw [← World.size_alloc w (.cells #[.slice rc code.length cc, .slice rt types.length ct, .slice rv curves.length cv, .slice rm maps.length cm, .int .i64 cells, .slice ri inputs.length ci, .slice rs states.length cs, .slice ro outputs.length co, .slice rn initial.length cn] 28), World.cell?_alloc_new]; rfl, by simp, OwnK.nil _ _⟩
  have hBW : Below w.heap.size w ((w.alloc (.cells #[.slice rc code.length cc, .slice rt types.length ct, .slice rv curves.length cv, .slice rm maps.length cm, .int .i64 cells, .slice ri inputs.length ci, .slice rs states.length cs, .slice ro outputs.length co, .slice rn initial.length cn] 28)).alloc (.cells #[.slice none 0 0] 107)) := ((Below.refl _ _).alloc (Nat.le_refl _) _).alloc (by rw [World.size_alloc]; omega) _
  have hz1 : ((w.alloc (.cells #[.slice rc code.length cc, .slice rt types.length ct, .slice rv curves.length cv, .slice rm maps.length cm, .int .i64 cells, .slice ri inputs.length ci, .slice rs states.length cs, .slice ro outputs.length co, .slice rn initial.length cn] 28)).alloc (.cells #[.slice none 0 0] 107)).heap.size = w.heap.size + 2 := by simp only [World.size_alloc]
  have q0 : ((w.alloc (.cells #[.slice rc code.length cc, .slice rt types.length ct, .slice rv curves.length cv, .slice rm maps.length cm, .int .i64 cells, .slice ri inputs.length ci, .slice rs states.length cs, .slice ro outputs.length co, .slice rn initial.length cn] 28)).alloc (.cells #[.slice none 0 0] 107)).cell? ⟨w.heap.size, 0, none⟩ = some (.slice rc code.length cc) := by first | go_keep | simp
  have q1 : ((w.alloc (.cells #[.slice rc code.length cc, .slice rt types.length ct, .slice rv curves.length cv, .slice rm maps.length cm, .int .i64 cells, .slice ri inputs.length ci, .slice rs states.length cs, .slice ro outputs.length co, .slice rn initial.length cn] 28)).alloc (.cells #[.slice none 0 0] 107)).cell? ⟨w.heap.size, 1, none⟩ = some (.slice rt types.length ct) := by first | go_keep | simp
  have q2 : ((w.alloc (.cells #[.slice rc code.length cc, .slice rt types.length ct, .slice rv curves.length cv, .slice rm maps.length cm, .int .i64 cells, .slice ri inputs.length ci, .slice rs states.length cs, .slice ro outputs.length co, .slice rn initial.length cn] 28)).alloc (.cells #[.slice none 0 0] 107)).cell? ⟨w.heap.size, 2, none⟩ = some (.slice rv curves.length cv) := by first | go_keep | simp
  have q3 : ((w.alloc (.cells #[.slice rc code.length cc, .slice rt types.length ct, .slice rv curves.length cv, .slice rm maps.length cm, .int .i64 cells, .slice ri inputs.length ci, .slice rs states.length cs, .slice ro outputs.length co, .slice rn initial.length cn] 28)).alloc (.cells #[.slice none 0 0] 107)).cell? ⟨w.heap.size, 3, none⟩ = some (.slice rm maps.length cm) := by first | go_keep | simp
  have q4 : ((w.alloc (.cells #[.slice rc code.length cc, .slice rt types.length ct, .slice rv curves.length cv, .slice rm maps.length cm, .int .i64 cells, .slice ri inputs.length ci, .slice rs states.length cs, .slice ro outputs.length co, .slice rn initial.length cn] 28)).alloc (.cells #[.slice none 0 0] 107)).cell? ⟨w.heap.size, 4, none⟩ = some (.int .i64 cells) := by first | go_keep | simp
  have q5 : ((w.alloc (.cells #[.slice rc code.length cc, .slice rt types.length ct, .slice rv curves.length cv, .slice rm maps.length cm, .int .i64 cells, .slice ri inputs.length ci, .slice rs states.length cs, .slice ro outputs.length co, .slice rn initial.length cn] 28)).alloc (.cells #[.slice none 0 0] 107)).cell? ⟨w.heap.size, 5, none⟩ = some (.slice ri inputs.length ci) := by first | go_keep | simp
  have q6 : ((w.alloc (.cells #[.slice rc code.length cc, .slice rt types.length ct, .slice rv curves.length cv, .slice rm maps.length cm, .int .i64 cells, .slice ri inputs.length ci, .slice rs states.length cs, .slice ro outputs.length co, .slice rn initial.length cn] 28)).alloc (.cells #[.slice none 0 0] 107)).cell? ⟨w.heap.size, 6, none⟩ = some (.slice rs states.length cs) := by first | go_keep | simp
  have q7 : ((w.alloc (.cells #[.slice rc code.length cc, .slice rt types.length ct, .slice rv curves.length cv, .slice rm maps.length cm, .int .i64 cells, .slice ri inputs.length ci, .slice rs states.length cs, .slice ro outputs.length co, .slice rn initial.length cn] 28)).alloc (.cells #[.slice none 0 0] 107)).cell? ⟨w.heap.size, 7, none⟩ = some (.slice ro outputs.length co) := by first | go_keep | simp
  have q8 : ((w.alloc (.cells #[.slice rc code.length cc, .slice rt types.length ct, .slice rv curves.length cv, .slice rm maps.length cm, .int .i64 cells, .slice ri inputs.length ci, .slice rs states.length cs, .slice ro outputs.length co, .slice rn initial.length cn] 28)).alloc (.cells #[.slice none 0 0] 107)).cell? ⟨w.heap.size, 8, none⟩ = some (.slice rn initial.length cn) := by first | go_keep | simp
  go_enter Try.func36, Try.ntmps36
  go_wp2_with (go_at_call 72; refine (wint_any (w.heap.size + 1) _ [] _ H0.out (by simp)).mono ?_; rintro x v1 ⟨rfl, hw1, hb1, hk1⟩; have HW1 := Lib.hid hw1; clear hw1 hk1; have y0 := (hb1.cell (p := ⟨w.heap.size, 0, none⟩) (Nat.lt_succ_self _)).trans q0)
  have hB1 : Below (w.heap.size + 1) ((w.alloc (.cells #[.slice rc code.length cc, .slice rt types.length ct, .slice rv curves.length cv, .slice rm maps.length cm, .int .i64 cells, .slice ri inputs.length ci, .slice rs states.length cs, .slice ro outputs.length co, .slice rn initial.length cn] 28)).alloc (.cells #[.slice none 0 0] 107)) v1 := hb1
  generalize (w.alloc (.cells #[.slice rc code.length cc, .slice rt types.length ct, .slice rv curves.length cv, .slice rm maps.length cm, .int .i64 cells, .slice ri inputs.length ci, .slice rs states.length cs, .slice ro outputs.length co, .slice rn initial.length cn] 28)).alloc (.cells #[.slice none 0 0] 107) = W1 at *
  clear H0 hb1
  have HLB0 : Hid (∀ k, (num8 code.length ++ (code.take k).flatMap Ins.by8).length ≤ 10000000000) := Lib.hid (fun k => by have := flat_le Ins.by8 code k; simp only [List.length_append, num8_len]; omega)
  go_loopg [31] code.length (fun kx s31 wr => ∃ (k : Nat) (out : List Int), s31 = .int .i64 k ∧ k ≤ code.length ∧ code.length - k ≤ kx ∧ Below (w.heap.size + 1) W1 wr ∧ Hid (Wr wr (w.heap.size + 1) out) ∧ Hid (out = num8 code.length ++ (code.take k).flatMap Ins.by8))
  case atStart => exact ⟨0, num8 code.length, rfl, by omega, by omega, hB1, HW1, Lib.hid (by simp)⟩
  case round =>
    obtain ⟨k, out, rfl, hk, hkx, hBr, HW, HQ⟩ := hrel
    have hBs := hBr.size
    have hbR : Below w.heap.size w wr := hBW.trans (hBr.mono (Nat.le_succ _))
    have hbRs := hbR.size
    have u0 : wr.cell? ⟨w.heap.size, 0, none⟩ = some (.slice rc code.length cc) := (hBr.cell (p := ⟨w.heap.size, 0, none⟩) (Nat.lt_succ_self _)).trans q0
    have u1 : wr.cell? ⟨w.heap.size, 1, none⟩ = some (.slice rt types.length ct) := (hBr.cell (p := ⟨w.heap.size, 1, none⟩) (Nat.lt_succ_self _)).trans q1
    have u2 : wr.cell? ⟨w.heap.size, 2, none⟩ = some (.slice rv curves.length cv) := (hBr.cell (p := ⟨w.heap.size, 2, none⟩) (Nat.lt_succ_self _)).trans q2
    have u3 : wr.cell? ⟨w.heap.size, 3, none⟩ = some (.slice rm maps.length cm) := (hBr.cell (p := ⟨w.heap.size, 3, none⟩) (Nat.lt_succ_self _)).trans q3
    have u4 : wr.cell? ⟨w.heap.size, 4, none⟩ = some (.int .i64 cells) := (hBr.cell (p := ⟨w.heap.size, 4, none⟩) (Nat.lt_succ_self _)).trans q4
    have u5 : wr.cell? ⟨w.heap.size, 5, none⟩ = some (.slice ri inputs.length ci) := (hBr.cell (p := ⟨w.heap.size, 5, none⟩) (Nat.lt_succ_self _)).trans q5
    have u6 : wr.cell? ⟨w.heap.size, 6, none⟩ = some (.slice rs states.length cs) := (hBr.cell (p := ⟨w.heap.size, 6, none⟩) (Nat.lt_succ_self _)).trans q6
    have u7 : wr.cell? ⟨w.heap.size, 7, none⟩ = some (.slice ro outputs.length co) := (hBr.cell (p := ⟨w.heap.size, 7, none⟩) (Nat.lt_succ_self _)).trans q7
    have u8 : wr.cell? ⟨w.heap.size, 8, none⟩ = some (.slice rn initial.length cn) := (hBr.cell (p := ⟨w.heap.size, 8, none⟩) (Nat.lt_succ_self _)).trans q8
    by_cases hlt : k < code.length
    · have hk1 : (0 : Int) ≤ (k : Int) := by omega
      have hk2 : (k : Int) < code.length := by omega
      have HQ2 : Hid (out ++ Ins.by8 (code.getD k default) = num8 code.length ++ (code.take (k + 1)).flatMap Ins.by8) := Lib.hid (by rw [HQ.out, flat_take Ins.by8 hlt, List.append_assoc])
      have hbd : out.length + (Ins.by8 (code.getD k default)).length ≤ 10000000000 := by rw [← List.length_append, HQ2.out]; exact HLB0.out _
      obtain ⟨bX, off, rfl, hb, hc⟩ := HS1.out.at_ hlt
      have hc0 : wr.cell? ⟨bX, off + k * 5, none⟩ = some (.int .i64 (code.getD k default).op) := (hbR.cell (p := ⟨bX, off + k * 5, none⟩) hb).trans (hc 0 _ rfl)
      have hc1 : wr.cell? ⟨bX, off + k * 5 + 1, none⟩ = some (.int .i64 (code.getD k default).a) := (hbR.cell (p := ⟨bX, off + k * 5 + 1, none⟩) hb).trans (hc 1 _ rfl)
      have hc2 : wr.cell? ⟨bX, off + k * 5 + 2, none⟩ = some (.int .i64 (code.getD k default).b) := (hbR.cell (p := ⟨bX, off + k * 5 + 2, none⟩) hb).trans (hc 2 _ rfl)
      have hc3 : wr.cell? ⟨bX, off + k * 5 + 3, none⟩ = some (.int .i64 (code.getD k default).c) := (hbR.cell (p := ⟨bX, off + k * 5 + 3, none⟩) hb).trans (hc 3 _ rfl)
      have hc4 : wr.cell? ⟨bX, off + k * 5 + 4, none⟩ = some (.int .i64 (code.getD k default).k) := (hbR.cell (p := ⟨bX, off + k * 5 + 4, none⟩) hb).trans (hc 4 _ rfl)
      clear hc
      obtain ⟨hok, hform⟩ := HG1.out _ (getD_mem_of hlt)
      generalize code.getD k default = x at *
      obtain ⟨xo, xa, xb, xc, xk⟩ := x
      simp only at hc0 hc1 hc2 hc3 hc4
      have hbd2 : out.length + 12 ≤ 10000000000 := hbd
      have HEN := Lib.hid (fun W => menc_any xo xa xb xc xk hok.2.2.2.2 hform W)
      clear hok hform
      go_wp2_with (first | (go_at_call 73; refine (HEN.out _).mono ?_; rintro _ w2 ⟨r2, c2, rfl, ho2, hb2⟩; have HO2 := Lib.hid (ints_b ho2 (encI_byte _ _ _ _ _)); clear ho2; obtain ⟨rw2, cw2, hw2b, hw2c, hw2f, hw2o⟩ := (HW.out.new (.cells #[.int .i64 xo, .int .i64 xa, .int .i64 xb, .int .i64 xc, .int .i64 xk] 50)).1.later hb2; have HWO := Lib.hid hw2o; clear hw2o; have hB2 : Below (w.heap.size + 1) W1 w2 := (hBr.trans (((Below.refl _ _).alloc (Nat.le_refl _) _).mono (by omega))).trans (hb2.mono (by simp only [World.size_alloc]; omega))) | (at_builtin; refine wpList_append_ks Try.underlying29 infoU8 rfl (by omega) (by rfl) _ _ (by rfl) (w.heap.size + 1 + 1) rw2 r2 cw2 c2 out (encI xo xa xb xc xk) (by rfl) (by rfl) HWO.out HO2.out (by rw [encI_len]; omega) (by omega) ?_; intro r' c' w3 hown3 hbw3; have hc3 : w3.cell? ⟨w.heap.size + 1, 0, none⟩ = some (.slice rw2 out.length cw2) := (hbw3.cell (p := ⟨w.heap.size + 1, 0, none⟩) (Nat.lt_succ_self _)).trans hw2c; have hf3 : w3.frozen? ⟨w.heap.size + 1, 0, none⟩ = false := (hbw3.frozen (p := ⟨w.heap.size + 1, 0, none⟩) (Nat.lt_succ_self _)).trans hw2f; have HP := Lib.hid (wr_put hw2b hw2c hw2f hown3 hbw3); clear hown3))
      go_roundg (code.length - (k + 1))
      case measure => omega
      case rel => exact ⟨k + 1, out ++ encI xo xa xb xc xk, by go_num, by omega, by omega, hB2.trans (HP.out _ (by simp [encI_len])).2, Lib.hid (HP.out _ (by simp [encI_len])).1, HQ2⟩
    · obtain rfl : k = code.length := by omega
      have HQ1 : Hid (out = num8 code.length ++ code.flatMap Ins.by8) := Lib.hid (by rw [HQ.out, List.take_length])
      have hol : out.length ≤ 10000000000 := by have h := HLB0.out code.length; rw [List.take_length, ← HQ1.out] at h; exact h
      clear HQ hkx hlt hk HLB0
      go_wp2_with (go_at_call 72; refine (wint_any (w.heap.size + 1) _ out _ HW.out (by omega)).mono ?_; rintro _ v2 ⟨rfl, hw2, hb2, hk2⟩; have HW2 := Lib.hid hw2; clear hw2 hk2; have hB2 : Below (w.heap.size + 1) W1 v2 := hBr.trans hb2; have y2 : v2.cell? ⟨w.heap.size, 1, none⟩ = some (.slice rt types.length ct) := (hB2.cell (p := ⟨w.heap.size, 1, none⟩) (Nat.lt_succ_self _)).trans q1)
      have HLB1 : Hid (∀ k, (num8 code.length ++ code.flatMap Ins.by8 ++ num8 types.length ++ (types.take k).flatMap Fx.by8).length ≤ 10000000000) := Lib.hid (fun k => by have := flat_le Fx.by8 types k; simp only [List.length_append, num8_len]; omega)
      go_loopg [58] types.length (fun kx s58 wr => ∃ (k : Nat) (out : List Int), s58 = .int .i64 k ∧ k ≤ types.length ∧ types.length - k ≤ kx ∧ Below (w.heap.size + 1) W1 wr ∧ Hid (Wr wr (w.heap.size + 1) out) ∧ Hid (out = num8 code.length ++ code.flatMap Ins.by8 ++ num8 types.length ++ (types.take k).flatMap Fx.by8))
      case atStart => exact ⟨0, out ++ num8 types.length, rfl, by omega, by omega, hB2, HW2, Lib.hid (by rw [HQ1.out]; simp)⟩
      case round =>
        obtain ⟨k, out, rfl, hk, hkx, hBr, HW, HQ⟩ := hrel
        have hBs := hBr.size
        have hbR : Below w.heap.size w wr := hBW.trans (hBr.mono (Nat.le_succ _))
        have hbRs := hbR.size
        have u0 : wr.cell? ⟨w.heap.size, 0, none⟩ = some (.slice rc code.length cc) := (hBr.cell (p := ⟨w.heap.size, 0, none⟩) (Nat.lt_succ_self _)).trans q0
        have u1 : wr.cell? ⟨w.heap.size, 1, none⟩ = some (.slice rt types.length ct) := (hBr.cell (p := ⟨w.heap.size, 1, none⟩) (Nat.lt_succ_self _)).trans q1
        have u2 : wr.cell? ⟨w.heap.size, 2, none⟩ = some (.slice rv curves.length cv) := (hBr.cell (p := ⟨w.heap.size, 2, none⟩) (Nat.lt_succ_self _)).trans q2
        have u3 : wr.cell? ⟨w.heap.size, 3, none⟩ = some (.slice rm maps.length cm) := (hBr.cell (p := ⟨w.heap.size, 3, none⟩) (Nat.lt_succ_self _)).trans q3
        have u4 : wr.cell? ⟨w.heap.size, 4, none⟩ = some (.int .i64 cells) := (hBr.cell (p := ⟨w.heap.size, 4, none⟩) (Nat.lt_succ_self _)).trans q4
        have u5 : wr.cell? ⟨w.heap.size, 5, none⟩ = some (.slice ri inputs.length ci) := (hBr.cell (p := ⟨w.heap.size, 5, none⟩) (Nat.lt_succ_self _)).trans q5
        have u6 : wr.cell? ⟨w.heap.size, 6, none⟩ = some (.slice rs states.length cs) := (hBr.cell (p := ⟨w.heap.size, 6, none⟩) (Nat.lt_succ_self _)).trans q6
        have u7 : wr.cell? ⟨w.heap.size, 7, none⟩ = some (.slice ro outputs.length co) := (hBr.cell (p := ⟨w.heap.size, 7, none⟩) (Nat.lt_succ_self _)).trans q7
        have u8 : wr.cell? ⟨w.heap.size, 8, none⟩ = some (.slice rn initial.length cn) := (hBr.cell (p := ⟨w.heap.size, 8, none⟩) (Nat.lt_succ_self _)).trans q8
        by_cases hlt : k < types.length
        · have hk1 : (0 : Int) ≤ (k : Int) := by omega
          have hk2 : (k : Int) < types.length := by omega
          have HQ2 : Hid (out ++ Fx.by8 (types.getD k default) = num8 code.length ++ code.flatMap Ins.by8 ++ num8 types.length ++ (types.take (k + 1)).flatMap Fx.by8) := Lib.hid (by rw [HQ.out, flat_take Fx.by8 hlt, List.append_assoc])
          have hbd : out.length + (Fx.by8 (types.getD k default)).length ≤ 10000000000 := by rw [← List.length_append, HQ2.out]; exact HLB1.out _
          obtain ⟨bX, off, rfl, hb, hc⟩ := HS2.out.at_ hlt
          have hc0 : wr.cell? ⟨bX, off + k * 10, none⟩ = some (.int .i64 (types.getD k default).bits) := (hbR.cell (p := ⟨bX, off + k * 10, none⟩) hb).trans (hc 0 _ rfl)
          have hc1 : wr.cell? ⟨bX, off + k * 10 + 1, none⟩ = some (.bool (types.getD k default).sg) := (hbR.cell (p := ⟨bX, off + k * 10 + 1, none⟩) hb).trans (hc 1 _ rfl)
          have hc2 : wr.cell? ⟨bX, off + k * 10 + 2, none⟩ = some (.int .i64 (types.getD k default).num) := (hbR.cell (p := ⟨bX, off + k * 10 + 2, none⟩) hb).trans (hc 2 _ rfl)
          have hc3 : wr.cell? ⟨bX, off + k * 10 + 3, none⟩ = some (.int .i64 (types.getD k default).off) := (hbR.cell (p := ⟨bX, off + k * 10 + 3, none⟩) hb).trans (hc 3 _ rfl)
          have hc4 : wr.cell? ⟨bX, off + k * 10 + 4, none⟩ = some (.int .i64 (types.getD k default).den) := (hbR.cell (p := ⟨bX, off + k * 10 + 4, none⟩) hb).trans (hc 4 _ rfl)
          have hc5 : wr.cell? ⟨bX, off + k * 10 + 5, none⟩ = some (.int .i64 (types.getD k default).m) := (hbR.cell (p := ⟨bX, off + k * 10 + 5, none⟩) hb).trans (hc 5 _ rfl)
          have hc6 : wr.cell? ⟨bX, off + k * 10 + 6, none⟩ = some (.int .i64 (types.getD k default).kg) := (hbR.cell (p := ⟨bX, off + k * 10 + 6, none⟩) hb).trans (hc 6 _ rfl)
          have hc7 : wr.cell? ⟨bX, off + k * 10 + 7, none⟩ = some (.int .i64 (types.getD k default).s) := (hbR.cell (p := ⟨bX, off + k * 10 + 7, none⟩) hb).trans (hc 7 _ rfl)
          have hc8 : wr.cell? ⟨bX, off + k * 10 + 8, none⟩ = some (.int .i64 (types.getD k default).a) := (hbR.cell (p := ⟨bX, off + k * 10 + 8, none⟩) hb).trans (hc 8 _ rfl)
          have hc9 : wr.cell? ⟨bX, off + k * 10 + 9, none⟩ = some (.int .i64 (types.getD k default).k) := (hbR.cell (p := ⟨bX, off + k * 10 + 9, none⟩) hb).trans (hc 9 _ rfl)
          clear hc
          have hok := HG2.out _ (getD_mem_of hlt)
          generalize types.getD k default = x at *
          obtain ⟨x0, x1, x2, x3, x4, x5, x6, x7, x8, x9⟩ := x
          simp only at hc0 hc1 hc2 hc3 hc4 hc5 hc6 hc7 hc8 hc9
          cases x1
          · have HOK : Hid (∀ y ∈ [x0, 0, x2, x3, x4, x5, x6, x7, x8, x9], I64 y) := Lib.hid (by
              obtain ⟨o0, o2, o3, o4, o5, o6, o7, o8, o9⟩ := hok
              simp only at o0 o2 o3 o4 o5 o6 o7 o8 o9
              have ob : I64 (0 : Int) := by rfl
              intro y hy
              simp only [List.mem_cons, List.not_mem_nil, or_false] at hy
              rcases hy with rfl | rfl | rfl | rfl | rfl | rfl | rfl | rfl | rfl | rfl <;> assumption)
            have HQ3 : Hid (out ++ nums8 [x0, 0, x2, x3, x4, x5, x6, x7, x8, x9] = num8 code.length ++ code.flatMap Ins.by8 ++ num8 types.length ++ (types.take (k + 1)).flatMap Fx.by8) := Lib.hid HQ2.out
            have hbd2 : out.length + 80 ≤ 10000000000 := hbd
            clear hok HQ2 hbd
            go_wp2
            have HNW := Lib.hid ((HW.out.new (.cells #[.int .i64 x0, .bool false, .int .i64 x2, .int .i64 x3, .int .i64 x4, .int .i64 x5, .int .i64 x6, .int .i64 x7, .int .i64 x8, .int .i64 x9] 59)).1.new (.cells #[.int .i64 x0, .int .i64 0, .int .i64 x2, .int .i64 x3, .int .i64 x4, .int .i64 x5, .int .i64 x6, .int .i64 x7, .int .i64 x8, .int .i64 x9] 3))
            have hbA : Below (w.heap.size + 1) W1 ((wr.alloc (.cells #[.int .i64 x0, .bool false, .int .i64 x2, .int .i64 x3, .int .i64 x4, .int .i64 x5, .int .i64 x6, .int .i64 x7, .int .i64 x8, .int .i64 x9] 59)).alloc (.cells #[.int .i64 x0, .int .i64 0, .int .i64 x2, .int .i64 x3, .int .i64 x4, .int .i64 x5, .int .i64 x6, .int .i64 x7, .int .i64 x8, .int .i64 x9] 3)) := (hBr.alloc (by omega) _).alloc (by rw [World.size_alloc]; omega) _
            have hzA : (wr.alloc (.cells #[.int .i64 x0, .bool false, .int .i64 x2, .int .i64 x3, .int .i64 x4, .int .i64 x5, .int .i64 x6, .int .i64 x7, .int .i64 x8, .int .i64 x9] 59)).heap.size = wr.heap.size + 1 := World.size_alloc _ _
            rw [hzA] at HNW
            have HCL : Hid (∀ j, j < 10 → ((wr.alloc (.cells #[.int .i64 x0, .bool false, .int .i64 x2, .int .i64 x3, .int .i64 x4, .int .i64 x5, .int .i64 x6, .int .i64 x7, .int .i64 x8, .int .i64 x9] 59)).alloc (.cells #[.int .i64 x0, .int .i64 0, .int .i64 x2, .int .i64 x3, .int .i64 x4, .int .i64 x5, .int .i64 x6, .int .i64 x7, .int .i64 x8, .int .i64 x9] 3)).cell? ⟨wr.heap.size + 1, j, none⟩ = some (.int .i64 (([x0, 0, x2, x3, x4, x5, x6, x7, x8, x9] : List Int).getD j 0))) := Lib.hid (fun j hj => by
              rw [← hzA, World.cell?_alloc_new]
              obtain rfl | rfl | rfl | rfl | rfl | rfl | rfl | rfl | rfl | rfl : j = 0 ∨ j = 1 ∨ j = 2 ∨ j = 3 ∨ j = 4 ∨ j = 5 ∨ j = 6 ∨ j = 7 ∨ j = 8 ∨ j = 9 := by omega
              all_goals rfl)
            generalize (wr.alloc (.cells #[.int .i64 x0, .bool false, .int .i64 x2, .int .i64 x3, .int .i64 x4, .int .i64 x5, .int .i64 x6, .int .i64 x7, .int .i64 x8, .int .i64 x9] 59)).alloc (.cells #[.int .i64 x0, .int .i64 0, .int .i64 x2, .int .i64 x3, .int .i64 x4, .int .i64 x5, .int .i64 x6, .int .i64 x7, .int .i64 x8, .int .i64 x9] 3) = W3 at *
            generalize wr.heap.size = T at *
            have HLL : Hid (([x0, 0, x2, x3, x4, x5, x6, x7, x8, x9] : List Int).length = 10) := Lib.hid rfl
            generalize ([x0, 0, x2, x3, x4, x5, x6, x7, x8, x9] : List Int) = L at *
            clear hc0 hc1 hc2 hc3 hc4 hc5 hc6 hc7 hc8 hc9 hzA
            go_loopg [90] 10 (fun kx s90 wr => ∃ (j : Nat) (out2 : List Int), s90 = .int .i64 j ∧ j ≤ 10 ∧ 10 - j ≤ kx ∧ Below (w.heap.size + 1) W1 wr ∧ Hid (KeepW W3 wr (w.heap.size + 1)) ∧ Hid (Wr wr (w.heap.size + 1) out2) ∧ Hid (out2 = out ++ nums8 (L.take j)) ∧ Hid (out2.length = out.length + 8 * j))
            case atStart => exact ⟨0, out, rfl, by omega, by omega, hbA, Lib.hid (KeepW.refl _ _), Lib.hid HNW.out.1, Lib.hid (by simp [nums8]), Lib.hid (by omega)⟩
            case round =>
              clear HW
              obtain ⟨j, out2, rfl, hj, hjx, hBz, HKZ, HWz, HQj, HLj⟩ := hrel
              by_cases hjl : j < 10
              · have hj1 : (0 : Int) ≤ (j : Int) := by omega
                have hj2 : (j : Int) < 10 := by omega
                have hcj : wr.cell? ⟨T + 1, j, none⟩ = some (.int .i64 (L.getD j 0)) := (World.cell?_of_block (a := ⟨T + 1, j, none⟩) (HKZ.out _ HNW.out.2).2).trans (HCL.out j hjl)
                have HQn := Lib.hid (nums8_take (l := L) (k := j) (by rw [HLL.out]; exact hjl))
                generalize L.getD j 0 = y at *
                have hol2 : out2.length ≤ 10000000000 := by have := HLj.out; omega
                go_wp2_with (first | (go_at_call 72; refine (wint_any (w.heap.size + 1) _ out2 _ HWz.out (by omega)).mono ?_; rintro _ v4 ⟨rfl, hw4, hb4, hk4⟩; have HW4 := Lib.hid hw4; have HK4 := Lib.hid (HKZ.out.trans hk4); clear hw4 hk4))
                go_roundg (10 - (j + 1))
                case measure => omega
                case rel => exact ⟨j + 1, out2 ++ num8 y, by go_num, by omega, by omega, hBz.trans hb4, HK4, HW4, Lib.hid (by rw [HQj.out, HQn.out, List.append_assoc]), Lib.hid (by rw [List.length_append, num8_len, HLj.out]; omega)⟩
              · obtain rfl : j = 10 := by omega
                have HQe : Hid (out2 = out ++ nums8 L) := Lib.hid (by rw [HQj.out, List.take_of_length_le (by rw [HLL.out]; exact Nat.le_refl _)])
                clear HQj
                go_wp2
                go_roundg (types.length - (k + 1))
                case measure => omega
                case rel => exact ⟨k + 1, out2, by go_num, by omega, by omega, hBz, HWz, Lib.hid (by rw [HQe.out]; exact HQ3.out)⟩
          · have HOK : Hid (∀ y ∈ [x0, 1, x2, x3, x4, x5, x6, x7, x8, x9], I64 y) := Lib.hid (by
              obtain ⟨o0, o2, o3, o4, o5, o6, o7, o8, o9⟩ := hok
              simp only at o0 o2 o3 o4 o5 o6 o7 o8 o9
              have ob : I64 (1 : Int) := by rfl
              intro y hy
              simp only [List.mem_cons, List.not_mem_nil, or_false] at hy
              rcases hy with rfl | rfl | rfl | rfl | rfl | rfl | rfl | rfl | rfl | rfl <;> assumption)
            have HQ3 : Hid (out ++ nums8 [x0, 1, x2, x3, x4, x5, x6, x7, x8, x9] = num8 code.length ++ code.flatMap Ins.by8 ++ num8 types.length ++ (types.take (k + 1)).flatMap Fx.by8) := Lib.hid HQ2.out
            have hbd2 : out.length + 80 ≤ 10000000000 := hbd
            clear hok HQ2 hbd
            go_wp2
            have HNW := Lib.hid ((HW.out.new (.cells #[.int .i64 x0, .bool true, .int .i64 x2, .int .i64 x3, .int .i64 x4, .int .i64 x5, .int .i64 x6, .int .i64 x7, .int .i64 x8, .int .i64 x9] 59)).1.new (.cells #[.int .i64 x0, .int .i64 1, .int .i64 x2, .int .i64 x3, .int .i64 x4, .int .i64 x5, .int .i64 x6, .int .i64 x7, .int .i64 x8, .int .i64 x9] 3))
            have hbA : Below (w.heap.size + 1) W1 ((wr.alloc (.cells #[.int .i64 x0, .bool true, .int .i64 x2, .int .i64 x3, .int .i64 x4, .int .i64 x5, .int .i64 x6, .int .i64 x7, .int .i64 x8, .int .i64 x9] 59)).alloc (.cells #[.int .i64 x0, .int .i64 1, .int .i64 x2, .int .i64 x3, .int .i64 x4, .int .i64 x5, .int .i64 x6, .int .i64 x7, .int .i64 x8, .int .i64 x9] 3)) := (hBr.alloc (by omega) _).alloc (by rw [World.size_alloc]; omega) _
            have hzA : (wr.alloc (.cells #[.int .i64 x0, .bool true, .int .i64 x2, .int .i64 x3, .int .i64 x4, .int .i64 x5, .int .i64 x6, .int .i64 x7, .int .i64 x8, .int .i64 x9] 59)).heap.size = wr.heap.size + 1 := World.size_alloc _ _
            rw [hzA] at HNW
            have HCL : Hid (∀ j, j < 10 → ((wr.alloc (.cells #[.int .i64 x0, .bool true, .int .i64 x2, .int .i64 x3, .int .i64 x4, .int .i64 x5, .int .i64 x6, .int .i64 x7, .int .i64 x8, .int .i64 x9] 59)).alloc (.cells #[.int .i64 x0, .int .i64 1, .int .i64 x2, .int .i64 x3, .int .i64 x4, .int .i64 x5, .int .i64 x6, .int .i64 x7, .int .i64 x8, .int .i64 x9] 3)).cell? ⟨wr.heap.size + 1, j, none⟩ = some (.int .i64 (([x0, 1, x2, x3, x4, x5, x6, x7, x8, x9] : List Int).getD j 0))) := Lib.hid (fun j hj => by
              rw [← hzA, World.cell?_alloc_new]
              obtain rfl | rfl | rfl | rfl | rfl | rfl | rfl | rfl | rfl | rfl : j = 0 ∨ j = 1 ∨ j = 2 ∨ j = 3 ∨ j = 4 ∨ j = 5 ∨ j = 6 ∨ j = 7 ∨ j = 8 ∨ j = 9 := by omega
              all_goals rfl)
            generalize (wr.alloc (.cells #[.int .i64 x0, .bool true, .int .i64 x2, .int .i64 x3, .int .i64 x4, .int .i64 x5, .int .i64 x6, .int .i64 x7, .int .i64 x8, .int .i64 x9] 59)).alloc (.cells #[.int .i64 x0, .int .i64 1, .int .i64 x2, .int .i64 x3, .int .i64 x4, .int .i64 x5, .int .i64 x6, .int .i64 x7, .int .i64 x8, .int .i64 x9] 3) = W3 at *
            generalize wr.heap.size = T at *
            have HLL : Hid (([x0, 1, x2, x3, x4, x5, x6, x7, x8, x9] : List Int).length = 10) := Lib.hid rfl
            generalize ([x0, 1, x2, x3, x4, x5, x6, x7, x8, x9] : List Int) = L at *
            clear hc0 hc1 hc2 hc3 hc4 hc5 hc6 hc7 hc8 hc9 hzA
            go_loopg [90] 10 (fun kx s90 wr => ∃ (j : Nat) (out2 : List Int), s90 = .int .i64 j ∧ j ≤ 10 ∧ 10 - j ≤ kx ∧ Below (w.heap.size + 1) W1 wr ∧ Hid (KeepW W3 wr (w.heap.size + 1)) ∧ Hid (Wr wr (w.heap.size + 1) out2) ∧ Hid (out2 = out ++ nums8 (L.take j)) ∧ Hid (out2.length = out.length + 8 * j))
            case atStart => exact ⟨0, out, rfl, by omega, by omega, hbA, Lib.hid (KeepW.refl _ _), Lib.hid HNW.out.1, Lib.hid (by simp [nums8]), Lib.hid (by omega)⟩
            case round =>
              clear HW
              obtain ⟨j, out2, rfl, hj, hjx, hBz, HKZ, HWz, HQj, HLj⟩ := hrel
              by_cases hjl : j < 10
              · have hj1 : (0 : Int) ≤ (j : Int) := by omega
                have hj2 : (j : Int) < 10 := by omega
                have hcj : wr.cell? ⟨T + 1, j, none⟩ = some (.int .i64 (L.getD j 0)) := (World.cell?_of_block (a := ⟨T + 1, j, none⟩) (HKZ.out _ HNW.out.2).2).trans (HCL.out j hjl)
                have HQn := Lib.hid (nums8_take (l := L) (k := j) (by rw [HLL.out]; exact hjl))
                generalize L.getD j 0 = y at *
                have hol2 : out2.length ≤ 10000000000 := by have := HLj.out; omega
                go_wp2_with (first | (go_at_call 72; refine (wint_any (w.heap.size + 1) _ out2 _ HWz.out (by omega)).mono ?_; rintro _ v4 ⟨rfl, hw4, hb4, hk4⟩; have HW4 := Lib.hid hw4; have HK4 := Lib.hid (HKZ.out.trans hk4); clear hw4 hk4))
                go_roundg (10 - (j + 1))
                case measure => omega
                case rel => exact ⟨j + 1, out2 ++ num8 y, by go_num, by omega, by omega, hBz.trans hb4, HK4, HW4, Lib.hid (by rw [HQj.out, HQn.out, List.append_assoc]), Lib.hid (by rw [List.length_append, num8_len, HLj.out]; omega)⟩
              · obtain rfl : j = 10 := by omega
                have HQe : Hid (out2 = out ++ nums8 L) := Lib.hid (by rw [HQj.out, List.take_of_length_le (by rw [HLL.out]; exact Nat.le_refl _)])
                clear HQj
                go_wp2
                go_roundg (types.length - (k + 1))
                case measure => omega
                case rel => exact ⟨k + 1, out2, by go_num, by omega, by omega, hBz, HWz, Lib.hid (by rw [HQe.out]; exact HQ3.out)⟩
        · obtain rfl : k = types.length := by omega
          have HQ1 : Hid (out = num8 code.length ++ code.flatMap Ins.by8 ++ num8 types.length ++ types.flatMap Fx.by8) := Lib.hid (by rw [HQ.out, List.take_length])
          have hol : out.length ≤ 10000000000 := by have h := HLB1.out types.length; rw [List.take_length, ← HQ1.out] at h; exact h
          clear HQ hkx hlt hk HLB1
          go_wp2_with (go_at_call 72; refine (wint_any (w.heap.size + 1) _ out _ HW.out (by omega)).mono ?_; rintro _ v3 ⟨rfl, hw3, hb3, hk3⟩; have HW3 := Lib.hid hw3; clear hw3 hk3; have hB3 : Below (w.heap.size + 1) W1 v3 := hBr.trans hb3; have y3 : v3.cell? ⟨w.heap.size, 2, none⟩ = some (.slice rv curves.length cv) := (hB3.cell (p := ⟨w.heap.size, 2, none⟩) (Nat.lt_succ_self _)).trans q2)
          have HLB2 : Hid (∀ k, (num8 code.length ++ code.flatMap Ins.by8 ++ num8 types.length ++ types.flatMap Fx.by8 ++ num8 curves.length ++ (curves.take k).flatMap (fun c : Cv => curveB8 c.p)).length ≤ 10000000000) := Lib.hid (fun k => by have := flat_le (fun c : Cv => curveB8 c.p) curves k; simp only [List.length_append, num8_len]; omega)
          go_loopg [107] curves.length (fun kx s107 wr => ∃ (k : Nat) (out : List Int), s107 = .int .i64 k ∧ k ≤ curves.length ∧ curves.length - k ≤ kx ∧ Below (w.heap.size + 1) W1 wr ∧ Hid (Wr wr (w.heap.size + 1) out) ∧ Hid (out = num8 code.length ++ code.flatMap Ins.by8 ++ num8 types.length ++ types.flatMap Fx.by8 ++ num8 curves.length ++ (curves.take k).flatMap (fun c : Cv => curveB8 c.p)))
          case atStart => exact ⟨0, out ++ num8 curves.length, rfl, by omega, by omega, hB3, HW3, Lib.hid (by rw [HQ1.out]; simp)⟩
          case round =>
            obtain ⟨k, out, rfl, hk, hkx, hBr, HW, HQ⟩ := hrel
            have hBs := hBr.size
            have hbR : Below w.heap.size w wr := hBW.trans (hBr.mono (Nat.le_succ _))
            have hbRs := hbR.size
            have u0 : wr.cell? ⟨w.heap.size, 0, none⟩ = some (.slice rc code.length cc) := (hBr.cell (p := ⟨w.heap.size, 0, none⟩) (Nat.lt_succ_self _)).trans q0
            have u1 : wr.cell? ⟨w.heap.size, 1, none⟩ = some (.slice rt types.length ct) := (hBr.cell (p := ⟨w.heap.size, 1, none⟩) (Nat.lt_succ_self _)).trans q1
            have u2 : wr.cell? ⟨w.heap.size, 2, none⟩ = some (.slice rv curves.length cv) := (hBr.cell (p := ⟨w.heap.size, 2, none⟩) (Nat.lt_succ_self _)).trans q2
            have u3 : wr.cell? ⟨w.heap.size, 3, none⟩ = some (.slice rm maps.length cm) := (hBr.cell (p := ⟨w.heap.size, 3, none⟩) (Nat.lt_succ_self _)).trans q3
            have u4 : wr.cell? ⟨w.heap.size, 4, none⟩ = some (.int .i64 cells) := (hBr.cell (p := ⟨w.heap.size, 4, none⟩) (Nat.lt_succ_self _)).trans q4
            have u5 : wr.cell? ⟨w.heap.size, 5, none⟩ = some (.slice ri inputs.length ci) := (hBr.cell (p := ⟨w.heap.size, 5, none⟩) (Nat.lt_succ_self _)).trans q5
            have u6 : wr.cell? ⟨w.heap.size, 6, none⟩ = some (.slice rs states.length cs) := (hBr.cell (p := ⟨w.heap.size, 6, none⟩) (Nat.lt_succ_self _)).trans q6
            have u7 : wr.cell? ⟨w.heap.size, 7, none⟩ = some (.slice ro outputs.length co) := (hBr.cell (p := ⟨w.heap.size, 7, none⟩) (Nat.lt_succ_self _)).trans q7
            have u8 : wr.cell? ⟨w.heap.size, 8, none⟩ = some (.slice rn initial.length cn) := (hBr.cell (p := ⟨w.heap.size, 8, none⟩) (Nat.lt_succ_self _)).trans q8
            by_cases hlt : k < curves.length
            · have hk1 : (0 : Int) ≤ (k : Int) := by omega
              have hk2 : (k : Int) < curves.length := by omega
              have HQ2 : Hid (out ++ (fun c : Cv => curveB8 c.p) (curves.getD k default) = num8 code.length ++ code.flatMap Ins.by8 ++ num8 types.length ++ types.flatMap Fx.by8 ++ num8 curves.length ++ (curves.take (k + 1)).flatMap (fun c : Cv => curveB8 c.p)) := Lib.hid (by rw [HQ.out, flat_take (fun c : Cv => curveB8 c.p) hlt, List.append_assoc])
              have hbd : out.length + ((fun c : Cv => curveB8 c.p) (curves.getD k default)).length ≤ 10000000000 := by rw [← List.length_append, HQ2.out]; exact HLB2.out _
              obtain ⟨bX, off, rfl, hb, hc⟩ := HS3.out.at_ hlt
              have hc0 : wr.cell? ⟨bX, off + k * 2, none⟩ = some (.slice (curves.getD k default).rx (curves.getD k default).X.length (curves.getD k default).cx) := (hbR.cell (p := ⟨bX, off + k * 2, none⟩) hb).trans (hc 0 _ rfl)
              have hc1 : wr.cell? ⟨bX, off + k * 2 + 1, none⟩ = some (.slice (curves.getD k default).ry (curves.getD k default).Y.length (curves.getD k default).cy) := (hbR.cell (p := ⟨bX, off + k * 2 + 1, none⟩) hb).trans (hc 1 _ rfl)
              clear hc
              have HXY := Lib.hid (HG3.out _ (getD_mem_of hlt))
              generalize curves.getD k default = x at *
              obtain ⟨xr, xc, X, yr, yc, Y⟩ := x
              simp only [Cv.ok] at hc0 hc1 HXY
              simp only [curveB8, Cv.p, List.length_append, list8_len] at hbd
              have HQ3 : Hid ((out ++ list8 X) ++ list8 Y = num8 code.length ++ code.flatMap Ins.by8 ++ num8 types.length ++ types.flatMap Fx.by8 ++ num8 curves.length ++ (curves.take (k + 1)).flatMap (fun c : Cv => curveB8 c.p)) := Lib.hid (by rw [List.append_assoc]; exact HQ2.out)
              clear HQ2
              go_upto_region 26 with fail
              have HNW := Lib.hid (HW.out.new (.cells #[.slice xr X.length xc, .slice yr Y.length yc] 53))
              have hbA : Below (w.heap.size + 1) W1 (wr.alloc (.cells #[.slice xr X.length xc, .slice yr Y.length yc] 53)) := hBr.alloc (by omega) _
              have g1 : (wr.alloc (.cells #[.slice xr X.length xc, .slice yr Y.length yc] 53)).cell? ⟨wr.heap.size, 1, none⟩ = some (.slice yr Y.length yc) := World.cell?_alloc_new _ _ _ _
              have g0 : (wr.alloc (.cells #[.slice xr X.length xc, .slice yr Y.length yc] 53)).cell? ⟨wr.heap.size, 0, none⟩ = some (.slice xr X.length xc) := World.cell?_alloc_new _ _ _ _
              generalize wr.alloc (.cells #[.slice xr X.length xc, .slice yr Y.length yc] 53) = W2 at *
              have hbA2 : Below w.heap.size w W2 := hBW.trans (hbA.mono (Nat.le_succ _))
              have tk0 : True := trivial
              have tk1 : True := trivial
              go_wp2_with (first | (have _t := tk0; go_at_call 74; refine (wlist_any (w.heap.size + 1) xr xc X out w _ HXY.out.1 (Nat.le_succ _) hbA2 HNW.out.1 (by omega)).mono ?_; rintro _ xX ⟨rfl, hxX, hyX, hkX⟩; have HXX := Lib.hid hxX; have HKX := Lib.hid hkX; clear hxX hkX tk0 _t; have h1 : xX.cell? ⟨wr.heap.size, 1, none⟩ = some (.slice yr Y.length yc) := (World.cell?_of_block (a := ⟨wr.heap.size, 1, none⟩) (HKX.out _ HNW.out.2).2).trans g1; have hyX2 : Below w.heap.size w xX := hbA2.trans (hyX.mono (Nat.le_succ _)); have hxl : (out ++ list8 X).length = out.length + (8 + 8 * X.length) := (by rw [List.length_append, list8_len])) | (have _t := tk1; go_at_call 74; refine (wlist_any (w.heap.size + 1) yr yc Y (out ++ list8 X) w _ HXY.out.2 (Nat.le_succ _) hyX2 HXX.out (by omega)).mono ?_; rintro _ xY ⟨rfl, hxY, hyY, hkY⟩; have HXYW := Lib.hid hxY; have HKY := Lib.hid hkY; clear hxY hkY tk1 _t; skip))
              go_roundg (curves.length - (k + 1))
              case measure => omega
              case rel => exact ⟨k + 1, out ++ list8 X ++ list8 Y, by go_num, by omega, by omega, (hbA.trans hyX).trans hyY, HXYW, HQ3⟩
            · obtain rfl : k = curves.length := by omega
              have HQ1 : Hid (out = num8 code.length ++ code.flatMap Ins.by8 ++ num8 types.length ++ types.flatMap Fx.by8 ++ num8 curves.length ++ curves.flatMap (fun c => curveB8 c.p)) := Lib.hid (by rw [HQ.out, List.take_length])
              have hol : out.length ≤ 10000000000 := by have h := HLB2.out curves.length; rw [List.take_length, ← HQ1.out] at h; exact h
              clear HQ hkx hlt hk HLB2
              go_wp2_with (go_at_call 72; refine (wint_any (w.heap.size + 1) _ out _ HW.out (by omega)).mono ?_; rintro _ v4 ⟨rfl, hw4, hb4, hk4⟩; have HW4 := Lib.hid hw4; clear hw4 hk4; have hB4 : Below (w.heap.size + 1) W1 v4 := hBr.trans hb4; have y4 : v4.cell? ⟨w.heap.size, 3, none⟩ = some (.slice rm maps.length cm) := (hB4.cell (p := ⟨w.heap.size, 3, none⟩) (Nat.lt_succ_self _)).trans q3)
              have HLB3 : Hid (∀ k, (num8 code.length ++ code.flatMap Ins.by8 ++ num8 types.length ++ types.flatMap Fx.by8 ++ num8 curves.length ++ curves.flatMap (fun c => curveB8 c.p) ++ num8 maps.length ++ (maps.take k).flatMap (fun m : Mp => mapB8 m.p)).length ≤ 10000000000) := Lib.hid (fun k => by have := flat_le (fun m : Mp => mapB8 m.p) maps k; simp only [List.length_append, num8_len]; omega)
              go_loopg [128] maps.length (fun kx s128 wr => ∃ (k : Nat) (out : List Int), s128 = .int .i64 k ∧ k ≤ maps.length ∧ maps.length - k ≤ kx ∧ Below (w.heap.size + 1) W1 wr ∧ Hid (Wr wr (w.heap.size + 1) out) ∧ Hid (out = num8 code.length ++ code.flatMap Ins.by8 ++ num8 types.length ++ types.flatMap Fx.by8 ++ num8 curves.length ++ curves.flatMap (fun c => curveB8 c.p) ++ num8 maps.length ++ (maps.take k).flatMap (fun m : Mp => mapB8 m.p)))
              case atStart => exact ⟨0, out ++ num8 maps.length, rfl, by omega, by omega, hB4, HW4, Lib.hid (by rw [HQ1.out]; simp)⟩
              case round =>
                obtain ⟨k, out, rfl, hk, hkx, hBr, HW, HQ⟩ := hrel
                have hBs := hBr.size
                have hbR : Below w.heap.size w wr := hBW.trans (hBr.mono (Nat.le_succ _))
                have hbRs := hbR.size
                have u0 : wr.cell? ⟨w.heap.size, 0, none⟩ = some (.slice rc code.length cc) := (hBr.cell (p := ⟨w.heap.size, 0, none⟩) (Nat.lt_succ_self _)).trans q0
                have u1 : wr.cell? ⟨w.heap.size, 1, none⟩ = some (.slice rt types.length ct) := (hBr.cell (p := ⟨w.heap.size, 1, none⟩) (Nat.lt_succ_self _)).trans q1
                have u2 : wr.cell? ⟨w.heap.size, 2, none⟩ = some (.slice rv curves.length cv) := (hBr.cell (p := ⟨w.heap.size, 2, none⟩) (Nat.lt_succ_self _)).trans q2
                have u3 : wr.cell? ⟨w.heap.size, 3, none⟩ = some (.slice rm maps.length cm) := (hBr.cell (p := ⟨w.heap.size, 3, none⟩) (Nat.lt_succ_self _)).trans q3
                have u4 : wr.cell? ⟨w.heap.size, 4, none⟩ = some (.int .i64 cells) := (hBr.cell (p := ⟨w.heap.size, 4, none⟩) (Nat.lt_succ_self _)).trans q4
                have u5 : wr.cell? ⟨w.heap.size, 5, none⟩ = some (.slice ri inputs.length ci) := (hBr.cell (p := ⟨w.heap.size, 5, none⟩) (Nat.lt_succ_self _)).trans q5
                have u6 : wr.cell? ⟨w.heap.size, 6, none⟩ = some (.slice rs states.length cs) := (hBr.cell (p := ⟨w.heap.size, 6, none⟩) (Nat.lt_succ_self _)).trans q6
                have u7 : wr.cell? ⟨w.heap.size, 7, none⟩ = some (.slice ro outputs.length co) := (hBr.cell (p := ⟨w.heap.size, 7, none⟩) (Nat.lt_succ_self _)).trans q7
                have u8 : wr.cell? ⟨w.heap.size, 8, none⟩ = some (.slice rn initial.length cn) := (hBr.cell (p := ⟨w.heap.size, 8, none⟩) (Nat.lt_succ_self _)).trans q8
                by_cases hlt : k < maps.length
                · have hk1 : (0 : Int) ≤ (k : Int) := by omega
                  have hk2 : (k : Int) < maps.length := by omega
                  have HQ2 : Hid (out ++ (fun m : Mp => mapB8 m.p) (maps.getD k default) = num8 code.length ++ code.flatMap Ins.by8 ++ num8 types.length ++ types.flatMap Fx.by8 ++ num8 curves.length ++ curves.flatMap (fun c => curveB8 c.p) ++ num8 maps.length ++ (maps.take (k + 1)).flatMap (fun m : Mp => mapB8 m.p)) := Lib.hid (by rw [HQ.out, flat_take (fun m : Mp => mapB8 m.p) hlt, List.append_assoc])
                  have hbd : out.length + ((fun m : Mp => mapB8 m.p) (maps.getD k default)).length ≤ 10000000000 := by rw [← List.length_append, HQ2.out]; exact HLB3.out _
                  obtain ⟨bX, off, rfl, hb, hc⟩ := HS4.out.at_ hlt
                  have hc0 : wr.cell? ⟨bX, off + k * 3, none⟩ = some (.slice (maps.getD k default).rx (maps.getD k default).X.length (maps.getD k default).cx) := (hbR.cell (p := ⟨bX, off + k * 3, none⟩) hb).trans (hc 0 _ rfl)
                  have hc1 : wr.cell? ⟨bX, off + k * 3 + 1, none⟩ = some (.slice (maps.getD k default).ry (maps.getD k default).Y.length (maps.getD k default).cy) := (hbR.cell (p := ⟨bX, off + k * 3 + 1, none⟩) hb).trans (hc 1 _ rfl)
                  have hc2 : wr.cell? ⟨bX, off + k * 3 + 2, none⟩ = some (.slice (maps.getD k default).rz (maps.getD k default).Z.length (maps.getD k default).cz) := (hbR.cell (p := ⟨bX, off + k * 3 + 2, none⟩) hb).trans (hc 2 _ rfl)
                  clear hc
                  have HXY := Lib.hid (HG4.out _ (getD_mem_of hlt))
                  generalize maps.getD k default = x at *
                  obtain ⟨xr, xc, X, yr, yc, Y, zr, zc, Z⟩ := x
                  simp only [Mp.ok] at hc0 hc1 hc2 HXY
                  simp only [mapB8, Mp.p, List.length_append, list8_len] at hbd
                  have hzl := Nat.le_trans HXY.out.2.2.le HXY.out.2.2.max
                  unfold maxLen at hzl
                  have HQ3 : Hid (((out ++ list8 X) ++ list8 Y) ++ Z.flatMap list8 = num8 code.length ++ code.flatMap Ins.by8 ++ num8 types.length ++ types.flatMap Fx.by8 ++ num8 curves.length ++ curves.flatMap (fun c => curveB8 c.p) ++ num8 maps.length ++ (maps.take (k + 1)).flatMap (fun m : Mp => mapB8 m.p)) := Lib.hid (by refine Eq.trans ?_ HQ2.out; show _ = out ++ (list8 X ++ list8 Y ++ Z.flatMap list8); simp only [List.append_assoc])
                  clear HQ2
                  go_upto_region 33 with fail
                  have HNW := Lib.hid (HW.out.new (.cells #[.slice xr X.length xc, .slice yr Y.length yc, .slice zr Z.length zc] 55))
                  have hbA : Below (w.heap.size + 1) W1 (wr.alloc (.cells #[.slice xr X.length xc, .slice yr Y.length yc, .slice zr Z.length zc] 55)) := hBr.alloc (by omega) _
                  have g0 : (wr.alloc (.cells #[.slice xr X.length xc, .slice yr Y.length yc, .slice zr Z.length zc] 55)).cell? ⟨wr.heap.size, 0, none⟩ = some (.slice xr X.length xc) := World.cell?_alloc_new _ _ _ _
                  have g1 : (wr.alloc (.cells #[.slice xr X.length xc, .slice yr Y.length yc, .slice zr Z.length zc] 55)).cell? ⟨wr.heap.size, 1, none⟩ = some (.slice yr Y.length yc) := World.cell?_alloc_new _ _ _ _
                  have g2 : (wr.alloc (.cells #[.slice xr X.length xc, .slice yr Y.length yc, .slice zr Z.length zc] 55)).cell? ⟨wr.heap.size, 2, none⟩ = some (.slice zr Z.length zc) := World.cell?_alloc_new _ _ _ _
                  generalize wr.alloc (.cells #[.slice xr X.length xc, .slice yr Y.length yc, .slice zr Z.length zc] 55) = W2 at *
                  have hbA2 : Below w.heap.size w W2 := hBW.trans (hbA.mono (Nat.le_succ _))
                  have tk0 : True := trivial
                  have tk1 : True := trivial
                  go_wp2_with (first | (have _t := tk0; go_at_call 74; refine (wlist_any (w.heap.size + 1) xr xc X out w _ HXY.out.1 (Nat.le_succ _) hbA2 HNW.out.1 (by omega)).mono ?_; rintro _ xX ⟨rfl, hxX, hyX, hkX⟩; have HXX := Lib.hid hxX; have HKX := Lib.hid hkX; clear hxX hkX tk0 _t; have h1 : xX.cell? ⟨wr.heap.size, 1, none⟩ = some (.slice yr Y.length yc) := (World.cell?_of_block (a := ⟨wr.heap.size, 1, none⟩) (HKX.out _ HNW.out.2).2).trans g1; have HS2 := Lib.hid (HKX.out _ HNW.out.2); have h2 : xX.cell? ⟨wr.heap.size, 2, none⟩ = some (.slice zr Z.length zc) := (World.cell?_of_block (a := ⟨wr.heap.size, 2, none⟩) (HKX.out _ HNW.out.2).2).trans g2; have hyX2 : Below w.heap.size w xX := hbA2.trans (hyX.mono (Nat.le_succ _)); have hxl : (out ++ list8 X).length = out.length + (8 + 8 * X.length) := (by rw [List.length_append, list8_len])) | (have _t := tk1; go_at_call 74; refine (wlist_any (w.heap.size + 1) yr yc Y (out ++ list8 X) w _ HXY.out.2.1 (Nat.le_succ _) hyX2 HXX.out (by omega)).mono ?_; rintro _ xY ⟨rfl, hxY, hyY, hkY⟩; have HXYW := Lib.hid hxY; have HKY := Lib.hid hkY; clear hxY hkY tk1 _t; have h3 : xY.cell? ⟨wr.heap.size, 2, none⟩ = some (.slice zr Z.length zc) := (World.cell?_of_block (a := ⟨wr.heap.size, 2, none⟩) (HKY.out _ HS2.out.1).2).trans h2))
                  have hB3 : Below (w.heap.size + 1) W1 xY := (hbA.trans hyX).trans hyY
                  have HLZ : Hid (∀ j, (out ++ list8 X ++ list8 Y ++ (Z.take j).flatMap list8).length ≤ 10000000000) := Lib.hid (fun j => by
                    have h1 := flat_le list8 Z j
                    simp only [List.length_append, list8_len]
                    omega)
                  go_loopg [143] Z.length (fun kx s143 wr => ∃ (j : Nat) (out2 : List Int), s143 = .int .i64 j ∧ j ≤ Z.length ∧ Z.length - j ≤ kx ∧ Below (w.heap.size + 1) W1 wr ∧ Hid (Wr wr (w.heap.size + 1) out2) ∧ Hid (out2 = out ++ list8 X ++ list8 Y ++ (Z.take j).flatMap list8))
                  case atStart => exact ⟨0, _, rfl, by omega, by omega, hB3, HXYW, Lib.hid (by simp)⟩
                  case round =>
                    clear HXYW HW
                    obtain ⟨j, out2, rfl, hj, hjx, hBz, HWz, HQj⟩ := hrel
                    have hbZ : Below w.heap.size w wr := hBW.trans (hBz.mono (Nat.le_succ _))
                    by_cases hjl : j < Z.length
                    · have hj1 : (0 : Int) ≤ (j : Int) := by omega
                      have hj2 : (j : Int) < Z.length := by omega
                      obtain ⟨bZ, ofZ, rfl, hzb, hcZ⟩ := HXY.out.2.2.cells (fun e => by subst e; simp at hjl)
                      obtain ⟨ri2, ci2, hcz, hzI⟩ := hcZ j hjl
                      have hczz : wr.cell? ⟨bZ, ofZ + j, none⟩ = some (.slice ri2 (Z.getD j []).length ci2) := (hbZ.cell (p := ⟨bZ, ofZ + j, none⟩) hzb).trans hcz
                      clear hcZ hcz
                      have HQn : Hid ((Z.take (j + 1)).flatMap list8 = (Z.take j).flatMap list8 ++ list8 (Z.getD j [])) := Lib.hid (flat_take list8 hjl)
                      have hbd2 : out2.length + (8 + 8 * (Z.getD j []).length) ≤ 10000000000 := by
                        have := HLZ.out (j + 1)
                        rw [HQn.out, ← List.append_assoc, ← HQj.out, List.length_append, list8_len] at this
                        exact this
                      have HZI := Lib.hid hzI
                      clear hzI
                      generalize Z.getD j [] = row at *
                      have tk0 : True := trivial
                      go_wp2_with (first | (have _t := tk0; go_at_call 74; refine (wlist_any (w.heap.size + 1) ri2 ci2 row out2 w _ HZI.out (Nat.le_succ _) hbZ HWz.out (by omega)).mono ?_; rintro _ xR ⟨rfl, hxR, hyR, hkR⟩; have HXR := Lib.hid hxR; have HKR := Lib.hid hkR; clear hxR hkR tk0 _t))
                      go_roundg (Z.length - (j + 1))
                      case measure => omega
                      case rel => exact ⟨j + 1, out2 ++ list8 row, by go_num, by omega, by omega, hBz.trans hyR, HXR, Lib.hid (by rw [HQj.out, HQn.out, List.append_assoc])⟩
                    · obtain rfl : j = Z.length := by omega
                      have HQe : Hid (out2 = out ++ list8 X ++ list8 Y ++ Z.flatMap list8) := Lib.hid (by rw [HQj.out, List.take_length])
                      clear HQj HLZ
                      go_wp2
                      go_roundg (maps.length - (k + 1))
                      case measure => omega
                      case rel => exact ⟨k + 1, out2, by go_num, by omega, by omega, hBz, HWz, Lib.hid (by rw [HQe.out]; exact HQ3.out)⟩
                · obtain rfl : k = maps.length := by omega
                  have HQ1 : Hid (out = num8 code.length ++ code.flatMap Ins.by8 ++ num8 types.length ++ types.flatMap Fx.by8 ++ num8 curves.length ++ curves.flatMap (fun c => curveB8 c.p) ++ num8 maps.length ++ maps.flatMap (fun m => mapB8 m.p)) := Lib.hid (by rw [HQ.out, List.take_length])
                  have hol : out.length ≤ 10000000000 := by have h := HLB3.out maps.length; rw [List.take_length, ← HQ1.out] at h; exact h
                  clear HQ hkx hlt hk HLB3
                  have HLnO : Hid (out.length = 8 + (code.flatMap Ins.by8).length + 8 + (types.flatMap Fx.by8).length + 8 + (curves.flatMap (fun c => curveB8 c.p)).length + 8 + (maps.flatMap (fun m => mapB8 m.p)).length) := Lib.hid (by rw [HQ1.out]; simp only [List.length_append, num8_len])
                  go_wp2_with (go_at_call 72; refine (wint_any (w.heap.size + 1) _ out _ HW.out (by omega)).mono ?_; rintro _ v5 ⟨rfl, hw5, hb5, hk5⟩; have HW5 := Lib.hid hw5; clear hw5 hk5; have hB5 : Below (w.heap.size + 1) W1 v5 := hBr.trans hb5; have y5 : v5.cell? ⟨w.heap.size, 5, none⟩ = some (.slice ri inputs.length ci) := (hB5.cell (p := ⟨w.heap.size, 5, none⟩) (Nat.lt_succ_self _)).trans q5; have y6 : v5.cell? ⟨w.heap.size, 6, none⟩ = some (.slice rs states.length cs) := (hB5.cell (p := ⟨w.heap.size, 6, none⟩) (Nat.lt_succ_self _)).trans q6; have y7 : v5.cell? ⟨w.heap.size, 7, none⟩ = some (.slice ro outputs.length co) := (hB5.cell (p := ⟨w.heap.size, 7, none⟩) (Nat.lt_succ_self _)).trans q7; have y8 : v5.cell? ⟨w.heap.size, 8, none⟩ = some (.slice rn initial.length cn) := (hB5.cell (p := ⟨w.heap.size, 8, none⟩) (Nat.lt_succ_self _)).trans q8)
                  have hB5s := hB5.size
                  have HNW := Lib.hid (HW5.out.new (.cells #[.slice ri inputs.length ci, .slice rs states.length cs, .slice ro outputs.length co, .slice rn initial.length cn] 26))
                  have hbA : Below (w.heap.size + 1) W1 (v5.alloc (.cells #[.slice ri inputs.length ci, .slice rs states.length cs, .slice ro outputs.length co, .slice rn initial.length cn] 26)) := hB5.alloc (by omega) _
                  have l0 : (v5.alloc (.cells #[.slice ri inputs.length ci, .slice rs states.length cs, .slice ro outputs.length co, .slice rn initial.length cn] 26)).cell? ⟨v5.heap.size, 0, none⟩ = some (.slice ri inputs.length ci) := World.cell?_alloc_new _ _ _ _
                  have l1 : (v5.alloc (.cells #[.slice ri inputs.length ci, .slice rs states.length cs, .slice ro outputs.length co, .slice rn initial.length cn] 26)).cell? ⟨v5.heap.size, 1, none⟩ = some (.slice rs states.length cs) := World.cell?_alloc_new _ _ _ _
                  have l2 : (v5.alloc (.cells #[.slice ri inputs.length ci, .slice rs states.length cs, .slice ro outputs.length co, .slice rn initial.length cn] 26)).cell? ⟨v5.heap.size, 2, none⟩ = some (.slice ro outputs.length co) := World.cell?_alloc_new _ _ _ _
                  have l3 : (v5.alloc (.cells #[.slice ri inputs.length ci, .slice rs states.length cs, .slice ro outputs.length co, .slice rn initial.length cn] 26)).cell? ⟨v5.heap.size, 3, none⟩ = some (.slice rn initial.length cn) := World.cell?_alloc_new _ _ _ _
                  generalize v5.alloc (.cells #[.slice ri inputs.length ci, .slice rs states.length cs, .slice ro outputs.length co, .slice rn initial.length cn] 26) = W6 at *
                  generalize v5.heap.size = Lb at *
                  have holn : out.length ≤ 10000000000 := by have := HLnO.out; omega
                  go_loopg [166] 4 (fun kx s166 wr => ∃ (j : Nat), s166 = .int .i64 j ∧ j ≤ 4 ∧ 4 - j ≤ kx ∧ Below (w.heap.size + 1) W1 wr ∧ Hid (KeepW W6 wr (w.heap.size + 1)) ∧ Hid ((j = 0 → Wr wr (w.heap.size + 1) (out ++ num8 cells)) ∧ (j = 1 → Wr wr (w.heap.size + 1) (out ++ num8 cells ++ list8 inputs)) ∧ (j = 2 → Wr wr (w.heap.size + 1) (out ++ num8 cells ++ list8 inputs ++ list8 states)) ∧ (j = 3 → Wr wr (w.heap.size + 1) (out ++ num8 cells ++ list8 inputs ++ list8 states ++ list8 outputs)) ∧ (j = 4 → Wr wr (w.heap.size + 1) (out ++ num8 cells ++ list8 inputs ++ list8 states ++ list8 outputs ++ list8 initial))))
                  case atStart => exact ⟨0, rfl, by omega, by omega, hbA, Lib.hid (KeepW.refl _ _), Lib.hid ⟨fun _ => HNW.out.1, fun h => absurd h (by omega), fun h => absurd h (by omega), fun h => absurd h (by omega), fun h => absurd h (by omega)⟩⟩
                  case round =>
                    clear HW HW5
                    obtain ⟨j, rfl, hj, hjx, hBz, HKZ, HWz⟩ := hrel
                    have hbZ : Below w.heap.size w wr := hBW.trans (hBz.mono (Nat.le_succ _))
                    by_cases hjl : j < 4
                    · obtain rfl | rfl | rfl | rfl : j = 0 ∨ j = 1 ∨ j = 2 ∨ j = 3 := by omega
                      · have hc : wr.cell? ⟨Lb, 0, none⟩ = some (.slice ri inputs.length ci) := (World.cell?_of_block (a := ⟨Lb, 0, none⟩) (HKZ.out _ HNW.out.2).2).trans l0
                        have HWj := Lib.hid (HWz.out.1 rfl)
                        have hlj : (out ++ num8 cells).length = out.length + (8) := by simp only [List.length_append, num8_len, list8_len]; (try omega)
                        have hlk := HLnO.out
                        go_wp2_with (go_at_call 74; refine (wlist_any (w.heap.size + 1) ri ci inputs (out ++ num8 cells) w _ HI1.out (Nat.le_succ _) hbZ HWj.out (by omega)).mono ?_; rintro _ v6 ⟨rfl, hw6, hb6, hk6⟩; have HW6 := Lib.hid hw6; have HK6 := Lib.hid (HKZ.out.trans hk6); clear hw6 hk6)
                        go_roundg 3
                        case measure => omega
                        case rel => exact ⟨1, by go_num, by omega, by omega, hBz.trans hb6, HK6, Lib.hid ⟨fun h => absurd h (by omega), fun _ => HW6.out, fun h => absurd h (by omega), fun h => absurd h (by omega), fun h => absurd h (by omega)⟩⟩
                      · have hc : wr.cell? ⟨Lb, 1, none⟩ = some (.slice rs states.length cs) := (World.cell?_of_block (a := ⟨Lb, 1, none⟩) (HKZ.out _ HNW.out.2).2).trans l1
                        have HWj := Lib.hid (HWz.out.2.1 rfl)
                        have hlj : (out ++ num8 cells ++ list8 inputs).length = out.length + (8 + (8 + 8 * inputs.length)) := by simp only [List.length_append, num8_len, list8_len]; (try omega)
                        have hlk := HLnO.out
                        go_wp2_with (go_at_call 74; refine (wlist_any (w.heap.size + 1) rs cs states (out ++ num8 cells ++ list8 inputs) w _ HI2.out (Nat.le_succ _) hbZ HWj.out (by omega)).mono ?_; rintro _ v6 ⟨rfl, hw6, hb6, hk6⟩; have HW6 := Lib.hid hw6; have HK6 := Lib.hid (HKZ.out.trans hk6); clear hw6 hk6)
                        go_roundg 2
                        case measure => omega
                        case rel => exact ⟨2, by go_num, by omega, by omega, hBz.trans hb6, HK6, Lib.hid ⟨fun h => absurd h (by omega), fun h => absurd h (by omega), fun _ => HW6.out, fun h => absurd h (by omega), fun h => absurd h (by omega)⟩⟩
                      · have hc : wr.cell? ⟨Lb, 2, none⟩ = some (.slice ro outputs.length co) := (World.cell?_of_block (a := ⟨Lb, 2, none⟩) (HKZ.out _ HNW.out.2).2).trans l2
                        have HWj := Lib.hid (HWz.out.2.2.1 rfl)
                        have hlj : (out ++ num8 cells ++ list8 inputs ++ list8 states).length = out.length + (8 + (8 + 8 * inputs.length) + (8 + 8 * states.length)) := by simp only [List.length_append, num8_len, list8_len]; (try omega)
                        have hlk := HLnO.out
                        go_wp2_with (go_at_call 74; refine (wlist_any (w.heap.size + 1) ro co outputs (out ++ num8 cells ++ list8 inputs ++ list8 states) w _ HI3.out (Nat.le_succ _) hbZ HWj.out (by omega)).mono ?_; rintro _ v6 ⟨rfl, hw6, hb6, hk6⟩; have HW6 := Lib.hid hw6; have HK6 := Lib.hid (HKZ.out.trans hk6); clear hw6 hk6)
                        go_roundg 1
                        case measure => omega
                        case rel => exact ⟨3, by go_num, by omega, by omega, hBz.trans hb6, HK6, Lib.hid ⟨fun h => absurd h (by omega), fun h => absurd h (by omega), fun h => absurd h (by omega), fun _ => HW6.out, fun h => absurd h (by omega)⟩⟩
                      · have hc : wr.cell? ⟨Lb, 3, none⟩ = some (.slice rn initial.length cn) := (World.cell?_of_block (a := ⟨Lb, 3, none⟩) (HKZ.out _ HNW.out.2).2).trans l3
                        have HWj := Lib.hid (HWz.out.2.2.2.1 rfl)
                        have hlj : (out ++ num8 cells ++ list8 inputs ++ list8 states ++ list8 outputs).length = out.length + (8 + (8 + 8 * inputs.length) + (8 + 8 * states.length) + (8 + 8 * outputs.length)) := by simp only [List.length_append, num8_len, list8_len]; (try omega)
                        have hlk := HLnO.out
                        go_wp2_with (go_at_call 74; refine (wlist_any (w.heap.size + 1) rn cn initial (out ++ num8 cells ++ list8 inputs ++ list8 states ++ list8 outputs) w _ HI4.out (Nat.le_succ _) hbZ HWj.out (by omega)).mono ?_; rintro _ v6 ⟨rfl, hw6, hb6, hk6⟩; have HW6 := Lib.hid hw6; have HK6 := Lib.hid (HKZ.out.trans hk6); clear hw6 hk6)
                        go_roundg 0
                        case measure => omega
                        case rel => exact ⟨4, by go_num, by omega, by omega, hBz.trans hb6, HK6, Lib.hid ⟨fun h => absurd h (by omega), fun h => absurd h (by omega), fun h => absurd h (by omega), fun h => absurd h (by omega), fun _ => HW6.out⟩⟩
                    · obtain rfl : j = 4 := by omega
                      obtain ⟨rq, cq, hqb, hqc, hqf, hqo⟩ := HWz.out.2.2.2.2 rfl
                      have HQO := Lib.hid hqo
                      clear hqo HLnO
                      have he : out ++ num8 cells ++ list8 inputs ++ list8 states ++ list8 outputs ++ list8 initial = num8 code.length ++ code.flatMap Ins.by8 ++ num8 types.length ++ types.flatMap Fx.by8 ++ num8 curves.length ++ curves.flatMap (fun c => curveB8 c.p) ++ num8 maps.length ++ maps.flatMap (fun m => mapB8 m.p) ++ num8 cells ++ list8 inputs ++ list8 states ++ list8 outputs ++ list8 initial := by rw [HQ1.out]
                      have HEQ := Lib.hid he
                      clear he
                      go_wp2
                      go_ret
                      exact ⟨rq, cq, out ++ num8 cells ++ list8 inputs ++ list8 states ++ list8 outputs ++ list8 initial, by first | rfl | (simp only [List.length_append, num8_len, list8_len]; done) | (simp; done), HQO.out.base (by omega), hbZ, by first | exact HEQ.out | (rw [HEQ.out]; simp only [List.append_assoc])⟩
theorem ibody_any (p : PV) (w : World) (hp : IsP w p) (hfm : ∀ i ∈ p.code, formB i.op i.a i.b i.c i.k = true) (hl : p.p.body.length ≤ 10000000000) : Calls Try.prog 36 #[p.val] w fun e w' => ∃ r c, e = .returned (.slice r p.p.body.length c) ∧ OwnK .u8 5 w' w.heap.size r c p.p.body ∧ Below w.heap.size w w' := by
  obtain ⟨rc, cc, code, rt, ct, types, rv, cv, curves, rm, cm, maps, cells, ri, ci, inputs, rs, cs, states, ro, co, outputs, rn, cn, initial⟩ := p
  have HE : PP.body (PV.p ⟨rc, cc, code, rt, ct, types, rv, cv, curves, rm, cm, maps, cells, ri, ci, inputs, rs, cs, states, ro, co, outputs, rn, cn, initial⟩) = num8 code.length ++ code.flatMap Ins.by8 ++ num8 types.length ++ types.flatMap Fx.by8 ++ num8 curves.length ++ curves.flatMap (fun c => curveB8 c.p) ++ num8 maps.length ++ maps.flatMap (fun m => mapB8 m.p) ++ num8 cells ++ list8 inputs ++ list8 states ++ list8 outputs ++ list8 initial := by unfold PP.body PV.p; simp only [List.length_map]; rw [flat_curves, flat_maps]
  rw [HE] at hl ⊢
  refine (ibody_main rc cc code rt ct types rv cv curves rm cm maps cells ri ci inputs rs cs states ro co outputs rn cn initial w hp hfm hl).mono ?_
  rintro e w' ⟨r, c, out, h1, h2, h3, rfl⟩
  exact ⟨r, c, h1, h2, h3⟩
end Go.Proofs.Ytfooefiaenlhmaa
namespace Go.Proofs.Ytfooefiaenlhmaa
set_option linter.unusedVariables false
set_option linter.unusedSimpArgs false
open Go.RowKit Go.ChangeShapes Go.WideShapes Go.ChangeAt

def formI (i : Ins) : Bool := formB i.op i.a i.b i.c i.k
end Go.Proofs.Ytfooefiaenlhmaa
namespace Go.Proofs.Ytfooefiaenlhmaa
set_option linter.unusedVariables false
set_option linter.unusedSimpArgs false
open Go.RowKit Go.ChangeShapes Go.WideShapes Go.ChangeAt

theorem valid_form {p : PV} (h : validB p = true) : ∀ i ∈ p.code, formB i.op i.a i.b i.c i.k = true := fun i hi => by
  unfold validB at h
  simp only [Bool.and_eq_true] at h
  have h4 := h.2.2.2.2.1
  simp only [Bool.not_eq_true', List.any_eq_false] at h4
  have := h4 i hi
  simp only [Bool.not_eq_true', Bool.not_eq_false] at this
  rw [show ∀ a b c d e, fitB a b c d e = (formB e.op e.a e.b e.c e.k && _) from fun _ _ _ _ _ => rfl] at this
  simp only [Bool.and_eq_true] at this
  exact this.1
set_option maxRecDepth 100000 in
set_option maxHeartbeats 2000000 in
theorem iencode_bad (p : PV) (w : World) (hp : IsP w p) (hv : validB p = false) : Calls Try.prog 10 #[p.val] w fun e w' => e = .returned (.tuple #[.slice none 0 0, .int .i64 1]) ∧ Below w.heap.size w w' := by
  have HV := Lib.hid (fun W (h : Below w.heap.size w W) => mvalid_any p W (hp.later h))
  rw [hv] at HV
  clear hv hp
  obtain ⟨rc, cc, code, rt, ct, types, rv, cv, curves, rm, cm, maps, cells, ri, ci, inputs, rs, cs, states, ro, co, outputs, rn, cn, initial⟩ := p
  simp only [PV.val] at HV ⊢
  go_enter Try.func10, Try.ntmps10
  go_wp2_with (first | (go_at_call 34; refine (HV.out _ (by (repeat' (first | (with_reducible exact Below.refl _ _) | (with_reducible assumption) | (with_reducible refine below_alloc ?_ _) | (with_reducible refine Below.drew ?_) | (with_reducible refine below_drewN ?_ _) | (with_reducible refine below_step (by assumption) ?_) | (with_reducible refine below_later ?_ _) | (with_reducible refine Below.setCell ?_ ?_ _) | go_size)))).mono ?_; rintro _ w1 ⟨rfl, hb1⟩))
  refine bodyPost_ret (by simp [results, Try.results10, go_sem, *]; try rfl) rfl ?_
  exact ⟨rfl, by (repeat' (first | (with_reducible exact Below.refl _ _) | (with_reducible assumption) | (with_reducible refine below_alloc ?_ _) | (with_reducible refine Below.drew ?_) | (with_reducible refine below_drewN ?_ _) | (with_reducible refine below_step (by assumption) ?_) | (with_reducible refine below_later ?_ _) | (with_reducible refine Below.setCell ?_ ?_ _) | go_size))⟩
set_option maxRecDepth 100000 in
set_option maxHeartbeats 2000000 in
theorem iencode_ok (p : PV) (w : World) (hp : IsP w p) (hv : validB p = true) (hl : p.p.body.length ≤ 10000000000) : Calls Try.prog 10 #[p.val] w fun e w' => ∃ r c, e = .returned (.tuple #[.slice r (sealL p.p.body).length c, .int .i64 0]) ∧ OwnK .u8 5 w' w.heap.size r c (sealL p.p.body) ∧ Below w.heap.size w w' := by
  have HV := Lib.hid (fun W (h : Below w.heap.size w W) => mvalid_any p W (hp.later h))
  have hf := valid_form hv
  rw [hv] at HV
  have HB := Lib.hid (fun W (h : Below w.heap.size w W) => ibody_any p W (hp.later h) hf hl)
  have HBY := Lib.hid (body_byte p.p)
  clear hv hp hf
  obtain ⟨rc, cc, code, rt, ct, types, rv, cv, curves, rm, cm, maps, cells, ri, ci, inputs, rs, cs, states, ro, co, outputs, rn, cn, initial⟩ := p
  simp only [PV.val] at HV HB ⊢
  generalize PP.body _ = bd at *
  go_enter Try.func10, Try.ntmps10
  go_wp2_with (first | (go_at_call 34; refine (HV.out _ (by (repeat' (first | (with_reducible exact Below.refl _ _) | (with_reducible assumption) | (with_reducible refine below_alloc ?_ _) | (with_reducible refine Below.drew ?_) | (with_reducible refine below_drewN ?_ _) | (with_reducible refine below_step (by assumption) ?_) | (with_reducible refine below_later ?_ _) | (with_reducible refine Below.setCell ?_ ?_ _) | go_size)))).mono ?_; rintro _ w1 ⟨rfl, hb1⟩; obtain ⟨hb1c, hb1f⟩ := bcell hb1; have hb1s := hb1.size; (try simp only [World.size_alloc] at hb1s); have hx1 : w.heap.size < w1.heap.size := (by omega); have hB1 : Below w.heap.size w w1 := (by (repeat' (first | (with_reducible exact Below.refl _ _) | (with_reducible assumption) | (with_reducible refine below_alloc ?_ _) | (with_reducible refine Below.drew ?_) | (with_reducible refine below_drewN ?_ _) | (with_reducible refine below_step (by assumption) ?_) | (with_reducible refine below_later ?_ _) | (with_reducible refine Below.setCell ?_ ?_ _) | go_size)))) | (go_at_call 36; refine (HB.out _ hB1).mono ?_; rintro _ w2 ⟨r2, c2, rfl, ho2, hb2⟩; have HO2 := Lib.hid ho2; have hb2s := hb2.size; clear ho2) | (go_at_call 35; refine (sealed_any w1.heap.size r2 c2 bd w2 HO2.out HBY.out (by omega) (by omega)).mono ?_; rintro _ w3 ⟨r3, c3, rfl, ho3, hb3⟩; have HO3 := Lib.hid ho3; clear ho3))
  refine bodyPost_ret (by simp [results, Try.results10, go_sem, *]; try rfl) rfl ?_
  exact ⟨r3, c3, rfl, HO3.out.base (by omega), (hB1.trans (hb2.mono (by omega))).trans (hb3.mono (by omega))⟩
set_option maxRecDepth 100000 in
set_option maxHeartbeats 2000000 in
theorem rsealed_any (r : Option Addr) (cap : Nat) (xs : List Int) (w : World) (hx : IsInts w r cap .u8 xs) (hl : xs.length ≤ 90000000000) : Calls Try.prog 43 #[.slice r xs.length cap] w fun e w' => ∃ ro co, e = .returned (.slice ro (sealL xs).length co) ∧ OwnK .u8 5 w' w.heap.size ro co (sealL xs) ∧ Below w.heap.size w w' := by
  have ⟨s0, s1⟩ := sumB_u32 xs
  have HM : Hid (∀ k, k ≤ padN (summed xs).length → ((((summed xs ++ List.replicate k (0 : Int)).length : Int)) % 4 = 0 ↔ k = padN (summed xs).length)) := Lib.hid (fun k hk => by
    rw [List.length_append, List.length_replicate]
    have := padN_mod (n := (summed xs).length) hk
    omega)
  have HL : Hid ((summed xs).length = xs.length + 4) := Lib.hid (summed_len xs)
  have HP : Hid (padN (summed xs).length ≤ 3) := Lib.hid (padN_lt _)
  have HE : Hid (sealL xs = summed xs ++ List.replicate (padN (summed xs).length) 0) := Lib.hid rfl
  have HU : Hid (summed xs = xs ++ b4 (sumB xs)) := Lib.hid rfl
  have HX := Lib.hid (fun W (h : Below w.heap.size w W) => hx.later h)
  clear hx
  generalize sealL xs = res at *
  generalize padN (summed xs).length = pd at *
  generalize summed xs = sm at *
  have t0 : True := trivial
  go_enter Try.func43, Try.ntmps43
  generalize hsm : sumB xs = sv at *
  go_wp2_with (first | (go_at_call 12; refine (rsum_any _ _ _ _ (HX.out _ (Below.refl _ _))).mono ?_; rintro e w1 ⟨rfl, hb1⟩; rw [hsm]; have hbz : w.heap.size ≤ w1.heap.size := hb1.size; have OW0 : Hid (OwnK .u8 5 (w1.alloc (.cells #[] 5)) w.heap.size (some ⟨w1.heap.size, 0, none⟩) 0 []) := Lib.hid (own_built .u8 5 w1 w.heap.size [] hbz (by simp [maxLen])); have hBa : Below w.heap.size w (w1.alloc (.cells #[] 5)) := hb1.alloc hbz _) | (have _t := t0; at_builtin; refine wpList_append_ks Try.underlying29 infoU8 rfl (by omega) (by rfl) _ _ (by rfl) w.heap.size (some ⟨w1.heap.size, 0, none⟩) r 0 cap [] xs (by rfl) (by rfl) OW0.out (HX.out _ hBa) (by simp only [List.length_nil]; omega) (by simp only [World.size_alloc]; omega) ?_; intro ra ca w2 howna hbwa; have HOA : Hid (OwnK .u8 5 w2 w.heap.size ra ca xs) := Lib.hid (by simpa using howna); clear howna t0 _t; have hB2 : Below w.heap.size w w2 := hBa.trans hbwa; have hB2s := hB2.size) | (at_builtin; refine wpList_append_k Try.underlying29 infoU8 rfl (by omega) (by rfl) _ _ (by rfl) w2 w.heap.size ra ca xs (b4 sv) 4 rfl (by omega) (by first | rfl | (rw [← b4_wrap s0 s1]; rfl)) (by first | rfl | simp) (by rfl) HOA.out (by omega) hB2s ?_; intro r' c' w3 hown3 hbw3; have HO3 := Lib.hid hown3; clear hown3))
  have hlen : xs.length + 4 = sm.length := HL.out.symm
  rw [hlen]
  have hO3 : Hid (OwnK .u8 5 w3 w.heap.size r' c' sm) := Lib.hid (by rw [HU.out]; exact HO3.out)
  have hbw : Below w.heap.size w w3 := hB2.trans hbw3
  clear HO3 HOA OW0
  have hsml : sm.length ≤ 90000000004 := by omega
  go_loopg [4] 4 (fun kx s4 wr => ∃ (k : Nat) (ro : Option Addr) (co : Nat) (out : List Int), s4 = .slice ro out.length co ∧ k ≤ pd ∧ pd - k ≤ kx ∧ Below w.heap.size w wr ∧ Hid (OwnK .u8 5 wr w.heap.size ro co out) ∧ Hid (out = sm ++ List.replicate k 0) ∧ out.length ≤ 90000000010)
  case atStart => exact ⟨0, _, _, sm, rfl, by omega, by have := HP.out; omega, hbw, hO3, Lib.hid (by simp), by omega⟩
  case round =>
    obtain ⟨k, ro, co, out, rfl, hk, hkx, hbr, HOr, HQ, hol⟩ := hrel
    have hbs : w.heap.size ≤ wr.heap.size := hbr.size
    have HMk := Lib.hid (HM.out k hk)
    rw [← HQ.out] at HMk
    by_cases hlt : k < pd
    · have hm : ¬ ((out.length : Int) % 4 = 0) := fun h => by have := HMk.out.1 h; omega
      go_wp2_with (at_builtin; refine wpList_append_k Try.underlying29 infoU8 rfl (by omega) (by rfl) _ _ (by rfl) wr w.heap.size ro co out [0] 1 rfl (by omega) (by rfl) (by rfl) (by rfl) HOr.out (by omega) hbs ?_; intro r2 c2 w4 hown4 hbw4; have HO4 := Lib.hid hown4; clear hown4)
      go_roundg (pd - (k + 1))
      case measure => omega
      case rel => exact ⟨k + 1, r2, c2, out ++ [0], by simp, by omega, by omega, hbr.trans hbw4, HO4, Lib.hid (by rw [HQ.out, List.append_assoc, List.replicate_succ']), by have := HQ.out; have := HP.out; rw [HQ.out]; simp only [List.length_append, List.length_replicate, List.length_singleton]; omega⟩
    · obtain rfl : k = pd := by omega
      have hm : (out.length : Int) % 4 = 0 := HMk.out.2 rfl
      go_wp2
      go_ret
      have he : out = res := by rw [HE.out, HQ.out]
      subst he
      exact ⟨ro, co, rfl, HOr.out, hbr⟩
set_option maxRecDepth 100000 in
set_option maxHeartbeats 2000000 in
theorem rencode_any (p : PV) (w : World) (hp : IsP w p) (hl : p.p.body.length ≤ 10000000000) : Calls Try.prog 15 #[p.val] w fun e w' => ∃ r c, e = .returned (.slice r (sealL p.p.body).length c) ∧ OwnK .u8 5 w' w.heap.size r c (sealL p.p.body) ∧ Below w.heap.size w w' := by
  have HB := Lib.hid (fun W (h : Below w.heap.size w W) => rbody_any p W (hp.later h) hl)
  have HBY := Lib.hid (body_byte p.p)
  clear hp
  obtain ⟨rc, cc, code, rt, ct, types, rv, cv, curves, rm, cm, maps, cells, ri, ci, inputs, rs, cs, states, ro, co, outputs, rn, cn, initial⟩ := p
  simp only [PV.val] at HB ⊢
  generalize PP.body _ = bd at *
  go_enter Try.func15, Try.ntmps15
  go_wp2_with (first | (go_at_call 22; refine (HB.out _ (by (repeat' (first | (with_reducible exact Below.refl _ _) | (with_reducible assumption) | (with_reducible refine below_alloc ?_ _) | (with_reducible refine Below.drew ?_) | (with_reducible refine below_drewN ?_ _) | (with_reducible refine below_step (by assumption) ?_) | (with_reducible refine below_later ?_ _) | (with_reducible refine Below.setCell ?_ ?_ _) | go_size)))).mono ?_; rintro _ w2 ⟨r2, c2, rfl, ho2, hb2⟩; have HO2 := Lib.hid (ints_b ho2 HBY.out); have hb2s := hb2.size; (try simp only [World.size_alloc] at hb2s); clear ho2; have hB2 : Below w.heap.size w w2 := (by (repeat' (first | (with_reducible exact Below.refl _ _) | (with_reducible assumption) | (with_reducible refine below_alloc ?_ _) | (with_reducible refine Below.drew ?_) | (with_reducible refine below_drewN ?_ _) | (with_reducible refine below_step (by assumption) ?_) | (with_reducible refine below_later ?_ _) | (with_reducible refine Below.setCell ?_ ?_ _) | go_size)))) | (go_at_call 43; refine (rsealed_any r2 c2 bd w2 HO2.out (by omega)).mono ?_; rintro _ w3 ⟨r3, c3, rfl, ho3, hb3⟩; have HO3 := Lib.hid ho3; clear ho3))
  go_ret
  exact ⟨r3, c3, rfl, HO3.out.base (by omega), hB2.trans (hb3.mono (by omega))⟩
end Go.Proofs.Ytfooefiaenlhmaa
namespace Go.Proofs.Ytfooefiaenlhmaa
set_option linter.unusedVariables false
set_option linter.unusedSimpArgs false
open Go.RowKit Go.ChangeShapes Go.WideShapes Go.ChangeAt

def idxR (p : List Int → Bool) (Z : List (List Int)) : Int := if Z.any p = true then (Z.findIdx p : Nat) else -1
theorem idxR_hit {p : List Int → Bool} {Z : List (List Int)} {k : Nat} (hk : k < Z.length) (h0 : ∀ t, t < k → p (Z.getD t []) = false) (h1 : p (Z.getD k []) = true) : idxR p Z = k := by
  have hg : ∀ t (h : t < Z.length), Z.getD t [] = Z[t] := fun t h => by simp [List.getD, List.getElem?_eq_getElem h]
  have hf : Z.findIdx p = k := by
    rw [List.findIdx_eq hk]
    refine ⟨by rw [← hg k hk]; exact h1, fun j hj => ?_⟩
    rw [← hg j (by omega)]
    exact h0 j hj
  have ha : Z.any p = true := List.any_eq_true.2 ⟨Z[k], List.getElem_mem hk, by rw [← hg k hk]; exact h1⟩
  simp [idxR, ha, hf]
theorem idxR_miss {p : List Int → Bool} {Z : List (List Int)} (h0 : ∀ t, t < Z.length → p (Z.getD t []) = false) : idxR p Z = -1 := by
  have ha : Z.any p = false := by
    rw [List.any_eq_false]
    intro x hx
    obtain ⟨t, ht, rfl⟩ := List.getElem_of_mem hx
    have := h0 t ht
    simpa [List.getD, List.getElem?_eq_getElem ht] using this
  simp [idxR, ha]
theorem idxR_any (p : List Int → Bool) (Z : List (List Int)) : decide (0 ≤ idxR p Z) = Z.any p := by
  unfold idxR
  split
  · rename_i h; rw [h]; simp
  · rename_i h; simp at h ⊢; simpa using h

set_option maxHeartbeats 1000000 in
theorem indexFuncR_any (g : Nat) (cb : Array Value) (r : Option Addr) (cap : Nat) (Z : List (List Int)) (p : List Int → Bool) (w : World) (eg : ∀ args w, (callFunc g args).run Try.prog w = .ok (.enter g args) w) (hZ : IsRows w r cap Z) (hne : Z ≠ [])
    (hf : ∀ (e : Later w) (k : Nat) (ri : Option Addr) (ci : Nat), k < Z.length → IsInts e.w ri ci .i64 (Z.getD k []) → Calls Try.prog g (#[.slice ri (Z.getD k []).length ci] ++ cb) e.w fun a w' => a = .returned (.bool (p (Z.getD k []))) ∧ Below e.w.heap.size e.w w') :
    Calls Try.prog 56 #[.slice r Z.length cap, .func (.func g) #[] cb] w fun e w' => e = .returned (.int .i64 (idxR p Z)) ∧ Below w.heap.size w w' := by
  have HF := Lib.hid hf
  have hmax := hZ.max
  have hle := hZ.le
  unfold maxLen at hmax
  obtain ⟨b, off, rfl, hb, hc⟩ := hZ.cells hne
  have HC := Lib.hid hc
  clear hc hf hZ hne
  generalize hn : Z.length = n at *
  have HN := Lib.hid hn
  clear hn
  go_enter Try.func56, Try.ntmps56
  go_wp2
  go_loopg [8] n (fun kx s8 wr => ∃ (k : Nat) (e : Later w), s8 = .int .i64 k ∧ k ≤ n ∧ n - k ≤ kx ∧ wr = e.w ∧ Hid (∀ t, t < k → p (Z.getD t []) = false))
  case atStart => exact ⟨0, ⟨w, Below.refl _ _⟩, rfl, Nat.zero_le _, by omega, rfl, Lib.hid (fun t h => absurd h (Nat.not_lt_zero _))⟩
  case round =>
    obtain ⟨k, e, rfl, hk, hkx, rfl, HP⟩ := hrel
    have hes := e.h.size
    by_cases hlt : k < n
    · obtain ⟨ri, ci, g1, g2⟩ := HC.out k hlt
      have hcell : e.w.cell? ⟨b, off + k, none⟩ = some (.slice ri (Z.getD k []).length ci) := by
        rw [Later.cell e hb]
        exact g1
      have hcall := HF.out e k ri ci hlt (g2.later e.h)
      have HHIT : Hid (p (Z.getD k []) = true → idxR p Z = k) := Lib.hid (fun h => idxR_hit (by have := HN.out; omega) HP.out h)
      have HMISS : Hid (p (Z.getD k []) = false → ∀ t, t < k + 1 → p (Z.getD t []) = false) := Lib.hid (fun h t ht => by
        by_cases e : t = k
        · subst e; exact h
        · exact HP.out t (by omega))
      clear g1 g2
      generalize Z.getD k [] = row at *
      cases hp : p row <;> rw [hp] at hcall
      · have HQ := Lib.hid (HMISS.out hp)
        clear hp
        go_wp2_with (go_at_fn g; refine hcall.mono ?_; rintro a w' ⟨rfl, hb2⟩)
        go_roundg (n - (k + 1))
        case measure => omega
        case rel =>
          obtain ⟨e', rfl⟩ := e.next hb2
          exact ⟨k + 1, e', by go_num, by omega, Nat.le_refl _, rfl, HQ⟩
      · have HQ := Lib.hid (HHIT.out hp)
        clear hp
        go_wp2_with (go_at_fn g; refine hcall.mono ?_; rintro a w' ⟨rfl, hb2⟩)
        go_ret
        exact ⟨by rw [HQ.out]; first | done | rfl, by obtain ⟨e', rfl⟩ := e.next hb2; exact e'.h⟩
    · obtain rfl : k = n := by omega
      have HQ := Lib.hid (idxR_miss (p := p) (Z := Z) (fun t ht => HP.out t (by have := HN.out; omega)))
      go_wp2
      go_ret
      exact ⟨by rw [HQ.out]; first | done | rfl, e.h⟩

theorem containsFuncR_any (g : Nat) (cb : Array Value) (r : Option Addr) (cap : Nat) (Z : List (List Int)) (p : List Int → Bool) (w : World) (eg : ∀ args w, (callFunc g args).run Try.prog w = .ok (.enter g args) w) (hZ : IsRows w r cap Z) (hne : Z ≠ [])
    (hf : ∀ (e : Later w) (k : Nat) (ri : Option Addr) (ci : Nat), k < Z.length → IsInts e.w ri ci .i64 (Z.getD k []) → Calls Try.prog g (#[.slice ri (Z.getD k []).length ci] ++ cb) e.w fun a w' => a = .returned (.bool (p (Z.getD k []))) ∧ Below e.w.heap.size e.w w') :
    Calls Try.prog 32 #[.slice r Z.length cap, .func (.func g) #[] cb] w fun e w' => e = .returned (.bool (Z.any p)) ∧ Below w.heap.size w w' := by
  have HI := Lib.hid (indexFuncR_any g cb r cap Z p w eg hZ hne hf)
  clear hf hZ
  go_enter Try.func32, Try.ntmps32
  go_wp2_with ((go_at_call 56; refine (HI.out).mono ?_; rintro e hb1w ⟨rfl, hb1⟩; obtain ⟨hb1c, hb1f⟩ := bcell hb1; have hb1s := hb1.size; (try simp only [World.size_alloc] at hb1s); (try (have : w.heap.size < hb1w.heap.size := by omega)); (try (have : w.heap.size + 1 < hb1w.heap.size := by omega)); (try (have : w.heap.size + 1 + 1 < hb1w.heap.size := by omega)); (try (have : w.heap.size + 1 + 1 + 1 < hb1w.heap.size := by omega)); (try (have : bX < hb1w.heap.size := by omega)); (try (have : bY < hb1w.heap.size := by omega)); (try (have : bZ < hb1w.heap.size := by omega))))
  go_ret
  exact ⟨ret_bool (idxR_any p Z), by (repeat' (first | (with_reducible exact Below.refl _ _) | (with_reducible assumption) | (with_reducible refine below_alloc ?_ _) | (with_reducible refine Below.drew ?_) | (with_reducible refine below_drewN ?_ _) | (with_reducible refine below_step (by assumption) ?_) | (with_reducible refine below_later ?_ _) | (with_reducible refine Below.setCell ?_ ?_ _) | go_size))⟩
end Go.Proofs.Ytfooefiaenlhmaa
namespace Go.Proofs.Ytfooefiaenlhmaa
set_option linter.unusedVariables false
set_option linter.unusedSimpArgs false
open Go.RowKit Go.ChangeShapes Go.WideShapes Go.ChangeAt

theorem mx2 (a b : Int) : ∃ m : Int, (∀ w, (Builtin.max_ #[3, 3] 3 #[.int .i64 a, .int .i64 b]).run Try.prog w = .ok (.int .i64 m) w) ∧ m = max a b := by
  refine ⟨_, fun _ => rfl, ?_⟩
  split <;> omega
theorem mx3 (a b c : Int) : ∃ m : Int, (∀ w, (Builtin.max_ #[3, 3, 3] 3 #[.int .i64 a, .int .i64 b, .int .i64 c]).run Try.prog w = .ok (.int .i64 m) w) ∧ m = max a (max b c) := by
  refine ⟨_, fun _ => rfl, ?_⟩
  (repeat' split) <;> omega
theorem mx4 (a b c d : Int) : ∃ m : Int, (∀ w, (Builtin.max_ #[3, 3, 3, 3] 3 #[.int .i64 a, .int .i64 b, .int .i64 c, .int .i64 d]).run Try.prog w = .ok (.int .i64 m) w) ∧ m = max a (max b (max c d)) := by
  refine ⟨_, fun _ => rfl, ?_⟩
  (repeat' split) <;> omega
def gC (c : Cv) : Bool := decide ((10 : Int) < max (c.X.length : Int) c.Y.length)
def gR (l : List Int) : Bool := decide ((10 : Int) < l.length)
def gM (m : Mp) : Bool := decide ((10 : Int) < max (m.X.length : Int) (max (m.Y.length : Int) m.Z.length)) || m.Z.any gR
def szG (p : PV) : Bool := decide ((60 : Int) < p.code.length) || (decide ((20 : Int) < p.types.length) || (decide ((20 : Int) < p.curves.length) || (decide ((20 : Int) < p.maps.length) || decide ((60 : Int) < max (p.inputs.length : Int) (max (p.states.length : Int) (max (p.outputs.length : Int) p.initial.length))))))
/-- Whether a program exceeds the limits. -/
def greatB (p : PV) : Bool := szG p || (p.curves.any gC || p.maps.any gM)
set_option maxRecDepth 100000 in
set_option maxHeartbeats 2000000 in
theorem g1_any (c : Cv) (w : World) : Calls Try.prog 29 #[.agg #[.slice c.rx c.X.length c.cx, .slice c.ry c.Y.length c.cy]] w fun e w' => e = .returned (.bool (gC c)) ∧ Below w.heap.size w w' := by
  obtain ⟨rx, cx, X, ry, cy, Y⟩ := c
  obtain ⟨m, HM, hm⟩ := mx2 (X.length : Int) (Y.length : Int)
  simp only [gC]
  rw [← hm]
  clear hm
  go_enter Try.func29, Try.ntmps29
  go_wp2
  go_ret
  exact ⟨by first | rfl | (simp; done), by (repeat' (first | (with_reducible exact Below.refl _ _) | (with_reducible assumption) | (with_reducible refine below_alloc ?_ _) | (with_reducible refine Below.drew ?_) | (with_reducible refine below_drewN ?_ _) | (with_reducible refine below_step (by assumption) ?_) | (with_reducible refine below_later ?_ _) | (with_reducible refine Below.setCell ?_ ?_ _) | go_size))⟩
set_option maxRecDepth 100000 in
theorem g3_any (r : Option Addr) (l : List Int) (c : Nat) (w : World) : Calls Try.prog 33 #[.slice r l.length c] w fun e w' => e = .returned (.bool (gR l)) ∧ Below w.heap.size w w' := by
  simp only [gR]
  go_enter Try.func33, Try.ntmps33
  go_wp2
  go_ret
  exact ⟨by first | rfl | (simp; done), by (repeat' (first | (with_reducible exact Below.refl _ _) | (with_reducible assumption) | (with_reducible refine below_alloc ?_ _) | (with_reducible refine Below.drew ?_) | (with_reducible refine below_drewN ?_ _) | (with_reducible refine below_step (by assumption) ?_) | (with_reducible refine below_later ?_ _) | (with_reducible refine Below.setCell ?_ ?_ _) | go_size))⟩
theorem idx0R (r : Option Addr) (c : Nat) (v : Value) (w : World) : Calls Try.prog 56 #[.slice r 0 c, v] w fun e w' => e = .returned (.int .i64 (-1)) ∧ Below w.heap.size w w' := by
  go_enter Try.func56, Try.ntmps56
  go_wp2
  go_loopg [8] 0 (fun kx s8 wr => s8 = .int .i64 0 ∧ wr = w)
  case atStart => exact ⟨rfl, rfl⟩
  case round =>
    obtain ⟨rfl, rfl⟩ := hrel
    go_wp2
    go_ret
    exact ⟨rfl, by (repeat' (first | (with_reducible exact Below.refl _ _) | (with_reducible assumption) | (with_reducible refine below_alloc ?_ _) | (with_reducible refine Below.drew ?_) | (with_reducible refine below_drewN ?_ _) | (with_reducible refine below_step (by assumption) ?_) | (with_reducible refine below_later ?_ _) | (with_reducible refine Below.setCell ?_ ?_ _) | go_size))⟩
theorem has0R (r : Option Addr) (c : Nat) (v : Value) (w : World) : Calls Try.prog 32 #[.slice r 0 c, v] w fun e w' => e = .returned (.bool false) ∧ Below w.heap.size w w' := by
  go_enter Try.func32, Try.ntmps32
  go_wp2_with ((go_at_call 56; refine (idx0R _ _ _ _).mono ?_; rintro e hb1w ⟨rfl, hb1⟩; obtain ⟨hb1c, hb1f⟩ := bcell hb1; have hb1s := hb1.size; (try simp only [World.size_alloc] at hb1s); (try (have : w.heap.size < hb1w.heap.size := by omega)); (try (have : w.heap.size + 1 < hb1w.heap.size := by omega)); (try (have : w.heap.size + 1 + 1 < hb1w.heap.size := by omega)); (try (have : w.heap.size + 1 + 1 + 1 < hb1w.heap.size := by omega)); (try (have : bX < hb1w.heap.size := by omega)); (try (have : bY < hb1w.heap.size := by omega)); (try (have : bZ < hb1w.heap.size := by omega))))
  go_ret
  exact ⟨by first | rfl | (simp; done), by (repeat' (first | (with_reducible exact Below.refl _ _) | (with_reducible assumption) | (with_reducible refine below_alloc ?_ _) | (with_reducible refine Below.drew ?_) | (with_reducible refine below_drewN ?_ _) | (with_reducible refine below_step (by assumption) ?_) | (with_reducible refine below_later ?_ _) | (with_reducible refine Below.setCell ?_ ?_ _) | go_size))⟩
theorem hasR_g (r : Option Addr) (c : Nat) (Z : List (List Int)) (w : World) (hZ : IsRows w r c Z) : Calls Try.prog 32 #[.slice r Z.length c, .func (.func 33) #[] #[]] w fun e w' => e = .returned (.bool (Z.any gR)) ∧ Below w.heap.size w w' := by
  by_cases hne : Z = []
  · subst hne
    exact has0R _ _ _ _
  · exact containsFuncR_any _ _ r c Z gR w (enters_of Try.func33 (by kernel_rfl) rfl) hZ hne (fun e k ri ci hk hI => g3_any ri _ ci e.w)
set_option maxRecDepth 100000 in
set_option maxHeartbeats 2000000 in
theorem g2_any (m : Mp) (w : World) (hm : m.ok w) : Calls Try.prog 31 #[.agg #[.slice m.rx m.X.length m.cx, .slice m.ry m.Y.length m.cy, .slice m.rz m.Z.length m.cz]] w fun e w' => e = .returned (.bool (gM m)) ∧ Below w.heap.size w w' := by
  obtain ⟨rx, cx, X, ry, cy, Y, rz, cz, Z⟩ := m
  have hZ := hm.2.2
  clear hm
  simp only at hZ
  have HZ := Lib.hid (fun W (h : Below w.heap.size w W) => hasR_g rz cz Z W (hZ.later h))
  clear hZ
  obtain ⟨m, HM, hm⟩ := mx3 (X.length : Int) (Y.length : Int) (Z.length : Int)
  simp only [gM]
  rw [← hm]
  clear hm
  by_cases h : (10 : Int) < m
  · go_enter Try.func31, Try.ntmps31
    go_wp2
    go_ret
    exact ⟨by first | rfl | (simp [*]; done), by (repeat' (first | (with_reducible exact Below.refl _ _) | (with_reducible assumption) | (with_reducible refine below_alloc ?_ _) | (with_reducible refine Below.drew ?_) | (with_reducible refine below_drewN ?_ _) | (with_reducible refine below_step (by assumption) ?_) | (with_reducible refine below_later ?_ _) | (with_reducible refine Below.setCell ?_ ?_ _) | go_size))⟩
  · go_enter Try.func31, Try.ntmps31
    generalize Z.any gR = R at *
    go_wp2_with (go_at_call 32; refine (HZ.out _ (by (repeat' (first | (with_reducible exact Below.refl _ _) | (with_reducible assumption) | (with_reducible refine below_alloc ?_ _) | (with_reducible refine Below.drew ?_) | (with_reducible refine below_drewN ?_ _) | (with_reducible refine below_step (by assumption) ?_) | (with_reducible refine below_later ?_ _) | (with_reducible refine Below.setCell ?_ ?_ _) | go_size)))).mono ?_; rintro _ w1 ⟨rfl, hb1⟩)
    go_ret
    exact ⟨by first | rfl | (simp [*]; done) | (simp; omega), by (repeat' (first | (with_reducible exact Below.refl _ _) | (with_reducible assumption) | (with_reducible refine below_alloc ?_ _) | (with_reducible refine Below.drew ?_) | (with_reducible refine below_drewN ?_ _) | (with_reducible refine below_step (by assumption) ?_) | (with_reducible refine below_later ?_ _) | (with_reducible refine Below.setCell ?_ ?_ _) | go_size))⟩
set_option maxRecDepth 100000 in
set_option maxHeartbeats 4000000 in
theorem great_any (p : PV) (w : World) (hp : IsP w p) : Calls Try.prog 9 #[p.val] w fun e w' => e = .returned (.bool (greatB p)) ∧ Below w.heap.size w w' := by
  have HC : Hid (∀ W, Below w.heap.size w W → Calls Try.prog 28 #[.slice p.rv p.curves.length p.cv, .func (.func 29) #[] #[]] W fun e w' => e = .returned (.bool (p.curves.any gC)) ∧ Below W.heap.size W w') := Lib.hid (fun W h =>
    has_Curve _ _ p.rv p.cv p.curves gC W (enters_of Try.func29 (by kernel_rfl) rfl) (hp.later h).curves (fun e x hx => g1_any x e.w))
  have HM : Hid (∀ W, Below w.heap.size w W → Calls Try.prog 30 #[.slice p.rm p.maps.length p.cm, .func (.func 31) #[] #[]] W fun e w' => e = .returned (.bool (p.maps.any gM)) ∧ Below W.heap.size W w') := Lib.hid (fun W h =>
    has_Map _ _ p.rm p.cm p.maps gM W (enters_of Try.func31 (by kernel_rfl) rfl) (hp.later h).maps (fun e x hx => g2_any x e.w (((hp.later h).mapsG x hx).later e.h)))
  have HG : Hid (greatB p = (szG p || (p.curves.any gC || p.maps.any gM))) := Lib.hid rfl
  have HSZ : Hid (szG p = (decide ((60 : Int) < p.code.length) || (decide ((20 : Int) < p.types.length) || (decide ((20 : Int) < p.curves.length) || (decide ((20 : Int) < p.maps.length) || decide ((60 : Int) < max (p.inputs.length : Int) (max (p.states.length : Int) (max (p.outputs.length : Int) p.initial.length)))))))) := Lib.hid rfl
  obtain ⟨rc, cc, code, rt, ct, types, rv, cv, curves, rm, cm, maps, cells, ri, ci, inputs, rs, cs, states, ro, co, outputs, rn, cn, initial⟩ := p
  clear hp
  simp only at HC HM HSZ HG
  simp only [PV.val]
  obtain ⟨m, HMX, hm⟩ := mx4 (inputs.length : Int) (states.length : Int) (outputs.length : Int) (initial.length : Int)
  rw [← hm] at HSZ
  clear hm
  generalize greatB _ = G at *
  generalize szG _ = S at *
  generalize curves.any gC = C at *
  generalize maps.any gM = M at *
  rw [HG.out]
  clear HG
  by_cases h0 : (60 : Int) < code.length
  · obtain rfl : S = true := by rw [HSZ.out, decide_eq_true h0]; rfl
    clear HSZ
    go_enter Try.func9, Try.ntmps9
    go_wp2
    go_ret
    exact ⟨rfl, by (repeat' (first | (with_reducible exact Below.refl _ _) | (with_reducible assumption) | (with_reducible refine below_alloc ?_ _) | (with_reducible refine Below.drew ?_) | (with_reducible refine below_drewN ?_ _) | (with_reducible refine below_step (by assumption) ?_) | (with_reducible refine below_later ?_ _) | (with_reducible refine Below.setCell ?_ ?_ _) | go_size))⟩
  by_cases h1 : (20 : Int) < types.length
  · obtain rfl : S = true := by rw [HSZ.out, decide_eq_true h1]; simp
    clear HSZ
    go_enter Try.func9, Try.ntmps9
    go_wp2
    go_ret
    exact ⟨rfl, by (repeat' (first | (with_reducible exact Below.refl _ _) | (with_reducible assumption) | (with_reducible refine below_alloc ?_ _) | (with_reducible refine Below.drew ?_) | (with_reducible refine below_drewN ?_ _) | (with_reducible refine below_step (by assumption) ?_) | (with_reducible refine below_later ?_ _) | (with_reducible refine Below.setCell ?_ ?_ _) | go_size))⟩
  by_cases h2 : (20 : Int) < curves.length
  · obtain rfl : S = true := by rw [HSZ.out, decide_eq_true h2]; simp
    clear HSZ
    go_enter Try.func9, Try.ntmps9
    go_wp2
    go_ret
    exact ⟨rfl, by (repeat' (first | (with_reducible exact Below.refl _ _) | (with_reducible assumption) | (with_reducible refine below_alloc ?_ _) | (with_reducible refine Below.drew ?_) | (with_reducible refine below_drewN ?_ _) | (with_reducible refine below_step (by assumption) ?_) | (with_reducible refine below_later ?_ _) | (with_reducible refine Below.setCell ?_ ?_ _) | go_size))⟩
  by_cases h3 : (20 : Int) < maps.length
  · obtain rfl : S = true := by rw [HSZ.out, decide_eq_true h3]; simp
    clear HSZ
    go_enter Try.func9, Try.ntmps9
    go_wp2
    go_ret
    exact ⟨rfl, by (repeat' (first | (with_reducible exact Below.refl _ _) | (with_reducible assumption) | (with_reducible refine below_alloc ?_ _) | (with_reducible refine Below.drew ?_) | (with_reducible refine below_drewN ?_ _) | (with_reducible refine below_step (by assumption) ?_) | (with_reducible refine below_later ?_ _) | (with_reducible refine Below.setCell ?_ ?_ _) | go_size))⟩
  by_cases h4 : (60 : Int) < m
  · obtain rfl : S = true := by rw [HSZ.out, decide_eq_true h4]; simp
    clear HSZ
    go_enter Try.func9, Try.ntmps9
    go_wp2
    go_ret
    exact ⟨rfl, by (repeat' (first | (with_reducible exact Below.refl _ _) | (with_reducible assumption) | (with_reducible refine below_alloc ?_ _) | (with_reducible refine Below.drew ?_) | (with_reducible refine below_drewN ?_ _) | (with_reducible refine below_step (by assumption) ?_) | (with_reducible refine below_later ?_ _) | (with_reducible refine Below.setCell ?_ ?_ _) | go_size))⟩
  obtain rfl : S = false := by rw [HSZ.out, decide_eq_false h0, decide_eq_false h1, decide_eq_false h2, decide_eq_false h3, decide_eq_false h4]; rfl
  clear HSZ
  cases C
  · go_enter Try.func9, Try.ntmps9
    go_wp2_with (first | (go_at_call 28; refine (HC.out _ (by (repeat' (first | (with_reducible exact Below.refl _ _) | (with_reducible assumption) | (with_reducible refine below_alloc ?_ _) | (with_reducible refine Below.drew ?_) | (with_reducible refine below_drewN ?_ _) | (with_reducible refine below_step (by assumption) ?_) | (with_reducible refine below_later ?_ _) | (with_reducible refine Below.setCell ?_ ?_ _) | go_size)))).mono ?_; rintro _ w1 ⟨rfl, hb1⟩; obtain ⟨hb1c, hb1f⟩ := bcell hb1; have hb1s := hb1.size; (try simp only [World.size_alloc] at hb1s); have hx1 : w.heap.size < w1.heap.size := (by omega)) | (go_at_call 30; refine (HM.out _ (by (repeat' (first | (with_reducible exact Below.refl _ _) | (with_reducible assumption) | (with_reducible refine below_alloc ?_ _) | (with_reducible refine Below.drew ?_) | (with_reducible refine below_drewN ?_ _) | (with_reducible refine below_step (by assumption) ?_) | (with_reducible refine below_later ?_ _) | (with_reducible refine Below.setCell ?_ ?_ _) | go_size)))).mono ?_; rintro _ w2 ⟨rfl, hb2⟩))
    go_ret
    exact ⟨by first | rfl | (simp; done), by (repeat' (first | (with_reducible exact Below.refl _ _) | (with_reducible assumption) | (with_reducible refine below_alloc ?_ _) | (with_reducible refine Below.drew ?_) | (with_reducible refine below_drewN ?_ _) | (with_reducible refine below_step (by assumption) ?_) | (with_reducible refine below_later ?_ _) | (with_reducible refine Below.setCell ?_ ?_ _) | go_size))⟩
  · go_enter Try.func9, Try.ntmps9
    go_wp2_with (first | (go_at_call 28; refine (HC.out _ (by (repeat' (first | (with_reducible exact Below.refl _ _) | (with_reducible assumption) | (with_reducible refine below_alloc ?_ _) | (with_reducible refine Below.drew ?_) | (with_reducible refine below_drewN ?_ _) | (with_reducible refine below_step (by assumption) ?_) | (with_reducible refine below_later ?_ _) | (with_reducible refine Below.setCell ?_ ?_ _) | go_size)))).mono ?_; rintro _ w1 ⟨rfl, hb1⟩; obtain ⟨hb1c, hb1f⟩ := bcell hb1; have hb1s := hb1.size; (try simp only [World.size_alloc] at hb1s); have hx1 : w.heap.size < w1.heap.size := (by omega)))
    go_ret
    exact ⟨by first | rfl | (simp; done), by (repeat' (first | (with_reducible exact Below.refl _ _) | (with_reducible assumption) | (with_reducible refine below_alloc ?_ _) | (with_reducible refine Below.drew ?_) | (with_reducible refine below_drewN ?_ _) | (with_reducible refine below_step (by assumption) ?_) | (with_reducible refine below_later ?_ _) | (with_reducible refine Below.setCell ?_ ?_ _) | go_size))⟩
end Go.Proofs.Ytfooefiaenlhmaa
