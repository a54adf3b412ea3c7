/- Lemmas for the laws of package magnetolaw15: what its functions return, for any arguments that the lemmas name. -/
import Derived.Test.YtfooefiaenlhmaaGO1
import Derived.Test.YtfooefiaenlhmaaGO10
import Derived.Test.YtfooefiaenlhmaaGO12
namespace Go.Proofs.Ytfooefiaenlhmaa
set_option linter.unusedVariables false
set_option linter.unusedSimpArgs false
set_option maxHeartbeats 16000000
open Go.RowKit Go.ChangeShapes Go.WideShapes Go.ChangeAt
def inL (cells : Int) (l : List Int) : Bool := decide (l.length ≤ 1000) && !(l.any (badC cells))
def szP (p : PV) : Prop := p.code.length ≤ 4000 ∧ p.types.length ≤ 100 ∧ p.curves.length ≤ 100 ∧ p.maps.length ≤ 100 ∧ 0 ≤ p.cells ∧ p.cells ≤ 1000 ∧ p.initial.length = p.states.length
instance (p : PV) : Decidable (szP p) := by unfold szP; infer_instance
noncomputable def validB (p : PV) : Bool :=
 decide (szP p) && (!(p.types.any fun t => !fxB t) && (!(p.curves.any fun c => !cvB c) && (!(p.maps.any fun m => !mpB m) && (!(p.code.any fun i => !fitB p.cells p.curves.length p.maps.length p.types i) &&
  (inL p.cells p.inputs && (inL p.cells p.outputs && (inL p.cells p.states && (decide (p.inputs ++ p.states).Nodup && !(p.initial.any badN)))))))))
section
variable (rc : Option Addr) (cc : Nat) (code : List Ins) (rt : Option Addr) (ct : Nat) (types : List Fx) (rv : Option Addr) (cv : Nat) (curves : List Cv) (rm : Option Addr) (cm : Nat) (maps : List Mp) (cells : Int) (ri : Option Addr) (ci : Nat) (inputs : List Int) (rs : Option Addr) (cs : Nat) (states : List Int) (ro : Option Addr) (co : Nat) (outputs : List Int) (rn : Option Addr) (cn : Nat) (initial : List Int)
set_option maxRecDepth 100000 in
theorem mv_sz0 (n0 : ¬ code.length ≤ 4000) (m0 : code.length ≤ 9223372036854775807 ∧ types.length ≤ 9223372036854775807 ∧ curves.length ≤ 9223372036854775807 ∧ maps.length ≤ 9223372036854775807 ∧ states.length ≤ 9223372036854775807 ∧ initial.length ≤ 9223372036854775807) (w : World) : Calls Try.prog 34 #[.agg #[.slice rc code.length cc, .slice rt types.length ct, .slice rv curves.length cv, .slice rm maps.length cm, .int .i64 cells, .slice ri inputs.length ci, .slice rs states.length cs, .slice ro outputs.length co, .slice rn initial.length cn]] w fun e w' => e = .returned (.bool false) ∧ Below w.heap.size w w' := by
 obtain ⟨m0, m1, m2, m3, m4, m5⟩ := m0
 have f0 : ((4000 : Int) < code.length) := by omega
 go_enter Try.func34, Try.ntmps34
 go_wp2
 go_ret
 exact ⟨rfl, bw⟩
set_option maxRecDepth 100000 in
theorem mv_sz1 (h0 : code.length ≤ 4000) (n1 : ¬ types.length ≤ 100) (m0 : code.length ≤ 9223372036854775807 ∧ types.length ≤ 9223372036854775807 ∧ curves.length ≤ 9223372036854775807 ∧ maps.length ≤ 9223372036854775807 ∧ states.length ≤ 9223372036854775807 ∧ initial.length ≤ 9223372036854775807) (w : World) : Calls Try.prog 34 #[.agg #[.slice rc code.length cc, .slice rt types.length ct, .slice rv curves.length cv, .slice rm maps.length cm, .int .i64 cells, .slice ri inputs.length ci, .slice rs states.length cs, .slice ro outputs.length co, .slice rn initial.length cn]] w fun e w' => e = .returned (.bool false) ∧ Below w.heap.size w w' := by
 obtain ⟨m0, m1, m2, m3, m4, m5⟩ := m0
 have f0 : ¬ ((4000 : Int) < code.length) := by omega
 have f1 : ((100 : Int) < types.length) := by omega
 go_enter Try.func34, Try.ntmps34
 go_wp2
 go_ret
 exact ⟨rfl, bw⟩
set_option maxRecDepth 100000 in
theorem mv_sz2 (h0 : code.length ≤ 4000) (h1 : types.length ≤ 100) (n2 : ¬ curves.length ≤ 100) (m0 : code.length ≤ 9223372036854775807 ∧ types.length ≤ 9223372036854775807 ∧ curves.length ≤ 9223372036854775807 ∧ maps.length ≤ 9223372036854775807 ∧ states.length ≤ 9223372036854775807 ∧ initial.length ≤ 9223372036854775807) (w : World) : Calls Try.prog 34 #[.agg #[.slice rc code.length cc, .slice rt types.length ct, .slice rv curves.length cv, .slice rm maps.length cm, .int .i64 cells, .slice ri inputs.length ci, .slice rs states.length cs, .slice ro outputs.length co, .slice rn initial.length cn]] w fun e w' => e = .returned (.bool false) ∧ Below w.heap.size w w' := by
 obtain ⟨m0, m1, m2, m3, m4, m5⟩ := m0
 have f0 : ¬ ((4000 : Int) < code.length) := by omega
 have f1 : ¬ ((100 : Int) < types.length) := by omega
 have f2 : ((100 : Int) < curves.length) := by omega
 go_enter Try.func34, Try.ntmps34
 go_wp2
 go_ret
 exact ⟨rfl, bw⟩
set_option maxRecDepth 100000 in
theorem mv_sz3 (h0 : code.length ≤ 4000) (h1 : types.length ≤ 100) (h2 : curves.length ≤ 100) (n3 : ¬ maps.length ≤ 100) (m0 : code.length ≤ 9223372036854775807 ∧ types.length ≤ 9223372036854775807 ∧ curves.length ≤ 9223372036854775807 ∧ maps.length ≤ 9223372036854775807 ∧ states.length ≤ 9223372036854775807 ∧ initial.length ≤ 9223372036854775807) (w : World) : Calls Try.prog 34 #[.agg #[.slice rc code.length cc, .slice rt types.length ct, .slice rv curves.length cv, .slice rm maps.length cm, .int .i64 cells, .slice ri inputs.length ci, .slice rs states.length cs, .slice ro outputs.length co, .slice rn initial.length cn]] w fun e w' => e = .returned (.bool false) ∧ Below w.heap.size w w' := by
 obtain ⟨m0, m1, m2, m3, m4, m5⟩ := m0
 have f0 : ¬ ((4000 : Int) < code.length) := by omega
 have f1 : ¬ ((100 : Int) < types.length) := by omega
 have f2 : ¬ ((100 : Int) < curves.length) := by omega
 have f3 : ((100 : Int) < maps.length) := by omega
 go_enter Try.func34, Try.ntmps34
 go_wp2
 go_ret
 exact ⟨rfl, bw⟩
set_option maxRecDepth 100000 in
theorem mv_sz4 (h0 : code.length ≤ 4000) (h1 : types.length ≤ 100) (h2 : curves.length ≤ 100) (h3 : maps.length ≤ 100) (n4 : ¬ 0 ≤ cells) (m0 : code.length ≤ 9223372036854775807 ∧ types.length ≤ 9223372036854775807 ∧ curves.length ≤ 9223372036854775807 ∧ maps.length ≤ 9223372036854775807 ∧ states.length ≤ 9223372036854775807 ∧ initial.length ≤ 9223372036854775807) (w : World) : Calls Try.prog 34 #[.agg #[.slice rc code.length cc, .slice rt types.length ct, .slice rv curves.length cv, .slice rm maps.length cm, .int .i64 cells, .slice ri inputs.length ci, .slice rs states.length cs, .slice ro outputs.length co, .slice rn initial.length cn]] w fun e w' => e = .returned (.bool false) ∧ Below w.heap.size w w' := by
 obtain ⟨m0, m1, m2, m3, m4, m5⟩ := m0
 have f0 : ¬ ((4000 : Int) < code.length) := by omega
 have f1 : ¬ ((100 : Int) < types.length) := by omega
 have f2 : ¬ ((100 : Int) < curves.length) := by omega
 have f3 : ¬ ((100 : Int) < maps.length) := by omega
 have f4 : cells < 0 := by omega
 go_enter Try.func34, Try.ntmps34
 go_wp2
 go_ret
 exact ⟨rfl, bw⟩
set_option maxRecDepth 100000 in
theorem mv_sz5 (h0 : code.length ≤ 4000) (h1 : types.length ≤ 100) (h2 : curves.length ≤ 100) (h3 : maps.length ≤ 100) (h4 : 0 ≤ cells) (n5 : ¬ cells ≤ 1000) (m0 : code.length ≤ 9223372036854775807 ∧ types.length ≤ 9223372036854775807 ∧ curves.length ≤ 9223372036854775807 ∧ maps.length ≤ 9223372036854775807 ∧ states.length ≤ 9223372036854775807 ∧ initial.length ≤ 9223372036854775807) (w : World) : Calls Try.prog 34 #[.agg #[.slice rc code.length cc, .slice rt types.length ct, .slice rv curves.length cv, .slice rm maps.length cm, .int .i64 cells, .slice ri inputs.length ci, .slice rs states.length cs, .slice ro outputs.length co, .slice rn initial.length cn]] w fun e w' => e = .returned (.bool false) ∧ Below w.heap.size w w' := by
 obtain ⟨m0, m1, m2, m3, m4, m5⟩ := m0
 have f0 : ¬ ((4000 : Int) < code.length) := by omega
 have f1 : ¬ ((100 : Int) < types.length) := by omega
 have f2 : ¬ ((100 : Int) < curves.length) := by omega
 have f3 : ¬ ((100 : Int) < maps.length) := by omega
 have f4 : ¬ cells < 0 := by omega
 have f5 : 1000 < cells := by omega
 go_enter Try.func34, Try.ntmps34
 go_wp2
 go_ret
 exact ⟨rfl, bw⟩
set_option maxRecDepth 100000 in
theorem mv_sz6 (h0 : code.length ≤ 4000) (h1 : types.length ≤ 100) (h2 : curves.length ≤ 100) (h3 : maps.length ≤ 100) (h4 : 0 ≤ cells) (h5 : cells ≤ 1000) (n6 : ¬ initial.length = states.length) (m0 : code.length ≤ 9223372036854775807 ∧ types.length ≤ 9223372036854775807 ∧ curves.length ≤ 9223372036854775807 ∧ maps.length ≤ 9223372036854775807 ∧ states.length ≤ 9223372036854775807 ∧ initial.length ≤ 9223372036854775807) (w : World) : Calls Try.prog 34 #[.agg #[.slice rc code.length cc, .slice rt types.length ct, .slice rv curves.length cv, .slice rm maps.length cm, .int .i64 cells, .slice ri inputs.length ci, .slice rs states.length cs, .slice ro outputs.length co, .slice rn initial.length cn]] w fun e w' => e = .returned (.bool false) ∧ Below w.heap.size w w' := by
 obtain ⟨m0, m1, m2, m3, m4, m5⟩ := m0
 have f0 : ¬ ((4000 : Int) < code.length) := by omega
 have f1 : ¬ ((100 : Int) < types.length) := by omega
 have f2 : ¬ ((100 : Int) < curves.length) := by omega
 have f3 : ¬ ((100 : Int) < maps.length) := by omega
 have f4 : ¬ cells < 0 := by omega
 have f5 : ¬ 1000 < cells := by omega
 have f6 : ¬ (initial.length : Int) = (states.length : Int) := by omega
 go_enter Try.func34, Try.ntmps34
 go_wp2
 go_ret
 exact ⟨rfl, bw⟩
theorem mv_sz (p : PV) (w : World) (hp : IsP w p) (h : ¬ szP p) : Calls Try.prog 34 #[p.val] w fun e w' => e = .returned (.bool false) ∧ Below w.heap.size w w' := by
 have m0 := Nat.le_trans hp.code.le hp.code.max
 have m1 := Nat.le_trans hp.types.le hp.types.max
 have m2 := Nat.le_trans hp.curves.le hp.curves.max
 have m3 := Nat.le_trans hp.maps.le hp.maps.max
 have m4 := Nat.le_trans hp.states.le hp.states.max
 have m5 := Nat.le_trans hp.initial.le hp.initial.max
 unfold maxLen at m0 m1 m2 m3 m4 m5
 obtain ⟨rc, cc, code, rt, ct, types, rv, cv, curves, rm, cm, maps, cells, ri, ci, inputs, rs, cs, states, ro, co, outputs, rn, cn, initial⟩ := p
 simp only [szP] at h
 simp only at m0 m1 m2 m3 m4 m5
 have m : code.length ≤ 9223372036854775807 ∧ types.length ≤ 9223372036854775807 ∧ curves.length ≤ 9223372036854775807 ∧ maps.length ≤ 9223372036854775807 ∧ states.length ≤ 9223372036854775807 ∧ initial.length ≤ 9223372036854775807 := ⟨by omega, by omega, by omega, by omega, by omega, by omega⟩
 simp only [PV.val]
 by_cases h0 : code.length ≤ 4000
 rotate_left
 ·
  exact mv_sz0 rc cc code rt ct types rv cv curves rm cm maps cells ri ci inputs rs cs states ro co outputs rn cn initial  h0 m w
 by_cases h1 : types.length ≤ 100
 rotate_left
 ·
  exact mv_sz1 rc cc code rt ct types rv cv curves rm cm maps cells ri ci inputs rs cs states ro co outputs rn cn initial h0 h1 m w
 by_cases h2 : curves.length ≤ 100
 rotate_left
 ·
  exact mv_sz2 rc cc code rt ct types rv cv curves rm cm maps cells ri ci inputs rs cs states ro co outputs rn cn initial h0 h1 h2 m w
 by_cases h3 : maps.length ≤ 100
 rotate_left
 ·
  exact mv_sz3 rc cc code rt ct types rv cv curves rm cm maps cells ri ci inputs rs cs states ro co outputs rn cn initial h0 h1 h2 h3 m w
 by_cases h4 : 0 ≤ cells
 rotate_left
 ·
  exact mv_sz4 rc cc code rt ct types rv cv curves rm cm maps cells ri ci inputs rs cs states ro co outputs rn cn initial h0 h1 h2 h3 h4 m w
 by_cases h5 : cells ≤ 1000
 rotate_left
 ·
  exact mv_sz5 rc cc code rt ct types rv cv curves rm cm maps cells ri ci inputs rs cs states ro co outputs rn cn initial h0 h1 h2 h3 h4 h5 m w
 exact mv_sz6 rc cc code rt ct types rv cv curves rm cm maps cells ri ci inputs rs cs states ro co outputs rn cn initial h0 h1 h2 h3 h4 h5 (fun h6 => h ⟨h0, h1, h2, h3, h4, h5, h6⟩) m w
end
theorem mh_types (p : PV) (W : World) (hp : IsP W p) (X : Nat) (v : Bool) (hv : (p.types.any fun t => !fxB t) = v) (hX : X < W.heap.size) (hc : W.cell? ⟨X, 0, none⟩ = some (.func (.func 57) #[] #[])) : Calls Try.prog 58 #[.slice p.rt p.types.length p.ct, .func (.func 59) #[] #[.pointer (some ⟨X, 0, none⟩)]] W fun e w' => e = .returned (.bool v) ∧ Below W.heap.size W w' := by
 subst hv
 exact has_Fixed _ _ p.rt p.ct p.types (fun t => !fxB t) W (enters_of Try.func59 (by kernel_rfl) rfl) hp.types (fun e x _ => v2_any X x e.w (Nat.lt_of_lt_of_le hX e.h.size) ((Later.cell e hX).trans hc))
theorem mh_curves (p : PV) (W : World) (hp : IsP W p) (X : Nat) (v : Bool) (hv : (p.curves.any fun t => !cvB t) = v) (hX : X < W.heap.size) (hc : W.cell? ⟨X, 0, none⟩ = some (.func (.func 57) #[] #[])) : Calls Try.prog 28 #[.slice p.rv p.curves.length p.cv, .func (.func 61) #[] #[.pointer (some ⟨X, 0, none⟩)]] W fun e w' => e = .returned (.bool v) ∧ Below W.heap.size W w' := by
 subst hv
 exact has_Curve _ _ p.rv p.cv p.curves (fun t => !cvB t) W (enters_of Try.func61 (by kernel_rfl) rfl) hp.curves (fun e x hx => v3_any X x e.w ((hp.curvesG x hx).later e.h) (Nat.lt_of_lt_of_le hX e.h.size) ((Later.cell e hX).trans hc))
theorem mh_maps (p : PV) (W : World) (hp : IsP W p) (X : Nat) (v : Bool) (hv : (p.maps.any fun t => !mpB t) = v) (hX : X < W.heap.size) (hc : W.cell? ⟨X, 0, none⟩ = some (.func (.func 57) #[] #[])) : Calls Try.prog 30 #[.slice p.rm p.maps.length p.cm, .func (.func 63) #[] #[.pointer (some ⟨X, 0, none⟩)]] W fun e w' => e = .returned (.bool v) ∧ Below W.heap.size W w' := by
 subst hv
 exact has_Map _ _ p.rm p.cm p.maps (fun t => !mpB t) W (enters_of Try.func63 (by kernel_rfl) rfl) hp.maps (fun e x hx => v4_any X x e.w ((hp.mapsG x hx).later e.h) (Nat.lt_of_lt_of_le hX e.h.size) ((Later.cell e hX).trans hc))
theorem mh_code (p : PV) (W : World) (hp : IsP W p) (X B : Nat) (v : Bool) (hv : (p.code.any fun i => !fitB p.cells p.curves.length p.maps.length p.types i) = v) (hX : X < W.heap.size) (hB : B < W.heap.size) (hc : W.cell? ⟨X, 0, none⟩ = some (.func (.func 57) #[] #[])) (q0 : W.cell? ⟨B, 0, none⟩ = some (.slice p.rc p.code.length p.cc)) (q1 : W.cell? ⟨B, 1, none⟩ = some (.slice p.rt p.types.length p.ct)) (q2 : W.cell? ⟨B, 2, none⟩ = some (.slice p.rv p.curves.length p.cv)) (q3 : W.cell? ⟨B, 3, none⟩ = some (.slice p.rm p.maps.length p.cm)) (q4 : W.cell? ⟨B, 4, none⟩ = some (.int .i64 p.cells)) (q5 : W.cell? ⟨B, 5, none⟩ = some (.slice p.ri p.inputs.length p.ci)) (q6 : W.cell? ⟨B, 6, none⟩ = some (.slice p.rs p.states.length p.cs)) (q7 : W.cell? ⟨B, 7, none⟩ = some (.slice p.ro p.outputs.length p.co)) (q8 : W.cell? ⟨B, 8, none⟩ = some (.slice p.rn p.initial.length p.cn)) : Calls Try.prog 65 #[.slice p.rc p.code.length p.cc, .func (.func 66) #[] #[.pointer (some ⟨X, 0, none⟩), .pointer (some ⟨B, 0, none⟩)]] W fun e w' => e = .returned (.bool v) ∧ Below W.heap.size W w' := by
 subst hv
 exact has_Instr _ _ p.rc p.cc p.code (fun i => !fitB p.cells p.curves.length p.maps.length p.types i) W (enters_of Try.func66 (by kernel_rfl) rfl) hp.code (fun e x hx => v5_any X B p x e.w (hp.codeG x hx) (hp.types.later e.h) (Nat.lt_of_lt_of_le hX e.h.size) (Nat.lt_of_lt_of_le hB e.h.size) ((Later.cell e hX).trans hc) ((Later.cell e hB).trans q0) ((Later.cell e hB).trans q1) ((Later.cell e hB).trans q2) ((Later.cell e hB).trans q3) ((Later.cell e hB).trans q4) ((Later.cell e hB).trans q5) ((Later.cell e hB).trans q6) ((Later.cell e hB).trans q7) ((Later.cell e hB).trans q8))
theorem mh_list (B : Nat) (cells : Int) (r : Option Addr) (cap : Nat) (l : List Int) (W : World) (hl : IsInts W r cap .i64 l) (v : Bool) (hv : l.any (badC cells) = v) (hB : B < W.heap.size) (q4 : W.cell? ⟨B, 4, none⟩ = some (.int .i64 cells)) : Calls Try.prog 68 #[.slice r l.length cap, .func (.func 69) #[] #[.pointer (some ⟨B, 0, none⟩)]] W fun e w' => e = .returned (.bool v) ∧ Below W.heap.size W w' := by
 subst hv
 exact containsFunc_any _ _ r cap l (badC cells) W (enters_of Try.func69 (by kernel_rfl) rfl) hl (fun e x _ => v6_any B x cells e.w ((Later.cell e hB).trans q4))
theorem mh_ini (r : Option Addr) (cap : Nat) (l : List Int) (W : World) (hl : IsInts W r cap .i64 l) (v : Bool) (hv : l.any badN = v) : Calls Try.prog 68 #[.slice r l.length cap, .func (.func 71) #[] #[]] W fun e w' => e = .returned (.bool v) ∧ Below W.heap.size W w' := by
 subst hv
 exact containsFunc_any _ _ r cap l badN W (enters_of Try.func71 (by kernel_rfl) rfl) hl (fun e x _ => v7_any x e.w)
section
variable (rc : Option Addr) (cc : Nat) (code : List Ins) (rt : Option Addr) (ct : Nat) (types : List Fx) (rv : Option Addr) (cv : Nat) (curves : List Cv) (rm : Option Addr) (cm : Nat) (maps : List Mp) (cells : Int) (ri : Option Addr) (ci : Nat) (inputs : List Int) (rs : Option Addr) (cs : Nat) (states : List Int) (ro : Option Addr) (co : Nat) (outputs : List Int) (rn : Option Addr) (cn : Nat) (initial : List Int)
set_option maxRecDepth 100000 in
theorem mv_T (w : World) (hp : IsP w ⟨rc, cc, code, rt, ct, types, rv, cv, curves, rm, cm, maps, cells, ri, ci, inputs, rs, cs, states, ro, co, outputs, rn, cn, initial⟩) (hsz : szP ⟨rc, cc, code, rt, ct, types, rv, cv, curves, rm, cm, maps, cells, ri, ci, inputs, rs, cs, states, ro, co, outputs, rn, cn, initial⟩) (hT : (types.any fun t => !fxB t) = true) : Calls Try.prog 34 #[.agg #[.slice rc code.length cc, .slice rt types.length ct, .slice rv curves.length cv, .slice rm maps.length cm, .int .i64 cells, .slice ri inputs.length ci, .slice rs states.length cs, .slice ro outputs.length co, .slice rn initial.length cn]] w fun e w' => e = .returned (.bool false) ∧ Below w.heap.size w w' := by
 obtain ⟨z0, z1, z2, z3, z4, z5, z6⟩ := hsz
 simp only at z0 z1 z2 z3 z4 z5 z6
 have f0 : ¬ ((4000 : Int) < code.length) := by omega
 have f1 : ¬ ((100 : Int) < types.length) := by omega
 have f2 : ¬ ((100 : Int) < curves.length) := by omega
 have f3 : ¬ ((100 : Int) < maps.length) := by omega
 have hs01 : w.heap.size < w.heap.size + 1 + 1 := by omega
 have f4 : ¬ cells < 0 := by omega
 have f5 : ¬ 1000 < cells := by omega
 have HT : Hid (∀ W, Below w.heap.size w W → w.heap.size + 1 < W.heap.size → W.cell? ⟨w.heap.size + 1, 0, none⟩ = some (.func (.func 57) #[] #[]) → Calls Try.prog 58 #[.slice rt types.length ct, .func (.func 59) #[] #[.pointer (some ⟨w.heap.size + 1, 0, none⟩)]] W fun e w' => e = .returned (.bool true) ∧ Below W.heap.size W w') := H! (fun W hW hs hc => mh_types ⟨rc, cc, code, rt, ct, types, rv, cv, curves, rm, cm, maps, cells, ri, ci, inputs, rs, cs, states, ro, co, outputs, rn, cn, initial⟩ W (hp.later hW) (w.heap.size + 1) true hT hs hc)
 clear hp hT
 go_enter Try.func34, Try.ntmps34
 go_wp2_with (first | (go_at_call 58; refine (HT.out _ bw (by first | omega | (simp only [zA]; omega)) (by first | go_keep | (simp [go_sem, *]; done))).mono ?_; rintro _ hb0w ⟨rfl, hb0⟩; obtain ⟨hb0c, hb0f⟩ := bcell hb0; have hb0s := hb0.size; (try simp only [zA] at hb0s); have hx0 : w.heap.size < hb0w.heap.size := (by omega); have hy0 : w.heap.size + 1 < hb0w.heap.size := (by omega)))
 all_goals go_ret
 all_goals exact ⟨rfl, bw⟩
set_option maxRecDepth 100000 in
theorem mv_C (w : World) (hp : IsP w ⟨rc, cc, code, rt, ct, types, rv, cv, curves, rm, cm, maps, cells, ri, ci, inputs, rs, cs, states, ro, co, outputs, rn, cn, initial⟩) (hsz : szP ⟨rc, cc, code, rt, ct, types, rv, cv, curves, rm, cm, maps, cells, ri, ci, inputs, rs, cs, states, ro, co, outputs, rn, cn, initial⟩) (hT : (types.any fun t => !fxB t) = false) (hC : (curves.any fun t => !cvB t) = true) : Calls Try.prog 34 #[.agg #[.slice rc code.length cc, .slice rt types.length ct, .slice rv curves.length cv, .slice rm maps.length cm, .int .i64 cells, .slice ri inputs.length ci, .slice rs states.length cs, .slice ro outputs.length co, .slice rn initial.length cn]] w fun e w' => e = .returned (.bool false) ∧ Below w.heap.size w w' := by
 obtain ⟨z0, z1, z2, z3, z4, z5, z6⟩ := hsz
 simp only at z0 z1 z2 z3 z4 z5 z6
 have f0 : ¬ ((4000 : Int) < code.length) := by omega
 have f1 : ¬ ((100 : Int) < types.length) := by omega
 have f2 : ¬ ((100 : Int) < curves.length) := by omega
 have f3 : ¬ ((100 : Int) < maps.length) := by omega
 have hs01 : w.heap.size < w.heap.size + 1 + 1 := by omega
 have f4 : ¬ cells < 0 := by omega
 have f5 : ¬ 1000 < cells := by omega
 have HT : Hid (∀ W, Below w.heap.size w W → w.heap.size + 1 < W.heap.size → W.cell? ⟨w.heap.size + 1, 0, none⟩ = some (.func (.func 57) #[] #[]) → Calls Try.prog 58 #[.slice rt types.length ct, .func (.func 59) #[] #[.pointer (some ⟨w.heap.size + 1, 0, none⟩)]] W fun e w' => e = .returned (.bool false) ∧ Below W.heap.size W w') := H! (fun W hW hs hc => mh_types ⟨rc, cc, code, rt, ct, types, rv, cv, curves, rm, cm, maps, cells, ri, ci, inputs, rs, cs, states, ro, co, outputs, rn, cn, initial⟩ W (hp.later hW) (w.heap.size + 1) false hT hs hc)
 have HC : Hid (∀ W, Below w.heap.size w W → w.heap.size + 1 < W.heap.size → W.cell? ⟨w.heap.size + 1, 0, none⟩ = some (.func (.func 57) #[] #[]) → Calls Try.prog 28 #[.slice rv curves.length cv, .func (.func 61) #[] #[.pointer (some ⟨w.heap.size + 1, 0, none⟩)]] W fun e w' => e = .returned (.bool true) ∧ Below W.heap.size W w') := H! (fun W hW hs hc => mh_curves ⟨rc, cc, code, rt, ct, types, rv, cv, curves, rm, cm, maps, cells, ri, ci, inputs, rs, cs, states, ro, co, outputs, rn, cn, initial⟩ W (hp.later hW) (w.heap.size + 1) true hC hs hc)
 clear hp hT hC
 go_enter Try.func34, Try.ntmps34
 go_wp2_with (first | (go_at_call 58; refine (HT.out _ bw (by first | omega | (simp only [zA]; omega)) (by first | go_keep | (simp [go_sem, *]; done))).mono ?_; rintro _ hb0w ⟨rfl, hb0⟩; obtain ⟨hb0c, hb0f⟩ := bcell hb0; have hb0s := hb0.size; (try simp only [zA] at hb0s); have hx0 : w.heap.size < hb0w.heap.size := (by omega); have hy0 : w.heap.size + 1 < hb0w.heap.size := (by omega)) | (go_at_call 28; refine (HC.out _ bw (by first | omega | (simp only [zA]; omega)) (by first | go_keep | (simp [go_sem, *]; done))).mono ?_; rintro _ hb1w ⟨rfl, hb1⟩; obtain ⟨hb1c, hb1f⟩ := bcell hb1; have hb1s := hb1.size; (try simp only [zA] at hb1s); have hx1 : w.heap.size < hb1w.heap.size := (by omega); have hy1 : w.heap.size + 1 < hb1w.heap.size := (by omega)))
 all_goals go_ret
 all_goals exact ⟨rfl, bw⟩
set_option maxRecDepth 100000 in
theorem mv_M (w : World) (hp : IsP w ⟨rc, cc, code, rt, ct, types, rv, cv, curves, rm, cm, maps, cells, ri, ci, inputs, rs, cs, states, ro, co, outputs, rn, cn, initial⟩) (hsz : szP ⟨rc, cc, code, rt, ct, types, rv, cv, curves, rm, cm, maps, cells, ri, ci, inputs, rs, cs, states, ro, co, outputs, rn, cn, initial⟩) (hT : (types.any fun t => !fxB t) = false) (hC : (curves.any fun t => !cvB t) = false) (hM : (maps.any fun t => !mpB t) = true) : Calls Try.prog 34 #[.agg #[.slice rc code.length cc, .slice rt types.length ct, .slice rv curves.length cv, .slice rm maps.length cm, .int .i64 cells, .slice ri inputs.length ci, .slice rs states.length cs, .slice ro outputs.length co, .slice rn initial.length cn]] w fun e w' => e = .returned (.bool false) ∧ Below w.heap.size w w' := by
 obtain ⟨z0, z1, z2, z3, z4, z5, z6⟩ := hsz
 simp only at z0 z1 z2 z3 z4 z5 z6
 have f0 : ¬ ((4000 : Int) < code.length) := by omega
 have f1 : ¬ ((100 : Int) < types.length) := by omega
 have f2 : ¬ ((100 : Int) < curves.length) := by omega
 have f3 : ¬ ((100 : Int) < maps.length) := by omega
 have hs01 : w.heap.size < w.heap.size + 1 + 1 := by omega
 have f4 : ¬ cells < 0 := by omega
 have f5 : ¬ 1000 < cells := by omega
 have HT : Hid (∀ W, Below w.heap.size w W → w.heap.size + 1 < W.heap.size → W.cell? ⟨w.heap.size + 1, 0, none⟩ = some (.func (.func 57) #[] #[]) → Calls Try.prog 58 #[.slice rt types.length ct, .func (.func 59) #[] #[.pointer (some ⟨w.heap.size + 1, 0, none⟩)]] W fun e w' => e = .returned (.bool false) ∧ Below W.heap.size W w') := H! (fun W hW hs hc => mh_types ⟨rc, cc, code, rt, ct, types, rv, cv, curves, rm, cm, maps, cells, ri, ci, inputs, rs, cs, states, ro, co, outputs, rn, cn, initial⟩ W (hp.later hW) (w.heap.size + 1) false hT hs hc)
 have HC : Hid (∀ W, Below w.heap.size w W → w.heap.size + 1 < W.heap.size → W.cell? ⟨w.heap.size + 1, 0, none⟩ = some (.func (.func 57) #[] #[]) → Calls Try.prog 28 #[.slice rv curves.length cv, .func (.func 61) #[] #[.pointer (some ⟨w.heap.size + 1, 0, none⟩)]] W fun e w' => e = .returned (.bool false) ∧ Below W.heap.size W w') := H! (fun W hW hs hc => mh_curves ⟨rc, cc, code, rt, ct, types, rv, cv, curves, rm, cm, maps, cells, ri, ci, inputs, rs, cs, states, ro, co, outputs, rn, cn, initial⟩ W (hp.later hW) (w.heap.size + 1) false hC hs hc)
 have HM : Hid (∀ W, Below w.heap.size w W → w.heap.size + 1 < W.heap.size → W.cell? ⟨w.heap.size + 1, 0, none⟩ = some (.func (.func 57) #[] #[]) → Calls Try.prog 30 #[.slice rm maps.length cm, .func (.func 63) #[] #[.pointer (some ⟨w.heap.size + 1, 0, none⟩)]] W fun e w' => e = .returned (.bool true) ∧ Below W.heap.size W w') := H! (fun W hW hs hc => mh_maps ⟨rc, cc, code, rt, ct, types, rv, cv, curves, rm, cm, maps, cells, ri, ci, inputs, rs, cs, states, ro, co, outputs, rn, cn, initial⟩ W (hp.later hW) (w.heap.size + 1) true hM hs hc)
 clear hp hT hC hM
 go_enter Try.func34, Try.ntmps34
 go_wp2_with (first | (go_at_call 58; refine (HT.out _ bw (by first | omega | (simp only [zA]; omega)) (by first | go_keep | (simp [go_sem, *]; done))).mono ?_; rintro _ hb0w ⟨rfl, hb0⟩; obtain ⟨hb0c, hb0f⟩ := bcell hb0; have hb0s := hb0.size; (try simp only [zA] at hb0s); have hx0 : w.heap.size < hb0w.heap.size := (by omega); have hy0 : w.heap.size + 1 < hb0w.heap.size := (by omega)) | (go_at_call 28; refine (HC.out _ bw (by first | omega | (simp only [zA]; omega)) (by first | go_keep | (simp [go_sem, *]; done))).mono ?_; rintro _ hb1w ⟨rfl, hb1⟩; obtain ⟨hb1c, hb1f⟩ := bcell hb1; have hb1s := hb1.size; (try simp only [zA] at hb1s); have hx1 : w.heap.size < hb1w.heap.size := (by omega); have hy1 : w.heap.size + 1 < hb1w.heap.size := (by omega)) | (go_at_call 30; refine (HM.out _ bw (by first | omega | (simp only [zA]; omega)) (by first | go_keep | (simp [go_sem, *]; done))).mono ?_; rintro _ hb2w ⟨rfl, hb2⟩; obtain ⟨hb2c, hb2f⟩ := bcell hb2; have hb2s := hb2.size; (try simp only [zA] at hb2s); have hx2 : w.heap.size < hb2w.heap.size := (by omega); have hy2 : w.heap.size + 1 < hb2w.heap.size := (by omega)))
 all_goals go_ret
 all_goals exact ⟨rfl, bw⟩
set_option maxRecDepth 100000 in
theorem mv_I (w : World) (hp : IsP w ⟨rc, cc, code, rt, ct, types, rv, cv, curves, rm, cm, maps, cells, ri, ci, inputs, rs, cs, states, ro, co, outputs, rn, cn, initial⟩) (hsz : szP ⟨rc, cc, code, rt, ct, types, rv, cv, curves, rm, cm, maps, cells, ri, ci, inputs, rs, cs, states, ro, co, outputs, rn, cn, initial⟩) (hT : (types.any fun t => !fxB t) = false) (hC : (curves.any fun t => !cvB t) = false) (hM : (maps.any fun t => !mpB t) = false) (hI : (code.any fun i => !fitB cells curves.length maps.length types i) = true) : Calls Try.prog 34 #[.agg #[.slice rc code.length cc, .slice rt types.length ct, .slice rv curves.length cv, .slice rm maps.length cm, .int .i64 cells, .slice ri inputs.length ci, .slice rs states.length cs, .slice ro outputs.length co, .slice rn initial.length cn]] w fun e w' => e = .returned (.bool false) ∧ Below w.heap.size w w' := by
 obtain ⟨z0, z1, z2, z3, z4, z5, z6⟩ := hsz
 simp only at z0 z1 z2 z3 z4 z5 z6
 have f0 : ¬ ((4000 : Int) < code.length) := by omega
 have f1 : ¬ ((100 : Int) < types.length) := by omega
 have f2 : ¬ ((100 : Int) < curves.length) := by omega
 have f3 : ¬ ((100 : Int) < maps.length) := by omega
 have hs01 : w.heap.size < w.heap.size + 1 + 1 := by omega
 have f4 : ¬ cells < 0 := by omega
 have f5 : ¬ 1000 < cells := by omega
 have HT : Hid (∀ W, Below w.heap.size w W → w.heap.size + 1 < W.heap.size → W.cell? ⟨w.heap.size + 1, 0, none⟩ = some (.func (.func 57) #[] #[]) → Calls Try.prog 58 #[.slice rt types.length ct, .func (.func 59) #[] #[.pointer (some ⟨w.heap.size + 1, 0, none⟩)]] W fun e w' => e = .returned (.bool false) ∧ Below W.heap.size W w') := H! (fun W hW hs hc => mh_types ⟨rc, cc, code, rt, ct, types, rv, cv, curves, rm, cm, maps, cells, ri, ci, inputs, rs, cs, states, ro, co, outputs, rn, cn, initial⟩ W (hp.later hW) (w.heap.size + 1) false hT hs hc)
 have HC : Hid (∀ W, Below w.heap.size w W → w.heap.size + 1 < W.heap.size → W.cell? ⟨w.heap.size + 1, 0, none⟩ = some (.func (.func 57) #[] #[]) → Calls Try.prog 28 #[.slice rv curves.length cv, .func (.func 61) #[] #[.pointer (some ⟨w.heap.size + 1, 0, none⟩)]] W fun e w' => e = .returned (.bool false) ∧ Below W.heap.size W w') := H! (fun W hW hs hc => mh_curves ⟨rc, cc, code, rt, ct, types, rv, cv, curves, rm, cm, maps, cells, ri, ci, inputs, rs, cs, states, ro, co, outputs, rn, cn, initial⟩ W (hp.later hW) (w.heap.size + 1) false hC hs hc)
 have HM : Hid (∀ W, Below w.heap.size w W → w.heap.size + 1 < W.heap.size → W.cell? ⟨w.heap.size + 1, 0, none⟩ = some (.func (.func 57) #[] #[]) → Calls Try.prog 30 #[.slice rm maps.length cm, .func (.func 63) #[] #[.pointer (some ⟨w.heap.size + 1, 0, none⟩)]] W fun e w' => e = .returned (.bool false) ∧ Below W.heap.size W w') := H! (fun W hW hs hc => mh_maps ⟨rc, cc, code, rt, ct, types, rv, cv, curves, rm, cm, maps, cells, ri, ci, inputs, rs, cs, states, ro, co, outputs, rn, cn, initial⟩ W (hp.later hW) (w.heap.size + 1) false hM hs hc)
 have HI : Hid (∀ W, Below w.heap.size w W → w.heap.size + 1 < W.heap.size → W.cell? ⟨w.heap.size + 1, 0, none⟩ = some (.func (.func 57) #[] #[]) → W.cell? ⟨w.heap.size, 0, none⟩ = some (.slice rc code.length cc) → W.cell? ⟨w.heap.size, 1, none⟩ = some (.slice rt types.length ct) → W.cell? ⟨w.heap.size, 2, none⟩ = some (.slice rv curves.length cv) → W.cell? ⟨w.heap.size, 3, none⟩ = some (.slice rm maps.length cm) → W.cell? ⟨w.heap.size, 4, none⟩ = some (.int .i64 cells) → W.cell? ⟨w.heap.size, 5, none⟩ = some (.slice ri inputs.length ci) → W.cell? ⟨w.heap.size, 6, none⟩ = some (.slice rs states.length cs) → W.cell? ⟨w.heap.size, 7, none⟩ = some (.slice ro outputs.length co) → W.cell? ⟨w.heap.size, 8, none⟩ = some (.slice rn initial.length cn) → Calls Try.prog 65 #[.slice rc code.length cc, .func (.func 66) #[] #[.pointer (some ⟨w.heap.size + 1, 0, none⟩), .pointer (some ⟨w.heap.size, 0, none⟩)]] W fun e w' => e = .returned (.bool true) ∧ Below W.heap.size W w') := H! (fun W hW hs hc q0 q1 q2 q3 q4 q5 q6 q7 q8 => mh_code ⟨rc, cc, code, rt, ct, types, rv, cv, curves, rm, cm, maps, cells, ri, ci, inputs, rs, cs, states, ro, co, outputs, rn, cn, initial⟩ W (hp.later hW) (w.heap.size + 1) w.heap.size true hI hs (by omega) hc q0 q1 q2 q3 q4 q5 q6 q7 q8)
 clear hp hT hC hM hI
 go_enter Try.func34, Try.ntmps34
 go_wp2_with (first | (go_at_call 58; refine (HT.out _ bw (by first | omega | (simp only [zA]; omega)) (by first | go_keep | (simp [go_sem, *]; done))).mono ?_; rintro _ hb0w ⟨rfl, hb0⟩; obtain ⟨hb0c, hb0f⟩ := bcell hb0; have hb0s := hb0.size; (try simp only [zA] at hb0s); have hx0 : w.heap.size < hb0w.heap.size := (by omega); have hy0 : w.heap.size + 1 < hb0w.heap.size := (by omega)) | (go_at_call 28; refine (HC.out _ bw (by first | omega | (simp only [zA]; omega)) (by first | go_keep | (simp [go_sem, *]; done))).mono ?_; rintro _ hb1w ⟨rfl, hb1⟩; obtain ⟨hb1c, hb1f⟩ := bcell hb1; have hb1s := hb1.size; (try simp only [zA] at hb1s); have hx1 : w.heap.size < hb1w.heap.size := (by omega); have hy1 : w.heap.size + 1 < hb1w.heap.size := (by omega)) | (go_at_call 30; refine (HM.out _ bw (by first | omega | (simp only [zA]; omega)) (by first | go_keep | (simp [go_sem, *]; done))).mono ?_; rintro _ hb2w ⟨rfl, hb2⟩; obtain ⟨hb2c, hb2f⟩ := bcell hb2; have hb2s := hb2.size; (try simp only [zA] at hb2s); have hx2 : w.heap.size < hb2w.heap.size := (by omega); have hy2 : w.heap.size + 1 < hb2w.heap.size := (by omega)) | (go_at_call 65; refine (HI.out _ bw (by first | omega | (simp only [zA]; omega)) (by first | go_keep | (simp [go_sem, *]; done)) (by first | go_keep | (simp [go_sem, *]; done)) (by first | go_keep | (simp [go_sem, *]; done)) (by first | go_keep | (simp [go_sem, *]; done)) (by first | go_keep | (simp [go_sem, *]; done)) (by first | go_keep | (simp [go_sem, *]; done)) (by first | go_keep | (simp [go_sem, *]; done)) (by first | go_keep | (simp [go_sem, *]; done)) (by first | go_keep | (simp [go_sem, *]; done)) (by first | go_keep | (simp [go_sem, *]; done))).mono ?_; rintro _ hb3w ⟨rfl, hb3⟩; obtain ⟨hb3c, hb3f⟩ := bcell hb3; have hb3s := hb3.size; (try simp only [zA] at hb3s); have hx3 : w.heap.size < hb3w.heap.size := (by omega); have hy3 : w.heap.size + 1 < hb3w.heap.size := (by omega)))
 all_goals go_ret
 all_goals exact ⟨rfl, bw⟩
end
theorem inL_bad {cells : Int} {l : List Int} (h : 1000 < l.length ∨ l.any (badC cells) = true) : inL cells l = false := by
 unfold inL
 rcases h with h | h
 ·
  rw [show decide (l.length ≤ 1000) = false by simp; omega, Bool.false_and]
 ·
  rw [h]; simp
theorem inL_good {cells : Int} {l : List Int} (h0 : l.length ≤ 1000) (h1 : l.any (badC cells) = false) : inL cells l = true := by
 unfold inL
 rw [h1]; simp [h0]
theorem inL_bd {cells : Int} {l : List Int} (h : inL cells l = true) : l.length ≤ 1000 ∧ ∀ c ∈ l, 0 ≤ c ∧ c < cells := by
 unfold inL at h
 simp only [Bool.and_eq_true, decide_eq_true_eq, Bool.not_eq_true', List.any_eq_false] at h
 refine ⟨h.1, fun c hc => ?_⟩
 have := h.2 c hc
 unfold badC at this
 simp only [decide_eq_true_eq] at this
 omega
theorem nodup_bad {l : List Int} {k : Nat} (hk : k < l.length) (h : l.getD k 0 ∈ l.take k) : ¬ l.Nodup := fun hn => by
 rw [← List.take_append_drop k l] at hn
 have := (List.nodup_append.1 hn).2.2
 refine this _ h (l.getD k 0) ?_ rfl
 rw [List.mem_iff_getElem?]
 exact ⟨0, by simp [List.getElem?_drop, List.getD, List.getElem?_eq_getElem hk]⟩
theorem nodup_good {l : List Int} (h : ∀ k, k < l.length → l.getD k 0 ∉ l.take k) : l.Nodup := by
 have key : ∀ k, k ≤ l.length → (l.take k).Nodup := fun k => by
  induction k with
  | zero => intro _; simp
  | succ k ih =>
   intro hk
   rw [List.take_add_one, List.getElem?_eq_getElem (by omega)]
   refine List.nodup_append.2 ⟨ih (by omega), by simp, fun a ha b hb => ?_⟩
   obtain rfl : b = l[k] := by simpa using hb
   have := h k (by omega)
   rw [List.getD_eq_getElem?_getD, List.getElem?_eq_getElem (by omega)] at this
   exact fun e => this (by rw [e] at ha; exact ha)
 have := key l.length (Nat.le_refl _)
 rwa [List.take_length] at this
theorem concat2A (b : Nat) (r1 r2 : Option Addr) (c1 c2 : Nat) (xs ys all : List Int) (w : World) (hal : xs ++ ys = all) (hb : b < w.heap.size) (d0 : w.cell? ⟨b, 0, none⟩ = some (.slice r1 xs.length c1)) (d1 : w.cell? ⟨b, 1, none⟩ = some (.slice r2 ys.length c2))
  (hx : IsInts w r1 c1 .i64 xs) (hy : IsInts w r2 c2 .i64 ys) (hl : xs.length + ys.length ≤ 100000) (hw : ∀ x ∈ xs ++ ys, (Lit.int .i64 x).wf = true) :
  Calls Try.prog 70 #[.slice (some ⟨b, 0, none⟩) 2 2] w fun e w' => ∃ r cap, e = .returned (.slice r all.length cap) ∧ IsInts w' r cap .i64 all ∧ Below w.heap.size w w' := by
 subst hal
 exact concat2I b r1 r2 c1 c2 xs ys w hb d0 d1 hx hy hl hw
theorem lt_of_row {W : World} {g : Nat} {o : Obj} (h : W.heap[g]? = some o) : g < W.heap.size := by
 rcases Nat.lt_or_ge g W.heap.size with hh | hh
 ·
  exact hh
 ·
  rw [Array.getElem?_eq_none hh] at h; cases h
theorem made_b {W : World} {base g n : Nat} (h : W.ownsRow base 4 1 (.slice (some ⟨g, 0, none⟩) n n) n (madeCells (Value.bool false).cells (n * 1)).toList) : ∃ cur : Array Value, W.heap[g]? = some (.cells cur 4) ∧ cur.size = n ∧ ∀ t, t < n → cur[t]? = some (.bool false) := by
 rw [Nat.mul_one] at h
 have e : (madeCells (Value.bool false).cells n).toList = List.replicate n (Value.bool false) := toList_madeCells_one _ _
 rw [e] at h
 obtain ⟨_, ho⟩ := h
 rcases ho with ⟨hbad, _⟩ | ⟨g', cap, cur, he, _, hrow, _, _, hsz, hx⟩
 ·
  cases hbad
 simp only [Value.slice.injEq, Option.some.injEq, Addr.mk.injEq, and_true, true_and] at he
 obtain ⟨rfl, rfl⟩ := he
 rw [Nat.mul_one] at hsz hx
 refine ⟨cur, hrow, hsz, fun t ht => ?_⟩
 have := congrArg (fun l : List Value => l[t]?) hx
 simp only [List.getElem?_take_of_lt ht, Array.getElem?_toList, List.getElem?_replicate, ht, if_true] at this
 exact this
theorem row_store2 {W : World} {g k : Nat} {arr : Array Value} {t : TypeId} (h : W.heap[g]? = some (.cells arr t)) (v : Value) : (W.setCell ⟨g, k, none⟩ v).heap[g]? = some (.cells (arr.setIfInBounds k v) t) := by
 simp [World.setCell, Array.getElem?_modify, h]
set_option maxRecDepth 100000 in
theorem mv_main (rc : Option Addr) (cc : Nat) (code : List Ins) (rt : Option Addr) (ct : Nat) (types : List Fx) (rv : Option Addr) (cv : Nat) (curves : List Cv) (rm : Option Addr) (cm : Nat) (maps : List Mp) (cells : Int) (ri : Option Addr) (ci : Nat) (inputs : List Int) (rs : Option Addr) (cs : Nat) (states : List Int) (ro : Option Addr) (co : Nat) (outputs : List Int) (rn : Option Addr) (cn : Nat) (initial : List Int) (w : World) (hp : IsP w ⟨rc, cc, code, rt, ct, types, rv, cv, curves, rm, cm, maps, cells, ri, ci, inputs, rs, cs, states, ro, co, outputs, rn, cn, initial⟩) (hsz : szP ⟨rc, cc, code, rt, ct, types, rv, cv, curves, rm, cm, maps, cells, ri, ci, inputs, rs, cs, states, ro, co, outputs, rn, cn, initial⟩) (hT : (types.any fun t => !fxB t) = false) (hC : (curves.any fun t => !cvB t) = false) (hM : (maps.any fun t => !mpB t) = false) (hI : (code.any fun i => !fitB cells curves.length maps.length types i) = false) :
  Calls Try.prog 34 #[.agg #[.slice rc code.length cc, .slice rt types.length ct, .slice rv curves.length cv, .slice rm maps.length cm, .int .i64 cells, .slice ri inputs.length ci, .slice rs states.length cs, .slice ro outputs.length co, .slice rn initial.length cn]] w fun e w' => e = .returned (.bool (inL cells inputs && (inL cells outputs && (inL cells states && (decide (inputs ++ states).Nodup && !(initial.any badN)))))) ∧ Below w.heap.size w w' := by
 obtain ⟨R, hR⟩ : ∃ R, R = (inL cells inputs && (inL cells outputs && (inL cells states && (decide (inputs ++ states).Nodup && !(initial.any badN))))) := ⟨_, rfl⟩
 rw [← hR]
 have HR := H! hR
 clear hR
 have hin := hp.inputs
 have hout := hp.outputs
 have hst := hp.states
 have hini := hp.initial
 have HP := H! hp
 simp only at hin hout hst hini
 have mi := Nat.le_trans hin.le hin.max
 have mo := Nat.le_trans hout.le hout.max
 have ms := Nat.le_trans hst.le hst.max
 unfold maxLen at mi mo ms
 have HIN := H! hin
 have HOUT := H! hout
 have HST := H! hst
 have HINI := H! hini
 clear hin hout hst hini
 obtain ⟨z0, z1, z2, z3, z4, z5, z6⟩ := hsz
 simp only at z0 z1 z2 z3 z4 z5 z6
 have f0 : ¬ ((4000 : Int) < code.length) := by omega
 have f1 : ¬ ((100 : Int) < types.length) := by omega
 have f2 : ¬ ((100 : Int) < curves.length) := by omega
 have f3 : ¬ ((100 : Int) < maps.length) := by omega
 have hs01 : w.heap.size < w.heap.size + 1 + 1 := by omega
 have f4 : ¬ cells < 0 := by omega
 have f5 : ¬ 1000 < cells := by omega
 have HT : Hid (∀ W, Below w.heap.size w W → w.heap.size + 1 < W.heap.size → W.cell? ⟨w.heap.size + 1, 0, none⟩ = some (.func (.func 57) #[] #[]) → Calls Try.prog 58 #[.slice rt types.length ct, .func (.func 59) #[] #[.pointer (some ⟨w.heap.size + 1, 0, none⟩)]] W fun e w' => e = .returned (.bool false) ∧ Below W.heap.size W w') := H! (fun W hW hs hc => mh_types ⟨rc, cc, code, rt, ct, types, rv, cv, curves, rm, cm, maps, cells, ri, ci, inputs, rs, cs, states, ro, co, outputs, rn, cn, initial⟩ W (HP.out.later hW) (w.heap.size + 1) false hT hs hc)
 have HC : Hid (∀ W, Below w.heap.size w W → w.heap.size + 1 < W.heap.size → W.cell? ⟨w.heap.size + 1, 0, none⟩ = some (.func (.func 57) #[] #[]) → Calls Try.prog 28 #[.slice rv curves.length cv, .func (.func 61) #[] #[.pointer (some ⟨w.heap.size + 1, 0, none⟩)]] W fun e w' => e = .returned (.bool false) ∧ Below W.heap.size W w') := H! (fun W hW hs hc => mh_curves ⟨rc, cc, code, rt, ct, types, rv, cv, curves, rm, cm, maps, cells, ri, ci, inputs, rs, cs, states, ro, co, outputs, rn, cn, initial⟩ W (HP.out.later hW) (w.heap.size + 1) false hC hs hc)
 have HM : Hid (∀ W, Below w.heap.size w W → w.heap.size + 1 < W.heap.size → W.cell? ⟨w.heap.size + 1, 0, none⟩ = some (.func (.func 57) #[] #[]) → Calls Try.prog 30 #[.slice rm maps.length cm, .func (.func 63) #[] #[.pointer (some ⟨w.heap.size + 1, 0, none⟩)]] W fun e w' => e = .returned (.bool false) ∧ Below W.heap.size W w') := H! (fun W hW hs hc => mh_maps ⟨rc, cc, code, rt, ct, types, rv, cv, curves, rm, cm, maps, cells, ri, ci, inputs, rs, cs, states, ro, co, outputs, rn, cn, initial⟩ W (HP.out.later hW) (w.heap.size + 1) false hM hs hc)
 have HI : Hid (∀ W, Below w.heap.size w W → w.heap.size + 1 < W.heap.size → W.cell? ⟨w.heap.size + 1, 0, none⟩ = some (.func (.func 57) #[] #[]) → W.cell? ⟨w.heap.size, 0, none⟩ = some (.slice rc code.length cc) → W.cell? ⟨w.heap.size, 1, none⟩ = some (.slice rt types.length ct) → W.cell? ⟨w.heap.size, 2, none⟩ = some (.slice rv curves.length cv) → W.cell? ⟨w.heap.size, 3, none⟩ = some (.slice rm maps.length cm) → W.cell? ⟨w.heap.size, 4, none⟩ = some (.int .i64 cells) → W.cell? ⟨w.heap.size, 5, none⟩ = some (.slice ri inputs.length ci) → W.cell? ⟨w.heap.size, 6, none⟩ = some (.slice rs states.length cs) → W.cell? ⟨w.heap.size, 7, none⟩ = some (.slice ro outputs.length co) → W.cell? ⟨w.heap.size, 8, none⟩ = some (.slice rn initial.length cn) → Calls Try.prog 65 #[.slice rc code.length cc, .func (.func 66) #[] #[.pointer (some ⟨w.heap.size + 1, 0, none⟩), .pointer (some ⟨w.heap.size, 0, none⟩)]] W fun e w' => e = .returned (.bool false) ∧ Below W.heap.size W w') := H! (fun W hW hs hc q0 q1 q2 q3 q4 q5 q6 q7 q8 => mh_code ⟨rc, cc, code, rt, ct, types, rv, cv, curves, rm, cm, maps, cells, ri, ci, inputs, rs, cs, states, ro, co, outputs, rn, cn, initial⟩ W (HP.out.later hW) (w.heap.size + 1) w.heap.size false hI hs (by omega) hc q0 q1 q2 q3 q4 q5 q6 q7 q8)
 clear hp hT hC hM hI
 have Z6 := H! z6
 go_enter Try.func34, Try.ntmps34
 go_wp2_with (first | (go_at_call 58; refine (HT.out _ bw (by first | omega | (simp only [zA]; omega)) (by first | go_keep | (simp [go_sem, *]; done))).mono ?_; rintro _ hb0w ⟨rfl, hb0⟩; obtain ⟨hb0c, hb0f⟩ := bcell hb0; have hb0s := hb0.size; (try simp only [zA] at hb0s); have hx0 : w.heap.size < hb0w.heap.size := (by omega); have hy0 : w.heap.size + 1 < hb0w.heap.size := (by omega)) | (go_at_call 28; refine (HC.out _ bw (by first | omega | (simp only [zA]; omega)) (by first | go_keep | (simp [go_sem, *]; done))).mono ?_; rintro _ hb1w ⟨rfl, hb1⟩; obtain ⟨hb1c, hb1f⟩ := bcell hb1; have hb1s := hb1.size; (try simp only [zA] at hb1s); have hx1 : w.heap.size < hb1w.heap.size := (by omega); have hy1 : w.heap.size + 1 < hb1w.heap.size := (by omega)) | (go_at_call 30; refine (HM.out _ bw (by first | omega | (simp only [zA]; omega)) (by first | go_keep | (simp [go_sem, *]; done))).mono ?_; rintro _ hb2w ⟨rfl, hb2⟩; obtain ⟨hb2c, hb2f⟩ := bcell hb2; have hb2s := hb2.size; (try simp only [zA] at hb2s); have hx2 : w.heap.size < hb2w.heap.size := (by omega); have hy2 : w.heap.size + 1 < hb2w.heap.size := (by omega)) | (go_at_call 65; refine (HI.out _ bw (by first | omega | (simp only [zA]; omega)) (by first | go_keep | (simp [go_sem, *]; done)) (by first | go_keep | (simp [go_sem, *]; done)) (by first | go_keep | (simp [go_sem, *]; done)) (by first | go_keep | (simp [go_sem, *]; done)) (by first | go_keep | (simp [go_sem, *]; done)) (by first | go_keep | (simp [go_sem, *]; done)) (by first | go_keep | (simp [go_sem, *]; done)) (by first | go_keep | (simp [go_sem, *]; done)) (by first | go_keep | (simp [go_sem, *]; done)) (by first | go_keep | (simp [go_sem, *]; done))).mono ?_; rintro _ hb3w ⟨rfl, hb3⟩; obtain ⟨hb3c, hb3f⟩ := bcell hb3; have hb3s := hb3.size; (try simp only [zA] at hb3s); have hx3 : w.heap.size < hb3w.heap.size := (by omega); have hy3 : w.heap.size + 1 < hb3w.heap.size := (by omega)))
 have hq : ∀ o, (hb3w.alloc (.cells #[.slice ri inputs.length ci, .slice ro outputs.length co, .slice rs states.length cs] 26)).cell? ⟨w.heap.size, o, none⟩ = hb0w.cell? ⟨w.heap.size, o, none⟩ := fun o => by
  rw [((Below.refl hb3w.heap.size hb3w).alloc (Nat.le_refl _) _).cell (p := ⟨w.heap.size, o, none⟩) (by show w.heap.size < hb3w.heap.size; omega), hb3c _ _ (by omega), hb2c _ _ (by omega), hb1c _ _ (by omega)]
 have q4 : (hb3w.alloc (.cells #[.slice ri inputs.length ci, .slice ro outputs.length co, .slice rs states.length cs] 26)).cell? ⟨w.heap.size, 4, none⟩ = some (.int .i64 cells) := by rw [hq, hb0c _ _ (by simp only [zA]; omega)]; first | go_keep | (simp; done) | (simp [Z6.out]; done)
 have q5 : (hb3w.alloc (.cells #[.slice ri inputs.length ci, .slice ro outputs.length co, .slice rs states.length cs] 26)).cell? ⟨w.heap.size, 5, none⟩ = some (.slice ri inputs.length ci) := by rw [hq, hb0c _ _ (by simp only [zA]; omega)]; first | go_keep | (simp; done) | (simp [Z6.out]; done)
 have q6 : (hb3w.alloc (.cells #[.slice ri inputs.length ci, .slice ro outputs.length co, .slice rs states.length cs] 26)).cell? ⟨w.heap.size, 6, none⟩ = some (.slice rs states.length cs) := by rw [hq, hb0c _ _ (by simp only [zA]; omega)]; first | go_keep | (simp; done) | (simp [Z6.out]; done)
 have q8 : (hb3w.alloc (.cells #[.slice ri inputs.length ci, .slice ro outputs.length co, .slice rs states.length cs] 26)).cell? ⟨w.heap.size, 8, none⟩ = some (.slice rn initial.length cn) := by rw [hq, hb0c _ _ (by simp only [zA]; omega)]; first | go_keep | (simp; done) | (simp [Z6.out]; done)
 clear z6
 have l0 : (hb3w.alloc (.cells #[.slice ri inputs.length ci, .slice ro outputs.length co, .slice rs states.length cs] 26)).cell? ⟨hb3w.heap.size, 0, none⟩ = some (.slice ri inputs.length ci) := by go_keep
 have l1 : (hb3w.alloc (.cells #[.slice ri inputs.length ci, .slice ro outputs.length co, .slice rs states.length cs] 26)).cell? ⟨hb3w.heap.size, 1, none⟩ = some (.slice ro outputs.length co) := by go_keep
 have l2 : (hb3w.alloc (.cells #[.slice ri inputs.length ci, .slice ro outputs.length co, .slice rs states.length cs] 26)).cell? ⟨hb3w.heap.size, 2, none⟩ = some (.slice rs states.length cs) := by go_keep
 have hbW : Below w.heap.size w (hb3w.alloc (.cells #[.slice ri inputs.length ci, .slice ro outputs.length co, .slice rs states.length cs] 26)) := bw
 have z1 : w.heap.size < (hb3w.alloc (.cells #[.slice ri inputs.length ci, .slice ro outputs.length co, .slice rs states.length cs] 26)).heap.size := by rw [zA]; omega
 have z2 : hb3w.heap.size < (hb3w.alloc (.cells #[.slice ri inputs.length ci, .slice ro outputs.length co, .slice rs states.length cs] 26)).heap.size := by rw [zA]; omega
 generalize hb3w.alloc (.cells #[.slice ri inputs.length ci, .slice ro outputs.length co, .slice rs states.length cs] 26) = W3 at *
 generalize hb3w.heap.size = bl at *
 clear hq hb0c hb1c hb2c hb3c hb0f hb1f hb2f hb3f hb0 hb1 hb2 hb3 HT HC HM HI
 go_loopg [78] 3 (fun kx s78 wr => ∃ (k : Nat) (e : Later W3), s78 = .int .i64 k ∧ k ≤ 3 ∧ 3 - k ≤ kx ∧ wr = e.w ∧ Hid ((1 ≤ k → inL cells inputs = true) ∧ (2 ≤ k → inL cells outputs = true) ∧ (3 ≤ k → inL cells states = true)))
 case atStart => exact ⟨0, ⟨W3, Below.refl _ _⟩, rfl, by omega, by omega, rfl, H! ⟨fun h => absurd h (by omega), fun h => absurd h (by omega), fun h => absurd h (by omega)⟩⟩
 case round =>
  obtain ⟨k, e, rfl, hk, hkx, rfl, HG⟩ := hrel
  have hes := e.h.size
  by_cases hk3 : k < 3
  ·
   obtain rfl | rfl | rfl : k = 0 ∨ k = 1 ∨ k = 2 := by omega
   ·
    by_cases n0 : 1000 < inputs.length
    ·
     have HB : Hid (R = false) := H! (by rw [HR.out, inL_bad (.inl n0)]; simp)
     have n0i : (1000 : Int) < inputs.length := by omega
     go_wp2
     go_ret
     exact ⟨ret_bool HB.out.symm, hbW.trans (e.h.mono (by omega))⟩
    ·
     have n0i : ¬ (1000 : Int) < inputs.length := by omega
     cases hb : inputs.any (badC cells)
     ·
      have HGD := H! (inL_good (cells := cells) (by omega) hb)
      go_wp2_with (go_at_call 68; refine (mh_list w.heap.size cells ri ci inputs e.w (HIN.out.later (hbW.trans (e.h.mono (by omega)))) false hb (Nat.lt_of_lt_of_le z1 hes) ((Later.cell e z1).trans q4)).mono ?_; rintro _ w5 ⟨rfl, hb5⟩; obtain ⟨e5, rfl⟩ := e.next hb5)
      go_roundg (3 - (0 + 1))
      case measure => omega
      case rel => exact ⟨0 + 1, e5, by go_num, by omega, by omega, rfl, H! ⟨fun _ => HGD.out, fun h => absurd h (by omega), fun h => absurd h (by omega)⟩⟩
     ·
      have HB : Hid (R = false) := H! (by rw [HR.out, inL_bad (.inr hb)]; simp)
      go_wp2_with (go_at_call 68; refine (mh_list w.heap.size cells ri ci inputs e.w (HIN.out.later (hbW.trans (e.h.mono (by omega)))) true hb (Nat.lt_of_lt_of_le z1 hes) ((Later.cell e z1).trans q4)).mono ?_; rintro _ w5 ⟨rfl, hb5⟩; obtain ⟨e5, rfl⟩ := e.next hb5)
      go_ret
      exact ⟨ret_bool HB.out.symm, hbW.trans (e5.h.mono (by omega))⟩
   ·
    by_cases n0 : 1000 < outputs.length
    ·
     have HB : Hid (R = false) := H! (by rw [HR.out, HG.out.1 (by omega), inL_bad (.inl n0)]; simp)
     have n0i : (1000 : Int) < outputs.length := by omega
     go_wp2
     go_ret
     exact ⟨ret_bool HB.out.symm, hbW.trans (e.h.mono (by omega))⟩
    ·
     have n0i : ¬ (1000 : Int) < outputs.length := by omega
     cases hb : outputs.any (badC cells)
     ·
      have HGD := H! (inL_good (cells := cells) (by omega) hb)
      go_wp2_with (go_at_call 68; refine (mh_list w.heap.size cells ro co outputs e.w (HOUT.out.later (hbW.trans (e.h.mono (by omega)))) false hb (Nat.lt_of_lt_of_le z1 hes) ((Later.cell e z1).trans q4)).mono ?_; rintro _ w5 ⟨rfl, hb5⟩; obtain ⟨e5, rfl⟩ := e.next hb5)
      go_roundg (3 - (1 + 1))
      case measure => omega
      case rel => exact ⟨1 + 1, e5, by go_num, by omega, by omega, rfl, H! ⟨fun _ => HG.out.1 (by omega), fun _ => HGD.out, fun h => absurd h (by omega)⟩⟩
     ·
      have HB : Hid (R = false) := H! (by rw [HR.out, HG.out.1 (by omega), inL_bad (.inr hb)]; simp)
      go_wp2_with (go_at_call 68; refine (mh_list w.heap.size cells ro co outputs e.w (HOUT.out.later (hbW.trans (e.h.mono (by omega)))) true hb (Nat.lt_of_lt_of_le z1 hes) ((Later.cell e z1).trans q4)).mono ?_; rintro _ w5 ⟨rfl, hb5⟩; obtain ⟨e5, rfl⟩ := e.next hb5)
      go_ret
      exact ⟨ret_bool HB.out.symm, hbW.trans (e5.h.mono (by omega))⟩
   ·
    by_cases n0 : 1000 < states.length
    ·
     have HB : Hid (R = false) := H! (by rw [HR.out, HG.out.1 (by omega), HG.out.2.1 (by omega), inL_bad (.inl n0)]; simp)
     have n0i : (1000 : Int) < states.length := by omega
     go_wp2
     go_ret
     exact ⟨ret_bool HB.out.symm, hbW.trans (e.h.mono (by omega))⟩
    ·
     have n0i : ¬ (1000 : Int) < states.length := by omega
     cases hb : states.any (badC cells)
     ·
      have HGD := H! (inL_good (cells := cells) (by omega) hb)
      go_wp2_with (go_at_call 68; refine (mh_list w.heap.size cells rs cs states e.w (HST.out.later (hbW.trans (e.h.mono (by omega)))) false hb (Nat.lt_of_lt_of_le z1 hes) ((Later.cell e z1).trans q4)).mono ?_; rintro _ w5 ⟨rfl, hb5⟩; obtain ⟨e5, rfl⟩ := e.next hb5)
      go_roundg (3 - (2 + 1))
      case measure => omega
      case rel => exact ⟨2 + 1, e5, by go_num, by omega, by omega, rfl, H! ⟨fun _ => HG.out.1 (by omega), fun _ => HG.out.2.1 (by omega), fun _ => HGD.out⟩⟩
     ·
      have HB : Hid (R = false) := H! (by rw [HR.out, HG.out.1 (by omega), HG.out.2.1 (by omega), inL_bad (.inr hb)]; simp)
      go_wp2_with (go_at_call 68; refine (mh_list w.heap.size cells rs cs states e.w (HST.out.later (hbW.trans (e.h.mono (by omega)))) true hb (Nat.lt_of_lt_of_le z1 hes) ((Later.cell e z1).trans q4)).mono ?_; rintro _ w5 ⟨rfl, hb5⟩; obtain ⟨e5, rfl⟩ := e.next hb5)
      go_ret
      exact ⟨ret_bool HB.out.symm, hbW.trans (e5.h.mono (by omega))⟩
  ·
   obtain rfl : k = 3 := by omega
   obtain ⟨G1, G2, G3⟩ := HG.out
   have g1 := G1 (by omega)
   have g2 := G2 (by omega)
   have g3 := G3 (by omega)
   clear G1 G2 G3 HG l0 l1 l2
   have z3 : w.heap.size < e.w.heap.size := Nat.lt_of_lt_of_le z1 hes
   obtain ⟨m, rfl⟩ : ∃ m : Nat, cells = m := ⟨cells.toNat, by omega⟩
   have hle : inputs.length + states.length ≤ 100000 := by
    have := (inL_bd g1).1
    have := (inL_bd g3).1
    omega
   obtain ⟨i0, hi, hz0, hz1, hz2⟩ := info_parts infoBool
   have hbe : Below w.heap.size w e.w := hbW.trans (e.h.mono (by omega))
   obtain ⟨all, hal⟩ : ∃ all, inputs ++ states = all := ⟨_, rfl⟩
   have HAL := H! hal
   have hlm : all.length ≤ 100000 := by rw [← hal, List.length_append]; exact hle
   rw [hal] at HR
   have HM : Hid (∀ c ∈ all, 0 ≤ c ∧ c < (m : Int)) := H! (fun c hc => (List.mem_append.1 (hal ▸ hc)).elim ((inL_bd g1).2 c) ((inL_bd g3).2 c))
   clear hal
   have u4 := (Later.cell e z1).trans q4
   have u5 := (Later.cell e z1).trans q5
   have u6 := (Later.cell e z1).trans q6
   have u8 := (Later.cell e z1).trans q8
   have G := H! (And.intro g1 (And.intro g2 g3))
   clear g1 g2 g3 q4 q5 q6 q8
   go_wp2_with (first | (at_make; refine wpList_make_full _ (by rfl) _ _ _ (by rfl) e.w.heap.size 4 i0 (.bool false) 1 Try.underlying77 hi hz0 hz1 .i64 .i64 _ _ m (by rfl) (by rfl) (by rfl) (by rfl) (by rw [hz2]; omega) (by unfold maxLen; omega) (Nat.le_refl _) ?_; intro w4 hown hgrow; have hb4 : Below e.w.heap.size e.w w4 := (Below.refl _ _).grown hgrow (Nat.le_refl _) (fun k hk => by cases hk); obtain ⟨cur, hrow, hsz, hcur⟩ := made_b hown; clear hown hgrow; have z4 : e.w.heap.size < w4.heap.size := lt_of_row hrow; have z5 : w.heap.size < w4.heap.size := (by omega); have r5 := (hb4.cell (p := ⟨w.heap.size, 5, none⟩) z3).trans u5; have r6 := (hb4.cell (p := ⟨w.heap.size, 6, none⟩) z3).trans u6; have r8 := (hb4.cell (p := ⟨w.heap.size, 8, none⟩) z3).trans u8; have hbw4 : Below w.heap.size w w4 := hbe.trans (hb4.mono (by omega))) | (go_at_call 70; refine (concat2A w4.heap.size ri rs ci cs inputs states all _ HAL.out (by rw [zA]; omega) (by simp) (by simp) (HIN.out.later (hbw4.trans (((Below.refl w4.heap.size w4).alloc (Nat.le_refl _) _).mono (by omega)))) (HST.out.later (hbw4.trans (((Below.refl w4.heap.size w4).alloc (Nat.le_refl _) _).mono (by omega)))) hle (fun x hx => (List.mem_append.1 hx).elim (HIN.out.wf x) (HST.out.wf x))).mono ?_; rintro _ w5 ⟨ra, ca, rfl, hall, hb5⟩; have hb5' := hb5; rw [zA] at hb5'; have z6 : w4.heap.size < w5.heap.size := (by have hsz5 := hb5'.size; rw [zA] at hsz5; omega); have hrow5 : w5.heap[e.w.heap.size]? = some (.cells cur 4) := ((hb5'.block e.w.heap.size (by omega)).trans (((Below.refl w4.heap.size w4).alloc (Nat.le_refl _) _).block e.w.heap.size (by omega))).trans hrow; have r8b := (hb5'.cell (p := ⟨w.heap.size, 8, none⟩) (show w.heap.size < w4.heap.size + 1 from (by omega))).trans ((((Below.refl w4.heap.size w4).alloc (Nat.le_refl _) _).cell (p := ⟨w.heap.size, 8, none⟩) z5).trans r8); have hbz : Below w.heap.size w w5 := hbw4.trans ((((Below.refl w4.heap.size w4).alloc (Nat.le_refl _) _).mono (by omega)).trans (hb5'.mono (by omega)))))
   have HALL := H! hall
   clear hall
   generalize hgt : e.w.heap.size = gT at *
   go_loopg [8, 101] all.length (fun kx s8 s101 wr => ∃ (k : Nat) (arr : Array Value), s101 = .int .i64 k ∧ k ≤ all.length ∧ all.length - k ≤ kx ∧ KeepB w5.heap.size gT w5 wr ∧ Hid (wr.heap[gT]? = some (.cells arr 4)) ∧ arr.size = m ∧ Hid (∀ t : Nat, t < m → arr[t]? = some (.bool (decide ((t : Int) ∈ all.take k)))) ∧ Hid (∀ j, j < k → all.getD j 0 ∉ all.take j))
   case atStart => exact ⟨0, cur, rfl, by omega, by omega, KeepB.refl _ _ _, H! hrow5, hsz, H! (fun t ht => by rw [hcur t ht]; simp), H! (fun j hj => absurd hj (by omega))⟩
   case round =>
    obtain ⟨k, arr, rfl, hk, hkx, hK, HR2, hasz, HA, HN⟩ := hrel
    have hbr : Below w.heap.size w wr := hbz.trans (hK.below (by omega) (by omega))
    by_cases hlt : k < all.length
    ·
     obtain ⟨b5, o5, rfl, hb5b, hcells⟩ := HALL.out.cells (by intro h; rw [h] at hlt; simp at hlt)
     have hc5 := hcells k hlt
     have hmem : all.getD k 0 ∈ all := by rw [List.getD_eq_getElem?_getD, List.getElem?_eq_getElem hlt]; exact List.getElem_mem hlt
     obtain ⟨c0, c1⟩ := HM.out _ hmem
     obtain ⟨t, ht⟩ : ∃ t : Nat, all.getD k 0 = t := ⟨(all.getD k 0).toNat, by omega⟩
     have hne : b5 ≠ gT := fun h => by
      subst h
      rw [cell_of_row w5 b5 (o5 + k) cur _ _ hrow5] at hc5
      have hlt2 : o5 + k < m := by
       rcases Nat.lt_or_ge (o5 + k) m with hh | hh
       ·
        exact hh
       ·
        rw [Array.getElem?_eq_none (by omega)] at hc5; cases hc5
      rw [hcur _ hlt2] at hc5
      cases hc5
     have hcw : wr.cell? ⟨b5, o5 + k, none⟩ = some (.int .i64 t) := by rw [hK.cell hb5b hne, hc5, ht]
     have HT2 := H! ht
     rw [ht] at c0 c1
     have htm : t < m := by omega
     have hct : wr.cell? ⟨gT, t, none⟩ = some (.bool (decide ((t : Int) ∈ all.take k))) := by rw [cell_of_row wr gT t arr _ _ HR2.out, HA.out t htm]
     have hft : wr.frozen? ⟨gT, t, none⟩ = false := by simp [World.frozen?, HR2.out]
     have hk1 : (0 : Int) ≤ (k : Int) := by omega
     have hk2 : (k : Int) < all.length := by omega
     clear ht hc5 hcells hmem
     cases hd : decide ((t : Int) ∈ all.take k)
     ·
      rw [hd] at hct
      have HD := H! hd
      clear hd
      go_wp2
      go_roundg (all.length - (k + 1))
      case measure => omega
      case rel =>
       refine ⟨k + 1, arr.setIfInBounds t (.bool true), by go_num, by omega, by omega, hK.trans (KeepB.setC _ _ _), H! (row_store2 HR2.out _), by simpa using hasz, H! (fun u hu => ?_), H! (fun j hj => ?_)⟩
       ·
        have hadd : all.take (k + 1) = all.take k ++ [(t : Int)] := by
         have hh := HT2.out
         rw [List.getD_eq_getElem?_getD, List.getElem?_eq_getElem hlt] at hh
         rw [List.take_add_one, List.getElem?_eq_getElem hlt, ← hh]; rfl
        rw [Array.getElem?_setIfInBounds, hadd]
        by_cases he : t = u
        ·
         subst he
         simp [hasz, htm]
        ·
         rw [if_neg he, HA.out u hu]
         have : ¬ (u : Int) = t := by omega
         simp [this]
       ·
        by_cases hjk : j = k
        ·
         subst hjk
         rw [HT2.out]
         exact of_decide_eq_false HD.out
        ·
         exact HN.out j (by omega)
     ·
      rw [hd] at hct
      have HB : Hid (R = false) := H! (by
       have hm : ¬ all.Nodup := nodup_bad hlt (by rw [HT2.out]; exact of_decide_eq_true hd)
       rw [HR.out, decide_eq_false hm]; simp)
      clear hd
      go_wp2
      go_ret
      exact ⟨ret_bool HB.out.symm, hbr⟩
    ·
     obtain rfl : k = all.length := by omega
     have hnd : all.Nodup := nodup_good (fun j hj => HN.out j hj)
     have HE : Hid (R = !(initial.any badN)) := H! (by
      rw [HR.out, G.out.1, G.out.2.1, G.out.2.2, decide_eq_true hnd]; rfl)
     have hcr : wr.cell? ⟨w.heap.size, 8, none⟩ = some (.slice rn initial.length cn) := by rw [hK.cell (by omega) (by omega)]; exact r8b
     have hini2 := HINI.out.later hbr
     have HI2 := H! (mh_ini rn cn initial wr hini2 _ rfl)
     clear hini2 hnd
     generalize initial.any badN = bi at *
     go_wp2_with (go_at_call 68; refine HI2.out.mono ?_; rintro _ w6 ⟨rfl, hb6⟩)
     go_ret
     exact ⟨ret_bool HE.out.symm, hbr.trans (hb6.mono hbr.size)⟩
theorem mvalid_any (p : PV) (w : World) (hp : IsP w p) : Calls Try.prog 34 #[p.val] w fun e w' => e = .returned (.bool (validB p)) ∧ Below w.heap.size w w' := by
 by_cases hsz : szP p
 rotate_left
 ·
  have e : validB p = false := by unfold validB; rw [decide_eq_false hsz]; rfl
  rw [e]
  exact mv_sz p w hp hsz
 have e0 : decide (szP p) = true := decide_eq_true hsz
 cases hT : (p.types.any fun t => !fxB t)
 rotate_left
 ·
  have e : validB p = false := by unfold validB; rw [hT]; simp
  rw [e]
  obtain ⟨rc, cc, code, rt, ct, types, rv, cv, curves, rm, cm, maps, cells, ri, ci, inputs, rs, cs, states, ro, co, outputs, rn, cn, initial⟩ := p
  simp only [PV.val]
  exact mv_T _ _ _ _ _ _ _ _ _ _ _ _ _ _ _ _ _ _ _ _ _ _ _ _ _ w hp hsz hT
 cases hC : (p.curves.any fun t => !cvB t)
 rotate_left
 ·
  have e : validB p = false := by unfold validB; rw [hC]; simp
  rw [e]
  obtain ⟨rc, cc, code, rt, ct, types, rv, cv, curves, rm, cm, maps, cells, ri, ci, inputs, rs, cs, states, ro, co, outputs, rn, cn, initial⟩ := p
  simp only [PV.val]
  exact mv_C _ _ _ _ _ _ _ _ _ _ _ _ _ _ _ _ _ _ _ _ _ _ _ _ _ w hp hsz hT hC
 cases hM : (p.maps.any fun t => !mpB t)
 rotate_left
 ·
  have e : validB p = false := by unfold validB; rw [hM]; simp
  rw [e]
  obtain ⟨rc, cc, code, rt, ct, types, rv, cv, curves, rm, cm, maps, cells, ri, ci, inputs, rs, cs, states, ro, co, outputs, rn, cn, initial⟩ := p
  simp only [PV.val]
  exact mv_M _ _ _ _ _ _ _ _ _ _ _ _ _ _ _ _ _ _ _ _ _ _ _ _ _ w hp hsz hT hC hM
 cases hI : (p.code.any fun i => !fitB p.cells p.curves.length p.maps.length p.types i)
 rotate_left
 ·
  have e : validB p = false := by unfold validB; rw [hI]; simp
  rw [e]
  obtain ⟨rc, cc, code, rt, ct, types, rv, cv, curves, rm, cm, maps, cells, ri, ci, inputs, rs, cs, states, ro, co, outputs, rn, cn, initial⟩ := p
  simp only [PV.val]
  exact mv_I _ _ _ _ _ _ _ _ _ _ _ _ _ _ _ _ _ _ _ _ _ _ _ _ _ w hp hsz hT hC hM hI
 have e : validB p = (inL p.cells p.inputs && (inL p.cells p.outputs && (inL p.cells p.states && (decide (p.inputs ++ p.states).Nodup && !(p.initial.any badN))))) := by
  unfold validB
  rw [e0, hT, hC, hM, hI]
  simp only [Bool.not_false, Bool.true_and]
 rw [e]
 obtain ⟨rc, cc, code, rt, ct, types, rv, cv, curves, rm, cm, maps, cells, ri, ci, inputs, rs, cs, states, ro, co, outputs, rn, cn, initial⟩ := p
 simp only [PV.val]
 exact mv_main _ _ _ _ _ _ _ _ _ _ _ _ _ _ _ _ _ _ _ _ _ _ _ _ _ w hp hsz hT hC hM hI
end Go.Proofs.Ytfooefiaenlhmaa
