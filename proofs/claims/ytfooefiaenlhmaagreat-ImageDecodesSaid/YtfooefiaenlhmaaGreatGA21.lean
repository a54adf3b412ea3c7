/- Lemmas for the laws of package magnetolaw15: what its functions return, for any arguments that the lemmas name. -/
import Derived.Test.YtfooefiaenlhmaaGreatGA4
import Derived.Test.YtfooefiaenlhmaaGreatGA9
import Derived.Test.YtfooefiaenlhmaaGreatGA11
import Derived.Test.YtfooefiaenlhmaaGreatGA20
namespace Go.Proofs.YtfooefiaenlhmaaGreat
set_option linter.unusedVariables false
set_option linter.unusedSimpArgs false
set_option maxHeartbeats 16000000
open Go.RowKit Go.ChangeShapes Go.WideShapes Go.ChangeAt
section
variable (rc : Option Addr) (cc : Nat) (code : List Ins) (rt : Option Addr) (ct : Nat) (types : List Fx) (rv : Option Addr) (cv : Nat) (curves : List Cv) (rm : Option Addr) (cm : Nat) (maps : List Mp) (cells : Int) (ri : Option Addr) (ci : Nat) (inputs : List Int) (rs : Option Addr) (cs : Nat) (states : List Int) (ro : Option Addr) (co : Nat) (outputs : List Int) (rn : Option Addr) (cn : Nat) (initial : List Int)
theorem any_bad {α : Type} [Inhabited α] {l : List α} {p : α → Bool} {j : Nat} (hj : j < l.length) (h : p (l.getD j default) = true) : l.any p = true := List.any_eq_true.2 ⟨_, getD_mem_of hj, h⟩
theorem any_good {α : Type} [Inhabited α] {l : List α} {p : α → Bool} (h : ∀ j, j < l.length → p (l.getD j default) = false) : l.any p = false := by
 rw [List.any_eq_false]
 intro x hx
 obtain ⟨i, hi, rfl⟩ := List.getElem_of_mem hx
 have := h i hi
 rw [List.getD_eq_getElem?_getD, List.getElem?_eq_getElem hi] at this
 simpa using this
theorem vb_T {p : PV} {j : Nat} (hj : j < p.types.length) (h : fxB (p.types.getD j default) = false) : validB p = false := by
 unfold validB; rw [any_bad (p := fun t => !fxB t) hj (by show (!fxB _) = true; rw [h]; rfl)]; simp
theorem vb_C {p : PV} {j : Nat} (hj : j < p.curves.length) (h : cvB (p.curves.getD j default) = false) : validB p = false := by
 unfold validB; rw [any_bad (p := fun t => !cvB t) hj (by show (!cvB _) = true; rw [h]; rfl)]; simp
theorem vb_M {p : PV} {j : Nat} (hj : j < p.maps.length) (h : mpB (p.maps.getD j default) = false) : validB p = false := by
 unfold validB; rw [any_bad (p := fun t => !mpB t) hj (by show (!mpB _) = true; rw [h]; rfl)]; simp
theorem vb_I {p : PV} {j : Nat} (hj : j < p.code.length) (h : fitB p.cells p.curves.length p.maps.length p.types (p.code.getD j default) = false) : validB p = false := by
 unfold validB; rw [any_bad (p := fun i => !fitB p.cells p.curves.length p.maps.length p.types i) hj (by show (!fitB _ _ _ _ _) = true; rw [h]; rfl)]; simp
theorem vb_Z {p : PV} (h : ¬ szP p) : validB p = false := by unfold validB; rw [decide_eq_false h]; rfl
theorem vb_L1 {p : PV} (h : inL p.cells p.inputs = false) : validB p = false := by unfold validB; rw [h]; simp
theorem vb_L2 {p : PV} (h : inL p.cells p.outputs = false) : validB p = false := by unfold validB; rw [h]; simp
theorem vb_L3 {p : PV} (h : inL p.cells p.states = false) : validB p = false := by unfold validB; rw [h]; simp
theorem vb_N {p : PV} (h : ¬ (p.inputs ++ p.states).Nodup) : validB p = false := by unfold validB; rw [decide_eq_false h]; simp
theorem vb_B {p : PV} {j : Nat} (hj : j < p.initial.length) (h : badN (p.initial.getD j 0) = true) : validB p = false := by
 unfold validB; rw [show p.initial.any badN = true from List.any_eq_true.2 ⟨_, getD_mem' hj, h⟩]; simp
theorem vb_ok {p : PV} (hz : szP p) (hT : ∀ j, j < p.types.length → fxB (p.types.getD j default) = true) (hC : ∀ j, j < p.curves.length → cvB (p.curves.getD j default) = true) (hM : ∀ j, j < p.maps.length → mpB (p.maps.getD j default) = true)
  (hI : ∀ j, j < p.code.length → fitB p.cells p.curves.length p.maps.length p.types (p.code.getD j default) = true) (h1 : inL p.cells p.inputs = true) (h2 : inL p.cells p.outputs = true) (h3 : inL p.cells p.states = true) (hn : (p.inputs ++ p.states).Nodup)
  (hB : ∀ j, j < p.initial.length → badN (p.initial.getD j 0) = false) : validB p = true := by
 unfold validB
 rw [decide_eq_true hz, any_good (p := fun t => !fxB t) (fun j hj => by show (!fxB _) = false; rw [hT j hj]; rfl), any_good (p := fun t => !cvB t) (fun j hj => by show (!cvB _) = false; rw [hC j hj]; rfl), any_good (p := fun t => !mpB t) (fun j hj => by show (!mpB _) = false; rw [hM j hj]; rfl), any_good (p := fun i => !fitB p.cells p.curves.length p.maps.length p.types i) (fun j hj => by show (!fitB _ _ _ _ _) = false; rw [hI j hj]; rfl), h1, h2, h3, decide_eq_true hn, any_good (p := badN) (fun j hj => hB j hj)]
 rfl
theorem ownI_set {W : World} {base : Nat} {r : Option Addr} {cap : Nat} {xs ys : List Int} (h : OwnK .i64 3 W base r cap xs) (e : xs = ys) : OwnK .i64 3 W base r cap ys := e ▸ h
set_option maxRecDepth 100000 in
theorem r13_sz0 (n0 : ¬ code.length ≤ 4000) (m0 : code.length ≤ 9223372036854775807 ∧ types.length ≤ 9223372036854775807 ∧ curves.length ≤ 9223372036854775807 ∧ maps.length ≤ 9223372036854775807) (w : World) : Calls Tryz.prog 10 #[.agg #[.slice rc code.length cc, .slice rt types.length ct, .slice rv curves.length cv, .slice rm maps.length cm, .int .i64 cells, .slice ri inputs.length ci, .slice rs states.length cs, .slice ro outputs.length co, .slice rn initial.length cn]] w fun e w' => e = .returned (.bool false) ∧ Below w.heap.size w w' := by
 obtain ⟨m0, m1, m2, m3⟩ := m0
 have f0 : ((4000 : Int) < code.length) := by omega
 go_enter Tryz.func10, Tryz.ntmps10
 go_wp2
 go_ret
 exact ⟨rfl, bw⟩
set_option maxRecDepth 100000 in
theorem r13_sz1 (h0 : code.length ≤ 4000) (n1 : ¬ types.length ≤ 100) (m0 : code.length ≤ 9223372036854775807 ∧ types.length ≤ 9223372036854775807 ∧ curves.length ≤ 9223372036854775807 ∧ maps.length ≤ 9223372036854775807) (w : World) : Calls Tryz.prog 10 #[.agg #[.slice rc code.length cc, .slice rt types.length ct, .slice rv curves.length cv, .slice rm maps.length cm, .int .i64 cells, .slice ri inputs.length ci, .slice rs states.length cs, .slice ro outputs.length co, .slice rn initial.length cn]] w fun e w' => e = .returned (.bool false) ∧ Below w.heap.size w w' := by
 obtain ⟨m0, m1, m2, m3⟩ := m0
 have f0 : ¬ ((4000 : Int) < code.length) := by omega
 have f1 : ((100 : Int) < types.length) := by omega
 go_enter Tryz.func10, Tryz.ntmps10
 go_wp2
 go_ret
 exact ⟨rfl, bw⟩
set_option maxRecDepth 100000 in
theorem r13_sz2 (h0 : code.length ≤ 4000) (h1 : types.length ≤ 100) (n2 : ¬ curves.length ≤ 100) (m0 : code.length ≤ 9223372036854775807 ∧ types.length ≤ 9223372036854775807 ∧ curves.length ≤ 9223372036854775807 ∧ maps.length ≤ 9223372036854775807) (w : World) : Calls Tryz.prog 10 #[.agg #[.slice rc code.length cc, .slice rt types.length ct, .slice rv curves.length cv, .slice rm maps.length cm, .int .i64 cells, .slice ri inputs.length ci, .slice rs states.length cs, .slice ro outputs.length co, .slice rn initial.length cn]] w fun e w' => e = .returned (.bool false) ∧ Below w.heap.size w w' := by
 obtain ⟨m0, m1, m2, m3⟩ := m0
 have f0 : ¬ ((4000 : Int) < code.length) := by omega
 have f1 : ¬ ((100 : Int) < types.length) := by omega
 have f2 : ((100 : Int) < curves.length) := by omega
 go_enter Tryz.func10, Tryz.ntmps10
 go_wp2
 go_ret
 exact ⟨rfl, bw⟩
set_option maxRecDepth 100000 in
theorem r13_sz3 (h0 : code.length ≤ 4000) (h1 : types.length ≤ 100) (h2 : curves.length ≤ 100) (n3 : ¬ maps.length ≤ 100) (m0 : code.length ≤ 9223372036854775807 ∧ types.length ≤ 9223372036854775807 ∧ curves.length ≤ 9223372036854775807 ∧ maps.length ≤ 9223372036854775807) (w : World) : Calls Tryz.prog 10 #[.agg #[.slice rc code.length cc, .slice rt types.length ct, .slice rv curves.length cv, .slice rm maps.length cm, .int .i64 cells, .slice ri inputs.length ci, .slice rs states.length cs, .slice ro outputs.length co, .slice rn initial.length cn]] w fun e w' => e = .returned (.bool false) ∧ Below w.heap.size w w' := by
 obtain ⟨m0, m1, m2, m3⟩ := m0
 have f0 : ¬ ((4000 : Int) < code.length) := by omega
 have f1 : ¬ ((100 : Int) < types.length) := by omega
 have f2 : ¬ ((100 : Int) < curves.length) := by omega
 have f3 : ((100 : Int) < maps.length) := by omega
 go_enter Tryz.func10, Tryz.ntmps10
 go_wp2
 go_ret
 exact ⟨rfl, bw⟩
set_option maxRecDepth 100000 in
theorem r13_sz4 (h0 : code.length ≤ 4000) (h1 : types.length ≤ 100) (h2 : curves.length ≤ 100) (h3 : maps.length ≤ 100) (n4 : ¬ 0 ≤ cells) (m0 : code.length ≤ 9223372036854775807 ∧ types.length ≤ 9223372036854775807 ∧ curves.length ≤ 9223372036854775807 ∧ maps.length ≤ 9223372036854775807) (w : World) : Calls Tryz.prog 10 #[.agg #[.slice rc code.length cc, .slice rt types.length ct, .slice rv curves.length cv, .slice rm maps.length cm, .int .i64 cells, .slice ri inputs.length ci, .slice rs states.length cs, .slice ro outputs.length co, .slice rn initial.length cn]] w fun e w' => e = .returned (.bool false) ∧ Below w.heap.size w w' := by
 obtain ⟨m0, m1, m2, m3⟩ := m0
 have f0 : ¬ ((4000 : Int) < code.length) := by omega
 have f1 : ¬ ((100 : Int) < types.length) := by omega
 have f2 : ¬ ((100 : Int) < curves.length) := by omega
 have f3 : ¬ ((100 : Int) < maps.length) := by omega
 have f4 : cells < 0 := by omega
 go_enter Tryz.func10, Tryz.ntmps10
 go_wp2
 go_ret
 exact ⟨rfl, bw⟩
set_option maxRecDepth 100000 in
theorem r13_sz5 (h0 : code.length ≤ 4000) (h1 : types.length ≤ 100) (h2 : curves.length ≤ 100) (h3 : maps.length ≤ 100) (h4 : 0 ≤ cells) (n5 : ¬ cells ≤ 1000) (m0 : code.length ≤ 9223372036854775807 ∧ types.length ≤ 9223372036854775807 ∧ curves.length ≤ 9223372036854775807 ∧ maps.length ≤ 9223372036854775807) (w : World) : Calls Tryz.prog 10 #[.agg #[.slice rc code.length cc, .slice rt types.length ct, .slice rv curves.length cv, .slice rm maps.length cm, .int .i64 cells, .slice ri inputs.length ci, .slice rs states.length cs, .slice ro outputs.length co, .slice rn initial.length cn]] w fun e w' => e = .returned (.bool false) ∧ Below w.heap.size w w' := by
 obtain ⟨m0, m1, m2, m3⟩ := m0
 have f0 : ¬ ((4000 : Int) < code.length) := by omega
 have f1 : ¬ ((100 : Int) < types.length) := by omega
 have f2 : ¬ ((100 : Int) < curves.length) := by omega
 have f3 : ¬ ((100 : Int) < maps.length) := by omega
 have f4 : ¬ cells < 0 := by omega
 have f5 : 1000 < cells := by omega
 go_enter Tryz.func10, Tryz.ntmps10
 go_wp2
 go_ret
 exact ⟨rfl, bw⟩
set_option maxRecDepth 100000 in
theorem r13_main (w : World) (hp : IsP w ⟨rc, cc, code, rt, ct, types, rv, cv, curves, rm, cm, maps, cells, ri, ci, inputs, rs, cs, states, ro, co, outputs, rn, cn, initial⟩) (z : code.length ≤ 4000 ∧ types.length ≤ 100 ∧ curves.length ≤ 100 ∧ maps.length ≤ 100 ∧ 0 ≤ cells ∧ cells ≤ 1000) (R : Bool)
  (FT : Hid (∀ j, j < types.length → fxB (types.getD j default) = false → R = false)) (FC : Hid (∀ j, j < curves.length → cvB (curves.getD j default) = false → R = false)) (FM : Hid (∀ j, j < maps.length → mpB (maps.getD j default) = false → R = false))
  (FI : Hid (∀ j, j < code.length → fitB cells curves.length maps.length types (code.getD j default) = false → R = false)) (FL1 : Hid (inL cells inputs = false → R = false)) (FL2 : Hid (inL cells outputs = false → R = false)) (FL3 : Hid (inL cells states = false → R = false))
  (FLN : Hid (¬ initial.length = states.length → R = false)) (FND : Hid (¬ (inputs ++ states).Nodup → R = false)) (FNI : Hid (∀ j, j < initial.length → badN (initial.getD j 0) = true → R = false))
  (FALL : Hid (initial.length = states.length → (∀ j, j < types.length → fxB (types.getD j default) = true) → (∀ j, j < curves.length → cvB (curves.getD j default) = true) → (∀ j, j < maps.length → mpB (maps.getD j default) = true) → (∀ j, j < code.length → fitB cells curves.length maps.length types (code.getD j default) = true) →
   inL cells inputs = true → inL cells outputs = true → inL cells states = true → (inputs ++ states).Nodup → (∀ j, j < initial.length → badN (initial.getD j 0) = false) → R = true)) :
  Calls Tryz.prog 10 #[.agg #[.slice rc code.length cc, .slice rt types.length ct, .slice rv curves.length cv, .slice rm maps.length cm, .int .i64 cells, .slice ri inputs.length ci, .slice rs states.length cs, .slice ro outputs.length co, .slice rn initial.length cn]] w fun e w' => e = .returned (.bool R) ∧ Below w.heap.size w w' := by
 have hin := hp.inputs
 have hout := hp.outputs
 have hst := hp.states
 have hini := hp.initial
 have hs1 := hp.code
 have hg1 := hp.codeG
 have hs2 := hp.types
 have hs3 := hp.curves
 have hg3 := hp.curvesG
 have hs4 := hp.maps
 have hg4 := hp.mapsG
 simp only at hin hout hst hini hs1 hg1 hs2 hs3 hg3 hs4 hg4
 have mi := Nat.le_trans hin.le hin.max
 have mo := Nat.le_trans hout.le hout.max
 have ms := Nat.le_trans hst.le hst.max
 have mn := Nat.le_trans hini.le hini.max
 unfold maxLen at mi mo ms mn
 have HIN := H! hin
 have HOUT := H! hout
 have HST := H! hst
 have HINI := H! hini
 have HG1 := H! hg1
 have HG3 := H! hg3
 have HG4 := H! hg4
 have hbW : Below w.heap.size w (w.alloc (.cells #[.slice rc code.length cc, .slice rt types.length ct, .slice rv curves.length cv, .slice rm maps.length cm, .int .i64 cells, .slice ri inputs.length ci, .slice rs states.length cs, .slice ro outputs.length co, .slice rn initial.length cn] 28)) := bw
 have HS1 := H! (hs1.later hbW)
 have HS2 := H! hs2
 have HS2' := H! (hs2.later hbW)
 have HS3 := H! (hs3.later hbW)
 have HS4 := H! (hs4.later hbW)
 clear hin hout hst hini hp hs1 hg1 hs2 hs3 hg3 hs4 hg4
 obtain ⟨z0, z1, z2, z3, z4, z5⟩ := z
 have f0 : ¬ ((4000 : Int) < code.length) := by omega
 have f1 : ¬ ((100 : Int) < types.length) := by omega
 have f2 : ¬ ((100 : Int) < curves.length) := by omega
 have f3 : ¬ ((100 : Int) < maps.length) := by omega
 have f4 : ¬ cells < 0 := by omega
 have f5 : ¬ 1000 < cells := by omega
 go_enter Tryz.func10, Tryz.ntmps10
 go_wp2
 have q0 : (w.alloc (.cells #[.slice rc code.length cc, .slice rt types.length ct, .slice rv curves.length cv, .slice rm maps.length cm, .int .i64 cells, .slice ri inputs.length ci, .slice rs states.length cs, .slice ro outputs.length co, .slice rn initial.length cn] 28)).cell? ⟨w.heap.size, 0, none⟩ = some (.slice rc code.length cc) := by first | go_keep | simp
 have q1 : (w.alloc (.cells #[.slice rc code.length cc, .slice rt types.length ct, .slice rv curves.length cv, .slice rm maps.length cm, .int .i64 cells, .slice ri inputs.length ci, .slice rs states.length cs, .slice ro outputs.length co, .slice rn initial.length cn] 28)).cell? ⟨w.heap.size, 1, none⟩ = some (.slice rt types.length ct) := by first | go_keep | simp
 have q2 : (w.alloc (.cells #[.slice rc code.length cc, .slice rt types.length ct, .slice rv curves.length cv, .slice rm maps.length cm, .int .i64 cells, .slice ri inputs.length ci, .slice rs states.length cs, .slice ro outputs.length co, .slice rn initial.length cn] 28)).cell? ⟨w.heap.size, 2, none⟩ = some (.slice rv curves.length cv) := by first | go_keep | simp
 have q3 : (w.alloc (.cells #[.slice rc code.length cc, .slice rt types.length ct, .slice rv curves.length cv, .slice rm maps.length cm, .int .i64 cells, .slice ri inputs.length ci, .slice rs states.length cs, .slice ro outputs.length co, .slice rn initial.length cn] 28)).cell? ⟨w.heap.size, 3, none⟩ = some (.slice rm maps.length cm) := by first | go_keep | simp
 have q4 : (w.alloc (.cells #[.slice rc code.length cc, .slice rt types.length ct, .slice rv curves.length cv, .slice rm maps.length cm, .int .i64 cells, .slice ri inputs.length ci, .slice rs states.length cs, .slice ro outputs.length co, .slice rn initial.length cn] 28)).cell? ⟨w.heap.size, 4, none⟩ = some (.int .i64 cells) := by first | go_keep | simp
 have q5 : (w.alloc (.cells #[.slice rc code.length cc, .slice rt types.length ct, .slice rv curves.length cv, .slice rm maps.length cm, .int .i64 cells, .slice ri inputs.length ci, .slice rs states.length cs, .slice ro outputs.length co, .slice rn initial.length cn] 28)).cell? ⟨w.heap.size, 5, none⟩ = some (.slice ri inputs.length ci) := by first | go_keep | simp
 have q6 : (w.alloc (.cells #[.slice rc code.length cc, .slice rt types.length ct, .slice rv curves.length cv, .slice rm maps.length cm, .int .i64 cells, .slice ri inputs.length ci, .slice rs states.length cs, .slice ro outputs.length co, .slice rn initial.length cn] 28)).cell? ⟨w.heap.size, 6, none⟩ = some (.slice rs states.length cs) := by first | go_keep | simp
 have q7 : (w.alloc (.cells #[.slice rc code.length cc, .slice rt types.length ct, .slice rv curves.length cv, .slice rm maps.length cm, .int .i64 cells, .slice ri inputs.length ci, .slice rs states.length cs, .slice ro outputs.length co, .slice rn initial.length cn] 28)).cell? ⟨w.heap.size, 7, none⟩ = some (.slice ro outputs.length co) := by first | go_keep | simp
 have q8 : (w.alloc (.cells #[.slice rc code.length cc, .slice rt types.length ct, .slice rv curves.length cv, .slice rm maps.length cm, .int .i64 cells, .slice ri inputs.length ci, .slice rs states.length cs, .slice ro outputs.length co, .slice rn initial.length cn] 28)).cell? ⟨w.heap.size, 8, none⟩ = some (.slice rn initial.length cn) := by first | go_keep | simp
 have hz : w.heap.size < (w.alloc (.cells #[.slice rc code.length cc, .slice rt types.length ct, .slice rv curves.length cv, .slice rm maps.length cm, .int .i64 cells, .slice ri inputs.length ci, .slice rs states.length cs, .slice ro outputs.length co, .slice rn initial.length cn] 28)).heap.size := by rw [zA]; omega
 generalize w.alloc (.cells #[.slice rc code.length cc, .slice rt types.length ct, .slice rv curves.length cv, .slice rm maps.length cm, .int .i64 cells, .slice ri inputs.length ci, .slice rs states.length cs, .slice ro outputs.length co, .slice rn initial.length cn] 28) = W1 at *
 go_loopg [3] types.length (fun kx s3 wr => ∃ (k : Nat) (e : Later W1), s3 = .int .i64 k ∧ k ≤ types.length ∧ types.length - k ≤ kx ∧ wr = e.w ∧ Hid (∀ i, i < k → fxB (types.getD i default) = true))
 case atStart => exact ⟨0, ⟨W1, Below.refl _ _⟩, rfl, by omega, by omega, rfl, H! (fun i h => absurd h (by omega))⟩
 case round =>
  obtain ⟨k, e, rfl, hk, hkx, rfl, HG⟩ := hrel
  have hes := e.h.size
  have u0 : e.w.cell? ⟨w.heap.size, 0, none⟩ = some (.slice rc code.length cc) := (Later.cell e hz).trans q0
  have u1 : e.w.cell? ⟨w.heap.size, 1, none⟩ = some (.slice rt types.length ct) := (Later.cell e hz).trans q1
  have u2 : e.w.cell? ⟨w.heap.size, 2, none⟩ = some (.slice rv curves.length cv) := (Later.cell e hz).trans q2
  have u3 : e.w.cell? ⟨w.heap.size, 3, none⟩ = some (.slice rm maps.length cm) := (Later.cell e hz).trans q3
  have u4 : e.w.cell? ⟨w.heap.size, 4, none⟩ = some (.int .i64 cells) := (Later.cell e hz).trans q4
  have u5 : e.w.cell? ⟨w.heap.size, 5, none⟩ = some (.slice ri inputs.length ci) := (Later.cell e hz).trans q5
  have u6 : e.w.cell? ⟨w.heap.size, 6, none⟩ = some (.slice rs states.length cs) := (Later.cell e hz).trans q6
  have u7 : e.w.cell? ⟨w.heap.size, 7, none⟩ = some (.slice ro outputs.length co) := (Later.cell e hz).trans q7
  have u8 : e.w.cell? ⟨w.heap.size, 8, none⟩ = some (.slice rn initial.length cn) := (Later.cell e hz).trans q8
  have hze : w.heap.size < e.w.heap.size := by omega
  have hbe : Below w.heap.size w e.w := hbW.trans (e.h.mono (by omega))
  by_cases hlt : k < types.length
  ·
   have hk1 : (0 : Int) ≤ (k : Int) := by omega
   have hk2 : (k : Int) < types.length := by omega
   obtain ⟨bX, off, rfl, hb, hc⟩ := HS2'.out.at_ hlt
   have hc0 : e.w.cell? ⟨bX, off + k * 10, none⟩ = some (.int .i64 (types.getD k default).bits) := (e.h.cell (p := ⟨bX, off + k * 10, none⟩) hb).trans (hc 0 _ rfl)
   have hc1 : e.w.cell? ⟨bX, off + k * 10 + 1, none⟩ = some (.bool (types.getD k default).sg) := (e.h.cell (p := ⟨bX, off + k * 10 + 1, none⟩) hb).trans (hc 1 _ rfl)
   have hc2 : e.w.cell? ⟨bX, off + k * 10 + 2, none⟩ = some (.int .i64 (types.getD k default).num) := (e.h.cell (p := ⟨bX, off + k * 10 + 2, none⟩) hb).trans (hc 2 _ rfl)
   have hc3 : e.w.cell? ⟨bX, off + k * 10 + 3, none⟩ = some (.int .i64 (types.getD k default).off) := (e.h.cell (p := ⟨bX, off + k * 10 + 3, none⟩) hb).trans (hc 3 _ rfl)
   have hc4 : e.w.cell? ⟨bX, off + k * 10 + 4, none⟩ = some (.int .i64 (types.getD k default).den) := (e.h.cell (p := ⟨bX, off + k * 10 + 4, none⟩) hb).trans (hc 4 _ rfl)
   have hc5 : e.w.cell? ⟨bX, off + k * 10 + 5, none⟩ = some (.int .i64 (types.getD k default).m) := (e.h.cell (p := ⟨bX, off + k * 10 + 5, none⟩) hb).trans (hc 5 _ rfl)
   have hc6 : e.w.cell? ⟨bX, off + k * 10 + 6, none⟩ = some (.int .i64 (types.getD k default).kg) := (e.h.cell (p := ⟨bX, off + k * 10 + 6, none⟩) hb).trans (hc 6 _ rfl)
   have hc7 : e.w.cell? ⟨bX, off + k * 10 + 7, none⟩ = some (.int .i64 (types.getD k default).s) := (e.h.cell (p := ⟨bX, off + k * 10 + 7, none⟩) hb).trans (hc 7 _ rfl)
   have hc8 : e.w.cell? ⟨bX, off + k * 10 + 8, none⟩ = some (.int .i64 (types.getD k default).a) := (e.h.cell (p := ⟨bX, off + k * 10 + 8, none⟩) hb).trans (hc 8 _ rfl)
   have hc9 : e.w.cell? ⟨bX, off + k * 10 + 9, none⟩ = some (.int .i64 (types.getD k default).k) := (e.h.cell (p := ⟨bX, off + k * 10 + 9, none⟩) hb).trans (hc 9 _ rfl)
   clear hc
   have HGj : Hid (fxB (types.getD k default) = true → ∀ i, i < k + 1 → fxB (types.getD i default) = true) := H! (fun h i hi => by
    by_cases e : i = k
    ·
     subst e; exact h
    ·
     exact HG.out i (by omega))
   have HFj := H! (fun h => FT.out k hlt h)
   have HV : Hid (∀ W, Below e.w.heap.size e.w W → Calls Tryz.prog 29 #[.agg #[.int .i64 (types.getD k default).bits, .bool (types.getD k default).sg, .int .i64 (types.getD k default).num, .int .i64 (types.getD k default).off, .int .i64 (types.getD k default).den, .int .i64 (types.getD k default).m, .int .i64 (types.getD k default).kg, .int .i64 (types.getD k default).s, .int .i64 (types.getD k default).a, .int .i64 (types.getD k default).k]] W fun e w' => e = .returned (.bool (fxB (types.getD k default))) ∧ Below W.heap.size W w') := H! (fun W _ => r3valid_any _ W)
   generalize fxB (types.getD k default) = v at *
   clear HG
   generalize types.getD k default = x at *
   obtain ⟨x0, x1, x2, x3, x4, x5, x6, x7, x8, x9⟩ := x
   simp only at hc0 hc1 hc2 hc3 hc4 hc5 hc6 hc7 hc8 hc9 HV
   cases v
   ·
    obtain rfl := HFj.out rfl
    clear HGj HFj
    go_wp2_with (first | (go_at_call 29; refine (HV.out _ (Below.refl _ _)).mono ?_; rintro _ w2 ⟨rfl, hb2⟩))
    go_ret
    exact ⟨rfl, hbe.trans (hb2.mono (by omega))⟩
   ·
    have HG2 := H! (HGj.out rfl)
    clear HGj HFj
    go_wp2_with (first | (go_at_call 29; refine (HV.out _ (Below.refl _ _)).mono ?_; rintro _ w2 ⟨rfl, hb2⟩))
    obtain ⟨e2, rfl⟩ := e.next hb2
    go_roundg (types.length - (k + 1))
    case measure => omega
    case rel => exact ⟨k + 1, e2, by go_num, by omega, by omega, rfl, HG2⟩
  ·
   obtain rfl : k = types.length := by omega
   have HGT := H! HG.out
   clear HG FT
   go_wp2
   go_loopg [4] curves.length (fun kx s4 wr => ∃ (k : Nat) (e : Later W1), s4 = .int .i64 k ∧ k ≤ curves.length ∧ curves.length - k ≤ kx ∧ wr = e.w ∧ Hid (∀ i, i < k → cvB (curves.getD i default) = true))
   case atStart => exact ⟨0, e, rfl, by omega, by omega, rfl, H! (fun i h => absurd h (by omega))⟩
   case round =>
    obtain ⟨k, e, rfl, hk, hkx, rfl, HG⟩ := hrel
    have hes := e.h.size
    have u0 : e.w.cell? ⟨w.heap.size, 0, none⟩ = some (.slice rc code.length cc) := (Later.cell e hz).trans q0
    have u1 : e.w.cell? ⟨w.heap.size, 1, none⟩ = some (.slice rt types.length ct) := (Later.cell e hz).trans q1
    have u2 : e.w.cell? ⟨w.heap.size, 2, none⟩ = some (.slice rv curves.length cv) := (Later.cell e hz).trans q2
    have u3 : e.w.cell? ⟨w.heap.size, 3, none⟩ = some (.slice rm maps.length cm) := (Later.cell e hz).trans q3
    have u4 : e.w.cell? ⟨w.heap.size, 4, none⟩ = some (.int .i64 cells) := (Later.cell e hz).trans q4
    have u5 : e.w.cell? ⟨w.heap.size, 5, none⟩ = some (.slice ri inputs.length ci) := (Later.cell e hz).trans q5
    have u6 : e.w.cell? ⟨w.heap.size, 6, none⟩ = some (.slice rs states.length cs) := (Later.cell e hz).trans q6
    have u7 : e.w.cell? ⟨w.heap.size, 7, none⟩ = some (.slice ro outputs.length co) := (Later.cell e hz).trans q7
    have u8 : e.w.cell? ⟨w.heap.size, 8, none⟩ = some (.slice rn initial.length cn) := (Later.cell e hz).trans q8
    have hze : w.heap.size < e.w.heap.size := by omega
    have hbe : Below w.heap.size w e.w := hbW.trans (e.h.mono (by omega))
    by_cases hlt : k < curves.length
    ·
     have hk1 : (0 : Int) ≤ (k : Int) := by omega
     have hk2 : (k : Int) < curves.length := by omega
     obtain ⟨bX, off, rfl, hb, hc⟩ := HS3.out.at_ hlt
     have hc0 : e.w.cell? ⟨bX, off + k * 2, none⟩ = some (.slice (curves.getD k default).rx (curves.getD k default).X.length (curves.getD k default).cx) := (e.h.cell (p := ⟨bX, off + k * 2, none⟩) hb).trans (hc 0 _ rfl)
     have hc1 : e.w.cell? ⟨bX, off + k * 2 + 1, none⟩ = some (.slice (curves.getD k default).ry (curves.getD k default).Y.length (curves.getD k default).cy) := (e.h.cell (p := ⟨bX, off + k * 2 + 1, none⟩) hb).trans (hc 1 _ rfl)
     clear hc
     have HGj : Hid (cvB (curves.getD k default) = true → ∀ i, i < k + 1 → cvB (curves.getD i default) = true) := H! (fun h i hi => by
      by_cases e : i = k
      ·
       subst e; exact h
      ·
       exact HG.out i (by omega))
     have HFj := H! (fun h => FC.out k hlt h)
     obtain ⟨hoX, hoY⟩ := HG3.out _ (getD_mem_of hlt)
     have HV : Hid (∀ W, Below e.w.heap.size e.w W → Calls Tryz.prog 30 #[.agg #[.slice (curves.getD k default).rx (curves.getD k default).X.length (curves.getD k default).cx, .slice (curves.getD k default).ry (curves.getD k default).Y.length (curves.getD k default).cy]] W fun e w' => e = .returned (.bool (cvB (curves.getD k default))) ∧ Below W.heap.size W w') := H! (fun W h => rvalid_any _ _ _ _ _ _ W ((hoX.later hbe).later h) ((hoY.later hbe).later h))
     clear hoX hoY
     generalize cvB (curves.getD k default) = v at *
     clear HG
     generalize curves.getD k default = x at *
     obtain ⟨r0, c0, X0, r1, c1, X1⟩ := x
     simp only at hc0 hc1 HV
     cases v
     ·
      obtain rfl := HFj.out rfl
      clear HGj HFj
      go_wp2_with (first | (go_at_call 30; refine (HV.out _ (Below.refl _ _)).mono ?_; rintro _ w2 ⟨rfl, hb2⟩))
      go_ret
      exact ⟨rfl, hbe.trans (hb2.mono (by omega))⟩
     ·
      have HG2 := H! (HGj.out rfl)
      clear HGj HFj
      go_wp2_with (first | (go_at_call 30; refine (HV.out _ (Below.refl _ _)).mono ?_; rintro _ w2 ⟨rfl, hb2⟩))
      obtain ⟨e2, rfl⟩ := e.next hb2
      go_roundg (curves.length - (k + 1))
      case measure => omega
      case rel => exact ⟨k + 1, e2, by go_num, by omega, by omega, rfl, HG2⟩
    ·
     obtain rfl : k = curves.length := by omega
     have HGC := H! HG.out
     clear HG FC HG3
     go_wp2
     go_loopg [5] maps.length (fun kx s5 wr => ∃ (k : Nat) (e : Later W1), s5 = .int .i64 k ∧ k ≤ maps.length ∧ maps.length - k ≤ kx ∧ wr = e.w ∧ Hid (∀ i, i < k → mpB (maps.getD i default) = true))
     case atStart => exact ⟨0, e, rfl, by omega, by omega, rfl, H! (fun i h => absurd h (by omega))⟩
     case round =>
      obtain ⟨k, e, rfl, hk, hkx, rfl, HG⟩ := hrel
      have hes := e.h.size
      have u0 : e.w.cell? ⟨w.heap.size, 0, none⟩ = some (.slice rc code.length cc) := (Later.cell e hz).trans q0
      have u1 : e.w.cell? ⟨w.heap.size, 1, none⟩ = some (.slice rt types.length ct) := (Later.cell e hz).trans q1
      have u2 : e.w.cell? ⟨w.heap.size, 2, none⟩ = some (.slice rv curves.length cv) := (Later.cell e hz).trans q2
      have u3 : e.w.cell? ⟨w.heap.size, 3, none⟩ = some (.slice rm maps.length cm) := (Later.cell e hz).trans q3
      have u4 : e.w.cell? ⟨w.heap.size, 4, none⟩ = some (.int .i64 cells) := (Later.cell e hz).trans q4
      have u5 : e.w.cell? ⟨w.heap.size, 5, none⟩ = some (.slice ri inputs.length ci) := (Later.cell e hz).trans q5
      have u6 : e.w.cell? ⟨w.heap.size, 6, none⟩ = some (.slice rs states.length cs) := (Later.cell e hz).trans q6
      have u7 : e.w.cell? ⟨w.heap.size, 7, none⟩ = some (.slice ro outputs.length co) := (Later.cell e hz).trans q7
      have u8 : e.w.cell? ⟨w.heap.size, 8, none⟩ = some (.slice rn initial.length cn) := (Later.cell e hz).trans q8
      have hze : w.heap.size < e.w.heap.size := by omega
      have hbe : Below w.heap.size w e.w := hbW.trans (e.h.mono (by omega))
      by_cases hlt : k < maps.length
      ·
       have hk1 : (0 : Int) ≤ (k : Int) := by omega
       have hk2 : (k : Int) < maps.length := by omega
       obtain ⟨bX, off, rfl, hb, hc⟩ := HS4.out.at_ hlt
       have hc0 : e.w.cell? ⟨bX, off + k * 3, none⟩ = some (.slice (maps.getD k default).rx (maps.getD k default).X.length (maps.getD k default).cx) := (e.h.cell (p := ⟨bX, off + k * 3, none⟩) hb).trans (hc 0 _ rfl)
       have hc1 : e.w.cell? ⟨bX, off + k * 3 + 1, none⟩ = some (.slice (maps.getD k default).ry (maps.getD k default).Y.length (maps.getD k default).cy) := (e.h.cell (p := ⟨bX, off + k * 3 + 1, none⟩) hb).trans (hc 1 _ rfl)
       have hc2 : e.w.cell? ⟨bX, off + k * 3 + 2, none⟩ = some (.slice (maps.getD k default).rz (maps.getD k default).Z.length (maps.getD k default).cz) := (e.h.cell (p := ⟨bX, off + k * 3 + 2, none⟩) hb).trans (hc 2 _ rfl)
       clear hc
       have HGj : Hid (mpB (maps.getD k default) = true → ∀ i, i < k + 1 → mpB (maps.getD i default) = true) := H! (fun h i hi => by
        by_cases e : i = k
        ·
         subst e; exact h
        ·
         exact HG.out i (by omega))
       have HFj := H! (fun h => FM.out k hlt h)
       obtain ⟨hoX, hoY, hoZ⟩ := HG4.out _ (getD_mem_of hlt)
       have HV : Hid (∀ W, Below e.w.heap.size e.w W → Calls Tryz.prog 31 #[.agg #[.slice (maps.getD k default).rx (maps.getD k default).X.length (maps.getD k default).cx, .slice (maps.getD k default).ry (maps.getD k default).Y.length (maps.getD k default).cy, .slice (maps.getD k default).rz (maps.getD k default).Z.length (maps.getD k default).cz]] W fun e w' => e = .returned (.bool (mpB (maps.getD k default))) ∧ Below W.heap.size W w') := H! (fun W h => r6valid_any _ _ _ _ _ _ _ _ _ W ((hoX.later hbe).later h) ((hoY.later hbe).later h) ((hoZ.later hbe).later h))
       clear hoX hoY hoZ
       generalize mpB (maps.getD k default) = v at *
       clear HG
       generalize maps.getD k default = x at *
       obtain ⟨r0, c0, X0, r1, c1, X1, r2, c2, X2⟩ := x
       simp only at hc0 hc1 hc2 HV
       cases v
       ·
        obtain rfl := HFj.out rfl
        clear HGj HFj
        go_wp2_with (first | (go_at_call 31; refine (HV.out _ (Below.refl _ _)).mono ?_; rintro _ w2 ⟨rfl, hb2⟩))
        go_ret
        exact ⟨rfl, hbe.trans (hb2.mono (by omega))⟩
       ·
        have HG2 := H! (HGj.out rfl)
        clear HGj HFj
        go_wp2_with (first | (go_at_call 31; refine (HV.out _ (Below.refl _ _)).mono ?_; rintro _ w2 ⟨rfl, hb2⟩))
        obtain ⟨e2, rfl⟩ := e.next hb2
        go_roundg (maps.length - (k + 1))
        case measure => omega
        case rel => exact ⟨k + 1, e2, by go_num, by omega, by omega, rfl, HG2⟩
      ·
       obtain rfl : k = maps.length := by omega
       have HGM := H! HG.out
       clear HG FM HG4
       go_wp2
       go_loopg [6] code.length (fun kx s6 wr => ∃ (k : Nat) (e : Later W1), s6 = .int .i64 k ∧ k ≤ code.length ∧ code.length - k ≤ kx ∧ wr = e.w ∧ Hid (∀ i, i < k → fitB cells curves.length maps.length types (code.getD i default) = true))
       case atStart => exact ⟨0, e, rfl, by omega, by omega, rfl, H! (fun i h => absurd h (by omega))⟩
       case round =>
        obtain ⟨k, e, rfl, hk, hkx, rfl, HG⟩ := hrel
        have hes := e.h.size
        have u0 : e.w.cell? ⟨w.heap.size, 0, none⟩ = some (.slice rc code.length cc) := (Later.cell e hz).trans q0
        have u1 : e.w.cell? ⟨w.heap.size, 1, none⟩ = some (.slice rt types.length ct) := (Later.cell e hz).trans q1
        have u2 : e.w.cell? ⟨w.heap.size, 2, none⟩ = some (.slice rv curves.length cv) := (Later.cell e hz).trans q2
        have u3 : e.w.cell? ⟨w.heap.size, 3, none⟩ = some (.slice rm maps.length cm) := (Later.cell e hz).trans q3
        have u4 : e.w.cell? ⟨w.heap.size, 4, none⟩ = some (.int .i64 cells) := (Later.cell e hz).trans q4
        have u5 : e.w.cell? ⟨w.heap.size, 5, none⟩ = some (.slice ri inputs.length ci) := (Later.cell e hz).trans q5
        have u6 : e.w.cell? ⟨w.heap.size, 6, none⟩ = some (.slice rs states.length cs) := (Later.cell e hz).trans q6
        have u7 : e.w.cell? ⟨w.heap.size, 7, none⟩ = some (.slice ro outputs.length co) := (Later.cell e hz).trans q7
        have u8 : e.w.cell? ⟨w.heap.size, 8, none⟩ = some (.slice rn initial.length cn) := (Later.cell e hz).trans q8
        have hze : w.heap.size < e.w.heap.size := by omega
        have hbe : Below w.heap.size w e.w := hbW.trans (e.h.mono (by omega))
        by_cases hlt : k < code.length
        ·
         have hk1 : (0 : Int) ≤ (k : Int) := by omega
         have hk2 : (k : Int) < code.length := by omega
         have HGj : Hid (fitB cells curves.length maps.length types (code.getD k default) = true → ∀ i, i < k + 1 → fitB cells curves.length maps.length types (code.getD i default) = true) := H! (fun h i hi => by
          by_cases e : i = k
          ·
           subst e; exact h
          ·
           exact HG.out i (by omega))
         have HFj := H! (fun h => FI.out k hlt h)
         have hki : I64 (code.getD k default).k := (HG1.out _ (getD_mem_of hlt)).2.2.2.2
         have HFM : Hid (∀ W, Calls Tryz.prog 32 #[.agg #[.int .i64 (code.getD k default).op, .int .i64 (code.getD k default).a, .int .i64 (code.getD k default).b, .int .i64 (code.getD k default).c, .int .i64 (code.getD k default).k]] W fun e w' => e = .returned (.bool (formI (code.getD k default))) ∧ Below W.heap.size W w') := H! (fun W => rform_any _ _ _ _ _ hki W)
         have HNM : Hid (formI (code.getD k default) = true → ∀ W, Below e.w.heap.size e.w W → Calls Tryz.prog 33 #[.agg #[.slice rc code.length cc, .slice rt types.length ct, .slice rv curves.length cv, .slice rm maps.length cm, .int .i64 cells, .slice ri inputs.length ci, .slice rs states.length cs, .slice ro outputs.length co, .slice rn initial.length cn], .agg #[.int .i64 (code.getD k default).op, .int .i64 (code.getD k default).a, .int .i64 (code.getD k default).b, .int .i64 (code.getD k default).c, .int .i64 (code.getD k default).k]] W fun e w' => e = .returned (.bool (nameB cells curves.length maps.length types (code.getD k default))) ∧ Below W.heap.size W w') := H! (fun h W hW => rnamed_any rc code.length cc rt ct types rv curves.length cv rm maps.length cm cells ri inputs.length ci rs states.length cs ro outputs.length co rn initial.length cn _ _ _ _ _ hki h W ((HS2.out.later hbe).later hW))
         have HFE : Hid (fitB cells curves.length maps.length types (code.getD k default) = (formI (code.getD k default) && nameB cells curves.length maps.length types (code.getD k default))) := H! rfl
         obtain ⟨bX, off, rfl, hb, hc⟩ := HS1.out.at_ hlt
         have hc0 : e.w.cell? ⟨bX, off + k * 5, none⟩ = some (.int .i64 (code.getD k default).op) := (e.h.cell (p := ⟨bX, off + k * 5, none⟩) hb).trans (hc 0 _ rfl)
         have hc1 : e.w.cell? ⟨bX, off + k * 5 + 1, none⟩ = some (.int .i64 (code.getD k default).a) := (e.h.cell (p := ⟨bX, off + k * 5 + 1, none⟩) hb).trans (hc 1 _ rfl)
         have hc2 : e.w.cell? ⟨bX, off + k * 5 + 2, none⟩ = some (.int .i64 (code.getD k default).b) := (e.h.cell (p := ⟨bX, off + k * 5 + 2, none⟩) hb).trans (hc 2 _ rfl)
         have hc3 : e.w.cell? ⟨bX, off + k * 5 + 3, none⟩ = some (.int .i64 (code.getD k default).c) := (e.h.cell (p := ⟨bX, off + k * 5 + 3, none⟩) hb).trans (hc 3 _ rfl)
         have hc4 : e.w.cell? ⟨bX, off + k * 5 + 4, none⟩ = some (.int .i64 (code.getD k default).k) := (e.h.cell (p := ⟨bX, off + k * 5 + 4, none⟩) hb).trans (hc 4 _ rfl)
         clear hc
         have hbx : bX < e.w.heap.size := by omega
         clear hki
         generalize fitB cells curves.length maps.length types (code.getD k default) = v at *
         generalize formI (code.getD k default) = fv at *
         generalize nameB cells curves.length maps.length types (code.getD k default) = nv at *
         clear HG
         generalize code.getD k default = x at *
         obtain ⟨x0, x1, x2, x3, x4⟩ := x
         simp only at hc0 hc1 hc2 hc3 hc4 HFM HNM
         cases fv
         ·
          obtain rfl : v = false := HFE.out
          obtain rfl := HFj.out rfl
          clear HGj HFj HNM HFE
          go_wp2
          (refine wp_region_later (by kernel_rfl) (by kernel_rfl) ?_; (repeat (go_big_quiet_step ((go_at_call 32; exact later_call (HFM.out _))))); refine wpQuiet_nil ?_; rintro _ ⟨e1, rfl⟩; have e1s := e1.h.size; (try simp only [zA, World.size_drewN, World.drewN_heap] at e1s); (try (have : w.heap.size < e1.w.heap.size := by omega)); (try (have : w.heap.size + 1 < e1.w.heap.size := by omega)); (try (have : w.heap.size + 1 + 1 < e1.w.heap.size := by omega)); (try (have : w.heap.size + 1 + 1 + 1 < e1.w.heap.size := by omega)); (try (have : bX < e1.w.heap.size := by omega)); (try (have : bY < e1.w.heap.size := by omega)); (try (have : bZ < e1.w.heap.size := by omega)))
          go_wp2
          go_ret
          exact ⟨rfl, hbe.trans (e1.h.mono (by omega))⟩
         have HN2 := H! (HNM.out rfl)
         obtain rfl : v = nv := HFE.out
         clear HFE HNM
         cases v
         ·
          obtain rfl := HFj.out rfl
          clear HGj HFj
          go_wp2
          (refine wp_region_later (by kernel_rfl) (by kernel_rfl) ?_; (repeat (go_big_quiet_step (first | (go_at_call 32; exact later_call (HFM.out _)) | (go_at_call 33; exact later_call (HN2.out _ (Later.h _)))))); refine wpQuiet_nil ?_; rintro _ ⟨e1, rfl⟩; have e1s := e1.h.size; (try simp only [zA, World.size_drewN, World.drewN_heap] at e1s); (try (have : w.heap.size < e1.w.heap.size := by omega)); (try (have : w.heap.size + 1 < e1.w.heap.size := by omega)); (try (have : w.heap.size + 1 + 1 < e1.w.heap.size := by omega)); (try (have : w.heap.size + 1 + 1 + 1 < e1.w.heap.size := by omega)); (try (have : bX < e1.w.heap.size := by omega)); (try (have : bY < e1.w.heap.size := by omega)); (try (have : bZ < e1.w.heap.size := by omega)))
          go_wp2
          go_ret
          exact ⟨rfl, hbe.trans (e1.h.mono (by omega))⟩
         ·
          have HG2 := H! (HGj.out rfl)
          clear HGj HFj
          go_wp2
          (refine wp_region_later (by kernel_rfl) (by kernel_rfl) ?_; (repeat (go_big_quiet_step (first | (go_at_call 32; exact later_call (HFM.out _)) | (go_at_call 33; exact later_call (HN2.out _ (Later.h _)))))); refine wpQuiet_nil ?_; rintro _ ⟨e1, rfl⟩; have e1s := e1.h.size; (try simp only [zA, World.size_drewN, World.drewN_heap] at e1s); (try (have : w.heap.size < e1.w.heap.size := by omega)); (try (have : w.heap.size + 1 < e1.w.heap.size := by omega)); (try (have : w.heap.size + 1 + 1 < e1.w.heap.size := by omega)); (try (have : w.heap.size + 1 + 1 + 1 < e1.w.heap.size := by omega)); (try (have : bX < e1.w.heap.size := by omega)); (try (have : bY < e1.w.heap.size := by omega)); (try (have : bZ < e1.w.heap.size := by omega)))
          go_wp2
          go_roundg (code.length - (k + 1))
          case measure => omega
          case rel => exact ⟨k + 1, ⟨e1.w, e.h.trans (e1.h.mono hes)⟩, by go_num, by omega, by omega, rfl, HG2⟩
        ·
         obtain rfl : k = code.length := by omega
         have HGI := H! HG.out
         clear HG FI HS1 HS2
         have HL0 : Hid (∀ W, Below e.w.heap.size e.w W → Calls Tryz.prog 34 #[.agg #[.slice rc code.length cc, .slice rt types.length ct, .slice rv curves.length cv, .slice rm maps.length cm, .int .i64 cells, .slice ri inputs.length ci, .slice rs states.length cs, .slice ro outputs.length co, .slice rn initial.length cn], .slice ri inputs.length ci] W fun e w' => e = .returned (.bool (inL cells inputs)) ∧ Below W.heap.size W w') := H! (fun W h => rcells_any ⟨rc, cc, code, rt, ct, types, rv, cv, curves, rm, cm, maps, cells, ri, ci, inputs, rs, cs, states, ro, co, outputs, rn, cn, initial⟩ ri ci inputs W ((HIN.out.later hbe).later h))
         have HL1 : Hid (∀ W, Below e.w.heap.size e.w W → Calls Tryz.prog 34 #[.agg #[.slice rc code.length cc, .slice rt types.length ct, .slice rv curves.length cv, .slice rm maps.length cm, .int .i64 cells, .slice ri inputs.length ci, .slice rs states.length cs, .slice ro outputs.length co, .slice rn initial.length cn], .slice ro outputs.length co] W fun e w' => e = .returned (.bool (inL cells outputs)) ∧ Below W.heap.size W w') := H! (fun W h => rcells_any ⟨rc, cc, code, rt, ct, types, rv, cv, curves, rm, cm, maps, cells, ri, ci, inputs, rs, cs, states, ro, co, outputs, rn, cn, initial⟩ ro co outputs W ((HOUT.out.later hbe).later h))
         have HL2 : Hid (∀ W, Below e.w.heap.size e.w W → Calls Tryz.prog 34 #[.agg #[.slice rc code.length cc, .slice rt types.length ct, .slice rv curves.length cv, .slice rm maps.length cm, .int .i64 cells, .slice ri inputs.length ci, .slice rs states.length cs, .slice ro outputs.length co, .slice rn initial.length cn], .slice rs states.length cs] W fun e w' => e = .returned (.bool (inL cells states)) ∧ Below W.heap.size W w') := H! (fun W h => rcells_any ⟨rc, cc, code, rt, ct, types, rv, cv, curves, rm, cm, maps, cells, ri, ci, inputs, rs, cs, states, ro, co, outputs, rn, cn, initial⟩ rs cs states W ((HST.out.later hbe).later h))
         have tk0 : True := trivial
         have tk1 : True := trivial
         have tk2 : True := trivial
         cases hb0 : inL cells inputs
         ·
          obtain rfl := FL1.out hb0
          rw [hb0] at HL0
          clear FL1 FL2 FL3 FALL FLN FND FNI
          go_wp2_with (first | (have _t := tk0; go_at_call 34; refine (HL0.out _ bw).mono ?_; rintro _ wc0 ⟨rfl, hc0⟩; obtain ⟨hc0c, hc0f⟩ := bcell hc0; have hc0s := hc0.size; have hcz0 : w.heap.size < wc0.heap.size := (by omega); clear tk0 _t))
          go_ret
          exact ⟨rfl, bw⟩
         rw [hb0] at HL0
         have HB0 := H! hb0
         cases hb1 : inL cells outputs
         ·
          obtain rfl := FL2.out hb1
          rw [hb1] at HL1
          clear FL1 FL2 FL3 FALL FLN FND FNI
          go_wp2_with (first | (have _t := tk0; go_at_call 34; refine (HL0.out _ bw).mono ?_; rintro _ wc0 ⟨rfl, hc0⟩; obtain ⟨hc0c, hc0f⟩ := bcell hc0; have hc0s := hc0.size; have hcz0 : w.heap.size < wc0.heap.size := (by omega); clear tk0 _t) | (have _t := tk1; go_at_call 34; refine (HL1.out _ bw).mono ?_; rintro _ wc1 ⟨rfl, hc1⟩; obtain ⟨hc1c, hc1f⟩ := bcell hc1; have hc1s := hc1.size; have hcz1 : w.heap.size < wc1.heap.size := (by omega); clear tk1 _t))
          go_ret
          exact ⟨rfl, bw⟩
         rw [hb1] at HL1
         have HB1 := H! hb1
         cases hb2 : inL cells states
         ·
          obtain rfl := FL3.out hb2
          rw [hb2] at HL2
          clear FL1 FL2 FL3 FALL FLN FND FNI
          go_wp2_with (first | (have _t := tk0; go_at_call 34; refine (HL0.out _ bw).mono ?_; rintro _ wc0 ⟨rfl, hc0⟩; obtain ⟨hc0c, hc0f⟩ := bcell hc0; have hc0s := hc0.size; have hcz0 : w.heap.size < wc0.heap.size := (by omega); clear tk0 _t) | (have _t := tk1; go_at_call 34; refine (HL1.out _ bw).mono ?_; rintro _ wc1 ⟨rfl, hc1⟩; obtain ⟨hc1c, hc1f⟩ := bcell hc1; have hc1s := hc1.size; have hcz1 : w.heap.size < wc1.heap.size := (by omega); clear tk1 _t) | (have _t := tk2; go_at_call 34; refine (HL2.out _ bw).mono ?_; rintro _ wc2 ⟨rfl, hc2⟩; obtain ⟨hc2c, hc2f⟩ := bcell hc2; have hc2s := hc2.size; have hcz2 : w.heap.size < wc2.heap.size := (by omega); clear tk2 _t))
          go_ret
          exact ⟨rfl, bw⟩
         rw [hb2] at HL2
         have HB2 := H! hb2
         clear hb0 hb1 hb2
         by_cases hln : initial.length = states.length
         rotate_left
         ·
          obtain rfl := FLN.out hln
          have hln2 : ¬ (initial.length : Int) = (states.length : Int) := by omega
          clear FL1 FL2 FL3 FALL FLN FND FNI
          go_wp2_with (first | (have _t := tk0; go_at_call 34; refine (HL0.out _ bw).mono ?_; rintro _ wc0 ⟨rfl, hc0⟩; obtain ⟨hc0c, hc0f⟩ := bcell hc0; have hc0s := hc0.size; have hcz0 : w.heap.size < wc0.heap.size := (by omega); clear tk0 _t) | (have _t := tk1; go_at_call 34; refine (HL1.out _ bw).mono ?_; rintro _ wc1 ⟨rfl, hc1⟩; obtain ⟨hc1c, hc1f⟩ := bcell hc1; have hc1s := hc1.size; have hcz1 : w.heap.size < wc1.heap.size := (by omega); clear tk1 _t) | (have _t := tk2; go_at_call 34; refine (HL2.out _ bw).mono ?_; rintro _ wc2 ⟨rfl, hc2⟩; obtain ⟨hc2c, hc2f⟩ := bcell hc2; have hc2s := hc2.size; have hcz2 : w.heap.size < wc2.heap.size := (by omega); clear tk2 _t))
          go_ret
          exact ⟨rfl, bw⟩
         have HLN := H! hln
         have hln2 : ((initial.length : Int) != (states.length : Int)) = false := by rw [hln]; simp
         clear hln
         clear FL1 FL2 FL3 FLN
         obtain ⟨m, rfl⟩ : ∃ m : Nat, cells = m := ⟨cells.toNat, by omega⟩
         obtain ⟨i0, hi, hz0, hz1, hz2⟩ := info_parts infoBool
         have hle : inputs.length + states.length ≤ 100000 := by
          have h1 := (inL_bd HB0.out).1
          have h2 := (inL_bd HB2.out).1
          omega
         go_wp2_with (first | (have _t := tk0; go_at_call 34; refine (HL0.out _ bw).mono ?_; rintro _ wc0 ⟨rfl, hc0⟩; obtain ⟨hc0c, hc0f⟩ := bcell hc0; have hc0s := hc0.size; have hcz0 : w.heap.size < wc0.heap.size := (by omega); clear tk0 _t) | (have _t := tk1; go_at_call 34; refine (HL1.out _ bw).mono ?_; rintro _ wc1 ⟨rfl, hc1⟩; obtain ⟨hc1c, hc1f⟩ := bcell hc1; have hc1s := hc1.size; have hcz1 : w.heap.size < wc1.heap.size := (by omega); clear tk1 _t) | (have _t := tk2; go_at_call 34; refine (HL2.out _ bw).mono ?_; rintro _ wc2 ⟨rfl, hc2⟩; obtain ⟨hc2c, hc2f⟩ := bcell hc2; have hc2s := hc2.size; have hcz2 : w.heap.size < wc2.heap.size := (by omega); clear tk2 _t) | (at_make; refine wpList_make_full _ (by rfl) _ _ _ (by rfl) wc2.heap.size 4 i0 (.bool false) 1 Tryz.underlying77 hi hz0 hz1 .i64 .i64 _ _ m (by rfl) (by rfl) (by rfl) (by rfl) (by rw [hz2]; omega) (by unfold maxLen; omega) (Nat.le_refl _) ?_; intro w4 hown hgrow; have hb4 : Below wc2.heap.size wc2 w4 := (Below.refl _ _).grown hgrow (Nat.le_refl _) (fun k hk => by cases hk); obtain ⟨cur, hrow, hsz, hcur⟩ := made_b hown; clear hown hgrow; have z4 : wc2.heap.size < w4.heap.size := lt_of_row hrow))
         clear hln2
         have hbc : Below w.heap.size w wc2 := bw
         have hbw4 : Below w.heap.size w w4 := hbc.trans (hb4.mono (by omega))
         have z5 : w.heap.size < w4.heap.size := by omega
         have hbec : Below e.w.heap.size e.w w4 := ((hc0.trans (hc1.mono (by omega))).trans (hc2.mono (by omega))).trans (hb4.mono (by omega))
         have r5 : w4.cell? ⟨w.heap.size, 5, none⟩ = some (.slice ri inputs.length ci) := (hbec.cell (p := ⟨w.heap.size, 5, none⟩) hze).trans u5
         have r6 : w4.cell? ⟨w.heap.size, 6, none⟩ = some (.slice rs states.length cs) := (hbec.cell (p := ⟨w.heap.size, 6, none⟩) hze).trans u6
         have r8 : w4.cell? ⟨w.heap.size, 8, none⟩ = some (.slice rn initial.length cn) := (hbec.cell (p := ⟨w.heap.size, 8, none⟩) hze).trans u8
         have OW0 : Hid (OwnK .i64 3 (w4.drew.alloc (.cells #[] 3)) w4.heap.size (some ⟨w4.heap.size, 0, none⟩) 0 []) := H! (own_built .i64 3 w4.drew w4.heap.size [] (Nat.le_refl _) (by simp [maxLen]))
         have hIa : Hid (∀ W, Below w4.heap.size w4 W → IsInts W ri ci .i64 inputs) := H! (fun W h => (HIN.out.later hbw4).later h)
         have hIb : Hid (∀ W, Below w4.heap.size w4 W → IsInts W rs cs .i64 states) := H! (fun W h => (HST.out.later hbw4).later h)
         have hB40 : Below w4.heap.size w4 (w4.drew.alloc (.cells #[] 3)) := (Below.refl _ _).drew.alloc (Nat.le_refl _) _
         have HS5 : ∀ V, Below w4.heap.size w4 V → V.cell? ⟨w.heap.size, 5, none⟩ = some (.slice ri inputs.length ci) ∧ V.cell? ⟨w.heap.size, 6, none⟩ = some (.slice rs states.length cs) := fun V hV => ⟨(hV.cell (p := ⟨w.heap.size, 5, none⟩) z5).trans r5, (hV.cell (p := ⟨w.heap.size, 6, none⟩) z5).trans r6⟩
         have ta : True := trivial
         go_region_held3 (fun v => v.cell? ⟨w.heap.size, 5, none⟩ = some (.slice ri inputs.length ci) ∧ v.cell? ⟨w.heap.size, 6, none⟩ = some (.slice rs states.length cs)) (first | exact HS5 _ (Below.refl _ _).drew | exact HS5 _ hB40 | exact HS5 _ (by assumption)) (first | ((have _t := ta); (refine step_of_list ?_); (refine wpList_append_ks Tryz.underlying26 infoI64 rfl (by omega) (by rfl) _ _ (by rfl) w4.heap.size (some ⟨w4.heap.size, 0, none⟩) ri 0 ci [] inputs (by rfl) (by rfl) OW0.out (hIa.out _ hB40) (by simp only [List.length_nil]; omega) (by simp only [zA, World.size_drew]; omega) ?_); (intro ra ca w5 howna hbwa); (have HOA := H! (ownI_set howna (List.nil_append _))); (clear howna ta _t); (have hB5 : Below w4.heap.size w4 w5 := hB40.trans hbwa); (refine ⟨rfl, ?_⟩)) | ((refine step_of_list ?_); (refine wpList_append_ks Tryz.underlying26 infoI64 rfl (by omega) (by rfl) _ _ (by rfl) w4.heap.size ra rs ca cs inputs states (by rfl) (by rfl) HOA.out (hIb.out _ hB5) (by omega) (by have := hB5.size; omega) ?_); (intro rb cb w6 hownb hbwb); (have HOB := H! hownb); (clear hownb); (have hB6 : Below w4.heap.size w4 w6 := hB5.trans hbwb); (refine ⟨rfl, ?_⟩)))
         obtain ⟨all, hal⟩ : ∃ all, all = inputs ++ states := ⟨_, rfl⟩
         have HAL := H! hal
         rw [← hal] at HOB FND FALL
         have hlm : all.length ≤ 100000 := by rw [hal, List.length_append]; exact hle
         have HM : Hid (∀ c ∈ all, 0 ≤ c ∧ c < (m : Int)) := H! (fun c hc => (List.mem_append.1 (hal ▸ hc)).elim ((inL_bd HB0.out).2 c) ((inL_bd HB2.out).2 c))
         (try simp only [List.length_append, List.length_nil, Nat.zero_add])
         rw [show inputs.length + states.length = all.length from by rw [hal, List.length_append]]
         clear hal
         have hall : IsInts w6 rb cb .i64 all := HOB.out.ints (fun x hx => by
          have := HM.out x hx
          have : I64 x := by unfold I64; simp [Lit.wf, IntKind.min, IntKind.max, IntKind.bits, IntKind.signed]; omega
          exact this)
         have HALL := H! hall
         clear hall
         have hB6s := hB6.size
         have hrow6 : w6.heap[wc2.heap.size]? = some (.cells cur 4) := (hB6.block _ z4).trans hrow
         have r8b : w6.cell? ⟨w.heap.size, 8, none⟩ = some (.slice rn initial.length cn) := (hB6.cell (p := ⟨w.heap.size, 8, none⟩) z5).trans r8
         have hbz : Below w.heap.size w w6 := hbw4.trans (hB6.mono (by omega))
         have z6 : wc2.heap.size < w6.heap.size := by omega
         have zz : w.heap.size < wc2.heap.size := by omega
         clear r5 r6 r8 HS5 OW0 HOB HOA hIa hIb
         generalize hgt : wc2.heap.size = gT at *
         go_wp2
         go_loopg [9] all.length (fun kx s9 wr => ∃ (k : Nat) (arr : Array Value), s9 = .int .i64 k ∧ k ≤ all.length ∧ all.length - k ≤ kx ∧ KeepB w6.heap.size gT w6 wr ∧ Hid (wr.heap[gT]? = some (.cells arr 4)) ∧ arr.size = m ∧ Hid (∀ t : Nat, t < m → arr[t]? = some (.bool (decide ((t : Int) ∈ all.take k)))) ∧ Hid (∀ j, j < k → all.getD j 0 ∉ all.take j))
         case atStart => exact ⟨0, cur, rfl, by omega, by omega, KeepB.refl _ _ _, H! hrow6, hsz, H! (fun t ht => by rw [hcur t ht]; simp), H! (fun j hj => absurd hj (by omega))⟩
         case round =>
          obtain ⟨k, arr, rfl, hk, hkx, hK, HR2, hasz, HA, HN⟩ := hrel
          have hbr : Below w.heap.size w wr := hbz.trans (hK.below (by omega) (by omega))
          by_cases hlt : k < all.length
          ·
           obtain ⟨b5, o5, rfl, hb5b, hcells⟩ := HALL.out.cells (by intro h; rw [h] at hlt; simp at hlt)
           have hc5 := hcells k hlt
           have hmem : all.getD k 0 ∈ all := by rw [List.getD_eq_getElem?_getD, List.getElem?_eq_getElem hlt]; exact List.getElem_mem hlt
           obtain ⟨c0, c1⟩ := HM.out _ hmem
           obtain ⟨t, ht⟩ : ∃ t : Nat, all.getD k 0 = t := ⟨(all.getD k 0).toNat, by omega⟩
           have hne : b5 ≠ gT := fun h => by
            subst h
            rw [cell_of_row w6 b5 (o5 + k) cur _ _ hrow6] at hc5
            have hlt2 : o5 + k < m := by
             rcases Nat.lt_or_ge (o5 + k) m with hh | hh
             ·
              exact hh
             ·
              rw [Array.getElem?_eq_none (by omega)] at hc5; cases hc5
            rw [hcur _ hlt2] at hc5
            cases hc5
           have hcw : wr.cell? ⟨b5, o5 + k, none⟩ = some (.int .i64 t) := by rw [hK.cell hb5b hne, hc5, ht]
           have HT2 := H! ht
           rw [ht] at c0 c1
           have htm : t < m := by omega
           have hct : wr.cell? ⟨gT, t, none⟩ = some (.bool (decide ((t : Int) ∈ all.take k))) := by rw [cell_of_row wr gT t arr _ _ HR2.out, HA.out t htm]
           have hft : wr.frozen? ⟨gT, t, none⟩ = false := by simp [World.frozen?, HR2.out]
           have hk1 : (0 : Int) ≤ (k : Int) := by omega
           have hk2 : (k : Int) < all.length := by omega
           clear ht hc5 hcells hmem
           cases hd : decide ((t : Int) ∈ all.take k)
           ·
            rw [hd] at hct
            have HD := H! hd
            clear hd
            go_wp2
            go_roundg (all.length - (k + 1))
            case measure => omega
            case rel =>
             refine ⟨k + 1, arr.setIfInBounds t (.bool true), by go_num, by omega, by omega, hK.trans (KeepB.setC _ _ _), H! (row_store2 HR2.out _), by simpa using hasz, H! (fun u hu => ?_), H! (fun j hj => ?_)⟩
             ·
              have hadd : all.take (k + 1) = all.take k ++ [(t : Int)] := by
               have hh := HT2.out
               rw [List.getD_eq_getElem?_getD, List.getElem?_eq_getElem hlt] at hh
               rw [List.take_add_one, List.getElem?_eq_getElem hlt, ← hh]; rfl
              rw [Array.getElem?_setIfInBounds, hadd]
              by_cases he : t = u
              ·
               subst he
               simp [hasz, htm]
              ·
               rw [if_neg he, HA.out u hu]
               have : ¬ (u : Int) = t := by omega
               simp [this]
             ·
              by_cases hjk : j = k
              ·
               subst hjk
               rw [HT2.out]
               exact of_decide_eq_false HD.out
              ·
               exact HN.out j (by omega)
           ·
            rw [hd] at hct
            obtain rfl := FND.out (nodup_bad hlt (by rw [HT2.out]; exact of_decide_eq_true hd))
            clear hd FALL FNI
            go_wp2
            go_ret
            exact ⟨rfl, hbr⟩
          ·
           obtain rfl : k = all.length := by omega
           have HND : Hid all.Nodup := H! (nodup_good (fun j hj => HN.out j hj))
           have hcr : wr.cell? ⟨w.heap.size, 8, none⟩ = some (.slice rn initial.length cn) := by rw [hK.cell (by omega) (by omega)]; exact r8b
           have hwr : w.heap.size < wr.heap.size := by have := hK.1.size; omega
           clear FND HN HA HR2 HALL
           go_wp2
           obtain ⟨v9, hv9⟩ : ∃ v, v = wr := ⟨_, rfl⟩
           subst hv9
           go_loopg [10] initial.length (fun kx s10 wr => ∃ (k : Nat), s10 = .int .i64 k ∧ k ≤ initial.length ∧ initial.length - k ≤ kx ∧ wr = v9 ∧ Hid (∀ i, i < k → badN (initial.getD i 0) = false))
           case atStart => exact ⟨0, rfl, by omega, by omega, rfl, H! (fun i h => absurd h (by omega))⟩
           case round =>
            obtain ⟨k, rfl, hk, hkx, hv, HG⟩ := hrel
            subst hv
            by_cases hlt : k < initial.length
            ·
             have hk1 : (0 : Int) ≤ (k : Int) := by omega
             have hk2 : (k : Int) < initial.length := by omega
             obtain ⟨bX, off, rfl, hb, hc⟩ := HINI.out.cells (fun e => by rw [e] at hlt; simp at hlt)
             have hcx : wr.cell? ⟨bX, off + k, none⟩ = some (.int .i64 (initial.getD k 0)) := (hbr.cell (p := ⟨bX, off + k, none⟩) hb).trans (hc k hlt)
             have HFj := H! (fun h => FNI.out k hlt h)
             have HGj : Hid (badN (initial.getD k 0) = false → ∀ i, i < k + 1 → badN (initial.getD i 0) = false) := H! (fun h i hi => by
              by_cases e : i = k
              ·
               subst e; exact h
              ·
               exact HG.out i (by omega))
             clear hc HG
             generalize initial.getD k 0 = x at *
             by_cases n0 : x < -1099511627776
             ·
              obtain rfl := HFj.out (by unfold badN; simp; omega)
              clear HGj HFj FALL FNI
              go_wp2
              go_ret
              exact ⟨rfl, hbr⟩
             ·
              by_cases n1 : 1099511627776 < x
              ·
               obtain rfl := HFj.out (by unfold badN; simp; omega)
               clear HGj HFj FALL FNI
               go_wp2
               go_ret
               exact ⟨rfl, hbr⟩
              ·
               have HG2 := H! (HGj.out (by unfold badN; simp; omega))
               clear HGj HFj
               go_wp2
               go_roundg (initial.length - (k + 1))
               case measure => omega
               case rel => exact ⟨k + 1, by go_num, by omega, by omega, rfl, HG2⟩
            ·
             obtain rfl : k = initial.length := by omega
             obtain rfl := FALL.out HLN.out HGT.out HGC.out HGM.out HGI.out HB0.out HB1.out HB2.out HND.out HG.out
             clear FALL FNI
             go_wp2
             go_ret
             exact ⟨rfl, hbr⟩
theorem rvalid13_any (p : PV) (w : World) (hp : IsP w p) : Calls Tryz.prog 10 #[p.val] w fun e w' => e = .returned (.bool (validB p)) ∧ Below w.heap.size w w' := by
 have m0 := Nat.le_trans hp.code.le hp.code.max
 have m1 := Nat.le_trans hp.types.le hp.types.max
 have m2 := Nat.le_trans hp.curves.le hp.curves.max
 have m3 := Nat.le_trans hp.maps.le hp.maps.max
 unfold maxLen at m0 m1 m2 m3
 have fz : ¬ szP p → validB p = false := vb_Z
 have fT := fun j hj h => @vb_T p j hj h
 have fC := fun j hj h => @vb_C p j hj h
 have fM := fun j hj h => @vb_M p j hj h
 have fI := fun j hj h => @vb_I p j hj h
 have f1 := @vb_L1 p
 have f2 := @vb_L2 p
 have f3 := @vb_L3 p
 have fN := @vb_N p
 have fB := fun j hj h => @vb_B p j hj h
 have fO := fun hz hT hC hM hI h1 h2 h3 hn hB => @vb_ok p hz hT hC hM hI h1 h2 h3 hn hB
 obtain ⟨rc, cc, code, rt, ct, types, rv, cv, curves, rm, cm, maps, cells, ri, ci, inputs, rs, cs, states, ro, co, outputs, rn, cn, initial⟩ := p
 simp only [szP] at fz fO
 simp only at m0 m1 m2 m3 fT fC fM fI f1 f2 f3 fN fB fO
 simp only [PV.val]
 have m : code.length ≤ 9223372036854775807 ∧ types.length ≤ 9223372036854775807 ∧ curves.length ≤ 9223372036854775807 ∧ maps.length ≤ 9223372036854775807 := ⟨by omega, by omega, by omega, by omega⟩
 by_cases h0 : code.length ≤ 4000
 rotate_left
 ·
  rw [fz (fun hh => h0 hh.1)]
  exact r13_sz0 rc cc code rt ct types rv cv curves rm cm maps cells ri ci inputs rs cs states ro co outputs rn cn initial  h0 m w
 by_cases h1 : types.length ≤ 100
 rotate_left
 ·
  rw [fz (fun hh => h1 hh.2.1)]
  exact r13_sz1 rc cc code rt ct types rv cv curves rm cm maps cells ri ci inputs rs cs states ro co outputs rn cn initial h0 h1 m w
 by_cases h2 : curves.length ≤ 100
 rotate_left
 ·
  rw [fz (fun hh => h2 hh.2.2.1)]
  exact r13_sz2 rc cc code rt ct types rv cv curves rm cm maps cells ri ci inputs rs cs states ro co outputs rn cn initial h0 h1 h2 m w
 by_cases h3 : maps.length ≤ 100
 rotate_left
 ·
  rw [fz (fun hh => h3 hh.2.2.2.1)]
  exact r13_sz3 rc cc code rt ct types rv cv curves rm cm maps cells ri ci inputs rs cs states ro co outputs rn cn initial h0 h1 h2 h3 m w
 by_cases h4 : 0 ≤ cells
 rotate_left
 ·
  rw [fz (fun hh => h4 hh.2.2.2.2.1)]
  exact r13_sz4 rc cc code rt ct types rv cv curves rm cm maps cells ri ci inputs rs cs states ro co outputs rn cn initial h0 h1 h2 h3 h4 m w
 by_cases h5 : cells ≤ 1000
 rotate_left
 ·
  rw [fz (fun hh => h5 hh.2.2.2.2.2.1)]
  exact r13_sz5 rc cc code rt ct types rv cv curves rm cm maps cells ri ci inputs rs cs states ro co outputs rn cn initial h0 h1 h2 h3 h4 h5 m w
 exact r13_main rc cc code rt ct types rv cv curves rm cm maps cells ri ci inputs rs cs states ro co outputs rn cn initial w hp ⟨h0, h1, h2, h3, h4, h5⟩ _ (H! fT) (H! fC) (H! fM) (H! fI) (H! f1) (H! f2) (H! f3) (H! (fun h => fz (fun hh => h hh.2.2.2.2.2.2))) (H! fN) (H! fB)
  (H! (fun hl hT hC hM hI h1' h2' h3' hn hB => fO ⟨h0, h1, h2, h3, h4, h5, hl⟩ hT hC hM hI h1' h2' h3' hn hB))
end
end Go.Proofs.YtfooefiaenlhmaaGreat
