/- Lemmas for the laws of package magnetolaw15: what its functions return, for any arguments that the lemmas name. -/
import Derived.Test.YtfooefiaenlhmaaGreatGB1
import Derived.Test.YtfooefiaenlhmaaGreatGB4
import Derived.Test.YtfooefiaenlhmaaGreatGB7
import Derived.Test.YtfooefiaenlhmaaGreatGB9
import Derived.Test.YtfooefiaenlhmaaGreatGB11
import Derived.Test.YtfooefiaenlhmaaGreatGB20
import Derived.Deep.RegionHeld3
import Derived.Deep.Cut
import Derived.Deep.LoopGhost
set_option maxRecDepth 100000
namespace Go.Proofs.YtfooefiaenlhmaaGreat
set_option linter.all false
set_option maxHeartbeats 16000000
open Go.RowKit Go.ChangeShapes Go.WideShapes Go.ChangeAt
section
variable (rc : Option Addr) (cc : Nat) (xY : List Ins) (rt : Option Addr) (ct : Nat) (tY : List Fx) (rv : Option Addr) (cv : Nat) (zY : List Cv) (rm : Option Addr) (cm : Nat) (mY : List Mp) (cells : Int) (ri : Option Addr) (ci : Nat) (qY : List Int) (rs : Option Addr) (cs : Nat) (sY : List Int) (ro : Option Addr) (co : Nat) (oY : List Int) (rn : Option Addr) (cn : Nat) (iY : List Int)
theorem yiq {α : Type} [Inhabited α] {l : List α} {p : α → Bool} {j : Nat} (hj : j < l.length) (h : p (l.getD j default) = true) : l.any p = true := List.any_eq_true.2 ⟨_, yak hj, h⟩
theorem yfm {α : Type} [Inhabited α] {l : List α} {p : α → Bool} (h : ∀ j, j < l.length → p (l.getD j default) = false) : l.any p = false := by
 rw [List.any_eq_false]
 intro x hx
 obtain ⟨i, hi, rfl⟩ := List.getElem_of_mem hx
 have := h i hi
 rw [List.getD_eq_getElem?_getD, List.getElem?_eq_getElem hi] at this
 simpa using this
theorem vb_T {p : PV} {j : Nat} (hj : j < p.tY.length) (h : fxB (p.tY.getD j default) = false) : yas p = false := by
 unfold yas; rw [yiq (p := fun t => !fxB t) hj (by show (!fxB _) = true; rw [h]; rfl)]; simp
theorem vb_C {p : PV} {j : Nat} (hj : j < p.zY.length) (h : cvB (p.zY.getD j default) = false) : yas p = false := by
 unfold yas; rw [yiq (p := fun t => !cvB t) hj (by show (!cvB _) = true; rw [h]; rfl)]; simp
theorem vb_M {p : PV} {j : Nat} (hj : j < p.mY.length) (h : mpB (p.mY.getD j default) = false) : yas p = false := by
 unfold yas; rw [yiq (p := fun t => !mpB t) hj (by show (!mpB _) = true; rw [h]; rfl)]; simp
theorem vb_I {p : PV} {j : Nat} (hj : j < p.xY.length) (h : fitB p.cells p.zY.length p.mY.length p.tY (p.xY.getD j default) = false) : yas p = false := by
 unfold yas; rw [yiq (p := fun i => !fitB p.cells p.zY.length p.mY.length p.tY i) hj (by show (!fitB _ _ _ _ _) = true; rw [h]; rfl)]; simp
theorem vb_Z {p : PV} (h : ¬ szP p) : yas p = false := by unfold yas; rw [decide_eq_false h]; rfl
theorem vb_L1 {p : PV} (h : inL p.cells p.qY = false) : yas p = false := by unfold yas; rw [h]; simp
theorem vb_L2 {p : PV} (h : inL p.cells p.oY = false) : yas p = false := by unfold yas; rw [h]; simp
theorem vb_L3 {p : PV} (h : inL p.cells p.sY = false) : yas p = false := by unfold yas; rw [h]; simp
theorem vb_N {p : PV} (h : ¬ (p.qY ++ p.sY).Nodup) : yas p = false := by unfold yas; rw [decide_eq_false h]; simp
theorem vb_B {p : PV} {j : Nat} (hj : j < p.iY.length) (h : badN (p.iY.getD j 0) = true) : yas p = false := by
 unfold yas; rw [show p.iY.any badN = true from List.any_eq_true.2 ⟨_, yek hj, h⟩]; simp
theorem vb_ok {p : PV} (hz : szP p) (hT : ∀ j, j < p.tY.length → fxB (p.tY.getD j default) = true) (hC : ∀ j, j < p.zY.length → cvB (p.zY.getD j default) = true) (hM : ∀ j, j < p.mY.length → mpB (p.mY.getD j default) = true)
  (hI : ∀ j, j < p.xY.length → fitB p.cells p.zY.length p.mY.length p.tY (p.xY.getD j default) = true) (h1 : inL p.cells p.qY = true) (h2 : inL p.cells p.oY = true) (h3 : inL p.cells p.sY = true) (hn : (p.qY ++ p.sY).Nodup)
  (hB : ∀ j, j < p.iY.length → badN (p.iY.getD j 0) = false) : yas p = true := by
 unfold yas
 rw [decide_eq_true hz, yfm (p := fun t => !fxB t) (fun j hj => by show (!fxB _) = false; rw [hT j hj]; rfl), yfm (p := fun t => !cvB t) (fun j hj => by show (!cvB _) = false; rw [hC j hj]; rfl), yfm (p := fun t => !mpB t) (fun j hj => by show (!mpB _) = false; rw [hM j hj]; rfl), yfm (p := fun i => !fitB p.cells p.zY.length p.mY.length p.tY i) (fun j hj => by show (!fitB _ _ _ _ _) = false; rw [hI j hj]; rfl), h1, h2, h3, decide_eq_true hn, yfm (p := badN) (fun j hj => hB j hj)]
 rfl
theorem ownI_set {W : World} {base : Nat} {r : Option Addr} {cap : Nat} {xs ys : List Int} (h : OwnK .i64 3 W base r cap xs) (e : xs = ys) : OwnK .i64 3 W base r cap ys := e ▸ h
theorem r13_sz0 (n0 : ¬ xY.length ≤ 4000) (m0 : xY.length ≤ 9223372036854775807 ∧ tY.length ≤ 9223372036854775807 ∧ zY.length ≤ 9223372036854775807 ∧ mY.length ≤ 9223372036854775807) (w : World) : Calls Tryz.prog 10 #[.agg #[.slice rc xY.length cc, .slice rt tY.length ct, .slice rv zY.length cv, .slice rm mY.length cm, .int .i64 cells, .slice ri qY.length ci, .slice rs sY.length cs, .slice ro oY.length co, .slice rn iY.length cn]] w fun e w' => e = .returned (.bool false) ∧ Below w.heap.size w w' := by
 obtain ⟨m0, m1, m2, m3⟩ := m0
 have f0 : ((4000 : Int) < xY.length) := by omega
 go_enter Tryz.func10, Tryz.ntmps10
 go_wp2
 go_ret
 exact ⟨rfl, bw⟩
theorem r13_sz1 (h0 : xY.length ≤ 4000) (n1 : ¬ tY.length ≤ 100) (m0 : xY.length ≤ 9223372036854775807 ∧ tY.length ≤ 9223372036854775807 ∧ zY.length ≤ 9223372036854775807 ∧ mY.length ≤ 9223372036854775807) (w : World) : Calls Tryz.prog 10 #[.agg #[.slice rc xY.length cc, .slice rt tY.length ct, .slice rv zY.length cv, .slice rm mY.length cm, .int .i64 cells, .slice ri qY.length ci, .slice rs sY.length cs, .slice ro oY.length co, .slice rn iY.length cn]] w fun e w' => e = .returned (.bool false) ∧ Below w.heap.size w w' := by
 obtain ⟨m0, m1, m2, m3⟩ := m0
 have f0 : ¬ ((4000 : Int) < xY.length) := by omega
 have f1 : ((100 : Int) < tY.length) := by omega
 go_enter Tryz.func10, Tryz.ntmps10
 go_wp2
 go_ret
 exact ⟨rfl, bw⟩
theorem r13_sz2 (h0 : xY.length ≤ 4000) (h1 : tY.length ≤ 100) (n2 : ¬ zY.length ≤ 100) (m0 : xY.length ≤ 9223372036854775807 ∧ tY.length ≤ 9223372036854775807 ∧ zY.length ≤ 9223372036854775807 ∧ mY.length ≤ 9223372036854775807) (w : World) : Calls Tryz.prog 10 #[.agg #[.slice rc xY.length cc, .slice rt tY.length ct, .slice rv zY.length cv, .slice rm mY.length cm, .int .i64 cells, .slice ri qY.length ci, .slice rs sY.length cs, .slice ro oY.length co, .slice rn iY.length cn]] w fun e w' => e = .returned (.bool false) ∧ Below w.heap.size w w' := by
 obtain ⟨m0, m1, m2, m3⟩ := m0
 have f0 : ¬ ((4000 : Int) < xY.length) := by omega
 have f1 : ¬ ((100 : Int) < tY.length) := by omega
 have f2 : ((100 : Int) < zY.length) := by omega
 go_enter Tryz.func10, Tryz.ntmps10
 go_wp2
 go_ret
 exact ⟨rfl, bw⟩
theorem r13_sz3 (h0 : xY.length ≤ 4000) (h1 : tY.length ≤ 100) (h2 : zY.length ≤ 100) (n3 : ¬ mY.length ≤ 100) (m0 : xY.length ≤ 9223372036854775807 ∧ tY.length ≤ 9223372036854775807 ∧ zY.length ≤ 9223372036854775807 ∧ mY.length ≤ 9223372036854775807) (w : World) : Calls Tryz.prog 10 #[.agg #[.slice rc xY.length cc, .slice rt tY.length ct, .slice rv zY.length cv, .slice rm mY.length cm, .int .i64 cells, .slice ri qY.length ci, .slice rs sY.length cs, .slice ro oY.length co, .slice rn iY.length cn]] w fun e w' => e = .returned (.bool false) ∧ Below w.heap.size w w' := by
 obtain ⟨m0, m1, m2, m3⟩ := m0
 have f0 : ¬ ((4000 : Int) < xY.length) := by omega
 have f1 : ¬ ((100 : Int) < tY.length) := by omega
 have f2 : ¬ ((100 : Int) < zY.length) := by omega
 have f3 : ((100 : Int) < mY.length) := by omega
 go_enter Tryz.func10, Tryz.ntmps10
 go_wp2
 go_ret
 exact ⟨rfl, bw⟩
theorem r13_sz4 (h0 : xY.length ≤ 4000) (h1 : tY.length ≤ 100) (h2 : zY.length ≤ 100) (h3 : mY.length ≤ 100) (n4 : ¬ 0 ≤ cells) (m0 : xY.length ≤ 9223372036854775807 ∧ tY.length ≤ 9223372036854775807 ∧ zY.length ≤ 9223372036854775807 ∧ mY.length ≤ 9223372036854775807) (w : World) : Calls Tryz.prog 10 #[.agg #[.slice rc xY.length cc, .slice rt tY.length ct, .slice rv zY.length cv, .slice rm mY.length cm, .int .i64 cells, .slice ri qY.length ci, .slice rs sY.length cs, .slice ro oY.length co, .slice rn iY.length cn]] w fun e w' => e = .returned (.bool false) ∧ Below w.heap.size w w' := by
 obtain ⟨m0, m1, m2, m3⟩ := m0
 have f0 : ¬ ((4000 : Int) < xY.length) := by omega
 have f1 : ¬ ((100 : Int) < tY.length) := by omega
 have f2 : ¬ ((100 : Int) < zY.length) := by omega
 have f3 : ¬ ((100 : Int) < mY.length) := by omega
 have f4 : cells < 0 := by omega
 go_enter Tryz.func10, Tryz.ntmps10
 go_wp2
 go_ret
 exact ⟨rfl, bw⟩
theorem r13_sz5 (h0 : xY.length ≤ 4000) (h1 : tY.length ≤ 100) (h2 : zY.length ≤ 100) (h3 : mY.length ≤ 100) (h4 : 0 ≤ cells) (n5 : ¬ cells ≤ 1000) (m0 : xY.length ≤ 9223372036854775807 ∧ tY.length ≤ 9223372036854775807 ∧ zY.length ≤ 9223372036854775807 ∧ mY.length ≤ 9223372036854775807) (w : World) : Calls Tryz.prog 10 #[.agg #[.slice rc xY.length cc, .slice rt tY.length ct, .slice rv zY.length cv, .slice rm mY.length cm, .int .i64 cells, .slice ri qY.length ci, .slice rs sY.length cs, .slice ro oY.length co, .slice rn iY.length cn]] w fun e w' => e = .returned (.bool false) ∧ Below w.heap.size w w' := by
 obtain ⟨m0, m1, m2, m3⟩ := m0
 have f0 : ¬ ((4000 : Int) < xY.length) := by omega
 have f1 : ¬ ((100 : Int) < tY.length) := by omega
 have f2 : ¬ ((100 : Int) < zY.length) := by omega
 have f3 : ¬ ((100 : Int) < mY.length) := by omega
 have f4 : ¬ cells < 0 := by omega
 have f5 : 1000 < cells := by omega
 go_enter Tryz.func10, Tryz.ntmps10
 go_wp2
 go_ret
 exact ⟨rfl, bw⟩
theorem r13_main (w : World) (hp : IsP w ⟨rc, cc, xY, rt, ct, tY, rv, cv, zY, rm, cm, mY, cells, ri, ci, qY, rs, cs, sY, ro, co, oY, rn, cn, iY⟩) (z : xY.length ≤ 4000 ∧ tY.length ≤ 100 ∧ zY.length ≤ 100 ∧ mY.length ≤ 100 ∧ 0 ≤ cells ∧ cells ≤ 1000) (R : Bool)
  (FT : Hid (∀ j, j < tY.length → fxB (tY.getD j default) = false → R = false)) (FC : Hid (∀ j, j < zY.length → cvB (zY.getD j default) = false → R = false)) (FM : Hid (∀ j, j < mY.length → mpB (mY.getD j default) = false → R = false))
  (FI : Hid (∀ j, j < xY.length → fitB cells zY.length mY.length tY (xY.getD j default) = false → R = false)) (FL1 : Hid (inL cells qY = false → R = false)) (FL2 : Hid (inL cells oY = false → R = false)) (FL3 : Hid (inL cells sY = false → R = false))
  (FLN : Hid (¬ iY.length = sY.length → R = false)) (FND : Hid (¬ (qY ++ sY).Nodup → R = false)) (FNI : Hid (∀ j, j < iY.length → badN (iY.getD j 0) = true → R = false))
  (FALL : Hid (iY.length = sY.length → (∀ j, j < tY.length → fxB (tY.getD j default) = true) → (∀ j, j < zY.length → cvB (zY.getD j default) = true) → (∀ j, j < mY.length → mpB (mY.getD j default) = true) → (∀ j, j < xY.length → fitB cells zY.length mY.length tY (xY.getD j default) = true) →
   inL cells qY = true → inL cells oY = true → inL cells sY = true → (qY ++ sY).Nodup → (∀ j, j < iY.length → badN (iY.getD j 0) = false) → R = true)) :
  Calls Tryz.prog 10 #[.agg #[.slice rc xY.length cc, .slice rt tY.length ct, .slice rv zY.length cv, .slice rm mY.length cm, .int .i64 cells, .slice ri qY.length ci, .slice rs sY.length cs, .slice ro oY.length co, .slice rn iY.length cn]] w fun e w' => e = .returned (.bool R) ∧ Below w.heap.size w w' := by
 have hin := hp.qY
 have hout := hp.oY
 have hst := hp.sY
 have hini := hp.iY
 have hs1 := hp.xY
 have hg1 := hp.codeG
 have hs2 := hp.tY
 have hs3 := hp.zY
 have hg3 := hp.curvesG
 have hs4 := hp.mY
 have hg4 := hp.mapsG
 simp only at hin hout hst hini hs1 hg1 hs2 hs3 hg3 hs4 hg4
 have mi := Nat.le_trans hin.le hin.max
 have mo := Nat.le_trans hout.le hout.max
 have ms := Nat.le_trans hst.le hst.max
 have mn := Nat.le_trans hini.le hini.max
 unfold maxLen at mi mo ms mn
 have HIN := H! hin
 have HOUT := H! hout
 have HST := H! hst
 have HINI := H! hini
 have HG1 := H! hg1
 have HG3 := H! hg3
 have HG4 := H! hg4
 have hbW : Below w.heap.size w (w.alloc (.cells #[.slice rc xY.length cc, .slice rt tY.length ct, .slice rv zY.length cv, .slice rm mY.length cm, .int .i64 cells, .slice ri qY.length ci, .slice rs sY.length cs, .slice ro oY.length co, .slice rn iY.length cn] 28)) := bw
 have HS1 := H! (hs1.later hbW)
 have HS2 := H! hs2
 have HS2' := H! (hs2.later hbW)
 have HS3 := H! (hs3.later hbW)
 have HS4 := H! (hs4.later hbW)
 clear hin hout hst hini hp hs1 hg1 hs2 hs3 hg3 hs4 hg4
 obtain ⟨z0, z1, z2, z3, z4, z5⟩ := z
 have f0 : ¬ ((4000 : Int) < xY.length) := by omega
 have f1 : ¬ ((100 : Int) < tY.length) := by omega
 have f2 : ¬ ((100 : Int) < zY.length) := by omega
 have f3 : ¬ ((100 : Int) < mY.length) := by omega
 have f4 : ¬ cells < 0 := by omega
 have f5 : ¬ 1000 < cells := by omega
 go_enter Tryz.func10, Tryz.ntmps10
 go_wp2
 have q0 : (w.alloc (.cells #[.slice rc xY.length cc, .slice rt tY.length ct, .slice rv zY.length cv, .slice rm mY.length cm, .int .i64 cells, .slice ri qY.length ci, .slice rs sY.length cs, .slice ro oY.length co, .slice rn iY.length cn] 28)).cell? ⟨w.heap.size, 0, none⟩ = some (.slice rc xY.length cc) := by first | go_keep | simp
 have q1 : (w.alloc (.cells #[.slice rc xY.length cc, .slice rt tY.length ct, .slice rv zY.length cv, .slice rm mY.length cm, .int .i64 cells, .slice ri qY.length ci, .slice rs sY.length cs, .slice ro oY.length co, .slice rn iY.length cn] 28)).cell? ⟨w.heap.size, 1, none⟩ = some (.slice rt tY.length ct) := by first | go_keep | simp
 have q2 : (w.alloc (.cells #[.slice rc xY.length cc, .slice rt tY.length ct, .slice rv zY.length cv, .slice rm mY.length cm, .int .i64 cells, .slice ri qY.length ci, .slice rs sY.length cs, .slice ro oY.length co, .slice rn iY.length cn] 28)).cell? ⟨w.heap.size, 2, none⟩ = some (.slice rv zY.length cv) := by first | go_keep | simp
 have q3 : (w.alloc (.cells #[.slice rc xY.length cc, .slice rt tY.length ct, .slice rv zY.length cv, .slice rm mY.length cm, .int .i64 cells, .slice ri qY.length ci, .slice rs sY.length cs, .slice ro oY.length co, .slice rn iY.length cn] 28)).cell? ⟨w.heap.size, 3, none⟩ = some (.slice rm mY.length cm) := by first | go_keep | simp
 have q4 : (w.alloc (.cells #[.slice rc xY.length cc, .slice rt tY.length ct, .slice rv zY.length cv, .slice rm mY.length cm, .int .i64 cells, .slice ri qY.length ci, .slice rs sY.length cs, .slice ro oY.length co, .slice rn iY.length cn] 28)).cell? ⟨w.heap.size, 4, none⟩ = some (.int .i64 cells) := by first | go_keep | simp
 have q5 : (w.alloc (.cells #[.slice rc xY.length cc, .slice rt tY.length ct, .slice rv zY.length cv, .slice rm mY.length cm, .int .i64 cells, .slice ri qY.length ci, .slice rs sY.length cs, .slice ro oY.length co, .slice rn iY.length cn] 28)).cell? ⟨w.heap.size, 5, none⟩ = some (.slice ri qY.length ci) := by first | go_keep | simp
 have q6 : (w.alloc (.cells #[.slice rc xY.length cc, .slice rt tY.length ct, .slice rv zY.length cv, .slice rm mY.length cm, .int .i64 cells, .slice ri qY.length ci, .slice rs sY.length cs, .slice ro oY.length co, .slice rn iY.length cn] 28)).cell? ⟨w.heap.size, 6, none⟩ = some (.slice rs sY.length cs) := by first | go_keep | simp
 have q7 : (w.alloc (.cells #[.slice rc xY.length cc, .slice rt tY.length ct, .slice rv zY.length cv, .slice rm mY.length cm, .int .i64 cells, .slice ri qY.length ci, .slice rs sY.length cs, .slice ro oY.length co, .slice rn iY.length cn] 28)).cell? ⟨w.heap.size, 7, none⟩ = some (.slice ro oY.length co) := by first | go_keep | simp
 have q8 : (w.alloc (.cells #[.slice rc xY.length cc, .slice rt tY.length ct, .slice rv zY.length cv, .slice rm mY.length cm, .int .i64 cells, .slice ri qY.length ci, .slice rs sY.length cs, .slice ro oY.length co, .slice rn iY.length cn] 28)).cell? ⟨w.heap.size, 8, none⟩ = some (.slice rn iY.length cn) := by first | go_keep | simp
 have hz : w.heap.size < (w.alloc (.cells #[.slice rc xY.length cc, .slice rt tY.length ct, .slice rv zY.length cv, .slice rm mY.length cm, .int .i64 cells, .slice ri qY.length ci, .slice rs sY.length cs, .slice ro oY.length co, .slice rn iY.length cn] 28)).heap.size := by rw [zA]; omega
 generalize w.alloc (.cells #[.slice rc xY.length cc, .slice rt tY.length ct, .slice rv zY.length cv, .slice rm mY.length cm, .int .i64 cells, .slice ri qY.length ci, .slice rs sY.length cs, .slice ro oY.length co, .slice rn iY.length cn] 28) = W1 at *
 go_loopg [3] tY.length (fun kx s3 wr => ∃ (k : Nat) (e : Later W1), s3 = .int .i64 k ∧ k ≤ tY.length ∧ tY.length - k ≤ kx ∧ wr = e.w ∧ Hid (∀ i, i < k → fxB (tY.getD i default) = true))
 case atStart => exact ⟨0, ⟨W1, Below.refl _ _⟩, rfl, by omega, by omega, rfl, H! (fun i h => absurd h (by omega))⟩
 case round =>
  obtain ⟨k, e, rfl, hk, hkx, rfl, HG⟩ := hrel
  have hes := e.h.size
  have u0 : e.w.cell? ⟨w.heap.size, 0, none⟩ = some (.slice rc xY.length cc) := (Later.cell e hz).trans q0
  have u1 : e.w.cell? ⟨w.heap.size, 1, none⟩ = some (.slice rt tY.length ct) := (Later.cell e hz).trans q1
  have u2 : e.w.cell? ⟨w.heap.size, 2, none⟩ = some (.slice rv zY.length cv) := (Later.cell e hz).trans q2
  have u3 : e.w.cell? ⟨w.heap.size, 3, none⟩ = some (.slice rm mY.length cm) := (Later.cell e hz).trans q3
  have u4 : e.w.cell? ⟨w.heap.size, 4, none⟩ = some (.int .i64 cells) := (Later.cell e hz).trans q4
  have u5 : e.w.cell? ⟨w.heap.size, 5, none⟩ = some (.slice ri qY.length ci) := (Later.cell e hz).trans q5
  have u6 : e.w.cell? ⟨w.heap.size, 6, none⟩ = some (.slice rs sY.length cs) := (Later.cell e hz).trans q6
  have u7 : e.w.cell? ⟨w.heap.size, 7, none⟩ = some (.slice ro oY.length co) := (Later.cell e hz).trans q7
  have u8 : e.w.cell? ⟨w.heap.size, 8, none⟩ = some (.slice rn iY.length cn) := (Later.cell e hz).trans q8
  have hze : w.heap.size < e.w.heap.size := by omega
  have hbe : Below w.heap.size w e.w := hbW.trans (e.h.mono (by omega))
  by_cases hlt : k < tY.length
  ·
   have hk1 : (0 : Int) ≤ (k : Int) := by omega
   have hk2 : (k : Int) < tY.length := by omega
   obtain ⟨bX, off, rfl, hb, hc⟩ := HS2'.out.at_ hlt
   have hc0 : e.w.cell? ⟨bX, off + k * 10, none⟩ = some (.int .i64 (tY.getD k default).bits) := (e.h.cell (p := ⟨bX, off + k * 10, none⟩) hb).trans (hc 0 _ rfl)
   have hc1 : e.w.cell? ⟨bX, off + k * 10 + 1, none⟩ = some (.bool (tY.getD k default).sg) := (e.h.cell (p := ⟨bX, off + k * 10 + 1, none⟩) hb).trans (hc 1 _ rfl)
   have hc2 : e.w.cell? ⟨bX, off + k * 10 + 2, none⟩ = some (.int .i64 (tY.getD k default).num) := (e.h.cell (p := ⟨bX, off + k * 10 + 2, none⟩) hb).trans (hc 2 _ rfl)
   have hc3 : e.w.cell? ⟨bX, off + k * 10 + 3, none⟩ = some (.int .i64 (tY.getD k default).off) := (e.h.cell (p := ⟨bX, off + k * 10 + 3, none⟩) hb).trans (hc 3 _ rfl)
   have hc4 : e.w.cell? ⟨bX, off + k * 10 + 4, none⟩ = some (.int .i64 (tY.getD k default).den) := (e.h.cell (p := ⟨bX, off + k * 10 + 4, none⟩) hb).trans (hc 4 _ rfl)
   have hc5 : e.w.cell? ⟨bX, off + k * 10 + 5, none⟩ = some (.int .i64 (tY.getD k default).m) := (e.h.cell (p := ⟨bX, off + k * 10 + 5, none⟩) hb).trans (hc 5 _ rfl)
   have hc6 : e.w.cell? ⟨bX, off + k * 10 + 6, none⟩ = some (.int .i64 (tY.getD k default).kg) := (e.h.cell (p := ⟨bX, off + k * 10 + 6, none⟩) hb).trans (hc 6 _ rfl)
   have hc7 : e.w.cell? ⟨bX, off + k * 10 + 7, none⟩ = some (.int .i64 (tY.getD k default).s) := (e.h.cell (p := ⟨bX, off + k * 10 + 7, none⟩) hb).trans (hc 7 _ rfl)
   have hc8 : e.w.cell? ⟨bX, off + k * 10 + 8, none⟩ = some (.int .i64 (tY.getD k default).a) := (e.h.cell (p := ⟨bX, off + k * 10 + 8, none⟩) hb).trans (hc 8 _ rfl)
   have hc9 : e.w.cell? ⟨bX, off + k * 10 + 9, none⟩ = some (.int .i64 (tY.getD k default).k) := (e.h.cell (p := ⟨bX, off + k * 10 + 9, none⟩) hb).trans (hc 9 _ rfl)
   clear hc
   have HGj : Hid (fxB (tY.getD k default) = true → ∀ i, i < k + 1 → fxB (tY.getD i default) = true) := H! (fun h i hi => by
    by_cases e : i = k
    ·
     subst e; exact h
    ·
     exact HG.out i (by omega))
   have HFj := H! (fun h => FT.out k hlt h)
   have HV : Hid (∀ W, Below e.w.heap.size e.w W → Calls Tryz.prog 29 #[.agg #[.int .i64 (tY.getD k default).bits, .bool (tY.getD k default).sg, .int .i64 (tY.getD k default).num, .int .i64 (tY.getD k default).off, .int .i64 (tY.getD k default).den, .int .i64 (tY.getD k default).m, .int .i64 (tY.getD k default).kg, .int .i64 (tY.getD k default).s, .int .i64 (tY.getD k default).a, .int .i64 (tY.getD k default).k]] W fun e w' => e = .returned (.bool (fxB (tY.getD k default))) ∧ Below W.heap.size W w') := H! (fun W _ => yjt _ W)
   generalize fxB (tY.getD k default) = v at *
   clear HG
   generalize tY.getD k default = x at *
   obtain ⟨x0, x1, x2, x3, x4, x5, x6, x7, x8, x9⟩ := x
   simp only at hc0 hc1 hc2 hc3 hc4 hc5 hc6 hc7 hc8 hc9 HV
   cases v
   ·
    obtain rfl := HFj.out rfl
    clear HGj HFj
    go_wp2_with (first | (go_at_call 29; refine (HV.out _ (Below.refl _ _)).mono ?_; rintro _ w2 ⟨rfl, hb2⟩))
    go_ret
    exact ⟨rfl, hbe.trans (hb2.mono (by omega))⟩
   ·
    have HG2 := H! (HGj.out rfl)
    clear HGj HFj
    go_wp2_with (first | (go_at_call 29; refine (HV.out _ (Below.refl _ _)).mono ?_; rintro _ w2 ⟨rfl, hb2⟩))
    obtain ⟨e2, rfl⟩ := e.next hb2
    go_roundg (tY.length - (k + 1))
    case measure => omega
    case rel => exact ⟨k + 1, e2, by go_num, by omega, by omega, rfl, HG2⟩
  ·
   obtain rfl : k = tY.length := by omega
   have HGT := H! HG.out
   clear HG FT
   go_wp2
   go_loopg [4] zY.length (fun kx s4 wr => ∃ (k : Nat) (e : Later W1), s4 = .int .i64 k ∧ k ≤ zY.length ∧ zY.length - k ≤ kx ∧ wr = e.w ∧ Hid (∀ i, i < k → cvB (zY.getD i default) = true))
   case atStart => exact ⟨0, e, rfl, by omega, by omega, rfl, H! (fun i h => absurd h (by omega))⟩
   case round =>
    obtain ⟨k, e, rfl, hk, hkx, rfl, HG⟩ := hrel
    have hes := e.h.size
    have u0 : e.w.cell? ⟨w.heap.size, 0, none⟩ = some (.slice rc xY.length cc) := (Later.cell e hz).trans q0
    have u1 : e.w.cell? ⟨w.heap.size, 1, none⟩ = some (.slice rt tY.length ct) := (Later.cell e hz).trans q1
    have u2 : e.w.cell? ⟨w.heap.size, 2, none⟩ = some (.slice rv zY.length cv) := (Later.cell e hz).trans q2
    have u3 : e.w.cell? ⟨w.heap.size, 3, none⟩ = some (.slice rm mY.length cm) := (Later.cell e hz).trans q3
    have u4 : e.w.cell? ⟨w.heap.size, 4, none⟩ = some (.int .i64 cells) := (Later.cell e hz).trans q4
    have u5 : e.w.cell? ⟨w.heap.size, 5, none⟩ = some (.slice ri qY.length ci) := (Later.cell e hz).trans q5
    have u6 : e.w.cell? ⟨w.heap.size, 6, none⟩ = some (.slice rs sY.length cs) := (Later.cell e hz).trans q6
    have u7 : e.w.cell? ⟨w.heap.size, 7, none⟩ = some (.slice ro oY.length co) := (Later.cell e hz).trans q7
    have u8 : e.w.cell? ⟨w.heap.size, 8, none⟩ = some (.slice rn iY.length cn) := (Later.cell e hz).trans q8
    have hze : w.heap.size < e.w.heap.size := by omega
    have hbe : Below w.heap.size w e.w := hbW.trans (e.h.mono (by omega))
    by_cases hlt : k < zY.length
    ·
     have hk1 : (0 : Int) ≤ (k : Int) := by omega
     have hk2 : (k : Int) < zY.length := by omega
     obtain ⟨bX, off, rfl, hb, hc⟩ := HS3.out.at_ hlt
     have hc0 : e.w.cell? ⟨bX, off + k * 2, none⟩ = some (.slice (zY.getD k default).rx (zY.getD k default).X.length (zY.getD k default).cx) := (e.h.cell (p := ⟨bX, off + k * 2, none⟩) hb).trans (hc 0 _ rfl)
     have hc1 : e.w.cell? ⟨bX, off + k * 2 + 1, none⟩ = some (.slice (zY.getD k default).ry (zY.getD k default).Y.length (zY.getD k default).cy) := (e.h.cell (p := ⟨bX, off + k * 2 + 1, none⟩) hb).trans (hc 1 _ rfl)
     clear hc
     have HGj : Hid (cvB (zY.getD k default) = true → ∀ i, i < k + 1 → cvB (zY.getD i default) = true) := H! (fun h i hi => by
      by_cases e : i = k
      ·
       subst e; exact h
      ·
       exact HG.out i (by omega))
     have HFj := H! (fun h => FC.out k hlt h)
     obtain ⟨hoX, hoY⟩ := HG3.out _ (yak hlt)
     have HV : Hid (∀ W, Below e.w.heap.size e.w W → Calls Tryz.prog 30 #[.agg #[.slice (zY.getD k default).rx (zY.getD k default).X.length (zY.getD k default).cx, .slice (zY.getD k default).ry (zY.getD k default).Y.length (zY.getD k default).cy]] W fun e w' => e = .returned (.bool (cvB (zY.getD k default))) ∧ Below W.heap.size W w') := H! (fun W h => ylf _ _ _ _ _ _ W ((hoX.later hbe).later h) ((hoY.later hbe).later h))
     clear hoX hoY
     generalize cvB (zY.getD k default) = v at *
     clear HG
     generalize zY.getD k default = x at *
     obtain ⟨r0, c0, X0, r1, c1, X1⟩ := x
     simp only at hc0 hc1 HV
     cases v
     ·
      obtain rfl := HFj.out rfl
      clear HGj HFj
      go_wp2_with (first | (go_at_call 30; refine (HV.out _ (Below.refl _ _)).mono ?_; rintro _ w2 ⟨rfl, hb2⟩))
      go_ret
      exact ⟨rfl, hbe.trans (hb2.mono (by omega))⟩
     ·
      have HG2 := H! (HGj.out rfl)
      clear HGj HFj
      go_wp2_with (first | (go_at_call 30; refine (HV.out _ (Below.refl _ _)).mono ?_; rintro _ w2 ⟨rfl, hb2⟩))
      obtain ⟨e2, rfl⟩ := e.next hb2
      go_roundg (zY.length - (k + 1))
      case measure => omega
      case rel => exact ⟨k + 1, e2, by go_num, by omega, by omega, rfl, HG2⟩
    ·
     obtain rfl : k = zY.length := by omega
     have HGC := H! HG.out
     clear HG FC HG3
     go_wp2
     go_loopg [5] mY.length (fun kx s5 wr => ∃ (k : Nat) (e : Later W1), s5 = .int .i64 k ∧ k ≤ mY.length ∧ mY.length - k ≤ kx ∧ wr = e.w ∧ Hid (∀ i, i < k → mpB (mY.getD i default) = true))
     case atStart => exact ⟨0, e, rfl, by omega, by omega, rfl, H! (fun i h => absurd h (by omega))⟩
     case round =>
      obtain ⟨k, e, rfl, hk, hkx, rfl, HG⟩ := hrel
      have hes := e.h.size
      have u0 : e.w.cell? ⟨w.heap.size, 0, none⟩ = some (.slice rc xY.length cc) := (Later.cell e hz).trans q0
      have u1 : e.w.cell? ⟨w.heap.size, 1, none⟩ = some (.slice rt tY.length ct) := (Later.cell e hz).trans q1
      have u2 : e.w.cell? ⟨w.heap.size, 2, none⟩ = some (.slice rv zY.length cv) := (Later.cell e hz).trans q2
      have u3 : e.w.cell? ⟨w.heap.size, 3, none⟩ = some (.slice rm mY.length cm) := (Later.cell e hz).trans q3
      have u4 : e.w.cell? ⟨w.heap.size, 4, none⟩ = some (.int .i64 cells) := (Later.cell e hz).trans q4
      have u5 : e.w.cell? ⟨w.heap.size, 5, none⟩ = some (.slice ri qY.length ci) := (Later.cell e hz).trans q5
      have u6 : e.w.cell? ⟨w.heap.size, 6, none⟩ = some (.slice rs sY.length cs) := (Later.cell e hz).trans q6
      have u7 : e.w.cell? ⟨w.heap.size, 7, none⟩ = some (.slice ro oY.length co) := (Later.cell e hz).trans q7
      have u8 : e.w.cell? ⟨w.heap.size, 8, none⟩ = some (.slice rn iY.length cn) := (Later.cell e hz).trans q8
      have hze : w.heap.size < e.w.heap.size := by omega
      have hbe : Below w.heap.size w e.w := hbW.trans (e.h.mono (by omega))
      by_cases hlt : k < mY.length
      ·
       have hk1 : (0 : Int) ≤ (k : Int) := by omega
       have hk2 : (k : Int) < mY.length := by omega
       obtain ⟨bX, off, rfl, hb, hc⟩ := HS4.out.at_ hlt
       have hc0 : e.w.cell? ⟨bX, off + k * 3, none⟩ = some (.slice (mY.getD k default).rx (mY.getD k default).X.length (mY.getD k default).cx) := (e.h.cell (p := ⟨bX, off + k * 3, none⟩) hb).trans (hc 0 _ rfl)
       have hc1 : e.w.cell? ⟨bX, off + k * 3 + 1, none⟩ = some (.slice (mY.getD k default).ry (mY.getD k default).Y.length (mY.getD k default).cy) := (e.h.cell (p := ⟨bX, off + k * 3 + 1, none⟩) hb).trans (hc 1 _ rfl)
       have hc2 : e.w.cell? ⟨bX, off + k * 3 + 2, none⟩ = some (.slice (mY.getD k default).rz (mY.getD k default).Z.length (mY.getD k default).cz) := (e.h.cell (p := ⟨bX, off + k * 3 + 2, none⟩) hb).trans (hc 2 _ rfl)
       clear hc
       have HGj : Hid (mpB (mY.getD k default) = true → ∀ i, i < k + 1 → mpB (mY.getD i default) = true) := H! (fun h i hi => by
        by_cases e : i = k
        ·
         subst e; exact h
        ·
         exact HG.out i (by omega))
       have HFj := H! (fun h => FM.out k hlt h)
       obtain ⟨hoX, hoY, hoZ⟩ := HG4.out _ (yak hlt)
       have HV : Hid (∀ W, Below e.w.heap.size e.w W → Calls Tryz.prog 31 #[.agg #[.slice (mY.getD k default).rx (mY.getD k default).X.length (mY.getD k default).cx, .slice (mY.getD k default).ry (mY.getD k default).Y.length (mY.getD k default).cy, .slice (mY.getD k default).rz (mY.getD k default).Z.length (mY.getD k default).cz]] W fun e w' => e = .returned (.bool (mpB (mY.getD k default))) ∧ Below W.heap.size W w') := H! (fun W h => yjs _ _ _ _ _ _ _ _ _ W ((hoX.later hbe).later h) ((hoY.later hbe).later h) ((hoZ.later hbe).later h))
       clear hoX hoY hoZ
       generalize mpB (mY.getD k default) = v at *
       clear HG
       generalize mY.getD k default = x at *
       obtain ⟨r0, c0, X0, r1, c1, X1, r2, c2, X2⟩ := x
       simp only at hc0 hc1 hc2 HV
       cases v
       ·
        obtain rfl := HFj.out rfl
        clear HGj HFj
        go_wp2_with (first | (go_at_call 31; refine (HV.out _ (Below.refl _ _)).mono ?_; rintro _ w2 ⟨rfl, hb2⟩))
        go_ret
        exact ⟨rfl, hbe.trans (hb2.mono (by omega))⟩
       ·
        have HG2 := H! (HGj.out rfl)
        clear HGj HFj
        go_wp2_with (first | (go_at_call 31; refine (HV.out _ (Below.refl _ _)).mono ?_; rintro _ w2 ⟨rfl, hb2⟩))
        obtain ⟨e2, rfl⟩ := e.next hb2
        go_roundg (mY.length - (k + 1))
        case measure => omega
        case rel => exact ⟨k + 1, e2, by go_num, by omega, by omega, rfl, HG2⟩
      ·
       obtain rfl : k = mY.length := by omega
       have HGM := H! HG.out
       clear HG FM HG4
       go_wp2
       go_loopg [6] xY.length (fun kx s6 wr => ∃ (k : Nat) (e : Later W1), s6 = .int .i64 k ∧ k ≤ xY.length ∧ xY.length - k ≤ kx ∧ wr = e.w ∧ Hid (∀ i, i < k → fitB cells zY.length mY.length tY (xY.getD i default) = true))
       case atStart => exact ⟨0, e, rfl, by omega, by omega, rfl, H! (fun i h => absurd h (by omega))⟩
       case round =>
        obtain ⟨k, e, rfl, hk, hkx, rfl, HG⟩ := hrel
        have hes := e.h.size
        have u0 : e.w.cell? ⟨w.heap.size, 0, none⟩ = some (.slice rc xY.length cc) := (Later.cell e hz).trans q0
        have u1 : e.w.cell? ⟨w.heap.size, 1, none⟩ = some (.slice rt tY.length ct) := (Later.cell e hz).trans q1
        have u2 : e.w.cell? ⟨w.heap.size, 2, none⟩ = some (.slice rv zY.length cv) := (Later.cell e hz).trans q2
        have u3 : e.w.cell? ⟨w.heap.size, 3, none⟩ = some (.slice rm mY.length cm) := (Later.cell e hz).trans q3
        have u4 : e.w.cell? ⟨w.heap.size, 4, none⟩ = some (.int .i64 cells) := (Later.cell e hz).trans q4
        have u5 : e.w.cell? ⟨w.heap.size, 5, none⟩ = some (.slice ri qY.length ci) := (Later.cell e hz).trans q5
        have u6 : e.w.cell? ⟨w.heap.size, 6, none⟩ = some (.slice rs sY.length cs) := (Later.cell e hz).trans q6
        have u7 : e.w.cell? ⟨w.heap.size, 7, none⟩ = some (.slice ro oY.length co) := (Later.cell e hz).trans q7
        have u8 : e.w.cell? ⟨w.heap.size, 8, none⟩ = some (.slice rn iY.length cn) := (Later.cell e hz).trans q8
        have hze : w.heap.size < e.w.heap.size := by omega
        have hbe : Below w.heap.size w e.w := hbW.trans (e.h.mono (by omega))
        by_cases hlt : k < xY.length
        ·
         have hk1 : (0 : Int) ≤ (k : Int) := by omega
         have hk2 : (k : Int) < xY.length := by omega
         have HGj : Hid (fitB cells zY.length mY.length tY (xY.getD k default) = true → ∀ i, i < k + 1 → fitB cells zY.length mY.length tY (xY.getD i default) = true) := H! (fun h i hi => by
          by_cases e : i = k
          ·
           subst e; exact h
          ·
           exact HG.out i (by omega))
         have HFj := H! (fun h => FI.out k hlt h)
         have hki : I64 (xY.getD k default).k := (HG1.out _ (yak hlt)).2.2.2.2
         have HFM : Hid (∀ W, Calls Tryz.prog 32 #[.agg #[.int .i64 (xY.getD k default).op, .int .i64 (xY.getD k default).a, .int .i64 (xY.getD k default).b, .int .i64 (xY.getD k default).c, .int .i64 (xY.getD k default).k]] W fun e w' => e = .returned (.bool (formI (xY.getD k default))) ∧ Below W.heap.size W w') := H! (fun W => ymp _ _ _ _ _ hki W)
         have HNM : Hid (formI (xY.getD k default) = true → ∀ W, Below e.w.heap.size e.w W → Calls Tryz.prog 33 #[.agg #[.slice rc xY.length cc, .slice rt tY.length ct, .slice rv zY.length cv, .slice rm mY.length cm, .int .i64 cells, .slice ri qY.length ci, .slice rs sY.length cs, .slice ro oY.length co, .slice rn iY.length cn], .agg #[.int .i64 (xY.getD k default).op, .int .i64 (xY.getD k default).a, .int .i64 (xY.getD k default).b, .int .i64 (xY.getD k default).c, .int .i64 (xY.getD k default).k]] W fun e w' => e = .returned (.bool (ybz cells zY.length mY.length tY (xY.getD k default))) ∧ Below W.heap.size W w') := H! (fun h W hW => ylg rc xY.length cc rt ct tY rv zY.length cv rm mY.length cm cells ri qY.length ci rs sY.length cs ro oY.length co rn iY.length cn _ _ _ _ _ hki h W ((HS2.out.later hbe).later hW))
         have HFE : Hid (fitB cells zY.length mY.length tY (xY.getD k default) = (formI (xY.getD k default) && ybz cells zY.length mY.length tY (xY.getD k default))) := H! rfl
         obtain ⟨bX, off, rfl, hb, hc⟩ := HS1.out.at_ hlt
         have hc0 : e.w.cell? ⟨bX, off + k * 5, none⟩ = some (.int .i64 (xY.getD k default).op) := (e.h.cell (p := ⟨bX, off + k * 5, none⟩) hb).trans (hc 0 _ rfl)
         have hc1 : e.w.cell? ⟨bX, off + k * 5 + 1, none⟩ = some (.int .i64 (xY.getD k default).a) := (e.h.cell (p := ⟨bX, off + k * 5 + 1, none⟩) hb).trans (hc 1 _ rfl)
         have hc2 : e.w.cell? ⟨bX, off + k * 5 + 2, none⟩ = some (.int .i64 (xY.getD k default).b) := (e.h.cell (p := ⟨bX, off + k * 5 + 2, none⟩) hb).trans (hc 2 _ rfl)
         have hc3 : e.w.cell? ⟨bX, off + k * 5 + 3, none⟩ = some (.int .i64 (xY.getD k default).c) := (e.h.cell (p := ⟨bX, off + k * 5 + 3, none⟩) hb).trans (hc 3 _ rfl)
         have hc4 : e.w.cell? ⟨bX, off + k * 5 + 4, none⟩ = some (.int .i64 (xY.getD k default).k) := (e.h.cell (p := ⟨bX, off + k * 5 + 4, none⟩) hb).trans (hc 4 _ rfl)
         clear hc
         have hbx : bX < e.w.heap.size := by omega
         clear hki
         generalize fitB cells zY.length mY.length tY (xY.getD k default) = v at *
         generalize formI (xY.getD k default) = fv at *
         generalize ybz cells zY.length mY.length tY (xY.getD k default) = nv at *
         clear HG
         generalize xY.getD k default = x at *
         obtain ⟨x0, x1, x2, x3, x4⟩ := x
         simp only at hc0 hc1 hc2 hc3 hc4 HFM HNM
         cases fv
         ·
          obtain rfl : v = false := HFE.out
          obtain rfl := HFj.out rfl
          clear HGj HFj HNM HFE
          go_wp2
          (refine yaw (by kernel_rfl) (by kernel_rfl) ?_; (repeat (go_big_quiet_step ((go_at_call 32; exact ydq (HFM.out _))))); refine wpQuiet_nil ?_; rintro _ ⟨e1, rfl⟩; have e1s := e1.h.size; (try simp only [zA, World.size_drewN, World.drewN_heap] at e1s); (try (have : w.heap.size < e1.w.heap.size := by omega)); (try (have : w.heap.size + 1 < e1.w.heap.size := by omega)); (try (have : w.heap.size + 1 + 1 < e1.w.heap.size := by omega)); (try (have : w.heap.size + 1 + 1 + 1 < e1.w.heap.size := by omega)); (try (have : bX < e1.w.heap.size := by omega)); (try (have : bY < e1.w.heap.size := by omega)); (try (have : bZ < e1.w.heap.size := by omega)))
          go_wp2
          go_ret
          exact ⟨rfl, hbe.trans (e1.h.mono (by omega))⟩
         have HN2 := H! (HNM.out rfl)
         obtain rfl : v = nv := HFE.out
         clear HFE HNM
         cases v
         ·
          obtain rfl := HFj.out rfl
          clear HGj HFj
          go_wp2
          (refine yaw (by kernel_rfl) (by kernel_rfl) ?_; (repeat (go_big_quiet_step (first | (go_at_call 32; exact ydq (HFM.out _)) | (go_at_call 33; exact ydq (HN2.out _ (Later.h _)))))); refine wpQuiet_nil ?_; rintro _ ⟨e1, rfl⟩; have e1s := e1.h.size; (try simp only [zA, World.size_drewN, World.drewN_heap] at e1s); (try (have : w.heap.size < e1.w.heap.size := by omega)); (try (have : w.heap.size + 1 < e1.w.heap.size := by omega)); (try (have : w.heap.size + 1 + 1 < e1.w.heap.size := by omega)); (try (have : w.heap.size + 1 + 1 + 1 < e1.w.heap.size := by omega)); (try (have : bX < e1.w.heap.size := by omega)); (try (have : bY < e1.w.heap.size := by omega)); (try (have : bZ < e1.w.heap.size := by omega)))
          go_wp2
          go_ret
          exact ⟨rfl, hbe.trans (e1.h.mono (by omega))⟩
         ·
          have HG2 := H! (HGj.out rfl)
          clear HGj HFj
          go_wp2
          (refine yaw (by kernel_rfl) (by kernel_rfl) ?_; (repeat (go_big_quiet_step (first | (go_at_call 32; exact ydq (HFM.out _)) | (go_at_call 33; exact ydq (HN2.out _ (Later.h _)))))); refine wpQuiet_nil ?_; rintro _ ⟨e1, rfl⟩; have e1s := e1.h.size; (try simp only [zA, World.size_drewN, World.drewN_heap] at e1s); (try (have : w.heap.size < e1.w.heap.size := by omega)); (try (have : w.heap.size + 1 < e1.w.heap.size := by omega)); (try (have : w.heap.size + 1 + 1 < e1.w.heap.size := by omega)); (try (have : w.heap.size + 1 + 1 + 1 < e1.w.heap.size := by omega)); (try (have : bX < e1.w.heap.size := by omega)); (try (have : bY < e1.w.heap.size := by omega)); (try (have : bZ < e1.w.heap.size := by omega)))
          go_wp2
          go_roundg (xY.length - (k + 1))
          case measure => omega
          case rel => exact ⟨k + 1, ⟨e1.w, e.h.trans (e1.h.mono hes)⟩, by go_num, by omega, by omega, rfl, HG2⟩
        ·
         obtain rfl : k = xY.length := by omega
         have HGI := H! HG.out
         clear HG FI HS1 HS2
         have HL0 : Hid (∀ W, Below e.w.heap.size e.w W → Calls Tryz.prog 34 #[.agg #[.slice rc xY.length cc, .slice rt tY.length ct, .slice rv zY.length cv, .slice rm mY.length cm, .int .i64 cells, .slice ri qY.length ci, .slice rs sY.length cs, .slice ro oY.length co, .slice rn iY.length cn], .slice ri qY.length ci] W fun e w' => e = .returned (.bool (inL cells qY)) ∧ Below W.heap.size W w') := H! (fun W h => yfq ⟨rc, cc, xY, rt, ct, tY, rv, cv, zY, rm, cm, mY, cells, ri, ci, qY, rs, cs, sY, ro, co, oY, rn, cn, iY⟩ ri ci qY W ((HIN.out.later hbe).later h))
         have HL1 : Hid (∀ W, Below e.w.heap.size e.w W → Calls Tryz.prog 34 #[.agg #[.slice rc xY.length cc, .slice rt tY.length ct, .slice rv zY.length cv, .slice rm mY.length cm, .int .i64 cells, .slice ri qY.length ci, .slice rs sY.length cs, .slice ro oY.length co, .slice rn iY.length cn], .slice ro oY.length co] W fun e w' => e = .returned (.bool (inL cells oY)) ∧ Below W.heap.size W w') := H! (fun W h => yfq ⟨rc, cc, xY, rt, ct, tY, rv, cv, zY, rm, cm, mY, cells, ri, ci, qY, rs, cs, sY, ro, co, oY, rn, cn, iY⟩ ro co oY W ((HOUT.out.later hbe).later h))
         have HL2 : Hid (∀ W, Below e.w.heap.size e.w W → Calls Tryz.prog 34 #[.agg #[.slice rc xY.length cc, .slice rt tY.length ct, .slice rv zY.length cv, .slice rm mY.length cm, .int .i64 cells, .slice ri qY.length ci, .slice rs sY.length cs, .slice ro oY.length co, .slice rn iY.length cn], .slice rs sY.length cs] W fun e w' => e = .returned (.bool (inL cells sY)) ∧ Below W.heap.size W w') := H! (fun W h => yfq ⟨rc, cc, xY, rt, ct, tY, rv, cv, zY, rm, cm, mY, cells, ri, ci, qY, rs, cs, sY, ro, co, oY, rn, cn, iY⟩ rs cs sY W ((HST.out.later hbe).later h))
         have tk0 : True := trivial
         have tk1 : True := trivial
         have tk2 : True := trivial
         cases hb0 : inL cells qY
         ·
          obtain rfl := FL1.out hb0
          rw [hb0] at HL0
          clear FL1 FL2 FL3 FALL FLN FND FNI
          go_wp2_with (first | (have _t := tk0; go_at_call 34; refine (HL0.out _ bw).mono ?_; rintro _ wc0 ⟨rfl, hc0⟩; obtain ⟨hc0c, hc0f⟩ := yah hc0; have hc0s := hc0.size; have hcz0 : w.heap.size < wc0.heap.size := (by omega); clear tk0 _t))
          go_ret
          exact ⟨rfl, bw⟩
         rw [hb0] at HL0
         have HB0 := H! hb0
         cases hb1 : inL cells oY
         ·
          obtain rfl := FL2.out hb1
          rw [hb1] at HL1
          clear FL1 FL2 FL3 FALL FLN FND FNI
          go_wp2_with (first | (have _t := tk0; go_at_call 34; refine (HL0.out _ bw).mono ?_; rintro _ wc0 ⟨rfl, hc0⟩; obtain ⟨hc0c, hc0f⟩ := yah hc0; have hc0s := hc0.size; have hcz0 : w.heap.size < wc0.heap.size := (by omega); clear tk0 _t) | (have _t := tk1; go_at_call 34; refine (HL1.out _ bw).mono ?_; rintro _ wc1 ⟨rfl, hc1⟩; obtain ⟨hc1c, hc1f⟩ := yah hc1; have hc1s := hc1.size; have hcz1 : w.heap.size < wc1.heap.size := (by omega); clear tk1 _t))
          go_ret
          exact ⟨rfl, bw⟩
         rw [hb1] at HL1
         have HB1 := H! hb1
         cases hb2 : inL cells sY
         ·
          obtain rfl := FL3.out hb2
          rw [hb2] at HL2
          clear FL1 FL2 FL3 FALL FLN FND FNI
          go_wp2_with (first | (have _t := tk0; go_at_call 34; refine (HL0.out _ bw).mono ?_; rintro _ wc0 ⟨rfl, hc0⟩; obtain ⟨hc0c, hc0f⟩ := yah hc0; have hc0s := hc0.size; have hcz0 : w.heap.size < wc0.heap.size := (by omega); clear tk0 _t) | (have _t := tk1; go_at_call 34; refine (HL1.out _ bw).mono ?_; rintro _ wc1 ⟨rfl, hc1⟩; obtain ⟨hc1c, hc1f⟩ := yah hc1; have hc1s := hc1.size; have hcz1 : w.heap.size < wc1.heap.size := (by omega); clear tk1 _t) | (have _t := tk2; go_at_call 34; refine (HL2.out _ bw).mono ?_; rintro _ wc2 ⟨rfl, hc2⟩; obtain ⟨hc2c, hc2f⟩ := yah hc2; have hc2s := hc2.size; have hcz2 : w.heap.size < wc2.heap.size := (by omega); clear tk2 _t))
          go_ret
          exact ⟨rfl, bw⟩
         rw [hb2] at HL2
         have HB2 := H! hb2
         clear hb0 hb1 hb2
         by_cases hln : iY.length = sY.length
         rotate_left
         ·
          obtain rfl := FLN.out hln
          have hln2 : ¬ (iY.length : Int) = (sY.length : Int) := by omega
          clear FL1 FL2 FL3 FALL FLN FND FNI
          go_wp2_with (first | (have _t := tk0; go_at_call 34; refine (HL0.out _ bw).mono ?_; rintro _ wc0 ⟨rfl, hc0⟩; obtain ⟨hc0c, hc0f⟩ := yah hc0; have hc0s := hc0.size; have hcz0 : w.heap.size < wc0.heap.size := (by omega); clear tk0 _t) | (have _t := tk1; go_at_call 34; refine (HL1.out _ bw).mono ?_; rintro _ wc1 ⟨rfl, hc1⟩; obtain ⟨hc1c, hc1f⟩ := yah hc1; have hc1s := hc1.size; have hcz1 : w.heap.size < wc1.heap.size := (by omega); clear tk1 _t) | (have _t := tk2; go_at_call 34; refine (HL2.out _ bw).mono ?_; rintro _ wc2 ⟨rfl, hc2⟩; obtain ⟨hc2c, hc2f⟩ := yah hc2; have hc2s := hc2.size; have hcz2 : w.heap.size < wc2.heap.size := (by omega); clear tk2 _t))
          go_ret
          exact ⟨rfl, bw⟩
         have HLN := H! hln
         have hln2 : ((iY.length : Int) != (sY.length : Int)) = false := by rw [hln]; simp
         clear hln
         clear FL1 FL2 FL3 FLN
         obtain ⟨m, rfl⟩ : ∃ m : Nat, cells = m := ⟨cells.toNat, by omega⟩
         obtain ⟨i0, hi, hz0, hz1, hz2⟩ := info_parts yig
         have hle : qY.length + sY.length ≤ 100000 := by
          have h1 := (yfx HB0.out).1
          have h2 := (yfx HB2.out).1
          omega
         go_wp2_with (first | (have _t := tk0; go_at_call 34; refine (HL0.out _ bw).mono ?_; rintro _ wc0 ⟨rfl, hc0⟩; obtain ⟨hc0c, hc0f⟩ := yah hc0; have hc0s := hc0.size; have hcz0 : w.heap.size < wc0.heap.size := (by omega); clear tk0 _t) | (have _t := tk1; go_at_call 34; refine (HL1.out _ bw).mono ?_; rintro _ wc1 ⟨rfl, hc1⟩; obtain ⟨hc1c, hc1f⟩ := yah hc1; have hc1s := hc1.size; have hcz1 : w.heap.size < wc1.heap.size := (by omega); clear tk1 _t) | (have _t := tk2; go_at_call 34; refine (HL2.out _ bw).mono ?_; rintro _ wc2 ⟨rfl, hc2⟩; obtain ⟨hc2c, hc2f⟩ := yah hc2; have hc2s := hc2.size; have hcz2 : w.heap.size < wc2.heap.size := (by omega); clear tk2 _t) | (at_make; refine wpList_make_full _ (by rfl) _ _ _ (by rfl) wc2.heap.size 4 i0 (.bool false) 1 Tryz.underlying77 hi hz0 hz1 .i64 .i64 _ _ m (by rfl) (by rfl) (by rfl) (by rfl) (by rw [hz2]; omega) (by unfold maxLen; omega) (Nat.le_refl _) ?_; intro w4 hown hgrow; have hb4 : Below wc2.heap.size wc2 w4 := (Below.refl _ _).grown hgrow (Nat.le_refl _) (fun k hk => by cases hk); obtain ⟨cur, hrow, hsz, hcur⟩ := made_b hown; clear hown hgrow; have z4 : wc2.heap.size < w4.heap.size := yjf hrow))
         clear hln2
         have hbc : Below w.heap.size w wc2 := bw
         have hbw4 : Below w.heap.size w w4 := hbc.trans (hb4.mono (by omega))
         have z5 : w.heap.size < w4.heap.size := by omega
         have hbec : Below e.w.heap.size e.w w4 := ((hc0.trans (hc1.mono (by omega))).trans (hc2.mono (by omega))).trans (hb4.mono (by omega))
         have r5 : w4.cell? ⟨w.heap.size, 5, none⟩ = some (.slice ri qY.length ci) := (hbec.cell (p := ⟨w.heap.size, 5, none⟩) hze).trans u5
         have r6 : w4.cell? ⟨w.heap.size, 6, none⟩ = some (.slice rs sY.length cs) := (hbec.cell (p := ⟨w.heap.size, 6, none⟩) hze).trans u6
         have r8 : w4.cell? ⟨w.heap.size, 8, none⟩ = some (.slice rn iY.length cn) := (hbec.cell (p := ⟨w.heap.size, 8, none⟩) hze).trans u8
         have OW0 : Hid (OwnK .i64 3 (w4.drew.alloc (.cells #[] 3)) w4.heap.size (some ⟨w4.heap.size, 0, none⟩) 0 []) := H! (ygx .i64 3 w4.drew w4.heap.size [] (Nat.le_refl _) (by simp [maxLen]))
         have hIa : Hid (∀ W, Below w4.heap.size w4 W → IsInts W ri ci .i64 qY) := H! (fun W h => (HIN.out.later hbw4).later h)
         have hIb : Hid (∀ W, Below w4.heap.size w4 W → IsInts W rs cs .i64 sY) := H! (fun W h => (HST.out.later hbw4).later h)
         have hB40 : Below w4.heap.size w4 (w4.drew.alloc (.cells #[] 3)) := (Below.refl _ _).drew.alloc (Nat.le_refl _) _
         have HS5 : ∀ V, Below w4.heap.size w4 V → V.cell? ⟨w.heap.size, 5, none⟩ = some (.slice ri qY.length ci) ∧ V.cell? ⟨w.heap.size, 6, none⟩ = some (.slice rs sY.length cs) := fun V hV => ⟨(hV.cell (p := ⟨w.heap.size, 5, none⟩) z5).trans r5, (hV.cell (p := ⟨w.heap.size, 6, none⟩) z5).trans r6⟩
         have ta : True := trivial
         go_region_held3 (fun v => v.cell? ⟨w.heap.size, 5, none⟩ = some (.slice ri qY.length ci) ∧ v.cell? ⟨w.heap.size, 6, none⟩ = some (.slice rs sY.length cs)) (first | exact HS5 _ (Below.refl _ _).drew | exact HS5 _ hB40 | exact HS5 _ (by assumption)) (first | ((have _t := ta); (refine yed ?_); (refine yag Tryz.underlying26 yci rfl (by omega) (by rfl) _ _ (by rfl) w4.heap.size (some ⟨w4.heap.size, 0, none⟩) ri 0 ci [] qY (by rfl) (by rfl) OW0.out (hIa.out _ hB40) (by simp only [List.length_nil]; omega) (by simp only [zA, World.size_drew]; omega) ?_); (intro ra ca w5 howna hbwa); (have HOA := H! (ownI_set howna (List.nil_append _))); (clear howna ta _t); (have hB5 : Below w4.heap.size w4 w5 := hB40.trans hbwa); (refine ⟨rfl, ?_⟩)) | ((refine yed ?_); (refine yag Tryz.underlying26 yci rfl (by omega) (by rfl) _ _ (by rfl) w4.heap.size ra rs ca cs qY sY (by rfl) (by rfl) HOA.out (hIb.out _ hB5) (by omega) (by have := hB5.size; omega) ?_); (intro rb cb w6 hownb hbwb); (have HOB := H! hownb); (clear hownb); (have hB6 : Below w4.heap.size w4 w6 := hB5.trans hbwb); (refine ⟨rfl, ?_⟩)))
         obtain ⟨all, hal⟩ : ∃ all, all = qY ++ sY := ⟨_, rfl⟩
         have HAL := H! hal
         rw [← hal] at HOB FND FALL
         have hlm : all.length ≤ 100000 := by rw [hal, List.length_append]; exact hle
         have HM : Hid (∀ c ∈ all, 0 ≤ c ∧ c < (m : Int)) := H! (fun c hc => (List.mem_append.1 (hal ▸ hc)).elim ((yfx HB0.out).2 c) ((yfx HB2.out).2 c))
         (try simp only [List.length_append, List.length_nil, Nat.zero_add])
         rw [show qY.length + sY.length = all.length from by rw [hal, List.length_append]]
         clear hal
         have hall : IsInts w6 rb cb .i64 all := HOB.out.ints (fun x hx => by
          have := HM.out x hx
          have : I64 x := by unfold I64; simp [Lit.wf, IntKind.min, IntKind.max, IntKind.bits, IntKind.signed]; omega
          exact this)
         have HALL := H! hall
         clear hall
         have hB6s := hB6.size
         have hrow6 : w6.heap[wc2.heap.size]? = some (.cells cur 4) := (hB6.block _ z4).trans hrow
         have r8b : w6.cell? ⟨w.heap.size, 8, none⟩ = some (.slice rn iY.length cn) := (hB6.cell (p := ⟨w.heap.size, 8, none⟩) z5).trans r8
         have hbz : Below w.heap.size w w6 := hbw4.trans (hB6.mono (by omega))
         have z6 : wc2.heap.size < w6.heap.size := by omega
         have zz : w.heap.size < wc2.heap.size := by omega
         clear r5 r6 r8 HS5 OW0 HOB HOA hIa hIb
         generalize hgt : wc2.heap.size = gT at *
         go_wp2
         go_loopg [9] all.length (fun kx s9 wr => ∃ (k : Nat) (arr : Array Value), s9 = .int .i64 k ∧ k ≤ all.length ∧ all.length - k ≤ kx ∧ KeepB w6.heap.size gT w6 wr ∧ Hid (wr.heap[gT]? = some (.cells arr 4)) ∧ arr.size = m ∧ Hid (∀ t : Nat, t < m → arr[t]? = some (.bool (decide ((t : Int) ∈ all.take k)))) ∧ Hid (∀ j, j < k → all.getD j 0 ∉ all.take j))
         case atStart => exact ⟨0, cur, rfl, by omega, by omega, KeepB.refl _ _ _, H! hrow6, hsz, H! (fun t ht => by rw [hcur t ht]; simp), H! (fun j hj => absurd hj (by omega))⟩
         case round =>
          obtain ⟨k, arr, rfl, hk, hkx, hK, HR2, hasz, HA, HN⟩ := hrel
          have hbr : Below w.heap.size w wr := hbz.trans (hK.below (by omega) (by omega))
          by_cases hlt : k < all.length
          ·
           obtain ⟨b5, o5, rfl, hb5b, hcells⟩ := HALL.out.cells (by intro h; rw [h] at hlt; simp at hlt)
           have hc5 := hcells k hlt
           have hmem : all.getD k 0 ∈ all := by rw [List.getD_eq_getElem?_getD, List.getElem?_eq_getElem hlt]; exact List.getElem_mem hlt
           obtain ⟨c0, c1⟩ := HM.out _ hmem
           obtain ⟨t, ht⟩ : ∃ t : Nat, all.getD k 0 = t := ⟨(all.getD k 0).toNat, by omega⟩
           have hne : b5 ≠ gT := fun h => by
            subst h
            rw [cell_of_row w6 b5 (o5 + k) cur _ _ hrow6] at hc5
            have hlt2 : o5 + k < m := by
             rcases Nat.lt_or_ge (o5 + k) m with hh | hh
             ·
              exact hh
             ·
              rw [Array.getElem?_eq_none (by omega)] at hc5; cases hc5
            rw [hcur _ hlt2] at hc5
            cases hc5
           have hcw : wr.cell? ⟨b5, o5 + k, none⟩ = some (.int .i64 t) := by rw [hK.cell hb5b hne, hc5, ht]
           have HT2 := H! ht
           rw [ht] at c0 c1
           have htm : t < m := by omega
           have hct : wr.cell? ⟨gT, t, none⟩ = some (.bool (decide ((t : Int) ∈ all.take k))) := by rw [cell_of_row wr gT t arr _ _ HR2.out, HA.out t htm]
           have hft : wr.frozen? ⟨gT, t, none⟩ = false := by simp [World.frozen?, HR2.out]
           have hk1 : (0 : Int) ≤ (k : Int) := by omega
           have hk2 : (k : Int) < all.length := by omega
           clear ht hc5 hcells hmem
           cases hd : decide ((t : Int) ∈ all.take k)
           ·
            rw [hd] at hct
            have HD := H! hd
            clear hd
            go_wp2
            go_roundg (all.length - (k + 1))
            case measure => omega
            case rel =>
             refine ⟨k + 1, arr.setIfInBounds t (.bool true), by go_num, by omega, by omega, hK.trans (KeepB.setC _ _ _), H! (yhn HR2.out _), by simpa using hasz, H! (fun u hu => ?_), H! (fun j hj => ?_)⟩
             ·
              have hadd : all.take (k + 1) = all.take k ++ [(t : Int)] := by
               have hh := HT2.out
               rw [List.getD_eq_getElem?_getD, List.getElem?_eq_getElem hlt] at hh
               rw [List.take_add_one, List.getElem?_eq_getElem hlt, ← hh]; rfl
              rw [Array.getElem?_setIfInBounds, hadd]
              by_cases he : t = u
              ·
               subst he
               simp [hasz, htm]
              ·
               rw [if_neg he, HA.out u hu]
               have : ¬ (u : Int) = t := by omega
               simp [this]
             ·
              by_cases hjk : j = k
              ·
               subst hjk
               rw [HT2.out]
               exact of_decide_eq_false HD.out
              ·
               exact HN.out j (by omega)
           ·
            rw [hd] at hct
            obtain rfl := FND.out (yjd hlt (by rw [HT2.out]; exact of_decide_eq_true hd))
            clear hd FALL FNI
            go_wp2
            go_ret
            exact ⟨rfl, hbr⟩
          ·
           obtain rfl : k = all.length := by omega
           have HND : Hid all.Nodup := H! (yhu (fun j hj => HN.out j hj))
           have hcr : wr.cell? ⟨w.heap.size, 8, none⟩ = some (.slice rn iY.length cn) := by rw [hK.cell (by omega) (by omega)]; exact r8b
           have hwr : w.heap.size < wr.heap.size := by have := hK.1.size; omega
           clear FND HN HA HR2 HALL
           go_wp2
           obtain ⟨v9, hv9⟩ : ∃ v, v = wr := ⟨_, rfl⟩
           subst hv9
           go_loopg [10] iY.length (fun kx s10 wr => ∃ (k : Nat), s10 = .int .i64 k ∧ k ≤ iY.length ∧ iY.length - k ≤ kx ∧ wr = v9 ∧ Hid (∀ i, i < k → badN (iY.getD i 0) = false))
           case atStart => exact ⟨0, rfl, by omega, by omega, rfl, H! (fun i h => absurd h (by omega))⟩
           case round =>
            obtain ⟨k, rfl, hk, hkx, hv, HG⟩ := hrel
            subst hv
            by_cases hlt : k < iY.length
            ·
             have hk1 : (0 : Int) ≤ (k : Int) := by omega
             have hk2 : (k : Int) < iY.length := by omega
             obtain ⟨bX, off, rfl, hb, hc⟩ := HINI.out.cells (fun e => by rw [e] at hlt; simp at hlt)
             have hcx : wr.cell? ⟨bX, off + k, none⟩ = some (.int .i64 (iY.getD k 0)) := (hbr.cell (p := ⟨bX, off + k, none⟩) hb).trans (hc k hlt)
             have HFj := H! (fun h => FNI.out k hlt h)
             have HGj : Hid (badN (iY.getD k 0) = false → ∀ i, i < k + 1 → badN (iY.getD i 0) = false) := H! (fun h i hi => by
              by_cases e : i = k
              ·
               subst e; exact h
              ·
               exact HG.out i (by omega))
             clear hc HG
             generalize iY.getD k 0 = x at *
             by_cases n0 : x < -1099511627776
             ·
              obtain rfl := HFj.out (by unfold badN; simp; omega)
              clear HGj HFj FALL FNI
              go_wp2
              go_ret
              exact ⟨rfl, hbr⟩
             ·
              by_cases n1 : 1099511627776 < x
              ·
               obtain rfl := HFj.out (by unfold badN; simp; omega)
               clear HGj HFj FALL FNI
               go_wp2
               go_ret
               exact ⟨rfl, hbr⟩
              ·
               have HG2 := H! (HGj.out (by unfold badN; simp; omega))
               clear HGj HFj
               go_wp2
               go_roundg (iY.length - (k + 1))
               case measure => omega
               case rel => exact ⟨k + 1, by go_num, by omega, by omega, rfl, HG2⟩
            ·
             obtain rfl : k = iY.length := by omega
             obtain rfl := FALL.out HLN.out HGT.out HGC.out HGM.out HGI.out HB0.out HB1.out HB2.out HND.out HG.out
             clear FALL FNI
             go_wp2
             go_ret
             exact ⟨rfl, hbr⟩
theorem ybl (p : PV) (w : World) (hp : IsP w p) : Calls Tryz.prog 10 #[p.val] w fun e w' => e = .returned (.bool (yas p)) ∧ Below w.heap.size w w' := by
 have m0 := Nat.le_trans hp.xY.le hp.xY.max
 have m1 := Nat.le_trans hp.tY.le hp.tY.max
 have m2 := Nat.le_trans hp.zY.le hp.zY.max
 have m3 := Nat.le_trans hp.mY.le hp.mY.max
 unfold maxLen at m0 m1 m2 m3
 have fz : ¬ szP p → yas p = false := vb_Z
 have fT := fun j hj h => @vb_T p j hj h
 have fC := fun j hj h => @vb_C p j hj h
 have fM := fun j hj h => @vb_M p j hj h
 have fI := fun j hj h => @vb_I p j hj h
 have f1 := @vb_L1 p
 have f2 := @vb_L2 p
 have f3 := @vb_L3 p
 have fN := @vb_N p
 have fB := fun j hj h => @vb_B p j hj h
 have fO := fun hz hT hC hM hI h1 h2 h3 hn hB => @vb_ok p hz hT hC hM hI h1 h2 h3 hn hB
 obtain ⟨rc, cc, xY, rt, ct, tY, rv, cv, zY, rm, cm, mY, cells, ri, ci, qY, rs, cs, sY, ro, co, oY, rn, cn, iY⟩ := p
 simp only [szP] at fz fO
 simp only at m0 m1 m2 m3 fT fC fM fI f1 f2 f3 fN fB fO
 simp only [PV.val]
 have m : xY.length ≤ 9223372036854775807 ∧ tY.length ≤ 9223372036854775807 ∧ zY.length ≤ 9223372036854775807 ∧ mY.length ≤ 9223372036854775807 := ⟨by omega, by omega, by omega, by omega⟩
 by_cases h0 : xY.length ≤ 4000
 rotate_left
 ·
  rw [fz (fun hh => h0 hh.1)]
  exact r13_sz0 rc cc xY rt ct tY rv cv zY rm cm mY cells ri ci qY rs cs sY ro co oY rn cn iY  h0 m w
 by_cases h1 : tY.length ≤ 100
 rotate_left
 ·
  rw [fz (fun hh => h1 hh.2.1)]
  exact r13_sz1 rc cc xY rt ct tY rv cv zY rm cm mY cells ri ci qY rs cs sY ro co oY rn cn iY h0 h1 m w
 by_cases h2 : zY.length ≤ 100
 rotate_left
 ·
  rw [fz (fun hh => h2 hh.2.2.1)]
  exact r13_sz2 rc cc xY rt ct tY rv cv zY rm cm mY cells ri ci qY rs cs sY ro co oY rn cn iY h0 h1 h2 m w
 by_cases h3 : mY.length ≤ 100
 rotate_left
 ·
  rw [fz (fun hh => h3 hh.2.2.2.1)]
  exact r13_sz3 rc cc xY rt ct tY rv cv zY rm cm mY cells ri ci qY rs cs sY ro co oY rn cn iY h0 h1 h2 h3 m w
 by_cases h4 : 0 ≤ cells
 rotate_left
 ·
  rw [fz (fun hh => h4 hh.2.2.2.2.1)]
  exact r13_sz4 rc cc xY rt ct tY rv cv zY rm cm mY cells ri ci qY rs cs sY ro co oY rn cn iY h0 h1 h2 h3 h4 m w
 by_cases h5 : cells ≤ 1000
 rotate_left
 ·
  rw [fz (fun hh => h5 hh.2.2.2.2.2.1)]
  exact r13_sz5 rc cc xY rt ct tY rv cv zY rm cm mY cells ri ci qY rs cs sY ro co oY rn cn iY h0 h1 h2 h3 h4 h5 m w
 exact r13_main rc cc xY rt ct tY rv cv zY rm cm mY cells ri ci qY rs cs sY ro co oY rn cn iY w hp ⟨h0, h1, h2, h3, h4, h5⟩ _ (H! fT) (H! fC) (H! fM) (H! fI) (H! f1) (H! f2) (H! f3) (H! (fun h => fz (fun hh => h hh.2.2.2.2.2.2))) (H! fN) (H! fB)
  (H! (fun hl hT hC hM hI h1' h2' h3' hn hB => fO ⟨h0, h1, h2, h3, h4, h5, hl⟩ hT hC hM hI h1' h2' h3' hn hB))
end
theorem rsm_any (r q : Option Addr) (c d : Nat) (xs ys : List Int) (w : World) (hx : IsInts w r c .u8 xs) (hy : IsInts w q d .u8 ys) :
  Calls Tryz.prog 36 #[.slice r xs.length c, .slice q ys.length d] w fun e w' => e = .returned (.bool (decide (xs = ys))) ∧ Below w.heap.size w w' := by
 by_cases hl : xs.length = ys.length
 ·
  by_cases hne : xs = []
  ·
   subst hne
   obtain rfl : ys = [] := List.length_eq_zero_iff.1 hl.symm
   clear hx hy
   go_enter Tryz.func36, Tryz.ntmps36
   go_wp2
   go_rounds 1
   go_ret
   exact ⟨by simp, bw⟩
  ·
   have hney : ys ≠ [] := fun e => by subst e; exact hne (List.length_eq_zero_iff.1 hl)
   obtain ⟨bX, off, rfl, hb, hc⟩ := hx.cells hne
   obtain ⟨bY, ofy, rfl, hby, hcy⟩ := hy.cells hney
   have hmax := hx.max
   have hle := hx.le
   unfold maxLen at hmax
   have HC := H! hc
   have HCY := H! hcy
   have HT : Hid ((∀ t, t < xs.length → xs.getD t 0 = ys.getD t 0) → decide (xs = ys) = true) := H! (fun h => by simpa using yij hl h)
   have HF : Hid (∀ t, xs.getD t 0 ≠ ys.getD t 0 → decide (xs = ys) = false) := H! (fun t h => by
    simp only [decide_eq_false_iff_not]
    intro e
    subst e
    exact h rfl)
   clear hc hcy hx hy hne hney
   rw [← hl] at HCY ⊢
   generalize hn : xs.length = n at *
   have HN := H! hn
   clear hn hl
   generalize decide (xs = ys) = res at *
   go_enter Tryz.func36, Tryz.ntmps36
   go_wp2
   go_loopg [5] n (fun kx s5 wr => ∃ (k : Nat) (e : Later w), s5 = .int .i64 k ∧ k ≤ n ∧ n - k ≤ kx ∧ wr = e.w ∧ Hid (∀ t, t < k → xs.getD t 0 = ys.getD t 0))
   case atStart => exact ⟨0, ⟨_, Below.refl _ _⟩, rfl, by omega, by omega, rfl, H! (fun t ht => absurd ht (Nat.not_lt_zero _))⟩
   case round =>
    obtain ⟨k, e, rfl, hk, hkx, rfl, HQ⟩ := hrel
    have hes := e.h.size
    by_cases hlt : k < n
    ·
     have hc1 : e.w.cell? ⟨bX, off + k, none⟩ = some (.int .u8 (xs.getD k 0)) := by
      rw [e.h.cell (p := ⟨bX, off + k, none⟩) hb]
      exact HC.out k hlt
     have hc2 : e.w.cell? ⟨bY, ofy + k, none⟩ = some (.int .u8 (ys.getD k 0)) := by
      rw [e.h.cell (p := ⟨bY, ofy + k, none⟩) hby]
      exact HCY.out k hlt
     have hk1 : (0 : Int) ≤ (k : Int) := by omega
     have hk2 : (k : Int) < n := by omega
     have HG : Hid (xs.getD k 0 = ys.getD k 0 → ∀ t, t < k + 1 → xs.getD t 0 = ys.getD t 0) := H! (fun h t ht => by
      by_cases e : t = k
      ·
       subst e; exact h
      ·
       exact HQ.out t (by omega))
     have HB := H! (HF.out k)
     generalize xs.getD k 0 = x at hc1 HG HB
     generalize ys.getD k 0 = y at hc2 HG HB
     by_cases hxy : x = y
     ·
      have HG2 := H! (HG.out hxy)
      go_wp2
      go_quiet (fail)
      go_wp2
      go_roundg (n - (k + 1))
      case measure => omega
      case rel => exact ⟨k + 1, ⟨_, ybf e.h _⟩, by go_num, by omega, by omega, rfl, HG2⟩
     ·
      have H := H! (HB.out hxy)
      go_wp2
      go_quiet (fail)
      go_wp2
      go_ret
      exact ⟨by rw [H.out]; first | done | rfl, ybf e.h _⟩
    ·
     obtain rfl : k = n := by omega
     have H := H! (HT.out HQ.out)
     go_wp2
     go_ret
     exact ⟨by rw [H.out]; first | done | rfl, e.h⟩
 ·
  have H := H! (show decide (xs = ys) = false by simp only [decide_eq_false_iff_not]; intro e; subst e; exact hl rfl)
  have hl2 : ((xs.length : Int) == (ys.length : Int)) = false := by simp; omega
  have hl3 : ¬ (xs.length : Int) = (ys.length : Int) := by omega
  clear hx hy
  go_enter Tryz.func36, Tryz.ntmps36
  go_wp2
  go_ret
  exact ⟨by rw [H.out]; first | done | rfl, bw⟩
theorem IsInts.len {W : World} {r : Option Addr} {c : Nat} {k : IntKind} {xs : List Int} (h : IsInts W r c k xs) : xs.length ≤ 9223372036854775807 := by have := h.le; have := h.max; unfold maxLen at this; omega
theorem ygr {W v v' : World} {A B : Nat} {v0 v1 v2 v3 v4 v5 v6 v7 v8 v9 v10 v11 v12 v13 v14 v15 v16 v17 : Value} (hA : A < W.heap.size) (hB : B < W.heap.size) (h : Below W.heap.size W v ∧ v.cell? ⟨A, 0, none⟩ = some (v0) ∧ v.cell? ⟨A, 1, none⟩ = some (v1) ∧ v.cell? ⟨A, 2, none⟩ = some (v2) ∧ v.cell? ⟨A, 3, none⟩ = some (v3) ∧ v.cell? ⟨A, 4, none⟩ = some (v4) ∧ v.cell? ⟨A, 5, none⟩ = some (v5) ∧ v.cell? ⟨A, 6, none⟩ = some (v6) ∧ v.cell? ⟨A, 7, none⟩ = some (v7) ∧ v.cell? ⟨A, 8, none⟩ = some (v8) ∧ v.cell? ⟨B, 0, none⟩ = some (v9) ∧ v.cell? ⟨B, 1, none⟩ = some (v10) ∧ v.cell? ⟨B, 2, none⟩ = some (v11) ∧ v.cell? ⟨B, 3, none⟩ = some (v12) ∧ v.cell? ⟨B, 4, none⟩ = some (v13) ∧ v.cell? ⟨B, 5, none⟩ = some (v14) ∧ v.cell? ⟨B, 6, none⟩ = some (v15) ∧ v.cell? ⟨B, 7, none⟩ = some (v16) ∧ v.cell? ⟨B, 8, none⟩ = some (v17)) (hv : Below v.heap.size v v') : Below W.heap.size W v' ∧ v'.cell? ⟨A, 0, none⟩ = some (v0) ∧ v'.cell? ⟨A, 1, none⟩ = some (v1) ∧ v'.cell? ⟨A, 2, none⟩ = some (v2) ∧ v'.cell? ⟨A, 3, none⟩ = some (v3) ∧ v'.cell? ⟨A, 4, none⟩ = some (v4) ∧ v'.cell? ⟨A, 5, none⟩ = some (v5) ∧ v'.cell? ⟨A, 6, none⟩ = some (v6) ∧ v'.cell? ⟨A, 7, none⟩ = some (v7) ∧ v'.cell? ⟨A, 8, none⟩ = some (v8) ∧ v'.cell? ⟨B, 0, none⟩ = some (v9) ∧ v'.cell? ⟨B, 1, none⟩ = some (v10) ∧ v'.cell? ⟨B, 2, none⟩ = some (v11) ∧ v'.cell? ⟨B, 3, none⟩ = some (v12) ∧ v'.cell? ⟨B, 4, none⟩ = some (v13) ∧ v'.cell? ⟨B, 5, none⟩ = some (v14) ∧ v'.cell? ⟨B, 6, none⟩ = some (v15) ∧ v'.cell? ⟨B, 7, none⟩ = some (v16) ∧ v'.cell? ⟨B, 8, none⟩ = some (v17) := by
 obtain ⟨h0, h1, h2, h3, h4, h5, h6, h7, h8, h9, h10, h11, h12, h13, h14, h15, h16, h17, h18⟩ := h
 have hz := h0.size
 exact ⟨h0.trans (hv.mono hz), (hv.cell (p := ⟨A, 0, none⟩) (Nat.lt_of_lt_of_le hA hz)).trans h1, (hv.cell (p := ⟨A, 1, none⟩) (Nat.lt_of_lt_of_le hA hz)).trans h2, (hv.cell (p := ⟨A, 2, none⟩) (Nat.lt_of_lt_of_le hA hz)).trans h3, (hv.cell (p := ⟨A, 3, none⟩) (Nat.lt_of_lt_of_le hA hz)).trans h4, (hv.cell (p := ⟨A, 4, none⟩) (Nat.lt_of_lt_of_le hA hz)).trans h5, (hv.cell (p := ⟨A, 5, none⟩) (Nat.lt_of_lt_of_le hA hz)).trans h6, (hv.cell (p := ⟨A, 6, none⟩) (Nat.lt_of_lt_of_le hA hz)).trans h7, (hv.cell (p := ⟨A, 7, none⟩) (Nat.lt_of_lt_of_le hA hz)).trans h8, (hv.cell (p := ⟨A, 8, none⟩) (Nat.lt_of_lt_of_le hA hz)).trans h9, (hv.cell (p := ⟨B, 0, none⟩) (Nat.lt_of_lt_of_le hB hz)).trans h10, (hv.cell (p := ⟨B, 1, none⟩) (Nat.lt_of_lt_of_le hB hz)).trans h11, (hv.cell (p := ⟨B, 2, none⟩) (Nat.lt_of_lt_of_le hB hz)).trans h12, (hv.cell (p := ⟨B, 3, none⟩) (Nat.lt_of_lt_of_le hB hz)).trans h13, (hv.cell (p := ⟨B, 4, none⟩) (Nat.lt_of_lt_of_le hB hz)).trans h14, (hv.cell (p := ⟨B, 5, none⟩) (Nat.lt_of_lt_of_le hB hz)).trans h15, (hv.cell (p := ⟨B, 6, none⟩) (Nat.lt_of_lt_of_le hB hz)).trans h16, (hv.cell (p := ⟨B, 7, none⟩) (Nat.lt_of_lt_of_le hB hz)).trans h17, (hv.cell (p := ⟨B, 8, none⟩) (Nat.lt_of_lt_of_le hB hz)).trans h18⟩
theorem ygs (p q : PV) (w : World) (hp : IsP w p) (hq : IsP w q) (lp : p.p.body.length ≤ 10000000000) (lq : q.p.body.length ≤ 10000000000) : Calls Tryz.prog 15 #[p.val, q.val] w fun e w' => e = .returned (.bool (decide (p.p.body = q.p.body))) ∧ Below w.heap.size w w' := by
 have HBP := H! (fun W (h : Below w.heap.size w W) => yiv p W (hp.later h) lp)
 have HBQ := H! (fun W (h : Below w.heap.size w W) => yiv q W (hq.later h) lq)
 have HYP := H! (yjp p.p)
 have HYQ := H! (yjp q.p)
 clear hp hq
 obtain ⟨rc, cc, xY, rt, ct, tY, rv, cv, zY, rm, cm, mY, cells, ri, ci, qY, rs, cs, sY, ro, co, oY, rn, cn, iY⟩ := p
 obtain ⟨rc2, cc2, xY2, rt2, ct2, tY2, rv2, cv2, zY2, rm2, cm2, mY2, cells2, ri2, ci2, qY2, rs2, cs2, sY2, ro2, co2, oY2, rn2, cn2, iY2⟩ := q
 simp only [PV.val] at HBP HBQ ⊢
 generalize PP.body (PV.p ⟨rc, cc, xY, rt, ct, tY, rv, cv, zY, rm, cm, mY, cells, ri, ci, qY, rs, cs, sY, ro, co, oY, rn, cn, iY⟩) = x at *
 generalize PP.body (PV.p ⟨rc2, cc2, xY2, rt2, ct2, tY2, rv2, cv2, zY2, rm2, cm2, mY2, cells2, ri2, ci2, qY2, rs2, cs2, sY2, ro2, co2, oY2, rn2, cn2, iY2⟩) = y at *
 go_enter Tryz.func15, Tryz.ntmps15
 go_wp2
 have hB0 : Below w.heap.size w ((w.alloc (.cells #[.slice rc xY.length cc, .slice rt tY.length ct, .slice rv zY.length cv, .slice rm mY.length cm, .int .i64 cells, .slice ri qY.length ci, .slice rs sY.length cs, .slice ro oY.length co, .slice rn iY.length cn] 28)).alloc (.cells #[.slice rc2 xY2.length cc2, .slice rt2 tY2.length ct2, .slice rv2 zY2.length cv2, .slice rm2 mY2.length cm2, .int .i64 cells2, .slice ri2 qY2.length ci2, .slice rs2 sY2.length cs2, .slice ro2 oY2.length co2, .slice rn2 iY2.length cn2] 28)) := bw
 have hz : ((w.alloc (.cells #[.slice rc xY.length cc, .slice rt tY.length ct, .slice rv zY.length cv, .slice rm mY.length cm, .int .i64 cells, .slice ri qY.length ci, .slice rs sY.length cs, .slice ro oY.length co, .slice rn iY.length cn] 28)).alloc (.cells #[.slice rc2 xY2.length cc2, .slice rt2 tY2.length ct2, .slice rv2 zY2.length cv2, .slice rm2 mY2.length cm2, .int .i64 cells2, .slice ri2 qY2.length ci2, .slice rs2 sY2.length cs2, .slice ro2 oY2.length co2, .slice rn2 iY2.length cn2] 28)).heap.size = w.heap.size + 2 := by simp only [zA]
 have AP : AtV ((w.alloc (.cells #[.slice rc xY.length cc, .slice rt tY.length ct, .slice rv zY.length cv, .slice rm mY.length cm, .int .i64 cells, .slice ri qY.length ci, .slice rs sY.length cs, .slice ro oY.length co, .slice rn iY.length cn] 28)).alloc (.cells #[.slice rc2 xY2.length cc2, .slice rt2 tY2.length ct2, .slice rv2 zY2.length cv2, .slice rm2 mY2.length cm2, .int .i64 cells2, .slice ri2 qY2.length ci2, .slice rs2 sY2.length cs2, .slice ro2 oY2.length co2, .slice rn2 iY2.length cn2] 28)) w.heap.size [.slice rc xY.length cc, .slice rt tY.length ct, .slice rv zY.length cv, .slice rm mY.length cm, .int .i64 cells, .slice ri qY.length ci, .slice rs sY.length cs, .slice ro oY.length co, .slice rn iY.length cn] := (AtV.new w [.slice rc xY.length cc, .slice rt tY.length ct, .slice rv zY.length cv, .slice rm mY.length cm, .int .i64 cells, .slice ri qY.length ci, .slice rs sY.length cs, .slice ro oY.length co, .slice rn iY.length cn] 28).keep (Below.heap_alloc _ _ _ (by rw [zA]; omega))
 have AQ : AtV ((w.alloc (.cells #[.slice rc xY.length cc, .slice rt tY.length ct, .slice rv zY.length cv, .slice rm mY.length cm, .int .i64 cells, .slice ri qY.length ci, .slice rs sY.length cs, .slice ro oY.length co, .slice rn iY.length cn] 28)).alloc (.cells #[.slice rc2 xY2.length cc2, .slice rt2 tY2.length ct2, .slice rv2 zY2.length cv2, .slice rm2 mY2.length cm2, .int .i64 cells2, .slice ri2 qY2.length ci2, .slice rs2 sY2.length cs2, .slice ro2 oY2.length co2, .slice rn2 iY2.length cn2] 28)) (w.heap.size + 1) [.slice rc2 xY2.length cc2, .slice rt2 tY2.length ct2, .slice rv2 zY2.length cv2, .slice rm2 mY2.length cm2, .int .i64 cells2, .slice ri2 qY2.length ci2, .slice rs2 sY2.length cs2, .slice ro2 oY2.length co2, .slice rn2 iY2.length cn2] := by
  have := AtV.new (w.alloc (.cells #[.slice rc xY.length cc, .slice rt tY.length ct, .slice rv zY.length cv, .slice rm mY.length cm, .int .i64 cells, .slice ri qY.length ci, .slice rs sY.length cs, .slice ro oY.length co, .slice rn iY.length cn] 28)) [.slice rc2 xY2.length cc2, .slice rt2 tY2.length ct2, .slice rv2 zY2.length cv2, .slice rm2 mY2.length cm2, .int .i64 cells2, .slice ri2 qY2.length ci2, .slice rs2 sY2.length cs2, .slice ro2 oY2.length co2, .slice rn2 iY2.length cn2] 28
  rwa [zA] at this
 generalize (w.alloc (.cells #[.slice rc xY.length cc, .slice rt tY.length ct, .slice rv zY.length cv, .slice rm mY.length cm, .int .i64 cells, .slice ri qY.length ci, .slice rs sY.length cs, .slice ro oY.length co, .slice rn iY.length cn] 28)).alloc (.cells #[.slice rc2 xY2.length cc2, .slice rt2 tY2.length ct2, .slice rv2 zY2.length cv2, .slice rm2 mY2.length cm2, .int .i64 cells2, .slice ri2 qY2.length ci2, .slice rs2 sY2.length cs2, .slice ro2 oY2.length co2, .slice rn2 iY2.length cn2] 28) = W2 at *
 have hA : w.heap.size < W2.heap.size := by omega
 have hB : w.heap.size + 1 < W2.heap.size := by omega
 have p0c := (AP 0 _ rfl).1
 have p1c := (AP 1 _ rfl).1
 have p2c := (AP 2 _ rfl).1
 have p3c := (AP 3 _ rfl).1
 have p4c := (AP 4 _ rfl).1
 have p5c := (AP 5 _ rfl).1
 have p6c := (AP 6 _ rfl).1
 have p7c := (AP 7 _ rfl).1
 have p8c := (AP 8 _ rfl).1
 have q0c := (AQ 0 _ rfl).1
 have q1c := (AQ 1 _ rfl).1
 have q2c := (AQ 2 _ rfl).1
 have q3c := (AQ 3 _ rfl).1
 have q4c := (AQ 4 _ rfl).1
 have q5c := (AQ 5 _ rfl).1
 have q6c := (AQ 6 _ rfl).1
 have q7c := (AQ 7 _ rfl).1
 have q8c := (AQ 8 _ rfl).1
 clear AP AQ hz
 go_region_held3 (fun w' => Below W2.heap.size W2 w' ∧ w'.cell? ⟨w.heap.size, 0, none⟩ = some (.slice rc xY.length cc) ∧ w'.cell? ⟨w.heap.size, 1, none⟩ = some (.slice rt tY.length ct) ∧ w'.cell? ⟨w.heap.size, 2, none⟩ = some (.slice rv zY.length cv) ∧ w'.cell? ⟨w.heap.size, 3, none⟩ = some (.slice rm mY.length cm) ∧ w'.cell? ⟨w.heap.size, 4, none⟩ = some (.int .i64 cells) ∧ w'.cell? ⟨w.heap.size, 5, none⟩ = some (.slice ri qY.length ci) ∧ w'.cell? ⟨w.heap.size, 6, none⟩ = some (.slice rs sY.length cs) ∧ w'.cell? ⟨w.heap.size, 7, none⟩ = some (.slice ro oY.length co) ∧ w'.cell? ⟨w.heap.size, 8, none⟩ = some (.slice rn iY.length cn) ∧ w'.cell? ⟨w.heap.size + 1, 0, none⟩ = some (.slice rc2 xY2.length cc2) ∧ w'.cell? ⟨w.heap.size + 1, 1, none⟩ = some (.slice rt2 tY2.length ct2) ∧ w'.cell? ⟨w.heap.size + 1, 2, none⟩ = some (.slice rv2 zY2.length cv2) ∧ w'.cell? ⟨w.heap.size + 1, 3, none⟩ = some (.slice rm2 mY2.length cm2) ∧ w'.cell? ⟨w.heap.size + 1, 4, none⟩ = some (.int .i64 cells2) ∧ w'.cell? ⟨w.heap.size + 1, 5, none⟩ = some (.slice ri2 qY2.length ci2) ∧ w'.cell? ⟨w.heap.size + 1, 6, none⟩ = some (.slice rs2 sY2.length cs2) ∧ w'.cell? ⟨w.heap.size + 1, 7, none⟩ = some (.slice ro2 oY2.length co2) ∧ w'.cell? ⟨w.heap.size + 1, 8, none⟩ = some (.slice rn2 iY2.length cn2)) (first | exact ⟨(Below.refl _ _).drew, p0c, p1c, p2c, p3c, p4c, p5c, p6c, p7c, p8c, q0c, q1c, q2c, q3c, q4c, q5c, q6c, q7c, q8c⟩ | assumption | go_keep) (first | (go_at_call 37; with_reducible (refine (HBP.out _ ?hq).mono ?_); (case hq => exact hB0.trans ((by assumption : Below W2.heap.size W2 _ ∧ _).1.mono hB0.size)); rintro _ w3 ⟨r3, c3, rfl, ho3, hb3⟩; have HO3 := H! (yds ho3 HYP.out); clear ho3; have hS3 := ygr hA hB (by assumption) hb3) | (go_at_call 37; with_reducible (refine (HBQ.out _ ?hq).mono ?_); (case hq => exact hB0.trans ((by assumption : Below W2.heap.size W2 _ ∧ _).1.mono hB0.size)); rintro _ w4 ⟨r4, c4, rfl, ho4, hb4⟩; have HO4 := H! (yds ho4 HYQ.out); clear ho4; have hS4 := ygr hA hB (by assumption) hb4) | (go_at_call 36; refine (rsm_any r3 r4 c3 c4 x y _ (by first | exact HO3.out | exact HO3.out.later hb4) (by first | exact HO4.out | exact HO4.out.later hb3)).mono ?_; rintro _ w5 ⟨rfl, hb5⟩; have hS5 := ygr hA hB (by assumption) hb5))
 go_wp2
 go_ret
 exact ⟨by rfl, hB0.trans ((by assumption : Below W2.heap.size W2 _ ∧ _).1.mono hB0.size)⟩
theorem yit (p : PV) (w : World) (hp : IsP w p) (lp : p.p.body.length ≤ 10000000000) : Calls Tryz.prog 11 #[p.val] w fun e w' => e = .returned (.bool (decide (p.p.body = pp0.body))) ∧ Below w.heap.size w w' := by
 have HS : Hid (∀ W, Below w.heap.size w W → Calls Tryz.prog 15 #[p.val, pv0.val] W fun e w' => e = .returned (.bool (decide (p.p.body = pp0.body))) ∧ Below W.heap.size W w') := H! (fun W h => ygs p pv0 W (hp.later h) (isP0 W) lp (by have : pv0.p.body.length = 72 := rfl; omega))
 clear hp lp
 obtain ⟨rc, cc, xY, rt, ct, tY, rv, cv, zY, rm, cm, mY, cells, ri, ci, qY, rs, cs, sY, ro, co, oY, rn, cn, iY⟩ := p
 simp only [PV.val] at HS ⊢
 generalize decide (PP.body (PV.p ⟨rc, cc, xY, rt, ct, tY, rv, cv, zY, rm, cm, mY, cells, ri, ci, qY, rs, cs, sY, ro, co, oY, rn, cn, iY⟩) = pp0.body) = x at *
 go_enter Tryz.func11, Tryz.ntmps11
 go_wp2_with (go_at_call 15; refine (HS.out _ bw).mono ?_; rintro _ w1 ⟨rfl, hb1⟩)
 go_ret
 exact ⟨rfl, bw⟩
def idxR (p : List Int → Bool) (Z : List (List Int)) : Int := if Z.any p = true then (Z.findIdx p : Nat) else -1
theorem idxR_hit {p : List Int → Bool} {Z : List (List Int)} {k : Nat} (hk : k < Z.length) (h0 : ∀ t, t < k → p (Z.getD t []) = false) (h1 : p (Z.getD k []) = true) : idxR p Z = k := by
 have hg : ∀ t (h : t < Z.length), Z.getD t [] = Z[t] := fun t h => by simp [List.getD, List.getElem?_eq_getElem h]
 have hf : Z.findIdx p = k := by
  rw [List.findIdx_eq hk]
  refine ⟨by rw [← hg k hk]; exact h1, fun j hj => ?_⟩
  rw [← hg j (by omega)]
  exact h0 j hj
 have ha : Z.any p = true := List.any_eq_true.2 ⟨Z[k], List.getElem_mem hk, by rw [← hg k hk]; exact h1⟩
 simp [idxR, ha, hf]
theorem yni {p : List Int → Bool} {Z : List (List Int)} (h0 : ∀ t, t < Z.length → p (Z.getD t []) = false) : idxR p Z = -1 := by
 have ha : Z.any p = false := by
  rw [List.any_eq_false]
  intro x hx
  obtain ⟨t, ht, rfl⟩ := List.getElem_of_mem hx
  have := h0 t ht
  simpa [List.getD, List.getElem?_eq_getElem ht] using this
 simp [idxR, ha]
theorem idxR_any (p : List Int → Bool) (Z : List (List Int)) : decide (0 ≤ idxR p Z) = Z.any p := by
 unfold idxR
 split
 ·
  rename_i h; rw [h]; simp
 ·
  rename_i h; simp at h ⊢; simpa using h
theorem yhh (g : Nat) (cb : Array Value) (r : Option Addr) (cap : Nat) (Z : List (List Int)) (p : List Int → Bool) (w : World) (eg : ∀ args w, (callFunc g args).run Tryz.prog w = .ok (.enter g args) w) (hZ : IsRows w r cap Z) (hne : Z ≠ [])
  (hf : ∀ (e : Later w) (k : Nat) (ri : Option Addr) (ci : Nat), k < Z.length → IsInts e.w ri ci .i64 (Z.getD k []) → Calls Tryz.prog g (#[.slice ri (Z.getD k []).length ci] ++ cb) e.w fun a w' => a = .returned (.bool (p (Z.getD k []))) ∧ Below e.w.heap.size e.w w') :
  Calls Tryz.prog 47 #[.slice r Z.length cap, .func (.func g) #[] cb] w fun e w' => e = .returned (.int .i64 (idxR p Z)) ∧ Below w.heap.size w w' := by
 have HF := H! hf
 have hmax := hZ.max
 have hle := hZ.le
 unfold maxLen at hmax
 obtain ⟨b, off, rfl, hb, hc⟩ := hZ.cells hne
 have HC := H! hc
 clear hc hf hZ hne
 generalize hn : Z.length = n at *
 have HN := H! hn
 clear hn
 go_enter Tryz.func47, Tryz.ntmps47
 go_wp2
 go_loopg [8] n (fun kx s8 wr => ∃ (k : Nat) (e : Later w), s8 = .int .i64 k ∧ k ≤ n ∧ n - k ≤ kx ∧ wr = e.w ∧ Hid (∀ t, t < k → p (Z.getD t []) = false))
 case atStart => exact ⟨0, ⟨w, Below.refl _ _⟩, rfl, Nat.zero_le _, by omega, rfl, H! (fun t h => absurd h (Nat.not_lt_zero _))⟩
 case round =>
  obtain ⟨k, e, rfl, hk, hkx, rfl, HP⟩ := hrel
  have hes := e.h.size
  by_cases hlt : k < n
  ·
   obtain ⟨ri, ci, g1, g2⟩ := HC.out k hlt
   have hcell : e.w.cell? ⟨b, off + k, none⟩ = some (.slice ri (Z.getD k []).length ci) := by
    rw [Later.cell e hb]
    exact g1
   have hcall := HF.out e k ri ci hlt (g2.later e.h)
   have HHIT : Hid (p (Z.getD k []) = true → idxR p Z = k) := H! (fun h => idxR_hit (by have := HN.out; omega) HP.out h)
   have HMISS : Hid (p (Z.getD k []) = false → ∀ t, t < k + 1 → p (Z.getD t []) = false) := H! (fun h t ht => by
    by_cases e : t = k
    ·
     subst e; exact h
    ·
     exact HP.out t (by omega))
   clear g1 g2
   generalize Z.getD k [] = row at *
   cases hp : p row <;> rw [hp] at hcall
   ·
    have HQ := H! (HMISS.out hp)
    clear hp
    go_wp2_with (go_at_fn g; refine hcall.mono ?_; rintro a w' ⟨rfl, hb2⟩)
    go_roundg (n - (k + 1))
    case measure => omega
    case rel =>
     obtain ⟨e', rfl⟩ := e.next hb2
     exact ⟨k + 1, e', by go_num, by omega, Nat.le_refl _, rfl, HQ⟩
   ·
    have HQ := H! (HHIT.out hp)
    clear hp
    go_wp2_with (go_at_fn g; refine hcall.mono ?_; rintro a w' ⟨rfl, hb2⟩)
    go_ret
    exact ⟨by rw [HQ.out]; first | done | rfl, by obtain ⟨e', rfl⟩ := e.next hb2; exact e'.h⟩
  ·
   obtain rfl : k = n := by omega
   have HQ := H! (yni (p := p) (Z := Z) (fun t ht => HP.out t (by have := HN.out; omega)))
   go_wp2
   go_ret
   exact ⟨by rw [HQ.out]; first | done | rfl, e.h⟩
theorem yfv (g : Nat) (cb : Array Value) (r : Option Addr) (cap : Nat) (Z : List (List Int)) (p : List Int → Bool) (w : World) (eg : ∀ args w, (callFunc g args).run Tryz.prog w = .ok (.enter g args) w) (hZ : IsRows w r cap Z) (hne : Z ≠ [])
  (hf : ∀ (e : Later w) (k : Nat) (ri : Option Addr) (ci : Nat), k < Z.length → IsInts e.w ri ci .i64 (Z.getD k []) → Calls Tryz.prog g (#[.slice ri (Z.getD k []).length ci] ++ cb) e.w fun a w' => a = .returned (.bool (p (Z.getD k []))) ∧ Below e.w.heap.size e.w w') :
  Calls Tryz.prog 24 #[.slice r Z.length cap, .func (.func g) #[] cb] w fun e w' => e = .returned (.bool (Z.any p)) ∧ Below w.heap.size w w' := by
 have HI := H! (yhh g cb r cap Z p w eg hZ hne hf)
 clear hf hZ
 go_enter Tryz.func24, Tryz.ntmps24
 go_wp2_with ((go_at_call 47; refine (HI.out).mono ?_; rintro e hb1w ⟨rfl, hb1⟩; obtain ⟨hb1c, hb1f⟩ := yah hb1; have hb1s := hb1.size; (try simp only [zA] at hb1s); (try (have : w.heap.size < hb1w.heap.size := by omega)); (try (have : w.heap.size + 1 < hb1w.heap.size := by omega)); (try (have : w.heap.size + 1 + 1 < hb1w.heap.size := by omega)); (try (have : w.heap.size + 1 + 1 + 1 < hb1w.heap.size := by omega)); (try (have : bX < hb1w.heap.size := by omega)); (try (have : bY < hb1w.heap.size := by omega)); (try (have : bZ < hb1w.heap.size := by omega))))
 go_ret
 exact ⟨yal (idxR_any p Z), bw⟩
theorem mx2 (a b : Int) : ∃ m : Int, (∀ w, (Builtin.max_ #[3, 3] 3 #[.int .i64 a, .int .i64 b]).run Tryz.prog w = .ok (.int .i64 m) w) ∧ m = max a b := by
 refine ⟨_, fun _ => rfl, ?_⟩
 split <;> omega
theorem mx3 (a b c : Int) : ∃ m : Int, (∀ w, (Builtin.max_ #[3, 3, 3] 3 #[.int .i64 a, .int .i64 b, .int .i64 c]).run Tryz.prog w = .ok (.int .i64 m) w) ∧ m = max a (max b c) := by
 refine ⟨_, fun _ => rfl, ?_⟩
 (repeat' split) <;> omega
theorem mx4 (a b c d : Int) : ∃ m : Int, (∀ w, (Builtin.max_ #[3, 3, 3, 3] 3 #[.int .i64 a, .int .i64 b, .int .i64 c, .int .i64 d]).run Tryz.prog w = .ok (.int .i64 m) w) ∧ m = max a (max b (max c d)) := by
 refine ⟨_, fun _ => rfl, ?_⟩
 (repeat' split) <;> omega
def gC (c : Cv) : Bool := decide ((10 : Int) < max (c.X.length : Int) c.Y.length)
def gR (l : List Int) : Bool := decide ((10 : Int) < l.length)
def gM (m : Mp) : Bool := decide ((10 : Int) < max (m.X.length : Int) (max (m.Y.length : Int) m.Z.length)) || m.Z.any gR
def szG (p : PV) : Bool := decide ((60 : Int) < p.xY.length) || (decide ((20 : Int) < p.tY.length) || (decide ((20 : Int) < p.zY.length) || (decide ((20 : Int) < p.mY.length) || decide ((60 : Int) < max (p.qY.length : Int) (max (p.sY.length : Int) (max (p.oY.length : Int) p.iY.length))))))
def yco (p : PV) : Bool := szG p || (p.zY.any gC || p.mY.any gM)
theorem g1_any (c : Cv) (w : World) : Calls Tryz.prog 21 #[.agg #[.slice c.rx c.X.length c.cx, .slice c.ry c.Y.length c.cy]] w fun e w' => e = .returned (.bool (gC c)) ∧ Below w.heap.size w w' := by
 obtain ⟨rx, cx, X, ry, cy, Y⟩ := c
 obtain ⟨m, HM, hm⟩ := mx2 (X.length : Int) (Y.length : Int)
 simp only [gC]
 rw [← hm]
 clear hm
 go_enter Tryz.func21, Tryz.ntmps21
 go_wp2
 go_ret
 exact ⟨by first | rfl | (simp; done), bw⟩
theorem g3_any (r : Option Addr) (l : List Int) (c : Nat) (w : World) : Calls Tryz.prog 25 #[.slice r l.length c] w fun e w' => e = .returned (.bool (gR l)) ∧ Below w.heap.size w w' := by
 simp only [gR]
 go_enter Tryz.func25, Tryz.ntmps25
 go_wp2
 go_ret
 exact ⟨by first | rfl | (simp; done), bw⟩
theorem idx0R (r : Option Addr) (c : Nat) (v : Value) (w : World) : Calls Tryz.prog 47 #[.slice r 0 c, v] w fun e w' => e = .returned (.int .i64 (-1)) ∧ Below w.heap.size w w' := by
 go_enter Tryz.func47, Tryz.ntmps47
 go_wp2
 go_loopg [8] 0 (fun kx s8 wr => s8 = .int .i64 0 ∧ wr = w)
 case atStart => exact ⟨rfl, rfl⟩
 case round =>
  obtain ⟨rfl, rfl⟩ := hrel
  go_wp2
  go_ret
  exact ⟨rfl, bw⟩
theorem has0R (r : Option Addr) (c : Nat) (v : Value) (w : World) : Calls Tryz.prog 24 #[.slice r 0 c, v] w fun e w' => e = .returned (.bool false) ∧ Below w.heap.size w w' := by
 go_enter Tryz.func24, Tryz.ntmps24
 go_wp2_with ((go_at_call 47; refine (idx0R _ _ _ _).mono ?_; rintro e hb1w ⟨rfl, hb1⟩; obtain ⟨hb1c, hb1f⟩ := yah hb1; have hb1s := hb1.size; (try simp only [zA] at hb1s); (try (have : w.heap.size < hb1w.heap.size := by omega)); (try (have : w.heap.size + 1 < hb1w.heap.size := by omega)); (try (have : w.heap.size + 1 + 1 < hb1w.heap.size := by omega)); (try (have : w.heap.size + 1 + 1 + 1 < hb1w.heap.size := by omega)); (try (have : bX < hb1w.heap.size := by omega)); (try (have : bY < hb1w.heap.size := by omega)); (try (have : bZ < hb1w.heap.size := by omega))))
 go_ret
 exact ⟨by first | rfl | (simp; done), bw⟩
theorem hasR_g (r : Option Addr) (c : Nat) (Z : List (List Int)) (w : World) (hZ : IsRows w r c Z) : Calls Tryz.prog 24 #[.slice r Z.length c, .func (.func 25) #[] #[]] w fun e w' => e = .returned (.bool (Z.any gR)) ∧ Below w.heap.size w w' := by
 by_cases hne : Z = []
 ·
  subst hne
  exact has0R _ _ _ _
 ·
  exact yfv _ _ r c Z gR w (enters_of Tryz.func25 (by kernel_rfl) rfl) hZ hne (fun e k ri ci hk hI => g3_any ri _ ci e.w)
theorem g2_any (m : Mp) (w : World) (hm : m.ok w) : Calls Tryz.prog 23 #[.agg #[.slice m.rx m.X.length m.cx, .slice m.ry m.Y.length m.cy, .slice m.rz m.Z.length m.cz]] w fun e w' => e = .returned (.bool (gM m)) ∧ Below w.heap.size w w' := by
 obtain ⟨rx, cx, X, ry, cy, Y, rz, cz, Z⟩ := m
 have hZ := hm.2.2
 clear hm
 simp only at hZ
 have HZ := H! (fun W (h : Below w.heap.size w W) => hasR_g rz cz Z W (hZ.later h))
 clear hZ
 obtain ⟨m, HM, hm⟩ := mx3 (X.length : Int) (Y.length : Int) (Z.length : Int)
 simp only [gM]
 rw [← hm]
 clear hm
 by_cases h : (10 : Int) < m
 ·
  go_enter Tryz.func23, Tryz.ntmps23
  go_wp2
  go_ret
  exact ⟨by first | rfl | (simp [*]; done), bw⟩
 ·
  go_enter Tryz.func23, Tryz.ntmps23
  generalize Z.any gR = R at *
  go_wp2_with (go_at_call 24; refine (HZ.out _ bw).mono ?_; rintro _ w1 ⟨rfl, hb1⟩)
  go_ret
  exact ⟨by first | rfl | (simp [*]; done) | (simp; omega), bw⟩
theorem ybs (p : PV) (w : World) (hp : IsP w p) : Calls Tryz.prog 7 #[p.val] w fun e w' => e = .returned (.bool (yco p)) ∧ Below w.heap.size w w' := by
 have HC : Hid (∀ W, Below w.heap.size w W → Calls Tryz.prog 20 #[.slice p.rv p.zY.length p.cv, .func (.func 21) #[] #[]] W fun e w' => e = .returned (.bool (p.zY.any gC)) ∧ Below W.heap.size W w') := H! (fun W h =>
  yjk _ _ p.rv p.cv p.zY gC W (enters_of Tryz.func21 (by kernel_rfl) rfl) (hp.later h).zY (fun e x hx => g1_any x e.w))
 have HM : Hid (∀ W, Below w.heap.size w W → Calls Tryz.prog 22 #[.slice p.rm p.mY.length p.cm, .func (.func 23) #[] #[]] W fun e w' => e = .returned (.bool (p.mY.any gM)) ∧ Below W.heap.size W w') := H! (fun W h =>
  ynn _ _ p.rm p.cm p.mY gM W (enters_of Tryz.func23 (by kernel_rfl) rfl) (hp.later h).mY (fun e x hx => g2_any x e.w (((hp.later h).mapsG x hx).later e.h)))
 have HG : Hid (yco p = (szG p || (p.zY.any gC || p.mY.any gM))) := H! rfl
 have HSZ : Hid (szG p = (decide ((60 : Int) < p.xY.length) || (decide ((20 : Int) < p.tY.length) || (decide ((20 : Int) < p.zY.length) || (decide ((20 : Int) < p.mY.length) || decide ((60 : Int) < max (p.qY.length : Int) (max (p.sY.length : Int) (max (p.oY.length : Int) p.iY.length)))))))) := H! rfl
 obtain ⟨rc, cc, xY, rt, ct, tY, rv, cv, zY, rm, cm, mY, cells, ri, ci, qY, rs, cs, sY, ro, co, oY, rn, cn, iY⟩ := p
 clear hp
 simp only at HC HM HSZ HG
 simp only [PV.val]
 obtain ⟨m, HMX, hm⟩ := mx4 (qY.length : Int) (sY.length : Int) (oY.length : Int) (iY.length : Int)
 rw [← hm] at HSZ
 clear hm
 generalize yco _ = G at *
 generalize szG _ = S at *
 generalize zY.any gC = C at *
 generalize mY.any gM = M at *
 rw [HG.out]
 clear HG
 by_cases h0 : (60 : Int) < xY.length
 ·
  obtain rfl : S = true := by rw [HSZ.out, decide_eq_true h0]; rfl
  clear HSZ
  go_enter Tryz.func7, Tryz.ntmps7
  go_wp2
  go_ret
  exact ⟨rfl, bw⟩
 by_cases h1 : (20 : Int) < tY.length
 ·
  obtain rfl : S = true := by rw [HSZ.out, decide_eq_true h1]; simp
  clear HSZ
  go_enter Tryz.func7, Tryz.ntmps7
  go_wp2
  go_ret
  exact ⟨rfl, bw⟩
 by_cases h2 : (20 : Int) < zY.length
 ·
  obtain rfl : S = true := by rw [HSZ.out, decide_eq_true h2]; simp
  clear HSZ
  go_enter Tryz.func7, Tryz.ntmps7
  go_wp2
  go_ret
  exact ⟨rfl, bw⟩
 by_cases h3 : (20 : Int) < mY.length
 ·
  obtain rfl : S = true := by rw [HSZ.out, decide_eq_true h3]; simp
  clear HSZ
  go_enter Tryz.func7, Tryz.ntmps7
  go_wp2
  go_ret
  exact ⟨rfl, bw⟩
 by_cases h4 : (60 : Int) < m
 ·
  obtain rfl : S = true := by rw [HSZ.out, decide_eq_true h4]; simp
  clear HSZ
  go_enter Tryz.func7, Tryz.ntmps7
  go_wp2
  go_ret
  exact ⟨rfl, bw⟩
 obtain rfl : S = false := by rw [HSZ.out, decide_eq_false h0, decide_eq_false h1, decide_eq_false h2, decide_eq_false h3, decide_eq_false h4]; rfl
 clear HSZ
 cases C
 ·
  go_enter Tryz.func7, Tryz.ntmps7
  go_wp2_with (first | (go_at_call 20; refine (HC.out _ bw).mono ?_; rintro _ w1 ⟨rfl, hb1⟩; obtain ⟨hb1c, hb1f⟩ := yah hb1; have hb1s := hb1.size; (try simp only [zA] at hb1s); have hx1 : w.heap.size < w1.heap.size := (by omega)) | (go_at_call 22; refine (HM.out _ bw).mono ?_; rintro _ w2 ⟨rfl, hb2⟩))
  go_ret
  exact ⟨by first | rfl | (simp; done), bw⟩
 ·
  go_enter Tryz.func7, Tryz.ntmps7
  go_wp2_with (first | (go_at_call 20; refine (HC.out _ bw).mono ?_; rintro _ w1 ⟨rfl, hb1⟩; obtain ⟨hb1c, hb1f⟩ := yah hb1; have hb1s := hb1.size; (try simp only [zA] at hb1s); have hx1 : w.heap.size < w1.heap.size := (by omega)))
  go_ret
  exact ⟨by first | rfl | (simp; done), bw⟩
theorem yhd {α : Type} {f : α → List Int} {m : Nat} {l : List α} (h : ∀ x ∈ l, (f x).length ≤ m) : (l.flatMap f).length ≤ l.length * m := by
 induction l with
 | nil => simp
 | cons x l ih =>
  have h1 := ih (fun y hy => h y (List.mem_cons_of_mem _ hy))
  have h2 := h x (List.mem_cons_self ..)
  rw [List.length_cons, List.flatMap_cons, List.length_append, Nat.succ_mul]
  omega
theorem ydt {p : PV} (h : yco p = false) : p.p.body.length ≤ 90000 := by
 unfold yco at h
 simp only [Bool.or_eq_false_iff] at h
 obtain ⟨hz, hc, hm⟩ := h
 unfold szG at hz
 simp only [Bool.or_eq_false_iff, decide_eq_false_iff_not, Int.not_lt, Int.max_le] at hz
 obtain ⟨z0, z1, z2, z3, z4⟩ := hz
 have e1 : (p.xY.flatMap Ins.by8).length ≤ p.xY.length * 12 := yhd (fun i _ => Nat.le_refl 12)
 have e2 : (p.tY.flatMap Fx.by8).length ≤ p.tY.length * 80 := yhd (fun i _ => Nat.le_refl 80)
 have e3 : (p.zY.flatMap (fun c => yay c.p)).length ≤ p.zY.length * 176 := yhd (fun c hx => by
  rw [List.any_eq_false] at hc
  have := hc c hx
  unfold gC at this
  simp only [decide_eq_true_eq, Int.not_lt, Int.max_le] at this
  show (yaq c.X ++ yaq c.Y).length ≤ 176
  rw [List.length_append, yai, yai]
  omega)
 have e4 : (p.mY.flatMap (fun c => ycf c.p)).length ≤ p.mY.length * 1056 := yhd (fun c hx => by
  rw [List.any_eq_false] at hm
  have := hm c hx
  unfold gM at this
  simp only [Bool.or_eq_true, decide_eq_true_eq, not_or, Int.not_lt, Int.max_le] at this
  obtain ⟨h1, h2⟩ := this
  have h2 := Bool.eq_false_iff.2 h2
  rw [List.any_eq_false] at h2
  have h3 : (c.Z.flatMap yaq).length ≤ c.Z.length * 88 := yhd (fun l hl => by
   have := h2 l hl
   unfold gR at this
   simp only [decide_eq_true_eq, Int.not_lt] at this
   rw [yai]
   omega)
  show (yaq c.X ++ yaq c.Y ++ c.Z.flatMap yaq).length ≤ 1056
  rw [List.length_append, List.length_append, yai, yai]
  omega)
 unfold PP.body PV.p
 simp only [List.length_map]
 rw [yeu, yha]
 simp only [List.length_append, yau, yai]
 omega
theorem yem (r q : Option Addr) (c d : Nat) (xs ys : List Int) (w : World) (hx : IsInts w r c .i64 xs) (hy : IsInts w q d .i64 ys) :
  Calls Tryz.prog 13 #[.slice r xs.length c, .slice q ys.length d] w fun e w' => e = .returned (.bool (decide (xs = ys))) ∧ Below w.heap.size w w' := by
 by_cases hl : xs.length = ys.length
 ·
  by_cases hne : xs = []
  ·
   subst hne
   obtain rfl : ys = [] := List.length_eq_zero_iff.1 hl.symm
   clear hx hy
   go_enter Tryz.func13, Tryz.ntmps13
   go_wp2
   go_rounds 1
   go_ret
   exact ⟨by simp, bw⟩
  ·
   have hney : ys ≠ [] := fun e => by subst e; exact hne (List.length_eq_zero_iff.1 hl)
   obtain ⟨bX, off, rfl, hb, hc⟩ := hx.cells hne
   obtain ⟨bY, ofy, rfl, hby, hcy⟩ := hy.cells hney
   have hmax := hx.max
   have hle := hx.le
   unfold maxLen at hmax
   have HC := H! hc
   have HCY := H! hcy
   have HT : Hid ((∀ t, t < xs.length → xs.getD t 0 = ys.getD t 0) → decide (xs = ys) = true) := H! (fun h => by simpa using yij hl h)
   have HF : Hid (∀ t, xs.getD t 0 ≠ ys.getD t 0 → decide (xs = ys) = false) := H! (fun t h => by
    simp only [decide_eq_false_iff_not]
    intro e
    subst e
    exact h rfl)
   clear hc hcy hx hy hne hney
   rw [← hl] at HCY ⊢
   generalize hn : xs.length = n at *
   have HN := H! hn
   clear hn hl
   generalize decide (xs = ys) = res at *
   go_enter Tryz.func13, Tryz.ntmps13
   go_wp2
   go_loopg [13] n (fun kx s13 wr => ∃ (k : Nat) (e : Later w), s13 = .int .i64 k ∧ k ≤ n ∧ n - k ≤ kx ∧ wr = e.w ∧ Hid (∀ t, t < k → xs.getD t 0 = ys.getD t 0))
   case atStart => exact ⟨0, ⟨_, Below.refl _ _⟩, rfl, by omega, by omega, rfl, H! (fun t ht => absurd ht (Nat.not_lt_zero _))⟩
   case round =>
    obtain ⟨k, e, rfl, hk, hkx, rfl, HQ⟩ := hrel
    have hes := e.h.size
    by_cases hlt : k < n
    ·
     have hc1 : e.w.cell? ⟨bX, off + k, none⟩ = some (.int .i64 (xs.getD k 0)) := by
      rw [e.h.cell (p := ⟨bX, off + k, none⟩) hb]
      exact HC.out k hlt
     have hc2 : e.w.cell? ⟨bY, ofy + k, none⟩ = some (.int .i64 (ys.getD k 0)) := by
      rw [e.h.cell (p := ⟨bY, ofy + k, none⟩) hby]
      exact HCY.out k hlt
     have hk1 : (0 : Int) ≤ (k : Int) := by omega
     have hk2 : (k : Int) < n := by omega
     have HG : Hid (xs.getD k 0 = ys.getD k 0 → ∀ t, t < k + 1 → xs.getD t 0 = ys.getD t 0) := H! (fun h t ht => by
      by_cases e : t = k
      ·
       subst e; exact h
      ·
       exact HQ.out t (by omega))
     have HB := H! (HF.out k)
     generalize xs.getD k 0 = x at hc1 HG HB
     generalize ys.getD k 0 = y at hc2 HG HB
     by_cases hxy : x = y
     ·
      have HG2 := H! (HG.out hxy)
      go_wp2
      go_quiet (fail)
      go_wp2
      go_roundg (n - (k + 1))
      case measure => omega
      case rel => exact ⟨k + 1, ⟨_, ybf e.h _⟩, by go_num, by omega, by omega, rfl, HG2⟩
     ·
      have H := H! (HB.out hxy)
      go_wp2
      go_quiet (fail)
      go_wp2
      go_ret
      exact ⟨by rw [H.out]; first | done | rfl, ybf e.h _⟩
    ·
     obtain rfl : k = n := by omega
     have H := H! (HT.out HQ.out)
     go_wp2
     go_ret
     exact ⟨by rw [H.out]; first | done | rfl, e.h⟩
 ·
  have H := H! (show decide (xs = ys) = false by simp only [decide_eq_false_iff_not]; intro e; subst e; exact hl rfl)
  have hl2 : ((xs.length : Int) == (ys.length : Int)) = false := by simp; omega
  have hl3 : ¬ (xs.length : Int) = (ys.length : Int) := by omega
  clear hx hy
  go_enter Tryz.func13, Tryz.ntmps13
  go_wp2
  go_ret
  exact ⟨by rw [H.out]; first | done | rfl, bw⟩
end Go.Proofs.YtfooefiaenlhmaaGreat
