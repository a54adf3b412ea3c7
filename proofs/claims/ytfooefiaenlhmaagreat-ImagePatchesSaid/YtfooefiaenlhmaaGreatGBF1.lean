/- The law ImagePatches returns true for all programs and numbers. No conditions. Printed by a program. -/
import Derived.Test.YtfooefiaenlhmaaGreatGB1
import Derived.Test.YtfooefiaenlhmaaGreatGB7
import Derived.Test.YtfooefiaenlhmaaGreatGB9
import Derived.Test.YtfooefiaenlhmaaGreatGB10
import Derived.Test.YtfooefiaenlhmaaGreatGB11
import Derived.Test.YtfooefiaenlhmaaGreatGB21
import Derived.Deep.Cut
set_option maxRecDepth 100000
namespace Go.Proofs.YtfooefiaenlhmaaGreat
set_option linter.all false
set_option maxHeartbeats 16000000
open Go.RowKit Go.ChangeShapes Go.WideShapes Go.ChangeAt
theorem ygb {α : Type} [Inhabited α] {n : α → Nat} {g : α → Int → Int → α} {xs : List α} {k : Nat} (hk : k < xs.length) (i v : Int) : (upd n g xs i v).take (k + 1) = (upd n g xs i v).take k ++ [g (xs.getD k default) (i - (((xs.take k).map n).sum : Nat)) v] := by
 induction xs generalizing i k with
 | nil => simp at hk
 | cons x xs ih =>
  cases k with
  | zero => simp [upd]
  | succ k =>
   rw [upd, List.take_succ_cons, List.take_succ_cons, List.cons_append, ih (by simpa using hk), List.take_succ_cons, List.map_cons, List.sum_cons]
   congr 4
   simp only [Int.natCast_add]
   omega
theorem yge {α : Type} [Inhabited α] {n : α → Nat} {xs : List α} {k : Nat} (hk : k < xs.length) : ((xs.take (k + 1)).map n).sum = ((xs.take k).map n).sum + n (xs.getD k default) := by
 rw [List.take_add_one, List.getElem?_eq_getElem hk]
 simp only [Option.toList, List.map_append, List.sum_append, List.map_cons, List.map_nil, List.sum_cons, List.sum_nil, Nat.add_zero, List.getD, List.getElem?_eq_getElem hk, Option.getD_some]
theorem ydz {α : Type} (n : α → Nat) (xs : List α) (k : Nat) : ((xs.take k).map n).sum ≤ (xs.map n).sum := by
 have h := congrArg (fun l => (List.map n l).sum) (List.take_append_drop k xs)
 simp only [List.map_append, List.sum_append] at h
 omega
theorem OwnF.app {α : Type} {t : TypeId} {sz : Nat} {enc : α → List Value} (henc : ∀ x, (enc x).length = sz) {D : Nat} {W W' : World} {F : List (Nat × List Value)} {r r' : Option Addr} {c' : Nat} {xs ys : List α} (h : OwnF D W (fr1 r (xs.flatMap enc) ++ F)) (hn : OwnR t sz enc W' D r' c' ys)
  (hs : W.heap.size ≤ W'.heap.size) (hk : ∀ q, q < W.heap.size → (∀ a, r = some a → a.block ≠ q) → W'.heap[q]? = W.heap[q]?) (hr : ∀ a, r' = some a → (∃ a0, r = some a0 ∧ a0.block = a.block) ∨ W.heap.size ≤ a.block) : OwnF D W' (fr1 r' (ys.flatMap enc) ++ F) := by
 have hne : ∀ p ∈ F, ∀ a, r = some a → a.block ≠ p.1 := fun p hp a ha e => by
  subst ha
  have := h.1
  simp only [fr1, List.cons_append, List.nil_append, List.map_cons, List.nodup_cons] at this
  exact this.1 (by rw [e]; exact List.mem_map_of_mem hp)
 have hF : F.map Prod.fst |>.Nodup := by
  have := h.1
  rw [List.map_append, List.nodup_append] at this
  exact this.2.1
 obtain ⟨_, h2⟩ := yeg henc hn
 refine ⟨?_, fun p hp => ?_⟩
 ·
  rw [List.map_append, List.nodup_append]
  refine ⟨(OwnF.fr (fun p hp => h2 p hp)).1, hF, fun a ha b hb e => ?_⟩
  obtain ⟨p, hp, rfl⟩ := List.mem_map.1 ha
  obtain ⟨q, hq, rfl⟩ := List.mem_map.1 hb
  cases r' with
  | none => simp [fr1] at hp
  | some a0 =>
   obtain rfl : p = (a0.block, _) := by simpa [fr1] using hp
   rcases hr a0 rfl with ⟨a1, h3, h4⟩ | h3
   ·
    exact hne q hq a1 h3 (h4.trans e)
   ·
    have := (h.2 q (List.mem_append.2 (.inr hq))).2.1
    simp only at e
    omega
 ·
  rcases List.mem_append.1 hp with hp | hp
  ·
   exact h2 p hp
  ·
   obtain ⟨h3, h4, h5⟩ := h.2 p (List.mem_append.2 (.inr hp))
   exact ⟨h3, Nat.lt_of_lt_of_le h4 hs, h5.keep (hk _ h4 (hne p hp))⟩
structure Pq (w : World) (pc : List Value) (W : World) (oc : List Value) : Prop where
 box : AtV W w.heap.size pc
 out : AtV W (w.heap.size + 1 + 1) oc
 res : AtV W (w.heap.size + 1) [.slice none 0 0, .slice none 0 0, .slice none 0 0, .slice none 0 0, .int .i64 0, .slice none 0 0, .slice none 0 0, .slice none 0 0, .slice none 0 0]
 below : Below w.heap.size w W
 hi : w.heap.size + 3 ≤ W.heap.size
theorem Pq.later {w W W' : World} {pc oc : List Value} (h : Pq w pc W oc) (hb : Below (w.heap.size + 3) W W') : Pq w pc W' oc :=
 ⟨h.box.keep (hb.block _ (by omega)), h.out.keep (hb.block _ (by omega)), h.res.keep (hb.block _ (by omega)), h.below.trans (hb.mono (by omega)), Nat.le_trans h.hi hb.size⟩
theorem Pq.lat {w W W' : World} {pc oc : List Value} (h : Pq w pc W oc) (hb : Below W.heap.size W W') : Pq w pc W' oc := h.later (hb.mono h.hi)
theorem Pq.set {w W : World} {pc oc : List Value} (h : Pq w pc W oc) {j : Nat} (hj : j < oc.length) (v : Value) : Pq w pc (W.setCell ⟨w.heap.size + 1 + 1, j, none⟩ v) (oc.set j v) :=
 ⟨h.box.keep (Below.heap_setCell _ _ _ _ (show w.heap.size ≠ w.heap.size + 1 + 1 by omega)), h.out.set hj v, h.res.keep (Below.heap_setCell _ _ _ _ (show w.heap.size + 1 ≠ w.heap.size + 1 + 1 by omega)), h.below.setCell (p := ⟨w.heap.size + 1 + 1, j, none⟩) (by simp only; omega) v, by rw [zS]; exact h.hi⟩
theorem OwnF.setb {D : Nat} {W : World} {F : List (Nat × List Value)} (h : OwnF D W F) {b : Nat} (hb : b < D) (j : Nat) (v : Value) : OwnF D (W.setCell ⟨b, j, none⟩ v) F :=
 ⟨h.1, fun p hp => ⟨(h.2 p hp).1, by rw [zS]; exact (h.2 p hp).2.1, (h.2 p hp).2.2.keep (Below.heap_setCell _ _ _ _ (show p.1 ≠ b by have := (h.2 p hp).1; omega))⟩⟩
def Cv.fragY (c : Cv) : List (Nat × List Value) := fr1 c.ry (c.Y.map (Value.int .i64))
def Mr.fragZ (m : Mr) : List (Nat × List Value) := fr1 m.rz (m.rows.flatMap Rw.enc) ++ m.rows.flatMap Rw.frag
def CvG (w : World) (x : Cv) : Prop := (∀ W, Below w.heap.size w W → IsInts W x.rx x.cx .i64 x.X) ∧ SlF x.ry x.cy x.Y.length ∧ I64s x.Y
def MrG (w : World) (x : Mr) : Prop := (∀ W, Below w.heap.size w W → IsInts W x.rx x.cx .i64 x.X ∧ IsInts W x.ry x.cy .i64 x.Y) ∧ SlF x.rz x.cz x.rows.length ∧ ∀ y ∈ x.rows, y.sl
theorem yjb {D : Nat} {W : World} {F : List (Nat × List Value)} {r : Option Addr} {l : List Value} (h : OwnF D W (fr1 r l ++ F)) {p : Nat × List Value} (hp : p ∈ F) : ∀ a, r = some a → a.block ≠ p.1 := fun a ha e => by
 subst ha
 have := h.1
 simp only [fr1, List.cons_append, List.nil_append, List.map_cons, List.nodup_cons] at this
 exact this.1 (by rw [e]; exact List.mem_map_of_mem hp)
theorem ymh (w : World) (l0 l1 l2 : List Value) (t0 t1 t2 : TypeId) : AtV (((w.alloc (.cells l0.toArray t0)).alloc (.cells l1.toArray t1)).alloc (.cells l2.toArray t2)) w.heap.size l0 ∧
  AtV (((w.alloc (.cells l0.toArray t0)).alloc (.cells l1.toArray t1)).alloc (.cells l2.toArray t2)) (w.heap.size + 1) l1 ∧
  AtV (((w.alloc (.cells l0.toArray t0)).alloc (.cells l1.toArray t1)).alloc (.cells l2.toArray t2)) (w.heap.size + 2) l2 := by
 have kp : ∀ {W : World} {b : Nat} {l : List Value} (o : Obj), b < W.heap.size → AtV W b l → AtV (W.alloc o) b l := fun o hb h => h.keep (Below.heap_alloc _ _ _ hb)
 have nw : ∀ (W : World) (n : Nat) (l : List Value) (t : TypeId), W.heap.size = n → AtV (W.alloc (.cells l.toArray t)) n l := fun W n l t h => by subst h; exact AtV.new W l t
 refine ⟨?_, ?_, ?_⟩
 ·
  exact kp _ (by simp only [zA]; omega) (kp _ (by simp only [zA]; omega) (nw _ _ _ _ rfl))
 ·
  exact kp _ (by simp only [zA]; omega) (nw _ _ _ _ (by simp only [zA]))
 ·
  exact nw _ _ _ _ (by simp only [zA])
theorem yhm (p : PL) (i v : Int) (w : World) (hp : IsL w p) (hs : p.Sm) (hv : I64 v) (hi0 : 0 ≤ i) (hi1 : i ≤ 10000000000) (hN : p.params.length ≤ 10000000000) : Calls Tryz.prog 14 #[p.v.val, .int .i64 i, .int .i64 v] w fun e w' => ∃ q : PV, e = .returned q.val ∧ IsP w' q ∧ q.p = p.v.p.patch i v ∧ Below w.heap.size w w' := by
 have hB1 : Below w.heap.size w (w.alloc (.cells #[.slice p.rc p.xY.length p.cc] 28)) := (Below.refl _ _).alloc (Nat.le_refl _) _
 have HP := H! (fun W (h : Below w.heap.size w W) => hp.later h)
 have HPc : Hid (∀ W, Below w.heap.size w W → IsS 5 Ins.enc W p.rc p.cc p.xY) := H! (fun W h => (HP.out W h).xY)
 have HPv : Hid (∀ W, Below w.heap.size w W → IsS 2 Cv.enc W p.rv p.cv p.zY ∧ ∀ x ∈ p.zY, x.ok W) := H! (fun W h => ⟨(HP.out W h).zY, (HP.out W h).curvesG⟩)
 have HPm : Hid (∀ W, Below w.heap.size w W → IsS 3 Mr.enc W p.rm p.cm p.mY ∧ ∀ x ∈ p.mY, x.ok W) := H! (fun W h => ⟨(HP.out W h).mY, (HP.out W h).mapsG⟩)
 have HSm := H! hs
 have hlc : p.xY.length ≤ 10000000000 := hs.xY
 have hlv : p.zY.length ≤ 10000000000 := hs.zY
 have hlm : p.mY.length ≤ 10000000000 := hs.mY
 have hS1 : (p.xY.map Ins.num).sum ≤ 10000000000 := by
  rw [ycx Ins.num_eq]; unfold PL.params at hN; rw [List.length_append] at hN; show p.parI.length ≤ _; omega
 have HSL : Hid (∀ k, (((p.xY.take k).map Ins.num).sum : Int) ≤ 10000000000) := H! (fun k => by have := ydz Ins.num p.xY k; omega)
 have HSLv : Hid (∀ k, (((p.zY.take k).map (fun c : Cv => c.Y.length)).sum : Int) ≤ 10000000000) := H! (fun k => by
  have h1 := ydz (fun c : Cv => c.Y.length) p.zY k
  have h2 := ycx (n := fun c : Cv => c.Y.length) (par := Cv.Y) (fun _ => rfl) p.zY
  unfold PL.params PL.parC at hN
  rw [List.length_append, List.length_append] at hN
  omega)
 have HSLm : Hid (∀ k, (((p.mY.take k).map (fun m : Mr => m.par.length)).sum : Int) ≤ 10000000000) := H! (fun k => by
  have h1 := ydz (fun m : Mr => m.par.length) p.mY k
  have h2 := ycx (n := fun m : Mr => m.par.length) (par := Mr.par) (fun _ => rfl) p.mY
  unfold PL.params PL.parM at hN
  rw [List.length_append, List.length_append] at hN
  omega)
 clear hp hs hB1 hS1 hN
 obtain ⟨rc, cc, xY, rt, ct, tY, rv, cv, zY, rm, cm, mY, cells, ri, ci, qY, rs, cs, sY, ro, co, oY, rn, cn, iY⟩ := p
 simp only [PV.val, PL.v, List.length_map] at *
 go_enter Tryz.func14, Tryz.ntmps14
 go_upto_region 2 with fail
 obtain ⟨AP, AR, AO⟩ := ymh w [.slice rc xY.length cc, .slice rt tY.length ct, .slice rv zY.length cv, .slice rm mY.length cm, .int .i64 cells, .slice ri qY.length ci, .slice rs sY.length cs, .slice ro oY.length co, .slice rn iY.length cn] [.slice none 0 0, .slice none 0 0, .slice none 0 0, .slice none 0 0, .int .i64 0, .slice none 0 0, .slice none 0 0, .slice none 0 0, .slice none 0 0] [.slice rc xY.length cc, .slice rt tY.length ct, .slice rv zY.length cv, .slice rm mY.length cm, .int .i64 cells, .slice ri qY.length ci, .slice rs sY.length cs, .slice ro oY.length co, .slice rn iY.length cn] 28 28 28
 have hB1 : Below w.heap.size w (((w.alloc (.cells #[.slice rc xY.length cc, .slice rt tY.length ct, .slice rv zY.length cv, .slice rm mY.length cm, .int .i64 cells, .slice ri qY.length ci, .slice rs sY.length cs, .slice ro oY.length co, .slice rn iY.length cn] 28)).alloc (.cells #[.slice none 0 0, .slice none 0 0, .slice none 0 0, .slice none 0 0, .int .i64 0, .slice none 0 0, .slice none 0 0, .slice none 0 0, .slice none 0 0] 28)).alloc (.cells #[.slice rc xY.length cc, .slice rt tY.length ct, .slice rv zY.length cv, .slice rm mY.length cm, .int .i64 cells, .slice ri qY.length ci, .slice rs sY.length cs, .slice ro oY.length co, .slice rn iY.length cn] 28)) := bw
 have hz1 : w.heap.size + 3 ≤ (((w.alloc (.cells #[.slice rc xY.length cc, .slice rt tY.length ct, .slice rv zY.length cv, .slice rm mY.length cm, .int .i64 cells, .slice ri qY.length ci, .slice rs sY.length cs, .slice ro oY.length co, .slice rn iY.length cn] 28)).alloc (.cells #[.slice none 0 0, .slice none 0 0, .slice none 0 0, .slice none 0 0, .int .i64 0, .slice none 0 0, .slice none 0 0, .slice none 0 0, .slice none 0 0] 28)).alloc (.cells #[.slice rc xY.length cc, .slice rt tY.length ct, .slice rv zY.length cv, .slice rm mY.length cm, .int .i64 cells, .slice ri qY.length ci, .slice rs sY.length cs, .slice ro oY.length co, .slice rn iY.length cn] 28)).heap.size := by simp only [zA]; omega
 have HQ1 : Hid (Pq w [.slice rc xY.length cc, .slice rt tY.length ct, .slice rv zY.length cv, .slice rm mY.length cm, .int .i64 cells, .slice ri qY.length ci, .slice rs sY.length cs, .slice ro oY.length co, .slice rn iY.length cn] (((w.alloc (.cells #[.slice rc xY.length cc, .slice rt tY.length ct, .slice rv zY.length cv, .slice rm mY.length cm, .int .i64 cells, .slice ri qY.length ci, .slice rs sY.length cs, .slice ro oY.length co, .slice rn iY.length cn] 28)).alloc (.cells #[.slice none 0 0, .slice none 0 0, .slice none 0 0, .slice none 0 0, .int .i64 0, .slice none 0 0, .slice none 0 0, .slice none 0 0, .slice none 0 0] 28)).alloc (.cells #[.slice rc xY.length cc, .slice rt tY.length ct, .slice rv zY.length cv, .slice rm mY.length cm, .int .i64 cells, .slice ri qY.length ci, .slice rs sY.length cs, .slice ro oY.length co, .slice rn iY.length cn] 28)) [.slice rc xY.length cc, .slice rt tY.length ct, .slice rv zY.length cv, .slice rm mY.length cm, .int .i64 cells, .slice ri qY.length ci, .slice rs sY.length cs, .slice ro oY.length co, .slice rn iY.length cn]) := H! ⟨AP, AO, AR, hB1, hz1⟩
 clear AP AR AO hB1 hz1
 generalize ((w.alloc (.cells #[.slice rc xY.length cc, .slice rt tY.length ct, .slice rv zY.length cv, .slice rm mY.length cm, .int .i64 cells, .slice ri qY.length ci, .slice rs sY.length cs, .slice ro oY.length co, .slice rn iY.length cn] 28)).alloc (.cells #[.slice none 0 0, .slice none 0 0, .slice none 0 0, .slice none 0 0, .int .i64 0, .slice none 0 0, .slice none 0 0, .slice none 0 0, .slice none 0 0] 28)).alloc (.cells #[.slice rc xY.length cc, .slice rt tY.length ct, .slice rv zY.length cv, .slice rm mY.length cm, .int .i64 cells, .slice ri qY.length ci, .slice rs sY.length cs, .slice ro oY.length co, .slice rn iY.length cn] 28) = W1 at *
 obtain ⟨o0c, o0f⟩ := HQ1.out.out 0 _ rfl
 go_upto_region 3 with fail
 have HQ2 := H! (HQ1.out.set (j := 0) (by simp) (.slice none 0 0))
 simp only [List.set_cons_zero] at HQ2
 clear HQ1 o0c o0f
 generalize W1.setCell ⟨w.heap.size + 1 + 1, 0, none⟩ (.slice none 0 0) = W2 at *
 go_upto_region 4 with fail
 go_loopw [1, 8] (fun s1 s8 wr => ∃ (k : Nat) (r : Option Addr) (c : Nat) (done : List Ins), s1 = .int .i64 (i - (((xY.take k).map Ins.num).sum : Nat)) ∧ s8 = .int .i64 k ∧ k ≤ xY.length ∧ Hid (Pq w [.slice rc xY.length cc, .slice rt tY.length ct, .slice rv zY.length cv, .slice rm mY.length cm, .int .i64 cells, .slice ri qY.length ci, .slice rs sY.length cs, .slice ro oY.length co, .slice rn iY.length cn] wr [.slice r done.length c, .slice rt tY.length ct, .slice rv zY.length cv, .slice rm mY.length cm, .int .i64 cells, .slice ri qY.length ci, .slice rs sY.length cs, .slice ro oY.length co, .slice rn iY.length cn]) ∧ Hid (OwnR 42 5 Ins.enc wr (w.heap.size + 3) r c done) ∧ Hid (done = (updI xY i v).take k)) (fun _ s8 _ => xY.length - (intOf s8).toNat)
 case atStart => exact ⟨0, none, 0, [], by simp, rfl, Nat.zero_le _, HQ2, H! (OwnR.nil _ _), H! rfl⟩
 case round =>
  clear HQ2
  obtain ⟨k, r, c, done, rfl, rfl, hk, HQ, HO, HD⟩ := hrel
  have q0c := (HQ.out.box 0 _ rfl).1
  by_cases hlt : k < xY.length
  ·
   have hk1 : (0 : Int) ≤ (k : Int) := by omega
   have hk2 : (k : Int) < xY.length := by omega
   have HDn := H! (ygb (n := Ins.num) (g := Ins.put) hlt i v)
   rw [← HD.out] at HDn
   have HSn := H! (yge (n := Ins.num) hlt)
   have hsk := HSL.out k
   have hdl : done.length ≤ 10000000000 := by rw [HD.out, List.length_take, ybq]; omega
   obtain ⟨bX, off, rfl, hb, hc⟩ := (HPc.out wr HQ.out.below).at_ hlt
   have d0 : wr.cell? ⟨bX, off + k * 5, none⟩ = some (.int .i64 (xY.getD k default).op) := hc 0 _ rfl
   have d1 : wr.cell? ⟨bX, off + k * 5 + 1, none⟩ = some (.int .i64 (xY.getD k default).a) := hc 1 _ rfl
   have d2 : wr.cell? ⟨bX, off + k * 5 + 2, none⟩ = some (.int .i64 (xY.getD k default).b) := hc 2 _ rfl
   have d3 : wr.cell? ⟨bX, off + k * 5 + 3, none⟩ = some (.int .i64 (xY.getD k default).c) := hc 3 _ rfl
   have d4 : wr.cell? ⟨bX, off + k * 5 + 4, none⟩ = some (.int .i64 (xY.getD k default).k) := hc 4 _ rfl
   clear hc
   generalize hsum : ((xY.take k).map Ins.num).sum = S at *
   generalize xY.getD k default = x at *
   obtain ⟨xo, xa, xb, xc, xk⟩ := x
   simp only at d0 d1 d2 d3 d4
   go_upto_region 7 with fail
   have AI : AtV (wr.alloc (.cells #[.int .i64 xo, .int .i64 xa, .int .i64 xb, .int .i64 xc, .int .i64 xk] 42)) wr.heap.size [.int .i64 xo, .int .i64 xa, .int .i64 xb, .int .i64 xc, .int .i64 xk] := AtV.new wr [.int .i64 xo, .int .i64 xa, .int .i64 xb, .int .i64 xc, .int .i64 xk] 42
   have hb6 : Below wr.heap.size wr (wr.alloc (.cells #[.int .i64 xo, .int .i64 xa, .int .i64 xb, .int .i64 xc, .int .i64 xk] 42)) := (Below.refl _ _).alloc (Nat.le_refl _) _
   have hz6 : wr.heap.size < (wr.alloc (.cells #[.int .i64 xo, .int .i64 xa, .int .i64 xb, .int .i64 xc, .int .i64 xk] 42)).heap.size := by rw [zA]; omega
   have hzr : w.heap.size + 3 ≤ wr.heap.size := HQ.out.hi
   generalize wr.alloc (.cells #[.int .i64 xo, .int .i64 xa, .int .i64 xb, .int .i64 xc, .int .i64 xk] 42) = W6 at *
   have HQ6 := H! (HQ.out.lat hb6)
   have HO6 := H! (HO.out.below hb6 (Nat.le_refl _))
   have HOl := H! (fun a ha => (HO.out.lt a ha).2)
   clear d0 d1 d2 d3 d4 q0c HQ HO hb hb6
   generalize wr.heap.size = bc at *
   have i0c := (AI 0 _ rfl).1
   have i0f := (AI 0 _ rfl).2
   have i1c := (AI 1 _ rfl).1
   have i1f := (AI 1 _ rfl).2
   have i2c := (AI 2 _ rfl).1
   have i2f := (AI 2 _ rfl).2
   have i3c := (AI 3 _ rfl).1
   have i3f := (AI 3 _ rfl).2
   have i4c := (AI 4 _ rfl).1
   have i4f := (AI 4 _ rfl).2
   by_cases hop : xo = 1
   ·
    subst hop
    have hnum : Ins.num ⟨1, xa, xb, xc, xk⟩ = 1 := rfl
    by_cases his : i - (S : Int) = 0
    ·
     have hput : Ins.put ⟨1, xa, xb, xc, xk⟩ (i - S) v = ⟨1, xa, xb, xc, v⟩ := if_pos ⟨rfl, his⟩
     have his2 : (i - (S : Int) == 0) = true := by simpa using his
     go_upto_region 10 with fail
     have AI7 := AI.set (j := 4) (by simp) (.int .i64 v)
     simp only [List.set_cons_zero, List.set_cons_succ] at AI7
     have HQ7 := H! (HQ6.out.later ((Below.refl _ _).setCell (p := ⟨bc, 4, none⟩) hzr (.int .i64 v)))
     have HO7 := H! (HO6.out.keep (W' := W6.setCell ⟨bc, 4, none⟩ (.int .i64 v)) (fun a ha => Below.heap_setCell _ _ _ _ (show a.block ≠ bc from Nat.ne_of_lt (HOl.out a ha))))
     have hz7 : bc < (W6.setCell ⟨bc, 4, none⟩ (.int .i64 v)).heap.size := by rw [zS]; exact hz6
     clear i0c i0f i1c i1f i2c i2f i3c i3f i4c i4f
     generalize W6.setCell ⟨bc, 4, none⟩ (.int .i64 v) = W7 at *
     clear HQ6 HO6 AI hz6
     clear HOl
     have i0c := (AI7 0 _ rfl).1
     have i0f := (AI7 0 _ rfl).2
     have i1c := (AI7 1 _ rfl).1
     have i1f := (AI7 1 _ rfl).2
     have i2c := (AI7 2 _ rfl).1
     have i2f := (AI7 2 _ rfl).2
     have i3c := (AI7 3 _ rfl).1
     have i3f := (AI7 3 _ rfl).2
     have i4c := (AI7 4 _ rfl).1
     have i4f := (AI7 4 _ rfl).2
     obtain ⟨o0c, o0f⟩ := HQ7.out.out 0 _ rfl
     go_wp2_with (at_builtin; refine ybb Tryz.underlying22 yfh rfl (by omega) (by omega) (by rfl) _ _ (by rfl) W7 (w.heap.size + 3) r c done (⟨1, xa, xb, xc, v⟩ : Ins) (by rfl) (fun u hu => by simp only [Ins.enc, List.mem_cons, List.not_mem_nil, or_false] at hu; rcases hu with rfl | rfl | rfl | rfl | rfl <;> rfl) (by rfl) (by rfl) (by rfl) HO7.out (by omega) HQ7.out.hi ?_; intro r' c' w9 hown9 hbw9 hst9 hrr9; have HQ9 := H! (HQ7.out.later hbw9); have HO9 := H! hown9; have HST := H! hst9; have HRR := H! hrr9; have HB9 := H! hbw9; clear hown9 hst9 hrr9 hbw9; obtain ⟨p9c, p9f⟩ := HQ9.out.out 0 _ rfl)
     go_roundw
     case rel =>
      have hq10 := HQ9.out.set (j := 0) (by simp) (.slice r' (done.length + 1) c')
      simp only [List.set_cons_zero] at hq10
      exact ⟨k + 1, r', c', done ++ [⟨1, xa, xb, xc, v⟩], by rw [HSn.out, hnum]; go_num, by go_num, by omega, H! (by simpa using hq10), H! (HO9.out.setb (q := w.heap.size + 1 + 1) (j := 0) (by omega) (.slice r' (done.length + 1) c')), H! (by rw [HDn.out, hput])⟩
     case measure => simp [intOf]; omega
    ·
     have hput : Ins.put ⟨1, xa, xb, xc, xk⟩ (i - S) v = ⟨1, xa, xb, xc, xk⟩ := if_neg (fun h => his h.2)
     have his2 : (i - (S : Int) == 0) = false := by simpa using his
     obtain ⟨o0c, o0f⟩ := HQ6.out.out 0 _ rfl
     go_wp2_with (at_builtin; refine ybb Tryz.underlying22 yfh rfl (by omega) (by omega) (by rfl) _ _ (by rfl) W6 (w.heap.size + 3) r c done (⟨1, xa, xb, xc, xk⟩ : Ins) (by rfl) (fun u hu => by simp only [Ins.enc, List.mem_cons, List.not_mem_nil, or_false] at hu; rcases hu with rfl | rfl | rfl | rfl | rfl <;> rfl) (by rfl) (by rfl) (by rfl) HO6.out (by omega) HQ6.out.hi ?_; intro r' c' w9 hown9 hbw9 hst9 hrr9; have HQ9 := H! (HQ6.out.later hbw9); have HO9 := H! hown9; have HST := H! hst9; have HRR := H! hrr9; have HB9 := H! hbw9; clear hown9 hst9 hrr9 hbw9; obtain ⟨p9c, p9f⟩ := HQ9.out.out 0 _ rfl)
     go_roundw
     case rel =>
      have hq10 := HQ9.out.set (j := 0) (by simp) (.slice r' (done.length + 1) c')
      simp only [List.set_cons_zero] at hq10
      exact ⟨k + 1, r', c', done ++ [⟨1, xa, xb, xc, xk⟩], by rw [HSn.out, hnum]; go_num, by go_num, by omega, H! (by simpa using hq10), H! (HO9.out.setb (q := w.heap.size + 1 + 1) (j := 0) (by omega) (.slice r' (done.length + 1) c')), H! (by rw [HDn.out, hput])⟩
     case measure => simp [intOf]; omega
   ·
    have hop2 : (xo == 1) = false := by simpa using hop
    have hnum : Ins.num ⟨xo, xa, xb, xc, xk⟩ = 0 := if_neg hop
    have hput : Ins.put ⟨xo, xa, xb, xc, xk⟩ (i - S) v = ⟨xo, xa, xb, xc, xk⟩ := if_neg (fun h => hop h.1)
    obtain ⟨o0c, o0f⟩ := HQ6.out.out 0 _ rfl
    go_wp2_with (at_builtin; refine ybb Tryz.underlying22 yfh rfl (by omega) (by omega) (by rfl) _ _ (by rfl) W6 (w.heap.size + 3) r c done (⟨xo, xa, xb, xc, xk⟩ : Ins) (by rfl) (fun u hu => by simp only [Ins.enc, List.mem_cons, List.not_mem_nil, or_false] at hu; rcases hu with rfl | rfl | rfl | rfl | rfl <;> rfl) (by rfl) (by rfl) (by rfl) HO6.out (by omega) HQ6.out.hi ?_; intro r' c' w9 hown9 hbw9 hst9 hrr9; have HQ9 := H! (HQ6.out.later hbw9); have HO9 := H! hown9; have HST := H! hst9; have HRR := H! hrr9; have HB9 := H! hbw9; clear hown9 hst9 hrr9 hbw9; obtain ⟨p9c, p9f⟩ := HQ9.out.out 0 _ rfl)
    go_roundw
    case rel =>
     have hq10 := HQ9.out.set (j := 0) (by simp) (.slice r' (done.length + 1) c')
     simp only [List.set_cons_zero] at hq10
     exact ⟨k + 1, r', c', done ++ [⟨xo, xa, xb, xc, xk⟩], by rw [HSn.out, hnum]; go_num, by go_num, by omega, H! (by simpa using hq10), H! (HO9.out.setb (q := w.heap.size + 1 + 1) (j := 0) (by omega) (.slice r' (done.length + 1) c')), H! (by rw [HDn.out, hput])⟩
    case measure => simp [intOf]; omega
  ·
   obtain rfl : k = xY.length := by omega
   have hD : done = updI xY i v := by rw [HD.out, List.take_of_length_le (by rw [ybq]; exact Nat.le_refl _)]
   have HDc := H! hD
   rw [List.take_length]
   obtain ⟨S1, hS1⟩ : ∃ x, x = (xY.map Ins.num).sum := ⟨_, rfl⟩
   have hs1 : (S1 : Int) ≤ 10000000000 := by have := HSL.out xY.length; rw [List.take_length] at this; omega
   have HS1 := H! hS1
   rw [← hS1]
   have HSl1 := H! (yeg (enc := Ins.enc) (fun _ => rfl) HO.out).1
   have HF1 := H! (OwnF.fr (yeg (enc := Ins.enc) (fun _ => rfl) HO.out).2)
   obtain ⟨F1, hF1⟩ : ∃ x, x = fr1 r (done.flatMap Ins.enc) := ⟨_, rfl⟩
   rw [← hF1] at HF1
   have HF1e := H! hF1
   clear hF1 hS1 hD HD HO HSL hk hlt q0c
   obtain ⟨wA, rfl⟩ : ∃ x, x = wr := ⟨_, rfl⟩
   obtain ⟨r1, rfl⟩ : ∃ x, x = r := ⟨_, rfl⟩
   obtain ⟨c1, rfl⟩ : ∃ x, x = c := ⟨_, rfl⟩
   obtain ⟨code', rfl⟩ : ∃ x, x = done := ⟨_, rfl⟩
   have q0c := (HQ.out.box 0 _ rfl).1
   obtain ⟨o2c, o2f⟩ := HQ.out.out 2 _ rfl
   go_upto_region 13 with fail
   have HQ3 := H! (HQ.out.set (j := 2) (by simp) (.slice none 0 0))
   simp only [List.set_cons_zero, List.set_cons_succ] at HQ3
   have HF3 := H! (HF1.out.setb (b := w.heap.size + 1 + 1) (by omega) 2 (.slice none 0 0))
   clear HQ HF1 o2c o2f q0c
   generalize wA.setCell ⟨w.heap.size + 1 + 1, 2, none⟩ (.slice none 0 0) = W3 at *
   go_upto_region 14 with fail
   go_loopw [1, 10] (fun s1 s10 wr => ∃ (k : Nat) (r : Option Addr) (c : Nat) (dn : List Cv), s1 = .int .i64 (i - S1 - (((zY.take k).map (fun c => c.Y.length)).sum : Nat)) ∧ s10 = .int .i64 k ∧ k ≤ zY.length ∧ Hid (Pq w [.slice rc xY.length cc, .slice rt tY.length ct, .slice rv zY.length cv, .slice rm mY.length cm, .int .i64 cells, .slice ri qY.length ci, .slice rs sY.length cs, .slice ro oY.length co, .slice rn iY.length cn] wr [.slice r1 code'.length c1, .slice rt tY.length ct, .slice r dn.length c, .slice rm mY.length cm, .int .i64 cells, .slice ri qY.length ci, .slice rs sY.length cs, .slice ro oY.length co, .slice rn iY.length cn]) ∧ Hid (OwnR 55 2 Cv.enc wr (w.heap.size + 3) r c dn) ∧ Hid (OwnF (w.heap.size + 3) wr (fr1 r (dn.flatMap Cv.enc) ++ (F1 ++ dn.flatMap Cv.fragY))) ∧ Hid (∀ x ∈ dn, CvG w x) ∧ Hid (dn.map Cv.p = (updC (zY.map Cv.p) (i - S1) v).take k)) (fun _ s10 _ => zY.length - (intOf s10).toNat)
   case atStart => exact ⟨0, none, 0, [], by simp, rfl, Nat.zero_le _, HQ3, H! (OwnR.nil _ _), H! (HF3.out.cnt (fun x => by simp [fr1])), H! (by simp), H! rfl⟩
   case round =>
    clear HQ3 HF3
    obtain ⟨k, r, c, dn, rfl, rfl, hk, HQ, HO, HF, HG, HD⟩ := hrel
    have q2c := (HQ.out.box 2 _ rfl).1
    by_cases hlt : k < zY.length
    ·
     have hk1 : (0 : Int) ≤ (k : Int) := by omega
     have hk2 : (k : Int) < zY.length := by omega
     have hltm : k < (zY.map Cv.p).length := by rw [List.length_map]; exact hlt
     have hdn := ygb (n := fun c : List Int × List Int => c.2.length) (g := fun c i v => (c.1, setZ c.2 i v)) hltm (i - S1) v
     rw [← HD.out] at hdn
     have e1 : (zY.map Cv.p).getD k default = Cv.p (zY.getD k default) := by simp [List.getD, List.getElem?_map, List.getElem?_eq_getElem hlt]
     have e2 : (((zY.map Cv.p).take k).map (fun c : List Int × List Int => c.2.length)) = (zY.take k).map (fun c => c.Y.length) := by rw [← List.map_take, List.map_map]; rfl
     rw [e1, e2] at hdn
     have HDn := H! hdn
     have HSn := H! (yge (n := fun c : Cv => c.Y.length) hlt)
     have hsk := HSLv.out k
     have hdl : dn.length ≤ 10000000000 := by have h := congrArg List.length HD.out; rw [List.length_map, List.length_take, ybq, List.length_map] at h; omega
     obtain ⟨bX, off, hrv, hbw, -⟩ := (HPv.out w (Below.refl _ _)).1.at_ hlt
     have HBX : Hid (bX < w.heap.size + 3) := H! (by omega)
     subst hrv
     obtain ⟨bX', off', he, hb, hc⟩ := (HPv.out wr HQ.out.below).1.at_ hlt
     obtain ⟨rfl, rfl⟩ : bX = bX' ∧ off = off' := by simpa using he
     clear he
     have d0 : wr.cell? ⟨bX, off + k * 2, none⟩ = some (.slice (zY.getD k default).rx (zY.getD k default).X.length (zY.getD k default).cx) := hc 0 _ rfl
     have d1 : wr.cell? ⟨bX, off + k * 2 + 1, none⟩ = some (.slice (zY.getD k default).ry (zY.getD k default).Y.length (zY.getD k default).cy) := hc 1 _ rfl
     have HX : Hid (∀ W, Below w.heap.size w W → IsInts W (zY.getD k default).rx (zY.getD k default).cx .i64 (zY.getD k default).X ∧ IsInts W (zY.getD k default).ry (zY.getD k default).cy .i64 (zY.getD k default).Y) := H! (fun W h => (HPv.out W h).2 _ (yak hlt))
     have hyl := (HSm.out.curvesG _ (yak hlt)).2
     clear hc hdn e1 e2 hltm
     generalize hsum : ((zY.take k).map (fun c : Cv => c.Y.length)).sum = S at *
     generalize zY.getD k default = x at *
     obtain ⟨rx, cx, X, ry, cy, Y⟩ := x
     simp only at d0 d1 hyl HX
     obtain ⟨o2c, o2f⟩ := HQ.out.out 2 _ rfl
     have hzr := HQ.out.hi
     have hAlt : w.heap.size < w.heap.size + 3 := by omega
     have hAl2 : w.heap.size + 1 + 1 < w.heap.size + 3 := by omega
     have hb3 : bX < w.heap.size + 3 := HBX.out
     have HB0 := H! HQ.out.below
     have HC := H! (fun W (h : Below wr.heap.size wr W) => ygu ry cy Y (i - S1 - S) v W ((HX.out W (HB0.out.trans (h.mono HB0.out.size))).2) hyl)
     simp only [Cv.p] at HDn
     generalize hY' : setZ Y (i - S1 - S) v = Y' at *
     have HY' : Hid (I64s Y') := H! (by rw [← hY']; exact ygg (HX.out w (Below.refl _ _)).2.wf hv)
     clear hY'
     go_upto_region 16 with fail
     refine ybh (fun w' => Below (w.heap.size + 3) wr w') (fun i => decide (i < 21)) (by kernel_rfl) ?_
     have hSd : (fun w' => Below (w.heap.size + 3) wr w') wr.drew := (Below.refl _ _).drew
     try simp only [List.size_toArray, List.length_cons, List.length_nil, Array.replicate]
     refine yad (i := 0) (v := ?_) rfl (by kernel_rfl) (by kernel_rfl) (by kernel_rfl) (by kernel_rfl) (fun _ _ _ h => h) (Or.inl ⟨by rfl, ?y1⟩) (by assumption) ?r1
     case y1 => intro w0 hSw; (try dsimp only at hSw); go_simp; try with_reducible rfl
     try simp only [Act.put, List.setIfInBounds_toArray, List.set_cons_zero, List.set_cons_succ]
     refine yad (i := 1) (v := ?_) rfl (by kernel_rfl) (by kernel_rfl) (by kernel_rfl) (by kernel_rfl) (fun _ _ _ h => h) (Or.inl ⟨by rfl, ?y2⟩) (by assumption) ?r2
     case y2 => intro w0 hSw; (try dsimp only at hSw); have hx0 := (hSw.cell (p := ⟨w.heap.size + 1 + 1, 2, none⟩) hAl2).trans o2c; go_simp; try with_reducible rfl
     try simp only [Act.put, List.setIfInBounds_toArray, List.set_cons_zero, List.set_cons_succ]
     refine yad (i := 2) (v := ?_) rfl (by kernel_rfl) (by kernel_rfl) (by kernel_rfl) (by kernel_rfl) (fun _ _ _ h => h) (Or.inl ⟨by rfl, ?y3⟩) (by assumption) ?r3
     case y3 => intro w0 hSw; (try dsimp only at hSw); go_simp; try with_reducible rfl
     try simp only [Act.put, List.setIfInBounds_toArray, List.set_cons_zero, List.set_cons_succ]
     refine yad (i := 3) (v := ?_) rfl (by kernel_rfl) (by kernel_rfl) (by kernel_rfl) (by kernel_rfl) (fun _ _ _ h => h) (Or.inl ⟨by rfl, ?y4⟩) (by assumption) ?r4
     case y4 => intro w0 hSw; (try dsimp only at hSw); have hx0 := (hSw.cell (p := ⟨w.heap.size, 2, none⟩) hAlt).trans q2c; go_simp; try with_reducible rfl
     try simp only [Act.put, List.setIfInBounds_toArray, List.set_cons_zero, List.set_cons_succ]
     refine yad (i := 4) (v := ?_) rfl (by kernel_rfl) (by kernel_rfl) (by kernel_rfl) (by kernel_rfl) (fun _ _ _ h => h) (Or.inl ⟨by rfl, ?y5⟩) (by assumption) ?r5
     case y5 => intro w0 hSw; (try dsimp only at hSw); go_simp; try with_reducible rfl
     try simp only [Act.put, List.setIfInBounds_toArray, List.set_cons_zero, List.set_cons_succ]
     refine yad (i := 5) (v := ?_) rfl (by kernel_rfl) (by kernel_rfl) (by kernel_rfl) (by kernel_rfl) (fun _ _ _ h => h) (Or.inl ⟨by rfl, ?y6⟩) (by assumption) ?r6
     case y6 => intro w0 hSw; (try dsimp only at hSw); go_simp; try with_reducible rfl
     try simp only [Act.put, List.setIfInBounds_toArray, List.set_cons_zero, List.set_cons_succ]
     refine yad (i := 6) (v := ?_) rfl (by kernel_rfl) (by kernel_rfl) (by kernel_rfl) (by kernel_rfl) (fun _ _ _ h => h) (Or.inl ⟨by rfl, ?y7⟩) (by assumption) ?r7
     case y7 => intro w0 hSw; (try dsimp only at hSw); go_simp; try with_reducible rfl
     try simp only [Act.put, List.setIfInBounds_toArray, List.set_cons_zero, List.set_cons_succ]
     refine yad (i := 7) (v := ?_) rfl (by kernel_rfl) (by kernel_rfl) (by kernel_rfl) (by kernel_rfl) (fun _ _ _ h => h) (Or.inl ⟨by rfl, ?y8⟩) (by assumption) ?r8
     case y8 => intro w0 hSw; (try dsimp only at hSw); have hx0 := (hSw.cell (p := ⟨bX, off + k * 2, none⟩) hb3).trans d0; go_simp; try with_reducible rfl
     try simp only [Act.put, List.setIfInBounds_toArray, List.set_cons_zero, List.set_cons_succ]
     refine yad (i := 8) (v := ?_) rfl (by kernel_rfl) (by kernel_rfl) (by kernel_rfl) (by kernel_rfl) (fun _ _ _ h => h) (Or.inl ⟨by rfl, ?y9⟩) (by assumption) ?r9
     case y9 => intro w0 hSw; (try dsimp only at hSw); go_simp; try with_reducible rfl
     try simp only [Act.put, List.setIfInBounds_toArray, List.set_cons_zero, List.set_cons_succ]
     refine yad (i := 9) (v := ?_) rfl (by kernel_rfl) (by kernel_rfl) (by kernel_rfl) (by kernel_rfl) (fun _ _ _ h => h) (Or.inl ⟨by rfl, ?y10⟩) (by assumption) ?r10
     case y10 => intro w0 hSw; (try dsimp only at hSw); have hx0 := (hSw.cell (p := ⟨w.heap.size, 2, none⟩) hAlt).trans q2c; go_simp; try with_reducible rfl
     try simp only [Act.put, List.setIfInBounds_toArray, List.set_cons_zero, List.set_cons_succ]
     refine yad (i := 10) (v := ?_) rfl (by kernel_rfl) (by kernel_rfl) (by kernel_rfl) (by kernel_rfl) (fun _ _ _ h => h) (Or.inl ⟨by rfl, ?y11⟩) (by assumption) ?r11
     case y11 => intro w0 hSw; (try dsimp only at hSw); go_simp; try with_reducible rfl
     try simp only [Act.put, List.setIfInBounds_toArray, List.set_cons_zero, List.set_cons_succ]
     refine yad (i := 11) (v := ?_) rfl (by kernel_rfl) (by kernel_rfl) (by kernel_rfl) (by kernel_rfl) (fun _ _ _ h => h) (Or.inl ⟨by rfl, ?y12⟩) (by assumption) ?r12
     case y12 => intro w0 hSw; (try dsimp only at hSw); go_simp; try with_reducible rfl
     try simp only [Act.put, List.setIfInBounds_toArray, List.set_cons_zero, List.set_cons_succ]
     refine yad (i := 12) (v := ?_) rfl (by kernel_rfl) (by kernel_rfl) (by kernel_rfl) (by kernel_rfl) (fun _ _ _ h => h) (Or.inl ⟨by rfl, ?y13⟩) (by assumption) ?r13
     case y13 => intro w0 hSw; (try dsimp only at hSw); go_simp; try with_reducible rfl
     try simp only [Act.put, List.setIfInBounds_toArray, List.set_cons_zero, List.set_cons_succ]
     refine yad (i := 13) (v := ?_) rfl (by kernel_rfl) (by kernel_rfl) (by kernel_rfl) (by kernel_rfl) (fun _ _ _ h => h) (Or.inl ⟨by rfl, ?y14⟩) (by assumption) ?r14
     case y14 => intro w0 hSw; (try dsimp only at hSw); have hx0 := (hSw.cell (p := ⟨bX, off + k * 2 + 1, none⟩) hb3).trans d1; go_simp; try with_reducible rfl
     try simp only [Act.put, List.setIfInBounds_toArray, List.set_cons_zero, List.set_cons_succ]
     refine yad (i := 14) (v := ?_) rfl (by kernel_rfl) (by kernel_rfl) (by kernel_rfl) (by kernel_rfl) (fun _ _ _ h => h) (Or.inl ⟨by rfl, ?y15⟩) (by assumption) ?r15
     case y15 => intro w0 hSw; (try dsimp only at hSw); go_simp; try with_reducible rfl
     try simp only [Act.put, List.setIfInBounds_toArray, List.set_cons_zero, List.set_cons_succ]
     refine yad (i := 15) (v := ?_) rfl (by kernel_rfl) (by kernel_rfl) (by kernel_rfl) (by kernel_rfl) (fun _ _ _ h => h) (Or.inl ⟨by rfl, ?y16⟩) (by assumption) ?r16
     case y16 => intro w0 hSw; (try dsimp only at hSw); go_simp; try with_reducible rfl
     try simp only [Act.put, List.setIfInBounds_toArray, List.set_cons_zero, List.set_cons_succ]
     refine yat (i := 16) rfl (by kernel_rfl) (by rfl) (fun K hK => ?_)
     go_simp
     refine (HC.out wr.drew (Below.refl _ _).drew).mono ?_
     rintro _ w6 ⟨r6, c6, rfl, ho6, hb6⟩
     have HO6 := H! ho6
     have hb6' : Below wr.heap.size wr w6 := (Below.refl _ _).drew.trans hb6
     have hS6 : (fun w' => Below (w.heap.size + 3) wr w') w6 := hb6'.mono hzr
     clear ho6 hb6
     refine hK _ _ (fun _ => hS6) ?_
     clear hK K
     try simp only [Act.put, List.setIfInBounds_toArray, List.set_cons_zero, List.set_cons_succ]
     refine yad (i := 17) (v := ?_) rfl (by kernel_rfl) (by kernel_rfl) (by kernel_rfl) (by kernel_rfl) (fun _ _ _ h => h) (Or.inl ⟨by rfl, ?y17⟩) (by assumption) ?r17
     case y17 => intro w0 hSw; (try dsimp only at hSw); go_simp; try with_reducible rfl
     try simp only [Act.put, List.setIfInBounds_toArray, List.set_cons_zero, List.set_cons_succ]
     refine yat (i := 18) rfl (by kernel_rfl) (by rfl) (fun K hK => ?_)
     go_simp
     refine hK _ _ (fun _ => Below.alloc hS6 (Nat.le_trans hzr hb6'.size) _) ?_
     clear hK K
     try simp only [Act.put, List.setIfInBounds_toArray, List.set_cons_zero, List.set_cons_succ]
     have HO6r := H! (HO.out.below hb6' (Nat.le_refl _))
     refine ylx (i := 19) rfl (by kernel_rfl) (by rfl) ?_
     refine ybb Tryz.underlying24 yji rfl (by omega) (by omega) (by rfl) _ _ (by rfl) w6 (w.heap.size + 3) r c dn (⟨rx, cx, X, r6, c6, Y'⟩ : Cv) (by rfl) (fun u hu => by simp only [Cv.enc, List.mem_cons, List.not_mem_nil, or_false] at hu; rcases hu with rfl | rfl <;> rfl) (by rfl) (by rfl) (by rfl) HO6r.out (by omega) (Nat.le_trans hzr hb6'.size) ?_
     intro r' c' w9 hown9 hbw9 hst9 hrr9
     have hS9 : (fun w' => Below (w.heap.size + 3) wr w') w9 := hS6.trans hbw9
     have HO9 := H! hown9
     have HST := H! hst9
     have HRR := H! hrr9
     have HB9 := H! hbw9
     clear hown9 hst9 hrr9 hbw9
     refine ⟨fun _ => hS9, ?_⟩
     try simp only [Act.put, List.setIfInBounds_toArray, List.set_cons_zero, List.set_cons_succ]
     refine yad (i := 20) (v := ?_) rfl (by kernel_rfl) (by kernel_rfl) (by kernel_rfl) (by kernel_rfl) (fun _ _ _ h => h) (Or.inl ⟨by rfl, ?y18⟩) (by assumption) ?r18
     case y18 => intro w0 hSw; (try dsimp only at hSw); go_simp; try with_reducible rfl
     try simp only [Act.put, List.setIfInBounds_toArray, List.set_cons_zero, List.set_cons_succ]
     have p9c := (Below.cell (p := ⟨w.heap.size + 1 + 1, 2, none⟩) hS9 (show w.heap.size + 1 + 1 < w.heap.size + 3 by omega)).trans o2c
     have p9f := (Below.frozen (p := ⟨w.heap.size + 1 + 1, 2, none⟩) hS9 (show w.heap.size + 1 + 1 < w.heap.size + 3 by omega)).trans o2f
     refine yat (i := 21) rfl (by kernel_rfl) (by rfl) (fun K hK => ?_)
     go_simp
     refine hK _ _ (fun h => by cases h) ?_
     clear hK K
     try simp only [Act.put, List.setIfInBounds_toArray, List.set_cons_zero, List.set_cons_succ]
     refine ycb (by kernel_rfl) ?_
     have hq10 := (HQ.out.later hS9).set (j := 2) (by simp) (.slice r' (dn.length + 1) c')
     simp only [List.set_cons_zero, List.set_cons_succ] at hq10
     have hf1 := HF.out.addF hb6' hzr (Cl.ofK HO6.out).2
     have hf2 : OwnF (w.heap.size + 3) w6 (fr1 r (dn.flatMap Cv.enc) ++ (F1 ++ (dn ++ [(⟨rx, cx, X, r6, c6, Y'⟩ : Cv)]).flatMap Cv.fragY)) := hf1.cnt (fun x => by
      simp only [List.flatMap_append, List.flatMap_cons, List.flatMap_nil, List.append_nil, List.count_append, Cv.fragY]
      omega)
     have hf4 := (OwnF.app (enc := Cv.enc) (fun _ => rfl) hf2 HO9.out HB9.out.size HST.out HRR.out).setb (b := w.heap.size + 1 + 1) (by omega) 2 (.slice r' (dn.length + 1) c')
     have ho4 := HO9.out.setb (q := w.heap.size + 1 + 1) (j := 2) (by omega) (.slice r' (dn.length + 1) c')
     have hg4 : ∀ x ∈ dn ++ [(⟨rx, cx, X, r6, c6, Y'⟩ : Cv)], CvG w x := fun x hx => by
      rcases List.mem_append.1 hx with hx | hx
      ·
       exact HG.out x hx
      ·
       obtain rfl : x = _ := by simpa using hx
       exact ⟨fun W h => (HX.out W h).1, (Cl.ofK HO6.out).1, HY'.out⟩
     have hBx : Below w.heap.size wr (w9.setCell ⟨w.heap.size + 1 + 1, 2, none⟩ (.slice r' (dn.length + 1) c')) := (Below.mono hS9 (by omega)).setCell (p := ⟨w.heap.size + 1 + 1, 2, none⟩) (by simp only; omega) _
     have d1' := (hBx.cell (p := ⟨bX, off + k * 2 + 1, none⟩) hbw).trans d1
     have HQx := H! hq10
     have HFx := H! hf4
     have HOx := H! ho4
     have HGx := H! hg4
     clear hq10 hf1 hf2 hf4 ho4 hg4 hBx HQ HF HO HG HO9 HST HRR HB9 HO6 HO6r hS9 hS6 hb6' hSd p9c p9f o2c o2f q2c d0 d1 HX HC HB0
     generalize w9.setCell ⟨w.heap.size + 1 + 1, 2, none⟩ (.slice r' (dn.length + 1) c') = W10 at *
     have q2c := (HQx.out.box 2 _ rfl).1
     go_wp2
     go_roundw
     case rel => exact ⟨k + 1, r', c', dn ++ [⟨rx, cx, X, r6, c6, Y'⟩], by rw [HSn.out]; go_num, by go_num, by omega, H! (by simpa using HQx.out), HOx, HFx, HGx, H! (by rw [List.map_append]; exact HDn.out.symm)⟩
     case measure => simp [intOf]; omega
    ·
     obtain rfl : k = zY.length := by omega
     have hD : dn.map Cv.p = updC (zY.map Cv.p) (i - S1) v := by rw [HD.out, List.take_of_length_le (by rw [ybq, List.length_map]; exact Nat.le_refl _)]
     have HDv := H! hD
     rw [List.take_length]
     obtain ⟨S2, hS2⟩ : ∃ x, x = (zY.map (fun c : Cv => c.Y.length)).sum := ⟨_, rfl⟩
     have hs2 : (S2 : Int) ≤ 10000000000 := by have := HSLv.out zY.length; rw [List.take_length] at this; omega
     have HS2 := H! hS2
     rw [← hS2]
     have HSl2 := H! (yeg (enc := Cv.enc) (fun _ => rfl) HO.out).1
     obtain ⟨F2, hF2⟩ : ∃ x, x = fr1 r (dn.flatMap Cv.enc) ++ (F1 ++ dn.flatMap Cv.fragY) := ⟨_, rfl⟩
     rw [← hF2] at HF
     have HF2e := H! hF2
     clear hF2 hS2 hD HD HO HSLv hk hlt q2c
     obtain ⟨wB, rfl⟩ : ∃ x, x = wr := ⟨_, rfl⟩
     obtain ⟨r2, rfl⟩ : ∃ x, x = r := ⟨_, rfl⟩
     obtain ⟨c2, rfl⟩ : ∃ x, x = c := ⟨_, rfl⟩
     obtain ⟨curves', rfl⟩ : ∃ x, x = dn := ⟨_, rfl⟩
     have HGv := HG
     have q2c := (HQ.out.box 2 _ rfl).1
     obtain ⟨o3c, o3f⟩ := HQ.out.out 3 _ rfl
     go_upto_region 19 with fail
     have HQ5 := H! (HQ.out.set (j := 3) (by simp) (.slice none 0 0))
     simp only [List.set_cons_zero, List.set_cons_succ] at HQ5
     have HF5 := H! (HF.out.setb (b := w.heap.size + 1 + 1) (by omega) 3 (.slice none 0 0))
     clear HQ HF HG o3c o3f q2c
     generalize wB.setCell ⟨w.heap.size + 1 + 1, 3, none⟩ (.slice none 0 0) = W5 at *
     go_upto_region 20 with fail
     go_loopw [1, 11] (fun s1 s11 wr => ∃ (k : Nat) (r : Option Addr) (c : Nat) (dm : List Mr), s1 = .int .i64 (i - S1 - S2 - (((mY.take k).map (fun m => m.par.length)).sum : Nat)) ∧ s11 = .int .i64 k ∧ k ≤ mY.length ∧ Hid (Pq w [.slice rc xY.length cc, .slice rt tY.length ct, .slice rv zY.length cv, .slice rm mY.length cm, .int .i64 cells, .slice ri qY.length ci, .slice rs sY.length cs, .slice ro oY.length co, .slice rn iY.length cn] wr [.slice r1 code'.length c1, .slice rt tY.length ct, .slice r2 curves'.length c2, .slice r dm.length c, .int .i64 cells, .slice ri qY.length ci, .slice rs sY.length cs, .slice ro oY.length co, .slice rn iY.length cn]) ∧ Hid (OwnR 60 3 Mr.enc wr (w.heap.size + 3) r c dm) ∧ Hid (OwnF (w.heap.size + 3) wr (fr1 r (dm.flatMap Mr.enc) ++ (F2 ++ dm.flatMap Mr.fragZ))) ∧ Hid (∀ x ∈ dm, MrG w x) ∧ Hid (dm.map (fun m => m.m.p) = (updM (mY.map (fun m => m.m.p)) (i - S1 - S2) v).take k)) (fun _ s11 _ => mY.length - (intOf s11).toNat)
     case atStart => exact ⟨0, none, 0, [], by simp, rfl, Nat.zero_le _, HQ5, H! (OwnR.nil _ _), H! (HF5.out.cnt (fun x => by simp [fr1])), H! (by simp), H! rfl⟩
     case round =>
      clear HQ5 HF5
      obtain ⟨k, r, c, dm, rfl, rfl, hk, HQ, HO, HF, HG, HD⟩ := hrel
      have q3c := (HQ.out.box 3 _ rfl).1
      by_cases hlt : k < mY.length
      ·
       have hk1 : (0 : Int) ≤ (k : Int) := by omega
       have hk2 : (k : Int) < mY.length := by omega
       have hltm : k < (mY.map (fun m : Mr => m.m.p)).length := by rw [List.length_map]; exact hlt
       have hdn := ygb (n := fun m : List Int × List Int × List (List Int) => m.2.2.flatten.length) (g := fun m i v => (m.1, m.2.1, updN m.2.2 i v)) hltm (i - S1 - S2) v
       rw [← HD.out] at hdn
       have e1 : (mY.map (fun m : Mr => m.m.p)).getD k default = (mY.getD k default).m.p := by simp [List.getD, List.getElem?_map, List.getElem?_eq_getElem hlt]
       have e2 : (((mY.map (fun m : Mr => m.m.p)).take k).map (fun m : List Int × List Int × List (List Int) => m.2.2.flatten.length)) = (mY.take k).map (fun m => m.par.length) := by
        rw [← List.map_take, List.map_map]
        exact List.map_congr_left (fun m _ => by simp only [Function.comp, Mr.par_m])
       rw [e1, e2] at hdn
       have HDn := H! hdn
       have HSn := H! (yge (n := fun m : Mr => m.par.length) hlt)
       have hsk := HSLm.out k
       have hdl : dm.length ≤ 10000000000 := by have h := congrArg List.length HD.out; rw [List.length_map, List.length_take, ybq, List.length_map] at h; omega
       obtain ⟨bX, off, hrm, hbw, hc⟩ := (HPm.out w (Below.refl _ _)).1.at_ hlt
       subst hrm
       have HD0 : Hid (∀ W, Below w.heap.size w W → W.cell? ⟨bX, off + k * 3, none⟩ = some (.slice (mY.getD k default).rx (mY.getD k default).X.length (mY.getD k default).cx)) := H! (fun W h => (h.cell (p := ⟨bX, off + k * 3, none⟩) hbw).trans (hc 0 _ rfl))
       have HD1 : Hid (∀ W, Below w.heap.size w W → W.cell? ⟨bX, off + k * 3 + 1, none⟩ = some (.slice (mY.getD k default).ry (mY.getD k default).Y.length (mY.getD k default).cy)) := H! (fun W h => (h.cell (p := ⟨bX, off + k * 3 + 1, none⟩) hbw).trans (hc 1 _ rfl))
       have HD2 : Hid (∀ W, Below w.heap.size w W → W.cell? ⟨bX, off + k * 3 + 2, none⟩ = some (.slice (mY.getD k default).rz (mY.getD k default).rows.length (mY.getD k default).cz)) := H! (fun W h => (h.cell (p := ⟨bX, off + k * 3 + 2, none⟩) hbw).trans (hc 2 _ rfl))
       have HX : Hid (∀ W, Below w.heap.size w W → (mY.getD k default).ok W) := H! (fun W h => (HPm.out W h).2 _ (yak hlt))
       have HSk := H! (HSm.out.mapsG _ (yak hlt))
       have HSj : Hid (∀ j, ((((mY.getD k default).rows.take j).map (fun x : Rw => x.l.length)).sum : Int) ≤ 10000000000) := H! (fun j => by
        have h1 := ydz (fun x : Rw => x.l.length) (mY.getD k default).rows j
        have h2 := ycx (n := fun x : Rw => x.l.length) (par := Rw.l) (fun _ => rfl) (mY.getD k default).rows
        have h3 := HSn.out
        have h4 := HSLm.out (k + 1)
        unfold Mr.par at h3 h4
        omega)
       have HPE : Hid (Mr.par (mY.getD k default) = (mY.getD k default).rows.flatMap Rw.l) := H! rfl
       clear hc hdn e1 e2 hltm
       generalize hsum : ((mY.take k).map (fun m : Mr => m.par.length)).sum = S at *
       generalize mY.getD k default = x at *
       obtain ⟨rx, cx, X, ry, cy, Y, rz0, cz0, rows⟩ := x
       simp only at HD0 HD1 HD2 HX HSk HSj HPE
       have hmr : rows.length ≤ 10000000000 := HSk.out.2.2.1
       have hzr := HQ.out.hi
       have d0 := HD0.out wr HQ.out.below
       have d1 := HD1.out wr HQ.out.below
       have hAlt : w.heap.size < w.heap.size + 3 := by omega
       have hb3 : bX < w.heap.size + 3 := by omega
       go_upto_region 22 with fail
       refine ybh (fun w' => Below (w.heap.size + 3) wr w') (fun i => decide (i < 14)) (by kernel_rfl) ?_
       have hSd : (fun w' => Below (w.heap.size + 3) wr w') wr.drew := (Below.refl _ _).drew
       try simp only [List.size_toArray, List.length_cons, List.length_nil, Array.replicate]
       refine yad (i := 0) (v := ?_) rfl (by kernel_rfl) (by kernel_rfl) (by kernel_rfl) (by kernel_rfl) (fun _ _ _ h => h) (Or.inl ⟨by rfl, ?y19⟩) (by assumption) ?r19
       case y19 => intro w0 hSw; (try dsimp only at hSw); go_simp; try with_reducible rfl
       try simp only [Act.put, List.setIfInBounds_toArray, List.set_cons_zero, List.set_cons_succ]
       refine yad (i := 1) (v := ?_) rfl (by kernel_rfl) (by kernel_rfl) (by kernel_rfl) (by kernel_rfl) (fun _ _ _ h => h) (Or.inl ⟨by rfl, ?y20⟩) (by assumption) ?r20
       case y20 => intro w0 hSw; (try dsimp only at hSw); have hx0 := (hSw.cell (p := ⟨w.heap.size, 3, none⟩) hAlt).trans q3c; go_simp; try with_reducible rfl
       try simp only [Act.put, List.setIfInBounds_toArray, List.set_cons_zero, List.set_cons_succ]
       refine yad (i := 2) (v := ?_) rfl (by kernel_rfl) (by kernel_rfl) (by kernel_rfl) (by kernel_rfl) (fun _ _ _ h => h) (Or.inl ⟨by rfl, ?y21⟩) (by assumption) ?r21
       case y21 => intro w0 hSw; (try dsimp only at hSw); go_simp; try with_reducible rfl
       try simp only [Act.put, List.setIfInBounds_toArray, List.set_cons_zero, List.set_cons_succ]
       refine yad (i := 3) (v := ?_) rfl (by kernel_rfl) (by kernel_rfl) (by kernel_rfl) (by kernel_rfl) (fun _ _ _ h => h) (Or.inl ⟨by rfl, ?y22⟩) (by assumption) ?r22
       case y22 => intro w0 hSw; (try dsimp only at hSw); go_simp; try with_reducible rfl
       try simp only [Act.put, List.setIfInBounds_toArray, List.set_cons_zero, List.set_cons_succ]
       refine yad (i := 4) (v := ?_) rfl (by kernel_rfl) (by kernel_rfl) (by kernel_rfl) (by kernel_rfl) (fun _ _ _ h => h) (Or.inl ⟨by rfl, ?y23⟩) (by assumption) ?r23
       case y23 => intro w0 hSw; (try dsimp only at hSw); go_simp; try with_reducible rfl
       try simp only [Act.put, List.setIfInBounds_toArray, List.set_cons_zero, List.set_cons_succ]
       refine yad (i := 5) (v := ?_) rfl (by kernel_rfl) (by kernel_rfl) (by kernel_rfl) (by kernel_rfl) (fun _ _ _ h => h) (Or.inl ⟨by rfl, ?y24⟩) (by assumption) ?r24
       case y24 => intro w0 hSw; (try dsimp only at hSw); have hx0 := (hSw.cell (p := ⟨bX, off + k * 3, none⟩) hb3).trans d0; go_simp; try with_reducible rfl
       try simp only [Act.put, List.setIfInBounds_toArray, List.set_cons_zero, List.set_cons_succ]
       refine yad (i := 6) (v := ?_) rfl (by kernel_rfl) (by kernel_rfl) (by kernel_rfl) (by kernel_rfl) (fun _ _ _ h => h) (Or.inl ⟨by rfl, ?y25⟩) (by assumption) ?r25
       case y25 => intro w0 hSw; (try dsimp only at hSw); go_simp; try with_reducible rfl
       try simp only [Act.put, List.setIfInBounds_toArray, List.set_cons_zero, List.set_cons_succ]
       refine yad (i := 7) (v := ?_) rfl (by kernel_rfl) (by kernel_rfl) (by kernel_rfl) (by kernel_rfl) (fun _ _ _ h => h) (Or.inl ⟨by rfl, ?y26⟩) (by assumption) ?r26
       case y26 => intro w0 hSw; (try dsimp only at hSw); have hx0 := (hSw.cell (p := ⟨w.heap.size, 3, none⟩) hAlt).trans q3c; go_simp; try with_reducible rfl
       try simp only [Act.put, List.setIfInBounds_toArray, List.set_cons_zero, List.set_cons_succ]
       refine yad (i := 8) (v := ?_) rfl (by kernel_rfl) (by kernel_rfl) (by kernel_rfl) (by kernel_rfl) (fun _ _ _ h => h) (Or.inl ⟨by rfl, ?y27⟩) (by assumption) ?r27
       case y27 => intro w0 hSw; (try dsimp only at hSw); go_simp; try with_reducible rfl
       try simp only [Act.put, List.setIfInBounds_toArray, List.set_cons_zero, List.set_cons_succ]
       refine yad (i := 9) (v := ?_) rfl (by kernel_rfl) (by kernel_rfl) (by kernel_rfl) (by kernel_rfl) (fun _ _ _ h => h) (Or.inl ⟨by rfl, ?y28⟩) (by assumption) ?r28
       case y28 => intro w0 hSw; (try dsimp only at hSw); go_simp; try with_reducible rfl
       try simp only [Act.put, List.setIfInBounds_toArray, List.set_cons_zero, List.set_cons_succ]
       refine yad (i := 10) (v := ?_) rfl (by kernel_rfl) (by kernel_rfl) (by kernel_rfl) (by kernel_rfl) (fun _ _ _ h => h) (Or.inl ⟨by rfl, ?y29⟩) (by assumption) ?r29
       case y29 => intro w0 hSw; (try dsimp only at hSw); go_simp; try with_reducible rfl
       try simp only [Act.put, List.setIfInBounds_toArray, List.set_cons_zero, List.set_cons_succ]
       refine yad (i := 11) (v := ?_) rfl (by kernel_rfl) (by kernel_rfl) (by kernel_rfl) (by kernel_rfl) (fun _ _ _ h => h) (Or.inl ⟨by rfl, ?y30⟩) (by assumption) ?r30
       case y30 => intro w0 hSw; (try dsimp only at hSw); have hx0 := (hSw.cell (p := ⟨bX, off + k * 3 + 1, none⟩) hb3).trans d1; go_simp; try with_reducible rfl
       try simp only [Act.put, List.setIfInBounds_toArray, List.set_cons_zero, List.set_cons_succ]
       refine yad (i := 12) (v := ?_) rfl (by kernel_rfl) (by kernel_rfl) (by kernel_rfl) (by kernel_rfl) (fun _ _ _ h => h) (Or.inl ⟨by rfl, ?y31⟩) (by assumption) ?r31
       case y31 => intro w0 hSw; (try dsimp only at hSw); go_simp; try with_reducible rfl
       try simp only [Act.put, List.setIfInBounds_toArray, List.set_cons_zero, List.set_cons_succ]
       refine yat (i := 13) rfl (by kernel_rfl) (by rfl) (fun K hK => ?_)
       go_simp
       refine hK _ _ (fun _ => Below.alloc hSd hzr _) ?_
       clear hK K
       try simp only [Act.put, List.setIfInBounds_toArray, List.set_cons_zero, List.set_cons_succ]
       refine yat (i := 14) rfl (by kernel_rfl) (by rfl) (fun K hK => ?_)
       go_simp
       refine hK _ _ (fun h => by cases h) ?_
       clear hK K
       try simp only [Act.put, List.setIfInBounds_toArray, List.set_cons_zero, List.set_cons_succ]
       refine ycb (by kernel_rfl) ?_
       clear hSd d0 d1
       have AM : AtV (wr.alloc (.cells #[.slice rx X.length cx, .slice ry Y.length cy, .slice none 0 0] 60)).drew wr.heap.size [.slice rx X.length cx, .slice ry Y.length cy, .slice none 0 0] := AtV.new wr [.slice rx X.length cx, .slice ry Y.length cy, .slice none 0 0] 60
       have hbM : Below wr.heap.size wr (wr.alloc (.cells #[.slice rx X.length cx, .slice ry Y.length cy, .slice none 0 0] 60)).drew := ((Below.refl _ _).alloc (Nat.le_refl _) _).drew
       have hMl : wr.heap.size < (wr.alloc (.cells #[.slice rx X.length cx, .slice ry Y.length cy, .slice none 0 0] 60)).drew.heap.size := by show _ < (wr.alloc _).heap.size; rw [zA]; omega
       have hf0 := HF.out.add hbM hzr (Nat.le_refl _) hMl AM
       have HQ7 := H! (HQ.out.lat hbM)
       have HO7 := H! (HO.out.below hbM (Nat.le_refl _))
       obtain ⟨bM, hbMe⟩ : ∃ x, x = wr.heap.size := ⟨_, rfl⟩
       have hM3 : w.heap.size + 3 ≤ bM := by omega
       rw [← hbMe] at hf0 ⊢
       obtain ⟨G, hG⟩ : ∃ x, x = fr1 r (dm.flatMap Mr.enc) ++ (F2 ++ dm.flatMap Mr.fragZ) := ⟨_, rfl⟩
       rw [← hG] at hf0
       have HGe := H! hG
       clear hG
       have HF7 : Hid (OwnF (w.heap.size + 3) (wr.alloc (.cells #[.slice rx X.length cx, .slice ry Y.length cy, .slice none 0 0] 60)).drew (fr1 none (([] : List Rw).flatMap Rw.enc) ++ ((bM, [.slice rx X.length cx, .slice ry Y.length cy, .slice none ([] : List Rw).length 0]) :: (G ++ ([] : List Rw).flatMap Rw.frag)))) := H! (hf0.cnt (fun x => by
        simp only [fr1, List.flatMap_nil, List.append_nil, List.nil_append, List.count_append, List.count_cons, List.count_nil, List.length_nil]
        omega))
       clear hf0 AM hbM hMl HF HO HQ q3c hbMe hzr hAlt
       generalize (wr.alloc (.cells #[.slice rx X.length cx, .slice ry Y.length cy, .slice none 0 0] 60)).drew = W7 at *
       obtain ⟨wC, rfl⟩ : ∃ x, x = wr := ⟨_, rfl⟩
       obtain ⟨Tz, hTz⟩ : ∃ x, x = i - (S1 : Int) - S2 - S := ⟨_, rfl⟩
       have hT1 : Tz ≤ 10000000000 := by omega
       have hT2 : -30000000000 ≤ Tz := by omega
       have HTz := H! hTz
       rw [← hTz]
       rw [← hTz] at HDn
       clear hTz
       go_upto_region 24 with fail
       go_loopw [1, 13] (fun s1 s13 wz => ∃ (j : Nat) (rz : Option Addr) (cz : Nat) (dr : List Rw), s1 = .int .i64 (Tz - (((rows.take j).map (fun x => x.l.length)).sum : Nat)) ∧ s13 = .int .i64 j ∧ j ≤ rows.length ∧ Hid (Pq w [.slice rc xY.length cc, .slice rt tY.length ct, .slice rv zY.length cv, .slice (some ⟨bX, off, none⟩) mY.length cm, .int .i64 cells, .slice ri qY.length ci, .slice rs sY.length cs, .slice ro oY.length co, .slice rn iY.length cn] wz [.slice r1 code'.length c1, .slice rt tY.length ct, .slice r2 curves'.length c2, .slice r dm.length c, .int .i64 cells, .slice ri qY.length ci, .slice rs sY.length cs, .slice ro oY.length co, .slice rn iY.length cn]) ∧ Hid (OwnR 60 3 Mr.enc wz (w.heap.size + 3) r c dm) ∧ Hid (OwnR 26 1 Rw.enc wz (w.heap.size + 3) rz cz dr) ∧ Hid (OwnF (w.heap.size + 3) wz (fr1 rz (dr.flatMap Rw.enc) ++ ((bM, [.slice rx X.length cx, .slice ry Y.length cy, .slice rz dr.length cz]) :: (G ++ dr.flatMap Rw.frag)))) ∧ Hid (∀ x ∈ dr, x.sl) ∧ Hid (dr.map Rw.l = (updN (rows.map Rw.l) Tz v).take j)) (fun _ s13 _ => rows.length - (intOf s13).toNat)
       case atStart => exact ⟨0, none, 0, [], by simp, rfl, Nat.zero_le _, HQ7, HO7, H! (OwnR.nil _ _), HF7, H! (by simp), H! rfl⟩
       case round =>
        clear HQ7 HO7 HF7
        obtain ⟨j, rz, cz, dr, rfl, rfl, hj, HQ, HO, HOr, HF, HRs, HDr⟩ := hrel
        have q3c := (HQ.out.box 3 _ rfl).1
        have hzr := HQ.out.hi
        have d2 := HD2.out wr HQ.out.below
        obtain ⟨-, hMl, AM⟩ := HF.out.get (b := bM) (l := [.slice rx X.length cx, .slice ry Y.length cy, .slice rz dr.length cz]) (by simp)
        by_cases hjl : j < rows.length
        ·
         have hj1 : (0 : Int) ≤ (j : Int) := by omega
         have hj2 : (j : Int) < rows.length := by omega
         obtain ⟨m2c, m2f⟩ := AM 2 _ rfl
         have hltm : j < (rows.map Rw.l).length := by rw [List.length_map]; exact hjl
         have hdn := ygb (n := List.length) (g := setZ) hltm Tz v
         rw [show (upd (α := List Int) List.length setZ (rows.map Rw.l) Tz v).take j = dr.map Rw.l from HDr.out.symm] at hdn
         have e1 : (rows.map Rw.l).getD j default = (rows.getD j default).l := by simp [List.getD, List.getElem?_map, List.getElem?_eq_getElem hjl]
         have e2 : ((rows.map Rw.l).take j).map List.length = (rows.take j).map (fun x => x.l.length) := by rw [← List.map_take, List.map_map]; rfl
         rw [e1, e2] at hdn
         have HDn2 := H! hdn
         have HSn2 := H! (yge (n := fun x : Rw => x.l.length) hjl)
         have hsj := HSj.out j
         have hdl2 : dr.length ≤ 10000000000 := by have h := congrArg List.length HDr.out; rw [List.length_map, List.length_take, ybq, List.length_map] at h; omega
         obtain ⟨bZ, ofz, hrz, hbz, hc⟩ := (HX.out w (Below.refl _ _)).2.2.1.at_ hjl
         simp only at hrz hc
         subst hrz
         have dz0 : w.cell? ⟨bZ, ofz + j, none⟩ = some (.slice (rows.getD j default).r (rows.getD j default).l.length (rows.getD j default).c) := by have := hc 0 _ rfl; rwa [Nat.mul_one, Nat.add_zero] at this
         have dz := (HQ.out.below.cell (p := ⟨bZ, ofz + j, none⟩) hbz).trans dz0
         have HL : Hid (∀ W, Below w.heap.size w W → IsInts W (rows.getD j default).r (rows.getD j default).c .i64 (rows.getD j default).l) := H! (fun W h => (HX.out W h).2.2.2 _ (yak hjl))
         have hll := HSk.out.2.2.2 _ (yak hjl)
         clear hc hdn e1 e2 hltm dz0
         generalize hsum2 : ((rows.take j).map (fun x : Rw => x.l.length)).sum = Sj at *
         generalize rows.getD j default = x at *
         obtain ⟨rl, cl, L⟩ := x
         simp only at dz HL hll HDn2
         have hAlt : w.heap.size < w.heap.size + 3 := by omega
         have hbz3 : bZ < w.heap.size + 3 := by omega
         have hb3 : bX < w.heap.size + 3 := by omega
         have HB0 := H! HQ.out.below
         have HC := H! (fun W (h : Below wr.heap.size wr W) => ygu rl cl L (Tz - Sj) v W (HL.out W (HB0.out.trans (h.mono HB0.out.size))) hll)
         generalize hY' : setZ L (Tz - Sj) v = L' at *
         have HL' : Hid (I64s L') := H! (by rw [← hY']; exact ygg (HL.out w (Below.refl _ _)).wf hv)
         clear hY' HB0
         have hOlt : ∀ a, r = some a → a.block < wr.heap.size := fun a ha => (HO.out.lt a ha).2
         have HOlt := H! hOlt
         clear hOlt
         go_upto_region 26 with fail
         refine ybh (fun w' => Below (w.heap.size + 3) wr w' ∧ w'.cell? ⟨bM, 2, none⟩ = some (.slice rz dr.length cz)) (fun i => decide (i < 17)) (by kernel_rfl) ?_
         have hSd : (fun w' => Below (w.heap.size + 3) wr w' ∧ w'.cell? ⟨bM, 2, none⟩ = some (.slice rz dr.length cz)) wr.drew := ⟨(Below.refl _ _).drew, m2c⟩
         try simp only [List.size_toArray, List.length_cons, List.length_nil, Array.replicate]
         refine yad (i := 0) (v := ?_) rfl (by kernel_rfl) (by kernel_rfl) (by kernel_rfl) (by kernel_rfl) (fun _ _ _ h => h) (Or.inl ⟨by rfl, ?y32⟩) (by assumption) ?r32
         case y32 => intro w0 hSw; (try dsimp only at hSw); go_simp; try with_reducible rfl
         try simp only [Act.put, List.setIfInBounds_toArray, List.set_cons_zero, List.set_cons_succ]
         refine yad (i := 1) (v := ?_) rfl (by kernel_rfl) (by kernel_rfl) (by kernel_rfl) (by kernel_rfl) (fun _ _ _ h => h) (Or.inl ⟨by rfl, ?y33⟩) (by assumption) ?r33
         case y33 => intro w0 hSw; (try dsimp only at hSw); have hd0 := hSw.2; go_simp; try with_reducible rfl
         try simp only [Act.put, List.setIfInBounds_toArray, List.set_cons_zero, List.set_cons_succ]
         refine yad (i := 2) (v := ?_) rfl (by kernel_rfl) (by kernel_rfl) (by kernel_rfl) (by kernel_rfl) (fun _ _ _ h => h) (Or.inl ⟨by rfl, ?y34⟩) (by assumption) ?r34
         case y34 => intro w0 hSw; (try dsimp only at hSw); go_simp; try with_reducible rfl
         try simp only [Act.put, List.setIfInBounds_toArray, List.set_cons_zero, List.set_cons_succ]
         refine yad (i := 3) (v := ?_) rfl (by kernel_rfl) (by kernel_rfl) (by kernel_rfl) (by kernel_rfl) (fun _ _ _ h => h) (Or.inl ⟨by rfl, ?y35⟩) (by assumption) ?r35
         case y35 => intro w0 hSw; (try dsimp only at hSw); have hx0 := (hSw.1.cell (p := ⟨w.heap.size, 3, none⟩) hAlt).trans q3c; go_simp; try with_reducible rfl
         try simp only [Act.put, List.setIfInBounds_toArray, List.set_cons_zero, List.set_cons_succ]
         refine yad (i := 4) (v := ?_) rfl (by kernel_rfl) (by kernel_rfl) (by kernel_rfl) (by kernel_rfl) (fun _ _ _ h => h) (Or.inl ⟨by rfl, ?y36⟩) (by assumption) ?r36
         case y36 => intro w0 hSw; (try dsimp only at hSw); go_simp; try with_reducible rfl
         try simp only [Act.put, List.setIfInBounds_toArray, List.set_cons_zero, List.set_cons_succ]
         refine yad (i := 5) (v := ?_) rfl (by kernel_rfl) (by kernel_rfl) (by kernel_rfl) (by kernel_rfl) (fun _ _ _ h => h) (Or.inl ⟨by rfl, ?y37⟩) (by assumption) ?r37
         case y37 => intro w0 hSw; (try dsimp only at hSw); go_simp; try with_reducible rfl
         try simp only [Act.put, List.setIfInBounds_toArray, List.set_cons_zero, List.set_cons_succ]
         refine yad (i := 6) (v := ?_) rfl (by kernel_rfl) (by kernel_rfl) (by kernel_rfl) (by kernel_rfl) (fun _ _ _ h => h) (Or.inl ⟨by rfl, ?y38⟩) (by assumption) ?r38
         case y38 => intro w0 hSw; (try dsimp only at hSw); go_simp; try with_reducible rfl
         try simp only [Act.put, List.setIfInBounds_toArray, List.set_cons_zero, List.set_cons_succ]
         refine yad (i := 7) (v := ?_) rfl (by kernel_rfl) (by kernel_rfl) (by kernel_rfl) (by kernel_rfl) (fun _ _ _ h => h) (Or.inl ⟨by rfl, ?y39⟩) (by assumption) ?r39
         case y39 => intro w0 hSw; (try dsimp only at hSw); have hx0 := (hSw.1.cell (p := ⟨bX, off + k * 3 + 2, none⟩) hb3).trans d2; go_simp; try with_reducible rfl
         try simp only [Act.put, List.setIfInBounds_toArray, List.set_cons_zero, List.set_cons_succ]
         refine yad (i := 8) (v := ?_) rfl (by kernel_rfl) (by kernel_rfl) (by kernel_rfl) (by kernel_rfl) (fun _ _ _ h => h) (Or.inl ⟨by rfl, ?y40⟩) (by assumption) ?r40
         case y40 => intro w0 hSw; (try dsimp only at hSw); go_simp; try with_reducible rfl
         try simp only [Act.put, List.setIfInBounds_toArray, List.set_cons_zero, List.set_cons_succ]
         refine yad (i := 9) (v := ?_) rfl (by kernel_rfl) (by kernel_rfl) (by kernel_rfl) (by kernel_rfl) (fun _ _ _ h => h) (Or.inl ⟨by rfl, ?y41⟩) (by assumption) ?r41
         case y41 => intro w0 hSw; (try dsimp only at hSw); go_simp; try with_reducible rfl
         try simp only [Act.put, List.setIfInBounds_toArray, List.set_cons_zero, List.set_cons_succ]
         refine yad (i := 10) (v := ?_) rfl (by kernel_rfl) (by kernel_rfl) (by kernel_rfl) (by kernel_rfl) (fun _ _ _ h => h) (Or.inl ⟨by rfl, ?y42⟩) (by assumption) ?r42
         case y42 => intro w0 hSw; (try dsimp only at hSw); have hx0 := (hSw.1.cell (p := ⟨bZ, ofz + j, none⟩) hbz3).trans dz; go_simp; try with_reducible rfl
         try simp only [Act.put, List.setIfInBounds_toArray, List.set_cons_zero, List.set_cons_succ]
         refine yad (i := 11) (v := ?_) rfl (by kernel_rfl) (by kernel_rfl) (by kernel_rfl) (by kernel_rfl) (fun _ _ _ h => h) (Or.inl ⟨by rfl, ?y43⟩) (by assumption) ?r43
         case y43 => intro w0 hSw; (try dsimp only at hSw); go_simp; try with_reducible rfl
         try simp only [Act.put, List.setIfInBounds_toArray, List.set_cons_zero, List.set_cons_succ]
         refine yad (i := 12) (v := ?_) rfl (by kernel_rfl) (by kernel_rfl) (by kernel_rfl) (by kernel_rfl) (fun _ _ _ h => h) (Or.inl ⟨by rfl, ?y44⟩) (by assumption) ?r44
         case y44 => intro w0 hSw; (try dsimp only at hSw); go_simp; try with_reducible rfl
         try simp only [Act.put, List.setIfInBounds_toArray, List.set_cons_zero, List.set_cons_succ]
         refine yat (i := 13) rfl (by kernel_rfl) (by rfl) (fun K hK => ?_)
         go_simp
         refine (HC.out wr.drew (Below.refl _ _).drew).mono ?_
         rintro _ w13 ⟨r13, c13, rfl, ho13, hb13⟩
         have HO13 := H! ho13
         have hb13' : Below wr.heap.size wr w13 := (Below.refl _ _).drew.trans hb13
         have hS13 : (fun w' => Below (w.heap.size + 3) wr w' ∧ w'.cell? ⟨bM, 2, none⟩ = some (.slice rz dr.length cz)) w13 := ⟨hb13'.mono hzr, (hb13'.cell (p := ⟨bM, 2, none⟩) hMl).trans m2c⟩
         clear ho13 hb13
         refine hK _ _ (fun _ => hS13) ?_
         clear hK K
         try simp only [Act.put, List.setIfInBounds_toArray, List.set_cons_zero, List.set_cons_succ]
         refine yat (i := 14) rfl (by kernel_rfl) (by rfl) (fun K hK => ?_)
         go_simp
         refine hK _ _ (fun _ => ⟨Below.alloc hS13.1 (Nat.le_trans hzr hb13'.size) _, (((Below.refl _ _).alloc (Nat.le_refl _) _).cell (p := ⟨bM, 2, none⟩) (Nat.lt_of_lt_of_le hMl hb13'.size)).trans hS13.2⟩) ?_
         clear hK K
         try simp only [Act.put, List.setIfInBounds_toArray, List.set_cons_zero, List.set_cons_succ]
         have HO13r := H! (HOr.out.below hb13' (Nat.le_refl _))
         have hf13 := HF.out.below hb13'
         refine ylx (i := 15) rfl (by kernel_rfl) (by rfl) ?_
         refine ybb Tryz.underlying58 ync rfl (by omega) (by omega) (by rfl) _ _ (by rfl) w13 (w.heap.size + 3) rz cz dr (⟨r13, c13, L'⟩ : Rw) (by rfl) (fun u hu => by simp only [Rw.enc, List.mem_cons, List.not_mem_nil, or_false] at hu; rcases hu with rfl; rfl) (by rfl) (by rfl) (by rfl) HO13r.out (by omega) (Nat.le_trans hzr hb13'.size) ?_
         intro r' c' w9 hown9 hbw9 hst9 hrr9
         have hS9 : (fun w' => Below (w.heap.size + 3) wr w' ∧ w'.cell? ⟨bM, 2, none⟩ = some (.slice rz dr.length cz)) w9 := ⟨hS13.1.trans hbw9, by
          have h1 := yjb HF.out (p := (bM, [.slice rx X.length cx, .slice ry Y.length cy, .slice rz dr.length cz])) (by simp)
          rw [World.cell?_of_block (a := ⟨bM, 2, none⟩) (hst9 bM (Nat.lt_of_lt_of_le hMl hb13'.size) h1)]
          exact hS13.2⟩
         have HO9 := H! hown9
         have HST := H! hst9
         have HRR := H! hrr9
         have HB9 := H! hbw9
         have m9f : w9.frozen? ⟨bM, 2, none⟩ = false := by
          have h1 := yjb HF.out (p := (bM, [.slice rx X.length cx, .slice ry Y.length cy, .slice rz dr.length cz])) (by simp)
          have h2 := hst9 bM (Nat.lt_of_lt_of_le hMl hb13'.size) h1
          exact ((AtV.keep (hf13.get (b := bM) (l := [.slice rx X.length cx, .slice ry Y.length cy, .slice rz dr.length cz]) (by simp)).2.2 h2) 2 _ rfl).2
         have m9c := hS9.2
         clear hown9 hst9 hrr9 hbw9
         refine ⟨fun _ => hS9, ?_⟩
         try simp only [Act.put, List.setIfInBounds_toArray, List.set_cons_zero, List.set_cons_succ]
         refine yad (i := 16) (v := ?_) rfl (by kernel_rfl) (by kernel_rfl) (by kernel_rfl) (by kernel_rfl) (fun _ _ _ h => h) (Or.inl ⟨by rfl, ?y45⟩) (by assumption) ?r45
         case y45 => intro w0 hSw; (try dsimp only at hSw); go_simp; try with_reducible rfl
         try simp only [Act.put, List.setIfInBounds_toArray, List.set_cons_zero, List.set_cons_succ]
         refine yat (i := 17) rfl (by kernel_rfl) (by rfl) (fun K hK => ?_)
         go_simp
         refine hK _ _ (fun h => by cases h) ?_
         clear hK K
         try simp only [Act.put, List.setIfInBounds_toArray, List.set_cons_zero, List.set_cons_succ]
         refine ycb (by kernel_rfl) ?_
         have hq10 := (HQ.out.later hS9.1).later ((Below.refl _ _).setCell (p := ⟨bM, 2, none⟩) hM3 (.slice r' (dr.length + 1) c'))
         have hf1 := HF.out.addF hb13' hzr (Cl.ofK HO13.out).2
         have hf2 : OwnF (w.heap.size + 3) w13 (fr1 rz (dr.flatMap Rw.enc) ++ ((bM, [.slice rx X.length cx, .slice ry Y.length cy, .slice rz dr.length cz]) :: (G ++ (dr ++ [(⟨r13, c13, L'⟩ : Rw)]).flatMap Rw.frag))) := hf1.cnt (fun x => by
          simp only [List.flatMap_append, List.flatMap_cons, List.flatMap_nil, List.append_nil, List.count_append, List.count_cons, Rw.frag]
          omega)
         have hf3 := OwnF.app (enc := Rw.enc) (fun _ => rfl) hf2 HO9.out HB9.out.size HST.out HRR.out
         have hf4 := OwnF.set (i := 2) hf3 (by simp) (.slice r' (dr.length + 1) c')
         simp only [List.set_cons_zero, List.set_cons_succ] at hf4
         have hf5 := hf3.sub (List.sublist_append_right _ _)
         have hor : OwnR 60 3 Mr.enc w9 (w.heap.size + 3) r c dm := (HO.out.below hb13' (Nat.le_refl _)).keep (fun a ha => HST.out a.block (Nat.lt_of_lt_of_le (HOlt.out a ha) hb13'.size) (fun a' ha' => yjb hf2 (p := (a.block, dm.flatMap Mr.enc)) (by rw [HGe.out, ha]; simp [fr1]) a' ha'))
         have hor2 := hor.keep (W' := w9.setCell ⟨bM, 2, none⟩ (.slice r' (dr.length + 1) c')) (fun a ha => Below.heap_setCell _ _ _ _ (fun e => yjb (r := some ⟨bM, 0, none⟩) hf5 (p := (a.block, dm.flatMap Mr.enc)) (by rw [HGe.out, ha]; simp [fr1]) _ rfl e.symm))
         have ho4 := HO9.out.keep (W' := w9.setCell ⟨bM, 2, none⟩ (.slice r' (dr.length + 1) c')) (fun a ha => Below.heap_setCell _ _ _ _ (fun e => yjb hf3 (p := (bM, [.slice rx X.length cx, .slice ry Y.length cy, .slice rz dr.length cz])) (by simp) a ha e))
         have hg4 : ∀ x ∈ dr ++ [(⟨r13, c13, L'⟩ : Rw)], x.sl := fun x hx => by
          rcases List.mem_append.1 hx with hx | hx
          ·
           exact HRs.out x hx
          ·
           obtain rfl : x = _ := by simpa using hx
           exact ⟨(Cl.ofK HO13.out).1, HL'.out⟩
         have hBx : Below w.heap.size wr (w9.setCell ⟨bM, 2, none⟩ (.slice r' (dr.length + 1) c')) := (Below.mono hS9.1 (by omega)).setCell (p := ⟨bM, 2, none⟩) (by simp only; omega) _
         have d2' := (hBx.cell (p := ⟨bX, off + k * 3 + 2, none⟩) hbw).trans d2
         have dz' := (hBx.cell (p := ⟨bZ, ofz + j, none⟩) hbz).trans dz
         have HQx := H! hq10
         have HFx := H! hf4
         have HOx := H! ho4
         have HOy := H! hor2
         have HGx := H! hg4
         clear hq10 hf1 hf2 hf3 hf4 hf5 hor hor2 ho4 hg4 hBx HQ HF HO HOr HRs HO9 HST HRR HB9 HO13 HO13r hS9 hS13 hb13' hSd m2c m2f m9c m9f hf13 q3c d2 dz HL HC AM
         generalize w9.setCell ⟨bM, 2, none⟩ (.slice r' (dr.length + 1) c') = W10 at *
         have q3c := (HQx.out.box 3 _ rfl).1
         go_wp2
         go_roundw
         case rel => exact ⟨j + 1, r', c', dr ++ [⟨r13, c13, L'⟩], by rw [HSn2.out]; go_num, by go_num, by omega, HQx, HOy, HOx, H! (by simpa using HFx.out), HGx, H! (by rw [List.map_append]; exact HDn2.out.symm)⟩
         case measure => simp [intOf]; omega
        ·
         obtain rfl : j = rows.length := by omega
         have hdr : dr.map Rw.l = updN (rows.map Rw.l) Tz v := by rw [HDr.out, List.take_of_length_le (by rw [ybq, List.length_map]; exact Nat.le_refl _)]
         have HDe := H! hdr
         rw [List.take_length]
         have hsz : (rows.map (fun x : Rw => x.l.length)).sum = (Mr.par ⟨rx, cx, X, ry, cy, Y, rz0, cz0, rows⟩).length := by rw [HPE.out]; exact ycx (fun _ => rfl) rows
         rw [hsz]
         have HSl3 := H! (yeg (enc := Rw.enc) (fun _ => rfl) HOr.out).1
         have m0c := (AM 0 _ rfl).1
         have m1c := (AM 1 _ rfl).1
         have m2c := (AM 2 _ rfl).1
         obtain ⟨o3c, o3f⟩ := HQ.out.out 3 _ rfl
         clear hdr hsz AM HDr
         go_wp2_with (at_builtin; refine ybb Tryz.underlying25 ynd rfl (by omega) (by omega) (by rfl) _ _ (by rfl) wr (w.heap.size + 3) r c dm (⟨rx, cx, X, ry, cy, Y, rz, cz, dr⟩ : Mr) (by rfl) (fun u hu => by simp only [Mr.enc, List.mem_cons, List.not_mem_nil, or_false] at hu; rcases hu with rfl | rfl | rfl <;> rfl) (by rfl) (by rfl) (by rfl) HO.out (by omega) HQ.out.hi ?_; intro r' c' w9 hown9 hbw9 hst9 hrr9; have HQ9 := H! (HQ.out.later hbw9); have HO9 := H! hown9; have HST := H! hst9; have HRR := H! hrr9; have HB9 := H! hbw9; clear hown9 hst9 hrr9 hbw9; obtain ⟨p9c, p9f⟩ := HQ9.out.out 3 _ rfl)
         have hq10 := HQ9.out.set (j := 3) (by simp) (.slice r' (dm.length + 1) c')
         simp only [List.set_cons_zero, List.set_cons_succ] at hq10
         have hf2 : OwnF (w.heap.size + 3) wr (fr1 r (dm.flatMap Mr.enc) ++ ((bM, [.slice rx X.length cx, .slice ry Y.length cy, .slice rz dr.length cz]) :: (F2 ++ (dm ++ [(⟨rx, cx, X, ry, cy, Y, rz, cz, dr⟩ : Mr)]).flatMap Mr.fragZ))) := HF.out.cnt (fun x => by
          rw [HGe.out]
          simp only [List.flatMap_append, List.flatMap_cons, List.flatMap_nil, List.append_nil, List.count_append, List.count_cons, Mr.fragZ]
          omega)
         have hf3 := OwnF.app (enc := Mr.enc) (fun _ => rfl) hf2 HO9.out HB9.out.size HST.out HRR.out
         have hf4 : OwnF (w.heap.size + 3) w9 ((bM, [.slice rx X.length cx, .slice ry Y.length cy, .slice rz dr.length cz]) :: (fr1 r' ((dm ++ [(⟨rx, cx, X, ry, cy, Y, rz, cz, dr⟩ : Mr)]).flatMap Mr.enc) ++ (F2 ++ (dm ++ [(⟨rx, cx, X, ry, cy, Y, rz, cz, dr⟩ : Mr)]).flatMap Mr.fragZ))) := hf3.cnt (fun x => by
          simp only [List.count_append, List.count_cons]
          omega)
         have hf5 := (hf4.sub (List.sublist_cons_self _ _)).setb (b := w.heap.size + 1 + 1) (by omega) 3 (.slice r' (dm.length + 1) c')
         have ho5 := HO9.out.setb (q := w.heap.size + 1 + 1) (j := 3) (by omega) (.slice r' (dm.length + 1) c')
         have hg5 : ∀ x ∈ dm ++ [(⟨rx, cx, X, ry, cy, Y, rz, cz, dr⟩ : Mr)], MrG w x := fun x hx => by
          rcases List.mem_append.1 hx with hx | hx
          ·
           exact HG.out x hx
          ·
           obtain rfl : x = _ := by simpa using hx
           exact ⟨fun W h => ⟨(HX.out W h).1, (HX.out W h).2.1⟩, HSl3.out, HRs.out⟩
         have HQx := H! hq10
         have HFx := H! hf5
         have HOx := H! ho5
         have HGx := H! hg5
         clear hq10 hf2 hf3 hf4 hf5 ho5 hg5
         go_roundw
         case rel => exact ⟨k + 1, r', c', dm ++ [⟨rx, cx, X, ry, cy, Y, rz, cz, dr⟩], congrArg (Value.int .i64) (by rw [HSn.out]; have := HTz.out; omega), by go_num, by omega, H! (by simpa using HQx.out), HOx, HFx, HGx, H! (by
          rw [List.map_append]
          refine Eq.trans ?_ HDn.out.symm
          rw [List.map_cons, List.map_nil]
          show _ ++ [(X, Y, dr.map Rw.l)] = _ ++ [(X, Y, updN (rows.map Rw.l) Tz v)]
          rw [HDe.out])⟩
         case measure => simp [intOf]; omega
      ·
       obtain rfl : k = mY.length := by omega
       have hD : dm.map (fun m => m.m.p) = updM (mY.map (fun m => m.m.p)) (i - S1 - S2) v := by rw [HD.out, List.take_of_length_le (by rw [ybq, List.length_map]; exact Nat.le_refl _)]
       have HDm := H! hD
       have HSl3 := H! (yeg (enc := Mr.enc) (fun _ => rfl) HO.out).1
       clear hD HD
       have ARr := HQ.out.res
       have AOr := HQ.out.out
       have y0c := (ARr 0 _ rfl).1
       have y0f := (ARr 0 _ rfl).2
       have y1c := (ARr 1 _ rfl).1
       have y1f := (ARr 1 _ rfl).2
       have y2c := (ARr 2 _ rfl).1
       have y2f := (ARr 2 _ rfl).2
       have y3c := (ARr 3 _ rfl).1
       have y3f := (ARr 3 _ rfl).2
       have y4c := (ARr 4 _ rfl).1
       have y4f := (ARr 4 _ rfl).2
       have y5c := (ARr 5 _ rfl).1
       have y5f := (ARr 5 _ rfl).2
       have y6c := (ARr 6 _ rfl).1
       have y6f := (ARr 6 _ rfl).2
       have y7c := (ARr 7 _ rfl).1
       have y7f := (ARr 7 _ rfl).2
       have y8c := (ARr 8 _ rfl).1
       have y8f := (ARr 8 _ rfl).2
       have o0c := (AOr 0 _ rfl).1
       have o1c := (AOr 1 _ rfl).1
       have o2c := (AOr 2 _ rfl).1
       have o3c := (AOr 3 _ rfl).1
       have o4c := (AOr 4 _ rfl).1
       have o5c := (AOr 5 _ rfl).1
       have o6c := (AOr 6 _ rfl).1
       have o7c := (AOr 7 _ rfl).1
       have o8c := (AOr 8 _ rfl).1
       clear ARr AOr
       go_wp2
       refine bodyPost_ret (by simp [results, Tryz.results14, go_sem, *]; try rfl) rfl ?_
       have hfW := (((((((((HF.out.setb (b := w.heap.size + 1) (by omega) 0 (.slice r1 code'.length c1)).setb (b := w.heap.size + 1) (by omega) 1 (.slice rt tY.length ct)).setb (b := w.heap.size + 1) (by omega) 2 (.slice r2 curves'.length c2)).setb (b := w.heap.size + 1) (by omega) 3 (.slice r dm.length c)).setb (b := w.heap.size + 1) (by omega) 4 (.int .i64 cells)).setb (b := w.heap.size + 1) (by omega) 5 (.slice ri qY.length ci)).setb (b := w.heap.size + 1) (by omega) 6 (.slice rs sY.length cs)).setb (b := w.heap.size + 1) (by omega) 7 (.slice ro oY.length co)).setb (b := w.heap.size + 1) (by omega) 8 (.slice rn iY.length cn))
       have hBf : Below w.heap.size w (((((((((wr.setCell ⟨w.heap.size + 1, 0, none⟩ (.slice r1 code'.length c1)).setCell ⟨w.heap.size + 1, 1, none⟩ (.slice rt tY.length ct)).setCell ⟨w.heap.size + 1, 2, none⟩ (.slice r2 curves'.length c2)).setCell ⟨w.heap.size + 1, 3, none⟩ (.slice r dm.length c)).setCell ⟨w.heap.size + 1, 4, none⟩ (.int .i64 cells)).setCell ⟨w.heap.size + 1, 5, none⟩ (.slice ri qY.length ci)).setCell ⟨w.heap.size + 1, 6, none⟩ (.slice rs sY.length cs)).setCell ⟨w.heap.size + 1, 7, none⟩ (.slice ro oY.length co)).setCell ⟨w.heap.size + 1, 8, none⟩ (.slice rn iY.length cn)) := (((((((((HQ.out.below.setCell (p := ⟨w.heap.size + 1, 0, none⟩) (by simp only; omega) (.slice r1 code'.length c1)).setCell (p := ⟨w.heap.size + 1, 1, none⟩) (by simp only; omega) (.slice rt tY.length ct)).setCell (p := ⟨w.heap.size + 1, 2, none⟩) (by simp only; omega) (.slice r2 curves'.length c2)).setCell (p := ⟨w.heap.size + 1, 3, none⟩) (by simp only; omega) (.slice r dm.length c)).setCell (p := ⟨w.heap.size + 1, 4, none⟩) (by simp only; omega) (.int .i64 cells)).setCell (p := ⟨w.heap.size + 1, 5, none⟩) (by simp only; omega) (.slice ri qY.length ci)).setCell (p := ⟨w.heap.size + 1, 6, none⟩) (by simp only; omega) (.slice rs sY.length cs)).setCell (p := ⟨w.heap.size + 1, 7, none⟩) (by simp only; omega) (.slice ro oY.length co)).setCell (p := ⟨w.heap.size + 1, 8, none⟩) (by simp only; omega) (.slice rn iY.length cn))
       rw [HF2e.out, HF1e.out] at hfW
       have hIL : IsL (((((((((wr.setCell ⟨w.heap.size + 1, 0, none⟩ (.slice r1 code'.length c1)).setCell ⟨w.heap.size + 1, 1, none⟩ (.slice rt tY.length ct)).setCell ⟨w.heap.size + 1, 2, none⟩ (.slice r2 curves'.length c2)).setCell ⟨w.heap.size + 1, 3, none⟩ (.slice r dm.length c)).setCell ⟨w.heap.size + 1, 4, none⟩ (.int .i64 cells)).setCell ⟨w.heap.size + 1, 5, none⟩ (.slice ri qY.length ci)).setCell ⟨w.heap.size + 1, 6, none⟩ (.slice rs sY.length cs)).setCell ⟨w.heap.size + 1, 7, none⟩ (.slice ro oY.length co)).setCell ⟨w.heap.size + 1, 8, none⟩ (.slice rn iY.length cn)) ⟨r1, c1, code', rt, ct, tY, r2, c2, curves', r, c, dm, cells, ri, ci, qY, rs, cs, sY, ro, co, oY, rn, cn, iY⟩ := by
        refine ⟨OwnF.isS (sz := 5) (enc := Ins.enc) hfW (fun _ => rfl) HSl1.out (fun q hq => ?_), ?_, (HP.out _ hBf).tY, (HP.out _ hBf).typesG, OwnF.isS (sz := 2) (enc := Cv.enc) hfW (fun _ => rfl) HSl2.out (fun q hq => ?_), fun x hx => ⟨(HGv.out x hx).1 _ hBf, hfW.ints (HGv.out x hx).2.1 (HGv.out x hx).2.2 (fun q hq => ?_)⟩,
         OwnF.isS (sz := 3) (enc := Mr.enc) hfW (fun _ => rfl) HSl3.out (fun q hq => ?_), fun x hx => ⟨((HG.out x hx).1 _ hBf).1, ((HG.out x hx).1 _ hBf).2, OwnF.isS (sz := 1) (enc := Rw.enc) hfW (fun _ => rfl) (HG.out x hx).2.1 (fun q hq => ?_), fun y hy => hfW.ints ((HG.out x hx).2.2 y hy).1 ((HG.out x hx).2.2 y hy).2 (fun q hq => ?_)⟩, (HP.out _ hBf).cells, (HP.out _ hBf).qY, (HP.out _ hBf).sY, (HP.out _ hBf).oY, (HP.out _ hBf).iY⟩
        ·
         simp only [List.mem_append]; exact .inr (.inl (.inr (.inl hq)))
        ·
         intro x hx
         have hx2 : x ∈ updI xY i v := by rw [← HDc.out]; exact hx
         exact ygo (p := Ins.ok) (fun x i h => Ins.put_ok i hv h) xY i (HP.out _ hBf).codeG x hx2
        ·
         simp only [List.mem_append]; exact .inr (.inl (.inl hq))
        ·
         simp only [List.mem_append]; exact .inr (.inl (.inr (.inr (List.mem_flatMap.2 ⟨x, hx, hq⟩))))
        ·
         simp only [List.mem_append]; exact .inl hq
        ·
         simp only [List.mem_append]; exact .inr (.inr (List.mem_flatMap.2 ⟨x, hx, List.mem_append.2 (.inl hq)⟩))
        ·
         simp only [List.mem_append]; exact .inr (.inr (List.mem_flatMap.2 ⟨x, hx, List.mem_append.2 (.inr (List.mem_flatMap.2 ⟨y, hy, hq⟩))⟩))
       refine ⟨PL.v ⟨r1, c1, code', rt, ct, tY, r2, c2, curves', r, c, dm, cells, ri, ci, qY, rs, cs, sY, ro, co, oY, rn, cn, iY⟩, ?_, hIL.isP, ?_, hBf⟩
       ·
        simp only [PL.v, List.length_map]
       ·
        have h1 := HS1.out
        have h2 := HS2.out
        rw [ycx Ins.num_eq] at h1
        rw [ycx (par := Cv.Y) (fun _ => rfl)] at h2
        have h3 : ((zY.map Cv.p).flatMap (fun c => c.2)).length = S2 := by rw [h2, List.flatMap_map]; rfl
        simp only [PV.p, PL.v, PP.patch, PP.parI, PP.parC, List.map_map]
        rw [h3, ← h1, HDc.out, HDv.out, show (Mp.p ∘ Mr.m) = (fun m : Mr => m.m.p) from rfl, HDm.out]
theorem yfk {α : Type} [Inhabited α] {f : α → List Int} {l : List α} {k : Nat} (h : k < l.length) : (l.take (k + 1)).flatMap f = (l.take k).flatMap f ++ f (l.getD k default) := by
 exact ydu f h
theorem yik {α : Type} {f : α → List Int} (l : List α) (k : Nat) : ((l.take k).flatMap f).length ≤ (l.flatMap f).length := by
 have := congrArg (List.flatMap f) (List.take_append_drop k l)
 rw [List.flatMap_append] at this
 rw [← this, List.length_append]
 omega
theorem yen (p : PL) (w : World) (hp : IsL w p) (hl : p.params.length ≤ 10000000000) : Calls Tryz.prog 12 #[p.v.val] w fun e w' => ∃ r c, e = .returned (.slice r p.params.length c) ∧ OwnK .i64 3 w' w.heap.size r c p.params ∧ Below w.heap.size w w' := by
 obtain ⟨rc, cc, xY, rt, ct, tY, rv, cv, zY, rm, cm, mY, cells, ri, ci, qY, rs, cs, sY, ro, co, oY, rn, cn, iY⟩ := p
 have HE : Hid (PL.params ⟨rc, cc, xY, rt, ct, tY, rv, cv, zY, rm, cm, mY, cells, ri, ci, qY, rs, cs, sY, ro, co, oY, rn, cn, iY⟩ = xY.flatMap Ins.par ++ (zY.flatMap Cv.Y ++ mY.flatMap Mr.par)) := H! rfl
 have hl2 := hl
 rw [HE.out] at hl2
 simp only [List.length_append] at hl2
 have hB1 : Below w.heap.size w (w.alloc (.cells #[.slice rc xY.length cc, .slice rt tY.length ct, .slice rv zY.length cv, .slice rm mY.length cm, .int .i64 cells, .slice ri qY.length ci, .slice rs sY.length cs, .slice ro oY.length co, .slice rn iY.length cn] 28)) := (Below.refl _ _).alloc (Nat.le_refl _) _
 have HP := H! (fun W (h : Below (w.alloc (.cells #[.slice rc xY.length cc, .slice rt tY.length ct, .slice rv zY.length cv, .slice rm mY.length cm, .int .i64 cells, .slice ri qY.length ci, .slice rs sY.length cs, .slice ro oY.length co, .slice rn iY.length cn] 28)).heap.size (w.alloc (.cells #[.slice rc xY.length cc, .slice rt tY.length ct, .slice rv zY.length cv, .slice rm mY.length cm, .int .i64 cells, .slice ri qY.length ci, .slice rs sY.length cs, .slice ro oY.length co, .slice rn iY.length cn] 28)) W) => hp.later (hB1.trans (h.mono hB1.size)))
 have HPc : Hid (∀ W, Below (w.alloc (.cells #[.slice rc xY.length cc, .slice rt tY.length ct, .slice rv zY.length cv, .slice rm mY.length cm, .int .i64 cells, .slice ri qY.length ci, .slice rs sY.length cs, .slice ro oY.length co, .slice rn iY.length cn] 28)).heap.size (w.alloc (.cells #[.slice rc xY.length cc, .slice rt tY.length ct, .slice rv zY.length cv, .slice rm mY.length cm, .int .i64 cells, .slice ri qY.length ci, .slice rs sY.length cs, .slice ro oY.length co, .slice rn iY.length cn] 28)) W → IsS 5 Ins.enc W rc cc xY) := H! (fun W h => (HP.out W h).xY)
 have HPv : Hid (∀ W, Below (w.alloc (.cells #[.slice rc xY.length cc, .slice rt tY.length ct, .slice rv zY.length cv, .slice rm mY.length cm, .int .i64 cells, .slice ri qY.length ci, .slice rs sY.length cs, .slice ro oY.length co, .slice rn iY.length cn] 28)).heap.size (w.alloc (.cells #[.slice rc xY.length cc, .slice rt tY.length ct, .slice rv zY.length cv, .slice rm mY.length cm, .int .i64 cells, .slice ri qY.length ci, .slice rs sY.length cs, .slice ro oY.length co, .slice rn iY.length cn] 28)) W → IsS 2 Cv.enc W rv cv zY ∧ ∀ x ∈ zY, x.ok W) := H! (fun W h => ⟨(HP.out W h).zY, (HP.out W h).curvesG⟩)
 have HPm : Hid (∀ W, Below (w.alloc (.cells #[.slice rc xY.length cc, .slice rt tY.length ct, .slice rv zY.length cv, .slice rm mY.length cm, .int .i64 cells, .slice ri qY.length ci, .slice rs sY.length cs, .slice ro oY.length co, .slice rn iY.length cn] 28)).heap.size (w.alloc (.cells #[.slice rc xY.length cc, .slice rt tY.length ct, .slice rv zY.length cv, .slice rm mY.length cm, .int .i64 cells, .slice ri qY.length ci, .slice rs sY.length cs, .slice ro oY.length co, .slice rn iY.length cn] 28)) W → IsS 3 Mr.enc W rm cm mY ∧ ∀ x ∈ mY, x.ok W) := H! (fun W h => ⟨(HP.out W h).mY, (HP.out W h).mapsG⟩)
 have hmc : xY.length ≤ maxLen := Nat.le_trans hp.xY.le hp.xY.max
 have hmv : zY.length ≤ maxLen := Nat.le_trans hp.zY.le hp.zY.max
 have hmm : mY.length ≤ maxLen := Nat.le_trans hp.mY.le hp.mY.max
 unfold maxLen at hmc hmv hmm
 clear HP hp
 generalize hres : PL.params ⟨rc, cc, xY, rt, ct, tY, rv, cv, zY, rm, cm, mY, cells, ri, ci, qY, rs, cs, sY, ro, co, oY, rn, cn, iY⟩ = res at *
 clear hres
 have HL : Hid (∀ k, ((xY.take k).flatMap Ins.par).length ≤ 10000000000) := H! (fun k => by have := yik (f := Ins.par) xY k; omega)
 have HLv : Hid (∀ k, (xY.flatMap Ins.par ++ (zY.take k).flatMap Cv.Y).length ≤ 10000000000) := H! (fun k => by have := yik (f := Cv.Y) zY k; rw [List.length_append]; omega)
 have HLm : Hid (∀ k, (xY.flatMap Ins.par ++ (zY.flatMap Cv.Y ++ (mY.take k).flatMap Mr.par)).length ≤ 10000000000) := H! (fun k => by have := yik (f := Mr.par) mY k; simp only [List.length_append]; omega)
 have hlr : res.length ≤ 10000000000 := hl
 clear hl hl2
 simp only [PV.val, PL.v, List.length_map]
 go_enter Tryz.func12, Tryz.ntmps12
 go_upto_region 2 with fail
 have AP : AtV (w.alloc (.cells #[.slice rc xY.length cc, .slice rt tY.length ct, .slice rv zY.length cv, .slice rm mY.length cm, .int .i64 cells, .slice ri qY.length ci, .slice rs sY.length cs, .slice ro oY.length co, .slice rn iY.length cn] 28)) w.heap.size [.slice rc xY.length cc, .slice rt tY.length ct, .slice rv zY.length cv, .slice rm mY.length cm, .int .i64 cells, .slice ri qY.length ci, .slice rs sY.length cs, .slice ro oY.length co, .slice rn iY.length cn] := AtV.new w [.slice rc xY.length cc, .slice rt tY.length ct, .slice rv zY.length cv, .slice rm mY.length cm, .int .i64 cells, .slice ri qY.length ci, .slice rs sY.length cs, .slice ro oY.length co, .slice rn iY.length cn] 28
 have hA : w.heap.size < (w.alloc (.cells #[.slice rc xY.length cc, .slice rt tY.length ct, .slice rv zY.length cv, .slice rm mY.length cm, .int .i64 cells, .slice ri qY.length ci, .slice rs sY.length cs, .slice ro oY.length co, .slice rn iY.length cn] 28)).heap.size := by rw [zA]; omega
 have HB0 := H! hB1
 clear hB1
 generalize w.alloc (.cells #[.slice rc xY.length cc, .slice rt tY.length ct, .slice rv zY.length cv, .slice rm mY.length cm, .int .i64 cells, .slice ri qY.length ci, .slice rs sY.length cs, .slice ro oY.length co, .slice rn iY.length cn] 28) = W1 at *
 have q0 := (AP 0 _ rfl).1
 have q2 := (AP 2 _ rfl).1
 have q3 := (AP 3 _ rfl).1
 clear AP
 have Q2 := H! q2
 have Q3 := H! q3
 have Q0 := H! q0
 clear q2 q3 q0
 go_upto_region 3 with fail
 go_loopw [3, 4] (fun s3 s4 wr => ∃ (k : Nat) (r : Option Addr) (c : Nat) (out : List Int), s3 = .slice r out.length c ∧ (s4 = .int .i64 k ∧ k ≤ xY.length) ∧ out.length ≤ 10000000000 ∧ Hid (Below W1.heap.size W1 wr) ∧ Hid (OwnK .i64 3 wr W1.heap.size r c out) ∧ Hid (out = (xY.take k).flatMap Ins.par)) (fun _ s4 _ => xY.length - (intOf s4).toNat)
 case atStart => exact ⟨0, none, 0, [], rfl, ⟨rfl, Nat.zero_le _⟩, by simp, H! (Below.refl _ _), H! (OwnK.nil _ _), H! rfl⟩
 case round =>
  obtain ⟨k, r, c, out, rfl, ⟨rfl, hk⟩, hol, HB, HO, HQ⟩ := hrel
  have q0 : wr.cell? ⟨w.heap.size, 0, none⟩ = some (.slice rc xY.length cc) := (HB.out.cell (p := ⟨w.heap.size, 0, none⟩) hA).trans Q0.out
  by_cases hlt : k < xY.length
  ·
   have hk1 : (0 : Int) ≤ (k : Int) := by omega
   have hk2 : (k : Int) < xY.length := by omega
   have HQ2 := yfk (f := Ins.par) hlt
   rw [← HQ.out] at HQ2
   have hbd := HL.out (k + 1)
   rw [HQ2, List.length_append] at hbd
   obtain ⟨bX, off, rfl, hb, hc⟩ := (HPc.out wr HB.out).at_ hlt
   have hd0 : wr.cell? ⟨bX, off + k * 5, none⟩ = some (.int .i64 (xY.getD k default).op) := hc 0 _ rfl
   have hd4 : wr.cell? ⟨bX, off + k * 5 + 4, none⟩ = some (.int .i64 (xY.getD k default).k) := hc 4 _ rfl
   clear hc
   have HQ3 := H! HQ2
   clear HQ2
   generalize xY.getD k default = x at *
   obtain ⟨xo, xa, xb, xc, xk⟩ := x
   simp only at hd0 hd4
   by_cases hop : xo = 1
   ·
    subst hop
    have hp1 : Ins.par ⟨1, xa, xb, xc, xk⟩ = [xk] := rfl
    rw [hp1] at HQ3 hbd
    clear hp1
    simp only [List.length_cons, List.length_nil] at hbd
    go_wp2_with (at_builtin; refine ybp Tryz.underlying26 yci rfl (by omega) (by rfl) _ _ (by rfl) wr W1.heap.size r c out [xk] 1 rfl (by omega) (by rfl) (by rfl) (by rfl) HO.out (by omega) HB.out.size ?_; intro r' c' w3 hown3 hbw3; have HO3 := H! hown3; clear hown3)
    go_roundw
    case rel => exact ⟨k + 1, r', c', out ++ [xk], by first | rfl | (simp; done), ⟨by go_num, by omega⟩, by simp only [List.length_append, List.length_cons, List.length_nil]; omega, H! (HB.out.trans (hbw3.mono (Nat.le_refl _))), HO3, H! HQ3.out.symm⟩
    case measure => simp [intOf]; omega
   ·
    have hop2 : (xo == 1) = false := by simpa using hop
    have hp1 : Ins.par ⟨xo, xa, xb, xc, xk⟩ = [] := if_neg hop
    rw [hp1, List.append_nil] at HQ3
    clear hp1
    go_wp2
    go_roundw
    case rel => exact ⟨k + 1, r, c, out, rfl, ⟨by go_num, by omega⟩, hol, HB, HO, H! HQ3.out.symm⟩
    case measure => simp [intOf]; omega
  ·
   obtain rfl : k = xY.length := by omega
   have HQ1 : Hid (out = xY.flatMap Ins.par ++ (zY.take 0).flatMap Cv.Y) := H! (by rw [HQ.out, List.take_length]; simp)
   clear HQ hk hlt
   obtain ⟨wA, rfl⟩ : ∃ x, x = wr := ⟨_, rfl⟩
   go_upto_region 8 with fail
   go_loopw [3, 5] (fun s3 s5 wr => ∃ (k : Nat) (r : Option Addr) (c : Nat) (out : List Int), s3 = .slice r out.length c ∧ (s5 = .int .i64 k ∧ k ≤ zY.length) ∧ out.length ≤ 10000000000 ∧ Hid (Below W1.heap.size W1 wr) ∧ Hid (OwnK .i64 3 wr W1.heap.size r c out) ∧ Hid (out = xY.flatMap Ins.par ++ (zY.take k).flatMap Cv.Y)) (fun _ s5 _ => zY.length - (intOf s5).toNat)
   case atStart => exact ⟨0, r, c, out, rfl, ⟨rfl, Nat.zero_le _⟩, hol, HB, HO, HQ1⟩
   case round =>
    clear HQ1 HB HO hol q0
    obtain ⟨k, r, c, out, rfl, ⟨rfl, hk⟩, hol, HB, HO, HQ⟩ := hrel
    have q2 : wr.cell? ⟨w.heap.size, 2, none⟩ = some (.slice rv zY.length cv) := (HB.out.cell (p := ⟨w.heap.size, 2, none⟩) hA).trans Q2.out
    by_cases hlt : k < zY.length
    ·
     have hk1 : (0 : Int) ≤ (k : Int) := by omega
     have hk2 : (k : Int) < zY.length := by omega
     have HQ2 := congrArg (xY.flatMap Ins.par ++ ·) (yfk (f := Cv.Y) hlt)
     try simp only at HQ2
     rw [← List.append_assoc, ← HQ.out] at HQ2
     have hbd := HLv.out (k + 1)
     rw [HQ2, List.length_append] at hbd
     obtain ⟨bX, off, rfl, hb, hc⟩ := (HPv.out wr HB.out).1.at_ hlt
     have hd1 : wr.cell? ⟨bX, off + k * 2 + 1, none⟩ = some (.slice (zY.getD k default).ry (zY.getD k default).Y.length (zY.getD k default).cy) := hc 1 _ rfl
     clear hc
     have HY := H! ((HPv.out wr HB.out).2 _ (yak hlt)).2
     have HQ3 := H! HQ2
     clear HQ2
     generalize zY.getD k default = x at *
     obtain ⟨rx, cx, X, ry, cy, Y⟩ := x
     simp only at hd1 HY HQ3 hbd
     go_wp2_with (at_builtin; refine yag Tryz.underlying26 yci rfl (by omega) (by rfl) _ _ (by rfl) W1.heap.size r ry c cy out Y (by rfl) (by rfl) HO.out (HY.out) (by omega) HB.out.size ?_; intro r' c' w3 hown3 hbw3; have HO3 := H! hown3; clear hown3)
     go_roundw
     case rel => exact ⟨k + 1, r', c', out ++ Y, by first | rfl | (simp; done), ⟨by go_num, by omega⟩, by rw [List.length_append]; omega, H! (HB.out.trans hbw3), HO3, H! HQ3.out.symm⟩
     case measure => simp [intOf]; omega
    ·
     obtain rfl : k = zY.length := by omega
     have HQ1 : Hid (out = xY.flatMap Ins.par ++ (zY.flatMap Cv.Y ++ (mY.take 0).flatMap Mr.par)) := H! (by rw [HQ.out, List.take_length]; simp)
     clear HQ hk hlt
     obtain ⟨wA', rfl⟩ : ∃ x, x = wr := ⟨_, rfl⟩
     go_upto_region 12 with fail
     go_loopw [3, 6] (fun s3 s6 wr => ∃ (k : Nat) (r : Option Addr) (c : Nat) (out : List Int), s3 = .slice r out.length c ∧ (s6 = .int .i64 k ∧ k ≤ mY.length) ∧ out.length ≤ 10000000000 ∧ Hid (Below W1.heap.size W1 wr) ∧ Hid (OwnK .i64 3 wr W1.heap.size r c out) ∧ Hid (out = xY.flatMap Ins.par ++ (zY.flatMap Cv.Y ++ (mY.take k).flatMap Mr.par))) (fun _ s6 _ => mY.length - (intOf s6).toNat)
     case atStart => exact ⟨0, r, c, out, rfl, ⟨rfl, Nat.zero_le _⟩, hol, HB, HO, HQ1⟩
     case round =>
      clear HQ1 HB HO hol q2
      obtain ⟨k, r, c, out, rfl, ⟨rfl, hk⟩, hol, HB, HO, HQ⟩ := hrel
      have q3 : wr.cell? ⟨w.heap.size, 3, none⟩ = some (.slice rm mY.length cm) := (HB.out.cell (p := ⟨w.heap.size, 3, none⟩) hA).trans Q3.out
      by_cases hlt : k < mY.length
      ·
       have hk1 : (0 : Int) ≤ (k : Int) := by omega
       have hk2 : (k : Int) < mY.length := by omega
       have HQ2 : xY.flatMap Ins.par ++ (zY.flatMap Cv.Y ++ (mY.take (k + 1)).flatMap Mr.par) = out ++ Mr.par (mY.getD k default) := by
        rw [yfk (f := Mr.par) hlt, HQ.out]
        simp only [List.append_assoc]
       have hbd := HLm.out (k + 1)
       rw [HQ2, List.length_append] at hbd
       have HQ3 := H! HQ2
       clear HQ2
       have hx := (HPm.out W1 (Below.refl _ _)).1
       obtain ⟨bX, off, rfl, hb, hc⟩ := hx.at_ hlt
       have HD2 : Hid (W1.cell? ⟨bX, off + k * 3 + 2, none⟩ = some (.slice (mY.getD k default).rz (mY.getD k default).rows.length (mY.getD k default).cz)) := H! (hc 2 _ rfl)
       clear hc hx
       have HZ : Hid (∀ W, Below W1.heap.size W1 W → IsS 1 Rw.enc W (mY.getD k default).rz (mY.getD k default).cz (mY.getD k default).rows ∧ ∀ x ∈ (mY.getD k default).rows, IsInts W x.r x.c .i64 x.l) := H! (fun W h => ((HPm.out W h).2 _ (yak hlt)).2.2)
       generalize mY.getD k default = x at *
       obtain ⟨rx, cx, X, ry, cy, Y, rz, cz, rows⟩ := x
       simp only [Mr.par] at HD2 HZ HQ3 hbd
       have hmz : rows.length ≤ maxLen := Nat.le_trans (HZ.out wr HB.out).1.le (HZ.out wr HB.out).1.max
       unfold maxLen at hmz
       have HLr : Hid (∀ j, (out ++ (rows.take j).flatMap Rw.l).length ≤ 10000000000) := H! (fun j => by have := yik (f := Rw.l) rows j; rw [List.length_append]; omega)
       obtain ⟨wB, rfl⟩ : ∃ x, x = wr := ⟨_, rfl⟩
       have HQ4 : Hid (out = out ++ (rows.take 0).flatMap Rw.l) := H! (by simp)
       go_upto_region 15 with fail
       go_loopw [3, 7] (fun s3 s7 wr => ∃ (j : Nat) (r : Option Addr) (c : Nat) (outj : List Int), s3 = .slice r outj.length c ∧ (s7 = .int .i64 j ∧ j ≤ rows.length) ∧ outj.length ≤ 10000000000 ∧ Hid (Below W1.heap.size W1 wr) ∧ Hid (OwnK .i64 3 wr W1.heap.size r c outj) ∧ Hid (outj = out ++ (rows.take j).flatMap Rw.l)) (fun _ s7 _ => rows.length - (intOf s7).toNat)
       case atStart => exact ⟨0, r, c, out, rfl, ⟨rfl, Nat.zero_le _⟩, hol, HB, HO, HQ4⟩
       case round =>
        clear HQ4 HB HO q3 hbd
        obtain ⟨j, r, c, outj, rfl, ⟨rfl, hj⟩, holj, HB, HO, HQ⟩ := hrel
        have q3 : wr.cell? ⟨w.heap.size, 3, none⟩ = _ := (HB.out.cell (p := ⟨w.heap.size, 3, none⟩) hA).trans Q3.out
        have hd2 : wr.cell? ⟨bX, off + k * 3 + 2, none⟩ = some (.slice rz rows.length cz) := (HB.out.cell (p := ⟨bX, off + k * 3 + 2, none⟩) hb).trans HD2.out
        by_cases hjl : j < rows.length
        ·
         have hj1 : (0 : Int) ≤ (j : Int) := by omega
         have hj2 : (j : Int) < rows.length := by omega
         have HQ2 : out ++ (rows.take (j + 1)).flatMap Rw.l = outj ++ Rw.l (rows.getD j default) := by
          rw [yfk (f := Rw.l) hjl, HQ.out]
          simp only [List.append_assoc]
         have hbd := HLr.out (j + 1)
         rw [HQ2, List.length_append] at hbd
         have HQ5 := H! HQ2
         clear HQ2
         obtain ⟨bZ, ofz, rfl, hbz, hc⟩ := (HZ.out wr HB.out).1.at_ hjl
         have hdz : wr.cell? ⟨bZ, ofz + j, none⟩ = some (.slice (rows.getD j default).r (rows.getD j default).l.length (rows.getD j default).c) := by have := hc 0 _ rfl; rwa [Nat.mul_one, Nat.add_zero] at this
         clear hc
         have HY := H! ((HZ.out wr HB.out).2 _ (yak hjl))
         generalize rows.getD j default = x at *
         obtain ⟨rl, cl, L⟩ := x
         simp only at hdz HY HQ5 hbd
         go_wp2_with (at_builtin; refine yag Tryz.underlying26 yci rfl (by omega) (by rfl) _ _ (by rfl) W1.heap.size r rl c cl outj L (by rfl) (by rfl) HO.out (HY.out) (by omega) HB.out.size ?_; intro r' c' w3 hown3 hbw3; have HO3 := H! hown3; clear hown3)
         go_roundw
         case rel => exact ⟨j + 1, r', c', outj ++ L, by first | rfl | (simp; done), ⟨by go_num, by omega⟩, by rw [List.length_append]; omega, H! (HB.out.trans hbw3), HO3, H! HQ5.out.symm⟩
         case measure => simp [intOf]; omega
        ·
         obtain rfl : j = rows.length := by omega
         have HQ6 : Hid (outj = xY.flatMap Ins.par ++ (zY.flatMap Cv.Y ++ (mY.take (k + 1)).flatMap Mr.par)) := H! (by rw [HQ.out, List.take_length, HQ3.out])
         clear HQ
         go_wp2
         go_roundw
         case rel => exact ⟨k + 1, r, c, outj, rfl, ⟨by go_num, by omega⟩, holj, HB, HO, HQ6⟩
         case measure => simp [intOf]; omega
      ·
       obtain rfl : k = mY.length := by omega
       have HQ1 : Hid (out = res) := H! (by rw [HQ.out, HE.out, List.take_length])
       have hq := congrArg List.length HQ1.out
       clear HQ
       go_wp2
       go_ret
       refine ⟨r, c, by first | rfl | (rw [hq]; done) | (rw [hq]; rfl) | (rw [← hq]; rfl), ?_, HB0.out.trans (HB.out.mono HB0.out.size)⟩
       rw [← HQ1.out]
       exact HO.out.base HB0.out.size
theorem ycl {W : World} {p : PL} (h : IsL W p) : ∀ x ∈ p.params, I64 x := fun x hx => by
 unfold PL.params PL.parI PL.parC PL.parM at hx
 simp only [List.mem_append, List.mem_flatMap] at hx
 rcases hx with ⟨c, hc, hx⟩ | ⟨c, hc, hx⟩ | ⟨m, hm, hx⟩
 ·
  unfold Ins.par at hx
  split at hx
  ·
   obtain rfl : x = c.k := by simpa using hx
   exact (h.codeG c hc).2.2.2.2
  ·
   simp at hx
 ·
  exact (h.curvesG c hc).2.wf x hx
 ·
  unfold Mr.par at hx
  obtain ⟨y, hy, hx⟩ := List.mem_flatMap.1 hx
  exact ((h.mapsG m hm).2.2.2 y hy).wf x hx
theorem yeh (W : World) : Calls Tryz.prog 11 #[.agg #[.slice none 0 0, .slice none 0 0, .slice none 0 0, .slice none 0 0, .int .i64 0, .slice none 0 0, .slice none 0 0, .slice none 0 0, .slice none 0 0]] W fun e w' => e = .returned (.bool true) ∧ Below W.heap.size W w' := by
 have h := yit pv0 W (isP0 W) (by have : pv0.p.body.length = 72 := rfl; omega)
 rw [show decide (pv0.p.body = pp0.body) = true from decide_eq_true rfl] at h
 exact h
theorem ip_great (p : PL) (i v : Int) (w : World) (hp : IsL w p) (hg : yco p.v = true) : Calls Tryz.prog 3 #[p.v.val, .int .i64 i, .int .i64 v] w fun e w' => e = .returned (.bool true) ∧ Below w.heap.size w w' := by
 have HG := H! (fun W (h : Below w.heap.size w W) => ybs p.v W (hp.later h).isP)
 rw [hg] at HG
 clear hg hp
 obtain ⟨rc, cc, xY, rt, ct, tY, rv, cv, zY, rm, cm, mY, cells, ri, ci, qY, rs, cs, sY, ro, co, oY, rn, cn, iY⟩ := p
 simp only [PV.val, PL.v, List.length_map] at *
 go_enter Tryz.func3, Tryz.ntmps3
 go_wp2_with (first | (go_at_call 6; refine (ybt _).mono ?_; rintro e hb0w ⟨rfl, hb0⟩; obtain ⟨hb0c, hb0f⟩ := yah hb0; have hb0s := hb0.size; (try simp only [zA] at hb0s); (try (have : w.heap.size < hb0w.heap.size := by omega)); (try (have : w.heap.size + 1 < hb0w.heap.size := by omega)); (try (have : w.heap.size + 1 + 1 < hb0w.heap.size := by omega)); (try (have : w.heap.size + 1 + 1 + 1 < hb0w.heap.size := by omega)); (try (have : bX < hb0w.heap.size := by omega)); (try (have : bY < hb0w.heap.size := by omega)); (try (have : bZ < hb0w.heap.size := by omega))) | (go_at_call 7; refine (HG.out _ bw).mono ?_; rintro e hb1w ⟨rfl, hb1⟩; obtain ⟨hb1c, hb1f⟩ := yah hb1; have hb1s := hb1.size; (try simp only [zA] at hb1s); (try (have : w.heap.size < hb1w.heap.size := by omega)); (try (have : w.heap.size + 1 < hb1w.heap.size := by omega)); (try (have : w.heap.size + 1 + 1 < hb1w.heap.size := by omega)); (try (have : w.heap.size + 1 + 1 + 1 < hb1w.heap.size := by omega)); (try (have : bX < hb1w.heap.size := by omega)); (try (have : bY < hb1w.heap.size := by omega)); (try (have : bZ < hb1w.heap.size := by omega))))
 go_ret
 exact ⟨by first | rfl | (simp; done), bw⟩
theorem ip_bad (p : PL) (i v : Int) (w : World) (hp : IsL w p) (hg : yco p.v = false) (hv : yas p.v = false) : Calls Tryz.prog 3 #[p.v.val, .int .i64 i, .int .i64 v] w fun e w' => e = .returned (.bool true) ∧ Below w.heap.size w w' := by
 have HG := H! (fun W (h : Below w.heap.size w W) => ybs p.v W (hp.later h).isP)
 have HE := H! (fun W (h : Below w.heap.size w W) => ylq p.v W (hp.later h).isP hv)
 have HPt : Hid (∀ W, Below w.heap.size w W → Calls Tryz.prog 9 #[p.v.val, .int .i64 i, .int .i64 v] W fun e w' => e = .returned (.tuple #[.agg #[.slice none 0 0, .slice none 0 0, .slice none 0 0, .slice none 0 0, .int .i64 0, .slice none 0 0, .slice none 0 0, .slice none 0 0, .slice none 0 0], .int .i64 1]) ∧ Below W.heap.size W w') := H! (fun W h => yhv p.v i v W (hp.later h).isP hv)
 have HV := H! (fun W (h : Below w.heap.size w W) => ybl p.v W (hp.later h).isP)
 have HNN := H! yeh
 rw [hg] at HG
 rw [hv] at HV
 clear hg hp hv
 obtain ⟨rc, cc, xY, rt, ct, tY, rv, cv, zY, rm, cm, mY, cells, ri, ci, qY, rs, cs, sY, ro, co, oY, rn, cn, iY⟩ := p
 simp only [PV.val, PL.v, List.length_map] at *
 go_enter Tryz.func3, Tryz.ntmps3
 go_wp2_with (first | (go_at_call 6; refine (ybt _).mono ?_; rintro e hb0w ⟨rfl, hb0⟩; obtain ⟨hb0c, hb0f⟩ := yah hb0; have hb0s := hb0.size; (try simp only [zA] at hb0s); (try (have : w.heap.size < hb0w.heap.size := by omega)); (try (have : w.heap.size + 1 < hb0w.heap.size := by omega)); (try (have : w.heap.size + 1 + 1 < hb0w.heap.size := by omega)); (try (have : w.heap.size + 1 + 1 + 1 < hb0w.heap.size := by omega)); (try (have : bX < hb0w.heap.size := by omega)); (try (have : bY < hb0w.heap.size := by omega)); (try (have : bZ < hb0w.heap.size := by omega))) | (go_at_call 7; refine (HG.out _ bw).mono ?_; rintro e hb1w ⟨rfl, hb1⟩; obtain ⟨hb1c, hb1f⟩ := yah hb1; have hb1s := hb1.size; (try simp only [zA] at hb1s); (try (have : w.heap.size < hb1w.heap.size := by omega)); (try (have : w.heap.size + 1 < hb1w.heap.size := by omega)); (try (have : w.heap.size + 1 + 1 < hb1w.heap.size := by omega)); (try (have : w.heap.size + 1 + 1 + 1 < hb1w.heap.size := by omega)); (try (have : bX < hb1w.heap.size := by omega)); (try (have : bY < hb1w.heap.size := by omega)); (try (have : bZ < hb1w.heap.size := by omega))) | (go_at_call 8; with_reducible (refine (HE.out _ ?sd).mono ?_); (case sd => (exact bw)); rintro _ w2 ⟨rfl, hb2⟩; obtain ⟨hb2c, hb2f⟩ := yah hb2; have hb2s := hb2.size; (try simp only [zA] at hb2s); have hb2x : w.heap.size < w2.heap.size := (by omega)) | (go_at_call 9; with_reducible (refine (HPt.out _ ?sd).mono ?_); (case sd => (exact bw)); rintro _ w3 ⟨rfl, hb3⟩; obtain ⟨hb3c, hb3f⟩ := yah hb3; have hb3s := hb3.size; (try simp only [zA] at hb3s); have hb3x : w.heap.size < w3.heap.size := (by omega)) | (go_at_call 10; with_reducible (refine (HV.out _ ?sd).mono ?_); (case sd => (exact bw)); rintro _ w4 ⟨rfl, hb4⟩; obtain ⟨hb4c, hb4f⟩ := yah hb4; have hb4s := hb4.size; (try simp only [zA] at hb4s); have hb4x : w.heap.size < w4.heap.size := (by omega); have hb4x3 : w3.heap.size < w4.heap.size := (by omega)) | (go_at_call 11; with_reducible (refine (HNN.out _).mono ?_); skip; rintro _ w9 ⟨rfl, hb9⟩; obtain ⟨hb9c, hb9f⟩ := yah hb9; have hb9s := hb9.size; (try simp only [zA] at hb9s); have hb9x : w.heap.size < w9.heap.size := (by omega); have hb9x3 : w3.heap.size < w9.heap.size := (by omega)))
 go_ret
 exact ⟨by first | rfl | (simp; done), bw⟩
theorem ip_neg (p : PL) (i v : Int) (w : World) (hp : IsL w p) (hI : I64 v) (hg : yco p.v = false) (hv : yas p.v = true) (hb : i < 0) : Calls Tryz.prog 3 #[p.v.val, .int .i64 i, .int .i64 v] w fun e w' => e = .returned (.bool true) ∧ Below w.heap.size w w' := by
 have HG := H! (fun W (h : Below w.heap.size w W) => ybs p.v W (hp.later h).isP)
 have hlen : p.v.p.body.length ≤ 90000 := ydt hg
 have hpl := yda hlen
 have HE : Hid (∀ W, Below w.heap.size w W → Calls Tryz.prog 8 #[p.v.val] W fun e w' => ∃ r c, e = .returned (.tuple #[.slice r p.params.length c, .int .i64 0]) ∧ IsInts w' r c .i64 p.params ∧ Below W.heap.size W w') := H! (fun W h => (ydr p W (hp.later h) hv (by omega)).mono fun _ _ ⟨r, c, h1, h2, h3⟩ => ⟨r, c, h1, h2.ints (ycl hp), h3⟩)
 have HRp : Hid (∀ W, Below w.heap.size w W → Calls Tryz.prog 12 #[p.v.val] W fun e w' => ∃ r c, e = .returned (.slice r p.params.length c) ∧ IsInts w' r c .i64 p.params ∧ Below W.heap.size W w') := H! (fun W h => (yen p W (hp.later h) (by omega)).mono fun _ _ ⟨r, c, h1, h2, h3⟩ => ⟨r, c, h1, h2.ints (ycl hp), h3⟩)
 have HEq : Hid (∀ W r c r' c', IsInts W r c .i64 p.params → IsInts W r' c' .i64 p.params → Calls Tryz.prog 13 #[.slice r p.params.length c, .slice r' p.params.length c'] W fun e w' => e = .returned (.bool true) ∧ Below W.heap.size W w') := H! (fun W r c r' c' h1 h2 => by
  have := yem r r' c c' p.params p.params W h1 h2
  rwa [show decide (p.params = p.params) = true by simp] at this)
 have HV := H! (fun W (h : Below w.heap.size w W) => ybl p.v W (hp.later h).isP)
 have HNN := H! yeh
 have HPt : Hid (∀ W, Below w.heap.size w W → Calls Tryz.prog 9 #[p.v.val, .int .i64 i, .int .i64 v] W fun e w' => e = .returned (.tuple #[.agg #[.slice none 0 0, .slice none 0 0, .slice none 0 0, .slice none 0 0, .int .i64 0, .slice none 0 0, .slice none 0 0, .slice none 0 0, .slice none 0 0], .int .i64 2]) ∧ Below W.heap.size W w') := H! (fun W h => (ych p i v W (hp.later h) (PL.sm (by omega)) hv hI (by omega)).mono fun _ _ h => by
  rcases h with ⟨h1, _⟩ | ⟨_, h2, h3⟩
  ·
   exact absurd h1.1 (by omega)
  ·
   exact ⟨h2, h3⟩)
 rw [hg] at HG
 rw [hv] at HV
 clear hg hp hv hlen
 generalize p.params = xs at *
 obtain ⟨rc, cc, xY, rt, ct, tY, rv, cv, zY, rm, cm, mY, cells, ri, ci, qY, rs, cs, sY, ro, co, oY, rn, cn, iY⟩ := p
 simp only [PV.val, PL.v, List.length_map] at *
 go_enter Tryz.func3, Tryz.ntmps3
 go_wp2_with (first | (go_at_call 6; refine (ybt _).mono ?_; rintro e hb0w ⟨rfl, hb0⟩; obtain ⟨hb0c, hb0f⟩ := yah hb0; have hb0s := hb0.size; (try simp only [zA] at hb0s); (try (have : w.heap.size < hb0w.heap.size := by omega)); (try (have : w.heap.size + 1 < hb0w.heap.size := by omega)); (try (have : w.heap.size + 1 + 1 < hb0w.heap.size := by omega)); (try (have : w.heap.size + 1 + 1 + 1 < hb0w.heap.size := by omega)); (try (have : bX < hb0w.heap.size := by omega)); (try (have : bY < hb0w.heap.size := by omega)); (try (have : bZ < hb0w.heap.size := by omega))) | (go_at_call 7; refine (HG.out _ bw).mono ?_; rintro e hb1w ⟨rfl, hb1⟩; obtain ⟨hb1c, hb1f⟩ := yah hb1; have hb1s := hb1.size; (try simp only [zA] at hb1s); (try (have : w.heap.size < hb1w.heap.size := by omega)); (try (have : w.heap.size + 1 < hb1w.heap.size := by omega)); (try (have : w.heap.size + 1 + 1 < hb1w.heap.size := by omega)); (try (have : w.heap.size + 1 + 1 + 1 < hb1w.heap.size := by omega)); (try (have : bX < hb1w.heap.size := by omega)); (try (have : bY < hb1w.heap.size := by omega)); (try (have : bZ < hb1w.heap.size := by omega))) | (go_at_call 8; with_reducible (refine (HE.out _ ?sd).mono ?_); (case sd => (exact bw)); rintro _ w2 ⟨r2, c2, rfl, ho2, hb2⟩; have HO2 := H! ho2; clear ho2; obtain ⟨hb2c, hb2f⟩ := yah hb2; have hb2s := hb2.size; (try simp only [zA] at hb2s); have hb2x : w.heap.size < w2.heap.size := (by omega)) | (go_at_call 9; with_reducible (refine (HPt.out _ ?sd).mono ?_); (case sd => (exact bw)); rintro _ w3 ⟨rfl, hb3⟩; obtain ⟨hb3c, hb3f⟩ := yah hb3; have hb3s := hb3.size; (try simp only [zA] at hb3s); have hb3x : w.heap.size < w3.heap.size := (by omega)) | (go_at_call 10; with_reducible (refine (HV.out _ ?sd).mono ?_); (case sd => (exact bw)); rintro _ w4 ⟨rfl, hb4⟩; obtain ⟨hb4c, hb4f⟩ := yah hb4; have hb4s := hb4.size; (try simp only [zA] at hb4s); have hb4x : w.heap.size < w4.heap.size := (by omega); have hb4x3 : w3.heap.size < w4.heap.size := (by omega)) | (go_at_call 12; with_reducible (refine (HRp.out _ ?sd).mono ?_); (case sd => (exact bw)); rintro _ w5 ⟨r5, c5, rfl, ho5, hb5⟩; have HO5 := H! ho5; clear ho5; obtain ⟨hb5c, hb5f⟩ := yah hb5; have hb5s := hb5.size; (try simp only [zA] at hb5s); have hb5x : w.heap.size < w5.heap.size := (by omega); have hb5x3 : w3.heap.size < w5.heap.size := (by omega)) | (go_at_call 13; with_reducible (refine (HEq.out _ _ _ _ _ ?sd ?se).mono ?_); (case sd => exact HO2.out.later bw); (case se => exact HO5.out.later bw); rintro _ w6 ⟨rfl, hb6⟩; obtain ⟨hb6c, hb6f⟩ := yah hb6; have hb6s := hb6.size; (try simp only [zA] at hb6s); have hb6x : w.heap.size < w6.heap.size := (by omega); have hb6x3 : w3.heap.size < w6.heap.size := (by omega)) | (go_at_call 11; with_reducible (refine (HNN.out _).mono ?_); skip; rintro _ w9 ⟨rfl, hb9⟩; obtain ⟨hb9c, hb9f⟩ := yah hb9; have hb9s := hb9.size; (try simp only [zA] at hb9s); have hb9x : w.heap.size < w9.heap.size := (by omega); have hb9x3 : w3.heap.size < w9.heap.size := (by omega)))
 go_ret
 exact ⟨by first | rfl | (simp; done), bw⟩
theorem ip_far (p : PL) (i v : Int) (w : World) (hp : IsL w p) (hI : I64 v) (hg : yco p.v = false) (hv : yas p.v = true) (hb : (p.params.length : Int) ≤ i) : Calls Tryz.prog 3 #[p.v.val, .int .i64 i, .int .i64 v] w fun e w' => e = .returned (.bool true) ∧ Below w.heap.size w w' := by
 have HG := H! (fun W (h : Below w.heap.size w W) => ybs p.v W (hp.later h).isP)
 have hlen : p.v.p.body.length ≤ 90000 := ydt hg
 have hpl := yda hlen
 have HE : Hid (∀ W, Below w.heap.size w W → Calls Tryz.prog 8 #[p.v.val] W fun e w' => ∃ r c, e = .returned (.tuple #[.slice r p.params.length c, .int .i64 0]) ∧ IsInts w' r c .i64 p.params ∧ Below W.heap.size W w') := H! (fun W h => (ydr p W (hp.later h) hv (by omega)).mono fun _ _ ⟨r, c, h1, h2, h3⟩ => ⟨r, c, h1, h2.ints (ycl hp), h3⟩)
 have HRp : Hid (∀ W, Below w.heap.size w W → Calls Tryz.prog 12 #[p.v.val] W fun e w' => ∃ r c, e = .returned (.slice r p.params.length c) ∧ IsInts w' r c .i64 p.params ∧ Below W.heap.size W w') := H! (fun W h => (yen p W (hp.later h) (by omega)).mono fun _ _ ⟨r, c, h1, h2, h3⟩ => ⟨r, c, h1, h2.ints (ycl hp), h3⟩)
 have HEq : Hid (∀ W r c r' c', IsInts W r c .i64 p.params → IsInts W r' c' .i64 p.params → Calls Tryz.prog 13 #[.slice r p.params.length c, .slice r' p.params.length c'] W fun e w' => e = .returned (.bool true) ∧ Below W.heap.size W w') := H! (fun W r c r' c' h1 h2 => by
  have := yem r r' c c' p.params p.params W h1 h2
  rwa [show decide (p.params = p.params) = true by simp] at this)
 have HV := H! (fun W (h : Below w.heap.size w W) => ybl p.v W (hp.later h).isP)
 have HNN := H! yeh
 have HPt : Hid (∀ W, Below w.heap.size w W → Calls Tryz.prog 9 #[p.v.val, .int .i64 i, .int .i64 v] W fun e w' => e = .returned (.tuple #[.agg #[.slice none 0 0, .slice none 0 0, .slice none 0 0, .slice none 0 0, .int .i64 0, .slice none 0 0, .slice none 0 0, .slice none 0 0, .slice none 0 0], .int .i64 2]) ∧ Below W.heap.size W w') := H! (fun W h => (ych p i v W (hp.later h) (PL.sm (by omega)) hv hI (by omega)).mono fun _ _ h => by
  rcases h with ⟨h1, _⟩ | ⟨_, h2, h3⟩
  ·
   exact absurd h1.1 (by omega)
  ·
   exact ⟨h2, h3⟩)
 rw [hg] at HG
 rw [hv] at HV
 clear hg hp hv hlen
 generalize p.params = xs at *
 obtain ⟨rc, cc, xY, rt, ct, tY, rv, cv, zY, rm, cm, mY, cells, ri, ci, qY, rs, cs, sY, ro, co, oY, rn, cn, iY⟩ := p
 simp only [PV.val, PL.v, List.length_map] at *
 go_enter Tryz.func3, Tryz.ntmps3
 go_wp2_with (first | (go_at_call 6; refine (ybt _).mono ?_; rintro e hb0w ⟨rfl, hb0⟩; obtain ⟨hb0c, hb0f⟩ := yah hb0; have hb0s := hb0.size; (try simp only [zA] at hb0s); (try (have : w.heap.size < hb0w.heap.size := by omega)); (try (have : w.heap.size + 1 < hb0w.heap.size := by omega)); (try (have : w.heap.size + 1 + 1 < hb0w.heap.size := by omega)); (try (have : w.heap.size + 1 + 1 + 1 < hb0w.heap.size := by omega)); (try (have : bX < hb0w.heap.size := by omega)); (try (have : bY < hb0w.heap.size := by omega)); (try (have : bZ < hb0w.heap.size := by omega))) | (go_at_call 7; refine (HG.out _ bw).mono ?_; rintro e hb1w ⟨rfl, hb1⟩; obtain ⟨hb1c, hb1f⟩ := yah hb1; have hb1s := hb1.size; (try simp only [zA] at hb1s); (try (have : w.heap.size < hb1w.heap.size := by omega)); (try (have : w.heap.size + 1 < hb1w.heap.size := by omega)); (try (have : w.heap.size + 1 + 1 < hb1w.heap.size := by omega)); (try (have : w.heap.size + 1 + 1 + 1 < hb1w.heap.size := by omega)); (try (have : bX < hb1w.heap.size := by omega)); (try (have : bY < hb1w.heap.size := by omega)); (try (have : bZ < hb1w.heap.size := by omega))) | (go_at_call 8; with_reducible (refine (HE.out _ ?sd).mono ?_); (case sd => (exact bw)); rintro _ w2 ⟨r2, c2, rfl, ho2, hb2⟩; have HO2 := H! ho2; clear ho2; obtain ⟨hb2c, hb2f⟩ := yah hb2; have hb2s := hb2.size; (try simp only [zA] at hb2s); have hb2x : w.heap.size < w2.heap.size := (by omega)) | (go_at_call 9; with_reducible (refine (HPt.out _ ?sd).mono ?_); (case sd => (exact bw)); rintro _ w3 ⟨rfl, hb3⟩; obtain ⟨hb3c, hb3f⟩ := yah hb3; have hb3s := hb3.size; (try simp only [zA] at hb3s); have hb3x : w.heap.size < w3.heap.size := (by omega)) | (go_at_call 10; with_reducible (refine (HV.out _ ?sd).mono ?_); (case sd => (exact bw)); rintro _ w4 ⟨rfl, hb4⟩; obtain ⟨hb4c, hb4f⟩ := yah hb4; have hb4s := hb4.size; (try simp only [zA] at hb4s); have hb4x : w.heap.size < w4.heap.size := (by omega); have hb4x3 : w3.heap.size < w4.heap.size := (by omega)) | (go_at_call 12; with_reducible (refine (HRp.out _ ?sd).mono ?_); (case sd => (exact bw)); rintro _ w5 ⟨r5, c5, rfl, ho5, hb5⟩; have HO5 := H! ho5; clear ho5; obtain ⟨hb5c, hb5f⟩ := yah hb5; have hb5s := hb5.size; (try simp only [zA] at hb5s); have hb5x : w.heap.size < w5.heap.size := (by omega); have hb5x3 : w3.heap.size < w5.heap.size := (by omega)) | (go_at_call 13; with_reducible (refine (HEq.out _ _ _ _ _ ?sd ?se).mono ?_); (case sd => exact HO2.out.later bw); (case se => exact HO5.out.later bw); rintro _ w6 ⟨rfl, hb6⟩; obtain ⟨hb6c, hb6f⟩ := yah hb6; have hb6s := hb6.size; (try simp only [zA] at hb6s); have hb6x : w.heap.size < w6.heap.size := (by omega); have hb6x3 : w3.heap.size < w6.heap.size := (by omega)) | (go_at_call 11; with_reducible (refine (HNN.out _).mono ?_); skip; rintro _ w9 ⟨rfl, hb9⟩; obtain ⟨hb9c, hb9f⟩ := yah hb9; have hb9s := hb9.size; (try simp only [zA] at hb9s); have hb9x : w.heap.size < w9.heap.size := (by omega); have hb9x3 : w3.heap.size < w9.heap.size := (by omega)))
 go_ret
 exact ⟨by first | rfl | (simp; done), bw⟩
theorem ip_inv (p : PL) (i v : Int) (w : World) (hp : IsL w p) (hI : I64 v) (hg : yco p.v = false) (hv : yas p.v = true) (h0 : 0 ≤ i) (h1 : i < p.params.length) (hok : okP (p.v.p.patch i v) = false) : Calls Tryz.prog 3 #[p.v.val, .int .i64 i, .int .i64 v] w fun e w' => e = .returned (.bool true) ∧ Below w.heap.size w w' := by
 have HG := H! (fun W (h : Below w.heap.size w W) => ybs p.v W (hp.later h).isP)
 have hlen : p.v.p.body.length ≤ 90000 := ydt hg
 have hpl := yda hlen
 have HE : Hid (∀ W, Below w.heap.size w W → Calls Tryz.prog 8 #[p.v.val] W fun e w' => ∃ r c, e = .returned (.tuple #[.slice r p.params.length c, .int .i64 0]) ∧ IsInts w' r c .i64 p.params ∧ Below W.heap.size W w') := H! (fun W h => (ydr p W (hp.later h) hv (by omega)).mono fun _ _ ⟨r, c, h1, h2, h3⟩ => ⟨r, c, h1, h2.ints (ycl hp), h3⟩)
 have HRp : Hid (∀ W, Below w.heap.size w W → Calls Tryz.prog 12 #[p.v.val] W fun e w' => ∃ r c, e = .returned (.slice r p.params.length c) ∧ IsInts w' r c .i64 p.params ∧ Below W.heap.size W w') := H! (fun W h => (yen p W (hp.later h) (by omega)).mono fun _ _ ⟨r, c, h1, h2, h3⟩ => ⟨r, c, h1, h2.ints (ycl hp), h3⟩)
 have HEq : Hid (∀ W r c r' c', IsInts W r c .i64 p.params → IsInts W r' c' .i64 p.params → Calls Tryz.prog 13 #[.slice r p.params.length c, .slice r' p.params.length c'] W fun e w' => e = .returned (.bool true) ∧ Below W.heap.size W w') := H! (fun W r c r' c' h1 h2 => by
  have := yem r r' c c' p.params p.params W h1 h2
  rwa [show decide (p.params = p.params) = true by simp] at this)
 have HV := H! (fun W (h : Below w.heap.size w W) => ybl p.v W (hp.later h).isP)
 have HNN := H! yeh
 have HRt : Hid (∀ W, Below w.heap.size w W → Calls Tryz.prog 14 #[p.v.val, .int .i64 i, .int .i64 v] W fun e w' => ∃ q : PV, e = .returned q.val ∧ IsP w' q ∧ q.p = p.v.p.patch i v ∧ Below W.heap.size W w') := H! (fun W h => yhm p i v W (hp.later h) (PL.sm (by omega)) hI h0 (by omega) (by omega))
 have HV2 : Hid (∀ (q : PV) W, IsP W q → q.p = p.v.p.patch i v → Calls Tryz.prog 10 #[q.val] W fun e w' => e = .returned (.bool (okP (p.v.p.patch i v))) ∧ Below W.heap.size W w') := H! (fun q W h h2 => by
  have := ybl q W h
  rwa [← yjc, h2] at this)
 have HPt : Hid (∀ W, Below w.heap.size w W → Calls Tryz.prog 9 #[p.v.val, .int .i64 i, .int .i64 v] W fun e w' => e = .returned (.tuple #[.agg #[.slice none 0 0, .slice none 0 0, .slice none 0 0, .slice none 0 0, .int .i64 0, .slice none 0 0, .slice none 0 0, .slice none 0 0, .slice none 0 0], .int .i64 2]) ∧ Below W.heap.size W w') := H! (fun W h => (ych p i v W (hp.later h) (PL.sm (by omega)) hv hI (by omega)).mono fun _ _ h => by
  rcases h with ⟨h1, _⟩ | ⟨_, h2, h3⟩
  ·
   rw [hok] at h1; exact absurd h1.2 (by simp)
  ·
   exact ⟨h2, h3⟩)
 rw [hg] at HG
 rw [hv] at HV
 rw [hok] at HV2
 clear hg hp hv hlen hok
 generalize p.params = xs at *
 generalize p.v.p.patch i v = PA at *
 obtain ⟨rc, cc, xY, rt, ct, tY, rv, cv, zY, rm, cm, mY, cells, ri, ci, qY, rs, cs, sY, ro, co, oY, rn, cn, iY⟩ := p
 simp only [PV.val, PL.v, List.length_map] at *
 go_enter Tryz.func3, Tryz.ntmps3
 go_wp2_with (first | (go_at_call 6; refine (ybt _).mono ?_; rintro e hb0w ⟨rfl, hb0⟩; obtain ⟨hb0c, hb0f⟩ := yah hb0; have hb0s := hb0.size; (try simp only [zA] at hb0s); (try (have : w.heap.size < hb0w.heap.size := by omega)); (try (have : w.heap.size + 1 < hb0w.heap.size := by omega)); (try (have : w.heap.size + 1 + 1 < hb0w.heap.size := by omega)); (try (have : w.heap.size + 1 + 1 + 1 < hb0w.heap.size := by omega)); (try (have : bX < hb0w.heap.size := by omega)); (try (have : bY < hb0w.heap.size := by omega)); (try (have : bZ < hb0w.heap.size := by omega))) | (go_at_call 7; refine (HG.out _ bw).mono ?_; rintro e hb1w ⟨rfl, hb1⟩; obtain ⟨hb1c, hb1f⟩ := yah hb1; have hb1s := hb1.size; (try simp only [zA] at hb1s); (try (have : w.heap.size < hb1w.heap.size := by omega)); (try (have : w.heap.size + 1 < hb1w.heap.size := by omega)); (try (have : w.heap.size + 1 + 1 < hb1w.heap.size := by omega)); (try (have : w.heap.size + 1 + 1 + 1 < hb1w.heap.size := by omega)); (try (have : bX < hb1w.heap.size := by omega)); (try (have : bY < hb1w.heap.size := by omega)); (try (have : bZ < hb1w.heap.size := by omega))) | (go_at_call 8; with_reducible (refine (HE.out _ ?sd).mono ?_); (case sd => (exact bw)); rintro _ w2 ⟨r2, c2, rfl, ho2, hb2⟩; have HO2 := H! ho2; clear ho2; obtain ⟨hb2c, hb2f⟩ := yah hb2; have hb2s := hb2.size; (try simp only [zA] at hb2s); have hb2x : w.heap.size < w2.heap.size := (by omega)) | (go_at_call 9; with_reducible (refine (HPt.out _ ?sd).mono ?_); (case sd => (exact bw)); rintro _ w3 ⟨rfl, hb3⟩; obtain ⟨hb3c, hb3f⟩ := yah hb3; have hb3s := hb3.size; (try simp only [zA] at hb3s); have hb3x : w.heap.size < w3.heap.size := (by omega)) | (go_at_call 10; with_reducible (refine (HV.out _ ?sd).mono ?_); (case sd => (exact bw)); rintro _ w4 ⟨rfl, hb4⟩; obtain ⟨hb4c, hb4f⟩ := yah hb4; have hb4s := hb4.size; (try simp only [zA] at hb4s); have hb4x : w.heap.size < w4.heap.size := (by omega); have hb4x3 : w3.heap.size < w4.heap.size := (by omega)) | (go_at_call 12; with_reducible (refine (HRp.out _ ?sd).mono ?_); (case sd => (exact bw)); rintro _ w5 ⟨r5, c5, rfl, ho5, hb5⟩; have HO5 := H! ho5; clear ho5; obtain ⟨hb5c, hb5f⟩ := yah hb5; have hb5s := hb5.size; (try simp only [zA] at hb5s); have hb5x : w.heap.size < w5.heap.size := (by omega); have hb5x3 : w3.heap.size < w5.heap.size := (by omega)) | (go_at_call 13; with_reducible (refine (HEq.out _ _ _ _ _ ?sd ?se).mono ?_); (case sd => exact HO2.out.later bw); (case se => exact HO5.out.later bw); rintro _ w6 ⟨rfl, hb6⟩; obtain ⟨hb6c, hb6f⟩ := yah hb6; have hb6s := hb6.size; (try simp only [zA] at hb6s); have hb6x : w.heap.size < w6.heap.size := (by omega); have hb6x3 : w3.heap.size < w6.heap.size := (by omega)) | (go_at_call 14; with_reducible (refine (HRt.out _ ?sd).mono ?_); (case sd => (exact bw)); rintro _ w7 ⟨⟨rc7, cc7, xY7, rt7, ct7, tY7, rv7, cv7, zY7, rm7, cm7, mY7, cells7, ri7, ci7, qY7, rs7, cs7, sY7, ro7, co7, oY7, rn7, cn7, iY7⟩, rfl, hp7, hq7, hb7⟩; simp only [PV.val]; have HP7 := H! hp7; have HQ7 := H! hq7; clear hp7 hq7; obtain ⟨hb7c, hb7f⟩ := yah hb7; have hb7s := hb7.size; (try simp only [zA] at hb7s); have hb7x : w.heap.size < w7.heap.size := (by omega); have hb7x3 : w3.heap.size < w7.heap.size := (by omega)) | (go_at_call 10; refine (HV2.out ⟨rc7, cc7, xY7, rt7, ct7, tY7, rv7, cv7, zY7, rm7, cm7, mY7, cells7, ri7, ci7, qY7, rs7, cs7, sY7, ro7, co7, oY7, rn7, cn7, iY7⟩ _ (HP7.out.later bw) HQ7.out).mono ?_; rintro _ w8 ⟨rfl, hb8⟩; obtain ⟨hb8c, hb8f⟩ := yah hb8; have hb8s := hb8.size; (try simp only [zA] at hb8s); have hb8x : w.heap.size < w8.heap.size := (by omega); have hb8x3 : w3.heap.size < w8.heap.size := (by omega)) | (go_at_call 11; with_reducible (refine (HNN.out _).mono ?_); skip; rintro _ w9 ⟨rfl, hb9⟩; obtain ⟨hb9c, hb9f⟩ := yah hb9; have hb9s := hb9.size; (try simp only [zA] at hb9s); have hb9x : w.heap.size < w9.heap.size := (by omega); have hb9x3 : w3.heap.size < w9.heap.size := (by omega)))
 go_ret
 exact ⟨by first | rfl | (simp; done), bw⟩
theorem ip_ok (p : PL) (i v : Int) (w : World) (hp : IsL w p) (hI : I64 v) (hg : yco p.v = false) (hv : yas p.v = true) (h0 : 0 ≤ i) (h1 : i < p.params.length) (hok : okP (p.v.p.patch i v) = true) : Calls Tryz.prog 3 #[p.v.val, .int .i64 i, .int .i64 v] w fun e w' => e = .returned (.bool true) ∧ Below w.heap.size w w' := by
 have HG := H! (fun W (h : Below w.heap.size w W) => ybs p.v W (hp.later h).isP)
 have hlen : p.v.p.body.length ≤ 90000 := ydt hg
 have hpl := yda hlen
 have HE : Hid (∀ W, Below w.heap.size w W → Calls Tryz.prog 8 #[p.v.val] W fun e w' => ∃ r c, e = .returned (.tuple #[.slice r p.params.length c, .int .i64 0]) ∧ IsInts w' r c .i64 p.params ∧ Below W.heap.size W w') := H! (fun W h => (ydr p W (hp.later h) hv (by omega)).mono fun _ _ ⟨r, c, h1, h2, h3⟩ => ⟨r, c, h1, h2.ints (ycl hp), h3⟩)
 have HRp : Hid (∀ W, Below w.heap.size w W → Calls Tryz.prog 12 #[p.v.val] W fun e w' => ∃ r c, e = .returned (.slice r p.params.length c) ∧ IsInts w' r c .i64 p.params ∧ Below W.heap.size W w') := H! (fun W h => (yen p W (hp.later h) (by omega)).mono fun _ _ ⟨r, c, h1, h2, h3⟩ => ⟨r, c, h1, h2.ints (ycl hp), h3⟩)
 have HEq : Hid (∀ W r c r' c', IsInts W r c .i64 p.params → IsInts W r' c' .i64 p.params → Calls Tryz.prog 13 #[.slice r p.params.length c, .slice r' p.params.length c'] W fun e w' => e = .returned (.bool true) ∧ Below W.heap.size W w') := H! (fun W r c r' c' h1 h2 => by
  have := yem r r' c c' p.params p.params W h1 h2
  rwa [show decide (p.params = p.params) = true by simp] at this)
 have HV := H! (fun W (h : Below w.heap.size w W) => ybl p.v W (hp.later h).isP)
 have HNN := H! yeh
 have HRt : Hid (∀ W, Below w.heap.size w W → Calls Tryz.prog 14 #[p.v.val, .int .i64 i, .int .i64 v] W fun e w' => ∃ q : PV, e = .returned q.val ∧ IsP w' q ∧ q.p = p.v.p.patch i v ∧ Below W.heap.size W w') := H! (fun W h => yhm p i v W (hp.later h) (PL.sm (by omega)) hI h0 (by omega) (by omega))
 have HV2 : Hid (∀ (q : PV) W, IsP W q → q.p = p.v.p.patch i v → Calls Tryz.prog 10 #[q.val] W fun e w' => e = .returned (.bool (okP (p.v.p.patch i v))) ∧ Below W.heap.size W w') := H! (fun q W h h2 => by
  have := ybl q W h
  rwa [← yjc, h2] at this)
 have HPt : Hid (∀ W, Below w.heap.size w W → Calls Tryz.prog 9 #[p.v.val, .int .i64 i, .int .i64 v] W fun e w' => ∃ q : PV, e = .returned (.tuple #[q.val, .int .i64 0]) ∧ IsP w' q ∧ q.p = p.v.p.patch i v ∧ Below W.heap.size W w') := H! (fun W h => (ych p i v W (hp.later h) (PL.sm (by omega)) hv hI (by omega)).mono fun _ _ h => by
  rcases h with ⟨_, q, h2, h3, h4, h5⟩ | ⟨h2, _⟩
  ·
   exact ⟨q.v, h2, h3.isL.isP, h4, h5⟩
  ·
   exact absurd ⟨⟨h0, h1⟩, hok⟩ h2)
 have HSM : Hid (∀ (q q2 : PV) W, IsP W q → IsP W q2 → q.p = p.v.p.patch i v → q2.p = p.v.p.patch i v → Calls Tryz.prog 15 #[q.val, q2.val] W fun e w' => e = .returned (.bool true) ∧ Below W.heap.size W w') := H! (fun q q2 W a1 a2 a3 a4 => by
  have hb := yhq p.v.p i v
  have := ygs q q2 W a1 a2 (by rw [a3]; omega) (by rw [a4]; omega)
  rwa [a3, a4, show decide ((p.v.p.patch i v).body = (p.v.p.patch i v).body) = true by simp] at this)
 rw [hg] at HG
 rw [hv] at HV
 rw [hok] at HV2
 clear hg hp hv hlen hok
 generalize p.params = xs at *
 generalize p.v.p.patch i v = PA at *
 obtain ⟨rc, cc, xY, rt, ct, tY, rv, cv, zY, rm, cm, mY, cells, ri, ci, qY, rs, cs, sY, ro, co, oY, rn, cn, iY⟩ := p
 simp only [PV.val, PL.v, List.length_map] at *
 go_enter Tryz.func3, Tryz.ntmps3
 go_upto_region 14 with (first | (go_at_call 6; refine (ybt _).mono ?_; rintro e hb0w ⟨rfl, hb0⟩; obtain ⟨hb0c, hb0f⟩ := yah hb0; have hb0s := hb0.size; (try simp only [zA] at hb0s); (try (have : w.heap.size < hb0w.heap.size := by omega)); (try (have : w.heap.size + 1 < hb0w.heap.size := by omega)); (try (have : w.heap.size + 1 + 1 < hb0w.heap.size := by omega)); (try (have : w.heap.size + 1 + 1 + 1 < hb0w.heap.size := by omega)); (try (have : bX < hb0w.heap.size := by omega)); (try (have : bY < hb0w.heap.size := by omega)); (try (have : bZ < hb0w.heap.size := by omega))) | (go_at_call 7; refine (HG.out _ bw).mono ?_; rintro e hb1w ⟨rfl, hb1⟩; obtain ⟨hb1c, hb1f⟩ := yah hb1; have hb1s := hb1.size; (try simp only [zA] at hb1s); (try (have : w.heap.size < hb1w.heap.size := by omega)); (try (have : w.heap.size + 1 < hb1w.heap.size := by omega)); (try (have : w.heap.size + 1 + 1 < hb1w.heap.size := by omega)); (try (have : w.heap.size + 1 + 1 + 1 < hb1w.heap.size := by omega)); (try (have : bX < hb1w.heap.size := by omega)); (try (have : bY < hb1w.heap.size := by omega)); (try (have : bZ < hb1w.heap.size := by omega))) | (go_at_call 8; with_reducible (refine (HE.out _ ?sd).mono ?_); (case sd => (exact bw)); rintro _ w2 ⟨r2, c2, rfl, ho2, hb2⟩; have HO2 := H! ho2; clear ho2; obtain ⟨hb2c, hb2f⟩ := yah hb2; have hb2s := hb2.size; (try simp only [zA] at hb2s); have hb2x : w.heap.size < w2.heap.size := (by omega)) | (go_at_call 9; with_reducible (refine (HPt.out _ ?sd).mono ?_); (case sd => (exact bw)); rintro _ w3 ⟨⟨rc3, cc3, xY3, rt3, ct3, tY3, rv3, cv3, zY3, rm3, cm3, mY3, cells3, ri3, ci3, qY3, rs3, cs3, sY3, ro3, co3, oY3, rn3, cn3, iY3⟩, rfl, hp3, hq3, hb3⟩; simp only [PV.val]; have HP3 := H! hp3; have HQ3 := H! hq3; clear hp3 hq3; obtain ⟨hb3c, hb3f⟩ := yah hb3; have hb3s := hb3.size; (try simp only [zA] at hb3s); have hb3x : w.heap.size < w3.heap.size := (by omega)) | (go_at_call 10; with_reducible (refine (HV.out _ ?sd).mono ?_); (case sd => (exact bw)); rintro _ w4 ⟨rfl, hb4⟩; obtain ⟨hb4c, hb4f⟩ := yah hb4; have hb4s := hb4.size; (try simp only [zA] at hb4s); have hb4x : w.heap.size < w4.heap.size := (by omega); have hb4x3 : w3.heap.size < w4.heap.size := (by omega)) | (go_at_call 12; with_reducible (refine (HRp.out _ ?sd).mono ?_); (case sd => (exact bw)); rintro _ w5 ⟨r5, c5, rfl, ho5, hb5⟩; have HO5 := H! ho5; clear ho5; obtain ⟨hb5c, hb5f⟩ := yah hb5; have hb5s := hb5.size; (try simp only [zA] at hb5s); have hb5x : w.heap.size < w5.heap.size := (by omega); have hb5x3 : w3.heap.size < w5.heap.size := (by omega)) | (go_at_call 13; with_reducible (refine (HEq.out _ _ _ _ _ ?sd ?se).mono ?_); (case sd => exact HO2.out.later bw); (case se => exact HO5.out.later bw); rintro _ w6 ⟨rfl, hb6⟩; obtain ⟨hb6c, hb6f⟩ := yah hb6; have hb6s := hb6.size; (try simp only [zA] at hb6s); have hb6x : w.heap.size < w6.heap.size := (by omega); have hb6x3 : w3.heap.size < w6.heap.size := (by omega)) | (go_at_call 14; with_reducible (refine (HRt.out _ ?sd).mono ?_); (case sd => (exact bw)); rintro _ w7 ⟨⟨rc7, cc7, xY7, rt7, ct7, tY7, rv7, cv7, zY7, rm7, cm7, mY7, cells7, ri7, ci7, qY7, rs7, cs7, sY7, ro7, co7, oY7, rn7, cn7, iY7⟩, rfl, hp7, hq7, hb7⟩; simp only [PV.val]; have HP7 := H! hp7; have HQ7 := H! hq7; clear hp7 hq7; obtain ⟨hb7c, hb7f⟩ := yah hb7; have hb7s := hb7.size; (try simp only [zA] at hb7s); have hb7x : w.heap.size < w7.heap.size := (by omega); have hb7x3 : w3.heap.size < w7.heap.size := (by omega)) | (go_at_call 10; refine (HV2.out ⟨rc7, cc7, xY7, rt7, ct7, tY7, rv7, cv7, zY7, rm7, cm7, mY7, cells7, ri7, ci7, qY7, rs7, cs7, sY7, ro7, co7, oY7, rn7, cn7, iY7⟩ _ (HP7.out.later bw) HQ7.out).mono ?_; rintro _ w8 ⟨rfl, hb8⟩; obtain ⟨hb8c, hb8f⟩ := yah hb8; have hb8s := hb8.size; (try simp only [zA] at hb8s); have hb8x : w.heap.size < w8.heap.size := (by omega); have hb8x3 : w3.heap.size < w8.heap.size := (by omega)))
 have AQ := (AtV.new w3 [.slice rc3 xY3.length cc3, .slice rt3 tY3.length ct3, .slice rv3 zY3.length cv3, .slice rm3 mY3.length cm3, .int .i64 cells3, .slice ri3 qY3.length ci3, .slice rs3 sY3.length cs3, .slice ro3 oY3.length co3, .slice rn3 iY3.length cn3] 28).keep (Below.block (show Below (w3.alloc (.cells #[.slice rc3 xY3.length cc3, .slice rt3 tY3.length ct3, .slice rv3 zY3.length cv3, .slice rm3 mY3.length cm3, .int .i64 cells3, .slice ri3 qY3.length ci3, .slice rs3 sY3.length cs3, .slice ro3 oY3.length co3, .slice rn3 iY3.length cn3] 28)).heap.size (w3.alloc (.cells #[.slice rc3 xY3.length cc3, .slice rt3 tY3.length ct3, .slice rv3 zY3.length cv3, .slice rm3 mY3.length cm3, .int .i64 cells3, .slice ri3 qY3.length ci3, .slice rs3 sY3.length cs3, .slice ro3 oY3.length co3, .slice rn3 iY3.length cn3] 28)) w8 from bw) _ (by rw [zA]; omega))
 have AP := (AtV.new w [.slice rc xY.length cc, .slice rt tY.length ct, .slice rv zY.length cv, .slice rm mY.length cm, .int .i64 cells, .slice ri qY.length ci, .slice rs sY.length cs, .slice ro oY.length co, .slice rn iY.length cn] 28).keep (Below.block (show Below (w.alloc (.cells #[.slice rc xY.length cc, .slice rt tY.length ct, .slice rv zY.length cv, .slice rm mY.length cm, .int .i64 cells, .slice ri qY.length ci, .slice rs sY.length cs, .slice ro oY.length co, .slice rn iY.length cn] 28)).heap.size (w.alloc (.cells #[.slice rc xY.length cc, .slice rt tY.length ct, .slice rv zY.length cv, .slice rm mY.length cm, .int .i64 cells, .slice ri qY.length ci, .slice rs sY.length cs, .slice ro oY.length co, .slice rn iY.length cn] 28)) w8 from bw) _ (by rw [zA]; omega))
 have hB38 : Below w3.heap.size w3 w8 := Below.trans ((Below.refl _ w3).alloc (Nat.le_refl _) (.cells #[.slice rc3 xY3.length cc3, .slice rt3 tY3.length ct3, .slice rv3 zY3.length cv3, .slice rm3 mY3.length cm3, .int .i64 cells3, .slice ri3 qY3.length ci3, .slice rs3 sY3.length cs3, .slice ro3 oY3.length co3, .slice rn3 iY3.length cn3] 28)) (Below.mono (show Below (w3.alloc (.cells #[.slice rc3 xY3.length cc3, .slice rt3 tY3.length ct3, .slice rv3 zY3.length cv3, .slice rm3 mY3.length cm3, .int .i64 cells3, .slice ri3 qY3.length ci3, .slice rs3 sY3.length cs3, .slice ro3 oY3.length co3, .slice rn3 iY3.length cn3] 28)).heap.size (w3.alloc (.cells #[.slice rc3 xY3.length cc3, .slice rt3 tY3.length ct3, .slice rv3 zY3.length cv3, .slice rm3 mY3.length cm3, .int .i64 cells3, .slice ri3 qY3.length ci3, .slice rs3 sY3.length cs3, .slice ro3 oY3.length co3, .slice rn3 iY3.length cn3] 28)) w8 from bw) (by rw [zA]; omega))
 have hB8 : Below w.heap.size w w8 := by clear hB38; (exact bw)
 have hql : w3.heap.size < w8.heap.size := by omega
 have hpl8 : w.heap.size < w8.heap.size := by omega
 have q0c := (AQ 0 _ rfl).1
 have p0c := (AP 0 _ rfl).1
 have q1c := (AQ 1 _ rfl).1
 have p1c := (AP 1 _ rfl).1
 have q2c := (AQ 2 _ rfl).1
 have p2c := (AP 2 _ rfl).1
 have q3c := (AQ 3 _ rfl).1
 have p3c := (AP 3 _ rfl).1
 have q4c := (AQ 4 _ rfl).1
 have p4c := (AP 4 _ rfl).1
 have q5c := (AQ 5 _ rfl).1
 have p5c := (AP 5 _ rfl).1
 have q6c := (AQ 6 _ rfl).1
 have p6c := (AP 6 _ rfl).1
 have q7c := (AQ 7 _ rfl).1
 have p7c := (AP 7 _ rfl).1
 have q8c := (AQ 8 _ rfl).1
 have p8c := (AP 8 _ rfl).1
 refine ybh (fun w' => Below w8.heap.size w8 w') (fun i => decide (i < 11)) (by kernel_rfl) ?_
 have hSd : (fun w' => Below w8.heap.size w8 w') w8.drew := (Below.refl _ _).drew
 try simp only [List.size_toArray, List.length_cons, List.length_nil, Array.replicate]
 refine yad (i := 0) (v := ?_) rfl (by kernel_rfl) (by kernel_rfl) (by kernel_rfl) (by kernel_rfl) (fun _ _ _ h => h) (Or.inl ⟨by rfl, ?y1⟩) (by assumption) ?r1
 case y1 => intro w0 hSw; (try dsimp only at hSw); go_simp; try with_reducible rfl
 try simp only [Act.put, List.setIfInBounds_toArray, List.set_cons_zero, List.set_cons_succ]
 refine yad (i := 1) (v := ?_) rfl (by kernel_rfl) (by kernel_rfl) (by kernel_rfl) (by kernel_rfl) (fun _ _ _ h => h) (Or.inl ⟨by rfl, ?y2⟩) (by assumption) ?r2
 case y2 => intro w0 hSw; (try dsimp only at hSw); go_simp; try with_reducible rfl
 try simp only [Act.put, List.setIfInBounds_toArray, List.set_cons_zero, List.set_cons_succ]
 refine yad (i := 2) (v := ?_) rfl (by kernel_rfl) (by kernel_rfl) (by kernel_rfl) (by kernel_rfl) (fun _ _ _ h => h) (Or.inl ⟨by rfl, ?y3⟩) (by assumption) ?r3
 case y3 => intro w0 hSw; (try dsimp only at hSw); go_simp; try with_reducible rfl
 try simp only [Act.put, List.setIfInBounds_toArray, List.set_cons_zero, List.set_cons_succ]
 refine yad (i := 3) (v := ?_) rfl (by kernel_rfl) (by kernel_rfl) (by kernel_rfl) (by kernel_rfl) (fun _ _ _ h => h) (Or.inl ⟨by rfl, ?y4⟩) (by assumption) ?r4
 case y4 => intro w0 hSw; (try dsimp only at hSw); have hx0 := (hSw.cell (p := ⟨w3.heap.size, 0, none⟩) hql).trans q0c; have hx1 := (hSw.cell (p := ⟨w3.heap.size, 1, none⟩) hql).trans q1c; have hx2 := (hSw.cell (p := ⟨w3.heap.size, 2, none⟩) hql).trans q2c; have hx3 := (hSw.cell (p := ⟨w3.heap.size, 3, none⟩) hql).trans q3c; have hx4 := (hSw.cell (p := ⟨w3.heap.size, 4, none⟩) hql).trans q4c; have hx5 := (hSw.cell (p := ⟨w3.heap.size, 5, none⟩) hql).trans q5c; have hx6 := (hSw.cell (p := ⟨w3.heap.size, 6, none⟩) hql).trans q6c; have hx7 := (hSw.cell (p := ⟨w3.heap.size, 7, none⟩) hql).trans q7c; have hx8 := (hSw.cell (p := ⟨w3.heap.size, 8, none⟩) hql).trans q8c; go_simp; try with_reducible rfl
 try simp only [Act.put, List.setIfInBounds_toArray, List.set_cons_zero, List.set_cons_succ]
 refine yad (i := 4) (v := ?_) rfl (by kernel_rfl) (by kernel_rfl) (by kernel_rfl) (by kernel_rfl) (fun _ _ _ h => h) (Or.inl ⟨by rfl, ?y5⟩) (by assumption) ?r5
 case y5 => intro w0 hSw; (try dsimp only at hSw); have hx0 := (hSw.cell (p := ⟨w.heap.size, 0, none⟩) hpl8).trans p0c; have hx1 := (hSw.cell (p := ⟨w.heap.size, 1, none⟩) hpl8).trans p1c; have hx2 := (hSw.cell (p := ⟨w.heap.size, 2, none⟩) hpl8).trans p2c; have hx3 := (hSw.cell (p := ⟨w.heap.size, 3, none⟩) hpl8).trans p3c; have hx4 := (hSw.cell (p := ⟨w.heap.size, 4, none⟩) hpl8).trans p4c; have hx5 := (hSw.cell (p := ⟨w.heap.size, 5, none⟩) hpl8).trans p5c; have hx6 := (hSw.cell (p := ⟨w.heap.size, 6, none⟩) hpl8).trans p6c; have hx7 := (hSw.cell (p := ⟨w.heap.size, 7, none⟩) hpl8).trans p7c; have hx8 := (hSw.cell (p := ⟨w.heap.size, 8, none⟩) hpl8).trans p8c; go_simp; try with_reducible rfl
 try simp only [Act.put, List.setIfInBounds_toArray, List.set_cons_zero, List.set_cons_succ]
 refine yad (i := 5) (v := ?_) rfl (by kernel_rfl) (by kernel_rfl) (by kernel_rfl) (by kernel_rfl) (fun _ _ _ h => h) (Or.inl ⟨by rfl, ?y6⟩) (by assumption) ?r6
 case y6 => intro w0 hSw; (try dsimp only at hSw); go_simp; try with_reducible rfl
 try simp only [Act.put, List.setIfInBounds_toArray, List.set_cons_zero, List.set_cons_succ]
 refine yad (i := 6) (v := ?_) rfl (by kernel_rfl) (by kernel_rfl) (by kernel_rfl) (by kernel_rfl) (fun _ _ _ h => h) (Or.inl ⟨by rfl, ?y7⟩) (by assumption) ?r7
 case y7 => intro w0 hSw; (try dsimp only at hSw); go_simp; try with_reducible rfl
 try simp only [Act.put, List.setIfInBounds_toArray, List.set_cons_zero, List.set_cons_succ]
 refine yat (i := 7) rfl (by kernel_rfl) (by rfl) (fun K hK => ?_)
 go_simp
 refine (HRt.out w8.drew (hB8.trans (Below.drew (Below.refl _ _)))).mono ?_
 rintro _ w9 ⟨⟨rc9, cc9, xY9, rt9, ct9, tY9, rv9, cv9, zY9, rm9, cm9, mY9, cells9, ri9, ci9, qY9, rs9, cs9, sY9, ro9, co9, oY9, rn9, cn9, iY9⟩, rfl, hp9, hq9, hb9⟩
 simp only [PV.val]
 have hS9 : (fun w' => Below w8.heap.size w8 w') w9 := (Below.refl _ _).drew.trans hb9
 refine hK _ _ (fun _ => hS9) ?_
 clear hK K
 try simp only [Act.put, List.setIfInBounds_toArray, List.set_cons_zero, List.set_cons_succ]
 refine yat (i := 8) rfl (by kernel_rfl) (by rfl) (fun K hK => ?_)
 go_simp
 refine (HSM.out ⟨rc3, cc3, xY3, rt3, ct3, tY3, rv3, cv3, zY3, rm3, cm3, mY3, cells3, ri3, ci3, qY3, rs3, cs3, sY3, ro3, co3, oY3, rn3, cn3, iY3⟩ ⟨rc9, cc9, xY9, rt9, ct9, tY9, rv9, cv9, zY9, rm9, cm9, mY9, cells9, ri9, ci9, qY9, rs9, cs9, sY9, ro9, co9, oY9, rn9, cn9, iY9⟩ w9 (HP3.out.later (hB38.trans (Below.mono hS9 hB38.size))) hp9 HQ3.out hq9).mono ?_
 rintro _ w10 ⟨rfl, hb10⟩
 have hS10 : (fun w' => Below w8.heap.size w8 w') w10 := Below.trans hS9 (hb10.mono (Below.size hS9))
 refine hK _ _ (fun _ => hS10) ?_
 clear hK K
 try simp only [Act.put, List.setIfInBounds_toArray, List.set_cons_zero, List.set_cons_succ]
 refine yad (i := 9) (v := ?_) rfl (by kernel_rfl) (by kernel_rfl) (by kernel_rfl) (by kernel_rfl) (fun _ _ _ h => h) (Or.inl ⟨by rfl, ?y8⟩) (by assumption) ?r8
 case y8 => intro w0 hSw; (try dsimp only at hSw); go_simp; try with_reducible rfl
 try simp only [Act.put, List.setIfInBounds_toArray, List.set_cons_zero, List.set_cons_succ]
 refine yad (i := 10) (v := ?_) rfl (by kernel_rfl) (by kernel_rfl) (by kernel_rfl) (by kernel_rfl) (fun _ _ _ h => h) (Or.inl ⟨by rfl, ?y9⟩) (by assumption) ?r9
 case y9 => intro w0 hSw; (try dsimp only at hSw); go_simp; try with_reducible rfl
 try simp only [Act.put, List.setIfInBounds_toArray, List.set_cons_zero, List.set_cons_succ]
 refine ycb (by kernel_rfl) ?_
 go_wp2
 go_ret
 exact ⟨by first | rfl | (simp; done), hB8.trans (Below.mono hS10 hB8.size)⟩
theorem ip_walk (p : PV) (i v : Int) (w : World) (hp : IsP w p) (hI : (Lit.int .i64 v).wf = true) : Calls Tryz.prog 3 #[p.val, .int .i64 i, .int .i64 v] w fun e w' => e = .returned (.bool true) ∧ Below w.heap.size w w' := by
 obtain ⟨p, rfl, hL⟩ := hp.isL
 cases hg : yco p.v
 ·
  cases hv : yas p.v
  ·
   exact ip_bad p i v w hL hg hv
  ·
   by_cases h0 : 0 ≤ i
   ·
    by_cases h1 : i < p.params.length
    ·
     cases hok : okP (p.v.p.patch i v)
     ·
      exact ip_inv p i v w hL hI hg hv h0 h1 hok
     ·
      exact ip_ok p i v w hL hI hg hv h0 h1 hok
    ·
     exact ip_far p i v w hL hI hg hv (by omega)
   ·
    exact ip_neg p i v w hL hI hg hv (by omega)
 ·
  exact ip_great p i v w hL hg
theorem ipatches_holds : Rows.ImagePatchesSaid :=
 OpenClaim.holds_of_wide 3 Tryz.f3 rfl rfl rfl rfl rfl rfl rfl ⟨rfl, rfl, rfl, rfl, rfl⟩ rfl rfl rfl rfl rfl (by kernel_rfl) Tryz.func3 (by kernel_rfl)
  (of_decide_eq_true (by kernel_rfl)) (by unfold Func.isWrapper; first | (rw [if_pos (by decide +kernel)]; kernel_rfl) | (rw [if_neg (by decide +kernel)]; exact ⟨rfl, rfl⟩))
  (fun os started H enc _ => by
   refine yjg started (s := Rows.imagePatchesSpec) (conds := Rows.imagePatchesRow.domain) Tryz.func3 (by kernel_rfl) rfl 4 rfl Tryz.underlying4 (by decide +kernel) (fun ds h => ?_)
    (ChangeSpec.witness6 (enc := enc) (C := Tryz.checked) false ⟨#[], #[.agg #[.slice none 0 0, .slice none 0 0, .slice none 0 0, .slice none 0 0, .int .i64 0, .slice none 0 0, .slice none 0 0, .slice none 0 0, .slice none 0 0], .int .i64 0, .int .i64 0], []⟩ 12 (by kernel_rfl) (by kernel_rfl) (by kernel_rfl) (by kernel_rfl)) ?_
   ·
    match ds, h with
    | [_, _, _], _ => rfl
   ·
    intro W base args ds p hval hA _
    rw [Tryz.params3] at hA hval
    obtain ⟨v0, vs0, d0, ds0, p0, q0, hargs, rfl, rfl, h0, r0⟩ := trodAll_cons hA
    obtain ⟨v1, vs1, d1, ds1, p1, q1, rfl, rfl, rfl, h1, r1⟩ := trodAll_cons r0
    obtain ⟨v2, vs2, d2, ds2, p2, q2, rfl, rfl, rfl, h2, r2⟩ := trodAll_cons r1
    obtain ⟨rfl, rfl, rfl⟩ := trodAll_nil r2
    obtain rfl : args = #[v0, v1, v2] := by cases args; simp_all
    obtain ⟨cs0, rfl, k0⟩ := ynw Tryz.underlying28 (hval 0 _ v0 rfl rfl) h0
    obtain ⟨pv0, rfl, g0⟩ := yfw k0
    rw [← PV.val_eq]
    obtain ⟨b1, rfl, rfl, rfl, w1⟩ := open_int Tryz.underlying3 (hval 1 _ v1 rfl rfl) h1
    obtain ⟨b2, rfl, rfl, rfl, w2⟩ := open_int Tryz.underlying3 (hval 2 _ v2 rfl rfl) h2
    apply ip_walk <;> (first | assumption | rfl))
#print axioms ipatches_holds
end Go.Proofs.YtfooefiaenlhmaaGreat
