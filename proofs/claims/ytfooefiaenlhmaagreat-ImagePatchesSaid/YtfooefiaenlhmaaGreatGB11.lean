/- Lemmas for the laws of package magnetolaw15: what its functions return, for any arguments that the lemmas name. -/
import Derived.Test.YtfooefiaenlhmaaGreatGB9
import Derived.Test.YtfooefiaenlhmaaGreatGB10
import Derived.Sort.CutIn
set_option maxRecDepth 100000
namespace Go.Proofs.YtfooefiaenlhmaaGreat
set_option linter.all false
set_option maxHeartbeats 16000000
open Go.RowKit Go.ChangeShapes Go.WideShapes Go.ChangeAt
section
open Go.Shelf
attribute [local go_sem] Oper.semAt_some
theorem ykx (w : World) (l0 l1 l2 l3 l4 : List Value) (t0 t1 t2 t3 t4 : TypeId) : AtV (((((w.alloc (.cells l0.toArray t0)).alloc (.cells l1.toArray t1)).alloc (.cells l2.toArray t2)).alloc (.cells l3.toArray t3)).alloc (.cells l4.toArray t4)) w.heap.size l0 ∧
  AtV (((((w.alloc (.cells l0.toArray t0)).alloc (.cells l1.toArray t1)).alloc (.cells l2.toArray t2)).alloc (.cells l3.toArray t3)).alloc (.cells l4.toArray t4)) (w.heap.size + 1) l1 ∧
  AtV (((((w.alloc (.cells l0.toArray t0)).alloc (.cells l1.toArray t1)).alloc (.cells l2.toArray t2)).alloc (.cells l3.toArray t3)).alloc (.cells l4.toArray t4)) (w.heap.size + 1 + 1) l2 ∧
  AtV (((((w.alloc (.cells l0.toArray t0)).alloc (.cells l1.toArray t1)).alloc (.cells l2.toArray t2)).alloc (.cells l3.toArray t3)).alloc (.cells l4.toArray t4)) (w.heap.size + 1 + 1 + 1) l3 ∧
  AtV (((((w.alloc (.cells l0.toArray t0)).alloc (.cells l1.toArray t1)).alloc (.cells l2.toArray t2)).alloc (.cells l3.toArray t3)).alloc (.cells l4.toArray t4)) (w.heap.size + 1 + 1 + 1 + 1) l4 := by
 have kp : ∀ {W : World} {b : Nat} {l : List Value} (o : Obj), b < W.heap.size → AtV W b l → AtV (W.alloc o) b l := fun o hb h => h.keep (Below.heap_alloc _ _ _ hb)
 have nw : ∀ (W : World) (n : Nat) (l : List Value) (t : TypeId), W.heap.size = n → AtV (W.alloc (.cells l.toArray t)) n l := fun W n l t h => by subst h; exact AtV.new W l t
 refine ⟨?_, ?_, ?_, ?_, ?_⟩
 ·
  exact kp _ (by simp only [zA]; omega) (kp _ (by simp only [zA]; omega) (kp _ (by simp only [zA]; omega) (kp _ (by simp only [zA]; omega) (nw _ _ _ _ rfl))))
 ·
  exact kp _ (by simp only [zA]; omega) (kp _ (by simp only [zA]; omega) (kp _ (by simp only [zA]; omega) (nw _ _ _ _ (by simp only [zA]))))
 ·
  exact kp _ (by simp only [zA]; omega) (kp _ (by simp only [zA]; omega) (nw _ _ _ _ (by simp only [zA])))
 ·
  exact kp _ (by simp only [zA]; omega) (nw _ _ _ _ (by simp only [zA]))
 ·
  exact nw _ _ _ _ (by simp only [zA])
theorem ygh (W : World) (A : Nat) (u0 u1 u2 u3 u4 u5 u6 u7 u8 v0 v1 v2 v3 v4 v5 v6 v7 v8 : Value) (h : AtV W A [u0, u1, u2, u3, u4, u5, u6, u7, u8]) : AtV (((((((((W.setCell ⟨A, 0, none⟩ (v0)).setCell ⟨A, 1, none⟩ (v1)).setCell ⟨A, 2, none⟩ (v2)).setCell ⟨A, 3, none⟩ (v3)).setCell ⟨A, 4, none⟩ (v4)).setCell ⟨A, 5, none⟩ (v5)).setCell ⟨A, 6, none⟩ (v6)).setCell ⟨A, 7, none⟩ (v7)).setCell ⟨A, 8, none⟩ (v8)) A [v0, v1, v2, v3, v4, v5, v6, v7, v8] ∧ (((((((((W.setCell ⟨A, 0, none⟩ (v0)).setCell ⟨A, 1, none⟩ (v1)).setCell ⟨A, 2, none⟩ (v2)).setCell ⟨A, 3, none⟩ (v3)).setCell ⟨A, 4, none⟩ (v4)).setCell ⟨A, 5, none⟩ (v5)).setCell ⟨A, 6, none⟩ (v6)).setCell ⟨A, 7, none⟩ (v7)).setCell ⟨A, 8, none⟩ (v8)).heap.size = W.heap.size ∧ (∀ q, q ≠ A → (((((((((W.setCell ⟨A, 0, none⟩ (v0)).setCell ⟨A, 1, none⟩ (v1)).setCell ⟨A, 2, none⟩ (v2)).setCell ⟨A, 3, none⟩ (v3)).setCell ⟨A, 4, none⟩ (v4)).setCell ⟨A, 5, none⟩ (v5)).setCell ⟨A, 6, none⟩ (v6)).setCell ⟨A, 7, none⟩ (v7)).setCell ⟨A, 8, none⟩ (v8)).heap[q]? = W.heap[q]?) ∧ Below A W (((((((((W.setCell ⟨A, 0, none⟩ (v0)).setCell ⟨A, 1, none⟩ (v1)).setCell ⟨A, 2, none⟩ (v2)).setCell ⟨A, 3, none⟩ (v3)).setCell ⟨A, 4, none⟩ (v4)).setCell ⟨A, 5, none⟩ (v5)).setCell ⟨A, 6, none⟩ (v6)).setCell ⟨A, 7, none⟩ (v7)).setCell ⟨A, 8, none⟩ (v8)) := by
 refine ⟨?_, ?_, fun q hq => ?_, ?_⟩
 ·
  have h1 := (((((((((h.set (j := 0) (by simp) v0).set (j := 1) (by simp) v1).set (j := 2) (by simp) v2).set (j := 3) (by simp) v3).set (j := 4) (by simp) v4).set (j := 5) (by simp) v5).set (j := 6) (by simp) v6).set (j := 7) (by simp) v7).set (j := 8) (by simp) v8)
  simpa only [List.set_cons_zero, List.set_cons_succ] using h1
 ·
  simp only [zS]
 ·
  rw [Below.heap_setCell _ _ _ _ hq, Below.heap_setCell _ _ _ _ hq, Below.heap_setCell _ _ _ _ hq, Below.heap_setCell _ _ _ _ hq, Below.heap_setCell _ _ _ _ hq, Below.heap_setCell _ _ _ _ hq, Below.heap_setCell _ _ _ _ hq, Below.heap_setCell _ _ _ _ hq, Below.heap_setCell _ _ _ _ hq]
 ·
  exact ((((((((((Below.refl _ _).setCell (p := ⟨A, 0, none⟩) (Nat.le_refl _) v0).setCell (p := ⟨A, 1, none⟩) (Nat.le_refl _) v1).setCell (p := ⟨A, 2, none⟩) (Nat.le_refl _) v2).setCell (p := ⟨A, 3, none⟩) (Nat.le_refl _) v3).setCell (p := ⟨A, 4, none⟩) (Nat.le_refl _) v4).setCell (p := ⟨A, 5, none⟩) (Nat.le_refl _) v5).setCell (p := ⟨A, 6, none⟩) (Nat.le_refl _) v6).setCell (p := ⟨A, 7, none⟩) (Nat.le_refl _) v7).setCell (p := ⟨A, 8, none⟩) (Nat.le_refl _) v8)
theorem OwnF.keepq {D : Nat} {W W' : World} {F : List (Nat × List Value)} (h : OwnF D W F) (hs : W.heap.size ≤ W'.heap.size) (hq : ∀ q, D ≤ q → q < W.heap.size → W'.heap[q]? = W.heap[q]?) : OwnF D W' F :=
 ⟨h.1, fun p hp => ⟨(h.2 p hp).1, Nat.lt_of_lt_of_le (h.2 p hp).2.1 hs, (h.2 p hp).2.2.keep (hq _ (h.2 p hp).1 (h.2 p hp).2.1)⟩⟩
theorem OwnP.keepq {D : Nat} {W W' : World} {p : PL} (h : OwnP D W p) (hs : W.heap.size ≤ W'.heap.size) (hq : ∀ q, D ≤ q → q < W.heap.size → W'.heap[q]? = W.heap[q]?) : OwnP D W' p := ⟨h.1.keepq hs hq, h.2⟩
theorem Upd.fst {F F' : List (Nat × List Value)} {a : Addr} {v : Value} (h : Upd F F' a v) : F'.map Prod.fst = F.map Prod.fst := by
 obtain ⟨F1, b, l, F2, j, rfl, rfl, _, _⟩ := h
 simp
theorem yls {D : Nat} {W : World} {p : PL} (h : OwnP D W p) {i : Nat} {a : Addr} (ha : p.places[i]? = some a) (v : Int) : (p.patch i v).frag.map Prod.fst = p.frag.map Prod.fst := by
 have hi : i < p.places.length := by
  rcases Nat.lt_or_ge i p.places.length with hh | hh
  ·
   exact hh
  ·
   rw [List.getElem?_eq_none hh] at ha; cases ha
 rw [ydn] at hi
 obtain ⟨a', h1, h2⟩ := (ynm h.2 (i : Int) v).2.1 ⟨by omega, by omega⟩
 exact h2.fst
structure PtS (w : World) (D : Nat) (q : PL) (i v : Int) (W : World) : Prop where
 prog : AtV W w.heap.size (PV.enc q.v)
 idx : AtV W (w.heap.size + 1) [.int .i64 i]
 val : AtV W (w.heap.size + 1 + 1) [.int .i64 v]
 res : AtV W (w.heap.size + 1 + 1 + 1) [.slice none 0 0, .slice none 0 0, .slice none 0 0, .slice none 0 0, .int .i64 0, .slice none 0 0, .slice none 0 0, .slice none 0 0, .slice none 0 0]
 err : AtV W (w.heap.size + 1 + 1 + 1 + 1) [.int .i64 0]
 own : OwnP D W q
 below : Below w.heap.size w W
 lo : w.heap.size + 5 ≤ D
 hi : D ≤ W.heap.size
theorem PtS.later {w W W' : World} {D : Nat} {q : PL} {i v : Int} (h : PtS w D q i v W) (hb : Below W.heap.size W W') : PtS w D q i v W' := by
 have h1 := h.lo
 have h2 := h.hi
 have k : ∀ b, b < w.heap.size + 5 → W'.heap[b]? = W.heap[b]? := fun b hb' => hb.block b (by omega)
 exact ⟨h.prog.keep (k _ (by omega)), h.idx.keep (k _ (by omega)), h.val.keep (k _ (by omega)), h.res.keep (k _ (by omega)), h.err.keep (k _ (by omega)), h.own.below hb, h.below.trans (hb.mono h.below.size), h1, Nat.le_trans h2 hb.size⟩
def PtE (w : World) (D B : Nat) (q' : PL) (ok : Bool) (W : World) : Prop :=
 (∀ x ∈ q'.frag, x.1 < B) ∧ w.heap.size + 5 ≤ B ∧ B ≤ W.heap.size ∧ w.heap.size ≤ D ∧ Below w.heap.size w W ∧ (if ok = true then AtV W (w.heap.size + 1 + 1 + 1) (PV.enc q'.v) ∧ AtV W (w.heap.size + 1 + 1 + 1 + 1) [.int .i64 0] ∧ OwnP D W q' else AtV W (w.heap.size + 1 + 1 + 1) [.slice none 0 0, .slice none 0 0, .slice none 0 0, .slice none 0 0, .int .i64 0, .slice none 0 0, .slice none 0 0, .slice none 0 0, .slice none 0 0] ∧ AtV W (w.heap.size + 1 + 1 + 1 + 1) [.int .i64 2])
theorem PtE.from {β : Type} {w : World} {D B : Nat} {q' : PL} {ok : Bool} : OwnFrom B (fun (_ : β) W => PtE w D B q' ok W) := fun s X Y row hs hg hr => by
 obtain ⟨h1, h2, h3, h4, h5, h6⟩ := hs
 have k : ∀ b, b < B → Y.heap[b]? = X.heap[b]? := fun b hb => hg.block b (by omega) (fun e => by have := (hr b e.symm).1; omega)
 refine ⟨h1, h2, Nat.le_trans h3 hg.size, h4, h5.trans ⟨hg.os, hg.tape, hg.output, hg.size, fun b hb => k b (by omega)⟩, ?_⟩
 cases ok with
 | true =>
  obtain ⟨a1, a2, a3⟩ := h6
  refine ⟨a1.keep (k _ (by omega)), a2.keep (k _ (by omega)), ⟨a3.1.1, fun p hp => ?_⟩, a3.2⟩
  obtain ⟨b1, b2, b3⟩ := a3.1.2 p hp
  exact ⟨b1, Nat.lt_of_lt_of_le b2 hg.size, b3.keep (k _ (h1 p hp))⟩
 | false =>
  obtain ⟨a1, a2⟩ := h6
  exact ⟨a1.keep (k _ (by omega)), a2.keep (k _ (by omega))⟩
theorem KeepT.setBox {B Bo : Nat} {W : World} {u : Value} (hb : Boxed W Bo 3 u) (v : Value) : KeepT B Bo W (W.setCell ⟨Bo, 0, none⟩ v) :=
 ⟨⟨(Below.refl 0 W).setCell (p := ⟨Bo, 0, none⟩) (Nat.zero_le _) _, fun b _ hne => Below.heap_setCell _ _ _ _ hne⟩, fun b vs t fr hb' h1 _ => Below.heap_setCell _ _ _ _ (fun e => by
  subst e
  rw [show W.heap[_]? = _ from hb] at hb'
  cases hb'
  exact h1 rfl)⟩
theorem yja (p : PL) (i v : Int) : PV.enc (p.patch i v).v = PV.enc p.v := by
 obtain ⟨rc, cc, xY, rt, ct, tY, rv, cv, zY, rm, cm, mY, cells, ri, ci, qY, rs, cs, sY, ro, co, oY, rn, cn, iY⟩ := p
 simp only [PV.enc, PL.v, PL.patch, List.length_map, ybq]
theorem piL_ge {n k : Nat} (h : n ≤ k) : piL n k = piL n n := by
 obtain ⟨d, rfl⟩ : ∃ d, k = n + d := ⟨k - n, by omega⟩
 induction d with
 | zero => rfl
 | succ d ih =>
  have : piL n (n + d + 1) = piL n (n + d) := by
   unfold piL
   rw [List.range_succ, List.filterMap_append]
   simp only [List.filterMap_cons, List.filterMap_nil]
   rw [dif_neg (by omega)]
   simp
  rw [← Nat.add_assoc, this, ih (by omega)]
theorem yms {n : Nat} : ∀ (k : Nat) {j : Nat} {x : Pi n}, (piL n k)[j]? = some x → x.1 = j
 | 0, j, x, h => by simp [piL] at h
 | k + 1, j, x, h => by
  by_cases hk : k < n
  ·
   rw [ycr hk] at h
   by_cases hj : j < (piL n k).length
   ·
    rw [List.getElem?_append_left hj] at h
    exact yms k h
   ·
    rw [yef (by omega)] at hj
    rw [List.getElem?_append_right (by rw [yef (by omega)]; omega), yef (by omega)] at h
    cases hd : j - k with
    | zero =>
     rw [hd] at h
     have h' : some (⟨k, hk⟩ : Pi n) = some x := h
     cases h'
     show k = j
     omega
    | succ d =>
     rw [hd] at h
     have h' : (none : Option (Pi n)) = some x := h
     cases h'
  ·
   rw [piL_ge (by omega), ← piL_ge (show n ≤ k by omega)] at h
   exact yms k h
theorem piL_last {n k : Nat} {pre : List (Pi n)} {x : Pi n} (h : pre ++ [x] = piL n k) : x.1 = pre.length := yms k (j := pre.length) (by rw [← h]; simp)
theorem yei {B : Nat} {W W' : World} (h : Below W.heap.size W W') : KeepsFrom B W W' := ⟨h.size, fun k o _ hk _ => (h.block k (Array.getElem?_eq_some_iff.1 hk).1).trans hk⟩
theorem yff {B : Nat} (W : World) {b : Nat} (hb : b < B) (j : Nat) (sp : Option Nat) (v : Value) : KeepsFrom B W (W.setCell ⟨b, j, none⟩ v) :=
 ⟨by rw [zS]; exact Nat.le_refl _, fun k o hk h _ => (Below.heap_setCell _ _ _ _ (show k ≠ b by omega)).trans h⟩
theorem yhv (p : PV) (i v : Int) (w : World) (hp : IsP w p) (hv : yas p = false) : Calls Tryz.prog 9 #[p.val, .int .i64 i, .int .i64 v] w fun e w' => e = .returned (.tuple #[pv0.val, .int .i64 1]) ∧ Below w.heap.size w w' := by
 have H1 := H! (fun W (h : Below w.heap.size w W) => ydp p W (hp.later h))
 rw [hv] at H1
 clear hp hv
 obtain ⟨rc, cc, xY, rt, ct, tY, rv, cv, zY, rm, cm, mY, cells, ri, ci, qY, rs, cs, sY, ro, co, oY, rn, cn, iY⟩ := p
 simp only [PV.val] at H1 ⊢
 refine (callsIn_wide (n := 10)).1 ?_
 refine callsIn_of_wp_marks Tryz.func9 rfl trivial ?_ rfl
 simp only [Tryz.ntmps9, List.size_toArray, List.length_cons, List.length_nil, Nat.reduceAdd, Nat.reduceSub, Array.replicate_succ, Array.replicate_zero, List.push_toArray, List.append_toArray, List.nil_append, List.cons_append]
 gi_upto_region 1 with fail
 have hBa : Below w.heap.size w (((((w.alloc (.cells #[.slice rc xY.length cc, .slice rt tY.length ct, .slice rv zY.length cv, .slice rm mY.length cm, .int .i64 cells, .slice ri qY.length ci, .slice rs sY.length cs, .slice ro oY.length co, .slice rn iY.length cn] 28)).alloc (.cells #[.int .i64 i] 3)).alloc (.cells #[.int .i64 v] 3)).alloc (.cells #[.slice none 0 0, .slice none 0 0, .slice none 0 0, .slice none 0 0, .int .i64 0, .slice none 0 0, .slice none 0 0, .slice none 0 0, .slice none 0 0] 28)).alloc (.cells #[.int .i64 0] 31)) := bw
 have hza : (((((w.alloc (.cells #[.slice rc xY.length cc, .slice rt tY.length ct, .slice rv zY.length cv, .slice rm mY.length cm, .int .i64 cells, .slice ri qY.length ci, .slice rs sY.length cs, .slice ro oY.length co, .slice rn iY.length cn] 28)).alloc (.cells #[.int .i64 i] 3)).alloc (.cells #[.int .i64 v] 3)).alloc (.cells #[.slice none 0 0, .slice none 0 0, .slice none 0 0, .slice none 0 0, .int .i64 0, .slice none 0 0, .slice none 0 0, .slice none 0 0, .slice none 0 0] 28)).alloc (.cells #[.int .i64 0] 31)).heap.size = w.heap.size + 5 := by simp only [zA]
 have S0 : AtV (((((w.alloc (.cells #[.slice rc xY.length cc, .slice rt tY.length ct, .slice rv zY.length cv, .slice rm mY.length cm, .int .i64 cells, .slice ri qY.length ci, .slice rs sY.length cs, .slice ro oY.length co, .slice rn iY.length cn] 28)).alloc (.cells #[.int .i64 i] 3)).alloc (.cells #[.int .i64 v] 3)).alloc (.cells #[.slice none 0 0, .slice none 0 0, .slice none 0 0, .slice none 0 0, .int .i64 0, .slice none 0 0, .slice none 0 0, .slice none 0 0, .slice none 0 0] 28)).alloc (.cells #[.int .i64 0] 31)) w.heap.size [.slice rc xY.length cc, .slice rt tY.length ct, .slice rv zY.length cv, .slice rm mY.length cm, .int .i64 cells, .slice ri qY.length ci, .slice rs sY.length cs, .slice ro oY.length co, .slice rn iY.length cn] ∧ AtV (((((w.alloc (.cells #[.slice rc xY.length cc, .slice rt tY.length ct, .slice rv zY.length cv, .slice rm mY.length cm, .int .i64 cells, .slice ri qY.length ci, .slice rs sY.length cs, .slice ro oY.length co, .slice rn iY.length cn] 28)).alloc (.cells #[.int .i64 i] 3)).alloc (.cells #[.int .i64 v] 3)).alloc (.cells #[.slice none 0 0, .slice none 0 0, .slice none 0 0, .slice none 0 0, .int .i64 0, .slice none 0 0, .slice none 0 0, .slice none 0 0, .slice none 0 0] 28)).alloc (.cells #[.int .i64 0] 31)) (w.heap.size + 1) [.int .i64 i] ∧ AtV (((((w.alloc (.cells #[.slice rc xY.length cc, .slice rt tY.length ct, .slice rv zY.length cv, .slice rm mY.length cm, .int .i64 cells, .slice ri qY.length ci, .slice rs sY.length cs, .slice ro oY.length co, .slice rn iY.length cn] 28)).alloc (.cells #[.int .i64 i] 3)).alloc (.cells #[.int .i64 v] 3)).alloc (.cells #[.slice none 0 0, .slice none 0 0, .slice none 0 0, .slice none 0 0, .int .i64 0, .slice none 0 0, .slice none 0 0, .slice none 0 0, .slice none 0 0] 28)).alloc (.cells #[.int .i64 0] 31)) (w.heap.size + 1 + 1) [.int .i64 v] ∧ AtV (((((w.alloc (.cells #[.slice rc xY.length cc, .slice rt tY.length ct, .slice rv zY.length cv, .slice rm mY.length cm, .int .i64 cells, .slice ri qY.length ci, .slice rs sY.length cs, .slice ro oY.length co, .slice rn iY.length cn] 28)).alloc (.cells #[.int .i64 i] 3)).alloc (.cells #[.int .i64 v] 3)).alloc (.cells #[.slice none 0 0, .slice none 0 0, .slice none 0 0, .slice none 0 0, .int .i64 0, .slice none 0 0, .slice none 0 0, .slice none 0 0, .slice none 0 0] 28)).alloc (.cells #[.int .i64 0] 31)) (w.heap.size + 1 + 1 + 1) [.slice none 0 0, .slice none 0 0, .slice none 0 0, .slice none 0 0, .int .i64 0, .slice none 0 0, .slice none 0 0, .slice none 0 0, .slice none 0 0] ∧ AtV (((((w.alloc (.cells #[.slice rc xY.length cc, .slice rt tY.length ct, .slice rv zY.length cv, .slice rm mY.length cm, .int .i64 cells, .slice ri qY.length ci, .slice rs sY.length cs, .slice ro oY.length co, .slice rn iY.length cn] 28)).alloc (.cells #[.int .i64 i] 3)).alloc (.cells #[.int .i64 v] 3)).alloc (.cells #[.slice none 0 0, .slice none 0 0, .slice none 0 0, .slice none 0 0, .int .i64 0, .slice none 0 0, .slice none 0 0, .slice none 0 0, .slice none 0 0] 28)).alloc (.cells #[.int .i64 0] 31)) (w.heap.size + 1 + 1 + 1 + 1) [.int .i64 0] := ykx w _ _ _ _ _ _ _ _ _ _
 generalize ((((w.alloc (.cells #[.slice rc xY.length cc, .slice rt tY.length ct, .slice rv zY.length cv, .slice rm mY.length cm, .int .i64 cells, .slice ri qY.length ci, .slice rs sY.length cs, .slice ro oY.length co, .slice rn iY.length cn] 28)).alloc (.cells #[.int .i64 i] 3)).alloc (.cells #[.int .i64 v] 3)).alloc (.cells #[.slice none 0 0, .slice none 0 0, .slice none 0 0, .slice none 0 0, .int .i64 0, .slice none 0 0, .slice none 0 0, .slice none 0 0, .slice none 0 0] 28)).alloc (.cells #[.int .i64 0] 31) = Wa at *
 obtain ⟨AP, AI, AV, AR, AE⟩ := S0
 have pc0 := (AP 0 _ rfl).1
 have pc1 := (AP 1 _ rfl).1
 have pc2 := (AP 2 _ rfl).1
 have pc3 := (AP 3 _ rfl).1
 have pc4 := (AP 4 _ rfl).1
 have pc5 := (AP 5 _ rfl).1
 have pc6 := (AP 6 _ rfl).1
 have pc7 := (AP 7 _ rfl).1
 have pc8 := (AP 8 _ rfl).1
 gi_upto_region 2 with (refine ⟨trivial, ?_⟩; gi_at_call 26; refine (callsIn_wide.2 (H1.out _ bw)).mono ?_; rintro _ wv ⟨rfl, hbv⟩)
 have hzv : w.heap.size + 5 ≤ wv.heap.size := by have := hbv.size; omega
 have kv : ∀ b, b < w.heap.size + 5 → wv.heap[b]? = Wa.heap[b]? := fun b hb => hbv.block b (by omega)
 have ARv := AR.keep (kv _ (by omega))
 have AEv := AE.keep (kv _ (by omega))
 have hBv : Below w.heap.size w wv := hBa.trans (hbv.mono hBa.size)
 have rc0 := (ARv 0 _ rfl).1
 have rf0 := (ARv 0 _ rfl).2
 have rc1 := (ARv 1 _ rfl).1
 have rf1 := (ARv 1 _ rfl).2
 have rc2 := (ARv 2 _ rfl).1
 have rf2 := (ARv 2 _ rfl).2
 have rc3 := (ARv 3 _ rfl).1
 have rf3 := (ARv 3 _ rfl).2
 have rc4 := (ARv 4 _ rfl).1
 have rf4 := (ARv 4 _ rfl).2
 have rc5 := (ARv 5 _ rfl).1
 have rf5 := (ARv 5 _ rfl).2
 have rc6 := (ARv 6 _ rfl).1
 have rf6 := (ARv 6 _ rfl).2
 have rc7 := (ARv 7 _ rfl).1
 have rf7 := (ARv 7 _ rfl).2
 have rc8 := (ARv 8 _ rfl).1
 have rf8 := (ARv 8 _ rfl).2
 have ec0 := (AEv 0 _ rfl).1
 have ef0 := (AEv 0 _ rfl).2
 clear AP AI AV AR AE hbv hBa hza kv ARv AEv
 gi_wp2
 refine ⟨_, (by simp [results, Tryz.results9, go_sem, *]; try rfl), ?_⟩
 exact ⟨rfl, ((((((((((hBv.setCell (p := ⟨w.heap.size + 1 + 1 + 1, 0, none⟩) (by simp only; omega) (.slice none 0 0)).setCell (p := ⟨w.heap.size + 1 + 1 + 1, 1, none⟩) (by simp only; omega) (.slice none 0 0)).setCell (p := ⟨w.heap.size + 1 + 1 + 1, 2, none⟩) (by simp only; omega) (.slice none 0 0)).setCell (p := ⟨w.heap.size + 1 + 1 + 1, 3, none⟩) (by simp only; omega) (.slice none 0 0)).setCell (p := ⟨w.heap.size + 1 + 1 + 1, 4, none⟩) (by simp only; omega) (.int .i64 0)).setCell (p := ⟨w.heap.size + 1 + 1 + 1, 5, none⟩) (by simp only; omega) (.slice none 0 0)).setCell (p := ⟨w.heap.size + 1 + 1 + 1, 6, none⟩) (by simp only; omega) (.slice none 0 0)).setCell (p := ⟨w.heap.size + 1 + 1 + 1, 7, none⟩) (by simp only; omega) (.slice none 0 0)).setCell (p := ⟨w.heap.size + 1 + 1 + 1, 8, none⟩) (by simp only; omega) (.slice none 0 0)).setCell (p := ⟨w.heap.size + 1 + 1 + 1 + 1, 0, none⟩) (by simp only; omega) (.int .i64 1))⟩
theorem ych (p : PL) (i v : Int) (w : World) (hp : IsL w p) (hs : p.Sm) (hv : yas p.v = true) (hI : I64 v) (hNl : p.params.length ≤ 10000000000) : Calls Tryz.prog 9 #[p.v.val, .int .i64 i, .int .i64 v] w fun e w' =>
  (((0 ≤ i ∧ i < p.params.length) ∧ okP (p.v.p.patch i v) = true) ∧ ∃ q : PL, e = .returned (.tuple #[q.v.val, .int .i64 0]) ∧ OwnP w.heap.size w' q ∧ q.v.p = p.v.p.patch i v ∧ Below w.heap.size w w') ∨
  (¬ ((0 ≤ i ∧ i < p.params.length) ∧ okP (p.v.p.patch i v) = true) ∧ e = .returned (.tuple #[pv0.val, .int .i64 2]) ∧ Below w.heap.size w w') := by
 have H1 := H! (fun W (h : Below w.heap.size w W) => ydp p.v W (hp.later h).isP)
 have HCo := H! (fun W (h : Below w.heap.size w W) => ykc p W (hp.later h) hs)
 have HPLx : Hid (∀ (q : PL) W, CallsIn Fence.wide 9 Tryz.prog 27 #[q.v.val] W fun e w' => e = .returned (.func (.func 63) #[] #[.pointer (some ⟨W.heap.size, 0, none⟩)]) ∧ w' = W.alloc (.cells (PV.enc q.v).toArray 28)) := H! (fun q W => yix q.v W)
 have HPP : Hid (∀ q : PL, q.v.p = p.v.p → q.params.length = p.params.length ∧ (q.patch i v).v.p = p.v.p.patch i v) := H! (fun q h => ⟨by rw [← ydo, ← ydo, h], by rw [pl_patch, h]⟩)
 have HEN : Hid (PV.enc p.v = [.slice p.rc p.xY.length p.cc, .slice p.rt p.tY.length p.ct, .slice p.rv p.zY.length p.cv, .slice p.rm (p.mY.map Mr.m).length p.cm, .int .i64 p.cells, .slice p.ri p.qY.length p.ci, .slice p.rs p.sY.length p.cs, .slice p.ro p.oY.length p.co, .slice p.rn p.iY.length p.cn]) := H! rfl
 rw [hv] at H1
 clear hp hs hv
 generalize hN : p.params.length = N at *
 generalize hPA : p.v.p.patch i v = PA at *
 generalize hPV : p.v.p = PB at *
 clear hN hPA hPV
 obtain ⟨rc, cc, xY, rt, ct, tY, rv, cv, zY, rm, cm, mY, cells, ri, ci, qY, rs, cs, sY, ro, co, oY, rn, cn, iY⟩ := p
 simp only [PV.val, PL.v, List.length_map] at H1 HCo HEN ⊢
 refine (callsIn_wide (n := 10)).1 ?_
 refine callsIn_of_wp_marks Tryz.func9 rfl trivial ?_ rfl
 simp only [Tryz.ntmps9, List.size_toArray, List.length_cons, List.length_nil, Nat.reduceAdd, Nat.reduceSub, Array.replicate_succ, Array.replicate_zero, List.push_toArray, List.append_toArray, List.nil_append, List.cons_append]
 gi_upto_region 1 with fail
 have hBa : Below w.heap.size w (((((w.alloc (.cells #[.slice rc xY.length cc, .slice rt tY.length ct, .slice rv zY.length cv, .slice rm mY.length cm, .int .i64 cells, .slice ri qY.length ci, .slice rs sY.length cs, .slice ro oY.length co, .slice rn iY.length cn] 28)).alloc (.cells #[.int .i64 i] 3)).alloc (.cells #[.int .i64 v] 3)).alloc (.cells #[.slice none 0 0, .slice none 0 0, .slice none 0 0, .slice none 0 0, .int .i64 0, .slice none 0 0, .slice none 0 0, .slice none 0 0, .slice none 0 0] 28)).alloc (.cells #[.int .i64 0] 31)) := bw
 have hza : (((((w.alloc (.cells #[.slice rc xY.length cc, .slice rt tY.length ct, .slice rv zY.length cv, .slice rm mY.length cm, .int .i64 cells, .slice ri qY.length ci, .slice rs sY.length cs, .slice ro oY.length co, .slice rn iY.length cn] 28)).alloc (.cells #[.int .i64 i] 3)).alloc (.cells #[.int .i64 v] 3)).alloc (.cells #[.slice none 0 0, .slice none 0 0, .slice none 0 0, .slice none 0 0, .int .i64 0, .slice none 0 0, .slice none 0 0, .slice none 0 0, .slice none 0 0] 28)).alloc (.cells #[.int .i64 0] 31)).heap.size = w.heap.size + 5 := by simp only [zA]
 have S0 : AtV (((((w.alloc (.cells #[.slice rc xY.length cc, .slice rt tY.length ct, .slice rv zY.length cv, .slice rm mY.length cm, .int .i64 cells, .slice ri qY.length ci, .slice rs sY.length cs, .slice ro oY.length co, .slice rn iY.length cn] 28)).alloc (.cells #[.int .i64 i] 3)).alloc (.cells #[.int .i64 v] 3)).alloc (.cells #[.slice none 0 0, .slice none 0 0, .slice none 0 0, .slice none 0 0, .int .i64 0, .slice none 0 0, .slice none 0 0, .slice none 0 0, .slice none 0 0] 28)).alloc (.cells #[.int .i64 0] 31)) w.heap.size [.slice rc xY.length cc, .slice rt tY.length ct, .slice rv zY.length cv, .slice rm mY.length cm, .int .i64 cells, .slice ri qY.length ci, .slice rs sY.length cs, .slice ro oY.length co, .slice rn iY.length cn] ∧ AtV (((((w.alloc (.cells #[.slice rc xY.length cc, .slice rt tY.length ct, .slice rv zY.length cv, .slice rm mY.length cm, .int .i64 cells, .slice ri qY.length ci, .slice rs sY.length cs, .slice ro oY.length co, .slice rn iY.length cn] 28)).alloc (.cells #[.int .i64 i] 3)).alloc (.cells #[.int .i64 v] 3)).alloc (.cells #[.slice none 0 0, .slice none 0 0, .slice none 0 0, .slice none 0 0, .int .i64 0, .slice none 0 0, .slice none 0 0, .slice none 0 0, .slice none 0 0] 28)).alloc (.cells #[.int .i64 0] 31)) (w.heap.size + 1) [.int .i64 i] ∧ AtV (((((w.alloc (.cells #[.slice rc xY.length cc, .slice rt tY.length ct, .slice rv zY.length cv, .slice rm mY.length cm, .int .i64 cells, .slice ri qY.length ci, .slice rs sY.length cs, .slice ro oY.length co, .slice rn iY.length cn] 28)).alloc (.cells #[.int .i64 i] 3)).alloc (.cells #[.int .i64 v] 3)).alloc (.cells #[.slice none 0 0, .slice none 0 0, .slice none 0 0, .slice none 0 0, .int .i64 0, .slice none 0 0, .slice none 0 0, .slice none 0 0, .slice none 0 0] 28)).alloc (.cells #[.int .i64 0] 31)) (w.heap.size + 1 + 1) [.int .i64 v] ∧ AtV (((((w.alloc (.cells #[.slice rc xY.length cc, .slice rt tY.length ct, .slice rv zY.length cv, .slice rm mY.length cm, .int .i64 cells, .slice ri qY.length ci, .slice rs sY.length cs, .slice ro oY.length co, .slice rn iY.length cn] 28)).alloc (.cells #[.int .i64 i] 3)).alloc (.cells #[.int .i64 v] 3)).alloc (.cells #[.slice none 0 0, .slice none 0 0, .slice none 0 0, .slice none 0 0, .int .i64 0, .slice none 0 0, .slice none 0 0, .slice none 0 0, .slice none 0 0] 28)).alloc (.cells #[.int .i64 0] 31)) (w.heap.size + 1 + 1 + 1) [.slice none 0 0, .slice none 0 0, .slice none 0 0, .slice none 0 0, .int .i64 0, .slice none 0 0, .slice none 0 0, .slice none 0 0, .slice none 0 0] ∧ AtV (((((w.alloc (.cells #[.slice rc xY.length cc, .slice rt tY.length ct, .slice rv zY.length cv, .slice rm mY.length cm, .int .i64 cells, .slice ri qY.length ci, .slice rs sY.length cs, .slice ro oY.length co, .slice rn iY.length cn] 28)).alloc (.cells #[.int .i64 i] 3)).alloc (.cells #[.int .i64 v] 3)).alloc (.cells #[.slice none 0 0, .slice none 0 0, .slice none 0 0, .slice none 0 0, .int .i64 0, .slice none 0 0, .slice none 0 0, .slice none 0 0, .slice none 0 0] 28)).alloc (.cells #[.int .i64 0] 31)) (w.heap.size + 1 + 1 + 1 + 1) [.int .i64 0] := ykx w _ _ _ _ _ _ _ _ _ _
 generalize ((((w.alloc (.cells #[.slice rc xY.length cc, .slice rt tY.length ct, .slice rv zY.length cv, .slice rm mY.length cm, .int .i64 cells, .slice ri qY.length ci, .slice rs sY.length cs, .slice ro oY.length co, .slice rn iY.length cn] 28)).alloc (.cells #[.int .i64 i] 3)).alloc (.cells #[.int .i64 v] 3)).alloc (.cells #[.slice none 0 0, .slice none 0 0, .slice none 0 0, .slice none 0 0, .int .i64 0, .slice none 0 0, .slice none 0 0, .slice none 0 0, .slice none 0 0] 28)).alloc (.cells #[.int .i64 0] 31) = Wa at *
 obtain ⟨AP, AI, AV, AR, AE⟩ := S0
 have pc0 := (AP 0 _ rfl).1
 have pc1 := (AP 1 _ rfl).1
 have pc2 := (AP 2 _ rfl).1
 have pc3 := (AP 3 _ rfl).1
 have pc4 := (AP 4 _ rfl).1
 have pc5 := (AP 5 _ rfl).1
 have pc6 := (AP 6 _ rfl).1
 have pc7 := (AP 7 _ rfl).1
 have pc8 := (AP 8 _ rfl).1
 gi_upto_region 3 with (refine ⟨trivial, ?_⟩; gi_at_call 26; refine (callsIn_wide.2 (H1.out _ bw)).mono ?_; rintro _ wv ⟨rfl, hbv⟩)
 have hzv : w.heap.size + 5 ≤ wv.heap.size := by have := hbv.size; omega
 have kv : ∀ b, b < w.heap.size + 5 → wv.heap[b]? = Wa.heap[b]? := fun b hb => hbv.block b (by omega)
 have APv := AP.keep (kv _ (by omega))
 have AIv := AI.keep (kv _ (by omega))
 have AVv := AV.keep (kv _ (by omega))
 have ARv := AR.keep (kv _ (by omega))
 have AEv := AE.keep (kv _ (by omega))
 have hBv : Below w.heap.size w wv := hBa.trans (hbv.mono hBa.size)
 clear pc0 pc1 pc2 pc3 pc4 pc5 pc6 pc7 pc8
 clear AP AI AV AR AE hbv hBa hza kv
 have qc0 := (APv 0 _ rfl).1
 have qf0 := (APv 0 _ rfl).2
 have qc1 := (APv 1 _ rfl).1
 have qf1 := (APv 1 _ rfl).2
 have qc2 := (APv 2 _ rfl).1
 have qf2 := (APv 2 _ rfl).2
 have qc3 := (APv 3 _ rfl).1
 have qf3 := (APv 3 _ rfl).2
 have qc4 := (APv 4 _ rfl).1
 have qf4 := (APv 4 _ rfl).2
 have qc5 := (APv 5 _ rfl).1
 have qf5 := (APv 5 _ rfl).2
 have qc6 := (APv 6 _ rfl).1
 have qf6 := (APv 6 _ rfl).2
 have qc7 := (APv 7 _ rfl).1
 have qf7 := (APv 7 _ rfl).2
 have qc8 := (APv 8 _ rfl).1
 have qf8 := (APv 8 _ rfl).2
 gi_upto_region 4 with (refine ⟨trivial, ?_⟩; gi_at_call 28; refine (callsIn_wide.2 (HCo.out _ hBv)).mono ?_; rintro _ wc ⟨q, rfl, hoq, hqp, hbc⟩; have HOQ := H! hoq; have HQP := H! (HPP.out q hqp); have HENq : Hid (PV.enc q.v = [.slice q.rc q.xY.length q.cc, .slice q.rt q.tY.length q.ct, .slice q.rv q.zY.length q.cv, .slice q.rm (q.mY.map Mr.m).length q.cm, .int .i64 q.cells, .slice q.ri q.qY.length q.ci, .slice q.rs q.sY.length q.cs, .slice q.ro q.oY.length q.co, .slice q.rn q.iY.length q.cn]) := H! rfl; have HPL := H! (fun W => HPLx.out q W); obtain ⟨q0, hq0⟩ : ∃ x, x = q := ⟨_, rfl⟩; rw [← hq0] at HOQ HQP; have HVq : Hid (q0.v.val = .agg ([.slice q.rc q.xY.length q.cc, .slice q.rt q.tY.length q.ct, .slice q.rv q.zY.length q.cv, .slice q.rm (q.mY.map Mr.m).length q.cm, .int .i64 q.cells, .slice q.ri q.qY.length q.ci, .slice q.rs q.sY.length q.cs, .slice q.ro q.oY.length q.co, .slice q.rn q.iY.length q.cn]).toArray) := (H! (by rw [hq0]; rfl)); have HENq : Hid (PV.enc q0.v = [.slice q.rc q.xY.length q.cc, .slice q.rt q.tY.length q.ct, .slice q.rv q.zY.length q.cv, .slice q.rm (q.mY.map Mr.m).length q.cm, .int .i64 q.cells, .slice q.ri q.qY.length q.ci, .slice q.rs q.sY.length q.cs, .slice q.ro q.oY.length q.co, .slice q.rn q.iY.length q.cn]) := (H! (by rw [hq0]; exact HENq.out)); clear hoq hqp hq0; obtain ⟨qrc, qcc, qcode, qrt, qct, qtypes, qrv, qcv, qcurves, qrm, qcm, qmaps, qcells, qri, qci, qinputs, qrs, qcs, qstates, qro, qco, qoutputs, qrn, qcn, qinitial⟩ := q; simp only [PV.val, PL.v, List.length_map] at HENq HPL ⊢; simp only [List.length_map] at HVq; simp only [PV.enc] at HPL; have kc : ∀ b, b < w.heap.size + 5 → wc.heap[b]? = wv.heap[b]? := (fun b hb => hbc.block b (by omega)); have APc := APv.keep (kc _ (by omega)); have zc0 := (APc 0 _ rfl).1; have zf0 := (APc 0 _ rfl).2; have zc1 := (APc 1 _ rfl).1; have zf1 := (APc 1 _ rfl).2; have zc2 := (APc 2 _ rfl).1; have zf2 := (APc 2 _ rfl).2; have zc3 := (APc 3 _ rfl).1; have zf3 := (APc 3 _ rfl).2; have zc4 := (APc 4 _ rfl).1; have zf4 := (APc 4 _ rfl).2; have zc5 := (APc 5 _ rfl).1; have zf5 := (APc 5 _ rfl).2; have zc6 := (APc 6 _ rfl).1; have zf6 := (APc 6 _ rfl).2; have zc7 := (APc 7 _ rfl).1; have zf7 := (APc 7 _ rfl).2; have zc8 := (APc 8 _ rfl).1; have zf8 := (APc 8 _ rfl).2)
 have AIc := AIv.keep (kc _ (by omega))
 have AVc := AVv.keep (kc _ (by omega))
 have ARc := ARv.keep (kc _ (by omega))
 have AEc := AEv.keep (kc _ (by omega))
 obtain ⟨n1, n2, n3, n4⟩ := ygh wc w.heap.size _ _ _ _ _ _ _ _ _ (.slice qrc qcode.length qcc) (.slice qrt qtypes.length qct) (.slice qrv qcurves.length qcv) (.slice qrm qmaps.length qcm) (.int .i64 qcells) (.slice qri qinputs.length qci) (.slice qrs qstates.length qcs) (.slice qro qoutputs.length qco) (.slice qrn qinitial.length qcn) APc
 have hzc := hbc.size
 have HS1 : Hid (PtS w wv.heap.size q0 i v (((((((((wc.setCell ⟨w.heap.size, 0, none⟩ (.slice qrc qcode.length qcc)).setCell ⟨w.heap.size, 1, none⟩ (.slice qrt qtypes.length qct)).setCell ⟨w.heap.size, 2, none⟩ (.slice qrv qcurves.length qcv)).setCell ⟨w.heap.size, 3, none⟩ (.slice qrm qmaps.length qcm)).setCell ⟨w.heap.size, 4, none⟩ (.int .i64 qcells)).setCell ⟨w.heap.size, 5, none⟩ (.slice qri qinputs.length qci)).setCell ⟨w.heap.size, 6, none⟩ (.slice qrs qstates.length qcs)).setCell ⟨w.heap.size, 7, none⟩ (.slice qro qoutputs.length qco)).setCell ⟨w.heap.size, 8, none⟩ (.slice qrn qinitial.length qcn))) := H! ⟨by rw [show PV.enc q0.v = [.slice qrc qcode.length qcc, .slice qrt qtypes.length qct, .slice qrv qcurves.length qcv, .slice qrm qmaps.length qcm, .int .i64 qcells, .slice qri qinputs.length qci, .slice qrs qstates.length qcs, .slice qro qoutputs.length qco, .slice qrn qinitial.length qcn] from HENq.out]; exact n1, AIc.keep (n3 _ (by omega)), AVc.keep (n3 _ (by omega)), ARc.keep (n3 _ (by omega)), AEc.keep (n3 _ (by omega)), HOQ.out.keepq (by omega) (fun b hb _ => n3 b (by omega)), (hBv.trans (hbc.mono hBv.size)).trans n4, hzv, by omega⟩
 have hz1 : wv.heap.size ≤ (((((((((wc.setCell ⟨w.heap.size, 0, none⟩ (.slice qrc qcode.length qcc)).setCell ⟨w.heap.size, 1, none⟩ (.slice qrt qtypes.length qct)).setCell ⟨w.heap.size, 2, none⟩ (.slice qrv qcurves.length qcv)).setCell ⟨w.heap.size, 3, none⟩ (.slice qrm qmaps.length qcm)).setCell ⟨w.heap.size, 4, none⟩ (.int .i64 qcells)).setCell ⟨w.heap.size, 5, none⟩ (.slice qri qinputs.length qci)).setCell ⟨w.heap.size, 6, none⟩ (.slice qrs qstates.length qcs)).setCell ⟨w.heap.size, 7, none⟩ (.slice qro qoutputs.length qco)).setCell ⟨w.heap.size, 8, none⟩ (.slice qrn qinitial.length qcn)).heap.size := by omega
 have n1c := n1
 clear qc0 qf0 qc1 qf1 qc2 qf2 qc3 qf3 qc4 qf4 qc5 qf5 qc6 qf6 qc7 qf7 qc8 qf8
 clear zc0 zf0 zc1 zf1 zc2 zf2 zc3 zf3 zc4 zf4 zc5 zf5 zc6 zf6 zc7 zf7 zc8 zf8
 clear APv AIv AVv ARv AEv APc AIc AVc ARc AEc n2 n3 n4 hbc kc hzc HOQ hBv
 generalize (((((((((wc.setCell ⟨w.heap.size, 0, none⟩ (.slice qrc qcode.length qcc)).setCell ⟨w.heap.size, 1, none⟩ (.slice qrt qtypes.length qct)).setCell ⟨w.heap.size, 2, none⟩ (.slice qrv qcurves.length qcv)).setCell ⟨w.heap.size, 3, none⟩ (.slice qrm qmaps.length qcm)).setCell ⟨w.heap.size, 4, none⟩ (.int .i64 qcells)).setCell ⟨w.heap.size, 5, none⟩ (.slice qri qinputs.length qci)).setCell ⟨w.heap.size, 6, none⟩ (.slice qrs qstates.length qcs)).setCell ⟨w.heap.size, 7, none⟩ (.slice qro qoutputs.length qco)).setCell ⟨w.heap.size, 8, none⟩ (.slice qrn qinitial.length qcn)) = W1 at *
 clear n1
 gi_upto_region 5 with fail
 have n2c := n1c.keep (Below.heap_alloc W1 (.cells #[.int .i64 0] 3) _ (show w.heap.size < W1.heap.size by omega))
 have bO := (Boxed.new W1 3 (.int .i64 0)).alloc (.cells #[.slice qrc qcode.length qcc, .slice qrt qtypes.length qct, .slice qrv qcurves.length qcv, .slice qrm qmaps.length qcm, .int .i64 qcells, .slice qri qinputs.length qci, .slice qrs qstates.length qcs, .slice qro qoutputs.length qco, .slice qrn qinitial.length qcn] 28)
 have HS0 := H! (HS1.out.later (((Below.refl _ _).alloc (Nat.le_refl _) (.cells #[.int .i64 0] 3)).alloc (by simp only [zA]; omega) (.cells #[.slice qrc qcode.length qcc, .slice qrt qtypes.length qct, .slice qrv qcurves.length qcv, .slice qrm qmaps.length qcm, .int .i64 qcells, .slice qri qinputs.length qci, .slice qrs qstates.length qcs, .slice qro qoutputs.length qco, .slice qrn qinitial.length qcn] 28)))
 have hB10 : Below W1.heap.size W1 ((W1.alloc (.cells #[.int .i64 0] 3)).alloc (.cells #[.slice qrc qcode.length qcc, .slice qrt qtypes.length qct, .slice qrv qcurves.length qcv, .slice qrm qmaps.length qcm, .int .i64 qcells, .slice qri qinputs.length qci, .slice qrs qstates.length qcs, .slice qro qoutputs.length qco, .slice qrn qinitial.length qcn] 28)) := ((Below.refl _ _).alloc (Nat.le_refl _) _).alloc (by simp only [zA]; omega) _
 have hz : W1.heap.size + 2 ≤ ((W1.alloc (.cells #[.int .i64 0] 3)).alloc (.cells #[.slice qrc qcode.length qcc, .slice qrt qtypes.length qct, .slice qrv qcurves.length qcv, .slice qrm qmaps.length qcm, .int .i64 qcells, .slice qri qinputs.length qci, .slice qrs qstates.length qcs, .slice qro qoutputs.length qco, .slice qrn qinitial.length qcn] 28)).heap.size := by simp only [zA]; omega
 have AQ := AtV.new (W1.alloc (.cells #[.int .i64 0] 3)) [.slice qrc qcode.length qcc, .slice qrt qtypes.length qct, .slice qrv qcurves.length qcv, .slice qrm qmaps.length qcm, .int .i64 qcells, .slice qri qinputs.length qci, .slice qrs qstates.length qcs, .slice qro qoutputs.length qco, .slice qrn qinitial.length qcn] 28
 change AtV ((W1.alloc (.cells #[.int .i64 0] 3)).alloc (.cells #[.slice qrc qcode.length qcc, .slice qrt qtypes.length qct, .slice qrv qcurves.length qcv, .slice qrm qmaps.length qcm, .int .i64 qcells, .slice qri qinputs.length qci, .slice qrs qstates.length qcs, .slice qro qoutputs.length qco, .slice qrn qinitial.length qcn] 28)) _ _ at AQ
 rw [zA] at AQ
 have mc0 := (n2c 0 _ rfl).1
 have mc1 := (n2c 1 _ rfl).1
 have mc2 := (n2c 2 _ rfl).1
 have mc3 := (n2c 3 _ rfl).1
 have mc4 := (n2c 4 _ rfl).1
 have mc5 := (n2c 5 _ rfl).1
 have mc6 := (n2c 6 _ rfl).1
 have mc7 := (n2c 7 _ rfl).1
 have mc8 := (n2c 8 _ rfl).1
 clear n1c n2c
 gi_wp2_with (refine ⟨trivial, ?_⟩; gi_at_call 27; refine (HPL.out _).mono ?_; rintro _ _ ⟨rfl, rfl⟩)
 generalize (W1.alloc (.cells #[.int .i64 0] 3)).alloc (.cells #[.slice qrc qcode.length qcc, .slice qrt qtypes.length qct, .slice qrv qcurves.length qcv, .slice qrm qmaps.length qcm, .int .i64 qcells, .slice qri qinputs.length qci, .slice qrs qstates.length qcs, .slice qro qoutputs.length qco, .slice qrn qinitial.length qcn] 28) = W0 at *
 clear mc0 mc1 mc2 mc3 mc4 mc5 mc6 mc7 mc8
 obtain ⟨pl, hpl⟩ : ∃ x, x = q0.places := ⟨_, rfl⟩
 have hn : pl.length = N := by rw [hpl, ydn]; exact HQP.out.1
 have HP0 : Hid (∀ W', KeepB W0.heap.size W1.heap.size W0 W' → PtS w wv.heap.size q0 i v W') := H! (fun W' hk => HS1.out.later (hB10.trans (hk.below (by omega) (Nat.le_refl _))))
 have hseq := yhp (W1.heap.size + 1) W1.heap.size N pl q0 W0 hn (by omega) (by omega) (fun j u h => (AQ j u (by rw [← h]; exact congrArg (fun l : List Value => l[j]?) HENq.out.symm)).1) (fun W' hk => (HP0.out W' hk).own.isL) hpl
 have HFR : Hid (∀ b ∈ q0.frag, b.1 < W1.heap.size) := H! (fun b hb => (HS1.out.own.1.2 b hb).2.1)
 have HPLB : Hid (∀ (k : Nat) a, q0.places[k]? = some a → a.block < W1.heap.size) := H! (fun k a h => (HS1.out.own.place h).2.1)
 have HPL0 := H! hpl
 clear AQ hpl HS1 HPL HCo HEN hB10
 refine wpIn_rangeFunc_ownG (F := Fence.wide) (n := 10) rfl (by omega) (gf := 63) (lb := #[.pointer (some ⟨W1.heap.size + 1, 0, none⟩)]) rfl trivial (enters_of Tryz.func63 (by kernel_rfl) rfl)
  hseq KeepT.trans (fun W l o o' hl h ho _ => KeepT.put W l o o' hl h ho) (Below.refl _ _) (fun _ => rfl)
  (fun pre W => (Boxed W W1.heap.size 3 (.int .i64 pre.length) ∧ KeepT W0.heap.size W1.heap.size W0 W) ∧ (0 ≤ i ∧ i < N → (pre.length : Int) ≤ i))
  (fun c s W => c = .ret ∧ ∃ pre x, s = pre ++ [x] ∧ (pre.length : Int) = i ∧ PtE w wv.heap.size W0.heap.size (q0.patch (x : Pi N).1 v) (yas (q0.patch x.1 v).v) W) ?hI ?hIx ?h0 ?a1 ?assign ?body ?done ?stop
 case assign =>
  intro l x W K hK
  gi_wp2
  exact hK
 case hI =>
  refine OwnFrom.and (OwnFrom.and ?_ (KeepT.from_below (Nat.le_refl _) (Nat.le_refl _))) (fun _ _ _ _ hs _ _ => hs)
  exact fun s X Y row hs hg hr => hs.kept hg (fun e => by
   obtain ⟨_, o, ho, hc⟩ := hr _ e.symm
   rw [show X.heap[W1.heap.size]? = _ from hs] at ho
   cases ho; cases hc)
 case hIx =>
  rintro c s X Y row ⟨h1, pre, x, h2, h3, h4⟩ hg hr
  exact ⟨h1, pre, x, h2, h3, PtE.from () X Y row h4 hg hr⟩
 case h0 =>
  exact ⟨⟨bO, KeepT.refl _ _ _⟩, fun h => h.1⟩
 case body =>
  rintro l pre x W ⟨⟨hb, hK⟩, hle⟩ hlt
  have hpn : pre.length < 10000000000 := by omega
  have hc := hb.cell
  have hf := hb.frozen
  have HS := H! (HP0.out W hK.keep)
  have hx : x.1 < N := x.2
  have ha : q0.places[x.1]? = some (pl.getD x.1 default) := by rw [← HPL0.out]; simp [List.getD, List.getElem?_eq_getElem (show x.1 < pl.length by omega)]
  obtain ⟨hp1, hp2, hp3, hp4, hp5⟩ := HS.out.own.place ha
  have hp6 := HPLB.out _ _ ha
  have HOP := H! (HS.out.own.patch ha hI)
  have HFP : Hid (∀ b ∈ (q0.patch x.1 v).frag, b.1 < W1.heap.size) := H! (fun b hb => by
   have h1 := yls HS.out.own ha v
   have h2 := List.mem_map_of_mem (f := Prod.fst) hb
   rw [h1] at h2
   obtain ⟨c, hc, he⟩ := List.mem_map.1 h2
   rw [← he]
   exact HFR.out c hc)
  have hix := (HS.out.idx 0 _ rfl).1
  have hvx := (HS.out.val 0 _ rfl).1
  have HEX : Hid (∀ (K : List (Pi N) → Prop), K (pre ++ [x]) → K (pre ++ [x])) := H! (fun _ h => h)
  simp only [yjv]
  generalize pl.getD x.1 default = a at *
  obtain ⟨ab, ao, asp⟩ := a
  obtain rfl : asp = none := hp3
  dsimp only at hp1 hp2 hp6
  clear hseq ha
  by_cases hm : (pre.length : Int) = i
  ·
   have hm2 : ((pre.length : Int) == i) = true := by simpa using hm
   gi_upto_region 9 with fail
   have HP5 := H! (HS.out.prog.keep (Below.heap_setCell W ⟨ab, ao, none⟩ (.int .i64 v) w.heap.size (show w.heap.size ≠ ab by omega)))
   have HR5 := H! (HS.out.res.keep (Below.heap_setCell W ⟨ab, ao, none⟩ (.int .i64 v) (w.heap.size + 1 + 1 + 1) (show w.heap.size + 1 + 1 + 1 ≠ ab by omega)))
   have HE5 := H! (HS.out.err.keep (Below.heap_setCell W ⟨ab, ao, none⟩ (.int .i64 v) (w.heap.size + 1 + 1 + 1 + 1) (show w.heap.size + 1 + 1 + 1 + 1 ≠ ab by omega)))
   have HB5 := H! (HS.out.below.setCell (p := ⟨ab, ao, none⟩) (show w.heap.size ≤ ab by omega) (.int .i64 v))
   have HK5 := H! (yff W (B := W0.heap.size) (show ab < W0.heap.size by omega) ao none (.int .i64 v))
   have hz5 : (W.setCell ⟨ab, ao, none⟩ (.int .i64 v)).heap.size = W.heap.size := by simp only [zS]
   have hzW : W0.heap.size ≤ W.heap.size := hK.keep.zero.size
   clear hp1 hp2 hp4 hp5 hp6 hc hf hix hvx hb hK HS hle
   generalize W.setCell ⟨ab, ao, none⟩ (.int .i64 v) = W5 at *
   rw [show PV.enc q0.v = [.slice qrc qcode.length qcc, .slice qrt qtypes.length qct, .slice qrv qcurves.length qcv, .slice qrm qmaps.length qcm, .int .i64 qcells, .slice qri qinputs.length qci, .slice qrs qstates.length qcs, .slice qro qoutputs.length qco, .slice qrn qinitial.length qcn] from HENq.out] at HP5
   have HV5 := H! (ydp (q0.patch x.1 v).v W5 HOP.out.isL.isP)
   rw [yiy, show q0.v.val = _ from HVq.out] at HV5
   generalize hvb : yas (q0.patch x.1 v).v = vb at *
   have pc0 := (HP5.out 0 _ rfl).1
   have pc1 := (HP5.out 1 _ rfl).1
   have pc2 := (HP5.out 2 _ rfl).1
   have pc3 := (HP5.out 3 _ rfl).1
   have pc4 := (HP5.out 4 _ rfl).1
   have pc5 := (HP5.out 5 _ rfl).1
   have pc6 := (HP5.out 6 _ rfl).1
   have pc7 := (HP5.out 7 _ rfl).1
   have pc8 := (HP5.out 8 _ rfl).1
   cases vb
   ·
    gi_upto_region 10 with (refine ⟨trivial, ?_⟩; gi_at_call 26; refine (CallsIn.inRound l (callsIn_wide.2 HV5.out)).mono ?_; rintro _ w6 ⟨rfl, hb6⟩)
    have AR6 := HR5.out.keep (hb6.block _ (by omega))
    have AE6 := HE5.out.keep (hb6.block _ (by omega))
    have AP6 := HP5.out.keep (hb6.block _ (by omega))
    have hz6 := hb6.size
    have rc0 := (AR6 0 _ rfl).1
    have rf0 := (AR6 0 _ rfl).2
    have rc1 := (AR6 1 _ rfl).1
    have rf1 := (AR6 1 _ rfl).2
    have rc2 := (AR6 2 _ rfl).1
    have rf2 := (AR6 2 _ rfl).2
    have rc3 := (AR6 3 _ rfl).1
    have rf3 := (AR6 3 _ rfl).2
    have rc4 := (AR6 4 _ rfl).1
    have rf4 := (AR6 4 _ rfl).2
    have rc5 := (AR6 5 _ rfl).1
    have rf5 := (AR6 5 _ rfl).2
    have rc6 := (AR6 6 _ rfl).1
    have rf6 := (AR6 6 _ rfl).2
    have rc7 := (AR6 7 _ rfl).1
    have rf7 := (AR6 7 _ rfl).2
    have rc8 := (AR6 8 _ rfl).1
    have rf8 := (AR6 8 _ rfl).2
    have ec0 := (AE6 0 _ rfl).1
    have ef0 := (AE6 0 _ rfl).2
    gi_wp2
    obtain ⟨n1, n2, n3, n4⟩ := ygh w6 (w.heap.size + 1 + 1 + 1) _ _ _ _ _ _ _ _ _ (.slice none 0 0) (.slice none 0 0) (.slice none 0 0) (.slice none 0 0) (.int .i64 0) (.slice none 0 0) (.slice none 0 0) (.slice none 0 0) (.slice none 0 0) AR6
    refine ⟨?_, rfl, pre, x, rfl, hm, ?_⟩
    ·
     refine (HK5.out.trans (yei hb6)).trans ?_
     refine ⟨by simp only [zS]; exact Nat.le_refl _, fun k o hk h _ => ?_⟩
     rw [Below.heap_setCell _ _ _ _ (show k ≠ w.heap.size + 1 + 1 + 1 + 1 by omega), n3 k (by omega)]
     exact h
    ·
     refine ⟨fun b hb => Nat.lt_of_lt_of_le (HFP.out b hb) (by omega), by omega, ?_, by omega, ?_, ?_⟩
     ·
      simp only [zS]; omega
     ·
      exact ((HB5.out.trans (hb6.mono (by omega))).trans (n4.mono (by omega))).setCell (p := ⟨w.heap.size + 1 + 1 + 1 + 1, 0, none⟩) (by simp only; omega) _
     ·
      rw [hvb]
      exact ⟨n1.keep (Below.heap_setCell _ _ _ _ (show w.heap.size + 1 + 1 + 1 ≠ w.heap.size + 1 + 1 + 1 + 1 by omega)), (AE6.keep (n3 _ (by omega))).set (j := 0) (by simp) _⟩
   ·
    gi_upto_region 11 with (refine ⟨trivial, ?_⟩; gi_at_call 26; refine (CallsIn.inRound l (callsIn_wide.2 HV5.out)).mono ?_; rintro _ w6 ⟨rfl, hb6⟩)
    have AR6 := HR5.out.keep (hb6.block _ (by omega))
    have AE6 := HE5.out.keep (hb6.block _ (by omega))
    have AP6 := HP5.out.keep (hb6.block _ (by omega))
    have hz6 := hb6.size
    have rc0 := (AR6 0 _ rfl).1
    have rf0 := (AR6 0 _ rfl).2
    have rc1 := (AR6 1 _ rfl).1
    have rf1 := (AR6 1 _ rfl).2
    have rc2 := (AR6 2 _ rfl).1
    have rf2 := (AR6 2 _ rfl).2
    have rc3 := (AR6 3 _ rfl).1
    have rf3 := (AR6 3 _ rfl).2
    have rc4 := (AR6 4 _ rfl).1
    have rf4 := (AR6 4 _ rfl).2
    have rc5 := (AR6 5 _ rfl).1
    have rf5 := (AR6 5 _ rfl).2
    have rc6 := (AR6 6 _ rfl).1
    have rf6 := (AR6 6 _ rfl).2
    have rc7 := (AR6 7 _ rfl).1
    have rf7 := (AR6 7 _ rfl).2
    have rc8 := (AR6 8 _ rfl).1
    have rf8 := (AR6 8 _ rfl).2
    have ec0 := (AE6 0 _ rfl).1
    have ef0 := (AE6 0 _ rfl).2
    have yc0 := (AP6 0 _ rfl).1
    have yc1 := (AP6 1 _ rfl).1
    have yc2 := (AP6 2 _ rfl).1
    have yc3 := (AP6 3 _ rfl).1
    have yc4 := (AP6 4 _ rfl).1
    have yc5 := (AP6 5 _ rfl).1
    have yc6 := (AP6 6 _ rfl).1
    have yc7 := (AP6 7 _ rfl).1
    have yc8 := (AP6 8 _ rfl).1
    gi_wp2
    obtain ⟨n1, n2, n3, n4⟩ := ygh w6 (w.heap.size + 1 + 1 + 1) _ _ _ _ _ _ _ _ _ (.slice qrc qcode.length qcc) (.slice qrt qtypes.length qct) (.slice qrv qcurves.length qcv) (.slice qrm qmaps.length qcm) (.int .i64 qcells) (.slice qri qinputs.length qci) (.slice qrs qstates.length qcs) (.slice qro qoutputs.length qco) (.slice qrn qinitial.length qcn) AR6
    refine ⟨?_, rfl, pre, x, rfl, hm, ?_⟩
    ·
     refine (HK5.out.trans (yei hb6)).trans ?_
     refine ⟨by simp only [zS]; exact Nat.le_refl _, fun k o hk h _ => ?_⟩
     rw [Below.heap_setCell _ _ _ _ (show k ≠ w.heap.size + 1 + 1 + 1 + 1 by omega), n3 k (by omega)]
     exact h
    ·
     refine ⟨fun b hb => Nat.lt_of_lt_of_le (HFP.out b hb) (by omega), by omega, ?_, by omega, ?_, ?_⟩
     ·
      simp only [zS]; omega
     ·
      exact ((HB5.out.trans (hb6.mono (by omega))).trans (n4.mono (by omega))).setCell (p := ⟨w.heap.size + 1 + 1 + 1 + 1, 0, none⟩) (by simp only; omega) _
     ·
      rw [hvb]
      refine ⟨?_, (AE6.keep (n3 _ (by omega))).set (j := 0) (by simp) _, ?_⟩
      ·
       rw [yja, show PV.enc q0.v = [.slice qrc qcode.length qcc, .slice qrt qtypes.length qct, .slice qrv qcurves.length qcv, .slice qrm qmaps.length qcm, .int .i64 qcells, .slice qri qinputs.length qci, .slice qrs qstates.length qcs, .slice qro qoutputs.length qco, .slice qrn qinitial.length qcn] from HENq.out]
       exact n1.keep (Below.heap_setCell _ _ _ _ (show w.heap.size + 1 + 1 + 1 ≠ w.heap.size + 1 + 1 + 1 + 1 by omega))
      ·
       refine (HOP.out.below hb6).keepq (by simp only [zS]; exact Nat.le_refl _) (fun b h1 h2 => ?_)
       rw [Below.heap_setCell _ _ _ _ (show b ≠ w.heap.size + 1 + 1 + 1 + 1 by omega), n3 b (by omega)]
  ·
   have hm2 : ((pre.length : Int) == i) = false := by simpa using hm
   gi_wp2
   have hkt := KeepT.setBox (B := W0.heap.size) hb (.int .i64 ((pre.length : Int) + 1))
   have hbx := hb.set (.int .i64 ((pre.length : Int) + 1))
   refine ⟨yff W (by omega) 0 none _, hkt, ⟨⟨?_, hK.trans hkt⟩, ?_⟩⟩
   ·
    simpa using hbx
   ·
    have hlen : (pre ++ [x]).length = pre.length + 1 := by simp
    first
     | (intro ha hb'; have h1 := hle ⟨ha, hb'⟩; rw [hlen]; omega)
     | (intro h; have h1 := hle h; rw [hlen]; omega)
 case done =>
  rintro D ys W hD rfl ⟨⟨hb, hK⟩, hle⟩ hKd
  have hnh : ¬ (0 ≤ i ∧ i < N) := fun h => by
   have := hle h
   rw [yef (Nat.le_refl _)] at this
   omega
  have HS := H! (HP0.out W hK.keep)
  have AR6 := HS.out.res
  have AE6 := HS.out.err
  have rc0 := (AR6 0 _ rfl).1
  have rf0 := (AR6 0 _ rfl).2
  have rc1 := (AR6 1 _ rfl).1
  have rf1 := (AR6 1 _ rfl).2
  have rc2 := (AR6 2 _ rfl).1
  have rf2 := (AR6 2 _ rfl).2
  have rc3 := (AR6 3 _ rfl).1
  have rf3 := (AR6 3 _ rfl).2
  have rc4 := (AR6 4 _ rfl).1
  have rf4 := (AR6 4 _ rfl).2
  have rc5 := (AR6 5 _ rfl).1
  have rf5 := (AR6 5 _ rfl).2
  have rc6 := (AR6 6 _ rfl).1
  have rf6 := (AR6 6 _ rfl).2
  have rc7 := (AR6 7 _ rfl).1
  have rf7 := (AR6 7 _ rfl).2
  have rc8 := (AR6 8 _ rfl).1
  have rf8 := (AR6 8 _ rfl).2
  have ec0 := (AE6 0 _ rfl).1
  have ef0 := (AE6 0 _ rfl).2
  gi_wp2
  obtain ⟨n1, n2, n3, n4⟩ := ygh W (w.heap.size + 1 + 1 + 1) _ _ _ _ _ _ _ _ _ (.slice none 0 0) (.slice none 0 0) (.slice none 0 0) (.slice none 0 0) (.int .i64 0) (.slice none 0 0) (.slice none 0 0) (.slice none 0 0) (.slice none 0 0) AR6
  have AR9 := n1.keep (Below.heap_setCell _ ⟨w.heap.size + 1 + 1 + 1 + 1, 0, none⟩ (.int .i64 2) _ (show w.heap.size + 1 + 1 + 1 ≠ w.heap.size + 1 + 1 + 1 + 1 by omega))
  have AE9 := (AE6.keep (n3 _ (by omega))).set (j := 0) (by simp) (.int .i64 2)
  have hB9 : Below w.heap.size w _ := (HS.out.below.trans (n4.mono (by omega))).setCell (p := ⟨w.heap.size + 1 + 1 + 1 + 1, 0, none⟩) (by simp only; omega) (.int .i64 2)
  have hK9 : ((((((((((W.setCell ⟨w.heap.size + 1 + 1 + 1, 0, none⟩ (.slice none 0 0)).setCell ⟨w.heap.size + 1 + 1 + 1, 1, none⟩ (.slice none 0 0)).setCell ⟨w.heap.size + 1 + 1 + 1, 2, none⟩ (.slice none 0 0)).setCell ⟨w.heap.size + 1 + 1 + 1, 3, none⟩ (.slice none 0 0)).setCell ⟨w.heap.size + 1 + 1 + 1, 4, none⟩ (.int .i64 0)).setCell ⟨w.heap.size + 1 + 1 + 1, 5, none⟩ (.slice none 0 0)).setCell ⟨w.heap.size + 1 + 1 + 1, 6, none⟩ (.slice none 0 0)).setCell ⟨w.heap.size + 1 + 1 + 1, 7, none⟩ (.slice none 0 0)).setCell ⟨w.heap.size + 1 + 1 + 1, 8, none⟩ (.slice none 0 0)).setCell ⟨w.heap.size + 1 + 1 + 1 + 1, 0, none⟩ (.int .i64 2)).heap[D]? = some (.deferred (some [])) := by
   rw [Below.heap_setCell _ _ _ _ (show D ≠ w.heap.size + 1 + 1 + 1 + 1 by omega), n3 D (by omega)]
   exact hKd
  generalize (((((((((W.setCell ⟨w.heap.size + 1 + 1 + 1, 0, none⟩ (.slice none 0 0)).setCell ⟨w.heap.size + 1 + 1 + 1, 1, none⟩ (.slice none 0 0)).setCell ⟨w.heap.size + 1 + 1 + 1, 2, none⟩ (.slice none 0 0)).setCell ⟨w.heap.size + 1 + 1 + 1, 3, none⟩ (.slice none 0 0)).setCell ⟨w.heap.size + 1 + 1 + 1, 4, none⟩ (.int .i64 0)).setCell ⟨w.heap.size + 1 + 1 + 1, 5, none⟩ (.slice none 0 0)).setCell ⟨w.heap.size + 1 + 1 + 1, 6, none⟩ (.slice none 0 0)).setCell ⟨w.heap.size + 1 + 1 + 1, 7, none⟩ (.slice none 0 0)).setCell ⟨w.heap.size + 1 + 1 + 1, 8, none⟩ (.slice none 0 0)).setCell ⟨w.heap.size + 1 + 1 + 1 + 1, 0, none⟩ (.int .i64 2) = W9 at *
  refine ⟨by simp, .inl ⟨_, _, rfl, run_takeDeferred hK9, ?_⟩⟩
  have ARx := AR9.keep (World.putObj_heap_other (w := W9) (r := D) (o := .deferred none) (show w.heap.size + 1 + 1 + 1 ≠ D by omega))
  have AEx := AE9.keep (World.putObj_heap_other (w := W9) (r := D) (o := .deferred none) (show w.heap.size + 1 + 1 + 1 + 1 ≠ D by omega))
  have hBx := hB9.trans ((KeepB.put (B := W0.heap.size) (Bo := W1.heap.size) W9 D _ (.deferred none) hD hK9).below (n := w.heap.size) (by omega) (by omega))
  generalize W9.putObj D (.deferred none) = W10 at *
  have rc0 := (ARx 0 _ rfl).1
  have rc1 := (ARx 1 _ rfl).1
  have rc2 := (ARx 2 _ rfl).1
  have rc3 := (ARx 3 _ rfl).1
  have rc4 := (ARx 4 _ rfl).1
  have rc5 := (ARx 5 _ rfl).1
  have rc6 := (ARx 6 _ rfl).1
  have rc7 := (ARx 7 _ rfl).1
  have rc8 := (ARx 8 _ rfl).1
  have ec0 := (AEx 0 _ rfl).1
  refine ⟨_, (by simp [results, Tryz.results9, go_sem, *]; try rfl), ?_⟩
  exact .inr ⟨fun h => hnh h.1, rfl, hBx⟩
 case stop =>
  rintro D c pre W hD ⟨k, hSp⟩ ⟨rfl, pre', x, hs, hi, hE⟩ hKd
  rw [hs] at hSp
  have hxe := piL_last hSp
  have hxn : x.1 < N := x.2
  have hit : 0 ≤ i ∧ i < N := by omega
  have hxi : ((x.1 : Nat) : Int) = i := by rw [hxe]; exact hi
  have hEx := PtE.from.putObj (s := ()) (.deferred none) hE hD hKd rfl
  have hok := yjc (q0.patch x.1 v).v
  rw [hxi, (HQP.out).2] at hok
  rw [hxi] at hEx
  gi_wp2
  refine ⟨by simp, .inl ⟨_, _, rfl, run_takeDeferred hKd, ?_⟩⟩
  generalize W.putObj D (.deferred none) = W10 at *
  obtain ⟨h1, h2, h3, h4, h5, h6⟩ := hEx
  rw [← hok] at h6
  by_cases hb : okP PA = true
  ·
   rw [if_pos hb] at h6
   obtain ⟨ARx, AEx, hown⟩ := h6
   rw [yja, show PV.enc q0.v = [.slice qrc qcode.length qcc, .slice qrt qtypes.length qct, .slice qrv qcurves.length qcv, .slice qrm qmaps.length qcm, .int .i64 qcells, .slice qri qinputs.length qci, .slice qrs qstates.length qcs, .slice qro qoutputs.length qco, .slice qrn qinitial.length qcn] from HENq.out] at ARx
   have rc0 := (ARx 0 _ rfl).1
   have rc1 := (ARx 1 _ rfl).1
   have rc2 := (ARx 2 _ rfl).1
   have rc3 := (ARx 3 _ rfl).1
   have rc4 := (ARx 4 _ rfl).1
   have rc5 := (ARx 5 _ rfl).1
   have rc6 := (ARx 6 _ rfl).1
   have rc7 := (ARx 7 _ rfl).1
   have rc8 := (ARx 8 _ rfl).1
   have ec0 := (AEx 0 _ rfl).1
   refine ⟨_, (by simp [results, Tryz.results9, go_sem, *]; try rfl), ?_⟩
   refine .inl ⟨⟨hit, hb⟩, q0.patch i v, ?_, ⟨hown.1.base h4, hown.2⟩, HQP.out.2, h5⟩
   have hpv := yiy q0 i v
   simp only [PV.val, PL.v, List.length_map] at hpv
   have hvv := HVq.out
   simp only [PV.val, PL.v, List.length_map] at hvv
   rw [hpv, hvv]
  ·
   rw [if_neg hb] at h6
   obtain ⟨ARx, AEx⟩ := h6
   have rc0 := (ARx 0 _ rfl).1
   have rc1 := (ARx 1 _ rfl).1
   have rc2 := (ARx 2 _ rfl).1
   have rc3 := (ARx 3 _ rfl).1
   have rc4 := (ARx 4 _ rfl).1
   have rc5 := (ARx 5 _ rfl).1
   have rc6 := (ARx 6 _ rfl).1
   have rc7 := (ARx 7 _ rfl).1
   have rc8 := (ARx 8 _ rfl).1
   have ec0 := (AEx 0 _ rfl).1
   refine ⟨_, (by simp [results, Tryz.results9, go_sem, *]; try rfl), ?_⟩
   exact .inr ⟨fun h => hb h.2, rfl, h5⟩
end
theorem ymm (m kg s a k : Int) (w : World) : Calls Tryz.prog 70 #[.agg #[.int .i64 m, .int .i64 kg, .int .i64 s, .int .i64 a, .int .i64 k]] w fun e w' => e = .returned (.bool (ybn m kg s a k)) ∧ Below w.heap.size w w' := by
 have HR : Hid (ybn m kg s a k = (in9 m && (in9 kg && (in9 s && (in9 a && in9 k))))) := H! rfl
 generalize ybn m kg s a k = R at *
 by_cases n0 : -9 ≤ m
 rotate_left
 ·
  obtain rfl : R = false := by rw [HR.out, ybg (x := m) (.inl (by omega))]; simp
  clear HR
  go_enter Tryz.func70, Tryz.ntmps70
  go_wp2
  go_ret
  exact ⟨rfl, bw⟩
 by_cases u0 : m ≤ 9
 rotate_left
 ·
  obtain rfl : R = false := by rw [HR.out, ybg (x := m) (.inr (by omega))]; simp
  clear HR
  go_enter Tryz.func70, Tryz.ntmps70
  go_wp2
  go_ret
  exact ⟨rfl, bw⟩
 by_cases n1 : -9 ≤ kg
 rotate_left
 ·
  obtain rfl : R = false := by rw [HR.out, ybg (x := kg) (.inl (by omega))]; simp
  clear HR
  go_enter Tryz.func70, Tryz.ntmps70
  go_wp2
  go_ret
  exact ⟨rfl, bw⟩
 by_cases u1 : kg ≤ 9
 rotate_left
 ·
  obtain rfl : R = false := by rw [HR.out, ybg (x := kg) (.inr (by omega))]; simp
  clear HR
  go_enter Tryz.func70, Tryz.ntmps70
  go_wp2
  go_ret
  exact ⟨rfl, bw⟩
 by_cases n2 : -9 ≤ s
 rotate_left
 ·
  obtain rfl : R = false := by rw [HR.out, ybg (x := s) (.inl (by omega))]; simp
  clear HR
  go_enter Tryz.func70, Tryz.ntmps70
  go_wp2
  go_ret
  exact ⟨rfl, bw⟩
 by_cases u2 : s ≤ 9
 rotate_left
 ·
  obtain rfl : R = false := by rw [HR.out, ybg (x := s) (.inr (by omega))]; simp
  clear HR
  go_enter Tryz.func70, Tryz.ntmps70
  go_wp2
  go_ret
  exact ⟨rfl, bw⟩
 by_cases n3 : -9 ≤ a
 rotate_left
 ·
  obtain rfl : R = false := by rw [HR.out, ybg (x := a) (.inl (by omega))]; simp
  clear HR
  go_enter Tryz.func70, Tryz.ntmps70
  go_wp2
  go_ret
  exact ⟨rfl, bw⟩
 by_cases u3 : a ≤ 9
 rotate_left
 ·
  obtain rfl : R = false := by rw [HR.out, ybg (x := a) (.inr (by omega))]; simp
  clear HR
  go_enter Tryz.func70, Tryz.ntmps70
  go_wp2
  go_ret
  exact ⟨rfl, bw⟩
 by_cases n4 : -9 ≤ k
 rotate_left
 ·
  obtain rfl : R = false := by rw [HR.out, ybg (x := k) (.inl (by omega))]; simp
  clear HR
  go_enter Tryz.func70, Tryz.ntmps70
  go_wp2
  go_ret
  exact ⟨rfl, bw⟩
 by_cases u4 : k ≤ 9
 rotate_left
 ·
  obtain rfl : R = false := by rw [HR.out, ybg (x := k) (.inr (by omega))]; simp
  clear HR
  go_enter Tryz.func70, Tryz.ntmps70
  go_wp2
  go_ret
  exact ⟨rfl, bw⟩
 obtain rfl : R = true := by rw [HR.out, ycd (x := m) (by omega) (by omega), ycd (x := kg) (by omega) (by omega), ycd (x := s) (by omega) (by omega), ycd (x := a) (by omega) (by omega), ycd (x := k) (by omega) (by omega)]; rfl
 clear HR
 go_enter Tryz.func70, Tryz.ntmps70
 go_wp2
 go_ret
 exact ⟨rfl, bw⟩
theorem fxb0 {t : Fx} (h : ¬ (t.bits = 8 ∨ t.bits = 16 ∨ t.bits = 32)) : fxB t = false := by unfold fxB; rw [decide_eq_false h]; rfl
theorem fxb1 {t : Fx} (h : ¬ (1 ≤ t.num ∧ t.num ≤ 1048576)) : fxB t = false := by unfold fxB; rw [decide_eq_false h]; simp
theorem fxb2 {t : Fx} (h : ¬ (1 ≤ t.den ∧ t.den ≤ 1048576)) : fxB t = false := by unfold fxB; rw [decide_eq_false h]; simp
theorem fxb3 {t : Fx} (h : ¬ (-1073741824 ≤ t.off ∧ t.off ≤ 1073741824)) : fxB t = false := by unfold fxB; rw [decide_eq_false h]; simp
theorem fxb4 {t : Fx} (h0 : t.bits = 8 ∨ t.bits = 16 ∨ t.bits = 32) (h1 : 1 ≤ t.num ∧ t.num ≤ 1048576) (h2 : 1 ≤ t.den ∧ t.den ≤ 1048576) (h3 : -1073741824 ≤ t.off ∧ t.off ≤ 1073741824) : fxB t = ybn t.m t.kg t.s t.a t.k := by
 unfold fxB; rw [decide_eq_true h0, decide_eq_true h1, decide_eq_true h2, decide_eq_true h3]; rfl
theorem yjt (t : Fx) (w : World) : Calls Tryz.prog 29 #[.agg #[.int .i64 t.bits, .bool t.sg, .int .i64 t.num, .int .i64 t.off, .int .i64 t.den, .int .i64 t.m, .int .i64 t.kg, .int .i64 t.s, .int .i64 t.a, .int .i64 t.k]] w fun e w' => e = .returned (.bool (fxB t)) ∧ Below w.heap.size w w' := by
 have F0 := H! (@fxb0 t)
 have F1 := H! (@fxb1 t)
 have F2 := H! (@fxb2 t)
 have F3 := H! (@fxb3 t)
 have F4 := H! (@fxb4 t)
 have HU := H! (fun W => ymm t.m t.kg t.s t.a t.k W)
 obtain ⟨bits, sg, num, off, den, m, kg, s, a, k⟩ := t
 simp only at F0 F1 F2 F3 F4 HU ⊢
 generalize ybn m kg s a k = U at *
 generalize fxB ⟨bits, sg, num, off, den, m, kg, s, a, k⟩ = R at *
 by_cases hb : bits = 8 ∨ bits = 16 ∨ bits = 32
 rotate_left
 ·
  obtain rfl := F0.out hb
  have b0 : ¬ bits = 8 := by omega
  have b1 : ¬ bits = 16 := by omega
  have b2 : ¬ bits = 32 := by omega
  have c0 : (bits != 8) = true := by simp [b0]
  have c1 : (bits != 16) = true := by simp [b1]
  have c2 : (bits != 32) = true := by simp [b2]
  clear F0 F1 F2 F3 F4 HU hb
  go_enter Tryz.func29, Tryz.ntmps29
  go_wp2
  go_ret
  exact ⟨rfl, bw⟩
 by_cases l0 : 1 ≤ num
 rotate_left
 ·
  obtain rfl := F1.out (by omega)
  clear F0 F1 F2 F3 F4 HU
  rcases hb with rfl | rfl | rfl
  all_goals (go_enter Tryz.func29, Tryz.ntmps29)
  all_goals go_wp2
  all_goals go_ret
  all_goals exact ⟨rfl, bw⟩
 by_cases u0 : num ≤ 1048576
 rotate_left
 ·
  obtain rfl := F1.out (by omega)
  clear F0 F1 F2 F3 F4 HU
  rcases hb with rfl | rfl | rfl
  all_goals (go_enter Tryz.func29, Tryz.ntmps29)
  all_goals go_wp2
  all_goals go_ret
  all_goals exact ⟨rfl, bw⟩
 by_cases l1 : 1 ≤ den
 rotate_left
 ·
  obtain rfl := F2.out (by omega)
  clear F0 F1 F2 F3 F4 HU
  rcases hb with rfl | rfl | rfl
  all_goals (go_enter Tryz.func29, Tryz.ntmps29)
  all_goals go_wp2
  all_goals go_ret
  all_goals exact ⟨rfl, bw⟩
 by_cases u1 : den ≤ 1048576
 rotate_left
 ·
  obtain rfl := F2.out (by omega)
  clear F0 F1 F2 F3 F4 HU
  rcases hb with rfl | rfl | rfl
  all_goals (go_enter Tryz.func29, Tryz.ntmps29)
  all_goals go_wp2
  all_goals go_ret
  all_goals exact ⟨rfl, bw⟩
 by_cases l2 : -1073741824 ≤ off
 rotate_left
 ·
  obtain rfl := F3.out (by omega)
  clear F0 F1 F2 F3 F4 HU
  rcases hb with rfl | rfl | rfl
  all_goals (go_enter Tryz.func29, Tryz.ntmps29)
  all_goals go_wp2
  all_goals go_ret
  all_goals exact ⟨rfl, bw⟩
 by_cases u2 : off ≤ 1073741824
 rotate_left
 ·
  obtain rfl := F3.out (by omega)
  clear F0 F1 F2 F3 F4 HU
  rcases hb with rfl | rfl | rfl
  all_goals (go_enter Tryz.func29, Tryz.ntmps29)
  all_goals go_wp2
  all_goals go_ret
  all_goals exact ⟨rfl, bw⟩
 obtain rfl := F4.out hb ⟨l0, u0⟩ ⟨l1, u1⟩ ⟨l2, u2⟩
 clear F0 F1 F2 F3 F4
 rcases hb with rfl | rfl | rfl
 all_goals (go_enter Tryz.func29, Tryz.ntmps29)
 all_goals (go_wp2_with ((go_at_call 70; refine (HU.out _).mono ?_; rintro e hb1w ⟨rfl, hb1⟩; obtain ⟨hb1c, hb1f⟩ := yah hb1; have hb1s := hb1.size; (try simp only [zA] at hb1s); (try (have : w.heap.size < hb1w.heap.size := by omega)); (try (have : w.heap.size + 1 < hb1w.heap.size := by omega)); (try (have : w.heap.size + 1 + 1 < hb1w.heap.size := by omega)); (try (have : w.heap.size + 1 + 1 + 1 < hb1w.heap.size := by omega)); (try (have : bX < hb1w.heap.size := by omega)); (try (have : bY < hb1w.heap.size := by omega)); (try (have : bZ < hb1w.heap.size := by omega)))))
 all_goals go_ret
 all_goals exact ⟨rfl, bw⟩
theorem yaf (op : Nat) (h1 : 1 ≤ op) (h2 : op ≤ 22) (w : World) : Calls Tryz.prog 75 #[.int .i64 op] w fun e w' => e = .returned (.string (rowF op)) ∧ w' = w := by
 obtain rfl | rfl | rfl | rfl | rfl | rfl | rfl | rfl | rfl | rfl | rfl | rfl | rfl | rfl | rfl | rfl | rfl | rfl | rfl | rfl | rfl | rfl : op = 1 ∨ op = 2 ∨ op = 3 ∨ op = 4 ∨ op = 5 ∨ op = 6 ∨ op = 7 ∨ op = 8 ∨ op = 9 ∨ op = 10 ∨ op = 11 ∨ op = 12 ∨ op = 13 ∨ op = 14 ∨ op = 15 ∨ op = 16 ∨ op = 17 ∨ op = 18 ∨ op = 19 ∨ op = 20 ∨ op = 21 ∨ op = 22 := by omega
 all_goals (go_enter Tryz.func75, Tryz.ntmps75)
 all_goals go_wp2
 all_goals go_ret
 all_goals exact ⟨rfl, rfl⟩
def holds (s : ByteArray) (c : Int) : Bool := s.data.toList.any fun x => decide ((x.toNat : Int) = c)
theorem holds_at {s : ByteArray} {c : Int} (k : Nat) (hk : k < s.size) (h : ((s[k]'hk).toNat : Int) = c) : holds s c = true := by
 unfold holds
 rw [List.any_eq_true]
 exact ⟨s[k]'hk, by
  rw [show s[k]'hk = s.data[k]'hk from rfl]
  exact Array.getElem_mem_toList hk, by simpa using h⟩
theorem ynk {s : ByteArray} {c : Int} (h : ∀ k, ∀ hk : k < s.size, ¬ ((s[k]'hk).toNat : Int) = c) : holds s c = false := by
 unfold holds
 rw [List.any_eq_false]
 intro x hx
 obtain ⟨k, hk, rfl⟩ := List.mem_iff_getElem.1 hx
 have := h k hk
 rw [show s[k]'hk = s.data[k]'hk from rfl] at this
 simpa using this
theorem yab (s : ByteArray) (hs : s.size ≤ 1000) (c : Int) (w : World) : Calls Tryz.prog 76 #[.string s, .int .u8 c] w fun e w' => e = .returned (.bool (holds s c)) ∧ w' = w := by
 have HT := H! (@holds_at s c)
 have HF := H! (@ynk s c)
 generalize holds s c = R at *
 go_enter Tryz.func76, Tryz.ntmps76
 go_wp2
 go_loopg [5] s.size (fun kx s5 wr => ∃ (k : Nat), s5 = .int .i64 k ∧ k ≤ s.size ∧ s.size - k ≤ kx ∧ wr = w ∧ Hid (∀ j, ∀ hj : j < s.size, j < k → ¬ ((s[j]'hj).toNat : Int) = c))
 case atStart => exact ⟨0, rfl, by omega, by omega, rfl, H! (fun j _ h => absurd h (by omega))⟩
 case round =>
  obtain ⟨k, rfl, hk, hkx, rfl, HN⟩ := hrel
  by_cases hlt : k < s.size
  ·
   have hix : ∀ W, (Instr.index 9 (.string s) (.int .i64 k)).run Tryz.prog W = .ok (.int .u8 ((s[k]'hlt).toNat : Nat)) W := fun W => by
    rw [run_index_string W 9 s .i64 k Tryz.underlying9, dif_pos ⟨by omega, by omega⟩]
    rfl
   have hk1 : (k : Int) < s.size := by omega
   by_cases hc : ((s[k]'hlt).toNat : Int) = c
   ·
    obtain rfl := HT.out k hlt hc
    clear HT HF
    generalize ((s[k]'hlt).toNat : Int) = x at *
    go_wp2
    go_ret
    exact ⟨rfl, rfl⟩
   ·
    have HC := H! hc
    clear HT
    generalize hx : ((s[k]'hlt).toNat : Int) = x at *
    go_wp2
    go_roundg (s.size - (k + 1))
    case measure => omega
    case rel =>
     refine ⟨k + 1, by go_num, by omega, by omega, rfl, H! (fun j hj hjk => ?_)⟩
     by_cases e : j = k
     ·
      subst e
      rw [hx]
      exact HC.out
     ·
      exact HN.out j hj (by omega)
  ·
   obtain rfl : k = s.size := by omega
   obtain rfl := HF.out (fun j hj => HN.out j hj hj)
   clear HT HF
   go_wp2
   go_ret
   exact ⟨rfl, rfl⟩
theorem ycn (n : Nat) (h1 : 1 ≤ n) (h2 : n ≤ 22) : holds (rowF n) 66 = decide (0 ≤ ixB n 66) ∧ holds (rowF n) 67 = decide (0 ≤ ixB n 67) ∧ holds (rowF n) 75 = hasK n ∧ 0 ≤ ixB n 65 ∧ (rowF n).size ≤ 1000 := by
 obtain rfl | rfl | rfl | rfl | rfl | rfl | rfl | rfl | rfl | rfl | rfl | rfl | rfl | rfl | rfl | rfl | rfl | rfl | rfl | rfl | rfl | rfl : n = 1 ∨ n = 2 ∨ n = 3 ∨ n = 4 ∨ n = 5 ∨ n = 6 ∨ n = 7 ∨ n = 8 ∨ n = 9 ∨ n = 10 ∨ n = 11 ∨ n = 12 ∨ n = 13 ∨ n = 14 ∨ n = 15 ∨ n = 16 ∨ n = 17 ∨ n = 18 ∨ n = 19 ∨ n = 20 ∨ n = 21 ∨ n = 22 := by omega
 all_goals decide
theorem formB_eq (n : Nat) (h1 : 1 ≤ n) (h2 : n ≤ 22) (a b c k : Int) : ybk n a b c k = (decide (0 ≤ a ∧ a ≤ 15) && (decide (0 ≤ b ∧ b ≤ 15) && (decide (0 ≤ c ∧ c ≤ 15) && ((holds (rowF n) 66 || decide (b = 0)) && ((holds (rowF n) 67 || decide (c = 0)) && ((holds (rowF n) 75 || decide (k = 0)) && (!(holds (rowF n) 75) || kOk n k))))))) := by
 obtain ⟨e1, e2, e3, e4, _⟩ := ycn n h1 h2
 unfold ybk opB regB
 rw [e1, e2, e3, Int.toNat_natCast]
 have t : decide (1 ≤ (n : Int) ∧ (n : Int) ≤ 22) = true := by simp; omega
 rw [t]
 cases hasK n <;> cases kOk (n : Int) k
 all_goals (rw [Bool.eq_iff_iff]; simp only [Bool.and_eq_true, Bool.or_eq_true, decide_eq_true_eq, Bool.true_and, Bool.false_eq_true, if_true, if_false, Bool.not_true, Bool.not_false, and_true, and_false, true_or, false_or, or_false, or_true, Bool.and_true, Bool.and_false])
 all_goals omega
theorem yae (k : Int) : ∃ m : Int, (∀ w, (Builtin.max_ #[3, 3] 3 #[.int .i64 k, .int .i64 0]).run Tryz.prog w = .ok (.int .i64 m) w) ∧ m = max k 0 := by
 refine ⟨_, fun _ => rfl, ?_⟩
 split <;> omega
theorem yac (q : Int) (h0 : 0 ≤ q) (hk : I64 q) (w : World) : Calls Tryz.prog 77 #[.int .i64 q] w fun e w' => e = .returned (.tuple #[.int .i64 (q / 16384), .int .i64 (q / 128 % 128), .int .i64 (q % 128)]) ∧ w' = w := by
 unfold I64 at hk
 simp [Lit.wf, IntKind.min, IntKind.max, IntKind.bits, IntKind.signed] at hk
 have d1 : q.tdiv 16384 = q / 16384 := Int.tdiv_eq_ediv_of_nonneg h0
 have d2 : q.tdiv 128 = q / 128 := Int.tdiv_eq_ediv_of_nonneg h0
 have d3 : (q / 128).tmod 128 = q / 128 % 128 := Int.tmod_eq_emod_of_nonneg (by omega)
 have d4 : q.tmod 128 = q % 128 := Int.tmod_eq_emod_of_nonneg h0
 have v1 : IntKind.i64.wrap (q / 16384) = q / 16384 := IntWalk.i64_in _ (by omega)
 have v2 : IntKind.i64.wrap (q / 128) = q / 128 := IntWalk.i64_in _ (by omega)
 have v3 : IntKind.i64.wrap (q / 128 % 128) = q / 128 % 128 := IntWalk.i64_in _ (by omega)
 have v4 : IntKind.i64.wrap (q % 128) = q % 128 := IntWalk.i64_in _ (by omega)
 go_enter Tryz.func77, Tryz.ntmps77
 go_wp2
 go_ret3
 exact ⟨by first | rfl | (simp [*]; done), rfl⟩
theorem ynr (op a b c k : Int) (h : ¬ (1 ≤ op ∧ op ≤ 22 ∧ 0 ≤ a ∧ a ≤ 15 ∧ 0 ≤ b ∧ b ≤ 15 ∧ 0 ≤ c ∧ c ≤ 15)) : ybk op a b c k = false := by
 unfold ybk opB regB
 cases hq : (if hasK op.toNat = true then kOk op k else decide (k = 0))
 ·
  simp
 ·
  rw [Bool.eq_false_iff]
  intro hh
  simp only [Bool.and_eq_true, decide_eq_true_eq, and_true] at hh
  omega
theorem ymo (op a b c k : Int) (h : ¬ (1 ≤ op ∧ op ≤ 22 ∧ 0 ≤ a ∧ a ≤ 15 ∧ 0 ≤ b ∧ b ≤ 15 ∧ 0 ≤ c ∧ c ≤ 15)) (w : World) : Calls Tryz.prog 32 #[.agg #[.int .i64 op, .int .i64 a, .int .i64 b, .int .i64 c, .int .i64 k]] w fun e w' => e = .returned (.bool (ybk op a b c k)) ∧ Below w.heap.size w w' := by
 rw [ynr op a b c k h]
 by_cases n0 : 1 ≤ op
 rotate_left
 ·
  clear h
  go_enter Tryz.func32, Tryz.ntmps32
  go_wp2
  go_ret
  exact ⟨rfl, bw⟩
 by_cases n1 : op ≤ 22
 rotate_left
 ·
  clear h
  go_enter Tryz.func32, Tryz.ntmps32
  go_wp2
  go_ret
  exact ⟨rfl, bw⟩
 by_cases n2 : 0 ≤ a
 rotate_left
 ·
  clear h
  go_enter Tryz.func32, Tryz.ntmps32
  go_wp2
  go_ret
  exact ⟨rfl, bw⟩
 by_cases n3 : a ≤ 15
 rotate_left
 ·
  clear h
  go_enter Tryz.func32, Tryz.ntmps32
  go_wp2
  go_ret
  exact ⟨rfl, bw⟩
 by_cases n4 : 0 ≤ b
 rotate_left
 ·
  clear h
  go_enter Tryz.func32, Tryz.ntmps32
  go_wp2
  go_ret
  exact ⟨rfl, bw⟩
 by_cases n5 : b ≤ 15
 rotate_left
 ·
  clear h
  go_enter Tryz.func32, Tryz.ntmps32
  go_wp2
  go_ret
  exact ⟨rfl, bw⟩
 by_cases n6 : 0 ≤ c
 rotate_left
 ·
  clear h
  go_enter Tryz.func32, Tryz.ntmps32
  go_wp2
  go_ret
  exact ⟨rfl, bw⟩
 by_cases n7 : c ≤ 15
 rotate_left
 ·
  clear h
  go_enter Tryz.func32, Tryz.ntmps32
  go_wp2
  go_ret
  exact ⟨rfl, bw⟩
 exact absurd ⟨n0, n1, n2, n3, n4, n5, n6, n7⟩ h
end Go.Proofs.YtfooefiaenlhmaaGreat
