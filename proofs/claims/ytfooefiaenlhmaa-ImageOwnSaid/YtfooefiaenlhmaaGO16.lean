/- Lemmas for the laws of package magnetolaw15: what its functions return, for any arguments that the lemmas name. -/
import Derived.Test.YtfooefiaenlhmaaGO2
import Derived.Test.YtfooefiaenlhmaaGO11
import Derived.Test.YtfooefiaenlhmaaGO13
import Derived.Test.YtfooefiaenlhmaaGO14
import Derived.Test.YtfooefiaenlhmaaGO15
import Derived.Sort.CutIn
namespace Go.Proofs.Ytfooefiaenlhmaa
set_option linter.unusedVariables false
set_option linter.unusedSimpArgs false
set_option maxHeartbeats 16000000
open Go.RowKit Go.ChangeShapes Go.WideShapes Go.ChangeAt
section
open Go.Deep
theorem patch_val (p : PL) (i v : Int) : (p.patch i v).v.val = p.v.val := by
 obtain ⟨rc, cc, code, rt, ct, types, rv, cv, curves, rm, cm, maps, cells, ri, ci, inputs, rs, cs, states, ro, co, outputs, rn, cn, initial⟩ := p
 simp only [PV.val, PL.v, PL.patch, List.length_map, upd_len]
theorem flat_le2 {α : Type} {f g : α → List Int} (h : ∀ x, (f x).length ≤ (g x).length) (xs : List α) : (xs.flatMap f).length ≤ (xs.flatMap g).length := by
 induction xs with
 | nil => simp
 | cons x xs ih => rw [List.flatMap_cons, List.flatMap_cons, List.length_append, List.length_append]; have := h x; omega
theorem params_body (p : PP) : p.params.length ≤ p.body.length := by
 unfold PP.params PP.body PP.parI PP.parC PP.parM
 simp only [List.length_append]
 have h1 : (p.code.flatMap Ins.par).length ≤ (p.code.flatMap Ins.by8).length := flat_le2 (fun x => by
  have : (Ins.by8 x).length = 12 := encI_len _ _ _ _ _
  rw [this]; unfold Ins.par; split <;> simp) _
 have h2 : (p.curves.flatMap fun c => c.2).length ≤ (p.curves.flatMap curveB8).length := flat_le2 (fun x => by unfold curveB8; rw [List.length_append, list8_len, list8_len]; omega) _
 have h3 : (p.maps.flatMap fun m => m.2.2.flatten).length ≤ (p.maps.flatMap mapB8).length := flat_le2 (fun x => by
  unfold mapB8
  rw [List.length_append]
  have : x.2.2.flatten.length ≤ (x.2.2.flatMap list8).length := by
   rw [← List.flatMap_id']
   exact flat_le2 (fun l => by rw [list8_len]; omega) _
  omega) _
 omega
theorem params_sm {p : PL} (h : p.v.p.body.length ≤ 90000) : p.params.length ≤ 90000 := by
 rw [← pl_params]
 exact Nat.le_trans (params_body _) h
end
section
open Go.Shelf
attribute [local go_sem] Oper.semAt_some
theorem five_new (w : World) (l0 l1 l2 l3 l4 : List Value) (t0 t1 t2 t3 t4 : TypeId) : AtV (((((w.alloc (.cells l0.toArray t0)).alloc (.cells l1.toArray t1)).alloc (.cells l2.toArray t2)).alloc (.cells l3.toArray t3)).alloc (.cells l4.toArray t4)) w.heap.size l0 ∧
  AtV (((((w.alloc (.cells l0.toArray t0)).alloc (.cells l1.toArray t1)).alloc (.cells l2.toArray t2)).alloc (.cells l3.toArray t3)).alloc (.cells l4.toArray t4)) (w.heap.size + 1) l1 ∧
  AtV (((((w.alloc (.cells l0.toArray t0)).alloc (.cells l1.toArray t1)).alloc (.cells l2.toArray t2)).alloc (.cells l3.toArray t3)).alloc (.cells l4.toArray t4)) (w.heap.size + 1 + 1) l2 ∧
  AtV (((((w.alloc (.cells l0.toArray t0)).alloc (.cells l1.toArray t1)).alloc (.cells l2.toArray t2)).alloc (.cells l3.toArray t3)).alloc (.cells l4.toArray t4)) (w.heap.size + 1 + 1 + 1) l3 ∧
  AtV (((((w.alloc (.cells l0.toArray t0)).alloc (.cells l1.toArray t1)).alloc (.cells l2.toArray t2)).alloc (.cells l3.toArray t3)).alloc (.cells l4.toArray t4)) (w.heap.size + 1 + 1 + 1 + 1) l4 := by
 have kp : ∀ {W : World} {b : Nat} {l : List Value} (o : Obj), b < W.heap.size → AtV W b l → AtV (W.alloc o) b l := fun o hb h => h.keep (Below.heap_alloc _ _ _ hb)
 have nw : ∀ (W : World) (n : Nat) (l : List Value) (t : TypeId), W.heap.size = n → AtV (W.alloc (.cells l.toArray t)) n l := fun W n l t h => by subst h; exact AtV.new W l t
 refine ⟨?_, ?_, ?_, ?_, ?_⟩
 ·
  exact kp _ (by simp only [zA]; omega) (kp _ (by simp only [zA]; omega) (kp _ (by simp only [zA]; omega) (kp _ (by simp only [zA]; omega) (nw _ _ _ _ rfl))))
 ·
  exact kp _ (by simp only [zA]; omega) (kp _ (by simp only [zA]; omega) (kp _ (by simp only [zA]; omega) (nw _ _ _ _ (by simp only [zA]))))
 ·
  exact kp _ (by simp only [zA]; omega) (kp _ (by simp only [zA]; omega) (nw _ _ _ _ (by simp only [zA])))
 ·
  exact kp _ (by simp only [zA]; omega) (nw _ _ _ _ (by simp only [zA]))
 ·
  exact nw _ _ _ _ (by simp only [zA])
theorem nine_set (W : World) (A : Nat) (u0 u1 u2 u3 u4 u5 u6 u7 u8 v0 v1 v2 v3 v4 v5 v6 v7 v8 : Value) (h : AtV W A [u0, u1, u2, u3, u4, u5, u6, u7, u8]) : AtV (((((((((W.setCell ⟨A, 0, none⟩ (v0)).setCell ⟨A, 1, none⟩ (v1)).setCell ⟨A, 2, none⟩ (v2)).setCell ⟨A, 3, none⟩ (v3)).setCell ⟨A, 4, none⟩ (v4)).setCell ⟨A, 5, none⟩ (v5)).setCell ⟨A, 6, none⟩ (v6)).setCell ⟨A, 7, none⟩ (v7)).setCell ⟨A, 8, none⟩ (v8)) A [v0, v1, v2, v3, v4, v5, v6, v7, v8] ∧ (((((((((W.setCell ⟨A, 0, none⟩ (v0)).setCell ⟨A, 1, none⟩ (v1)).setCell ⟨A, 2, none⟩ (v2)).setCell ⟨A, 3, none⟩ (v3)).setCell ⟨A, 4, none⟩ (v4)).setCell ⟨A, 5, none⟩ (v5)).setCell ⟨A, 6, none⟩ (v6)).setCell ⟨A, 7, none⟩ (v7)).setCell ⟨A, 8, none⟩ (v8)).heap.size = W.heap.size ∧ (∀ q, q ≠ A → (((((((((W.setCell ⟨A, 0, none⟩ (v0)).setCell ⟨A, 1, none⟩ (v1)).setCell ⟨A, 2, none⟩ (v2)).setCell ⟨A, 3, none⟩ (v3)).setCell ⟨A, 4, none⟩ (v4)).setCell ⟨A, 5, none⟩ (v5)).setCell ⟨A, 6, none⟩ (v6)).setCell ⟨A, 7, none⟩ (v7)).setCell ⟨A, 8, none⟩ (v8)).heap[q]? = W.heap[q]?) ∧ Below A W (((((((((W.setCell ⟨A, 0, none⟩ (v0)).setCell ⟨A, 1, none⟩ (v1)).setCell ⟨A, 2, none⟩ (v2)).setCell ⟨A, 3, none⟩ (v3)).setCell ⟨A, 4, none⟩ (v4)).setCell ⟨A, 5, none⟩ (v5)).setCell ⟨A, 6, none⟩ (v6)).setCell ⟨A, 7, none⟩ (v7)).setCell ⟨A, 8, none⟩ (v8)) := by
 refine ⟨?_, ?_, fun q hq => ?_, ?_⟩
 ·
  have h1 := (((((((((h.set (j := 0) (by simp) v0).set (j := 1) (by simp) v1).set (j := 2) (by simp) v2).set (j := 3) (by simp) v3).set (j := 4) (by simp) v4).set (j := 5) (by simp) v5).set (j := 6) (by simp) v6).set (j := 7) (by simp) v7).set (j := 8) (by simp) v8)
  simpa only [List.set_cons_zero, List.set_cons_succ] using h1
 ·
  simp only [zS]
 ·
  rw [Below.heap_setCell _ _ _ _ hq, Below.heap_setCell _ _ _ _ hq, Below.heap_setCell _ _ _ _ hq, Below.heap_setCell _ _ _ _ hq, Below.heap_setCell _ _ _ _ hq, Below.heap_setCell _ _ _ _ hq, Below.heap_setCell _ _ _ _ hq, Below.heap_setCell _ _ _ _ hq, Below.heap_setCell _ _ _ _ hq]
 ·
  exact ((((((((((Below.refl _ _).setCell (p := ⟨A, 0, none⟩) (Nat.le_refl _) v0).setCell (p := ⟨A, 1, none⟩) (Nat.le_refl _) v1).setCell (p := ⟨A, 2, none⟩) (Nat.le_refl _) v2).setCell (p := ⟨A, 3, none⟩) (Nat.le_refl _) v3).setCell (p := ⟨A, 4, none⟩) (Nat.le_refl _) v4).setCell (p := ⟨A, 5, none⟩) (Nat.le_refl _) v5).setCell (p := ⟨A, 6, none⟩) (Nat.le_refl _) v6).setCell (p := ⟨A, 7, none⟩) (Nat.le_refl _) v7).setCell (p := ⟨A, 8, none⟩) (Nat.le_refl _) v8)
theorem OwnF.keepq {D : Nat} {W W' : World} {F : List (Nat × List Value)} (h : OwnF D W F) (hs : W.heap.size ≤ W'.heap.size) (hq : ∀ q, D ≤ q → q < W.heap.size → W'.heap[q]? = W.heap[q]?) : OwnF D W' F :=
 ⟨h.1, fun p hp => ⟨(h.2 p hp).1, Nat.lt_of_lt_of_le (h.2 p hp).2.1 hs, (h.2 p hp).2.2.keep (hq _ (h.2 p hp).1 (h.2 p hp).2.1)⟩⟩
theorem OwnP.keepq {D : Nat} {W W' : World} {p : PL} (h : OwnP D W p) (hs : W.heap.size ≤ W'.heap.size) (hq : ∀ q, D ≤ q → q < W.heap.size → W'.heap[q]? = W.heap[q]?) : OwnP D W' p := ⟨h.1.keepq hs hq, h.2⟩
theorem Upd.fst {F F' : List (Nat × List Value)} {a : Addr} {v : Value} (h : Upd F F' a v) : F'.map Prod.fst = F.map Prod.fst := by
 obtain ⟨F1, b, l, F2, j, rfl, rfl, _, _⟩ := h
 simp
theorem frag_patch {D : Nat} {W : World} {p : PL} (h : OwnP D W p) {i : Nat} {a : Addr} (ha : p.places[i]? = some a) (v : Int) : (p.patch i v).frag.map Prod.fst = p.frag.map Prod.fst := by
 have hi : i < p.places.length := by
  rcases Nat.lt_or_ge i p.places.length with hh | hh
  ·
   exact hh
  ·
   rw [List.getElem?_eq_none hh] at ha; cases ha
 rw [places_len] at hi
 obtain ⟨a', h1, h2⟩ := (hit_pl h.2 (i : Int) v).2.1 ⟨by omega, by omega⟩
 exact h2.fst
structure PtS (w : World) (D : Nat) (q : PL) (i v : Int) (W : World) : Prop where
 prog : AtV W w.heap.size (PV.enc q.v)
 idx : AtV W (w.heap.size + 1) [.int .i64 i]
 val : AtV W (w.heap.size + 1 + 1) [.int .i64 v]
 res : AtV W (w.heap.size + 1 + 1 + 1) [.slice none 0 0, .slice none 0 0, .slice none 0 0, .slice none 0 0, .int .i64 0, .slice none 0 0, .slice none 0 0, .slice none 0 0, .slice none 0 0]
 err : AtV W (w.heap.size + 1 + 1 + 1 + 1) [.int .i64 0]
 own : OwnP D W q
 below : Below w.heap.size w W
 lo : w.heap.size + 5 ≤ D
 hi : D ≤ W.heap.size
theorem PtS.later {w W W' : World} {D : Nat} {q : PL} {i v : Int} (h : PtS w D q i v W) (hb : Below W.heap.size W W') : PtS w D q i v W' := by
 have h1 := h.lo
 have h2 := h.hi
 have k : ∀ b, b < w.heap.size + 5 → W'.heap[b]? = W.heap[b]? := fun b hb' => hb.block b (by omega)
 exact ⟨h.prog.keep (k _ (by omega)), h.idx.keep (k _ (by omega)), h.val.keep (k _ (by omega)), h.res.keep (k _ (by omega)), h.err.keep (k _ (by omega)), h.own.below hb, h.below.trans (hb.mono h.below.size), h1, Nat.le_trans h2 hb.size⟩
def PtE (w : World) (D B : Nat) (q' : PL) (ok : Bool) (W : World) : Prop :=
 (∀ x ∈ q'.frag, x.1 < B) ∧ w.heap.size + 5 ≤ B ∧ B ≤ W.heap.size ∧ w.heap.size ≤ D ∧ Below w.heap.size w W ∧ (if ok = true then AtV W (w.heap.size + 1 + 1 + 1) (PV.enc q'.v) ∧ AtV W (w.heap.size + 1 + 1 + 1 + 1) [.int .i64 0] ∧ OwnP D W q' else AtV W (w.heap.size + 1 + 1 + 1) [.slice none 0 0, .slice none 0 0, .slice none 0 0, .slice none 0 0, .int .i64 0, .slice none 0 0, .slice none 0 0, .slice none 0 0, .slice none 0 0] ∧ AtV W (w.heap.size + 1 + 1 + 1 + 1) [.int .i64 2])
theorem PtE.from {β : Type} {w : World} {D B : Nat} {q' : PL} {ok : Bool} : OwnFrom B (fun (_ : β) W => PtE w D B q' ok W) := fun s X Y row hs hg hr => by
 obtain ⟨h1, h2, h3, h4, h5, h6⟩ := hs
 have k : ∀ b, b < B → Y.heap[b]? = X.heap[b]? := fun b hb => hg.block b (by omega) (fun e => by have := (hr b e.symm).1; omega)
 refine ⟨h1, h2, Nat.le_trans h3 hg.size, h4, h5.trans ⟨hg.os, hg.tape, hg.output, hg.size, fun b hb => k b (by omega)⟩, ?_⟩
 cases ok with
 | true =>
  obtain ⟨a1, a2, a3⟩ := h6
  refine ⟨a1.keep (k _ (by omega)), a2.keep (k _ (by omega)), ⟨a3.1.1, fun p hp => ?_⟩, a3.2⟩
  obtain ⟨b1, b2, b3⟩ := a3.1.2 p hp
  exact ⟨b1, Nat.lt_of_lt_of_le b2 hg.size, b3.keep (k _ (h1 p hp))⟩
 | false =>
  obtain ⟨a1, a2⟩ := h6
  exact ⟨a1.keep (k _ (by omega)), a2.keep (k _ (by omega))⟩
theorem KeepT.setBox {B Bo : Nat} {W : World} {u : Value} (hb : Boxed W Bo 3 u) (v : Value) : KeepT B Bo W (W.setCell ⟨Bo, 0, none⟩ v) :=
 ⟨⟨(Below.refl 0 W).setCell (p := ⟨Bo, 0, none⟩) (Nat.zero_le _) _, fun b _ hne => Below.heap_setCell _ _ _ _ hne⟩, fun b vs t fr hb' h1 _ => Below.heap_setCell _ _ _ _ (fun e => by
  subst e
  rw [show W.heap[_]? = _ from hb] at hb'
  cases hb'
  exact h1 rfl)⟩
theorem patch_enc (p : PL) (i v : Int) : PV.enc (p.patch i v).v = PV.enc p.v := by
 obtain ⟨rc, cc, code, rt, ct, types, rv, cv, curves, rm, cm, maps, cells, ri, ci, inputs, rs, cs, states, ro, co, outputs, rn, cn, initial⟩ := p
 simp only [PV.enc, PL.v, PL.patch, List.length_map, upd_len]
theorem piL_ge {n k : Nat} (h : n ≤ k) : piL n k = piL n n := by
 obtain ⟨d, rfl⟩ : ∃ d, k = n + d := ⟨k - n, by omega⟩
 induction d with
 | zero => rfl
 | succ d ih =>
  have : piL n (n + d + 1) = piL n (n + d) := by
   unfold piL
   rw [List.range_succ, List.filterMap_append]
   simp only [List.filterMap_cons, List.filterMap_nil]
   rw [dif_neg (by omega)]
   simp
  rw [← Nat.add_assoc, this, ih (by omega)]
theorem piL_at {n : Nat} : ∀ (k : Nat) {j : Nat} {x : Pi n}, (piL n k)[j]? = some x → x.1 = j
 | 0, j, x, h => by simp [piL] at h
 | k + 1, j, x, h => by
  by_cases hk : k < n
  ·
   rw [piL_succ hk] at h
   by_cases hj : j < (piL n k).length
   ·
    rw [List.getElem?_append_left hj] at h
    exact piL_at k h
   ·
    rw [piL_len (by omega)] at hj
    rw [List.getElem?_append_right (by rw [piL_len (by omega)]; omega), piL_len (by omega)] at h
    cases hd : j - k with
    | zero =>
     rw [hd] at h
     have h' : some (⟨k, hk⟩ : Pi n) = some x := h
     cases h'
     show k = j
     omega
    | succ d =>
     rw [hd] at h
     have h' : (none : Option (Pi n)) = some x := h
     cases h'
  ·
   rw [piL_ge (by omega), ← piL_ge (show n ≤ k by omega)] at h
   exact piL_at k h
theorem piL_last {n k : Nat} {pre : List (Pi n)} {x : Pi n} (h : pre ++ [x] = piL n k) : x.1 = pre.length := piL_at k (j := pre.length) (by rw [← h]; simp)
theorem keepsFrom_below {B : Nat} {W W' : World} (h : Below W.heap.size W W') : KeepsFrom B W W' := ⟨h.size, fun k o _ hk _ => (h.block k (Array.getElem?_eq_some_iff.1 hk).1).trans hk⟩
theorem keepsFrom_set {B : Nat} (W : World) {b : Nat} (hb : b < B) (j : Nat) (sp : Option Nat) (v : Value) : KeepsFrom B W (W.setCell ⟨b, j, none⟩ v) :=
 ⟨by rw [zS]; exact Nat.le_refl _, fun k o hk h _ => (Below.heap_setCell _ _ _ _ (show k ≠ b by omega)).trans h⟩
set_option maxRecDepth 100000 in
theorem ipatch_bad (p : PV) (i v : Int) (w : World) (hp : IsP w p) (hv : validB p = false) : Calls Try.prog 23 #[p.val, .int .i64 i, .int .i64 v] w fun e w' => e = .returned (.tuple #[pv0.val, .int .i64 1]) ∧ Below w.heap.size w w' := by
 have H1 := H! (fun W (h : Below w.heap.size w W) => mvalid_any p W (hp.later h))
 rw [hv] at H1
 clear hp hv
 obtain ⟨rc, cc, code, rt, ct, types, rv, cv, curves, rm, cm, maps, cells, ri, ci, inputs, rs, cs, states, ro, co, outputs, rn, cn, initial⟩ := p
 simp only [PV.val] at H1 ⊢
 refine (callsIn_wide (n := 10)).1 ?_
 refine callsIn_of_wp_marks Try.func23 rfl trivial ?_ rfl
 simp only [Try.ntmps23, List.size_toArray, List.length_cons, List.length_nil, Nat.reduceAdd, Nat.reduceSub, Array.replicate_succ, Array.replicate_zero, List.push_toArray, List.append_toArray, List.nil_append, List.cons_append]
 gi_upto_region 1 with fail
 have hBa : Below w.heap.size w (((((w.alloc (.cells #[.slice rc code.length cc, .slice rt types.length ct, .slice rv curves.length cv, .slice rm maps.length cm, .int .i64 cells, .slice ri inputs.length ci, .slice rs states.length cs, .slice ro outputs.length co, .slice rn initial.length cn] 28)).alloc (.cells #[.int .i64 i] 3)).alloc (.cells #[.int .i64 v] 3)).alloc (.cells #[.slice none 0 0, .slice none 0 0, .slice none 0 0, .slice none 0 0, .int .i64 0, .slice none 0 0, .slice none 0 0, .slice none 0 0, .slice none 0 0] 28)).alloc (.cells #[.int .i64 0] 32)) := bw
 have hza : (((((w.alloc (.cells #[.slice rc code.length cc, .slice rt types.length ct, .slice rv curves.length cv, .slice rm maps.length cm, .int .i64 cells, .slice ri inputs.length ci, .slice rs states.length cs, .slice ro outputs.length co, .slice rn initial.length cn] 28)).alloc (.cells #[.int .i64 i] 3)).alloc (.cells #[.int .i64 v] 3)).alloc (.cells #[.slice none 0 0, .slice none 0 0, .slice none 0 0, .slice none 0 0, .int .i64 0, .slice none 0 0, .slice none 0 0, .slice none 0 0, .slice none 0 0] 28)).alloc (.cells #[.int .i64 0] 32)).heap.size = w.heap.size + 5 := by simp only [zA]
 have S0 : AtV (((((w.alloc (.cells #[.slice rc code.length cc, .slice rt types.length ct, .slice rv curves.length cv, .slice rm maps.length cm, .int .i64 cells, .slice ri inputs.length ci, .slice rs states.length cs, .slice ro outputs.length co, .slice rn initial.length cn] 28)).alloc (.cells #[.int .i64 i] 3)).alloc (.cells #[.int .i64 v] 3)).alloc (.cells #[.slice none 0 0, .slice none 0 0, .slice none 0 0, .slice none 0 0, .int .i64 0, .slice none 0 0, .slice none 0 0, .slice none 0 0, .slice none 0 0] 28)).alloc (.cells #[.int .i64 0] 32)) w.heap.size [.slice rc code.length cc, .slice rt types.length ct, .slice rv curves.length cv, .slice rm maps.length cm, .int .i64 cells, .slice ri inputs.length ci, .slice rs states.length cs, .slice ro outputs.length co, .slice rn initial.length cn] ∧ AtV (((((w.alloc (.cells #[.slice rc code.length cc, .slice rt types.length ct, .slice rv curves.length cv, .slice rm maps.length cm, .int .i64 cells, .slice ri inputs.length ci, .slice rs states.length cs, .slice ro outputs.length co, .slice rn initial.length cn] 28)).alloc (.cells #[.int .i64 i] 3)).alloc (.cells #[.int .i64 v] 3)).alloc (.cells #[.slice none 0 0, .slice none 0 0, .slice none 0 0, .slice none 0 0, .int .i64 0, .slice none 0 0, .slice none 0 0, .slice none 0 0, .slice none 0 0] 28)).alloc (.cells #[.int .i64 0] 32)) (w.heap.size + 1) [.int .i64 i] ∧ AtV (((((w.alloc (.cells #[.slice rc code.length cc, .slice rt types.length ct, .slice rv curves.length cv, .slice rm maps.length cm, .int .i64 cells, .slice ri inputs.length ci, .slice rs states.length cs, .slice ro outputs.length co, .slice rn initial.length cn] 28)).alloc (.cells #[.int .i64 i] 3)).alloc (.cells #[.int .i64 v] 3)).alloc (.cells #[.slice none 0 0, .slice none 0 0, .slice none 0 0, .slice none 0 0, .int .i64 0, .slice none 0 0, .slice none 0 0, .slice none 0 0, .slice none 0 0] 28)).alloc (.cells #[.int .i64 0] 32)) (w.heap.size + 1 + 1) [.int .i64 v] ∧ AtV (((((w.alloc (.cells #[.slice rc code.length cc, .slice rt types.length ct, .slice rv curves.length cv, .slice rm maps.length cm, .int .i64 cells, .slice ri inputs.length ci, .slice rs states.length cs, .slice ro outputs.length co, .slice rn initial.length cn] 28)).alloc (.cells #[.int .i64 i] 3)).alloc (.cells #[.int .i64 v] 3)).alloc (.cells #[.slice none 0 0, .slice none 0 0, .slice none 0 0, .slice none 0 0, .int .i64 0, .slice none 0 0, .slice none 0 0, .slice none 0 0, .slice none 0 0] 28)).alloc (.cells #[.int .i64 0] 32)) (w.heap.size + 1 + 1 + 1) [.slice none 0 0, .slice none 0 0, .slice none 0 0, .slice none 0 0, .int .i64 0, .slice none 0 0, .slice none 0 0, .slice none 0 0, .slice none 0 0] ∧ AtV (((((w.alloc (.cells #[.slice rc code.length cc, .slice rt types.length ct, .slice rv curves.length cv, .slice rm maps.length cm, .int .i64 cells, .slice ri inputs.length ci, .slice rs states.length cs, .slice ro outputs.length co, .slice rn initial.length cn] 28)).alloc (.cells #[.int .i64 i] 3)).alloc (.cells #[.int .i64 v] 3)).alloc (.cells #[.slice none 0 0, .slice none 0 0, .slice none 0 0, .slice none 0 0, .int .i64 0, .slice none 0 0, .slice none 0 0, .slice none 0 0, .slice none 0 0] 28)).alloc (.cells #[.int .i64 0] 32)) (w.heap.size + 1 + 1 + 1 + 1) [.int .i64 0] := five_new w _ _ _ _ _ _ _ _ _ _
 generalize ((((w.alloc (.cells #[.slice rc code.length cc, .slice rt types.length ct, .slice rv curves.length cv, .slice rm maps.length cm, .int .i64 cells, .slice ri inputs.length ci, .slice rs states.length cs, .slice ro outputs.length co, .slice rn initial.length cn] 28)).alloc (.cells #[.int .i64 i] 3)).alloc (.cells #[.int .i64 v] 3)).alloc (.cells #[.slice none 0 0, .slice none 0 0, .slice none 0 0, .slice none 0 0, .int .i64 0, .slice none 0 0, .slice none 0 0, .slice none 0 0, .slice none 0 0] 28)).alloc (.cells #[.int .i64 0] 32) = Wa at *
 obtain ⟨AP, AI, AV, AR, AE⟩ := S0
 have pc0 := (AP 0 _ rfl).1
 have pc1 := (AP 1 _ rfl).1
 have pc2 := (AP 2 _ rfl).1
 have pc3 := (AP 3 _ rfl).1
 have pc4 := (AP 4 _ rfl).1
 have pc5 := (AP 5 _ rfl).1
 have pc6 := (AP 6 _ rfl).1
 have pc7 := (AP 7 _ rfl).1
 have pc8 := (AP 8 _ rfl).1
 gi_upto_region 2 with (refine ⟨trivial, ?_⟩; gi_at_call 34; refine (callsIn_wide.2 (H1.out _ bw)).mono ?_; rintro _ wv ⟨rfl, hbv⟩)
 have hzv : w.heap.size + 5 ≤ wv.heap.size := by have := hbv.size; omega
 have kv : ∀ b, b < w.heap.size + 5 → wv.heap[b]? = Wa.heap[b]? := fun b hb => hbv.block b (by omega)
 have ARv := AR.keep (kv _ (by omega))
 have AEv := AE.keep (kv _ (by omega))
 have hBv : Below w.heap.size w wv := hBa.trans (hbv.mono hBa.size)
 have rc0 := (ARv 0 _ rfl).1
 have rf0 := (ARv 0 _ rfl).2
 have rc1 := (ARv 1 _ rfl).1
 have rf1 := (ARv 1 _ rfl).2
 have rc2 := (ARv 2 _ rfl).1
 have rf2 := (ARv 2 _ rfl).2
 have rc3 := (ARv 3 _ rfl).1
 have rf3 := (ARv 3 _ rfl).2
 have rc4 := (ARv 4 _ rfl).1
 have rf4 := (ARv 4 _ rfl).2
 have rc5 := (ARv 5 _ rfl).1
 have rf5 := (ARv 5 _ rfl).2
 have rc6 := (ARv 6 _ rfl).1
 have rf6 := (ARv 6 _ rfl).2
 have rc7 := (ARv 7 _ rfl).1
 have rf7 := (ARv 7 _ rfl).2
 have rc8 := (ARv 8 _ rfl).1
 have rf8 := (ARv 8 _ rfl).2
 have ec0 := (AEv 0 _ rfl).1
 have ef0 := (AEv 0 _ rfl).2
 clear AP AI AV AR AE hbv hBa hza kv ARv AEv
 gi_wp2
 refine ⟨_, (by simp [results, Try.results23, go_sem, *]; try rfl), ?_⟩
 exact ⟨rfl, ((((((((((hBv.setCell (p := ⟨w.heap.size + 1 + 1 + 1, 0, none⟩) (by simp only; omega) (.slice none 0 0)).setCell (p := ⟨w.heap.size + 1 + 1 + 1, 1, none⟩) (by simp only; omega) (.slice none 0 0)).setCell (p := ⟨w.heap.size + 1 + 1 + 1, 2, none⟩) (by simp only; omega) (.slice none 0 0)).setCell (p := ⟨w.heap.size + 1 + 1 + 1, 3, none⟩) (by simp only; omega) (.slice none 0 0)).setCell (p := ⟨w.heap.size + 1 + 1 + 1, 4, none⟩) (by simp only; omega) (.int .i64 0)).setCell (p := ⟨w.heap.size + 1 + 1 + 1, 5, none⟩) (by simp only; omega) (.slice none 0 0)).setCell (p := ⟨w.heap.size + 1 + 1 + 1, 6, none⟩) (by simp only; omega) (.slice none 0 0)).setCell (p := ⟨w.heap.size + 1 + 1 + 1, 7, none⟩) (by simp only; omega) (.slice none 0 0)).setCell (p := ⟨w.heap.size + 1 + 1 + 1, 8, none⟩) (by simp only; omega) (.slice none 0 0)).setCell (p := ⟨w.heap.size + 1 + 1 + 1 + 1, 0, none⟩) (by simp only; omega) (.int .i64 1))⟩
set_option maxRecDepth 100000 in
theorem ipatch_any (p : PL) (i v : Int) (w : World) (hp : IsL w p) (hs : p.Sm) (hv : validB p.v = true) (hI : I64 v) (hNl : p.params.length ≤ 10000000000) : Calls Try.prog 23 #[p.v.val, .int .i64 i, .int .i64 v] w fun e w' =>
  (((0 ≤ i ∧ i < p.params.length) ∧ okP (p.v.p.patch i v) = true) ∧ ∃ q : PL, e = .returned (.tuple #[q.v.val, .int .i64 0]) ∧ OwnP w.heap.size w' q ∧ q.v.p = p.v.p.patch i v ∧ Below w.heap.size w w') ∨
  (¬ ((0 ≤ i ∧ i < p.params.length) ∧ okP (p.v.p.patch i v) = true) ∧ e = .returned (.tuple #[pv0.val, .int .i64 2]) ∧ Below w.heap.size w w') := by
 have H1 := H! (fun W (h : Below w.heap.size w W) => mvalid_any p.v W (hp.later h).isP)
 have HCo := H! (fun W (h : Below w.heap.size w W) => icopied_any p W (hp.later h) hs)
 have HPLx : Hid (∀ (q : PL) W, CallsIn Fence.wide 9 Try.prog 51 #[q.v.val] W fun e w' => e = .returned (.func (.func 91) #[] #[.pointer (some ⟨W.heap.size, 0, none⟩)]) ∧ w' = W.alloc (.cells (PV.enc q.v).toArray 28)) := H! (fun q W => places_in q.v W)
 have HPP : Hid (∀ q : PL, q.v.p = p.v.p → q.params.length = p.params.length ∧ (q.patch i v).v.p = p.v.p.patch i v) := H! (fun q h => ⟨by rw [← pl_params, ← pl_params, h], by rw [pl_patch, h]⟩)
 have HEN : Hid (PV.enc p.v = [.slice p.rc p.code.length p.cc, .slice p.rt p.types.length p.ct, .slice p.rv p.curves.length p.cv, .slice p.rm (p.maps.map Mr.m).length p.cm, .int .i64 p.cells, .slice p.ri p.inputs.length p.ci, .slice p.rs p.states.length p.cs, .slice p.ro p.outputs.length p.co, .slice p.rn p.initial.length p.cn]) := H! rfl
 rw [hv] at H1
 clear hp hs hv
 generalize hN : p.params.length = N at *
 generalize hPA : p.v.p.patch i v = PA at *
 generalize hPV : p.v.p = PB at *
 clear hN hPA hPV
 obtain ⟨rc, cc, code, rt, ct, types, rv, cv, curves, rm, cm, maps, cells, ri, ci, inputs, rs, cs, states, ro, co, outputs, rn, cn, initial⟩ := p
 simp only [PV.val, PL.v, List.length_map] at H1 HCo HEN ⊢
 refine (callsIn_wide (n := 10)).1 ?_
 refine callsIn_of_wp_marks Try.func23 rfl trivial ?_ rfl
 simp only [Try.ntmps23, List.size_toArray, List.length_cons, List.length_nil, Nat.reduceAdd, Nat.reduceSub, Array.replicate_succ, Array.replicate_zero, List.push_toArray, List.append_toArray, List.nil_append, List.cons_append]
 gi_upto_region 1 with fail
 have hBa : Below w.heap.size w (((((w.alloc (.cells #[.slice rc code.length cc, .slice rt types.length ct, .slice rv curves.length cv, .slice rm maps.length cm, .int .i64 cells, .slice ri inputs.length ci, .slice rs states.length cs, .slice ro outputs.length co, .slice rn initial.length cn] 28)).alloc (.cells #[.int .i64 i] 3)).alloc (.cells #[.int .i64 v] 3)).alloc (.cells #[.slice none 0 0, .slice none 0 0, .slice none 0 0, .slice none 0 0, .int .i64 0, .slice none 0 0, .slice none 0 0, .slice none 0 0, .slice none 0 0] 28)).alloc (.cells #[.int .i64 0] 32)) := bw
 have hza : (((((w.alloc (.cells #[.slice rc code.length cc, .slice rt types.length ct, .slice rv curves.length cv, .slice rm maps.length cm, .int .i64 cells, .slice ri inputs.length ci, .slice rs states.length cs, .slice ro outputs.length co, .slice rn initial.length cn] 28)).alloc (.cells #[.int .i64 i] 3)).alloc (.cells #[.int .i64 v] 3)).alloc (.cells #[.slice none 0 0, .slice none 0 0, .slice none 0 0, .slice none 0 0, .int .i64 0, .slice none 0 0, .slice none 0 0, .slice none 0 0, .slice none 0 0] 28)).alloc (.cells #[.int .i64 0] 32)).heap.size = w.heap.size + 5 := by simp only [zA]
 have S0 : AtV (((((w.alloc (.cells #[.slice rc code.length cc, .slice rt types.length ct, .slice rv curves.length cv, .slice rm maps.length cm, .int .i64 cells, .slice ri inputs.length ci, .slice rs states.length cs, .slice ro outputs.length co, .slice rn initial.length cn] 28)).alloc (.cells #[.int .i64 i] 3)).alloc (.cells #[.int .i64 v] 3)).alloc (.cells #[.slice none 0 0, .slice none 0 0, .slice none 0 0, .slice none 0 0, .int .i64 0, .slice none 0 0, .slice none 0 0, .slice none 0 0, .slice none 0 0] 28)).alloc (.cells #[.int .i64 0] 32)) w.heap.size [.slice rc code.length cc, .slice rt types.length ct, .slice rv curves.length cv, .slice rm maps.length cm, .int .i64 cells, .slice ri inputs.length ci, .slice rs states.length cs, .slice ro outputs.length co, .slice rn initial.length cn] ∧ AtV (((((w.alloc (.cells #[.slice rc code.length cc, .slice rt types.length ct, .slice rv curves.length cv, .slice rm maps.length cm, .int .i64 cells, .slice ri inputs.length ci, .slice rs states.length cs, .slice ro outputs.length co, .slice rn initial.length cn] 28)).alloc (.cells #[.int .i64 i] 3)).alloc (.cells #[.int .i64 v] 3)).alloc (.cells #[.slice none 0 0, .slice none 0 0, .slice none 0 0, .slice none 0 0, .int .i64 0, .slice none 0 0, .slice none 0 0, .slice none 0 0, .slice none 0 0] 28)).alloc (.cells #[.int .i64 0] 32)) (w.heap.size + 1) [.int .i64 i] ∧ AtV (((((w.alloc (.cells #[.slice rc code.length cc, .slice rt types.length ct, .slice rv curves.length cv, .slice rm maps.length cm, .int .i64 cells, .slice ri inputs.length ci, .slice rs states.length cs, .slice ro outputs.length co, .slice rn initial.length cn] 28)).alloc (.cells #[.int .i64 i] 3)).alloc (.cells #[.int .i64 v] 3)).alloc (.cells #[.slice none 0 0, .slice none 0 0, .slice none 0 0, .slice none 0 0, .int .i64 0, .slice none 0 0, .slice none 0 0, .slice none 0 0, .slice none 0 0] 28)).alloc (.cells #[.int .i64 0] 32)) (w.heap.size + 1 + 1) [.int .i64 v] ∧ AtV (((((w.alloc (.cells #[.slice rc code.length cc, .slice rt types.length ct, .slice rv curves.length cv, .slice rm maps.length cm, .int .i64 cells, .slice ri inputs.length ci, .slice rs states.length cs, .slice ro outputs.length co, .slice rn initial.length cn] 28)).alloc (.cells #[.int .i64 i] 3)).alloc (.cells #[.int .i64 v] 3)).alloc (.cells #[.slice none 0 0, .slice none 0 0, .slice none 0 0, .slice none 0 0, .int .i64 0, .slice none 0 0, .slice none 0 0, .slice none 0 0, .slice none 0 0] 28)).alloc (.cells #[.int .i64 0] 32)) (w.heap.size + 1 + 1 + 1) [.slice none 0 0, .slice none 0 0, .slice none 0 0, .slice none 0 0, .int .i64 0, .slice none 0 0, .slice none 0 0, .slice none 0 0, .slice none 0 0] ∧ AtV (((((w.alloc (.cells #[.slice rc code.length cc, .slice rt types.length ct, .slice rv curves.length cv, .slice rm maps.length cm, .int .i64 cells, .slice ri inputs.length ci, .slice rs states.length cs, .slice ro outputs.length co, .slice rn initial.length cn] 28)).alloc (.cells #[.int .i64 i] 3)).alloc (.cells #[.int .i64 v] 3)).alloc (.cells #[.slice none 0 0, .slice none 0 0, .slice none 0 0, .slice none 0 0, .int .i64 0, .slice none 0 0, .slice none 0 0, .slice none 0 0, .slice none 0 0] 28)).alloc (.cells #[.int .i64 0] 32)) (w.heap.size + 1 + 1 + 1 + 1) [.int .i64 0] := five_new w _ _ _ _ _ _ _ _ _ _
 generalize ((((w.alloc (.cells #[.slice rc code.length cc, .slice rt types.length ct, .slice rv curves.length cv, .slice rm maps.length cm, .int .i64 cells, .slice ri inputs.length ci, .slice rs states.length cs, .slice ro outputs.length co, .slice rn initial.length cn] 28)).alloc (.cells #[.int .i64 i] 3)).alloc (.cells #[.int .i64 v] 3)).alloc (.cells #[.slice none 0 0, .slice none 0 0, .slice none 0 0, .slice none 0 0, .int .i64 0, .slice none 0 0, .slice none 0 0, .slice none 0 0, .slice none 0 0] 28)).alloc (.cells #[.int .i64 0] 32) = Wa at *
 obtain ⟨AP, AI, AV, AR, AE⟩ := S0
 have pc0 := (AP 0 _ rfl).1
 have pc1 := (AP 1 _ rfl).1
 have pc2 := (AP 2 _ rfl).1
 have pc3 := (AP 3 _ rfl).1
 have pc4 := (AP 4 _ rfl).1
 have pc5 := (AP 5 _ rfl).1
 have pc6 := (AP 6 _ rfl).1
 have pc7 := (AP 7 _ rfl).1
 have pc8 := (AP 8 _ rfl).1
 gi_upto_region 3 with (refine ⟨trivial, ?_⟩; gi_at_call 34; refine (callsIn_wide.2 (H1.out _ bw)).mono ?_; rintro _ wv ⟨rfl, hbv⟩)
 have hzv : w.heap.size + 5 ≤ wv.heap.size := by have := hbv.size; omega
 have kv : ∀ b, b < w.heap.size + 5 → wv.heap[b]? = Wa.heap[b]? := fun b hb => hbv.block b (by omega)
 have APv := AP.keep (kv _ (by omega))
 have AIv := AI.keep (kv _ (by omega))
 have AVv := AV.keep (kv _ (by omega))
 have ARv := AR.keep (kv _ (by omega))
 have AEv := AE.keep (kv _ (by omega))
 have hBv : Below w.heap.size w wv := hBa.trans (hbv.mono hBa.size)
 clear pc0 pc1 pc2 pc3 pc4 pc5 pc6 pc7 pc8
 clear AP AI AV AR AE hbv hBa hza kv
 have qc0 := (APv 0 _ rfl).1
 have qf0 := (APv 0 _ rfl).2
 have qc1 := (APv 1 _ rfl).1
 have qf1 := (APv 1 _ rfl).2
 have qc2 := (APv 2 _ rfl).1
 have qf2 := (APv 2 _ rfl).2
 have qc3 := (APv 3 _ rfl).1
 have qf3 := (APv 3 _ rfl).2
 have qc4 := (APv 4 _ rfl).1
 have qf4 := (APv 4 _ rfl).2
 have qc5 := (APv 5 _ rfl).1
 have qf5 := (APv 5 _ rfl).2
 have qc6 := (APv 6 _ rfl).1
 have qf6 := (APv 6 _ rfl).2
 have qc7 := (APv 7 _ rfl).1
 have qf7 := (APv 7 _ rfl).2
 have qc8 := (APv 8 _ rfl).1
 have qf8 := (APv 8 _ rfl).2
 gi_upto_region 4 with (refine ⟨trivial, ?_⟩; gi_at_call 50; refine (callsIn_wide.2 (HCo.out _ hBv)).mono ?_; rintro _ wc ⟨q, rfl, hoq, hqp, hbc⟩; have HOQ := H! hoq; have HQP := H! (HPP.out q hqp); have HENq : Hid (PV.enc q.v = [.slice q.rc q.code.length q.cc, .slice q.rt q.types.length q.ct, .slice q.rv q.curves.length q.cv, .slice q.rm (q.maps.map Mr.m).length q.cm, .int .i64 q.cells, .slice q.ri q.inputs.length q.ci, .slice q.rs q.states.length q.cs, .slice q.ro q.outputs.length q.co, .slice q.rn q.initial.length q.cn]) := H! rfl; have HPL := H! (fun W => HPLx.out q W); obtain ⟨q0, hq0⟩ : ∃ x, x = q := ⟨_, rfl⟩; rw [← hq0] at HOQ HQP; have HVq : Hid (q0.v.val = .agg ([.slice q.rc q.code.length q.cc, .slice q.rt q.types.length q.ct, .slice q.rv q.curves.length q.cv, .slice q.rm (q.maps.map Mr.m).length q.cm, .int .i64 q.cells, .slice q.ri q.inputs.length q.ci, .slice q.rs q.states.length q.cs, .slice q.ro q.outputs.length q.co, .slice q.rn q.initial.length q.cn]).toArray) := (H! (by rw [hq0]; rfl)); have HENq : Hid (PV.enc q0.v = [.slice q.rc q.code.length q.cc, .slice q.rt q.types.length q.ct, .slice q.rv q.curves.length q.cv, .slice q.rm (q.maps.map Mr.m).length q.cm, .int .i64 q.cells, .slice q.ri q.inputs.length q.ci, .slice q.rs q.states.length q.cs, .slice q.ro q.outputs.length q.co, .slice q.rn q.initial.length q.cn]) := (H! (by rw [hq0]; exact HENq.out)); clear hoq hqp hq0; obtain ⟨qrc, qcc, qcode, qrt, qct, qtypes, qrv, qcv, qcurves, qrm, qcm, qmaps, qcells, qri, qci, qinputs, qrs, qcs, qstates, qro, qco, qoutputs, qrn, qcn, qinitial⟩ := q; simp only [PV.val, PL.v, List.length_map] at HENq HPL ⊢; simp only [List.length_map] at HVq; simp only [PV.enc] at HPL; have kc : ∀ b, b < w.heap.size + 5 → wc.heap[b]? = wv.heap[b]? := (fun b hb => hbc.block b (by omega)); have APc := APv.keep (kc _ (by omega)); have zc0 := (APc 0 _ rfl).1; have zf0 := (APc 0 _ rfl).2; have zc1 := (APc 1 _ rfl).1; have zf1 := (APc 1 _ rfl).2; have zc2 := (APc 2 _ rfl).1; have zf2 := (APc 2 _ rfl).2; have zc3 := (APc 3 _ rfl).1; have zf3 := (APc 3 _ rfl).2; have zc4 := (APc 4 _ rfl).1; have zf4 := (APc 4 _ rfl).2; have zc5 := (APc 5 _ rfl).1; have zf5 := (APc 5 _ rfl).2; have zc6 := (APc 6 _ rfl).1; have zf6 := (APc 6 _ rfl).2; have zc7 := (APc 7 _ rfl).1; have zf7 := (APc 7 _ rfl).2; have zc8 := (APc 8 _ rfl).1; have zf8 := (APc 8 _ rfl).2)
 have AIc := AIv.keep (kc _ (by omega))
 have AVc := AVv.keep (kc _ (by omega))
 have ARc := ARv.keep (kc _ (by omega))
 have AEc := AEv.keep (kc _ (by omega))
 obtain ⟨n1, n2, n3, n4⟩ := nine_set wc w.heap.size _ _ _ _ _ _ _ _ _ (.slice qrc qcode.length qcc) (.slice qrt qtypes.length qct) (.slice qrv qcurves.length qcv) (.slice qrm qmaps.length qcm) (.int .i64 qcells) (.slice qri qinputs.length qci) (.slice qrs qstates.length qcs) (.slice qro qoutputs.length qco) (.slice qrn qinitial.length qcn) APc
 have hzc := hbc.size
 have HS1 : Hid (PtS w wv.heap.size q0 i v (((((((((wc.setCell ⟨w.heap.size, 0, none⟩ (.slice qrc qcode.length qcc)).setCell ⟨w.heap.size, 1, none⟩ (.slice qrt qtypes.length qct)).setCell ⟨w.heap.size, 2, none⟩ (.slice qrv qcurves.length qcv)).setCell ⟨w.heap.size, 3, none⟩ (.slice qrm qmaps.length qcm)).setCell ⟨w.heap.size, 4, none⟩ (.int .i64 qcells)).setCell ⟨w.heap.size, 5, none⟩ (.slice qri qinputs.length qci)).setCell ⟨w.heap.size, 6, none⟩ (.slice qrs qstates.length qcs)).setCell ⟨w.heap.size, 7, none⟩ (.slice qro qoutputs.length qco)).setCell ⟨w.heap.size, 8, none⟩ (.slice qrn qinitial.length qcn))) := H! ⟨by rw [show PV.enc q0.v = [.slice qrc qcode.length qcc, .slice qrt qtypes.length qct, .slice qrv qcurves.length qcv, .slice qrm qmaps.length qcm, .int .i64 qcells, .slice qri qinputs.length qci, .slice qrs qstates.length qcs, .slice qro qoutputs.length qco, .slice qrn qinitial.length qcn] from HENq.out]; exact n1, AIc.keep (n3 _ (by omega)), AVc.keep (n3 _ (by omega)), ARc.keep (n3 _ (by omega)), AEc.keep (n3 _ (by omega)), HOQ.out.keepq (by omega) (fun b hb _ => n3 b (by omega)), (hBv.trans (hbc.mono hBv.size)).trans n4, hzv, by omega⟩
 have hz1 : wv.heap.size ≤ (((((((((wc.setCell ⟨w.heap.size, 0, none⟩ (.slice qrc qcode.length qcc)).setCell ⟨w.heap.size, 1, none⟩ (.slice qrt qtypes.length qct)).setCell ⟨w.heap.size, 2, none⟩ (.slice qrv qcurves.length qcv)).setCell ⟨w.heap.size, 3, none⟩ (.slice qrm qmaps.length qcm)).setCell ⟨w.heap.size, 4, none⟩ (.int .i64 qcells)).setCell ⟨w.heap.size, 5, none⟩ (.slice qri qinputs.length qci)).setCell ⟨w.heap.size, 6, none⟩ (.slice qrs qstates.length qcs)).setCell ⟨w.heap.size, 7, none⟩ (.slice qro qoutputs.length qco)).setCell ⟨w.heap.size, 8, none⟩ (.slice qrn qinitial.length qcn)).heap.size := by omega
 have n1c := n1
 clear qc0 qf0 qc1 qf1 qc2 qf2 qc3 qf3 qc4 qf4 qc5 qf5 qc6 qf6 qc7 qf7 qc8 qf8
 clear zc0 zf0 zc1 zf1 zc2 zf2 zc3 zf3 zc4 zf4 zc5 zf5 zc6 zf6 zc7 zf7 zc8 zf8
 clear APv AIv AVv ARv AEv APc AIc AVc ARc AEc n2 n3 n4 hbc kc hzc HOQ hBv
 generalize (((((((((wc.setCell ⟨w.heap.size, 0, none⟩ (.slice qrc qcode.length qcc)).setCell ⟨w.heap.size, 1, none⟩ (.slice qrt qtypes.length qct)).setCell ⟨w.heap.size, 2, none⟩ (.slice qrv qcurves.length qcv)).setCell ⟨w.heap.size, 3, none⟩ (.slice qrm qmaps.length qcm)).setCell ⟨w.heap.size, 4, none⟩ (.int .i64 qcells)).setCell ⟨w.heap.size, 5, none⟩ (.slice qri qinputs.length qci)).setCell ⟨w.heap.size, 6, none⟩ (.slice qrs qstates.length qcs)).setCell ⟨w.heap.size, 7, none⟩ (.slice qro qoutputs.length qco)).setCell ⟨w.heap.size, 8, none⟩ (.slice qrn qinitial.length qcn)) = W1 at *
 clear n1
 gi_upto_region 5 with fail
 have n2c := n1c.keep (Below.heap_alloc W1 (.cells #[.int .i64 0] 3) _ (show w.heap.size < W1.heap.size by omega))
 have bO := (Boxed.new W1 3 (.int .i64 0)).alloc (.cells #[.slice qrc qcode.length qcc, .slice qrt qtypes.length qct, .slice qrv qcurves.length qcv, .slice qrm qmaps.length qcm, .int .i64 qcells, .slice qri qinputs.length qci, .slice qrs qstates.length qcs, .slice qro qoutputs.length qco, .slice qrn qinitial.length qcn] 28)
 have HS0 := H! (HS1.out.later (((Below.refl _ _).alloc (Nat.le_refl _) (.cells #[.int .i64 0] 3)).alloc (by simp only [zA]; omega) (.cells #[.slice qrc qcode.length qcc, .slice qrt qtypes.length qct, .slice qrv qcurves.length qcv, .slice qrm qmaps.length qcm, .int .i64 qcells, .slice qri qinputs.length qci, .slice qrs qstates.length qcs, .slice qro qoutputs.length qco, .slice qrn qinitial.length qcn] 28)))
 have hB10 : Below W1.heap.size W1 ((W1.alloc (.cells #[.int .i64 0] 3)).alloc (.cells #[.slice qrc qcode.length qcc, .slice qrt qtypes.length qct, .slice qrv qcurves.length qcv, .slice qrm qmaps.length qcm, .int .i64 qcells, .slice qri qinputs.length qci, .slice qrs qstates.length qcs, .slice qro qoutputs.length qco, .slice qrn qinitial.length qcn] 28)) := ((Below.refl _ _).alloc (Nat.le_refl _) _).alloc (by simp only [zA]; omega) _
 have hz : W1.heap.size + 2 ≤ ((W1.alloc (.cells #[.int .i64 0] 3)).alloc (.cells #[.slice qrc qcode.length qcc, .slice qrt qtypes.length qct, .slice qrv qcurves.length qcv, .slice qrm qmaps.length qcm, .int .i64 qcells, .slice qri qinputs.length qci, .slice qrs qstates.length qcs, .slice qro qoutputs.length qco, .slice qrn qinitial.length qcn] 28)).heap.size := by simp only [zA]; omega
 have AQ := AtV.new (W1.alloc (.cells #[.int .i64 0] 3)) [.slice qrc qcode.length qcc, .slice qrt qtypes.length qct, .slice qrv qcurves.length qcv, .slice qrm qmaps.length qcm, .int .i64 qcells, .slice qri qinputs.length qci, .slice qrs qstates.length qcs, .slice qro qoutputs.length qco, .slice qrn qinitial.length qcn] 28
 change AtV ((W1.alloc (.cells #[.int .i64 0] 3)).alloc (.cells #[.slice qrc qcode.length qcc, .slice qrt qtypes.length qct, .slice qrv qcurves.length qcv, .slice qrm qmaps.length qcm, .int .i64 qcells, .slice qri qinputs.length qci, .slice qrs qstates.length qcs, .slice qro qoutputs.length qco, .slice qrn qinitial.length qcn] 28)) _ _ at AQ
 rw [zA] at AQ
 have mc0 := (n2c 0 _ rfl).1
 have mc1 := (n2c 1 _ rfl).1
 have mc2 := (n2c 2 _ rfl).1
 have mc3 := (n2c 3 _ rfl).1
 have mc4 := (n2c 4 _ rfl).1
 have mc5 := (n2c 5 _ rfl).1
 have mc6 := (n2c 6 _ rfl).1
 have mc7 := (n2c 7 _ rfl).1
 have mc8 := (n2c 8 _ rfl).1
 clear n1c n2c
 gi_wp2_with (refine ⟨trivial, ?_⟩; gi_at_call 51; refine (HPL.out _).mono ?_; rintro _ _ ⟨rfl, rfl⟩)
 generalize (W1.alloc (.cells #[.int .i64 0] 3)).alloc (.cells #[.slice qrc qcode.length qcc, .slice qrt qtypes.length qct, .slice qrv qcurves.length qcv, .slice qrm qmaps.length qcm, .int .i64 qcells, .slice qri qinputs.length qci, .slice qrs qstates.length qcs, .slice qro qoutputs.length qco, .slice qrn qinitial.length qcn] 28) = W0 at *
 clear mc0 mc1 mc2 mc3 mc4 mc5 mc6 mc7 mc8
 obtain ⟨pl, hpl⟩ : ∃ x, x = q0.places := ⟨_, rfl⟩
 have hn : pl.length = N := by rw [hpl, places_len]; exact HQP.out.1
 have HP0 : Hid (∀ W', KeepB W0.heap.size W1.heap.size W0 W' → PtS w wv.heap.size q0 i v W') := H! (fun W' hk => HS1.out.later (hB10.trans (hk.below (by omega) (Nat.le_refl _))))
 have hseq := places_seq (W1.heap.size + 1) W1.heap.size N pl q0 W0 hn (by omega) (by omega) (fun j u h => (AQ j u (by rw [← h]; exact congrArg (fun l : List Value => l[j]?) HENq.out.symm)).1) (fun W' hk => (HP0.out W' hk).own.isL) hpl
 have HFR : Hid (∀ b ∈ q0.frag, b.1 < W1.heap.size) := H! (fun b hb => (HS1.out.own.1.2 b hb).2.1)
 have HPLB : Hid (∀ (k : Nat) a, q0.places[k]? = some a → a.block < W1.heap.size) := H! (fun k a h => (HS1.out.own.place h).2.1)
 have HPL0 := H! hpl
 clear AQ hpl HS1 HPL HCo HEN hB10
 refine wpIn_rangeFunc_ownG (F := Fence.wide) (n := 10) rfl (by omega) (gf := 91) (lb := #[.pointer (some ⟨W1.heap.size + 1, 0, none⟩)]) rfl trivial (enters_of Try.func91 (by kernel_rfl) rfl)
  hseq KeepT.trans (fun W l o o' hl h ho _ => KeepT.put W l o o' hl h ho) (Below.refl _ _) (fun _ => rfl)
  (fun pre W => (Boxed W W1.heap.size 3 (.int .i64 pre.length) ∧ KeepT W0.heap.size W1.heap.size W0 W) ∧ (0 ≤ i ∧ i < N → (pre.length : Int) ≤ i))
  (fun c s W => c = .ret ∧ ∃ pre x, s = pre ++ [x] ∧ (pre.length : Int) = i ∧ PtE w wv.heap.size W0.heap.size (q0.patch (x : Pi N).1 v) (validB (q0.patch x.1 v).v) W) ?hI ?hIx ?h0 ?a1 ?assign ?body ?done ?stop
 case assign =>
  intro l x W K hK
  gi_wp2
  exact hK
 case hI =>
  refine OwnFrom.and (OwnFrom.and ?_ (KeepT.from_below (Nat.le_refl _) (Nat.le_refl _))) (fun _ _ _ _ hs _ _ => hs)
  exact fun s X Y row hs hg hr => hs.kept hg (fun e => by
   obtain ⟨_, o, ho, hc⟩ := hr _ e.symm
   rw [show X.heap[W1.heap.size]? = _ from hs] at ho
   cases ho; cases hc)
 case hIx =>
  rintro c s X Y row ⟨h1, pre, x, h2, h3, h4⟩ hg hr
  exact ⟨h1, pre, x, h2, h3, PtE.from () X Y row h4 hg hr⟩
 case h0 =>
  exact ⟨⟨bO, KeepT.refl _ _ _⟩, fun h => h.1⟩
 case body =>
  rintro l pre x W ⟨⟨hb, hK⟩, hle⟩ hlt
  have hpn : pre.length < 10000000000 := by omega
  have hc := hb.cell
  have hf := hb.frozen
  have HS := H! (HP0.out W hK.keep)
  have hx : x.1 < N := x.2
  have ha : q0.places[x.1]? = some (pl.getD x.1 default) := by rw [← HPL0.out]; simp [List.getD, List.getElem?_eq_getElem (show x.1 < pl.length by omega)]
  obtain ⟨hp1, hp2, hp3, hp4, hp5⟩ := HS.out.own.place ha
  have hp6 := HPLB.out _ _ ha
  have HOP := H! (HS.out.own.patch ha hI)
  have HFP : Hid (∀ b ∈ (q0.patch x.1 v).frag, b.1 < W1.heap.size) := H! (fun b hb => by
   have h1 := frag_patch HS.out.own ha v
   have h2 := List.mem_map_of_mem (f := Prod.fst) hb
   rw [h1] at h2
   obtain ⟨c, hc, he⟩ := List.mem_map.1 h2
   rw [← he]
   exact HFR.out c hc)
  have hix := (HS.out.idx 0 _ rfl).1
  have hvx := (HS.out.val 0 _ rfl).1
  have HEX : Hid (∀ (K : List (Pi N) → Prop), K (pre ++ [x]) → K (pre ++ [x])) := H! (fun _ h => h)
  simp only [piEnc]
  generalize pl.getD x.1 default = a at *
  obtain ⟨ab, ao, asp⟩ := a
  obtain rfl : asp = none := hp3
  dsimp only at hp1 hp2 hp6
  clear hseq ha
  by_cases hm : (pre.length : Int) = i
  ·
   have hm2 : ((pre.length : Int) == i) = true := by simpa using hm
   gi_upto_region 9 with fail
   have HP5 := H! (HS.out.prog.keep (Below.heap_setCell W ⟨ab, ao, none⟩ (.int .i64 v) w.heap.size (show w.heap.size ≠ ab by omega)))
   have HR5 := H! (HS.out.res.keep (Below.heap_setCell W ⟨ab, ao, none⟩ (.int .i64 v) (w.heap.size + 1 + 1 + 1) (show w.heap.size + 1 + 1 + 1 ≠ ab by omega)))
   have HE5 := H! (HS.out.err.keep (Below.heap_setCell W ⟨ab, ao, none⟩ (.int .i64 v) (w.heap.size + 1 + 1 + 1 + 1) (show w.heap.size + 1 + 1 + 1 + 1 ≠ ab by omega)))
   have HB5 := H! (HS.out.below.setCell (p := ⟨ab, ao, none⟩) (show w.heap.size ≤ ab by omega) (.int .i64 v))
   have HK5 := H! (keepsFrom_set W (B := W0.heap.size) (show ab < W0.heap.size by omega) ao none (.int .i64 v))
   have hz5 : (W.setCell ⟨ab, ao, none⟩ (.int .i64 v)).heap.size = W.heap.size := by simp only [zS]
   have hzW : W0.heap.size ≤ W.heap.size := hK.keep.zero.size
   clear hp1 hp2 hp4 hp5 hp6 hc hf hix hvx hb hK HS hle
   generalize W.setCell ⟨ab, ao, none⟩ (.int .i64 v) = W5 at *
   rw [show PV.enc q0.v = [.slice qrc qcode.length qcc, .slice qrt qtypes.length qct, .slice qrv qcurves.length qcv, .slice qrm qmaps.length qcm, .int .i64 qcells, .slice qri qinputs.length qci, .slice qrs qstates.length qcs, .slice qro qoutputs.length qco, .slice qrn qinitial.length qcn] from HENq.out] at HP5
   have HV5 := H! (mvalid_any (q0.patch x.1 v).v W5 HOP.out.isL.isP)
   rw [patch_val, show q0.v.val = _ from HVq.out] at HV5
   generalize hvb : validB (q0.patch x.1 v).v = vb at *
   have pc0 := (HP5.out 0 _ rfl).1
   have pc1 := (HP5.out 1 _ rfl).1
   have pc2 := (HP5.out 2 _ rfl).1
   have pc3 := (HP5.out 3 _ rfl).1
   have pc4 := (HP5.out 4 _ rfl).1
   have pc5 := (HP5.out 5 _ rfl).1
   have pc6 := (HP5.out 6 _ rfl).1
   have pc7 := (HP5.out 7 _ rfl).1
   have pc8 := (HP5.out 8 _ rfl).1
   cases vb
   ·
    gi_upto_region 10 with (refine ⟨trivial, ?_⟩; gi_at_call 34; refine (CallsIn.inRound l (callsIn_wide.2 HV5.out)).mono ?_; rintro _ w6 ⟨rfl, hb6⟩)
    have AR6 := HR5.out.keep (hb6.block _ (by omega))
    have AE6 := HE5.out.keep (hb6.block _ (by omega))
    have AP6 := HP5.out.keep (hb6.block _ (by omega))
    have hz6 := hb6.size
    have rc0 := (AR6 0 _ rfl).1
    have rf0 := (AR6 0 _ rfl).2
    have rc1 := (AR6 1 _ rfl).1
    have rf1 := (AR6 1 _ rfl).2
    have rc2 := (AR6 2 _ rfl).1
    have rf2 := (AR6 2 _ rfl).2
    have rc3 := (AR6 3 _ rfl).1
    have rf3 := (AR6 3 _ rfl).2
    have rc4 := (AR6 4 _ rfl).1
    have rf4 := (AR6 4 _ rfl).2
    have rc5 := (AR6 5 _ rfl).1
    have rf5 := (AR6 5 _ rfl).2
    have rc6 := (AR6 6 _ rfl).1
    have rf6 := (AR6 6 _ rfl).2
    have rc7 := (AR6 7 _ rfl).1
    have rf7 := (AR6 7 _ rfl).2
    have rc8 := (AR6 8 _ rfl).1
    have rf8 := (AR6 8 _ rfl).2
    have ec0 := (AE6 0 _ rfl).1
    have ef0 := (AE6 0 _ rfl).2
    gi_wp2
    obtain ⟨n1, n2, n3, n4⟩ := nine_set w6 (w.heap.size + 1 + 1 + 1) _ _ _ _ _ _ _ _ _ (.slice none 0 0) (.slice none 0 0) (.slice none 0 0) (.slice none 0 0) (.int .i64 0) (.slice none 0 0) (.slice none 0 0) (.slice none 0 0) (.slice none 0 0) AR6
    refine ⟨?_, rfl, pre, x, rfl, hm, ?_⟩
    ·
     refine (HK5.out.trans (keepsFrom_below hb6)).trans ?_
     refine ⟨by simp only [zS]; exact Nat.le_refl _, fun k o hk h _ => ?_⟩
     rw [Below.heap_setCell _ _ _ _ (show k ≠ w.heap.size + 1 + 1 + 1 + 1 by omega), n3 k (by omega)]
     exact h
    ·
     refine ⟨fun b hb => Nat.lt_of_lt_of_le (HFP.out b hb) (by omega), by omega, ?_, by omega, ?_, ?_⟩
     ·
      simp only [zS]; omega
     ·
      exact ((HB5.out.trans (hb6.mono (by omega))).trans (n4.mono (by omega))).setCell (p := ⟨w.heap.size + 1 + 1 + 1 + 1, 0, none⟩) (by simp only; omega) _
     ·
      rw [hvb]
      exact ⟨n1.keep (Below.heap_setCell _ _ _ _ (show w.heap.size + 1 + 1 + 1 ≠ w.heap.size + 1 + 1 + 1 + 1 by omega)), (AE6.keep (n3 _ (by omega))).set (j := 0) (by simp) _⟩
   ·
    gi_upto_region 11 with (refine ⟨trivial, ?_⟩; gi_at_call 34; refine (CallsIn.inRound l (callsIn_wide.2 HV5.out)).mono ?_; rintro _ w6 ⟨rfl, hb6⟩)
    have AR6 := HR5.out.keep (hb6.block _ (by omega))
    have AE6 := HE5.out.keep (hb6.block _ (by omega))
    have AP6 := HP5.out.keep (hb6.block _ (by omega))
    have hz6 := hb6.size
    have rc0 := (AR6 0 _ rfl).1
    have rf0 := (AR6 0 _ rfl).2
    have rc1 := (AR6 1 _ rfl).1
    have rf1 := (AR6 1 _ rfl).2
    have rc2 := (AR6 2 _ rfl).1
    have rf2 := (AR6 2 _ rfl).2
    have rc3 := (AR6 3 _ rfl).1
    have rf3 := (AR6 3 _ rfl).2
    have rc4 := (AR6 4 _ rfl).1
    have rf4 := (AR6 4 _ rfl).2
    have rc5 := (AR6 5 _ rfl).1
    have rf5 := (AR6 5 _ rfl).2
    have rc6 := (AR6 6 _ rfl).1
    have rf6 := (AR6 6 _ rfl).2
    have rc7 := (AR6 7 _ rfl).1
    have rf7 := (AR6 7 _ rfl).2
    have rc8 := (AR6 8 _ rfl).1
    have rf8 := (AR6 8 _ rfl).2
    have ec0 := (AE6 0 _ rfl).1
    have ef0 := (AE6 0 _ rfl).2
    have yc0 := (AP6 0 _ rfl).1
    have yc1 := (AP6 1 _ rfl).1
    have yc2 := (AP6 2 _ rfl).1
    have yc3 := (AP6 3 _ rfl).1
    have yc4 := (AP6 4 _ rfl).1
    have yc5 := (AP6 5 _ rfl).1
    have yc6 := (AP6 6 _ rfl).1
    have yc7 := (AP6 7 _ rfl).1
    have yc8 := (AP6 8 _ rfl).1
    gi_wp2
    obtain ⟨n1, n2, n3, n4⟩ := nine_set w6 (w.heap.size + 1 + 1 + 1) _ _ _ _ _ _ _ _ _ (.slice qrc qcode.length qcc) (.slice qrt qtypes.length qct) (.slice qrv qcurves.length qcv) (.slice qrm qmaps.length qcm) (.int .i64 qcells) (.slice qri qinputs.length qci) (.slice qrs qstates.length qcs) (.slice qro qoutputs.length qco) (.slice qrn qinitial.length qcn) AR6
    refine ⟨?_, rfl, pre, x, rfl, hm, ?_⟩
    ·
     refine (HK5.out.trans (keepsFrom_below hb6)).trans ?_
     refine ⟨by simp only [zS]; exact Nat.le_refl _, fun k o hk h _ => ?_⟩
     rw [Below.heap_setCell _ _ _ _ (show k ≠ w.heap.size + 1 + 1 + 1 + 1 by omega), n3 k (by omega)]
     exact h
    ·
     refine ⟨fun b hb => Nat.lt_of_lt_of_le (HFP.out b hb) (by omega), by omega, ?_, by omega, ?_, ?_⟩
     ·
      simp only [zS]; omega
     ·
      exact ((HB5.out.trans (hb6.mono (by omega))).trans (n4.mono (by omega))).setCell (p := ⟨w.heap.size + 1 + 1 + 1 + 1, 0, none⟩) (by simp only; omega) _
     ·
      rw [hvb]
      refine ⟨?_, (AE6.keep (n3 _ (by omega))).set (j := 0) (by simp) _, ?_⟩
      ·
       rw [patch_enc, show PV.enc q0.v = [.slice qrc qcode.length qcc, .slice qrt qtypes.length qct, .slice qrv qcurves.length qcv, .slice qrm qmaps.length qcm, .int .i64 qcells, .slice qri qinputs.length qci, .slice qrs qstates.length qcs, .slice qro qoutputs.length qco, .slice qrn qinitial.length qcn] from HENq.out]
       exact n1.keep (Below.heap_setCell _ _ _ _ (show w.heap.size + 1 + 1 + 1 ≠ w.heap.size + 1 + 1 + 1 + 1 by omega))
      ·
       refine (HOP.out.below hb6).keepq (by simp only [zS]; exact Nat.le_refl _) (fun b h1 h2 => ?_)
       rw [Below.heap_setCell _ _ _ _ (show b ≠ w.heap.size + 1 + 1 + 1 + 1 by omega), n3 b (by omega)]
  ·
   have hm2 : ((pre.length : Int) == i) = false := by simpa using hm
   gi_wp2
   have hkt := KeepT.setBox (B := W0.heap.size) hb (.int .i64 ((pre.length : Int) + 1))
   have hbx := hb.set (.int .i64 ((pre.length : Int) + 1))
   refine ⟨keepsFrom_set W (by omega) 0 none _, hkt, ⟨⟨?_, hK.trans hkt⟩, ?_⟩⟩
   ·
    simpa using hbx
   ·
    have hlen : (pre ++ [x]).length = pre.length + 1 := by simp
    first
     | (intro ha hb'; have h1 := hle ⟨ha, hb'⟩; rw [hlen]; omega)
     | (intro h; have h1 := hle h; rw [hlen]; omega)
 case done =>
  rintro D ys W hD rfl ⟨⟨hb, hK⟩, hle⟩ hKd
  have hnh : ¬ (0 ≤ i ∧ i < N) := fun h => by
   have := hle h
   rw [piL_len (Nat.le_refl _)] at this
   omega
  have HS := H! (HP0.out W hK.keep)
  have AR6 := HS.out.res
  have AE6 := HS.out.err
  have rc0 := (AR6 0 _ rfl).1
  have rf0 := (AR6 0 _ rfl).2
  have rc1 := (AR6 1 _ rfl).1
  have rf1 := (AR6 1 _ rfl).2
  have rc2 := (AR6 2 _ rfl).1
  have rf2 := (AR6 2 _ rfl).2
  have rc3 := (AR6 3 _ rfl).1
  have rf3 := (AR6 3 _ rfl).2
  have rc4 := (AR6 4 _ rfl).1
  have rf4 := (AR6 4 _ rfl).2
  have rc5 := (AR6 5 _ rfl).1
  have rf5 := (AR6 5 _ rfl).2
  have rc6 := (AR6 6 _ rfl).1
  have rf6 := (AR6 6 _ rfl).2
  have rc7 := (AR6 7 _ rfl).1
  have rf7 := (AR6 7 _ rfl).2
  have rc8 := (AR6 8 _ rfl).1
  have rf8 := (AR6 8 _ rfl).2
  have ec0 := (AE6 0 _ rfl).1
  have ef0 := (AE6 0 _ rfl).2
  gi_wp2
  obtain ⟨n1, n2, n3, n4⟩ := nine_set W (w.heap.size + 1 + 1 + 1) _ _ _ _ _ _ _ _ _ (.slice none 0 0) (.slice none 0 0) (.slice none 0 0) (.slice none 0 0) (.int .i64 0) (.slice none 0 0) (.slice none 0 0) (.slice none 0 0) (.slice none 0 0) AR6
  have AR9 := n1.keep (Below.heap_setCell _ ⟨w.heap.size + 1 + 1 + 1 + 1, 0, none⟩ (.int .i64 2) _ (show w.heap.size + 1 + 1 + 1 ≠ w.heap.size + 1 + 1 + 1 + 1 by omega))
  have AE9 := (AE6.keep (n3 _ (by omega))).set (j := 0) (by simp) (.int .i64 2)
  have hB9 : Below w.heap.size w _ := (HS.out.below.trans (n4.mono (by omega))).setCell (p := ⟨w.heap.size + 1 + 1 + 1 + 1, 0, none⟩) (by simp only; omega) (.int .i64 2)
  have hK9 : ((((((((((W.setCell ⟨w.heap.size + 1 + 1 + 1, 0, none⟩ (.slice none 0 0)).setCell ⟨w.heap.size + 1 + 1 + 1, 1, none⟩ (.slice none 0 0)).setCell ⟨w.heap.size + 1 + 1 + 1, 2, none⟩ (.slice none 0 0)).setCell ⟨w.heap.size + 1 + 1 + 1, 3, none⟩ (.slice none 0 0)).setCell ⟨w.heap.size + 1 + 1 + 1, 4, none⟩ (.int .i64 0)).setCell ⟨w.heap.size + 1 + 1 + 1, 5, none⟩ (.slice none 0 0)).setCell ⟨w.heap.size + 1 + 1 + 1, 6, none⟩ (.slice none 0 0)).setCell ⟨w.heap.size + 1 + 1 + 1, 7, none⟩ (.slice none 0 0)).setCell ⟨w.heap.size + 1 + 1 + 1, 8, none⟩ (.slice none 0 0)).setCell ⟨w.heap.size + 1 + 1 + 1 + 1, 0, none⟩ (.int .i64 2)).heap[D]? = some (.deferred (some [])) := by
   rw [Below.heap_setCell _ _ _ _ (show D ≠ w.heap.size + 1 + 1 + 1 + 1 by omega), n3 D (by omega)]
   exact hKd
  generalize (((((((((W.setCell ⟨w.heap.size + 1 + 1 + 1, 0, none⟩ (.slice none 0 0)).setCell ⟨w.heap.size + 1 + 1 + 1, 1, none⟩ (.slice none 0 0)).setCell ⟨w.heap.size + 1 + 1 + 1, 2, none⟩ (.slice none 0 0)).setCell ⟨w.heap.size + 1 + 1 + 1, 3, none⟩ (.slice none 0 0)).setCell ⟨w.heap.size + 1 + 1 + 1, 4, none⟩ (.int .i64 0)).setCell ⟨w.heap.size + 1 + 1 + 1, 5, none⟩ (.slice none 0 0)).setCell ⟨w.heap.size + 1 + 1 + 1, 6, none⟩ (.slice none 0 0)).setCell ⟨w.heap.size + 1 + 1 + 1, 7, none⟩ (.slice none 0 0)).setCell ⟨w.heap.size + 1 + 1 + 1, 8, none⟩ (.slice none 0 0)).setCell ⟨w.heap.size + 1 + 1 + 1 + 1, 0, none⟩ (.int .i64 2) = W9 at *
  refine ⟨by simp, .inl ⟨_, _, rfl, run_takeDeferred hK9, ?_⟩⟩
  have ARx := AR9.keep (World.putObj_heap_other (w := W9) (r := D) (o := .deferred none) (show w.heap.size + 1 + 1 + 1 ≠ D by omega))
  have AEx := AE9.keep (World.putObj_heap_other (w := W9) (r := D) (o := .deferred none) (show w.heap.size + 1 + 1 + 1 + 1 ≠ D by omega))
  have hBx := hB9.trans ((KeepB.put (B := W0.heap.size) (Bo := W1.heap.size) W9 D _ (.deferred none) hD hK9).below (n := w.heap.size) (by omega) (by omega))
  generalize W9.putObj D (.deferred none) = W10 at *
  have rc0 := (ARx 0 _ rfl).1
  have rc1 := (ARx 1 _ rfl).1
  have rc2 := (ARx 2 _ rfl).1
  have rc3 := (ARx 3 _ rfl).1
  have rc4 := (ARx 4 _ rfl).1
  have rc5 := (ARx 5 _ rfl).1
  have rc6 := (ARx 6 _ rfl).1
  have rc7 := (ARx 7 _ rfl).1
  have rc8 := (ARx 8 _ rfl).1
  have ec0 := (AEx 0 _ rfl).1
  refine ⟨_, (by simp [results, Try.results23, go_sem, *]; try rfl), ?_⟩
  exact .inr ⟨fun h => hnh h.1, rfl, hBx⟩
 case stop =>
  rintro D c pre W hD ⟨k, hSp⟩ ⟨rfl, pre', x, hs, hi, hE⟩ hKd
  rw [hs] at hSp
  have hxe := piL_last hSp
  have hxn : x.1 < N := x.2
  have hit : 0 ≤ i ∧ i < N := by omega
  have hxi : ((x.1 : Nat) : Int) = i := by rw [hxe]; exact hi
  have hEx := PtE.from.putObj (s := ()) (.deferred none) hE hD hKd rfl
  have hok := okP_eq (q0.patch x.1 v).v
  rw [hxi, (HQP.out).2] at hok
  rw [hxi] at hEx
  gi_wp2
  refine ⟨by simp, .inl ⟨_, _, rfl, run_takeDeferred hKd, ?_⟩⟩
  generalize W.putObj D (.deferred none) = W10 at *
  obtain ⟨h1, h2, h3, h4, h5, h6⟩ := hEx
  rw [← hok] at h6
  by_cases hb : okP PA = true
  ·
   rw [if_pos hb] at h6
   obtain ⟨ARx, AEx, hown⟩ := h6
   rw [patch_enc, show PV.enc q0.v = [.slice qrc qcode.length qcc, .slice qrt qtypes.length qct, .slice qrv qcurves.length qcv, .slice qrm qmaps.length qcm, .int .i64 qcells, .slice qri qinputs.length qci, .slice qrs qstates.length qcs, .slice qro qoutputs.length qco, .slice qrn qinitial.length qcn] from HENq.out] at ARx
   have rc0 := (ARx 0 _ rfl).1
   have rc1 := (ARx 1 _ rfl).1
   have rc2 := (ARx 2 _ rfl).1
   have rc3 := (ARx 3 _ rfl).1
   have rc4 := (ARx 4 _ rfl).1
   have rc5 := (ARx 5 _ rfl).1
   have rc6 := (ARx 6 _ rfl).1
   have rc7 := (ARx 7 _ rfl).1
   have rc8 := (ARx 8 _ rfl).1
   have ec0 := (AEx 0 _ rfl).1
   refine ⟨_, (by simp [results, Try.results23, go_sem, *]; try rfl), ?_⟩
   refine .inl ⟨⟨hit, hb⟩, q0.patch i v, ?_, ⟨hown.1.base h4, hown.2⟩, HQP.out.2, h5⟩
   have hpv := patch_val q0 i v
   simp only [PV.val, PL.v, List.length_map] at hpv
   have hvv := HVq.out
   simp only [PV.val, PL.v, List.length_map] at hvv
   rw [hpv, hvv]
  ·
   rw [if_neg hb] at h6
   obtain ⟨ARx, AEx⟩ := h6
   have rc0 := (ARx 0 _ rfl).1
   have rc1 := (ARx 1 _ rfl).1
   have rc2 := (ARx 2 _ rfl).1
   have rc3 := (ARx 3 _ rfl).1
   have rc4 := (ARx 4 _ rfl).1
   have rc5 := (ARx 5 _ rfl).1
   have rc6 := (ARx 6 _ rfl).1
   have rc7 := (ARx 7 _ rfl).1
   have rc8 := (ARx 8 _ rfl).1
   have ec0 := (AEx 0 _ rfl).1
   refine ⟨_, (by simp [results, Try.results23, go_sem, *]; try rfl), ?_⟩
   exact .inr ⟨fun h => hb h.2, rfl, h5⟩
end
def idxR (p : List Int → Bool) (Z : List (List Int)) : Int := if Z.any p = true then (Z.findIdx p : Nat) else -1
theorem idxR_hit {p : List Int → Bool} {Z : List (List Int)} {k : Nat} (hk : k < Z.length) (h0 : ∀ t, t < k → p (Z.getD t []) = false) (h1 : p (Z.getD k []) = true) : idxR p Z = k := by
 have hg : ∀ t (h : t < Z.length), Z.getD t [] = Z[t] := fun t h => by simp [List.getD, List.getElem?_eq_getElem h]
 have hf : Z.findIdx p = k := by
  rw [List.findIdx_eq hk]
  refine ⟨by rw [← hg k hk]; exact h1, fun j hj => ?_⟩
  rw [← hg j (by omega)]
  exact h0 j hj
 have ha : Z.any p = true := List.any_eq_true.2 ⟨Z[k], List.getElem_mem hk, by rw [← hg k hk]; exact h1⟩
 simp [idxR, ha, hf]
theorem idxR_miss {p : List Int → Bool} {Z : List (List Int)} (h0 : ∀ t, t < Z.length → p (Z.getD t []) = false) : idxR p Z = -1 := by
 have ha : Z.any p = false := by
  rw [List.any_eq_false]
  intro x hx
  obtain ⟨t, ht, rfl⟩ := List.getElem_of_mem hx
  have := h0 t ht
  simpa [List.getD, List.getElem?_eq_getElem ht] using this
 simp [idxR, ha]
theorem idxR_any (p : List Int → Bool) (Z : List (List Int)) : decide (0 ≤ idxR p Z) = Z.any p := by
 unfold idxR
 split
 ·
  rename_i h; rw [h]; simp
 ·
  rename_i h; simp at h ⊢; simpa using h
theorem indexFuncR_any (g : Nat) (cb : Array Value) (r : Option Addr) (cap : Nat) (Z : List (List Int)) (p : List Int → Bool) (w : World) (eg : ∀ args w, (callFunc g args).run Try.prog w = .ok (.enter g args) w) (hZ : IsRows w r cap Z) (hne : Z ≠ [])
  (hf : ∀ (e : Later w) (k : Nat) (ri : Option Addr) (ci : Nat), k < Z.length → IsInts e.w ri ci .i64 (Z.getD k []) → Calls Try.prog g (#[.slice ri (Z.getD k []).length ci] ++ cb) e.w fun a w' => a = .returned (.bool (p (Z.getD k []))) ∧ Below e.w.heap.size e.w w') :
  Calls Try.prog 56 #[.slice r Z.length cap, .func (.func g) #[] cb] w fun e w' => e = .returned (.int .i64 (idxR p Z)) ∧ Below w.heap.size w w' := by
 have HF := H! hf
 have hmax := hZ.max
 have hle := hZ.le
 unfold maxLen at hmax
 obtain ⟨b, off, rfl, hb, hc⟩ := hZ.cells hne
 have HC := H! hc
 clear hc hf hZ hne
 generalize hn : Z.length = n at *
 have HN := H! hn
 clear hn
 go_enter Try.func56, Try.ntmps56
 go_wp2
 go_loopg [8] n (fun kx s8 wr => ∃ (k : Nat) (e : Later w), s8 = .int .i64 k ∧ k ≤ n ∧ n - k ≤ kx ∧ wr = e.w ∧ Hid (∀ t, t < k → p (Z.getD t []) = false))
 case atStart => exact ⟨0, ⟨w, Below.refl _ _⟩, rfl, Nat.zero_le _, by omega, rfl, H! (fun t h => absurd h (Nat.not_lt_zero _))⟩
 case round =>
  obtain ⟨k, e, rfl, hk, hkx, rfl, HP⟩ := hrel
  have hes := e.h.size
  by_cases hlt : k < n
  ·
   obtain ⟨ri, ci, g1, g2⟩ := HC.out k hlt
   have hcell : e.w.cell? ⟨b, off + k, none⟩ = some (.slice ri (Z.getD k []).length ci) := by
    rw [Later.cell e hb]
    exact g1
   have hcall := HF.out e k ri ci hlt (g2.later e.h)
   have HHIT : Hid (p (Z.getD k []) = true → idxR p Z = k) := H! (fun h => idxR_hit (by have := HN.out; omega) HP.out h)
   have HMISS : Hid (p (Z.getD k []) = false → ∀ t, t < k + 1 → p (Z.getD t []) = false) := H! (fun h t ht => by
    by_cases e : t = k
    ·
     subst e; exact h
    ·
     exact HP.out t (by omega))
   clear g1 g2
   generalize Z.getD k [] = row at *
   cases hp : p row <;> rw [hp] at hcall
   ·
    have HQ := H! (HMISS.out hp)
    clear hp
    go_wp2_with (go_at_fn g; refine hcall.mono ?_; rintro a w' ⟨rfl, hb2⟩)
    go_roundg (n - (k + 1))
    case measure => omega
    case rel =>
     obtain ⟨e', rfl⟩ := e.next hb2
     exact ⟨k + 1, e', by go_num, by omega, Nat.le_refl _, rfl, HQ⟩
   ·
    have HQ := H! (HHIT.out hp)
    clear hp
    go_wp2_with (go_at_fn g; refine hcall.mono ?_; rintro a w' ⟨rfl, hb2⟩)
    go_ret
    exact ⟨by rw [HQ.out]; first | done | rfl, by obtain ⟨e', rfl⟩ := e.next hb2; exact e'.h⟩
  ·
   obtain rfl : k = n := by omega
   have HQ := H! (idxR_miss (p := p) (Z := Z) (fun t ht => HP.out t (by have := HN.out; omega)))
   go_wp2
   go_ret
   exact ⟨by rw [HQ.out]; first | done | rfl, e.h⟩
theorem containsFuncR_any (g : Nat) (cb : Array Value) (r : Option Addr) (cap : Nat) (Z : List (List Int)) (p : List Int → Bool) (w : World) (eg : ∀ args w, (callFunc g args).run Try.prog w = .ok (.enter g args) w) (hZ : IsRows w r cap Z) (hne : Z ≠ [])
  (hf : ∀ (e : Later w) (k : Nat) (ri : Option Addr) (ci : Nat), k < Z.length → IsInts e.w ri ci .i64 (Z.getD k []) → Calls Try.prog g (#[.slice ri (Z.getD k []).length ci] ++ cb) e.w fun a w' => a = .returned (.bool (p (Z.getD k []))) ∧ Below e.w.heap.size e.w w') :
  Calls Try.prog 32 #[.slice r Z.length cap, .func (.func g) #[] cb] w fun e w' => e = .returned (.bool (Z.any p)) ∧ Below w.heap.size w w' := by
 have HI := H! (indexFuncR_any g cb r cap Z p w eg hZ hne hf)
 clear hf hZ
 go_enter Try.func32, Try.ntmps32
 go_wp2_with ((go_at_call 56; refine (HI.out).mono ?_; rintro e hb1w ⟨rfl, hb1⟩; obtain ⟨hb1c, hb1f⟩ := bcell hb1; have hb1s := hb1.size; (try simp only [zA] at hb1s); (try (have : w.heap.size < hb1w.heap.size := by omega)); (try (have : w.heap.size + 1 < hb1w.heap.size := by omega)); (try (have : w.heap.size + 1 + 1 < hb1w.heap.size := by omega)); (try (have : w.heap.size + 1 + 1 + 1 < hb1w.heap.size := by omega)); (try (have : bX < hb1w.heap.size := by omega)); (try (have : bY < hb1w.heap.size := by omega)); (try (have : bZ < hb1w.heap.size := by omega))))
 go_ret
 exact ⟨ret_bool (idxR_any p Z), bw⟩
theorem mx2 (a b : Int) : ∃ m : Int, (∀ w, (Builtin.max_ #[3, 3] 3 #[.int .i64 a, .int .i64 b]).run Try.prog w = .ok (.int .i64 m) w) ∧ m = max a b := by
 refine ⟨_, fun _ => rfl, ?_⟩
 split <;> omega
theorem mx3 (a b c : Int) : ∃ m : Int, (∀ w, (Builtin.max_ #[3, 3, 3] 3 #[.int .i64 a, .int .i64 b, .int .i64 c]).run Try.prog w = .ok (.int .i64 m) w) ∧ m = max a (max b c) := by
 refine ⟨_, fun _ => rfl, ?_⟩
 (repeat' split) <;> omega
theorem mx4 (a b c d : Int) : ∃ m : Int, (∀ w, (Builtin.max_ #[3, 3, 3, 3] 3 #[.int .i64 a, .int .i64 b, .int .i64 c, .int .i64 d]).run Try.prog w = .ok (.int .i64 m) w) ∧ m = max a (max b (max c d)) := by
 refine ⟨_, fun _ => rfl, ?_⟩
 (repeat' split) <;> omega
def gC (c : Cv) : Bool := decide ((10 : Int) < max (c.X.length : Int) c.Y.length)
def gR (l : List Int) : Bool := decide ((10 : Int) < l.length)
def gM (m : Mp) : Bool := decide ((10 : Int) < max (m.X.length : Int) (max (m.Y.length : Int) m.Z.length)) || m.Z.any gR
def szG (p : PV) : Bool := decide ((60 : Int) < p.code.length) || (decide ((20 : Int) < p.types.length) || (decide ((20 : Int) < p.curves.length) || (decide ((20 : Int) < p.maps.length) || decide ((60 : Int) < max (p.inputs.length : Int) (max (p.states.length : Int) (max (p.outputs.length : Int) p.initial.length))))))
def greatB (p : PV) : Bool := szG p || (p.curves.any gC || p.maps.any gM)
set_option maxRecDepth 100000 in
theorem g1_any (c : Cv) (w : World) : Calls Try.prog 29 #[.agg #[.slice c.rx c.X.length c.cx, .slice c.ry c.Y.length c.cy]] w fun e w' => e = .returned (.bool (gC c)) ∧ Below w.heap.size w w' := by
 obtain ⟨rx, cx, X, ry, cy, Y⟩ := c
 obtain ⟨m, HM, hm⟩ := mx2 (X.length : Int) (Y.length : Int)
 simp only [gC]
 rw [← hm]
 clear hm
 go_enter Try.func29, Try.ntmps29
 go_wp2
 go_ret
 exact ⟨by first | rfl | (simp; done), bw⟩
set_option maxRecDepth 100000 in
theorem g3_any (r : Option Addr) (l : List Int) (c : Nat) (w : World) : Calls Try.prog 33 #[.slice r l.length c] w fun e w' => e = .returned (.bool (gR l)) ∧ Below w.heap.size w w' := by
 simp only [gR]
 go_enter Try.func33, Try.ntmps33
 go_wp2
 go_ret
 exact ⟨by first | rfl | (simp; done), bw⟩
theorem idx0R (r : Option Addr) (c : Nat) (v : Value) (w : World) : Calls Try.prog 56 #[.slice r 0 c, v] w fun e w' => e = .returned (.int .i64 (-1)) ∧ Below w.heap.size w w' := by
 go_enter Try.func56, Try.ntmps56
 go_wp2
 go_loopg [8] 0 (fun kx s8 wr => s8 = .int .i64 0 ∧ wr = w)
 case atStart => exact ⟨rfl, rfl⟩
 case round =>
  obtain ⟨rfl, rfl⟩ := hrel
  go_wp2
  go_ret
  exact ⟨rfl, bw⟩
theorem has0R (r : Option Addr) (c : Nat) (v : Value) (w : World) : Calls Try.prog 32 #[.slice r 0 c, v] w fun e w' => e = .returned (.bool false) ∧ Below w.heap.size w w' := by
 go_enter Try.func32, Try.ntmps32
 go_wp2_with ((go_at_call 56; refine (idx0R _ _ _ _).mono ?_; rintro e hb1w ⟨rfl, hb1⟩; obtain ⟨hb1c, hb1f⟩ := bcell hb1; have hb1s := hb1.size; (try simp only [zA] at hb1s); (try (have : w.heap.size < hb1w.heap.size := by omega)); (try (have : w.heap.size + 1 < hb1w.heap.size := by omega)); (try (have : w.heap.size + 1 + 1 < hb1w.heap.size := by omega)); (try (have : w.heap.size + 1 + 1 + 1 < hb1w.heap.size := by omega)); (try (have : bX < hb1w.heap.size := by omega)); (try (have : bY < hb1w.heap.size := by omega)); (try (have : bZ < hb1w.heap.size := by omega))))
 go_ret
 exact ⟨by first | rfl | (simp; done), bw⟩
theorem hasR_g (r : Option Addr) (c : Nat) (Z : List (List Int)) (w : World) (hZ : IsRows w r c Z) : Calls Try.prog 32 #[.slice r Z.length c, .func (.func 33) #[] #[]] w fun e w' => e = .returned (.bool (Z.any gR)) ∧ Below w.heap.size w w' := by
 by_cases hne : Z = []
 ·
  subst hne
  exact has0R _ _ _ _
 ·
  exact containsFuncR_any _ _ r c Z gR w (enters_of Try.func33 (by kernel_rfl) rfl) hZ hne (fun e k ri ci hk hI => g3_any ri _ ci e.w)
set_option maxRecDepth 100000 in
theorem g2_any (m : Mp) (w : World) (hm : m.ok w) : Calls Try.prog 31 #[.agg #[.slice m.rx m.X.length m.cx, .slice m.ry m.Y.length m.cy, .slice m.rz m.Z.length m.cz]] w fun e w' => e = .returned (.bool (gM m)) ∧ Below w.heap.size w w' := by
 obtain ⟨rx, cx, X, ry, cy, Y, rz, cz, Z⟩ := m
 have hZ := hm.2.2
 clear hm
 simp only at hZ
 have HZ := H! (fun W (h : Below w.heap.size w W) => hasR_g rz cz Z W (hZ.later h))
 clear hZ
 obtain ⟨m, HM, hm⟩ := mx3 (X.length : Int) (Y.length : Int) (Z.length : Int)
 simp only [gM]
 rw [← hm]
 clear hm
 by_cases h : (10 : Int) < m
 ·
  go_enter Try.func31, Try.ntmps31
  go_wp2
  go_ret
  exact ⟨by first | rfl | (simp [*]; done), bw⟩
 ·
  go_enter Try.func31, Try.ntmps31
  generalize Z.any gR = R at *
  go_wp2_with (go_at_call 32; refine (HZ.out _ bw).mono ?_; rintro _ w1 ⟨rfl, hb1⟩)
  go_ret
  exact ⟨by first | rfl | (simp [*]; done) | (simp; omega), bw⟩
set_option maxRecDepth 100000 in
theorem great_any (p : PV) (w : World) (hp : IsP w p) : Calls Try.prog 9 #[p.val] w fun e w' => e = .returned (.bool (greatB p)) ∧ Below w.heap.size w w' := by
 have HC : Hid (∀ W, Below w.heap.size w W → Calls Try.prog 28 #[.slice p.rv p.curves.length p.cv, .func (.func 29) #[] #[]] W fun e w' => e = .returned (.bool (p.curves.any gC)) ∧ Below W.heap.size W w') := H! (fun W h =>
  has_Curve _ _ p.rv p.cv p.curves gC W (enters_of Try.func29 (by kernel_rfl) rfl) (hp.later h).curves (fun e x hx => g1_any x e.w))
 have HM : Hid (∀ W, Below w.heap.size w W → Calls Try.prog 30 #[.slice p.rm p.maps.length p.cm, .func (.func 31) #[] #[]] W fun e w' => e = .returned (.bool (p.maps.any gM)) ∧ Below W.heap.size W w') := H! (fun W h =>
  has_Map _ _ p.rm p.cm p.maps gM W (enters_of Try.func31 (by kernel_rfl) rfl) (hp.later h).maps (fun e x hx => g2_any x e.w (((hp.later h).mapsG x hx).later e.h)))
 have HG : Hid (greatB p = (szG p || (p.curves.any gC || p.maps.any gM))) := H! rfl
 have HSZ : Hid (szG p = (decide ((60 : Int) < p.code.length) || (decide ((20 : Int) < p.types.length) || (decide ((20 : Int) < p.curves.length) || (decide ((20 : Int) < p.maps.length) || decide ((60 : Int) < max (p.inputs.length : Int) (max (p.states.length : Int) (max (p.outputs.length : Int) p.initial.length)))))))) := H! rfl
 obtain ⟨rc, cc, code, rt, ct, types, rv, cv, curves, rm, cm, maps, cells, ri, ci, inputs, rs, cs, states, ro, co, outputs, rn, cn, initial⟩ := p
 clear hp
 simp only at HC HM HSZ HG
 simp only [PV.val]
 obtain ⟨m, HMX, hm⟩ := mx4 (inputs.length : Int) (states.length : Int) (outputs.length : Int) (initial.length : Int)
 rw [← hm] at HSZ
 clear hm
 generalize greatB _ = G at *
 generalize szG _ = S at *
 generalize curves.any gC = C at *
 generalize maps.any gM = M at *
 rw [HG.out]
 clear HG
 by_cases h0 : (60 : Int) < code.length
 ·
  obtain rfl : S = true := by rw [HSZ.out, decide_eq_true h0]; rfl
  clear HSZ
  go_enter Try.func9, Try.ntmps9
  go_wp2
  go_ret
  exact ⟨rfl, bw⟩
 by_cases h1 : (20 : Int) < types.length
 ·
  obtain rfl : S = true := by rw [HSZ.out, decide_eq_true h1]; simp
  clear HSZ
  go_enter Try.func9, Try.ntmps9
  go_wp2
  go_ret
  exact ⟨rfl, bw⟩
 by_cases h2 : (20 : Int) < curves.length
 ·
  obtain rfl : S = true := by rw [HSZ.out, decide_eq_true h2]; simp
  clear HSZ
  go_enter Try.func9, Try.ntmps9
  go_wp2
  go_ret
  exact ⟨rfl, bw⟩
 by_cases h3 : (20 : Int) < maps.length
 ·
  obtain rfl : S = true := by rw [HSZ.out, decide_eq_true h3]; simp
  clear HSZ
  go_enter Try.func9, Try.ntmps9
  go_wp2
  go_ret
  exact ⟨rfl, bw⟩
 by_cases h4 : (60 : Int) < m
 ·
  obtain rfl : S = true := by rw [HSZ.out, decide_eq_true h4]; simp
  clear HSZ
  go_enter Try.func9, Try.ntmps9
  go_wp2
  go_ret
  exact ⟨rfl, bw⟩
 obtain rfl : S = false := by rw [HSZ.out, decide_eq_false h0, decide_eq_false h1, decide_eq_false h2, decide_eq_false h3, decide_eq_false h4]; rfl
 clear HSZ
 cases C
 ·
  go_enter Try.func9, Try.ntmps9
  go_wp2_with (first | (go_at_call 28; refine (HC.out _ bw).mono ?_; rintro _ w1 ⟨rfl, hb1⟩; obtain ⟨hb1c, hb1f⟩ := bcell hb1; have hb1s := hb1.size; (try simp only [zA] at hb1s); have hx1 : w.heap.size < w1.heap.size := (by omega)) | (go_at_call 30; refine (HM.out _ bw).mono ?_; rintro _ w2 ⟨rfl, hb2⟩))
  go_ret
  exact ⟨by first | rfl | (simp; done), bw⟩
 ·
  go_enter Try.func9, Try.ntmps9
  go_wp2_with (first | (go_at_call 28; refine (HC.out _ bw).mono ?_; rintro _ w1 ⟨rfl, hb1⟩; obtain ⟨hb1c, hb1f⟩ := bcell hb1; have hb1s := hb1.size; (try simp only [zA] at hb1s); have hx1 : w.heap.size < w1.heap.size := (by omega)))
  go_ret
  exact ⟨by first | rfl | (simp; done), bw⟩
theorem flat_bd {α : Type} {f : α → List Int} {m : Nat} {l : List α} (h : ∀ x ∈ l, (f x).length ≤ m) : (l.flatMap f).length ≤ l.length * m := by
 induction l with
 | nil => simp
 | cons x l ih =>
  have h1 := ih (fun y hy => h y (List.mem_cons_of_mem _ hy))
  have h2 := h x (List.mem_cons_self ..)
  rw [List.length_cons, List.flatMap_cons, List.length_append, Nat.succ_mul]
  omega
theorem great_len {p : PV} (h : greatB p = false) : p.p.body.length ≤ 90000 := by
 unfold greatB at h
 simp only [Bool.or_eq_false_iff] at h
 obtain ⟨hz, hc, hm⟩ := h
 unfold szG at hz
 simp only [Bool.or_eq_false_iff, decide_eq_false_iff_not, Int.not_lt, Int.max_le] at hz
 obtain ⟨z0, z1, z2, z3, z4⟩ := hz
 have e1 : (p.code.flatMap Ins.by8).length ≤ p.code.length * 12 := flat_bd (fun i _ => Nat.le_refl 12)
 have e2 : (p.types.flatMap Fx.by8).length ≤ p.types.length * 80 := flat_bd (fun i _ => Nat.le_refl 80)
 have e3 : (p.curves.flatMap (fun c => curveB8 c.p)).length ≤ p.curves.length * 176 := flat_bd (fun c hx => by
  rw [List.any_eq_false] at hc
  have := hc c hx
  unfold gC at this
  simp only [decide_eq_true_eq, Int.not_lt, Int.max_le] at this
  show (list8 c.X ++ list8 c.Y).length ≤ 176
  rw [List.length_append, list8_len, list8_len]
  omega)
 have e4 : (p.maps.flatMap (fun c => mapB8 c.p)).length ≤ p.maps.length * 1056 := flat_bd (fun c hx => by
  rw [List.any_eq_false] at hm
  have := hm c hx
  unfold gM at this
  simp only [Bool.or_eq_true, decide_eq_true_eq, not_or, Int.not_lt, Int.max_le] at this
  obtain ⟨h1, h2⟩ := this
  have h2 := Bool.eq_false_iff.2 h2
  rw [List.any_eq_false] at h2
  have h3 : (c.Z.flatMap list8).length ≤ c.Z.length * 88 := flat_bd (fun l hl => by
   have := h2 l hl
   unfold gR at this
   simp only [decide_eq_true_eq, Int.not_lt] at this
   rw [list8_len]
   omega)
  show (list8 c.X ++ list8 c.Y ++ c.Z.flatMap list8).length ≤ 1056
  rw [List.length_append, List.length_append, list8_len, list8_len]
  omega)
 unfold PP.body PV.p
 simp only [List.length_map]
 rw [flat_curves, flat_maps]
 simp only [List.length_append, num8_len, list8_len]
 omega
def Soft (F G : List (Nat × List Value)) : Prop := F.length = G.length ∧ ∀ (i b : Nat) (l : List Value), F[i]? = some (b, l) → ∃ l', G[i]? = some (b, l') ∧ l.length = l'.length ∧ ∀ (j : Nat) u, l[j]? = some u → l'[j]? = some u ∨ ((∃ a, u = .int .i64 a) ∧ ∃ a, l'[j]? = some (.int .i64 a))
theorem Soft.refl (F : List (Nat × List Value)) : Soft F F := ⟨rfl, fun _ _ l h => ⟨l, h, rfl, fun _ _ h => .inl h⟩⟩
theorem Soft.set {F G : List (Nat × List Value)} (h : Soft F G) {i b j : Nat} {l l' : List Value} {a : Int} (hi : F[i]? = some (b, l)) (hg : G[i]? = some (b, l')) (hj : l[j]? = some (.int .i64 a)) (v : Int) : Soft F (G.set i (b, l'.set j (.int .i64 v))) := by
 refine ⟨by rw [List.length_set]; exact h.1, fun i' b' m hm => ?_⟩
 have hlt : i < G.length := (List.getElem?_eq_some_iff.1 hg).1
 by_cases e : i = i'
 ·
  subst e
  rw [hi] at hm
  obtain ⟨rfl, rfl⟩ : b = b' ∧ l = m := by simpa using hm
  obtain ⟨l2, h1, h2, h3⟩ := h.2 i b l hi
  rw [hg] at h1
  obtain rfl : l' = l2 := by simpa using h1
  refine ⟨l'.set j (.int .i64 v), by rw [List.getElem?_set_self hlt], by rw [List.length_set]; exact h2, fun j' u hu => ?_⟩
  have hjl : j < l'.length := by rw [← h2]; exact (List.getElem?_eq_some_iff.1 hj).1
  by_cases e2 : j = j'
  ·
   subst e2
   rw [hj] at hu
   obtain rfl : Value.int .i64 a = u := by simpa using hu
   exact .inr ⟨⟨a, rfl⟩, v, List.getElem?_set_self hjl⟩
  ·
   rw [List.getElem?_set_ne e2]
   exact h3 j' u hu
 ·
  rw [List.getElem?_set_ne e]
  exact h.2 i' b' m hm
theorem OwnF.seti {D : Nat} {W : World} {G : List (Nat × List Value)} (h : OwnF D W G) {i b j : Nat} {l : List Value} (hg : G[i]? = some (b, l)) (hj : j < l.length) (v : Value) : OwnF D (W.setCell ⟨b, j, none⟩ v) (G.set i (b, l.set j v)) := by
 obtain ⟨hlt, he⟩ := List.getElem?_eq_some_iff.1 hg
 have e : G = G.take i ++ (b, l) :: G.drop (i + 1) := by
  conv => lhs; rw [← List.take_append_drop i G, List.drop_eq_getElem_cons hlt, he]
 have e2 : G.set i (b, l.set j v) = G.take i ++ (b, l.set j v) :: G.drop (i + 1) := List.set_eq_take_append_cons_drop.trans (if_pos hlt)
 rw [e] at h
 rw [e2]
 exact h.set hj v
def SoftW (D : Nat) (F : List (Nat × List Value)) (W : World) : Prop := ∃ G, Soft F G ∧ OwnF D W G
theorem SoftW.of {D : Nat} {F : List (Nat × List Value)} {W : World} (h : OwnF D W F) : SoftW D F W := ⟨F, Soft.refl F, h⟩
theorem SoftW.below {D : Nat} {F : List (Nat × List Value)} {W W' : World} (h : SoftW D F W) (hb : Below W.heap.size W W') : SoftW D F W' := by
 obtain ⟨G, h1, h2⟩ := h
 exact ⟨G, h1, h2.below hb⟩
theorem SoftW.cell {D : Nat} {F : List (Nat × List Value)} {W : World} (h : SoftW D F W) {r : Option Addr} {c n : Nat} {L : List Value} (hs : SlF r c n) (hn : 0 < n) (hF : ∀ p ∈ fr1 r L, p ∈ F) :
  ∃ b, r = some ⟨b, 0, none⟩ ∧ D ≤ b ∧ b < W.heap.size ∧ (∀ (j : Nat) u, L[j]? = some u → (∀ a, u ≠ .int .i64 a) → W.cell? ⟨b, j, none⟩ = some u) ∧
   ∀ (j : Nat) a, L[j]? = some (.int .i64 a) → ∃ a', W.cell? ⟨b, j, none⟩ = some (.int .i64 a') ∧ W.frozen? ⟨b, j, none⟩ = false ∧ ∀ v, SoftW D F (W.setCell ⟨b, j, none⟩ (.int .i64 v)) := by
 cases r with
 | none => have := hs.none_ rfl; omega
 | some ad =>
  obtain ⟨b, rfl⟩ : ∃ b, ad = ⟨b, 0, none⟩ := ⟨ad.block, hs.some_ ad rfl⟩
  obtain ⟨G, h1, h2⟩ := h
  obtain ⟨i, hi⟩ := List.mem_iff_getElem?.1 (hF (b, L) (by simp [fr1]))
  obtain ⟨l', hg, hl, hc⟩ := h1.2 i b L hi
  obtain ⟨h3, h4, h5⟩ := h2.2 (b, l') (List.mem_iff_getElem?.2 ⟨i, hg⟩)
  refine ⟨b, rfl, h3, h4, fun j u hu hne => ?_, fun j a hj => ?_⟩
  ·
   rcases hc j u hu with h6 | ⟨⟨a, h6⟩, _⟩
   ·
    exact (h5 j u h6).1
   ·
    exact absurd h6 (hne a)
  ·
   obtain ⟨a', h6⟩ : ∃ a', l'[j]? = some (.int .i64 a') := by
    rcases hc j _ hj with h6 | ⟨_, a', h6⟩
    ·
     exact ⟨a, h6⟩
    ·
     exact ⟨a', h6⟩
   exact ⟨a', (h5 j _ h6).1, (h5 j _ h6).2, fun v => ⟨_, h1.set hi hg hj v, h2.seti hg (List.getElem?_eq_some_iff.1 h6).1 _⟩⟩
theorem ints_at {xs : List Int} {j : Nat} (hj : j < xs.length) : (xs.map (Value.int .i64))[j]? = some (.int .i64 (xs.getD j 0)) := by
 simp [List.getD, List.getElem?_eq_getElem hj]
end Go.Proofs.Ytfooefiaenlhmaa
