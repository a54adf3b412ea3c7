/- Lemmas for the laws of package magnetolaw15: what its functions return, for any arguments that the lemmas name. -/
import Derived.Test.YtfooefiaenlhmaaGO1
import Derived.Test.YtfooefiaenlhmaaGO13
import Derived.Test.YtfooefiaenlhmaaGO14
import Derived.Deep.RegionHeld3
import Derived.StillTail
import Derived.Deep.RegionLaw
import Derived.Deep.Cut
namespace Go.Proofs.Ytfooefiaenlhmaa
set_option linter.unusedVariables false
set_option linter.unusedSimpArgs false
set_option maxHeartbeats 16000000
open Go.RowKit Go.ChangeShapes Go.WideShapes Go.ChangeAt
section
open Go.Shelf
attribute [local go_sem] Oper.semAt_some
structure KeepT (B Bo : Nat) (W W' : World) : Prop where
 keep : KeepB B Bo W W'
 typ : ∀ (q : Nat) vs t fr, W.heap[q]? = some (Obj.cells vs t fr) → t ≠ 3 → t ≠ 26 → W'.heap[q]? = W.heap[q]?
theorem KeepT.refl (B Bo : Nat) (W : World) : KeepT B Bo W W := ⟨KeepB.refl _ _ _, fun _ _ _ _ _ _ _ => rfl⟩
theorem KeepT.trans {B Bo : Nat} {W W' W'' : World} (h : KeepT B Bo W W') (k : KeepT B Bo W' W'') : KeepT B Bo W W'' :=
 ⟨h.keep.trans k.keep, fun q vs t fr hq h1 h2 => (k.typ q vs t fr ((h.typ q vs t fr hq h1 h2).trans hq) h1 h2).trans (h.typ q vs t fr hq h1 h2)⟩
theorem KeepT.put {B Bo : Nat} (W : World) (l : Nat) (o o' : Obj) (hl : B ≤ l) (h : W.heap[l]? = some o) (ho : o.isCells = false) : KeepT B Bo W (W.putObj l o') :=
 ⟨KeepB.put W l o o' hl h, fun q vs t fr hq _ _ => World.putObj_heap_other (fun e => by subst e; rw [h] at hq; cases hq; cases ho)⟩
theorem KeepT.below {B Bo : Nat} {W W' : World} (hB : B ≤ W.heap.size) (h : Below W.heap.size W W') : KeepT B Bo W W' :=
 ⟨⟨h.mono (Nat.zero_le _), fun q hq _ => h.block q (by omega)⟩, fun q vs t fr hq _ _ => h.block q (Array.getElem?_eq_some_iff.1 hq).1⟩
def Pi (n : Nat) : Type := { k : Nat // k < n }
def piEnc (pl : List Addr) (n : Nat) (x : Pi n) : Array Value := #[.pointer (some (pl.getD x.1 default))]
def piL (n k : Nat) : List (Pi n) := (List.range k).filterMap fun i => if h : i < n then some ⟨i, h⟩ else none
theorem piL_succ {n k : Nat} (h : k < n) : piL n (k + 1) = piL n k ++ [⟨k, h⟩] := by
 unfold piL
 rw [List.range_succ, List.filterMap_append]
 simp only [List.filterMap_cons, List.filterMap_nil, dif_pos h]
theorem piL_len {n k : Nat} (h : k ≤ n) : (piL n k).length = k := by
 induction k with
 | zero => rfl
 | succ k ih => rw [piL_succ (by omega), List.length_append, ih (by omega)]; rfl
theorem drop_cons {α : Type} [Inhabited α] {l : List α} {k : Nat} (h : k < l.length) : l.drop k = l.getD k default :: l.drop (k + 1) := by
 rw [List.drop_eq_getElem_cons h]
 simp [List.getD, List.getElem?_eq_getElem h]
theorem rowPl_cons (r : Option Addr) {s n : Nat} (h : 0 < n) : rowPl r s n = pa r s :: rowPl r (s + 1) (n - 1) := by
 obtain ⟨m, rfl⟩ : ∃ m, n = m + 1 := ⟨n - 1, by omega⟩
 simp [rowPl, List.range'_succ]
theorem pl_at {pl P R : List Addr} {a : Addr} (h : pl = P ++ a :: R) : P.length < pl.length ∧ pl.getD P.length default = a ∧ pl = (P ++ [a]) ++ R := by
 subst h
 refine ⟨by simp, by simp [List.getD], by simp⟩
set_option maxRecDepth 100000 in
theorem places1_in (l B1 B Bo n : Nat) (pl : List Addr) (q : PL) (hn : pl.length = n) (h1 : B1 < B) (h1o : B1 ≠ Bo) (J Jx : List (Pi n) → World → Prop) (W : World) (hBW : B ≤ W.heap.size) (hJa : AbidesFrom W.heap.size J)
  (hY : ∀ pre x W1, J pre W1 → pre.length < n → YieldAt Fence.wide (9 - 1) Try.prog l (piEnc pl n x) W1 fun e W' =>
   (e = .returned (.bool true) ∧ J (pre ++ [x]) W' ∧ KeepT B Bo W1 W') ∨ (e = .returned (.bool false) ∧ Jx (pre ++ [x]) W'))
  (HB : Hid (∀ i v, (PV.enc q.v)[i]? = some v → W.cell? ⟨B1, i, none⟩ = some v)) (HP : Hid (∀ W', KeepB B Bo W W' → IsL W' q)) (HQ0 : Hid (pl = q.places)) (h0 : J [] W) :
  CallsIn Fence.wide 9 Try.prog 91 #[.func (.yield l) #[] #[], .pointer (some ⟨B1, 0, none⟩)] W fun e W' => (∃ v, e = .returned v) ∧
   ((∃ ys, ys = piL n n ∧ J ys W') ∨ (∃ pre, (∃ k, pre = piL n k) ∧ Jx pre W')) := by
 obtain ⟨rc, cc, code, rt, ct, types, rv, cv, curves, rm, cm, maps, cells, ri, ci, inputs, rs, cs, states, ro, co, outputs, rn, cn, initial⟩ := q
 have HQ1 : Hid (pl = [] ++ (codePl rc 0 (code.drop 0) ++ (curves.flatMap Cv.pl ++ maps.flatMap Mr.pl))) := H! (by rw [HQ0.out]; rfl)
 clear HQ0
 have hc0 : W.cell? ⟨B1, 0, none⟩ = some (.slice rc code.length cc) := HB.out 0 _ rfl
 have HC2 : Hid (W.cell? ⟨B1, 2, none⟩ = some (.slice rv curves.length cv)) := H! (HB.out 2 _ rfl)
 have HC3 : Hid (W.cell? ⟨B1, 3, none⟩ = some (.slice rm maps.length cm)) := H! (by have h : W.cell? ⟨B1, 3, none⟩ = some (.slice rm (maps.map Mr.m).length cm) := HB.out 3 _ rfl; rwa [List.length_map] at h)
 clear HB
 have HPc : Hid (∀ W', KeepB B Bo W W' → IsS 5 Ins.enc W' rc cc code) := H! (fun W' h => (HP.out W' h).code)
 have HPv : Hid (∀ W', KeepB B Bo W W' → IsS 2 Cv.enc W' rv cv curves ∧ ∀ x ∈ curves, x.ok W') := H! (fun W' h => ⟨(HP.out W' h).curves, (HP.out W' h).curvesG⟩)
 have HPm : Hid (∀ W', KeepB B Bo W W' → IsS 3 Mr.enc W' rm cm maps ∧ ∀ x ∈ maps, x.ok W') := H! (fun W' h => ⟨(HP.out W' h).maps, (HP.out W' h).mapsG⟩)
 have hmc : code.length ≤ maxLen := Nat.le_trans (HP.out W (KeepB.refl _ _ _)).code.le (HP.out W (KeepB.refl _ _ _)).code.max
 have hmv : curves.length ≤ maxLen := Nat.le_trans (HP.out W (KeepB.refl _ _ _)).curves.le (HP.out W (KeepB.refl _ _ _)).curves.max
 have hmm : maps.length ≤ maxLen := Nat.le_trans (HP.out W (KeepB.refl _ _ _)).maps.le (HP.out W (KeepB.refl _ _ _)).maps.max
 clear HP
 unfold maxLen at hmc hmv hmm
 refine callsIn_of_wp Try.func91 rfl trivial ?_ rfl
 simp only [Try.ntmps91, List.size_toArray, List.length_cons, List.length_nil, Nat.reduceAdd, Nat.reduceSub, Array.replicate_succ, Array.replicate_zero, List.push_toArray, List.append_toArray, List.nil_append, List.cons_append]
 gi_wp2
 gi_loopw [15] (fun s15 wr => ∃ (k : Nat) (P : List Addr), s15 = .int .i64 k ∧ k ≤ code.length ∧ J (piL n P.length) wr ∧ KeepT B Bo W wr ∧ Hid (pl = P ++ (codePl rc k (code.drop k) ++ (curves.flatMap Cv.pl ++ maps.flatMap Mr.pl)))) (fun s15 _ => code.length - (intOf s15).toNat)
 case atStart => exact ⟨0, [], rfl, Nat.zero_le _, h0, KeepT.refl _ _ _, HQ1⟩
 case round =>
  clear HQ1
  obtain ⟨k, P, rfl, hk, hJs, hK, HQ⟩ := hrel
  have hc0 : wr.cell? ⟨B1, 0, none⟩ = some (.slice rc code.length cc) := (hK.keep.cell h1 h1o).trans hc0
  by_cases hlt : k < code.length
  ·
   have hk1 : (0 : Int) ≤ (k : Int) := by omega
   have hk2 : (k : Int) < code.length := by omega
   have hdr := drop_cons hlt
   obtain ⟨bX, off, rfl, hb, hc⟩ := (HPc.out wr hK.keep).at_ hlt
   have hd0 : wr.cell? ⟨bX, off + k * 5, none⟩ = some (.int .i64 (code.getD k default).op) := hc 0 _ rfl
   clear hc
   rw [hdr, codePl] at HQ
   generalize code.getD k default = x at *
   clear hdr
   by_cases hop : x.op = 1
   ·
    rw [if_pos hop] at HQ
    obtain ⟨hpl, hpa, hpn⟩ := pl_at (pl := pl) (P := P) (by rw [HQ.out]; rfl)
    rw [hn] at hpl
    have HQn := H! hpn
    clear HQ hpn
    obtain ⟨fn, tmps, assign, body, hy, hR⟩ := hY (piL n P.length) ⟨P.length, hpl⟩ wr hJs (by rw [piL_len (by omega)]; exact hpl)
    simp only [piEnc] at hy
    rw [hpa] at hy
    simp only [pa] at hy
    rw [← Nat.add_assoc] at hy
    rw [hop] at hd0
    gi_wp2
    refine hR.mono ?_
    rintro e W3 (⟨rfl, hJ3, hk3⟩ | ⟨rfl, hJx3⟩)
    ·
     gi_wp2
     go_roundw
     case rel => exact ⟨k + 1, P ++ [_], by go_num, by omega, by rw [List.length_append, List.length_singleton, piL_succ hpl]; exact hJ3, hK.trans hk3, HQn⟩
     case measure => simp [intOf]; omega
    ·
     gi_wp2
     refine bodyPost_ret (results_none rfl _ _ _) rfl ?_
     exact ⟨⟨_, rfl⟩, .inr ⟨_, ⟨_, (piL_succ hpl).symm⟩, hJx3⟩⟩
   ·
    rw [if_neg hop, List.nil_append] at HQ
    have hop2 : (x.op == 1) = false := by simpa using hop
    gi_wp2
    rename_i K33 hK33 _ _ _ _
    refine ⟨fun f hf => (by cases hf), hK33 _ _ ?_⟩
    gi_wp2
    go_roundw
    case rel => exact ⟨k + 1, P, by go_num, by omega, hJs, hK, HQ⟩
    case measure => simp [intOf]; omega
  ·
   obtain rfl : k = code.length := by omega
   have HQ1 : Hid (pl = P ++ ((curves.drop 0).flatMap Cv.pl ++ maps.flatMap Mr.pl)) := H! (by rw [HQ.out, List.drop_length]; rfl)
   have hc2 : wr.cell? ⟨B1, 2, none⟩ = some (.slice rv curves.length cv) := (hK.keep.cell h1 h1o).trans HC2.out
   clear HQ hc0 hk hlt HPc
   obtain ⟨wA, rfl⟩ : ∃ x, x = wr := ⟨_, rfl⟩
   gi_wp2
   gi_loopw [39] (fun s39 wq => ∃ (k : Nat) (P : List Addr), s39 = .int .i64 k ∧ k ≤ curves.length ∧ J (piL n P.length) wq ∧ KeepT B Bo W wq ∧ Hid (pl = P ++ ((curves.drop k).flatMap Cv.pl ++ maps.flatMap Mr.pl))) (fun s39 _ => curves.length - (intOf s39).toNat)
   case atStart => exact ⟨0, P, rfl, Nat.zero_le _, hJs, hK, HQ1⟩
   case round =>
    clear HQ1 hJs hK hc2
    obtain ⟨k, P, rfl, hk, hJs, hK, HQ⟩ := hrel
    by_cases hlt : k < curves.length
    ·
     have hk1 : (0 : Int) ≤ (k : Int) := by omega
     have hk2 : (k : Int) < curves.length := by omega
     obtain ⟨bX, off, rfl, hb, hc⟩ := (HPv.out wr hK.keep).1.at_ hlt
     have hd0 : wr.cell? ⟨bX, off + k * 2, none⟩ = some (.slice (curves.getD k default).rx (curves.getD k default).X.length (curves.getD k default).cx) := hc 0 _ rfl
     have hd1 : wr.cell? ⟨bX, off + k * 2 + 1, none⟩ = some (.slice (curves.getD k default).ry (curves.getD k default).Y.length (curves.getD k default).cy) := hc 1 _ rfl
     clear hc
     have HY : Hid (∀ W', KeepB B Bo W W' → IsInts W' (curves.getD k default).ry (curves.getD k default).cy .i64 (curves.getD k default).Y) := H! (fun W' h => ((HPv.out W' h).2 _ (getD_mem_of hlt)).2)
     rw [drop_cons hlt, List.flatMap_cons, Cv.pl, List.append_assoc] at HQ
     generalize curves.getD k default = x at *
     obtain ⟨rx, cx, X, ry, cy, Y⟩ := x
     simp only at hd0 hd1 HY HQ
     have hmy : Y.length ≤ maxLen := Nat.le_trans (HY.out wr hK.keep).le (HY.out wr hK.keep).max
     unfold maxLen at hmy
     gi_wp2
     have hJb : J (piL n P.length) (wr.alloc (Obj.cells #[.slice rx X.length cx, .slice ry Y.length cy] 53)) := hJa _ _ _ none hJs (World.grownBy_alloc _ _ none) (fun r e => by cases e)
     have hKb : KeepT B Bo W (wr.alloc (Obj.cells #[.slice rx X.length cx, .slice ry Y.length cy] 53)) := hK.trans (KeepT.below (Nat.le_trans hBW hK.keep.zero.size) ((Below.refl _ _).alloc (Nat.le_refl _) _))
     have HBx : Hid ((wr.alloc (Obj.cells #[.slice rx X.length cx, .slice ry Y.length cy] 53)).heap[wr.heap.size]? = some (Obj.cells #[.slice rx X.length cx, .slice ry Y.length cy] 53 (0, 0))) := H! (heap_alloc_new _ _)
     clear hd0 hd1 hb hJs hK
     generalize wr.alloc (Obj.cells #[.slice rx X.length cx, .slice ry Y.length cy] 53) = wC at *
     generalize wr.heap.size = bC at *
     obtain ⟨wB, rfl⟩ : ∃ x, x = wr := ⟨_, rfl⟩
     gi_loopw [46] (fun sj wq => ∃ (j : Nat) (P : List Addr), sj = .int .i64 j ∧ j ≤ Y.length ∧ J (piL n P.length) wq ∧ KeepT B Bo W wq ∧ Hid (wq.heap[bC]? = some (Obj.cells #[.slice rx X.length cx, .slice ry Y.length cy] 53 (0, 0))) ∧ Hid (pl = P ++ (rowPl ry j (Y.length - j) ++ ((curves.drop (k + 1)).flatMap Cv.pl ++ maps.flatMap Mr.pl)))) (fun sj _ => Y.length - (intOf sj).toNat)
     case atStart => exact ⟨0, P, rfl, Nat.zero_le _, hJb, hKb, HBx, HQ⟩
     case round =>
      clear HQ hJb hKb HBx
      obtain ⟨j, P, rfl, hj, hJs, hK, HBx, HQ⟩ := hrel
      have hbx : wr.cell? ⟨bC, 1, none⟩ = some (.slice ry Y.length cy) := by simp [World.cell?, HBx.out]
      by_cases hjl : j < Y.length
      ·
       have hj1 : (0 : Int) ≤ (j : Int) := by omega
       have hj2 : (j : Int) < Y.length := by omega
       obtain ⟨bY, ofy, rfl, hby, -⟩ := (HY.out wr hK.keep).cells (fun e => by rw [e] at hjl; simp at hjl)
       rw [rowPl_cons _ (by omega)] at HQ
       obtain ⟨hpl, hpa, hpn⟩ := pl_at (pl := pl) (P := P) (by rw [HQ.out]; rfl)
       rw [hn] at hpl
       have HQn : Hid (pl = (P ++ [_]) ++ (rowPl (some ⟨bY, ofy, none⟩) (j + 1) (Y.length - (j + 1)) ++ ((curves.drop (k + 1)).flatMap Cv.pl ++ maps.flatMap Mr.pl))) := H! hpn
       clear HQ hpn
       obtain ⟨fn, tmps, assign, body, hy, hR⟩ := hY (piL n P.length) ⟨P.length, hpl⟩ wr hJs (by rw [piL_len (by omega)]; exact hpl)
       simp only [piEnc] at hy
       rw [hpa] at hy
       simp only [pa] at hy
       gi_wp2
       refine hR.mono ?_
       rintro e W3 (⟨rfl, hJ3, hk3⟩ | ⟨rfl, hJx3⟩)
       ·
        gi_wp2
        go_roundw
        case rel => exact ⟨j + 1, P ++ [_], by go_num, by omega, by rw [List.length_append, List.length_singleton, piL_succ hpl]; exact hJ3, hK.trans hk3, H! ((hk3.typ _ _ _ _ HBx.out (by decide) (by decide)).trans HBx.out), HQn⟩
        case measure => simp [intOf]; omega
       ·
        gi_wp2
        refine bodyPost_ret (results_none rfl _ _ _) rfl ?_
        exact ⟨⟨_, rfl⟩, .inr ⟨_, ⟨_, (piL_succ hpl).symm⟩, hJx3⟩⟩
      ·
       obtain rfl : j = Y.length := by omega
       have HQ1 : Hid (pl = P ++ ((curves.drop (k + 1)).flatMap Cv.pl ++ maps.flatMap Mr.pl)) := H! (by rw [HQ.out, Nat.sub_self]; rfl)
       clear HQ
       gi_wp2
       go_roundw
       case rel => exact ⟨k + 1, P, by go_num, by omega, hJs, hK, HQ1⟩
       case measure => simp [intOf]; omega
    ·
     obtain rfl : k = curves.length := by omega
     have HQ1 : Hid (pl = P ++ ((maps.drop 0).flatMap Mr.pl)) := H! (by rw [HQ.out, List.drop_length]; rfl)
     have hc3 : wr.cell? ⟨B1, 3, none⟩ = some (.slice rm maps.length cm) := (hK.keep.cell h1 h1o).trans HC3.out
     clear HQ hk hlt HPv
     obtain ⟨wA', rfl⟩ : ∃ x, x = wr := ⟨_, rfl⟩
     gi_wp2
     gi_loopw [61] (fun sk wq => ∃ (k : Nat) (P : List Addr), sk = .int .i64 k ∧ k ≤ maps.length ∧ J (piL n P.length) wq ∧ KeepT B Bo W wq ∧ Hid (pl = P ++ ((maps.drop k).flatMap Mr.pl))) (fun sk _ => maps.length - (intOf sk).toNat)
     case atStart => exact ⟨0, P, rfl, Nat.zero_le _, hJs, hK, HQ1⟩
     case round =>
      clear HQ1 hJs hK hc3
      obtain ⟨k, P, rfl, hk, hJs, hK, HQ⟩ := hrel
      by_cases hlt : k < maps.length
      ·
       have hk1 : (0 : Int) ≤ (k : Int) := by omega
       have hk2 : (k : Int) < maps.length := by omega
       obtain ⟨bX, off, rfl, hb, hc⟩ := (HPm.out wr hK.keep).1.at_ hlt
       have hd0 : wr.cell? ⟨bX, off + k * 3, none⟩ = some (.slice (maps.getD k default).rx (maps.getD k default).X.length (maps.getD k default).cx) := hc 0 _ rfl
       have hd1 : wr.cell? ⟨bX, off + k * 3 + 1, none⟩ = some (.slice (maps.getD k default).ry (maps.getD k default).Y.length (maps.getD k default).cy) := hc 1 _ rfl
       have hd2 : wr.cell? ⟨bX, off + k * 3 + 2, none⟩ = some (.slice (maps.getD k default).rz (maps.getD k default).rows.length (maps.getD k default).cz) := hc 2 _ rfl
       clear hc
       have HZ : Hid (∀ W', KeepB B Bo W W' → IsS 1 Rw.enc W' (maps.getD k default).rz (maps.getD k default).cz (maps.getD k default).rows ∧ ∀ x ∈ (maps.getD k default).rows, IsInts W' x.r x.c .i64 x.l) := H! (fun W' h => ((HPm.out W' h).2 _ (getD_mem_of hlt)).2.2)
       rw [drop_cons hlt, List.flatMap_cons, Mr.pl] at HQ
       generalize maps.getD k default = x at *
       obtain ⟨rx, cx, X, ry, cy, Y, rz, cz, rows⟩ := x
       simp only at hd0 hd1 hd2 HZ HQ
       have hmz : rows.length ≤ maxLen := Nat.le_trans (HZ.out wr hK.keep).1.le (HZ.out wr hK.keep).1.max
       unfold maxLen at hmz
       gi_wp2
       have hJb : J (piL n P.length) (wr.alloc (Obj.cells #[.slice rx X.length cx, .slice ry Y.length cy, .slice rz rows.length cz] 55)) := hJa _ _ _ none hJs (World.grownBy_alloc _ _ none) (fun r e => by cases e)
       have hKb : KeepT B Bo W (wr.alloc (Obj.cells #[.slice rx X.length cx, .slice ry Y.length cy, .slice rz rows.length cz] 55)) := hK.trans (KeepT.below (Nat.le_trans hBW hK.keep.zero.size) ((Below.refl _ _).alloc (Nat.le_refl _) _))
       clear hd0 hd1 hd2 hb hJs hK
       generalize wr.alloc (Obj.cells #[.slice rx X.length cx, .slice ry Y.length cy, .slice rz rows.length cz] 55) = wC at *
       generalize wr.heap.size = bC at *
       obtain ⟨wB, rfl⟩ : ∃ x, x = wr := ⟨_, rfl⟩
       gi_loopw [68] (fun sk wq => ∃ (i : Nat) (P : List Addr), sk = .int .i64 i ∧ i ≤ rows.length ∧ J (piL n P.length) wq ∧ KeepT B Bo W wq ∧ Hid (pl = P ++ ((rows.drop i).flatMap Rw.pl ++ (maps.drop (k + 1)).flatMap Mr.pl))) (fun sk _ => rows.length - (intOf sk).toNat)
       case atStart => exact ⟨0, P, rfl, Nat.zero_le _, hJb, hKb, HQ⟩
       case round =>
        clear HQ hJb hKb
        obtain ⟨i, P, rfl, hi, hJb, hKb, HQ⟩ := hrel
        by_cases hil : i < rows.length
        ·
         have hi1 : (0 : Int) ≤ (i : Int) := by omega
         have hi2 : (i : Int) < rows.length := by omega
         obtain ⟨bX, off, rfl, hb, hc⟩ := (HZ.out wr hKb.keep).1.at_ hil
         have hd0 : wr.cell? ⟨bX, off + i, none⟩ = some (.slice (rows.getD i default).r (rows.getD i default).l.length (rows.getD i default).c) := by have := hc 0 _ rfl; rwa [Nat.mul_one, Nat.add_zero] at this
         clear hc
         have HY : Hid (∀ W', KeepB B Bo W W' → IsInts W' (rows.getD i default).r (rows.getD i default).c .i64 (rows.getD i default).l) := H! (fun W' h => (HZ.out W' h).2 _ (getD_mem_of hil))
         rw [drop_cons hil, List.flatMap_cons, Rw.pl, List.append_assoc] at HQ
         generalize rows.getD i default = x at *
         obtain ⟨rl, cl, L⟩ := x
         simp only at hd0 HY HQ
         have hmy : L.length ≤ maxLen := Nat.le_trans (HY.out wr hKb.keep).le (HY.out wr hKb.keep).max
         unfold maxLen at hmy
         gi_wp2
         clear hd0 hb
         obtain ⟨wB, rfl⟩ : ∃ x, x = wr := ⟨_, rfl⟩
         gi_loopw [74] (fun sj wq => ∃ (j : Nat) (P : List Addr), sj = .int .i64 j ∧ j ≤ L.length ∧ J (piL n P.length) wq ∧ KeepT B Bo W wq ∧ Hid (pl = P ++ (rowPl rl j (L.length - j) ++ ((rows.drop (i + 1)).flatMap Rw.pl ++ (maps.drop (k + 1)).flatMap Mr.pl)))) (fun sj _ => L.length - (intOf sj).toNat)
         case atStart => exact ⟨0, P, rfl, Nat.zero_le _, hJb, hKb, HQ⟩
         case round =>
          clear HQ hJb hKb 
          obtain ⟨j, P, rfl, hj, hJs, hK, HQ⟩ := hrel
          by_cases hjl : j < L.length
          ·
           have hj1 : (0 : Int) ≤ (j : Int) := by omega
           have hj2 : (j : Int) < L.length := by omega
           obtain ⟨bY, ofy, rfl, hby, -⟩ := (HY.out wr hK.keep).cells (fun e => by rw [e] at hjl; simp at hjl)
           rw [rowPl_cons _ (by omega)] at HQ
           obtain ⟨hpl, hpa, hpn⟩ := pl_at (pl := pl) (P := P) (by rw [HQ.out]; rfl)
           rw [hn] at hpl
           have HQn : Hid (pl = (P ++ [_]) ++ (rowPl (some ⟨bY, ofy, none⟩) (j + 1) (L.length - (j + 1)) ++ ((rows.drop (i + 1)).flatMap Rw.pl ++ (maps.drop (k + 1)).flatMap Mr.pl))) := H! hpn
           clear HQ hpn
           obtain ⟨fn, tmps, assign, body, hy, hR⟩ := hY (piL n P.length) ⟨P.length, hpl⟩ wr hJs (by rw [piL_len (by omega)]; exact hpl)
           simp only [piEnc] at hy
           rw [hpa] at hy
           simp only [pa] at hy
           gi_wp2
           refine hR.mono ?_
           rintro e W3 (⟨rfl, hJ3, hk3⟩ | ⟨rfl, hJx3⟩)
           ·
            gi_wp2
            go_roundw
            case rel => exact ⟨j + 1, P ++ [_], by go_num, by omega, by rw [List.length_append, List.length_singleton, piL_succ hpl]; exact hJ3, hK.trans hk3, HQn⟩
            case measure => simp [intOf]; omega
           ·
            gi_wp2
            refine bodyPost_ret (results_none rfl _ _ _) rfl ?_
            exact ⟨⟨_, rfl⟩, .inr ⟨_, ⟨_, (piL_succ hpl).symm⟩, hJx3⟩⟩
          ·
           obtain rfl : j = L.length := by omega
           have HQ1 : Hid (pl = P ++ ((rows.drop (i + 1)).flatMap Rw.pl ++ (maps.drop (k + 1)).flatMap Mr.pl)) := H! (by rw [HQ.out, Nat.sub_self]; rfl)
           clear HQ
           gi_wp2
           go_roundw
           case rel => exact ⟨i + 1, P, by go_num, by omega, hJs, hK, HQ1⟩
           case measure => simp [intOf]; omega
        ·
         obtain rfl : i = rows.length := by omega
         have HQ1 : Hid (pl = P ++ ((maps.drop (k + 1)).flatMap Mr.pl)) := H! (by rw [HQ.out, List.drop_length]; rfl)
         clear HQ
         gi_wp2
         go_roundw
         case rel => exact ⟨k + 1, P, by go_num, by omega, hJb, hKb, HQ1⟩
         case measure => simp [intOf]; omega
      ·
       obtain rfl : k = maps.length := by omega
       have HQ1 : P.length = n := by rw [← hn, HQ.out, List.drop_length]; simp
       clear HQ
       gi_wp2
       go_end0
       rw [HQ1] at hJs
       exact ⟨⟨_, rfl⟩, .inl ⟨_, rfl, hJs⟩⟩
end
section
open Go.Shelf
attribute [local go_sem] Oper.semAt_some
set_option maxRecDepth 100000 in
theorem places_in (p : PV) (w : World) : CallsIn Fence.wide 9 Try.prog 51 #[p.val] w fun e w' => e = .returned (.func (.func 91) #[] #[.pointer (some ⟨w.heap.size, 0, none⟩)]) ∧ w' = w.alloc (.cells #[.slice p.rc p.code.length p.cc, .slice p.rt p.types.length p.ct, .slice p.rv p.curves.length p.cv, .slice p.rm p.maps.length p.cm, .int .i64 p.cells, .slice p.ri p.inputs.length p.ci, .slice p.rs p.states.length p.cs, .slice p.ro p.outputs.length p.co, .slice p.rn p.initial.length p.cn] 28) := by
 simp only [PV.val]
 refine callsIn_of_wp Try.func51 rfl trivial ?_ rfl
 simp only [Try.ntmps51, List.size_toArray, List.length_cons, List.length_nil, Nat.reduceAdd, Nat.reduceSub, Array.replicate_succ, Array.replicate_zero, List.push_toArray, List.append_toArray, List.nil_append, List.cons_append]
 gi_wp2
 go_ret
 exact ⟨rfl, rfl⟩
theorem places_seq (B1 Bo n : Nat) (pl : List Addr) (q : PL) (w : World) (hn : pl.length = n) (h1 : B1 < w.heap.size) (h1o : B1 ≠ Bo) (HB : ∀ i v, (PV.enc q.v)[i]? = some v → w.cell? ⟨B1, i, none⟩ = some v) (HP : ∀ W', KeepB w.heap.size Bo w W' → IsL W' q) (hpl : pl = q.places) :
  SeqStopsK Fence.wide 9 Try.prog 91 #[.pointer (some ⟨B1, 0, none⟩)] (piEnc pl n) (KeepT w.heap.size Bo) (fun ys => ys = piL n n) (fun pre => ∃ k, pre = piL n k) n w := by
 intro l J Jx W hW hJ hJx hY h0
 exact places1_in l B1 w.heap.size Bo n pl q hn h1 h1o J Jx W hW.size hJ hY (H! fun i v h => (hW.cell (p := ⟨B1, i, none⟩) h1).trans (HB i v h)) (H! fun W' hk => HP W' ((⟨hW.mono (Nat.zero_le _), fun q hq _ => hW.block q hq⟩ : KeepB w.heap.size Bo w W).trans hk)) (H! hpl) h0
def parI (n : Nat) (xs : List Int) (B Bo : Nat) (pre : List (Pi n)) (W : World) : Prop := ∃ v, Boxed W Bo 26 v ∧ W.ownsRow B 3 1 v pre.length ((pre.map (fun x => xs.getD x.1 0)).map (Value.int .i64)) ∧ True
theorem KeepT.from_below {β : Type} {B Bo D : Nat} {w₀ : World} (hB : B ≤ D) (h0 : B ≤ w₀.heap.size) : OwnFrom D (fun (_ : β) W => KeepT B Bo w₀ W) := fun s X Y row hs hg hr =>
 ⟨ownFrom_keepB hB h0 s X Y row hs.keep hg hr, fun q vs t fr hq h1 h2 => by
  have hX := hs.typ q vs t fr hq h1 h2
  rw [hq] at hX
  have hlt := (Array.getElem?_eq_some_iff.1 hX).1
  rw [hg.block q hlt (fun e => by
   obtain ⟨_, o, ho, hc⟩ := hr q e.symm
   rw [hX] at ho; cases ho; cases hc), hX, hq]⟩
end
open Go
section
variable {P : Program} {md : Region.Mode} {ops : Array Oper} {Q : Exit → Act → World → Prop} {S : World → Prop} {p : Nat → Bool}
def wpHd (P : Program) (md : Region.Mode) (ops : Array Oper) (Q : Exit → Act → World → Prop) (S : World → Prop) (p : Nat → Bool) : Nat → Array Bool → Act → World → Prop
 | 0, listed, a, w => Region.ready md ops listed = [] ∧ Q .normal a w
 | f + 1, listed, a, w => (Region.ready md ops listed = [] → Q .normal a w) ∧
  ∀ i ∈ Region.ready md ops listed, wpOp P ops Q i (fun a' w' => (p i = true → S w') ∧ wpHd P md ops Q S p f (listed.setIfInBounds i true) a' w') a w
theorem wpAny_of_hd : ∀ (f : Nat) (listed : Array Bool) (a : Act) (w : World), wpHd P md ops Q S p f listed a w → wpAny P md ops Q f listed a w
 | 0, _, _, _, h => h
 | f + 1, _, _, _, h => ⟨h.1, fun i hi => wpOp_mono (fun a' w' h' => wpAny_of_hd f _ a' w' h'.2) (h.2 i hi)⟩
theorem wpHd_first {S' : World → Prop} {i : Nat} {oi : Oper} {v : Value} (hi : ops[i]? = some oi) (hsel : ∀ (j : Nat) (o : Oper) cs b, ops[j]? = some o → o.op ≠ .select cs b)
  (hQ : ∀ c a w, Q (.panic c) (a.put oi.dst v) w → Q (.panic c) a w)
  (hpS : p i = true → ∀ w, S' w → S w)
  (hp : ∀ j, j < ops.size → j ≠ i → Region.waitsFor md ops j i = true ∨ ∀ w', (p j = true → S w') → S' w') :
  ∀ (f : Nat) (listed : Array Bool) (a : Act) (w : World),
   (∀ j oj, ops[j]? = some oj → j ≠ i → listed.getD j true = false → (∀ e ∈ oj.after, Region.binds md e = true → e.on ≠ i) → oi.apart ops oj = true) →
   i ∈ Region.ready md ops listed → YieldsIf P ops S' oi v a → S' w →
   wpHd P md ops Q S p f (listed.setIfInBounds i true) (a.put oi.dst v) w → wpHd P md ops Q S p (f + 1) listed a w := by
 intro f
 induction f with
 | zero =>
  intro listed a w _ hr hy hS H
  refine ⟨fun h => (by rw [h] at hr; cases hr), fun j hj => ?_⟩
  by_cases hji : j = i
  ·
   subst hji; exact hy.wpOp hi hS ⟨fun h => hpS h _ hS, H⟩
  ·
   have := ready_mono hj hji
   rw [H.1] at this
   cases this
 | succ f ih =>
  intro listed a w hfree hr hy hS H
  refine ⟨fun h => (by rw [h] at hr; cases hr), fun j hj => ?_⟩
  by_cases hji : j = i
  ·
   subst hji; exact hy.wpOp hi hS ⟨fun h => hpS h _ hS, H⟩
  ·
   have h1 := H.2 j (ready_mono hj hji)
   obtain ⟨hjun, oj, hoj, hall⟩ := mem_ready.1 hj
   have hnot : ∀ e ∈ oj.after, Region.binds md e = true → e.on ≠ i := fun e he hb heq => by
    have h1 := hall e he hb
    rw [heq, getD_both (mem_ready.1 hr).1] at h1
    cases h1
   have hpj : ∀ w', (p j = true → S w') → S' w' := by
    rcases hp j (Array.getElem?_eq_some_iff.1 hoj).1 hji with h | h
    ·
     obtain ⟨o', ho', e, he, hb, hon⟩ := Region.waitsFor_spec h
     have : o' = oj := Option.some.inj (ho'.symm.trans hoj)
     subst this
     exact absurd hon (hnot e he hb)
    ·
     exact h
   have h2 := wpOp_putIf hoj (hfree j oj hoj hji hjun hnot) (fun cs b => hsel i oi cs b hi) (fun cs b => hsel j oj cs b hoj) hQ hy h1
   have hfree' : ∀ k ok, ops[k]? = some ok → k ≠ i → (listed.setIfInBounds j true).getD k true = false →
     (∀ e ∈ ok.after, Region.binds md e = true → e.on ≠ i) → oi.apart ops ok = true := fun k ok hk hki hun hno => by
    refine hfree k ok hk hki ?_ hno
    by_cases hjk : j = k
    ·
     subst hjk; exact hjun
    ·
     rw [getD_set_ne true hjk] at hun; exact hun
   refine wpOp_mono (fun a' w' h3 => ⟨h3.2.1, ih (listed.setIfInBounds j true) a' w' hfree' (ready_mono hr (Ne.symm hji)) h3.1 (hpj w' h3.2.1) ?_⟩) h2
   rw [Array.setIfInBounds_comm _ _ hji]
   exact h3.2.2
def Region.lateB (md : Region.Mode) (ops : Array Oper) (p : Nat → Bool) (i : Nat) : Bool := (List.range ops.size).all fun j => decide (j = i) || p j || Region.waitsFor md ops j i
theorem wpHd_load {l : List Oper} {i : Nat} {oi : Oper} {v : Value} {f : Nat} {listed : Array Bool} {a : Act} {w : World} (hi0 : l[i]? = some oi) (hl : Region.lateB md l.toArray p i = true)
  (hs : Region.noSelect l.toArray = true) (hf : Region.free md l.toArray listed i = true) (hr : (Region.ready md l.toArray listed).contains i = true)
  (hQ : ∀ c a w, Q (.panic c) (a.put oi.dst v) w → Q (.panic c) a w) (hy : YieldsIf P l.toArray S oi v a) (hS : S w)
  (h : wpHd P md l.toArray Q S p f (listed.setIfInBounds i true) (a.put oi.dst v) w) : wpHd P md l.toArray Q S p (f + 1) listed a w :=
 have hi : l.toArray[i]? = some oi := by simpa using hi0
 wpHd_first hi (Region.noSelect_spec hs) hQ (fun _ _ h => h) (fun j hj hji => by
  have := List.all_eq_true.1 hl j (List.mem_range.2 hj)
  simp only [Bool.or_eq_true, decide_eq_true_eq] at this
  rcases this with (h | h) | h
  ·
   exact absurd h hji
  ·
   exact .inr fun w' hw => hw h
  ·
   exact .inl h) f listed a w (Region.free_spec hi hf) (by simpa using hr) hy hS h
theorem wpHd_any {l : List Oper} {i : Nat} {oi : Oper} {v : Value} {f : Nat} {listed : Array Bool} {a : Act} {w : World} (hi0 : l[i]? = some oi) (hl : p i = false)
  (hs : Region.noSelect l.toArray = true) (hf : Region.free md l.toArray listed i = true) (hr : (Region.ready md l.toArray listed).contains i = true)
  (hQ : ∀ c a w, Q (.panic c) (a.put oi.dst v) w → Q (.panic c) a w) (hy : YieldsIf P l.toArray (fun _ => True) oi v a)
  (h : wpHd P md l.toArray Q S p f (listed.setIfInBounds i true) (a.put oi.dst v) w) : wpHd P md l.toArray Q S p (f + 1) listed a w :=
 have hi : l.toArray[i]? = some oi := by simpa using hi0
 wpHd_first (S' := fun _ => True) hi (Region.noSelect_spec hs) hQ (fun h => by rw [hl] at h; cases h) (fun _ _ _ => .inr fun _ _ => trivial) f listed a w (Region.free_spec hi hf) (by simpa using hr) hy trivial h
theorem wpHd_one {l : List Oper} {i : Nat} {o : Oper} {f : Nat} {listed : Array Bool} {a : Act} {w : World} (hi0 : l[i]? = some o) (hr : Region.ready md l.toArray listed = [i])
  (hg : Region.wanted o (yielded l.toArray a.tmps) = true)
  (h : ∀ K : Act → World → Prop, (∀ a' w', (p i = true → S w') → wpHd P md l.toArray Q S p f (listed.setIfInBounds i true) a' w' → K a' w') → o.wp P a w K Q) : wpHd P md l.toArray Q S p (f + 1) listed a w := by
 have hi : l.toArray[i]? = some o := by simpa using hi0
 refine ⟨fun h0 => (by rw [hr] at h0; cases h0), fun j hj => ?_⟩
 rw [hr] at hj
 have hji : j = i := by simpa using hj
 subst hji
 unfold wpOp
 simp only [hi, hg, if_true]
 exact .inl (h _ fun _ _ h1 h2 => ⟨h1, h2⟩)
theorem wpHd_done {listed : Array Bool} {a : Act} {w : World} (hr : Region.ready md ops listed = []) (h : Q .normal a w) : wpHd P md ops Q S p 0 listed a w := ⟨hr, h⟩
theorem wp_region_hd {id : Nat} {a : Act} {w : World} (S : World → Prop) (p : Nat → Bool) (hm : P.follows .mixedOrders = true)
  (h : wpHd P .any ops Q S p ops.size (Array.replicate ops.size false) a w.drew) : (Code.region id ops true).wp P Q a w := wp_region_any hm (wpAny_of_hd _ _ _ _ h)
end
set_option maxRecDepth 100000 in
theorem cloneN_any (r : Option Addr) (cap : Nat) (xs : List Int) (w : World) (hx : IsInts w r cap .i64 xs) (hl : xs.length ≤ 1099511627776) : Calls Try.prog 89 #[.slice r xs.length cap] w fun e w' => ∃ r' cap', e = .returned (.slice r' xs.length cap') ∧ OwnK .i64 3 w' w.heap.size r' cap' xs ∧ Below w.heap.size w w' := by
 cases r with
 | none =>
  have hy : xs = [] := by
   rcases Classical.em (xs = []) with h | h
   ·
    exact h
   ·
    obtain ⟨b, off, h1, _⟩ := hx.cells h
    cases h1
  subst hy
  clear hx
  have hq : ∀ w, (binOp .eql 26 (.slice none 0 cap) (.slice none 0 0)).run Try.prog w = .ok (.bool true) w := fun w => run_eqlN Try.underlying26 _ _ _ w
  go_enter Try.func89, Try.ntmps89
  go_wp2
  go_ret
  exact ⟨none, 0, rfl, OwnK.nil _ _, bw⟩
 | some ad =>
  have HX : Hid (∀ w', Below w.heap.size w w' → IsInts w' (some ad) cap .i64 xs) := H! (fun _ h => hx.later h)
  clear hx
  have HE : Hid (OwnK .i64 3 (w.alloc (.cells #[] 3)) w.heap.size (some ⟨w.heap.size, 0, none⟩) 0 []) := H! ⟨by simp, Or.inr ⟨w.heap.size, 0, #[], rfl, Nat.le_refl _, heap_alloc_new w _, by simp, by simp [maxLen], by simp, by simp⟩⟩
  have hq : ∀ w, (binOp .eql 26 (.slice (some ad) xs.length cap) (.slice none 0 0)).run Try.prog w = .ok (.bool false) w := fun w => run_eqlN Try.underlying26 _ _ _ w
  go_enter Try.func89, Try.ntmps89
  go_wp2_with (at_builtin; refine wpList_append_ks Try.underlying26 infoI64 rfl (by omega) (by rfl) _ _ (by rfl) w.heap.size (some ⟨w.heap.size, 0, none⟩) (some ad) 0 cap [] xs (by rfl) (by rfl) HE.out (HX.out _ bw) (by simpa using hl) (by go_size) ?_; intro r' cap' w1 hown1 hbw1; have HO1 := H! hown1; clear hown1)
  go_ret
  have hO := HO1.out
  rw [List.nil_append] at hO
  exact ⟨r', cap', rfl, hO, Below.trans ((Below.refl _ w).alloc (Nat.le_refl _) _) hbw1⟩
section
open Go.Deep
structure PL.Sm (p : PL) : Prop where
 code : p.code.length ≤ 10000000000
 types : p.types.length ≤ 10000000000
 curves : p.curves.length ≤ 10000000000
 curvesG : ∀ c ∈ p.curves, c.X.length ≤ 10000000000 ∧ c.Y.length ≤ 10000000000
 maps : p.maps.length ≤ 10000000000
 mapsG : ∀ m ∈ p.maps, m.X.length ≤ 10000000000 ∧ m.Y.length ≤ 10000000000 ∧ m.rows.length ≤ 10000000000 ∧ ∀ x ∈ m.rows, x.l.length ≤ 10000000000
 inputs : p.inputs.length ≤ 10000000000
 states : p.states.length ≤ 10000000000
 outputs : p.outputs.length ≤ 10000000000
 initial : p.initial.length ≤ 10000000000
theorem flat_mem_len {α β : Type} {f : α → List β} {l : List α} {x : α} (h : x ∈ l) : (f x).length ≤ (l.flatMap f).length := by
 induction l with
 | nil => simp at h
 | cons y l ih =>
  rw [List.flatMap_cons, List.length_append]
  rcases List.mem_cons.1 h with rfl | h
  ·
   omega
  ·
   have := ih h; omega
theorem flatl_ge {α β : Type} {f : α → List β} (hf : ∀ x, 1 ≤ (f x).length) (l : List α) : l.length ≤ (l.flatMap f).length := by
 induction l with
 | nil => simp
 | cons y l ih =>
  rw [List.flatMap_cons, List.length_append, List.length_cons]
  have := hf y
  omega
theorem PL.sm {p : PL} (h : p.v.p.body.length ≤ 10000000000) : p.Sm := by
 have e : p.v.p.body = num8 p.code.length ++ p.code.flatMap Ins.by8 ++ num8 p.types.length ++ p.types.flatMap Fx.by8 ++ num8 p.curves.length ++ p.curves.flatMap (fun c => curveB8 c.p) ++ num8 p.maps.length ++ p.maps.flatMap (fun m => mapB8 m.m.p) ++ num8 p.cells ++ list8 p.inputs ++ list8 p.states ++ list8 p.outputs ++ list8 p.initial := by
  unfold PP.body PV.p PL.v
  simp only [List.length_map]
  rw [flat_curves, flat_maps, List.flatMap_map]
 rw [e] at h
 simp only [List.length_append, num8_len, list8_len] at h
 have h1 := flatl_ge (f := Ins.by8) (fun x => by show 1 ≤ (encI _ _ _ _ _).length; rw [encI_len]; omega) p.code
 have h2 := flatl_ge (f := Fx.by8) (fun x => by unfold Fx.by8 nums8 Fx.nums; simp [num8_len]) p.types
 have h3 := flatl_ge (f := fun c : Cv => curveB8 c.p) (fun x => by unfold curveB8; rw [List.length_append, list8_len]; omega) p.curves
 have h4 := flatl_ge (f := fun m : Mr => mapB8 m.m.p) (fun x => by unfold mapB8; rw [List.length_append, List.length_append, list8_len]; omega) p.maps
 refine ⟨by omega, by omega, by omega, fun c hc => ?_, by omega, fun m hm => ?_, by omega, by omega, by omega, by omega⟩
 ·
  have h5 := flat_mem_len (f := fun c : Cv => curveB8 c.p) hc
  unfold curveB8 at h5
  rw [List.length_append, list8_len, list8_len] at h5
  have h6 : c.p.1 = c.X := rfl
  have h7 : c.p.2 = c.Y := rfl
  rw [h6, h7] at h5
  have h8 : (p.curves.flatMap fun c => list8 c.p.fst ++ list8 c.p.snd).length = (p.curves.flatMap fun c => curveB8 c.p).length := rfl
  omega
 ·
  have h5 := flat_mem_len (f := fun m : Mr => mapB8 m.m.p) hm
  have h8 : (mapB8 m.m.p).length = 8 + 8 * m.X.length + (8 + 8 * m.Y.length) + ((m.rows.map Rw.l).flatMap list8).length := by
   unfold mapB8
   rw [List.length_append, List.length_append, list8_len, list8_len]
   rfl
  have h9 := flatl_ge (f := list8) (fun x => by rw [list8_len]; omega) (m.rows.map Rw.l)
  rw [List.length_map] at h9
  refine ⟨by omega, by omega, by omega, fun x hx => ?_⟩
  have h10 := flat_mem_len (f := list8) (List.mem_map_of_mem (f := Rw.l) hx)
  rw [list8_len] at h10
  omega
def Cl (w w' : World) (r : Option Addr) (c n : Nat) (cells : List Value) : Prop := SlF r c n ∧ OwnF w.heap.size w' (fr1 r cells)
theorem Cl.ofK {w w' : World} {r : Option Addr} {c : Nat} {xs : List Int} (h : OwnK .i64 3 w' w.heap.size r c xs) : Cl w w' r c xs.length (xs.map (Value.int .i64)) := ⟨(ownK_fr h).1, OwnF.fr (ownK_fr h).2⟩
theorem Cl.ofR {α : Type} {t : TypeId} {sz : Nat} {enc : α → List Value} (henc : ∀ x, (enc x).length = sz) {w w' : World} {r : Option Addr} {c : Nat} {xs : List α} (h : OwnR t sz enc w' w.heap.size r c xs) : Cl w w' r c xs.length (xs.flatMap enc) := ⟨(ownR_fr henc h).1, OwnF.fr (ownR_fr henc h).2⟩
theorem clN_any (r : Option Addr) (cap : Nat) (xs : List Int) (w : World) (hx : IsInts w r cap .i64 xs) (hl : xs.length ≤ 10000000000) : Calls Try.prog 89 #[.slice r xs.length cap] w fun e w' => ∃ r' cap', e = .returned (.slice r' xs.length cap') ∧ Cl w w' r' cap' xs.length (xs.map (Value.int .i64)) ∧ Below w.heap.size w w' :=
 (cloneN_any r cap xs w hx (by omega)).mono fun _ _ ⟨r', c', h1, h2, h3⟩ => ⟨r', c', h1, Cl.ofK h2, h3⟩
theorem clIns_any (r : Option Addr) (cap : Nat) (xs : List Ins) (w : World) (hx : IsS 5 Ins.enc w r cap xs) (hl : xs.length ≤ 10000000000) : Calls Try.prog 85 #[.slice r xs.length cap] w fun e w' => ∃ r' cap', e = .returned (.slice r' xs.length cap') ∧ Cl w w' r' cap' xs.length (xs.flatMap Ins.enc) ∧ Below w.heap.size w w' :=
 (cloneIns_any r cap xs w hx (by omega)).mono fun _ _ ⟨r', c', h1, h2, h3⟩ => ⟨r', c', h1, Cl.ofR (enc := Ins.enc) (fun _ => rfl) h2, h3⟩
theorem clFx_any (r : Option Addr) (cap : Nat) (xs : List Fx) (w : World) (hx : IsS 10 Fx.enc w r cap xs) (hl : xs.length ≤ 10000000000) : Calls Try.prog 86 #[.slice r xs.length cap] w fun e w' => ∃ r' cap', e = .returned (.slice r' xs.length cap') ∧ Cl w w' r' cap' xs.length (xs.flatMap Fx.enc) ∧ Below w.heap.size w w' :=
 (cloneFx_any r cap xs w hx (by omega)).mono fun _ _ ⟨r', c', h1, h2, h3⟩ => ⟨r', c', h1, Cl.ofR (enc := Fx.enc) (fun _ => rfl) h2, h3⟩
theorem clCv_any (r : Option Addr) (cap : Nat) (xs : List Cv) (w : World) (hx : IsS 2 Cv.enc w r cap xs) (hl : xs.length ≤ 10000000000) : Calls Try.prog 87 #[.slice r xs.length cap] w fun e w' => ∃ r' cap', e = .returned (.slice r' xs.length cap') ∧ Cl w w' r' cap' xs.length (xs.flatMap Cv.enc) ∧ Below w.heap.size w w' :=
 (cloneCv_any r cap xs w hx (by omega)).mono fun _ _ ⟨r', c', h1, h2, h3⟩ => ⟨r', c', h1, Cl.ofR (enc := Cv.enc) (fun _ => rfl) h2, h3⟩
theorem clMq_any (r : Option Addr) (cap : Nat) (xs : List Mr) (w : World) (hx : IsS 3 Mr.enc w r cap xs) (hl : xs.length ≤ 10000000000) : Calls Try.prog 88 #[.slice r xs.length cap] w fun e w' => ∃ r' cap', e = .returned (.slice r' xs.length cap') ∧ Cl w w' r' cap' xs.length (xs.flatMap Mr.enc) ∧ Below w.heap.size w w' := by
 have h := cloneMp_any r cap (xs.map Mr.m) w ((isS_map Mr.enc_m).1 hx) (by rw [List.length_map]; omega)
 rw [List.length_map] at h
 refine h.mono fun _ _ ⟨r', c', h1, h2, h3⟩ => ⟨r', c', h1, ?_, h3⟩
 have h4 := Cl.ofR (enc := Mp.enc) (fun _ => rfl) h2
 rwa [List.length_map, mq_flat] at h4
theorem clRw_any (r : Option Addr) (cap : Nat) (xs : List Rw) (w : World) (hx : IsS 1 Rw.enc w r cap xs) (hl : xs.length ≤ 10000000000) : Calls Try.prog 90 #[.slice r xs.length cap] w fun e w' => ∃ r' cap', e = .returned (.slice r' xs.length cap') ∧ Cl w w' r' cap' xs.length (xs.flatMap Rw.enc) ∧ Below w.heap.size w w' :=
 (cloneRw_any r cap xs w hx (by omega)).mono fun _ _ ⟨r', c', h1, h2, h3⟩ => ⟨r', c', h1, Cl.ofR (enc := Rw.enc) (fun _ => rfl) h2, h3⟩
section
variable {α : Type} {enc : α → List Value} {sz : Nat}
theorem flat_mid (henc : ∀ x, (enc x).length = sz) (done todo : List α) (c : α) {j : Nat} {u : Value} (hj : (enc c)[j]? = some u) : ((done ++ c :: todo).flatMap enc)[done.length * sz + j]? = some u := by
 refine flatE_at henc (i := done.length) (x := c) ?_ hj
 simp
theorem flat_set (henc : ∀ x, (enc x).length = sz) (done todo : List α) (c : α) (j : Nat) (hj : j < sz) (v : Value) : ((done ++ c :: todo).flatMap enc).set (done.length * sz + j) v = done.flatMap enc ++ ((enc c).set j v ++ todo.flatMap enc) := by
 rw [List.flatMap_append, List.flatMap_cons, List.set_append_right (h := by rw [flat_len henc]; omega), flat_len henc, Nat.add_sub_cancel_left, List.set_append_left (h := by rw [henc]; exact hj)]
theorem flat_set' (henc : ∀ x, (enc x).length = sz) (done : List α) (A B : List Value) (j : Nat) (hj : j < A.length) (v : Value) : (done.flatMap enc ++ (A ++ B)).set (done.length * sz + j) v = done.flatMap enc ++ (A.set j v ++ B) := by
 rw [List.set_append_right (h := by rw [flat_len henc]; omega), flat_len henc, Nat.add_sub_cancel_left, List.set_append_left (h := hj)]
end
end
open Classical in
theorem OwnF.cnt {D : Nat} {W : World} {F F' : List (Nat × List Value)} (h : OwnF D W F) (hc : ∀ x, F.count x = F'.count x) : OwnF D W F' := h.perm (List.perm_iff_count.2 hc)
theorem drop_cons' {α : Type} [Inhabited α] {l : List α} {k : Nat} (h : k < l.length) : l.drop k = l.getD k default :: l.drop (k + 1) := by
 rw [List.drop_eq_getElem_cons h]
 simp [List.getD, List.getElem?_eq_getElem h]
theorem take_snoc {α : Type} [Inhabited α] {l : List α} {k : Nat} (h : k < l.length) : l.take (k + 1) = l.take k ++ [l.getD k default] := by
 rw [List.take_add_one, List.getElem?_eq_getElem h]
 simp [List.getD, List.getElem?_eq_getElem h]
theorem OwnF.setoff {D : Nat} {W : World} {F : List (Nat × List Value)} (h : OwnF D W F) {b : Nat} (hb : ∀ p ∈ F, p.1 ≠ b) (j : Nat) (v : Value) : OwnF D (W.setCell ⟨b, j, none⟩ v) F :=
 ⟨h.1, fun p hp => ⟨(h.2 p hp).1, by rw [zS]; exact (h.2 p hp).2.1, (h.2 p hp).2.2.keep (Below.heap_setCell _ _ _ _ (hb p hp))⟩⟩
theorem SlF.at_ {r : Option Addr} {c n : Nat} (h : SlF r c n) (hn : 0 < n) : ∃ b, r = some ⟨b, 0, none⟩ := by
 cases r with
 | none => have := h.none_ rfl; omega
 | some a => exact ⟨a.block, by rw [← h.some_ a rfl]⟩
theorem cv_step {D : Nat} {W W1 W2 : World} {b : Nat} {T : List (Nat × List Value)} {done todo : List Cv} {c : Cv} {r1 r2 : Option Addr} {c1 c2 : Nat} (h : OwnF D W (fr1 (some ⟨b, 0, none⟩) ((done ++ c :: todo).flatMap Cv.enc) ++ (T ++ done.flatMap Cv.frag))) (hD : D ≤ W.heap.size)
  (hb1 : Below W.heap.size W W1) (h1 : OwnF W.heap.size W1 (fr1 r1 (c.X.map (Value.int .i64)))) (hb2 : Below W1.heap.size W1 W2) (h2 : OwnF W1.heap.size W2 (fr1 r2 (c.Y.map (Value.int .i64)))) :
  OwnF D ((W2.setCell ⟨b, done.length * 2, none⟩ (.slice r1 c.X.length c1)).setCell ⟨b, done.length * 2 + 1, none⟩ (.slice r2 c.Y.length c2)) (fr1 (some ⟨b, 0, none⟩) (((done ++ [(⟨r1, c1, c.X, r2, c2, c.Y⟩ : Cv)]) ++ todo).flatMap Cv.enc) ++ (T ++ (done ++ [(⟨r1, c1, c.X, r2, c2, c.Y⟩ : Cv)]).flatMap Cv.frag)) := by
 have h3 := (h.addF hb1 hD h1).addF hb2 (Nat.le_trans hD hb1.size) h2
 have hl : ((done ++ c :: todo).flatMap Cv.enc).length = (done.length + (todo.length + 1)) * 2 := by rw [flat_len (sz := 2) (fun _ => rfl)]; simp
 have hfb : ∀ l, fr1 (some ⟨b, 0, none⟩) l = [(b, l)] := fun _ => rfl
 simp only [hfb, List.cons_append, List.nil_append] at h3 ⊢
 have h4 := OwnF.set (F1 := []) (i := done.length * 2) h3 (by rw [hl]; omega) (.slice r1 c.X.length c1)
 have h5 := OwnF.set (F1 := []) (i := done.length * 2 + 1) h4 (by rw [List.length_set, hl]; omega) (.slice r2 c.Y.length c2)
 have e1 := flat_set (enc := Cv.enc) (sz := 2) (fun _ => rfl) done todo c 0 (by omega) (.slice r1 c.X.length c1)
 rw [Nat.add_zero] at e1
 have e2 := flat_set' (enc := Cv.enc) (sz := 2) (fun _ => rfl) done ((Cv.enc c).set 0 (.slice r1 c.X.length c1)) (todo.flatMap Cv.enc) 1 (by simp [Cv.enc]) (.slice r2 c.Y.length c2)
 rw [e1, e2] at h5
 have e3 : done.flatMap Cv.enc ++ (((Cv.enc c).set 0 (.slice r1 c.X.length c1)).set 1 (.slice r2 c.Y.length c2) ++ todo.flatMap Cv.enc) = ((done ++ [(⟨r1, c1, c.X, r2, c2, c.Y⟩ : Cv)]) ++ todo).flatMap Cv.enc := by
  simp [Cv.enc]
 rw [e3] at h5
 refine h5.cnt (fun x => ?_)
 simp only [List.nil_append, List.count_append, List.count_cons, List.flatMap_append, List.flatMap_cons, List.flatMap_nil, List.append_nil, Cv.frag]
 omega
structure LpI {α β : Type} (enc : α → List Value) (frag : α → List (Nat × List Value)) (pp : α → β) (sl : α → Prop) (D : Nat) (W : World) (r : Option Addr) (T : List (Nat × List Value)) (l : List α) (k : Nat) (done : List α) : Prop where
 own : OwnF D W (fr1 r ((done ++ l.drop k).flatMap enc) ++ (T ++ done.flatMap frag))
 len : done.length = k
 same : done.map pp = (l.take k).map pp
 good : ∀ x ∈ done, sl x
theorem LpI.snoc {α β : Type} [Inhabited α] {enc : α → List Value} {frag : α → List (Nat × List Value)} {pp : α → β} {sl : α → Prop} {D : Nat} {W W' : World} {r : Option Addr} {T : List (Nat × List Value)} {l : List α} {k : Nat} {done : List α} (h : LpI enc frag pp sl D W r T l k done) {c x : α}
  (ht : l.take (k + 1) = l.take k ++ [c]) (ho : OwnF D W' (fr1 r (((done ++ [x]) ++ l.drop (k + 1)).flatMap enc) ++ (T ++ (done ++ [x]).flatMap frag))) (hp : pp x = pp c) (hs : sl x) : LpI enc frag pp sl D W' r T l (k + 1) (done ++ [x]) :=
 ⟨ho, by rw [List.length_append, h.len]; rfl, by rw [ht, List.map_append, List.map_append, h.same, List.map_cons, List.map_cons, hp], fun y hy => by
  rcases List.mem_append.1 hy with hy | hy
  ·
   exact h.good y hy
  ·
   obtain rfl : y = x := by simpa using hy
   exact hs⟩
theorem rw_step {D : Nat} {W W1 : World} {b : Nat} {T : List (Nat × List Value)} {done todo : List Rw} {x : Rw} {r1 : Option Addr} {c1 : Nat} (h : OwnF D W (fr1 (some ⟨b, 0, none⟩) ((done ++ x :: todo).flatMap Rw.enc) ++ (T ++ done.flatMap Rw.frag))) (hD : D ≤ W.heap.size)
  (hb1 : Below W.heap.size W W1) (h1 : OwnF W.heap.size W1 (fr1 r1 (x.l.map (Value.int .i64)))) :
  OwnF D (W1.setCell ⟨b, done.length, none⟩ (.slice r1 x.l.length c1)) (fr1 (some ⟨b, 0, none⟩) (((done ++ [(⟨r1, c1, x.l⟩ : Rw)]) ++ todo).flatMap Rw.enc) ++ (T ++ (done ++ [(⟨r1, c1, x.l⟩ : Rw)]).flatMap Rw.frag)) := by
 have h3 := h.addF hb1 hD h1
 have hl : ((done ++ x :: todo).flatMap Rw.enc).length = done.length + (todo.length + 1) := by rw [flat_len (sz := 1) (fun _ => rfl)]; simp
 have hfb : ∀ l, fr1 (some ⟨b, 0, none⟩) l = [(b, l)] := fun _ => rfl
 simp only [hfb, List.cons_append, List.nil_append] at h3 ⊢
 have h4 := OwnF.set (F1 := []) (i := done.length) h3 (by rw [hl]; omega) (.slice r1 x.l.length c1)
 have e1 := flat_set (enc := Rw.enc) (sz := 1) (fun _ => rfl) done todo x 0 (by omega) (.slice r1 x.l.length c1)
 rw [Nat.add_zero, Nat.mul_one] at e1
 rw [e1] at h4
 have e3 : done.flatMap Rw.enc ++ ((Rw.enc x).set 0 (.slice r1 x.l.length c1) ++ todo.flatMap Rw.enc) = ((done ++ [(⟨r1, c1, x.l⟩ : Rw)]) ++ todo).flatMap Rw.enc := by
  simp [Rw.enc]
 rw [e3] at h4
 refine h4.cnt (fun x => ?_)
 simp only [List.nil_append, List.count_append, List.count_cons, List.flatMap_append, List.flatMap_cons, List.flatMap_nil, List.append_nil, Rw.frag]
 omega
theorem mp_step {D : Nat} {W W1 W2 : World} {b : Nat} {T : List (Nat × List Value)} {done todo : List Mr} {m : Mr} {rows : List Rw} {r1 r2 r3 : Option Addr} {c1 c2 c3 : Nat} {bx : Nat × List Value} (h : OwnF D W (fr1 r3 (rows.flatMap Rw.enc) ++ ((bx :: (fr1 (some ⟨b, 0, none⟩) ((done ++ m :: todo).flatMap Mr.enc) ++ (T ++ done.flatMap Mr.frag))) ++ rows.flatMap Rw.frag))) (hD : D ≤ W.heap.size)
  (hb1 : Below W.heap.size W W1) (h1 : OwnF W.heap.size W1 (fr1 r1 (m.X.map (Value.int .i64)))) (hb2 : Below W1.heap.size W1 W2) (h2 : OwnF W1.heap.size W2 (fr1 r2 (m.Y.map (Value.int .i64)))) :
  OwnF D (((W2.setCell ⟨b, done.length * 3, none⟩ (.slice r1 m.X.length c1)).setCell ⟨b, done.length * 3 + 1, none⟩ (.slice r2 m.Y.length c2)).setCell ⟨b, done.length * 3 + 2, none⟩ (.slice r3 rows.length c3)) (fr1 (some ⟨b, 0, none⟩) (((done ++ [(⟨r1, c1, m.X, r2, c2, m.Y, r3, c3, rows⟩ : Mr)]) ++ todo).flatMap Mr.enc) ++ (T ++ (done ++ [(⟨r1, c1, m.X, r2, c2, m.Y, r3, c3, rows⟩ : Mr)]).flatMap Mr.frag)) := by
 have h3 := (h.addF hb1 hD h1).addF hb2 (Nat.le_trans hD hb1.size) h2
 have hl : ((done ++ m :: todo).flatMap Mr.enc).length = (done.length + (todo.length + 1)) * 3 := by rw [flat_len (sz := 3) (fun _ => rfl)]; simp
 have hfb : ∀ l, fr1 (some ⟨b, 0, none⟩) l = [(b, l)] := fun _ => rfl
 have h3' : OwnF D W2 ((b, (done ++ m :: todo).flatMap Mr.enc) :: (bx :: (T ++ done.flatMap Mr.frag ++ (fr1 r1 (m.X.map (Value.int .i64)) ++ (fr1 r2 (m.Y.map (Value.int .i64)) ++ (fr1 r3 (rows.flatMap Rw.enc) ++ rows.flatMap Rw.frag)))))) := h3.cnt (fun x => by
  simp only [hfb, List.nil_append, List.count_append, List.count_cons, List.count_nil]
  omega)
 have h3'' := h3'.sub (F' := (b, (done ++ m :: todo).flatMap Mr.enc) :: (T ++ done.flatMap Mr.frag ++ (fr1 r1 (m.X.map (Value.int .i64)) ++ (fr1 r2 (m.Y.map (Value.int .i64)) ++ (fr1 r3 (rows.flatMap Rw.enc) ++ rows.flatMap Rw.frag))))) ((List.sublist_cons_self _ _).cons_cons _)
 have h4 := OwnF.set (F1 := []) (i := done.length * 3) h3'' (by rw [hl]; omega) (.slice r1 m.X.length c1)
 have h5 := OwnF.set (F1 := []) (i := done.length * 3 + 1) h4 (by rw [List.length_set, hl]; omega) (.slice r2 m.Y.length c2)
 have h6 := OwnF.set (F1 := []) (i := done.length * 3 + 2) h5 (by rw [List.length_set, List.length_set, hl]; omega) (.slice r3 rows.length c3)
 have e1 := flat_set (enc := Mr.enc) (sz := 3) (fun _ => rfl) done todo m 0 (by omega) (.slice r1 m.X.length c1)
 rw [Nat.add_zero] at e1
 have e2 := flat_set' (enc := Mr.enc) (sz := 3) (fun _ => rfl) done ((Mr.enc m).set 0 (.slice r1 m.X.length c1)) (todo.flatMap Mr.enc) 1 (by simp [Mr.enc]) (.slice r2 m.Y.length c2)
 have e3 := flat_set' (enc := Mr.enc) (sz := 3) (fun _ => rfl) done (((Mr.enc m).set 0 (.slice r1 m.X.length c1)).set 1 (.slice r2 m.Y.length c2)) (todo.flatMap Mr.enc) 2 (by simp [Mr.enc]) (.slice r3 rows.length c3)
 rw [e1, e2, e3] at h6
 have e4 : done.flatMap Mr.enc ++ ((((Mr.enc m).set 0 (.slice r1 m.X.length c1)).set 1 (.slice r2 m.Y.length c2)).set 2 (.slice r3 rows.length c3) ++ todo.flatMap Mr.enc) = ((done ++ [(⟨r1, c1, m.X, r2, c2, m.Y, r3, c3, rows⟩ : Mr)]) ++ todo).flatMap Mr.enc := by
  simp [Mr.enc]
 rw [e4] at h6
 refine h6.cnt (fun x => ?_)
 simp only [hfb, List.nil_append, List.cons_append, List.count_append, List.count_cons, List.count_nil, List.flatMap_append, List.flatMap_cons, List.flatMap_nil, List.append_nil, Mr.frag]
 omega
set_option maxRecDepth 100000 in
theorem icopied_any (p : PL) (w : World) (hp : IsL w p) (hs : p.Sm) : Calls Try.prog 50 #[p.v.val] w fun e w' => ∃ q : PL, e = .returned q.v.val ∧ OwnP w.heap.size w' q ∧ q.v.p = p.v.p ∧ Below w.heap.size w w' := by
 have HPI := H! (fun W (h : Below w.heap.size w W) => hp.later h)
 have HSm := H! hs
 clear hp hs
 obtain ⟨rc, cc, code, rt, ct, types, rv, cv, curves, rm, cm, maps, cells, ri, ci, inputs, rs, cs, states, ro, co, outputs, rn, cn, initial⟩ := p
 simp only [PV.val, PL.v, List.length_map]
 have hmv : curves.length ≤ 10000000000 := HSm.out.curves
 have hmm : maps.length ≤ 10000000000 := HSm.out.maps
 go_enter Try.func50, Try.ntmps50
 go_upto_region 1 with fail
 have hB0 : Below w.heap.size w ((w.alloc (.cells #[.slice rc code.length cc, .slice rt types.length ct, .slice rv curves.length cv, .slice rm maps.length cm, .int .i64 cells, .slice ri inputs.length ci, .slice rs states.length cs, .slice ro outputs.length co, .slice rn initial.length cn] 28)).alloc (.cells #[.slice none 0 0, .slice none 0 0, .slice none 0 0, .slice none 0 0, .int .i64 0, .slice none 0 0, .slice none 0 0, .slice none 0 0, .slice none 0 0] 28)) := bw
 have hz : ((w.alloc (.cells #[.slice rc code.length cc, .slice rt types.length ct, .slice rv curves.length cv, .slice rm maps.length cm, .int .i64 cells, .slice ri inputs.length ci, .slice rs states.length cs, .slice ro outputs.length co, .slice rn initial.length cn] 28)).alloc (.cells #[.slice none 0 0, .slice none 0 0, .slice none 0 0, .slice none 0 0, .int .i64 0, .slice none 0 0, .slice none 0 0, .slice none 0 0, .slice none 0 0] 28)).heap.size = w.heap.size + 2 := by simp only [zA]
 have AP : AtV ((w.alloc (.cells #[.slice rc code.length cc, .slice rt types.length ct, .slice rv curves.length cv, .slice rm maps.length cm, .int .i64 cells, .slice ri inputs.length ci, .slice rs states.length cs, .slice ro outputs.length co, .slice rn initial.length cn] 28)).alloc (.cells #[.slice none 0 0, .slice none 0 0, .slice none 0 0, .slice none 0 0, .int .i64 0, .slice none 0 0, .slice none 0 0, .slice none 0 0, .slice none 0 0] 28)) w.heap.size [.slice rc code.length cc, .slice rt types.length ct, .slice rv curves.length cv, .slice rm maps.length cm, .int .i64 cells, .slice ri inputs.length ci, .slice rs states.length cs, .slice ro outputs.length co, .slice rn initial.length cn] := (AtV.new w [.slice rc code.length cc, .slice rt types.length ct, .slice rv curves.length cv, .slice rm maps.length cm, .int .i64 cells, .slice ri inputs.length ci, .slice rs states.length cs, .slice ro outputs.length co, .slice rn initial.length cn] 28).keep (Below.heap_alloc _ _ _ (by rw [zA]; omega))
 have AR : AtV ((w.alloc (.cells #[.slice rc code.length cc, .slice rt types.length ct, .slice rv curves.length cv, .slice rm maps.length cm, .int .i64 cells, .slice ri inputs.length ci, .slice rs states.length cs, .slice ro outputs.length co, .slice rn initial.length cn] 28)).alloc (.cells #[.slice none 0 0, .slice none 0 0, .slice none 0 0, .slice none 0 0, .int .i64 0, .slice none 0 0, .slice none 0 0, .slice none 0 0, .slice none 0 0] 28)) (w.heap.size + 1) [.slice none 0 0, .slice none 0 0, .slice none 0 0, .slice none 0 0, .int .i64 0, .slice none 0 0, .slice none 0 0, .slice none 0 0, .slice none 0 0] := by
  have := AtV.new (w.alloc (.cells #[.slice rc code.length cc, .slice rt types.length ct, .slice rv curves.length cv, .slice rm maps.length cm, .int .i64 cells, .slice ri inputs.length ci, .slice rs states.length cs, .slice ro outputs.length co, .slice rn initial.length cn] 28)) [.slice none 0 0, .slice none 0 0, .slice none 0 0, .slice none 0 0, .int .i64 0, .slice none 0 0, .slice none 0 0, .slice none 0 0, .slice none 0 0] 28
  rwa [zA] at this
 generalize (w.alloc (.cells #[.slice rc code.length cc, .slice rt types.length ct, .slice rv curves.length cv, .slice rm maps.length cm, .int .i64 cells, .slice ri inputs.length ci, .slice rs states.length cs, .slice ro outputs.length co, .slice rn initial.length cn] 28)).alloc (.cells #[.slice none 0 0, .slice none 0 0, .slice none 0 0, .slice none 0 0, .int .i64 0, .slice none 0 0, .slice none 0 0, .slice none 0 0, .slice none 0 0] 28) = W2 at *
 have HF2 : Hid (OwnF w.heap.size W2 [(w.heap.size, [.slice rc code.length cc, .slice rt types.length ct, .slice rv curves.length cv, .slice rm maps.length cm, .int .i64 cells, .slice ri inputs.length ci, .slice rs states.length cs, .slice ro outputs.length co, .slice rn initial.length cn]), (w.heap.size + 1, [.slice none 0 0, .slice none 0 0, .slice none 0 0, .slice none 0 0, .int .i64 0, .slice none 0 0, .slice none 0 0, .slice none 0 0, .slice none 0 0])]) := H! ⟨by simp, fun q hq => by
  rcases List.mem_cons.1 hq with rfl | hq
  ·
   exact ⟨Nat.le_refl _, by omega, AP⟩
  ·
   obtain rfl : q = _ := by simpa using hq
   exact ⟨by simp, by simp; omega, AR⟩⟩
 have HIc := H! (fun W (h : Below W2.heap.size W2 W) => clIns_any rc cc code W (HPI.out W (hB0.trans (h.mono hB0.size))).code HSm.out.code)
 have HIt := H! (fun W (h : Below W2.heap.size W2 W) => clFx_any rt ct types W (HPI.out W (hB0.trans (h.mono hB0.size))).types HSm.out.types)
 clear AR AP hz
 obtain ⟨-, hAlt, AP⟩ := HF2.out.get (b := w.heap.size) (l := [.slice rc code.length cc, .slice rt types.length ct, .slice rv curves.length cv, .slice rm maps.length cm, .int .i64 cells, .slice ri inputs.length ci, .slice rs states.length cs, .slice ro outputs.length co, .slice rn initial.length cn]) (by simp)
 have b0c := (AP 0 _ rfl).1
 have b0f := (AP 0 _ rfl).2
 have b1c := (AP 1 _ rfl).1
 have b1f := (AP 1 _ rfl).2
 clear AP
 refine wp_region_hd (fun w' => Below W2.heap.size W2 w') (fun i => decide (i < 6)) (by kernel_rfl) ?_
 have hSd : (fun w' => Below W2.heap.size W2 w') W2.drew := (Below.refl _ _).drew
 try simp only [List.size_toArray, List.length_cons, List.length_nil, Array.replicate]
 refine wpHd_load (i := 0) (v := ?_) rfl (by kernel_rfl) (by kernel_rfl) (by kernel_rfl) (by kernel_rfl) (fun _ _ _ h => h) (Or.inl ⟨by rfl, ?y1⟩) (by assumption) ?r1
 case y1 => intro w0 hSw; (try dsimp only at hSw); go_simp; try with_reducible rfl
 try simp only [Act.put, List.setIfInBounds_toArray, List.set_cons_zero, List.set_cons_succ]
 refine wpHd_load (i := 1) (v := ?_) rfl (by kernel_rfl) (by kernel_rfl) (by kernel_rfl) (by kernel_rfl) (fun _ _ _ h => h) (Or.inl ⟨by rfl, ?y2⟩) (by assumption) ?r2
 case y2 => intro w0 hSw; (try dsimp only at hSw); have hx0 := (hSw.cell (p := ⟨w.heap.size, 0, none⟩) hAlt).trans b0c; go_simp; try with_reducible rfl
 try simp only [Act.put, List.setIfInBounds_toArray, List.set_cons_zero, List.set_cons_succ]
 refine wpHd_load (i := 3) (v := ?_) rfl (by kernel_rfl) (by kernel_rfl) (by kernel_rfl) (by kernel_rfl) (fun _ _ _ h => h) (Or.inl ⟨by rfl, ?y3⟩) (by assumption) ?r3
 case y3 => intro w0 hSw; (try dsimp only at hSw); go_simp; try with_reducible rfl
 try simp only [Act.put, List.setIfInBounds_toArray, List.set_cons_zero, List.set_cons_succ]
 refine wpHd_load (i := 4) (v := ?_) rfl (by kernel_rfl) (by kernel_rfl) (by kernel_rfl) (by kernel_rfl) (fun _ _ _ h => h) (Or.inl ⟨by rfl, ?y4⟩) (by assumption) ?r4
 case y4 => intro w0 hSw; (try dsimp only at hSw); have hx0 := (hSw.cell (p := ⟨w.heap.size, 1, none⟩) hAlt).trans b1c; go_simp; try with_reducible rfl
 try simp only [Act.put, List.setIfInBounds_toArray, List.set_cons_zero, List.set_cons_succ]
 refine wpHd_one (i := 2) rfl (by kernel_rfl) (by rfl) (fun K hK => ?_)
 go_simp
 refine (HIc.out _ hSd).mono ?_
 rintro _ w3 ⟨r3, c3, rfl, ho3, hb3⟩
 have HO3 := H! ho3
 clear ho3
 have hS3 : (fun w' => Below W2.heap.size W2 w') w3 := Below.trans hSd (hb3.mono (Below.size hSd))
 refine hK _ _ (fun _ => hS3) ?_
 clear hK K
 try simp only [Act.put, List.setIfInBounds_toArray, List.set_cons_zero, List.set_cons_succ]
 refine wpHd_any (i := 6) (v := ?_) rfl (by kernel_rfl) (by kernel_rfl) (by kernel_rfl) (by kernel_rfl) (fun _ _ _ h => h) (Or.inl ⟨by rfl, ?y5⟩) ?r5
 case y5 => intro w0 hSw; go_simp; try with_reducible rfl
 try simp only [Act.put, List.setIfInBounds_toArray, List.set_cons_zero, List.set_cons_succ]
 refine wpHd_one (i := 5) rfl (by kernel_rfl) (by rfl) (fun K hK => ?_)
 go_simp
 refine (HIt.out _ hS3).mono ?_
 rintro _ w4 ⟨r4, c4, rfl, ho4, hb4⟩
 have HO4 := H! ho4
 clear ho4
 have hS4 : (fun w' => Below W2.heap.size W2 w') w4 := Below.trans hS3 (hb4.mono (Below.size hS3))
 refine hK _ _ (fun _ => hS4) ?_
 clear hK K
 try simp only [Act.put, List.setIfInBounds_toArray, List.set_cons_zero, List.set_cons_succ]
 have e0c := (Below.cell (p := ⟨w.heap.size, 0, none⟩) hS4 hAlt).trans b0c
 have e0f := (Below.frozen (p := ⟨w.heap.size, 0, none⟩) hS4 hAlt).trans b0f
 have e1c := (Below.cell (p := ⟨w.heap.size, 1, none⟩) hS4 hAlt).trans b1c
 have e1f := (Below.frozen (p := ⟨w.heap.size, 1, none⟩) hS4 hAlt).trans b1f
 refine wpHd_one (i := 7) rfl (by kernel_rfl) (by rfl) (fun K hK => ?_)
 go_simp
 refine hK _ _ (fun h => by cases h) ?_
 clear hK K
 try simp only [Act.put, List.setIfInBounds_toArray, List.set_cons_zero, List.set_cons_succ]
 refine wpHd_any (i := 8) (v := ?_) rfl (by kernel_rfl) (by kernel_rfl) (by kernel_rfl) (by kernel_rfl) (fun _ _ _ h => h) (Or.inl ⟨by rfl, ?y6⟩) ?r6
 case y6 => intro w0 hSw; go_simp; try with_reducible rfl
 try simp only [Act.put, List.setIfInBounds_toArray, List.set_cons_zero, List.set_cons_succ]
 refine wpHd_one (i := 9) rfl (by kernel_rfl) (by rfl) (fun K hK => ?_)
 go_simp
 refine hK _ _ (fun h => by cases h) ?_
 clear hK K
 try simp only [Act.put, List.setIfInBounds_toArray, List.set_cons_zero, List.set_cons_succ]
 refine wpHd_done (by kernel_rfl) ?_
 have hG3 := HF2.out.addF (show Below W2.heap.size W2 w3 from (Below.refl _ _).drew.trans hb3) (Nat.le_of_lt hAlt) HO3.out.2
 have hG4 := hG3.addF hb4 (Nat.le_trans (Nat.le_of_lt hAlt) (Below.size hS3)) HO4.out.2
 simp only [List.cons_append, List.nil_append] at hG4
 have hH3 := OwnF.set (F1 := []) (i := 0) hG4 (by simp) (.slice r3 code.length c3)
 have hH4 := OwnF.set (F1 := []) (i := 1) hH3 (by simp) (.slice r4 types.length c4)
 simp only [List.nil_append, List.set_cons_zero, List.set_cons_succ] at hH4
 have hB3 : Below w.heap.size w ((w4.setCell ⟨w.heap.size, 0, none⟩ (.slice r3 code.length c3)).setCell ⟨w.heap.size, 1, none⟩ (.slice r4 types.length c4)) := by have := hB0.trans (Below.mono hS4 hB0.size); (exact bw)
 have HF3 := H! hH4
 clear hG3 hH3 hG4 hH4 b0c b0f e0c e0f b1c b1f e1c e1f
 generalize ((w4.setCell ⟨w.heap.size, 0, none⟩ (.slice r3 code.length c3)).setCell ⟨w.heap.size, 1, none⟩ (.slice r4 types.length c4)) = W3 at *
 clear hAlt hSd hS3 hb3 hS4 hb4 HF2
 clear HIc HIt
 go_upto_region 2 with fail
 have HIv := H! (fun W (h : Below W3.heap.size W3 W) => clCv_any rv cv curves W (HPI.out W (hB3.trans (h.mono hB3.size))).curves HSm.out.curves)
 have HIm := H! (fun W (h : Below W3.heap.size W3 W) => clMq_any rm cm maps W (HPI.out W (hB3.trans (h.mono hB3.size))).maps HSm.out.maps)
 obtain ⟨-, hAlt, AP⟩ := HF3.out.get (b := w.heap.size) (l := [.slice r3 code.length c3, .slice r4 types.length c4, .slice rv curves.length cv, .slice rm maps.length cm, .int .i64 cells, .slice ri inputs.length ci, .slice rs states.length cs, .slice ro outputs.length co, .slice rn initial.length cn]) (by simp)
 have b2c := (AP 2 _ rfl).1
 have b2f := (AP 2 _ rfl).2
 have b3c := (AP 3 _ rfl).1
 have b3f := (AP 3 _ rfl).2
 clear AP
 refine wp_region_hd (fun w' => Below W3.heap.size W3 w') (fun i => decide (i < 6)) (by kernel_rfl) ?_
 have hSd : (fun w' => Below W3.heap.size W3 w') W3.drew := (Below.refl _ _).drew
 try simp only [List.size_toArray, List.length_cons, List.length_nil, Array.replicate]
 refine wpHd_load (i := 0) (v := ?_) rfl (by kernel_rfl) (by kernel_rfl) (by kernel_rfl) (by kernel_rfl) (fun _ _ _ h => h) (Or.inl ⟨by rfl, ?y7⟩) (by assumption) ?r7
 case y7 => intro w0 hSw; (try dsimp only at hSw); go_simp; try with_reducible rfl
 try simp only [Act.put, List.setIfInBounds_toArray, List.set_cons_zero, List.set_cons_succ]
 refine wpHd_load (i := 1) (v := ?_) rfl (by kernel_rfl) (by kernel_rfl) (by kernel_rfl) (by kernel_rfl) (fun _ _ _ h => h) (Or.inl ⟨by rfl, ?y8⟩) (by assumption) ?r8
 case y8 => intro w0 hSw; (try dsimp only at hSw); have hx0 := (hSw.cell (p := ⟨w.heap.size, 2, none⟩) hAlt).trans b2c; go_simp; try with_reducible rfl
 try simp only [Act.put, List.setIfInBounds_toArray, List.set_cons_zero, List.set_cons_succ]
 refine wpHd_load (i := 3) (v := ?_) rfl (by kernel_rfl) (by kernel_rfl) (by kernel_rfl) (by kernel_rfl) (fun _ _ _ h => h) (Or.inl ⟨by rfl, ?y9⟩) (by assumption) ?r9
 case y9 => intro w0 hSw; (try dsimp only at hSw); go_simp; try with_reducible rfl
 try simp only [Act.put, List.setIfInBounds_toArray, List.set_cons_zero, List.set_cons_succ]
 refine wpHd_load (i := 4) (v := ?_) rfl (by kernel_rfl) (by kernel_rfl) (by kernel_rfl) (by kernel_rfl) (fun _ _ _ h => h) (Or.inl ⟨by rfl, ?y10⟩) (by assumption) ?r10
 case y10 => intro w0 hSw; (try dsimp only at hSw); have hx0 := (hSw.cell (p := ⟨w.heap.size, 3, none⟩) hAlt).trans b3c; go_simp; try with_reducible rfl
 try simp only [Act.put, List.setIfInBounds_toArray, List.set_cons_zero, List.set_cons_succ]
 refine wpHd_one (i := 2) rfl (by kernel_rfl) (by rfl) (fun K hK => ?_)
 go_simp
 refine (HIv.out _ hSd).mono ?_
 rintro _ w5 ⟨r5, c5, rfl, ho5, hb5⟩
 have HO5 := H! ho5
 clear ho5
 have hS5 : (fun w' => Below W3.heap.size W3 w') w5 := Below.trans hSd (hb5.mono (Below.size hSd))
 refine hK _ _ (fun _ => hS5) ?_
 clear hK K
 try simp only [Act.put, List.setIfInBounds_toArray, List.set_cons_zero, List.set_cons_succ]
 refine wpHd_any (i := 6) (v := ?_) rfl (by kernel_rfl) (by kernel_rfl) (by kernel_rfl) (by kernel_rfl) (fun _ _ _ h => h) (Or.inl ⟨by rfl, ?y11⟩) ?r11
 case y11 => intro w0 hSw; go_simp; try with_reducible rfl
 try simp only [Act.put, List.setIfInBounds_toArray, List.set_cons_zero, List.set_cons_succ]
 refine wpHd_one (i := 5) rfl (by kernel_rfl) (by rfl) (fun K hK => ?_)
 go_simp
 refine (HIm.out _ hS5).mono ?_
 rintro _ w6 ⟨r6, c6, rfl, ho6, hb6⟩
 have HO6 := H! ho6
 clear ho6
 have hS6 : (fun w' => Below W3.heap.size W3 w') w6 := Below.trans hS5 (hb6.mono (Below.size hS5))
 refine hK _ _ (fun _ => hS6) ?_
 clear hK K
 try simp only [Act.put, List.setIfInBounds_toArray, List.set_cons_zero, List.set_cons_succ]
 have e2c := (Below.cell (p := ⟨w.heap.size, 2, none⟩) hS6 hAlt).trans b2c
 have e2f := (Below.frozen (p := ⟨w.heap.size, 2, none⟩) hS6 hAlt).trans b2f
 have e3c := (Below.cell (p := ⟨w.heap.size, 3, none⟩) hS6 hAlt).trans b3c
 have e3f := (Below.frozen (p := ⟨w.heap.size, 3, none⟩) hS6 hAlt).trans b3f
 refine wpHd_one (i := 7) rfl (by kernel_rfl) (by rfl) (fun K hK => ?_)
 go_simp
 refine hK _ _ (fun h => by cases h) ?_
 clear hK K
 try simp only [Act.put, List.setIfInBounds_toArray, List.set_cons_zero, List.set_cons_succ]
 refine wpHd_any (i := 8) (v := ?_) rfl (by kernel_rfl) (by kernel_rfl) (by kernel_rfl) (by kernel_rfl) (fun _ _ _ h => h) (Or.inl ⟨by rfl, ?y12⟩) ?r12
 case y12 => intro w0 hSw; go_simp; try with_reducible rfl
 try simp only [Act.put, List.setIfInBounds_toArray, List.set_cons_zero, List.set_cons_succ]
 refine wpHd_one (i := 9) rfl (by kernel_rfl) (by rfl) (fun K hK => ?_)
 go_simp
 refine hK _ _ (fun h => by cases h) ?_
 clear hK K
 try simp only [Act.put, List.setIfInBounds_toArray, List.set_cons_zero, List.set_cons_succ]
 refine wpHd_done (by kernel_rfl) ?_
 have hG5 := HF3.out.addF (show Below W3.heap.size W3 w5 from (Below.refl _ _).drew.trans hb5) (Nat.le_of_lt hAlt) HO5.out.2
 have hG6 := hG5.addF hb6 (Nat.le_trans (Nat.le_of_lt hAlt) (Below.size hS5)) HO6.out.2
 simp only [List.cons_append, List.nil_append] at hG6
 have hH5 := OwnF.set (F1 := []) (i := 2) hG6 (by simp) (.slice r5 curves.length c5)
 have hH6 := OwnF.set (F1 := []) (i := 3) hH5 (by simp) (.slice r6 maps.length c6)
 simp only [List.nil_append, List.set_cons_zero, List.set_cons_succ] at hH6
 have hB4 : Below w.heap.size w ((w6.setCell ⟨w.heap.size, 2, none⟩ (.slice r5 curves.length c5)).setCell ⟨w.heap.size, 3, none⟩ (.slice r6 maps.length c6)) := by have := hB3.trans (Below.mono hS6 hB3.size); (exact bw)
 have HF4 := H! hH6
 clear hG5 hH5 hG6 hH6 b2c b2f e2c e2f b3c b3f e3c e3f
 generalize ((w6.setCell ⟨w.heap.size, 2, none⟩ (.slice r5 curves.length c5)).setCell ⟨w.heap.size, 3, none⟩ (.slice r6 maps.length c6)) = W4 at *
 clear hAlt hSd hS5 hb5 hS6 hb6 HF3
 clear HIv HIm
 obtain ⟨T, hT⟩ : ∃ T : List (Nat × List Value), T = ([(w.heap.size, [.slice r3 code.length c3, .slice r4 types.length c4, .slice r5 curves.length c5, .slice r6 maps.length c6, .int .i64 cells, .slice ri inputs.length ci, .slice rs states.length cs, .slice ro outputs.length co, .slice rn initial.length cn]), (w.heap.size + 1, [.slice none 0 0, .slice none 0 0, .slice none 0 0, .slice none 0 0, .int .i64 0, .slice none 0 0, .slice none 0 0, .slice none 0 0, .slice none 0 0])] ++ (fr1 r3 (code.flatMap Ins.enc) ++ (fr1 r4 (types.flatMap Fx.enc) ++ fr1 r6 (maps.flatMap Mr.enc)))) := ⟨_, rfl⟩
 have HF5 : Hid (LpI Cv.enc Cv.frag Cv.p Cv.sl w.heap.size W4 r5 T curves 0 []) := H! ⟨HF4.out.cnt (fun x => by rw [hT]; simp only [List.drop_zero, List.nil_append, List.flatMap_nil, List.append_nil, List.count_append, List.count_cons, List.count_nil]; omega), rfl, rfl, by simp⟩
 have HTm : Hid (∀ F G : List (Nat × List Value), (w.heap.size, [.slice r3 code.length c3, .slice r4 types.length c4, .slice r5 curves.length c5, .slice r6 maps.length c6, .int .i64 cells, .slice ri inputs.length ci, .slice rs states.length cs, .slice ro outputs.length co, .slice rn initial.length cn]) ∈ F ++ (T ++ G)) := H! (fun F G => by rw [hT]; simp)
 have HT := H! hT
 clear hT
 obtain ⟨-, hAlt, AP⟩ := HF4.out.get (b := w.heap.size) (l := [.slice r3 code.length c3, .slice r4 types.length c4, .slice r5 curves.length c5, .slice r6 maps.length c6, .int .i64 cells, .slice ri inputs.length ci, .slice rs states.length cs, .slice ro outputs.length co, .slice rn initial.length cn]) (by simp)
 have b2c := (AP 2 _ rfl).1
 have b2f := (AP 2 _ rfl).2
 have b3c := (AP 3 _ rfl).1
 have b3f := (AP 3 _ rfl).2
 clear AP
 have HB4 := H! hB4
 clear b3c b3f b2f HF4 hB4 hB3 hB0
 go_wp2
 go_loopw [28] (fun s28 wr => ∃ (k : Nat) (done : List Cv), s28 = .int .i64 k ∧ k ≤ curves.length ∧ Hid (Below w.heap.size w wr) ∧ Hid (LpI Cv.enc Cv.frag Cv.p Cv.sl w.heap.size wr r5 T curves k done)) (fun s28 _ => curves.length - (intOf s28).toNat)
 case atStart => exact ⟨0, [], rfl, Nat.zero_le _, HB4, HF5⟩
 case round =>
  clear HB4 HF5 b2c hAlt
  obtain ⟨k, done, rfl, hk, HB, HI⟩ := hrel
  by_cases hlt : k < curves.length
  ·
   have hk1 : (0 : Int) ≤ (k : Int) := by omega
   have hk2 : (k : Int) < curves.length := by omega
   have HCk : Hid ((curves.getD k default).ok w ∧ (curves.getD k default).X.length ≤ 10000000000 ∧ (curves.getD k default).Y.length ≤ 10000000000) := H! ⟨(HPI.out w (Below.refl _ _)).curvesG _ (getD_mem_of hlt), HSm.out.curvesG _ (getD_mem_of hlt)⟩
   obtain ⟨b5, rfl⟩ := HO5.out.1.at_ (by omega)
   have hown := HI.out.own
   rw [drop_cons' hlt] at hown
   obtain ⟨hD5, hb5, hAt⟩ := hown.get (b := b5) (l := (done ++ curves.getD k default :: curves.drop (k + 1)).flatMap Cv.enc) (by simp [fr1])
   obtain ⟨hd0, hf0⟩ := hAt (k * 2) (.slice (curves.getD k default).rx (curves.getD k default).X.length (curves.getD k default).cx) (by rw [← HI.out.len]; exact flat_mid (enc := Cv.enc) (sz := 2) (fun _ => rfl) done _ _ (j := 0) rfl)
   obtain ⟨hd1, hf1⟩ := hAt (k * 2 + 1) (.slice (curves.getD k default).ry (curves.getD k default).Y.length (curves.getD k default).cy) (by rw [← HI.out.len]; exact flat_mid (enc := Cv.enc) (sz := 2) (fun _ => rfl) done _ _ (j := 1) rfl)
   obtain ⟨-, hAlt, AP⟩ := hown.get (HTm.out _ _)
   have b2c := (AP 2 _ rfl).1
   have HW := H! hown
   clear AP hAt hown
   have Hsn := H! (take_snoc hlt)
   generalize curves.getD k default = x at *
   obtain ⟨rx, cx, X, ry, cy, Y⟩ := x
   simp only at hd0 hd1 HCk
   go_upto_region 6 with fail
   have hB6 : Below wr.heap.size wr (wr.alloc (Obj.cells #[.slice rx X.length cx, .slice ry Y.length cy] 53)) := bw
   have hz : wr.heap.size < (wr.alloc (Obj.cells #[.slice rx X.length cx, .slice ry Y.length cy] 53)).heap.size := by rw [zA]; omega
   have hx0 : (wr.alloc (Obj.cells #[.slice rx X.length cx, .slice ry Y.length cy] 53)).cell? ⟨wr.heap.size, 0, none⟩ = some (.slice rx X.length cx) := (AtV.new wr [.slice rx X.length cx, .slice ry Y.length cy] 53 0 _ rfl).1
   have hx1 : (wr.alloc (Obj.cells #[.slice rx X.length cx, .slice ry Y.length cy] 53)).cell? ⟨wr.heap.size, 1, none⟩ = some (.slice ry Y.length cy) := (AtV.new wr [.slice rx X.length cx, .slice ry Y.length cy] 53 1 _ rfl).1
   generalize wr.alloc (Obj.cells #[.slice rx X.length cx, .slice ry Y.length cy] 53) = W6 at *
   have c2 : W6.cell? ⟨w.heap.size, 2, none⟩ = _ := (hB6.cell (p := ⟨w.heap.size, 2, none⟩) hAlt).trans b2c
   have hAl6 : w.heap.size < W6.heap.size := Nat.lt_of_lt_of_le hAlt hB6.size
   have hb56 : b5 < W6.heap.size := Nat.lt_of_lt_of_le hb5 hB6.size
   have d0 := (hB6.cell (p := ⟨b5, k * 2, none⟩) hb5).trans hd0
   have f0 := (hB6.frozen (p := ⟨b5, k * 2, none⟩) hb5).trans hf0
   have d1 := (hB6.cell (p := ⟨b5, k * 2 + 1, none⟩) hb5).trans hd1
   have f1 := (hB6.frozen (p := ⟨b5, k * 2 + 1, none⟩) hb5).trans hf1
   have HW6 := H! (HW.out.below hB6)
   have hBw := HB.out.trans (hB6.mono HB.out.size)
   have HIx := H! (fun W (h : Below W6.heap.size W6 W) => clN_any rx cx X W (HCk.out.1.1.later (hBw.trans (h.mono hBw.size))) HCk.out.2.1)
   have HIy := H! (fun W (h : Below W6.heap.size W6 W) => clN_any ry cy Y W (HCk.out.1.2.later (hBw.trans (h.mono hBw.size))) HCk.out.2.2)
   have HBw := H! hBw
   have HgX : Hid (I64s X ∧ I64s Y) := H! ⟨HCk.out.1.1.wf, HCk.out.1.2.wf⟩
   clear hd0 hd1 hf0 hf1 b2c hAlt hb5 hB6 hBw HW HB HCk
   generalize wr.heap.size = bC at *
   refine wp_region_hd (fun w' => Below W6.heap.size W6 w') (fun i => decide (i < 11)) (by kernel_rfl) ?_
   have hSd : (fun w' => Below W6.heap.size W6 w') W6.drew := (Below.refl _ _).drew
   try simp only [List.size_toArray, List.length_cons, List.length_nil, Array.replicate]
   refine wpHd_load (i := 0) (v := ?_) rfl (by kernel_rfl) (by kernel_rfl) (by kernel_rfl) (by kernel_rfl) (fun _ _ _ h => h) (Or.inl ⟨by rfl, ?y13⟩) (by assumption) ?r13
   case y13 => intro w0 hSw; (try dsimp only at hSw); go_simp; try with_reducible rfl
   try simp only [Act.put, List.setIfInBounds_toArray, List.set_cons_zero, List.set_cons_succ]
   refine wpHd_load (i := 1) (v := ?_) rfl (by kernel_rfl) (by kernel_rfl) (by kernel_rfl) (by kernel_rfl) (fun _ _ _ h => h) (Or.inl ⟨by rfl, ?y14⟩) (by assumption) ?r14
   case y14 => intro w0 hSw; (try dsimp only at hSw); have hx0 := (hSw.cell (p := ⟨w.heap.size, 2, none⟩) hAl6).trans c2; go_simp; try with_reducible rfl
   try simp only [Act.put, List.setIfInBounds_toArray, List.set_cons_zero, List.set_cons_succ]
   refine wpHd_load (i := 2) (v := ?_) rfl (by kernel_rfl) (by kernel_rfl) (by kernel_rfl) (by kernel_rfl) (fun _ _ _ h => h) (Or.inl ⟨by rfl, ?y15⟩) (by assumption) ?r15
   case y15 => intro w0 hSw; (try dsimp only at hSw); go_simp; try with_reducible rfl
   try simp only [Act.put, List.setIfInBounds_toArray, List.set_cons_zero, List.set_cons_succ]
   refine wpHd_load (i := 3) (v := ?_) rfl (by kernel_rfl) (by kernel_rfl) (by kernel_rfl) (by kernel_rfl) (fun _ _ _ h => h) (Or.inl ⟨by rfl, ?y16⟩) (by assumption) ?r16
   case y16 => intro w0 hSw; (try dsimp only at hSw); go_simp; try with_reducible rfl
   try simp only [Act.put, List.setIfInBounds_toArray, List.set_cons_zero, List.set_cons_succ]
   refine wpHd_load (i := 4) (v := ?_) rfl (by kernel_rfl) (by kernel_rfl) (by kernel_rfl) (by kernel_rfl) (fun _ _ _ h => h) (Or.inl ⟨by rfl, ?y17⟩) (by assumption) ?r17
   case y17 => intro w0 hSw; (try dsimp only at hSw); have hx0 := (hSw.cell (p := ⟨bC, 0, none⟩) hz).trans hx0; go_simp; try with_reducible rfl
   try simp only [Act.put, List.setIfInBounds_toArray, List.set_cons_zero, List.set_cons_succ]
   refine wpHd_load (i := 6) (v := ?_) rfl (by kernel_rfl) (by kernel_rfl) (by kernel_rfl) (by kernel_rfl) (fun _ _ _ h => h) (Or.inl ⟨by rfl, ?y18⟩) (by assumption) ?r18
   case y18 => intro w0 hSw; (try dsimp only at hSw); go_simp; try with_reducible rfl
   try simp only [Act.put, List.setIfInBounds_toArray, List.set_cons_zero, List.set_cons_succ]
   refine wpHd_load (i := 7) (v := ?_) rfl (by kernel_rfl) (by kernel_rfl) (by kernel_rfl) (by kernel_rfl) (fun _ _ _ h => h) (Or.inl ⟨by rfl, ?y19⟩) (by assumption) ?r19
   case y19 => intro w0 hSw; (try dsimp only at hSw); have hx0 := (hSw.cell (p := ⟨bC, 1, none⟩) hz).trans hx1; go_simp; try with_reducible rfl
   try simp only [Act.put, List.setIfInBounds_toArray, List.set_cons_zero, List.set_cons_succ]
   refine wpHd_one (i := 5) rfl (by kernel_rfl) (by rfl) (fun K hK => ?_)
   go_simp
   refine (HIx.out _ hSd).mono ?_
   rintro _ w7 ⟨r7, c7, rfl, ho7, hb7⟩
   have HO7 := H! ho7
   clear ho7
   have hS7 : (fun w' => Below W6.heap.size W6 w') w7 := Below.trans hSd (hb7.mono (Below.size hSd))
   refine hK _ _ (fun _ => hS7) ?_
   clear hK K
   try simp only [Act.put, List.setIfInBounds_toArray, List.set_cons_zero, List.set_cons_succ]
   refine wpHd_one (i := 8) rfl (by kernel_rfl) (by rfl) (fun K hK => ?_)
   go_simp
   refine (HIy.out _ hS7).mono ?_
   rintro _ w8 ⟨r8, c8, rfl, ho8, hb8⟩
   have HO8 := H! ho8
   clear ho8
   have hS8 : (fun w' => Below W6.heap.size W6 w') w8 := Below.trans hS7 (hb8.mono (Below.size hS7))
   refine hK _ _ (fun _ => hS8) ?_
   clear hK K
   try simp only [Act.put, List.setIfInBounds_toArray, List.set_cons_zero, List.set_cons_succ]
   refine wpHd_load (i := 9) (v := ?_) rfl (by kernel_rfl) (by kernel_rfl) (by kernel_rfl) (by kernel_rfl) (fun _ _ _ h => h) (Or.inl ⟨by rfl, ?y20⟩) (by assumption) ?r20
   case y20 => intro w0 hSw; (try dsimp only at hSw); go_simp; try with_reducible rfl
   try simp only [Act.put, List.setIfInBounds_toArray, List.set_cons_zero, List.set_cons_succ]
   refine wpHd_load (i := 10) (v := ?_) rfl (by kernel_rfl) (by kernel_rfl) (by kernel_rfl) (by kernel_rfl) (fun _ _ _ h => h) (Or.inl ⟨by rfl, ?y21⟩) (by assumption) ?r21
   case y21 => intro w0 hSw; (try dsimp only at hSw); go_simp; try with_reducible rfl
   try simp only [Act.put, List.setIfInBounds_toArray, List.set_cons_zero, List.set_cons_succ]
   have e0c := (hS8.cell (p := ⟨b5, k * 2, none⟩) hb56).trans d0
   have e0f := (hS8.frozen (p := ⟨b5, k * 2, none⟩) hb56).trans f0
   have e1c := (hS8.cell (p := ⟨b5, k * 2 + 1, none⟩) hb56).trans d1
   have e1f := (hS8.frozen (p := ⟨b5, k * 2 + 1, none⟩) hb56).trans f1
   refine wpHd_one (i := 11) rfl (by kernel_rfl) (by rfl) (fun K hK => ?_)
   go_simp
   refine hK _ _ (fun h => by cases h) ?_
   clear hK K
   try simp only [Act.put, List.setIfInBounds_toArray, List.set_cons_zero, List.set_cons_succ]
   refine wpHd_done (by kernel_rfl) ?_
   have hst := cv_step (c1 := c7) (c2 := c8) HW6.out HBw.out.size ((Below.refl _ _).drew.trans hb7) HO7.out.2 hb8 HO8.out.2
   rw [HI.out.len] at hst
   have HI6 := H! (HI.out.snoc Hsn.out hst rfl ⟨⟨HO7.out.1, HgX.out.1⟩, HO8.out.1, HgX.out.2⟩)
   have hB9 : Below w.heap.size w ((w8.setCell ⟨b5, k * 2, none⟩ (.slice r7 X.length c7)).setCell ⟨b5, k * 2 + 1, none⟩ (.slice r8 Y.length c8)) := ((HBw.out.trans (Below.mono hS8 HBw.out.size)).setCell (p := ⟨b5, k * 2, none⟩) hD5 _).setCell (p := ⟨b5, k * 2 + 1, none⟩) hD5 _
   have HB9 := H! hB9
   clear hst hB9
   generalize (w8.setCell ⟨b5, k * 2, none⟩ (.slice r7 X.length c7)).setCell ⟨b5, k * 2 + 1, none⟩ (.slice r8 Y.length c8) = W9 at *
   clear hSd hS7 hb7 hS8 hb8 hx0 hx1 hz c2 hAl6
   go_wp2
   go_roundw
   case rel => exact ⟨k + 1, _, by go_num, by omega, HB9, HI6⟩
   case measure => simp [intOf]; omega
  ·
   obtain rfl : k = curves.length := by omega
   obtain ⟨dcv, rfl⟩ : ∃ x, x = done := ⟨_, rfl⟩
   have hlc := HI.out.len
   have HCs := H! HI.out.same
   have HCg := H! HI.out.good
   obtain ⟨T2, hT2⟩ : ∃ T2 : List (Nat × List Value), T2 = [(w.heap.size, [.slice r3 code.length c3, .slice r4 types.length c4, .slice r5 curves.length c5, .slice r6 maps.length c6, .int .i64 cells, .slice ri inputs.length ci, .slice rs states.length cs, .slice ro outputs.length co, .slice rn initial.length cn]), (w.heap.size + 1, [.slice none 0 0, .slice none 0 0, .slice none 0 0, .slice none 0 0, .int .i64 0, .slice none 0 0, .slice none 0 0, .slice none 0 0, .slice none 0 0])] ++ (fr1 r3 (code.flatMap Ins.enc) ++ (fr1 r4 (types.flatMap Fx.enc) ++ (fr1 r5 (dcv.flatMap Cv.enc) ++ dcv.flatMap Cv.frag))) := ⟨_, rfl⟩
   have HI2 : Hid (LpI Mr.enc Mr.frag (fun m => m.m.p) Mr.sl w.heap.size wr r6 T2 maps 0 []) := H! ⟨HI.out.own.cnt (fun x => by
    rw [HT.out, hT2]
    simp only [List.drop_zero, List.drop_length, List.nil_append, List.flatMap_nil, List.append_nil, List.count_append, List.count_cons, List.count_nil]
    omega), rfl, rfl, by simp⟩
   have HTm2 : Hid (∀ F G : List (Nat × List Value), (w.heap.size, [.slice r3 code.length c3, .slice r4 types.length c4, .slice r5 curves.length c5, .slice r6 maps.length c6, .int .i64 cells, .slice ri inputs.length ci, .slice rs states.length cs, .slice ro outputs.length co, .slice rn initial.length cn]) ∈ F ++ (T2 ++ G)) := H! (fun F G => by rw [hT2]; simp)
   have HT2 := H! hT2
   obtain ⟨-, hAlt, AP⟩ := HI2.out.own.get (HTm2.out _ _)
   have b3c := (AP 3 _ rfl).1
   clear AP HI HT HTm hT2 hk hlt
   obtain ⟨wA, rfl⟩ : ∃ x, x = wr := ⟨_, rfl⟩
   go_wp2
   go_loopw [48] (fun s48 wq => ∃ (k : Nat) (done : List Mr), s48 = .int .i64 k ∧ k ≤ maps.length ∧ Hid (Below w.heap.size w wq) ∧ Hid (LpI Mr.enc Mr.frag (fun m => m.m.p) Mr.sl w.heap.size wq r6 T2 maps k done)) (fun s48 _ => maps.length - (intOf s48).toNat)
   case atStart => exact ⟨0, [], rfl, Nat.zero_le _, HB, HI2⟩
   case round =>
    clear HB HI2 b3c hAlt
    obtain ⟨k, done, rfl, hk, HB, HI⟩ := hrel
    by_cases hlt : k < maps.length
    ·
     have hk1 : (0 : Int) ≤ (k : Int) := by omega
     have hk2 : (k : Int) < maps.length := by omega
     have HCk : Hid ((maps.getD k default).ok w ∧ (maps.getD k default).X.length ≤ 10000000000 ∧ (maps.getD k default).Y.length ≤ 10000000000 ∧ (maps.getD k default).rows.length ≤ 10000000000 ∧ ∀ x ∈ (maps.getD k default).rows, x.l.length ≤ 10000000000) := H! ⟨(HPI.out w (Below.refl _ _)).mapsG _ (getD_mem_of hlt), HSm.out.mapsG _ (getD_mem_of hlt)⟩
     obtain ⟨b6, rfl⟩ := HO6.out.1.at_ (by omega)
     have hown := HI.out.own
     rw [drop_cons' hlt] at hown
     obtain ⟨hD6, hb6, hAt⟩ := hown.get (b := b6) (l := (done ++ maps.getD k default :: maps.drop (k + 1)).flatMap Mr.enc) (by simp [fr1])
     obtain ⟨hd0, hf0⟩ := hAt (k * 3) (.slice (maps.getD k default).rx (maps.getD k default).X.length (maps.getD k default).cx) (by rw [← HI.out.len]; exact flat_mid (enc := Mr.enc) (sz := 3) (fun _ => rfl) done _ _ (j := 0) rfl)
     obtain ⟨hd1, hf1⟩ := hAt (k * 3 + 1) (.slice (maps.getD k default).ry (maps.getD k default).Y.length (maps.getD k default).cy) (by rw [← HI.out.len]; exact flat_mid (enc := Mr.enc) (sz := 3) (fun _ => rfl) done _ _ (j := 1) rfl)
     obtain ⟨hd2, hf2⟩ := hAt (k * 3 + 2) (.slice (maps.getD k default).rz (maps.getD k default).rows.length (maps.getD k default).cz) (by rw [← HI.out.len]; exact flat_mid (enc := Mr.enc) (sz := 3) (fun _ => rfl) done _ _ (j := 2) rfl)
     obtain ⟨-, hAlt, AP⟩ := hown.get (HTm2.out _ _)
     have b3c := (AP 3 _ rfl).1
     have HW := H! hown
     clear AP hAt hown
     have Hsn := H! (take_snoc hlt)
     generalize maps.getD k default = x at *
     obtain ⟨rx, cx, X, ry, cy, Y, rz, cz, rows⟩ := x
     simp only at hd0 hd1 hd2 HCk
     go_upto_region 11 with fail
     have hB6 : Below wr.heap.size wr (wr.alloc (Obj.cells #[.slice rx X.length cx, .slice ry Y.length cy, .slice rz rows.length cz] 55)) := bw
     have hz : wr.heap.size < (wr.alloc (Obj.cells #[.slice rx X.length cx, .slice ry Y.length cy, .slice rz rows.length cz] 55)).heap.size := by rw [zA]; omega
     have hnw : AtV (wr.alloc (Obj.cells #[.slice rx X.length cx, .slice ry Y.length cy, .slice rz rows.length cz] 55)) wr.heap.size [.slice rx X.length cx, .slice ry Y.length cy, .slice rz rows.length cz] := AtV.new wr [.slice rx X.length cx, .slice ry Y.length cy, .slice rz rows.length cz] 55
     generalize wr.alloc (Obj.cells #[.slice rx X.length cx, .slice ry Y.length cy, .slice rz rows.length cz] 55) = W6 at *
     have hD : w.heap.size ≤ wr.heap.size := HB.out.size
     have HW6 := H! (HW.out.add hB6 hD (Nat.le_refl _) hz hnw)
     have hx2 : W6.cell? ⟨wr.heap.size, 2, none⟩ = some (.slice rz rows.length cz) := (hnw 2 _ rfl).1
     have hBw := HB.out.trans (hB6.mono HB.out.size)
     have HIx := H! (fun W (h : Below w.heap.size w W) => clN_any rx cx X W (HCk.out.1.1.later h) HCk.out.2.1)
     have HIy := H! (fun W (h : Below w.heap.size w W) => clN_any ry cy Y W (HCk.out.1.2.1.later h) HCk.out.2.2.1)
     have HIz := H! (fun W (h : Below W6.heap.size W6 W) => clRw_any rz cz rows W (HCk.out.1.2.2.1.later (hBw.trans (h.mono hBw.size))) HCk.out.2.2.2.1)
     have HRw : Hid (∀ x ∈ rows, IsInts w x.r x.c .i64 x.l ∧ x.l.length ≤ 10000000000) := H! (fun x h => ⟨HCk.out.1.2.2.2 x h, HCk.out.2.2.2.2 x h⟩)
     have HgX : Hid (I64s X ∧ I64s Y) := H! ⟨HCk.out.1.1.wf, HCk.out.1.2.1.wf⟩
     have hmr : rows.length ≤ 10000000000 := HCk.out.2.2.2.1
     have HBw := H! hBw
     clear hd0 hd1 hd2 hf0 hf1 hf2 b3c hAlt hb6 hB6 hBw HW HB hnw HCk hD
     generalize wr.heap.size = bC at *
     go_wp2_with (go_at_call 90; refine (HIz.out _ bw).mono ?_; rintro _ w7 ⟨r7, c7, rfl, ho7, hb7⟩; have HO7 := H! ho7; clear ho7)
     have hb7' : Below W6.heap.size W6 w7 := bw
     have HB7 := H! (HBw.out.trans (hb7'.mono HBw.out.size))
     obtain ⟨T3, hT3⟩ : ∃ T3 : List (Nat × List Value), T3 = (bC, [.slice rx X.length cx, .slice ry Y.length cy, .slice rz rows.length cz]) :: (fr1 (some ⟨b6, 0, none⟩) ((done ++ ⟨rx, cx, X, ry, cy, Y, rz, cz, rows⟩ :: maps.drop (k + 1)).flatMap Mr.enc) ++ (T2 ++ done.flatMap Mr.frag)) := ⟨_, rfl⟩
     have HI7 : Hid (LpI Rw.enc Rw.frag Rw.l Rw.sl w.heap.size w7 r7 T3 rows 0 []) := H! ⟨((HW6.out.addF hb7' HBw.out.size HO7.out.2)).cnt (fun x => by
      rw [hT3]
      simp only [List.drop_zero, List.nil_append, List.flatMap_nil, List.append_nil, List.count_append, List.count_cons, List.count_nil]
      omega), rfl, rfl, by simp⟩
     have HTb : Hid (∀ F G : List (Nat × List Value), (bC, [.slice rx X.length cx, .slice ry Y.length cy, .slice rz rows.length cz]) ∈ F ++ (T3 ++ G)) := H! (fun F G => by rw [hT3]; simp)
     have HTa : Hid (∀ F G : List (Nat × List Value), (w.heap.size, [.slice r3 code.length c3, .slice r4 types.length c4, .slice r5 curves.length c5, .slice (some ⟨b6, 0, none⟩) maps.length c6, .int .i64 cells, .slice ri inputs.length ci, .slice rs states.length cs, .slice ro outputs.length co, .slice rn initial.length cn]) ∈ F ++ (T3 ++ G)) := H! (fun F G => by
      rw [hT3]
      have := HTm2.out (fr1 (some ⟨b6, 0, none⟩) ((done ++ ⟨rx, cx, X, ry, cy, Y, rz, cz, rows⟩ :: maps.drop (k + 1)).flatMap Mr.enc)) (done.flatMap Mr.frag)
      exact List.mem_append.2 (.inr (List.mem_append.2 (.inl (List.mem_cons_of_mem _ this)))))
     have HT3 := H! hT3
     clear hT3 hb7 hx2 hz
     have HR7 : Hid (∀ x ∈ rows, I64s x.l ∧ ∀ W, Below w.heap.size w W → Calls Try.prog 89 #[.slice x.r x.l.length x.c] W fun e w' => ∃ r' cap', e = .returned (.slice r' x.l.length cap') ∧ Cl W w' r' cap' x.l.length (x.l.map (Value.int .i64)) ∧ Below W.heap.size W w') := H! (fun x hx => ⟨(HRw.out x hx).1.wf, fun W h => clN_any x.r x.c x.l W ((HRw.out x hx).1.later h) (HRw.out x hx).2⟩)
     clear HIz HRw HBw hb7'
     obtain ⟨wB, rfl⟩ : ∃ x, x = wr := ⟨_, rfl⟩
     go_loopw [58] (fun s58 wz => ∃ (j : Nat) (dn : List Rw), s58 = .int .i64 j ∧ j ≤ rows.length ∧ Hid (Below w.heap.size w wz) ∧ Hid (LpI Rw.enc Rw.frag Rw.l Rw.sl w.heap.size wz r7 T3 rows j dn)) (fun s58 _ => rows.length - (intOf s58).toNat)
     case atStart => exact ⟨0, [], rfl, Nat.zero_le _, HB7, HI7⟩
     case round =>
      clear HI7 HW6 HB7
      obtain ⟨j, dn, rfl, hj, HBz, HIj⟩ := hrel
      by_cases hjl : j < rows.length
      ·
       have hj1 : (0 : Int) ≤ (j : Int) := by omega
       have hj2 : (j : Int) < rows.length := by omega
       obtain ⟨b7, rfl⟩ := HO7.out.1.at_ (by omega)
       have hown := HIj.out.own
       rw [drop_cons' hjl] at hown
       obtain ⟨hD7, hb7, hAt⟩ := hown.get (b := b7) (l := (dn ++ rows.getD j default :: rows.drop (j + 1)).flatMap Rw.enc) (by simp [fr1])
       have hAt0 := hAt _ _ (show ((dn ++ rows.getD j default :: rows.drop (j + 1)).flatMap Rw.enc)[j]? = some _ by have := flat_mid (enc := Rw.enc) (sz := 1) (fun _ => rfl) dn (rows.drop (j + 1)) (rows.getD j default) (j := 0) rfl; rw [HIj.out.len, Nat.mul_one, Nat.add_zero] at this; exact this)
       obtain ⟨hd0, hf0⟩ := hAt0
       have HW := H! hown
       have HRk := H! (HR7.out _ (getD_mem_of hjl))
       have Hsn := H! (take_snoc hjl)
       clear hAt hown
       generalize rows.getD j default = x at *
       obtain ⟨rl, cl, L⟩ := x
       simp only at hd0 HRk
       go_wp2_with (go_at_call 89; refine (HRk.out.2 _ (by have := HBz.out; (exact bw))).mono ?_; rintro _ w9 ⟨r9, c9, rfl, ho9, hb9⟩; have HO9 := H! ho9; clear ho9; have hb9' : Below wr.heap.size wr w9 := bw; have e0c := (hb9'.cell (p := ⟨b7, j, none⟩) hb7).trans hd0; have e0f := (hb9'.frozen (p := ⟨b7, j, none⟩) hb7).trans hf0)
       have hst := rw_step (c1 := c9) HW.out HBz.out.size hb9' HO9.out.2
       rw [HIj.out.len] at hst
       have HI9 := H! (HIj.out.snoc Hsn.out hst rfl ⟨HO9.out.1, HRk.out.1⟩)
       have HB9 := H! ((HBz.out.trans (hb9'.mono HBz.out.size)).setCell (p := ⟨b7, j, none⟩) hD7 (.slice r9 L.length c9))
       clear hst
       go_roundw
       case rel => exact ⟨j + 1, _, by go_num, by omega, HB9, HI9⟩
       case measure => simp [intOf]; omega
      ·
       obtain rfl : j = rows.length := by omega
       obtain ⟨dr, rfl⟩ : ∃ x, x = dn := ⟨_, rfl⟩
       have hlr := HIj.out.len
       have hsr := HIj.out.same
       rw [List.take_length] at hsr
       have Hsr := H! hsr
       clear hsr
       have hown := HIj.out.own
       rw [List.drop_length, List.append_nil] at hown
       obtain ⟨-, hAlt, AP⟩ := hown.get (HTa.out _ _)
       obtain ⟨-, hbC, AC⟩ := hown.get (HTb.out _ _)
       have b3c := (AP 3 _ rfl).1
       have hx0 := (AC 0 _ rfl).1
       have hx1 := (AC 1 _ rfl).1
       rw [HT3.out] at hown
       obtain ⟨-, hb6, hAt⟩ := hown.get (b := b6) (l := (done ++ ⟨rx, cx, X, ry, cy, Y, rz, cz, rows⟩ :: maps.drop (k + 1)).flatMap Mr.enc) (by simp [fr1])
       obtain ⟨hd0, hf0⟩ := hAt (k * 3) (.slice rx X.length cx) (by rw [← HI.out.len]; exact flat_mid (enc := Mr.enc) (sz := 3) (fun _ => rfl) done _ _ (j := 0) rfl)
       obtain ⟨hd1, hf1⟩ := hAt (k * 3 + 1) (.slice ry Y.length cy) (by rw [← HI.out.len]; exact flat_mid (enc := Mr.enc) (sz := 3) (fun _ => rfl) done _ _ (j := 1) rfl)
       obtain ⟨hd2, hf2⟩ := hAt (k * 3 + 2) (.slice rz rows.length cz) (by rw [← HI.out.len]; exact flat_mid (enc := Mr.enc) (sz := 3) (fun _ => rfl) done _ _ (j := 2) rfl)
       have HWn := H! hown
       have HIx17 := H! (fun W (h : Below wr.heap.size wr W) => HIx.out W (HBz.out.trans (h.mono HBz.out.size)))
       have HIy17 := H! (fun W (h : Below wr.heap.size wr W) => HIy.out W (HBz.out.trans (h.mono HBz.out.size)))
       clear AP AC hAt hown HIx HIy HR7 HTa HTb HT3
       go_upto_region 17 with fail
       refine wp_region_hd (fun w' => Below wr.heap.size wr w') (fun i => decide (i < 12)) (by kernel_rfl) ?_
       have hSd : (fun w' => Below wr.heap.size wr w') wr.drew := (Below.refl _ _).drew
       try simp only [List.size_toArray, List.length_cons, List.length_nil, Array.replicate]
       refine wpHd_load (i := 0) (v := ?_) rfl (by kernel_rfl) (by kernel_rfl) (by kernel_rfl) (by kernel_rfl) (fun _ _ _ h => h) (Or.inl ⟨by rfl, ?y22⟩) (by assumption) ?r22
       case y22 => intro w0 hSw; (try dsimp only at hSw); go_simp; try with_reducible rfl
       try simp only [Act.put, List.setIfInBounds_toArray, List.set_cons_zero, List.set_cons_succ]
       refine wpHd_load (i := 1) (v := ?_) rfl (by kernel_rfl) (by kernel_rfl) (by kernel_rfl) (by kernel_rfl) (fun _ _ _ h => h) (Or.inl ⟨by rfl, ?y23⟩) (by assumption) ?r23
       case y23 => intro w0 hSw; (try dsimp only at hSw); have hx0 := (hSw.cell (p := ⟨w.heap.size, 3, none⟩) hAlt).trans b3c; go_simp; try with_reducible rfl
       try simp only [Act.put, List.setIfInBounds_toArray, List.set_cons_zero, List.set_cons_succ]
       refine wpHd_load (i := 2) (v := ?_) rfl (by kernel_rfl) (by kernel_rfl) (by kernel_rfl) (by kernel_rfl) (fun _ _ _ h => h) (Or.inl ⟨by rfl, ?y24⟩) (by assumption) ?r24
       case y24 => intro w0 hSw; (try dsimp only at hSw); go_simp; try with_reducible rfl
       try simp only [Act.put, List.setIfInBounds_toArray, List.set_cons_zero, List.set_cons_succ]
       refine wpHd_load (i := 3) (v := ?_) rfl (by kernel_rfl) (by kernel_rfl) (by kernel_rfl) (by kernel_rfl) (fun _ _ _ h => h) (Or.inl ⟨by rfl, ?y25⟩) (by assumption) ?r25
       case y25 => intro w0 hSw; (try dsimp only at hSw); go_simp; try with_reducible rfl
       try simp only [Act.put, List.setIfInBounds_toArray, List.set_cons_zero, List.set_cons_succ]
       refine wpHd_load (i := 4) (v := ?_) rfl (by kernel_rfl) (by kernel_rfl) (by kernel_rfl) (by kernel_rfl) (fun _ _ _ h => h) (Or.inl ⟨by rfl, ?y26⟩) (by assumption) ?r26
       case y26 => intro w0 hSw; (try dsimp only at hSw); have hx0 := (hSw.cell (p := ⟨bC, 0, none⟩) hbC).trans hx0; go_simp; try with_reducible rfl
       try simp only [Act.put, List.setIfInBounds_toArray, List.set_cons_zero, List.set_cons_succ]
       refine wpHd_load (i := 6) (v := ?_) rfl (by kernel_rfl) (by kernel_rfl) (by kernel_rfl) (by kernel_rfl) (fun _ _ _ h => h) (Or.inl ⟨by rfl, ?y27⟩) (by assumption) ?r27
       case y27 => intro w0 hSw; (try dsimp only at hSw); go_simp; try with_reducible rfl
       try simp only [Act.put, List.setIfInBounds_toArray, List.set_cons_zero, List.set_cons_succ]
       refine wpHd_load (i := 7) (v := ?_) rfl (by kernel_rfl) (by kernel_rfl) (by kernel_rfl) (by kernel_rfl) (fun _ _ _ h => h) (Or.inl ⟨by rfl, ?y28⟩) (by assumption) ?r28
       case y28 => intro w0 hSw; (try dsimp only at hSw); have hx0 := (hSw.cell (p := ⟨bC, 1, none⟩) hbC).trans hx1; go_simp; try with_reducible rfl
       try simp only [Act.put, List.setIfInBounds_toArray, List.set_cons_zero, List.set_cons_succ]
       refine wpHd_load (i := 9) (v := ?_) rfl (by kernel_rfl) (by kernel_rfl) (by kernel_rfl) (by kernel_rfl) (fun _ _ _ h => h) (Or.inl ⟨by rfl, ?y29⟩) (by assumption) ?r29
       case y29 => intro w0 hSw; (try dsimp only at hSw); go_simp; try with_reducible rfl
       try simp only [Act.put, List.setIfInBounds_toArray, List.set_cons_zero, List.set_cons_succ]
       refine wpHd_one (i := 5) rfl (by kernel_rfl) (by rfl) (fun K hK => ?_)
       go_simp
       refine (HIx17.out _ hSd).mono ?_
       rintro _ w10 ⟨r10, c10, rfl, ho10, hb10⟩
       have HO10 := H! ho10
       clear ho10
       have hS10 : (fun w' => Below wr.heap.size wr w') w10 := Below.trans hSd (hb10.mono (Below.size hSd))
       refine hK _ _ (fun _ => hS10) ?_
       clear hK K
       try simp only [Act.put, List.setIfInBounds_toArray, List.set_cons_zero, List.set_cons_succ]
       refine wpHd_one (i := 8) rfl (by kernel_rfl) (by rfl) (fun K hK => ?_)
       go_simp
       refine (HIy17.out _ hS10).mono ?_
       rintro _ w11 ⟨r11, c11, rfl, ho11, hb11⟩
       have HO11 := H! ho11
       clear ho11
       have hS11 : (fun w' => Below wr.heap.size wr w') w11 := Below.trans hS10 (hb11.mono (Below.size hS10))
       refine hK _ _ (fun _ => hS11) ?_
       clear hK K
       try simp only [Act.put, List.setIfInBounds_toArray, List.set_cons_zero, List.set_cons_succ]
       refine wpHd_load (i := 10) (v := ?_) rfl (by kernel_rfl) (by kernel_rfl) (by kernel_rfl) (by kernel_rfl) (fun _ _ _ h => h) (Or.inl ⟨by rfl, ?y30⟩) (by assumption) ?r30
       case y30 => intro w0 hSw; (try dsimp only at hSw); go_simp; try with_reducible rfl
       try simp only [Act.put, List.setIfInBounds_toArray, List.set_cons_zero, List.set_cons_succ]
       refine wpHd_load (i := 11) (v := ?_) rfl (by kernel_rfl) (by kernel_rfl) (by kernel_rfl) (by kernel_rfl) (fun _ _ _ h => h) (Or.inl ⟨by rfl, ?y31⟩) (by assumption) ?r31
       case y31 => intro w0 hSw; (try dsimp only at hSw); go_simp; try with_reducible rfl
       try simp only [Act.put, List.setIfInBounds_toArray, List.set_cons_zero, List.set_cons_succ]
       have e0c := (hS11.cell (p := ⟨b6, k * 3, none⟩) hb6).trans hd0
       have e0f := (hS11.frozen (p := ⟨b6, k * 3, none⟩) hb6).trans hf0
       have e1c := (hS11.cell (p := ⟨b6, k * 3 + 1, none⟩) hb6).trans hd1
       have e1f := (hS11.frozen (p := ⟨b6, k * 3 + 1, none⟩) hb6).trans hf1
       have e2c := (hS11.cell (p := ⟨b6, k * 3 + 2, none⟩) hb6).trans hd2
       have e2f := (hS11.frozen (p := ⟨b6, k * 3 + 2, none⟩) hb6).trans hf2
       refine wpHd_one (i := 12) rfl (by kernel_rfl) (by rfl) (fun K hK => ?_)
       go_simp
       refine hK _ _ (fun h => by cases h) ?_
       clear hK K
       try simp only [Act.put, List.setIfInBounds_toArray, List.set_cons_zero, List.set_cons_succ]
       refine wpHd_done (by kernel_rfl) ?_
       have hst := mp_step (c1 := c10) (c2 := c11) (c3 := c7) HWn.out HBz.out.size ((Below.refl _ _).drew.trans hb10) HO10.out.2 hb11 HO11.out.2
       rw [HI.out.len, hlr] at hst
       have HI6 := H! (HI.out.snoc Hsn.out hst (by show (X, Y, dr.map Rw.l) = (X, Y, rows.map Rw.l); rw [Hsr.out]) ⟨⟨HO10.out.1, HgX.out.1⟩, ⟨HO11.out.1, HgX.out.2⟩, by rw [hlr]; exact HO7.out.1, HIj.out.good⟩)
       have HB9 := H! ((((HBz.out.trans (Below.mono hS11 HBz.out.size)).setCell (p := ⟨b6, k * 3, none⟩) hD6 (.slice r10 X.length c10)).setCell (p := ⟨b6, k * 3 + 1, none⟩) hD6 (.slice r11 Y.length c11)).setCell (p := ⟨b6, k * 3 + 2, none⟩) hD6 (.slice r7 rows.length c7))
       clear hst
       clear hSd hS10 hb10 hS11 hb11
       go_wp2
       go_roundw
       case rel => exact ⟨k + 1, _, by go_num, by omega, HB9, HI6⟩
       case measure => simp [intOf]; omega
    ·
     obtain rfl : k = maps.length := by omega
     obtain ⟨dmp, rfl⟩ : ∃ x, x = done := ⟨_, rfl⟩
     have hlm := HI.out.len
     have HMs := H! HI.out.same
     have HMg := H! HI.out.good
     have HF6 : Hid (OwnF w.heap.size wr ((w.heap.size, [.slice r3 code.length c3, .slice r4 types.length c4, .slice r5 curves.length c5, .slice r6 maps.length c6, .int .i64 cells, .slice ri inputs.length ci, .slice rs states.length cs, .slice ro outputs.length co, .slice rn initial.length cn]) :: ((w.heap.size + 1, [.slice none 0 0, .slice none 0 0, .slice none 0 0, .slice none 0 0, .int .i64 0, .slice none 0 0, .slice none 0 0, .slice none 0 0, .slice none 0 0]) :: (fr1 r3 (code.flatMap Ins.enc) ++ (fr1 r4 (types.flatMap Fx.enc) ++ (fr1 r5 (dcv.flatMap Cv.enc) ++ (dcv.flatMap Cv.frag ++ (fr1 r6 (dmp.flatMap Mr.enc) ++ dmp.flatMap Mr.frag)))))))) := H! (HI.out.own.cnt (fun x => by
      rw [HT2.out]
      simp only [List.drop_length, List.nil_append, List.cons_append, List.append_nil, List.count_append, List.count_cons, List.count_nil]
      omega))
     have hB6 := HB.out
     clear HI HTm2 HT2
     have HIi := H! (fun W (h : Below wr.heap.size wr W) => clN_any ri ci inputs W (HPI.out W (hB6.trans (h.mono hB6.size))).inputs HSm.out.inputs)
     have HIs := H! (fun W (h : Below wr.heap.size wr W) => clN_any rs cs states W (HPI.out W (hB6.trans (h.mono hB6.size))).states HSm.out.states)
     have HIo := H! (fun W (h : Below wr.heap.size wr W) => clN_any ro co outputs W (HPI.out W (hB6.trans (h.mono hB6.size))).outputs HSm.out.outputs)
     have HIn := H! (fun W (h : Below wr.heap.size wr W) => clN_any rn cn initial W (HPI.out W (hB6.trans (h.mono hB6.size))).initial HSm.out.initial)
     go_upto_region 19 with fail
     obtain ⟨-, hAlt, AP⟩ := HF6.out.get (b := w.heap.size) (l := [.slice r3 code.length c3, .slice r4 types.length c4, .slice r5 curves.length c5, .slice r6 maps.length c6, .int .i64 cells, .slice ri inputs.length ci, .slice rs states.length cs, .slice ro outputs.length co, .slice rn initial.length cn]) (by simp)
     have b5c := (AP 5 _ rfl).1
     have b5f := (AP 5 _ rfl).2
     have b6c := (AP 6 _ rfl).1
     have b6f := (AP 6 _ rfl).2
     have b7c := (AP 7 _ rfl).1
     have b7f := (AP 7 _ rfl).2
     have b8c := (AP 8 _ rfl).1
     have b8f := (AP 8 _ rfl).2
     clear AP
     refine wp_region_hd (fun w' => Below wr.heap.size wr w') (fun i => decide (i < 12)) (by kernel_rfl) ?_
     have hSd : (fun w' => Below wr.heap.size wr w') wr.drew := (Below.refl _ _).drew
     try simp only [List.size_toArray, List.length_cons, List.length_nil, Array.replicate]
     refine wpHd_load (i := 0) (v := ?_) rfl (by kernel_rfl) (by kernel_rfl) (by kernel_rfl) (by kernel_rfl) (fun _ _ _ h => h) (Or.inl ⟨by rfl, ?y32⟩) (by assumption) ?r32
     case y32 => intro w0 hSw; (try dsimp only at hSw); go_simp; try with_reducible rfl
     try simp only [Act.put, List.setIfInBounds_toArray, List.set_cons_zero, List.set_cons_succ]
     refine wpHd_load (i := 1) (v := ?_) rfl (by kernel_rfl) (by kernel_rfl) (by kernel_rfl) (by kernel_rfl) (fun _ _ _ h => h) (Or.inl ⟨by rfl, ?y33⟩) (by assumption) ?r33
     case y33 => intro w0 hSw; (try dsimp only at hSw); have hx0 := (hSw.cell (p := ⟨w.heap.size, 5, none⟩) hAlt).trans b5c; go_simp; try with_reducible rfl
     try simp only [Act.put, List.setIfInBounds_toArray, List.set_cons_zero, List.set_cons_succ]
     refine wpHd_load (i := 3) (v := ?_) rfl (by kernel_rfl) (by kernel_rfl) (by kernel_rfl) (by kernel_rfl) (fun _ _ _ h => h) (Or.inl ⟨by rfl, ?y34⟩) (by assumption) ?r34
     case y34 => intro w0 hSw; (try dsimp only at hSw); go_simp; try with_reducible rfl
     try simp only [Act.put, List.setIfInBounds_toArray, List.set_cons_zero, List.set_cons_succ]
     refine wpHd_load (i := 4) (v := ?_) rfl (by kernel_rfl) (by kernel_rfl) (by kernel_rfl) (by kernel_rfl) (fun _ _ _ h => h) (Or.inl ⟨by rfl, ?y35⟩) (by assumption) ?r35
     case y35 => intro w0 hSw; (try dsimp only at hSw); have hx0 := (hSw.cell (p := ⟨w.heap.size, 6, none⟩) hAlt).trans b6c; go_simp; try with_reducible rfl
     try simp only [Act.put, List.setIfInBounds_toArray, List.set_cons_zero, List.set_cons_succ]
     refine wpHd_load (i := 6) (v := ?_) rfl (by kernel_rfl) (by kernel_rfl) (by kernel_rfl) (by kernel_rfl) (fun _ _ _ h => h) (Or.inl ⟨by rfl, ?y36⟩) (by assumption) ?r36
     case y36 => intro w0 hSw; (try dsimp only at hSw); go_simp; try with_reducible rfl
     try simp only [Act.put, List.setIfInBounds_toArray, List.set_cons_zero, List.set_cons_succ]
     refine wpHd_load (i := 7) (v := ?_) rfl (by kernel_rfl) (by kernel_rfl) (by kernel_rfl) (by kernel_rfl) (fun _ _ _ h => h) (Or.inl ⟨by rfl, ?y37⟩) (by assumption) ?r37
     case y37 => intro w0 hSw; (try dsimp only at hSw); have hx0 := (hSw.cell (p := ⟨w.heap.size, 7, none⟩) hAlt).trans b7c; go_simp; try with_reducible rfl
     try simp only [Act.put, List.setIfInBounds_toArray, List.set_cons_zero, List.set_cons_succ]
     refine wpHd_load (i := 9) (v := ?_) rfl (by kernel_rfl) (by kernel_rfl) (by kernel_rfl) (by kernel_rfl) (fun _ _ _ h => h) (Or.inl ⟨by rfl, ?y38⟩) (by assumption) ?r38
     case y38 => intro w0 hSw; (try dsimp only at hSw); go_simp; try with_reducible rfl
     try simp only [Act.put, List.setIfInBounds_toArray, List.set_cons_zero, List.set_cons_succ]
     refine wpHd_load (i := 10) (v := ?_) rfl (by kernel_rfl) (by kernel_rfl) (by kernel_rfl) (by kernel_rfl) (fun _ _ _ h => h) (Or.inl ⟨by rfl, ?y39⟩) (by assumption) ?r39
     case y39 => intro w0 hSw; (try dsimp only at hSw); have hx0 := (hSw.cell (p := ⟨w.heap.size, 8, none⟩) hAlt).trans b8c; go_simp; try with_reducible rfl
     try simp only [Act.put, List.setIfInBounds_toArray, List.set_cons_zero, List.set_cons_succ]
     refine wpHd_one (i := 2) rfl (by kernel_rfl) (by rfl) (fun K hK => ?_)
     go_simp
     refine (HIi.out _ hSd).mono ?_
     rintro _ w12 ⟨r12, c12, rfl, ho12, hb12⟩
     have HO12 := H! ho12
     clear ho12
     have hS12 : (fun w' => Below wr.heap.size wr w') w12 := Below.trans hSd (hb12.mono (Below.size hSd))
     refine hK _ _ (fun _ => hS12) ?_
     clear hK K
     try simp only [Act.put, List.setIfInBounds_toArray, List.set_cons_zero, List.set_cons_succ]
     refine wpHd_any (i := 12) (v := ?_) rfl (by kernel_rfl) (by kernel_rfl) (by kernel_rfl) (by kernel_rfl) (fun _ _ _ h => h) (Or.inl ⟨by rfl, ?y40⟩) ?r40
     case y40 => intro w0 hSw; go_simp; try with_reducible rfl
     try simp only [Act.put, List.setIfInBounds_toArray, List.set_cons_zero, List.set_cons_succ]
     refine wpHd_one (i := 5) rfl (by kernel_rfl) (by rfl) (fun K hK => ?_)
     go_simp
     refine (HIs.out _ hS12).mono ?_
     rintro _ w13 ⟨r13, c13, rfl, ho13, hb13⟩
     have HO13 := H! ho13
     clear ho13
     have hS13 : (fun w' => Below wr.heap.size wr w') w13 := Below.trans hS12 (hb13.mono (Below.size hS12))
     refine hK _ _ (fun _ => hS13) ?_
     clear hK K
     try simp only [Act.put, List.setIfInBounds_toArray, List.set_cons_zero, List.set_cons_succ]
     refine wpHd_one (i := 8) rfl (by kernel_rfl) (by rfl) (fun K hK => ?_)
     go_simp
     refine (HIo.out _ hS13).mono ?_
     rintro _ w14 ⟨r14, c14, rfl, ho14, hb14⟩
     have HO14 := H! ho14
     clear ho14
     have hS14 : (fun w' => Below wr.heap.size wr w') w14 := Below.trans hS13 (hb14.mono (Below.size hS13))
     refine hK _ _ (fun _ => hS14) ?_
     clear hK K
     try simp only [Act.put, List.setIfInBounds_toArray, List.set_cons_zero, List.set_cons_succ]
     refine wpHd_one (i := 11) rfl (by kernel_rfl) (by rfl) (fun K hK => ?_)
     go_simp
     refine (HIn.out _ hS14).mono ?_
     rintro _ w15 ⟨r15, c15, rfl, ho15, hb15⟩
     have HO15 := H! ho15
     clear ho15
     have hS15 : (fun w' => Below wr.heap.size wr w') w15 := Below.trans hS14 (hb15.mono (Below.size hS14))
     refine hK _ _ (fun _ => hS15) ?_
     clear hK K
     try simp only [Act.put, List.setIfInBounds_toArray, List.set_cons_zero, List.set_cons_succ]
     have e5c := (Below.cell (p := ⟨w.heap.size, 5, none⟩) hS15 hAlt).trans b5c
     have e5f := (Below.frozen (p := ⟨w.heap.size, 5, none⟩) hS15 hAlt).trans b5f
     have e6c := (Below.cell (p := ⟨w.heap.size, 6, none⟩) hS15 hAlt).trans b6c
     have e6f := (Below.frozen (p := ⟨w.heap.size, 6, none⟩) hS15 hAlt).trans b6f
     have e7c := (Below.cell (p := ⟨w.heap.size, 7, none⟩) hS15 hAlt).trans b7c
     have e7f := (Below.frozen (p := ⟨w.heap.size, 7, none⟩) hS15 hAlt).trans b7f
     have e8c := (Below.cell (p := ⟨w.heap.size, 8, none⟩) hS15 hAlt).trans b8c
     have e8f := (Below.frozen (p := ⟨w.heap.size, 8, none⟩) hS15 hAlt).trans b8f
     refine wpHd_one (i := 13) rfl (by kernel_rfl) (by rfl) (fun K hK => ?_)
     go_simp
     refine hK _ _ (fun h => by cases h) ?_
     clear hK K
     try simp only [Act.put, List.setIfInBounds_toArray, List.set_cons_zero, List.set_cons_succ]
     refine wpHd_any (i := 14) (v := ?_) rfl (by kernel_rfl) (by kernel_rfl) (by kernel_rfl) (by kernel_rfl) (fun _ _ _ h => h) (Or.inl ⟨by rfl, ?y41⟩) ?r41
     case y41 => intro w0 hSw; go_simp; try with_reducible rfl
     try simp only [Act.put, List.setIfInBounds_toArray, List.set_cons_zero, List.set_cons_succ]
     refine wpHd_one (i := 15) rfl (by kernel_rfl) (by rfl) (fun K hK => ?_)
     go_simp
     refine hK _ _ (fun h => by cases h) ?_
     clear hK K
     try simp only [Act.put, List.setIfInBounds_toArray, List.set_cons_zero, List.set_cons_succ]
     refine wpHd_any (i := 16) (v := ?_) rfl (by kernel_rfl) (by kernel_rfl) (by kernel_rfl) (by kernel_rfl) (fun _ _ _ h => h) (Or.inl ⟨by rfl, ?y42⟩) ?r42
     case y42 => intro w0 hSw; go_simp; try with_reducible rfl
     try simp only [Act.put, List.setIfInBounds_toArray, List.set_cons_zero, List.set_cons_succ]
     refine wpHd_one (i := 17) rfl (by kernel_rfl) (by rfl) (fun K hK => ?_)
     go_simp
     refine hK _ _ (fun h => by cases h) ?_
     clear hK K
     try simp only [Act.put, List.setIfInBounds_toArray, List.set_cons_zero, List.set_cons_succ]
     refine wpHd_any (i := 18) (v := ?_) rfl (by kernel_rfl) (by kernel_rfl) (by kernel_rfl) (by kernel_rfl) (fun _ _ _ h => h) (Or.inl ⟨by rfl, ?y43⟩) ?r43
     case y43 => intro w0 hSw; go_simp; try with_reducible rfl
     try simp only [Act.put, List.setIfInBounds_toArray, List.set_cons_zero, List.set_cons_succ]
     refine wpHd_one (i := 19) rfl (by kernel_rfl) (by rfl) (fun K hK => ?_)
     go_simp
     refine hK _ _ (fun h => by cases h) ?_
     clear hK K
     try simp only [Act.put, List.setIfInBounds_toArray, List.set_cons_zero, List.set_cons_succ]
     refine wpHd_done (by kernel_rfl) ?_
     have hG12 := HF6.out.addF (show Below wr.heap.size wr w12 from (Below.refl _ _).drew.trans hb12) (Nat.le_of_lt hAlt) HO12.out.2
     have hG13 := hG12.addF hb13 (Nat.le_trans (Nat.le_of_lt hAlt) (Below.size hS12)) HO13.out.2
     have hG14 := hG13.addF hb14 (Nat.le_trans (Nat.le_of_lt hAlt) (Below.size hS13)) HO14.out.2
     have hG15 := hG14.addF hb15 (Nat.le_trans (Nat.le_of_lt hAlt) (Below.size hS14)) HO15.out.2
     simp only [List.cons_append, List.nil_append] at hG15
     have hH12 := OwnF.set (F1 := []) (i := 5) hG15 (by simp) (.slice r12 inputs.length c12)
     have hH13 := OwnF.set (F1 := []) (i := 6) hH12 (by simp) (.slice r13 states.length c13)
     have hH14 := OwnF.set (F1 := []) (i := 7) hH13 (by simp) (.slice r14 outputs.length c14)
     have hH15 := OwnF.set (F1 := []) (i := 8) hH14 (by simp) (.slice r15 initial.length c15)
     simp only [List.nil_append, List.set_cons_zero, List.set_cons_succ] at hH15
     have hB20 : Below w.heap.size w ((((w15.setCell ⟨w.heap.size, 5, none⟩ (.slice r12 inputs.length c12)).setCell ⟨w.heap.size, 6, none⟩ (.slice r13 states.length c13)).setCell ⟨w.heap.size, 7, none⟩ (.slice r14 outputs.length c14)).setCell ⟨w.heap.size, 8, none⟩ (.slice r15 initial.length c15)) := by have := hB6.trans (Below.mono hS15 hB6.size); (exact bw)
     have HF20 := H! hH15
     clear hG12 hH12 hG13 hH13 hG14 hH14 hG15 hH15 b5c b5f e5c e5f b6c b6f e6c e6f b7c b7f e7c e7f b8c b8f e8c e8f
     generalize ((((w15.setCell ⟨w.heap.size, 5, none⟩ (.slice r12 inputs.length c12)).setCell ⟨w.heap.size, 6, none⟩ (.slice r13 states.length c13)).setCell ⟨w.heap.size, 7, none⟩ (.slice r14 outputs.length c14)).setCell ⟨w.heap.size, 8, none⟩ (.slice r15 initial.length c15)) = W20 at *
     clear hAlt hSd hS12 hb12 hS13 hb13 hS14 hb14 hS15 hb15 HF6
     obtain ⟨-, hAlt, AP⟩ := HF20.out.get (b := w.heap.size) (l := [.slice r3 code.length c3, .slice r4 types.length c4, .slice r5 curves.length c5, .slice r6 maps.length c6, .int .i64 cells, .slice r12 inputs.length c12, .slice r13 states.length c13, .slice r14 outputs.length c14, .slice r15 initial.length c15]) (by simp)
     obtain ⟨-, hAlt1, AR⟩ := HF20.out.get (b := w.heap.size + 1) (l := [.slice none 0 0, .slice none 0 0, .slice none 0 0, .slice none 0 0, .int .i64 0, .slice none 0 0, .slice none 0 0, .slice none 0 0, .slice none 0 0]) (by simp)
     have b0c := (AP 0 _ rfl).1
     have z0c := (AR 0 _ rfl).1
     have z0f := (AR 0 _ rfl).2
     have b1c := (AP 1 _ rfl).1
     have z1c := (AR 1 _ rfl).1
     have z1f := (AR 1 _ rfl).2
     have b2c := (AP 2 _ rfl).1
     have z2c := (AR 2 _ rfl).1
     have z2f := (AR 2 _ rfl).2
     have b3c := (AP 3 _ rfl).1
     have z3c := (AR 3 _ rfl).1
     have z3f := (AR 3 _ rfl).2
     have b4c := (AP 4 _ rfl).1
     have z4c := (AR 4 _ rfl).1
     have z4f := (AR 4 _ rfl).2
     have b5c := (AP 5 _ rfl).1
     have z5c := (AR 5 _ rfl).1
     have z5f := (AR 5 _ rfl).2
     have b6c := (AP 6 _ rfl).1
     have z6c := (AR 6 _ rfl).1
     have z6f := (AR 6 _ rfl).2
     have b7c := (AP 7 _ rfl).1
     have z7c := (AR 7 _ rfl).1
     have z7f := (AR 7 _ rfl).2
     have b8c := (AP 8 _ rfl).1
     have z8c := (AR 8 _ rfl).1
     have z8f := (AR 8 _ rfl).2
     clear AP AR
     go_wp2
     refine bodyPost_ret (by simp [results, Try.results50, go_sem, *]; try rfl) rfl ?_
     have hnd := HF20.out.1
     simp only [List.map_cons, List.nodup_cons] at hnd
     have hne : ∀ p ∈ (fr1 r3 (code.flatMap Ins.enc) ++ (fr1 r4 (types.flatMap Fx.enc) ++ (fr1 r5 (dcv.flatMap Cv.enc) ++ (dcv.flatMap Cv.frag ++ (fr1 r6 (dmp.flatMap Mr.enc) ++ dmp.flatMap Mr.frag)))) ++ fr1 r12 (inputs.map (Value.int .i64)) ++ fr1 r13 (states.map (Value.int .i64)) ++ fr1 r14 (outputs.map (Value.int .i64)) ++ fr1 r15 (initial.map (Value.int .i64))), p.1 ≠ w.heap.size + 1 := fun p hp e => hnd.2.1 (by rw [← e]; exact List.mem_map_of_mem hp)
     have hfr := HF20.out.sub (F' := (fr1 r3 (code.flatMap Ins.enc) ++ (fr1 r4 (types.flatMap Fx.enc) ++ (fr1 r5 (dcv.flatMap Cv.enc) ++ (dcv.flatMap Cv.frag ++ (fr1 r6 (dmp.flatMap Mr.enc) ++ dmp.flatMap Mr.frag)))) ++ fr1 r12 (inputs.map (Value.int .i64)) ++ fr1 r13 (states.map (Value.int .i64)) ++ fr1 r14 (outputs.map (Value.int .i64)) ++ fr1 r15 (initial.map (Value.int .i64)))) ((List.sublist_cons_self _ _).trans (List.sublist_cons_self _ _))
     have hf9 := (((((((((hfr.setoff hne 0 (.slice r3 code.length c3)).setoff hne 1 (.slice r4 types.length c4)).setoff hne 2 (.slice r5 curves.length c5)).setoff hne 3 (.slice r6 maps.length c6)).setoff hne 4 (.int .i64 cells)).setoff hne 5 (.slice r12 inputs.length c12)).setoff hne 6 (.slice r13 states.length c13)).setoff hne 7 (.slice r14 outputs.length c14)).setoff hne 8 (.slice r15 initial.length c15))
     refine ⟨⟨r3, c3, code, r4, c4, types, r5, c5, dcv, r6, c6, dmp, cells, r12, c12, inputs, r13, c13, states, r14, c14, outputs, r15, c15, initial⟩, ?_, ⟨?_, ?_⟩, ?_, ?_⟩
     ·
      simp only [PV.val, PL.v, List.length_map, hlc, hlm]
     ·
      refine hf9.cnt (fun x => ?_)
      simp only [PL.frag, List.count_append]
      omega
     ·
      exact ⟨HO3.out.1, (HPI.out w (Below.refl _ _)).codeG, HO4.out.1, (HPI.out w (Below.refl _ _)).typesG, by rw [hlc]; exact HO5.out.1, HCg.out, by rw [hlm]; exact HO6.out.1, HMg.out, (HPI.out w (Below.refl _ _)).cells, ⟨HO12.out.1, (HPI.out w (Below.refl _ _)).inputs.wf⟩, ⟨HO13.out.1, (HPI.out w (Below.refl _ _)).states.wf⟩, ⟨HO14.out.1, (HPI.out w (Below.refl _ _)).outputs.wf⟩, ⟨HO15.out.1, (HPI.out w (Below.refl _ _)).initial.wf⟩⟩
     ·
      have h1 := HCs.out
      have h2 := HMs.out
      rw [List.take_length] at h1 h2
      simp only [PV.p, PL.v, List.map_map]
      rw [h1, show (Mp.p ∘ Mr.m) = (fun m : Mr => m.m.p) from rfl, h2]
     ·
      exact (((((((((hB20.setCell (p := ⟨w.heap.size + 1, 0, none⟩) (Nat.le_succ _) (.slice r3 code.length c3)).setCell (p := ⟨w.heap.size + 1, 1, none⟩) (Nat.le_succ _) (.slice r4 types.length c4)).setCell (p := ⟨w.heap.size + 1, 2, none⟩) (Nat.le_succ _) (.slice r5 curves.length c5)).setCell (p := ⟨w.heap.size + 1, 3, none⟩) (Nat.le_succ _) (.slice r6 maps.length c6)).setCell (p := ⟨w.heap.size + 1, 4, none⟩) (Nat.le_succ _) (.int .i64 cells)).setCell (p := ⟨w.heap.size + 1, 5, none⟩) (Nat.le_succ _) (.slice r12 inputs.length c12)).setCell (p := ⟨w.heap.size + 1, 6, none⟩) (Nat.le_succ _) (.slice r13 states.length c13)).setCell (p := ⟨w.heap.size + 1, 7, none⟩) (Nat.le_succ _) (.slice r14 outputs.length c14)).setCell (p := ⟨w.heap.size + 1, 8, none⟩) (Nat.le_succ _) (.slice r15 initial.length c15))
end Go.Proofs.Ytfooefiaenlhmaa
