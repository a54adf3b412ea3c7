/- The law ImageLocal returns true for all programs and numbers. No conditions. Printed by a program. -/
import Derived.Test.YtfooefiaenlhmaaGreatGB1
import Derived.Test.YtfooefiaenlhmaaGreatGB2
import Derived.Test.YtfooefiaenlhmaaGreatGB3
import Derived.Test.YtfooefiaenlhmaaGreatGB4
import Derived.Test.YtfooefiaenlhmaaGreatGB5
import Derived.Test.YtfooefiaenlhmaaGreatGB6
import Derived.Test.YtfooefiaenlhmaaGreatGB7
import Derived.Test.YtfooefiaenlhmaaGreatGB8
import Derived.Test.YtfooefiaenlhmaaGreatGB9
import Derived.Test.YtfooefiaenlhmaaGreatGB10
import Derived.Test.YtfooefiaenlhmaaGreatGB11
import Derived.Test.YtfooefiaenlhmaaGreatGB12
import Derived.Test.YtfooefiaenlhmaaGreatGB13
import Derived.Test.YtfooefiaenlhmaaGreatGB14
import Derived.Test.YtfooefiaenlhmaaGreatGB15
import Derived.Test.YtfooefiaenlhmaaGreatGB16
import Derived.Test.YtfooefiaenlhmaaGreatGB17
import Derived.Test.YtfooefiaenlhmaaGreatGB18
import Derived.Test.YtfooefiaenlhmaaGreatGB19
import Derived.Test.YtfooefiaenlhmaaGreatGB20
import Derived.Test.YtfooefiaenlhmaaGreatGB21
import Derived.Deep.Cut
set_option maxRecDepth 100000
namespace Go.Proofs.YtfooefiaenlhmaaGreat
set_option linter.all false
set_option maxHeartbeats 16000000
open Go.RowKit Go.ChangeShapes Go.WideShapes Go.ChangeAt
theorem yht (W : World) : Calls Tryz.prog 11 #[.agg #[.slice none 0 0, .slice none 0 0, .slice none 0 0, .slice none 0 0, .int .i64 0, .slice none 0 0, .slice none 0 0, .slice none 0 0, .slice none 0 0]] W fun e w' => e = .returned (.bool true) ∧ Below W.heap.size W w' := by
 have h := yit pv0 W (isP0 W) (by have : pv0.p.body.length = 72 := rfl; omega)
 rw [show decide (pv0.p.body = pp0.body) = true from decide_eq_true rfl] at h
 exact h
theorem yhr {W : World} {p : PL} (h : IsL W p) : ∀ x ∈ p.params, I64 x := fun x hx => by
 unfold PL.params PL.parI PL.parC PL.parM at hx
 simp only [List.mem_append, List.mem_flatMap] at hx
 rcases hx with ⟨c, hc, hx⟩ | ⟨c, hc, hx⟩ | ⟨m, hm, hx⟩
 ·
  unfold Ins.par at hx
  split at hx
  ·
   obtain rfl : x = c.k := by simpa using hx
   exact (h.codeG c hc).2.2.2.2
  ·
   simp at hx
 ·
  exact (h.curvesG c hc).2.wf x hx
 ·
  unfold Mr.par at hx
  obtain ⟨y, hy, hx⟩ := List.mem_flatMap.1 hx
  exact ((h.mapsG m hm).2.2.2 y hy).wf x hx
theorem loc_q {w : World} {p : PL} {k : Nat} {v : Int} (hp : IsL w p) (hlen : p.v.p.body.length ≤ 90000) (hv : yas p.v = true) (hI : I64 v) (hk : k < p.params.length) (hok : okP (p.v.p.patch k v) = true) (q : PL) (hq : q.v.p = p.v.p.patch k v) :
  (∀ W, IsL W q → Calls Tryz.prog 8 #[q.v.val] W fun e w' => ∃ r c, e = .returned (.tuple #[.slice r p.params.length c, .int .i64 0]) ∧ OwnK .i64 3 w' W.heap.size r c (p.params.set k v) ∧ Below W.heap.size W w') ∧
  (∀ W, IsL W q → Calls Tryz.prog 10 #[q.v.val] W fun e w' => e = .returned (.bool true) ∧ Below W.heap.size W w') ∧
  (∀ W, IsL W q → Calls Tryz.prog 9 #[q.v.val, .int .i64 k, .int .i64 (p.params.getD k 0)] W fun e w' => ∃ r : PV, e = .returned (.tuple #[r.val, .int .i64 0]) ∧ IsP w' r ∧ r.p = p.v.p ∧ Below W.heap.size W w') ∧
  q.xY.length = p.xY.length ∧ ∀ (j : Nat) x, p.xY[j]? = some x → ∃ z, q.xY[j]? = some (x.put z v) := by
 have e1 : q.params = p.params.set k v := by
  have h := yiz p.v.p k v
  rw [← hq, ydo, ydo] at h
  rw [h]
  unfold setZ
  rw [if_pos ⟨by omega, by omega⟩, Int.toNat_natCast]
 have e2 : q.params.length = p.params.length := by rw [e1, List.length_set]
 have e3 : yas q.v = true := by rw [← yjc, hq]; exact hok
 have e4 : q.v.p.body.length ≤ 90000 := by rw [hq, yhq]; exact hlen
 have e5 : q.xY = updI p.xY k v := congrArg PP.xY hq
 have e6 : p.params.getD k 0 ∈ p.params := by simp [List.getD, List.getElem?_eq_getElem hk]
 have hpl := yda hlen
 refine ⟨fun W h => ?_, fun W h => ?_, fun W h => ?_, by rw [e5, ybq], fun j x hj => ?_⟩
 ·
  have h1 := ydr q W h e3 (by omega)
  rw [e2, e1] at h1
  exact h1
 ·
  have h1 := ybl q.v W h.isP
  rwa [e3] at h1
 ·
  refine (ych q k (p.params.getD k 0) W h (PL.sm (by omega)) e3 (yhr hp _ e6) (by omega)).mono fun _ _ h2 => ?_
  have e7 : q.v.p.patch k (p.params.getD k 0) = p.v.p := by
   rw [hq]
   refine ylk p.v.p k v _ (fun _ => ?_)
   rw [ydo, Int.toNat_natCast]
  rcases h2 with ⟨_, r, h3, h4, h5, h6⟩ | ⟨h3, _⟩
  ·
   exact ⟨r.v, h3, h4.isL.isP, by rw [h5, e7], h6⟩
  ·
   exact absurd ⟨⟨by omega, by omega⟩, by rw [e7, yjc]; exact hv⟩ h3
 ·
  rw [e5]
  exact yma p.xY k v hj
theorem il_great (p : PL) (i v : Int) (w : World) (hp : IsL w p) (hg : yco p.v = true) : Calls Tryz.prog 4 #[p.v.val, .int .i64 i, .int .i64 v] w fun e w' => e = .returned (.bool true) ∧ Below w.heap.size w w' := by
 have HG := H! (fun W (h : Below w.heap.size w W) => ybs p.v W (hp.later h).isP)
 rw [hg] at HG
 clear hg hp
 obtain ⟨rc, cc, xY, rt, ct, tY, rv, cv, zY, rm, cm, mY, cells, ri, ci, qY, rs, cs, sY, ro, co, oY, rn, cn, iY⟩ := p
 simp only [PV.val, PL.v, List.length_map] at *
 go_enter Tryz.func4, Tryz.ntmps4
 go_wp2_with (first | (go_at_call 6; refine (ybt _).mono ?_; rintro e hb0w ⟨rfl, hb0⟩; obtain ⟨hb0c, hb0f⟩ := yah hb0; have hb0s := hb0.size; (try simp only [zA] at hb0s); (try (have : w.heap.size < hb0w.heap.size := by omega)); (try (have : w.heap.size + 1 < hb0w.heap.size := by omega)); (try (have : w.heap.size + 1 + 1 < hb0w.heap.size := by omega)); (try (have : w.heap.size + 1 + 1 + 1 < hb0w.heap.size := by omega)); (try (have : bX < hb0w.heap.size := by omega)); (try (have : bY < hb0w.heap.size := by omega)); (try (have : bZ < hb0w.heap.size := by omega))) | (go_at_call 7; refine (HG.out _ bw).mono ?_; rintro e hb1w ⟨rfl, hb1⟩; obtain ⟨hb1c, hb1f⟩ := yah hb1; have hb1s := hb1.size; (try simp only [zA] at hb1s); (try (have : w.heap.size < hb1w.heap.size := by omega)); (try (have : w.heap.size + 1 < hb1w.heap.size := by omega)); (try (have : w.heap.size + 1 + 1 < hb1w.heap.size := by omega)); (try (have : w.heap.size + 1 + 1 + 1 < hb1w.heap.size := by omega)); (try (have : bX < hb1w.heap.size := by omega)); (try (have : bY < hb1w.heap.size := by omega)); (try (have : bZ < hb1w.heap.size := by omega))))
 go_ret
 exact ⟨by first | rfl | (simp; done), bw⟩
theorem il_no1 (p : PL) (i v : Int) (w : World) (hp : IsL w p) (hg : yco p.v = false) (HPt : Hid (∀ W, Below w.heap.size w W → Calls Tryz.prog 9 #[p.v.val, .int .i64 i, .int .i64 v] W fun e w' => e = .returned (.tuple #[.agg #[.slice none 0 0, .slice none 0 0, .slice none 0 0, .slice none 0 0, .int .i64 0, .slice none 0 0, .slice none 0 0, .slice none 0 0, .slice none 0 0], .int .i64 1]) ∧ Below W.heap.size W w')) : Calls Tryz.prog 4 #[p.v.val, .int .i64 i, .int .i64 v] w fun e w' => e = .returned (.bool true) ∧ Below w.heap.size w w' := by
 have HG := H! (fun W (h : Below w.heap.size w W) => ybs p.v W (hp.later h).isP)
 have HNN := H! yht
 rw [hg] at HG
 clear hg hp
 obtain ⟨rc, cc, xY, rt, ct, tY, rv, cv, zY, rm, cm, mY, cells, ri, ci, qY, rs, cs, sY, ro, co, oY, rn, cn, iY⟩ := p
 simp only [PV.val, PL.v, List.length_map] at *
 go_enter Tryz.func4, Tryz.ntmps4
 go_wp2_with (first | (go_at_call 6; refine (ybt _).mono ?_; rintro e hb0w ⟨rfl, hb0⟩; obtain ⟨hb0c, hb0f⟩ := yah hb0; have hb0s := hb0.size; (try simp only [zA] at hb0s); (try (have : w.heap.size < hb0w.heap.size := by omega)); (try (have : w.heap.size + 1 < hb0w.heap.size := by omega)); (try (have : w.heap.size + 1 + 1 < hb0w.heap.size := by omega)); (try (have : w.heap.size + 1 + 1 + 1 < hb0w.heap.size := by omega)); (try (have : bX < hb0w.heap.size := by omega)); (try (have : bY < hb0w.heap.size := by omega)); (try (have : bZ < hb0w.heap.size := by omega))) | (go_at_call 7; refine (HG.out _ bw).mono ?_; rintro e hb1w ⟨rfl, hb1⟩; obtain ⟨hb1c, hb1f⟩ := yah hb1; have hb1s := hb1.size; (try simp only [zA] at hb1s); (try (have : w.heap.size < hb1w.heap.size := by omega)); (try (have : w.heap.size + 1 < hb1w.heap.size := by omega)); (try (have : w.heap.size + 1 + 1 < hb1w.heap.size := by omega)); (try (have : w.heap.size + 1 + 1 + 1 < hb1w.heap.size := by omega)); (try (have : bX < hb1w.heap.size := by omega)); (try (have : bY < hb1w.heap.size := by omega)); (try (have : bZ < hb1w.heap.size := by omega))) | (go_at_call 9; with_reducible (refine (HPt.out _ ?sd).mono ?_); (case sd => (exact bw)); rintro _ w3 ⟨rfl, hb3⟩; obtain ⟨hb3c, hb3f⟩ := yah hb3; have hb3s := hb3.size; (try simp only [zA] at hb3s); have hb3x : w.heap.size < w3.heap.size := (by omega)) | (go_at_call 11; with_reducible (refine (HNN.out _).mono ?_); skip; rintro _ w9 ⟨rfl, hb9⟩; obtain ⟨hb9c, hb9f⟩ := yah hb9; have hb9s := hb9.size; (try simp only [zA] at hb9s); have hb9x : w.heap.size < w9.heap.size := (by omega); have hb9x3 : w3.heap.size < w9.heap.size := (by omega)))
 go_ret
 exact ⟨by first | rfl | (simp; done), bw⟩
theorem il_no2 (p : PL) (i v : Int) (w : World) (hp : IsL w p) (hg : yco p.v = false) (HPt : Hid (∀ W, Below w.heap.size w W → Calls Tryz.prog 9 #[p.v.val, .int .i64 i, .int .i64 v] W fun e w' => e = .returned (.tuple #[.agg #[.slice none 0 0, .slice none 0 0, .slice none 0 0, .slice none 0 0, .int .i64 0, .slice none 0 0, .slice none 0 0, .slice none 0 0, .slice none 0 0], .int .i64 2]) ∧ Below W.heap.size W w')) : Calls Tryz.prog 4 #[p.v.val, .int .i64 i, .int .i64 v] w fun e w' => e = .returned (.bool true) ∧ Below w.heap.size w w' := by
 have HG := H! (fun W (h : Below w.heap.size w W) => ybs p.v W (hp.later h).isP)
 have HNN := H! yht
 rw [hg] at HG
 clear hg hp
 obtain ⟨rc, cc, xY, rt, ct, tY, rv, cv, zY, rm, cm, mY, cells, ri, ci, qY, rs, cs, sY, ro, co, oY, rn, cn, iY⟩ := p
 simp only [PV.val, PL.v, List.length_map] at *
 go_enter Tryz.func4, Tryz.ntmps4
 go_wp2_with (first | (go_at_call 6; refine (ybt _).mono ?_; rintro e hb0w ⟨rfl, hb0⟩; obtain ⟨hb0c, hb0f⟩ := yah hb0; have hb0s := hb0.size; (try simp only [zA] at hb0s); (try (have : w.heap.size < hb0w.heap.size := by omega)); (try (have : w.heap.size + 1 < hb0w.heap.size := by omega)); (try (have : w.heap.size + 1 + 1 < hb0w.heap.size := by omega)); (try (have : w.heap.size + 1 + 1 + 1 < hb0w.heap.size := by omega)); (try (have : bX < hb0w.heap.size := by omega)); (try (have : bY < hb0w.heap.size := by omega)); (try (have : bZ < hb0w.heap.size := by omega))) | (go_at_call 7; refine (HG.out _ bw).mono ?_; rintro e hb1w ⟨rfl, hb1⟩; obtain ⟨hb1c, hb1f⟩ := yah hb1; have hb1s := hb1.size; (try simp only [zA] at hb1s); (try (have : w.heap.size < hb1w.heap.size := by omega)); (try (have : w.heap.size + 1 < hb1w.heap.size := by omega)); (try (have : w.heap.size + 1 + 1 < hb1w.heap.size := by omega)); (try (have : w.heap.size + 1 + 1 + 1 < hb1w.heap.size := by omega)); (try (have : bX < hb1w.heap.size := by omega)); (try (have : bY < hb1w.heap.size := by omega)); (try (have : bZ < hb1w.heap.size := by omega))) | (go_at_call 9; with_reducible (refine (HPt.out _ ?sd).mono ?_); (case sd => (exact bw)); rintro _ w3 ⟨rfl, hb3⟩; obtain ⟨hb3c, hb3f⟩ := yah hb3; have hb3s := hb3.size; (try simp only [zA] at hb3s); have hb3x : w.heap.size < w3.heap.size := (by omega)) | (go_at_call 11; with_reducible (refine (HNN.out _).mono ?_); skip; rintro _ w9 ⟨rfl, hb9⟩; obtain ⟨hb9c, hb9f⟩ := yah hb9; have hb9s := hb9.size; (try simp only [zA] at hb9s); have hb9x : w.heap.size < w9.heap.size := (by omega); have hb9x3 : w3.heap.size < w9.heap.size := (by omega)))
 go_ret
 exact ⟨by first | rfl | (simp; done), bw⟩
theorem il_ok (p : PL) (k : Nat) (v : Int) (w : World) (hp : IsL w p) (hI : I64 v) (hg : yco p.v = false) (hv : yas p.v = true) (hk : k < p.params.length) (hok : okP (p.v.p.patch k v) = true) : Calls Tryz.prog 4 #[p.v.val, .int .i64 k, .int .i64 v] w fun e w' => e = .returned (.bool true) ∧ Below w.heap.size w w' := by
 have HG := H! (fun W (h : Below w.heap.size w W) => ybs p.v W (hp.later h).isP)
 have hlen : p.v.p.body.length ≤ 90000 := ydt hg
 have hpl := yda hlen
 have HE := H! (fun W (h : Below w.heap.size w W) => ydr p W (hp.later h) hv (by omega))
 have HLq := H! (fun q hq => loc_q hp hlen hv hI hk hok q hq)
 have HPt : Hid (∀ W, Below w.heap.size w W → Calls Tryz.prog 9 #[p.v.val, .int .i64 k, .int .i64 v] W fun e w' => ∃ q : PL, e = .returned (.tuple #[q.v.val, .int .i64 0]) ∧ OwnP W.heap.size w' q ∧ q.v.p = p.v.p.patch k v ∧ Below W.heap.size W w') := H! (fun W h => (ych p k v W (hp.later h) (PL.sm (by omega)) hv hI (by omega)).mono fun _ _ h => by
  rcases h with ⟨_, q, h2, h3, h4, h5⟩ | ⟨h2, _⟩
  ·
   exact ⟨q, h2, h3, h4, h5⟩
  ·
   exact absurd ⟨⟨by omega, by omega⟩, hok⟩ h2)
 have HSM : Hid (∀ (r : PV) W, IsP W r → Below w.heap.size w W → r.p = p.v.p → Calls Tryz.prog 15 #[r.val, p.v.val] W fun e w' => e = .returned (.bool true) ∧ Below W.heap.size W w') := H! (fun r W a1 a2 a3 => by
  have := ygs r p.v W a1 (hp.later a2).isP (by rw [a3]; omega) (by omega)
  rwa [a3, show decide (p.v.p.body = p.v.p.body) = true by simp] at this)
 have HEq : Hid (∀ W r c r' c', IsInts W r c .i64 (p.params.set k v) → IsInts W r' c' .i64 (p.params.set k v) → Calls Tryz.prog 13 #[.slice r p.params.length c, .slice r' p.params.length c'] W fun e w' => e = .returned (.bool true) ∧ Below W.heap.size W w') := H! (fun W r c r' c' h1 h2 => by
  have := yem r r' c c' _ _ W h1 h2
  rwa [List.length_set, show decide (p.params.set k v = p.params.set k v) = true by simp] at this)
 have HWF : Hid (∀ x ∈ p.params.set k v, I64 x) := H! (fun x hx => (List.mem_or_eq_of_mem_set hx).elim (yhr hp x) (fun e => by rw [e]; exact hI))
 have HPc := H! (fun W (h : Below w.heap.size w W) => (hp.later h).xY)
 have hcm : p.xY.length ≤ maxLen := Nat.le_trans hp.xY.le hp.xY.max
 unfold maxLen at hcm
 rw [hg] at HG
 clear hg hp hv hok hlen
 generalize p.params = xs at *
 generalize hPP : p.v.p = PP0 at *
 clear hPP
 generalize hPA : PP0.patch k v = PA at *
 clear hPA
 have hk1 : (0 : Int) ≤ (k : Int) := by omega
 have hk2 : (k : Int) < xs.length := by omega
 have hkk : ((k : Int) < 0) = False := by simp
 have hkn : ((xs.length : Int) ≤ (k : Int)) = False := by simp; omega
 obtain ⟨rc, cc, xY, rt, ct, tY, rv, cv, zY, rm, cm, mY, cells, ri, ci, qY, rs, cs, sY, ro, co, oY, rn, cn, iY⟩ := p
 simp only [PV.val, PL.v, List.length_map] at HG HE HPt HSM HLq HPc hcm ⊢
 go_enter Tryz.func4, Tryz.ntmps4
 go_upto_region 10 with (first | (go_at_call 6; refine (ybt _).mono ?_; rintro e hb0w ⟨rfl, hb0⟩; obtain ⟨hb0c, hb0f⟩ := yah hb0; have hb0s := hb0.size; (try simp only [zA] at hb0s); (try (have : w.heap.size < hb0w.heap.size := by omega)); (try (have : w.heap.size + 1 < hb0w.heap.size := by omega)); (try (have : w.heap.size + 1 + 1 < hb0w.heap.size := by omega)); (try (have : w.heap.size + 1 + 1 + 1 < hb0w.heap.size := by omega)); (try (have : bX < hb0w.heap.size := by omega)); (try (have : bY < hb0w.heap.size := by omega)); (try (have : bZ < hb0w.heap.size := by omega))) | (go_at_call 7; refine (HG.out _ bw).mono ?_; rintro e hb1w ⟨rfl, hb1⟩; obtain ⟨hb1c, hb1f⟩ := yah hb1; have hb1s := hb1.size; (try simp only [zA] at hb1s); (try (have : w.heap.size < hb1w.heap.size := by omega)); (try (have : w.heap.size + 1 < hb1w.heap.size := by omega)); (try (have : w.heap.size + 1 + 1 < hb1w.heap.size := by omega)); (try (have : w.heap.size + 1 + 1 + 1 < hb1w.heap.size := by omega)); (try (have : bX < hb1w.heap.size := by omega)); (try (have : bY < hb1w.heap.size := by omega)); (try (have : bZ < hb1w.heap.size := by omega))) | (go_at_call 9; with_reducible (refine (HPt.out _ ?sd).mono ?_); (case sd => (exact bw)); rintro _ w3 ⟨q, rfl, hoq, hqp, hb3⟩; have HLQ := H! (HLq.out q hqp); have HOQ := H! hoq; obtain ⟨q0, hq0⟩ : ∃ x, x = q := ⟨_, rfl⟩; rw [← hq0] at HOQ; have HVq : Hid (q.v.val = q0.v.val) := (H! (by rw [hq0])); have HCq : Hid (q0.xY = q.xY ∧ q0.rc = q.rc ∧ q0.cc = q.cc) := (H! (by rw [hq0]; exact ⟨rfl, rfl, rfl⟩)); have HLZ : Hid (∀ W, IsL W q0 → IsL W q) := (H! (fun W h => by rw [← hq0]; exact h)); clear hoq hqp hq0; obtain ⟨rc3, cc3, xY3, rt3, ct3, tY3, rv3, cv3, zY3, rm3, cm3, mY3, cells3, ri3, ci3, qY3, rs3, cs3, sY3, ro3, co3, oY3, rn3, cn3, iY3⟩ := q; simp only [PV.val, PL.v, List.length_map] at HLQ HVq ⊢; obtain ⟨hb3c, hb3f⟩ := yah hb3; have hb3s := hb3.size; (try simp only [zA] at hb3s); have hb3x : w.heap.size < w3.heap.size := (by omega)) | (go_at_call 8; with_reducible (refine (HE.out _ ?sd).mono ?_); (case sd => (exact bw)); rintro _ w4 ⟨r4, c4, rfl, ho4, hb4⟩; have HO4 := H! ho4; clear ho4; obtain ⟨hb4c, hb4f⟩ := yah hb4; have hb4s := hb4.size; (try simp only [zA] at hb4s); have hb4x : w.heap.size < w4.heap.size := (by omega); have hb4x3 : w3.heap.size < w4.heap.size := (by omega)) | (go_at_call 8; with_reducible (refine (HLQ.out.1 _ ?sd).mono ?_); (case sd => exact HLZ.out _ (HOQ.out.isL.later bw)); rintro _ w5 ⟨r5, c5, rfl, ho5, hb5⟩; have HO5 := H! ho5; clear ho5; obtain ⟨hb5c, hb5f⟩ := yah hb5; have hb5s := hb5.size; (try simp only [zA] at hb5s); have hb5x : w.heap.size < w5.heap.size := (by omega); have hb5x3 : w3.heap.size < w5.heap.size := (by omega)))
 have hA35 : Below (w3.alloc (.cells #[.slice rc3 xY3.length cc3, .slice rt3 tY3.length ct3, .slice rv3 zY3.length cv3, .slice rm3 mY3.length cm3, .int .i64 cells3, .slice ri3 qY3.length ci3, .slice rs3 sY3.length cs3, .slice ro3 oY3.length co3, .slice rn3 iY3.length cn3] 28)).heap.size (w3.alloc (.cells #[.slice rc3 xY3.length cc3, .slice rt3 tY3.length ct3, .slice rv3 zY3.length cv3, .slice rm3 mY3.length cm3, .int .i64 cells3, .slice ri3 qY3.length ci3, .slice rs3 sY3.length cs3, .slice ro3 oY3.length co3, .slice rn3 iY3.length cn3] 28)) w5 := bw
 have hB35 : Below w3.heap.size w3 w5 := Below.trans ((Below.refl _ w3).alloc (Nat.le_refl _) _) (hA35.mono (by rw [zA]; omega))
 have AQ := (AtV.new w3 [.slice rc3 xY3.length cc3, .slice rt3 tY3.length ct3, .slice rv3 zY3.length cv3, .slice rm3 mY3.length cm3, .int .i64 cells3, .slice ri3 qY3.length ci3, .slice rs3 sY3.length cs3, .slice ro3 oY3.length co3, .slice rn3 iY3.length cn3] 28).keep (hA35.block _ (by rw [zA]; omega))
 have hAP5 : Below (w.alloc (.cells #[.slice rc xY.length cc, .slice rt tY.length ct, .slice rv zY.length cv, .slice rm mY.length cm, .int .i64 cells, .slice ri qY.length ci, .slice rs sY.length cs, .slice ro oY.length co, .slice rn iY.length cn] 28)).heap.size (w.alloc (.cells #[.slice rc xY.length cc, .slice rt tY.length ct, .slice rv zY.length cv, .slice rm mY.length cm, .int .i64 cells, .slice ri qY.length ci, .slice rs sY.length cs, .slice ro oY.length co, .slice rn iY.length cn] 28)) w5 := by clear hA35 hB35; (exact bw)
 have AP := (AtV.new w [.slice rc xY.length cc, .slice rt tY.length ct, .slice rv zY.length cv, .slice rm mY.length cm, .int .i64 cells, .slice ri qY.length ci, .slice rs sY.length cs, .slice ro oY.length co, .slice rn iY.length cn] 28).keep (hAP5.block _ (by rw [zA]; omega))
 have hB5 : Below w.heap.size w w5 := Below.trans ((Below.refl _ w).alloc (Nat.le_refl _) _) (hAP5.mono (by rw [zA]; omega))
 have hOa := HO4.out.below hb5 (Nat.le_refl _)
 obtain ⟨ga, rfl, hga0, hga, hac, haf, hao⟩ := yku hOa hk v
 obtain ⟨gb, rfl, hgb0, hgb, hec, hef, -⟩ := yku HO5.out (i := k) (by rw [List.length_set]; exact hk) v
 rw [show (xs.set k v).getD k 0 = v by simp [List.getD, hk]] at hec
 generalize xs.getD k 0 = old at *
 have hg3 : w3.heap.size < ga := by rw [zA] at hga0; omega
 have hg4 : ga < w4.heap.size := (HO4.out.lt _ rfl).2
 have hwg : w.heap.size < ga := by omega
 have hw3 : w.heap.size < w3.heap.size := by omega
 have hclen : xY3.length = xY.length := HLQ.out.2.2.2.1
 have HCL := H! hclen
 have hcl : ((xY3.length : Int) != (xY.length : Int)) = false := by rw [hclen]; simp
 have hcl2 : ((xY3.length : Int) == (xY.length : Int)) = true := by rw [hclen]; simp
 clear hclen
 have HLW : Hid (∀ W, Below w3.heap.size w3 W → IsL W ⟨rc3, cc3, xY3, rt3, ct3, tY3, rv3, cv3, zY3, rm3, cm3, mY3, cells3, ri3, ci3, qY3, rs3, cs3, sY3, ro3, co3, oY3, rn3, cn3, iY3⟩) := H! (fun W h => HLZ.out _ (HOQ.out.isL.later h))
 have q0c := (AQ 0 _ rfl).1
 have p0c := (AP 0 _ rfl).1
 have q1c := (AQ 1 _ rfl).1
 have p1c := (AP 1 _ rfl).1
 have q2c := (AQ 2 _ rfl).1
 have p2c := (AP 2 _ rfl).1
 have q3c := (AQ 3 _ rfl).1
 have p3c := (AP 3 _ rfl).1
 have q4c := (AQ 4 _ rfl).1
 have p4c := (AP 4 _ rfl).1
 have q5c := (AQ 5 _ rfl).1
 have p5c := (AP 5 _ rfl).1
 have q6c := (AQ 6 _ rfl).1
 have p6c := (AP 6 _ rfl).1
 have q7c := (AQ 7 _ rfl).1
 have p7c := (AP 7 _ rfl).1
 have q8c := (AQ 8 _ rfl).1
 have p8c := (AP 8 _ rfl).1
 have ib0 := (HO5.out.set (a := ⟨ga, k, none⟩) hg4 (.int .i64 v)).ints HWF.out
 have ia0 := hao.ints HWF.out
 have hB6 := hB5.setCell (p := ⟨ga, k, none⟩) (by simp only; omega) (.int .i64 v)
 have hB36 := hB35.setCell (p := ⟨ga, k, none⟩) (by simp only; omega) (.int .i64 v)
 have AQ6 := H! (AQ.keep (Below.heap_setCell _ ⟨ga, k, none⟩ (.int .i64 v) _ (show w3.heap.size ≠ ga by omega)))
 have AP6 := H! (AP.keep (Below.heap_setCell _ ⟨ga, k, none⟩ (.int .i64 v) _ (show w.heap.size ≠ ga by omega)))
 have IA0 := H! ia0
 have IB0 := H! ib0
 have hz6 : w3.heap.size < (w5.setCell ⟨ga, k, none⟩ (.int .i64 v)).heap.size := by simp only [zS]; omega
 clear ia0 ib0 AQ AP hao hOa hA35 hAP5 HO4 HO5
 (try clear hb0); (try clear hb0c); (try clear hb0f); (try clear hb0s); (try clear hb0x); (try clear hb1); (try clear hb1c); (try clear hb1f); (try clear hb1s); (try clear hb1x); (try clear hb3); (try clear hb3c); (try clear hb3f); (try clear hb3s); (try clear hb3x); (try clear hb4); (try clear hb4c); (try clear hb4f); (try clear hb4s); (try clear hb4x); (try clear hb4x3); (try clear hb5); (try clear hb5c); (try clear hb5f); (try clear hb5s); (try clear hb5x); (try clear hb5x3)
 go_upto_region 14 with fail
 (try clear hg4); (try clear hgb0); (try clear hga0); (try clear hga); (try clear hgb)
 clear q0c p0c q1c p1c q2c p2c q3c p3c q4c p4c q5c p5c q6c p6c q7c p7c q8c p8c
 clear hac haf hec hef hB5 hB35
 generalize w5.setCell ⟨ga, k, none⟩ (.int .i64 v) = W6 at *
 have AQ := AQ6.out
 have AP := AP6.out
 have q0c := (AQ 0 _ rfl).1
 have p0c := (AP 0 _ rfl).1
 have q1c := (AQ 1 _ rfl).1
 have p1c := (AP 1 _ rfl).1
 have q2c := (AQ 2 _ rfl).1
 have p2c := (AP 2 _ rfl).1
 have q3c := (AQ 3 _ rfl).1
 have p3c := (AP 3 _ rfl).1
 have q4c := (AQ 4 _ rfl).1
 have p4c := (AP 4 _ rfl).1
 have q5c := (AQ 5 _ rfl).1
 have p5c := (AP 5 _ rfl).1
 have q6c := (AQ 6 _ rfl).1
 have p6c := (AP 6 _ rfl).1
 have q7c := (AQ 7 _ rfl).1
 have p7c := (AP 7 _ rfl).1
 have q8c := (AQ 8 _ rfl).1
 have p8c := (AP 8 _ rfl).1
 clear AQ AP
 have HB6 := H! hB6
 have HB36 := H! hB36
 clear hB6 hB36
 go_upto_region 16 with (first | (go_at_call 13; with_reducible (refine (HEq.out _ _ _ _ _ ?sd ?se).mono ?_); (case sd => exact IA0.out); (case se => exact IB0.out); rintro _ w7 ⟨rfl, hb7⟩; obtain ⟨hb7c, hb7f⟩ := yah hb7) | (go_at_call 10; with_reducible (refine (HLQ.out.2.1 _ ?sd).mono ?_); (case sd => exact HLW.out _ (HB36.out.trans (hb7.mono HB36.out.size))); rintro _ w8 ⟨rfl, hb8⟩))
 have hb68 : Below W6.heap.size W6 w8 := hb7.trans (hb8.mono hb7.size)
 have hB8 := HB6.out.trans (hb68.mono HB6.out.size)
 have hB38 := HB36.out.trans (hb68.mono HB36.out.size)
 have hz8 : w3.heap.size < w8.heap.size := Nat.lt_of_lt_of_le hz6 hb68.size
 have AQ8 := H! (AQ6.out.keep (hb68.block _ hz6))
 have AP8 := H! (AP6.out.keep (hb68.block _ (Nat.lt_trans hw3 hz6)))
 clear q0c p0c q1c p1c q2c p2c q3c p3c q4c p4c q5c p5c q6c p6c q7c p7c q8c p8c
 clear hb7 hb7c hb7f hb8 hb68 AQ6 AP6 HB6 HB36 IA0 IB0 HEq HG HE HPt
 have HB8 := H! hB8
 have HB38 := H! hB38
 clear hB8 hB38
 have pz := (AP8.out 0 _ rfl).1
 go_wp2
 clear pz
 go_loopw [104] (fun s104 wz => ∃ j : Nat, s104 = .int .i64 j ∧ j ≤ xY.length ∧ Hid (Below w8.heap.size w8 wz)) (fun s104 _ => xY.length - (intOf s104).toNat)
 case atStart => exact ⟨0, rfl, Nat.zero_le _, H! (Below.refl _ _)⟩
 case round =>
  obtain ⟨j, rfl, hj, HB⟩ := hrel
  have AQ := AQ8.out.keep (HB.out.block _ hz8)
  have AP := AP8.out.keep (HB.out.block _ (Nat.lt_trans hw3 hz8))
  have hBw := HB8.out.trans (HB.out.mono HB8.out.size)
  have hB3 := HB38.out.trans (HB.out.mono HB38.out.size)
  have hz9 : w3.heap.size < wr.heap.size := Nat.lt_of_lt_of_le hz8 HB.out.size
  have hz0 : w.heap.size < wr.heap.size := Nat.lt_trans hw3 hz9
  by_cases hlt : j < xY.length
  ·
   have hj1 : (0 : Int) ≤ (j : Int) := by omega
   have hj2 : (j : Int) < xY.length := by omega
   have hlt3 : j < xY3.length := by rw [HCL.out]; exact hlt
   have hj3 : (j : Int) < xY3.length := by omega
   obtain ⟨z, hzz⟩ := HLQ.out.2.2.2.2 j _ (getD_some hlt)
   have hy : xY3.getD j default = (xY.getD j default).put z v := by
    have h : xY3[j]? = some ((xY.getD j default).put z v) := hzz
    simp [List.getD, h]
   have q0c := (AQ 0 _ rfl).1
   obtain ⟨bY, ofy, hry, hby, hcy⟩ := (HLW.out wr hB3).xY.at_ hlt3
   simp only at hry hcy
   obtain ⟨bX, off, hrx, hbx, hcx⟩ := (HPc.out wr hBw).at_ hlt
   rw [hry] at q0c
   have HRX := H! hrx
   have HRY := H! hry
   clear hzz
   have d0 : wr.cell? ⟨bX, off + j * 5, none⟩ = some (.int .i64 (xY.getD j default).op) := hcx 0 _ rfl
   have d1 : wr.cell? ⟨bX, off + j * 5 + 1, none⟩ = some (.int .i64 (xY.getD j default).a) := hcx 1 _ rfl
   have d2 : wr.cell? ⟨bX, off + j * 5 + 2, none⟩ = some (.int .i64 (xY.getD j default).b) := hcx 2 _ rfl
   have d3 : wr.cell? ⟨bX, off + j * 5 + 3, none⟩ = some (.int .i64 (xY.getD j default).c) := hcx 3 _ rfl
   have d4 : wr.cell? ⟨bX, off + j * 5 + 4, none⟩ = some (.int .i64 (xY.getD j default).k) := hcx 4 _ rfl
   have e0 : wr.cell? ⟨bY, ofy + j * 5, none⟩ = some (.int .i64 (xY3.getD j default).op) := hcy 0 _ rfl
   have e1 : wr.cell? ⟨bY, ofy + j * 5 + 1, none⟩ = some (.int .i64 (xY3.getD j default).a) := hcy 1 _ rfl
   have e2 : wr.cell? ⟨bY, ofy + j * 5 + 2, none⟩ = some (.int .i64 (xY3.getD j default).b) := hcy 2 _ rfl
   have e3 : wr.cell? ⟨bY, ofy + j * 5 + 3, none⟩ = some (.int .i64 (xY3.getD j default).c) := hcy 3 _ rfl
   have e4 : wr.cell? ⟨bY, ofy + j * 5 + 4, none⟩ = some (.int .i64 (xY3.getD j default).k) := hcy 4 _ rfl
   clear hcx hcy hlt3
   rw [hy] at e0 e1 e2 e3 e4
   clear hy AQ AP
   generalize xY.getD j default = x at *
   obtain ⟨xo, xa, xb, xc, xk⟩ := x
   simp only at d0 d1 d2 d3 d4
   by_cases hop : xo = 1
   ·
    subst hop
    have hpk : ∃ yk, Ins.put ⟨1, xa, xb, xc, xk⟩ z v = ⟨1, xa, xb, xc, yk⟩ := by
     unfold Ins.put
     split
     ·
      exact ⟨v, rfl⟩
     ·
      exact ⟨xk, rfl⟩
    obtain ⟨yk, hyk⟩ := hpk
    rw [hyk] at e0 e1 e2 e3 e4
    simp only at e0 e1 e2 e3 e4
    clear hyk
    subst hrx
    go_wp2
    go_roundw
    case rel => exact ⟨j + 1, by go_num, by omega, H! ((HB.out.alloc HB.out.size _).alloc (by simp only [zA]; exact Nat.le_trans HB.out.size (Nat.le_succ _)) _)⟩
    case measure => simp [intOf]; omega
   ·
    have hyk : Ins.put ⟨xo, xa, xb, xc, xk⟩ z v = ⟨xo, xa, xb, xc, xk⟩ := if_neg (fun h => hop h.1)
    have hop2 : (xo == 1) = false := by simpa using hop
    rw [hyk] at e0 e1 e2 e3 e4
    simp only at e0 e1 e2 e3 e4
    clear hyk
    subst hrx
    go_wp2
    go_roundw
    case rel => exact ⟨j + 1, by go_num, by omega, H! ((HB.out.alloc HB.out.size _).alloc (by simp only [zA]; exact Nat.le_trans HB.out.size (Nat.le_succ _)) _)⟩
    case measure => simp [intOf]; omega
  ·
   obtain rfl : j = xY.length := by omega
   have hbz : True := trivial
   have q0c := (AQ 0 _ rfl).1
   have p0c := (AP 0 _ rfl).1
   have q1c := (AQ 1 _ rfl).1
   have p1c := (AP 1 _ rfl).1
   have q2c := (AQ 2 _ rfl).1
   have p2c := (AP 2 _ rfl).1
   have q3c := (AQ 3 _ rfl).1
   have p3c := (AP 3 _ rfl).1
   have q4c := (AQ 4 _ rfl).1
   have p4c := (AP 4 _ rfl).1
   have q5c := (AQ 5 _ rfl).1
   have p5c := (AP 5 _ rfl).1
   have q6c := (AQ 6 _ rfl).1
   have p6c := (AP 6 _ rfl).1
   have q7c := (AQ 7 _ rfl).1
   have p7c := (AP 7 _ rfl).1
   have q8c := (AQ 8 _ rfl).1
   have p8c := (AP 8 _ rfl).1
   go_wp2_with (first | (go_at_call 9; refine (HLQ.out.2.2.1 _ (HLW.out _ hB3)).mono ?_; rintro _ w9 ⟨⟨rc9, cc9, xY9, rt9, ct9, tY9, rv9, cv9, zY9, rm9, cm9, mY9, cells9, ri9, ci9, qY9, rs9, cs9, sY9, ro9, co9, oY9, rn9, cn9, iY9⟩, rfl, hp9, hq9, hb9⟩; simp only [PV.val]; have HP9 := H! hp9; have HQ9 := H! hq9; clear hp9 hq9; obtain ⟨hb9c, hb9f⟩ := yah hb9; have hb9s := hb9.size; have hb9x : w.heap.size < w9.heap.size := (by omega)) | (go_at_call 15; refine (HSM.out ⟨rc9, cc9, xY9, rt9, ct9, tY9, rv9, cv9, zY9, rm9, cm9, mY9, cells9, ri9, ci9, qY9, rs9, cs9, sY9, ro9, co9, oY9, rn9, cn9, iY9⟩ _ (HP9.out.later bw) (by have h1 := hBw.trans (hb9.mono hBw.size); clear hB3; (exact bw)) HQ9.out).mono ?_; rintro _ w10 ⟨rfl, hb10⟩))
   go_ret
   have hB9 := hBw.trans (hb9.mono hBw.size)
   exact ⟨by first | rfl | (simp; done), (hB9.alloc hB9.size _).trans (hb10.mono (by rw [zA]; exact Nat.le_trans hB9.size (Nat.le_succ _)))⟩
theorem il_walk (p : PV) (i v : Int) (w : World) (hp : IsP w p) (hI : (Lit.int .i64 v).wf = true) : Calls Tryz.prog 4 #[p.val, .int .i64 i, .int .i64 v] w fun e w' => e = .returned (.bool true) ∧ Below w.heap.size w w' := by
 obtain ⟨p, rfl, hL⟩ := hp.isL
 cases hg : yco p.v
 ·
  have hlen : p.v.p.body.length ≤ 90000 := ydt hg
  have hpl := yda hlen
  cases hv : yas p.v
  ·
   exact il_no1 p i v w hL hg (H! (fun W h => yhv p.v i v W (hL.later h).isP hv))
  ·
   by_cases hh : (0 ≤ i ∧ i < p.params.length) ∧ okP (p.v.p.patch i v) = true
   ·
    obtain ⟨k, rfl⟩ : ∃ k : Nat, i = k := ⟨i.toNat, by omega⟩
    exact il_ok p k v w hL hI hg hv (by omega) hh.2
   ·
    exact il_no2 p i v w hL hg (H! (fun W h => (ych p i v W (hL.later h) (PL.sm (by omega)) hv hI (by omega)).mono fun _ _ h => by
     rcases h with ⟨h1, _⟩ | ⟨_, h2, h3⟩
     ·
      exact absurd h1 hh
     ·
      exact ⟨h2, h3⟩))
 ·
  exact il_great p i v w hL hg
theorem ilocal_holds : Rows.ImageLocalSaid :=
 OpenClaim.holds_of_wide 4 Tryz.f4 rfl rfl rfl rfl rfl rfl rfl ⟨rfl, rfl, rfl, rfl, rfl⟩ rfl rfl rfl rfl rfl (by kernel_rfl) Tryz.func4 (by kernel_rfl)
  (of_decide_eq_true (by kernel_rfl)) (by unfold Func.isWrapper; first | (rw [if_pos (by decide +kernel)]; kernel_rfl) | (rw [if_neg (by decide +kernel)]; exact ⟨rfl, rfl⟩))
  (fun os started H enc _ => by
   refine yjg started (s := Rows.imageLocalSpec) (conds := Rows.imageLocalRow.domain) Tryz.func4 (by kernel_rfl) rfl 4 rfl Tryz.underlying4 (by decide +kernel) (fun ds h => ?_)
    (ChangeSpec.witness6 (enc := enc) (C := Tryz.checked) false ⟨#[], #[.agg #[.slice none 0 0, .slice none 0 0, .slice none 0 0, .slice none 0 0, .int .i64 0, .slice none 0 0, .slice none 0 0, .slice none 0 0, .slice none 0 0], .int .i64 0, .int .i64 0], []⟩ 12 (by kernel_rfl) (by kernel_rfl) (by kernel_rfl) (by kernel_rfl)) ?_
   ·
    match ds, h with
    | [_, _, _], _ => rfl
   ·
    intro W base args ds p hval hA _
    rw [Tryz.params4] at hA hval
    obtain ⟨v0, vs0, d0, ds0, p0, q0, hargs, rfl, rfl, h0, r0⟩ := trodAll_cons hA
    obtain ⟨v1, vs1, d1, ds1, p1, q1, rfl, rfl, rfl, h1, r1⟩ := trodAll_cons r0
    obtain ⟨v2, vs2, d2, ds2, p2, q2, rfl, rfl, rfl, h2, r2⟩ := trodAll_cons r1
    obtain ⟨rfl, rfl, rfl⟩ := trodAll_nil r2
    obtain rfl : args = #[v0, v1, v2] := by cases args; simp_all
    obtain ⟨cs0, rfl, k0⟩ := ynw Tryz.underlying28 (hval 0 _ v0 rfl rfl) h0
    obtain ⟨pv0, rfl, g0⟩ := yfw k0
    rw [← PV.val_eq]
    obtain ⟨b1, rfl, rfl, rfl, w1⟩ := open_int Tryz.underlying3 (hval 1 _ v1 rfl rfl) h1
    obtain ⟨b2, rfl, rfl, rfl, w2⟩ := open_int Tryz.underlying3 (hval 2 _ v2 rfl rfl) h2
    apply il_walk <;> (first | assumption | rfl))
#print axioms ilocal_holds
end Go.Proofs.YtfooefiaenlhmaaGreat
