/- Lemmas for the laws of package magnetolaw15: what its functions return, for any arguments that the lemmas name. -/
import Derived.Test.YtfooefiaenlhmaaGreatGB1
import Derived.Test.YtfooefiaenlhmaaGreatGB4
import Derived.Test.YtfooefiaenlhmaaGreatGB7
import Derived.Test.YtfooefiaenlhmaaGreatGB8
import Derived.Deep.Cut
import Derived.Deep.RegionHeld3
import Derived.StillTail
import Derived.Deep.RegionLaw
set_option maxRecDepth 100000
namespace Go.Proofs.YtfooefiaenlhmaaGreat
set_option linter.all false
set_option maxHeartbeats 16000000
open Go.RowKit Go.ChangeShapes Go.WideShapes Go.ChangeAt
theorem yej {cells : Int} {l : List Int} (h : 1000 < l.length ∨ l.any (badC cells) = true) : inL cells l = false := by
 unfold inL
 rcases h with h | h
 ·
  rw [show decide (l.length ≤ 1000) = false by simp; omega, Bool.false_and]
 ·
  rw [h]; simp
theorem ygj {cells : Int} {l : List Int} (h0 : l.length ≤ 1000) (h1 : l.any (badC cells) = false) : inL cells l = true := by
 unfold inL
 rw [h1]; simp [h0]
theorem yfx {cells : Int} {l : List Int} (h : inL cells l = true) : l.length ≤ 1000 ∧ ∀ c ∈ l, 0 ≤ c ∧ c < cells := by
 unfold inL at h
 simp only [Bool.and_eq_true, decide_eq_true_eq, Bool.not_eq_true', List.any_eq_false] at h
 refine ⟨h.1, fun c hc => ?_⟩
 have := h.2 c hc
 unfold badC at this
 simp only [decide_eq_true_eq] at this
 omega
theorem yjd {l : List Int} {k : Nat} (hk : k < l.length) (h : l.getD k 0 ∈ l.take k) : ¬ l.Nodup := fun hn => by
 rw [← List.take_append_drop k l] at hn
 have := (List.nodup_append.1 hn).2.2
 refine this _ h (l.getD k 0) ?_ rfl
 rw [List.mem_iff_getElem?]
 exact ⟨0, by simp [List.getElem?_drop, List.getD, List.getElem?_eq_getElem hk]⟩
theorem yhu {l : List Int} (h : ∀ k, k < l.length → l.getD k 0 ∉ l.take k) : l.Nodup := by
 have key : ∀ k, k ≤ l.length → (l.take k).Nodup := fun k => by
  induction k with
  | zero => intro _; simp
  | succ k ih =>
   intro hk
   rw [List.take_add_one, List.getElem?_eq_getElem (by omega)]
   refine List.nodup_append.2 ⟨ih (by omega), by simp, fun a ha b hb => ?_⟩
   obtain rfl : b = l[k] := by simpa using hb
   have := h k (by omega)
   rw [List.getD_eq_getElem?_getD, List.getElem?_eq_getElem (by omega)] at this
   exact fun e => this (by rw [e] at ha; exact ha)
 have := key l.length (Nat.le_refl _)
 rwa [List.take_length] at this
theorem concat2A (b : Nat) (r1 r2 : Option Addr) (c1 c2 : Nat) (xs ys all : List Int) (w : World) (hal : xs ++ ys = all) (hb : b < w.heap.size) (d0 : w.cell? ⟨b, 0, none⟩ = some (.slice r1 xs.length c1)) (d1 : w.cell? ⟨b, 1, none⟩ = some (.slice r2 ys.length c2))
  (hx : IsInts w r1 c1 .i64 xs) (hy : IsInts w r2 c2 .i64 ys) (hl : xs.length + ys.length ≤ 100000) (hw : ∀ x ∈ xs ++ ys, (Lit.int .i64 x).wf = true) :
  Calls Tryz.prog 61 #[.slice (some ⟨b, 0, none⟩) 2 2] w fun e w' => ∃ r cap, e = .returned (.slice r all.length cap) ∧ IsInts w' r cap .i64 all ∧ Below w.heap.size w w' := by
 subst hal
 exact yky b r1 r2 c1 c2 xs ys w hb d0 d1 hx hy hl hw
theorem yjf {W : World} {g : Nat} {o : Obj} (h : W.heap[g]? = some o) : g < W.heap.size := by
 rcases Nat.lt_or_ge g W.heap.size with hh | hh
 ·
  exact hh
 ·
  rw [Array.getElem?_eq_none hh] at h; cases h
theorem made_b {W : World} {base g n : Nat} (h : W.ownsRow base 4 1 (.slice (some ⟨g, 0, none⟩) n n) n (madeCells (Value.bool false).cells (n * 1)).toList) : ∃ cur : Array Value, W.heap[g]? = some (.cells cur 4) ∧ cur.size = n ∧ ∀ t, t < n → cur[t]? = some (.bool false) := by
 rw [Nat.mul_one] at h
 have e : (madeCells (Value.bool false).cells n).toList = List.replicate n (Value.bool false) := toList_madeCells_one _ _
 rw [e] at h
 obtain ⟨_, ho⟩ := h
 rcases ho with ⟨hbad, _⟩ | ⟨g', cap, cur, he, _, hrow, _, _, hsz, hx⟩
 ·
  cases hbad
 simp only [Value.slice.injEq, Option.some.injEq, Addr.mk.injEq, and_true, true_and] at he
 obtain ⟨rfl, rfl⟩ := he
 rw [Nat.mul_one] at hsz hx
 refine ⟨cur, hrow, hsz, fun t ht => ?_⟩
 have := congrArg (fun l : List Value => l[t]?) hx
 simp only [List.getElem?_take_of_lt ht, Array.getElem?_toList, List.getElem?_replicate, ht, if_true] at this
 exact this
theorem yhn {W : World} {g k : Nat} {arr : Array Value} {t : TypeId} (h : W.heap[g]? = some (.cells arr t)) (v : Value) : (W.setCell ⟨g, k, none⟩ v).heap[g]? = some (.cells (arr.setIfInBounds k v) t) := by
 simp [World.setCell, Array.getElem?_modify, h]
theorem mv_main (rc : Option Addr) (cc : Nat) (xY : List Ins) (rt : Option Addr) (ct : Nat) (tY : List Fx) (rv : Option Addr) (cv : Nat) (zY : List Cv) (rm : Option Addr) (cm : Nat) (mY : List Mp) (cells : Int) (ri : Option Addr) (ci : Nat) (qY : List Int) (rs : Option Addr) (cs : Nat) (sY : List Int) (ro : Option Addr) (co : Nat) (oY : List Int) (rn : Option Addr) (cn : Nat) (iY : List Int) (w : World) (hp : IsP w ⟨rc, cc, xY, rt, ct, tY, rv, cv, zY, rm, cm, mY, cells, ri, ci, qY, rs, cs, sY, ro, co, oY, rn, cn, iY⟩) (hsz : szP ⟨rc, cc, xY, rt, ct, tY, rv, cv, zY, rm, cm, mY, cells, ri, ci, qY, rs, cs, sY, ro, co, oY, rn, cn, iY⟩) (hT : (tY.any fun t => !fxB t) = false) (hC : (zY.any fun t => !cvB t) = false) (hM : (mY.any fun t => !mpB t) = false) (hI : (xY.any fun i => !fitB cells zY.length mY.length tY i) = false) :
  Calls Tryz.prog 26 #[.agg #[.slice rc xY.length cc, .slice rt tY.length ct, .slice rv zY.length cv, .slice rm mY.length cm, .int .i64 cells, .slice ri qY.length ci, .slice rs sY.length cs, .slice ro oY.length co, .slice rn iY.length cn]] w fun e w' => e = .returned (.bool (inL cells qY && (inL cells oY && (inL cells sY && (decide (qY ++ sY).Nodup && !(iY.any badN)))))) ∧ Below w.heap.size w w' := by
 obtain ⟨R, hR⟩ : ∃ R, R = (inL cells qY && (inL cells oY && (inL cells sY && (decide (qY ++ sY).Nodup && !(iY.any badN))))) := ⟨_, rfl⟩
 rw [← hR]
 have HR := H! hR
 clear hR
 have hin := hp.qY
 have hout := hp.oY
 have hst := hp.sY
 have hini := hp.iY
 have HP := H! hp
 simp only at hin hout hst hini
 have mi := Nat.le_trans hin.le hin.max
 have mo := Nat.le_trans hout.le hout.max
 have ms := Nat.le_trans hst.le hst.max
 unfold maxLen at mi mo ms
 have HIN := H! hin
 have HOUT := H! hout
 have HST := H! hst
 have HINI := H! hini
 clear hin hout hst hini
 obtain ⟨z0, z1, z2, z3, z4, z5, z6⟩ := hsz
 simp only at z0 z1 z2 z3 z4 z5 z6
 have f0 : ¬ ((4000 : Int) < xY.length) := by omega
 have f1 : ¬ ((100 : Int) < tY.length) := by omega
 have f2 : ¬ ((100 : Int) < zY.length) := by omega
 have f3 : ¬ ((100 : Int) < mY.length) := by omega
 have hs01 : w.heap.size < w.heap.size + 1 + 1 := by omega
 have f4 : ¬ cells < 0 := by omega
 have f5 : ¬ 1000 < cells := by omega
 have HT : Hid (∀ W, Below w.heap.size w W → w.heap.size + 1 < W.heap.size → W.cell? ⟨w.heap.size + 1, 0, none⟩ = some (.func (.func 48) #[] #[]) → Calls Tryz.prog 49 #[.slice rt tY.length ct, .func (.func 50) #[] #[.pointer (some ⟨w.heap.size + 1, 0, none⟩)]] W fun e w' => e = .returned (.bool false) ∧ Below W.heap.size W w') := H! (fun W hW hs hc => yfd ⟨rc, cc, xY, rt, ct, tY, rv, cv, zY, rm, cm, mY, cells, ri, ci, qY, rs, cs, sY, ro, co, oY, rn, cn, iY⟩ W (HP.out.later hW) (w.heap.size + 1) false hT hs hc)
 have HC : Hid (∀ W, Below w.heap.size w W → w.heap.size + 1 < W.heap.size → W.cell? ⟨w.heap.size + 1, 0, none⟩ = some (.func (.func 48) #[] #[]) → Calls Tryz.prog 20 #[.slice rv zY.length cv, .func (.func 52) #[] #[.pointer (some ⟨w.heap.size + 1, 0, none⟩)]] W fun e w' => e = .returned (.bool false) ∧ Below W.heap.size W w') := H! (fun W hW hs hc => yfe ⟨rc, cc, xY, rt, ct, tY, rv, cv, zY, rm, cm, mY, cells, ri, ci, qY, rs, cs, sY, ro, co, oY, rn, cn, iY⟩ W (HP.out.later hW) (w.heap.size + 1) false hC hs hc)
 have HM : Hid (∀ W, Below w.heap.size w W → w.heap.size + 1 < W.heap.size → W.cell? ⟨w.heap.size + 1, 0, none⟩ = some (.func (.func 48) #[] #[]) → Calls Tryz.prog 22 #[.slice rm mY.length cm, .func (.func 54) #[] #[.pointer (some ⟨w.heap.size + 1, 0, none⟩)]] W fun e w' => e = .returned (.bool false) ∧ Below W.heap.size W w') := H! (fun W hW hs hc => yka ⟨rc, cc, xY, rt, ct, tY, rv, cv, zY, rm, cm, mY, cells, ri, ci, qY, rs, cs, sY, ro, co, oY, rn, cn, iY⟩ W (HP.out.later hW) (w.heap.size + 1) false hM hs hc)
 have HI : Hid (∀ W, Below w.heap.size w W → w.heap.size + 1 < W.heap.size → W.cell? ⟨w.heap.size + 1, 0, none⟩ = some (.func (.func 48) #[] #[]) → W.cell? ⟨w.heap.size, 0, none⟩ = some (.slice rc xY.length cc) → W.cell? ⟨w.heap.size, 1, none⟩ = some (.slice rt tY.length ct) → W.cell? ⟨w.heap.size, 2, none⟩ = some (.slice rv zY.length cv) → W.cell? ⟨w.heap.size, 3, none⟩ = some (.slice rm mY.length cm) → W.cell? ⟨w.heap.size, 4, none⟩ = some (.int .i64 cells) → W.cell? ⟨w.heap.size, 5, none⟩ = some (.slice ri qY.length ci) → W.cell? ⟨w.heap.size, 6, none⟩ = some (.slice rs sY.length cs) → W.cell? ⟨w.heap.size, 7, none⟩ = some (.slice ro oY.length co) → W.cell? ⟨w.heap.size, 8, none⟩ = some (.slice rn iY.length cn) → Calls Tryz.prog 56 #[.slice rc xY.length cc, .func (.func 57) #[] #[.pointer (some ⟨w.heap.size + 1, 0, none⟩), .pointer (some ⟨w.heap.size, 0, none⟩)]] W fun e w' => e = .returned (.bool false) ∧ Below W.heap.size W w') := H! (fun W hW hs hc q0 q1 q2 q3 q4 q5 q6 q7 q8 => ymz ⟨rc, cc, xY, rt, ct, tY, rv, cv, zY, rm, cm, mY, cells, ri, ci, qY, rs, cs, sY, ro, co, oY, rn, cn, iY⟩ W (HP.out.later hW) (w.heap.size + 1) w.heap.size false hI hs (by omega) hc q0 q1 q2 q3 q4 q5 q6 q7 q8)
 clear hp hT hC hM hI
 have Z6 := H! z6
 go_enter Tryz.func26, Tryz.ntmps26
 go_wp2_with (first | (go_at_call 49; refine (HT.out _ bw (by first | omega | (simp only [zA]; omega)) (by first | go_keep | (simp [go_sem, *]; done))).mono ?_; rintro _ hb0w ⟨rfl, hb0⟩; obtain ⟨hb0c, hb0f⟩ := yah hb0; have hb0s := hb0.size; (try simp only [zA] at hb0s); have hx0 : w.heap.size < hb0w.heap.size := (by omega); have hy0 : w.heap.size + 1 < hb0w.heap.size := (by omega)) | (go_at_call 20; refine (HC.out _ bw (by first | omega | (simp only [zA]; omega)) (by first | go_keep | (simp [go_sem, *]; done))).mono ?_; rintro _ hb1w ⟨rfl, hb1⟩; obtain ⟨hb1c, hb1f⟩ := yah hb1; have hb1s := hb1.size; (try simp only [zA] at hb1s); have hx1 : w.heap.size < hb1w.heap.size := (by omega); have hy1 : w.heap.size + 1 < hb1w.heap.size := (by omega)) | (go_at_call 22; refine (HM.out _ bw (by first | omega | (simp only [zA]; omega)) (by first | go_keep | (simp [go_sem, *]; done))).mono ?_; rintro _ hb2w ⟨rfl, hb2⟩; obtain ⟨hb2c, hb2f⟩ := yah hb2; have hb2s := hb2.size; (try simp only [zA] at hb2s); have hx2 : w.heap.size < hb2w.heap.size := (by omega); have hy2 : w.heap.size + 1 < hb2w.heap.size := (by omega)) | (go_at_call 56; refine (HI.out _ bw (by first | omega | (simp only [zA]; omega)) (by first | go_keep | (simp [go_sem, *]; done)) (by first | go_keep | (simp [go_sem, *]; done)) (by first | go_keep | (simp [go_sem, *]; done)) (by first | go_keep | (simp [go_sem, *]; done)) (by first | go_keep | (simp [go_sem, *]; done)) (by first | go_keep | (simp [go_sem, *]; done)) (by first | go_keep | (simp [go_sem, *]; done)) (by first | go_keep | (simp [go_sem, *]; done)) (by first | go_keep | (simp [go_sem, *]; done)) (by first | go_keep | (simp [go_sem, *]; done))).mono ?_; rintro _ hb3w ⟨rfl, hb3⟩; obtain ⟨hb3c, hb3f⟩ := yah hb3; have hb3s := hb3.size; (try simp only [zA] at hb3s); have hx3 : w.heap.size < hb3w.heap.size := (by omega); have hy3 : w.heap.size + 1 < hb3w.heap.size := (by omega)))
 have hq : ∀ o, (hb3w.alloc (.cells #[.slice ri qY.length ci, .slice ro oY.length co, .slice rs sY.length cs] 26)).cell? ⟨w.heap.size, o, none⟩ = hb0w.cell? ⟨w.heap.size, o, none⟩ := fun o => by
  rw [((Below.refl hb3w.heap.size hb3w).alloc (Nat.le_refl _) _).cell (p := ⟨w.heap.size, o, none⟩) (by show w.heap.size < hb3w.heap.size; omega), hb3c _ _ (by omega), hb2c _ _ (by omega), hb1c _ _ (by omega)]
 have q4 : (hb3w.alloc (.cells #[.slice ri qY.length ci, .slice ro oY.length co, .slice rs sY.length cs] 26)).cell? ⟨w.heap.size, 4, none⟩ = some (.int .i64 cells) := by rw [hq, hb0c _ _ (by simp only [zA]; omega)]; first | go_keep | (simp; done) | (simp [Z6.out]; done)
 have q5 : (hb3w.alloc (.cells #[.slice ri qY.length ci, .slice ro oY.length co, .slice rs sY.length cs] 26)).cell? ⟨w.heap.size, 5, none⟩ = some (.slice ri qY.length ci) := by rw [hq, hb0c _ _ (by simp only [zA]; omega)]; first | go_keep | (simp; done) | (simp [Z6.out]; done)
 have q6 : (hb3w.alloc (.cells #[.slice ri qY.length ci, .slice ro oY.length co, .slice rs sY.length cs] 26)).cell? ⟨w.heap.size, 6, none⟩ = some (.slice rs sY.length cs) := by rw [hq, hb0c _ _ (by simp only [zA]; omega)]; first | go_keep | (simp; done) | (simp [Z6.out]; done)
 have q8 : (hb3w.alloc (.cells #[.slice ri qY.length ci, .slice ro oY.length co, .slice rs sY.length cs] 26)).cell? ⟨w.heap.size, 8, none⟩ = some (.slice rn iY.length cn) := by rw [hq, hb0c _ _ (by simp only [zA]; omega)]; first | go_keep | (simp; done) | (simp [Z6.out]; done)
 clear z6
 have l0 : (hb3w.alloc (.cells #[.slice ri qY.length ci, .slice ro oY.length co, .slice rs sY.length cs] 26)).cell? ⟨hb3w.heap.size, 0, none⟩ = some (.slice ri qY.length ci) := by go_keep
 have l1 : (hb3w.alloc (.cells #[.slice ri qY.length ci, .slice ro oY.length co, .slice rs sY.length cs] 26)).cell? ⟨hb3w.heap.size, 1, none⟩ = some (.slice ro oY.length co) := by go_keep
 have l2 : (hb3w.alloc (.cells #[.slice ri qY.length ci, .slice ro oY.length co, .slice rs sY.length cs] 26)).cell? ⟨hb3w.heap.size, 2, none⟩ = some (.slice rs sY.length cs) := by go_keep
 have hbW : Below w.heap.size w (hb3w.alloc (.cells #[.slice ri qY.length ci, .slice ro oY.length co, .slice rs sY.length cs] 26)) := bw
 have z1 : w.heap.size < (hb3w.alloc (.cells #[.slice ri qY.length ci, .slice ro oY.length co, .slice rs sY.length cs] 26)).heap.size := by rw [zA]; omega
 have z2 : hb3w.heap.size < (hb3w.alloc (.cells #[.slice ri qY.length ci, .slice ro oY.length co, .slice rs sY.length cs] 26)).heap.size := by rw [zA]; omega
 generalize hb3w.alloc (.cells #[.slice ri qY.length ci, .slice ro oY.length co, .slice rs sY.length cs] 26) = W3 at *
 generalize hb3w.heap.size = bl at *
 clear hq hb0c hb1c hb2c hb3c hb0f hb1f hb2f hb3f hb0 hb1 hb2 hb3 HT HC HM HI
 go_loopg [78] 3 (fun kx s78 wr => ∃ (k : Nat) (e : Later W3), s78 = .int .i64 k ∧ k ≤ 3 ∧ 3 - k ≤ kx ∧ wr = e.w ∧ Hid ((1 ≤ k → inL cells qY = true) ∧ (2 ≤ k → inL cells oY = true) ∧ (3 ≤ k → inL cells sY = true)))
 case atStart => exact ⟨0, ⟨W3, Below.refl _ _⟩, rfl, by omega, by omega, rfl, H! ⟨fun h => absurd h (by omega), fun h => absurd h (by omega), fun h => absurd h (by omega)⟩⟩
 case round =>
  obtain ⟨k, e, rfl, hk, hkx, rfl, HG⟩ := hrel
  have hes := e.h.size
  by_cases hk3 : k < 3
  ·
   obtain rfl | rfl | rfl : k = 0 ∨ k = 1 ∨ k = 2 := by omega
   ·
    by_cases n0 : 1000 < qY.length
    ·
     have HB : Hid (R = false) := H! (by rw [HR.out, yej (.inl n0)]; simp)
     have n0i : (1000 : Int) < qY.length := by omega
     go_wp2
     go_ret
     exact ⟨yal HB.out.symm, hbW.trans (e.h.mono (by omega))⟩
    ·
     have n0i : ¬ (1000 : Int) < qY.length := by omega
     cases hb : qY.any (badC cells)
     ·
      have HGD := H! (ygj (cells := cells) (by omega) hb)
      go_wp2_with (go_at_call 59; refine (yft w.heap.size cells ri ci qY e.w (HIN.out.later (hbW.trans (e.h.mono (by omega)))) false hb (Nat.lt_of_lt_of_le z1 hes) ((Later.cell e z1).trans q4)).mono ?_; rintro _ w5 ⟨rfl, hb5⟩; obtain ⟨e5, rfl⟩ := e.next hb5)
      go_roundg (3 - (0 + 1))
      case measure => omega
      case rel => exact ⟨0 + 1, e5, by go_num, by omega, by omega, rfl, H! ⟨fun _ => HGD.out, fun h => absurd h (by omega), fun h => absurd h (by omega)⟩⟩
     ·
      have HB : Hid (R = false) := H! (by rw [HR.out, yej (.inr hb)]; simp)
      go_wp2_with (go_at_call 59; refine (yft w.heap.size cells ri ci qY e.w (HIN.out.later (hbW.trans (e.h.mono (by omega)))) true hb (Nat.lt_of_lt_of_le z1 hes) ((Later.cell e z1).trans q4)).mono ?_; rintro _ w5 ⟨rfl, hb5⟩; obtain ⟨e5, rfl⟩ := e.next hb5)
      go_ret
      exact ⟨yal HB.out.symm, hbW.trans (e5.h.mono (by omega))⟩
   ·
    by_cases n0 : 1000 < oY.length
    ·
     have HB : Hid (R = false) := H! (by rw [HR.out, HG.out.1 (by omega), yej (.inl n0)]; simp)
     have n0i : (1000 : Int) < oY.length := by omega
     go_wp2
     go_ret
     exact ⟨yal HB.out.symm, hbW.trans (e.h.mono (by omega))⟩
    ·
     have n0i : ¬ (1000 : Int) < oY.length := by omega
     cases hb : oY.any (badC cells)
     ·
      have HGD := H! (ygj (cells := cells) (by omega) hb)
      go_wp2_with (go_at_call 59; refine (yft w.heap.size cells ro co oY e.w (HOUT.out.later (hbW.trans (e.h.mono (by omega)))) false hb (Nat.lt_of_lt_of_le z1 hes) ((Later.cell e z1).trans q4)).mono ?_; rintro _ w5 ⟨rfl, hb5⟩; obtain ⟨e5, rfl⟩ := e.next hb5)
      go_roundg (3 - (1 + 1))
      case measure => omega
      case rel => exact ⟨1 + 1, e5, by go_num, by omega, by omega, rfl, H! ⟨fun _ => HG.out.1 (by omega), fun _ => HGD.out, fun h => absurd h (by omega)⟩⟩
     ·
      have HB : Hid (R = false) := H! (by rw [HR.out, HG.out.1 (by omega), yej (.inr hb)]; simp)
      go_wp2_with (go_at_call 59; refine (yft w.heap.size cells ro co oY e.w (HOUT.out.later (hbW.trans (e.h.mono (by omega)))) true hb (Nat.lt_of_lt_of_le z1 hes) ((Later.cell e z1).trans q4)).mono ?_; rintro _ w5 ⟨rfl, hb5⟩; obtain ⟨e5, rfl⟩ := e.next hb5)
      go_ret
      exact ⟨yal HB.out.symm, hbW.trans (e5.h.mono (by omega))⟩
   ·
    by_cases n0 : 1000 < sY.length
    ·
     have HB : Hid (R = false) := H! (by rw [HR.out, HG.out.1 (by omega), HG.out.2.1 (by omega), yej (.inl n0)]; simp)
     have n0i : (1000 : Int) < sY.length := by omega
     go_wp2
     go_ret
     exact ⟨yal HB.out.symm, hbW.trans (e.h.mono (by omega))⟩
    ·
     have n0i : ¬ (1000 : Int) < sY.length := by omega
     cases hb : sY.any (badC cells)
     ·
      have HGD := H! (ygj (cells := cells) (by omega) hb)
      go_wp2_with (go_at_call 59; refine (yft w.heap.size cells rs cs sY e.w (HST.out.later (hbW.trans (e.h.mono (by omega)))) false hb (Nat.lt_of_lt_of_le z1 hes) ((Later.cell e z1).trans q4)).mono ?_; rintro _ w5 ⟨rfl, hb5⟩; obtain ⟨e5, rfl⟩ := e.next hb5)
      go_roundg (3 - (2 + 1))
      case measure => omega
      case rel => exact ⟨2 + 1, e5, by go_num, by omega, by omega, rfl, H! ⟨fun _ => HG.out.1 (by omega), fun _ => HG.out.2.1 (by omega), fun _ => HGD.out⟩⟩
     ·
      have HB : Hid (R = false) := H! (by rw [HR.out, HG.out.1 (by omega), HG.out.2.1 (by omega), yej (.inr hb)]; simp)
      go_wp2_with (go_at_call 59; refine (yft w.heap.size cells rs cs sY e.w (HST.out.later (hbW.trans (e.h.mono (by omega)))) true hb (Nat.lt_of_lt_of_le z1 hes) ((Later.cell e z1).trans q4)).mono ?_; rintro _ w5 ⟨rfl, hb5⟩; obtain ⟨e5, rfl⟩ := e.next hb5)
      go_ret
      exact ⟨yal HB.out.symm, hbW.trans (e5.h.mono (by omega))⟩
  ·
   obtain rfl : k = 3 := by omega
   obtain ⟨G1, G2, G3⟩ := HG.out
   have g1 := G1 (by omega)
   have g2 := G2 (by omega)
   have g3 := G3 (by omega)
   clear G1 G2 G3 HG l0 l1 l2
   have z3 : w.heap.size < e.w.heap.size := Nat.lt_of_lt_of_le z1 hes
   obtain ⟨m, rfl⟩ : ∃ m : Nat, cells = m := ⟨cells.toNat, by omega⟩
   have hle : qY.length + sY.length ≤ 100000 := by
    have := (yfx g1).1
    have := (yfx g3).1
    omega
   obtain ⟨i0, hi, hz0, hz1, hz2⟩ := info_parts yig
   have hbe : Below w.heap.size w e.w := hbW.trans (e.h.mono (by omega))
   obtain ⟨all, hal⟩ : ∃ all, qY ++ sY = all := ⟨_, rfl⟩
   have HAL := H! hal
   have hlm : all.length ≤ 100000 := by rw [← hal, List.length_append]; exact hle
   rw [hal] at HR
   have HM : Hid (∀ c ∈ all, 0 ≤ c ∧ c < (m : Int)) := H! (fun c hc => (List.mem_append.1 (hal ▸ hc)).elim ((yfx g1).2 c) ((yfx g3).2 c))
   clear hal
   have u4 := (Later.cell e z1).trans q4
   have u5 := (Later.cell e z1).trans q5
   have u6 := (Later.cell e z1).trans q6
   have u8 := (Later.cell e z1).trans q8
   have G := H! (And.intro g1 (And.intro g2 g3))
   clear g1 g2 g3 q4 q5 q6 q8
   go_wp2_with (first | (at_make; refine wpList_make_full _ (by rfl) _ _ _ (by rfl) e.w.heap.size 4 i0 (.bool false) 1 Tryz.underlying77 hi hz0 hz1 .i64 .i64 _ _ m (by rfl) (by rfl) (by rfl) (by rfl) (by rw [hz2]; omega) (by unfold maxLen; omega) (Nat.le_refl _) ?_; intro w4 hown hgrow; have hb4 : Below e.w.heap.size e.w w4 := (Below.refl _ _).grown hgrow (Nat.le_refl _) (fun k hk => by cases hk); obtain ⟨cur, hrow, hsz, hcur⟩ := made_b hown; clear hown hgrow; have z4 : e.w.heap.size < w4.heap.size := yjf hrow; have z5 : w.heap.size < w4.heap.size := (by omega); have r5 := (hb4.cell (p := ⟨w.heap.size, 5, none⟩) z3).trans u5; have r6 := (hb4.cell (p := ⟨w.heap.size, 6, none⟩) z3).trans u6; have r8 := (hb4.cell (p := ⟨w.heap.size, 8, none⟩) z3).trans u8; have hbw4 : Below w.heap.size w w4 := hbe.trans (hb4.mono (by omega))) | (go_at_call 61; refine (concat2A w4.heap.size ri rs ci cs qY sY all _ HAL.out (by rw [zA]; omega) (by simp) (by simp) (HIN.out.later (hbw4.trans (((Below.refl w4.heap.size w4).alloc (Nat.le_refl _) _).mono (by omega)))) (HST.out.later (hbw4.trans (((Below.refl w4.heap.size w4).alloc (Nat.le_refl _) _).mono (by omega)))) hle (fun x hx => (List.mem_append.1 hx).elim (HIN.out.wf x) (HST.out.wf x))).mono ?_; rintro _ w5 ⟨ra, ca, rfl, hall, hb5⟩; have hb5' := hb5; rw [zA] at hb5'; have z6 : w4.heap.size < w5.heap.size := (by have hsz5 := hb5'.size; rw [zA] at hsz5; omega); have hrow5 : w5.heap[e.w.heap.size]? = some (.cells cur 4) := ((hb5'.block e.w.heap.size (by omega)).trans (((Below.refl w4.heap.size w4).alloc (Nat.le_refl _) _).block e.w.heap.size (by omega))).trans hrow; have r8b := (hb5'.cell (p := ⟨w.heap.size, 8, none⟩) (show w.heap.size < w4.heap.size + 1 from (by omega))).trans ((((Below.refl w4.heap.size w4).alloc (Nat.le_refl _) _).cell (p := ⟨w.heap.size, 8, none⟩) z5).trans r8); have hbz : Below w.heap.size w w5 := hbw4.trans ((((Below.refl w4.heap.size w4).alloc (Nat.le_refl _) _).mono (by omega)).trans (hb5'.mono (by omega)))))
   have HALL := H! hall
   clear hall
   generalize hgt : e.w.heap.size = gT at *
   go_loopg [8, 101] all.length (fun kx s8 s101 wr => ∃ (k : Nat) (arr : Array Value), s101 = .int .i64 k ∧ k ≤ all.length ∧ all.length - k ≤ kx ∧ KeepB w5.heap.size gT w5 wr ∧ Hid (wr.heap[gT]? = some (.cells arr 4)) ∧ arr.size = m ∧ Hid (∀ t : Nat, t < m → arr[t]? = some (.bool (decide ((t : Int) ∈ all.take k)))) ∧ Hid (∀ j, j < k → all.getD j 0 ∉ all.take j))
   case atStart => exact ⟨0, cur, rfl, by omega, by omega, KeepB.refl _ _ _, H! hrow5, hsz, H! (fun t ht => by rw [hcur t ht]; simp), H! (fun j hj => absurd hj (by omega))⟩
   case round =>
    obtain ⟨k, arr, rfl, hk, hkx, hK, HR2, hasz, HA, HN⟩ := hrel
    have hbr : Below w.heap.size w wr := hbz.trans (hK.below (by omega) (by omega))
    by_cases hlt : k < all.length
    ·
     obtain ⟨b5, o5, rfl, hb5b, hcells⟩ := HALL.out.cells (by intro h; rw [h] at hlt; simp at hlt)
     have hc5 := hcells k hlt
     have hmem : all.getD k 0 ∈ all := by rw [List.getD_eq_getElem?_getD, List.getElem?_eq_getElem hlt]; exact List.getElem_mem hlt
     obtain ⟨c0, c1⟩ := HM.out _ hmem
     obtain ⟨t, ht⟩ : ∃ t : Nat, all.getD k 0 = t := ⟨(all.getD k 0).toNat, by omega⟩
     have hne : b5 ≠ gT := fun h => by
      subst h
      rw [cell_of_row w5 b5 (o5 + k) cur _ _ hrow5] at hc5
      have hlt2 : o5 + k < m := by
       rcases Nat.lt_or_ge (o5 + k) m with hh | hh
       ·
        exact hh
       ·
        rw [Array.getElem?_eq_none (by omega)] at hc5; cases hc5
      rw [hcur _ hlt2] at hc5
      cases hc5
     have hcw : wr.cell? ⟨b5, o5 + k, none⟩ = some (.int .i64 t) := by rw [hK.cell hb5b hne, hc5, ht]
     have HT2 := H! ht
     rw [ht] at c0 c1
     have htm : t < m := by omega
     have hct : wr.cell? ⟨gT, t, none⟩ = some (.bool (decide ((t : Int) ∈ all.take k))) := by rw [cell_of_row wr gT t arr _ _ HR2.out, HA.out t htm]
     have hft : wr.frozen? ⟨gT, t, none⟩ = false := by simp [World.frozen?, HR2.out]
     have hk1 : (0 : Int) ≤ (k : Int) := by omega
     have hk2 : (k : Int) < all.length := by omega
     clear ht hc5 hcells hmem
     cases hd : decide ((t : Int) ∈ all.take k)
     ·
      rw [hd] at hct
      have HD := H! hd
      clear hd
      go_wp2
      go_roundg (all.length - (k + 1))
      case measure => omega
      case rel =>
       refine ⟨k + 1, arr.setIfInBounds t (.bool true), by go_num, by omega, by omega, hK.trans (KeepB.setC _ _ _), H! (yhn HR2.out _), by simpa using hasz, H! (fun u hu => ?_), H! (fun j hj => ?_)⟩
       ·
        have hadd : all.take (k + 1) = all.take k ++ [(t : Int)] := by
         have hh := HT2.out
         rw [List.getD_eq_getElem?_getD, List.getElem?_eq_getElem hlt] at hh
         rw [List.take_add_one, List.getElem?_eq_getElem hlt, ← hh]; rfl
        rw [Array.getElem?_setIfInBounds, hadd]
        by_cases he : t = u
        ·
         subst he
         simp [hasz, htm]
        ·
         rw [if_neg he, HA.out u hu]
         have : ¬ (u : Int) = t := by omega
         simp [this]
       ·
        by_cases hjk : j = k
        ·
         subst hjk
         rw [HT2.out]
         exact of_decide_eq_false HD.out
        ·
         exact HN.out j (by omega)
     ·
      rw [hd] at hct
      have HB : Hid (R = false) := H! (by
       have hm : ¬ all.Nodup := yjd hlt (by rw [HT2.out]; exact of_decide_eq_true hd)
       rw [HR.out, decide_eq_false hm]; simp)
      clear hd
      go_wp2
      go_ret
      exact ⟨yal HB.out.symm, hbr⟩
    ·
     obtain rfl : k = all.length := by omega
     have hnd : all.Nodup := yhu (fun j hj => HN.out j hj)
     have HE : Hid (R = !(iY.any badN)) := H! (by
      rw [HR.out, G.out.1, G.out.2.1, G.out.2.2, decide_eq_true hnd]; rfl)
     have hcr : wr.cell? ⟨w.heap.size, 8, none⟩ = some (.slice rn iY.length cn) := by rw [hK.cell (by omega) (by omega)]; exact r8b
     have hini2 := HINI.out.later hbr
     have HI2 := H! (mh_ini rn cn iY wr hini2 _ rfl)
     clear hini2 hnd
     generalize iY.any badN = bi at *
     go_wp2_with (go_at_call 59; refine HI2.out.mono ?_; rintro _ w6 ⟨rfl, hb6⟩)
     go_ret
     exact ⟨yal HE.out.symm, hbr.trans (hb6.mono hbr.size)⟩
theorem ydp (p : PV) (w : World) (hp : IsP w p) : Calls Tryz.prog 26 #[p.val] w fun e w' => e = .returned (.bool (yas p)) ∧ Below w.heap.size w w' := by
 by_cases hsz : szP p
 rotate_left
 ·
  have e : yas p = false := by unfold yas; rw [decide_eq_false hsz]; rfl
  rw [e]
  exact mv_sz p w hp hsz
 have e0 : decide (szP p) = true := decide_eq_true hsz
 cases hT : (p.tY.any fun t => !fxB t)
 rotate_left
 ·
  have e : yas p = false := by unfold yas; rw [hT]; simp
  rw [e]
  obtain ⟨rc, cc, xY, rt, ct, tY, rv, cv, zY, rm, cm, mY, cells, ri, ci, qY, rs, cs, sY, ro, co, oY, rn, cn, iY⟩ := p
  simp only [PV.val]
  exact mv_T _ _ _ _ _ _ _ _ _ _ _ _ _ _ _ _ _ _ _ _ _ _ _ _ _ w hp hsz hT
 cases hC : (p.zY.any fun t => !cvB t)
 rotate_left
 ·
  have e : yas p = false := by unfold yas; rw [hC]; simp
  rw [e]
  obtain ⟨rc, cc, xY, rt, ct, tY, rv, cv, zY, rm, cm, mY, cells, ri, ci, qY, rs, cs, sY, ro, co, oY, rn, cn, iY⟩ := p
  simp only [PV.val]
  exact mv_C _ _ _ _ _ _ _ _ _ _ _ _ _ _ _ _ _ _ _ _ _ _ _ _ _ w hp hsz hT hC
 cases hM : (p.mY.any fun t => !mpB t)
 rotate_left
 ·
  have e : yas p = false := by unfold yas; rw [hM]; simp
  rw [e]
  obtain ⟨rc, cc, xY, rt, ct, tY, rv, cv, zY, rm, cm, mY, cells, ri, ci, qY, rs, cs, sY, ro, co, oY, rn, cn, iY⟩ := p
  simp only [PV.val]
  exact mv_M _ _ _ _ _ _ _ _ _ _ _ _ _ _ _ _ _ _ _ _ _ _ _ _ _ w hp hsz hT hC hM
 cases hI : (p.xY.any fun i => !fitB p.cells p.zY.length p.mY.length p.tY i)
 rotate_left
 ·
  have e : yas p = false := by unfold yas; rw [hI]; simp
  rw [e]
  obtain ⟨rc, cc, xY, rt, ct, tY, rv, cv, zY, rm, cm, mY, cells, ri, ci, qY, rs, cs, sY, ro, co, oY, rn, cn, iY⟩ := p
  simp only [PV.val]
  exact mv_I _ _ _ _ _ _ _ _ _ _ _ _ _ _ _ _ _ _ _ _ _ _ _ _ _ w hp hsz hT hC hM hI
 have e : yas p = (inL p.cells p.qY && (inL p.cells p.oY && (inL p.cells p.sY && (decide (p.qY ++ p.sY).Nodup && !(p.iY.any badN))))) := by
  unfold yas
  rw [e0, hT, hC, hM, hI]
  simp only [Bool.not_false, Bool.true_and]
 rw [e]
 obtain ⟨rc, cc, xY, rt, ct, tY, rv, cv, zY, rm, cm, mY, cells, ri, ci, qY, rs, cs, sY, ro, co, oY, rn, cn, iY⟩ := p
 simp only [PV.val]
 exact mv_main _ _ _ _ _ _ _ _ _ _ _ _ _ _ _ _ _ _ _ _ _ _ _ _ _ w hp hsz hT hC hM hI
theorem Wr.later {w w' : World} {b : Nat} {xs : List Int} (h : Wr w b xs) (hb : Below w.heap.size w w') : Wr w' b xs := by
 obtain ⟨r, cap, h1, h2, h3, h4⟩ := h
 exact ⟨r, cap, Nat.lt_of_lt_of_le h1 hb.size, (hb.cell (p := ⟨b, 0, none⟩) h1).trans h2, (hb.frozen (p := ⟨b, 0, none⟩) h1).trans h3, h4.below hb (Nat.le_refl _)⟩
def cv0 (c : List Int × List Int) : Cv := ⟨none, 0, c.1, none, 0, c.2⟩
def mp0 (m : List Int × List Int × List (List Int)) : Mp := ⟨none, 0, m.1, none, 0, m.2.1, none, 0, m.2.2⟩
def PP.v (p : PP) : PV := ⟨none, 0, p.xY, none, 0, p.tY, none, 0, p.zY.map cv0, none, 0, p.mY.map mp0, p.cells, none, 0, p.qY, none, 0, p.sY, none, 0, p.oY, none, 0, p.iY⟩
noncomputable def okP (p : PP) : Bool := yas p.v
theorem yjc (p : PV) : okP p.p = yas p := by
 have hs : decide (szP p.p.v) = decide (szP p) := decide_eq_decide.2 (by simp [szP, PV.p, PP.v])
 have e1 : (p.p.v.zY.any fun c => !cvB c) = p.zY.any fun c => !cvB c := by
  simp only [PV.p, PP.v, List.any_map]; rfl
 have e2 : (p.p.v.mY.any fun c => !mpB c) = p.mY.any fun c => !mpB c := by
  simp only [PV.p, PP.v, List.any_map]; rfl
 unfold okP yas
 rw [hs, e1, e2]
 simp only [PV.p, PP.v, List.length_map]
 rfl
theorem IsS.len {α : Type} {sz : Nat} {enc : α → List Value} {W : World} {r : Option Addr} {c : Nat} {xs : List α} (h : IsS sz enc W r c xs) : xs.length ≤ 9223372036854775807 := by have := h.le; have := h.max; unfold maxLen at this; omega
def pv0 : PV := ⟨none, 0, [], none, 0, [], none, 0, [], none, 0, [], 0, none, 0, [], none, 0, [], none, 0, [], none, 0, []⟩
theorem ints0 (W : World) (k : IntKind) : IsInts W none 0 k [] := ⟨Nat.le_refl _, Nat.zero_le _, by simp, fun h => absurd rfl h⟩
theorem isS0 {α : Type} (sz : Nat) (enc : α → List Value) (W : World) : IsS sz enc W none 0 [] := ⟨Nat.le_refl _, Nat.zero_le _, fun h => absurd rfl h⟩
theorem isP0 (W : World) : IsP W pv0 := ⟨isS0 _ _ _, by simp [pv0], isS0 _ _ _, by simp [pv0], isS0 _ _ _, by simp [pv0], isS0 _ _ _, by simp [pv0], i64_0, ints0 _ _, ints0 _ _, ints0 _ _, ints0 _ _⟩
def Cons {α : Type} (f : Sx → α × Sx) (enc : α → List Int) : Prop := ∀ s bs', (f s).2 = some bs' → ∃ bs, s = some bs ∧ bs.length = (enc (f s).1).length + bs'.length
theorem Cons.use {α : Type} {f : Sx → α × Sx} {enc : α → List Int} (hc : Cons f enc) {s s' : Sx} {x : α} {bs' : List Int} (he : f s = (x, s')) (h : s' = some bs') : ∃ bs, s = some bs ∧ bs.length = (enc x).length + bs'.length := by
 have := hc s bs' (by rw [he]; exact h)
 rwa [he] at this
def pp0 : PP := ⟨[], [], [], [], 0, [], [], [], []⟩
theorem flat_get {α : Type} {enc : α → List Value} {sz : Nat} (henc : ∀ x, (enc x).length = sz) (h0 : 0 < sz) {ys : List α} {j : Nat} {u : Value} (h : (ys.flatMap enc)[j]? = some u) : ∃ x, ys[j / sz]? = some x ∧ (enc x)[j % sz]? = some u := by
 induction ys generalizing j with
 | nil => simp at h
 | cons y ys ih =>
  rw [List.flatMap_cons] at h
  by_cases hj : j < sz
  ·
   rw [List.getElem?_append_left (by rw [henc]; exact hj)] at h
   refine ⟨y, ?_, ?_⟩
   ·
    rw [Nat.div_eq_of_lt hj]; rfl
   ·
    rw [Nat.mod_eq_of_lt hj]; exact h
  ·
   rw [List.getElem?_append_right (by rw [henc]; omega), henc] at h
   obtain ⟨x, h1, h2⟩ := ih h
   have e1 : j / sz = (j - sz) / sz + 1 := by rw [Nat.div_eq j sz, if_pos ⟨h0, by omega⟩]
   have e2 : j % sz = (j - sz) % sz := by rw [Nat.mod_eq_sub_mod (by omega)]
   exact ⟨x, by rw [e1]; exact h1, by rw [e2]; exact h2⟩
theorem ycv {α : Type} {enc : α → List Value} {sz : Nat} (henc : ∀ x, (enc x).length = sz) (ys : List α) : (ys.flatMap enc).length = ys.length * sz := by
 induction ys with
 | nil => simp
 | cons y ys ih => rw [List.flatMap_cons, List.length_append, henc, ih, List.length_cons, Nat.succ_mul, Nat.add_comm]
section
variable {α : Type} {t : TypeId} {sz : Nat} {enc : α → List Value}
theorem yfg {w : World} {ad : Addr} {c : Nat} {ys : List α} (henc : ∀ x, (enc x).length = sz) (h0 : 0 < sz) (h : IsS sz enc w (some ad) c ys) : ∀ j u, (ys.flatMap enc)[j]? = some u → w.cell? (ad.add j) = some u := by
 intro j u hj
 by_cases hne : ys = []
 ·
  subst hne; simp at hj
 ·
  obtain ⟨b, off, h1, _, h3⟩ := h.cells hne
  obtain rfl : ad = ⟨b, off, none⟩ := by simpa using h1
  obtain ⟨y, h4, h5⟩ := flat_get henc h0 hj
  have h6 := h3 _ _ h4 _ _ h5
  have e : (Addr.add ⟨b, off, none⟩ j : Addr) = ⟨b, off + j / sz * sz + j % sz, none⟩ := by
   have : off + j / sz * sz + j % sz = off + j := by have := Nat.div_add_mod j sz; rw [Nat.mul_comm] at this; omega
   rw [this]
   by_cases h0 : j = 0
   ·
    subst h0; simp [Addr.add]
   ·
    simp [Addr.add, h0]
  rw [e, h6]
theorem ybi {ts : TypeId} {z : Value} {by' : Nat} (hts : Tryz.prog.underlying ts = some (.slice t)) (hinf : (Tryz.prog.info? t).map (fun i => (i.zero, i.size, i.bytes)) = some (some z, sz, by')) (hzs : z.cells.size = sz) (h0 : 0 < sz) (hby : by' ≤ 128)
  {ops : Array Oper} {rest : List Oper} {o : Oper} {a : Act} {Q : Exit → Act → World → Prop} {w : World} (hgd : o.guard = none) (s x : Operand)
  (ho : o.op = .call { callee := .builtin .append, args := #[s, x], argTypes := #[ts, ts] }) (base : Nat) (r : Option Addr) (ad : Addr) (cap c2 : Nat) (xs ys : List α) (henc : ∀ x, (enc x).length = sz) (hone : ∀ x, ∀ u ∈ enc x, u.oneCell' = true)
  (hs : a.eval s = .slice r xs.length cap) (hx : a.eval x = .slice (some ad) ys.length c2) (hown : OwnR t sz enc w base r cap xs) (hys : ∀ j u, (ys.flatMap enc)[j]? = some u → w.cell? (ad.add j) = some u) (hl : xs.length + ys.length ≤ 549755813888) (hb : base ≤ w.heap.size)
  (h : ∀ r' cap' w', OwnR t sz enc w' base r' cap' (xs ++ ys) → Below base w w' → wpList Tryz.prog ops Q rest (a.put o.dst (.slice r' (xs ++ ys).length cap')) w') : wpList Tryz.prog ops Q (o :: rest) a w := by
 obtain ⟨i0, hi, hz0, hz1, hz2⟩ := info_parts hinf
 refine wpList_append_own_at w hgd s x ts ho base t i0 z sz by' hts hi hz0 hz1 hz2 hzs h0 _ xs.length (xs.flatMap enc) hs hown ad ys.length c2 (ys.flatMap enc) hx (ycv henc ys) hys ?_ (by unfold maxLen; omega) (by have : (xs.length + ys.length) * by' ≤ 549755813888 * 128 := Nat.mul_le_mul (by omega) hby; omega) hb ?_
 ·
  intro u hu
  obtain ⟨y, _, h2⟩ := List.mem_flatMap.1 hu
  exact hone y u h2
 ·
  intro v' w1 hown1 hgrow _ hg
  have hB : Below base w w1 := (Below.refl base w).grown hgrow hb (fun k hk => (World.ownsRow.lt hown k hk).1)
  have hlen : (xs ++ ys).length = xs.length + ys.length := by simp
  rw [← List.flatMap_append] at hown1
  obtain ⟨r', cap', rfl⟩ : ∃ r' cap', v' = .slice r' (xs ++ ys).length cap' := by
   rcases hown1.2 with ⟨h1, h3⟩ | ⟨g, c, cur, h1, _⟩
   ·
    exact ⟨none, 0, by rw [h1, hlen, h3]⟩
   ·
    exact ⟨_, _, by rw [h1, hlen]⟩
  refine h r' cap' w1 ?_ hB
  unfold OwnR
  rw [hlen] at hown1 ⊢
  exact hown1
end
theorem yjo (r : Option Addr) (cap : Nat) (xs : List Ins) (w : World) (hx : IsS 5 Ins.enc w r cap xs) (hl : xs.length ≤ 549755813888) : Calls Tryz.prog 64 #[.slice r xs.length cap] w fun e w' => ∃ r' cap', e = .returned (.slice r' xs.length cap') ∧ OwnR 42 5 Ins.enc w' w.heap.size r' cap' xs ∧ Below w.heap.size w w' := by
 cases r with
 | none =>
  have hy : xs = [] := by
   rcases Classical.em (xs = []) with h | h
   ·
    exact h
   ·
    obtain ⟨b, off, h1, _⟩ := hx.cells h
    cases h1
  subst hy
  clear hx
  have hq : ∀ w, (binOp .eql 22 (.slice none 0 cap) (.slice none 0 0)).run Tryz.prog w = .ok (.bool true) w := fun w => ybu Tryz.underlying22 _ _ _ w
  go_enter Tryz.func64, Tryz.ntmps64
  go_wp2
  go_ret
  exact ⟨none, 0, rfl, OwnR.nil _ _, bw⟩
 | some ad =>
  have HX : Hid (∀ w', Below w.heap.size w w' → IsS 5 Ins.enc w' (some ad) cap xs) := H! (fun _ h => hx.later h)
  clear hx
  have HE : Hid (OwnR 42 5 Ins.enc (w.alloc (.cells #[] 42)) w.heap.size (some ⟨w.heap.size, 0, none⟩) 0 ([] : List Ins)) := H! ⟨by simp, Or.inr ⟨w.heap.size, 0, #[], rfl, Nat.le_refl _, heap_alloc_new w _, by simp, by simp [maxLen], by simp, by simp⟩⟩
  have hq : ∀ w, (binOp .eql 22 (.slice (some ad) xs.length cap) (.slice none 0 0)).run Tryz.prog w = .ok (.bool false) w := fun w => ybu Tryz.underlying22 _ _ _ w
  go_enter Tryz.func64, Tryz.ntmps64
  go_wp2_with (at_builtin; refine ybi (sz := 5) Tryz.underlying22 yfh rfl (by omega) (by omega) (by rfl) _ _ (by rfl) w.heap.size (some ⟨w.heap.size, 0, none⟩) ad 0 cap [] xs (fun _ => rfl) (fun x u hu => by simp only [Ins.enc, List.mem_cons, List.not_mem_nil, or_false] at hu; rcases hu with rfl | rfl | rfl | rfl | rfl <;> rfl) (by rfl) (by rfl) HE.out (yfg (sz := 5) (fun _ => rfl) (by omega) (HX.out _ bw)) (by simpa using hl) (by go_size) ?_; intro r' cap' w1 hown1 hbw1; have HO1 := H! hown1; clear hown1)
  go_ret
  have hO := HO1.out
  rw [List.nil_append] at hO
  exact ⟨r', cap', rfl, hO, Below.trans ((Below.refl _ w).alloc (Nat.le_refl _) _) hbw1⟩
theorem ykf (r : Option Addr) (cap : Nat) (xs : List Fx) (w : World) (hx : IsS 10 Fx.enc w r cap xs) (hl : xs.length ≤ 549755813888) : Calls Tryz.prog 65 #[.slice r xs.length cap] w fun e w' => ∃ r' cap', e = .returned (.slice r' xs.length cap') ∧ OwnR 73 10 Fx.enc w' w.heap.size r' cap' xs ∧ Below w.heap.size w w' := by
 cases r with
 | none =>
  have hy : xs = [] := by
   rcases Classical.em (xs = []) with h | h
   ·
    exact h
   ·
    obtain ⟨b, off, h1, _⟩ := hx.cells h
    cases h1
  subst hy
  clear hx
  have hq : ∀ w, (binOp .eql 23 (.slice none 0 cap) (.slice none 0 0)).run Tryz.prog w = .ok (.bool true) w := fun w => ybu Tryz.underlying23 _ _ _ w
  go_enter Tryz.func65, Tryz.ntmps65
  go_wp2
  go_ret
  exact ⟨none, 0, rfl, OwnR.nil _ _, bw⟩
 | some ad =>
  have HX : Hid (∀ w', Below w.heap.size w w' → IsS 10 Fx.enc w' (some ad) cap xs) := H! (fun _ h => hx.later h)
  clear hx
  have HE : Hid (OwnR 73 10 Fx.enc (w.alloc (.cells #[] 73)) w.heap.size (some ⟨w.heap.size, 0, none⟩) 0 ([] : List Fx)) := H! ⟨by simp, Or.inr ⟨w.heap.size, 0, #[], rfl, Nat.le_refl _, heap_alloc_new w _, by simp, by simp [maxLen], by simp, by simp⟩⟩
  have hq : ∀ w, (binOp .eql 23 (.slice (some ad) xs.length cap) (.slice none 0 0)).run Tryz.prog w = .ok (.bool false) w := fun w => ybu Tryz.underlying23 _ _ _ w
  go_enter Tryz.func65, Tryz.ntmps65
  go_wp2_with (at_builtin; refine ybi (sz := 10) Tryz.underlying23 yne rfl (by omega) (by omega) (by rfl) _ _ (by rfl) w.heap.size (some ⟨w.heap.size, 0, none⟩) ad 0 cap [] xs (fun _ => rfl) (fun x u hu => by simp only [Fx.enc, List.mem_cons, List.not_mem_nil, or_false] at hu; rcases hu with rfl | rfl | rfl | rfl | rfl | rfl | rfl | rfl | rfl | rfl <;> rfl) (by rfl) (by rfl) HE.out (yfg (sz := 10) (fun _ => rfl) (by omega) (HX.out _ bw)) (by simpa using hl) (by go_size) ?_; intro r' cap' w1 hown1 hbw1; have HO1 := H! hown1; clear hown1)
  go_ret
  have hO := HO1.out
  rw [List.nil_append] at hO
  exact ⟨r', cap', rfl, hO, Below.trans ((Below.refl _ w).alloc (Nat.le_refl _) _) hbw1⟩
theorem ykg (r : Option Addr) (cap : Nat) (xs : List Cv) (w : World) (hx : IsS 2 Cv.enc w r cap xs) (hl : xs.length ≤ 549755813888) : Calls Tryz.prog 66 #[.slice r xs.length cap] w fun e w' => ∃ r' cap', e = .returned (.slice r' xs.length cap') ∧ OwnR 55 2 Cv.enc w' w.heap.size r' cap' xs ∧ Below w.heap.size w w' := by
 cases r with
 | none =>
  have hy : xs = [] := by
   rcases Classical.em (xs = []) with h | h
   ·
    exact h
   ·
    obtain ⟨b, off, h1, _⟩ := hx.cells h
    cases h1
  subst hy
  clear hx
  have hq : ∀ w, (binOp .eql 24 (.slice none 0 cap) (.slice none 0 0)).run Tryz.prog w = .ok (.bool true) w := fun w => ybu Tryz.underlying24 _ _ _ w
  go_enter Tryz.func66, Tryz.ntmps66
  go_wp2
  go_ret
  exact ⟨none, 0, rfl, OwnR.nil _ _, bw⟩
 | some ad =>
  have HX : Hid (∀ w', Below w.heap.size w w' → IsS 2 Cv.enc w' (some ad) cap xs) := H! (fun _ h => hx.later h)
  clear hx
  have HE : Hid (OwnR 55 2 Cv.enc (w.alloc (.cells #[] 55)) w.heap.size (some ⟨w.heap.size, 0, none⟩) 0 ([] : List Cv)) := H! ⟨by simp, Or.inr ⟨w.heap.size, 0, #[], rfl, Nat.le_refl _, heap_alloc_new w _, by simp, by simp [maxLen], by simp, by simp⟩⟩
  have hq : ∀ w, (binOp .eql 24 (.slice (some ad) xs.length cap) (.slice none 0 0)).run Tryz.prog w = .ok (.bool false) w := fun w => ybu Tryz.underlying24 _ _ _ w
  go_enter Tryz.func66, Tryz.ntmps66
  go_wp2_with (at_builtin; refine ybi (sz := 2) Tryz.underlying24 yji rfl (by omega) (by omega) (by rfl) _ _ (by rfl) w.heap.size (some ⟨w.heap.size, 0, none⟩) ad 0 cap [] xs (fun _ => rfl) (fun x u hu => by simp only [Cv.enc, List.mem_cons, List.not_mem_nil, or_false] at hu; rcases hu with rfl | rfl <;> rfl) (by rfl) (by rfl) HE.out (yfg (sz := 2) (fun _ => rfl) (by omega) (HX.out _ bw)) (by simpa using hl) (by go_size) ?_; intro r' cap' w1 hown1 hbw1; have HO1 := H! hown1; clear hown1)
  go_ret
  have hO := HO1.out
  rw [List.nil_append] at hO
  exact ⟨r', cap', rfl, hO, Below.trans ((Below.refl _ w).alloc (Nat.le_refl _) _) hbw1⟩
theorem yke (r : Option Addr) (cap : Nat) (xs : List Mp) (w : World) (hx : IsS 3 Mp.enc w r cap xs) (hl : xs.length ≤ 549755813888) : Calls Tryz.prog 67 #[.slice r xs.length cap] w fun e w' => ∃ r' cap', e = .returned (.slice r' xs.length cap') ∧ OwnR 60 3 Mp.enc w' w.heap.size r' cap' xs ∧ Below w.heap.size w w' := by
 cases r with
 | none =>
  have hy : xs = [] := by
   rcases Classical.em (xs = []) with h | h
   ·
    exact h
   ·
    obtain ⟨b, off, h1, _⟩ := hx.cells h
    cases h1
  subst hy
  clear hx
  have hq : ∀ w, (binOp .eql 25 (.slice none 0 cap) (.slice none 0 0)).run Tryz.prog w = .ok (.bool true) w := fun w => ybu Tryz.underlying25 _ _ _ w
  go_enter Tryz.func67, Tryz.ntmps67
  go_wp2
  go_ret
  exact ⟨none, 0, rfl, OwnR.nil _ _, bw⟩
 | some ad =>
  have HX : Hid (∀ w', Below w.heap.size w w' → IsS 3 Mp.enc w' (some ad) cap xs) := H! (fun _ h => hx.later h)
  clear hx
  have HE : Hid (OwnR 60 3 Mp.enc (w.alloc (.cells #[] 60)) w.heap.size (some ⟨w.heap.size, 0, none⟩) 0 ([] : List Mp)) := H! ⟨by simp, Or.inr ⟨w.heap.size, 0, #[], rfl, Nat.le_refl _, heap_alloc_new w _, by simp, by simp [maxLen], by simp, by simp⟩⟩
  have hq : ∀ w, (binOp .eql 25 (.slice (some ad) xs.length cap) (.slice none 0 0)).run Tryz.prog w = .ok (.bool false) w := fun w => ybu Tryz.underlying25 _ _ _ w
  go_enter Tryz.func67, Tryz.ntmps67
  go_wp2_with (at_builtin; refine ybi (sz := 3) Tryz.underlying25 ynd rfl (by omega) (by omega) (by rfl) _ _ (by rfl) w.heap.size (some ⟨w.heap.size, 0, none⟩) ad 0 cap [] xs (fun _ => rfl) (fun x u hu => by simp only [Mp.enc, List.mem_cons, List.not_mem_nil, or_false] at hu; rcases hu with rfl | rfl | rfl <;> rfl) (by rfl) (by rfl) HE.out (yfg (sz := 3) (fun _ => rfl) (by omega) (HX.out _ bw)) (by simpa using hl) (by go_size) ?_; intro r' cap' w1 hown1 hbw1; have HO1 := H! hown1; clear hown1)
  go_ret
  have hO := HO1.out
  rw [List.nil_append] at hO
  exact ⟨r', cap', rfl, hO, Below.trans ((Below.refl _ w).alloc (Nat.le_refl _) _) hbw1⟩
theorem ykd (r : Option Addr) (cap : Nat) (xs : List Rw) (w : World) (hx : IsS 1 Rw.enc w r cap xs) (hl : xs.length ≤ 549755813888) : Calls Tryz.prog 69 #[.slice r xs.length cap] w fun e w' => ∃ r' cap', e = .returned (.slice r' xs.length cap') ∧ OwnR 26 1 Rw.enc w' w.heap.size r' cap' xs ∧ Below w.heap.size w w' := by
 cases r with
 | none =>
  have hy : xs = [] := by
   rcases Classical.em (xs = []) with h | h
   ·
    exact h
   ·
    obtain ⟨b, off, h1, _⟩ := hx.cells h
    cases h1
  subst hy
  clear hx
  have hq : ∀ w, (binOp .eql 58 (.slice none 0 cap) (.slice none 0 0)).run Tryz.prog w = .ok (.bool true) w := fun w => ybu Tryz.underlying58 _ _ _ w
  go_enter Tryz.func69, Tryz.ntmps69
  go_wp2
  go_ret
  exact ⟨none, 0, rfl, OwnR.nil _ _, bw⟩
 | some ad =>
  have HX : Hid (∀ w', Below w.heap.size w w' → IsS 1 Rw.enc w' (some ad) cap xs) := H! (fun _ h => hx.later h)
  clear hx
  have HE : Hid (OwnR 26 1 Rw.enc (w.alloc (.cells #[] 26)) w.heap.size (some ⟨w.heap.size, 0, none⟩) 0 ([] : List Rw)) := H! ⟨by simp, Or.inr ⟨w.heap.size, 0, #[], rfl, Nat.le_refl _, heap_alloc_new w _, by simp, by simp [maxLen], by simp, by simp⟩⟩
  have hq : ∀ w, (binOp .eql 58 (.slice (some ad) xs.length cap) (.slice none 0 0)).run Tryz.prog w = .ok (.bool false) w := fun w => ybu Tryz.underlying58 _ _ _ w
  go_enter Tryz.func69, Tryz.ntmps69
  go_wp2_with (at_builtin; refine ybi (sz := 1) Tryz.underlying58 ync rfl (by omega) (by omega) (by rfl) _ _ (by rfl) w.heap.size (some ⟨w.heap.size, 0, none⟩) ad 0 cap [] xs (fun _ => rfl) (fun x u hu => by simp only [Rw.enc, List.mem_cons, List.not_mem_nil, or_false] at hu; rcases hu with rfl; rfl) (by rfl) (by rfl) HE.out (yfg (sz := 1) (fun _ => rfl) (by omega) (HX.out _ bw)) (by simpa using hl) (by go_size) ?_; intro r' cap' w1 hown1 hbw1; have HO1 := H! hown1; clear hown1)
  go_ret
  have hO := HO1.out
  rw [List.nil_append] at hO
  exact ⟨r', cap', rfl, hO, Below.trans ((Below.refl _ w).alloc (Nat.le_refl _) _) hbw1⟩
def OwnF (D : Nat) (W : World) (F : List (Nat × List Value)) : Prop := (F.map Prod.fst).Nodup ∧ ∀ p ∈ F, D ≤ p.1 ∧ p.1 < W.heap.size ∧ AtV W p.1 p.2
theorem OwnF.nil (D : Nat) (W : World) : OwnF D W [] := ⟨by simp, by simp⟩
theorem OwnF.below {D : Nat} {W W' : World} {F : List (Nat × List Value)} (h : OwnF D W F) (hb : Below W.heap.size W W') : OwnF D W' F :=
 ⟨h.1, fun p hp => ⟨(h.2 p hp).1, Nat.lt_of_lt_of_le (h.2 p hp).2.1 hb.size, (h.2 p hp).2.2.keep (hb.block _ (h.2 p hp).2.1)⟩⟩
theorem OwnF.base {D D' : Nat} {W : World} {F : List (Nat × List Value)} (h : OwnF D W F) (hD : D' ≤ D) : OwnF D' W F := ⟨h.1, fun p hp => ⟨Nat.le_trans hD (h.2 p hp).1, (h.2 p hp).2⟩⟩
theorem OwnF.perm {D : Nat} {W : World} {F F' : List (Nat × List Value)} (h : OwnF D W F) (hp : F.Perm F') : OwnF D W F' :=
 ⟨(hp.map Prod.fst).nodup_iff.1 h.1, fun p hq => h.2 p (hp.mem_iff.2 hq)⟩
theorem OwnF.sub {D : Nat} {W : World} {F F' : List (Nat × List Value)} (h : OwnF D W F) (hs : F'.Sublist F) : OwnF D W F' :=
 ⟨h.1.sublist (hs.map Prod.fst), fun p hp => h.2 p (hs.subset hp)⟩
theorem OwnF.get {D : Nat} {W : World} {F : List (Nat × List Value)} (h : OwnF D W F) {b : Nat} {l : List Value} (hp : (b, l) ∈ F) : D ≤ b ∧ b < W.heap.size ∧ AtV W b l := h.2 _ hp
theorem OwnF.add {D : Nat} {W W' : World} {F : List (Nat × List Value)} (h : OwnF D W F) (hb : Below W.heap.size W W') {b : Nat} {l : List Value} (hD : D ≤ W.heap.size) (h1 : W.heap.size ≤ b) (h2 : b < W'.heap.size) (ha : AtV W' b l) : OwnF D W' (F ++ [(b, l)]) := by
 have h' := h.below hb
 refine ⟨?_, fun p hp => ?_⟩
 ·
  rw [List.map_append, List.nodup_append]
  refine ⟨h.1, by simp, fun x hx y hy => ?_⟩
  obtain ⟨p, hp, rfl⟩ := List.mem_map.1 hx
  have := (h.2 p hp).2.1
  simp at hy
  omega
 ·
  rcases List.mem_append.1 hp with hp | hp
  ·
   exact h'.2 p hp
  ·
   obtain rfl : p = (b, l) := by simpa using hp
   exact ⟨Nat.le_trans hD h1, h2, ha⟩
theorem OwnF.set {D : Nat} {W : World} {F1 F2 : List (Nat × List Value)} {b : Nat} {l : List Value} (h : OwnF D W (F1 ++ (b, l) :: F2)) {i : Nat} (hi : i < l.length) (v : Value) : OwnF D (W.setCell ⟨b, i, none⟩ v) (F1 ++ (b, l.set i v) :: F2) := by
 have hn := h.1
 refine ⟨by simpa using hn, fun p hp => ?_⟩
 rw [zS]
 have hoth : ∀ q, q ∈ F1 ∨ q ∈ F2 → D ≤ q.1 ∧ q.1 < W.heap.size ∧ AtV (W.setCell ⟨b, i, none⟩ v) q.1 q.2 := fun q hq => by
  have hm : q ∈ F1 ++ (b, l) :: F2 := by rcases hq with hq | hq <;> simp [hq]
  obtain ⟨h1, h2, h3⟩ := h.2 q hm
  have hne : q.1 ≠ b := by
   intro e
   simp only [List.map_append, List.map_cons, List.nodup_append, List.nodup_cons] at hn
   rcases hq with hq | hq
   ·
    exact hn.2.2 q.1 (List.mem_map_of_mem hq) b (by simp) e
   ·
    exact hn.2.1.1 (by rw [← e]; exact List.mem_map_of_mem hq)
  exact ⟨h1, h2, h3.keep (Below.heap_setCell _ _ _ _ hne)⟩
 rcases List.mem_append.1 hp with hp | hp
 ·
  exact hoth p (.inl hp)
 ·
  rcases List.mem_cons.1 hp with rfl | hp
  ·
   obtain ⟨h1, h2, h3⟩ := h.2 (b, l) (by simp)
   exact ⟨h1, h2, h3.set hi v⟩
  ·
   exact hoth p (.inr hp)
theorem ykw {α : Type} {enc : α → List Value} {sz : Nat} (henc : ∀ x, (enc x).length = sz) {ys : List α} {i j : Nat} {x : α} {u : Value} (hi : ys[i]? = some x) (hj : (enc x)[j]? = some u) : (ys.flatMap enc)[i * sz + j]? = some u := by
 induction ys generalizing i with
 | nil => simp at hi
 | cons y ys ih =>
  rw [List.flatMap_cons]
  have hjl : j < sz := by
   rcases Nat.lt_or_ge j sz with h | h
   ·
    exact h
   ·
    rw [List.getElem?_eq_none (by rw [henc]; exact h)] at hj; cases hj
  cases i with
  | zero =>
   obtain rfl : y = x := by simpa using hi
   rw [Nat.zero_mul, Nat.zero_add, List.getElem?_append_left (by rw [henc]; exact hjl)]
   exact hj
  | succ i =>
   rw [List.getElem?_append_right (by rw [henc, Nat.succ_mul]; omega), henc, Nat.succ_mul, show i * sz + sz + j - sz = i * sz + j by omega]
   exact ih (by simpa using hi)
def fr1 (r : Option Addr) (cells : List Value) : List (Nat × List Value) := match r with
 | none => []
 | some a => [(a.block, cells)]
structure SlF (r : Option Addr) (c n : Nat) : Prop where
 le : n ≤ c
 max : c ≤ maxLen
 none_ : r = none → n = 0
 some_ : ∀ a, r = some a → a = ⟨a.block, 0, none⟩
theorem OwnF.ints {D : Nat} {W : World} {F : List (Nat × List Value)} (h : OwnF D W F) {r : Option Addr} {c : Nat} {xs : List Int} (hs : SlF r c xs.length) (hw : ∀ x ∈ xs, I64 x) (hF : ∀ p ∈ fr1 r (xs.map (Value.int .i64)), p ∈ F) : IsInts W r c .i64 xs :=
 ⟨hs.le, hs.max, fun x hx => hw x hx, fun hne => by
  cases r with
  | none => exact absurd (hs.none_ rfl) (by simpa using hne)
  | some a =>
   obtain ⟨h1, h2, h3⟩ := h.2 (a.block, xs.map (Value.int .i64)) (hF _ (by simp [fr1]))
   refine ⟨a.block, 0, by rw [← hs.some_ a rfl], h2, fun i hi => ?_⟩
   rw [Nat.zero_add]
   refine (h3 i _ ?_).1
   simp [List.getElem?_map, List.getD, List.getElem?_eq_getElem hi]⟩
theorem OwnF.isS {α : Type} {sz : Nat} {enc : α → List Value} {D : Nat} {W : World} {F : List (Nat × List Value)} (h : OwnF D W F) (henc : ∀ x, (enc x).length = sz) {r : Option Addr} {c : Nat} {xs : List α} (hs : SlF r c xs.length) (hF : ∀ p ∈ fr1 r (xs.flatMap enc), p ∈ F) : IsS sz enc W r c xs :=
 ⟨hs.le, hs.max, fun hne => by
  cases r with
  | none => exact absurd (hs.none_ rfl) (by simpa using hne)
  | some a =>
   obtain ⟨h1, h2, h3⟩ := h.2 (a.block, xs.flatMap enc) (hF _ (by simp [fr1]))
   refine ⟨a.block, 0, by rw [← hs.some_ a rfl], h2, fun i x hi j u hj => ?_⟩
   rw [Nat.zero_add]
   refine (h3 (i * sz + j) _ ?_).1
   exact ykw henc hi hj⟩
theorem yjy {k : IntKind} {te : TypeId} {W : World} {base : Nat} {r : Option Addr} {c : Nat} {xs : List Int} (h : OwnK k te W base r c xs) : SlF r c xs.length ∧ ∀ p ∈ fr1 r (xs.map (Value.int k)), base ≤ p.1 ∧ p.1 < W.heap.size ∧ AtV W p.1 p.2 := by
 have hle := h.le
 rcases h.2 with ⟨h1, h2⟩ | ⟨g, c', cur, h1, h3, h4, h5, h6, h7, h8⟩
 ·
  simp only [Value.slice.injEq] at h1
  obtain ⟨rfl, _, rfl⟩ := h1
  exact ⟨⟨hle, Nat.zero_le _, fun _ => h2, fun a ha => (by cases ha)⟩, by simp [fr1]⟩
 ·
  simp only [Value.slice.injEq] at h1
  obtain ⟨rfl, _, rfl⟩ := h1
  refine ⟨⟨hle, h6, fun e => (by cases e), fun a ha => (by cases ha; rfl)⟩, fun p hp => ?_⟩
  obtain rfl : p = (g, xs.map (Value.int k)) := by simpa [fr1] using hp
  refine ⟨h3, (h.lt _ rfl).2, fun i v hi => ?_⟩
  rw [List.getElem?_map] at hi
  have hlt : i < xs.length := by
   rcases Nat.lt_or_ge i xs.length with hh | hh
   ·
    exact hh
   ·
    rw [List.getElem?_eq_none hh] at hi; cases hi
  obtain ⟨g', e1, _, _, e2, e3, _⟩ := h.at_ hlt
  obtain rfl : g = g' := by simpa using e1
  rw [List.getElem?_eq_getElem hlt] at hi
  refine ⟨?_, e3⟩
  rw [e2, ← hi]
  simp [List.getD, List.getElem?_eq_getElem hlt]
theorem yeg {α : Type} {t : TypeId} {sz : Nat} {enc : α → List Value} (henc : ∀ x, (enc x).length = sz) {W : World} {base : Nat} {r : Option Addr} {c : Nat} {xs : List α} (h : OwnR t sz enc W base r c xs) : SlF r c xs.length ∧ ∀ p ∈ fr1 r (xs.flatMap enc), base ≤ p.1 ∧ p.1 < W.heap.size ∧ AtV W p.1 p.2 := by
 rcases h.2 with ⟨h1, h2⟩ | ⟨g, c', cur, h1, h3, h4, h5, h6, h7, h8⟩
 ·
  simp only [Value.slice.injEq] at h1
  obtain ⟨rfl, _, rfl⟩ := h1
  exact ⟨⟨Nat.le_of_eq h2, Nat.zero_le _, fun _ => h2, fun a ha => (by cases ha)⟩, by simp [fr1]⟩
 ·
  simp only [Value.slice.injEq] at h1
  obtain ⟨rfl, _, rfl⟩ := h1
  refine ⟨⟨h5, h6, fun e => (by cases e), fun a ha => (by cases ha; rfl)⟩, fun p hp => ?_⟩
  obtain rfl : p = (g, xs.flatMap enc) := by simpa [fr1] using hp
  refine ⟨h3, (h.lt _ rfl).2, fun i v hi => ?_⟩
  have hlt : i < (xs.flatMap enc).length := by
   rcases Nat.lt_or_ge i (xs.flatMap enc).length with hh | hh
   ·
    exact hh
   ·
    rw [List.getElem?_eq_none hh] at hi; cases hi
  rw [ycv henc] at hlt
  have hc := World.ownsRow.cellAt (w := W) (base := base) (e := t) (size := sz) (g := g) (n := xs.length) (cap := c) (xs := xs.flatMap enc) h i hlt
  exact ⟨hc.trans hi, World.ownsRow.frozenAt (w := W) h i⟩
theorem OwnF.addF {D : Nat} {W W' : World} {F G : List (Nat × List Value)} (h : OwnF D W F) (hb : Below W.heap.size W W') (hD : D ≤ W.heap.size) (hG : OwnF W.heap.size W' G) : OwnF D W' (F ++ G) := by
 have h' := h.below hb
 refine ⟨?_, fun p hp => ?_⟩
 ·
  rw [List.map_append, List.nodup_append]
  refine ⟨h'.1, hG.1, fun a ha b hb' heq => ?_⟩
  obtain ⟨p, hp, rfl⟩ := List.mem_map.1 ha
  obtain ⟨q, hq, rfl⟩ := List.mem_map.1 hb'
  have h1 := (h.2 p hp).2.1
  have h2 := (hG.2 q hq).1
  omega
 ·
  rcases List.mem_append.1 hp with hp | hp
  ·
   exact h'.2 p hp
  ·
   exact ⟨Nat.le_trans hD (hG.2 p hp).1, (hG.2 p hp).2⟩
theorem OwnF.fr {D : Nat} {W : World} {r : Option Addr} {l : List Value} (h : ∀ p ∈ fr1 r l, D ≤ p.1 ∧ p.1 < W.heap.size ∧ AtV W p.1 p.2) : OwnF D W (fr1 r l) := by
 refine ⟨?_, h⟩
 cases r with
 | none => simp [fr1]
 | some a => simp [fr1]
section
open Go.Deep
structure Mr where
 rx : Option Addr
 cx : Nat
 X : List Int
 ry : Option Addr
 cy : Nat
 Y : List Int
 rz : Option Addr
 cz : Nat
 rows : List Rw
instance : Inhabited Mr := ⟨⟨none, 0, [], none, 0, [], none, 0, []⟩⟩
def Mr.m (m : Mr) : Mp := ⟨m.rx, m.cx, m.X, m.ry, m.cy, m.Y, m.rz, m.cz, m.rows.map Rw.l⟩
def Mr.enc (m : Mr) : List Value := [.slice m.rx m.X.length m.cx, .slice m.ry m.Y.length m.cy, .slice m.rz m.rows.length m.cz]
theorem Mr.enc_m (m : Mr) : m.m.enc = m.enc := by simp [Mp.enc, Mr.m, Mr.enc]
theorem mq_flat (l : List Mr) : (l.map Mr.m).flatMap Mp.enc = l.flatMap Mr.enc := by
 induction l with
 | nil => rfl
 | cons m l ih => rw [List.map_cons, List.flatMap_cons, List.flatMap_cons, ih, Mr.enc_m]
structure PL where
 rc : Option Addr
 cc : Nat
 xY : List Ins
 rt : Option Addr
 ct : Nat
 tY : List Fx
 rv : Option Addr
 cv : Nat
 zY : List Cv
 rm : Option Addr
 cm : Nat
 mY : List Mr
 cells : Int
 ri : Option Addr
 ci : Nat
 qY : List Int
 rs : Option Addr
 cs : Nat
 sY : List Int
 ro : Option Addr
 co : Nat
 oY : List Int
 rn : Option Addr
 cn : Nat
 iY : List Int
def PL.v (p : PL) : PV := ⟨p.rc, p.cc, p.xY, p.rt, p.ct, p.tY, p.rv, p.cv, p.zY, p.rm, p.cm, p.mY.map Mr.m, p.cells, p.ri, p.ci, p.qY, p.rs, p.cs, p.sY, p.ro, p.co, p.oY, p.rn, p.cn, p.iY⟩
def Mr.ok (W : World) (m : Mr) : Prop := IsInts W m.rx m.cx .i64 m.X ∧ IsInts W m.ry m.cy .i64 m.Y ∧ IsS 1 Rw.enc W m.rz m.cz m.rows ∧ ∀ x ∈ m.rows, IsInts W x.r x.c .i64 x.l
theorem Mr.ok.later {W W' : World} {m : Mr} (h : m.ok W) (hb : Below W.heap.size W W') : m.ok W' := ⟨h.1.later hb, h.2.1.later hb, h.2.2.1.later hb, fun x hx => (h.2.2.2 x hx).later hb⟩
structure IsL (W : World) (p : PL) : Prop where
 xY : IsS 5 Ins.enc W p.rc p.cc p.xY
 codeG : ∀ x ∈ p.xY, x.ok
 tY : IsS 10 Fx.enc W p.rt p.ct p.tY
 typesG : ∀ x ∈ p.tY, x.ok
 zY : IsS 2 Cv.enc W p.rv p.cv p.zY
 curvesG : ∀ x ∈ p.zY, x.ok W
 mY : IsS 3 Mr.enc W p.rm p.cm p.mY
 mapsG : ∀ x ∈ p.mY, x.ok W
 cells : I64 p.cells
 qY : IsInts W p.ri p.ci .i64 p.qY
 sY : IsInts W p.rs p.cs .i64 p.sY
 oY : IsInts W p.ro p.co .i64 p.oY
 iY : IsInts W p.rn p.cn .i64 p.iY
theorem IsL.later {W W' : World} {p : PL} (h : IsL W p) (hb : Below W.heap.size W W') : IsL W' p :=
 ⟨h.xY.later hb, h.codeG, h.tY.later hb, h.typesG, h.zY.later hb, fun x hx => (h.curvesG x hx).later hb, h.mY.later hb, fun x hx => (h.mapsG x hx).later hb, h.cells, h.qY.later hb, h.sY.later hb, h.oY.later hb, h.iY.later hb⟩
theorem ykb {α β : Type} {sz : Nat} {e1 : α → List Value} {e2 : β → List Value} {f : α → β} {W : World} {r : Option Addr} {c : Nat} {xs : List α} (he : ∀ x, e2 (f x) = e1 x) : IsS sz e1 W r c xs ↔ IsS sz e2 W r c (xs.map f) := by
 constructor
 ·
  intro h
  refine ⟨by rw [List.length_map]; exact h.le, h.max, fun hne => ?_⟩
  obtain ⟨b, off, h1, h2, h3⟩ := h.cells (fun e => hne (by rw [e]; rfl))
  refine ⟨b, off, h1, h2, fun i x hi j u hj => ?_⟩
  rw [List.getElem?_map] at hi
  cases hx : xs[i]? with
  | none => rw [hx] at hi; cases hi
  | some y =>
   rw [hx] at hi
   obtain rfl : f y = x := by simpa using hi
   rw [he] at hj
   exact h3 i y hx j u hj
 ·
  intro h
  have hle := h.le
  rw [List.length_map] at hle
  refine ⟨hle, h.max, fun hne => ?_⟩
  obtain ⟨b, off, h1, h2, h3⟩ := h.cells (fun e => hne (List.map_eq_nil_iff.1 e))
  refine ⟨b, off, h1, h2, fun i x hi j u hj => ?_⟩
  exact h3 i (f x) (by rw [List.getElem?_map, hi]; rfl) j u (by rw [he]; exact hj)
theorem rows_rw {W : World} {rz : Option Addr} {cz : Nat} {rows : List Rw} (h : IsS 1 Rw.enc W rz cz rows) (hx : ∀ x ∈ rows, IsInts W x.r x.c .i64 x.l) : IsRows W rz cz (rows.map Rw.l) := by
 refine ⟨by rw [List.length_map]; exact h.le, h.max, fun hne => ?_⟩
 obtain ⟨b, off, h1, h2, h3⟩ := h.cells (fun e => hne (by rw [e]; rfl))
 refine ⟨b, off, h1, h2, fun i hi => ?_⟩
 rw [List.length_map] at hi
 have e1 : rows[i]? = some (rows.getD i default) := getD_some hi
 have e2 : (rows.map Rw.l).getD i [] = (rows.getD i default).l := by
  simp [List.getD, List.getElem?_map, List.getElem?_eq_getElem hi]
 refine ⟨(rows.getD i default).r, (rows.getD i default).c, ?_, ?_⟩
 ·
  rw [e2]
  have := h3 i _ e1 0 _ rfl
  rwa [Nat.mul_one, Nat.add_zero] at this
 ·
  rw [e2]; exact hx _ (yak hi)
theorem rw_rows {W : World} {rz : Option Addr} {cz : Nat} {Z : List (List Int)} (h : IsRows W rz cz Z) : ∃ rows : List Rw, rows.map Rw.l = Z ∧ IsS 1 Rw.enc W rz cz rows ∧ ∀ x ∈ rows, IsInts W x.r x.c .i64 x.l := by
 by_cases hne : Z = []
 ·
  subst hne
  exact ⟨[], rfl, ⟨h.le, h.max, fun e => absurd rfl e⟩, by simp⟩
 ·
  obtain ⟨b, off, h1, h2, h3⟩ := h.cells hne
  have h4 : ∀ i, i < Z.length → ∃ x : Rw, x.l = Z.getD i [] ∧ W.cell? ⟨b, off + i, none⟩ = some (.slice x.r x.l.length x.c) ∧ IsInts W x.r x.c .i64 x.l := fun i hi => by
   obtain ⟨r, c, h5, h6⟩ := h3 i hi
   exact ⟨⟨r, c, Z.getD i []⟩, rfl, h5, h6⟩
  obtain ⟨V, hV⟩ := choose_lt h4
  have hlen : ((List.range Z.length).map V).length = Z.length := by simp
  refine ⟨(List.range Z.length).map V, ?_, ⟨by rw [hlen]; exact h.le, h.max, fun _ => ⟨b, off, h1, h2, fun i x hi j u hj => ?_⟩⟩, fun x hx => ?_⟩
  ·
   refine List.ext_getElem (by simp) fun i hi1 hi2 => ?_
   simp only [List.getElem_map, List.getElem_range]
   rw [(hV i hi2).1]
   simp [List.getD, List.getElem?_eq_getElem hi2]
  ·
   rw [List.getElem?_map] at hi
   have hlt : i < Z.length := by
    rcases Nat.lt_or_ge i Z.length with h | h
    ·
     exact h
    ·
     rw [List.getElem?_eq_none (by simpa using h)] at hi; cases hi
   rw [List.getElem?_range hlt] at hi
   obtain rfl : V i = x := by simpa using hi
   cases j with
   | zero =>
    obtain rfl : _ = u := by simpa [Rw.enc] using hj
    rw [Nat.mul_one, Nat.add_zero]
    exact (hV i hlt).2.1
   | succ j => simp [Rw.enc] at hj
  ·
   obtain ⟨i, hi, rfl⟩ := List.mem_map.1 hx
   exact (hV i (List.mem_range.1 hi)).2.2
theorem IsL.isP {W : World} {p : PL} (h : IsL W p) : IsP W p.v :=
 ⟨h.xY, h.codeG, h.tY, h.typesG, h.zY, h.curvesG, (ykb Mr.enc_m).1 h.mY, fun x hx => by
  obtain ⟨m, hm, rfl⟩ := List.mem_map.1 hx
  obtain ⟨h1, h2, h3, h4⟩ := h.mapsG m hm
  exact ⟨h1, h2, rows_rw h3 h4⟩, h.cells, h.qY, h.sY, h.oY, h.iY⟩
theorem IsP.isL {W : World} {p : PV} (h : IsP W p) : ∃ q : PL, q.v = p ∧ IsL W q := by
 have h1 : ∃ l : List Mr, l.map Mr.m = p.mY ∧ ∀ x ∈ l, x.ok W := by
  have := h.mapsG
  generalize p.mY = ms at this
  clear h
  induction ms with
  | nil => exact ⟨[], rfl, by simp⟩
  | cons m ms ih =>
   obtain ⟨l, h1, h2⟩ := ih (fun x hx => this x (by simp [hx]))
   obtain ⟨h3, h4, h5⟩ := this m (by simp)
   obtain ⟨rows, h6, h7, h8⟩ := rw_rows h5
   refine ⟨⟨m.rx, m.cx, m.X, m.ry, m.cy, m.Y, m.rz, m.cz, rows⟩ :: l, ?_, fun x hx => ?_⟩
   ·
    rw [List.map_cons, h1]
    simp [Mr.m, h6]
   ·
    rcases List.mem_cons.1 hx with rfl | hx
    ·
     exact ⟨h3, h4, h7, h8⟩
    ·
     exact h2 x hx
 obtain ⟨l, h1, h2⟩ := h1
 refine ⟨⟨p.rc, p.cc, p.xY, p.rt, p.ct, p.tY, p.rv, p.cv, p.zY, p.rm, p.cm, l, p.cells, p.ri, p.ci, p.qY, p.rs, p.cs, p.sY, p.ro, p.co, p.oY, p.rn, p.cn, p.iY⟩, by simp [PL.v, h1], h.xY, h.codeG, h.tY, h.typesG, h.zY, h.curvesG, (ykb Mr.enc_m).2 (by rw [h1]; exact h.mY), h2, h.cells, h.qY, h.sY, h.oY, h.iY⟩
def Cv.frag (c : Cv) : List (Nat × List Value) := fr1 c.rx (c.X.map (Value.int .i64)) ++ fr1 c.ry (c.Y.map (Value.int .i64))
def Rw.frag (x : Rw) : List (Nat × List Value) := fr1 x.r (x.l.map (Value.int .i64))
def Mr.frag (m : Mr) : List (Nat × List Value) := fr1 m.rx (m.X.map (Value.int .i64)) ++ (fr1 m.ry (m.Y.map (Value.int .i64)) ++ (fr1 m.rz (m.rows.flatMap Rw.enc) ++ m.rows.flatMap Rw.frag))
def PL.frag (p : PL) : List (Nat × List Value) := fr1 p.rc (p.xY.flatMap Ins.enc) ++ (fr1 p.rt (p.tY.flatMap Fx.enc) ++ (fr1 p.rv (p.zY.flatMap Cv.enc) ++ (p.zY.flatMap Cv.frag ++ (fr1 p.rm (p.mY.flatMap Mr.enc) ++ (p.mY.flatMap Mr.frag ++
 (fr1 p.ri (p.qY.map (Value.int .i64)) ++ (fr1 p.rs (p.sY.map (Value.int .i64)) ++ (fr1 p.ro (p.oY.map (Value.int .i64)) ++ fr1 p.rn (p.iY.map (Value.int .i64))))))))))
def I64s (l : List Int) : Prop := ∀ x ∈ l, I64 x
def Cv.sl (c : Cv) : Prop := (SlF c.rx c.cx c.X.length ∧ I64s c.X) ∧ SlF c.ry c.cy c.Y.length ∧ I64s c.Y
def Rw.sl (x : Rw) : Prop := SlF x.r x.c x.l.length ∧ I64s x.l
def Mr.sl (m : Mr) : Prop := (SlF m.rx m.cx m.X.length ∧ I64s m.X) ∧ (SlF m.ry m.cy m.Y.length ∧ I64s m.Y) ∧ SlF m.rz m.cz m.rows.length ∧ ∀ x ∈ m.rows, x.sl
structure PL.Sl (p : PL) : Prop where
 xY : SlF p.rc p.cc p.xY.length
 codeG : ∀ x ∈ p.xY, x.ok
 tY : SlF p.rt p.ct p.tY.length
 typesG : ∀ x ∈ p.tY, x.ok
 zY : SlF p.rv p.cv p.zY.length
 curvesG : ∀ x ∈ p.zY, x.sl
 mY : SlF p.rm p.cm p.mY.length
 mapsG : ∀ x ∈ p.mY, x.sl
 cells : I64 p.cells
 qY : SlF p.ri p.ci p.qY.length ∧ I64s p.qY
 sY : SlF p.rs p.cs p.sY.length ∧ I64s p.sY
 oY : SlF p.ro p.co p.oY.length ∧ I64s p.oY
 iY : SlF p.rn p.cn p.iY.length ∧ I64s p.iY
def OwnP (D : Nat) (W : World) (p : PL) : Prop := OwnF D W p.frag ∧ p.Sl
theorem OwnP.below {D : Nat} {W W' : World} {p : PL} (h : OwnP D W p) (hb : Below W.heap.size W W') : OwnP D W' p := ⟨h.1.below hb, h.2⟩
theorem OwnP.isL {D : Nat} {W : World} {p : PL} (h : OwnP D W p) : IsL W p := by
 obtain ⟨h, s⟩ := h
 refine ⟨OwnF.isS (sz := 5) (enc := Ins.enc) h (fun _ => rfl) s.xY (fun q hq => ?_), s.codeG, OwnF.isS (sz := 10) (enc := Fx.enc) h (fun _ => rfl) s.tY (fun q hq => ?_), s.typesG, OwnF.isS (sz := 2) (enc := Cv.enc) h (fun _ => rfl) s.zY (fun q hq => ?_), fun x hx => ⟨h.ints (s.curvesG x hx).1.1 (s.curvesG x hx).1.2 (fun q hq => ?_), h.ints (s.curvesG x hx).2.1 (s.curvesG x hx).2.2 (fun q hq => ?_)⟩,
  OwnF.isS (sz := 3) (enc := Mr.enc) h (fun _ => rfl) s.mY (fun q hq => ?_), fun x hx => ⟨h.ints (s.mapsG x hx).1.1 (s.mapsG x hx).1.2 (fun q hq => ?_), h.ints (s.mapsG x hx).2.1.1 (s.mapsG x hx).2.1.2 (fun q hq => ?_), OwnF.isS (sz := 1) (enc := Rw.enc) h (fun _ => rfl) (s.mapsG x hx).2.2.1 (fun q hq => ?_), fun y hy => h.ints ((s.mapsG x hx).2.2.2 y hy).1 ((s.mapsG x hx).2.2.2 y hy).2 (fun q hq => ?_)⟩, s.cells,
  h.ints s.qY.1 s.qY.2 (fun q hq => ?_), h.ints s.sY.1 s.sY.2 (fun q hq => ?_), h.ints s.oY.1 s.oY.2 (fun q hq => ?_), h.ints s.iY.1 s.iY.2 (fun q hq => ?_)⟩
 ·
  simp only [PL.frag, List.mem_append]; exact .inl hq
 ·
  simp only [PL.frag, List.mem_append]; exact .inr (.inl hq)
 ·
  simp only [PL.frag, List.mem_append]; exact .inr (.inr (.inl hq))
 ·
  simp only [PL.frag, List.mem_append]; exact .inr (.inr (.inr (.inl (List.mem_flatMap.2 ⟨x, hx, List.mem_append.2 (.inl hq)⟩))))
 ·
  simp only [PL.frag, List.mem_append]; exact .inr (.inr (.inr (.inl (List.mem_flatMap.2 ⟨x, hx, List.mem_append.2 (.inr hq)⟩))))
 ·
  simp only [PL.frag, List.mem_append]; exact .inr (.inr (.inr (.inr (.inl hq))))
 ·
  simp only [PL.frag, List.mem_append]; exact .inr (.inr (.inr (.inr (.inr (.inl (List.mem_flatMap.2 ⟨x, hx, List.mem_append.2 (.inl hq)⟩))))))
 ·
  simp only [PL.frag, List.mem_append]; exact .inr (.inr (.inr (.inr (.inr (.inl (List.mem_flatMap.2 ⟨x, hx, List.mem_append.2 (.inr (List.mem_append.2 (.inl hq)))⟩))))))
 ·
  simp only [PL.frag, List.mem_append]; exact .inr (.inr (.inr (.inr (.inr (.inl (List.mem_flatMap.2 ⟨x, hx, List.mem_append.2 (.inr (List.mem_append.2 (.inr (List.mem_append.2 (.inl hq)))))⟩))))))
 ·
  simp only [PL.frag, List.mem_append]; exact .inr (.inr (.inr (.inr (.inr (.inl (List.mem_flatMap.2 ⟨x, hx, List.mem_append.2 (.inr (List.mem_append.2 (.inr (List.mem_append.2 (.inr (List.mem_flatMap.2 ⟨y, hy, hq⟩))))))⟩))))))
 ·
  simp only [PL.frag, List.mem_append]; exact .inr (.inr (.inr (.inr (.inr (.inr (.inl hq))))))
 ·
  simp only [PL.frag, List.mem_append]; exact .inr (.inr (.inr (.inr (.inr (.inr (.inr (.inl hq)))))))
 ·
  simp only [PL.frag, List.mem_append]; exact .inr (.inr (.inr (.inr (.inr (.inr (.inr (.inr (.inl hq))))))))
 ·
  simp only [PL.frag, List.mem_append]; exact .inr (.inr (.inr (.inr (.inr (.inr (.inr (.inr (.inr hq))))))))
end
section
open Go.Deep
def setZ (l : List Int) (i v : Int) : List Int := if 0 ≤ i ∧ i < l.length then l.set i.toNat v else l
theorem ycj (l : List Int) (i v : Int) : (setZ l i v).length = l.length := by unfold setZ; split <;> simp
theorem setZ_nil (i v : Int) : setZ [] i v = [] := by unfold setZ; split <;> simp
theorem ygf {l : List Int} {i v : Int} (h : ¬ (0 ≤ i ∧ i < l.length)) : setZ l i v = l := by unfold setZ; rw [if_neg h]
theorem yes (a b : List Int) (i v : Int) : setZ (a ++ b) i v = setZ a i v ++ setZ b (i - a.length) v := by
 unfold setZ
 simp only [List.length_append]
 by_cases h1 : 0 ≤ i ∧ i < a.length
 ·
  rw [if_pos (by omega), if_pos h1, if_neg (by omega), List.set_append_left (h := by omega)]
 ·
  by_cases h2 : 0 ≤ i - a.length ∧ i - a.length < b.length
  ·
   rw [if_pos (by omega), if_neg h1, if_pos h2, List.set_append_right (h := by omega)]
   congr 2
   omega
  ·
   rw [if_neg (by omega), if_neg h1, if_neg h2]
theorem ykq {l : List Int} {i : Int} (v o : Int) (ho : 0 ≤ i ∧ i < l.length → l.getD i.toNat 0 = o) : setZ (setZ l i v) i o = l := by
 by_cases h : 0 ≤ i ∧ i < l.length
 ·
  have h2 : 0 ≤ i ∧ i < (l.set i.toNat v).length := by simpa using h
  unfold setZ
  rw [if_pos h, if_pos h2, List.set_set, ← ho h]
  have hlt : i.toNat < l.length := by omega
  simp [List.getD, List.getElem?_eq_getElem hlt]
 ·
  rw [ygf h, ygf h]
section
variable {α : Type}
def upd (n : α → Nat) (g : α → Int → Int → α) : List α → Int → Int → List α
 | [], _, _ => []
 | x :: xs, i, v => g x i v :: upd n g xs (i - n x) v
variable {n : α → Nat} {g : α → Int → Int → α} {par : α → List Int}
theorem ybq (xs : List α) (i v : Int) : (upd n g xs i v).length = xs.length := by
 induction xs generalizing i with
 | nil => rfl
 | cons x xs ih => simp [upd, ih]
theorem yfo (hn : ∀ x, n x = (par x).length) (hg : ∀ x i v, par (g x i v) = setZ (par x) i v) (xs : List α) (i v : Int) : (upd n g xs i v).flatMap par = setZ (xs.flatMap par) i v := by
 induction xs generalizing i with
 | nil => simp [upd, setZ_nil]
 | cons x xs ih => rw [upd, List.flatMap_cons, List.flatMap_cons, yes, ih, hg, hn]
theorem ylz (hg : ∀ x (i v : Int), ¬ (0 ≤ i ∧ i < n x) → g x i v = x) (xs : List α) (i v : Int) (h : ¬ (0 ≤ i ∧ i < (xs.map n).sum)) : upd n g xs i v = xs := by
 induction xs generalizing i with
 | nil => rfl
 | cons x xs ih =>
  rw [List.map_cons, List.sum_cons] at h
  rw [upd, hg x i v (by omega), ih _ (by omega)]
theorem ygc (hn : ∀ x, n x = (par x).length) (hg : ∀ x i v, par (g x i v) = setZ (par x) i v) (hb : ∀ x (i v o : Int), (0 ≤ i ∧ i < (par x).length → (par x).getD i.toNat 0 = o) → g (g x i v) i o = x) (xs : List α) (i v o : Int)
  (ho : 0 ≤ i ∧ i < (xs.flatMap par).length → (xs.flatMap par).getD i.toNat 0 = o) : upd n g (upd n g xs i v) i o = xs := by
 induction xs generalizing i with
 | nil => rfl
 | cons x xs ih =>
  rw [List.flatMap_cons] at ho
  rw [List.length_append] at ho
  have e : n (g x i v) = n x := by rw [hn, hn, hg, ycj]
  rw [upd, upd, e, hb x i v o (fun h => ?_), ih (i - n x) (fun h => ?_)]
  ·
   rw [hn] at h
   have := ho (by omega)
   rw [List.getD_eq_getElem?_getD, List.getElem?_append_right (by omega)] at this
   rw [hn, List.getD_eq_getElem?_getD, ← this]
   congr 3
   omega
  ·
   have := ho (by omega)
   rw [List.getD_eq_getElem?_getD, List.getElem?_append_left (by omega)] at this
   rw [List.getD_eq_getElem?_getD, ← this]
theorem yma (xs : List α) (i v : Int) {k : Nat} {x : α} (h : xs[k]? = some x) : ∃ j, (upd n g xs i v)[k]? = some (g x j v) := by
 induction xs generalizing i k with
 | nil => simp at h
 | cons y xs ih =>
  cases k with
  | zero =>
   obtain rfl : y = x := by simpa using h
   exact ⟨i, by simp [upd]⟩
  | succ k =>
   obtain ⟨j, hj⟩ := ih (i - n y) (by simpa using h)
   exact ⟨j, by simpa [upd] using hj⟩
theorem ygo {v : Int} {p : α → Prop} (hp : ∀ x i, p x → p (g x i v)) (xs : List α) (i : Int) (h : ∀ x ∈ xs, p x) : ∀ x ∈ upd n g xs i v, p x := by
 induction xs generalizing i with
 | nil => simp [upd]
 | cons y xs ih =>
  intro x hx
  rw [upd] at hx
  rcases List.mem_cons.1 hx with rfl | hx
  ·
   exact hp _ _ (h y (by simp))
  ·
   exact ih _ (fun x hx => h x (by simp [hx])) x hx
theorem yib {β : Type} {n2 : β → Nat} {g2 : β → Int → Int → β} {f : α → β} (hn : ∀ x, n2 (f x) = n x) (hg : ∀ x i v, f (g x i v) = g2 (f x) i v) (xs : List α) (i v : Int) : (upd n g xs i v).map f = upd n2 g2 (xs.map f) i v := by
 induction xs generalizing i with
 | nil => rfl
 | cons x xs ih => rw [upd, List.map_cons, List.map_cons, upd, ih, hg, hn]
theorem yic {enc : α → List Value} (hg : ∀ x i v, enc (g x i v) = enc x) (xs : List α) (i v : Int) : (upd n g xs i v).flatMap enc = xs.flatMap enc := by
 induction xs generalizing i with
 | nil => rfl
 | cons x xs ih => rw [upd, List.flatMap_cons, List.flatMap_cons, ih, hg]
theorem ycx (hn : ∀ x, n x = (par x).length) (xs : List α) : (xs.map n).sum = (xs.flatMap par).length := by
 induction xs with
 | nil => rfl
 | cons x xs ih => rw [List.map_cons, List.sum_cons, List.flatMap_cons, List.length_append, ih, hn]
end
def Ins.par (c : Ins) : List Int := if c.op = 1 then [c.k] else []
def Ins.num (c : Ins) : Nat := if c.op = 1 then 1 else 0
def Ins.put (c : Ins) (i v : Int) : Ins := if c.op = 1 ∧ i = 0 then { c with k := v } else c
theorem Ins.num_eq (c : Ins) : c.num = c.par.length := by unfold Ins.num Ins.par; split <;> rfl
theorem Ins.par_put (c : Ins) (i v : Int) : (c.put i v).par = setZ c.par i v := by
 unfold Ins.put Ins.par setZ
 by_cases h : c.op = 1
 ·
  by_cases hi : i = 0
  ·
   subst hi; simp [h]
  ·
   have : ¬ (0 ≤ i ∧ i < 1) := by omega
   simp [h, hi, this]
 ·
  simp [h]
theorem Ins.put_back (c : Ins) (i v o : Int) (h : 0 ≤ i ∧ i < c.par.length → c.par.getD i.toNat 0 = o) : (c.put i v).put i o = c := by
 obtain ⟨op, a, b, cc, k⟩ := c
 unfold Ins.par at h
 unfold Ins.put
 by_cases h1 : op = 1
 ·
  by_cases hi : i = 0
  ·
   subst hi
   subst h1
   have := h (by simp)
   simp at this
   simp [this]
  ·
   simp [h1, hi]
 ·
  simp [h1]
theorem Ins.put_out (c : Ins) (i v : Int) (h : ¬ (0 ≤ i ∧ i < c.num)) : c.put i v = c := by
 unfold Ins.put
 unfold Ins.num at h
 rw [if_neg]
 rintro ⟨h1, rfl⟩
 rw [if_pos h1] at h
 omega
abbrev updI := upd Ins.num Ins.put
abbrev updN := upd (α := List Int) List.length setZ
abbrev updC := upd (α := List Int × List Int) (fun c => c.2.length) (fun c i v => (c.1, setZ c.2 i v))
abbrev updM := upd (α := List Int × List Int × List (List Int)) (fun m => m.2.2.flatten.length) (fun m i v => (m.1, m.2.1, updN m.2.2 i v))
def PP.parI (p : PP) : List Int := p.xY.flatMap Ins.par
def PP.parC (p : PP) : List Int := p.zY.flatMap (fun c => c.2)
def PP.parM (p : PP) : List Int := p.mY.flatMap (fun m => m.2.2.flatten)
def PP.params (p : PP) : List Int := p.parI ++ (p.parC ++ p.parM)
def PP.patch (p : PP) (i v : Int) : PP := { p with xY := updI p.xY i v, zY := updC p.zY (i - p.parI.length) v, mY := updM p.mY (i - p.parI.length - p.parC.length) v }
theorem ykl (Z : List (List Int)) (i v : Int) : (updN Z i v).flatten = setZ Z.flatten i v := by
 have := yfo (n := List.length) (g := setZ) (par := fun l : List Int => l) (fun _ => rfl) (fun _ _ _ => rfl) Z i v
 simpa [List.flatMap_id'] using this
theorem yiz (p : PP) (i v : Int) : (p.patch i v).params = setZ p.params i v := by
 unfold PP.params
 rw [yes, yes]
 congr 1
 ·
  exact yfo Ins.num_eq Ins.par_put _ _ _
 ·
  congr 1
  ·
   exact yfo (par := fun c : List Int × List Int => c.2) (fun _ => rfl) (fun _ _ _ => rfl) _ _ _
  ·
   exact yfo (par := fun m : List Int × List Int × List (List Int) => m.2.2.flatten) (fun _ => rfl) (fun m i v => ykl _ _ _) _ _ _
theorem ykv {a b : List Int} {i o : Int} (h : 0 ≤ i ∧ i < (a ++ b).length → (a ++ b).getD i.toNat 0 = o) : (0 ≤ i ∧ i < a.length → a.getD i.toNat 0 = o) ∧ (0 ≤ i - a.length ∧ i - a.length < b.length → b.getD (i - a.length).toNat 0 = o) := by
 rw [List.length_append] at h
 constructor
 ·
  intro h1
  have := h (by omega)
  rw [List.getD_eq_getElem?_getD, List.getElem?_append_left (by omega)] at this
  rw [List.getD_eq_getElem?_getD, ← this]
 ·
  intro h1
  have := h (by omega)
  rw [List.getD_eq_getElem?_getD, List.getElem?_append_right (by omega)] at this
  rw [List.getD_eq_getElem?_getD, ← this]
  congr 3
  omega
theorem ymb (Z : List (List Int)) (i v o : Int) (h : 0 ≤ i ∧ i < Z.flatten.length → Z.flatten.getD i.toNat 0 = o) : updN (updN Z i v) i o = Z :=
 ygc (par := fun l : List Int => l) (fun _ => rfl) (fun _ _ _ => rfl) (fun x i v o h => ykq v o h) Z i v o (by simpa [List.flatMap_id'] using h)
theorem ylk (p : PP) (i v o : Int) (h : 0 ≤ i ∧ i < p.params.length → p.params.getD i.toNat 0 = o) : (p.patch i v).patch i o = p := by
 unfold PP.params at h
 obtain ⟨h1, h2⟩ := ykv h
 obtain ⟨h3, h4⟩ := ykv h2
 have e1 : (p.patch i v).parI.length = p.parI.length := by
  show ((updI p.xY i v).flatMap Ins.par).length = _
  rw [yfo Ins.num_eq Ins.par_put, ycj]; rfl
 have e2 : (p.patch i v).parC.length = p.parC.length := by
  show ((updC p.zY (i - p.parI.length) v).flatMap (fun c => c.2)).length = _
  rw [yfo (par := fun c : List Int × List Int => c.2) (fun _ => rfl) (fun _ _ _ => rfl), ycj]; rfl
 obtain ⟨xY, tY, zY, mY, cells, qY, sY, oY, iY⟩ := p
 unfold PP.patch at e1 e2 ⊢
 rw [e1, e2]
 simp only [PP.mk.injEq, true_and, and_true]
 refine ⟨ygc Ins.num_eq Ins.par_put Ins.put_back _ _ _ _ h1, ygc (par := fun c : List Int × List Int => c.2) (fun _ => rfl) (fun _ _ _ => rfl) (fun x i v o h => by rw [ykq v o h]) _ _ _ _ h3, ygc (par := fun m : List Int × List Int × List (List Int) => m.2.2.flatten) (fun _ => rfl) (fun m i v => ykl _ _ _) (fun x i v o h => by rw [ymb _ _ _ _ h]) _ _ _ _ h4⟩
def Cv.put (c : Cv) (i v : Int) : Cv := { c with Y := setZ c.Y i v }
def Rw.put (x : Rw) (i v : Int) : Rw := { x with l := setZ x.l i v }
def Mr.par (m : Mr) : List Int := m.rows.flatMap Rw.l
def Mr.put (m : Mr) (i v : Int) : Mr := { m with rows := upd (fun x => x.l.length) Rw.put m.rows i v }
def PL.parI (p : PL) : List Int := p.xY.flatMap Ins.par
def PL.parC (p : PL) : List Int := p.zY.flatMap Cv.Y
def PL.parM (p : PL) : List Int := p.mY.flatMap Mr.par
def PL.params (p : PL) : List Int := p.parI ++ (p.parC ++ p.parM)
def PL.patch (p : PL) (i v : Int) : PL := { p with xY := updI p.xY i v, zY := upd (fun c => c.Y.length) Cv.put p.zY (i - p.parI.length) v, mY := upd (fun m => m.par.length) Mr.put p.mY (i - p.parI.length - p.parC.length) v }
theorem Mr.par_m (m : Mr) : m.m.p.2.2.flatten = m.par := by
 unfold Mr.m Mp.p Mr.par
 simp [List.flatMap_def]
theorem ymr (p : PL) : p.v.p.parC = p.parC := by
 unfold PP.parC PL.parC PV.p PL.v
 simp only [List.flatMap_map]
 rfl
theorem pl_parM (p : PL) : p.v.p.parM = p.parM := by
 unfold PP.parM PL.parM PV.p PL.v
 simp only [List.flatMap_map]
 congr 1
theorem ydo (p : PL) : p.v.p.params = p.params := by
 unfold PP.params PL.params
 rw [ymr, pl_parM]
 rfl
theorem pl_patch (p : PL) (i v : Int) : (p.patch i v).v.p = p.v.p.patch i v := by
 have e1 := ymr p
 unfold PP.patch
 rw [e1]
 show PP.mk _ _ _ _ _ _ _ _ _ = PP.mk _ _ _ _ _ _ _ _ _
 congr 1
 ·
  show ((upd (fun c : Cv => c.Y.length) Cv.put p.zY _ v).map Cv.p) = updC (p.zY.map Cv.p) _ v
  exact yib (f := Cv.p) (n2 := fun c : List Int × List Int => c.2.length) (g2 := fun c i v => (c.1, setZ c.2 i v)) (fun _ => rfl) (fun _ _ _ => rfl) _ _ _
 ·
  show (((upd (fun m : Mr => m.par.length) Mr.put p.mY _ v).map Mr.m).map Mp.p) = updM ((p.mY.map Mr.m).map Mp.p) _ v
  rw [yib (f := Mr.m) (n2 := fun m : Mp => m.p.2.2.flatten.length) (g2 := fun m i v => { m with Z := updN m.Z i v }) (fun m => by rw [Mr.par_m]) (fun m i v => ?_)]
  ·
   exact yib (f := Mp.p) (n2 := fun m : List Int × List Int × List (List Int) => m.2.2.flatten.length) (g2 := fun m i v => (m.1, m.2.1, updN m.2.2 i v)) (fun _ => rfl) (fun _ _ _ => rfl) _ _ _
  ·
   unfold Mr.put Mr.m
   simp only [Mp.mk.injEq, true_and]
   exact yib (fun _ => rfl) (fun _ _ _ => rfl) _ _ _
def pa (r : Option Addr) (i : Nat) : Addr := match r with
 | some a => ⟨a.block, a.off + i, none⟩
 | none => ⟨0, i, none⟩
def ydd (r : Option Addr) (s : Nat) : List Ins → List Addr
 | [] => []
 | c :: cs => (if c.op = 1 then [pa r (s * 5 + 4)] else []) ++ ydd r (s + 1) cs
def yet (r : Option Addr) (s n : Nat) : List Addr := (List.range' s n).map (pa r)
def Cv.pl (c : Cv) : List Addr := yet c.ry 0 c.Y.length
def Rw.pl (x : Rw) : List Addr := yet x.r 0 x.l.length
def Mr.pl (m : Mr) : List Addr := m.rows.flatMap Rw.pl
def PL.places (p : PL) : List Addr := ydd p.rc 0 p.xY ++ (p.zY.flatMap Cv.pl ++ p.mY.flatMap Mr.pl)
theorem yfa (r : Option Addr) (s n : Nat) : (yet r s n).length = n := by simp [yet]
theorem yhw (r : Option Addr) (s : Nat) (cs : List Ins) : (ydd r s cs).length = (cs.flatMap Ins.par).length := by
 induction cs generalizing s with
 | nil => rfl
 | cons c cs ih =>
  rw [ydd, List.flatMap_cons, List.length_append, List.length_append, ih]
  unfold Ins.par
  split <;> rfl
theorem yhb {α β γ : Type} {f : α → List β} {g : α → List γ} (h : ∀ x, (f x).length = (g x).length) (xs : List α) : (xs.flatMap f).length = (xs.flatMap g).length := by
 induction xs with
 | nil => rfl
 | cons x xs ih => rw [List.flatMap_cons, List.flatMap_cons, List.length_append, List.length_append, h, ih]
theorem Mr.pl_len (m : Mr) : m.pl.length = m.par.length := yhb (fun x => yfa _ _ _) _
theorem ydn (p : PL) : p.places.length = p.params.length := by
 unfold PL.places PL.params PL.parI PL.parC PL.parM
 simp only [List.length_append]
 rw [yhw, yhb (f := Cv.pl) (g := Cv.Y) (fun c => yfa _ _ _), yhb Mr.pl_len]
def PlOK (W : World) (ps : List Addr) (xs : List Int) : Prop := ps.length = xs.length ∧ ∀ (k : Nat) a x, ps[k]? = some a → xs[k]? = some x → W.cell? a = some (.int .i64 x)
theorem PlOK.nil (W : World) : PlOK W [] [] := ⟨rfl, fun k a x h => by simp at h⟩
theorem PlOK.append {W : World} {ps bs : List Addr} {xs ys : List Int} (h : PlOK W ps xs) (k : PlOK W bs ys) : PlOK W (ps ++ bs) (xs ++ ys) := by
 refine ⟨by rw [List.length_append, List.length_append, h.1, k.1], fun i a x ha hx => ?_⟩
 by_cases hi : i < ps.length
 ·
  rw [List.getElem?_append_left hi] at ha
  rw [List.getElem?_append_left (by rw [← h.1]; exact hi)] at hx
  exact h.2 i a x ha hx
 ·
  rw [List.getElem?_append_right (by omega)] at ha
  rw [List.getElem?_append_right (by rw [← h.1]; omega), ← h.1] at hx
  exact k.2 _ a x ha hx
theorem PlOK.flat {α : Type} {W : World} {f : α → List Addr} {g : α → List Int} {xs : List α} (h : ∀ x ∈ xs, PlOK W (f x) (g x)) : PlOK W (xs.flatMap f) (xs.flatMap g) := by
 induction xs with
 | nil => exact PlOK.nil W
 | cons x xs ih =>
  rw [List.flatMap_cons, List.flatMap_cons]
  exact (h x (by simp)).append (ih fun y hy => h y (by simp [hy]))
theorem ykr {W : World} {r : Option Addr} {c : Nat} {xs : List Int} (h : IsInts W r c .i64 xs) : PlOK W (yet r 0 xs.length) xs := by
 refine ⟨yfa _ _ _, fun k a x ha hx => ?_⟩
 have hk : k < xs.length := by
  rcases Nat.lt_or_ge k xs.length with hh | hh
  ·
   exact hh
  ·
   rw [List.getElem?_eq_none hh] at hx; cases hx
 obtain ⟨b, off, rfl, _, h3⟩ := h.cells (fun e => by subst e; simp at hk)
 have := h3 k hk
 rw [List.getD_eq_getElem?_getD, hx] at this
 simp only [yet, List.getElem?_map, List.getElem?_range' hk] at ha
 simp [pa] at ha
 subst ha
 simpa using this
theorem ynt {W : World} {r : Option Addr} {c : Nat} {cs : List Ins} (h : IsS 5 Ins.enc W r c cs) : PlOK W (ydd r 0 cs) (cs.flatMap Ins.par) := by
 have hg : ∀ (done todo : List Ins), cs = done ++ todo → PlOK W (ydd r done.length todo) (todo.flatMap Ins.par) := by
  intro done todo
  induction todo generalizing done with
  | nil => intro _; exact PlOK.nil W
  | cons x xs ih =>
   intro e
   have h1 := ih (done ++ [x]) (by rw [e]; simp)
   rw [List.length_append, List.length_singleton] at h1
   rw [ydd, List.flatMap_cons]
   refine PlOK.append ?_ h1
   unfold Ins.par
   by_cases ho : x.op = 1
   ·
    rw [if_pos ho, if_pos ho]
    refine ⟨rfl, fun k a y ha hy => ?_⟩
    cases k with
    | succ k => simp at ha
    | zero =>
     simp at ha hy
     subst ha hy
     obtain ⟨b, off, rfl, _, h3⟩ := h.cells (fun e2 => by rw [e2] at e; simp at e)
     have := h3 done.length x (by rw [e]; simp) 4 _ rfl
     simp only [pa]
     rw [← Nat.add_assoc]
     exact this
   ·
    rw [if_neg ho, if_neg ho]
    exact PlOK.nil W
 exact hg [] cs rfl
theorem IsL.places {W : World} {p : PL} (h : IsL W p) : PlOK W p.places p.params :=
 (ynt h.xY).append ((PlOK.flat fun c hc => ykr (h.curvesG c hc).2).append (PlOK.flat fun m hm => PlOK.flat fun x hx => ykr ((h.mapsG m hm).2.2.2 x hx)))
def Upd (F F' : List (Nat × List Value)) (a : Addr) (v : Value) : Prop := ∃ F1 b l F2 j, F = F1 ++ (b, l) :: F2 ∧ F' = F1 ++ (b, l.set j v) :: F2 ∧ j < l.length ∧ a = ⟨b, j, none⟩
theorem Upd.left {F F' : List (Nat × List Value)} {a : Addr} {v : Value} (G : List (Nat × List Value)) (h : Upd F F' a v) : Upd (G ++ F) (G ++ F') a v := by
 obtain ⟨F1, b, l, F2, j, rfl, rfl, h3, h4⟩ := h
 exact ⟨G ++ F1, b, l, F2, j, by simp, by simp, h3, h4⟩
theorem Upd.right {F F' : List (Nat × List Value)} {a : Addr} {v : Value} (G : List (Nat × List Value)) (h : Upd F F' a v) : Upd (F ++ G) (F' ++ G) a v := by
 obtain ⟨F1, b, l, F2, j, rfl, rfl, h3, h4⟩ := h
 exact ⟨F1, b, l, F2 ++ G, j, by simp, by simp, h3, h4⟩
theorem OwnF.upd {D : Nat} {W : World} {F F' : List (Nat × List Value)} {a : Addr} {v : Value} (h : OwnF D W F) (hu : Upd F F' a v) : OwnF D (W.setCell a v) F' := by
 obtain ⟨F1, b, l, F2, j, rfl, rfl, h3, rfl⟩ := hu
 exact h.set h3 v
def Hit (pls : List Addr) (F F' : List (Nat × List Value)) (n : Nat) (i : Int) (V : Value) : Prop := pls.length = n ∧ (0 ≤ i ∧ i < n → ∃ a, pls[i.toNat]? = some a ∧ Upd F F' a V) ∧ (¬ (0 ≤ i ∧ i < n) → F' = F)
theorem Hit.append {p1 p2 : List Addr} {F1 F1' F2 F2' : List (Nat × List Value)} {n1 n2 : Nat} {i : Int} {V : Value} (h : Hit p1 F1 F1' n1 i V) (k : Hit p2 F2 F2' n2 (i - n1) V) : Hit (p1 ++ p2) (F1 ++ F2) (F1' ++ F2') (n1 + n2) i V := by
 obtain ⟨h1, h2, h3⟩ := h
 obtain ⟨k1, k2, k3⟩ := k
 refine ⟨by rw [List.length_append, h1, k1], fun hi => ?_, fun hi => ?_⟩
 ·
  by_cases hlt : i < n1
  ·
   obtain ⟨a, ha, hu⟩ := h2 ⟨hi.1, hlt⟩
   refine ⟨a, by rw [List.getElem?_append_left (by omega)]; exact ha, ?_⟩
   rw [k3 (by omega)]
   exact hu.right _
  ·
   obtain ⟨a, ha, hu⟩ := k2 (by omega)
   refine ⟨a, ?_, ?_⟩
   ·
    rw [List.getElem?_append_right (by omega), ← ha]
    congr 1
    omega
   ·
    rw [h3 (by omega)]
    exact hu.left _
 ·
  rw [h3 (by omega), k3 (by omega)]
theorem Hit.skip {p : List Addr} {F F' : List (Nat × List Value)} {n : Nat} {i : Int} {V : Value} (G : List (Nat × List Value)) (h : Hit p F F' n i V) : Hit p (G ++ F) (G ++ F') n i V :=
 ⟨h.1, fun hi => by obtain ⟨a, ha, hu⟩ := h.2.1 hi; exact ⟨a, ha, hu.left _⟩, fun hi => by rw [h.2.2 hi]⟩
theorem Hit.skipr {p : List Addr} {F F' : List (Nat × List Value)} {n : Nat} {i : Int} {V : Value} (G : List (Nat × List Value)) (h : Hit p F F' n i V) : Hit p (F ++ G) (F' ++ G) n i V :=
 ⟨h.1, fun hi => by obtain ⟨a, ha, hu⟩ := h.2.1 hi; exact ⟨a, ha, hu.right _⟩, fun hi => by rw [h.2.2 hi]⟩
theorem Hit.flat {α : Type} {n : α → Nat} {g : α → Int → Int → α} {pl : α → List Addr} {fr : α → List (Nat × List Value)} {v : Int} {V : Value} {xs : List α} (h : ∀ x ∈ xs, ∀ i, Hit (pl x) (fr x) (fr (g x i v)) (n x) i V) (i : Int) : Hit (xs.flatMap pl) (xs.flatMap fr) ((upd n g xs i v).flatMap fr) (xs.map n).sum i V := by
 induction xs generalizing i with
 | nil => exact ⟨rfl, fun hi => by simp at hi; omega, fun _ => rfl⟩
 | cons x xs ih =>
  rw [List.flatMap_cons, List.flatMap_cons, upd, List.flatMap_cons, List.map_cons, List.sum_cons]
  exact (h x (by simp) i).append (ih (fun y hy => h y (by simp [hy])) _)
theorem map_setZ {l : List Int} {i v : Int} (h : 0 ≤ i ∧ i < l.length) : (setZ l i v).map (Value.int .i64) = (l.map (Value.int .i64)).set i.toNat (.int .i64 v) := by
 unfold setZ
 rw [if_pos h, List.map_set]
theorem ynl {r : Option Addr} {c : Nat} {l : List Int} (hs : SlF r c l.length) (i v : Int) : Hit (yet r 0 l.length) (fr1 r (l.map (Value.int .i64))) (fr1 r ((setZ l i v).map (Value.int .i64))) l.length i (.int .i64 v) := by
 refine ⟨yfa _ _ _, fun hi => ?_, fun hi => by rw [ygf hi]⟩
 cases r with
 | none => have := hs.none_ rfl; omega
 | some a =>
  have ha := hs.some_ a rfl
  refine ⟨⟨a.block, i.toNat, none⟩, ?_, [], a.block, l.map (Value.int .i64), [], i.toNat, rfl, by rw [map_setZ hi]; rfl, by simp; omega, rfl⟩
  have hlt : i.toNat < l.length := by omega
  simp only [yet, List.getElem?_map, List.getElem?_range' hlt, pa]
  rw [ha]
  simp [pa]
theorem code_upd (r : Option Addr) (cs : List Ins) (s : Nat) (i v : Int) (hi : 0 ≤ i ∧ i < (cs.flatMap Ins.par).length) : ∃ j, j < (cs.flatMap Ins.enc).length ∧ (ydd r s cs)[i.toNat]? = some (pa r (s * 5 + j)) ∧ (updI cs i v).flatMap Ins.enc = (cs.flatMap Ins.enc).set j (.int .i64 v) := by
 induction cs generalizing s i with
 | nil => simp at hi; omega
 | cons c cs ih =>
  rw [List.flatMap_cons, List.length_append] at hi
  have hc : (Ins.enc c).length = 5 := rfl
  by_cases ho : c.op = 1
  ·
   have hp : c.par = [c.k] := by unfold Ins.par; rw [if_pos ho]
   have hn : c.num = 1 := by unfold Ins.num; rw [if_pos ho]
   rw [hp] at hi
   by_cases h0 : i = 0
   ·
    subst h0
    refine ⟨4, by simp [Ins.enc], by simp [ydd, ho], ?_⟩
    rw [updI, upd, ylz Ins.put_out _ _ _ (by rw [hn]; omega), List.flatMap_cons, List.flatMap_cons, List.set_append_left (h := by rw [hc]; omega)]
    congr 1
    unfold Ins.put
    rw [if_pos ⟨ho, rfl⟩]
    rfl
   ·
    obtain ⟨j, h1, h2, h3⟩ := ih (s + 1) (i - 1) (by simp only [List.length_cons, List.length_nil] at hi; omega)
    refine ⟨j + 5, by rw [List.flatMap_cons, List.length_append, hc]; omega, ?_, ?_⟩
    ·
     rw [ydd, if_pos ho, List.getElem?_append_right (by simp only [List.length_cons, List.length_nil]; omega), show i.toNat - [pa r (s * 5 + 4)].length = (i - 1).toNat by simp only [List.length_cons, List.length_nil]; omega, h2]
     congr 2
     omega
    ·
     have e : c.put i v = c := by unfold Ins.put; rw [if_neg (fun h => h0 h.2)]
     rw [updI, upd, hn, e, List.flatMap_cons, List.flatMap_cons, List.set_append_right (h := by rw [hc]; omega), hc, show j + 5 - 5 = j by omega]
     congr 1
  ·
   have hp : c.par = [] := by unfold Ins.par; rw [if_neg ho]
   have hn : c.num = 0 := by unfold Ins.num; rw [if_neg ho]
   rw [hp] at hi
   obtain ⟨j, h1, h2, h3⟩ := ih (s + 1) i (by simp only [List.length_nil] at hi; omega)
   refine ⟨j + 5, by rw [List.flatMap_cons, List.length_append, hc]; omega, ?_, ?_⟩
   ·
    rw [ydd, if_neg ho, List.nil_append, h2]
    congr 2
    omega
   ·
    have e : c.put i v = c := by unfold Ins.put; rw [if_neg (fun h => ho h.1)]
    rw [updI, upd, hn, e, List.flatMap_cons, List.flatMap_cons, List.set_append_right (h := by rw [hc]; omega), hc, show j + 5 - 5 = j by omega]
    congr 1
    rw [show i - ((0 : Nat) : Int) = i by omega]
    exact h3
theorem hit_code {r : Option Addr} {c : Nat} {cs : List Ins} (hs : SlF r c cs.length) (i v : Int) : Hit (ydd r 0 cs) (fr1 r (cs.flatMap Ins.enc)) (fr1 r ((updI cs i v).flatMap Ins.enc)) (cs.flatMap Ins.par).length i (.int .i64 v) := by
 refine ⟨yhw _ _ _, fun hi => ?_, fun hi => ?_⟩
 ·
  obtain ⟨j, h1, h2, h3⟩ := code_upd r cs 0 i v hi
  rw [h2, h3]
  cases r with
  | none =>
   have := hs.none_ rfl
   have : cs = [] := List.length_eq_zero_iff.1 this
   subst this
   simp at hi
   omega
  | some a =>
   have ha := hs.some_ a rfl
   refine ⟨_, rfl, [], a.block, _, [], j, rfl, rfl, h1, ?_⟩
   simp only [pa]
   rw [ha]
   simp
 ·
  rw [updI, ylz Ins.put_out _ _ _ (by rw [ycx Ins.num_eq]; exact hi)]
theorem cv_flat (cs : List Cv) (i v : Int) : (upd (fun c : Cv => c.Y.length) Cv.put cs i v).flatMap Cv.enc = cs.flatMap Cv.enc := yic (fun c i v => by unfold Cv.put Cv.enc; simp [ycj]) _ _ _
theorem rw_flat (cs : List Rw) (i v : Int) : (upd (fun c : Rw => c.l.length) Rw.put cs i v).flatMap Rw.enc = cs.flatMap Rw.enc := yic (fun c i v => by unfold Rw.put Rw.enc; simp [ycj]) _ _ _
theorem mqp_flat (cs : List Mr) (i v : Int) : (upd (fun c : Mr => c.par.length) Mr.put cs i v).flatMap Mr.enc = cs.flatMap Mr.enc := yic (fun c i v => by unfold Mr.put Mr.enc; simp [ybq]) _ _ _
theorem hit_cv {c : Cv} (hs : c.sl) (i v : Int) : Hit c.pl c.frag (c.put i v).frag c.Y.length i (.int .i64 v) := (ynl hs.2.1 i v).skip _
theorem hit_rw {x : Rw} (hs : x.sl) (i v : Int) : Hit x.pl x.frag (x.put i v).frag x.l.length i (.int .i64 v) := ynl hs.1 i v
theorem hit_mq {m : Mr} (hs : m.sl) (i v : Int) : Hit m.pl m.frag (m.put i v).frag m.par.length i (.int .i64 v) := by
 have h := Hit.flat (n := fun x : Rw => x.l.length) (g := Rw.put) (pl := Rw.pl) (fr := Rw.frag) (v := v) (V := .int .i64 v) (xs := m.rows) (fun x hx i => hit_rw (hs.2.2.2 x hx) i v) i
 rw [ycx (par := Rw.l) (fun _ => rfl)] at h
 unfold Mr.frag
 refine Hit.skip _ (Hit.skip _ ?_)
 show Hit _ _ (fr1 m.rz ((upd (fun x : Rw => x.l.length) Rw.put m.rows i v).flatMap Rw.enc) ++ (upd (fun x : Rw => x.l.length) Rw.put m.rows i v).flatMap Rw.frag) _ _ _
 rw [rw_flat]
 exact h.skip _
theorem ynm {p : PL} (s : p.Sl) (i v : Int) : Hit p.places p.frag (p.patch i v).frag p.params.length i (.int .i64 v) := by
 have h1 := hit_code s.xY i v
 have h2 := Hit.flat (n := fun x : Cv => x.Y.length) (g := Cv.put) (pl := Cv.pl) (fr := Cv.frag) (v := v) (V := .int .i64 v) (xs := p.zY) (fun x hx i => hit_cv (s.curvesG x hx) i v) (i - p.parI.length)
 have h3 := Hit.flat (n := fun x : Mr => x.par.length) (g := Mr.put) (pl := Mr.pl) (fr := Mr.frag) (v := v) (V := .int .i64 v) (xs := p.mY) (fun x hx i => hit_mq (s.mapsG x hx) i v) (i - p.parI.length - p.parC.length)
 rw [ycx (par := Cv.Y) (fun _ => rfl)] at h2
 rw [ycx (par := Mr.par) (fun _ => rfl)] at h3
 unfold PL.frag PL.params
 rw [List.length_append, List.length_append]
 show Hit _ _ (fr1 p.rc ((updI p.xY i v).flatMap Ins.enc) ++ (fr1 p.rt (p.tY.flatMap Fx.enc) ++ (fr1 p.rv ((upd (fun c : Cv => c.Y.length) Cv.put p.zY (i - p.parI.length) v).flatMap Cv.enc) ++ ((upd (fun c : Cv => c.Y.length) Cv.put p.zY (i - p.parI.length) v).flatMap Cv.frag ++ (fr1 p.rm ((upd (fun c : Mr => c.par.length) Mr.put p.mY (i - p.parI.length - p.parC.length) v).flatMap Mr.enc) ++ ((upd (fun c : Mr => c.par.length) Mr.put p.mY (i - p.parI.length - p.parC.length) v).flatMap Mr.frag ++ _)))))) _ _ _
 rw [cv_flat, mqp_flat]
 exact h1.append (Hit.skip _ (Hit.skip _ (h2.append (Hit.skip _ (h3.skipr _)))))
theorem ygg {l : List Int} {i v : Int} (h : I64s l) (hv : I64 v) : I64s (setZ l i v) := by
 intro x hx
 unfold setZ at hx
 split at hx
 ·
  rcases List.mem_or_eq_of_mem_set hx with hx | rfl
  ·
   exact h x hx
  ·
   exact hv
 ·
  exact h x hx
theorem Ins.put_ok {c : Ins} (i : Int) {v : Int} (hv : I64 v) (h : c.ok) : (c.put i v).ok := by
 unfold Ins.put
 split
 ·
  exact ⟨h.1, h.2.1, h.2.2.1, h.2.2.2.1, hv⟩
 ·
  exact h
theorem Cv.put_sl {c : Cv} (i : Int) {v : Int} (hv : I64 v) (h : c.sl) : (c.put i v).sl := ⟨h.1, by unfold Cv.put; rw [ycj]; exact h.2.1, ygg h.2.2 hv⟩
theorem Rw.put_sl {c : Rw} (i : Int) {v : Int} (hv : I64 v) (h : c.sl) : (c.put i v).sl := ⟨by unfold Rw.put; rw [ycj]; exact h.1, ygg h.2 hv⟩
theorem Mr.put_sl {c : Mr} (i : Int) {v : Int} (hv : I64 v) (h : c.sl) : (c.put i v).sl := ⟨h.1, h.2.1, by unfold Mr.put; rw [ybq]; exact h.2.2.1, ygo (fun x i hx => Rw.put_sl i hv hx) _ _ h.2.2.2⟩
theorem PL.Sl.patch {p : PL} (s : p.Sl) (i : Int) {v : Int} (hv : I64 v) : (p.patch i v).Sl :=
 ⟨by unfold PL.patch; simp only [ybq]; exact s.xY, ygo (fun x i hx => Ins.put_ok i hv hx) _ _ s.codeG, s.tY, s.typesG, by unfold PL.patch; simp only [ybq]; exact s.zY, ygo (fun x i hx => Cv.put_sl i hv hx) _ _ s.curvesG, by unfold PL.patch; simp only [ybq]; exact s.mY, ygo (fun x i hx => Mr.put_sl i hv hx) _ _ s.mapsG, s.cells, s.qY, s.sY, s.oY, s.iY⟩
theorem OwnP.patch {D : Nat} {W : World} {p : PL} (h : OwnP D W p) {i : Nat} {a : Addr} (ha : p.places[i]? = some a) {v : Int} (hv : I64 v) : OwnP D (W.setCell a (.int .i64 v)) (p.patch i v) := by
 have hi : i < p.places.length := by
  rcases Nat.lt_or_ge i p.places.length with hh | hh
  ·
   exact hh
  ·
   rw [List.getElem?_eq_none hh] at ha; cases ha
 rw [ydn] at hi
 obtain ⟨a', h1, h2⟩ := (ynm h.2 (i : Int) v).2.1 ⟨by omega, by omega⟩
 rw [Int.toNat_natCast, ha] at h1
 obtain rfl : a = a' := by simpa using h1
 exact ⟨h.1.upd h2, h.2.patch _ hv⟩
theorem OwnP.place {D : Nat} {W : World} {p : PL} (h : OwnP D W p) {i : Nat} {a : Addr} (ha : p.places[i]? = some a) : D ≤ a.block ∧ a.block < W.heap.size ∧ a.spot = none ∧ W.frozen? a = false ∧ W.cell? a = some (.int .i64 (p.params.getD i 0)) := by
 have hi : i < p.places.length := by
  rcases Nat.lt_or_ge i p.places.length with hh | hh
  ·
   exact hh
  ·
   rw [List.getElem?_eq_none hh] at ha; cases ha
 rw [ydn] at hi
 obtain ⟨a', h1, F1, b, l, F2, j, h2, h3, h4, h5⟩ := (ynm h.2 (i : Int) 0).2.1 ⟨by omega, by omega⟩
 rw [Int.toNat_natCast, ha] at h1
 obtain rfl : a = a' := by simpa using h1
 subst h5
 obtain ⟨k1, k2, k3⟩ := h.1.2 (b, l) (by rw [h2]; simp)
 refine ⟨k1, k2, rfl, (k3 j _ (List.getElem?_eq_getElem h4)).2, h.isL.places.2 i _ _ ha ?_⟩
 rw [List.getD_eq_getElem?_getD, List.getElem?_eq_getElem hi]
 rfl
end
section
open Go.Deep
theorem yiy (p : PL) (i v : Int) : (p.patch i v).v.val = p.v.val := by
 obtain ⟨rc, cc, xY, rt, ct, tY, rv, cv, zY, rm, cm, mY, cells, ri, ci, qY, rs, cs, sY, ro, co, oY, rn, cn, iY⟩ := p
 simp only [PV.val, PL.v, PL.patch, List.length_map, ybq]
theorem yia {α : Type} {n : α → Nat} {g : α → Int → Int → α} {f : α → List Int} (hg : ∀ x i v, (f (g x i v)).length = (f x).length) (xs : List α) (i v : Int) : ((upd n g xs i v).flatMap f).length = (xs.flatMap f).length := by
 induction xs generalizing i with
 | nil => rfl
 | cons x xs ih => rw [upd, List.flatMap_cons, List.flatMap_cons, List.length_append, List.length_append, ih, hg]
theorem yhq (p : PP) (i v : Int) : (p.patch i v).body.length = p.body.length := by
 unfold PP.body
 simp only [List.length_append, yau, yai]
 have e1 : ((p.patch i v).xY.flatMap Ins.by8).length = (p.xY.flatMap Ins.by8).length := yia (fun x i v => by show (encI _ _ _ _ _).length = (encI _ _ _ _ _).length; rw [yea, yea]) _ _ _
 have e2 : ((p.patch i v).zY.flatMap yay).length = (p.zY.flatMap yay).length := yia (fun x i v => by unfold yay; simp only [List.length_append, yai, ycj]) _ _ _
 have e3 : ((p.patch i v).mY.flatMap ycf).length = (p.mY.flatMap ycf).length := yia (fun x i v => by
  unfold ycf
  simp only [List.length_append, yai]
  rw [show (updN x.2.2 i v).flatMap yaq = (upd (α := List Int) List.length setZ x.2.2 i v).flatMap yaq from rfl, yia (fun x i v => by rw [yai, yai, ycj])]) _ _ _
 rw [e1, e2, e3]
 rfl
theorem ygm {α : Type} {f g : α → List Int} (h : ∀ x, (f x).length ≤ (g x).length) (xs : List α) : (xs.flatMap f).length ≤ (xs.flatMap g).length := by
 induction xs with
 | nil => simp
 | cons x xs ih => rw [List.flatMap_cons, List.flatMap_cons, List.length_append, List.length_append]; have := h x; omega
theorem yjw (p : PP) : p.params.length ≤ p.body.length := by
 unfold PP.params PP.body PP.parI PP.parC PP.parM
 simp only [List.length_append]
 have h1 : (p.xY.flatMap Ins.par).length ≤ (p.xY.flatMap Ins.by8).length := ygm (fun x => by
  have : (Ins.by8 x).length = 12 := yea _ _ _ _ _
  rw [this]; unfold Ins.par; split <;> simp) _
 have h2 : (p.zY.flatMap fun c => c.2).length ≤ (p.zY.flatMap yay).length := ygm (fun x => by unfold yay; rw [List.length_append, yai, yai]; omega) _
 have h3 : (p.mY.flatMap fun m => m.2.2.flatten).length ≤ (p.mY.flatMap ycf).length := ygm (fun x => by
  unfold ycf
  rw [List.length_append]
  have : x.2.2.flatten.length ≤ (x.2.2.flatMap yaq).length := by
   rw [← List.flatMap_id']
   exact ygm (fun l => by rw [yai]; omega) _
  omega) _
 omega
theorem yda {p : PL} (h : p.v.p.body.length ≤ 90000) : p.params.length ≤ 90000 := by
 rw [← ydo]
 exact Nat.le_trans (yjw _) h
end
open Go
section
variable {P : Program} {md : Region.Mode} {ops : Array Oper} {Q : Exit → Act → World → Prop} {S : World → Prop} {p : Nat → Bool}
def wpHd (P : Program) (md : Region.Mode) (ops : Array Oper) (Q : Exit → Act → World → Prop) (S : World → Prop) (p : Nat → Bool) : Nat → Array Bool → Act → World → Prop
 | 0, listed, a, w => Region.ready md ops listed = [] ∧ Q .normal a w
 | f + 1, listed, a, w => (Region.ready md ops listed = [] → Q .normal a w) ∧
  ∀ i ∈ Region.ready md ops listed, wpOp P ops Q i (fun a' w' => (p i = true → S w') ∧ wpHd P md ops Q S p f (listed.setIfInBounds i true) a' w') a w
theorem ygn : ∀ (f : Nat) (listed : Array Bool) (a : Act) (w : World), wpHd P md ops Q S p f listed a w → wpAny P md ops Q f listed a w
 | 0, _, _, _, h => h
 | f + 1, _, _, _, h => ⟨h.1, fun i hi => wpOp_mono (fun a' w' h' => ygn f _ a' w' h'.2) (h.2 i hi)⟩
theorem yhj {S' : World → Prop} {i : Nat} {oi : Oper} {v : Value} (hi : ops[i]? = some oi) (hsel : ∀ (j : Nat) (o : Oper) cs b, ops[j]? = some o → o.op ≠ .select cs b)
  (hQ : ∀ c a w, Q (.panic c) (a.put oi.dst v) w → Q (.panic c) a w)
  (hpS : p i = true → ∀ w, S' w → S w)
  (hp : ∀ j, j < ops.size → j ≠ i → Region.waitsFor md ops j i = true ∨ ∀ w', (p j = true → S w') → S' w') :
  ∀ (f : Nat) (listed : Array Bool) (a : Act) (w : World),
   (∀ j oj, ops[j]? = some oj → j ≠ i → listed.getD j true = false → (∀ e ∈ oj.after, Region.binds md e = true → e.on ≠ i) → oi.apart ops oj = true) →
   i ∈ Region.ready md ops listed → YieldsIf P ops S' oi v a → S' w →
   wpHd P md ops Q S p f (listed.setIfInBounds i true) (a.put oi.dst v) w → wpHd P md ops Q S p (f + 1) listed a w := by
 intro f
 induction f with
 | zero =>
  intro listed a w _ hr hy hS H
  refine ⟨fun h => (by rw [h] at hr; cases hr), fun j hj => ?_⟩
  by_cases hji : j = i
  ·
   subst hji; exact hy.wpOp hi hS ⟨fun h => hpS h _ hS, H⟩
  ·
   have := ready_mono hj hji
   rw [H.1] at this
   cases this
 | succ f ih =>
  intro listed a w hfree hr hy hS H
  refine ⟨fun h => (by rw [h] at hr; cases hr), fun j hj => ?_⟩
  by_cases hji : j = i
  ·
   subst hji; exact hy.wpOp hi hS ⟨fun h => hpS h _ hS, H⟩
  ·
   have h1 := H.2 j (ready_mono hj hji)
   obtain ⟨hjun, oj, hoj, hall⟩ := mem_ready.1 hj
   have hnot : ∀ e ∈ oj.after, Region.binds md e = true → e.on ≠ i := fun e he hb heq => by
    have h1 := hall e he hb
    rw [heq, getD_both (mem_ready.1 hr).1] at h1
    cases h1
   have hpj : ∀ w', (p j = true → S w') → S' w' := by
    rcases hp j (Array.getElem?_eq_some_iff.1 hoj).1 hji with h | h
    ·
     obtain ⟨o', ho', e, he, hb, hon⟩ := Region.waitsFor_spec h
     have : o' = oj := Option.some.inj (ho'.symm.trans hoj)
     subst this
     exact absurd hon (hnot e he hb)
    ·
     exact h
   have h2 := wpOp_putIf hoj (hfree j oj hoj hji hjun hnot) (fun cs b => hsel i oi cs b hi) (fun cs b => hsel j oj cs b hoj) hQ hy h1
   have hfree' : ∀ k ok, ops[k]? = some ok → k ≠ i → (listed.setIfInBounds j true).getD k true = false →
     (∀ e ∈ ok.after, Region.binds md e = true → e.on ≠ i) → oi.apart ops ok = true := fun k ok hk hki hun hno => by
    refine hfree k ok hk hki ?_ hno
    by_cases hjk : j = k
    ·
     subst hjk; exact hjun
    ·
     rw [getD_set_ne true hjk] at hun; exact hun
   refine wpOp_mono (fun a' w' h3 => ⟨h3.2.1, ih (listed.setIfInBounds j true) a' w' hfree' (ready_mono hr (Ne.symm hji)) h3.1 (hpj w' h3.2.1) ?_⟩) h2
   rw [Array.setIfInBounds_comm _ _ hji]
   exact h3.2.2
def Region.lateB (md : Region.Mode) (ops : Array Oper) (p : Nat → Bool) (i : Nat) : Bool := (List.range ops.size).all fun j => decide (j = i) || p j || Region.waitsFor md ops j i
theorem yad {l : List Oper} {i : Nat} {oi : Oper} {v : Value} {f : Nat} {listed : Array Bool} {a : Act} {w : World} (hi0 : l[i]? = some oi) (hl : Region.lateB md l.toArray p i = true)
  (hs : Region.noSelect l.toArray = true) (hf : Region.free md l.toArray listed i = true) (hr : (Region.ready md l.toArray listed).contains i = true)
  (hQ : ∀ c a w, Q (.panic c) (a.put oi.dst v) w → Q (.panic c) a w) (hy : YieldsIf P l.toArray S oi v a) (hS : S w)
  (h : wpHd P md l.toArray Q S p f (listed.setIfInBounds i true) (a.put oi.dst v) w) : wpHd P md l.toArray Q S p (f + 1) listed a w :=
 have hi : l.toArray[i]? = some oi := by simpa using hi0
 yhj hi (Region.noSelect_spec hs) hQ (fun _ _ h => h) (fun j hj hji => by
  have := List.all_eq_true.1 hl j (List.mem_range.2 hj)
  simp only [Bool.or_eq_true, decide_eq_true_eq] at this
  rcases this with (h | h) | h
  ·
   exact absurd h hji
  ·
   exact .inr fun w' hw => hw h
  ·
   exact .inl h) f listed a w (Region.free_spec hi hf) (by simpa using hr) hy hS h
theorem yde {l : List Oper} {i : Nat} {oi : Oper} {v : Value} {f : Nat} {listed : Array Bool} {a : Act} {w : World} (hi0 : l[i]? = some oi) (hl : p i = false)
  (hs : Region.noSelect l.toArray = true) (hf : Region.free md l.toArray listed i = true) (hr : (Region.ready md l.toArray listed).contains i = true)
  (hQ : ∀ c a w, Q (.panic c) (a.put oi.dst v) w → Q (.panic c) a w) (hy : YieldsIf P l.toArray (fun _ => True) oi v a)
  (h : wpHd P md l.toArray Q S p f (listed.setIfInBounds i true) (a.put oi.dst v) w) : wpHd P md l.toArray Q S p (f + 1) listed a w :=
 have hi : l.toArray[i]? = some oi := by simpa using hi0
 yhj (S' := fun _ => True) hi (Region.noSelect_spec hs) hQ (fun h => by rw [hl] at h; cases h) (fun _ _ _ => .inr fun _ _ => trivial) f listed a w (Region.free_spec hi hf) (by simpa using hr) hy trivial h
theorem yat {l : List Oper} {i : Nat} {o : Oper} {f : Nat} {listed : Array Bool} {a : Act} {w : World} (hi0 : l[i]? = some o) (hr : Region.ready md l.toArray listed = [i])
  (hg : Region.wanted o (yielded l.toArray a.tmps) = true)
  (h : ∀ K : Act → World → Prop, (∀ a' w', (p i = true → S w') → wpHd P md l.toArray Q S p f (listed.setIfInBounds i true) a' w' → K a' w') → o.wp P a w K Q) : wpHd P md l.toArray Q S p (f + 1) listed a w := by
 have hi : l.toArray[i]? = some o := by simpa using hi0
 refine ⟨fun h0 => (by rw [hr] at h0; cases h0), fun j hj => ?_⟩
 rw [hr] at hj
 have hji : j = i := by simpa using hj
 subst hji
 unfold wpOp
 simp only [hi, hg, if_true]
 exact .inl (h _ fun _ _ h1 h2 => ⟨h1, h2⟩)
theorem ycb {listed : Array Bool} {a : Act} {w : World} (hr : Region.ready md ops listed = []) (h : Q .normal a w) : wpHd P md ops Q S p 0 listed a w := ⟨hr, h⟩
theorem ybh {id : Nat} {a : Act} {w : World} (S : World → Prop) (p : Nat → Bool) (hm : P.follows .mixedOrders = true)
  (h : wpHd P .any ops Q S p ops.size (Array.replicate ops.size false) a w.drew) : (Code.region id ops true).wp P Q a w := wp_region_any hm (ygn _ _ _ _ h)
end
theorem ylu (r : Option Addr) (cap : Nat) (xs : List Int) (w : World) (hx : IsInts w r cap .i64 xs) (hl : xs.length ≤ 1099511627776) : Calls Tryz.prog 68 #[.slice r xs.length cap] w fun e w' => ∃ r' cap', e = .returned (.slice r' xs.length cap') ∧ OwnK .i64 3 w' w.heap.size r' cap' xs ∧ Below w.heap.size w w' := by
 cases r with
 | none =>
  have hy : xs = [] := by
   rcases Classical.em (xs = []) with h | h
   ·
    exact h
   ·
    obtain ⟨b, off, h1, _⟩ := hx.cells h
    cases h1
  subst hy
  clear hx
  have hq : ∀ w, (binOp .eql 26 (.slice none 0 cap) (.slice none 0 0)).run Tryz.prog w = .ok (.bool true) w := fun w => ybu Tryz.underlying26 _ _ _ w
  go_enter Tryz.func68, Tryz.ntmps68
  go_wp2
  go_ret
  exact ⟨none, 0, rfl, OwnK.nil _ _, bw⟩
 | some ad =>
  have HX : Hid (∀ w', Below w.heap.size w w' → IsInts w' (some ad) cap .i64 xs) := H! (fun _ h => hx.later h)
  clear hx
  have HE : Hid (OwnK .i64 3 (w.alloc (.cells #[] 3)) w.heap.size (some ⟨w.heap.size, 0, none⟩) 0 []) := H! ⟨by simp, Or.inr ⟨w.heap.size, 0, #[], rfl, Nat.le_refl _, heap_alloc_new w _, by simp, by simp [maxLen], by simp, by simp⟩⟩
  have hq : ∀ w, (binOp .eql 26 (.slice (some ad) xs.length cap) (.slice none 0 0)).run Tryz.prog w = .ok (.bool false) w := fun w => ybu Tryz.underlying26 _ _ _ w
  go_enter Tryz.func68, Tryz.ntmps68
  go_wp2_with (at_builtin; refine yag Tryz.underlying26 yci rfl (by omega) (by rfl) _ _ (by rfl) w.heap.size (some ⟨w.heap.size, 0, none⟩) (some ad) 0 cap [] xs (by rfl) (by rfl) HE.out (HX.out _ bw) (by simpa using hl) (by go_size) ?_; intro r' cap' w1 hown1 hbw1; have HO1 := H! hown1; clear hown1)
  go_ret
  have hO := HO1.out
  rw [List.nil_append] at hO
  exact ⟨r', cap', rfl, hO, Below.trans ((Below.refl _ w).alloc (Nat.le_refl _) _) hbw1⟩
section
open Go.Deep
structure PL.Sm (p : PL) : Prop where
 xY : p.xY.length ≤ 10000000000
 tY : p.tY.length ≤ 10000000000
 zY : p.zY.length ≤ 10000000000
 curvesG : ∀ c ∈ p.zY, c.X.length ≤ 10000000000 ∧ c.Y.length ≤ 10000000000
 mY : p.mY.length ≤ 10000000000
 mapsG : ∀ m ∈ p.mY, m.X.length ≤ 10000000000 ∧ m.Y.length ≤ 10000000000 ∧ m.rows.length ≤ 10000000000 ∧ ∀ x ∈ m.rows, x.l.length ≤ 10000000000
 qY : p.qY.length ≤ 10000000000
 sY : p.sY.length ≤ 10000000000
 oY : p.oY.length ≤ 10000000000
 iY : p.iY.length ≤ 10000000000
theorem yel {α β : Type} {f : α → List β} {l : List α} {x : α} (h : x ∈ l) : (f x).length ≤ (l.flatMap f).length := by
 induction l with
 | nil => simp at h
 | cons y l ih =>
  rw [List.flatMap_cons, List.length_append]
  rcases List.mem_cons.1 h with rfl | h
  ·
   omega
  ·
   have := ih h; omega
theorem yfj {α β : Type} {f : α → List β} (hf : ∀ x, 1 ≤ (f x).length) (l : List α) : l.length ≤ (l.flatMap f).length := by
 induction l with
 | nil => simp
 | cons y l ih =>
  rw [List.flatMap_cons, List.length_append, List.length_cons]
  have := hf y
  omega
theorem PL.sm {p : PL} (h : p.v.p.body.length ≤ 10000000000) : p.Sm := by
 have e : p.v.p.body = num8 p.xY.length ++ p.xY.flatMap Ins.by8 ++ num8 p.tY.length ++ p.tY.flatMap Fx.by8 ++ num8 p.zY.length ++ p.zY.flatMap (fun c => yay c.p) ++ num8 p.mY.length ++ p.mY.flatMap (fun m => ycf m.m.p) ++ num8 p.cells ++ yaq p.qY ++ yaq p.sY ++ yaq p.oY ++ yaq p.iY := by
  unfold PP.body PV.p PL.v
  simp only [List.length_map]
  rw [yeu, yha, List.flatMap_map]
 rw [e] at h
 simp only [List.length_append, yau, yai] at h
 have h1 := yfj (f := Ins.by8) (fun x => by show 1 ≤ (encI _ _ _ _ _).length; rw [yea]; omega) p.xY
 have h2 := yfj (f := Fx.by8) (fun x => by unfold Fx.by8 ycm Fx.nums; simp [yau]) p.tY
 have h3 := yfj (f := fun c : Cv => yay c.p) (fun x => by unfold yay; rw [List.length_append, yai]; omega) p.zY
 have h4 := yfj (f := fun m : Mr => ycf m.m.p) (fun x => by unfold ycf; rw [List.length_append, List.length_append, yai]; omega) p.mY
 refine ⟨by omega, by omega, by omega, fun c hc => ?_, by omega, fun m hm => ?_, by omega, by omega, by omega, by omega⟩
 ·
  have h5 := yel (f := fun c : Cv => yay c.p) hc
  unfold yay at h5
  rw [List.length_append, yai, yai] at h5
  have h6 : c.p.1 = c.X := rfl
  have h7 : c.p.2 = c.Y := rfl
  rw [h6, h7] at h5
  have h8 : (p.zY.flatMap fun c => yaq c.p.fst ++ yaq c.p.snd).length = (p.zY.flatMap fun c => yay c.p).length := rfl
  omega
 ·
  have h5 := yel (f := fun m : Mr => ycf m.m.p) hm
  have h8 : (ycf m.m.p).length = 8 + 8 * m.X.length + (8 + 8 * m.Y.length) + ((m.rows.map Rw.l).flatMap yaq).length := by
   unfold ycf
   rw [List.length_append, List.length_append, yai, yai]
   rfl
  have h9 := yfj (f := yaq) (fun x => by rw [yai]; omega) (m.rows.map Rw.l)
  rw [List.length_map] at h9
  refine ⟨by omega, by omega, by omega, fun x hx => ?_⟩
  have h10 := yel (f := yaq) (List.mem_map_of_mem (f := Rw.l) hx)
  rw [yai] at h10
  omega
def Cl (w w' : World) (r : Option Addr) (c n : Nat) (cells : List Value) : Prop := SlF r c n ∧ OwnF w.heap.size w' (fr1 r cells)
theorem Cl.ofK {w w' : World} {r : Option Addr} {c : Nat} {xs : List Int} (h : OwnK .i64 3 w' w.heap.size r c xs) : Cl w w' r c xs.length (xs.map (Value.int .i64)) := ⟨(yjy h).1, OwnF.fr (yjy h).2⟩
theorem Cl.ofR {α : Type} {t : TypeId} {sz : Nat} {enc : α → List Value} (henc : ∀ x, (enc x).length = sz) {w w' : World} {r : Option Addr} {c : Nat} {xs : List α} (h : OwnR t sz enc w' w.heap.size r c xs) : Cl w w' r c xs.length (xs.flatMap enc) := ⟨(yeg henc h).1, OwnF.fr (yeg henc h).2⟩
theorem yeb (r : Option Addr) (cap : Nat) (xs : List Int) (w : World) (hx : IsInts w r cap .i64 xs) (hl : xs.length ≤ 10000000000) : Calls Tryz.prog 68 #[.slice r xs.length cap] w fun e w' => ∃ r' cap', e = .returned (.slice r' xs.length cap') ∧ Cl w w' r' cap' xs.length (xs.map (Value.int .i64)) ∧ Below w.heap.size w w' :=
 (ylu r cap xs w hx (by omega)).mono fun _ _ ⟨r', c', h1, h2, h3⟩ => ⟨r', c', h1, Cl.ofK h2, h3⟩
theorem ynu (r : Option Addr) (cap : Nat) (xs : List Ins) (w : World) (hx : IsS 5 Ins.enc w r cap xs) (hl : xs.length ≤ 10000000000) : Calls Tryz.prog 64 #[.slice r xs.length cap] w fun e w' => ∃ r' cap', e = .returned (.slice r' xs.length cap') ∧ Cl w w' r' cap' xs.length (xs.flatMap Ins.enc) ∧ Below w.heap.size w w' :=
 (yjo r cap xs w hx (by omega)).mono fun _ _ ⟨r', c', h1, h2, h3⟩ => ⟨r', c', h1, Cl.ofR (enc := Ins.enc) (fun _ => rfl) h2, h3⟩
theorem clFx_any (r : Option Addr) (cap : Nat) (xs : List Fx) (w : World) (hx : IsS 10 Fx.enc w r cap xs) (hl : xs.length ≤ 10000000000) : Calls Tryz.prog 65 #[.slice r xs.length cap] w fun e w' => ∃ r' cap', e = .returned (.slice r' xs.length cap') ∧ Cl w w' r' cap' xs.length (xs.flatMap Fx.enc) ∧ Below w.heap.size w w' :=
 (ykf r cap xs w hx (by omega)).mono fun _ _ ⟨r', c', h1, h2, h3⟩ => ⟨r', c', h1, Cl.ofR (enc := Fx.enc) (fun _ => rfl) h2, h3⟩
theorem clCv_any (r : Option Addr) (cap : Nat) (xs : List Cv) (w : World) (hx : IsS 2 Cv.enc w r cap xs) (hl : xs.length ≤ 10000000000) : Calls Tryz.prog 66 #[.slice r xs.length cap] w fun e w' => ∃ r' cap', e = .returned (.slice r' xs.length cap') ∧ Cl w w' r' cap' xs.length (xs.flatMap Cv.enc) ∧ Below w.heap.size w w' :=
 (ykg r cap xs w hx (by omega)).mono fun _ _ ⟨r', c', h1, h2, h3⟩ => ⟨r', c', h1, Cl.ofR (enc := Cv.enc) (fun _ => rfl) h2, h3⟩
theorem clMq_any (r : Option Addr) (cap : Nat) (xs : List Mr) (w : World) (hx : IsS 3 Mr.enc w r cap xs) (hl : xs.length ≤ 10000000000) : Calls Tryz.prog 67 #[.slice r xs.length cap] w fun e w' => ∃ r' cap', e = .returned (.slice r' xs.length cap') ∧ Cl w w' r' cap' xs.length (xs.flatMap Mr.enc) ∧ Below w.heap.size w w' := by
 have h := yke r cap (xs.map Mr.m) w ((ykb Mr.enc_m).1 hx) (by rw [List.length_map]; omega)
 rw [List.length_map] at h
 refine h.mono fun _ _ ⟨r', c', h1, h2, h3⟩ => ⟨r', c', h1, ?_, h3⟩
 have h4 := Cl.ofR (enc := Mp.enc) (fun _ => rfl) h2
 rwa [List.length_map, mq_flat] at h4
theorem clRw_any (r : Option Addr) (cap : Nat) (xs : List Rw) (w : World) (hx : IsS 1 Rw.enc w r cap xs) (hl : xs.length ≤ 10000000000) : Calls Tryz.prog 69 #[.slice r xs.length cap] w fun e w' => ∃ r' cap', e = .returned (.slice r' xs.length cap') ∧ Cl w w' r' cap' xs.length (xs.flatMap Rw.enc) ∧ Below w.heap.size w w' :=
 (ykd r cap xs w hx (by omega)).mono fun _ _ ⟨r', c', h1, h2, h3⟩ => ⟨r', c', h1, Cl.ofR (enc := Rw.enc) (fun _ => rfl) h2, h3⟩
section
variable {α : Type} {enc : α → List Value} {sz : Nat}
theorem ycu (henc : ∀ x, (enc x).length = sz) (done todo : List α) (c : α) {j : Nat} {u : Value} (hj : (enc c)[j]? = some u) : ((done ++ c :: todo).flatMap enc)[done.length * sz + j]? = some u := by
 refine ykw henc (i := done.length) (x := c) ?_ hj
 simp
theorem yil (henc : ∀ x, (enc x).length = sz) (done todo : List α) (c : α) (j : Nat) (hj : j < sz) (v : Value) : ((done ++ c :: todo).flatMap enc).set (done.length * sz + j) v = done.flatMap enc ++ ((enc c).set j v ++ todo.flatMap enc) := by
 rw [List.flatMap_append, List.flatMap_cons, List.set_append_right (h := by rw [ycv henc]; omega), ycv henc, Nat.add_sub_cancel_left, List.set_append_left (h := by rw [henc]; exact hj)]
theorem ygz (henc : ∀ x, (enc x).length = sz) (done : List α) (A B : List Value) (j : Nat) (hj : j < A.length) (v : Value) : (done.flatMap enc ++ (A ++ B)).set (done.length * sz + j) v = done.flatMap enc ++ (A.set j v ++ B) := by
 rw [List.set_append_right (h := by rw [ycv henc]; omega), ycv henc, Nat.add_sub_cancel_left, List.set_append_left (h := hj)]
end
end
end Go.Proofs.YtfooefiaenlhmaaGreat
