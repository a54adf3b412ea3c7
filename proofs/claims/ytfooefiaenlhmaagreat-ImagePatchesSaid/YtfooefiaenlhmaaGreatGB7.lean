/- Lemmas for the laws of package magnetolaw15: what its functions return, for any arguments that the lemmas name. -/
import Derived.Test.YtfooefiaenlhmaaGreatGB1
import Derived.Test.YtfooefiaenlhmaaGreatGB6
import Derived.Deep.RegionHeld3
import Derived.Deep.AppendLies
import Derived.OwnWalk
import Derived.Deep.LoopGhost
import Derived.Shelf.Abstract
import Derived.Shelf.Bits.Mul64
set_option maxRecDepth 100000
namespace Go.Proofs.YtfooefiaenlhmaaGreat
set_option linter.all false
set_option maxHeartbeats 16000000
open Go.RowKit Go.ChangeShapes Go.WideShapes Go.ChangeAt
theorem yii {n : Nat} (h : n ≤ 9223372036854775807) : I64 (n : Int) := by unfold I64; simp [Lit.wf, IntKind.min, IntKind.max, IntKind.bits, IntKind.signed]; omega
theorem yds {W : World} {base : Nat} {r : Option Addr} {c : Nat} {xs : List Int} (h : OwnK .u8 5 W base r c xs) (hb : ydx xs) : IsInts W r c .u8 xs := h.ints (fun x hx => ylc (hb x hx).1 (hb x hx).2)
theorem bit_any (b : Bool) (v : Int) (hv : (if b then 1 else 0) = v) (w : World) : Calls Tryz.prog 81 #[.bool b] w fun e w' => e = .returned (.int .i64 v) ∧ w' = w := by
 subst hv
 cases b
 ·
  go_enter Tryz.func81, Tryz.ntmps81
  go_wp2
  go_ret
  exact ⟨rfl, rfl⟩
 ·
  go_enter Tryz.func81, Tryz.ntmps81
  go_wp2
  go_ret
  exact ⟨rfl, rfl⟩
theorem yiv (p : PV) (w : World) (hp : IsP w p) (hl : p.p.body.length ≤ 10000000000) : Calls Tryz.prog 37 #[p.val] w fun e w' => ∃ r c, e = .returned (.slice r p.p.body.length c) ∧ OwnK .u8 5 w' w.heap.size r c p.p.body ∧ Below w.heap.size w w' := by
 obtain ⟨rc, cc, xY, rt, ct, tY, rv, cv, zY, rm, cm, mY, cells, ri, ci, qY, rs, cs, sY, ro, co, oY, rn, cn, iY⟩ := p
 have HE : Hid (PP.body (PV.p ⟨rc, cc, xY, rt, ct, tY, rv, cv, zY, rm, cm, mY, cells, ri, ci, qY, rs, cs, sY, ro, co, oY, rn, cn, iY⟩) = num8 xY.length ++ xY.flatMap Ins.by8 ++ num8 tY.length ++ tY.flatMap Fx.by8 ++ num8 zY.length ++ zY.flatMap (fun c => yay c.p) ++ num8 mY.length ++ mY.flatMap (fun m => ycf m.p) ++ num8 cells ++ yaq qY ++ yaq sY ++ yaq oY ++ yaq iY) := H! (by unfold PP.body PV.p; simp only [List.length_map]; rw [yeu, yha])
 have hs1 := hp.xY
 have hg1 := hp.codeG
 have hs2 := hp.tY
 have hg2 := hp.typesG
 have hs3 := hp.zY
 have hg3 := hp.curvesG
 have hs4 := hp.mY
 have hg4 := hp.mapsG
 have hcl := hp.cells
 have hi1 := hp.qY
 have hi2 := hp.sY
 have hi3 := hp.oY
 have hi4 := hp.iY
 simp only at hs1 hg1 hs2 hg2 hs3 hg3 hs4 hg4 hcl hi1 hi2 hi3 hi4
 have hl2 := hl
 rw [HE.out] at hl2
 simp only [List.length_append, yau, yai] at hl2
 have hB1 : Below w.heap.size w (w.alloc (.cells #[.slice rc xY.length cc, .slice rt tY.length ct, .slice rv zY.length cv, .slice rm mY.length cm, .int .i64 cells, .slice ri qY.length ci, .slice rs sY.length cs, .slice ro oY.length co, .slice rn iY.length cn] 28)) := (Below.refl _ _).alloc (Nat.le_refl _) _
 have HS1 := H! (hs1.later hB1)
 have HS2 := H! (hs2.later hB1)
 have HS3 := H! (hs3.later hB1)
 have HS4 := H! (hs4.later hB1)
 have HG1 := H! hg1
 have HG2 := H! hg2
 have HG3 := H! (fun x hx => (hg3 x hx).later hB1)
 have HG4 := H! (fun x hx => (hg4 x hx).later hB1)
 have HI1 := H! (hi1.later hB1)
 have HI2 := H! (hi2.later hB1)
 have HI3 := H! (hi3.later hB1)
 have HI4 := H! (hi4.later hB1)
 clear hs1 hs2 hs3 hs4 hg1 hg2 hg3 hg4 hi1 hi2 hi3 hi4 hp hl
 generalize hres : PP.body (PV.p ⟨rc, cc, xY, rt, ct, tY, rv, cv, zY, rm, cm, mY, cells, ri, ci, qY, rs, cs, sY, ro, co, oY, rn, cn, iY⟩) = res at *
 clear hres
 have hm1 := HS1.out.max
 unfold maxLen at hm1
 have hmc1 := HS1.out.le
 have hmc2 := Nat.le_trans HS2.out.le HS2.out.max
 have hmc3 := Nat.le_trans HS3.out.le HS3.out.max
 have hmc4 := Nat.le_trans HS4.out.le HS4.out.max
 unfold maxLen at hmc2 hmc3 hmc4
 have hn1 : I64 (xY.length : Int) := yii (by omega)
 have hn2 : I64 (tY.length : Int) := yii (by omega)
 have hn3 : I64 (zY.length : Int) := yii (by omega)
 have hn4 : I64 (mY.length : Int) := yii (by omega)
 simp only [PV.val]
 go_enter Tryz.func37, Tryz.ntmps37
 go_wp2_with (go_at_call 79; refine (ydf _ hn1 _).mono ?_; rintro e w1 ⟨r1, c1, rfl, ho1, hb1⟩)
 have q0 : (w.alloc (.cells #[.slice rc xY.length cc, .slice rt tY.length ct, .slice rv zY.length cv, .slice rm mY.length cm, .int .i64 cells, .slice ri qY.length ci, .slice rs sY.length cs, .slice ro oY.length co, .slice rn iY.length cn] 28)).cell? ⟨w.heap.size, 0, none⟩ = some (.slice rc xY.length cc) := by simp
 have q1 : (w.alloc (.cells #[.slice rc xY.length cc, .slice rt tY.length ct, .slice rv zY.length cv, .slice rm mY.length cm, .int .i64 cells, .slice ri qY.length ci, .slice rs sY.length cs, .slice ro oY.length co, .slice rn iY.length cn] 28)).cell? ⟨w.heap.size, 1, none⟩ = some (.slice rt tY.length ct) := by simp
 have q2 : (w.alloc (.cells #[.slice rc xY.length cc, .slice rt tY.length ct, .slice rv zY.length cv, .slice rm mY.length cm, .int .i64 cells, .slice ri qY.length ci, .slice rs sY.length cs, .slice ro oY.length co, .slice rn iY.length cn] 28)).cell? ⟨w.heap.size, 2, none⟩ = some (.slice rv zY.length cv) := by simp
 have q3 : (w.alloc (.cells #[.slice rc xY.length cc, .slice rt tY.length ct, .slice rv zY.length cv, .slice rm mY.length cm, .int .i64 cells, .slice ri qY.length ci, .slice rs sY.length cs, .slice ro oY.length co, .slice rn iY.length cn] 28)).cell? ⟨w.heap.size, 3, none⟩ = some (.slice rm mY.length cm) := by simp
 have q4 : (w.alloc (.cells #[.slice rc xY.length cc, .slice rt tY.length ct, .slice rv zY.length cv, .slice rm mY.length cm, .int .i64 cells, .slice ri qY.length ci, .slice rs sY.length cs, .slice ro oY.length co, .slice rn iY.length cn] 28)).cell? ⟨w.heap.size, 4, none⟩ = some (.int .i64 cells) := by simp
 have q5 : (w.alloc (.cells #[.slice rc xY.length cc, .slice rt tY.length ct, .slice rv zY.length cv, .slice rm mY.length cm, .int .i64 cells, .slice ri qY.length ci, .slice rs sY.length cs, .slice ro oY.length co, .slice rn iY.length cn] 28)).cell? ⟨w.heap.size, 5, none⟩ = some (.slice ri qY.length ci) := by simp
 have q6 : (w.alloc (.cells #[.slice rc xY.length cc, .slice rt tY.length ct, .slice rv zY.length cv, .slice rm mY.length cm, .int .i64 cells, .slice ri qY.length ci, .slice rs sY.length cs, .slice ro oY.length co, .slice rn iY.length cn] 28)).cell? ⟨w.heap.size, 6, none⟩ = some (.slice rs sY.length cs) := by simp
 have q7 : (w.alloc (.cells #[.slice rc xY.length cc, .slice rt tY.length ct, .slice rv zY.length cv, .slice rm mY.length cm, .int .i64 cells, .slice ri qY.length ci, .slice rs sY.length cs, .slice ro oY.length co, .slice rn iY.length cn] 28)).cell? ⟨w.heap.size, 7, none⟩ = some (.slice ro oY.length co) := by simp
 have q8 : (w.alloc (.cells #[.slice rc xY.length cc, .slice rt tY.length ct, .slice rv zY.length cv, .slice rm mY.length cm, .int .i64 cells, .slice ri qY.length ci, .slice rs sY.length cs, .slice ro oY.length co, .slice rn iY.length cn] 28)).cell? ⟨w.heap.size, 8, none⟩ = some (.slice rn iY.length cn) := by simp
 have hz : w.heap.size < (w.alloc (.cells #[.slice rc xY.length cc, .slice rt tY.length ct, .slice rv zY.length cv, .slice rm mY.length cm, .int .i64 cells, .slice ri qY.length ci, .slice rs sY.length cs, .slice ro oY.length co, .slice rn iY.length cn] 28)).heap.size := by rw [zA]; omega
 generalize w.alloc (.cells #[.slice rc xY.length cc, .slice rt tY.length ct, .slice rv zY.length cv, .slice rm mY.length cm, .int .i64 cells, .slice ri qY.length ci, .slice rs sY.length cs, .slice ro oY.length co, .slice rn iY.length cn] 28) = W1 at *
 have HO1 := H! ho1
 clear ho1
 have hb1s := hb1.size
 have HLB0 : Hid (∀ k, (num8 xY.length ++ (xY.take k).flatMap Ins.by8).length ≤ 10000000000) := H! (fun k => by have := yhc Ins.by8 xY k; simp only [List.length_append, yau]; omega)
 go_loopg [3, 4] xY.length (fun kx s3 s4 wr => ∃ (k : Nat) (e : Later W1) (r : Option Addr) (c : Nat) (out : List Int), s3 = .slice r out.length c ∧ s4 = .int .i64 k ∧ k ≤ xY.length ∧ xY.length - k ≤ kx ∧ wr = e.w ∧ out.length ≤ 10000000000 ∧ Hid (OwnK .u8 5 e.w W1.heap.size r c out) ∧ Hid (out = num8 xY.length ++ (xY.take k).flatMap Ins.by8))
 case atStart => exact ⟨0, ⟨w1, hb1⟩, r1, c1, num8 xY.length, rfl, rfl, by omega, by omega, rfl, by rw [yau]; omega, HO1, H! (by simp)⟩
 case round =>
  clear HO1
  obtain ⟨k, e, r, c, out, rfl, rfl, hk, hkx, rfl, hol, HO, HQ⟩ := hrel
  have hes := e.h.size
  by_cases hlt : k < xY.length
  ·
   have hk1 : (0 : Int) ≤ (k : Int) := by omega
   have hk2 : (k : Int) < xY.length := by omega
   have HQ2 : Hid (out ++ Ins.by8 (xY.getD k default) = num8 xY.length ++ (xY.take (k + 1)).flatMap Ins.by8) := H! (by rw [HQ.out, ydu Ins.by8 hlt, List.append_assoc])
   have hbd : out.length + (Ins.by8 (xY.getD k default)).length ≤ 10000000000 := by rw [← List.length_append, HQ2.out]; exact HLB0.out _
   obtain ⟨bX, off, rfl, hb, hc⟩ := HS1.out.at_ hlt
   have hc0 : e.w.cell? ⟨bX, off + k * 5, none⟩ = some (.int .i64 (xY.getD k default).op) := (e.h.cell (p := ⟨bX, off + k * 5, none⟩) hb).trans (hc 0 _ rfl)
   have hc1 : e.w.cell? ⟨bX, off + k * 5 + 1, none⟩ = some (.int .i64 (xY.getD k default).a) := (e.h.cell (p := ⟨bX, off + k * 5 + 1, none⟩) hb).trans (hc 1 _ rfl)
   have hc2 : e.w.cell? ⟨bX, off + k * 5 + 2, none⟩ = some (.int .i64 (xY.getD k default).b) := (e.h.cell (p := ⟨bX, off + k * 5 + 2, none⟩) hb).trans (hc 2 _ rfl)
   have hc3 : e.w.cell? ⟨bX, off + k * 5 + 3, none⟩ = some (.int .i64 (xY.getD k default).c) := (e.h.cell (p := ⟨bX, off + k * 5 + 3, none⟩) hb).trans (hc 3 _ rfl)
   have hc4 : e.w.cell? ⟨bX, off + k * 5 + 4, none⟩ = some (.int .i64 (xY.getD k default).k) := (e.h.cell (p := ⟨bX, off + k * 5 + 4, none⟩) hb).trans (hc 4 _ rfl)
   clear hc
   generalize xY.getD k default = x at *
   obtain ⟨xo, xa, xb, xc, xk⟩ := x
   simp only at hc0 hc1 hc2 hc3 hc4
   have hbd2 : out.length + 12 ≤ 10000000000 := hbd
   go_wp2_with (first | (go_at_call 80; refine (renc_any xo xa xb xc xk _).mono ?_; rintro _ w2 ⟨r2, c2, rfl, ho2, hb2⟩; have HO2 := H! (yds ho2 (yjm _ _ _ _ _)); clear ho2; have hb2s := hb2.size) | (at_builtin; refine yag Tryz.underlying43 ybr rfl (by omega) (by rfl) _ _ (by rfl) W1.heap.size r r2 c c2 out (encI xo xa xb xc xk) (by rfl) (by rfl) (HO.out.below hb2 (Nat.le_refl _)) HO2.out (by rw [yea]; omega) (by omega) ?_; intro r' c' w3 hown3 hbw3))
   have HO3 := H! hown3
   clear hown3
   go_roundg (xY.length - (k + 1))
   case measure => omega
   case rel => exact ⟨k + 1, ⟨w3, (e.h.trans (hb2.mono hes)).trans hbw3⟩, r', c', out ++ encI xo xa xb xc xk, by first | rfl | (simp [yea]; done), by go_num, by omega, by omega, rfl, by rw [List.length_append, yea]; omega, HO3, HQ2⟩
  ·
   obtain rfl : k = xY.length := by omega
   have HQ1 : Hid (out = num8 xY.length ++ xY.flatMap Ins.by8) := H! (by rw [HQ.out, List.take_length])
   clear HQ hkx hlt hk HLB0
   go_wp2_with (first | (go_at_call 79; refine (ydf _ hn2 _).mono ?_; rintro _ w2 ⟨r2, c2, rfl, ho2, hb2⟩; have HO2 := H! (ynb ho2); clear ho2; have hb2s := hb2.size) | (at_builtin; refine yag Tryz.underlying43 ybr rfl (by omega) (by rfl) _ _ (by rfl) W1.heap.size r r2 c c2 out (num8 tY.length) (by rfl) (by rfl) (HO.out.below hb2 (Nat.le_refl _)) HO2.out (by rw [yau]; omega) (by omega) ?_; intro r3 c3 w3 hown3 hbw3))
   have HO3 := H! hown3
   have hbe3 := (e.h.trans (hb2.mono hes)).trans hbw3
   have hb3s := hbe3.size
   clear hown3
   have HLB1 : Hid (∀ k, (num8 xY.length ++ xY.flatMap Ins.by8 ++ num8 tY.length ++ (tY.take k).flatMap Fx.by8).length ≤ 10000000000) := H! (fun k => by have := yhc Fx.by8 tY k; simp only [List.length_append, yau]; omega)
   go_loopg [3, 5] tY.length (fun kx s3 s5 wr => ∃ (k : Nat) (e : Later W1) (r : Option Addr) (c : Nat) (out : List Int), s3 = .slice r out.length c ∧ s5 = .int .i64 k ∧ k ≤ tY.length ∧ tY.length - k ≤ kx ∧ wr = e.w ∧ out.length ≤ 10000000000 ∧ Hid (OwnK .u8 5 e.w W1.heap.size r c out) ∧ Hid (out = num8 xY.length ++ xY.flatMap Ins.by8 ++ num8 tY.length ++ (tY.take k).flatMap Fx.by8))
   case atStart => exact ⟨0, ⟨w3, hbe3⟩, r3, c3, out ++ num8 tY.length, by first | rfl | (simp [yau]; done), by first | rfl | go_num, by omega, by omega, rfl, by have h := HLB1.out 0; rw [List.take_zero, List.flatMap_nil, List.append_nil, ← HQ1.out] at h; exact h, HO3, H! (by rw [HQ1.out]; simp)⟩
   case round =>
    clear HO3
    obtain ⟨k, e, r, c, out, rfl, rfl, hk, hkx, rfl, hol, HO, HQ⟩ := hrel
    have hes := e.h.size
    by_cases hlt : k < tY.length
    ·
     have hk1 : (0 : Int) ≤ (k : Int) := by omega
     have hk2 : (k : Int) < tY.length := by omega
     have HQ2 : Hid (out ++ Fx.by8 (tY.getD k default) = num8 xY.length ++ xY.flatMap Ins.by8 ++ num8 tY.length ++ (tY.take (k + 1)).flatMap Fx.by8) := H! (by rw [HQ.out, ydu Fx.by8 hlt, List.append_assoc])
     have hbd : out.length + (Fx.by8 (tY.getD k default)).length ≤ 10000000000 := by rw [← List.length_append, HQ2.out]; exact HLB1.out _
     obtain ⟨bX, off, rfl, hb, hc⟩ := HS2.out.at_ hlt
     have hc0 : e.w.cell? ⟨bX, off + k * 10, none⟩ = some (.int .i64 (tY.getD k default).bits) := (e.h.cell (p := ⟨bX, off + k * 10, none⟩) hb).trans (hc 0 _ rfl)
     have hc1 : e.w.cell? ⟨bX, off + k * 10 + 1, none⟩ = some (.bool (tY.getD k default).sg) := (e.h.cell (p := ⟨bX, off + k * 10 + 1, none⟩) hb).trans (hc 1 _ rfl)
     have hc2 : e.w.cell? ⟨bX, off + k * 10 + 2, none⟩ = some (.int .i64 (tY.getD k default).num) := (e.h.cell (p := ⟨bX, off + k * 10 + 2, none⟩) hb).trans (hc 2 _ rfl)
     have hc3 : e.w.cell? ⟨bX, off + k * 10 + 3, none⟩ = some (.int .i64 (tY.getD k default).off) := (e.h.cell (p := ⟨bX, off + k * 10 + 3, none⟩) hb).trans (hc 3 _ rfl)
     have hc4 : e.w.cell? ⟨bX, off + k * 10 + 4, none⟩ = some (.int .i64 (tY.getD k default).den) := (e.h.cell (p := ⟨bX, off + k * 10 + 4, none⟩) hb).trans (hc 4 _ rfl)
     have hc5 : e.w.cell? ⟨bX, off + k * 10 + 5, none⟩ = some (.int .i64 (tY.getD k default).m) := (e.h.cell (p := ⟨bX, off + k * 10 + 5, none⟩) hb).trans (hc 5 _ rfl)
     have hc6 : e.w.cell? ⟨bX, off + k * 10 + 6, none⟩ = some (.int .i64 (tY.getD k default).kg) := (e.h.cell (p := ⟨bX, off + k * 10 + 6, none⟩) hb).trans (hc 6 _ rfl)
     have hc7 : e.w.cell? ⟨bX, off + k * 10 + 7, none⟩ = some (.int .i64 (tY.getD k default).s) := (e.h.cell (p := ⟨bX, off + k * 10 + 7, none⟩) hb).trans (hc 7 _ rfl)
     have hc8 : e.w.cell? ⟨bX, off + k * 10 + 8, none⟩ = some (.int .i64 (tY.getD k default).a) := (e.h.cell (p := ⟨bX, off + k * 10 + 8, none⟩) hb).trans (hc 8 _ rfl)
     have hc9 : e.w.cell? ⟨bX, off + k * 10 + 9, none⟩ = some (.int .i64 (tY.getD k default).k) := (e.h.cell (p := ⟨bX, off + k * 10 + 9, none⟩) hb).trans (hc 9 _ rfl)
     clear hc
     have hok := HG2.out _ (yak hlt)
     generalize tY.getD k default = x at *
     obtain ⟨x0, x1, x2, x3, x4, x5, x6, x7, x8, x9⟩ := x
     simp only at hc0 hc1 hc2 hc3 hc4 hc5 hc6 hc7 hc8 hc9
     obtain ⟨bv, hbv⟩ : ∃ v : Int, (if x1 then 1 else 0) = v := ⟨_, rfl⟩
     have HBIT := H! (bit_any x1 bv hbv)
     have HOK : Hid (∀ y ∈ [x0, bv, x2, x3, x4, x5, x6, x7, x8, x9], I64 y) := H! (by
      obtain ⟨o0, o2, o3, o4, o5, o6, o7, o8, o9⟩ := hok
      simp only at o0 o2 o3 o4 o5 o6 o7 o8 o9
      have ob : I64 bv := by rw [← hbv]; cases x1 <;> exact (by rfl)
      intro y hy
      simp only [List.mem_cons, List.not_mem_nil, or_false] at hy
      rcases hy with rfl | rfl | rfl | rfl | rfl | rfl | rfl | rfl | rfl | rfl <;> assumption)
     have HFB : Hid (Fx.by8 ⟨x0, x1, x2, x3, x4, x5, x6, x7, x8, x9⟩ = ycm [x0, bv, x2, x3, x4, x5, x6, x7, x8, x9]) := H! (by unfold Fx.by8 Fx.nums; rw [← hbv])
     rw [HFB.out] at HQ2 hbd
     rw [yfc] at hbd
     simp only [List.length_cons, List.length_nil] at hbd
     clear hok hbv
     go_wp2
     have d : ∀ j : Nat, (e.w.alloc (.cells #[.int .i64 x0, .bool x1, .int .i64 x2, .int .i64 x3, .int .i64 x4, .int .i64 x5, .int .i64 x6, .int .i64 x7, .int .i64 x8, .int .i64 x9] 73)).cell? ⟨e.w.heap.size, j, none⟩ = (#[.int .i64 x0, .bool x1, .int .i64 x2, .int .i64 x3, .int .i64 x4, .int .i64 x5, .int .i64 x6, .int .i64 x7, .int .i64 x8, .int .i64 x9] : Array Value)[j]? := fun j => World.cell?_alloc_new _ _ _ _
     have hBx : Below W1.heap.size W1 (e.w.alloc (.cells #[.int .i64 x0, .bool x1, .int .i64 x2, .int .i64 x3, .int .i64 x4, .int .i64 x5, .int .i64 x6, .int .i64 x7, .int .i64 x8, .int .i64 x9] 73)) := e.h.alloc hes _
     have hzx : (e.w.alloc (.cells #[.int .i64 x0, .bool x1, .int .i64 x2, .int .i64 x3, .int .i64 x4, .int .i64 x5, .int .i64 x6, .int .i64 x7, .int .i64 x8, .int .i64 x9] 73)).heap.size = e.w.heap.size + 1 := zA _ _
     have HOx := H! (HO.out.below ((Below.refl e.w.heap.size e.w).alloc (Nat.le_refl _) (.cells #[.int .i64 x0, .bool x1, .int .i64 x2, .int .i64 x3, .int .i64 x4, .int .i64 x5, .int .i64 x6, .int .i64 x7, .int .i64 x8, .int .i64 x9] 73)) (Nat.le_refl _))
     generalize e.w.alloc (.cells #[.int .i64 x0, .bool x1, .int .i64 x2, .int .i64 x3, .int .i64 x4, .int .i64 x5, .int .i64 x6, .int .i64 x7, .int .i64 x8, .int .i64 x9] 73) = Wx at *
     refine ybc 26 (by kernel_rfl) (by kernel_rfl) ?_
     intro W hW hWs
     have hlx : e.w.heap.size < Wx.heap.size := by omega
     have d0 : W.cell? ⟨e.w.heap.size, 0, none⟩ = some (.int .i64 x0) := (hW.cell (p := ⟨e.w.heap.size, 0, none⟩) hlx).trans (d 0)
     have d1 : W.cell? ⟨e.w.heap.size, 1, none⟩ = some (.bool x1) := (hW.cell (p := ⟨e.w.heap.size, 1, none⟩) hlx).trans (d 1)
     have d2 : W.cell? ⟨e.w.heap.size, 2, none⟩ = some (.int .i64 x2) := (hW.cell (p := ⟨e.w.heap.size, 2, none⟩) hlx).trans (d 2)
     have d3 : W.cell? ⟨e.w.heap.size, 3, none⟩ = some (.int .i64 x3) := (hW.cell (p := ⟨e.w.heap.size, 3, none⟩) hlx).trans (d 3)
     have d4 : W.cell? ⟨e.w.heap.size, 4, none⟩ = some (.int .i64 x4) := (hW.cell (p := ⟨e.w.heap.size, 4, none⟩) hlx).trans (d 4)
     have d5 : W.cell? ⟨e.w.heap.size, 5, none⟩ = some (.int .i64 x5) := (hW.cell (p := ⟨e.w.heap.size, 5, none⟩) hlx).trans (d 5)
     have d6 : W.cell? ⟨e.w.heap.size, 6, none⟩ = some (.int .i64 x6) := (hW.cell (p := ⟨e.w.heap.size, 6, none⟩) hlx).trans (d 6)
     have d7 : W.cell? ⟨e.w.heap.size, 7, none⟩ = some (.int .i64 x7) := (hW.cell (p := ⟨e.w.heap.size, 7, none⟩) hlx).trans (d 7)
     have d8 : W.cell? ⟨e.w.heap.size, 8, none⟩ = some (.int .i64 x8) := (hW.cell (p := ⟨e.w.heap.size, 8, none⟩) hlx).trans (d 8)
     have d9 : W.cell? ⟨e.w.heap.size, 9, none⟩ = some (.int .i64 x9) := (hW.cell (p := ⟨e.w.heap.size, 9, none⟩) hlx).trans (d 9)
     clear d
     simp only [List.take_succ_cons, List.take_zero, List.drop_succ_cons, List.drop_zero]
     repeat (first | (refine wpStill_step (fun K hK => ?_); go_simp; refine hK _ ?_; clear hK K) | (refine wpStill_step (fun K hK => ?_); go_simp; refine ⟨_, HBIT.out _, hK _ ?_⟩; clear hK K))
     refine wpStill_nil ?_
     go_wp2
     have HL10 := H! ((ygx .i64 3 W W.heap.size [x0, bv, x2, x3, x4, x5, x6, x7, x8, x9] (Nat.le_refl _) (by simp [maxLen])).ints HOK.out)
     have HOy := H! (HOx.out.below (hW.trans ((Below.refl Wx.heap.size W).alloc hW.size (.cells #[.int .i64 x0, .int .i64 bv, .int .i64 x2, .int .i64 x3, .int .i64 x4, .int .i64 x5, .int .i64 x6, .int .i64 x7, .int .i64 x8, .int .i64 x9] 3))) (Nat.le_refl _))
     have hBy : Below W1.heap.size W1 (W.alloc (.cells #[.int .i64 x0, .int .i64 bv, .int .i64 x2, .int .i64 x3, .int .i64 x4, .int .i64 x5, .int .i64 x6, .int .i64 x7, .int .i64 x8, .int .i64 x9] 3)) := (hBx.trans (hW.mono hBx.size)).alloc (by omega) _
     have hzy : W.heap.size < (W.alloc (.cells #[.int .i64 x0, .int .i64 bv, .int .i64 x2, .int .i64 x3, .int .i64 x4, .int .i64 x5, .int .i64 x6, .int .i64 x7, .int .i64 x8, .int .i64 x9] 3)).heap.size := by rw [zA]; omega
     have HL10b : Hid (IsInts (W.alloc (.cells #[.int .i64 x0, .int .i64 bv, .int .i64 x2, .int .i64 x3, .int .i64 x4, .int .i64 x5, .int .i64 x6, .int .i64 x7, .int .i64 x8, .int .i64 x9] 3)) (some ⟨W.heap.size, 0, none⟩) 10 .i64 [x0, bv, x2, x3, x4, x5, x6, x7, x8, x9]) := HL10
     clear HL10 HOx
     generalize W.alloc (.cells #[.int .i64 x0, .int .i64 bv, .int .i64 x2, .int .i64 x3, .int .i64 x4, .int .i64 x5, .int .i64 x6, .int .i64 x7, .int .i64 x8, .int .i64 x9] 3) = W3 at *
     have hL : [x0, bv, x2, x3, x4, x5, x6, x7, x8, x9].length = 10 := rfl
     generalize [x0, bv, x2, x3, x4, x5, x6, x7, x8, x9] = L at *
     clear d0 d1 d2 d3 d4 d5 d6 d7 d8 d9 hc0 hc1 hc2 hc3 hc4 hc5 hc6 hc7 hc8 hc9 HBIT
     have HLL := H! hL
     clear hL
     have hA3 : W.heap.size = e.w.heap.size + 1 := by omega
     have HNA : Hid (∀ a, r = some a → a.block ≠ W.heap.size) := H! (fun a ha => by have := (HO.out.lt a ha).2; omega)
     go_loopg [3, 8] 10 (fun kx s3 s8 wr => ∃ (j : Nat) (r : Option Addr) (c : Nat) (out2 : List Int), s3 = .slice r out2.length c ∧ s8 = .int .i64 j ∧ j ≤ 10 ∧ 10 - j ≤ kx ∧ Below W1.heap.size W1 wr ∧ W3.heap.size ≤ wr.heap.size ∧ Hid (wr.heap[W.heap.size]? = W3.heap[W.heap.size]?) ∧ Hid (∀ a, r = some a → a.block ≠ W.heap.size) ∧ out2.length ≤ 10000000000 ∧ Hid (OwnK .u8 5 wr W1.heap.size r c out2) ∧ Hid (out2 = out ++ ycm (L.take j)) ∧ Hid (out2.length = out.length + 8 * j))
     case atStart => exact ⟨0, r, c, out, rfl, rfl, by omega, by omega, hBy, Nat.le_refl _, H! rfl, HNA, hol, HOy, H! (by simp [ycm]), H! (by omega)⟩
     case round =>
      clear HOy HNA
      obtain ⟨j, r, c, out2, rfl, rfl, hj, hjx, hBr, hrs, HKA, HNA, hol2, HO2, HQj, HLj⟩ := hrel
      have hBrs := hBr.size
      have hByS := hBy.size
      by_cases hjl : j < 10
      ·
       have hj1 : (0 : Int) ≤ (j : Int) := by omega
       have hj2 : (j : Int) < 10 := by omega
       obtain ⟨bL, ofL, hre, hbL, hcL⟩ := HL10b.out.cells (fun e => by have := HLL.out; rw [e] at this; simp at this)
       simp only [Option.some.injEq, Addr.mk.injEq, and_true] at hre
       obtain ⟨rfl, rfl⟩ := hre
       have hcj : wr.cell? ⟨e.w.heap.size + 1, j, none⟩ = some (.int .i64 (L.getD j 0)) := by
        have := (World.cell?_of_block (a := ⟨W.heap.size, 0 + j, none⟩) HKA.out).trans (hcL j (by rw [HLL.out]; exact hjl))
        rw [Nat.zero_add, hA3] at this
        exact this
       clear hcL
       have hyi : I64 (L.getD j 0) := HOK.out _ (yek (by rw [HLL.out]; exact hjl))
       have HQn := H! (yfs (l := L) (k := j) (by rw [HLL.out]; exact hjl))
       generalize L.getD j 0 = y at *
       have hbd2 : out2.length + 8 ≤ 10000000000 := by have := HLj.out; omega
       go_wp2_with (first | (go_at_call 79; refine (ydf _ hyi _).mono ?_; rintro _ w4 ⟨r4, c4, rfl, ho4, hb4⟩; have HO4 := H! (ynb ho4); clear ho4; have hb4s := hb4.size) | (at_builtin; refine yfn Tryz.underlying43 ybr rfl (by omega) (by rfl) _ _ (by rfl) W1.heap.size r r4 c c4 out2 (num8 y) (by rfl) (by rfl) (HO2.out.below hb4 (Nat.le_refl _)) HO4.out (by rw [yau]; omega) (by omega) ?_; intro r5 c5 w5 hown5 hbw5 hst5 hrr5))
       have HO5 := H! hown5
       have HKA5 : Hid (w5.heap[W.heap.size]? = W3.heap[W.heap.size]?) := H! ((hst5 _ (by omega) HNA.out).trans ((hb4.block _ (by omega)).trans HKA.out))
       have HNA5 : Hid (∀ a, r5 = some a → a.block ≠ W.heap.size) := H! (fun a ha => by
        rcases hrr5 a ha with ⟨a0, h1, h2⟩ | h1
        ·
         rw [← h2]; exact HNA.out a0 h1
        ·
         omega)
       have hbw5s := hbw5.size
       clear hown5 hst5 hrr5
       go_roundg (10 - (j + 1))
       case measure => omega
       case rel => exact ⟨j + 1, r5, c5, out2 ++ num8 y, by first | rfl | (simp [yau]; done), by go_num, by omega, by omega, (hBr.trans (hb4.mono hBrs)).trans hbw5, by omega, HKA5, HNA5, by rw [List.length_append, yau]; omega, HO5, H! (by rw [HQj.out, HQn.out, List.append_assoc]), H! (by rw [List.length_append, yau, HLj.out]; omega)⟩
      ·
       obtain rfl : j = 10 := by omega
       have HQe : Hid (out2 = out ++ ycm L) := H! (by rw [HQj.out, List.take_of_length_le (by rw [HLL.out]; exact Nat.le_refl _)])
       clear HQj
       go_wp2
       go_roundg (tY.length - (k + 1))
       case measure => omega
       case rel => exact ⟨k + 1, ⟨wr, hBr⟩, r, c, out2, rfl, by go_num, by omega, by omega, rfl, hol2, HO2, H! (by rw [HQe.out]; exact HQ2.out)⟩
    ·
     obtain rfl : k = tY.length := by omega
     have HQ1 : Hid (out = num8 xY.length ++ xY.flatMap Ins.by8 ++ num8 tY.length ++ tY.flatMap Fx.by8) := H! (by rw [HQ.out, List.take_length])
     clear HQ hkx hlt hk HLB1
     go_wp2_with (first | (go_at_call 79; refine (ydf _ hn3 _).mono ?_; rintro _ w2 ⟨r2, c2, rfl, ho2, hb2⟩; have HO2 := H! (ynb ho2); clear ho2; have hb2s := hb2.size) | (at_builtin; refine yag Tryz.underlying43 ybr rfl (by omega) (by rfl) _ _ (by rfl) W1.heap.size r r2 c c2 out (num8 zY.length) (by rfl) (by rfl) (HO.out.below hb2 (Nat.le_refl _)) HO2.out (by rw [yau]; omega) (by omega) ?_; intro r3 c3 w3 hown3 hbw3))
     have HO3 := H! hown3
     have hbe3 := (e.h.trans (hb2.mono hes)).trans hbw3
     have hb3s := hbe3.size
     clear hown3
     have HLB2 : Hid (∀ k, (num8 xY.length ++ xY.flatMap Ins.by8 ++ num8 tY.length ++ tY.flatMap Fx.by8 ++ num8 zY.length ++ (zY.take k).flatMap (fun c : Cv => yay c.p)).length ≤ 10000000000) := H! (fun k => by have := yhc (fun c : Cv => yay c.p) zY k; simp only [List.length_append, yau]; omega)
     go_loopg [3, 9] zY.length (fun kx s3 s9 wr => ∃ (k : Nat) (e : Later W1) (r : Option Addr) (c : Nat) (out : List Int), s3 = .slice r out.length c ∧ s9 = .int .i64 k ∧ k ≤ zY.length ∧ zY.length - k ≤ kx ∧ wr = e.w ∧ out.length ≤ 10000000000 ∧ Hid (OwnK .u8 5 e.w W1.heap.size r c out) ∧ Hid (out = num8 xY.length ++ xY.flatMap Ins.by8 ++ num8 tY.length ++ tY.flatMap Fx.by8 ++ num8 zY.length ++ (zY.take k).flatMap (fun c : Cv => yay c.p)))
     case atStart => exact ⟨0, ⟨w3, hbe3⟩, r3, c3, out ++ num8 zY.length, by first | rfl | (simp [yau]; done), by first | rfl | go_num, by omega, by omega, rfl, by have h := HLB2.out 0; rw [List.take_zero, List.flatMap_nil, List.append_nil, ← HQ1.out] at h; exact h, HO3, H! (by rw [HQ1.out]; simp)⟩
     case round =>
      clear HO3
      obtain ⟨k, e, r, c, out, rfl, rfl, hk, hkx, rfl, hol, HO, HQ⟩ := hrel
      have hes := e.h.size
      by_cases hlt : k < zY.length
      ·
       have hk1 : (0 : Int) ≤ (k : Int) := by omega
       have hk2 : (k : Int) < zY.length := by omega
       have HQ2 : Hid (out ++ (fun c : Cv => yay c.p) (zY.getD k default) = num8 xY.length ++ xY.flatMap Ins.by8 ++ num8 tY.length ++ tY.flatMap Fx.by8 ++ num8 zY.length ++ (zY.take (k + 1)).flatMap (fun c : Cv => yay c.p)) := H! (by rw [HQ.out, ydu (fun c : Cv => yay c.p) hlt, List.append_assoc])
       have hbd : out.length + ((fun c : Cv => yay c.p) (zY.getD k default)).length ≤ 10000000000 := by rw [← List.length_append, HQ2.out]; exact HLB2.out _
       obtain ⟨bX, off, rfl, hb, hc⟩ := HS3.out.at_ hlt
       have hc0 : W1.cell? ⟨bX, off + k * 2, none⟩ = some (.slice (zY.getD k default).rx (zY.getD k default).X.length (zY.getD k default).cx) := hc 0 _ rfl
       have hc1 : W1.cell? ⟨bX, off + k * 2 + 1, none⟩ = some (.slice (zY.getD k default).ry (zY.getD k default).Y.length (zY.getD k default).cy) := hc 1 _ rfl
       clear hc
       obtain ⟨hoX, hoY⟩ := HG3.out _ (yak hlt)
       generalize zY.getD k default = x at *
       obtain ⟨xr, xc, X, yr, yc, Y⟩ := x
       simp only at hc0 hc1 hoX hoY
       simp only [yay, Cv.p, List.length_append, yai] at hbd
       have HQ3 : Hid ((out ++ yaq X) ++ yaq Y = num8 xY.length ++ xY.flatMap Ins.by8 ++ num8 tY.length ++ tY.flatMap Fx.by8 ++ num8 zY.length ++ (zY.take (k + 1)).flatMap (fun c : Cv => yay c.p)) := H! (by rw [List.append_assoc]; exact HQ2.out)
       have HXY := H! (And.intro hoX hoY)
       clear hoX hoY
       have es := hes
       have tk0 : True := trivial
       have tk1 : True := trivial
       have tk2 : True := trivial
       have tk3 : True := trivial
       go_wp2_with (first | (have _t := tk0; go_at_call 82; refine (ycc xr xc X _ (HXY.out.1.later e.h) (by omega)).mono ?_; rintro _ waA ⟨raA, caA, rfl, hoaA, hbaA⟩; have HOaA := H! (yds hoaA (yaz _)); clear hoaA tk0 _t; have hbaAs := hbaA.size) | (have _t := tk1; at_builtin; refine yag Tryz.underlying43 ybr rfl (by omega) (by rfl) _ _ (by rfl) W1.heap.size r raA c caA out (yaq X) (by rfl) (by rfl) (HO.out.below hbaA (Nat.le_refl _)) HOaA.out (by rw [yai]; omega) (by omega) ?_; intro rA cA wA hownA hbwA; obtain ⟨oA, hoA⟩ : ∃ l, l = out ++ (yaq X) := ⟨_, rfl⟩; rw [← hoA] at hownA ⊢; have HQA := H! hoA; have hlenA : oA.length = out.length + (yaq X).length := (by rw [hoA, List.length_append]); rw [yai] at hlenA; have holA : oA.length ≤ 10000000000 := (by omega); have HOA := H! hownA; have HLnA := H! hlenA; clear hownA hoA hlenA tk1 _t; obtain ⟨eA, hweA⟩ : ∃ e2 : Later W1, wA = e2.w := ⟨⟨wA, (e.h.trans (hbaA.mono es)).trans hbwA⟩, rfl⟩; subst hweA; have eAs := eA.h.size) | (have _t := tk2; go_at_call 82; refine (ycc yr yc Y _ (HXY.out.2.later eA.h) (by omega)).mono ?_; rintro _ waB ⟨raB, caB, rfl, hoaB, hbaB⟩; have HOaB := H! (yds hoaB (yaz _)); clear hoaB tk2 _t; have hbaBs := hbaB.size) | (have _t := tk3; at_builtin; refine yag Tryz.underlying43 ybr rfl (by omega) (by rfl) _ _ (by rfl) W1.heap.size rA raB cA caB oA (yaq Y) (by rfl) (by rfl) (HOA.out.below hbaB (Nat.le_refl _)) HOaB.out (by rw [yai]; omega) (by omega) ?_; intro rB cB wB hownB hbwB; obtain ⟨oB, hoB⟩ : ∃ l, l = oA ++ (yaq Y) := ⟨_, rfl⟩; rw [← hoB] at hownB ⊢; have HQB := H! hoB; have hlenB : oB.length = oA.length + (yaq Y).length := (by rw [hoB, List.length_append]); rw [yai] at hlenB; have holB : oB.length ≤ 10000000000 := (by have hhA := HLnA.out; omega); have HOB := H! hownB; have HLnB := H! hlenB; clear hownB hoB hlenB tk3 _t; obtain ⟨eB, hweB⟩ : ∃ e2 : Later W1, wB = e2.w := ⟨⟨wB, (eA.h.trans (hbaB.mono eAs)).trans hbwB⟩, rfl⟩; subst hweB; have eBs := eB.h.size))
       go_roundg (zY.length - (k + 1))
       case measure => omega
       case rel => exact ⟨k + 1, eB, rB, cB, oB, rfl, by go_num, by omega, by omega, rfl, holB, HOB, H! (by rw [HQB.out, HQA.out]; exact HQ3.out)⟩
      ·
       obtain rfl : k = zY.length := by omega
       have HQ1 : Hid (out = num8 xY.length ++ xY.flatMap Ins.by8 ++ num8 tY.length ++ tY.flatMap Fx.by8 ++ num8 zY.length ++ zY.flatMap (fun c => yay c.p)) := H! (by rw [HQ.out, List.take_length])
       clear HQ hkx hlt hk HLB2
       go_wp2_with (first | (go_at_call 79; refine (ydf _ hn4 _).mono ?_; rintro _ w2 ⟨r2, c2, rfl, ho2, hb2⟩; have HO2 := H! (ynb ho2); clear ho2; have hb2s := hb2.size) | (at_builtin; refine yag Tryz.underlying43 ybr rfl (by omega) (by rfl) _ _ (by rfl) W1.heap.size r r2 c c2 out (num8 mY.length) (by rfl) (by rfl) (HO.out.below hb2 (Nat.le_refl _)) HO2.out (by rw [yau]; omega) (by omega) ?_; intro r3 c3 w3 hown3 hbw3))
       have HO3 := H! hown3
       have hbe3 := (e.h.trans (hb2.mono hes)).trans hbw3
       have hb3s := hbe3.size
       clear hown3
       have HLB3 : Hid (∀ k, (num8 xY.length ++ xY.flatMap Ins.by8 ++ num8 tY.length ++ tY.flatMap Fx.by8 ++ num8 zY.length ++ zY.flatMap (fun c => yay c.p) ++ num8 mY.length ++ (mY.take k).flatMap (fun m : Mp => ycf m.p)).length ≤ 10000000000) := H! (fun k => by have := yhc (fun m : Mp => ycf m.p) mY k; simp only [List.length_append, yau]; omega)
       go_loopg [3, 10] mY.length (fun kx s3 s10 wr => ∃ (k : Nat) (e : Later W1) (r : Option Addr) (c : Nat) (out : List Int), s3 = .slice r out.length c ∧ s10 = .int .i64 k ∧ k ≤ mY.length ∧ mY.length - k ≤ kx ∧ wr = e.w ∧ out.length ≤ 10000000000 ∧ Hid (OwnK .u8 5 e.w W1.heap.size r c out) ∧ Hid (out = num8 xY.length ++ xY.flatMap Ins.by8 ++ num8 tY.length ++ tY.flatMap Fx.by8 ++ num8 zY.length ++ zY.flatMap (fun c => yay c.p) ++ num8 mY.length ++ (mY.take k).flatMap (fun m : Mp => ycf m.p)))
       case atStart => exact ⟨0, ⟨w3, hbe3⟩, r3, c3, out ++ num8 mY.length, by first | rfl | (simp [yau]; done), by first | rfl | go_num, by omega, by omega, rfl, by have h := HLB3.out 0; rw [List.take_zero, List.flatMap_nil, List.append_nil, ← HQ1.out] at h; exact h, HO3, H! (by rw [HQ1.out]; simp)⟩
       case round =>
        clear HO3
        obtain ⟨k, e, r, c, out, rfl, rfl, hk, hkx, rfl, hol, HO, HQ⟩ := hrel
        have hes := e.h.size
        by_cases hlt : k < mY.length
        ·
         have hk1 : (0 : Int) ≤ (k : Int) := by omega
         have hk2 : (k : Int) < mY.length := by omega
         have HQ2 : Hid (out ++ (fun m : Mp => ycf m.p) (mY.getD k default) = num8 xY.length ++ xY.flatMap Ins.by8 ++ num8 tY.length ++ tY.flatMap Fx.by8 ++ num8 zY.length ++ zY.flatMap (fun c => yay c.p) ++ num8 mY.length ++ (mY.take (k + 1)).flatMap (fun m : Mp => ycf m.p)) := H! (by rw [HQ.out, ydu (fun m : Mp => ycf m.p) hlt, List.append_assoc])
         have hbd : out.length + ((fun m : Mp => ycf m.p) (mY.getD k default)).length ≤ 10000000000 := by rw [← List.length_append, HQ2.out]; exact HLB3.out _
         obtain ⟨bX, off, rfl, hb, hc⟩ := HS4.out.at_ hlt
         have hc0 : W1.cell? ⟨bX, off + k * 3, none⟩ = some (.slice (mY.getD k default).rx (mY.getD k default).X.length (mY.getD k default).cx) := hc 0 _ rfl
         have hc1 : W1.cell? ⟨bX, off + k * 3 + 1, none⟩ = some (.slice (mY.getD k default).ry (mY.getD k default).Y.length (mY.getD k default).cy) := hc 1 _ rfl
         have hc2 : W1.cell? ⟨bX, off + k * 3 + 2, none⟩ = some (.slice (mY.getD k default).rz (mY.getD k default).Z.length (mY.getD k default).cz) := hc 2 _ rfl
         clear hc
         obtain ⟨hoX, hoY, hoZ⟩ := HG4.out _ (yak hlt)
         generalize mY.getD k default = x at *
         obtain ⟨xr, xc, X, yr, yc, Y, zr, zc, Z⟩ := x
         simp only at hc0 hc1 hc2 hoX hoY hoZ
         simp only [ycf, Mp.p, List.length_append, yai] at hbd
         have HQ3 : Hid (((out ++ yaq X) ++ yaq Y) ++ Z.flatMap yaq = num8 xY.length ++ xY.flatMap Ins.by8 ++ num8 tY.length ++ tY.flatMap Fx.by8 ++ num8 zY.length ++ zY.flatMap (fun c => yay c.p) ++ num8 mY.length ++ (mY.take (k + 1)).flatMap (fun m : Mp => ycf m.p)) := H! (by refine Eq.trans ?_ HQ2.out; show _ = out ++ (yaq X ++ yaq Y ++ Z.flatMap yaq); simp only [List.append_assoc])
         have HXY := H! (And.intro hoX (And.intro hoY hoZ))
         have hzl := Nat.le_trans hoZ.le hoZ.max
         unfold maxLen at hzl
         clear hoX hoY hoZ
         have es := hes
         have tk0 : True := trivial
         have tk1 : True := trivial
         have tk2 : True := trivial
         have tk3 : True := trivial
         go_wp2_with (first | (have _t := tk0; go_at_call 82; refine (ycc xr xc X _ (HXY.out.1.later e.h) (by omega)).mono ?_; rintro _ waA ⟨raA, caA, rfl, hoaA, hbaA⟩; have HOaA := H! (yds hoaA (yaz _)); clear hoaA tk0 _t; have hbaAs := hbaA.size) | (have _t := tk1; at_builtin; refine yag Tryz.underlying43 ybr rfl (by omega) (by rfl) _ _ (by rfl) W1.heap.size r raA c caA out (yaq X) (by rfl) (by rfl) (HO.out.below hbaA (Nat.le_refl _)) HOaA.out (by rw [yai]; omega) (by omega) ?_; intro rA cA wA hownA hbwA; obtain ⟨oA, hoA⟩ : ∃ l, l = out ++ (yaq X) := ⟨_, rfl⟩; rw [← hoA] at hownA ⊢; have HQA := H! hoA; have hlenA : oA.length = out.length + (yaq X).length := (by rw [hoA, List.length_append]); rw [yai] at hlenA; have holA : oA.length ≤ 10000000000 := (by omega); have HOA := H! hownA; have HLnA := H! hlenA; clear hownA hoA hlenA tk1 _t; obtain ⟨eA, hweA⟩ : ∃ e2 : Later W1, wA = e2.w := ⟨⟨wA, (e.h.trans (hbaA.mono es)).trans hbwA⟩, rfl⟩; subst hweA; have eAs := eA.h.size) | (have _t := tk2; go_at_call 82; refine (ycc yr yc Y _ (HXY.out.2.1.later eA.h) (by omega)).mono ?_; rintro _ waB ⟨raB, caB, rfl, hoaB, hbaB⟩; have HOaB := H! (yds hoaB (yaz _)); clear hoaB tk2 _t; have hbaBs := hbaB.size) | (have _t := tk3; at_builtin; refine yag Tryz.underlying43 ybr rfl (by omega) (by rfl) _ _ (by rfl) W1.heap.size rA raB cA caB oA (yaq Y) (by rfl) (by rfl) (HOA.out.below hbaB (Nat.le_refl _)) HOaB.out (by rw [yai]; omega) (by omega) ?_; intro rB cB wB hownB hbwB; obtain ⟨oB, hoB⟩ : ∃ l, l = oA ++ (yaq Y) := ⟨_, rfl⟩; rw [← hoB] at hownB ⊢; have HQB := H! hoB; have hlenB : oB.length = oA.length + (yaq Y).length := (by rw [hoB, List.length_append]); rw [yai] at hlenB; have holB : oB.length ≤ 10000000000 := (by have hhA := HLnA.out; omega); have HOB := H! hownB; have HLnB := H! hlenB; clear hownB hoB hlenB tk3 _t; obtain ⟨eB, hweB⟩ : ∃ e2 : Later W1, wB = e2.w := ⟨⟨wB, (eA.h.trans (hbaB.mono eAs)).trans hbwB⟩, rfl⟩; subst hweB; have eBs := eB.h.size))
         have HLZ : Hid (∀ j, (oB ++ (Z.take j).flatMap yaq).length ≤ 10000000000) := H! (fun j => by
          have h1 := yhc yaq Z j
          have h2 := HLnA.out
          have h3 := HLnB.out
          rw [List.length_append]
          omega)
         go_loopg [3, 11] Z.length (fun kx s3 s11 wr => ∃ (j : Nat) (e2 : Later W1) (r : Option Addr) (c : Nat) (out2 : List Int), s3 = .slice r out2.length c ∧ s11 = .int .i64 j ∧ j ≤ Z.length ∧ Z.length - j ≤ kx ∧ wr = e2.w ∧ out2.length ≤ 10000000000 ∧ Hid (OwnK .u8 5 e2.w W1.heap.size r c out2) ∧ Hid (out2 = oB ++ (Z.take j).flatMap yaq))
         case atStart => exact ⟨0, eB, rB, cB, oB, rfl, rfl, by omega, by omega, rfl, holB, HOB, H! (by simp)⟩
         case round =>
          clear HOB HOA HO
          obtain ⟨j, e2, r, c, out2, rfl, rfl, hj, hjx, rfl, hol2, HO2, HQj⟩ := hrel
          have e2s := e2.h.size
          by_cases hjl : j < Z.length
          ·
           have hj1 : (0 : Int) ≤ (j : Int) := by omega
           have hj2 : (j : Int) < Z.length := by omega
           obtain ⟨bZ, ofZ, rfl, hbZ, hcZ⟩ := HXY.out.2.2.cells (fun e => by subst e; simp at hjl)
           obtain ⟨ri, ci, hcz, hzI⟩ := hcZ j hjl
           clear hcZ
           have HQn : Hid ((Z.take (j + 1)).flatMap yaq = (Z.take j).flatMap yaq ++ yaq (Z.getD j [])) := H! (ydu yaq hjl)
           have hbd2 : out2.length + (8 + 8 * (Z.getD j []).length) ≤ 10000000000 := by
            have := HLZ.out (j + 1)
            rw [HQn.out, ← List.append_assoc, ← HQj.out, List.length_append, yai] at this
            exact this
           have HZI := H! hzI
           clear hzI
           generalize Z.getD j [] = row at *
           have tk0 : True := trivial
           have tk1 : True := trivial
           go_wp2_with (first | (have _t := tk0; go_at_call 82; refine (ycc ri ci row _ (HZI.out.later e2.h) (by omega)).mono ?_; rintro _ waD ⟨raD, caD, rfl, hoaD, hbaD⟩; have HOaD := H! (yds hoaD (yaz _)); clear hoaD tk0 _t; have hbaDs := hbaD.size) | (have _t := tk1; at_builtin; refine yag Tryz.underlying43 ybr rfl (by omega) (by rfl) _ _ (by rfl) W1.heap.size r raD c caD out2 (yaq row) (by rfl) (by rfl) (HO2.out.below hbaD (Nat.le_refl _)) HOaD.out (by rw [yai]; omega) (by omega) ?_; intro rD cD wD hownD hbwD; obtain ⟨oD, hoD⟩ : ∃ l, l = out2 ++ (yaq row) := ⟨_, rfl⟩; rw [← hoD] at hownD ⊢; have HQD := H! hoD; have hlenD : oD.length = out2.length + (yaq row).length := (by rw [hoD, List.length_append]); rw [yai] at hlenD; have holD : oD.length ≤ 10000000000 := (by omega); have HOD := H! hownD; have HLnD := H! hlenD; clear hownD hoD hlenD tk1 _t; obtain ⟨eD, hweD⟩ : ∃ e2 : Later W1, wD = e2.w := ⟨⟨wD, (e2.h.trans (hbaD.mono e2s)).trans hbwD⟩, rfl⟩; subst hweD; have eDs := eD.h.size))
           go_roundg (Z.length - (j + 1))
           case measure => omega
           case rel => exact ⟨j + 1, eD, rD, cD, oD, rfl, by go_num, by omega, by omega, rfl, holD, HOD, H! (by rw [HQD.out, HQj.out, HQn.out, List.append_assoc])⟩
          ·
           obtain rfl : j = Z.length := by omega
           have HQe : Hid (out2 = oB ++ Z.flatMap yaq) := H! (by rw [HQj.out, List.take_length])
           clear HQj HLZ
           go_wp2
           go_roundg (mY.length - (k + 1))
           case measure => omega
           case rel => exact ⟨k + 1, e2, r, c, out2, rfl, by go_num, by omega, by omega, rfl, hol2, HO2, H! (by rw [HQe.out, HQB.out, HQA.out]; exact HQ3.out)⟩
        ·
         obtain rfl : k = mY.length := by omega
         have HQ1 : Hid (out = num8 xY.length ++ xY.flatMap Ins.by8 ++ num8 tY.length ++ tY.flatMap Fx.by8 ++ num8 zY.length ++ zY.flatMap (fun c => yay c.p) ++ num8 mY.length ++ mY.flatMap (fun m => ycf m.p)) := H! (by rw [HQ.out, List.take_length])
         clear HQ hkx hlt hk HLB3
         have HLnO : Hid (out.length = 8 + (xY.flatMap Ins.by8).length + 8 + (tY.flatMap Fx.by8).length + 8 + (zY.flatMap (fun c => yay c.p)).length + 8 + (mY.flatMap (fun m => ycf m.p)).length) := H! (by rw [HQ1.out]; simp only [List.length_append, yau])
         have es := hes
         have tk0 : True := trivial
         have tk1 : True := trivial
         have tk2 : True := trivial
         have tk3 : True := trivial
         have tk4 : True := trivial
         have tk5 : True := trivial
         have tk6 : True := trivial
         have tk7 : True := trivial
         have tk8 : True := trivial
         have tk9 : True := trivial
         go_wp2_with (first | (have _t := tk0; go_at_call 79; refine (ydf cells hcl _).mono ?_; rintro _ waT0 ⟨raT0, caT0, rfl, hoaT0, hbaT0⟩; have HOaT0 := H! (yds hoaT0 (ydb _)); clear hoaT0 tk0 _t; have hbaT0s := hbaT0.size) | (have _t := tk1; at_builtin; refine yag Tryz.underlying43 ybr rfl (by omega) (by rfl) _ _ (by rfl) W1.heap.size r raT0 c caT0 out (num8 cells) (by rfl) (by rfl) (HO.out.below hbaT0 (Nat.le_refl _)) HOaT0.out (by rw [yau]; omega) (by omega) ?_; intro rT0 cT0 wT0 hownT0 hbwT0; obtain ⟨oT0, hoT0⟩ : ∃ l, l = out ++ (num8 cells) := ⟨_, rfl⟩; rw [← hoT0] at hownT0 ⊢; have HQT0 := H! hoT0; have hlenT0 : oT0.length = out.length + (num8 cells).length := (by rw [hoT0, List.length_append]); rw [yau] at hlenT0; have holT0 : oT0.length ≤ 10000000000 := (by have hhO := HLnO.out; omega); have HOT0 := H! hownT0; have HLnT0 := H! hlenT0; clear hownT0 hoT0 hlenT0 tk1 _t; obtain ⟨eT0, hweT0⟩ : ∃ e2 : Later W1, wT0 = e2.w := ⟨⟨wT0, (e.h.trans (hbaT0.mono es)).trans hbwT0⟩, rfl⟩; subst hweT0; have eT0s := eT0.h.size) | (have _t := tk2; go_at_call 82; refine (ycc ri ci qY _ (HI1.out.later eT0.h) (by omega)).mono ?_; rintro _ waT1 ⟨raT1, caT1, rfl, hoaT1, hbaT1⟩; have HOaT1 := H! (yds hoaT1 (yaz _)); clear hoaT1 tk2 _t; have hbaT1s := hbaT1.size) | (have _t := tk3; at_builtin; refine yag Tryz.underlying43 ybr rfl (by omega) (by rfl) _ _ (by rfl) W1.heap.size rT0 raT1 cT0 caT1 oT0 (yaq qY) (by rfl) (by rfl) (HOT0.out.below hbaT1 (Nat.le_refl _)) HOaT1.out (by rw [yai]; omega) (by omega) ?_; intro rT1 cT1 wT1 hownT1 hbwT1; obtain ⟨oT1, hoT1⟩ : ∃ l, l = oT0 ++ (yaq qY) := ⟨_, rfl⟩; rw [← hoT1] at hownT1 ⊢; have HQT1 := H! hoT1; have hlenT1 : oT1.length = oT0.length + (yaq qY).length := (by rw [hoT1, List.length_append]); rw [yai] at hlenT1; have holT1 : oT1.length ≤ 10000000000 := (by have hhO := HLnO.out; have hhT0 := HLnT0.out; omega); have HOT1 := H! hownT1; have HLnT1 := H! hlenT1; clear hownT1 hoT1 hlenT1 tk3 _t; obtain ⟨eT1, hweT1⟩ : ∃ e2 : Later W1, wT1 = e2.w := ⟨⟨wT1, (eT0.h.trans (hbaT1.mono eT0s)).trans hbwT1⟩, rfl⟩; subst hweT1; have eT1s := eT1.h.size) | (have _t := tk4; go_at_call 82; refine (ycc rs cs sY _ (HI2.out.later eT1.h) (by omega)).mono ?_; rintro _ waT2 ⟨raT2, caT2, rfl, hoaT2, hbaT2⟩; have HOaT2 := H! (yds hoaT2 (yaz _)); clear hoaT2 tk4 _t; have hbaT2s := hbaT2.size) | (have _t := tk5; at_builtin; refine yag Tryz.underlying43 ybr rfl (by omega) (by rfl) _ _ (by rfl) W1.heap.size rT1 raT2 cT1 caT2 oT1 (yaq sY) (by rfl) (by rfl) (HOT1.out.below hbaT2 (Nat.le_refl _)) HOaT2.out (by rw [yai]; omega) (by omega) ?_; intro rT2 cT2 wT2 hownT2 hbwT2; obtain ⟨oT2, hoT2⟩ : ∃ l, l = oT1 ++ (yaq sY) := ⟨_, rfl⟩; rw [← hoT2] at hownT2 ⊢; have HQT2 := H! hoT2; have hlenT2 : oT2.length = oT1.length + (yaq sY).length := (by rw [hoT2, List.length_append]); rw [yai] at hlenT2; have holT2 : oT2.length ≤ 10000000000 := (by have hhO := HLnO.out; have hhT0 := HLnT0.out; have hhT1 := HLnT1.out; omega); have HOT2 := H! hownT2; have HLnT2 := H! hlenT2; clear hownT2 hoT2 hlenT2 tk5 _t; obtain ⟨eT2, hweT2⟩ : ∃ e2 : Later W1, wT2 = e2.w := ⟨⟨wT2, (eT1.h.trans (hbaT2.mono eT1s)).trans hbwT2⟩, rfl⟩; subst hweT2; have eT2s := eT2.h.size) | (have _t := tk6; go_at_call 82; refine (ycc ro co oY _ (HI3.out.later eT2.h) (by omega)).mono ?_; rintro _ waT3 ⟨raT3, caT3, rfl, hoaT3, hbaT3⟩; have HOaT3 := H! (yds hoaT3 (yaz _)); clear hoaT3 tk6 _t; have hbaT3s := hbaT3.size) | (have _t := tk7; at_builtin; refine yag Tryz.underlying43 ybr rfl (by omega) (by rfl) _ _ (by rfl) W1.heap.size rT2 raT3 cT2 caT3 oT2 (yaq oY) (by rfl) (by rfl) (HOT2.out.below hbaT3 (Nat.le_refl _)) HOaT3.out (by rw [yai]; omega) (by omega) ?_; intro rT3 cT3 wT3 hownT3 hbwT3; obtain ⟨oT3, hoT3⟩ : ∃ l, l = oT2 ++ (yaq oY) := ⟨_, rfl⟩; rw [← hoT3] at hownT3 ⊢; have HQT3 := H! hoT3; have hlenT3 : oT3.length = oT2.length + (yaq oY).length := (by rw [hoT3, List.length_append]); rw [yai] at hlenT3; have holT3 : oT3.length ≤ 10000000000 := (by have hhO := HLnO.out; have hhT0 := HLnT0.out; have hhT1 := HLnT1.out; have hhT2 := HLnT2.out; omega); have HOT3 := H! hownT3; have HLnT3 := H! hlenT3; clear hownT3 hoT3 hlenT3 tk7 _t; obtain ⟨eT3, hweT3⟩ : ∃ e2 : Later W1, wT3 = e2.w := ⟨⟨wT3, (eT2.h.trans (hbaT3.mono eT2s)).trans hbwT3⟩, rfl⟩; subst hweT3; have eT3s := eT3.h.size) | (have _t := tk8; go_at_call 82; refine (ycc rn cn iY _ (HI4.out.later eT3.h) (by omega)).mono ?_; rintro _ waT4 ⟨raT4, caT4, rfl, hoaT4, hbaT4⟩; have HOaT4 := H! (yds hoaT4 (yaz _)); clear hoaT4 tk8 _t; have hbaT4s := hbaT4.size) | (have _t := tk9; at_builtin; refine yag Tryz.underlying43 ybr rfl (by omega) (by rfl) _ _ (by rfl) W1.heap.size rT3 raT4 cT3 caT4 oT3 (yaq iY) (by rfl) (by rfl) (HOT3.out.below hbaT4 (Nat.le_refl _)) HOaT4.out (by rw [yai]; omega) (by omega) ?_; intro rT4 cT4 wT4 hownT4 hbwT4; obtain ⟨oT4, hoT4⟩ : ∃ l, l = oT3 ++ (yaq iY) := ⟨_, rfl⟩; rw [← hoT4] at hownT4 ⊢; have HQT4 := H! hoT4; have hlenT4 : oT4.length = oT3.length + (yaq iY).length := (by rw [hoT4, List.length_append]); rw [yai] at hlenT4; have holT4 : oT4.length ≤ 10000000000 := (by have hhO := HLnO.out; have hhT0 := HLnT0.out; have hhT1 := HLnT1.out; have hhT2 := HLnT2.out; have hhT3 := HLnT3.out; omega); have HOT4 := H! hownT4; have HLnT4 := H! hlenT4; clear hownT4 hoT4 hlenT4 tk9 _t; obtain ⟨eT4, hweT4⟩ : ∃ e2 : Later W1, wT4 = e2.w := ⟨⟨wT4, (eT3.h.trans (hbaT4.mono eT3s)).trans hbwT4⟩, rfl⟩; subst hweT4; have eT4s := eT4.h.size))
         go_ret
         have he : oT4 = res := by rw [HQT4.out, HQT3.out, HQT2.out, HQT1.out, HQT0.out, HQ1.out, HE.out]
         subst he
         exact ⟨rT4, cT4, rfl, HOT4.out.base (by omega), hB1.trans (eT4.h.mono (by omega))⟩
def SxL (s : Sx) : Prop := ∀ bs, s = some bs → bs.length ≤ 100000
theorem Rdr.len {W0 w : World} {b : Nat} {s : Sx} (h : Rdr W0 w b s) : SxL s := by
 obtain ⟨_, _, _, ra, ca, bs, bad, _, _, _, hl, rfl⟩ := h
 intro bs' e
 cases bad
 ·
  simp only [Bool.false_eq_true, if_false, Option.some.injEq] at e
  subst e; exact hl
 ·
  simp at e
theorem KeepB.mono {B B' Bo : Nat} {W W' : World} (h : KeepB B Bo W W') (hb : B' ≤ B) : KeepB B' Bo W W' := ⟨h.1, fun q hq hn => h.2 q (by omega) hn⟩
def OwnI (W : World) (base : Nat) (r : Option Addr) (cap : Nat) (xs : List Int) : Prop := W.ownsRow base 3 1 (.slice r xs.length cap) xs.length (xs.map (Value.int .i64))
theorem OwnI.nil (W : World) (base : Nat) : OwnI W base none 0 [] := World.ownsRow_nil _ _ _ _
theorem OwnI.lt {W : World} {base : Nat} {r : Option Addr} {cap : Nat} {xs : List Int} (h : OwnI W base r cap xs) : ∀ a, r = some a → base ≤ a.block ∧ a.block < W.heap.size := fun a ha => by
 subst ha
 exact World.ownsRow.lt h a.block rfl
theorem OwnI.below {W W' : World} {base B : Nat} {r : Option Addr} {cap : Nat} {xs : List Int} (h : OwnI W base r cap xs) (hb : Below B W W') (hB : W.heap.size ≤ B) : OwnI W' base r cap xs := by
 refine ⟨h.1, ?_⟩
 rcases h.2 with ⟨h1, h2⟩ | ⟨g, c, cur, h1, h2, h3, h4⟩
 ·
  exact Or.inl ⟨h1, h2⟩
 ·
  refine Or.inr ⟨g, c, cur, h1, h2, ?_, h4⟩
  rw [hb.block g ?_]
  ·
   exact h3
  ·
   rcases Nat.lt_or_ge g W.heap.size with hlt | hge
   ·
    omega
   ·
    rw [Array.getElem?_eq_none hge] at h3; cases h3
theorem OwnI.ints {W : World} {base : Nat} {r : Option Addr} {cap : Nat} {xs : List Int} (h : OwnI W base r cap xs) (hw : ∀ x ∈ xs, (Lit.int .i64 x).wf = true) : IsInts W r cap .i64 xs := by
 obtain ⟨h0, h2⟩ := h
 rcases h2 with ⟨h1, h3⟩ | ⟨g, c, cur, h1, h3, h4, h5, h6, h7, h8⟩
 ·
  obtain rfl : xs = [] := List.length_eq_zero_iff.1 h3
  simp only [Value.slice.injEq] at h1
  obtain ⟨rfl, _, rfl⟩ := h1
  exact ⟨Nat.le_refl _, Nat.zero_le _, by simp, fun h => absurd rfl h⟩
 ·
  simp only [Value.slice.injEq] at h1
  obtain ⟨rfl, _, rfl⟩ := h1
  have hlt : g < W.heap.size := by
   rcases Nat.lt_or_ge g W.heap.size with hlt | hge
   ·
    exact hlt
   ·
    rw [Array.getElem?_eq_none hge] at h4; cases h4
  refine ⟨h5, h6, hw, fun _ => ⟨g, 0, rfl, hlt, fun i hi => ?_⟩⟩
  have := World.ownsRow.cellAt (w := W) (base := base) (e := 3) (size := 1) (g := g) (n := xs.length) (cap := cap) (xs := xs.map (Value.int .i64)) ⟨h0, Or.inr ⟨g, cap, cur, rfl, h3, h4, h5, h6, h7, h8⟩⟩ i (by omega)
  rw [Nat.zero_add, this]
  simp [List.getElem?_map, List.getD, List.getElem?_eq_getElem hi]
def OwnR {α : Type} (t : TypeId) (sz : Nat) (enc : α → List Value) (W : World) (base : Nat) (r : Option Addr) (cap : Nat) (rows : List α) : Prop := W.ownsRow base t sz (.slice r rows.length cap) rows.length (rows.flatMap enc)
section
variable {α : Type} {t : TypeId} {sz : Nat} {enc : α → List Value}
theorem OwnR.nil (W : World) (base : Nat) : OwnR t sz enc W base none 0 ([] : List α) := World.ownsRow_nil _ _ _ _
theorem OwnR.below {W W' : World} {base B : Nat} {r : Option Addr} {cap : Nat} {xs : List α} (h : OwnR t sz enc W base r cap xs) (hb : Below B W W') (hB : W.heap.size ≤ B) : OwnR t sz enc W' base r cap xs := by
 refine ⟨h.1, ?_⟩
 rcases h.2 with ⟨h1, h2⟩ | ⟨g, c, cur, h1, h2, h3, h4⟩
 ·
  exact Or.inl ⟨h1, h2⟩
 ·
  refine Or.inr ⟨g, c, cur, h1, h2, ?_, h4⟩
  rw [hb.block g ?_]
  ·
   exact h3
  ·
   rcases Nat.lt_or_ge g W.heap.size with hlt | hge
   ·
    omega
   ·
    rw [Array.getElem?_eq_none hge] at h3; cases h3
theorem OwnR.base {W : World} {base base' : Nat} {r : Option Addr} {cap : Nat} {xs : List α} (h : OwnR t sz enc W base r cap xs) (hb : base' ≤ base) : OwnR t sz enc W base' r cap xs := by
 refine ⟨h.1, ?_⟩
 rcases h.2 with h1 | ⟨g, c, cur, h1, h2, h3⟩
 ·
  exact Or.inl h1
 ·
  exact Or.inr ⟨g, c, cur, h1, by omega, h3⟩
theorem flat_at {xs : List α} (henc : ∀ x, (enc x).length = sz) : ∀ {i j : Nat} {x : α}, xs[i]? = some x → j < sz → (xs.flatMap enc)[i * sz + j]? = (enc x)[j]? := by
 induction xs with
 | nil => intro i j x h _; simp at h
 | cons a l ih =>
  intro i j x h hj
  rw [List.flatMap_cons]
  cases i with
  | zero =>
   simp at h
   subst h
   rw [Nat.zero_mul, Nat.zero_add, List.getElem?_append_left (by rw [henc]; exact hj)]
  | succ i =>
   have h' : l[i]? = some x := by simpa using h
   rw [List.getElem?_append_right (by rw [henc, Nat.succ_mul]; omega), henc, show (i + 1) * sz + j - sz = i * sz + j by rw [Nat.succ_mul]; omega]
   exact ih h' hj
theorem OwnR.cells {W : World} {base : Nat} {r : Option Addr} {cap : Nat} {xs : List α} (h : OwnR t sz enc W base r cap xs) (henc : ∀ x, (enc x).length = sz) (hne : xs ≠ []) :
  ∃ g, r = some ⟨g, 0, none⟩ ∧ base ≤ g ∧ g < W.heap.size ∧ xs.length ≤ cap ∧ cap ≤ maxLen ∧ ∀ i j x u, xs[i]? = some x → (enc x)[j]? = some u → W.cell? ⟨g, i * sz + j, none⟩ = some u := by
 obtain ⟨h0, h2⟩ := h
 rcases h2 with ⟨_, h3⟩ | ⟨g, c, cur, h1, h3, h4, h5, h6, h7, h8⟩
 ·
  exact absurd (List.length_eq_zero_iff.1 h3) hne
 ·
  simp only [Value.slice.injEq] at h1
  obtain ⟨rfl, _, rfl⟩ := h1
  have hlt : g < W.heap.size := by
   rcases Nat.lt_or_ge g W.heap.size with hlt | hge
   ·
    exact hlt
   ·
    rw [Array.getElem?_eq_none hge] at h4; cases h4
  refine ⟨g, rfl, h3, hlt, h5, h6, fun i j x u hi hj => ?_⟩
  have hil : i < xs.length := (List.getElem?_eq_some_iff.1 hi).1
  have hjl : j < sz := by rw [← henc x]; exact (List.getElem?_eq_some_iff.1 hj).1
  have hf := flat_at henc hi hjl
  rw [hj] at hf
  have hlt2 : i * sz + j < xs.length * sz := by
   have : (i + 1) * sz ≤ xs.length * sz := Nat.mul_le_mul_right sz hil
   rw [Nat.succ_mul] at this
   omega
  have := World.ownsRow.cellAt (w := W) (base := base) (e := t) (size := sz) (g := g) (n := xs.length) (cap := cap) (xs := xs.flatMap enc) ⟨h0, Or.inr ⟨g, cap, cur, rfl, h3, h4, h5, h6, h7, h8⟩⟩ (i * sz + j) hlt2
  rw [this, hf]
end
def AtV (W : World) (b : Nat) (l : List Value) : Prop := ∀ i v, l[i]? = some v → W.cell? ⟨b, i, none⟩ = some v ∧ W.frozen? ⟨b, i, none⟩ = false
theorem AtV.set {W : World} {b : Nat} {l : List Value} (h : AtV W b l) {j : Nat} (hj : j < l.length) (v : Value) : AtV (W.setCell ⟨b, j, none⟩ v) b (l.set j v) := by
 intro i u hi
 rw [World.frozen?_setCell]
 rw [List.getElem?_set] at hi
 by_cases e : j = i
 ·
  subst e
  rw [if_pos rfl, if_pos hj] at hi
  obtain ⟨h1, h2⟩ := h j _ (List.getElem?_eq_getElem hj)
  refine ⟨?_, h2⟩
  rw [World.cell?_setCell_same' _ _ _ (by rw [h1]; rfl)]
  simpa using hi
 ·
  rw [if_neg e] at hi
  obtain ⟨h1, h2⟩ := h i _ hi
  refine ⟨?_, h2⟩
  rw [World.cell?_setCell_other (h := fun h => e (by cases h; rfl))]
  exact h1
theorem AtV.keep {W W' : World} {b : Nat} {l : List Value} (h : AtV W b l) (hb : W'.heap[b]? = W.heap[b]?) : AtV W' b l := fun i v hi =>
 ⟨(World.cell?_of_block (a := ⟨b, i, none⟩) hb).trans (h i v hi).1, (World.frozen?_of_block (a := ⟨b, i, none⟩) hb).trans (h i v hi).2⟩
theorem AtV.new (w : World) (l : List Value) (t : TypeId) : AtV (w.alloc (.cells l.toArray t)) w.heap.size l := fun i v hi => by
 refine ⟨?_, ?_⟩
 ·
  rw [World.cell?_alloc_new]; simpa using hi
 ·
  first | go_keep | (simp [go_sem]; done) | (simp [World.frozen?]; done)
def Off (g : Option Addr) (q : Nat) : Prop := ∀ a, g = some a → a.block ≠ q
structure IntsO (B : Nat) (g : Option Addr) (W : World) (r : Option Addr) (c : Nat) (xs : List Int) : Prop where
 ints : IsInts W r c .i64 xs
 at_ : ∀ a, r = some a → B ≤ a.block ∧ a.block < W.heap.size ∧ Off g a.block
theorem yna {W W' : World} {k : IntKind} {r : Option Addr} {c : Nat} {xs : List Int} (h : IsInts W r c k xs) (hk : ∀ a, r = some a → W'.heap[a.block]? = W.heap[a.block]?) (hz : W.heap.size ≤ W'.heap.size) : IsInts W' r c k xs :=
 ⟨h.le, h.max, h.wf, fun hne => by
  obtain ⟨b, off, h1, h2, h3⟩ := h.cells hne
  exact ⟨b, off, h1, by omega, fun i hi => (World.cell?_of_block (a := ⟨b, off + i, none⟩) (hk ⟨b, off, none⟩ h1)).trans (h3 i hi)⟩⟩
theorem IntsO.step {B : Nat} {g g' : Option Addr} {W W' : World} {r : Option Addr} {c : Nat} {xs : List Int} (h : IntsO B g W r c xs) (hst : ∀ q, B ≤ q → q < W.heap.size → Off g q → W'.heap[q]? = W.heap[q]?) (hz : W.heap.size ≤ W'.heap.size)
  (hg : ∀ a, g' = some a → (∃ a0, g = some a0 ∧ a0.block = a.block) ∨ W.heap.size ≤ a.block) : IntsO B g' W' r c xs :=
 ⟨yna h.ints (fun a ha => hst _ (h.at_ a ha).1 (h.at_ a ha).2.1 (h.at_ a ha).2.2) hz, fun a ha => by
  obtain ⟨h1, h2, h3⟩ := h.at_ a ha
  refine ⟨h1, by omega, fun x hx => ?_⟩
  rcases hg x hx with ⟨a0, h4, h5⟩ | h4
  ·
   rw [← h5]; exact h3 a0 h4
  ·
   omega⟩
theorem IntsO.base {B B' : Nat} {g : Option Addr} {W : World} {r : Option Addr} {c : Nat} {xs : List Int} (h : IntsO B g W r c xs) (hb : B' ≤ B) : IntsO B' g W r c xs :=
 ⟨h.ints, fun a ha => ⟨by have := (h.at_ a ha).1; omega, (h.at_ a ha).2⟩⟩
theorem IntsO.new {B D : Nat} {g : Option Addr} {W : World} {r : Option Addr} {c : Nat} {xs : List Int} (h : OwnK .i64 3 W D r c xs) (hD : B ≤ D) (hg : ∀ a, g = some a → a.block < D) (hw : ∀ x ∈ xs, I64 x) : IntsO B g W r c xs :=
 ⟨h.ints (fun x hx => hw x hx), fun a ha => by
  obtain ⟨h1, h2⟩ := h.lt a ha
  exact ⟨by omega, h2, fun x hx => by have := hg x hx; omega⟩⟩
theorem IntsO.done {B : Nat} {g : Option Addr} {W : World} {r : Option Addr} {c : Nat} {xs : List Int} (h : IntsO B g W r c xs) {g' : Option Addr} (hg : ∀ a, g' = some a → a.block < B) : IntsO B g' W r c xs :=
 ⟨h.ints, fun a ha => ⟨(h.at_ a ha).1, (h.at_ a ha).2.1, fun x hx => by have := hg x hx; have := (h.at_ a ha).1; omega⟩⟩
section
variable {α : Type} {t : TypeId} {sz : Nat} {enc : α → List Value}
theorem OwnR.lt {W : World} {base : Nat} {r : Option Addr} {cap : Nat} {xs : List α} (h : OwnR t sz enc W base r cap xs) : ∀ a, r = some a → base ≤ a.block ∧ a.block < W.heap.size := fun a ha => by
 subst ha
 exact World.ownsRow.lt h a.block rfl
theorem OwnR.keep {W W' : World} {base : Nat} {r : Option Addr} {cap : Nat} {xs : List α} (h : OwnR t sz enc W base r cap xs) (hk : ∀ a, r = some a → W'.heap[a.block]? = W.heap[a.block]?) : OwnR t sz enc W' base r cap xs := by
 refine ⟨h.1, ?_⟩
 rcases h.2 with ⟨h1, h2⟩ | ⟨g, c, cur, h1, h2, h3, h4⟩
 ·
  exact Or.inl ⟨h1, h2⟩
 ·
  refine Or.inr ⟨g, c, cur, h1, h2, ?_, h4⟩
  simp only [Value.slice.injEq] at h1
  rw [hk _ h1.1]
  exact h3
theorem OwnR.isS {W : World} {base : Nat} {r : Option Addr} {cap : Nat} {xs : List α} (h : OwnR t sz enc W base r cap xs) (henc : ∀ x, (enc x).length = sz) : IsS sz enc W r cap xs := by
 by_cases hne : xs = []
 ·
  subst hne
  rcases h.2 with ⟨h1, h3⟩ | ⟨g, c, cur, h1, h3, h4, h5, h6, h7, h8⟩
  ·
   simp only [Value.slice.injEq] at h1
   obtain ⟨_, _, rfl⟩ := h1
   exact ⟨Nat.le_refl _, Nat.zero_le _, fun h => absurd rfl h⟩
  ·
   simp only [Value.slice.injEq] at h1
   obtain ⟨_, _, rfl⟩ := h1
   exact ⟨h5, h6, fun h => absurd rfl h⟩
 ·
  obtain ⟨g, h1, h2, h3, h4, h5, h6⟩ := h.cells henc hne
  exact ⟨h4, h5, fun _ => ⟨g, 0, h1, h3, fun i x hi j u hj => by rw [Nat.zero_add]; exact h6 i j x u hi hj⟩⟩
theorem ybb {ts : TypeId} {z : Value} {by' : Nat} (hts : Tryz.prog.underlying ts = some (.slice t)) (hinf : (Tryz.prog.info? t).map (fun i => (i.zero, i.size, i.bytes)) = some (some z, sz, by')) (hzs : z.cells.size = sz) (h0 : 0 < sz) (hby : by' ≤ 128)
  {ops : Array Oper} {rest : List Oper} {o : Oper} {a : Act} {Q : Exit → Act → World → Prop} {w : World} (hgd : o.guard = none) (s x : Operand)
  (ho : o.op = .call { callee := .builtin .append, args := #[s, x], argTypes := #[ts, ts] }) (w0 : World) (base : Nat) (r : Option Addr) (cap : Nat) (xs : List α) (p : α) (henc : (enc p).length = sz) (hone : ∀ u ∈ enc p, u.oneCell' = true)
  (hw : w = w0.alloc (.cells (enc p).toArray t)) (hs : a.eval s = .slice r xs.length cap) (hx : a.eval x = .slice (some ⟨w0.heap.size, 0, none⟩) 1 1)
  (hown : OwnR t sz enc w0 base r cap xs) (hl : xs.length ≤ 549755813888) (hb : base ≤ w0.heap.size)
  (h : ∀ r' cap' w', OwnR t sz enc w' base r' cap' (xs ++ [p]) → Below base w0 w' → (∀ q, q < w0.heap.size → (∀ a, r = some a → a.block ≠ q) → w'.heap[q]? = w0.heap[q]?) → (∀ a, r' = some a → (∃ a0, r = some a0 ∧ a0.block = a.block) ∨ w0.heap.size ≤ a.block) → wpList Tryz.prog ops Q rest (a.put o.dst (.slice r' (xs.length + 1) cap')) w') : wpList Tryz.prog ops Q (o :: rest) a w := by
 subst hw
 obtain ⟨i0, hi, hz0, hz1, hz2⟩ := info_parts hinf
 have hown2 : (w0.alloc (.cells (enc p).toArray t)).ownsRow base t sz (.slice r xs.length cap) xs.length (xs.flatMap enc) := World.ownsRow.alloc hown _
 refine wpList_append_lies (w0.alloc (.cells (enc p).toArray t)) hgd s x ts ho base t i0 z sz by' hts hi hz0 hz1 hz2 hzs h0 _ xs.length (xs.flatMap enc) hs hown2 ⟨w0.heap.size, 0, none⟩ 1 1 (enc p) hx (by rw [henc, Nat.one_mul]) ?_ hone (by omega) ?_ ?_ (by simp; omega) _ rfl ?_
 ·
  intro j u hj
  have : (⟨w0.heap.size, 0, none⟩ : Addr).add j = ⟨w0.heap.size, j, none⟩ := by
   by_cases hj0 : j = 0
   ·
    subst hj0; simp [Addr.add]
   ·
    simp [Addr.add, hj0]
  rw [this, World.cell?_alloc_new]
  simpa using hj
 ·
  unfold maxLen; omega
 ·
  have : (xs.length + 1) * by' ≤ (549755813888 + 1) * 128 := Nat.mul_le_mul (by omega) hby
  omega
 ·
  intro g cap' w1 hown' hgrow hg _
  refine h _ _ _ ?_ ?_ ?_ ?_
  ·
   unfold OwnR
   simpa using hown'
  ·
   exact ((Below.refl base w0).alloc hb _).grown hgrow (by simp only [zA]; omega) (fun k hk => (World.ownsRow.lt hown2 k hk).1)
  ·
   intro q hq hr
   rw [hgrow.block q (by rw [zA]; omega) ?_, Below.heap_alloc _ _ _ hq]
   cases r with
   | none => simp [Value.ownBlock]
   | some a0 =>
    simp only [Value.ownBlock, ne_eq, Option.some.injEq]
    exact fun e => hr a0 rfl e.symm
  ·
   intro a ha
   obtain rfl : ⟨g, 0, none⟩ = a := by simpa using ha
   rcases hg with hg | hg
   ·
    cases r with
    | none => simp [Value.ownBlock] at hg
    | some a0 =>
     simp only [Value.ownBlock, Option.some.injEq] at hg
     exact .inl ⟨a0, rfl, hg⟩
   ·
    right
    rw [hg, zA]
    exact Nat.le_succ _
end
structure Rw where
 r : Option Addr
 c : Nat
 l : List Int
instance : Inhabited Rw := ⟨⟨none, 0, []⟩⟩
def Rw.enc (x : Rw) : List Value := [.slice x.r x.l.length x.c]
theorem yfh : (Tryz.prog.info? 42).map (fun i => (i.zero, i.size, i.bytes)) = some (some (.agg #[.int .i64 0, .int .i64 0, .int .i64 0, .int .i64 0, .int .i64 0]), 5, 40) := by kernel_rfl
theorem yne : (Tryz.prog.info? 73).map (fun i => (i.zero, i.size, i.bytes)) = some (some (.agg #[.int .i64 0, .bool false, .int .i64 0, .int .i64 0, .int .i64 0, .int .i64 0, .int .i64 0, .int .i64 0, .int .i64 0, .int .i64 0]), 10, 80) := by kernel_rfl
theorem yji : (Tryz.prog.info? 55).map (fun i => (i.zero, i.size, i.bytes)) = some (some (.agg #[.slice none 0 0, .slice none 0 0]), 2, 48) := by kernel_rfl
theorem ynd : (Tryz.prog.info? 60).map (fun i => (i.zero, i.size, i.bytes)) = some (some (.agg #[.slice none 0 0, .slice none 0 0, .slice none 0 0]), 3, 72) := by kernel_rfl
theorem ync : (Tryz.prog.info? 26).map (fun i => (i.zero, i.size, i.bytes)) = some (some (.slice none 0 0), 1, 24) := by kernel_rfl
structure Keep2 (D b P : Nat) (W W' : World) : Prop where
 zero : Below 0 W W'
 block : ∀ q, q < D → q ≠ b → q ≠ P → W'.heap[q]? = W.heap[q]?
theorem Keep2.refl (D b P : Nat) (W : World) : Keep2 D b P W W := ⟨Below.refl _ _, fun _ _ _ _ => rfl⟩
theorem Keep2.trans {D b P : Nat} {W W' W'' : World} (h : Keep2 D b P W W') (k : Keep2 D b P W' W'') : Keep2 D b P W W'' := ⟨h.zero.trans k.zero, fun q h1 h2 h3 => (k.block q h1 h2 h3).trans (h.block q h1 h2 h3)⟩
theorem Keep2.mono {D D' b P : Nat} {W W' : World} (h : Keep2 D b P W W') (hd : D' ≤ D) : Keep2 D' b P W W' := ⟨h.zero, fun q h1 h2 h3 => h.block q (by omega) h2 h3⟩
theorem Keep2.setP {D b P : Nat} (W : World) (j : Nat) (v : Value) : Keep2 D b P W (W.setCell ⟨P, j, none⟩ v) := ⟨(Below.refl 0 W).setCell (p := ⟨P, j, none⟩) (Nat.zero_le _) v, fun q _ _ h => Below.heap_setCell _ _ _ _ h⟩
theorem Keep2.setb {D b P : Nat} (W : World) (j : Nat) (v : Value) : Keep2 D b P W (W.setCell ⟨b, j, none⟩ v) := ⟨(Below.refl 0 W).setCell (p := ⟨b, j, none⟩) (Nat.zero_le _) v, fun q _ h _ => Below.heap_setCell _ _ _ _ h⟩
structure KeepA (P : Nat) (W W' : World) : Prop where
 size : W.heap.size ≤ W'.heap.size
 block : ∀ q, P < q → q < W.heap.size → W'.heap[q]? = W.heap[q]?
theorem KeepA.trans {P : Nat} {W W' W'' : World} (h : KeepA P W W') (k : KeepA P W' W'') : KeepA P W W'' := ⟨Nat.le_trans h.size k.size, fun q h1 h2 => (k.block q h1 (Nat.lt_of_lt_of_le h2 h.size)).trans (h.block q h1 h2)⟩
theorem KeepA.set {P : Nat} (W : World) {q : Nat} (hq : q ≤ P) (j : Nat) (v : Value) : KeepA P W (W.setCell ⟨q, j, none⟩ v) := ⟨by rw [zS]; exact Nat.le_refl _, fun k h1 _ => Below.heap_setCell _ _ _ _ (by show k ≠ q; omega)⟩
theorem Rdr.keep {W0 w w' : World} {b : Nat} {s : Sx} (h : Rdr W0 w b s) (hk : w'.heap[b]? = w.heap[b]?) (hz : w.heap.size ≤ w'.heap.size) : Rdr W0 w' b s := by
 obtain ⟨h1, h2, h3, ra, ca, bs, bad, h4, h5, h6⟩ := h
 exact ⟨by omega, (World.frozen?_of_block (a := ⟨b, 0, none⟩) hk).trans h2, (World.frozen?_of_block (a := ⟨b, 1, none⟩) hk).trans h3, ra, ca, bs, bad, (World.cell?_of_block (a := ⟨b, 0, none⟩) hk).trans h4, (World.cell?_of_block (a := ⟨b, 1, none⟩) hk).trans h5, h6⟩
theorem IsS.keep {α : Type} {sz : Nat} {enc : α → List Value} {W W' : World} {r : Option Addr} {cap : Nat} {xs : List α} (h : IsS sz enc W r cap xs) (hk : ∀ a, r = some a → W'.heap[a.block]? = W.heap[a.block]?) (hz : W.heap.size ≤ W'.heap.size) : IsS sz enc W' r cap xs :=
 ⟨h.le, h.max, fun hne => by
  obtain ⟨b, off, h1, h2, h3⟩ := h.cells hne
  exact ⟨b, off, h1, by omega, fun i x hi j u hj => (World.cell?_of_block (a := ⟨b, off + i * sz + j, none⟩) (hk ⟨b, off, none⟩ h1)).trans (h3 i x hi j u hj)⟩⟩
theorem SxB.drop {s : Sx} (h : SxB s) (n : Nat) : SxB (yjx n s).2 := by
 cases s with
 | none => intro bs e; simp [yjx] at e
 | some bs =>
  have := h bs rfl
  intro bs' e
  simp only [yjx] at e
  split at e
  ·
   simp only [Option.some.injEq] at e
   subst e
   exact fun x hx => this x (List.mem_of_mem_drop hx)
  ·
   cases e
theorem Rdr.bytes {W0 w : World} {b : Nat} {s : Sx} (h : Rdr W0 w b s) : SxB s := by
 obtain ⟨_, _, _, ra, ca, bs, bad, _, _, hx, _, rfl⟩ := h
 intro bs' e
 cases bad
 ·
  simp only [Bool.false_eq_true, if_false, Option.some.injEq] at e
  subst e
  exact fun x hx' => wf_u8 (hx.wf x hx')
 ·
  simp at e
theorem i64_0 : I64 0 := by rfl
theorem OwnR.setb {α : Type} {t : TypeId} {sz : Nat} {enc : α → List Value} {W : World} {base : Nat} {r : Option Addr} {cap : Nat} {xs : List α} (h : OwnR t sz enc W base r cap xs) {q j : Nat} (hq : q < base) (v : Value) : OwnR t sz enc (W.setCell ⟨q, j, none⟩ v) base r cap xs :=
 h.keep (fun a ha => Below.heap_setCell _ _ _ _ (fun e => by have := (h.lt a ha).1; simp only at e; omega))
theorem SxB.int {s : Sx} (h : SxB s) : SxB (pInt s).2 := by rw [ymu]; exact h.drop 8
theorem SxB.none : SxB none := fun bs e => by cases e
theorem SxB.rep {α : Type} {f : Sx → α × Sx} (hf : ∀ s, SxB s → SxB (f s).2) {s : Sx} (h : SxB s) (n : Nat) : SxB (pRep f n s).2 := by
 induction n with
 | zero => exact h
 | succ n ih => exact hf _ ih
theorem AtL.keep {W W' : World} {b : Nat} {l : List Int} (h : AtL W b l) (hb : W'.heap[b]? = W.heap[b]?) : AtL W' b l := fun i v hi =>
 ⟨(World.cell?_of_block (a := ⟨b, i, none⟩) hb).trans (h i v hi).1, (World.frozen?_of_block (a := ⟨b, i, none⟩) hb).trans (h i v hi).2⟩
theorem SxB.list {s : Sx} (h : SxB s) : SxB (pList s).2 := by
 unfold pList
 refine SxB.rep (fun s h => h.int) ?_ _
 rw [ymv]
 have h2 := h.int
 generalize (pInt s).2 = t at *
 cases t with
 | none => exact SxB.none
 | some bs =>
  simp only
  split
  ·
   exact h2
  ·
   exact SxB.none
theorem IntsO.setP {B : Nat} {g : Option Addr} {W : World} {r : Option Addr} {c : Nat} {xs : List Int} (h : IntsO B g W r c xs) {P j : Nat} (hP : P < B) (v : Value) : IntsO B g (W.setCell ⟨P, j, none⟩ v) r c xs :=
 h.step (fun q h1 h2 _ => Below.heap_setCell _ _ _ _ (by show q ≠ P; omega)) (by rw [zS]; exact Nat.le_refl _) (fun a ha => .inl ⟨a, ha, rfl⟩)
theorem IntsO.grow {B : Nat} {g g' : Option Addr} {v2 w6 : World} {r : Option Addr} {c : Nat} {xs : List Int} (h : IntsO B g v2 r c xs) (hst : ∀ q, q < v2.heap.size → (∀ a, g = some a → a.block ≠ q) → w6.heap[q]? = v2.heap[q]?) (hz : v2.heap.size ≤ w6.heap.size)
  (hg : ∀ a, g' = some a → (∃ a0, g = some a0 ∧ a0.block = a.block) ∨ v2.heap.size ≤ a.block) {P j : Nat} (hP : P < B) (v : Value) : IntsO B g' (w6.setCell ⟨P, j, none⟩ v) r c xs := (h.step (fun q _ h2 h3 => hst q h2 h3) hz hg).setP hP v
theorem IntsO.drew {B : Nat} {g : Option Addr} {W : World} {r : Option Addr} {c : Nat} {xs : List Int} (h : IntsO B g W r c xs) : IntsO B g W.drew r c xs := h.step (fun _ _ _ _ => rfl) (Nat.le_refl _) (fun a ha => .inl ⟨a, ha, rfl⟩)
theorem Keep2.drew {D b P : Nat} {W W' : World} (h : Keep2 D b P W W') : Keep2 D b P W W'.drew := h.trans ⟨(Below.refl 0 W').drew, fun _ _ _ _ => rfl⟩
structure Mq where
 rx : Option Addr
 cx : Nat
 X : List Int
 ry : Option Addr
 cy : Nat
 Y : List Int
 rz : Option Addr
 cz : Nat
 Z : List Rw
instance : Inhabited Mq := ⟨⟨none, 0, [], none, 0, [], none, 0, []⟩⟩
def Mq.enc (m : Mq) : List Value := [.slice m.rx m.X.length m.cx, .slice m.ry m.Y.length m.cy, .slice m.rz m.Z.length m.cz]
structure MqO (B : Nat) (g : Option Addr) (W : World) (m : Mq) : Prop where
 x : IntsO B g W m.rx m.cx m.X
 y : IntsO B g W m.ry m.cy m.Y
 z : IsS 1 Rw.enc W m.rz m.cz m.Z
 at_ : ∀ a, m.rz = some a → B ≤ a.block ∧ a.block < W.heap.size ∧ Off g a.block
 rows : ∀ r ∈ m.Z, IntsO B g W r.r r.c r.l
theorem MqO.step {B : Nat} {g g' : Option Addr} {W W' : World} {m : Mq} (h : MqO B g W m) (hst : ∀ q, B ≤ q → q < W.heap.size → Off g q → W'.heap[q]? = W.heap[q]?) (hz : W.heap.size ≤ W'.heap.size)
  (hg : ∀ a, g' = some a → (∃ a0, g = some a0 ∧ a0.block = a.block) ∨ W.heap.size ≤ a.block) : MqO B g' W' m :=
 ⟨h.x.step hst hz hg, h.y.step hst hz hg, h.z.keep (fun a ha => hst _ (h.at_ a ha).1 (h.at_ a ha).2.1 (h.at_ a ha).2.2) hz, fun a ha => by
  obtain ⟨h1, h2, h3⟩ := h.at_ a ha
  refine ⟨h1, by omega, fun x hx => ?_⟩
  rcases hg x hx with ⟨a0, h4, h5⟩ | h4
  ·
   rw [← h5]; exact h3 a0 h4
  ·
   omega, fun r hr => (h.rows r hr).step hst hz hg⟩
theorem MqO.grow {B : Nat} {g g' : Option Addr} {v2 w6 : World} {m : Mq} (h : MqO B g v2 m) (hst : ∀ q, q < v2.heap.size → (∀ a, g = some a → a.block ≠ q) → w6.heap[q]? = v2.heap[q]?) (hz : v2.heap.size ≤ w6.heap.size)
  (hg : ∀ a, g' = some a → (∃ a0, g = some a0 ∧ a0.block = a.block) ∨ v2.heap.size ≤ a.block) {P j : Nat} (hP : P < B) (v : Value) : MqO B g' (w6.setCell ⟨P, j, none⟩ v) m :=
 (h.step (fun q _ h2 h3 => hst q h2 h3) hz hg).step (fun q h1 h2 _ => Below.heap_setCell _ _ _ _ (by show q ≠ P; omega)) (by rw [zS]; exact Nat.le_refl _) (fun a ha => .inl ⟨a, ha, rfl⟩)
def idxG {α : Type} (p : α → Bool) (xs : List α) : Int := if xs.any p = true then (xs.findIdx p : Nat) else -1
theorem ygk {α : Type} [Inhabited α] {p : α → Bool} {xs : List α} {k : Nat} (hk : k < xs.length) (h0 : ∀ t, t < k → p (xs.getD t default) = false) (h1 : p (xs.getD k default) = true) : idxG p xs = k := by
 have ha : xs.any p = true := List.any_eq_true.2 ⟨_, yak hk, h1⟩
 unfold idxG
 rw [if_pos ha]
 congr 1
 rw [List.findIdx_eq hk]
 refine ⟨by simpa [List.getD, List.getElem?_eq_getElem hk] using h1, fun j hj => ?_⟩
 have := h0 j hj
 simpa [List.getD, List.getElem?_eq_getElem (show j < xs.length by omega)] using this
theorem yfi {α : Type} [Inhabited α] {p : α → Bool} {xs : List α} (h0 : ∀ t, t < xs.length → p (xs.getD t default) = false) : idxG p xs = -1 := by
 have ha : ¬ xs.any p = true := fun h => by
  obtain ⟨x, hx, hp⟩ := List.any_eq_true.1 h
  obtain ⟨i, hi, rfl⟩ := List.getElem_of_mem hx
  have := h0 i hi
  simp [List.getD, List.getElem?_eq_getElem hi] at this
  rw [this] at hp
  cases hp
 unfold idxG
 rw [if_neg ha]
theorem ygl {α : Type} (p : α → Bool) (xs : List α) : decide (0 ≤ idxG p xs) = xs.any p := by
 unfold idxG
 split
 ·
  rename_i h; rw [h]; simp
 ·
  rename_i h; simp at h ⊢; simpa using h
theorem yng (g : Nat) (cb : Array Value) (r : Option Addr) (cap : Nat) (xs : List Fx) (p : Fx → Bool) (w : World) (eg : ∀ args w, (callFunc g args).run Tryz.prog w = .ok (.enter g args) w) (hxs : IsS 10 Fx.enc w r cap xs)
  (hf : ∀ (e : Later w) (x : Fx), x ∈ xs → Calls Tryz.prog g (#[.agg #[.int .i64 x.bits, .bool x.sg, .int .i64 x.num, .int .i64 x.off, .int .i64 x.den, .int .i64 x.m, .int .i64 x.kg, .int .i64 x.s, .int .i64 x.a, .int .i64 x.k]] ++ cb) e.w fun a w' => a = .returned (.bool (p x)) ∧ Below e.w.heap.size e.w w') :
  Calls Tryz.prog 98 #[.slice r xs.length cap, .func (.func g) #[] cb] w fun e w' => e = .returned (.int .i64 (idxG p xs)) ∧ Below w.heap.size w w' := by
 have HF := H! hf
 have hmax := hxs.max
 have hle := hxs.le
 unfold maxLen at hmax
 clear hf
 have HS := H! hxs
 clear hxs
 generalize hn : xs.length = n at *
 have HN := H! hn
 clear hn
 go_enter Tryz.func98, Tryz.ntmps98
 go_wp2
 go_loopg [8] n (fun kx s8 wr => ∃ (k : Nat) (e : Later w), s8 = .int .i64 k ∧ k ≤ n ∧ n - k ≤ kx ∧ wr = e.w ∧ Hid (∀ t, t < k → p (xs.getD t default) = false))
 case atStart => exact ⟨0, ⟨w, Below.refl _ _⟩, rfl, Nat.zero_le _, by omega, rfl, H! (fun t h => absurd h (Nat.not_lt_zero _))⟩
 case round =>
  obtain ⟨k, e, rfl, hk, hkx, rfl, HP⟩ := hrel
  by_cases hlt : k < n
  ·
   have hkl : k < xs.length := by have := HN.out; omega
   obtain ⟨b, off, rfl, hb, hc⟩ := HS.out.at_ hkl
   have hk1 : (0 : Int) ≤ (k : Int) := by omega
   have hk2 : (k : Int) < n := by omega
   have hc0 : e.w.cell? ⟨b, off + k * 10, none⟩ = some (.int .i64 (xs.getD k default).bits) := (e.h.cell (p := ⟨b, off + k * 10, none⟩) hb).trans (hc 0 _ rfl)
   have hc1 : e.w.cell? ⟨b, off + k * 10 + 1, none⟩ = some (.bool (xs.getD k default).sg) := (e.h.cell (p := ⟨b, off + k * 10 + 1, none⟩) hb).trans (hc 1 _ rfl)
   have hc2 : e.w.cell? ⟨b, off + k * 10 + 2, none⟩ = some (.int .i64 (xs.getD k default).num) := (e.h.cell (p := ⟨b, off + k * 10 + 2, none⟩) hb).trans (hc 2 _ rfl)
   have hc3 : e.w.cell? ⟨b, off + k * 10 + 3, none⟩ = some (.int .i64 (xs.getD k default).off) := (e.h.cell (p := ⟨b, off + k * 10 + 3, none⟩) hb).trans (hc 3 _ rfl)
   have hc4 : e.w.cell? ⟨b, off + k * 10 + 4, none⟩ = some (.int .i64 (xs.getD k default).den) := (e.h.cell (p := ⟨b, off + k * 10 + 4, none⟩) hb).trans (hc 4 _ rfl)
   have hc5 : e.w.cell? ⟨b, off + k * 10 + 5, none⟩ = some (.int .i64 (xs.getD k default).m) := (e.h.cell (p := ⟨b, off + k * 10 + 5, none⟩) hb).trans (hc 5 _ rfl)
   have hc6 : e.w.cell? ⟨b, off + k * 10 + 6, none⟩ = some (.int .i64 (xs.getD k default).kg) := (e.h.cell (p := ⟨b, off + k * 10 + 6, none⟩) hb).trans (hc 6 _ rfl)
   have hc7 : e.w.cell? ⟨b, off + k * 10 + 7, none⟩ = some (.int .i64 (xs.getD k default).s) := (e.h.cell (p := ⟨b, off + k * 10 + 7, none⟩) hb).trans (hc 7 _ rfl)
   have hc8 : e.w.cell? ⟨b, off + k * 10 + 8, none⟩ = some (.int .i64 (xs.getD k default).a) := (e.h.cell (p := ⟨b, off + k * 10 + 8, none⟩) hb).trans (hc 8 _ rfl)
   have hc9 : e.w.cell? ⟨b, off + k * 10 + 9, none⟩ = some (.int .i64 (xs.getD k default).k) := (e.h.cell (p := ⟨b, off + k * 10 + 9, none⟩) hb).trans (hc 9 _ rfl)
   clear hc
   have hcall := HF.out e _ (yak hkl)
   have HK := H! hkl
   clear hkl
   generalize hx : xs.getD k default = x at *
   have HE := H! hx
   clear hx
   obtain ⟨x0, x1, x2, x3, x4, x5, x6, x7, x8, x9⟩ := x
   simp only at hc0 hc1 hc2 hc3 hc4 hc5 hc6 hc7 hc8 hc9 hcall
   cases hp : p ⟨x0, x1, x2, x3, x4, x5, x6, x7, x8, x9⟩ <;> rw [hp] at hcall <;> have HQ := H! hp <;> clear hp
   ·
    go_wp2_with (go_at_fn g; refine hcall.mono ?_; rintro a w' ⟨rfl, hb2⟩)
    go_roundg (n - (k + 1))
    case measure => omega
    case rel =>
     obtain ⟨e', rfl⟩ := e.next hb2
     refine ⟨k + 1, e', by go_num, by omega, Nat.le_refl _, rfl, H! (fun t ht => ?_)⟩
     by_cases h : t < k
     ·
      exact HP.out t h
     ·
      obtain rfl : t = k := by omega
      rw [HE.out]
      exact HQ.out
   ·
    go_wp2_with (go_at_fn g; refine hcall.mono ?_; rintro a w' ⟨rfl, hb2⟩)
    go_ret
    refine ⟨ydh ?_, by obtain ⟨e', rfl⟩ := e.next hb2; exact e'.h⟩
    exact (ygk HK.out HP.out (by rw [HE.out]; exact HQ.out)).symm
  ·
   obtain rfl : k = n := by omega
   go_wp2
   go_ret
   refine ⟨ydh ?_, e.h⟩
   exact (yfi (fun t ht => HP.out t (by have := HN.out; omega))).symm
theorem ynp (g : Nat) (cb : Array Value) (r : Option Addr) (cap : Nat) (xs : List Fx) (p : Fx → Bool) (w : World) (eg : ∀ args w, (callFunc g args).run Tryz.prog w = .ok (.enter g args) w) (hxs : IsS 10 Fx.enc w r cap xs)
  (hf : ∀ (e : Later w) (x : Fx), x ∈ xs → Calls Tryz.prog g (#[.agg #[.int .i64 x.bits, .bool x.sg, .int .i64 x.num, .int .i64 x.off, .int .i64 x.den, .int .i64 x.m, .int .i64 x.kg, .int .i64 x.s, .int .i64 x.a, .int .i64 x.k]] ++ cb) e.w fun a w' => a = .returned (.bool (p x)) ∧ Below e.w.heap.size e.w w') :
  Calls Tryz.prog 49 #[.slice r xs.length cap, .func (.func g) #[] cb] w fun e w' => e = .returned (.bool (xs.any p)) ∧ Below w.heap.size w w' := by
 have HI := H! (yng g cb r cap xs p w eg hxs hf)
 clear hf hxs
 go_enter Tryz.func49, Tryz.ntmps49
 go_wp2_with ((go_at_call 98; refine (HI.out).mono ?_; rintro e hb1w ⟨rfl, hb1⟩; obtain ⟨hb1c, hb1f⟩ := yah hb1; have hb1s := hb1.size; (try simp only [zA] at hb1s); (try (have : w.heap.size < hb1w.heap.size := by omega)); (try (have : w.heap.size + 1 < hb1w.heap.size := by omega)); (try (have : w.heap.size + 1 + 1 < hb1w.heap.size := by omega)); (try (have : w.heap.size + 1 + 1 + 1 < hb1w.heap.size := by omega)); (try (have : bX < hb1w.heap.size := by omega)); (try (have : bY < hb1w.heap.size := by omega)); (try (have : bZ < hb1w.heap.size := by omega))))
 go_ret
 exact ⟨yal (ygl p xs), bw⟩
theorem ynf (g : Nat) (cb : Array Value) (r : Option Addr) (cap : Nat) (xs : List Ins) (p : Ins → Bool) (w : World) (eg : ∀ args w, (callFunc g args).run Tryz.prog w = .ok (.enter g args) w) (hxs : IsS 5 Ins.enc w r cap xs)
  (hf : ∀ (e : Later w) (x : Ins), x ∈ xs → Calls Tryz.prog g (#[.agg #[.int .i64 x.op, .int .i64 x.a, .int .i64 x.b, .int .i64 x.c, .int .i64 x.k]] ++ cb) e.w fun a w' => a = .returned (.bool (p x)) ∧ Below e.w.heap.size e.w w') :
  Calls Tryz.prog 105 #[.slice r xs.length cap, .func (.func g) #[] cb] w fun e w' => e = .returned (.int .i64 (idxG p xs)) ∧ Below w.heap.size w w' := by
 have HF := H! hf
 have hmax := hxs.max
 have hle := hxs.le
 unfold maxLen at hmax
 clear hf
 have HS := H! hxs
 clear hxs
 generalize hn : xs.length = n at *
 have HN := H! hn
 clear hn
 go_enter Tryz.func105, Tryz.ntmps105
 go_wp2
 go_loopg [8] n (fun kx s8 wr => ∃ (k : Nat) (e : Later w), s8 = .int .i64 k ∧ k ≤ n ∧ n - k ≤ kx ∧ wr = e.w ∧ Hid (∀ t, t < k → p (xs.getD t default) = false))
 case atStart => exact ⟨0, ⟨w, Below.refl _ _⟩, rfl, Nat.zero_le _, by omega, rfl, H! (fun t h => absurd h (Nat.not_lt_zero _))⟩
 case round =>
  obtain ⟨k, e, rfl, hk, hkx, rfl, HP⟩ := hrel
  by_cases hlt : k < n
  ·
   have hkl : k < xs.length := by have := HN.out; omega
   obtain ⟨b, off, rfl, hb, hc⟩ := HS.out.at_ hkl
   have hk1 : (0 : Int) ≤ (k : Int) := by omega
   have hk2 : (k : Int) < n := by omega
   have hc0 : e.w.cell? ⟨b, off + k * 5, none⟩ = some (.int .i64 (xs.getD k default).op) := (e.h.cell (p := ⟨b, off + k * 5, none⟩) hb).trans (hc 0 _ rfl)
   have hc1 : e.w.cell? ⟨b, off + k * 5 + 1, none⟩ = some (.int .i64 (xs.getD k default).a) := (e.h.cell (p := ⟨b, off + k * 5 + 1, none⟩) hb).trans (hc 1 _ rfl)
   have hc2 : e.w.cell? ⟨b, off + k * 5 + 2, none⟩ = some (.int .i64 (xs.getD k default).b) := (e.h.cell (p := ⟨b, off + k * 5 + 2, none⟩) hb).trans (hc 2 _ rfl)
   have hc3 : e.w.cell? ⟨b, off + k * 5 + 3, none⟩ = some (.int .i64 (xs.getD k default).c) := (e.h.cell (p := ⟨b, off + k * 5 + 3, none⟩) hb).trans (hc 3 _ rfl)
   have hc4 : e.w.cell? ⟨b, off + k * 5 + 4, none⟩ = some (.int .i64 (xs.getD k default).k) := (e.h.cell (p := ⟨b, off + k * 5 + 4, none⟩) hb).trans (hc 4 _ rfl)
   clear hc
   have hcall := HF.out e _ (yak hkl)
   have HK := H! hkl
   clear hkl
   generalize hx : xs.getD k default = x at *
   have HE := H! hx
   clear hx
   obtain ⟨x0, x1, x2, x3, x4⟩ := x
   simp only at hc0 hc1 hc2 hc3 hc4 hcall
   cases hp : p ⟨x0, x1, x2, x3, x4⟩ <;> rw [hp] at hcall <;> have HQ := H! hp <;> clear hp
   ·
    go_wp2_with (go_at_fn g; refine hcall.mono ?_; rintro a w' ⟨rfl, hb2⟩)
    go_roundg (n - (k + 1))
    case measure => omega
    case rel =>
     obtain ⟨e', rfl⟩ := e.next hb2
     refine ⟨k + 1, e', by go_num, by omega, Nat.le_refl _, rfl, H! (fun t ht => ?_)⟩
     by_cases h : t < k
     ·
      exact HP.out t h
     ·
      obtain rfl : t = k := by omega
      rw [HE.out]
      exact HQ.out
   ·
    go_wp2_with (go_at_fn g; refine hcall.mono ?_; rintro a w' ⟨rfl, hb2⟩)
    go_ret
    refine ⟨ydh ?_, by obtain ⟨e', rfl⟩ := e.next hb2; exact e'.h⟩
    exact (ygk HK.out HP.out (by rw [HE.out]; exact HQ.out)).symm
  ·
   obtain rfl : k = n := by omega
   go_wp2
   go_ret
   refine ⟨ydh ?_, e.h⟩
   exact (yfi (fun t ht => HP.out t (by have := HN.out; omega))).symm
theorem yno (g : Nat) (cb : Array Value) (r : Option Addr) (cap : Nat) (xs : List Ins) (p : Ins → Bool) (w : World) (eg : ∀ args w, (callFunc g args).run Tryz.prog w = .ok (.enter g args) w) (hxs : IsS 5 Ins.enc w r cap xs)
  (hf : ∀ (e : Later w) (x : Ins), x ∈ xs → Calls Tryz.prog g (#[.agg #[.int .i64 x.op, .int .i64 x.a, .int .i64 x.b, .int .i64 x.c, .int .i64 x.k]] ++ cb) e.w fun a w' => a = .returned (.bool (p x)) ∧ Below e.w.heap.size e.w w') :
  Calls Tryz.prog 56 #[.slice r xs.length cap, .func (.func g) #[] cb] w fun e w' => e = .returned (.bool (xs.any p)) ∧ Below w.heap.size w w' := by
 have HI := H! (ynf g cb r cap xs p w eg hxs hf)
 clear hf hxs
 go_enter Tryz.func56, Tryz.ntmps56
 go_wp2_with ((go_at_call 105; refine (HI.out).mono ?_; rintro e hb1w ⟨rfl, hb1⟩; obtain ⟨hb1c, hb1f⟩ := yah hb1; have hb1s := hb1.size; (try simp only [zA] at hb1s); (try (have : w.heap.size < hb1w.heap.size := by omega)); (try (have : w.heap.size + 1 < hb1w.heap.size := by omega)); (try (have : w.heap.size + 1 + 1 < hb1w.heap.size := by omega)); (try (have : w.heap.size + 1 + 1 + 1 < hb1w.heap.size := by omega)); (try (have : bX < hb1w.heap.size := by omega)); (try (have : bY < hb1w.heap.size := by omega)); (try (have : bZ < hb1w.heap.size := by omega))))
 go_ret
 exact ⟨yal (ygl p xs), bw⟩
theorem ynh (g : Nat) (cb : Array Value) (r : Option Addr) (cap : Nat) (xs : List Cv) (p : Cv → Bool) (w : World) (eg : ∀ args w, (callFunc g args).run Tryz.prog w = .ok (.enter g args) w) (hxs : IsS 2 Cv.enc w r cap xs)
  (hf : ∀ (e : Later w) (x : Cv), x ∈ xs → Calls Tryz.prog g (#[.agg #[.slice x.rx x.X.length x.cx, .slice x.ry x.Y.length x.cy]] ++ cb) e.w fun a w' => a = .returned (.bool (p x)) ∧ Below e.w.heap.size e.w w') :
  Calls Tryz.prog 45 #[.slice r xs.length cap, .func (.func g) #[] cb] w fun e w' => e = .returned (.int .i64 (idxG p xs)) ∧ Below w.heap.size w w' := by
 have HF := H! hf
 have hmax := hxs.max
 have hle := hxs.le
 unfold maxLen at hmax
 clear hf
 have HS := H! hxs
 clear hxs
 generalize hn : xs.length = n at *
 have HN := H! hn
 clear hn
 go_enter Tryz.func45, Tryz.ntmps45
 go_wp2
 go_loopg [8] n (fun kx s8 wr => ∃ (k : Nat) (e : Later w), s8 = .int .i64 k ∧ k ≤ n ∧ n - k ≤ kx ∧ wr = e.w ∧ Hid (∀ t, t < k → p (xs.getD t default) = false))
 case atStart => exact ⟨0, ⟨w, Below.refl _ _⟩, rfl, Nat.zero_le _, by omega, rfl, H! (fun t h => absurd h (Nat.not_lt_zero _))⟩
 case round =>
  obtain ⟨k, e, rfl, hk, hkx, rfl, HP⟩ := hrel
  by_cases hlt : k < n
  ·
   have hkl : k < xs.length := by have := HN.out; omega
   obtain ⟨b, off, rfl, hb, hc⟩ := HS.out.at_ hkl
   have hk1 : (0 : Int) ≤ (k : Int) := by omega
   have hk2 : (k : Int) < n := by omega
   have hc0 : e.w.cell? ⟨b, off + k * 2, none⟩ = some (.slice (xs.getD k default).rx (xs.getD k default).X.length (xs.getD k default).cx) := (e.h.cell (p := ⟨b, off + k * 2, none⟩) hb).trans (hc 0 _ rfl)
   have hc1 : e.w.cell? ⟨b, off + k * 2 + 1, none⟩ = some (.slice (xs.getD k default).ry (xs.getD k default).Y.length (xs.getD k default).cy) := (e.h.cell (p := ⟨b, off + k * 2 + 1, none⟩) hb).trans (hc 1 _ rfl)
   clear hc
   have hcall := HF.out e _ (yak hkl)
   have HK := H! hkl
   clear hkl
   generalize hx : xs.getD k default = x at *
   have HE := H! hx
   clear hx
   obtain ⟨r0, c0, X0, r1, c1, X1⟩ := x
   simp only at hc0 hc1 hcall
   cases hp : p ⟨r0, c0, X0, r1, c1, X1⟩ <;> rw [hp] at hcall <;> have HQ := H! hp <;> clear hp
   ·
    go_wp2_with (go_at_fn g; refine hcall.mono ?_; rintro a w' ⟨rfl, hb2⟩)
    go_roundg (n - (k + 1))
    case measure => omega
    case rel =>
     obtain ⟨e', rfl⟩ := e.next hb2
     refine ⟨k + 1, e', by go_num, by omega, Nat.le_refl _, rfl, H! (fun t ht => ?_)⟩
     by_cases h : t < k
     ·
      exact HP.out t h
     ·
      obtain rfl : t = k := by omega
      rw [HE.out]
      exact HQ.out
   ·
    go_wp2_with (go_at_fn g; refine hcall.mono ?_; rintro a w' ⟨rfl, hb2⟩)
    go_ret
    refine ⟨ydh ?_, by obtain ⟨e', rfl⟩ := e.next hb2; exact e'.h⟩
    exact (ygk HK.out HP.out (by rw [HE.out]; exact HQ.out)).symm
  ·
   obtain rfl : k = n := by omega
   go_wp2
   go_ret
   refine ⟨ydh ?_, e.h⟩
   exact (yfi (fun t ht => HP.out t (by have := HN.out; omega))).symm
theorem yjk (g : Nat) (cb : Array Value) (r : Option Addr) (cap : Nat) (xs : List Cv) (p : Cv → Bool) (w : World) (eg : ∀ args w, (callFunc g args).run Tryz.prog w = .ok (.enter g args) w) (hxs : IsS 2 Cv.enc w r cap xs)
  (hf : ∀ (e : Later w) (x : Cv), x ∈ xs → Calls Tryz.prog g (#[.agg #[.slice x.rx x.X.length x.cx, .slice x.ry x.Y.length x.cy]] ++ cb) e.w fun a w' => a = .returned (.bool (p x)) ∧ Below e.w.heap.size e.w w') :
  Calls Tryz.prog 20 #[.slice r xs.length cap, .func (.func g) #[] cb] w fun e w' => e = .returned (.bool (xs.any p)) ∧ Below w.heap.size w w' := by
 have HI := H! (ynh g cb r cap xs p w eg hxs hf)
 clear hf hxs
 go_enter Tryz.func20, Tryz.ntmps20
 go_wp2_with ((go_at_call 45; refine (HI.out).mono ?_; rintro e hb1w ⟨rfl, hb1⟩; obtain ⟨hb1c, hb1f⟩ := yah hb1; have hb1s := hb1.size; (try simp only [zA] at hb1s); (try (have : w.heap.size < hb1w.heap.size := by omega)); (try (have : w.heap.size + 1 < hb1w.heap.size := by omega)); (try (have : w.heap.size + 1 + 1 < hb1w.heap.size := by omega)); (try (have : w.heap.size + 1 + 1 + 1 < hb1w.heap.size := by omega)); (try (have : bX < hb1w.heap.size := by omega)); (try (have : bY < hb1w.heap.size := by omega)); (try (have : bZ < hb1w.heap.size := by omega))))
 go_ret
 exact ⟨yal (ygl p xs), bw⟩
theorem idx_Map (g : Nat) (cb : Array Value) (r : Option Addr) (cap : Nat) (xs : List Mp) (p : Mp → Bool) (w : World) (eg : ∀ args w, (callFunc g args).run Tryz.prog w = .ok (.enter g args) w) (hxs : IsS 3 Mp.enc w r cap xs)
  (hf : ∀ (e : Later w) (x : Mp), x ∈ xs → Calls Tryz.prog g (#[.agg #[.slice x.rx x.X.length x.cx, .slice x.ry x.Y.length x.cy, .slice x.rz x.Z.length x.cz]] ++ cb) e.w fun a w' => a = .returned (.bool (p x)) ∧ Below e.w.heap.size e.w w') :
  Calls Tryz.prog 46 #[.slice r xs.length cap, .func (.func g) #[] cb] w fun e w' => e = .returned (.int .i64 (idxG p xs)) ∧ Below w.heap.size w w' := by
 have HF := H! hf
 have hmax := hxs.max
 have hle := hxs.le
 unfold maxLen at hmax
 clear hf
 have HS := H! hxs
 clear hxs
 generalize hn : xs.length = n at *
 have HN := H! hn
 clear hn
 go_enter Tryz.func46, Tryz.ntmps46
 go_wp2
 go_loopg [8] n (fun kx s8 wr => ∃ (k : Nat) (e : Later w), s8 = .int .i64 k ∧ k ≤ n ∧ n - k ≤ kx ∧ wr = e.w ∧ Hid (∀ t, t < k → p (xs.getD t default) = false))
 case atStart => exact ⟨0, ⟨w, Below.refl _ _⟩, rfl, Nat.zero_le _, by omega, rfl, H! (fun t h => absurd h (Nat.not_lt_zero _))⟩
 case round =>
  obtain ⟨k, e, rfl, hk, hkx, rfl, HP⟩ := hrel
  by_cases hlt : k < n
  ·
   have hkl : k < xs.length := by have := HN.out; omega
   obtain ⟨b, off, rfl, hb, hc⟩ := HS.out.at_ hkl
   have hk1 : (0 : Int) ≤ (k : Int) := by omega
   have hk2 : (k : Int) < n := by omega
   have hc0 : e.w.cell? ⟨b, off + k * 3, none⟩ = some (.slice (xs.getD k default).rx (xs.getD k default).X.length (xs.getD k default).cx) := (e.h.cell (p := ⟨b, off + k * 3, none⟩) hb).trans (hc 0 _ rfl)
   have hc1 : e.w.cell? ⟨b, off + k * 3 + 1, none⟩ = some (.slice (xs.getD k default).ry (xs.getD k default).Y.length (xs.getD k default).cy) := (e.h.cell (p := ⟨b, off + k * 3 + 1, none⟩) hb).trans (hc 1 _ rfl)
   have hc2 : e.w.cell? ⟨b, off + k * 3 + 2, none⟩ = some (.slice (xs.getD k default).rz (xs.getD k default).Z.length (xs.getD k default).cz) := (e.h.cell (p := ⟨b, off + k * 3 + 2, none⟩) hb).trans (hc 2 _ rfl)
   clear hc
   have hcall := HF.out e _ (yak hkl)
   have HK := H! hkl
   clear hkl
   generalize hx : xs.getD k default = x at *
   have HE := H! hx
   clear hx
   obtain ⟨r0, c0, X0, r1, c1, X1, r2, c2, X2⟩ := x
   simp only at hc0 hc1 hc2 hcall
   cases hp : p ⟨r0, c0, X0, r1, c1, X1, r2, c2, X2⟩ <;> rw [hp] at hcall <;> have HQ := H! hp <;> clear hp
   ·
    go_wp2_with (go_at_fn g; refine hcall.mono ?_; rintro a w' ⟨rfl, hb2⟩)
    go_roundg (n - (k + 1))
    case measure => omega
    case rel =>
     obtain ⟨e', rfl⟩ := e.next hb2
     refine ⟨k + 1, e', by go_num, by omega, Nat.le_refl _, rfl, H! (fun t ht => ?_)⟩
     by_cases h : t < k
     ·
      exact HP.out t h
     ·
      obtain rfl : t = k := by omega
      rw [HE.out]
      exact HQ.out
   ·
    go_wp2_with (go_at_fn g; refine hcall.mono ?_; rintro a w' ⟨rfl, hb2⟩)
    go_ret
    refine ⟨ydh ?_, by obtain ⟨e', rfl⟩ := e.next hb2; exact e'.h⟩
    exact (ygk HK.out HP.out (by rw [HE.out]; exact HQ.out)).symm
  ·
   obtain rfl : k = n := by omega
   go_wp2
   go_ret
   refine ⟨ydh ?_, e.h⟩
   exact (yfi (fun t ht => HP.out t (by have := HN.out; omega))).symm
theorem ynn (g : Nat) (cb : Array Value) (r : Option Addr) (cap : Nat) (xs : List Mp) (p : Mp → Bool) (w : World) (eg : ∀ args w, (callFunc g args).run Tryz.prog w = .ok (.enter g args) w) (hxs : IsS 3 Mp.enc w r cap xs)
  (hf : ∀ (e : Later w) (x : Mp), x ∈ xs → Calls Tryz.prog g (#[.agg #[.slice x.rx x.X.length x.cx, .slice x.ry x.Y.length x.cy, .slice x.rz x.Z.length x.cz]] ++ cb) e.w fun a w' => a = .returned (.bool (p x)) ∧ Below e.w.heap.size e.w w') :
  Calls Tryz.prog 22 #[.slice r xs.length cap, .func (.func g) #[] cb] w fun e w' => e = .returned (.bool (xs.any p)) ∧ Below w.heap.size w w' := by
 have HI := H! (idx_Map g cb r cap xs p w eg hxs hf)
 clear hf hxs
 go_enter Tryz.func22, Tryz.ntmps22
 go_wp2_with ((go_at_call 46; refine (HI.out).mono ?_; rintro e hb1w ⟨rfl, hb1⟩; obtain ⟨hb1c, hb1f⟩ := yah hb1; have hb1s := hb1.size; (try simp only [zA] at hb1s); (try (have : w.heap.size < hb1w.heap.size := by omega)); (try (have : w.heap.size + 1 < hb1w.heap.size := by omega)); (try (have : w.heap.size + 1 + 1 < hb1w.heap.size := by omega)); (try (have : w.heap.size + 1 + 1 + 1 < hb1w.heap.size := by omega)); (try (have : bX < hb1w.heap.size := by omega)); (try (have : bY < hb1w.heap.size := by omega)); (try (have : bZ < hb1w.heap.size := by omega))))
 go_ret
 exact ⟨yal (ygl p xs), bw⟩
def least (p : Nat → Bool) : Nat → Nat
 | 0 => 0
 | n + 1 => if least p n < n then least p n else if p n then n else n + 1
def farB (n : Int) : Bool := decide (n < -1073741824 ∨ 1073741824 < n)
def yce (xs : List Int) : Prop := 2 ≤ xs.length ∧ xs.length ≤ 32 ∧ xs.any farB = false ∧ ∀ t, t + 1 < xs.length → xs.getD t 0 < xs.getD (t + 1) 0
def ykj (xs ys : List Int) : Prop := xs.length = ys.length ∧ yce xs ∧ ys.any farB = false
open Classical in
noncomputable def ydi (xs : List Int) : Bool := decide (yce xs)
open Classical in
noncomputable def ycg (xs ys : List Int) : Bool := decide (ykj xs ys)
theorem ybd {xs : List Int} : ydi xs = true ↔ yce xs := by simp [ydi]
theorem yao {xs : List Int} : ydi xs = false ↔ ¬ yce xs := by simp [ydi]
theorem yhg {xs ys : List Int} : ycg xs ys = true ↔ ykj xs ys := by simp [ycg]
theorem yby {xs ys : List Int} : ycg xs ys = false ↔ ¬ ykj xs ys := by simp [ycg]
theorem getD_mem {xs : List Int} {t : Nat} (h : t < xs.length) : xs.getD t 0 ∈ xs := by
 rw [List.getD, List.getElem?_eq_getElem h]
 exact List.getElem_mem _
theorem yhf {xs : List Int} (h : ∀ t, t < xs.length → farB (xs.getD t 0) = false) : xs.any farB = false := by
 rw [List.any_eq_false]
 intro x hx
 obtain ⟨t, ht, rfl⟩ := List.getElem_of_mem hx
 have := h t ht
 simpa [List.getD, List.getElem?_eq_getElem ht] using this
theorem yhe {xs : List Int} {t : Nat} (ht : t < xs.length) (h : farB (xs.getD t 0) = true) : xs.any farB = true :=
 List.any_eq_true.2 ⟨_, getD_mem ht, h⟩
def idxI (p : Int → Bool) (xs : List Int) : Int := if xs.any p = true then (xs.findIdx p : Nat) else -1
theorem idxI_hit {p : Int → Bool} {xs : List Int} {k : Nat} (hk : k < xs.length) (h0 : ∀ t, t < k → p (xs.getD t 0) = false) (h1 : p (xs.getD k 0) = true) : idxI p xs = k := by
 have hg : ∀ t (h : t < xs.length), xs.getD t 0 = xs[t] := fun t h => by simp [List.getD, List.getElem?_eq_getElem h]
 have hf : xs.findIdx p = k := by
  rw [List.findIdx_eq hk]
  refine ⟨by rw [← hg k hk]; exact h1, fun j hj => ?_⟩
  rw [← hg j (by omega)]
  exact h0 j hj
 have ha : xs.any p = true := List.any_eq_true.2 ⟨xs[k], List.getElem_mem hk, by rw [← hg k hk]; exact h1⟩
 simp [idxI, ha, hf]
theorem ynj {p : Int → Bool} {xs : List Int} (h0 : ∀ t, t < xs.length → p (xs.getD t 0) = false) : idxI p xs = -1 := by
 have ha : xs.any p = false := by
  rw [List.any_eq_false]
  intro x hx
  obtain ⟨t, ht, rfl⟩ := List.getElem_of_mem hx
  have := h0 t ht
  simpa [List.getD, List.getElem?_eq_getElem ht] using this
 simp [idxI, ha]
theorem idxI_any (p : Int → Bool) (xs : List Int) : decide (0 ≤ idxI p xs) = xs.any p := by
 unfold idxI
 split
 ·
  rename_i h; rw [h]; simp
 ·
  rename_i h; simp at h ⊢; simpa using h
theorem yih (g : Nat) (cb : Array Value) (r : Option Addr) (cap : Nat) (xs : List Int) (p : Int → Bool) (w : World) (eg : ∀ args w, (callFunc g args).run Tryz.prog w = .ok (.enter g args) w) (hxs : IsInts w r cap .i64 xs)
  (hf : ∀ (e : Later w) (x : Int), x ∈ xs → Calls Tryz.prog g (#[.int .i64 x] ++ cb) e.w fun a w' => a = .returned (.bool (p x)) ∧ Below e.w.heap.size e.w w') :
  Calls Tryz.prog 110 #[.slice r xs.length cap, .func (.func g) #[] cb] w fun e w' => e = .returned (.int .i64 (idxI p xs)) ∧ Below w.heap.size w w' := by
 have HF := H! hf
 have hmax := hxs.max
 have hle := hxs.le
 unfold maxLen at hmax
 clear hf
 by_cases hne : xs = []
 ·
  subst hne
  go_enter Tryz.func110, Tryz.ntmps110
  go_wp2
  go_rounds 1
  go_ret
  exact ⟨rfl, Below.refl _ _⟩
 ·
  obtain ⟨b, off, rfl, hb, hc⟩ := hxs.cells hne
  have HC := H! hc
  clear hc
  generalize hn : xs.length = n at *
  have HN := H! hn
  clear hn
  go_enter Tryz.func110, Tryz.ntmps110
  go_wp2
  go_loopg [8] n (fun kx s8 wr => ∃ (k : Nat) (e : Later w), s8 = .int .i64 k ∧ k ≤ n ∧ n - k ≤ kx ∧ wr = e.w ∧ Hid (∀ t, t < k → p (xs.getD t 0) = false))
  case atStart => exact ⟨0, ⟨w, Below.refl _ _⟩, rfl, Nat.zero_le _, by omega, rfl, H! (fun t h => absurd h (Nat.not_lt_zero _))⟩
  case round =>
   obtain ⟨k, e, rfl, hk, hkx, rfl, HP⟩ := hrel
   by_cases hlt : k < n
   ·
    have hlen := HN.out
    have hcell : e.w.cell? ⟨b, off + k, none⟩ = some (.int .i64 (xs.getD k 0)) := by
     rw [Later.cell e hb]
     exact HC.out k (by omega)
    have hmem : xs.getD k 0 ∈ xs := by
     rw [List.getD, List.getElem?_eq_getElem (show k < xs.length by omega)]
     exact List.getElem_mem _
    have hcall := HF.out e _ hmem
    have HK : Hid (k < xs.length) := H! (by omega)
    have HX : Hid (∀ b, p (xs.getD k 0) = b → p (xs.getD k 0) = b) := H! (fun _ h => h)
    generalize hx : xs.getD k 0 = x at hcell hcall
    have HE := H! hx
    clear hx hlen hmem
    cases hp : p x <;> rw [hp] at hcall <;> have HQ := H! hp <;> clear hp
    ·
     go_wp2_with (go_at_fn g; refine hcall.mono ?_; rintro a w' ⟨rfl, hb2⟩)
     go_roundg (n - (k + 1))
     case measure => omega
     case rel =>
      obtain ⟨e', rfl⟩ := e.next hb2
      refine ⟨k + 1, e', by go_num, by omega, Nat.le_refl _, rfl, H! (fun t ht => ?_)⟩
      by_cases h : t < k
      ·
       exact HP.out t h
      ·
       obtain rfl : t = k := by omega
       rw [HE.out]
       exact HQ.out
    ·
     go_wp2_with (go_at_fn g; refine hcall.mono ?_; rintro a w' ⟨rfl, hb2⟩)
     go_ret
     refine ⟨ydh ?_, by obtain ⟨e', rfl⟩ := e.next hb2; exact e'.h⟩
     exact (idxI_hit HK.out HP.out (by rw [HE.out]; exact HQ.out)).symm
   ·
    obtain rfl : k = n := by omega
    go_wp2
    go_ret
    refine ⟨ydh ?_, e.h⟩
    exact (ynj (fun t ht => HP.out t (by have := HN.out; omega))).symm
theorem ybv (g : Nat) (cb : Array Value) (r : Option Addr) (cap : Nat) (xs : List Int) (p : Int → Bool) (w : World) (eg : ∀ args w, (callFunc g args).run Tryz.prog w = .ok (.enter g args) w) (hxs : IsInts w r cap .i64 xs)
  (hf : ∀ (e : Later w) (x : Int), x ∈ xs → Calls Tryz.prog g (#[.int .i64 x] ++ cb) e.w fun a w' => a = .returned (.bool (p x)) ∧ Below e.w.heap.size e.w w') :
  Calls Tryz.prog 59 #[.slice r xs.length cap, .func (.func g) #[] cb] w fun e w' => e = .returned (.bool (xs.any p)) ∧ Below w.heap.size w w' := by
 have HI := H! (yih g cb r cap xs p w eg hxs hf)
 clear hf hxs
 go_enter Tryz.func59, Tryz.ntmps59
 go_wp2_with ((go_at_call 110; refine (HI.out).mono ?_; rintro e hb1w ⟨rfl, hb1⟩; obtain ⟨hb1c, hb1f⟩ := yah hb1; have hb1s := hb1.size; (try simp only [zA] at hb1s); (try (have : w.heap.size < hb1w.heap.size := by omega)); (try (have : w.heap.size + 1 < hb1w.heap.size := by omega)); (try (have : w.heap.size + 1 + 1 < hb1w.heap.size := by omega)); (try (have : w.heap.size + 1 + 1 + 1 < hb1w.heap.size := by omega)); (try (have : bX < hb1w.heap.size := by omega)); (try (have : bY < hb1w.heap.size := by omega)); (try (have : bZ < hb1w.heap.size := by omega))))
 go_ret
 exact ⟨yal (idxI_any p xs), bw⟩
theorem far_any (x : Int) (w : World) : Calls Tryz.prog 101 #[.int .i64 x] w fun e w' => e = .returned (.bool (farB x)) ∧ w = w' := by
 go_enter Tryz.func101, Tryz.ntmps101
 go_wp2
 all_goals go_ret
 all_goals exact ⟨yal (by grind [farB]), rfl⟩
theorem yhx {P : Program} {f : FuncId} {args : Array Value} {w : World} {v : Value} (h : Calls P f args w fun e w' => e = .returned v ∧ w = w') : Calls P f args w fun e w' => e = .returned v ∧ Below w.heap.size w w' :=
 h.mono fun _ _ ⟨he, hw⟩ => ⟨he, by subst hw; exact Below.refl _ _⟩
theorem ydv (r : Option Addr) (cap : Nat) (xs : List Int) (w : World) (hxs : IsInts w r cap .i64 xs) :
  Calls Tryz.prog 59 #[.slice r xs.length cap, .func (.func 101) #[] #[]] w fun e w' => e = .returned (.bool (xs.any farB)) ∧ Below w.heap.size w w' :=
 ybv 101 #[] r cap xs farB w (enters_of Tryz.func101 (by kernel_rfl) rfl) hxs (fun e x _ => yhx (far_any x e.w))
theorem yio (r : Option Addr) (cap : Nat) (xs : List Int) (w : World) (hxs : IsInts w r cap .i64 xs) :
  Calls Tryz.prog 100 #[.slice r xs.length cap] w fun e w' => e = .returned (.bool (ydi xs)) ∧ Below w.heap.size w w' := by
 have HX := H! hxs
 by_cases h2 : xs.length < 2
 ·
  have H := H! (yao.2 (fun h : yce xs => by have := h.1; omega))
  have h2' : (xs.length : Int) < 2 := by omega
  clear hxs h2
  go_enter Tryz.func100, Tryz.ntmps100
  go_wp2
  go_ret
  exact ⟨by rw [H.out]; first | done | rfl, bw⟩
 ·
  by_cases h3 : 32 < xs.length
  ·
   have H := H! (yao.2 (fun h : yce xs => by have := h.2.1; omega))
   have h2' : ¬ (xs.length : Int) < 2 := by omega
   have h3' : (32 : Int) < xs.length := by omega
   clear hxs h2 h3
   go_enter Tryz.func100, Tryz.ntmps100
   go_wp2
   go_ret
   exact ⟨by rw [H.out]; first | done | rfl, bw⟩
  ·
   have h2' : ¬ (xs.length : Int) < 2 := by omega
   have h3' : ¬ (32 : Int) < xs.length := by omega
   cases hf : xs.any farB with
   | true =>
    have H := H! (yao.2 (fun h : yce xs => by have := h.2.2.1; rw [hf] at this; cases this))
    clear hxs
    go_enter Tryz.func100, Tryz.ntmps100
    go_wp2_with ((go_at_call 59; refine (ydv _ _ _ _ HX.out).mono ?_; rintro e hb1w ⟨rfl, hb1⟩; obtain ⟨hb1c, hb1f⟩ := yah hb1; have hb1s := hb1.size; (try simp only [zA] at hb1s); (try (have : w.heap.size < hb1w.heap.size := by omega)); (try (have : w.heap.size + 1 < hb1w.heap.size := by omega)); (try (have : w.heap.size + 1 + 1 < hb1w.heap.size := by omega)); (try (have : w.heap.size + 1 + 1 + 1 < hb1w.heap.size := by omega)); (try (have : bX < hb1w.heap.size := by omega)); (try (have : bY < hb1w.heap.size := by omega)); (try (have : bZ < hb1w.heap.size := by omega))))
    go_ret
    exact ⟨by rw [H.out]; first | done | rfl, bw⟩
   | false =>
    obtain ⟨bX, off, rfl, hb, hc⟩ := hxs.cells (fun e => by subst e; simp at h2)
    have HC := H! hc
    clear hc hxs
    have HAX : Hid (∀ h : (∀ t, t + 1 < xs.length → xs.getD t 0 < xs.getD (t + 1) 0), yce xs) := H! (fun h => ⟨by omega, by omega, hf, h⟩)
    generalize hn : xs.length = n at *
    have HN := H! hn
    clear hn
    go_enter Tryz.func100, Tryz.ntmps100
    go_wp2_with (go_at_call 59; (have hcl := ydv _ _ _ w HX.out); rw [HN.out] at hcl; refine hcl.mono ?_; clear hcl; rintro e hb1w ⟨rfl, hb1⟩)
    go_loopg [19] n (fun kx s19 wr => ∃ (k : Nat) (e : Later w), s19 = .int .i64 k ∧ k + 1 ≤ n ∧ n - k ≤ kx ∧ wr = e.w ∧ Hid (∀ t, t < k → xs.getD t 0 < xs.getD (t + 1) 0))
    case atStart => exact ⟨0, ⟨hb1w, hb1⟩, rfl, by omega, by omega, rfl, H! (fun t h => absurd h (Nat.not_lt_zero _))⟩
    case round =>
     obtain ⟨k, e, rfl, hk, hkx, rfl, HP⟩ := hrel
     by_cases hlt : k + 1 < n
     ·
      have hlt' : (k : Int) < (n : Int) - 1 := by omega
      have hk1 : (0 : Int) ≤ (k : Int) := by omega
      have hk2 : (k : Int) < n := by omega
      have hk3 : (k : Int) + 1 < n := by omega
      have hw1 : IntKind.i64.wrap ((k : Int) + 1) = (k : Int) + 1 := IntWalk.i64_in _ (by omega)
      have hc1 : e.w.cell? ⟨bX, off + k, none⟩ = some (.int .i64 (xs.getD k 0)) := by
       rw [Later.cell e hb]
       exact HC.out k (by omega)
      have hc2 : e.w.cell? ⟨bX, off + (k + 1), none⟩ = some (.int .i64 (xs.getD (k + 1) 0)) := by
       rw [Later.cell e hb]
       exact HC.out (k + 1) (by omega)
      have HV : Hid (∀ a b, xs.getD k 0 = a → xs.getD (k + 1) 0 = b → xs.getD k 0 = a ∧ xs.getD (k + 1) 0 = b) := H! (fun _ _ h h' => ⟨h, h'⟩)
      generalize hx : xs.getD k 0 = x at hc1
      generalize hy : xs.getD (k + 1) 0 = y at hc2
      have HXY := H! (And.intro hx hy)
      clear hx hy
      by_cases hxy : x < y
      ·
       go_wp2
       go_quiet (fail)
       go_wp2
       go_roundg (n - (k + 1))
       case measure => omega
       case rel =>
        refine ⟨k + 1, ⟨_, ybf e.h _⟩, by go_num, by omega, Nat.le_refl _, rfl, H! (fun t ht => ?_)⟩
        by_cases h : t < k
        ·
         exact HP.out t h
        ·
         obtain rfl : t = k := by omega
         rw [HXY.out.1, HXY.out.2]
         assumption
      ·
       have H : Hid (ydi xs = false) := H! (yao.2 (fun h => by have := h.2.2.2 k (by have := HN.out; omega); rw [HXY.out.1, HXY.out.2] at this; exact hxy this))
       have hxy2 : y ≤ x := by omega
       go_wp2
       go_quiet (fail)
       go_wp2
       go_ret
       exact ⟨by rw [H.out]; first | done | rfl, ybf e.h _⟩
     ·
      obtain rfl : n = k + 1 := by omega
      go_wp2
      go_ret
      refine ⟨yal ?_, e.h⟩
      exact (ybd.2 (HAX.out (fun t ht => HP.out t (by have := HN.out; omega)))).symm
theorem yhi (rx ry : Option Addr) (cx cy : Nat) (xs ys : List Int) (w : World) (hx : IsInts w rx cx .i64 xs) (hy : IsInts w ry cy .i64 ys) :
  Calls Tryz.prog 53 #[.agg #[.slice rx xs.length cx, .slice ry ys.length cy]] w fun e w' => e = .returned (.bool (ycg xs ys)) ∧ Below w.heap.size w w' := by
 have HX : Hid (∀ w', Below w.heap.size w w' → IsInts w' rx cx .i64 xs) := H! (fun _ h => hx.later h)
 have HY : Hid (∀ w', Below w.heap.size w w' → IsInts w' ry cy .i64 ys) := H! (fun _ h => hy.later h)
 clear hx hy
 by_cases hl : xs.length = ys.length
 ·
  have hl' : ((xs.length : Int) == (ys.length : Int)) = true := by simp [hl]
  cases ha : ydi xs with
  | false =>
   have H : Hid (ycg xs ys = false) := H! (yby.2 (fun h => yao.1 ha h.2.1))
   clear hl
   go_enter Tryz.func53, Tryz.ntmps53
   go_wp2_with (first | (go_at_call 100; refine (yio _ _ _ _ (HX.out _ bw)).mono ?_; rintro e hb1w ⟨rfl, hb1⟩; obtain ⟨hb1c, hb1f⟩ := yah hb1; have hb1s := hb1.size; (try simp only [zA] at hb1s); (try (have : w.heap.size < hb1w.heap.size := by omega)); (try (have : w.heap.size + 1 < hb1w.heap.size := by omega)); (try (have : w.heap.size + 1 + 1 < hb1w.heap.size := by omega)); (try (have : w.heap.size + 1 + 1 + 1 < hb1w.heap.size := by omega)); (try (have : bX < hb1w.heap.size := by omega)); (try (have : bY < hb1w.heap.size := by omega)); (try (have : bZ < hb1w.heap.size := by omega))) | (go_at_call 59; refine (ydv _ _ _ _ (HY.out _ bw)).mono ?_; rintro e hb2w ⟨rfl, hb2⟩; obtain ⟨hb2c, hb2f⟩ := yah hb2; have hb2s := hb2.size; (try simp only [zA] at hb2s); (try (have : w.heap.size < hb2w.heap.size := by omega)); (try (have : w.heap.size + 1 < hb2w.heap.size := by omega)); (try (have : w.heap.size + 1 + 1 < hb2w.heap.size := by omega)); (try (have : w.heap.size + 1 + 1 + 1 < hb2w.heap.size := by omega)); (try (have : bX < hb2w.heap.size := by omega)); (try (have : bY < hb2w.heap.size := by omega)); (try (have : bZ < hb2w.heap.size := by omega))))
   go_ret
   exact ⟨by rw [H.out]; first | done | rfl, bw⟩
  | true =>
   cases hf : ys.any farB with
   | true =>
    have H : Hid (ycg xs ys = false) := H! (yby.2 (fun h => by have := h.2.2; rw [hf] at this; cases this))
    clear hl
    go_enter Tryz.func53, Tryz.ntmps53
    go_wp2_with (first | (go_at_call 100; refine (yio _ _ _ _ (HX.out _ bw)).mono ?_; rintro e hb1w ⟨rfl, hb1⟩; obtain ⟨hb1c, hb1f⟩ := yah hb1; have hb1s := hb1.size; (try simp only [zA] at hb1s); (try (have : w.heap.size < hb1w.heap.size := by omega)); (try (have : w.heap.size + 1 < hb1w.heap.size := by omega)); (try (have : w.heap.size + 1 + 1 < hb1w.heap.size := by omega)); (try (have : w.heap.size + 1 + 1 + 1 < hb1w.heap.size := by omega)); (try (have : bX < hb1w.heap.size := by omega)); (try (have : bY < hb1w.heap.size := by omega)); (try (have : bZ < hb1w.heap.size := by omega))) | (go_at_call 59; refine (ydv _ _ _ _ (HY.out _ bw)).mono ?_; rintro e hb2w ⟨rfl, hb2⟩; obtain ⟨hb2c, hb2f⟩ := yah hb2; have hb2s := hb2.size; (try simp only [zA] at hb2s); (try (have : w.heap.size < hb2w.heap.size := by omega)); (try (have : w.heap.size + 1 < hb2w.heap.size := by omega)); (try (have : w.heap.size + 1 + 1 < hb2w.heap.size := by omega)); (try (have : w.heap.size + 1 + 1 + 1 < hb2w.heap.size := by omega)); (try (have : bX < hb2w.heap.size := by omega)); (try (have : bY < hb2w.heap.size := by omega)); (try (have : bZ < hb2w.heap.size := by omega))))
    go_ret
    exact ⟨by rw [H.out]; first | done | rfl, bw⟩
   | false =>
    have H : Hid (ycg xs ys = true) := H! (yhg.2 ⟨hl, ybd.1 ha, hf⟩)
    clear hl
    go_enter Tryz.func53, Tryz.ntmps53
    go_wp2_with (first | (go_at_call 100; refine (yio _ _ _ _ (HX.out _ bw)).mono ?_; rintro e hb1w ⟨rfl, hb1⟩; obtain ⟨hb1c, hb1f⟩ := yah hb1; have hb1s := hb1.size; (try simp only [zA] at hb1s); (try (have : w.heap.size < hb1w.heap.size := by omega)); (try (have : w.heap.size + 1 < hb1w.heap.size := by omega)); (try (have : w.heap.size + 1 + 1 < hb1w.heap.size := by omega)); (try (have : w.heap.size + 1 + 1 + 1 < hb1w.heap.size := by omega)); (try (have : bX < hb1w.heap.size := by omega)); (try (have : bY < hb1w.heap.size := by omega)); (try (have : bZ < hb1w.heap.size := by omega))) | (go_at_call 59; refine (ydv _ _ _ _ (HY.out _ bw)).mono ?_; rintro e hb2w ⟨rfl, hb2⟩; obtain ⟨hb2c, hb2f⟩ := yah hb2; have hb2s := hb2.size; (try simp only [zA] at hb2s); (try (have : w.heap.size < hb2w.heap.size := by omega)); (try (have : w.heap.size + 1 < hb2w.heap.size := by omega)); (try (have : w.heap.size + 1 + 1 < hb2w.heap.size := by omega)); (try (have : w.heap.size + 1 + 1 + 1 < hb2w.heap.size := by omega)); (try (have : bX < hb2w.heap.size := by omega)); (try (have : bY < hb2w.heap.size := by omega)); (try (have : bZ < hb2w.heap.size := by omega))))
    go_ret
    exact ⟨by rw [H.out]; first | done | rfl, bw⟩
 ·
  have hl' : ((xs.length : Int) == (ys.length : Int)) = false := by simp; omega
  have H : Hid (ycg xs ys = false) := H! (yby.2 (fun h => hl h.1))
  clear hl
  go_enter Tryz.func53, Tryz.ntmps53
  go_wp2
  go_ret
  exact ⟨by rw [H.out]; first | done | rfl, bw⟩
end Go.Proofs.YtfooefiaenlhmaaGreat
