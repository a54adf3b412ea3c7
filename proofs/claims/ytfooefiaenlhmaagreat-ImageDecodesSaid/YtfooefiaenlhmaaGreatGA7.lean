/- Lemmas for the laws of package magnetolaw15: what its functions return, for any arguments that the lemmas name. -/
import Derived.Test.YtfooefiaenlhmaaGreatGA1
import Derived.Test.YtfooefiaenlhmaaGreatGA6
import Derived.Deep.RegionHeld3
import Derived.Deep.AppendLies
import Derived.OwnWalk
import Derived.Deep.LoopGhost
import Derived.Shelf.Abstract
import Derived.Shelf.Bits.Mul64
namespace Go.Proofs.YtfooefiaenlhmaaGreat
set_option linter.unusedVariables false
set_option linter.unusedSimpArgs false
set_option maxHeartbeats 16000000
open Go.RowKit Go.ChangeShapes Go.WideShapes Go.ChangeAt
theorem i64_nat {n : Nat} (h : n ≤ 9223372036854775807) : I64 (n : Int) := by unfold I64; simp [Lit.wf, IntKind.min, IntKind.max, IntKind.bits, IntKind.signed]; omega
theorem ints_b {W : World} {base : Nat} {r : Option Addr} {c : Nat} {xs : List Int} (h : OwnK .u8 5 W base r c xs) (hb : ByteL xs) : IsInts W r c .u8 xs := h.ints (fun x hx => u8_wf (hb x hx).1 (hb x hx).2)
theorem bit_any (b : Bool) (v : Int) (hv : (if b then 1 else 0) = v) (w : World) : Calls Tryz.prog 81 #[.bool b] w fun e w' => e = .returned (.int .i64 v) ∧ w' = w := by
 subst hv
 cases b
 ·
  go_enter Tryz.func81, Tryz.ntmps81
  go_wp2
  go_ret
  exact ⟨rfl, rfl⟩
 ·
  go_enter Tryz.func81, Tryz.ntmps81
  go_wp2
  go_ret
  exact ⟨rfl, rfl⟩
set_option maxRecDepth 100000 in
theorem rbody_any (p : PV) (w : World) (hp : IsP w p) (hl : p.p.body.length ≤ 10000000000) : Calls Tryz.prog 37 #[p.val] w fun e w' => ∃ r c, e = .returned (.slice r p.p.body.length c) ∧ OwnK .u8 5 w' w.heap.size r c p.p.body ∧ Below w.heap.size w w' := by
 obtain ⟨rc, cc, code, rt, ct, types, rv, cv, curves, rm, cm, maps, cells, ri, ci, inputs, rs, cs, states, ro, co, outputs, rn, cn, initial⟩ := p
 have HE : Hid (PP.body (PV.p ⟨rc, cc, code, rt, ct, types, rv, cv, curves, rm, cm, maps, cells, ri, ci, inputs, rs, cs, states, ro, co, outputs, rn, cn, initial⟩) = num8 code.length ++ code.flatMap Ins.by8 ++ num8 types.length ++ types.flatMap Fx.by8 ++ num8 curves.length ++ curves.flatMap (fun c => curveB8 c.p) ++ num8 maps.length ++ maps.flatMap (fun m => mapB8 m.p) ++ num8 cells ++ list8 inputs ++ list8 states ++ list8 outputs ++ list8 initial) := H! (by unfold PP.body PV.p; simp only [List.length_map]; rw [flat_curves, flat_maps])
 have hs1 := hp.code
 have hg1 := hp.codeG
 have hs2 := hp.types
 have hg2 := hp.typesG
 have hs3 := hp.curves
 have hg3 := hp.curvesG
 have hs4 := hp.maps
 have hg4 := hp.mapsG
 have hcl := hp.cells
 have hi1 := hp.inputs
 have hi2 := hp.states
 have hi3 := hp.outputs
 have hi4 := hp.initial
 simp only at hs1 hg1 hs2 hg2 hs3 hg3 hs4 hg4 hcl hi1 hi2 hi3 hi4
 have hl2 := hl
 rw [HE.out] at hl2
 simp only [List.length_append, num8_len, list8_len] at hl2
 have hB1 : Below w.heap.size w (w.alloc (.cells #[.slice rc code.length cc, .slice rt types.length ct, .slice rv curves.length cv, .slice rm maps.length cm, .int .i64 cells, .slice ri inputs.length ci, .slice rs states.length cs, .slice ro outputs.length co, .slice rn initial.length cn] 28)) := (Below.refl _ _).alloc (Nat.le_refl _) _
 have HS1 := H! (hs1.later hB1)
 have HS2 := H! (hs2.later hB1)
 have HS3 := H! (hs3.later hB1)
 have HS4 := H! (hs4.later hB1)
 have HG1 := H! hg1
 have HG2 := H! hg2
 have HG3 := H! (fun x hx => (hg3 x hx).later hB1)
 have HG4 := H! (fun x hx => (hg4 x hx).later hB1)
 have HI1 := H! (hi1.later hB1)
 have HI2 := H! (hi2.later hB1)
 have HI3 := H! (hi3.later hB1)
 have HI4 := H! (hi4.later hB1)
 clear hs1 hs2 hs3 hs4 hg1 hg2 hg3 hg4 hi1 hi2 hi3 hi4 hp hl
 generalize hres : PP.body (PV.p ⟨rc, cc, code, rt, ct, types, rv, cv, curves, rm, cm, maps, cells, ri, ci, inputs, rs, cs, states, ro, co, outputs, rn, cn, initial⟩) = res at *
 clear hres
 have hm1 := HS1.out.max
 unfold maxLen at hm1
 have hmc1 := HS1.out.le
 have hmc2 := Nat.le_trans HS2.out.le HS2.out.max
 have hmc3 := Nat.le_trans HS3.out.le HS3.out.max
 have hmc4 := Nat.le_trans HS4.out.le HS4.out.max
 unfold maxLen at hmc2 hmc3 hmc4
 have hn1 : I64 (code.length : Int) := i64_nat (by omega)
 have hn2 : I64 (types.length : Int) := i64_nat (by omega)
 have hn3 : I64 (curves.length : Int) := i64_nat (by omega)
 have hn4 : I64 (maps.length : Int) := i64_nat (by omega)
 simp only [PV.val]
 go_enter Tryz.func37, Tryz.ntmps37
 go_wp2_with (go_at_call 79; refine (rnum_any _ hn1 _).mono ?_; rintro e w1 ⟨r1, c1, rfl, ho1, hb1⟩)
 have q0 : (w.alloc (.cells #[.slice rc code.length cc, .slice rt types.length ct, .slice rv curves.length cv, .slice rm maps.length cm, .int .i64 cells, .slice ri inputs.length ci, .slice rs states.length cs, .slice ro outputs.length co, .slice rn initial.length cn] 28)).cell? ⟨w.heap.size, 0, none⟩ = some (.slice rc code.length cc) := by simp
 have q1 : (w.alloc (.cells #[.slice rc code.length cc, .slice rt types.length ct, .slice rv curves.length cv, .slice rm maps.length cm, .int .i64 cells, .slice ri inputs.length ci, .slice rs states.length cs, .slice ro outputs.length co, .slice rn initial.length cn] 28)).cell? ⟨w.heap.size, 1, none⟩ = some (.slice rt types.length ct) := by simp
 have q2 : (w.alloc (.cells #[.slice rc code.length cc, .slice rt types.length ct, .slice rv curves.length cv, .slice rm maps.length cm, .int .i64 cells, .slice ri inputs.length ci, .slice rs states.length cs, .slice ro outputs.length co, .slice rn initial.length cn] 28)).cell? ⟨w.heap.size, 2, none⟩ = some (.slice rv curves.length cv) := by simp
 have q3 : (w.alloc (.cells #[.slice rc code.length cc, .slice rt types.length ct, .slice rv curves.length cv, .slice rm maps.length cm, .int .i64 cells, .slice ri inputs.length ci, .slice rs states.length cs, .slice ro outputs.length co, .slice rn initial.length cn] 28)).cell? ⟨w.heap.size, 3, none⟩ = some (.slice rm maps.length cm) := by simp
 have q4 : (w.alloc (.cells #[.slice rc code.length cc, .slice rt types.length ct, .slice rv curves.length cv, .slice rm maps.length cm, .int .i64 cells, .slice ri inputs.length ci, .slice rs states.length cs, .slice ro outputs.length co, .slice rn initial.length cn] 28)).cell? ⟨w.heap.size, 4, none⟩ = some (.int .i64 cells) := by simp
 have q5 : (w.alloc (.cells #[.slice rc code.length cc, .slice rt types.length ct, .slice rv curves.length cv, .slice rm maps.length cm, .int .i64 cells, .slice ri inputs.length ci, .slice rs states.length cs, .slice ro outputs.length co, .slice rn initial.length cn] 28)).cell? ⟨w.heap.size, 5, none⟩ = some (.slice ri inputs.length ci) := by simp
 have q6 : (w.alloc (.cells #[.slice rc code.length cc, .slice rt types.length ct, .slice rv curves.length cv, .slice rm maps.length cm, .int .i64 cells, .slice ri inputs.length ci, .slice rs states.length cs, .slice ro outputs.length co, .slice rn initial.length cn] 28)).cell? ⟨w.heap.size, 6, none⟩ = some (.slice rs states.length cs) := by simp
 have q7 : (w.alloc (.cells #[.slice rc code.length cc, .slice rt types.length ct, .slice rv curves.length cv, .slice rm maps.length cm, .int .i64 cells, .slice ri inputs.length ci, .slice rs states.length cs, .slice ro outputs.length co, .slice rn initial.length cn] 28)).cell? ⟨w.heap.size, 7, none⟩ = some (.slice ro outputs.length co) := by simp
 have q8 : (w.alloc (.cells #[.slice rc code.length cc, .slice rt types.length ct, .slice rv curves.length cv, .slice rm maps.length cm, .int .i64 cells, .slice ri inputs.length ci, .slice rs states.length cs, .slice ro outputs.length co, .slice rn initial.length cn] 28)).cell? ⟨w.heap.size, 8, none⟩ = some (.slice rn initial.length cn) := by simp
 have hz : w.heap.size < (w.alloc (.cells #[.slice rc code.length cc, .slice rt types.length ct, .slice rv curves.length cv, .slice rm maps.length cm, .int .i64 cells, .slice ri inputs.length ci, .slice rs states.length cs, .slice ro outputs.length co, .slice rn initial.length cn] 28)).heap.size := by rw [zA]; omega
 generalize w.alloc (.cells #[.slice rc code.length cc, .slice rt types.length ct, .slice rv curves.length cv, .slice rm maps.length cm, .int .i64 cells, .slice ri inputs.length ci, .slice rs states.length cs, .slice ro outputs.length co, .slice rn initial.length cn] 28) = W1 at *
 have HO1 := H! ho1
 clear ho1
 have hb1s := hb1.size
 have HLB0 : Hid (∀ k, (num8 code.length ++ (code.take k).flatMap Ins.by8).length ≤ 10000000000) := H! (fun k => by have := flat_le Ins.by8 code k; simp only [List.length_append, num8_len]; omega)
 go_loopg [3, 4] code.length (fun kx s3 s4 wr => ∃ (k : Nat) (e : Later W1) (r : Option Addr) (c : Nat) (out : List Int), s3 = .slice r out.length c ∧ s4 = .int .i64 k ∧ k ≤ code.length ∧ code.length - k ≤ kx ∧ wr = e.w ∧ out.length ≤ 10000000000 ∧ Hid (OwnK .u8 5 e.w W1.heap.size r c out) ∧ Hid (out = num8 code.length ++ (code.take k).flatMap Ins.by8))
 case atStart => exact ⟨0, ⟨w1, hb1⟩, r1, c1, num8 code.length, rfl, rfl, by omega, by omega, rfl, by rw [num8_len]; omega, HO1, H! (by simp)⟩
 case round =>
  clear HO1
  obtain ⟨k, e, r, c, out, rfl, rfl, hk, hkx, rfl, hol, HO, HQ⟩ := hrel
  have hes := e.h.size
  by_cases hlt : k < code.length
  ·
   have hk1 : (0 : Int) ≤ (k : Int) := by omega
   have hk2 : (k : Int) < code.length := by omega
   have HQ2 : Hid (out ++ Ins.by8 (code.getD k default) = num8 code.length ++ (code.take (k + 1)).flatMap Ins.by8) := H! (by rw [HQ.out, flat_take Ins.by8 hlt, List.append_assoc])
   have hbd : out.length + (Ins.by8 (code.getD k default)).length ≤ 10000000000 := by rw [← List.length_append, HQ2.out]; exact HLB0.out _
   obtain ⟨bX, off, rfl, hb, hc⟩ := HS1.out.at_ hlt
   have hc0 : e.w.cell? ⟨bX, off + k * 5, none⟩ = some (.int .i64 (code.getD k default).op) := (e.h.cell (p := ⟨bX, off + k * 5, none⟩) hb).trans (hc 0 _ rfl)
   have hc1 : e.w.cell? ⟨bX, off + k * 5 + 1, none⟩ = some (.int .i64 (code.getD k default).a) := (e.h.cell (p := ⟨bX, off + k * 5 + 1, none⟩) hb).trans (hc 1 _ rfl)
   have hc2 : e.w.cell? ⟨bX, off + k * 5 + 2, none⟩ = some (.int .i64 (code.getD k default).b) := (e.h.cell (p := ⟨bX, off + k * 5 + 2, none⟩) hb).trans (hc 2 _ rfl)
   have hc3 : e.w.cell? ⟨bX, off + k * 5 + 3, none⟩ = some (.int .i64 (code.getD k default).c) := (e.h.cell (p := ⟨bX, off + k * 5 + 3, none⟩) hb).trans (hc 3 _ rfl)
   have hc4 : e.w.cell? ⟨bX, off + k * 5 + 4, none⟩ = some (.int .i64 (code.getD k default).k) := (e.h.cell (p := ⟨bX, off + k * 5 + 4, none⟩) hb).trans (hc 4 _ rfl)
   clear hc
   generalize code.getD k default = x at *
   obtain ⟨xo, xa, xb, xc, xk⟩ := x
   simp only at hc0 hc1 hc2 hc3 hc4
   have hbd2 : out.length + 12 ≤ 10000000000 := hbd
   go_wp2_with (first | (go_at_call 80; refine (renc_any xo xa xb xc xk _).mono ?_; rintro _ w2 ⟨r2, c2, rfl, ho2, hb2⟩; have HO2 := H! (ints_b ho2 (encI_byte _ _ _ _ _)); clear ho2; have hb2s := hb2.size) | (at_builtin; refine wpList_append_ks Tryz.underlying43 infoU8 rfl (by omega) (by rfl) _ _ (by rfl) W1.heap.size r r2 c c2 out (encI xo xa xb xc xk) (by rfl) (by rfl) (HO.out.below hb2 (Nat.le_refl _)) HO2.out (by rw [encI_len]; omega) (by omega) ?_; intro r' c' w3 hown3 hbw3))
   have HO3 := H! hown3
   clear hown3
   go_roundg (code.length - (k + 1))
   case measure => omega
   case rel => exact ⟨k + 1, ⟨w3, (e.h.trans (hb2.mono hes)).trans hbw3⟩, r', c', out ++ encI xo xa xb xc xk, by first | rfl | (simp [encI_len]; done), by go_num, by omega, by omega, rfl, by rw [List.length_append, encI_len]; omega, HO3, HQ2⟩
  ·
   obtain rfl : k = code.length := by omega
   have HQ1 : Hid (out = num8 code.length ++ code.flatMap Ins.by8) := H! (by rw [HQ.out, List.take_length])
   clear HQ hkx hlt hk HLB0
   go_wp2_with (first | (go_at_call 79; refine (rnum_any _ hn2 _).mono ?_; rintro _ w2 ⟨r2, c2, rfl, ho2, hb2⟩; have HO2 := H! (ints8 ho2); clear ho2; have hb2s := hb2.size) | (at_builtin; refine wpList_append_ks Tryz.underlying43 infoU8 rfl (by omega) (by rfl) _ _ (by rfl) W1.heap.size r r2 c c2 out (num8 types.length) (by rfl) (by rfl) (HO.out.below hb2 (Nat.le_refl _)) HO2.out (by rw [num8_len]; omega) (by omega) ?_; intro r3 c3 w3 hown3 hbw3))
   have HO3 := H! hown3
   have hbe3 := (e.h.trans (hb2.mono hes)).trans hbw3
   have hb3s := hbe3.size
   clear hown3
   have HLB1 : Hid (∀ k, (num8 code.length ++ code.flatMap Ins.by8 ++ num8 types.length ++ (types.take k).flatMap Fx.by8).length ≤ 10000000000) := H! (fun k => by have := flat_le Fx.by8 types k; simp only [List.length_append, num8_len]; omega)
   go_loopg [3, 5] types.length (fun kx s3 s5 wr => ∃ (k : Nat) (e : Later W1) (r : Option Addr) (c : Nat) (out : List Int), s3 = .slice r out.length c ∧ s5 = .int .i64 k ∧ k ≤ types.length ∧ types.length - k ≤ kx ∧ wr = e.w ∧ out.length ≤ 10000000000 ∧ Hid (OwnK .u8 5 e.w W1.heap.size r c out) ∧ Hid (out = num8 code.length ++ code.flatMap Ins.by8 ++ num8 types.length ++ (types.take k).flatMap Fx.by8))
   case atStart => exact ⟨0, ⟨w3, hbe3⟩, r3, c3, out ++ num8 types.length, by first | rfl | (simp [num8_len]; done), by first | rfl | go_num, by omega, by omega, rfl, by have h := HLB1.out 0; rw [List.take_zero, List.flatMap_nil, List.append_nil, ← HQ1.out] at h; exact h, HO3, H! (by rw [HQ1.out]; simp)⟩
   case round =>
    clear HO3
    obtain ⟨k, e, r, c, out, rfl, rfl, hk, hkx, rfl, hol, HO, HQ⟩ := hrel
    have hes := e.h.size
    by_cases hlt : k < types.length
    ·
     have hk1 : (0 : Int) ≤ (k : Int) := by omega
     have hk2 : (k : Int) < types.length := by omega
     have HQ2 : Hid (out ++ Fx.by8 (types.getD k default) = num8 code.length ++ code.flatMap Ins.by8 ++ num8 types.length ++ (types.take (k + 1)).flatMap Fx.by8) := H! (by rw [HQ.out, flat_take Fx.by8 hlt, List.append_assoc])
     have hbd : out.length + (Fx.by8 (types.getD k default)).length ≤ 10000000000 := by rw [← List.length_append, HQ2.out]; exact HLB1.out _
     obtain ⟨bX, off, rfl, hb, hc⟩ := HS2.out.at_ hlt
     have hc0 : e.w.cell? ⟨bX, off + k * 10, none⟩ = some (.int .i64 (types.getD k default).bits) := (e.h.cell (p := ⟨bX, off + k * 10, none⟩) hb).trans (hc 0 _ rfl)
     have hc1 : e.w.cell? ⟨bX, off + k * 10 + 1, none⟩ = some (.bool (types.getD k default).sg) := (e.h.cell (p := ⟨bX, off + k * 10 + 1, none⟩) hb).trans (hc 1 _ rfl)
     have hc2 : e.w.cell? ⟨bX, off + k * 10 + 2, none⟩ = some (.int .i64 (types.getD k default).num) := (e.h.cell (p := ⟨bX, off + k * 10 + 2, none⟩) hb).trans (hc 2 _ rfl)
     have hc3 : e.w.cell? ⟨bX, off + k * 10 + 3, none⟩ = some (.int .i64 (types.getD k default).off) := (e.h.cell (p := ⟨bX, off + k * 10 + 3, none⟩) hb).trans (hc 3 _ rfl)
     have hc4 : e.w.cell? ⟨bX, off + k * 10 + 4, none⟩ = some (.int .i64 (types.getD k default).den) := (e.h.cell (p := ⟨bX, off + k * 10 + 4, none⟩) hb).trans (hc 4 _ rfl)
     have hc5 : e.w.cell? ⟨bX, off + k * 10 + 5, none⟩ = some (.int .i64 (types.getD k default).m) := (e.h.cell (p := ⟨bX, off + k * 10 + 5, none⟩) hb).trans (hc 5 _ rfl)
     have hc6 : e.w.cell? ⟨bX, off + k * 10 + 6, none⟩ = some (.int .i64 (types.getD k default).kg) := (e.h.cell (p := ⟨bX, off + k * 10 + 6, none⟩) hb).trans (hc 6 _ rfl)
     have hc7 : e.w.cell? ⟨bX, off + k * 10 + 7, none⟩ = some (.int .i64 (types.getD k default).s) := (e.h.cell (p := ⟨bX, off + k * 10 + 7, none⟩) hb).trans (hc 7 _ rfl)
     have hc8 : e.w.cell? ⟨bX, off + k * 10 + 8, none⟩ = some (.int .i64 (types.getD k default).a) := (e.h.cell (p := ⟨bX, off + k * 10 + 8, none⟩) hb).trans (hc 8 _ rfl)
     have hc9 : e.w.cell? ⟨bX, off + k * 10 + 9, none⟩ = some (.int .i64 (types.getD k default).k) := (e.h.cell (p := ⟨bX, off + k * 10 + 9, none⟩) hb).trans (hc 9 _ rfl)
     clear hc
     have hok := HG2.out _ (getD_mem_of hlt)
     generalize types.getD k default = x at *
     obtain ⟨x0, x1, x2, x3, x4, x5, x6, x7, x8, x9⟩ := x
     simp only at hc0 hc1 hc2 hc3 hc4 hc5 hc6 hc7 hc8 hc9
     obtain ⟨bv, hbv⟩ : ∃ v : Int, (if x1 then 1 else 0) = v := ⟨_, rfl⟩
     have HBIT := H! (bit_any x1 bv hbv)
     have HOK : Hid (∀ y ∈ [x0, bv, x2, x3, x4, x5, x6, x7, x8, x9], I64 y) := H! (by
      obtain ⟨o0, o2, o3, o4, o5, o6, o7, o8, o9⟩ := hok
      simp only at o0 o2 o3 o4 o5 o6 o7 o8 o9
      have ob : I64 bv := by rw [← hbv]; cases x1 <;> exact (by rfl)
      intro y hy
      simp only [List.mem_cons, List.not_mem_nil, or_false] at hy
      rcases hy with rfl | rfl | rfl | rfl | rfl | rfl | rfl | rfl | rfl | rfl <;> assumption)
     have HFB : Hid (Fx.by8 ⟨x0, x1, x2, x3, x4, x5, x6, x7, x8, x9⟩ = nums8 [x0, bv, x2, x3, x4, x5, x6, x7, x8, x9]) := H! (by unfold Fx.by8 Fx.nums; rw [← hbv])
     rw [HFB.out] at HQ2 hbd
     rw [nums8_len] at hbd
     simp only [List.length_cons, List.length_nil] at hbd
     clear hok hbv
     go_wp2
     have d : ∀ j : Nat, (e.w.alloc (.cells #[.int .i64 x0, .bool x1, .int .i64 x2, .int .i64 x3, .int .i64 x4, .int .i64 x5, .int .i64 x6, .int .i64 x7, .int .i64 x8, .int .i64 x9] 73)).cell? ⟨e.w.heap.size, j, none⟩ = (#[.int .i64 x0, .bool x1, .int .i64 x2, .int .i64 x3, .int .i64 x4, .int .i64 x5, .int .i64 x6, .int .i64 x7, .int .i64 x8, .int .i64 x9] : Array Value)[j]? := fun j => World.cell?_alloc_new _ _ _ _
     have hBx : Below W1.heap.size W1 (e.w.alloc (.cells #[.int .i64 x0, .bool x1, .int .i64 x2, .int .i64 x3, .int .i64 x4, .int .i64 x5, .int .i64 x6, .int .i64 x7, .int .i64 x8, .int .i64 x9] 73)) := e.h.alloc hes _
     have hzx : (e.w.alloc (.cells #[.int .i64 x0, .bool x1, .int .i64 x2, .int .i64 x3, .int .i64 x4, .int .i64 x5, .int .i64 x6, .int .i64 x7, .int .i64 x8, .int .i64 x9] 73)).heap.size = e.w.heap.size + 1 := zA _ _
     have HOx := H! (HO.out.below ((Below.refl e.w.heap.size e.w).alloc (Nat.le_refl _) (.cells #[.int .i64 x0, .bool x1, .int .i64 x2, .int .i64 x3, .int .i64 x4, .int .i64 x5, .int .i64 x6, .int .i64 x7, .int .i64 x8, .int .i64 x9] 73)) (Nat.le_refl _))
     generalize e.w.alloc (.cells #[.int .i64 x0, .bool x1, .int .i64 x2, .int .i64 x3, .int .i64 x4, .int .i64 x5, .int .i64 x6, .int .i64 x7, .int .i64 x8, .int .i64 x9] 73) = Wx at *
     refine wp_still_tail 26 (by kernel_rfl) (by kernel_rfl) ?_
     intro W hW hWs
     have hlx : e.w.heap.size < Wx.heap.size := by omega
     have d0 : W.cell? ⟨e.w.heap.size, 0, none⟩ = some (.int .i64 x0) := (hW.cell (p := ⟨e.w.heap.size, 0, none⟩) hlx).trans (d 0)
     have d1 : W.cell? ⟨e.w.heap.size, 1, none⟩ = some (.bool x1) := (hW.cell (p := ⟨e.w.heap.size, 1, none⟩) hlx).trans (d 1)
     have d2 : W.cell? ⟨e.w.heap.size, 2, none⟩ = some (.int .i64 x2) := (hW.cell (p := ⟨e.w.heap.size, 2, none⟩) hlx).trans (d 2)
     have d3 : W.cell? ⟨e.w.heap.size, 3, none⟩ = some (.int .i64 x3) := (hW.cell (p := ⟨e.w.heap.size, 3, none⟩) hlx).trans (d 3)
     have d4 : W.cell? ⟨e.w.heap.size, 4, none⟩ = some (.int .i64 x4) := (hW.cell (p := ⟨e.w.heap.size, 4, none⟩) hlx).trans (d 4)
     have d5 : W.cell? ⟨e.w.heap.size, 5, none⟩ = some (.int .i64 x5) := (hW.cell (p := ⟨e.w.heap.size, 5, none⟩) hlx).trans (d 5)
     have d6 : W.cell? ⟨e.w.heap.size, 6, none⟩ = some (.int .i64 x6) := (hW.cell (p := ⟨e.w.heap.size, 6, none⟩) hlx).trans (d 6)
     have d7 : W.cell? ⟨e.w.heap.size, 7, none⟩ = some (.int .i64 x7) := (hW.cell (p := ⟨e.w.heap.size, 7, none⟩) hlx).trans (d 7)
     have d8 : W.cell? ⟨e.w.heap.size, 8, none⟩ = some (.int .i64 x8) := (hW.cell (p := ⟨e.w.heap.size, 8, none⟩) hlx).trans (d 8)
     have d9 : W.cell? ⟨e.w.heap.size, 9, none⟩ = some (.int .i64 x9) := (hW.cell (p := ⟨e.w.heap.size, 9, none⟩) hlx).trans (d 9)
     clear d
     simp only [List.take_succ_cons, List.take_zero, List.drop_succ_cons, List.drop_zero]
     repeat (first | (refine wpStill_step (fun K hK => ?_); go_simp; refine hK _ ?_; clear hK K) | (refine wpStill_step (fun K hK => ?_); go_simp; refine ⟨_, HBIT.out _, hK _ ?_⟩; clear hK K))
     refine wpStill_nil ?_
     go_wp2
     have HL10 := H! ((own_built .i64 3 W W.heap.size [x0, bv, x2, x3, x4, x5, x6, x7, x8, x9] (Nat.le_refl _) (by simp [maxLen])).ints HOK.out)
     have HOy := H! (HOx.out.below (hW.trans ((Below.refl Wx.heap.size W).alloc hW.size (.cells #[.int .i64 x0, .int .i64 bv, .int .i64 x2, .int .i64 x3, .int .i64 x4, .int .i64 x5, .int .i64 x6, .int .i64 x7, .int .i64 x8, .int .i64 x9] 3))) (Nat.le_refl _))
     have hBy : Below W1.heap.size W1 (W.alloc (.cells #[.int .i64 x0, .int .i64 bv, .int .i64 x2, .int .i64 x3, .int .i64 x4, .int .i64 x5, .int .i64 x6, .int .i64 x7, .int .i64 x8, .int .i64 x9] 3)) := (hBx.trans (hW.mono hBx.size)).alloc (by omega) _
     have hzy : W.heap.size < (W.alloc (.cells #[.int .i64 x0, .int .i64 bv, .int .i64 x2, .int .i64 x3, .int .i64 x4, .int .i64 x5, .int .i64 x6, .int .i64 x7, .int .i64 x8, .int .i64 x9] 3)).heap.size := by rw [zA]; omega
     have HL10b : Hid (IsInts (W.alloc (.cells #[.int .i64 x0, .int .i64 bv, .int .i64 x2, .int .i64 x3, .int .i64 x4, .int .i64 x5, .int .i64 x6, .int .i64 x7, .int .i64 x8, .int .i64 x9] 3)) (some ⟨W.heap.size, 0, none⟩) 10 .i64 [x0, bv, x2, x3, x4, x5, x6, x7, x8, x9]) := HL10
     clear HL10 HOx
     generalize W.alloc (.cells #[.int .i64 x0, .int .i64 bv, .int .i64 x2, .int .i64 x3, .int .i64 x4, .int .i64 x5, .int .i64 x6, .int .i64 x7, .int .i64 x8, .int .i64 x9] 3) = W3 at *
     have hL : [x0, bv, x2, x3, x4, x5, x6, x7, x8, x9].length = 10 := rfl
     generalize [x0, bv, x2, x3, x4, x5, x6, x7, x8, x9] = L at *
     clear d0 d1 d2 d3 d4 d5 d6 d7 d8 d9 hc0 hc1 hc2 hc3 hc4 hc5 hc6 hc7 hc8 hc9 HBIT
     have HLL := H! hL
     clear hL
     have hA3 : W.heap.size = e.w.heap.size + 1 := by omega
     have HNA : Hid (∀ a, r = some a → a.block ≠ W.heap.size) := H! (fun a ha => by have := (HO.out.lt a ha).2; omega)
     go_loopg [3, 8] 10 (fun kx s3 s8 wr => ∃ (j : Nat) (r : Option Addr) (c : Nat) (out2 : List Int), s3 = .slice r out2.length c ∧ s8 = .int .i64 j ∧ j ≤ 10 ∧ 10 - j ≤ kx ∧ Below W1.heap.size W1 wr ∧ W3.heap.size ≤ wr.heap.size ∧ Hid (wr.heap[W.heap.size]? = W3.heap[W.heap.size]?) ∧ Hid (∀ a, r = some a → a.block ≠ W.heap.size) ∧ out2.length ≤ 10000000000 ∧ Hid (OwnK .u8 5 wr W1.heap.size r c out2) ∧ Hid (out2 = out ++ nums8 (L.take j)) ∧ Hid (out2.length = out.length + 8 * j))
     case atStart => exact ⟨0, r, c, out, rfl, rfl, by omega, by omega, hBy, Nat.le_refl _, H! rfl, HNA, hol, HOy, H! (by simp [nums8]), H! (by omega)⟩
     case round =>
      clear HOy HNA
      obtain ⟨j, r, c, out2, rfl, rfl, hj, hjx, hBr, hrs, HKA, HNA, hol2, HO2, HQj, HLj⟩ := hrel
      have hBrs := hBr.size
      have hByS := hBy.size
      by_cases hjl : j < 10
      ·
       have hj1 : (0 : Int) ≤ (j : Int) := by omega
       have hj2 : (j : Int) < 10 := by omega
       obtain ⟨bL, ofL, hre, hbL, hcL⟩ := HL10b.out.cells (fun e => by have := HLL.out; rw [e] at this; simp at this)
       simp only [Option.some.injEq, Addr.mk.injEq, and_true] at hre
       obtain ⟨rfl, rfl⟩ := hre
       have hcj : wr.cell? ⟨e.w.heap.size + 1, j, none⟩ = some (.int .i64 (L.getD j 0)) := by
        have := (World.cell?_of_block (a := ⟨W.heap.size, 0 + j, none⟩) HKA.out).trans (hcL j (by rw [HLL.out]; exact hjl))
        rw [Nat.zero_add, hA3] at this
        exact this
       clear hcL
       have hyi : I64 (L.getD j 0) := HOK.out _ (getD_mem' (by rw [HLL.out]; exact hjl))
       have HQn := H! (nums8_take (l := L) (k := j) (by rw [HLL.out]; exact hjl))
       generalize L.getD j 0 = y at *
       have hbd2 : out2.length + 8 ≤ 10000000000 := by have := HLj.out; omega
       go_wp2_with (first | (go_at_call 79; refine (rnum_any _ hyi _).mono ?_; rintro _ w4 ⟨r4, c4, rfl, ho4, hb4⟩; have HO4 := H! (ints8 ho4); clear ho4; have hb4s := hb4.size) | (at_builtin; refine wpList_append_ksf Tryz.underlying43 infoU8 rfl (by omega) (by rfl) _ _ (by rfl) W1.heap.size r r4 c c4 out2 (num8 y) (by rfl) (by rfl) (HO2.out.below hb4 (Nat.le_refl _)) HO4.out (by rw [num8_len]; omega) (by omega) ?_; intro r5 c5 w5 hown5 hbw5 hst5 hrr5))
       have HO5 := H! hown5
       have HKA5 : Hid (w5.heap[W.heap.size]? = W3.heap[W.heap.size]?) := H! ((hst5 _ (by omega) HNA.out).trans ((hb4.block _ (by omega)).trans HKA.out))
       have HNA5 : Hid (∀ a, r5 = some a → a.block ≠ W.heap.size) := H! (fun a ha => by
        rcases hrr5 a ha with ⟨a0, h1, h2⟩ | h1
        ·
         rw [← h2]; exact HNA.out a0 h1
        ·
         omega)
       have hbw5s := hbw5.size
       clear hown5 hst5 hrr5
       go_roundg (10 - (j + 1))
       case measure => omega
       case rel => exact ⟨j + 1, r5, c5, out2 ++ num8 y, by first | rfl | (simp [num8_len]; done), by go_num, by omega, by omega, (hBr.trans (hb4.mono hBrs)).trans hbw5, by omega, HKA5, HNA5, by rw [List.length_append, num8_len]; omega, HO5, H! (by rw [HQj.out, HQn.out, List.append_assoc]), H! (by rw [List.length_append, num8_len, HLj.out]; omega)⟩
      ·
       obtain rfl : j = 10 := by omega
       have HQe : Hid (out2 = out ++ nums8 L) := H! (by rw [HQj.out, List.take_of_length_le (by rw [HLL.out]; exact Nat.le_refl _)])
       clear HQj
       go_wp2
       go_roundg (types.length - (k + 1))
       case measure => omega
       case rel => exact ⟨k + 1, ⟨wr, hBr⟩, r, c, out2, rfl, by go_num, by omega, by omega, rfl, hol2, HO2, H! (by rw [HQe.out]; exact HQ2.out)⟩
    ·
     obtain rfl : k = types.length := by omega
     have HQ1 : Hid (out = num8 code.length ++ code.flatMap Ins.by8 ++ num8 types.length ++ types.flatMap Fx.by8) := H! (by rw [HQ.out, List.take_length])
     clear HQ hkx hlt hk HLB1
     go_wp2_with (first | (go_at_call 79; refine (rnum_any _ hn3 _).mono ?_; rintro _ w2 ⟨r2, c2, rfl, ho2, hb2⟩; have HO2 := H! (ints8 ho2); clear ho2; have hb2s := hb2.size) | (at_builtin; refine wpList_append_ks Tryz.underlying43 infoU8 rfl (by omega) (by rfl) _ _ (by rfl) W1.heap.size r r2 c c2 out (num8 curves.length) (by rfl) (by rfl) (HO.out.below hb2 (Nat.le_refl _)) HO2.out (by rw [num8_len]; omega) (by omega) ?_; intro r3 c3 w3 hown3 hbw3))
     have HO3 := H! hown3
     have hbe3 := (e.h.trans (hb2.mono hes)).trans hbw3
     have hb3s := hbe3.size
     clear hown3
     have HLB2 : Hid (∀ k, (num8 code.length ++ code.flatMap Ins.by8 ++ num8 types.length ++ types.flatMap Fx.by8 ++ num8 curves.length ++ (curves.take k).flatMap (fun c : Cv => curveB8 c.p)).length ≤ 10000000000) := H! (fun k => by have := flat_le (fun c : Cv => curveB8 c.p) curves k; simp only [List.length_append, num8_len]; omega)
     go_loopg [3, 9] curves.length (fun kx s3 s9 wr => ∃ (k : Nat) (e : Later W1) (r : Option Addr) (c : Nat) (out : List Int), s3 = .slice r out.length c ∧ s9 = .int .i64 k ∧ k ≤ curves.length ∧ curves.length - k ≤ kx ∧ wr = e.w ∧ out.length ≤ 10000000000 ∧ Hid (OwnK .u8 5 e.w W1.heap.size r c out) ∧ Hid (out = num8 code.length ++ code.flatMap Ins.by8 ++ num8 types.length ++ types.flatMap Fx.by8 ++ num8 curves.length ++ (curves.take k).flatMap (fun c : Cv => curveB8 c.p)))
     case atStart => exact ⟨0, ⟨w3, hbe3⟩, r3, c3, out ++ num8 curves.length, by first | rfl | (simp [num8_len]; done), by first | rfl | go_num, by omega, by omega, rfl, by have h := HLB2.out 0; rw [List.take_zero, List.flatMap_nil, List.append_nil, ← HQ1.out] at h; exact h, HO3, H! (by rw [HQ1.out]; simp)⟩
     case round =>
      clear HO3
      obtain ⟨k, e, r, c, out, rfl, rfl, hk, hkx, rfl, hol, HO, HQ⟩ := hrel
      have hes := e.h.size
      by_cases hlt : k < curves.length
      ·
       have hk1 : (0 : Int) ≤ (k : Int) := by omega
       have hk2 : (k : Int) < curves.length := by omega
       have HQ2 : Hid (out ++ (fun c : Cv => curveB8 c.p) (curves.getD k default) = num8 code.length ++ code.flatMap Ins.by8 ++ num8 types.length ++ types.flatMap Fx.by8 ++ num8 curves.length ++ (curves.take (k + 1)).flatMap (fun c : Cv => curveB8 c.p)) := H! (by rw [HQ.out, flat_take (fun c : Cv => curveB8 c.p) hlt, List.append_assoc])
       have hbd : out.length + ((fun c : Cv => curveB8 c.p) (curves.getD k default)).length ≤ 10000000000 := by rw [← List.length_append, HQ2.out]; exact HLB2.out _
       obtain ⟨bX, off, rfl, hb, hc⟩ := HS3.out.at_ hlt
       have hc0 : W1.cell? ⟨bX, off + k * 2, none⟩ = some (.slice (curves.getD k default).rx (curves.getD k default).X.length (curves.getD k default).cx) := hc 0 _ rfl
       have hc1 : W1.cell? ⟨bX, off + k * 2 + 1, none⟩ = some (.slice (curves.getD k default).ry (curves.getD k default).Y.length (curves.getD k default).cy) := hc 1 _ rfl
       clear hc
       obtain ⟨hoX, hoY⟩ := HG3.out _ (getD_mem_of hlt)
       generalize curves.getD k default = x at *
       obtain ⟨xr, xc, X, yr, yc, Y⟩ := x
       simp only at hc0 hc1 hoX hoY
       simp only [curveB8, Cv.p, List.length_append, list8_len] at hbd
       have HQ3 : Hid ((out ++ list8 X) ++ list8 Y = num8 code.length ++ code.flatMap Ins.by8 ++ num8 types.length ++ types.flatMap Fx.by8 ++ num8 curves.length ++ (curves.take (k + 1)).flatMap (fun c : Cv => curveB8 c.p)) := H! (by rw [List.append_assoc]; exact HQ2.out)
       have HXY := H! (And.intro hoX hoY)
       clear hoX hoY
       have es := hes
       have tk0 : True := trivial
       have tk1 : True := trivial
       have tk2 : True := trivial
       have tk3 : True := trivial
       go_wp2_with (first | (have _t := tk0; go_at_call 82; refine (rlist_any xr xc X _ (HXY.out.1.later e.h) (by omega)).mono ?_; rintro _ waA ⟨raA, caA, rfl, hoaA, hbaA⟩; have HOaA := H! (ints_b hoaA (list8_byte _)); clear hoaA tk0 _t; have hbaAs := hbaA.size) | (have _t := tk1; at_builtin; refine wpList_append_ks Tryz.underlying43 infoU8 rfl (by omega) (by rfl) _ _ (by rfl) W1.heap.size r raA c caA out (list8 X) (by rfl) (by rfl) (HO.out.below hbaA (Nat.le_refl _)) HOaA.out (by rw [list8_len]; omega) (by omega) ?_; intro rA cA wA hownA hbwA; obtain ⟨oA, hoA⟩ : ∃ l, l = out ++ (list8 X) := ⟨_, rfl⟩; rw [← hoA] at hownA ⊢; have HQA := H! hoA; have hlenA : oA.length = out.length + (list8 X).length := (by rw [hoA, List.length_append]); rw [list8_len] at hlenA; have holA : oA.length ≤ 10000000000 := (by omega); have HOA := H! hownA; have HLnA := H! hlenA; clear hownA hoA hlenA tk1 _t; obtain ⟨eA, hweA⟩ : ∃ e2 : Later W1, wA = e2.w := ⟨⟨wA, (e.h.trans (hbaA.mono es)).trans hbwA⟩, rfl⟩; subst hweA; have eAs := eA.h.size) | (have _t := tk2; go_at_call 82; refine (rlist_any yr yc Y _ (HXY.out.2.later eA.h) (by omega)).mono ?_; rintro _ waB ⟨raB, caB, rfl, hoaB, hbaB⟩; have HOaB := H! (ints_b hoaB (list8_byte _)); clear hoaB tk2 _t; have hbaBs := hbaB.size) | (have _t := tk3; at_builtin; refine wpList_append_ks Tryz.underlying43 infoU8 rfl (by omega) (by rfl) _ _ (by rfl) W1.heap.size rA raB cA caB oA (list8 Y) (by rfl) (by rfl) (HOA.out.below hbaB (Nat.le_refl _)) HOaB.out (by rw [list8_len]; omega) (by omega) ?_; intro rB cB wB hownB hbwB; obtain ⟨oB, hoB⟩ : ∃ l, l = oA ++ (list8 Y) := ⟨_, rfl⟩; rw [← hoB] at hownB ⊢; have HQB := H! hoB; have hlenB : oB.length = oA.length + (list8 Y).length := (by rw [hoB, List.length_append]); rw [list8_len] at hlenB; have holB : oB.length ≤ 10000000000 := (by have hhA := HLnA.out; omega); have HOB := H! hownB; have HLnB := H! hlenB; clear hownB hoB hlenB tk3 _t; obtain ⟨eB, hweB⟩ : ∃ e2 : Later W1, wB = e2.w := ⟨⟨wB, (eA.h.trans (hbaB.mono eAs)).trans hbwB⟩, rfl⟩; subst hweB; have eBs := eB.h.size))
       go_roundg (curves.length - (k + 1))
       case measure => omega
       case rel => exact ⟨k + 1, eB, rB, cB, oB, rfl, by go_num, by omega, by omega, rfl, holB, HOB, H! (by rw [HQB.out, HQA.out]; exact HQ3.out)⟩
      ·
       obtain rfl : k = curves.length := by omega
       have HQ1 : Hid (out = num8 code.length ++ code.flatMap Ins.by8 ++ num8 types.length ++ types.flatMap Fx.by8 ++ num8 curves.length ++ curves.flatMap (fun c => curveB8 c.p)) := H! (by rw [HQ.out, List.take_length])
       clear HQ hkx hlt hk HLB2
       go_wp2_with (first | (go_at_call 79; refine (rnum_any _ hn4 _).mono ?_; rintro _ w2 ⟨r2, c2, rfl, ho2, hb2⟩; have HO2 := H! (ints8 ho2); clear ho2; have hb2s := hb2.size) | (at_builtin; refine wpList_append_ks Tryz.underlying43 infoU8 rfl (by omega) (by rfl) _ _ (by rfl) W1.heap.size r r2 c c2 out (num8 maps.length) (by rfl) (by rfl) (HO.out.below hb2 (Nat.le_refl _)) HO2.out (by rw [num8_len]; omega) (by omega) ?_; intro r3 c3 w3 hown3 hbw3))
       have HO3 := H! hown3
       have hbe3 := (e.h.trans (hb2.mono hes)).trans hbw3
       have hb3s := hbe3.size
       clear hown3
       have HLB3 : Hid (∀ k, (num8 code.length ++ code.flatMap Ins.by8 ++ num8 types.length ++ types.flatMap Fx.by8 ++ num8 curves.length ++ curves.flatMap (fun c => curveB8 c.p) ++ num8 maps.length ++ (maps.take k).flatMap (fun m : Mp => mapB8 m.p)).length ≤ 10000000000) := H! (fun k => by have := flat_le (fun m : Mp => mapB8 m.p) maps k; simp only [List.length_append, num8_len]; omega)
       go_loopg [3, 10] maps.length (fun kx s3 s10 wr => ∃ (k : Nat) (e : Later W1) (r : Option Addr) (c : Nat) (out : List Int), s3 = .slice r out.length c ∧ s10 = .int .i64 k ∧ k ≤ maps.length ∧ maps.length - k ≤ kx ∧ wr = e.w ∧ out.length ≤ 10000000000 ∧ Hid (OwnK .u8 5 e.w W1.heap.size r c out) ∧ Hid (out = num8 code.length ++ code.flatMap Ins.by8 ++ num8 types.length ++ types.flatMap Fx.by8 ++ num8 curves.length ++ curves.flatMap (fun c => curveB8 c.p) ++ num8 maps.length ++ (maps.take k).flatMap (fun m : Mp => mapB8 m.p)))
       case atStart => exact ⟨0, ⟨w3, hbe3⟩, r3, c3, out ++ num8 maps.length, by first | rfl | (simp [num8_len]; done), by first | rfl | go_num, by omega, by omega, rfl, by have h := HLB3.out 0; rw [List.take_zero, List.flatMap_nil, List.append_nil, ← HQ1.out] at h; exact h, HO3, H! (by rw [HQ1.out]; simp)⟩
       case round =>
        clear HO3
        obtain ⟨k, e, r, c, out, rfl, rfl, hk, hkx, rfl, hol, HO, HQ⟩ := hrel
        have hes := e.h.size
        by_cases hlt : k < maps.length
        ·
         have hk1 : (0 : Int) ≤ (k : Int) := by omega
         have hk2 : (k : Int) < maps.length := by omega
         have HQ2 : Hid (out ++ (fun m : Mp => mapB8 m.p) (maps.getD k default) = num8 code.length ++ code.flatMap Ins.by8 ++ num8 types.length ++ types.flatMap Fx.by8 ++ num8 curves.length ++ curves.flatMap (fun c => curveB8 c.p) ++ num8 maps.length ++ (maps.take (k + 1)).flatMap (fun m : Mp => mapB8 m.p)) := H! (by rw [HQ.out, flat_take (fun m : Mp => mapB8 m.p) hlt, List.append_assoc])
         have hbd : out.length + ((fun m : Mp => mapB8 m.p) (maps.getD k default)).length ≤ 10000000000 := by rw [← List.length_append, HQ2.out]; exact HLB3.out _
         obtain ⟨bX, off, rfl, hb, hc⟩ := HS4.out.at_ hlt
         have hc0 : W1.cell? ⟨bX, off + k * 3, none⟩ = some (.slice (maps.getD k default).rx (maps.getD k default).X.length (maps.getD k default).cx) := hc 0 _ rfl
         have hc1 : W1.cell? ⟨bX, off + k * 3 + 1, none⟩ = some (.slice (maps.getD k default).ry (maps.getD k default).Y.length (maps.getD k default).cy) := hc 1 _ rfl
         have hc2 : W1.cell? ⟨bX, off + k * 3 + 2, none⟩ = some (.slice (maps.getD k default).rz (maps.getD k default).Z.length (maps.getD k default).cz) := hc 2 _ rfl
         clear hc
         obtain ⟨hoX, hoY, hoZ⟩ := HG4.out _ (getD_mem_of hlt)
         generalize maps.getD k default = x at *
         obtain ⟨xr, xc, X, yr, yc, Y, zr, zc, Z⟩ := x
         simp only at hc0 hc1 hc2 hoX hoY hoZ
         simp only [mapB8, Mp.p, List.length_append, list8_len] at hbd
         have HQ3 : Hid (((out ++ list8 X) ++ list8 Y) ++ Z.flatMap list8 = num8 code.length ++ code.flatMap Ins.by8 ++ num8 types.length ++ types.flatMap Fx.by8 ++ num8 curves.length ++ curves.flatMap (fun c => curveB8 c.p) ++ num8 maps.length ++ (maps.take (k + 1)).flatMap (fun m : Mp => mapB8 m.p)) := H! (by refine Eq.trans ?_ HQ2.out; show _ = out ++ (list8 X ++ list8 Y ++ Z.flatMap list8); simp only [List.append_assoc])
         have HXY := H! (And.intro hoX (And.intro hoY hoZ))
         have hzl := Nat.le_trans hoZ.le hoZ.max
         unfold maxLen at hzl
         clear hoX hoY hoZ
         have es := hes
         have tk0 : True := trivial
         have tk1 : True := trivial
         have tk2 : True := trivial
         have tk3 : True := trivial
         go_wp2_with (first | (have _t := tk0; go_at_call 82; refine (rlist_any xr xc X _ (HXY.out.1.later e.h) (by omega)).mono ?_; rintro _ waA ⟨raA, caA, rfl, hoaA, hbaA⟩; have HOaA := H! (ints_b hoaA (list8_byte _)); clear hoaA tk0 _t; have hbaAs := hbaA.size) | (have _t := tk1; at_builtin; refine wpList_append_ks Tryz.underlying43 infoU8 rfl (by omega) (by rfl) _ _ (by rfl) W1.heap.size r raA c caA out (list8 X) (by rfl) (by rfl) (HO.out.below hbaA (Nat.le_refl _)) HOaA.out (by rw [list8_len]; omega) (by omega) ?_; intro rA cA wA hownA hbwA; obtain ⟨oA, hoA⟩ : ∃ l, l = out ++ (list8 X) := ⟨_, rfl⟩; rw [← hoA] at hownA ⊢; have HQA := H! hoA; have hlenA : oA.length = out.length + (list8 X).length := (by rw [hoA, List.length_append]); rw [list8_len] at hlenA; have holA : oA.length ≤ 10000000000 := (by omega); have HOA := H! hownA; have HLnA := H! hlenA; clear hownA hoA hlenA tk1 _t; obtain ⟨eA, hweA⟩ : ∃ e2 : Later W1, wA = e2.w := ⟨⟨wA, (e.h.trans (hbaA.mono es)).trans hbwA⟩, rfl⟩; subst hweA; have eAs := eA.h.size) | (have _t := tk2; go_at_call 82; refine (rlist_any yr yc Y _ (HXY.out.2.1.later eA.h) (by omega)).mono ?_; rintro _ waB ⟨raB, caB, rfl, hoaB, hbaB⟩; have HOaB := H! (ints_b hoaB (list8_byte _)); clear hoaB tk2 _t; have hbaBs := hbaB.size) | (have _t := tk3; at_builtin; refine wpList_append_ks Tryz.underlying43 infoU8 rfl (by omega) (by rfl) _ _ (by rfl) W1.heap.size rA raB cA caB oA (list8 Y) (by rfl) (by rfl) (HOA.out.below hbaB (Nat.le_refl _)) HOaB.out (by rw [list8_len]; omega) (by omega) ?_; intro rB cB wB hownB hbwB; obtain ⟨oB, hoB⟩ : ∃ l, l = oA ++ (list8 Y) := ⟨_, rfl⟩; rw [← hoB] at hownB ⊢; have HQB := H! hoB; have hlenB : oB.length = oA.length + (list8 Y).length := (by rw [hoB, List.length_append]); rw [list8_len] at hlenB; have holB : oB.length ≤ 10000000000 := (by have hhA := HLnA.out; omega); have HOB := H! hownB; have HLnB := H! hlenB; clear hownB hoB hlenB tk3 _t; obtain ⟨eB, hweB⟩ : ∃ e2 : Later W1, wB = e2.w := ⟨⟨wB, (eA.h.trans (hbaB.mono eAs)).trans hbwB⟩, rfl⟩; subst hweB; have eBs := eB.h.size))
         have HLZ : Hid (∀ j, (oB ++ (Z.take j).flatMap list8).length ≤ 10000000000) := H! (fun j => by
          have h1 := flat_le list8 Z j
          have h2 := HLnA.out
          have h3 := HLnB.out
          rw [List.length_append]
          omega)
         go_loopg [3, 11] Z.length (fun kx s3 s11 wr => ∃ (j : Nat) (e2 : Later W1) (r : Option Addr) (c : Nat) (out2 : List Int), s3 = .slice r out2.length c ∧ s11 = .int .i64 j ∧ j ≤ Z.length ∧ Z.length - j ≤ kx ∧ wr = e2.w ∧ out2.length ≤ 10000000000 ∧ Hid (OwnK .u8 5 e2.w W1.heap.size r c out2) ∧ Hid (out2 = oB ++ (Z.take j).flatMap list8))
         case atStart => exact ⟨0, eB, rB, cB, oB, rfl, rfl, by omega, by omega, rfl, holB, HOB, H! (by simp)⟩
         case round =>
          clear HOB HOA HO
          obtain ⟨j, e2, r, c, out2, rfl, rfl, hj, hjx, rfl, hol2, HO2, HQj⟩ := hrel
          have e2s := e2.h.size
          by_cases hjl : j < Z.length
          ·
           have hj1 : (0 : Int) ≤ (j : Int) := by omega
           have hj2 : (j : Int) < Z.length := by omega
           obtain ⟨bZ, ofZ, rfl, hbZ, hcZ⟩ := HXY.out.2.2.cells (fun e => by subst e; simp at hjl)
           obtain ⟨ri, ci, hcz, hzI⟩ := hcZ j hjl
           clear hcZ
           have HQn : Hid ((Z.take (j + 1)).flatMap list8 = (Z.take j).flatMap list8 ++ list8 (Z.getD j [])) := H! (flat_take list8 hjl)
           have hbd2 : out2.length + (8 + 8 * (Z.getD j []).length) ≤ 10000000000 := by
            have := HLZ.out (j + 1)
            rw [HQn.out, ← List.append_assoc, ← HQj.out, List.length_append, list8_len] at this
            exact this
           have HZI := H! hzI
           clear hzI
           generalize Z.getD j [] = row at *
           have tk0 : True := trivial
           have tk1 : True := trivial
           go_wp2_with (first | (have _t := tk0; go_at_call 82; refine (rlist_any ri ci row _ (HZI.out.later e2.h) (by omega)).mono ?_; rintro _ waD ⟨raD, caD, rfl, hoaD, hbaD⟩; have HOaD := H! (ints_b hoaD (list8_byte _)); clear hoaD tk0 _t; have hbaDs := hbaD.size) | (have _t := tk1; at_builtin; refine wpList_append_ks Tryz.underlying43 infoU8 rfl (by omega) (by rfl) _ _ (by rfl) W1.heap.size r raD c caD out2 (list8 row) (by rfl) (by rfl) (HO2.out.below hbaD (Nat.le_refl _)) HOaD.out (by rw [list8_len]; omega) (by omega) ?_; intro rD cD wD hownD hbwD; obtain ⟨oD, hoD⟩ : ∃ l, l = out2 ++ (list8 row) := ⟨_, rfl⟩; rw [← hoD] at hownD ⊢; have HQD := H! hoD; have hlenD : oD.length = out2.length + (list8 row).length := (by rw [hoD, List.length_append]); rw [list8_len] at hlenD; have holD : oD.length ≤ 10000000000 := (by omega); have HOD := H! hownD; have HLnD := H! hlenD; clear hownD hoD hlenD tk1 _t; obtain ⟨eD, hweD⟩ : ∃ e2 : Later W1, wD = e2.w := ⟨⟨wD, (e2.h.trans (hbaD.mono e2s)).trans hbwD⟩, rfl⟩; subst hweD; have eDs := eD.h.size))
           go_roundg (Z.length - (j + 1))
           case measure => omega
           case rel => exact ⟨j + 1, eD, rD, cD, oD, rfl, by go_num, by omega, by omega, rfl, holD, HOD, H! (by rw [HQD.out, HQj.out, HQn.out, List.append_assoc])⟩
          ·
           obtain rfl : j = Z.length := by omega
           have HQe : Hid (out2 = oB ++ Z.flatMap list8) := H! (by rw [HQj.out, List.take_length])
           clear HQj HLZ
           go_wp2
           go_roundg (maps.length - (k + 1))
           case measure => omega
           case rel => exact ⟨k + 1, e2, r, c, out2, rfl, by go_num, by omega, by omega, rfl, hol2, HO2, H! (by rw [HQe.out, HQB.out, HQA.out]; exact HQ3.out)⟩
        ·
         obtain rfl : k = maps.length := by omega
         have HQ1 : Hid (out = num8 code.length ++ code.flatMap Ins.by8 ++ num8 types.length ++ types.flatMap Fx.by8 ++ num8 curves.length ++ curves.flatMap (fun c => curveB8 c.p) ++ num8 maps.length ++ maps.flatMap (fun m => mapB8 m.p)) := H! (by rw [HQ.out, List.take_length])
         clear HQ hkx hlt hk HLB3
         have HLnO : Hid (out.length = 8 + (code.flatMap Ins.by8).length + 8 + (types.flatMap Fx.by8).length + 8 + (curves.flatMap (fun c => curveB8 c.p)).length + 8 + (maps.flatMap (fun m => mapB8 m.p)).length) := H! (by rw [HQ1.out]; simp only [List.length_append, num8_len])
         have es := hes
         have tk0 : True := trivial
         have tk1 : True := trivial
         have tk2 : True := trivial
         have tk3 : True := trivial
         have tk4 : True := trivial
         have tk5 : True := trivial
         have tk6 : True := trivial
         have tk7 : True := trivial
         have tk8 : True := trivial
         have tk9 : True := trivial
         go_wp2_with (first | (have _t := tk0; go_at_call 79; refine (rnum_any cells hcl _).mono ?_; rintro _ waT0 ⟨raT0, caT0, rfl, hoaT0, hbaT0⟩; have HOaT0 := H! (ints_b hoaT0 (num8_byte _)); clear hoaT0 tk0 _t; have hbaT0s := hbaT0.size) | (have _t := tk1; at_builtin; refine wpList_append_ks Tryz.underlying43 infoU8 rfl (by omega) (by rfl) _ _ (by rfl) W1.heap.size r raT0 c caT0 out (num8 cells) (by rfl) (by rfl) (HO.out.below hbaT0 (Nat.le_refl _)) HOaT0.out (by rw [num8_len]; omega) (by omega) ?_; intro rT0 cT0 wT0 hownT0 hbwT0; obtain ⟨oT0, hoT0⟩ : ∃ l, l = out ++ (num8 cells) := ⟨_, rfl⟩; rw [← hoT0] at hownT0 ⊢; have HQT0 := H! hoT0; have hlenT0 : oT0.length = out.length + (num8 cells).length := (by rw [hoT0, List.length_append]); rw [num8_len] at hlenT0; have holT0 : oT0.length ≤ 10000000000 := (by have hhO := HLnO.out; omega); have HOT0 := H! hownT0; have HLnT0 := H! hlenT0; clear hownT0 hoT0 hlenT0 tk1 _t; obtain ⟨eT0, hweT0⟩ : ∃ e2 : Later W1, wT0 = e2.w := ⟨⟨wT0, (e.h.trans (hbaT0.mono es)).trans hbwT0⟩, rfl⟩; subst hweT0; have eT0s := eT0.h.size) | (have _t := tk2; go_at_call 82; refine (rlist_any ri ci inputs _ (HI1.out.later eT0.h) (by omega)).mono ?_; rintro _ waT1 ⟨raT1, caT1, rfl, hoaT1, hbaT1⟩; have HOaT1 := H! (ints_b hoaT1 (list8_byte _)); clear hoaT1 tk2 _t; have hbaT1s := hbaT1.size) | (have _t := tk3; at_builtin; refine wpList_append_ks Tryz.underlying43 infoU8 rfl (by omega) (by rfl) _ _ (by rfl) W1.heap.size rT0 raT1 cT0 caT1 oT0 (list8 inputs) (by rfl) (by rfl) (HOT0.out.below hbaT1 (Nat.le_refl _)) HOaT1.out (by rw [list8_len]; omega) (by omega) ?_; intro rT1 cT1 wT1 hownT1 hbwT1; obtain ⟨oT1, hoT1⟩ : ∃ l, l = oT0 ++ (list8 inputs) := ⟨_, rfl⟩; rw [← hoT1] at hownT1 ⊢; have HQT1 := H! hoT1; have hlenT1 : oT1.length = oT0.length + (list8 inputs).length := (by rw [hoT1, List.length_append]); rw [list8_len] at hlenT1; have holT1 : oT1.length ≤ 10000000000 := (by have hhO := HLnO.out; have hhT0 := HLnT0.out; omega); have HOT1 := H! hownT1; have HLnT1 := H! hlenT1; clear hownT1 hoT1 hlenT1 tk3 _t; obtain ⟨eT1, hweT1⟩ : ∃ e2 : Later W1, wT1 = e2.w := ⟨⟨wT1, (eT0.h.trans (hbaT1.mono eT0s)).trans hbwT1⟩, rfl⟩; subst hweT1; have eT1s := eT1.h.size) | (have _t := tk4; go_at_call 82; refine (rlist_any rs cs states _ (HI2.out.later eT1.h) (by omega)).mono ?_; rintro _ waT2 ⟨raT2, caT2, rfl, hoaT2, hbaT2⟩; have HOaT2 := H! (ints_b hoaT2 (list8_byte _)); clear hoaT2 tk4 _t; have hbaT2s := hbaT2.size) | (have _t := tk5; at_builtin; refine wpList_append_ks Tryz.underlying43 infoU8 rfl (by omega) (by rfl) _ _ (by rfl) W1.heap.size rT1 raT2 cT1 caT2 oT1 (list8 states) (by rfl) (by rfl) (HOT1.out.below hbaT2 (Nat.le_refl _)) HOaT2.out (by rw [list8_len]; omega) (by omega) ?_; intro rT2 cT2 wT2 hownT2 hbwT2; obtain ⟨oT2, hoT2⟩ : ∃ l, l = oT1 ++ (list8 states) := ⟨_, rfl⟩; rw [← hoT2] at hownT2 ⊢; have HQT2 := H! hoT2; have hlenT2 : oT2.length = oT1.length + (list8 states).length := (by rw [hoT2, List.length_append]); rw [list8_len] at hlenT2; have holT2 : oT2.length ≤ 10000000000 := (by have hhO := HLnO.out; have hhT0 := HLnT0.out; have hhT1 := HLnT1.out; omega); have HOT2 := H! hownT2; have HLnT2 := H! hlenT2; clear hownT2 hoT2 hlenT2 tk5 _t; obtain ⟨eT2, hweT2⟩ : ∃ e2 : Later W1, wT2 = e2.w := ⟨⟨wT2, (eT1.h.trans (hbaT2.mono eT1s)).trans hbwT2⟩, rfl⟩; subst hweT2; have eT2s := eT2.h.size) | (have _t := tk6; go_at_call 82; refine (rlist_any ro co outputs _ (HI3.out.later eT2.h) (by omega)).mono ?_; rintro _ waT3 ⟨raT3, caT3, rfl, hoaT3, hbaT3⟩; have HOaT3 := H! (ints_b hoaT3 (list8_byte _)); clear hoaT3 tk6 _t; have hbaT3s := hbaT3.size) | (have _t := tk7; at_builtin; refine wpList_append_ks Tryz.underlying43 infoU8 rfl (by omega) (by rfl) _ _ (by rfl) W1.heap.size rT2 raT3 cT2 caT3 oT2 (list8 outputs) (by rfl) (by rfl) (HOT2.out.below hbaT3 (Nat.le_refl _)) HOaT3.out (by rw [list8_len]; omega) (by omega) ?_; intro rT3 cT3 wT3 hownT3 hbwT3; obtain ⟨oT3, hoT3⟩ : ∃ l, l = oT2 ++ (list8 outputs) := ⟨_, rfl⟩; rw [← hoT3] at hownT3 ⊢; have HQT3 := H! hoT3; have hlenT3 : oT3.length = oT2.length + (list8 outputs).length := (by rw [hoT3, List.length_append]); rw [list8_len] at hlenT3; have holT3 : oT3.length ≤ 10000000000 := (by have hhO := HLnO.out; have hhT0 := HLnT0.out; have hhT1 := HLnT1.out; have hhT2 := HLnT2.out; omega); have HOT3 := H! hownT3; have HLnT3 := H! hlenT3; clear hownT3 hoT3 hlenT3 tk7 _t; obtain ⟨eT3, hweT3⟩ : ∃ e2 : Later W1, wT3 = e2.w := ⟨⟨wT3, (eT2.h.trans (hbaT3.mono eT2s)).trans hbwT3⟩, rfl⟩; subst hweT3; have eT3s := eT3.h.size) | (have _t := tk8; go_at_call 82; refine (rlist_any rn cn initial _ (HI4.out.later eT3.h) (by omega)).mono ?_; rintro _ waT4 ⟨raT4, caT4, rfl, hoaT4, hbaT4⟩; have HOaT4 := H! (ints_b hoaT4 (list8_byte _)); clear hoaT4 tk8 _t; have hbaT4s := hbaT4.size) | (have _t := tk9; at_builtin; refine wpList_append_ks Tryz.underlying43 infoU8 rfl (by omega) (by rfl) _ _ (by rfl) W1.heap.size rT3 raT4 cT3 caT4 oT3 (list8 initial) (by rfl) (by rfl) (HOT3.out.below hbaT4 (Nat.le_refl _)) HOaT4.out (by rw [list8_len]; omega) (by omega) ?_; intro rT4 cT4 wT4 hownT4 hbwT4; obtain ⟨oT4, hoT4⟩ : ∃ l, l = oT3 ++ (list8 initial) := ⟨_, rfl⟩; rw [← hoT4] at hownT4 ⊢; have HQT4 := H! hoT4; have hlenT4 : oT4.length = oT3.length + (list8 initial).length := (by rw [hoT4, List.length_append]); rw [list8_len] at hlenT4; have holT4 : oT4.length ≤ 10000000000 := (by have hhO := HLnO.out; have hhT0 := HLnT0.out; have hhT1 := HLnT1.out; have hhT2 := HLnT2.out; have hhT3 := HLnT3.out; omega); have HOT4 := H! hownT4; have HLnT4 := H! hlenT4; clear hownT4 hoT4 hlenT4 tk9 _t; obtain ⟨eT4, hweT4⟩ : ∃ e2 : Later W1, wT4 = e2.w := ⟨⟨wT4, (eT3.h.trans (hbaT4.mono eT3s)).trans hbwT4⟩, rfl⟩; subst hweT4; have eT4s := eT4.h.size))
         go_ret
         have he : oT4 = res := by rw [HQT4.out, HQT3.out, HQT2.out, HQT1.out, HQT0.out, HQ1.out, HE.out]
         subst he
         exact ⟨rT4, cT4, rfl, HOT4.out.base (by omega), hB1.trans (eT4.h.mono (by omega))⟩
def SxL (s : Sx) : Prop := ∀ bs, s = some bs → bs.length ≤ 100000
theorem Rdr.len {W0 w : World} {b : Nat} {s : Sx} (h : Rdr W0 w b s) : SxL s := by
 obtain ⟨_, _, _, ra, ca, bs, bad, _, _, _, hl, rfl⟩ := h
 intro bs' e
 cases bad
 ·
  simp only [Bool.false_eq_true, if_false, Option.some.injEq] at e
  subst e; exact hl
 ·
  simp at e
theorem pCount_le {size : Nat} {s : Sx} (h : SxL s) : (pCount size s).1 ≤ 100000 := by
 rw [pCount_eq]
 cases s with
 | none => simp [pInt]
 | some bs =>
  have hl := h bs rfl
  have hd : ∀ t, (pInt (some bs)).2 = some t → t.length ≤ 100000 := fun t ht => by
   unfold pInt at ht
   simp only at ht
   split at ht
   ·
    simp only [Option.some.injEq] at ht
    rw [← ht, List.length_drop]; omega
   ·
    cases ht
  cases h2 : (pInt (some bs)).2 with
  | none => simp
  | some t =>
   simp only
   split
   ·
    rename_i hc
    have h3 := Nat.div_le_self t.length size
    have h4 := hd t h2
    simp only
    generalize t.length / size = q at *
    omega
   ·
    simp
theorem pInt_wf (s : Sx) : I64 (pInt s).1 := by
 rw [pInt_take]
 unfold valB I64
 rw [IntKind.wrap_i64]
 simp [Lit.wf, IntKind.min, IntKind.max, IntKind.bits, IntKind.signed]
 omega
theorem pRep_wf (n : Nat) (s : Sx) : ∀ x ∈ (pRep pInt n s).1, I64 x := by
 induction n with
 | zero => intro x hx; simp [pRep] at hx
 | succ n ih =>
  intro x hx
  simp only [pRep, List.mem_append, List.mem_singleton] at hx
  rcases hx with hx | rfl
  ·
   exact ih x hx
  ·
   exact pInt_wf _
theorem OwnK.keepB {k : IntKind} {te : TypeId} {W W' : World} {base b : Nat} {r : Option Addr} {cap : Nat} {xs : List Int} (h : OwnK k te W base r cap xs) (hk : KeepB W.heap.size b W W') (hb : b < base) : OwnK k te W' base r cap xs := by
 refine ⟨h.1, ?_⟩
 rcases h.2 with ⟨h1, h2⟩ | ⟨g, c, cur, h1, h2, h3, h4⟩
 ·
  exact Or.inl ⟨h1, h2⟩
 ·
  refine Or.inr ⟨g, c, cur, h1, h2, ?_, h4⟩
  have hg : g < W.heap.size := by
   rcases Nat.lt_or_ge g W.heap.size with hlt | hge
   ·
    exact hlt
   ·
    rw [Array.getElem?_eq_none hge] at h3; cases h3
  rw [hk.2 g hg (by omega)]
  exact h3
theorem KeepB.mono {B B' Bo : Nat} {W W' : World} (h : KeepB B Bo W W') (hb : B' ≤ B) : KeepB B' Bo W W' := ⟨h.1, fun q hq hn => h.2 q (by omega) hn⟩
theorem below_keepB {B Bo : Nat} {W W' : World} (h : Below B W W') : KeepB B Bo W W' := ⟨h.mono (Nat.zero_le _), fun q hq _ => h.block q hq⟩
set_option maxRecDepth 100000 in
theorem rlst_any (b : Nat) (W0 w : World) (s : Sx) (h : Rdr W0 w b s) (hB : W0.heap.size ≤ b) (hb0 : Below W0.heap.size W0 w) : Calls Tryz.prog 87 #[.pointer (some ⟨b, 0, none⟩)] w fun e w' => ∃ r c, e = .returned (.slice r (pList s).1.length c) ∧ OwnK .i64 3 w' w.heap.size r c (pList s).1 ∧ Rdr W0 w' b (pList s).2 ∧ KeepB w.heap.size b w w' := by
 have hbl := h.lt
 have hb0s := hb0.size
 have HC := H! (rcount_any b 8 W0 w s h hB hb0 (by omega) (by omega))
 have hcl := pCount_le (size := 8) h.len
 have HE : Hid (pList s = pRep pInt (pCount 8 s).1 (pCount 8 s).2) := H! rfl
 generalize pList s = PL at *
 generalize (pCount 8 s).1 = n at *
 generalize (pCount 8 s).2 = s1 at *
 clear h
 go_enter Tryz.func87, Tryz.ntmps87
 go_wp2_with (first | (go_at_call 83; refine HC.out.mono ?_; rintro _ w1 ⟨rfl, hr, hk⟩; have HR := H! hr; have HK := H! hk; clear hr hk))
 have hks := HK.out.1.size
 go_loopg [3, 6] n (fun kx s3 s6 wr => ∃ (k : Nat) (r : Option Addr) (c : Nat) (out : List Int) (s2 : Sx), s3 = .slice r out.length c ∧ s6 = .int .i64 k ∧ k ≤ n ∧ n - k ≤ kx ∧ w.heap.size ≤ wr.heap.size ∧ Hid (KeepB w.heap.size b w wr) ∧ Hid (OwnK .i64 3 wr w.heap.size r c out) ∧ Hid (Rdr W0 wr b s2) ∧ Hid ((out, s2) = pRep pInt k s1) ∧ Hid (out.length = k))
 case atStart => exact ⟨0, none, 0, [], s1, rfl, rfl, by omega, by omega, hks, HK, H! (OwnK.nil _ _), HR, H! rfl, H! rfl⟩
 case round =>
  clear HR HK
  obtain ⟨k, r, c, out, s2, rfl, rfl, hk, hkx, hsz, HK, HO, HR, HP, HL⟩ := hrel
  by_cases hlt : k < n
  ·
   have hk1 : (0 : Int) ≤ (k : Int) := by omega
   have hk2 : (k : Int) < n := by omega
   have HI := H! (rint_any b W0 wr s2 HR.out hB (hb0.trans (HK.out.below (by omega) hB)))
   have hol : out.length ≤ 100000 := by have := HL.out; omega
   have HP2 : Hid ((out ++ [(pInt s2).1], (pInt s2).2) = pRep pInt (k + 1) s1) := H! (by rw [pRep, ← HP.out])
   generalize (pInt s2).1 = x at *
   generalize (pInt s2).2 = s3 at *
   go_wp2_with (first | (go_at_call 86; refine HI.out.mono ?_; rintro _ w2 ⟨rfl, hr2, hk2⟩; have HR2 := H! hr2; have HK2 := H! hk2; have hs2 := hk2.1.size; clear hr2 hk2) | (at_builtin; refine wpList_append_k Tryz.underlying26 infoI64 rfl (by omega) (by rfl) _ _ (by rfl) w2 w.heap.size r c out [x] 1 rfl (by omega) (by rfl) (by rfl) (by rfl) (HO.out.keepB HK2.out hbl) (by omega) (by omega) ?_; intro r' c' w3 hown3 hbw3; have HO3 := H! hown3; clear hown3))
   have hs3 := hbw3.size
   go_roundg (n - (k + 1))
   case measure => omega
   case rel => exact ⟨k + 1, r', c', out ++ [x], s3, by simp, by go_num, by omega, by omega, by omega, H! ((HK.out.trans (HK2.out.mono hsz)).trans (below_keepB hbw3)), HO3, H! (HR2.out.below hbw3 hbl), HP2, H! (by rw [List.length_append, HL.out]; rfl)⟩
  ·
   obtain rfl : k = n := by omega
   have HQ : Hid ((out, s2) = PL) := H! (by rw [HP.out, HE.out])
   clear HP HE
   have hq := HQ.out
   subst hq
   go_wp2
   go_ret
   exact ⟨r, c, by first | rfl | (simp; done), HO.out, HR.out, HK.out⟩
theorem mdec_len (r : Option Addr) (c n : Nat) (w : World) (hn : n ≤ 100000) (h : n ≠ 12) : Calls Tryz.prog 84 #[.slice r n c] w fun e w' => e = .returned (.tuple #[.agg #[.int .i64 0, .int .i64 0, .int .i64 0, .int .i64 0, .int .i64 0], .int .i64 3]) ∧ Below w.heap.size w w' := by
 have h1 : ((n : Int) == 12) = false := by simp; omega
 have h2 : ¬ (n : Int) = 12 := by omega
 go_enter Tryz.func84, Tryz.ntmps84
 go_wp2
 refine bodyPost_ret (by simp [results, Tryz.results84, go_sem, *]; try rfl) rfl ?_
 exact ⟨rfl, bw⟩
theorem decI_b4 {bs : List Int} (h : bs.length = 12) : ∀ i, i < 8 → (bs.drop 4).getD i 0 = bs.getD (4 + i) 0 := fun i _ => by
 simp [List.getD, List.getElem?_drop]
theorem valB_eq (bs : List Int) : valB bs = wrap64 (rawB bs) := by
 unfold valB
 rw [IntKind.wrap_i64]
 unfold wrap64
 omega
theorem valB_i64 (bs : List Int) : I64 (valB bs) := by
 rw [valB_eq]
 unfold I64 wrap64
 simp [Lit.wf, IntKind.min, IntKind.max, IntKind.bits, IntKind.signed]
 omega
set_option maxRecDepth 100000 in
theorem mdec_any (B off c : Nat) (bs : List Int) (w : World) (hx : IsInts w (some ⟨B, off, none⟩) c .u8 bs) (hn : bs.length = 12) : Calls Tryz.prog 84 #[.slice (some ⟨B, off, none⟩) 12 c] w fun e w' =>
  (formI (decI bs) = true → e = .returned (.tuple #[.agg #[.int .i64 (decI bs).op, .int .i64 (decI bs).a, .int .i64 (decI bs).b, .int .i64 (decI bs).c, .int .i64 (decI bs).k], .int .i64 0])) ∧ (formI (decI bs) = false → e = .returned (.tuple #[.agg #[.int .i64 0, .int .i64 0, .int .i64 0, .int .i64 0, .int .i64 0], .int .i64 3])) ∧ Below w.heap.size w w' := by
 have hle := hx.le
 rw [hn] at hle
 have hmx := hx.max
 unfold maxLen at hmx
 obtain ⟨b', off', he, hb, hc⟩ := hx.cells (fun e => by rw [e] at hn; simp at hn)
 simp only [Option.some.injEq, Addr.mk.injEq, and_true] at he
 obtain ⟨rfl, rfl⟩ := he
 have hby : ByteL (bs.drop 4) := fun x h => wf_u8 (hx.wf x (List.mem_of_mem_drop h))
 have hd8 : (bs.drop 4).length = 8 := by rw [List.length_drop, hn]
 have HC4 : Hid (∀ i, i < 8 → w.cell? ⟨B, off + 4 + i, none⟩ = some (.int .u8 ((bs.drop 4).getD i 0))) := H! (fun i hi => by
  rw [decI_b4 hn i hi, Nat.add_assoc]
  exact hc (4 + i) (by omega))
 have q0 := hc 0 (by omega)
 have q1 := hc 1 (by omega)
 have q2 := hc 2 (by omega)
 have q3 := hc 3 (by omega)
 have b0 := wf_u8 (hx.wf _ (getD_mem' (xs := bs) (k := 0) (by omega)))
 have b1 := wf_u8 (hx.wf _ (getD_mem' (xs := bs) (k := 1) (by omega)))
 have b2 := wf_u8 (hx.wf _ (getD_mem' (xs := bs) (k := 2) (by omega)))
 have b3 := wf_u8 (hx.wf _ (getD_mem' (xs := bs) (k := 3) (by omega)))
 have HD : Hid (decI bs = ⟨bs.getD 0 0, bs.getD 1 0, bs.getD 2 0, bs.getD 3 0, valB (bs.drop 4)⟩) := H! rfl
 rw [HD.out]
 have HF := H! (fun W => formed_any (bs.getD 0 0) (bs.getD 1 0) (bs.getD 2 0) (bs.getD 3 0) (valB (bs.drop 4)) (valB_i64 _) W)
 have HFE : Hid (formI ⟨bs.getD 0 0, bs.getD 1 0, bs.getD 2 0, bs.getD 3 0, valB (bs.drop 4)⟩ = formB (bs.getD 0 0) (bs.getD 1 0) (bs.getD 2 0) (bs.getD 3 0) (valB (bs.drop 4))) := H! rfl
 rw [HFE.out]
 clear hc hx HD HFE
 have HRT : Hid (∀ k, k < 8 → rawB ((bs.drop 4).take (k + 1)) = rawB ((bs.drop 4).take k) * 256 + (bs.drop 4).getD k 0) := H! (fun k hk => rawB_take (by omega))
 have HRB : Hid (∀ k, k < 8 → 0 ≤ rawB ((bs.drop 4).take k) ∧ rawB ((bs.drop 4).take k) < 72057594037927936) := H! (fun k hk => rawB_lt56 hby hk)
 have HBY : Hid (∀ k, k < 8 → 0 ≤ (bs.drop 4).getD k 0 ∧ (bs.drop 4).getD k 0 ≤ 255) := H! (fun k hk => hby _ (getD_mem' (by omega)))
 have HVB := H! (valB_eq (bs.drop 4))
 have HLL := H! hd8
 clear hby hd8 hn
 simp only [Nat.add_zero] at q0
 generalize bs.getD 0 0 = x0 at *
 generalize bs.getD 1 0 = x1 at *
 generalize bs.getD 2 0 = x2 at *
 generalize bs.getD 3 0 = x3 at *
 generalize hdr : bs.drop 4 = l at *
 generalize valB l = V at *
 generalize formB x0 x1 x2 x3 V = fv at *
 have v0 : IntKind.i64.wrap x0 = x0 := IntWalk.i64_in _ (by omega)
 have v1 : IntKind.i64.wrap x1 = x1 := IntWalk.i64_in _ (by omega)
 have v2 : IntKind.i64.wrap x2 = x2 := IntWalk.i64_in _ (by omega)
 have v3 : IntKind.i64.wrap x3 = x3 := IntWalk.i64_in _ (by omega)
 have g1 : (12 : Int) ≤ c := by omega
 have g2 : ¬ c = 4 := by omega
 go_enter Tryz.func84, Tryz.ntmps84
 go_wp2
 have hbW : Below w.heap.size w (w.alloc (.cells #[.int .i64 0, .int .i64 0, .int .i64 0, .int .i64 0, .int .i64 0] 42)) := (Below.refl _ _).alloc (Nat.le_refl _) _
 have z5 : ∀ j : Nat, (w.alloc (.cells #[.int .i64 0, .int .i64 0, .int .i64 0, .int .i64 0, .int .i64 0] 42)).cell? ⟨w.heap.size, j, none⟩ = (#[.int .i64 0, .int .i64 0, .int .i64 0, .int .i64 0, .int .i64 0] : Array Value)[j]? := fun j => World.cell?_alloc_new _ _ _ _
 have y0 : (w.alloc (.cells #[.int .i64 0, .int .i64 0, .int .i64 0, .int .i64 0, .int .i64 0] 42)).cell? ⟨w.heap.size, 0, none⟩ = some (.int .i64 0) := z5 0
 have y1 : (w.alloc (.cells #[.int .i64 0, .int .i64 0, .int .i64 0, .int .i64 0, .int .i64 0] 42)).cell? ⟨w.heap.size, 1, none⟩ = some (.int .i64 0) := z5 1
 have y2 : (w.alloc (.cells #[.int .i64 0, .int .i64 0, .int .i64 0, .int .i64 0, .int .i64 0] 42)).cell? ⟨w.heap.size, 2, none⟩ = some (.int .i64 0) := z5 2
 have y3 : (w.alloc (.cells #[.int .i64 0, .int .i64 0, .int .i64 0, .int .i64 0, .int .i64 0] 42)).cell? ⟨w.heap.size, 3, none⟩ = some (.int .i64 0) := z5 3
 have y4 : (w.alloc (.cells #[.int .i64 0, .int .i64 0, .int .i64 0, .int .i64 0, .int .i64 0] 42)).cell? ⟨w.heap.size, 4, none⟩ = some (.int .i64 0) := z5 4
 have yf : ∀ j : Nat, (w.alloc (.cells #[.int .i64 0, .int .i64 0, .int .i64 0, .int .i64 0, .int .i64 0] 42)).frozen? ⟨w.heap.size, j, none⟩ = false := fun j => by first | go_keep | (simp [go_sem]; done) | (simp [World.frozen?]; done)
 have hzW : (w.alloc (.cells #[.int .i64 0, .int .i64 0, .int .i64 0, .int .i64 0, .int .i64 0] 42)).heap.size = w.heap.size + 1 := zA _ _
 clear z5
 have p0 := (hbW.cell (p := ⟨B, off, none⟩) hb).trans q0
 have p1 := (hbW.cell (p := ⟨B, off + 1, none⟩) hb).trans q1
 have p2 := (hbW.cell (p := ⟨B, off + 2, none⟩) hb).trans q2
 have p3 := (hbW.cell (p := ⟨B, off + 3, none⟩) hb).trans q3
 have HC5 : Hid (∀ i, i < 8 → (w.alloc (.cells #[.int .i64 0, .int .i64 0, .int .i64 0, .int .i64 0, .int .i64 0] 42)).cell? ⟨B, off + 4 + i, none⟩ = some (.int .u8 (l.getD i 0))) := H! (fun i hi => (hbW.cell (p := ⟨B, off + 4 + i, none⟩) hb).trans (HC4.out i hi))
 clear q0 q1 q2 q3 HC4
 generalize w.alloc (.cells #[.int .i64 0, .int .i64 0, .int .i64 0, .int .i64 0, .int .i64 0] 42) = W1 at *
 go_loopg [4, 15] 8 (fun kx s4 s15 wr => ∃ (k : Nat) (a : Int), s4 = .int .u64 a ∧ s15 = .int .i64 k ∧ k ≤ 8 ∧ 8 - k ≤ kx ∧ wr = W1 ∧ Hid (a = rawB (l.take k)))
 case atStart => exact ⟨0, 0, rfl, rfl, by omega, by omega, rfl, H! (by simp [rawB])⟩
 case round =>
  obtain ⟨k, a, rfl, rfl, hk, hkx, hw, HA⟩ := hrel
  subst hw
  by_cases hlt : k < 8
  ·
   have hk1 : (0 : Int) ≤ (k : Int) := by omega
   have hk2 : (k : Int) < 8 := by omega
   have hc1 := HC5.out k hlt
   have hxb := HBY.out k hlt
   have hab := HRB.out k hlt
   rw [← HA.out] at hab
   have HA2 := HRT.out k hlt
   rw [← HA.out] at HA2
   have HA3 := H! HA2
   clear HA2
   generalize l.getD k 0 = x at *
   have e1 : IntKind.u64.wrap (a * 256) = a * 256 := by simp [IntKind.wrap, IntKind.signed, IntKind.bits]; omega
   have e2 : IntKind.u64.wrap x = x := by simp [IntKind.wrap, IntKind.signed, IntKind.bits]; omega
   have e3 := or_low64 hab.1 hab.2 hxb.1 hxb.2
   go_wp2
   go_roundg (8 - (k + 1))
   case measure => omega
   case rel => exact ⟨k + 1, a * 256 + x, rfl, by go_num, by omega, by omega, rfl, H! HA3.out.symm⟩
  ·
   obtain rfl : k = 8 := by omega
   have HE : Hid (wrap64 a = V) := H! (by rw [HVB.out, HA.out, ← HLL.out, List.take_length])
   have hv : wrap64 a = V := HE.out
   have hv2 : IntKind.i64.wrap a = V := by rw [← hv, IntKind.wrap_i64]; unfold wrap64; omega
   clear HRT HRB HBY HC5 HA HVB
   go_wp2
   go_region_held3 (fun v => v.cell? ⟨B, off, none⟩ = some (.int .u8 x0) ∧ v.cell? ⟨B, off + 1, none⟩ = some (.int .u8 x1) ∧ v.cell? ⟨B, off + 2, none⟩ = some (.int .u8 x2) ∧ v.cell? ⟨B, off + 3, none⟩ = some (.int .u8 x3)) (first | exact ⟨p0, p1, p2, p3⟩ | go_keep) (fail)
   have hs1 : wr.heap.size = w.heap.size + 1 := hzW
   cases fv
   ·
    go_wp2_with (first | (go_at_call 106; refine (HF.out _).mono ?_; rintro _ w2 ⟨rfl, hb2⟩; obtain ⟨hb2c, hb2f⟩ := bcell hb2; have hb2s := hb2.size; (try simp only [zA, World.size_drew] at hb2s); have hx2 : w.heap.size < w2.heap.size := (by omega); have hx3 : w.heap.size < wr.heap.size := (by omega); have hx4 : w.heap.size < wr.heap.size + 1 := (by omega)))
    have hB2 : Below wr.heap.size wr w2 := bw
    have m0 : w2.cell? ⟨w.heap.size, 0, none⟩ = some (.int .i64 0) := (hB2.cell (p := ⟨w.heap.size, 0, none⟩) hx3).trans y0
    have m1 : w2.cell? ⟨w.heap.size, 1, none⟩ = some (.int .i64 0) := (hB2.cell (p := ⟨w.heap.size, 1, none⟩) hx3).trans y1
    have m2 : w2.cell? ⟨w.heap.size, 2, none⟩ = some (.int .i64 0) := (hB2.cell (p := ⟨w.heap.size, 2, none⟩) hx3).trans y2
    have m3 : w2.cell? ⟨w.heap.size, 3, none⟩ = some (.int .i64 0) := (hB2.cell (p := ⟨w.heap.size, 3, none⟩) hx3).trans y3
    have m4 : w2.cell? ⟨w.heap.size, 4, none⟩ = some (.int .i64 0) := (hB2.cell (p := ⟨w.heap.size, 4, none⟩) hx3).trans y4
    have hB3 : Below w.heap.size w w2 := hbW.trans (hB2.mono (by omega))
    refine bodyPost_ret (by simp [results, Tryz.results84, go_sem, *]; try rfl) rfl ?_
    have hBz : ∀ v0 v1 v2 v3 v4, Below w.heap.size w (((((w2.setCell ⟨w.heap.size, 0, none⟩ v0).setCell ⟨w.heap.size, 1, none⟩ v1).setCell ⟨w.heap.size, 2, none⟩ v2).setCell ⟨w.heap.size, 3, none⟩ v3).setCell ⟨w.heap.size, 4, none⟩ v4) := fun _ _ _ _ _ => (((((hB3).setCell (p := ⟨w.heap.size, 0, none⟩) (Nat.le_refl _) _).setCell (p := ⟨w.heap.size, 1, none⟩) (Nat.le_refl _) _).setCell (p := ⟨w.heap.size, 2, none⟩) (Nat.le_refl _) _).setCell (p := ⟨w.heap.size, 3, none⟩) (Nat.le_refl _) _).setCell (p := ⟨w.heap.size, 4, none⟩) (Nat.le_refl _) _
    first | exact ⟨fun h => by cases h, fun _ => rfl, hBz _ _ _ _ _⟩ | exact ⟨rfl, hBz _ _ _ _ _⟩ | exact ⟨fun _ => rfl, hBz _ _ _ _ _⟩ | exact ⟨trivial, rfl, hBz _ _ _ _ _⟩ | exact hBz _ _ _ _ _
   ·
    go_wp2_with (first | (go_at_call 106; refine (HF.out _).mono ?_; rintro _ w2 ⟨rfl, hb2⟩; obtain ⟨hb2c, hb2f⟩ := bcell hb2; have hb2s := hb2.size; (try simp only [zA, World.size_drew] at hb2s); have hx2 : w.heap.size < w2.heap.size := (by omega); have hx3 : w.heap.size < wr.heap.size := (by omega); have hx4 : w.heap.size < wr.heap.size + 1 := (by omega)))
    have hB2 : Below wr.heap.size wr w2 := bw
    have m0 : w2.cell? ⟨w.heap.size, 0, none⟩ = some (.int .i64 0) := (hB2.cell (p := ⟨w.heap.size, 0, none⟩) hx3).trans y0
    have m1 : w2.cell? ⟨w.heap.size, 1, none⟩ = some (.int .i64 0) := (hB2.cell (p := ⟨w.heap.size, 1, none⟩) hx3).trans y1
    have m2 : w2.cell? ⟨w.heap.size, 2, none⟩ = some (.int .i64 0) := (hB2.cell (p := ⟨w.heap.size, 2, none⟩) hx3).trans y2
    have m3 : w2.cell? ⟨w.heap.size, 3, none⟩ = some (.int .i64 0) := (hB2.cell (p := ⟨w.heap.size, 3, none⟩) hx3).trans y3
    have m4 : w2.cell? ⟨w.heap.size, 4, none⟩ = some (.int .i64 0) := (hB2.cell (p := ⟨w.heap.size, 4, none⟩) hx3).trans y4
    have hB3 : Below w.heap.size w w2 := hbW.trans (hB2.mono (by omega))
    refine bodyPost_ret (by simp [results, Tryz.results84, go_sem, *]; try rfl) rfl ?_
    have hBz : ∀ v0 v1 v2 v3 v4, Below w.heap.size w (((((w2.setCell ⟨w.heap.size, 0, none⟩ v0).setCell ⟨w.heap.size, 1, none⟩ v1).setCell ⟨w.heap.size, 2, none⟩ v2).setCell ⟨w.heap.size, 3, none⟩ v3).setCell ⟨w.heap.size, 4, none⟩ v4) := fun _ _ _ _ _ => (((((hB3).setCell (p := ⟨w.heap.size, 0, none⟩) (Nat.le_refl _) _).setCell (p := ⟨w.heap.size, 1, none⟩) (Nat.le_refl _) _).setCell (p := ⟨w.heap.size, 2, none⟩) (Nat.le_refl _) _).setCell (p := ⟨w.heap.size, 3, none⟩) (Nat.le_refl _) _).setCell (p := ⟨w.heap.size, 4, none⟩) (Nat.le_refl _) _
    first | exact ⟨fun _ => rfl, fun h => by cases h, hBz _ _ _ _ _⟩ | exact ⟨rfl, hBz _ _ _ _ _⟩ | exact ⟨fun _ => rfl, hBz _ _ _ _ _⟩ | exact ⟨trivial, rfl, hBz _ _ _ _ _⟩ | exact hBz _ _ _ _ _
def OwnI (W : World) (base : Nat) (r : Option Addr) (cap : Nat) (xs : List Int) : Prop := W.ownsRow base 3 1 (.slice r xs.length cap) xs.length (xs.map (Value.int .i64))
theorem OwnI.nil (W : World) (base : Nat) : OwnI W base none 0 [] := World.ownsRow_nil _ _ _ _
theorem OwnI.lt {W : World} {base : Nat} {r : Option Addr} {cap : Nat} {xs : List Int} (h : OwnI W base r cap xs) : ∀ a, r = some a → base ≤ a.block ∧ a.block < W.heap.size := fun a ha => by
 subst ha
 exact World.ownsRow.lt h a.block rfl
theorem OwnI.below {W W' : World} {base B : Nat} {r : Option Addr} {cap : Nat} {xs : List Int} (h : OwnI W base r cap xs) (hb : Below B W W') (hB : W.heap.size ≤ B) : OwnI W' base r cap xs := by
 refine ⟨h.1, ?_⟩
 rcases h.2 with ⟨h1, h2⟩ | ⟨g, c, cur, h1, h2, h3, h4⟩
 ·
  exact Or.inl ⟨h1, h2⟩
 ·
  refine Or.inr ⟨g, c, cur, h1, h2, ?_, h4⟩
  rw [hb.block g ?_]
  ·
   exact h3
  ·
   rcases Nat.lt_or_ge g W.heap.size with hlt | hge
   ·
    omega
   ·
    rw [Array.getElem?_eq_none hge] at h3; cases h3
theorem OwnI.ints {W : World} {base : Nat} {r : Option Addr} {cap : Nat} {xs : List Int} (h : OwnI W base r cap xs) (hw : ∀ x ∈ xs, (Lit.int .i64 x).wf = true) : IsInts W r cap .i64 xs := by
 obtain ⟨h0, h2⟩ := h
 rcases h2 with ⟨h1, h3⟩ | ⟨g, c, cur, h1, h3, h4, h5, h6, h7, h8⟩
 ·
  obtain rfl : xs = [] := List.length_eq_zero_iff.1 h3
  simp only [Value.slice.injEq] at h1
  obtain ⟨rfl, _, rfl⟩ := h1
  exact ⟨Nat.le_refl _, Nat.zero_le _, by simp, fun h => absurd rfl h⟩
 ·
  simp only [Value.slice.injEq] at h1
  obtain ⟨rfl, _, rfl⟩ := h1
  have hlt : g < W.heap.size := by
   rcases Nat.lt_or_ge g W.heap.size with hlt | hge
   ·
    exact hlt
   ·
    rw [Array.getElem?_eq_none hge] at h4; cases h4
  refine ⟨h5, h6, hw, fun _ => ⟨g, 0, rfl, hlt, fun i hi => ?_⟩⟩
  have := World.ownsRow.cellAt (w := W) (base := base) (e := 3) (size := 1) (g := g) (n := xs.length) (cap := cap) (xs := xs.map (Value.int .i64)) ⟨h0, Or.inr ⟨g, cap, cur, rfl, h3, h4, h5, h6, h7, h8⟩⟩ i (by omega)
  rw [Nat.zero_add, this]
  simp [List.getElem?_map, List.getD, List.getElem?_eq_getElem hi]
def OwnR {α : Type} (t : TypeId) (sz : Nat) (enc : α → List Value) (W : World) (base : Nat) (r : Option Addr) (cap : Nat) (rows : List α) : Prop := W.ownsRow base t sz (.slice r rows.length cap) rows.length (rows.flatMap enc)
section
variable {α : Type} {t : TypeId} {sz : Nat} {enc : α → List Value}
theorem OwnR.nil (W : World) (base : Nat) : OwnR t sz enc W base none 0 ([] : List α) := World.ownsRow_nil _ _ _ _
theorem OwnR.below {W W' : World} {base B : Nat} {r : Option Addr} {cap : Nat} {xs : List α} (h : OwnR t sz enc W base r cap xs) (hb : Below B W W') (hB : W.heap.size ≤ B) : OwnR t sz enc W' base r cap xs := by
 refine ⟨h.1, ?_⟩
 rcases h.2 with ⟨h1, h2⟩ | ⟨g, c, cur, h1, h2, h3, h4⟩
 ·
  exact Or.inl ⟨h1, h2⟩
 ·
  refine Or.inr ⟨g, c, cur, h1, h2, ?_, h4⟩
  rw [hb.block g ?_]
  ·
   exact h3
  ·
   rcases Nat.lt_or_ge g W.heap.size with hlt | hge
   ·
    omega
   ·
    rw [Array.getElem?_eq_none hge] at h3; cases h3
theorem OwnR.base {W : World} {base base' : Nat} {r : Option Addr} {cap : Nat} {xs : List α} (h : OwnR t sz enc W base r cap xs) (hb : base' ≤ base) : OwnR t sz enc W base' r cap xs := by
 refine ⟨h.1, ?_⟩
 rcases h.2 with h1 | ⟨g, c, cur, h1, h2, h3⟩
 ·
  exact Or.inl h1
 ·
  exact Or.inr ⟨g, c, cur, h1, by omega, h3⟩
theorem flat_at {xs : List α} (henc : ∀ x, (enc x).length = sz) : ∀ {i j : Nat} {x : α}, xs[i]? = some x → j < sz → (xs.flatMap enc)[i * sz + j]? = (enc x)[j]? := by
 induction xs with
 | nil => intro i j x h _; simp at h
 | cons a l ih =>
  intro i j x h hj
  rw [List.flatMap_cons]
  cases i with
  | zero =>
   simp at h
   subst h
   rw [Nat.zero_mul, Nat.zero_add, List.getElem?_append_left (by rw [henc]; exact hj)]
  | succ i =>
   have h' : l[i]? = some x := by simpa using h
   rw [List.getElem?_append_right (by rw [henc, Nat.succ_mul]; omega), henc, show (i + 1) * sz + j - sz = i * sz + j by rw [Nat.succ_mul]; omega]
   exact ih h' hj
theorem OwnR.cells {W : World} {base : Nat} {r : Option Addr} {cap : Nat} {xs : List α} (h : OwnR t sz enc W base r cap xs) (henc : ∀ x, (enc x).length = sz) (hne : xs ≠ []) :
  ∃ g, r = some ⟨g, 0, none⟩ ∧ base ≤ g ∧ g < W.heap.size ∧ xs.length ≤ cap ∧ cap ≤ maxLen ∧ ∀ i j x u, xs[i]? = some x → (enc x)[j]? = some u → W.cell? ⟨g, i * sz + j, none⟩ = some u := by
 obtain ⟨h0, h2⟩ := h
 rcases h2 with ⟨_, h3⟩ | ⟨g, c, cur, h1, h3, h4, h5, h6, h7, h8⟩
 ·
  exact absurd (List.length_eq_zero_iff.1 h3) hne
 ·
  simp only [Value.slice.injEq] at h1
  obtain ⟨rfl, _, rfl⟩ := h1
  have hlt : g < W.heap.size := by
   rcases Nat.lt_or_ge g W.heap.size with hlt | hge
   ·
    exact hlt
   ·
    rw [Array.getElem?_eq_none hge] at h4; cases h4
  refine ⟨g, rfl, h3, hlt, h5, h6, fun i j x u hi hj => ?_⟩
  have hil : i < xs.length := (List.getElem?_eq_some_iff.1 hi).1
  have hjl : j < sz := by rw [← henc x]; exact (List.getElem?_eq_some_iff.1 hj).1
  have hf := flat_at henc hi hjl
  rw [hj] at hf
  have hlt2 : i * sz + j < xs.length * sz := by
   have : (i + 1) * sz ≤ xs.length * sz := Nat.mul_le_mul_right sz hil
   rw [Nat.succ_mul] at this
   omega
  have := World.ownsRow.cellAt (w := W) (base := base) (e := t) (size := sz) (g := g) (n := xs.length) (cap := cap) (xs := xs.flatMap enc) ⟨h0, Or.inr ⟨g, cap, cur, rfl, h3, h4, h5, h6, h7, h8⟩⟩ (i * sz + j) hlt2
  rw [this, hf]
end
def AtV (W : World) (b : Nat) (l : List Value) : Prop := ∀ i v, l[i]? = some v → W.cell? ⟨b, i, none⟩ = some v ∧ W.frozen? ⟨b, i, none⟩ = false
theorem AtV.set {W : World} {b : Nat} {l : List Value} (h : AtV W b l) {j : Nat} (hj : j < l.length) (v : Value) : AtV (W.setCell ⟨b, j, none⟩ v) b (l.set j v) := by
 intro i u hi
 rw [World.frozen?_setCell]
 rw [List.getElem?_set] at hi
 by_cases e : j = i
 ·
  subst e
  rw [if_pos rfl, if_pos hj] at hi
  obtain ⟨h1, h2⟩ := h j _ (List.getElem?_eq_getElem hj)
  refine ⟨?_, h2⟩
  rw [World.cell?_setCell_same' _ _ _ (by rw [h1]; rfl)]
  simpa using hi
 ·
  rw [if_neg e] at hi
  obtain ⟨h1, h2⟩ := h i _ hi
  refine ⟨?_, h2⟩
  rw [World.cell?_setCell_other (h := fun h => e (by cases h; rfl))]
  exact h1
theorem AtV.keep {W W' : World} {b : Nat} {l : List Value} (h : AtV W b l) (hb : W'.heap[b]? = W.heap[b]?) : AtV W' b l := fun i v hi =>
 ⟨(World.cell?_of_block (a := ⟨b, i, none⟩) hb).trans (h i v hi).1, (World.frozen?_of_block (a := ⟨b, i, none⟩) hb).trans (h i v hi).2⟩
theorem AtV.new (w : World) (l : List Value) (t : TypeId) : AtV (w.alloc (.cells l.toArray t)) w.heap.size l := fun i v hi => by
 refine ⟨?_, ?_⟩
 ·
  rw [World.cell?_alloc_new]; simpa using hi
 ·
  first | go_keep | (simp [go_sem]; done) | (simp [World.frozen?]; done)
def Off (g : Option Addr) (q : Nat) : Prop := ∀ a, g = some a → a.block ≠ q
structure IntsO (B : Nat) (g : Option Addr) (W : World) (r : Option Addr) (c : Nat) (xs : List Int) : Prop where
 ints : IsInts W r c .i64 xs
 at_ : ∀ a, r = some a → B ≤ a.block ∧ a.block < W.heap.size ∧ Off g a.block
theorem ints_keep {W W' : World} {k : IntKind} {r : Option Addr} {c : Nat} {xs : List Int} (h : IsInts W r c k xs) (hk : ∀ a, r = some a → W'.heap[a.block]? = W.heap[a.block]?) (hz : W.heap.size ≤ W'.heap.size) : IsInts W' r c k xs :=
 ⟨h.le, h.max, h.wf, fun hne => by
  obtain ⟨b, off, h1, h2, h3⟩ := h.cells hne
  exact ⟨b, off, h1, by omega, fun i hi => (World.cell?_of_block (a := ⟨b, off + i, none⟩) (hk ⟨b, off, none⟩ h1)).trans (h3 i hi)⟩⟩
theorem IntsO.step {B : Nat} {g g' : Option Addr} {W W' : World} {r : Option Addr} {c : Nat} {xs : List Int} (h : IntsO B g W r c xs) (hst : ∀ q, B ≤ q → q < W.heap.size → Off g q → W'.heap[q]? = W.heap[q]?) (hz : W.heap.size ≤ W'.heap.size)
  (hg : ∀ a, g' = some a → (∃ a0, g = some a0 ∧ a0.block = a.block) ∨ W.heap.size ≤ a.block) : IntsO B g' W' r c xs :=
 ⟨ints_keep h.ints (fun a ha => hst _ (h.at_ a ha).1 (h.at_ a ha).2.1 (h.at_ a ha).2.2) hz, fun a ha => by
  obtain ⟨h1, h2, h3⟩ := h.at_ a ha
  refine ⟨h1, by omega, fun x hx => ?_⟩
  rcases hg x hx with ⟨a0, h4, h5⟩ | h4
  ·
   rw [← h5]; exact h3 a0 h4
  ·
   omega⟩
theorem IntsO.base {B B' : Nat} {g : Option Addr} {W : World} {r : Option Addr} {c : Nat} {xs : List Int} (h : IntsO B g W r c xs) (hb : B' ≤ B) : IntsO B' g W r c xs :=
 ⟨h.ints, fun a ha => ⟨by have := (h.at_ a ha).1; omega, (h.at_ a ha).2⟩⟩
theorem IntsO.new {B D : Nat} {g : Option Addr} {W : World} {r : Option Addr} {c : Nat} {xs : List Int} (h : OwnK .i64 3 W D r c xs) (hD : B ≤ D) (hg : ∀ a, g = some a → a.block < D) (hw : ∀ x ∈ xs, I64 x) : IntsO B g W r c xs :=
 ⟨h.ints (fun x hx => hw x hx), fun a ha => by
  obtain ⟨h1, h2⟩ := h.lt a ha
  exact ⟨by omega, h2, fun x hx => by have := hg x hx; omega⟩⟩
theorem IntsO.done {B : Nat} {g : Option Addr} {W : World} {r : Option Addr} {c : Nat} {xs : List Int} (h : IntsO B g W r c xs) {g' : Option Addr} (hg : ∀ a, g' = some a → a.block < B) : IntsO B g' W r c xs :=
 ⟨h.ints, fun a ha => ⟨(h.at_ a ha).1, (h.at_ a ha).2.1, fun x hx => by have := hg x hx; have := (h.at_ a ha).1; omega⟩⟩
section
variable {α : Type} {t : TypeId} {sz : Nat} {enc : α → List Value}
theorem OwnR.lt {W : World} {base : Nat} {r : Option Addr} {cap : Nat} {xs : List α} (h : OwnR t sz enc W base r cap xs) : ∀ a, r = some a → base ≤ a.block ∧ a.block < W.heap.size := fun a ha => by
 subst ha
 exact World.ownsRow.lt h a.block rfl
theorem OwnR.keep {W W' : World} {base : Nat} {r : Option Addr} {cap : Nat} {xs : List α} (h : OwnR t sz enc W base r cap xs) (hk : ∀ a, r = some a → W'.heap[a.block]? = W.heap[a.block]?) : OwnR t sz enc W' base r cap xs := by
 refine ⟨h.1, ?_⟩
 rcases h.2 with ⟨h1, h2⟩ | ⟨g, c, cur, h1, h2, h3, h4⟩
 ·
  exact Or.inl ⟨h1, h2⟩
 ·
  refine Or.inr ⟨g, c, cur, h1, h2, ?_, h4⟩
  simp only [Value.slice.injEq] at h1
  rw [hk _ h1.1]
  exact h3
theorem OwnR.isS {W : World} {base : Nat} {r : Option Addr} {cap : Nat} {xs : List α} (h : OwnR t sz enc W base r cap xs) (henc : ∀ x, (enc x).length = sz) : IsS sz enc W r cap xs := by
 by_cases hne : xs = []
 ·
  subst hne
  rcases h.2 with ⟨h1, h3⟩ | ⟨g, c, cur, h1, h3, h4, h5, h6, h7, h8⟩
  ·
   simp only [Value.slice.injEq] at h1
   obtain ⟨_, _, rfl⟩ := h1
   exact ⟨Nat.le_refl _, Nat.zero_le _, fun h => absurd rfl h⟩
  ·
   simp only [Value.slice.injEq] at h1
   obtain ⟨_, _, rfl⟩ := h1
   exact ⟨h5, h6, fun h => absurd rfl h⟩
 ·
  obtain ⟨g, h1, h2, h3, h4, h5, h6⟩ := h.cells henc hne
  exact ⟨h4, h5, fun _ => ⟨g, 0, h1, h3, fun i x hi j u hj => by rw [Nat.zero_add]; exact h6 i j x u hi hj⟩⟩
theorem wpList_append_rowf {ts : TypeId} {z : Value} {by' : Nat} (hts : Tryz.prog.underlying ts = some (.slice t)) (hinf : (Tryz.prog.info? t).map (fun i => (i.zero, i.size, i.bytes)) = some (some z, sz, by')) (hzs : z.cells.size = sz) (h0 : 0 < sz) (hby : by' ≤ 128)
  {ops : Array Oper} {rest : List Oper} {o : Oper} {a : Act} {Q : Exit → Act → World → Prop} {w : World} (hgd : o.guard = none) (s x : Operand)
  (ho : o.op = .call { callee := .builtin .append, args := #[s, x], argTypes := #[ts, ts] }) (w0 : World) (base : Nat) (r : Option Addr) (cap : Nat) (xs : List α) (p : α) (henc : (enc p).length = sz) (hone : ∀ u ∈ enc p, u.oneCell' = true)
  (hw : w = w0.alloc (.cells (enc p).toArray t)) (hs : a.eval s = .slice r xs.length cap) (hx : a.eval x = .slice (some ⟨w0.heap.size, 0, none⟩) 1 1)
  (hown : OwnR t sz enc w0 base r cap xs) (hl : xs.length ≤ 549755813888) (hb : base ≤ w0.heap.size)
  (h : ∀ r' cap' w', OwnR t sz enc w' base r' cap' (xs ++ [p]) → Below base w0 w' → (∀ q, q < w0.heap.size → (∀ a, r = some a → a.block ≠ q) → w'.heap[q]? = w0.heap[q]?) → (∀ a, r' = some a → (∃ a0, r = some a0 ∧ a0.block = a.block) ∨ w0.heap.size ≤ a.block) → wpList Tryz.prog ops Q rest (a.put o.dst (.slice r' (xs.length + 1) cap')) w') : wpList Tryz.prog ops Q (o :: rest) a w := by
 subst hw
 obtain ⟨i0, hi, hz0, hz1, hz2⟩ := info_parts hinf
 have hown2 : (w0.alloc (.cells (enc p).toArray t)).ownsRow base t sz (.slice r xs.length cap) xs.length (xs.flatMap enc) := World.ownsRow.alloc hown _
 refine wpList_append_lies (w0.alloc (.cells (enc p).toArray t)) hgd s x ts ho base t i0 z sz by' hts hi hz0 hz1 hz2 hzs h0 _ xs.length (xs.flatMap enc) hs hown2 ⟨w0.heap.size, 0, none⟩ 1 1 (enc p) hx (by rw [henc, Nat.one_mul]) ?_ hone (by omega) ?_ ?_ (by simp; omega) _ rfl ?_
 ·
  intro j u hj
  have : (⟨w0.heap.size, 0, none⟩ : Addr).add j = ⟨w0.heap.size, j, none⟩ := by
   by_cases hj0 : j = 0
   ·
    subst hj0; simp [Addr.add]
   ·
    simp [Addr.add, hj0]
  rw [this, World.cell?_alloc_new]
  simpa using hj
 ·
  unfold maxLen; omega
 ·
  have : (xs.length + 1) * by' ≤ (549755813888 + 1) * 128 := Nat.mul_le_mul (by omega) hby
  omega
 ·
  intro g cap' w1 hown' hgrow hg _
  refine h _ _ _ ?_ ?_ ?_ ?_
  ·
   unfold OwnR
   simpa using hown'
  ·
   exact ((Below.refl base w0).alloc hb _).grown hgrow (by simp only [zA]; omega) (fun k hk => (World.ownsRow.lt hown2 k hk).1)
  ·
   intro q hq hr
   rw [hgrow.block q (by rw [zA]; omega) ?_, Below.heap_alloc _ _ _ hq]
   cases r with
   | none => simp [Value.ownBlock]
   | some a0 =>
    simp only [Value.ownBlock, ne_eq, Option.some.injEq]
    exact fun e => hr a0 rfl e.symm
  ·
   intro a ha
   obtain rfl : ⟨g, 0, none⟩ = a := by simpa using ha
   rcases hg with hg | hg
   ·
    cases r with
    | none => simp [Value.ownBlock] at hg
    | some a0 =>
     simp only [Value.ownBlock, Option.some.injEq] at hg
     exact .inl ⟨a0, rfl, hg⟩
   ·
    right
    rw [hg, zA]
    exact Nat.le_succ _
end
structure Rw where
 r : Option Addr
 c : Nat
 l : List Int
instance : Inhabited Rw := ⟨⟨none, 0, []⟩⟩
def Rw.enc (x : Rw) : List Value := [.slice x.r x.l.length x.c]
theorem rows_of {B : Nat} {g : Option Addr} {W : World} {rz : Option Addr} {cz : Nat} {rows : List Rw} (h : IsS 1 Rw.enc W rz cz rows) (hx : ∀ x ∈ rows, IntsO B g W x.r x.c x.l) : IsRows W rz cz (rows.map Rw.l) := by
 refine ⟨by rw [List.length_map]; exact h.le, h.max, fun hne => ?_⟩
 obtain ⟨b, off, h1, h2, h3⟩ := h.cells (fun e => hne (by rw [e]; rfl))
 refine ⟨b, off, h1, h2, fun i hi => ?_⟩
 rw [List.length_map] at hi
 have e1 : rows[i]? = some (rows.getD i default) := getD_some hi
 have e2 : (rows.map Rw.l).getD i [] = (rows.getD i default).l := by
  simp [List.getD, List.getElem?_map, List.getElem?_eq_getElem hi]
 refine ⟨(rows.getD i default).r, (rows.getD i default).c, ?_, ?_⟩
 ·
  rw [e2]
  have := h3 i _ e1 0 _ rfl
  rwa [Nat.mul_one, Nat.add_zero] at this
 ·
  rw [e2]; exact (hx _ (getD_mem_of hi)).ints
theorem infoInstr : (Tryz.prog.info? 42).map (fun i => (i.zero, i.size, i.bytes)) = some (some (.agg #[.int .i64 0, .int .i64 0, .int .i64 0, .int .i64 0, .int .i64 0]), 5, 40) := by kernel_rfl
theorem infoFixed : (Tryz.prog.info? 73).map (fun i => (i.zero, i.size, i.bytes)) = some (some (.agg #[.int .i64 0, .bool false, .int .i64 0, .int .i64 0, .int .i64 0, .int .i64 0, .int .i64 0, .int .i64 0, .int .i64 0, .int .i64 0]), 10, 80) := by kernel_rfl
theorem infoCurve : (Tryz.prog.info? 55).map (fun i => (i.zero, i.size, i.bytes)) = some (some (.agg #[.slice none 0 0, .slice none 0 0]), 2, 48) := by kernel_rfl
theorem infoMap : (Tryz.prog.info? 60).map (fun i => (i.zero, i.size, i.bytes)) = some (some (.agg #[.slice none 0 0, .slice none 0 0, .slice none 0 0]), 3, 72) := by kernel_rfl
theorem infoRow : (Tryz.prog.info? 26).map (fun i => (i.zero, i.size, i.bytes)) = some (some (.slice none 0 0), 1, 24) := by kernel_rfl
structure Keep2 (D b P : Nat) (W W' : World) : Prop where
 zero : Below 0 W W'
 block : ∀ q, q < D → q ≠ b → q ≠ P → W'.heap[q]? = W.heap[q]?
theorem Keep2.refl (D b P : Nat) (W : World) : Keep2 D b P W W := ⟨Below.refl _ _, fun _ _ _ _ => rfl⟩
theorem Keep2.trans {D b P : Nat} {W W' W'' : World} (h : Keep2 D b P W W') (k : Keep2 D b P W' W'') : Keep2 D b P W W'' := ⟨h.zero.trans k.zero, fun q h1 h2 h3 => (k.block q h1 h2 h3).trans (h.block q h1 h2 h3)⟩
theorem Keep2.mono {D D' b P : Nat} {W W' : World} (h : Keep2 D b P W W') (hd : D' ≤ D) : Keep2 D' b P W W' := ⟨h.zero, fun q h1 h2 h3 => h.block q (by omega) h2 h3⟩
theorem Keep2.ofB {D D' b P : Nat} {W W' : World} (h : KeepB D' b W W') (hd : D ≤ D') : Keep2 D b P W W' := ⟨h.zero, fun q h1 h2 _ => h.block q (by omega) h2⟩
theorem Keep2.ofBelow {D D' b P : Nat} {W W' : World} (h : Below D' W W') (hd : D ≤ D') : Keep2 D b P W W' := ⟨h.mono (Nat.zero_le _), fun q h1 _ _ => h.block q (by omega)⟩
theorem Keep2.setP {D b P : Nat} (W : World) (j : Nat) (v : Value) : Keep2 D b P W (W.setCell ⟨P, j, none⟩ v) := ⟨(Below.refl 0 W).setCell (p := ⟨P, j, none⟩) (Nat.zero_le _) v, fun q _ _ h => Below.heap_setCell _ _ _ _ h⟩
theorem Keep2.setb {D b P : Nat} (W : World) (j : Nat) (v : Value) : Keep2 D b P W (W.setCell ⟨b, j, none⟩ v) := ⟨(Below.refl 0 W).setCell (p := ⟨b, j, none⟩) (Nat.zero_le _) v, fun q _ h _ => Below.heap_setCell _ _ _ _ h⟩
theorem Keep2.toB {D b P : Nat} {W W' : World} (h : Keep2 D b P W W') {B : Nat} (hB : B ≤ D) (hP : B ≤ P) : KeepB B b W W' := ⟨h.zero, fun q h1 h2 => h.block q (by omega) h2 (by omega)⟩
structure KeepA (P : Nat) (W W' : World) : Prop where
 size : W.heap.size ≤ W'.heap.size
 block : ∀ q, P < q → q < W.heap.size → W'.heap[q]? = W.heap[q]?
theorem KeepA.trans {P : Nat} {W W' W'' : World} (h : KeepA P W W') (k : KeepA P W' W'') : KeepA P W W'' := ⟨Nat.le_trans h.size k.size, fun q h1 h2 => (k.block q h1 (Nat.lt_of_lt_of_le h2 h.size)).trans (h.block q h1 h2)⟩
theorem KeepA.of2 {D b P : Nat} {W W' : World} (h : Keep2 D b P W W') (hb : b < P) (hD : W.heap.size ≤ D) : KeepA P W W' := ⟨h.zero.size, fun q h1 h2 => h.block q (by omega) (by omega) (by omega)⟩
theorem KeepA.ofB {b P : Nat} {W W' : World} (h : KeepB W.heap.size b W W') (hb : b < P) : KeepA P W W' := ⟨h.zero.size, fun q h1 h2 => h.block q h2 (by omega)⟩
theorem KeepA.set {P : Nat} (W : World) {q : Nat} (hq : q ≤ P) (j : Nat) (v : Value) : KeepA P W (W.setCell ⟨q, j, none⟩ v) := ⟨by rw [zS]; exact Nat.le_refl _, fun k h1 _ => Below.heap_setCell _ _ _ _ (by show k ≠ q; omega)⟩
theorem Rdr.keep {W0 w w' : World} {b : Nat} {s : Sx} (h : Rdr W0 w b s) (hk : w'.heap[b]? = w.heap[b]?) (hz : w.heap.size ≤ w'.heap.size) : Rdr W0 w' b s := by
 obtain ⟨h1, h2, h3, ra, ca, bs, bad, h4, h5, h6⟩ := h
 exact ⟨by omega, (World.frozen?_of_block (a := ⟨b, 0, none⟩) hk).trans h2, (World.frozen?_of_block (a := ⟨b, 1, none⟩) hk).trans h3, ra, ca, bs, bad, (World.cell?_of_block (a := ⟨b, 0, none⟩) hk).trans h4, (World.cell?_of_block (a := ⟨b, 1, none⟩) hk).trans h5, h6⟩
theorem IsS.keep {α : Type} {sz : Nat} {enc : α → List Value} {W W' : World} {r : Option Addr} {cap : Nat} {xs : List α} (h : IsS sz enc W r cap xs) (hk : ∀ a, r = some a → W'.heap[a.block]? = W.heap[a.block]?) (hz : W.heap.size ≤ W'.heap.size) : IsS sz enc W' r cap xs :=
 ⟨h.le, h.max, fun hne => by
  obtain ⟨b, off, h1, h2, h3⟩ := h.cells hne
  exact ⟨b, off, h1, by omega, fun i x hi j u hj => (World.cell?_of_block (a := ⟨b, off + i * sz + j, none⟩) (hk ⟨b, off, none⟩ h1)).trans (h3 i x hi j u hj)⟩⟩
def insV (i : Ins) : Value := .agg #[.int .i64 i.op, .int .i64 i.a, .int .i64 i.b, .int .i64 i.c, .int .i64 i.k]
theorem pIns_take (s : Sx) : pIns s = if (pTake 12 s).1.length = 12 then (if formI (decI (pTake 12 s).1) = true then (decI (pTake 12 s).1, (pTake 12 s).2) else (default, none)) else (default, none) := by
 cases s with
 | none => simp [pIns, pTake]
 | some bs =>
  unfold pIns pTake
  simp only
  by_cases h : 12 ≤ bs.length
  ·
   have hl : (bs.take 12).length = 12 := by rw [List.length_take]; omega
   rw [if_pos h, if_pos h]
   show _ = (if (bs.take 12).length = 12 then _ else _)
   rw [if_pos hl]
  ·
   rw [if_neg h, if_neg h]
   simp
theorem mdec_pins (r : Option Addr) (c : Nat) (s : Sx) (w : World) (hx : IsInts w r c .u8 (pTake 12 s).1) : Calls Tryz.prog 84 #[.slice r (pTake 12 s).1.length c] w fun e w' => ∃ (i : Ins) (ee : Int), e = .returned (.tuple #[insV i, .int .i64 ee]) ∧ (ee = 0 ∨ ee = 3) ∧ pIns s = (i, if ee = 0 then (pTake 12 s).2 else none) ∧ Below w.heap.size w w' := by
 have hl : (pTake 12 s).1.length ≤ 12 := by
  cases s with
  | none => simp [pTake]
  | some bs =>
   simp only [pTake]
   split
   ·
    rw [List.length_take]; omega
   ·
    simp
 rw [pIns_take]
 by_cases h : (pTake 12 s).1.length = 12
 ·
  rw [if_pos h]
  have hr : ∃ B off, r = some ⟨B, off, none⟩ := by
   obtain ⟨B, off, h1, _⟩ := hx.cells (fun e => by rw [e] at h; simp at h)
   exact ⟨B, off, h1⟩
  obtain ⟨B, off, rfl⟩ := hr
  rw [h]
  refine (mdec_any B off c _ w hx h).mono ?_
  rintro e w' ⟨h1, h2, h3⟩
  cases hf : formI (decI (pTake 12 s).1)
  ·
   exact ⟨default, 3, h2 hf, .inr rfl, by simp, h3⟩
  ·
   exact ⟨decI (pTake 12 s).1, 0, h1 hf, .inl rfl, by simp, h3⟩
 ·
  rw [if_neg h]
  refine (mdec_len r c _ w (by omega) h).mono ?_
  rintro e w' ⟨h1, h2⟩
  exact ⟨default, 3, h1, .inr rfl, by simp, h2⟩
theorem pIns_ok (s : Sx) (hb : SxB s) : (pIns s).1.ok := by
 have h0 : Ins.ok default := ⟨by rfl, by rfl, by rfl, by rfl, by rfl⟩
 rw [pIns_take]
 split
 ·
  split
  ·
   have hby : ByteL (pTake 12 s).1 := by
    cases s with
    | none => intro x hx; simp [pTake] at hx
    | some bs =>
     have := hb bs rfl
     simp only [pTake]
     split
     ·
      exact fun x hx => this x (List.mem_of_mem_take hx)
     ·
      intro x hx; simp at hx
   have hg : ∀ k, I64 ((pTake 12 s).1.getD k 0) := fun k => by
    have : 0 ≤ (pTake 12 s).1.getD k 0 ∧ (pTake 12 s).1.getD k 0 ≤ 255 := byteOf_bd hby k
    generalize (pTake 12 s).1.getD k 0 = x at *
    unfold I64
    simp [Lit.wf, IntKind.min, IntKind.max, IntKind.bits, IntKind.signed]
    omega
   exact ⟨hg 0, hg 1, hg 2, hg 3, valB_i64 _⟩
  ·
   exact h0
 ·
  exact h0
theorem SxB.drop {s : Sx} (h : SxB s) (n : Nat) : SxB (pTake n s).2 := by
 cases s with
 | none => intro bs e; simp [pTake] at e
 | some bs =>
  have := h bs rfl
  intro bs' e
  simp only [pTake] at e
  split at e
  ·
   simp only [Option.some.injEq] at e
   subst e
   exact fun x hx => this x (List.mem_of_mem_drop hx)
  ·
   cases e
theorem Rdr.bytes {W0 w : World} {b : Nat} {s : Sx} (h : Rdr W0 w b s) : SxB s := by
 obtain ⟨_, _, _, ra, ca, bs, bad, _, _, hx, _, rfl⟩ := h
 intro bs' e
 cases bad
 ·
  simp only [Bool.false_eq_true, if_false, Option.some.injEq] at e
  subst e
  exact fun x hx' => wf_u8 (hx.wf x hx')
 ·
  simp at e
theorem i64_0 : I64 0 := by rfl
theorem pFx_ok (s : Sx) : (pFx s).1.ok := by
 have hw := pRep_wf 10 s
 have hg : ∀ k, I64 ((pRep pInt 10 s).1.getD k 0) := fun k => by
  by_cases hk : k < (pRep pInt 10 s).1.length
  ·
   exact hw _ (getD_mem' hk)
  ·
   rw [List.getD_eq_getElem?_getD, List.getElem?_eq_none (by omega)]; exact i64_0
 exact ⟨hg 0, hg 2, hg 3, hg 4, hg 5, hg 6, hg 7, hg 8, hg 9⟩
theorem put_row {α : Type} {t : TypeId} {sz : Nat} {enc : α → List Value} {D b P : Nat} {W0 WD w5 w6 : World} {s : Sx} {cells : List Value} {rows : List α} {r' : Option Addr} {c' : Nat} (hbD : b < D) (hPD : P < D) (hPb : ¬ P = b) (hD : D ≤ w5.heap.size) (hk : Keep2 D b P WD w5) (ha : AtV w5 P cells) (hr : Rdr W0 w5 b s)
  (ho : OwnR t sz enc w6 D r' c' rows) (hbw : Below D w5 w6) (j : Nat) (hj : j < cells.length) (v : Value) : Keep2 D b P WD (w6.setCell ⟨P, j, none⟩ v) ∧ AtV (w6.setCell ⟨P, j, none⟩ v) P (cells.set j v) ∧ OwnR t sz enc (w6.setCell ⟨P, j, none⟩ v) D r' c' rows ∧ Rdr W0 (w6.setCell ⟨P, j, none⟩ v) b s ∧ D ≤ (w6.setCell ⟨P, j, none⟩ v).heap.size := by
 have hz := hbw.size
 refine ⟨(hk.trans (Keep2.ofBelow hbw (Nat.le_refl _))).trans (Keep2.setP _ _ _), (ha.keep (hbw.block _ hPD)).set hj v, ho.keep (fun a h => Below.heap_setCell _ _ _ _ ?_), (hr.below hbw hbD).keep (Below.heap_setCell _ _ _ _ ?_) (by rw [zS]; exact Nat.le_refl _), by rw [zS]; omega⟩
 ·
  have := (ho.lt a h).1
  intro e
  simp only at e
  omega
 ·
  intro e
  simp only at e
  exact hPb e.symm
theorem put_flag {D b P : Nat} {W0 WD w4 : World} {ra : Option Addr} {ca : Nat} {bs : List Int} {bad : Bool} {cells : List Value} (nb : Bool) (hbP : ¬ P = b) (hlt : b < w4.heap.size) (f0 : w4.frozen? ⟨b, 0, none⟩ = false) (f1 : w4.frozen? ⟨b, 1, none⟩ = false) (c0 : w4.cell? ⟨b, 0, none⟩ = some (.slice ra bs.length ca)) (c1 : w4.cell? ⟨b, 1, none⟩ = some (.bool bad)) (hx : IsInts W0 ra ca .u8 bs) (hl : bs.length ≤ 100000)
  (hk : Keep2 D b P WD w4) (ha : AtV w4 P cells) : Rdr W0 (w4.setCell ⟨b, 1, none⟩ (.bool nb)) b (if nb = true then none else some bs) ∧ Keep2 D b P WD (w4.setCell ⟨b, 1, none⟩ (.bool nb)) ∧ AtV (w4.setCell ⟨b, 1, none⟩ (.bool nb)) P cells := by
 refine ⟨⟨by rw [zS]; exact hlt, by rw [World.frozen?_setCell]; exact f0, by rw [World.frozen?_setCell]; exact f1, ra, ca, bs, nb, ?_, ?_, hx, hl, rfl⟩, hk.trans (Keep2.setb _ _ _), ha.keep (Below.heap_setCell _ _ _ _ hbP)⟩
 ·
  rw [World.cell?_setCell_other (h := fun h => by cases h)]; exact c0
 ·
  rw [World.cell?_setCell_same' _ _ _ (by rw [c1]; rfl)]
theorem OwnR.setb {α : Type} {t : TypeId} {sz : Nat} {enc : α → List Value} {W : World} {base : Nat} {r : Option Addr} {cap : Nat} {xs : List α} (h : OwnR t sz enc W base r cap xs) {q j : Nat} (hq : q < base) (v : Value) : OwnR t sz enc (W.setCell ⟨q, j, none⟩ v) base r cap xs :=
 h.keep (fun a ha => Below.heap_setCell _ _ _ _ (fun e => by have := (h.lt a ha).1; simp only at e; omega))
theorem SxB.int {s : Sx} (h : SxB s) : SxB (pInt s).2 := by rw [pInt_take]; exact h.drop 8
theorem SxB.none : SxB none := fun bs e => by cases e
theorem SxB.ins {s : Sx} (h : SxB s) : SxB (pIns s).2 := by
 rw [pIns_take]
 split
 ·
  split
  ·
   exact h.drop 12
  ·
   exact SxB.none
 ·
  exact SxB.none
theorem SxB.rep {α : Type} {f : Sx → α × Sx} (hf : ∀ s, SxB s → SxB (f s).2) {s : Sx} (h : SxB s) (n : Nat) : SxB (pRep f n s).2 := by
 induction n with
 | zero => exact h
 | succ n ih => exact hf _ ih
theorem SxB.fx {s : Sx} (h : SxB s) : SxB (pFx s).2 := by
 unfold pFx
 simp only
 split
 ·
  exact h.rep (fun s h => h.int) 10
 ·
  exact SxB.none
theorem pRep_all {α : Type} {f : Sx → α × Sx} {Q : α → Prop} (hf : ∀ s, SxB s → SxB (f s).2) (hq : ∀ s, SxB s → Q (f s).1) {s : Sx} (h : SxB s) (n : Nat) : ∀ x ∈ (pRep f n s).1, Q x := by
 induction n with
 | zero => intro x hx; simp [pRep] at hx
 | succ n ih =>
  intro x hx
  simp only [pRep, List.mem_append, List.mem_singleton] at hx
  rcases hx with hx | rfl
  ·
   exact ih x hx
  ·
   exact hq _ (h.rep hf n)
theorem OwnR.closed {α : Type} {t : TypeId} {sz : Nat} {enc : α → List Value} {W : World} {D b P : Nat} {r : Option Addr} {cap : Nat} {xs : List α} (h : OwnR t sz enc W D r cap xs) (henc : ∀ x, (enc x).length = sz) (hb : b < D) (hP : P < D) : ∀ W', KeepA P W W' → IsS sz enc W' r cap xs := fun W' hk =>
 (h.isS henc).keep (fun a ha => hk.block _ (by have := (h.lt a ha).1; omega) (h.lt a ha).2) hk.size
theorem rep_snoc {out : List Int} {j n : Nat} (hj : j < n) (v : Int) (ho : out.length = j) : (out ++ List.replicate (n - j) 0).set j v = (out ++ [v]) ++ List.replicate (n - (j + 1)) 0 := by
 obtain ⟨m, hm⟩ : ∃ m, n - j = m + 1 := ⟨n - j - 1, by omega⟩
 rw [hm, show n - (j + 1) = m by omega, List.replicate_succ, List.set_append_right _ _ (by omega), ho, Nat.sub_self]
 simp
theorem rep_at {out : List Int} {j n : Nat} (hj : j < n) (ho : out.length = j) : (out ++ List.replicate (n - j) (0 : Int))[j]? = some 0 := by
 rw [List.getElem?_append_right (by omega), ho, Nat.sub_self, List.getElem?_replicate]
 rw [if_pos (by omega)]
theorem AtL.keep {W W' : World} {b : Nat} {l : List Int} (h : AtL W b l) (hb : W'.heap[b]? = W.heap[b]?) : AtL W' b l := fun i v hi =>
 ⟨(World.cell?_of_block (a := ⟨b, i, none⟩) hb).trans (h i v hi).1, (World.frozen?_of_block (a := ⟨b, i, none⟩) hb).trans (h i v hi).2⟩
theorem pList_wf (s : Sx) : ∀ x ∈ (pList s).1, I64 x := pRep_wf _ _
theorem SxB.list {s : Sx} (h : SxB s) : SxB (pList s).2 := by
 unfold pList
 refine SxB.rep (fun s h => h.int) ?_ _
 rw [pCount_eq]
 have h2 := h.int
 generalize (pInt s).2 = t at *
 cases t with
 | none => exact SxB.none
 | some bs =>
  simp only
  split
  ·
   exact h2
  ·
   exact SxB.none
theorem IntsO.closed {B : Nat} {g : Option Addr} {W : World} {r : Option Addr} {c : Nat} {xs : List Int} (h : IntsO B g W r c xs) {b P : Nat} (hb : b < B) (hP : P < B) : ∀ W', KeepA P W W' → IsInts W' r c .i64 xs := fun W' hk =>
 ints_keep h.ints (fun a ha => hk.block _ (by have := (h.at_ a ha).1; omega) (h.at_ a ha).2.1) hk.size
theorem IntsO.keepB {B : Nat} {g : Option Addr} {W W' : World} {r : Option Addr} {c : Nat} {xs : List Int} (h : IntsO B g W r c xs) {b : Nat} (hk : KeepB W.heap.size b W W') (hb : b < B) : IntsO B g W' r c xs :=
 h.step (fun q h1 h2 _ => hk.block q h2 (by omega)) hk.zero.size (fun a ha => .inl ⟨a, ha, rfl⟩)
theorem IntsO.setP {B : Nat} {g : Option Addr} {W : World} {r : Option Addr} {c : Nat} {xs : List Int} (h : IntsO B g W r c xs) {P j : Nat} (hP : P < B) (v : Value) : IntsO B g (W.setCell ⟨P, j, none⟩ v) r c xs :=
 h.step (fun q h1 h2 _ => Below.heap_setCell _ _ _ _ (by show q ≠ P; omega)) (by rw [zS]; exact Nat.le_refl _) (fun a ha => .inl ⟨a, ha, rfl⟩)
theorem IntsO.grow {B : Nat} {g g' : Option Addr} {v2 w6 : World} {r : Option Addr} {c : Nat} {xs : List Int} (h : IntsO B g v2 r c xs) (hst : ∀ q, q < v2.heap.size → (∀ a, g = some a → a.block ≠ q) → w6.heap[q]? = v2.heap[q]?) (hz : v2.heap.size ≤ w6.heap.size)
  (hg : ∀ a, g' = some a → (∃ a0, g = some a0 ∧ a0.block = a.block) ∨ v2.heap.size ≤ a.block) {P j : Nat} (hP : P < B) (v : Value) : IntsO B g' (w6.setCell ⟨P, j, none⟩ v) r c xs := (h.step (fun q _ h2 h3 => hst q h2 h3) hz hg).setP hP v
theorem IntsO.drew {B : Nat} {g : Option Addr} {W : World} {r : Option Addr} {c : Nat} {xs : List Int} (h : IntsO B g W r c xs) : IntsO B g W.drew r c xs := h.step (fun _ _ _ _ => rfl) (Nat.le_refl _) (fun a ha => .inl ⟨a, ha, rfl⟩)
theorem Keep2.drew {D b P : Nat} {W W' : World} (h : Keep2 D b P W W') : Keep2 D b P W W'.drew := h.trans ⟨(Below.refl 0 W').drew, fun _ _ _ _ => rfl⟩
structure Mq where
 rx : Option Addr
 cx : Nat
 X : List Int
 ry : Option Addr
 cy : Nat
 Y : List Int
 rz : Option Addr
 cz : Nat
 Z : List Rw
instance : Inhabited Mq := ⟨⟨none, 0, [], none, 0, [], none, 0, []⟩⟩
def Mq.enc (m : Mq) : List Value := [.slice m.rx m.X.length m.cx, .slice m.ry m.Y.length m.cy, .slice m.rz m.Z.length m.cz]
def Mq.mp (m : Mq) : Mp := ⟨m.rx, m.cx, m.X, m.ry, m.cy, m.Y, m.rz, m.cz, m.Z.map Rw.l⟩
theorem Mq.enc_mp (m : Mq) : m.mp.enc = m.enc := by
 unfold Mp.enc Mq.enc Mq.mp
 simp only [List.length_map]
theorem isS_mq {W : World} {r : Option Addr} {c : Nat} {xs : List Mq} (h : IsS 3 Mq.enc W r c xs) : IsS 3 Mp.enc W r c (xs.map Mq.mp) := by
 refine ⟨by rw [List.length_map]; exact h.le, h.max, fun hne => ?_⟩
 obtain ⟨b, off, h1, h2, h3⟩ := h.cells (fun e => hne (by rw [e]; rfl))
 refine ⟨b, off, h1, h2, fun i x hi j u hj => ?_⟩
 rw [List.getElem?_map] at hi
 cases hx : xs[i]? with
 | none => rw [hx] at hi; simp at hi
 | some y =>
  rw [hx] at hi
  simp only [Option.map_some, Option.some.injEq] at hi
  subst hi
  rw [Mq.enc_mp] at hj
  exact h3 i y hx j u hj
structure MqO (B : Nat) (g : Option Addr) (W : World) (m : Mq) : Prop where
 x : IntsO B g W m.rx m.cx m.X
 y : IntsO B g W m.ry m.cy m.Y
 z : IsS 1 Rw.enc W m.rz m.cz m.Z
 at_ : ∀ a, m.rz = some a → B ≤ a.block ∧ a.block < W.heap.size ∧ Off g a.block
 rows : ∀ r ∈ m.Z, IntsO B g W r.r r.c r.l
theorem MqO.step {B : Nat} {g g' : Option Addr} {W W' : World} {m : Mq} (h : MqO B g W m) (hst : ∀ q, B ≤ q → q < W.heap.size → Off g q → W'.heap[q]? = W.heap[q]?) (hz : W.heap.size ≤ W'.heap.size)
  (hg : ∀ a, g' = some a → (∃ a0, g = some a0 ∧ a0.block = a.block) ∨ W.heap.size ≤ a.block) : MqO B g' W' m :=
 ⟨h.x.step hst hz hg, h.y.step hst hz hg, h.z.keep (fun a ha => hst _ (h.at_ a ha).1 (h.at_ a ha).2.1 (h.at_ a ha).2.2) hz, fun a ha => by
  obtain ⟨h1, h2, h3⟩ := h.at_ a ha
  refine ⟨h1, by omega, fun x hx => ?_⟩
  rcases hg x hx with ⟨a0, h4, h5⟩ | h4
  ·
   rw [← h5]; exact h3 a0 h4
  ·
   omega, fun r hr => (h.rows r hr).step hst hz hg⟩
theorem MqO.keepB {B : Nat} {g : Option Addr} {W W' : World} {m : Mq} (h : MqO B g W m) {b : Nat} (hk : KeepB W.heap.size b W W') (hb : b < B) : MqO B g W' m :=
 h.step (fun q h1 h2 _ => hk.block q h2 (by omega)) hk.zero.size (fun a ha => .inl ⟨a, ha, rfl⟩)
theorem MqO.grow {B : Nat} {g g' : Option Addr} {v2 w6 : World} {m : Mq} (h : MqO B g v2 m) (hst : ∀ q, q < v2.heap.size → (∀ a, g = some a → a.block ≠ q) → w6.heap[q]? = v2.heap[q]?) (hz : v2.heap.size ≤ w6.heap.size)
  (hg : ∀ a, g' = some a → (∃ a0, g = some a0 ∧ a0.block = a.block) ∨ v2.heap.size ≤ a.block) {P j : Nat} (hP : P < B) (v : Value) : MqO B g' (w6.setCell ⟨P, j, none⟩ v) m :=
 (h.step (fun q _ h2 h3 => hst q h2 h3) hz hg).step (fun q h1 h2 _ => Below.heap_setCell _ _ _ _ (by show q ≠ P; omega)) (by rw [zS]; exact Nat.le_refl _) (fun a ha => .inl ⟨a, ha, rfl⟩)
theorem MqO.closed {B : Nat} {g : Option Addr} {W : World} {m : Mq} (h : MqO B g W m) {b P : Nat} (hb : b < B) (hP : P < B) : ∀ W', KeepA P W W' → m.mp.ok W' := fun W' hk => by
 have h2 : MqO B none W' m := h.step (fun q h1 h2 _ => hk.block q (by omega) h2) hk.size (fun a ha => by cases ha)
 exact ⟨h2.x.ints, h2.y.ints, rows_of h2.z h2.rows⟩
def idxG {α : Type} (p : α → Bool) (xs : List α) : Int := if xs.any p = true then (xs.findIdx p : Nat) else -1
theorem idxG_hit {α : Type} [Inhabited α] {p : α → Bool} {xs : List α} {k : Nat} (hk : k < xs.length) (h0 : ∀ t, t < k → p (xs.getD t default) = false) (h1 : p (xs.getD k default) = true) : idxG p xs = k := by
 have ha : xs.any p = true := List.any_eq_true.2 ⟨_, getD_mem_of hk, h1⟩
 unfold idxG
 rw [if_pos ha]
 congr 1
 rw [List.findIdx_eq hk]
 refine ⟨by simpa [List.getD, List.getElem?_eq_getElem hk] using h1, fun j hj => ?_⟩
 have := h0 j hj
 simpa [List.getD, List.getElem?_eq_getElem (show j < xs.length by omega)] using this
theorem idxG_miss {α : Type} [Inhabited α] {p : α → Bool} {xs : List α} (h0 : ∀ t, t < xs.length → p (xs.getD t default) = false) : idxG p xs = -1 := by
 have ha : ¬ xs.any p = true := fun h => by
  obtain ⟨x, hx, hp⟩ := List.any_eq_true.1 h
  obtain ⟨i, hi, rfl⟩ := List.getElem_of_mem hx
  have := h0 i hi
  simp [List.getD, List.getElem?_eq_getElem hi] at this
  rw [this] at hp
  cases hp
 unfold idxG
 rw [if_neg ha]
theorem idxG_any {α : Type} (p : α → Bool) (xs : List α) : decide (0 ≤ idxG p xs) = xs.any p := by
 unfold idxG
 split
 ·
  rename_i h; rw [h]; simp
 ·
  rename_i h; simp at h ⊢; simpa using h
set_option maxRecDepth 100000 in
theorem idx_Fixed (g : Nat) (cb : Array Value) (r : Option Addr) (cap : Nat) (xs : List Fx) (p : Fx → Bool) (w : World) (eg : ∀ args w, (callFunc g args).run Tryz.prog w = .ok (.enter g args) w) (hxs : IsS 10 Fx.enc w r cap xs)
  (hf : ∀ (e : Later w) (x : Fx), x ∈ xs → Calls Tryz.prog g (#[.agg #[.int .i64 x.bits, .bool x.sg, .int .i64 x.num, .int .i64 x.off, .int .i64 x.den, .int .i64 x.m, .int .i64 x.kg, .int .i64 x.s, .int .i64 x.a, .int .i64 x.k]] ++ cb) e.w fun a w' => a = .returned (.bool (p x)) ∧ Below e.w.heap.size e.w w') :
  Calls Tryz.prog 98 #[.slice r xs.length cap, .func (.func g) #[] cb] w fun e w' => e = .returned (.int .i64 (idxG p xs)) ∧ Below w.heap.size w w' := by
 have HF := H! hf
 have hmax := hxs.max
 have hle := hxs.le
 unfold maxLen at hmax
 clear hf
 have HS := H! hxs
 clear hxs
 generalize hn : xs.length = n at *
 have HN := H! hn
 clear hn
 go_enter Tryz.func98, Tryz.ntmps98
 go_wp2
 go_loopg [8] n (fun kx s8 wr => ∃ (k : Nat) (e : Later w), s8 = .int .i64 k ∧ k ≤ n ∧ n - k ≤ kx ∧ wr = e.w ∧ Hid (∀ t, t < k → p (xs.getD t default) = false))
 case atStart => exact ⟨0, ⟨w, Below.refl _ _⟩, rfl, Nat.zero_le _, by omega, rfl, H! (fun t h => absurd h (Nat.not_lt_zero _))⟩
 case round =>
  obtain ⟨k, e, rfl, hk, hkx, rfl, HP⟩ := hrel
  by_cases hlt : k < n
  ·
   have hkl : k < xs.length := by have := HN.out; omega
   obtain ⟨b, off, rfl, hb, hc⟩ := HS.out.at_ hkl
   have hk1 : (0 : Int) ≤ (k : Int) := by omega
   have hk2 : (k : Int) < n := by omega
   have hc0 : e.w.cell? ⟨b, off + k * 10, none⟩ = some (.int .i64 (xs.getD k default).bits) := (e.h.cell (p := ⟨b, off + k * 10, none⟩) hb).trans (hc 0 _ rfl)
   have hc1 : e.w.cell? ⟨b, off + k * 10 + 1, none⟩ = some (.bool (xs.getD k default).sg) := (e.h.cell (p := ⟨b, off + k * 10 + 1, none⟩) hb).trans (hc 1 _ rfl)
   have hc2 : e.w.cell? ⟨b, off + k * 10 + 2, none⟩ = some (.int .i64 (xs.getD k default).num) := (e.h.cell (p := ⟨b, off + k * 10 + 2, none⟩) hb).trans (hc 2 _ rfl)
   have hc3 : e.w.cell? ⟨b, off + k * 10 + 3, none⟩ = some (.int .i64 (xs.getD k default).off) := (e.h.cell (p := ⟨b, off + k * 10 + 3, none⟩) hb).trans (hc 3 _ rfl)
   have hc4 : e.w.cell? ⟨b, off + k * 10 + 4, none⟩ = some (.int .i64 (xs.getD k default).den) := (e.h.cell (p := ⟨b, off + k * 10 + 4, none⟩) hb).trans (hc 4 _ rfl)
   have hc5 : e.w.cell? ⟨b, off + k * 10 + 5, none⟩ = some (.int .i64 (xs.getD k default).m) := (e.h.cell (p := ⟨b, off + k * 10 + 5, none⟩) hb).trans (hc 5 _ rfl)
   have hc6 : e.w.cell? ⟨b, off + k * 10 + 6, none⟩ = some (.int .i64 (xs.getD k default).kg) := (e.h.cell (p := ⟨b, off + k * 10 + 6, none⟩) hb).trans (hc 6 _ rfl)
   have hc7 : e.w.cell? ⟨b, off + k * 10 + 7, none⟩ = some (.int .i64 (xs.getD k default).s) := (e.h.cell (p := ⟨b, off + k * 10 + 7, none⟩) hb).trans (hc 7 _ rfl)
   have hc8 : e.w.cell? ⟨b, off + k * 10 + 8, none⟩ = some (.int .i64 (xs.getD k default).a) := (e.h.cell (p := ⟨b, off + k * 10 + 8, none⟩) hb).trans (hc 8 _ rfl)
   have hc9 : e.w.cell? ⟨b, off + k * 10 + 9, none⟩ = some (.int .i64 (xs.getD k default).k) := (e.h.cell (p := ⟨b, off + k * 10 + 9, none⟩) hb).trans (hc 9 _ rfl)
   clear hc
   have hcall := HF.out e _ (getD_mem_of hkl)
   have HK := H! hkl
   clear hkl
   generalize hx : xs.getD k default = x at *
   have HE := H! hx
   clear hx
   obtain ⟨x0, x1, x2, x3, x4, x5, x6, x7, x8, x9⟩ := x
   simp only at hc0 hc1 hc2 hc3 hc4 hc5 hc6 hc7 hc8 hc9 hcall
   cases hp : p ⟨x0, x1, x2, x3, x4, x5, x6, x7, x8, x9⟩ <;> rw [hp] at hcall <;> have HQ := H! hp <;> clear hp
   ·
    go_wp2_with (go_at_fn g; refine hcall.mono ?_; rintro a w' ⟨rfl, hb2⟩)
    go_roundg (n - (k + 1))
    case measure => omega
    case rel =>
     obtain ⟨e', rfl⟩ := e.next hb2
     refine ⟨k + 1, e', by go_num, by omega, Nat.le_refl _, rfl, H! (fun t ht => ?_)⟩
     by_cases h : t < k
     ·
      exact HP.out t h
     ·
      obtain rfl : t = k := by omega
      rw [HE.out]
      exact HQ.out
   ·
    go_wp2_with (go_at_fn g; refine hcall.mono ?_; rintro a w' ⟨rfl, hb2⟩)
    go_ret
    refine ⟨ret_int ?_, by obtain ⟨e', rfl⟩ := e.next hb2; exact e'.h⟩
    exact (idxG_hit HK.out HP.out (by rw [HE.out]; exact HQ.out)).symm
  ·
   obtain rfl : k = n := by omega
   go_wp2
   go_ret
   refine ⟨ret_int ?_, e.h⟩
   exact (idxG_miss (fun t ht => HP.out t (by have := HN.out; omega))).symm
theorem has_Fixed (g : Nat) (cb : Array Value) (r : Option Addr) (cap : Nat) (xs : List Fx) (p : Fx → Bool) (w : World) (eg : ∀ args w, (callFunc g args).run Tryz.prog w = .ok (.enter g args) w) (hxs : IsS 10 Fx.enc w r cap xs)
  (hf : ∀ (e : Later w) (x : Fx), x ∈ xs → Calls Tryz.prog g (#[.agg #[.int .i64 x.bits, .bool x.sg, .int .i64 x.num, .int .i64 x.off, .int .i64 x.den, .int .i64 x.m, .int .i64 x.kg, .int .i64 x.s, .int .i64 x.a, .int .i64 x.k]] ++ cb) e.w fun a w' => a = .returned (.bool (p x)) ∧ Below e.w.heap.size e.w w') :
  Calls Tryz.prog 49 #[.slice r xs.length cap, .func (.func g) #[] cb] w fun e w' => e = .returned (.bool (xs.any p)) ∧ Below w.heap.size w w' := by
 have HI := H! (idx_Fixed g cb r cap xs p w eg hxs hf)
 clear hf hxs
 go_enter Tryz.func49, Tryz.ntmps49
 go_wp2_with ((go_at_call 98; refine (HI.out).mono ?_; rintro e hb1w ⟨rfl, hb1⟩; obtain ⟨hb1c, hb1f⟩ := bcell hb1; have hb1s := hb1.size; (try simp only [zA] at hb1s); (try (have : w.heap.size < hb1w.heap.size := by omega)); (try (have : w.heap.size + 1 < hb1w.heap.size := by omega)); (try (have : w.heap.size + 1 + 1 < hb1w.heap.size := by omega)); (try (have : w.heap.size + 1 + 1 + 1 < hb1w.heap.size := by omega)); (try (have : bX < hb1w.heap.size := by omega)); (try (have : bY < hb1w.heap.size := by omega)); (try (have : bZ < hb1w.heap.size := by omega))))
 go_ret
 exact ⟨ret_bool (idxG_any p xs), bw⟩
set_option maxRecDepth 100000 in
theorem idx_Instr (g : Nat) (cb : Array Value) (r : Option Addr) (cap : Nat) (xs : List Ins) (p : Ins → Bool) (w : World) (eg : ∀ args w, (callFunc g args).run Tryz.prog w = .ok (.enter g args) w) (hxs : IsS 5 Ins.enc w r cap xs)
  (hf : ∀ (e : Later w) (x : Ins), x ∈ xs → Calls Tryz.prog g (#[.agg #[.int .i64 x.op, .int .i64 x.a, .int .i64 x.b, .int .i64 x.c, .int .i64 x.k]] ++ cb) e.w fun a w' => a = .returned (.bool (p x)) ∧ Below e.w.heap.size e.w w') :
  Calls Tryz.prog 105 #[.slice r xs.length cap, .func (.func g) #[] cb] w fun e w' => e = .returned (.int .i64 (idxG p xs)) ∧ Below w.heap.size w w' := by
 have HF := H! hf
 have hmax := hxs.max
 have hle := hxs.le
 unfold maxLen at hmax
 clear hf
 have HS := H! hxs
 clear hxs
 generalize hn : xs.length = n at *
 have HN := H! hn
 clear hn
 go_enter Tryz.func105, Tryz.ntmps105
 go_wp2
 go_loopg [8] n (fun kx s8 wr => ∃ (k : Nat) (e : Later w), s8 = .int .i64 k ∧ k ≤ n ∧ n - k ≤ kx ∧ wr = e.w ∧ Hid (∀ t, t < k → p (xs.getD t default) = false))
 case atStart => exact ⟨0, ⟨w, Below.refl _ _⟩, rfl, Nat.zero_le _, by omega, rfl, H! (fun t h => absurd h (Nat.not_lt_zero _))⟩
 case round =>
  obtain ⟨k, e, rfl, hk, hkx, rfl, HP⟩ := hrel
  by_cases hlt : k < n
  ·
   have hkl : k < xs.length := by have := HN.out; omega
   obtain ⟨b, off, rfl, hb, hc⟩ := HS.out.at_ hkl
   have hk1 : (0 : Int) ≤ (k : Int) := by omega
   have hk2 : (k : Int) < n := by omega
   have hc0 : e.w.cell? ⟨b, off + k * 5, none⟩ = some (.int .i64 (xs.getD k default).op) := (e.h.cell (p := ⟨b, off + k * 5, none⟩) hb).trans (hc 0 _ rfl)
   have hc1 : e.w.cell? ⟨b, off + k * 5 + 1, none⟩ = some (.int .i64 (xs.getD k default).a) := (e.h.cell (p := ⟨b, off + k * 5 + 1, none⟩) hb).trans (hc 1 _ rfl)
   have hc2 : e.w.cell? ⟨b, off + k * 5 + 2, none⟩ = some (.int .i64 (xs.getD k default).b) := (e.h.cell (p := ⟨b, off + k * 5 + 2, none⟩) hb).trans (hc 2 _ rfl)
   have hc3 : e.w.cell? ⟨b, off + k * 5 + 3, none⟩ = some (.int .i64 (xs.getD k default).c) := (e.h.cell (p := ⟨b, off + k * 5 + 3, none⟩) hb).trans (hc 3 _ rfl)
   have hc4 : e.w.cell? ⟨b, off + k * 5 + 4, none⟩ = some (.int .i64 (xs.getD k default).k) := (e.h.cell (p := ⟨b, off + k * 5 + 4, none⟩) hb).trans (hc 4 _ rfl)
   clear hc
   have hcall := HF.out e _ (getD_mem_of hkl)
   have HK := H! hkl
   clear hkl
   generalize hx : xs.getD k default = x at *
   have HE := H! hx
   clear hx
   obtain ⟨x0, x1, x2, x3, x4⟩ := x
   simp only at hc0 hc1 hc2 hc3 hc4 hcall
   cases hp : p ⟨x0, x1, x2, x3, x4⟩ <;> rw [hp] at hcall <;> have HQ := H! hp <;> clear hp
   ·
    go_wp2_with (go_at_fn g; refine hcall.mono ?_; rintro a w' ⟨rfl, hb2⟩)
    go_roundg (n - (k + 1))
    case measure => omega
    case rel =>
     obtain ⟨e', rfl⟩ := e.next hb2
     refine ⟨k + 1, e', by go_num, by omega, Nat.le_refl _, rfl, H! (fun t ht => ?_)⟩
     by_cases h : t < k
     ·
      exact HP.out t h
     ·
      obtain rfl : t = k := by omega
      rw [HE.out]
      exact HQ.out
   ·
    go_wp2_with (go_at_fn g; refine hcall.mono ?_; rintro a w' ⟨rfl, hb2⟩)
    go_ret
    refine ⟨ret_int ?_, by obtain ⟨e', rfl⟩ := e.next hb2; exact e'.h⟩
    exact (idxG_hit HK.out HP.out (by rw [HE.out]; exact HQ.out)).symm
  ·
   obtain rfl : k = n := by omega
   go_wp2
   go_ret
   refine ⟨ret_int ?_, e.h⟩
   exact (idxG_miss (fun t ht => HP.out t (by have := HN.out; omega))).symm
theorem has_Instr (g : Nat) (cb : Array Value) (r : Option Addr) (cap : Nat) (xs : List Ins) (p : Ins → Bool) (w : World) (eg : ∀ args w, (callFunc g args).run Tryz.prog w = .ok (.enter g args) w) (hxs : IsS 5 Ins.enc w r cap xs)
  (hf : ∀ (e : Later w) (x : Ins), x ∈ xs → Calls Tryz.prog g (#[.agg #[.int .i64 x.op, .int .i64 x.a, .int .i64 x.b, .int .i64 x.c, .int .i64 x.k]] ++ cb) e.w fun a w' => a = .returned (.bool (p x)) ∧ Below e.w.heap.size e.w w') :
  Calls Tryz.prog 56 #[.slice r xs.length cap, .func (.func g) #[] cb] w fun e w' => e = .returned (.bool (xs.any p)) ∧ Below w.heap.size w w' := by
 have HI := H! (idx_Instr g cb r cap xs p w eg hxs hf)
 clear hf hxs
 go_enter Tryz.func56, Tryz.ntmps56
 go_wp2_with ((go_at_call 105; refine (HI.out).mono ?_; rintro e hb1w ⟨rfl, hb1⟩; obtain ⟨hb1c, hb1f⟩ := bcell hb1; have hb1s := hb1.size; (try simp only [zA] at hb1s); (try (have : w.heap.size < hb1w.heap.size := by omega)); (try (have : w.heap.size + 1 < hb1w.heap.size := by omega)); (try (have : w.heap.size + 1 + 1 < hb1w.heap.size := by omega)); (try (have : w.heap.size + 1 + 1 + 1 < hb1w.heap.size := by omega)); (try (have : bX < hb1w.heap.size := by omega)); (try (have : bY < hb1w.heap.size := by omega)); (try (have : bZ < hb1w.heap.size := by omega))))
 go_ret
 exact ⟨ret_bool (idxG_any p xs), bw⟩
set_option maxRecDepth 100000 in
theorem idx_Curve (g : Nat) (cb : Array Value) (r : Option Addr) (cap : Nat) (xs : List Cv) (p : Cv → Bool) (w : World) (eg : ∀ args w, (callFunc g args).run Tryz.prog w = .ok (.enter g args) w) (hxs : IsS 2 Cv.enc w r cap xs)
  (hf : ∀ (e : Later w) (x : Cv), x ∈ xs → Calls Tryz.prog g (#[.agg #[.slice x.rx x.X.length x.cx, .slice x.ry x.Y.length x.cy]] ++ cb) e.w fun a w' => a = .returned (.bool (p x)) ∧ Below e.w.heap.size e.w w') :
  Calls Tryz.prog 45 #[.slice r xs.length cap, .func (.func g) #[] cb] w fun e w' => e = .returned (.int .i64 (idxG p xs)) ∧ Below w.heap.size w w' := by
 have HF := H! hf
 have hmax := hxs.max
 have hle := hxs.le
 unfold maxLen at hmax
 clear hf
 have HS := H! hxs
 clear hxs
 generalize hn : xs.length = n at *
 have HN := H! hn
 clear hn
 go_enter Tryz.func45, Tryz.ntmps45
 go_wp2
 go_loopg [8] n (fun kx s8 wr => ∃ (k : Nat) (e : Later w), s8 = .int .i64 k ∧ k ≤ n ∧ n - k ≤ kx ∧ wr = e.w ∧ Hid (∀ t, t < k → p (xs.getD t default) = false))
 case atStart => exact ⟨0, ⟨w, Below.refl _ _⟩, rfl, Nat.zero_le _, by omega, rfl, H! (fun t h => absurd h (Nat.not_lt_zero _))⟩
 case round =>
  obtain ⟨k, e, rfl, hk, hkx, rfl, HP⟩ := hrel
  by_cases hlt : k < n
  ·
   have hkl : k < xs.length := by have := HN.out; omega
   obtain ⟨b, off, rfl, hb, hc⟩ := HS.out.at_ hkl
   have hk1 : (0 : Int) ≤ (k : Int) := by omega
   have hk2 : (k : Int) < n := by omega
   have hc0 : e.w.cell? ⟨b, off + k * 2, none⟩ = some (.slice (xs.getD k default).rx (xs.getD k default).X.length (xs.getD k default).cx) := (e.h.cell (p := ⟨b, off + k * 2, none⟩) hb).trans (hc 0 _ rfl)
   have hc1 : e.w.cell? ⟨b, off + k * 2 + 1, none⟩ = some (.slice (xs.getD k default).ry (xs.getD k default).Y.length (xs.getD k default).cy) := (e.h.cell (p := ⟨b, off + k * 2 + 1, none⟩) hb).trans (hc 1 _ rfl)
   clear hc
   have hcall := HF.out e _ (getD_mem_of hkl)
   have HK := H! hkl
   clear hkl
   generalize hx : xs.getD k default = x at *
   have HE := H! hx
   clear hx
   obtain ⟨r0, c0, X0, r1, c1, X1⟩ := x
   simp only at hc0 hc1 hcall
   cases hp : p ⟨r0, c0, X0, r1, c1, X1⟩ <;> rw [hp] at hcall <;> have HQ := H! hp <;> clear hp
   ·
    go_wp2_with (go_at_fn g; refine hcall.mono ?_; rintro a w' ⟨rfl, hb2⟩)
    go_roundg (n - (k + 1))
    case measure => omega
    case rel =>
     obtain ⟨e', rfl⟩ := e.next hb2
     refine ⟨k + 1, e', by go_num, by omega, Nat.le_refl _, rfl, H! (fun t ht => ?_)⟩
     by_cases h : t < k
     ·
      exact HP.out t h
     ·
      obtain rfl : t = k := by omega
      rw [HE.out]
      exact HQ.out
   ·
    go_wp2_with (go_at_fn g; refine hcall.mono ?_; rintro a w' ⟨rfl, hb2⟩)
    go_ret
    refine ⟨ret_int ?_, by obtain ⟨e', rfl⟩ := e.next hb2; exact e'.h⟩
    exact (idxG_hit HK.out HP.out (by rw [HE.out]; exact HQ.out)).symm
  ·
   obtain rfl : k = n := by omega
   go_wp2
   go_ret
   refine ⟨ret_int ?_, e.h⟩
   exact (idxG_miss (fun t ht => HP.out t (by have := HN.out; omega))).symm
theorem has_Curve (g : Nat) (cb : Array Value) (r : Option Addr) (cap : Nat) (xs : List Cv) (p : Cv → Bool) (w : World) (eg : ∀ args w, (callFunc g args).run Tryz.prog w = .ok (.enter g args) w) (hxs : IsS 2 Cv.enc w r cap xs)
  (hf : ∀ (e : Later w) (x : Cv), x ∈ xs → Calls Tryz.prog g (#[.agg #[.slice x.rx x.X.length x.cx, .slice x.ry x.Y.length x.cy]] ++ cb) e.w fun a w' => a = .returned (.bool (p x)) ∧ Below e.w.heap.size e.w w') :
  Calls Tryz.prog 20 #[.slice r xs.length cap, .func (.func g) #[] cb] w fun e w' => e = .returned (.bool (xs.any p)) ∧ Below w.heap.size w w' := by
 have HI := H! (idx_Curve g cb r cap xs p w eg hxs hf)
 clear hf hxs
 go_enter Tryz.func20, Tryz.ntmps20
 go_wp2_with ((go_at_call 45; refine (HI.out).mono ?_; rintro e hb1w ⟨rfl, hb1⟩; obtain ⟨hb1c, hb1f⟩ := bcell hb1; have hb1s := hb1.size; (try simp only [zA] at hb1s); (try (have : w.heap.size < hb1w.heap.size := by omega)); (try (have : w.heap.size + 1 < hb1w.heap.size := by omega)); (try (have : w.heap.size + 1 + 1 < hb1w.heap.size := by omega)); (try (have : w.heap.size + 1 + 1 + 1 < hb1w.heap.size := by omega)); (try (have : bX < hb1w.heap.size := by omega)); (try (have : bY < hb1w.heap.size := by omega)); (try (have : bZ < hb1w.heap.size := by omega))))
 go_ret
 exact ⟨ret_bool (idxG_any p xs), bw⟩
set_option maxRecDepth 100000 in
theorem idx_Map (g : Nat) (cb : Array Value) (r : Option Addr) (cap : Nat) (xs : List Mp) (p : Mp → Bool) (w : World) (eg : ∀ args w, (callFunc g args).run Tryz.prog w = .ok (.enter g args) w) (hxs : IsS 3 Mp.enc w r cap xs)
  (hf : ∀ (e : Later w) (x : Mp), x ∈ xs → Calls Tryz.prog g (#[.agg #[.slice x.rx x.X.length x.cx, .slice x.ry x.Y.length x.cy, .slice x.rz x.Z.length x.cz]] ++ cb) e.w fun a w' => a = .returned (.bool (p x)) ∧ Below e.w.heap.size e.w w') :
  Calls Tryz.prog 46 #[.slice r xs.length cap, .func (.func g) #[] cb] w fun e w' => e = .returned (.int .i64 (idxG p xs)) ∧ Below w.heap.size w w' := by
 have HF := H! hf
 have hmax := hxs.max
 have hle := hxs.le
 unfold maxLen at hmax
 clear hf
 have HS := H! hxs
 clear hxs
 generalize hn : xs.length = n at *
 have HN := H! hn
 clear hn
 go_enter Tryz.func46, Tryz.ntmps46
 go_wp2
 go_loopg [8] n (fun kx s8 wr => ∃ (k : Nat) (e : Later w), s8 = .int .i64 k ∧ k ≤ n ∧ n - k ≤ kx ∧ wr = e.w ∧ Hid (∀ t, t < k → p (xs.getD t default) = false))
 case atStart => exact ⟨0, ⟨w, Below.refl _ _⟩, rfl, Nat.zero_le _, by omega, rfl, H! (fun t h => absurd h (Nat.not_lt_zero _))⟩
 case round =>
  obtain ⟨k, e, rfl, hk, hkx, rfl, HP⟩ := hrel
  by_cases hlt : k < n
  ·
   have hkl : k < xs.length := by have := HN.out; omega
   obtain ⟨b, off, rfl, hb, hc⟩ := HS.out.at_ hkl
   have hk1 : (0 : Int) ≤ (k : Int) := by omega
   have hk2 : (k : Int) < n := by omega
   have hc0 : e.w.cell? ⟨b, off + k * 3, none⟩ = some (.slice (xs.getD k default).rx (xs.getD k default).X.length (xs.getD k default).cx) := (e.h.cell (p := ⟨b, off + k * 3, none⟩) hb).trans (hc 0 _ rfl)
   have hc1 : e.w.cell? ⟨b, off + k * 3 + 1, none⟩ = some (.slice (xs.getD k default).ry (xs.getD k default).Y.length (xs.getD k default).cy) := (e.h.cell (p := ⟨b, off + k * 3 + 1, none⟩) hb).trans (hc 1 _ rfl)
   have hc2 : e.w.cell? ⟨b, off + k * 3 + 2, none⟩ = some (.slice (xs.getD k default).rz (xs.getD k default).Z.length (xs.getD k default).cz) := (e.h.cell (p := ⟨b, off + k * 3 + 2, none⟩) hb).trans (hc 2 _ rfl)
   clear hc
   have hcall := HF.out e _ (getD_mem_of hkl)
   have HK := H! hkl
   clear hkl
   generalize hx : xs.getD k default = x at *
   have HE := H! hx
   clear hx
   obtain ⟨r0, c0, X0, r1, c1, X1, r2, c2, X2⟩ := x
   simp only at hc0 hc1 hc2 hcall
   cases hp : p ⟨r0, c0, X0, r1, c1, X1, r2, c2, X2⟩ <;> rw [hp] at hcall <;> have HQ := H! hp <;> clear hp
   ·
    go_wp2_with (go_at_fn g; refine hcall.mono ?_; rintro a w' ⟨rfl, hb2⟩)
    go_roundg (n - (k + 1))
    case measure => omega
    case rel =>
     obtain ⟨e', rfl⟩ := e.next hb2
     refine ⟨k + 1, e', by go_num, by omega, Nat.le_refl _, rfl, H! (fun t ht => ?_)⟩
     by_cases h : t < k
     ·
      exact HP.out t h
     ·
      obtain rfl : t = k := by omega
      rw [HE.out]
      exact HQ.out
   ·
    go_wp2_with (go_at_fn g; refine hcall.mono ?_; rintro a w' ⟨rfl, hb2⟩)
    go_ret
    refine ⟨ret_int ?_, by obtain ⟨e', rfl⟩ := e.next hb2; exact e'.h⟩
    exact (idxG_hit HK.out HP.out (by rw [HE.out]; exact HQ.out)).symm
  ·
   obtain rfl : k = n := by omega
   go_wp2
   go_ret
   refine ⟨ret_int ?_, e.h⟩
   exact (idxG_miss (fun t ht => HP.out t (by have := HN.out; omega))).symm
theorem has_Map (g : Nat) (cb : Array Value) (r : Option Addr) (cap : Nat) (xs : List Mp) (p : Mp → Bool) (w : World) (eg : ∀ args w, (callFunc g args).run Tryz.prog w = .ok (.enter g args) w) (hxs : IsS 3 Mp.enc w r cap xs)
  (hf : ∀ (e : Later w) (x : Mp), x ∈ xs → Calls Tryz.prog g (#[.agg #[.slice x.rx x.X.length x.cx, .slice x.ry x.Y.length x.cy, .slice x.rz x.Z.length x.cz]] ++ cb) e.w fun a w' => a = .returned (.bool (p x)) ∧ Below e.w.heap.size e.w w') :
  Calls Tryz.prog 22 #[.slice r xs.length cap, .func (.func g) #[] cb] w fun e w' => e = .returned (.bool (xs.any p)) ∧ Below w.heap.size w w' := by
 have HI := H! (idx_Map g cb r cap xs p w eg hxs hf)
 clear hf hxs
 go_enter Tryz.func22, Tryz.ntmps22
 go_wp2_with ((go_at_call 46; refine (HI.out).mono ?_; rintro e hb1w ⟨rfl, hb1⟩; obtain ⟨hb1c, hb1f⟩ := bcell hb1; have hb1s := hb1.size; (try simp only [zA] at hb1s); (try (have : w.heap.size < hb1w.heap.size := by omega)); (try (have : w.heap.size + 1 < hb1w.heap.size := by omega)); (try (have : w.heap.size + 1 + 1 < hb1w.heap.size := by omega)); (try (have : w.heap.size + 1 + 1 + 1 < hb1w.heap.size := by omega)); (try (have : bX < hb1w.heap.size := by omega)); (try (have : bY < hb1w.heap.size := by omega)); (try (have : bZ < hb1w.heap.size := by omega))))
 go_ret
 exact ⟨ret_bool (idxG_any p xs), bw⟩
def least (p : Nat → Bool) : Nat → Nat
 | 0 => 0
 | n + 1 => if least p n < n then least p n else if p n then n else n + 1
def farB (n : Int) : Bool := decide (n < -1073741824 ∨ 1073741824 < n)
def AxisOk (xs : List Int) : Prop := 2 ≤ xs.length ∧ xs.length ≤ 32 ∧ xs.any farB = false ∧ ∀ t, t + 1 < xs.length → xs.getD t 0 < xs.getD (t + 1) 0
def CurveOk (xs ys : List Int) : Prop := xs.length = ys.length ∧ AxisOk xs ∧ ys.any farB = false
open Classical in
noncomputable def axisB (xs : List Int) : Bool := decide (AxisOk xs)
open Classical in
noncomputable def curveB (xs ys : List Int) : Bool := decide (CurveOk xs ys)
theorem axisB_true {xs : List Int} : axisB xs = true ↔ AxisOk xs := by simp [axisB]
theorem axisB_false {xs : List Int} : axisB xs = false ↔ ¬ AxisOk xs := by simp [axisB]
theorem curveB_true {xs ys : List Int} : curveB xs ys = true ↔ CurveOk xs ys := by simp [curveB]
theorem curveB_false {xs ys : List Int} : curveB xs ys = false ↔ ¬ CurveOk xs ys := by simp [curveB]
theorem getD_mem {xs : List Int} {t : Nat} (h : t < xs.length) : xs.getD t 0 ∈ xs := by
 rw [List.getD, List.getElem?_eq_getElem h]
 exact List.getElem_mem _
theorem far_all {xs : List Int} (h : ∀ t, t < xs.length → farB (xs.getD t 0) = false) : xs.any farB = false := by
 rw [List.any_eq_false]
 intro x hx
 obtain ⟨t, ht, rfl⟩ := List.getElem_of_mem hx
 have := h t ht
 simpa [List.getD, List.getElem?_eq_getElem ht] using this
theorem far_hit {xs : List Int} {t : Nat} (ht : t < xs.length) (h : farB (xs.getD t 0) = true) : xs.any farB = true :=
 List.any_eq_true.2 ⟨_, getD_mem ht, h⟩
def idxI (p : Int → Bool) (xs : List Int) : Int := if xs.any p = true then (xs.findIdx p : Nat) else -1
theorem idxI_hit {p : Int → Bool} {xs : List Int} {k : Nat} (hk : k < xs.length) (h0 : ∀ t, t < k → p (xs.getD t 0) = false) (h1 : p (xs.getD k 0) = true) : idxI p xs = k := by
 have hg : ∀ t (h : t < xs.length), xs.getD t 0 = xs[t] := fun t h => by simp [List.getD, List.getElem?_eq_getElem h]
 have hf : xs.findIdx p = k := by
  rw [List.findIdx_eq hk]
  refine ⟨by rw [← hg k hk]; exact h1, fun j hj => ?_⟩
  rw [← hg j (by omega)]
  exact h0 j hj
 have ha : xs.any p = true := List.any_eq_true.2 ⟨xs[k], List.getElem_mem hk, by rw [← hg k hk]; exact h1⟩
 simp [idxI, ha, hf]
theorem idxI_miss {p : Int → Bool} {xs : List Int} (h0 : ∀ t, t < xs.length → p (xs.getD t 0) = false) : idxI p xs = -1 := by
 have ha : xs.any p = false := by
  rw [List.any_eq_false]
  intro x hx
  obtain ⟨t, ht, rfl⟩ := List.getElem_of_mem hx
  have := h0 t ht
  simpa [List.getD, List.getElem?_eq_getElem ht] using this
 simp [idxI, ha]
theorem idxI_any (p : Int → Bool) (xs : List Int) : decide (0 ≤ idxI p xs) = xs.any p := by
 unfold idxI
 split
 ·
  rename_i h; rw [h]; simp
 ·
  rename_i h; simp at h ⊢; simpa using h
theorem indexFunc_any (g : Nat) (cb : Array Value) (r : Option Addr) (cap : Nat) (xs : List Int) (p : Int → Bool) (w : World) (eg : ∀ args w, (callFunc g args).run Tryz.prog w = .ok (.enter g args) w) (hxs : IsInts w r cap .i64 xs)
  (hf : ∀ (e : Later w) (x : Int), x ∈ xs → Calls Tryz.prog g (#[.int .i64 x] ++ cb) e.w fun a w' => a = .returned (.bool (p x)) ∧ Below e.w.heap.size e.w w') :
  Calls Tryz.prog 110 #[.slice r xs.length cap, .func (.func g) #[] cb] w fun e w' => e = .returned (.int .i64 (idxI p xs)) ∧ Below w.heap.size w w' := by
 have HF := H! hf
 have hmax := hxs.max
 have hle := hxs.le
 unfold maxLen at hmax
 clear hf
 by_cases hne : xs = []
 ·
  subst hne
  go_enter Tryz.func110, Tryz.ntmps110
  go_wp2
  go_rounds 1
  go_ret
  exact ⟨rfl, Below.refl _ _⟩
 ·
  obtain ⟨b, off, rfl, hb, hc⟩ := hxs.cells hne
  have HC := H! hc
  clear hc
  generalize hn : xs.length = n at *
  have HN := H! hn
  clear hn
  go_enter Tryz.func110, Tryz.ntmps110
  go_wp2
  go_loopg [8] n (fun kx s8 wr => ∃ (k : Nat) (e : Later w), s8 = .int .i64 k ∧ k ≤ n ∧ n - k ≤ kx ∧ wr = e.w ∧ Hid (∀ t, t < k → p (xs.getD t 0) = false))
  case atStart => exact ⟨0, ⟨w, Below.refl _ _⟩, rfl, Nat.zero_le _, by omega, rfl, H! (fun t h => absurd h (Nat.not_lt_zero _))⟩
  case round =>
   obtain ⟨k, e, rfl, hk, hkx, rfl, HP⟩ := hrel
   by_cases hlt : k < n
   ·
    have hlen := HN.out
    have hcell : e.w.cell? ⟨b, off + k, none⟩ = some (.int .i64 (xs.getD k 0)) := by
     rw [Later.cell e hb]
     exact HC.out k (by omega)
    have hmem : xs.getD k 0 ∈ xs := by
     rw [List.getD, List.getElem?_eq_getElem (show k < xs.length by omega)]
     exact List.getElem_mem _
    have hcall := HF.out e _ hmem
    have HK : Hid (k < xs.length) := H! (by omega)
    have HX : Hid (∀ b, p (xs.getD k 0) = b → p (xs.getD k 0) = b) := H! (fun _ h => h)
    generalize hx : xs.getD k 0 = x at hcell hcall
    have HE := H! hx
    clear hx hlen hmem
    cases hp : p x <;> rw [hp] at hcall <;> have HQ := H! hp <;> clear hp
    ·
     go_wp2_with (go_at_fn g; refine hcall.mono ?_; rintro a w' ⟨rfl, hb2⟩)
     go_roundg (n - (k + 1))
     case measure => omega
     case rel =>
      obtain ⟨e', rfl⟩ := e.next hb2
      refine ⟨k + 1, e', by go_num, by omega, Nat.le_refl _, rfl, H! (fun t ht => ?_)⟩
      by_cases h : t < k
      ·
       exact HP.out t h
      ·
       obtain rfl : t = k := by omega
       rw [HE.out]
       exact HQ.out
    ·
     go_wp2_with (go_at_fn g; refine hcall.mono ?_; rintro a w' ⟨rfl, hb2⟩)
     go_ret
     refine ⟨ret_int ?_, by obtain ⟨e', rfl⟩ := e.next hb2; exact e'.h⟩
     exact (idxI_hit HK.out HP.out (by rw [HE.out]; exact HQ.out)).symm
   ·
    obtain rfl : k = n := by omega
    go_wp2
    go_ret
    refine ⟨ret_int ?_, e.h⟩
    exact (idxI_miss (fun t ht => HP.out t (by have := HN.out; omega))).symm
theorem containsFunc_any (g : Nat) (cb : Array Value) (r : Option Addr) (cap : Nat) (xs : List Int) (p : Int → Bool) (w : World) (eg : ∀ args w, (callFunc g args).run Tryz.prog w = .ok (.enter g args) w) (hxs : IsInts w r cap .i64 xs)
  (hf : ∀ (e : Later w) (x : Int), x ∈ xs → Calls Tryz.prog g (#[.int .i64 x] ++ cb) e.w fun a w' => a = .returned (.bool (p x)) ∧ Below e.w.heap.size e.w w') :
  Calls Tryz.prog 59 #[.slice r xs.length cap, .func (.func g) #[] cb] w fun e w' => e = .returned (.bool (xs.any p)) ∧ Below w.heap.size w w' := by
 have HI := H! (indexFunc_any g cb r cap xs p w eg hxs hf)
 clear hf hxs
 go_enter Tryz.func59, Tryz.ntmps59
 go_wp2_with ((go_at_call 110; refine (HI.out).mono ?_; rintro e hb1w ⟨rfl, hb1⟩; obtain ⟨hb1c, hb1f⟩ := bcell hb1; have hb1s := hb1.size; (try simp only [zA] at hb1s); (try (have : w.heap.size < hb1w.heap.size := by omega)); (try (have : w.heap.size + 1 < hb1w.heap.size := by omega)); (try (have : w.heap.size + 1 + 1 < hb1w.heap.size := by omega)); (try (have : w.heap.size + 1 + 1 + 1 < hb1w.heap.size := by omega)); (try (have : bX < hb1w.heap.size := by omega)); (try (have : bY < hb1w.heap.size := by omega)); (try (have : bZ < hb1w.heap.size := by omega))))
 go_ret
 exact ⟨ret_bool (idxI_any p xs), bw⟩
theorem far_any (x : Int) (w : World) : Calls Tryz.prog 101 #[.int .i64 x] w fun e w' => e = .returned (.bool (farB x)) ∧ w = w' := by
 go_enter Tryz.func101, Tryz.ntmps101
 go_wp2
 all_goals go_ret
 all_goals exact ⟨ret_bool (by grind [farB]), rfl⟩
theorem below_same {P : Program} {f : FuncId} {args : Array Value} {w : World} {v : Value} (h : Calls P f args w fun e w' => e = .returned v ∧ w = w') : Calls P f args w fun e w' => e = .returned v ∧ Below w.heap.size w w' :=
 h.mono fun _ _ ⟨he, hw⟩ => ⟨he, by subst hw; exact Below.refl _ _⟩
theorem farAny_any (r : Option Addr) (cap : Nat) (xs : List Int) (w : World) (hxs : IsInts w r cap .i64 xs) :
  Calls Tryz.prog 59 #[.slice r xs.length cap, .func (.func 101) #[] #[]] w fun e w' => e = .returned (.bool (xs.any farB)) ∧ Below w.heap.size w w' :=
 containsFunc_any 101 #[] r cap xs farB w (enters_of Tryz.func101 (by kernel_rfl) rfl) hxs (fun e x _ => below_same (far_any x e.w))
theorem axis_any (r : Option Addr) (cap : Nat) (xs : List Int) (w : World) (hxs : IsInts w r cap .i64 xs) :
  Calls Tryz.prog 100 #[.slice r xs.length cap] w fun e w' => e = .returned (.bool (axisB xs)) ∧ Below w.heap.size w w' := by
 have HX := H! hxs
 by_cases h2 : xs.length < 2
 ·
  have H := H! (axisB_false.2 (fun h : AxisOk xs => by have := h.1; omega))
  have h2' : (xs.length : Int) < 2 := by omega
  clear hxs h2
  go_enter Tryz.func100, Tryz.ntmps100
  go_wp2
  go_ret
  exact ⟨by rw [H.out]; first | done | rfl, bw⟩
 ·
  by_cases h3 : 32 < xs.length
  ·
   have H := H! (axisB_false.2 (fun h : AxisOk xs => by have := h.2.1; omega))
   have h2' : ¬ (xs.length : Int) < 2 := by omega
   have h3' : (32 : Int) < xs.length := by omega
   clear hxs h2 h3
   go_enter Tryz.func100, Tryz.ntmps100
   go_wp2
   go_ret
   exact ⟨by rw [H.out]; first | done | rfl, bw⟩
  ·
   have h2' : ¬ (xs.length : Int) < 2 := by omega
   have h3' : ¬ (32 : Int) < xs.length := by omega
   cases hf : xs.any farB with
   | true =>
    have H := H! (axisB_false.2 (fun h : AxisOk xs => by have := h.2.2.1; rw [hf] at this; cases this))
    clear hxs
    go_enter Tryz.func100, Tryz.ntmps100
    go_wp2_with ((go_at_call 59; refine (farAny_any _ _ _ _ HX.out).mono ?_; rintro e hb1w ⟨rfl, hb1⟩; obtain ⟨hb1c, hb1f⟩ := bcell hb1; have hb1s := hb1.size; (try simp only [zA] at hb1s); (try (have : w.heap.size < hb1w.heap.size := by omega)); (try (have : w.heap.size + 1 < hb1w.heap.size := by omega)); (try (have : w.heap.size + 1 + 1 < hb1w.heap.size := by omega)); (try (have : w.heap.size + 1 + 1 + 1 < hb1w.heap.size := by omega)); (try (have : bX < hb1w.heap.size := by omega)); (try (have : bY < hb1w.heap.size := by omega)); (try (have : bZ < hb1w.heap.size := by omega))))
    go_ret
    exact ⟨by rw [H.out]; first | done | rfl, bw⟩
   | false =>
    obtain ⟨bX, off, rfl, hb, hc⟩ := hxs.cells (fun e => by subst e; simp at h2)
    have HC := H! hc
    clear hc hxs
    have HAX : Hid (∀ h : (∀ t, t + 1 < xs.length → xs.getD t 0 < xs.getD (t + 1) 0), AxisOk xs) := H! (fun h => ⟨by omega, by omega, hf, h⟩)
    generalize hn : xs.length = n at *
    have HN := H! hn
    clear hn
    go_enter Tryz.func100, Tryz.ntmps100
    go_wp2_with (go_at_call 59; (have hcl := farAny_any _ _ _ w HX.out); rw [HN.out] at hcl; refine hcl.mono ?_; clear hcl; rintro e hb1w ⟨rfl, hb1⟩)
    go_loopg [19] n (fun kx s19 wr => ∃ (k : Nat) (e : Later w), s19 = .int .i64 k ∧ k + 1 ≤ n ∧ n - k ≤ kx ∧ wr = e.w ∧ Hid (∀ t, t < k → xs.getD t 0 < xs.getD (t + 1) 0))
    case atStart => exact ⟨0, ⟨hb1w, hb1⟩, rfl, by omega, by omega, rfl, H! (fun t h => absurd h (Nat.not_lt_zero _))⟩
    case round =>
     obtain ⟨k, e, rfl, hk, hkx, rfl, HP⟩ := hrel
     by_cases hlt : k + 1 < n
     ·
      have hlt' : (k : Int) < (n : Int) - 1 := by omega
      have hk1 : (0 : Int) ≤ (k : Int) := by omega
      have hk2 : (k : Int) < n := by omega
      have hk3 : (k : Int) + 1 < n := by omega
      have hw1 : IntKind.i64.wrap ((k : Int) + 1) = (k : Int) + 1 := IntWalk.i64_in _ (by omega)
      have hc1 : e.w.cell? ⟨bX, off + k, none⟩ = some (.int .i64 (xs.getD k 0)) := by
       rw [Later.cell e hb]
       exact HC.out k (by omega)
      have hc2 : e.w.cell? ⟨bX, off + (k + 1), none⟩ = some (.int .i64 (xs.getD (k + 1) 0)) := by
       rw [Later.cell e hb]
       exact HC.out (k + 1) (by omega)
      have HV : Hid (∀ a b, xs.getD k 0 = a → xs.getD (k + 1) 0 = b → xs.getD k 0 = a ∧ xs.getD (k + 1) 0 = b) := H! (fun _ _ h h' => ⟨h, h'⟩)
      generalize hx : xs.getD k 0 = x at hc1
      generalize hy : xs.getD (k + 1) 0 = y at hc2
      have HXY := H! (And.intro hx hy)
      clear hx hy
      by_cases hxy : x < y
      ·
       go_wp2
       go_quiet (fail)
       go_wp2
       go_roundg (n - (k + 1))
       case measure => omega
       case rel =>
        refine ⟨k + 1, ⟨_, below_drewN e.h _⟩, by go_num, by omega, Nat.le_refl _, rfl, H! (fun t ht => ?_)⟩
        by_cases h : t < k
        ·
         exact HP.out t h
        ·
         obtain rfl : t = k := by omega
         rw [HXY.out.1, HXY.out.2]
         assumption
      ·
       have H : Hid (axisB xs = false) := H! (axisB_false.2 (fun h => by have := h.2.2.2 k (by have := HN.out; omega); rw [HXY.out.1, HXY.out.2] at this; exact hxy this))
       have hxy2 : y ≤ x := by omega
       go_wp2
       go_quiet (fail)
       go_wp2
       go_ret
       exact ⟨by rw [H.out]; first | done | rfl, below_drewN e.h _⟩
     ·
      obtain rfl : n = k + 1 := by omega
      go_wp2
      go_ret
      refine ⟨ret_bool ?_, e.h⟩
      exact (axisB_true.2 (HAX.out (fun t ht => HP.out t (by have := HN.out; omega)))).symm
theorem curveValid_any (rx ry : Option Addr) (cx cy : Nat) (xs ys : List Int) (w : World) (hx : IsInts w rx cx .i64 xs) (hy : IsInts w ry cy .i64 ys) :
  Calls Tryz.prog 53 #[.agg #[.slice rx xs.length cx, .slice ry ys.length cy]] w fun e w' => e = .returned (.bool (curveB xs ys)) ∧ Below w.heap.size w w' := by
 have HX : Hid (∀ w', Below w.heap.size w w' → IsInts w' rx cx .i64 xs) := H! (fun _ h => hx.later h)
 have HY : Hid (∀ w', Below w.heap.size w w' → IsInts w' ry cy .i64 ys) := H! (fun _ h => hy.later h)
 clear hx hy
 by_cases hl : xs.length = ys.length
 ·
  have hl' : ((xs.length : Int) == (ys.length : Int)) = true := by simp [hl]
  cases ha : axisB xs with
  | false =>
   have H : Hid (curveB xs ys = false) := H! (curveB_false.2 (fun h => axisB_false.1 ha h.2.1))
   clear hl
   go_enter Tryz.func53, Tryz.ntmps53
   go_wp2_with (first | (go_at_call 100; refine (axis_any _ _ _ _ (HX.out _ bw)).mono ?_; rintro e hb1w ⟨rfl, hb1⟩; obtain ⟨hb1c, hb1f⟩ := bcell hb1; have hb1s := hb1.size; (try simp only [zA] at hb1s); (try (have : w.heap.size < hb1w.heap.size := by omega)); (try (have : w.heap.size + 1 < hb1w.heap.size := by omega)); (try (have : w.heap.size + 1 + 1 < hb1w.heap.size := by omega)); (try (have : w.heap.size + 1 + 1 + 1 < hb1w.heap.size := by omega)); (try (have : bX < hb1w.heap.size := by omega)); (try (have : bY < hb1w.heap.size := by omega)); (try (have : bZ < hb1w.heap.size := by omega))) | (go_at_call 59; refine (farAny_any _ _ _ _ (HY.out _ bw)).mono ?_; rintro e hb2w ⟨rfl, hb2⟩; obtain ⟨hb2c, hb2f⟩ := bcell hb2; have hb2s := hb2.size; (try simp only [zA] at hb2s); (try (have : w.heap.size < hb2w.heap.size := by omega)); (try (have : w.heap.size + 1 < hb2w.heap.size := by omega)); (try (have : w.heap.size + 1 + 1 < hb2w.heap.size := by omega)); (try (have : w.heap.size + 1 + 1 + 1 < hb2w.heap.size := by omega)); (try (have : bX < hb2w.heap.size := by omega)); (try (have : bY < hb2w.heap.size := by omega)); (try (have : bZ < hb2w.heap.size := by omega))))
   go_ret
   exact ⟨by rw [H.out]; first | done | rfl, bw⟩
  | true =>
   cases hf : ys.any farB with
   | true =>
    have H : Hid (curveB xs ys = false) := H! (curveB_false.2 (fun h => by have := h.2.2; rw [hf] at this; cases this))
    clear hl
    go_enter Tryz.func53, Tryz.ntmps53
    go_wp2_with (first | (go_at_call 100; refine (axis_any _ _ _ _ (HX.out _ bw)).mono ?_; rintro e hb1w ⟨rfl, hb1⟩; obtain ⟨hb1c, hb1f⟩ := bcell hb1; have hb1s := hb1.size; (try simp only [zA] at hb1s); (try (have : w.heap.size < hb1w.heap.size := by omega)); (try (have : w.heap.size + 1 < hb1w.heap.size := by omega)); (try (have : w.heap.size + 1 + 1 < hb1w.heap.size := by omega)); (try (have : w.heap.size + 1 + 1 + 1 < hb1w.heap.size := by omega)); (try (have : bX < hb1w.heap.size := by omega)); (try (have : bY < hb1w.heap.size := by omega)); (try (have : bZ < hb1w.heap.size := by omega))) | (go_at_call 59; refine (farAny_any _ _ _ _ (HY.out _ bw)).mono ?_; rintro e hb2w ⟨rfl, hb2⟩; obtain ⟨hb2c, hb2f⟩ := bcell hb2; have hb2s := hb2.size; (try simp only [zA] at hb2s); (try (have : w.heap.size < hb2w.heap.size := by omega)); (try (have : w.heap.size + 1 < hb2w.heap.size := by omega)); (try (have : w.heap.size + 1 + 1 < hb2w.heap.size := by omega)); (try (have : w.heap.size + 1 + 1 + 1 < hb2w.heap.size := by omega)); (try (have : bX < hb2w.heap.size := by omega)); (try (have : bY < hb2w.heap.size := by omega)); (try (have : bZ < hb2w.heap.size := by omega))))
    go_ret
    exact ⟨by rw [H.out]; first | done | rfl, bw⟩
   | false =>
    have H : Hid (curveB xs ys = true) := H! (curveB_true.2 ⟨hl, axisB_true.1 ha, hf⟩)
    clear hl
    go_enter Tryz.func53, Tryz.ntmps53
    go_wp2_with (first | (go_at_call 100; refine (axis_any _ _ _ _ (HX.out _ bw)).mono ?_; rintro e hb1w ⟨rfl, hb1⟩; obtain ⟨hb1c, hb1f⟩ := bcell hb1; have hb1s := hb1.size; (try simp only [zA] at hb1s); (try (have : w.heap.size < hb1w.heap.size := by omega)); (try (have : w.heap.size + 1 < hb1w.heap.size := by omega)); (try (have : w.heap.size + 1 + 1 < hb1w.heap.size := by omega)); (try (have : w.heap.size + 1 + 1 + 1 < hb1w.heap.size := by omega)); (try (have : bX < hb1w.heap.size := by omega)); (try (have : bY < hb1w.heap.size := by omega)); (try (have : bZ < hb1w.heap.size := by omega))) | (go_at_call 59; refine (farAny_any _ _ _ _ (HY.out _ bw)).mono ?_; rintro e hb2w ⟨rfl, hb2⟩; obtain ⟨hb2c, hb2f⟩ := bcell hb2; have hb2s := hb2.size; (try simp only [zA] at hb2s); (try (have : w.heap.size < hb2w.heap.size := by omega)); (try (have : w.heap.size + 1 < hb2w.heap.size := by omega)); (try (have : w.heap.size + 1 + 1 < hb2w.heap.size := by omega)); (try (have : w.heap.size + 1 + 1 + 1 < hb2w.heap.size := by omega)); (try (have : bX < hb2w.heap.size := by omega)); (try (have : bY < hb2w.heap.size := by omega)); (try (have : bZ < hb2w.heap.size := by omega))))
    go_ret
    exact ⟨by rw [H.out]; first | done | rfl, bw⟩
 ·
  have hl' : ((xs.length : Int) == (ys.length : Int)) = false := by simp; omega
  have H : Hid (curveB xs ys = false) := H! (curveB_false.2 (fun h => hl h.1))
  clear hl
  go_enter Tryz.func53, Tryz.ntmps53
  go_wp2
  go_ret
  exact ⟨by rw [H.out]; first | done | rfl, bw⟩
end Go.Proofs.YtfooefiaenlhmaaGreat
