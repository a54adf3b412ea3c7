/- Lemmas for the laws of package magnetolaw15: what its functions return, for any arguments that the lemmas name. -/
import Derived.Test.YtfooefiaenlhmaaGO1
import Derived.Test.YtfooefiaenlhmaaGO2
import Derived.Test.YtfooefiaenlhmaaGO9
import Derived.Deep.RegionHeld3
import Derived.Deep.AppendLies
import Derived.OwnWalk
namespace Go.Proofs.Ytfooefiaenlhmaa
set_option linter.unusedVariables false
set_option linter.unusedSimpArgs false
set_option maxHeartbeats 16000000
open Go.RowKit Go.ChangeShapes Go.WideShapes Go.ChangeAt
theorem i64_nat {n : Nat} (h : n ≤ 9223372036854775807) : I64 (n : Int) := by unfold I64; simp [Lit.wf, IntKind.min, IntKind.max, IntKind.bits, IntKind.signed]; omega
theorem ints_b {W : World} {base : Nat} {r : Option Addr} {c : Nat} {xs : List Int} (h : OwnK .u8 5 W base r c xs) (hb : ByteL xs) : IsInts W r c .u8 xs := h.ints (fun x hx => u8_wf (hb x hx).1 (hb x hx).2)
theorem bit_any (b : Bool) (v : Int) (hv : (if b then 1 else 0) = v) (w : World) : Calls Try.prog 48 #[.bool b] w fun e w' => e = .returned (.int .i64 v) ∧ w' = w := by
 subst hv
 cases b
 ·
  go_enter Try.func48, Try.ntmps48
  go_wp2
  go_ret
  exact ⟨rfl, rfl⟩
 ·
  go_enter Try.func48, Try.ntmps48
  go_wp2
  go_ret
  exact ⟨rfl, rfl⟩
set_option maxRecDepth 100000 in
theorem rbody_any (p : PV) (w : World) (hp : IsP w p) (hl : p.p.body.length ≤ 10000000000) : Calls Try.prog 22 #[p.val] w fun e w' => ∃ r c, e = .returned (.slice r p.p.body.length c) ∧ OwnK .u8 5 w' w.heap.size r c p.p.body ∧ Below w.heap.size w w' := by
 obtain ⟨rc, cc, code, rt, ct, types, rv, cv, curves, rm, cm, maps, cells, ri, ci, inputs, rs, cs, states, ro, co, outputs, rn, cn, initial⟩ := p
 have HE : Hid (PP.body (PV.p ⟨rc, cc, code, rt, ct, types, rv, cv, curves, rm, cm, maps, cells, ri, ci, inputs, rs, cs, states, ro, co, outputs, rn, cn, initial⟩) = num8 code.length ++ code.flatMap Ins.by8 ++ num8 types.length ++ types.flatMap Fx.by8 ++ num8 curves.length ++ curves.flatMap (fun c => curveB8 c.p) ++ num8 maps.length ++ maps.flatMap (fun m => mapB8 m.p) ++ num8 cells ++ list8 inputs ++ list8 states ++ list8 outputs ++ list8 initial) := H! (by unfold PP.body PV.p; simp only [List.length_map]; rw [flat_curves, flat_maps])
 have hs1 := hp.code
 have hg1 := hp.codeG
 have hs2 := hp.types
 have hg2 := hp.typesG
 have hs3 := hp.curves
 have hg3 := hp.curvesG
 have hs4 := hp.maps
 have hg4 := hp.mapsG
 have hcl := hp.cells
 have hi1 := hp.inputs
 have hi2 := hp.states
 have hi3 := hp.outputs
 have hi4 := hp.initial
 simp only at hs1 hg1 hs2 hg2 hs3 hg3 hs4 hg4 hcl hi1 hi2 hi3 hi4
 have hl2 := hl
 rw [HE.out] at hl2
 simp only [List.length_append, num8_len, list8_len] at hl2
 have hB1 : Below w.heap.size w (w.alloc (.cells #[.slice rc code.length cc, .slice rt types.length ct, .slice rv curves.length cv, .slice rm maps.length cm, .int .i64 cells, .slice ri inputs.length ci, .slice rs states.length cs, .slice ro outputs.length co, .slice rn initial.length cn] 28)) := (Below.refl _ _).alloc (Nat.le_refl _) _
 have HS1 := H! (hs1.later hB1)
 have HS2 := H! (hs2.later hB1)
 have HS3 := H! (hs3.later hB1)
 have HS4 := H! (hs4.later hB1)
 have HG1 := H! hg1
 have HG2 := H! hg2
 have HG3 := H! (fun x hx => (hg3 x hx).later hB1)
 have HG4 := H! (fun x hx => (hg4 x hx).later hB1)
 have HI1 := H! (hi1.later hB1)
 have HI2 := H! (hi2.later hB1)
 have HI3 := H! (hi3.later hB1)
 have HI4 := H! (hi4.later hB1)
 clear hs1 hs2 hs3 hs4 hg1 hg2 hg3 hg4 hi1 hi2 hi3 hi4 hp hl
 generalize hres : PP.body (PV.p ⟨rc, cc, code, rt, ct, types, rv, cv, curves, rm, cm, maps, cells, ri, ci, inputs, rs, cs, states, ro, co, outputs, rn, cn, initial⟩) = res at *
 clear hres
 have hm1 := HS1.out.max
 unfold maxLen at hm1
 have hmc1 := HS1.out.le
 have hmc2 := Nat.le_trans HS2.out.le HS2.out.max
 have hmc3 := Nat.le_trans HS3.out.le HS3.out.max
 have hmc4 := Nat.le_trans HS4.out.le HS4.out.max
 unfold maxLen at hmc2 hmc3 hmc4
 have hn1 : I64 (code.length : Int) := i64_nat (by omega)
 have hn2 : I64 (types.length : Int) := i64_nat (by omega)
 have hn3 : I64 (curves.length : Int) := i64_nat (by omega)
 have hn4 : I64 (maps.length : Int) := i64_nat (by omega)
 simp only [PV.val]
 go_enter Try.func22, Try.ntmps22
 go_wp2_with (go_at_call 46; refine (rnum_any _ hn1 _).mono ?_; rintro e w1 ⟨r1, c1, rfl, ho1, hb1⟩)
 have q0 : (w.alloc (.cells #[.slice rc code.length cc, .slice rt types.length ct, .slice rv curves.length cv, .slice rm maps.length cm, .int .i64 cells, .slice ri inputs.length ci, .slice rs states.length cs, .slice ro outputs.length co, .slice rn initial.length cn] 28)).cell? ⟨w.heap.size, 0, none⟩ = some (.slice rc code.length cc) := by simp
 have q1 : (w.alloc (.cells #[.slice rc code.length cc, .slice rt types.length ct, .slice rv curves.length cv, .slice rm maps.length cm, .int .i64 cells, .slice ri inputs.length ci, .slice rs states.length cs, .slice ro outputs.length co, .slice rn initial.length cn] 28)).cell? ⟨w.heap.size, 1, none⟩ = some (.slice rt types.length ct) := by simp
 have q2 : (w.alloc (.cells #[.slice rc code.length cc, .slice rt types.length ct, .slice rv curves.length cv, .slice rm maps.length cm, .int .i64 cells, .slice ri inputs.length ci, .slice rs states.length cs, .slice ro outputs.length co, .slice rn initial.length cn] 28)).cell? ⟨w.heap.size, 2, none⟩ = some (.slice rv curves.length cv) := by simp
 have q3 : (w.alloc (.cells #[.slice rc code.length cc, .slice rt types.length ct, .slice rv curves.length cv, .slice rm maps.length cm, .int .i64 cells, .slice ri inputs.length ci, .slice rs states.length cs, .slice ro outputs.length co, .slice rn initial.length cn] 28)).cell? ⟨w.heap.size, 3, none⟩ = some (.slice rm maps.length cm) := by simp
 have q4 : (w.alloc (.cells #[.slice rc code.length cc, .slice rt types.length ct, .slice rv curves.length cv, .slice rm maps.length cm, .int .i64 cells, .slice ri inputs.length ci, .slice rs states.length cs, .slice ro outputs.length co, .slice rn initial.length cn] 28)).cell? ⟨w.heap.size, 4, none⟩ = some (.int .i64 cells) := by simp
 have q5 : (w.alloc (.cells #[.slice rc code.length cc, .slice rt types.length ct, .slice rv curves.length cv, .slice rm maps.length cm, .int .i64 cells, .slice ri inputs.length ci, .slice rs states.length cs, .slice ro outputs.length co, .slice rn initial.length cn] 28)).cell? ⟨w.heap.size, 5, none⟩ = some (.slice ri inputs.length ci) := by simp
 have q6 : (w.alloc (.cells #[.slice rc code.length cc, .slice rt types.length ct, .slice rv curves.length cv, .slice rm maps.length cm, .int .i64 cells, .slice ri inputs.length ci, .slice rs states.length cs, .slice ro outputs.length co, .slice rn initial.length cn] 28)).cell? ⟨w.heap.size, 6, none⟩ = some (.slice rs states.length cs) := by simp
 have q7 : (w.alloc (.cells #[.slice rc code.length cc, .slice rt types.length ct, .slice rv curves.length cv, .slice rm maps.length cm, .int .i64 cells, .slice ri inputs.length ci, .slice rs states.length cs, .slice ro outputs.length co, .slice rn initial.length cn] 28)).cell? ⟨w.heap.size, 7, none⟩ = some (.slice ro outputs.length co) := by simp
 have q8 : (w.alloc (.cells #[.slice rc code.length cc, .slice rt types.length ct, .slice rv curves.length cv, .slice rm maps.length cm, .int .i64 cells, .slice ri inputs.length ci, .slice rs states.length cs, .slice ro outputs.length co, .slice rn initial.length cn] 28)).cell? ⟨w.heap.size, 8, none⟩ = some (.slice rn initial.length cn) := by simp
 have hz : w.heap.size < (w.alloc (.cells #[.slice rc code.length cc, .slice rt types.length ct, .slice rv curves.length cv, .slice rm maps.length cm, .int .i64 cells, .slice ri inputs.length ci, .slice rs states.length cs, .slice ro outputs.length co, .slice rn initial.length cn] 28)).heap.size := by rw [zA]; omega
 generalize w.alloc (.cells #[.slice rc code.length cc, .slice rt types.length ct, .slice rv curves.length cv, .slice rm maps.length cm, .int .i64 cells, .slice ri inputs.length ci, .slice rs states.length cs, .slice ro outputs.length co, .slice rn initial.length cn] 28) = W1 at *
 have HO1 := H! ho1
 clear ho1
 have hb1s := hb1.size
 have HLB0 : Hid (∀ k, (num8 code.length ++ (code.take k).flatMap Ins.by8).length ≤ 10000000000) := H! (fun k => by have := flat_le Ins.by8 code k; simp only [List.length_append, num8_len]; omega)
 go_loopg [3, 4] code.length (fun kx s3 s4 wr => ∃ (k : Nat) (e : Later W1) (r : Option Addr) (c : Nat) (out : List Int), s3 = .slice r out.length c ∧ s4 = .int .i64 k ∧ k ≤ code.length ∧ code.length - k ≤ kx ∧ wr = e.w ∧ out.length ≤ 10000000000 ∧ Hid (OwnK .u8 5 e.w W1.heap.size r c out) ∧ Hid (out = num8 code.length ++ (code.take k).flatMap Ins.by8))
 case atStart => exact ⟨0, ⟨w1, hb1⟩, r1, c1, num8 code.length, rfl, rfl, by omega, by omega, rfl, by rw [num8_len]; omega, HO1, H! (by simp)⟩
 case round =>
  clear HO1
  obtain ⟨k, e, r, c, out, rfl, rfl, hk, hkx, rfl, hol, HO, HQ⟩ := hrel
  have hes := e.h.size
  by_cases hlt : k < code.length
  ·
   have hk1 : (0 : Int) ≤ (k : Int) := by omega
   have hk2 : (k : Int) < code.length := by omega
   have HQ2 : Hid (out ++ Ins.by8 (code.getD k default) = num8 code.length ++ (code.take (k + 1)).flatMap Ins.by8) := H! (by rw [HQ.out, flat_take Ins.by8 hlt, List.append_assoc])
   have hbd : out.length + (Ins.by8 (code.getD k default)).length ≤ 10000000000 := by rw [← List.length_append, HQ2.out]; exact HLB0.out _
   obtain ⟨bX, off, rfl, hb, hc⟩ := HS1.out.at_ hlt
   have hc0 : e.w.cell? ⟨bX, off + k * 5, none⟩ = some (.int .i64 (code.getD k default).op) := (e.h.cell (p := ⟨bX, off + k * 5, none⟩) hb).trans (hc 0 _ rfl)
   have hc1 : e.w.cell? ⟨bX, off + k * 5 + 1, none⟩ = some (.int .i64 (code.getD k default).a) := (e.h.cell (p := ⟨bX, off + k * 5 + 1, none⟩) hb).trans (hc 1 _ rfl)
   have hc2 : e.w.cell? ⟨bX, off + k * 5 + 2, none⟩ = some (.int .i64 (code.getD k default).b) := (e.h.cell (p := ⟨bX, off + k * 5 + 2, none⟩) hb).trans (hc 2 _ rfl)
   have hc3 : e.w.cell? ⟨bX, off + k * 5 + 3, none⟩ = some (.int .i64 (code.getD k default).c) := (e.h.cell (p := ⟨bX, off + k * 5 + 3, none⟩) hb).trans (hc 3 _ rfl)
   have hc4 : e.w.cell? ⟨bX, off + k * 5 + 4, none⟩ = some (.int .i64 (code.getD k default).k) := (e.h.cell (p := ⟨bX, off + k * 5 + 4, none⟩) hb).trans (hc 4 _ rfl)
   clear hc
   generalize code.getD k default = x at *
   obtain ⟨xo, xa, xb, xc, xk⟩ := x
   simp only at hc0 hc1 hc2 hc3 hc4
   have hbd2 : out.length + 12 ≤ 10000000000 := hbd
   go_wp2_with (first | (go_at_call 47; refine (renc_any xo xa xb xc xk _).mono ?_; rintro _ w2 ⟨r2, c2, rfl, ho2, hb2⟩; have HO2 := H! (ints_b ho2 (encI_byte _ _ _ _ _)); clear ho2; have hb2s := hb2.size) | (at_builtin; refine wpList_append_ks Try.underlying29 infoU8 rfl (by omega) (by rfl) _ _ (by rfl) W1.heap.size r r2 c c2 out (encI xo xa xb xc xk) (by rfl) (by rfl) (HO.out.below hb2 (Nat.le_refl _)) HO2.out (by rw [encI_len]; omega) (by omega) ?_; intro r' c' w3 hown3 hbw3))
   have HO3 := H! hown3
   clear hown3
   go_roundg (code.length - (k + 1))
   case measure => omega
   case rel => exact ⟨k + 1, ⟨w3, (e.h.trans (hb2.mono hes)).trans hbw3⟩, r', c', out ++ encI xo xa xb xc xk, by first | rfl | (simp [encI_len]; done), by go_num, by omega, by omega, rfl, by rw [List.length_append, encI_len]; omega, HO3, HQ2⟩
  ·
   obtain rfl : k = code.length := by omega
   have HQ1 : Hid (out = num8 code.length ++ code.flatMap Ins.by8) := H! (by rw [HQ.out, List.take_length])
   clear HQ hkx hlt hk HLB0
   go_wp2_with (first | (go_at_call 46; refine (rnum_any _ hn2 _).mono ?_; rintro _ w2 ⟨r2, c2, rfl, ho2, hb2⟩; have HO2 := H! (ints8 ho2); clear ho2; have hb2s := hb2.size) | (at_builtin; refine wpList_append_ks Try.underlying29 infoU8 rfl (by omega) (by rfl) _ _ (by rfl) W1.heap.size r r2 c c2 out (num8 types.length) (by rfl) (by rfl) (HO.out.below hb2 (Nat.le_refl _)) HO2.out (by rw [num8_len]; omega) (by omega) ?_; intro r3 c3 w3 hown3 hbw3))
   have HO3 := H! hown3
   have hbe3 := (e.h.trans (hb2.mono hes)).trans hbw3
   have hb3s := hbe3.size
   clear hown3
   have HLB1 : Hid (∀ k, (num8 code.length ++ code.flatMap Ins.by8 ++ num8 types.length ++ (types.take k).flatMap Fx.by8).length ≤ 10000000000) := H! (fun k => by have := flat_le Fx.by8 types k; simp only [List.length_append, num8_len]; omega)
   go_loopg [3, 5] types.length (fun kx s3 s5 wr => ∃ (k : Nat) (e : Later W1) (r : Option Addr) (c : Nat) (out : List Int), s3 = .slice r out.length c ∧ s5 = .int .i64 k ∧ k ≤ types.length ∧ types.length - k ≤ kx ∧ wr = e.w ∧ out.length ≤ 10000000000 ∧ Hid (OwnK .u8 5 e.w W1.heap.size r c out) ∧ Hid (out = num8 code.length ++ code.flatMap Ins.by8 ++ num8 types.length ++ (types.take k).flatMap Fx.by8))
   case atStart => exact ⟨0, ⟨w3, hbe3⟩, r3, c3, out ++ num8 types.length, by first | rfl | (simp [num8_len]; done), by first | rfl | go_num, by omega, by omega, rfl, by have h := HLB1.out 0; rw [List.take_zero, List.flatMap_nil, List.append_nil, ← HQ1.out] at h; exact h, HO3, H! (by rw [HQ1.out]; simp)⟩
   case round =>
    clear HO3
    obtain ⟨k, e, r, c, out, rfl, rfl, hk, hkx, rfl, hol, HO, HQ⟩ := hrel
    have hes := e.h.size
    by_cases hlt : k < types.length
    ·
     have hk1 : (0 : Int) ≤ (k : Int) := by omega
     have hk2 : (k : Int) < types.length := by omega
     have HQ2 : Hid (out ++ Fx.by8 (types.getD k default) = num8 code.length ++ code.flatMap Ins.by8 ++ num8 types.length ++ (types.take (k + 1)).flatMap Fx.by8) := H! (by rw [HQ.out, flat_take Fx.by8 hlt, List.append_assoc])
     have hbd : out.length + (Fx.by8 (types.getD k default)).length ≤ 10000000000 := by rw [← List.length_append, HQ2.out]; exact HLB1.out _
     obtain ⟨bX, off, rfl, hb, hc⟩ := HS2.out.at_ hlt
     have hc0 : e.w.cell? ⟨bX, off + k * 10, none⟩ = some (.int .i64 (types.getD k default).bits) := (e.h.cell (p := ⟨bX, off + k * 10, none⟩) hb).trans (hc 0 _ rfl)
     have hc1 : e.w.cell? ⟨bX, off + k * 10 + 1, none⟩ = some (.bool (types.getD k default).sg) := (e.h.cell (p := ⟨bX, off + k * 10 + 1, none⟩) hb).trans (hc 1 _ rfl)
     have hc2 : e.w.cell? ⟨bX, off + k * 10 + 2, none⟩ = some (.int .i64 (types.getD k default).num) := (e.h.cell (p := ⟨bX, off + k * 10 + 2, none⟩) hb).trans (hc 2 _ rfl)
     have hc3 : e.w.cell? ⟨bX, off + k * 10 + 3, none⟩ = some (.int .i64 (types.getD k default).off) := (e.h.cell (p := ⟨bX, off + k * 10 + 3, none⟩) hb).trans (hc 3 _ rfl)
     have hc4 : e.w.cell? ⟨bX, off + k * 10 + 4, none⟩ = some (.int .i64 (types.getD k default).den) := (e.h.cell (p := ⟨bX, off + k * 10 + 4, none⟩) hb).trans (hc 4 _ rfl)
     have hc5 : e.w.cell? ⟨bX, off + k * 10 + 5, none⟩ = some (.int .i64 (types.getD k default).m) := (e.h.cell (p := ⟨bX, off + k * 10 + 5, none⟩) hb).trans (hc 5 _ rfl)
     have hc6 : e.w.cell? ⟨bX, off + k * 10 + 6, none⟩ = some (.int .i64 (types.getD k default).kg) := (e.h.cell (p := ⟨bX, off + k * 10 + 6, none⟩) hb).trans (hc 6 _ rfl)
     have hc7 : e.w.cell? ⟨bX, off + k * 10 + 7, none⟩ = some (.int .i64 (types.getD k default).s) := (e.h.cell (p := ⟨bX, off + k * 10 + 7, none⟩) hb).trans (hc 7 _ rfl)
     have hc8 : e.w.cell? ⟨bX, off + k * 10 + 8, none⟩ = some (.int .i64 (types.getD k default).a) := (e.h.cell (p := ⟨bX, off + k * 10 + 8, none⟩) hb).trans (hc 8 _ rfl)
     have hc9 : e.w.cell? ⟨bX, off + k * 10 + 9, none⟩ = some (.int .i64 (types.getD k default).k) := (e.h.cell (p := ⟨bX, off + k * 10 + 9, none⟩) hb).trans (hc 9 _ rfl)
     clear hc
     have hok := HG2.out _ (getD_mem_of hlt)
     generalize types.getD k default = x at *
     obtain ⟨x0, x1, x2, x3, x4, x5, x6, x7, x8, x9⟩ := x
     simp only at hc0 hc1 hc2 hc3 hc4 hc5 hc6 hc7 hc8 hc9
     obtain ⟨bv, hbv⟩ : ∃ v : Int, (if x1 then 1 else 0) = v := ⟨_, rfl⟩
     have HBIT := H! (bit_any x1 bv hbv)
     have HOK : Hid (∀ y ∈ [x0, bv, x2, x3, x4, x5, x6, x7, x8, x9], I64 y) := H! (by
      obtain ⟨o0, o2, o3, o4, o5, o6, o7, o8, o9⟩ := hok
      simp only at o0 o2 o3 o4 o5 o6 o7 o8 o9
      have ob : I64 bv := by rw [← hbv]; cases x1 <;> exact (by rfl)
      intro y hy
      simp only [List.mem_cons, List.not_mem_nil, or_false] at hy
      rcases hy with rfl | rfl | rfl | rfl | rfl | rfl | rfl | rfl | rfl | rfl <;> assumption)
     have HFB : Hid (Fx.by8 ⟨x0, x1, x2, x3, x4, x5, x6, x7, x8, x9⟩ = nums8 [x0, bv, x2, x3, x4, x5, x6, x7, x8, x9]) := H! (by unfold Fx.by8 Fx.nums; rw [← hbv])
     rw [HFB.out] at HQ2 hbd
     rw [nums8_len] at hbd
     simp only [List.length_cons, List.length_nil] at hbd
     clear hok hbv
     go_wp2
     have d : ∀ j : Nat, (e.w.alloc (.cells #[.int .i64 x0, .bool x1, .int .i64 x2, .int .i64 x3, .int .i64 x4, .int .i64 x5, .int .i64 x6, .int .i64 x7, .int .i64 x8, .int .i64 x9] 59)).cell? ⟨e.w.heap.size, j, none⟩ = (#[.int .i64 x0, .bool x1, .int .i64 x2, .int .i64 x3, .int .i64 x4, .int .i64 x5, .int .i64 x6, .int .i64 x7, .int .i64 x8, .int .i64 x9] : Array Value)[j]? := fun j => World.cell?_alloc_new _ _ _ _
     have hBx : Below W1.heap.size W1 (e.w.alloc (.cells #[.int .i64 x0, .bool x1, .int .i64 x2, .int .i64 x3, .int .i64 x4, .int .i64 x5, .int .i64 x6, .int .i64 x7, .int .i64 x8, .int .i64 x9] 59)) := e.h.alloc hes _
     have hzx : (e.w.alloc (.cells #[.int .i64 x0, .bool x1, .int .i64 x2, .int .i64 x3, .int .i64 x4, .int .i64 x5, .int .i64 x6, .int .i64 x7, .int .i64 x8, .int .i64 x9] 59)).heap.size = e.w.heap.size + 1 := zA _ _
     have HOx := H! (HO.out.below ((Below.refl e.w.heap.size e.w).alloc (Nat.le_refl _) (.cells #[.int .i64 x0, .bool x1, .int .i64 x2, .int .i64 x3, .int .i64 x4, .int .i64 x5, .int .i64 x6, .int .i64 x7, .int .i64 x8, .int .i64 x9] 59)) (Nat.le_refl _))
     generalize e.w.alloc (.cells #[.int .i64 x0, .bool x1, .int .i64 x2, .int .i64 x3, .int .i64 x4, .int .i64 x5, .int .i64 x6, .int .i64 x7, .int .i64 x8, .int .i64 x9] 59) = Wx at *
     refine wp_still_tail 26 (by kernel_rfl) (by kernel_rfl) ?_
     intro W hW hWs
     have hlx : e.w.heap.size < Wx.heap.size := by omega
     have d0 : W.cell? ⟨e.w.heap.size, 0, none⟩ = some (.int .i64 x0) := (hW.cell (p := ⟨e.w.heap.size, 0, none⟩) hlx).trans (d 0)
     have d1 : W.cell? ⟨e.w.heap.size, 1, none⟩ = some (.bool x1) := (hW.cell (p := ⟨e.w.heap.size, 1, none⟩) hlx).trans (d 1)
     have d2 : W.cell? ⟨e.w.heap.size, 2, none⟩ = some (.int .i64 x2) := (hW.cell (p := ⟨e.w.heap.size, 2, none⟩) hlx).trans (d 2)
     have d3 : W.cell? ⟨e.w.heap.size, 3, none⟩ = some (.int .i64 x3) := (hW.cell (p := ⟨e.w.heap.size, 3, none⟩) hlx).trans (d 3)
     have d4 : W.cell? ⟨e.w.heap.size, 4, none⟩ = some (.int .i64 x4) := (hW.cell (p := ⟨e.w.heap.size, 4, none⟩) hlx).trans (d 4)
     have d5 : W.cell? ⟨e.w.heap.size, 5, none⟩ = some (.int .i64 x5) := (hW.cell (p := ⟨e.w.heap.size, 5, none⟩) hlx).trans (d 5)
     have d6 : W.cell? ⟨e.w.heap.size, 6, none⟩ = some (.int .i64 x6) := (hW.cell (p := ⟨e.w.heap.size, 6, none⟩) hlx).trans (d 6)
     have d7 : W.cell? ⟨e.w.heap.size, 7, none⟩ = some (.int .i64 x7) := (hW.cell (p := ⟨e.w.heap.size, 7, none⟩) hlx).trans (d 7)
     have d8 : W.cell? ⟨e.w.heap.size, 8, none⟩ = some (.int .i64 x8) := (hW.cell (p := ⟨e.w.heap.size, 8, none⟩) hlx).trans (d 8)
     have d9 : W.cell? ⟨e.w.heap.size, 9, none⟩ = some (.int .i64 x9) := (hW.cell (p := ⟨e.w.heap.size, 9, none⟩) hlx).trans (d 9)
     clear d
     simp only [List.take_succ_cons, List.take_zero, List.drop_succ_cons, List.drop_zero]
     repeat (first | (refine wpStill_step (fun K hK => ?_); go_simp; refine hK _ ?_; clear hK K) | (refine wpStill_step (fun K hK => ?_); go_simp; refine ⟨_, HBIT.out _, hK _ ?_⟩; clear hK K))
     refine wpStill_nil ?_
     go_wp2
     have HL10 := H! ((own_built .i64 3 W W.heap.size [x0, bv, x2, x3, x4, x5, x6, x7, x8, x9] (Nat.le_refl _) (by simp [maxLen])).ints HOK.out)
     have HOy := H! (HOx.out.below (hW.trans ((Below.refl Wx.heap.size W).alloc hW.size (.cells #[.int .i64 x0, .int .i64 bv, .int .i64 x2, .int .i64 x3, .int .i64 x4, .int .i64 x5, .int .i64 x6, .int .i64 x7, .int .i64 x8, .int .i64 x9] 3))) (Nat.le_refl _))
     have hBy : Below W1.heap.size W1 (W.alloc (.cells #[.int .i64 x0, .int .i64 bv, .int .i64 x2, .int .i64 x3, .int .i64 x4, .int .i64 x5, .int .i64 x6, .int .i64 x7, .int .i64 x8, .int .i64 x9] 3)) := (hBx.trans (hW.mono hBx.size)).alloc (by omega) _
     have hzy : W.heap.size < (W.alloc (.cells #[.int .i64 x0, .int .i64 bv, .int .i64 x2, .int .i64 x3, .int .i64 x4, .int .i64 x5, .int .i64 x6, .int .i64 x7, .int .i64 x8, .int .i64 x9] 3)).heap.size := by rw [zA]; omega
     have HL10b : Hid (IsInts (W.alloc (.cells #[.int .i64 x0, .int .i64 bv, .int .i64 x2, .int .i64 x3, .int .i64 x4, .int .i64 x5, .int .i64 x6, .int .i64 x7, .int .i64 x8, .int .i64 x9] 3)) (some ⟨W.heap.size, 0, none⟩) 10 .i64 [x0, bv, x2, x3, x4, x5, x6, x7, x8, x9]) := HL10
     clear HL10 HOx
     generalize W.alloc (.cells #[.int .i64 x0, .int .i64 bv, .int .i64 x2, .int .i64 x3, .int .i64 x4, .int .i64 x5, .int .i64 x6, .int .i64 x7, .int .i64 x8, .int .i64 x9] 3) = W3 at *
     have hL : [x0, bv, x2, x3, x4, x5, x6, x7, x8, x9].length = 10 := rfl
     generalize [x0, bv, x2, x3, x4, x5, x6, x7, x8, x9] = L at *
     clear d0 d1 d2 d3 d4 d5 d6 d7 d8 d9 hc0 hc1 hc2 hc3 hc4 hc5 hc6 hc7 hc8 hc9 HBIT
     have HLL := H! hL
     clear hL
     have hA3 : W.heap.size = e.w.heap.size + 1 := by omega
     have HNA : Hid (∀ a, r = some a → a.block ≠ W.heap.size) := H! (fun a ha => by have := (HO.out.lt a ha).2; omega)
     go_loopg [3, 8] 10 (fun kx s3 s8 wr => ∃ (j : Nat) (r : Option Addr) (c : Nat) (out2 : List Int), s3 = .slice r out2.length c ∧ s8 = .int .i64 j ∧ j ≤ 10 ∧ 10 - j ≤ kx ∧ Below W1.heap.size W1 wr ∧ W3.heap.size ≤ wr.heap.size ∧ Hid (wr.heap[W.heap.size]? = W3.heap[W.heap.size]?) ∧ Hid (∀ a, r = some a → a.block ≠ W.heap.size) ∧ out2.length ≤ 10000000000 ∧ Hid (OwnK .u8 5 wr W1.heap.size r c out2) ∧ Hid (out2 = out ++ nums8 (L.take j)) ∧ Hid (out2.length = out.length + 8 * j))
     case atStart => exact ⟨0, r, c, out, rfl, rfl, by omega, by omega, hBy, Nat.le_refl _, H! rfl, HNA, hol, HOy, H! (by simp [nums8]), H! (by omega)⟩
     case round =>
      clear HOy HNA
      obtain ⟨j, r, c, out2, rfl, rfl, hj, hjx, hBr, hrs, HKA, HNA, hol2, HO2, HQj, HLj⟩ := hrel
      have hBrs := hBr.size
      have hByS := hBy.size
      by_cases hjl : j < 10
      ·
       have hj1 : (0 : Int) ≤ (j : Int) := by omega
       have hj2 : (j : Int) < 10 := by omega
       obtain ⟨bL, ofL, hre, hbL, hcL⟩ := HL10b.out.cells (fun e => by have := HLL.out; rw [e] at this; simp at this)
       simp only [Option.some.injEq, Addr.mk.injEq, and_true] at hre
       obtain ⟨rfl, rfl⟩ := hre
       have hcj : wr.cell? ⟨e.w.heap.size + 1, j, none⟩ = some (.int .i64 (L.getD j 0)) := by
        have := (World.cell?_of_block (a := ⟨W.heap.size, 0 + j, none⟩) HKA.out).trans (hcL j (by rw [HLL.out]; exact hjl))
        rw [Nat.zero_add, hA3] at this
        exact this
       clear hcL
       have hyi : I64 (L.getD j 0) := HOK.out _ (getD_mem' (by rw [HLL.out]; exact hjl))
       have HQn := H! (nums8_take (l := L) (k := j) (by rw [HLL.out]; exact hjl))
       generalize L.getD j 0 = y at *
       have hbd2 : out2.length + 8 ≤ 10000000000 := by have := HLj.out; omega
       go_wp2_with (first | (go_at_call 46; refine (rnum_any _ hyi _).mono ?_; rintro _ w4 ⟨r4, c4, rfl, ho4, hb4⟩; have HO4 := H! (ints8 ho4); clear ho4; have hb4s := hb4.size) | (at_builtin; refine wpList_append_ksf Try.underlying29 infoU8 rfl (by omega) (by rfl) _ _ (by rfl) W1.heap.size r r4 c c4 out2 (num8 y) (by rfl) (by rfl) (HO2.out.below hb4 (Nat.le_refl _)) HO4.out (by rw [num8_len]; omega) (by omega) ?_; intro r5 c5 w5 hown5 hbw5 hst5 hrr5))
       have HO5 := H! hown5
       have HKA5 : Hid (w5.heap[W.heap.size]? = W3.heap[W.heap.size]?) := H! ((hst5 _ (by omega) HNA.out).trans ((hb4.block _ (by omega)).trans HKA.out))
       have HNA5 : Hid (∀ a, r5 = some a → a.block ≠ W.heap.size) := H! (fun a ha => by
        rcases hrr5 a ha with ⟨a0, h1, h2⟩ | h1
        ·
         rw [← h2]; exact HNA.out a0 h1
        ·
         omega)
       have hbw5s := hbw5.size
       clear hown5 hst5 hrr5
       go_roundg (10 - (j + 1))
       case measure => omega
       case rel => exact ⟨j + 1, r5, c5, out2 ++ num8 y, by first | rfl | (simp [num8_len]; done), by go_num, by omega, by omega, (hBr.trans (hb4.mono hBrs)).trans hbw5, by omega, HKA5, HNA5, by rw [List.length_append, num8_len]; omega, HO5, H! (by rw [HQj.out, HQn.out, List.append_assoc]), H! (by rw [List.length_append, num8_len, HLj.out]; omega)⟩
      ·
       obtain rfl : j = 10 := by omega
       have HQe : Hid (out2 = out ++ nums8 L) := H! (by rw [HQj.out, List.take_of_length_le (by rw [HLL.out]; exact Nat.le_refl _)])
       clear HQj
       go_wp2
       go_roundg (types.length - (k + 1))
       case measure => omega
       case rel => exact ⟨k + 1, ⟨wr, hBr⟩, r, c, out2, rfl, by go_num, by omega, by omega, rfl, hol2, HO2, H! (by rw [HQe.out]; exact HQ2.out)⟩
    ·
     obtain rfl : k = types.length := by omega
     have HQ1 : Hid (out = num8 code.length ++ code.flatMap Ins.by8 ++ num8 types.length ++ types.flatMap Fx.by8) := H! (by rw [HQ.out, List.take_length])
     clear HQ hkx hlt hk HLB1
     go_wp2_with (first | (go_at_call 46; refine (rnum_any _ hn3 _).mono ?_; rintro _ w2 ⟨r2, c2, rfl, ho2, hb2⟩; have HO2 := H! (ints8 ho2); clear ho2; have hb2s := hb2.size) | (at_builtin; refine wpList_append_ks Try.underlying29 infoU8 rfl (by omega) (by rfl) _ _ (by rfl) W1.heap.size r r2 c c2 out (num8 curves.length) (by rfl) (by rfl) (HO.out.below hb2 (Nat.le_refl _)) HO2.out (by rw [num8_len]; omega) (by omega) ?_; intro r3 c3 w3 hown3 hbw3))
     have HO3 := H! hown3
     have hbe3 := (e.h.trans (hb2.mono hes)).trans hbw3
     have hb3s := hbe3.size
     clear hown3
     have HLB2 : Hid (∀ k, (num8 code.length ++ code.flatMap Ins.by8 ++ num8 types.length ++ types.flatMap Fx.by8 ++ num8 curves.length ++ (curves.take k).flatMap (fun c : Cv => curveB8 c.p)).length ≤ 10000000000) := H! (fun k => by have := flat_le (fun c : Cv => curveB8 c.p) curves k; simp only [List.length_append, num8_len]; omega)
     go_loopg [3, 9] curves.length (fun kx s3 s9 wr => ∃ (k : Nat) (e : Later W1) (r : Option Addr) (c : Nat) (out : List Int), s3 = .slice r out.length c ∧ s9 = .int .i64 k ∧ k ≤ curves.length ∧ curves.length - k ≤ kx ∧ wr = e.w ∧ out.length ≤ 10000000000 ∧ Hid (OwnK .u8 5 e.w W1.heap.size r c out) ∧ Hid (out = num8 code.length ++ code.flatMap Ins.by8 ++ num8 types.length ++ types.flatMap Fx.by8 ++ num8 curves.length ++ (curves.take k).flatMap (fun c : Cv => curveB8 c.p)))
     case atStart => exact ⟨0, ⟨w3, hbe3⟩, r3, c3, out ++ num8 curves.length, by first | rfl | (simp [num8_len]; done), by first | rfl | go_num, by omega, by omega, rfl, by have h := HLB2.out 0; rw [List.take_zero, List.flatMap_nil, List.append_nil, ← HQ1.out] at h; exact h, HO3, H! (by rw [HQ1.out]; simp)⟩
     case round =>
      clear HO3
      obtain ⟨k, e, r, c, out, rfl, rfl, hk, hkx, rfl, hol, HO, HQ⟩ := hrel
      have hes := e.h.size
      by_cases hlt : k < curves.length
      ·
       have hk1 : (0 : Int) ≤ (k : Int) := by omega
       have hk2 : (k : Int) < curves.length := by omega
       have HQ2 : Hid (out ++ (fun c : Cv => curveB8 c.p) (curves.getD k default) = num8 code.length ++ code.flatMap Ins.by8 ++ num8 types.length ++ types.flatMap Fx.by8 ++ num8 curves.length ++ (curves.take (k + 1)).flatMap (fun c : Cv => curveB8 c.p)) := H! (by rw [HQ.out, flat_take (fun c : Cv => curveB8 c.p) hlt, List.append_assoc])
       have hbd : out.length + ((fun c : Cv => curveB8 c.p) (curves.getD k default)).length ≤ 10000000000 := by rw [← List.length_append, HQ2.out]; exact HLB2.out _
       obtain ⟨bX, off, rfl, hb, hc⟩ := HS3.out.at_ hlt
       have hc0 : W1.cell? ⟨bX, off + k * 2, none⟩ = some (.slice (curves.getD k default).rx (curves.getD k default).X.length (curves.getD k default).cx) := hc 0 _ rfl
       have hc1 : W1.cell? ⟨bX, off + k * 2 + 1, none⟩ = some (.slice (curves.getD k default).ry (curves.getD k default).Y.length (curves.getD k default).cy) := hc 1 _ rfl
       clear hc
       obtain ⟨hoX, hoY⟩ := HG3.out _ (getD_mem_of hlt)
       generalize curves.getD k default = x at *
       obtain ⟨xr, xc, X, yr, yc, Y⟩ := x
       simp only at hc0 hc1 hoX hoY
       simp only [curveB8, Cv.p, List.length_append, list8_len] at hbd
       have HQ3 : Hid ((out ++ list8 X) ++ list8 Y = num8 code.length ++ code.flatMap Ins.by8 ++ num8 types.length ++ types.flatMap Fx.by8 ++ num8 curves.length ++ (curves.take (k + 1)).flatMap (fun c : Cv => curveB8 c.p)) := H! (by rw [List.append_assoc]; exact HQ2.out)
       have HXY := H! (And.intro hoX hoY)
       clear hoX hoY
       have es := hes
       have tk0 : True := trivial
       have tk1 : True := trivial
       have tk2 : True := trivial
       have tk3 : True := trivial
       go_wp2_with (first | (have _t := tk0; go_at_call 49; refine (rlist_any xr xc X _ (HXY.out.1.later e.h) (by omega)).mono ?_; rintro _ waA ⟨raA, caA, rfl, hoaA, hbaA⟩; have HOaA := H! (ints_b hoaA (list8_byte _)); clear hoaA tk0 _t; have hbaAs := hbaA.size) | (have _t := tk1; at_builtin; refine wpList_append_ks Try.underlying29 infoU8 rfl (by omega) (by rfl) _ _ (by rfl) W1.heap.size r raA c caA out (list8 X) (by rfl) (by rfl) (HO.out.below hbaA (Nat.le_refl _)) HOaA.out (by rw [list8_len]; omega) (by omega) ?_; intro rA cA wA hownA hbwA; obtain ⟨oA, hoA⟩ : ∃ l, l = out ++ (list8 X) := ⟨_, rfl⟩; rw [← hoA] at hownA ⊢; have HQA := H! hoA; have hlenA : oA.length = out.length + (list8 X).length := (by rw [hoA, List.length_append]); rw [list8_len] at hlenA; have holA : oA.length ≤ 10000000000 := (by omega); have HOA := H! hownA; have HLnA := H! hlenA; clear hownA hoA hlenA tk1 _t; obtain ⟨eA, hweA⟩ : ∃ e2 : Later W1, wA = e2.w := ⟨⟨wA, (e.h.trans (hbaA.mono es)).trans hbwA⟩, rfl⟩; subst hweA; have eAs := eA.h.size) | (have _t := tk2; go_at_call 49; refine (rlist_any yr yc Y _ (HXY.out.2.later eA.h) (by omega)).mono ?_; rintro _ waB ⟨raB, caB, rfl, hoaB, hbaB⟩; have HOaB := H! (ints_b hoaB (list8_byte _)); clear hoaB tk2 _t; have hbaBs := hbaB.size) | (have _t := tk3; at_builtin; refine wpList_append_ks Try.underlying29 infoU8 rfl (by omega) (by rfl) _ _ (by rfl) W1.heap.size rA raB cA caB oA (list8 Y) (by rfl) (by rfl) (HOA.out.below hbaB (Nat.le_refl _)) HOaB.out (by rw [list8_len]; omega) (by omega) ?_; intro rB cB wB hownB hbwB; obtain ⟨oB, hoB⟩ : ∃ l, l = oA ++ (list8 Y) := ⟨_, rfl⟩; rw [← hoB] at hownB ⊢; have HQB := H! hoB; have hlenB : oB.length = oA.length + (list8 Y).length := (by rw [hoB, List.length_append]); rw [list8_len] at hlenB; have holB : oB.length ≤ 10000000000 := (by have hhA := HLnA.out; omega); have HOB := H! hownB; have HLnB := H! hlenB; clear hownB hoB hlenB tk3 _t; obtain ⟨eB, hweB⟩ : ∃ e2 : Later W1, wB = e2.w := ⟨⟨wB, (eA.h.trans (hbaB.mono eAs)).trans hbwB⟩, rfl⟩; subst hweB; have eBs := eB.h.size))
       go_roundg (curves.length - (k + 1))
       case measure => omega
       case rel => exact ⟨k + 1, eB, rB, cB, oB, rfl, by go_num, by omega, by omega, rfl, holB, HOB, H! (by rw [HQB.out, HQA.out]; exact HQ3.out)⟩
      ·
       obtain rfl : k = curves.length := by omega
       have HQ1 : Hid (out = num8 code.length ++ code.flatMap Ins.by8 ++ num8 types.length ++ types.flatMap Fx.by8 ++ num8 curves.length ++ curves.flatMap (fun c => curveB8 c.p)) := H! (by rw [HQ.out, List.take_length])
       clear HQ hkx hlt hk HLB2
       go_wp2_with (first | (go_at_call 46; refine (rnum_any _ hn4 _).mono ?_; rintro _ w2 ⟨r2, c2, rfl, ho2, hb2⟩; have HO2 := H! (ints8 ho2); clear ho2; have hb2s := hb2.size) | (at_builtin; refine wpList_append_ks Try.underlying29 infoU8 rfl (by omega) (by rfl) _ _ (by rfl) W1.heap.size r r2 c c2 out (num8 maps.length) (by rfl) (by rfl) (HO.out.below hb2 (Nat.le_refl _)) HO2.out (by rw [num8_len]; omega) (by omega) ?_; intro r3 c3 w3 hown3 hbw3))
       have HO3 := H! hown3
       have hbe3 := (e.h.trans (hb2.mono hes)).trans hbw3
       have hb3s := hbe3.size
       clear hown3
       have HLB3 : Hid (∀ k, (num8 code.length ++ code.flatMap Ins.by8 ++ num8 types.length ++ types.flatMap Fx.by8 ++ num8 curves.length ++ curves.flatMap (fun c => curveB8 c.p) ++ num8 maps.length ++ (maps.take k).flatMap (fun m : Mp => mapB8 m.p)).length ≤ 10000000000) := H! (fun k => by have := flat_le (fun m : Mp => mapB8 m.p) maps k; simp only [List.length_append, num8_len]; omega)
       go_loopg [3, 10] maps.length (fun kx s3 s10 wr => ∃ (k : Nat) (e : Later W1) (r : Option Addr) (c : Nat) (out : List Int), s3 = .slice r out.length c ∧ s10 = .int .i64 k ∧ k ≤ maps.length ∧ maps.length - k ≤ kx ∧ wr = e.w ∧ out.length ≤ 10000000000 ∧ Hid (OwnK .u8 5 e.w W1.heap.size r c out) ∧ Hid (out = num8 code.length ++ code.flatMap Ins.by8 ++ num8 types.length ++ types.flatMap Fx.by8 ++ num8 curves.length ++ curves.flatMap (fun c => curveB8 c.p) ++ num8 maps.length ++ (maps.take k).flatMap (fun m : Mp => mapB8 m.p)))
       case atStart => exact ⟨0, ⟨w3, hbe3⟩, r3, c3, out ++ num8 maps.length, by first | rfl | (simp [num8_len]; done), by first | rfl | go_num, by omega, by omega, rfl, by have h := HLB3.out 0; rw [List.take_zero, List.flatMap_nil, List.append_nil, ← HQ1.out] at h; exact h, HO3, H! (by rw [HQ1.out]; simp)⟩
       case round =>
        clear HO3
        obtain ⟨k, e, r, c, out, rfl, rfl, hk, hkx, rfl, hol, HO, HQ⟩ := hrel
        have hes := e.h.size
        by_cases hlt : k < maps.length
        ·
         have hk1 : (0 : Int) ≤ (k : Int) := by omega
         have hk2 : (k : Int) < maps.length := by omega
         have HQ2 : Hid (out ++ (fun m : Mp => mapB8 m.p) (maps.getD k default) = num8 code.length ++ code.flatMap Ins.by8 ++ num8 types.length ++ types.flatMap Fx.by8 ++ num8 curves.length ++ curves.flatMap (fun c => curveB8 c.p) ++ num8 maps.length ++ (maps.take (k + 1)).flatMap (fun m : Mp => mapB8 m.p)) := H! (by rw [HQ.out, flat_take (fun m : Mp => mapB8 m.p) hlt, List.append_assoc])
         have hbd : out.length + ((fun m : Mp => mapB8 m.p) (maps.getD k default)).length ≤ 10000000000 := by rw [← List.length_append, HQ2.out]; exact HLB3.out _
         obtain ⟨bX, off, rfl, hb, hc⟩ := HS4.out.at_ hlt
         have hc0 : W1.cell? ⟨bX, off + k * 3, none⟩ = some (.slice (maps.getD k default).rx (maps.getD k default).X.length (maps.getD k default).cx) := hc 0 _ rfl
         have hc1 : W1.cell? ⟨bX, off + k * 3 + 1, none⟩ = some (.slice (maps.getD k default).ry (maps.getD k default).Y.length (maps.getD k default).cy) := hc 1 _ rfl
         have hc2 : W1.cell? ⟨bX, off + k * 3 + 2, none⟩ = some (.slice (maps.getD k default).rz (maps.getD k default).Z.length (maps.getD k default).cz) := hc 2 _ rfl
         clear hc
         obtain ⟨hoX, hoY, hoZ⟩ := HG4.out _ (getD_mem_of hlt)
         generalize maps.getD k default = x at *
         obtain ⟨xr, xc, X, yr, yc, Y, zr, zc, Z⟩ := x
         simp only at hc0 hc1 hc2 hoX hoY hoZ
         simp only [mapB8, Mp.p, List.length_append, list8_len] at hbd
         have HQ3 : Hid (((out ++ list8 X) ++ list8 Y) ++ Z.flatMap list8 = num8 code.length ++ code.flatMap Ins.by8 ++ num8 types.length ++ types.flatMap Fx.by8 ++ num8 curves.length ++ curves.flatMap (fun c => curveB8 c.p) ++ num8 maps.length ++ (maps.take (k + 1)).flatMap (fun m : Mp => mapB8 m.p)) := H! (by refine Eq.trans ?_ HQ2.out; show _ = out ++ (list8 X ++ list8 Y ++ Z.flatMap list8); simp only [List.append_assoc])
         have HXY := H! (And.intro hoX (And.intro hoY hoZ))
         have hzl := Nat.le_trans hoZ.le hoZ.max
         unfold maxLen at hzl
         clear hoX hoY hoZ
         have es := hes
         have tk0 : True := trivial
         have tk1 : True := trivial
         have tk2 : True := trivial
         have tk3 : True := trivial
         go_wp2_with (first | (have _t := tk0; go_at_call 49; refine (rlist_any xr xc X _ (HXY.out.1.later e.h) (by omega)).mono ?_; rintro _ waA ⟨raA, caA, rfl, hoaA, hbaA⟩; have HOaA := H! (ints_b hoaA (list8_byte _)); clear hoaA tk0 _t; have hbaAs := hbaA.size) | (have _t := tk1; at_builtin; refine wpList_append_ks Try.underlying29 infoU8 rfl (by omega) (by rfl) _ _ (by rfl) W1.heap.size r raA c caA out (list8 X) (by rfl) (by rfl) (HO.out.below hbaA (Nat.le_refl _)) HOaA.out (by rw [list8_len]; omega) (by omega) ?_; intro rA cA wA hownA hbwA; obtain ⟨oA, hoA⟩ : ∃ l, l = out ++ (list8 X) := ⟨_, rfl⟩; rw [← hoA] at hownA ⊢; have HQA := H! hoA; have hlenA : oA.length = out.length + (list8 X).length := (by rw [hoA, List.length_append]); rw [list8_len] at hlenA; have holA : oA.length ≤ 10000000000 := (by omega); have HOA := H! hownA; have HLnA := H! hlenA; clear hownA hoA hlenA tk1 _t; obtain ⟨eA, hweA⟩ : ∃ e2 : Later W1, wA = e2.w := ⟨⟨wA, (e.h.trans (hbaA.mono es)).trans hbwA⟩, rfl⟩; subst hweA; have eAs := eA.h.size) | (have _t := tk2; go_at_call 49; refine (rlist_any yr yc Y _ (HXY.out.2.1.later eA.h) (by omega)).mono ?_; rintro _ waB ⟨raB, caB, rfl, hoaB, hbaB⟩; have HOaB := H! (ints_b hoaB (list8_byte _)); clear hoaB tk2 _t; have hbaBs := hbaB.size) | (have _t := tk3; at_builtin; refine wpList_append_ks Try.underlying29 infoU8 rfl (by omega) (by rfl) _ _ (by rfl) W1.heap.size rA raB cA caB oA (list8 Y) (by rfl) (by rfl) (HOA.out.below hbaB (Nat.le_refl _)) HOaB.out (by rw [list8_len]; omega) (by omega) ?_; intro rB cB wB hownB hbwB; obtain ⟨oB, hoB⟩ : ∃ l, l = oA ++ (list8 Y) := ⟨_, rfl⟩; rw [← hoB] at hownB ⊢; have HQB := H! hoB; have hlenB : oB.length = oA.length + (list8 Y).length := (by rw [hoB, List.length_append]); rw [list8_len] at hlenB; have holB : oB.length ≤ 10000000000 := (by have hhA := HLnA.out; omega); have HOB := H! hownB; have HLnB := H! hlenB; clear hownB hoB hlenB tk3 _t; obtain ⟨eB, hweB⟩ : ∃ e2 : Later W1, wB = e2.w := ⟨⟨wB, (eA.h.trans (hbaB.mono eAs)).trans hbwB⟩, rfl⟩; subst hweB; have eBs := eB.h.size))
         have HLZ : Hid (∀ j, (oB ++ (Z.take j).flatMap list8).length ≤ 10000000000) := H! (fun j => by
          have h1 := flat_le list8 Z j
          have h2 := HLnA.out
          have h3 := HLnB.out
          rw [List.length_append]
          omega)
         go_loopg [3, 11] Z.length (fun kx s3 s11 wr => ∃ (j : Nat) (e2 : Later W1) (r : Option Addr) (c : Nat) (out2 : List Int), s3 = .slice r out2.length c ∧ s11 = .int .i64 j ∧ j ≤ Z.length ∧ Z.length - j ≤ kx ∧ wr = e2.w ∧ out2.length ≤ 10000000000 ∧ Hid (OwnK .u8 5 e2.w W1.heap.size r c out2) ∧ Hid (out2 = oB ++ (Z.take j).flatMap list8))
         case atStart => exact ⟨0, eB, rB, cB, oB, rfl, rfl, by omega, by omega, rfl, holB, HOB, H! (by simp)⟩
         case round =>
          clear HOB HOA HO
          obtain ⟨j, e2, r, c, out2, rfl, rfl, hj, hjx, rfl, hol2, HO2, HQj⟩ := hrel
          have e2s := e2.h.size
          by_cases hjl : j < Z.length
          ·
           have hj1 : (0 : Int) ≤ (j : Int) := by omega
           have hj2 : (j : Int) < Z.length := by omega
           obtain ⟨bZ, ofZ, rfl, hbZ, hcZ⟩ := HXY.out.2.2.cells (fun e => by subst e; simp at hjl)
           obtain ⟨ri, ci, hcz, hzI⟩ := hcZ j hjl
           clear hcZ
           have HQn : Hid ((Z.take (j + 1)).flatMap list8 = (Z.take j).flatMap list8 ++ list8 (Z.getD j [])) := H! (flat_take list8 hjl)
           have hbd2 : out2.length + (8 + 8 * (Z.getD j []).length) ≤ 10000000000 := by
            have := HLZ.out (j + 1)
            rw [HQn.out, ← List.append_assoc, ← HQj.out, List.length_append, list8_len] at this
            exact this
           have HZI := H! hzI
           clear hzI
           generalize Z.getD j [] = row at *
           have tk0 : True := trivial
           have tk1 : True := trivial
           go_wp2_with (first | (have _t := tk0; go_at_call 49; refine (rlist_any ri ci row _ (HZI.out.later e2.h) (by omega)).mono ?_; rintro _ waD ⟨raD, caD, rfl, hoaD, hbaD⟩; have HOaD := H! (ints_b hoaD (list8_byte _)); clear hoaD tk0 _t; have hbaDs := hbaD.size) | (have _t := tk1; at_builtin; refine wpList_append_ks Try.underlying29 infoU8 rfl (by omega) (by rfl) _ _ (by rfl) W1.heap.size r raD c caD out2 (list8 row) (by rfl) (by rfl) (HO2.out.below hbaD (Nat.le_refl _)) HOaD.out (by rw [list8_len]; omega) (by omega) ?_; intro rD cD wD hownD hbwD; obtain ⟨oD, hoD⟩ : ∃ l, l = out2 ++ (list8 row) := ⟨_, rfl⟩; rw [← hoD] at hownD ⊢; have HQD := H! hoD; have hlenD : oD.length = out2.length + (list8 row).length := (by rw [hoD, List.length_append]); rw [list8_len] at hlenD; have holD : oD.length ≤ 10000000000 := (by omega); have HOD := H! hownD; have HLnD := H! hlenD; clear hownD hoD hlenD tk1 _t; obtain ⟨eD, hweD⟩ : ∃ e2 : Later W1, wD = e2.w := ⟨⟨wD, (e2.h.trans (hbaD.mono e2s)).trans hbwD⟩, rfl⟩; subst hweD; have eDs := eD.h.size))
           go_roundg (Z.length - (j + 1))
           case measure => omega
           case rel => exact ⟨j + 1, eD, rD, cD, oD, rfl, by go_num, by omega, by omega, rfl, holD, HOD, H! (by rw [HQD.out, HQj.out, HQn.out, List.append_assoc])⟩
          ·
           obtain rfl : j = Z.length := by omega
           have HQe : Hid (out2 = oB ++ Z.flatMap list8) := H! (by rw [HQj.out, List.take_length])
           clear HQj HLZ
           go_wp2
           go_roundg (maps.length - (k + 1))
           case measure => omega
           case rel => exact ⟨k + 1, e2, r, c, out2, rfl, by go_num, by omega, by omega, rfl, hol2, HO2, H! (by rw [HQe.out, HQB.out, HQA.out]; exact HQ3.out)⟩
        ·
         obtain rfl : k = maps.length := by omega
         have HQ1 : Hid (out = num8 code.length ++ code.flatMap Ins.by8 ++ num8 types.length ++ types.flatMap Fx.by8 ++ num8 curves.length ++ curves.flatMap (fun c => curveB8 c.p) ++ num8 maps.length ++ maps.flatMap (fun m => mapB8 m.p)) := H! (by rw [HQ.out, List.take_length])
         clear HQ hkx hlt hk HLB3
         have HLnO : Hid (out.length = 8 + (code.flatMap Ins.by8).length + 8 + (types.flatMap Fx.by8).length + 8 + (curves.flatMap (fun c => curveB8 c.p)).length + 8 + (maps.flatMap (fun m => mapB8 m.p)).length) := H! (by rw [HQ1.out]; simp only [List.length_append, num8_len])
         have es := hes
         have tk0 : True := trivial
         have tk1 : True := trivial
         have tk2 : True := trivial
         have tk3 : True := trivial
         have tk4 : True := trivial
         have tk5 : True := trivial
         have tk6 : True := trivial
         have tk7 : True := trivial
         have tk8 : True := trivial
         have tk9 : True := trivial
         go_wp2_with (first | (have _t := tk0; go_at_call 46; refine (rnum_any cells hcl _).mono ?_; rintro _ waT0 ⟨raT0, caT0, rfl, hoaT0, hbaT0⟩; have HOaT0 := H! (ints_b hoaT0 (num8_byte _)); clear hoaT0 tk0 _t; have hbaT0s := hbaT0.size) | (have _t := tk1; at_builtin; refine wpList_append_ks Try.underlying29 infoU8 rfl (by omega) (by rfl) _ _ (by rfl) W1.heap.size r raT0 c caT0 out (num8 cells) (by rfl) (by rfl) (HO.out.below hbaT0 (Nat.le_refl _)) HOaT0.out (by rw [num8_len]; omega) (by omega) ?_; intro rT0 cT0 wT0 hownT0 hbwT0; obtain ⟨oT0, hoT0⟩ : ∃ l, l = out ++ (num8 cells) := ⟨_, rfl⟩; rw [← hoT0] at hownT0 ⊢; have HQT0 := H! hoT0; have hlenT0 : oT0.length = out.length + (num8 cells).length := (by rw [hoT0, List.length_append]); rw [num8_len] at hlenT0; have holT0 : oT0.length ≤ 10000000000 := (by have hhO := HLnO.out; omega); have HOT0 := H! hownT0; have HLnT0 := H! hlenT0; clear hownT0 hoT0 hlenT0 tk1 _t; obtain ⟨eT0, hweT0⟩ : ∃ e2 : Later W1, wT0 = e2.w := ⟨⟨wT0, (e.h.trans (hbaT0.mono es)).trans hbwT0⟩, rfl⟩; subst hweT0; have eT0s := eT0.h.size) | (have _t := tk2; go_at_call 49; refine (rlist_any ri ci inputs _ (HI1.out.later eT0.h) (by omega)).mono ?_; rintro _ waT1 ⟨raT1, caT1, rfl, hoaT1, hbaT1⟩; have HOaT1 := H! (ints_b hoaT1 (list8_byte _)); clear hoaT1 tk2 _t; have hbaT1s := hbaT1.size) | (have _t := tk3; at_builtin; refine wpList_append_ks Try.underlying29 infoU8 rfl (by omega) (by rfl) _ _ (by rfl) W1.heap.size rT0 raT1 cT0 caT1 oT0 (list8 inputs) (by rfl) (by rfl) (HOT0.out.below hbaT1 (Nat.le_refl _)) HOaT1.out (by rw [list8_len]; omega) (by omega) ?_; intro rT1 cT1 wT1 hownT1 hbwT1; obtain ⟨oT1, hoT1⟩ : ∃ l, l = oT0 ++ (list8 inputs) := ⟨_, rfl⟩; rw [← hoT1] at hownT1 ⊢; have HQT1 := H! hoT1; have hlenT1 : oT1.length = oT0.length + (list8 inputs).length := (by rw [hoT1, List.length_append]); rw [list8_len] at hlenT1; have holT1 : oT1.length ≤ 10000000000 := (by have hhO := HLnO.out; have hhT0 := HLnT0.out; omega); have HOT1 := H! hownT1; have HLnT1 := H! hlenT1; clear hownT1 hoT1 hlenT1 tk3 _t; obtain ⟨eT1, hweT1⟩ : ∃ e2 : Later W1, wT1 = e2.w := ⟨⟨wT1, (eT0.h.trans (hbaT1.mono eT0s)).trans hbwT1⟩, rfl⟩; subst hweT1; have eT1s := eT1.h.size) | (have _t := tk4; go_at_call 49; refine (rlist_any rs cs states _ (HI2.out.later eT1.h) (by omega)).mono ?_; rintro _ waT2 ⟨raT2, caT2, rfl, hoaT2, hbaT2⟩; have HOaT2 := H! (ints_b hoaT2 (list8_byte _)); clear hoaT2 tk4 _t; have hbaT2s := hbaT2.size) | (have _t := tk5; at_builtin; refine wpList_append_ks Try.underlying29 infoU8 rfl (by omega) (by rfl) _ _ (by rfl) W1.heap.size rT1 raT2 cT1 caT2 oT1 (list8 states) (by rfl) (by rfl) (HOT1.out.below hbaT2 (Nat.le_refl _)) HOaT2.out (by rw [list8_len]; omega) (by omega) ?_; intro rT2 cT2 wT2 hownT2 hbwT2; obtain ⟨oT2, hoT2⟩ : ∃ l, l = oT1 ++ (list8 states) := ⟨_, rfl⟩; rw [← hoT2] at hownT2 ⊢; have HQT2 := H! hoT2; have hlenT2 : oT2.length = oT1.length + (list8 states).length := (by rw [hoT2, List.length_append]); rw [list8_len] at hlenT2; have holT2 : oT2.length ≤ 10000000000 := (by have hhO := HLnO.out; have hhT0 := HLnT0.out; have hhT1 := HLnT1.out; omega); have HOT2 := H! hownT2; have HLnT2 := H! hlenT2; clear hownT2 hoT2 hlenT2 tk5 _t; obtain ⟨eT2, hweT2⟩ : ∃ e2 : Later W1, wT2 = e2.w := ⟨⟨wT2, (eT1.h.trans (hbaT2.mono eT1s)).trans hbwT2⟩, rfl⟩; subst hweT2; have eT2s := eT2.h.size) | (have _t := tk6; go_at_call 49; refine (rlist_any ro co outputs _ (HI3.out.later eT2.h) (by omega)).mono ?_; rintro _ waT3 ⟨raT3, caT3, rfl, hoaT3, hbaT3⟩; have HOaT3 := H! (ints_b hoaT3 (list8_byte _)); clear hoaT3 tk6 _t; have hbaT3s := hbaT3.size) | (have _t := tk7; at_builtin; refine wpList_append_ks Try.underlying29 infoU8 rfl (by omega) (by rfl) _ _ (by rfl) W1.heap.size rT2 raT3 cT2 caT3 oT2 (list8 outputs) (by rfl) (by rfl) (HOT2.out.below hbaT3 (Nat.le_refl _)) HOaT3.out (by rw [list8_len]; omega) (by omega) ?_; intro rT3 cT3 wT3 hownT3 hbwT3; obtain ⟨oT3, hoT3⟩ : ∃ l, l = oT2 ++ (list8 outputs) := ⟨_, rfl⟩; rw [← hoT3] at hownT3 ⊢; have HQT3 := H! hoT3; have hlenT3 : oT3.length = oT2.length + (list8 outputs).length := (by rw [hoT3, List.length_append]); rw [list8_len] at hlenT3; have holT3 : oT3.length ≤ 10000000000 := (by have hhO := HLnO.out; have hhT0 := HLnT0.out; have hhT1 := HLnT1.out; have hhT2 := HLnT2.out; omega); have HOT3 := H! hownT3; have HLnT3 := H! hlenT3; clear hownT3 hoT3 hlenT3 tk7 _t; obtain ⟨eT3, hweT3⟩ : ∃ e2 : Later W1, wT3 = e2.w := ⟨⟨wT3, (eT2.h.trans (hbaT3.mono eT2s)).trans hbwT3⟩, rfl⟩; subst hweT3; have eT3s := eT3.h.size) | (have _t := tk8; go_at_call 49; refine (rlist_any rn cn initial _ (HI4.out.later eT3.h) (by omega)).mono ?_; rintro _ waT4 ⟨raT4, caT4, rfl, hoaT4, hbaT4⟩; have HOaT4 := H! (ints_b hoaT4 (list8_byte _)); clear hoaT4 tk8 _t; have hbaT4s := hbaT4.size) | (have _t := tk9; at_builtin; refine wpList_append_ks Try.underlying29 infoU8 rfl (by omega) (by rfl) _ _ (by rfl) W1.heap.size rT3 raT4 cT3 caT4 oT3 (list8 initial) (by rfl) (by rfl) (HOT3.out.below hbaT4 (Nat.le_refl _)) HOaT4.out (by rw [list8_len]; omega) (by omega) ?_; intro rT4 cT4 wT4 hownT4 hbwT4; obtain ⟨oT4, hoT4⟩ : ∃ l, l = oT3 ++ (list8 initial) := ⟨_, rfl⟩; rw [← hoT4] at hownT4 ⊢; have HQT4 := H! hoT4; have hlenT4 : oT4.length = oT3.length + (list8 initial).length := (by rw [hoT4, List.length_append]); rw [list8_len] at hlenT4; have holT4 : oT4.length ≤ 10000000000 := (by have hhO := HLnO.out; have hhT0 := HLnT0.out; have hhT1 := HLnT1.out; have hhT2 := HLnT2.out; have hhT3 := HLnT3.out; omega); have HOT4 := H! hownT4; have HLnT4 := H! hlenT4; clear hownT4 hoT4 hlenT4 tk9 _t; obtain ⟨eT4, hweT4⟩ : ∃ e2 : Later W1, wT4 = e2.w := ⟨⟨wT4, (eT3.h.trans (hbaT4.mono eT3s)).trans hbwT4⟩, rfl⟩; subst hweT4; have eT4s := eT4.h.size))
         go_ret
         have he : oT4 = res := by rw [HQT4.out, HQT3.out, HQT2.out, HQT1.out, HQT0.out, HQ1.out, HE.out]
         subst he
         exact ⟨rT4, cT4, rfl, HOT4.out.base (by omega), hB1.trans (eT4.h.mono (by omega))⟩
def SxL (s : Sx) : Prop := ∀ bs, s = some bs → bs.length ≤ 100000
theorem Rdr.len {W0 w : World} {b : Nat} {s : Sx} (h : Rdr W0 w b s) : SxL s := by
 obtain ⟨_, _, _, ra, ca, bs, bad, _, _, _, hl, rfl⟩ := h
 intro bs' e
 cases bad
 ·
  simp only [Bool.false_eq_true, if_false, Option.some.injEq] at e
  subst e; exact hl
 ·
  simp at e
theorem KeepB.mono {B B' Bo : Nat} {W W' : World} (h : KeepB B Bo W W') (hb : B' ≤ B) : KeepB B' Bo W W' := ⟨h.1, fun q hq hn => h.2 q (by omega) hn⟩
def OwnI (W : World) (base : Nat) (r : Option Addr) (cap : Nat) (xs : List Int) : Prop := W.ownsRow base 3 1 (.slice r xs.length cap) xs.length (xs.map (Value.int .i64))
theorem OwnI.nil (W : World) (base : Nat) : OwnI W base none 0 [] := World.ownsRow_nil _ _ _ _
theorem OwnI.lt {W : World} {base : Nat} {r : Option Addr} {cap : Nat} {xs : List Int} (h : OwnI W base r cap xs) : ∀ a, r = some a → base ≤ a.block ∧ a.block < W.heap.size := fun a ha => by
 subst ha
 exact World.ownsRow.lt h a.block rfl
theorem OwnI.below {W W' : World} {base B : Nat} {r : Option Addr} {cap : Nat} {xs : List Int} (h : OwnI W base r cap xs) (hb : Below B W W') (hB : W.heap.size ≤ B) : OwnI W' base r cap xs := by
 refine ⟨h.1, ?_⟩
 rcases h.2 with ⟨h1, h2⟩ | ⟨g, c, cur, h1, h2, h3, h4⟩
 ·
  exact Or.inl ⟨h1, h2⟩
 ·
  refine Or.inr ⟨g, c, cur, h1, h2, ?_, h4⟩
  rw [hb.block g ?_]
  ·
   exact h3
  ·
   rcases Nat.lt_or_ge g W.heap.size with hlt | hge
   ·
    omega
   ·
    rw [Array.getElem?_eq_none hge] at h3; cases h3
theorem OwnI.ints {W : World} {base : Nat} {r : Option Addr} {cap : Nat} {xs : List Int} (h : OwnI W base r cap xs) (hw : ∀ x ∈ xs, (Lit.int .i64 x).wf = true) : IsInts W r cap .i64 xs := by
 obtain ⟨h0, h2⟩ := h
 rcases h2 with ⟨h1, h3⟩ | ⟨g, c, cur, h1, h3, h4, h5, h6, h7, h8⟩
 ·
  obtain rfl : xs = [] := List.length_eq_zero_iff.1 h3
  simp only [Value.slice.injEq] at h1
  obtain ⟨rfl, _, rfl⟩ := h1
  exact ⟨Nat.le_refl _, Nat.zero_le _, by simp, fun h => absurd rfl h⟩
 ·
  simp only [Value.slice.injEq] at h1
  obtain ⟨rfl, _, rfl⟩ := h1
  have hlt : g < W.heap.size := by
   rcases Nat.lt_or_ge g W.heap.size with hlt | hge
   ·
    exact hlt
   ·
    rw [Array.getElem?_eq_none hge] at h4; cases h4
  refine ⟨h5, h6, hw, fun _ => ⟨g, 0, rfl, hlt, fun i hi => ?_⟩⟩
  have := World.ownsRow.cellAt (w := W) (base := base) (e := 3) (size := 1) (g := g) (n := xs.length) (cap := cap) (xs := xs.map (Value.int .i64)) ⟨h0, Or.inr ⟨g, cap, cur, rfl, h3, h4, h5, h6, h7, h8⟩⟩ i (by omega)
  rw [Nat.zero_add, this]
  simp [List.getElem?_map, List.getD, List.getElem?_eq_getElem hi]
end Go.Proofs.Ytfooefiaenlhmaa
