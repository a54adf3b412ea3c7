/- Lemmas for the laws of package magnetolaw15: what its functions return, for any arguments that the lemmas name. -/
import Derived.Test.YtfooefiaenlhmaaGreatGA7
import Derived.Test.YtfooefiaenlhmaaGreatGA9
import Derived.Test.YtfooefiaenlhmaaGreatGA10
import Derived.Deep.RegionHeld3
import Derived.Deep.Cut
namespace Go.Proofs.YtfooefiaenlhmaaGreat
set_option linter.unusedVariables false
set_option linter.unusedSimpArgs false
set_option maxHeartbeats 16000000
open Go.RowKit Go.ChangeShapes Go.WideShapes Go.ChangeAt
set_option maxRecDepth 100000 in
theorem idecode_len (r : Option Addr) (c : Nat) (bs : List Int) (w : World) (hl : bs.length ≤ 100000) (h : bs.length < 12 ∨ bs.length % 4 ≠ 0) : Calls Tryz.prog 16 #[.slice r bs.length c] w fun e w' => e = .returned (.tuple #[pv0.val, .int .i64 3]) ∧ Below w.heap.size w w' := by
 by_cases h12 : (bs.length : Int) < 12
 ·
  clear h
  go_enter Tryz.func16, Tryz.ntmps16
  go_wp2
  refine bodyPost_ret (by simp [results, Tryz.results16, go_sem, *]; try rfl) rfl ?_
  exact ⟨rfl, bw⟩
 ·
  have h4 : ¬ (bs.length : Int) % 4 = 0 := by omega
  clear h
  go_enter Tryz.func16, Tryz.ntmps16
  go_wp2
  refine bodyPost_ret (by simp [results, Tryz.results16, go_sem, *]; try rfl) rfl ?_
  exact ⟨rfl, bw⟩
theorem Rdr.new {W0 : World} (w : World) (t : TypeId) {r : Option Addr} {m c : Nat} {part : List Int} (hI : IsInts W0 r c .u8 part) (hm : part.length = m) (hl : m ≤ 100000) : Rdr W0 (w.alloc (.cells #[.slice r m c, .bool false] t)) w.heap.size (some part) := by
 have A := AtV.new w [.slice r m c, .bool false] t
 obtain ⟨a0, f0⟩ := A 0 _ rfl
 obtain ⟨a1, f1⟩ := A 1 _ rfl
 subst hm
 exact ⟨by rw [zA]; omega, f0, f1, r, c, part, false, a0, a1, hI, hl, rfl⟩
theorem decF_step {bs : List Int} {k : Nat} (hk : k < 4) (f : Bool) : decF bs (4 - k) f = if hitZ bs k = true then ((prgZ bs k).1, 0) else decF bs (4 - (k + 1)) (f || fndZ bs k) := by
 obtain rfl | rfl | rfl | rfl : k = 0 ∨ k = 1 ∨ k = 2 ∨ k = 3 := by omega
 all_goals rfl
set_option maxRecDepth 100000 in
theorem idecode_go (r : Option Addr) (c : Nat) (bs : List Int) (w : World) (hx : IsInts w r c .u8 bs) (hl : bs.length ≤ 100000) (h12 : 12 ≤ bs.length) (h4 : bs.length % 4 = 0) : Calls Tryz.prog 16 #[.slice r bs.length c] w fun e w' => ∃ q : PV, e = .returned (.tuple #[q.val, .int .i64 (decP bs).2]) ∧ IsP w' q ∧ q.p = (decP bs).1 ∧ Below w.heap.size w w' := by
 have hne : bs ≠ [] := fun e => by rw [e] at h12; simp at h12
 obtain ⟨bX, off, rfl, hbX, _⟩ := hx.cells hne
 have hcap := hx.le
 have hmax := hx.max
 unfold maxLen at hmax
 have HX := H! hx
 have HD : Hid (decP bs = decF bs 4 false) := H! (by unfold decP; rw [if_neg (by omega)])
 have HBY : Hid (ByteL bs) := H! (fun x h => wf_u8 (hx.wf x h))
 have i1 : ¬ (bs.length : Int) < 12 := by omega
 have i2 : (bs.length : Int) % 4 = 0 := by omega
 clear hx hne h4
 generalize decP bs = D at *
 obtain ⟨n, hn⟩ : ∃ n, n = bs.length := ⟨_, rfl⟩
 have HN := H! hn
 rw [← hn] at i1 i2 hl h12 hcap ⊢
 clear hn
 go_enter Tryz.func16, Tryz.ntmps16
 go_wp2
 have AR1 : AtV (w.alloc (.cells #[.slice none 0 0, .slice none 0 0, .slice none 0 0, .slice none 0 0, .int .i64 0, .slice none 0 0, .slice none 0 0, .slice none 0 0, .slice none 0 0] 28)) w.heap.size [.slice none 0 0, .slice none 0 0, .slice none 0 0, .slice none 0 0, .int .i64 0, .slice none 0 0, .slice none 0 0, .slice none 0 0, .slice none 0 0] := AtV.new w [.slice none 0 0, .slice none 0 0, .slice none 0 0, .slice none 0 0, .int .i64 0, .slice none 0 0, .slice none 0 0, .slice none 0 0, .slice none 0 0] 28
 have hbw1 : Below w.heap.size w (w.alloc (.cells #[.slice none 0 0, .slice none 0 0, .slice none 0 0, .slice none 0 0, .int .i64 0, .slice none 0 0, .slice none 0 0, .slice none 0 0, .slice none 0 0] 28)) := bw
 have hz1 : w.heap.size < (w.alloc (.cells #[.slice none 0 0, .slice none 0 0, .slice none 0 0, .slice none 0 0, .int .i64 0, .slice none 0 0, .slice none 0 0, .slice none 0 0, .slice none 0 0] 28)).heap.size := by rw [zA]; omega
 generalize w.alloc (.cells #[.slice none 0 0, .slice none 0 0, .slice none 0 0, .slice none 0 0, .int .i64 0, .slice none 0 0, .slice none 0 0, .slice none 0 0, .slice none 0 0] 28) = W1 at *
 have HA1 := H! AR1
 clear AR1
 go_loopg [4, 23] 4 (fun kx s4 s23 wr => ∃ (k : Nat) (f : Bool), s4 = .bool f ∧ s23 = .int .i64 k ∧ k ≤ 4 ∧ 4 - k ≤ kx ∧ Below W1.heap.size W1 wr ∧ Hid (D = decF bs (4 - k) f))
 case atStart => exact ⟨0, false, rfl, rfl, by omega, by omega, Below.refl _ _, HD⟩
 case round =>
  clear HD
  obtain ⟨k, f, rfl, rfl, hk, hkx, hbr, HD⟩ := hrel
  have hbrs := hbr.size
  have hBW : Below w.heap.size w wr := hbw1.trans (hbr.mono (by omega))
  by_cases hlt : k < 4
  ·
   have HD2 : Hid (D = if hitZ bs k = true then ((prgZ bs k).1, 0) else decF bs (4 - (k + 1)) (f || fndZ bs k)) := H! (by rw [HD.out, decF_step hlt])
   clear HD
   obtain ⟨m, hm⟩ : ∃ m, m = n - 4 - k := ⟨_, rfl⟩
   have hmn : m + 4 + k = n := by omega
   have hpl : (partZ bs k).length = m := by unfold partZ; rw [List.length_take, ← HN.out]; omega
   have hpe : partZ bs k = bs.take m := by unfold partZ; rw [← HN.out, ← hm]
   have hk1 : (0 : Int) ≤ (k : Int) := by omega
   have hk2 : (k : Int) < 4 := by omega
   have hs0 := (sumB_u32 (partZ bs k)).1
   have hs1 := (sumB_u32 (partZ bs k)).2
   have HSUM : Hid (∀ W, Below w.heap.size w W → Calls Tryz.prog 19 #[.slice (some ⟨bX, off, none⟩) m c] W fun e w' => e = .returned (.int .u32 (sumB (partZ bs k))) ∧ Below W.heap.size W w') := H! (fun W h => by
    have := isum_any (some ⟨bX, off, none⟩) c (partZ bs k) W (by rw [hpe]; exact (HX.out.later h).take m)
    rwa [hpl] at this)
   have HPI : Hid (IsInts w (some ⟨bX, off, none⟩) c .u8 (partZ bs k)) := H! (by rw [hpe]; exact HX.out.take m)
   have HEQ : Hid (∀ W r3 c3, Below w.heap.size w W → OwnK .u8 5 W w.heap.size r3 c3 (endZ bs k) → Calls Tryz.prog 38 #[.slice (some ⟨bX, off + m, none⟩) (n - m) (c - m), .slice r3 (4 + k) c3] W fun e w' => e = .returned (.bool (fndZ bs k)) ∧ Below W.heap.size W w') := H! (fun W r3 c3 h ho => by
    have hby : ByteL (endZ bs k) := by
     unfold endZ
     refine bytes_append (b4_byte (sumB_u32 _)) (fun x hx => ?_)
     have := (List.mem_replicate.1 hx).2
     omega
    have he : (endZ bs k).length = 4 + k := by unfold endZ; rw [List.length_append, b4_len, List.length_replicate]
    have := bEq_any (some ⟨bX, off + m, none⟩) r3 (c - m) c3 (bs.drop m) (endZ bs k) W ((HX.out.later h).drop (by rw [← HN.out]; omega)) (ints_b ho hby)
    rw [he, List.length_drop, ← HN.out] at this
    unfold fndZ
    rwa [← HN.out, ← hm])
   have HEN : Hid (endZ bs k = b4 (sumB (partZ bs k)) ++ List.replicate k 0) := H! rfl
   have HHIT : Hid (hitZ bs k = (fndZ bs k && (decide ((prgZ bs k).2 = some []) && (okP (prgZ bs k).1 && decide (sealL (prgZ bs k).1.body = bs))))) := H! rfl
   have HPR : Hid (∀ W b, Rdr w W b (some (partZ bs k)) → w.heap.size ≤ b → Below w.heap.size w W → Calls Tryz.prog 39 #[.pointer (some ⟨b, 0, none⟩)] W fun e w' => ∃ q : PV, e = .returned q.val ∧ (∀ W', KeepA W.heap.size w' W' → IsP W' q) ∧ q.p = (prgZ bs k).1 ∧ Rdr w w' b (prgZ bs k).2 ∧ KeepB W.heap.size b W w') := H! (fun W b h1 h2 h3 => rprog_any b w W _ h1 h2 h3)
   have HLN : Hid (∀ t, (prgZ bs k).2 = some t → (prgZ bs k).1.body.length ≤ 100000) := H! (fun t h => Nat.le_trans (prgZ_len h) (by rw [← HN.out]; exact hl))
   have HPL := H! hpl
   clear hpl hpe hm
   generalize hitZ bs k = hit at *
   generalize prgZ bs k = pg at *
   generalize sumB (partZ bs k) = sv at *
   generalize endZ bs k = en at *
   generalize fndZ bs k = F at *
   generalize partZ bs k = part at *
   have e1 : IntKind.i64.wrap ((n : Int) - 4) = (n : Int) - 4 := IntWalk.i64_in _ (by omega)
   have e2 : IntKind.i64.wrap ((n : Int) - 4 - k) = m := by rw [IntWalk.i64_in _ (by omega)]; omega
   have e3 : (m : Int) ≤ c := by omega
   have e4 : (0 : Int) ≤ m := by omega
   have e5 : (m : Int) ≤ n := by omega
   have e6 : (n : Int) ≤ c := by omega
   have e7 : ¬ c = m := by omega
   have hk3 : k ≤ 3 := by omega
   go_upto_region 10 with (first | (go_at_call 19; refine (HSUM.out _ hBW).mono ?_; rintro _ w2 ⟨rfl, hb2⟩; have hb2s := hb2.size; have hB2 : Below w.heap.size w w2 := hBW.trans (hb2.mono (by omega))) | (at_builtin; refine wpList_append_z (by rfl) _ _ (by rfl) w2 (b4 sv) rfl k hk3 (by first | rfl | (rw [← b4_wrap hs0 hs1]; rfl)) (by rfl) (by rfl) ?_; intro r3 c3 w3 ho3 hb3; have HO3 := H! ho3; clear ho3; have hb3s := hb3.size; have hB3 : Below w.heap.size w w3 := hB2.trans (hb3.mono (by have := hB2.size; omega))))
   cases F
   ·
    go_wp2_with (go_at_call 38; refine (HEQ.out _ _ _ hB3 (by have := HO3.out; rw [← HEN.out] at this; exact this.base (by have := hB2.size; omega))).mono ?_; rintro _ w4 ⟨rfl, hb4⟩; have hb4s := hb4.size)
    go_roundg (4 - (k + 1))
    case measure => omega
    case rel => exact ⟨k + 1, f, rfl, by go_num, by omega, by omega, ((hbr.trans (hb2.mono (by omega))).trans (hb3.mono (by omega))).trans (hb4.mono (by omega)), H! (by rw [HD2.out, HHIT.out]; simp)⟩
   ·
    have HMISS : Hid (hit = false → D = decF bs (4 - (k + 1)) true) := H! (fun h => by rw [HD2.out, h]; simp)
    have HGOT : Hid (hit = true → D = (pg.1, 0)) := H! (fun h => by rw [HD2.out, h]; simp)
    clear HD2
    go_upto_region 14 with (first | (go_at_call 38; refine (HEQ.out _ _ _ hB3 (by have := HO3.out; rw [← HEN.out] at this; exact this.base (by have := hB2.size; omega))).mono ?_; rintro _ w4 ⟨rfl, hb4⟩; have hb4s := hb4.size; have hB4 : Below w.heap.size w w4 := hB3.trans (hb4.mono (by omega))) | (go_at_call 39; refine (HPR.out _ w4.heap.size (Rdr.new w4 _ HPI.out HPL.out (by omega)) (by have := hB4.size; omega) (hB4.alloc hB4.size _)).mono ?_; rintro _ w5 ⟨⟨rc, cc, code, rt, ct, types, rv, cv, curves, rm, cm, maps, cells, ri, ci, inputs, rs, cs, states, ro, co, outputs, rn, cn, initial⟩, rfl, hp5, hq5, hr5, hk5⟩; simp only [PV.val]; have HP5 := H! hp5; have HQ5 := H! hq5; have HR5 := H! hr5; have HK5 := H! hk5; clear hp5 hq5 hr5 hk5))
    have hz5 := HK5.out.zero.size
    have hz4a : (w4.alloc (.cells #[.slice (some ⟨bX, off, none⟩) m c, .bool false] 83)).heap.size = w4.heap.size + 1 := zA _ _
    have hB4z := hB4.size
    have hb14 : Below W1.heap.size W1 (w4.alloc (.cells #[.slice (some ⟨bX, off, none⟩) m c, .bool false] 83)) := (((hbr.trans (hb2.mono (by omega))).trans (hb3.mono (by omega))).trans (hb4.mono (by omega))).alloc (by omega) _
    have hB4a : Below w.heap.size w (w4.alloc (.cells #[.slice (some ⟨bX, off, none⟩) m c, .bool false] 83)) := hB4.alloc hB4.size _
    generalize w4.alloc (.cells #[.slice (some ⟨bX, off, none⟩) m c, .bool false] 83) = w4a at *
    have hb15 : Below W1.heap.size W1 w5 := hb14.trans (HK5.out.below (by omega) (by omega))
    have hB5 : Below w.heap.size w w5 := hB4a.trans (HK5.out.below (by omega) (by omega))
    have AT := AtV.new w5 [.slice rc code.length cc, .slice rt types.length ct, .slice rv curves.length cv, .slice rm maps.length cm, .int .i64 cells, .slice ri inputs.length ci, .slice rs states.length cs, .slice ro outputs.length co, .slice rn initial.length cn] 28
    have hb56 : Below w5.heap.size w5 (w5.alloc (.cells #[.slice rc code.length cc, .slice rt types.length ct, .slice rv curves.length cv, .slice rm maps.length cm, .int .i64 cells, .slice ri inputs.length ci, .slice rs states.length cs, .slice ro outputs.length co, .slice rn initial.length cn] 28)) := (Below.refl _ _).alloc (Nat.le_refl _) _
    have hz6 : (w5.alloc (.cells #[.slice rc code.length cc, .slice rt types.length ct, .slice rv curves.length cv, .slice rm maps.length cm, .int .i64 cells, .slice ri inputs.length ci, .slice rs states.length cs, .slice ro outputs.length co, .slice rn initial.length cn] 28)).heap.size = w5.heap.size + 1 := zA _ _
    change AtV (w5.alloc (.cells #[.slice rc code.length cc, .slice rt types.length ct, .slice rv curves.length cv, .slice rm maps.length cm, .int .i64 cells, .slice ri inputs.length ci, .slice rs states.length cs, .slice ro outputs.length co, .slice rn initial.length cn] 28)) _ _ at AT
    generalize w5.alloc (.cells #[.slice rc code.length cc, .slice rt types.length ct, .slice rv curves.length cv, .slice rm maps.length cm, .int .i64 cells, .slice ri inputs.length ci, .slice rs states.length cs, .slice ro outputs.length co, .slice rn initial.length cn] 28) = w6 at *
    have HPA : Hid (∀ W', KeepA w4a.heap.size w6 W' → IsP W' (⟨rc, cc, code, rt, ct, types, rv, cv, curves, rm, cm, maps, cells, ri, ci, inputs, rs, cs, states, ro, co, outputs, rn, cn, initial⟩ : PV)) := H! (fun W' hW => HP5.out W' ((⟨hb56.size, fun q _ h => hb56.block q h⟩ : KeepA w4a.heap.size w5 w6).trans hW))
    generalize w5.heap.size = P at *
    have hz6a : P < w6.heap.size := by omega
    have hb16 : Below W1.heap.size W1 w6 := hb15.trans (hb56.mono (by omega))
    have hB6 : Below w.heap.size w w6 := hB5.trans (hb56.mono (by omega))
    obtain ⟨hlt6, f06, f16, ra, ca, bt, bad, c06, c16, hbx6, hbl6, hst⟩ := HR5.out.below hb56 (by omega)
    have HST := H! hst
    have p0c := (AT 0 _ rfl).1; have p1c := (AT 1 _ rfl).1; have p2c := (AT 2 _ rfl).1; have p3c := (AT 3 _ rfl).1; have p4c := (AT 4 _ rfl).1; have p5c := (AT 5 _ rfl).1; have p6c := (AT 6 _ rfl).1; have p7c := (AT 7 _ rfl).1; have p8c := (AT 8 _ rfl).1
    have HAT := H! AT
    have hRle : w.heap.size ≤ w4a.heap.size := by omega
    have hnb : ¬ P = w4.heap.size := by omega
    have hnb2 : ¬ w4.heap.size = P := by omega
    clear hst hz6 HR5 HP5 AT HK5 HPR HPI HEQ HSUM HO3
    have hrel6 : ∀ W, Below w6.heap.size w6 W → Below W1.heap.size W1 W := fun W h => hb16.trans (h.mono (by omega))
    cases bad
    ·
     by_cases hb0 : (0 : Int) < bt.length
     ·
      have HD3 := H! (HMISS.out (by
       have hne : ¬ bt = [] := fun e => by rw [e] at hb0; simp at hb0
       rw [HHIT.out, HST.out]; simp [hne]))
      go_wp2
      go_roundg (4 - (k + 1))
      case measure => omega
      case rel => exact ⟨k + 1, true, rfl, by go_num, by omega, by omega, hb16, HD3⟩
     ·
      obtain rfl : bt = [] := by
       cases bt with
       | nil => rfl
       | cons x l => simp only [List.length_cons] at hb0; omega
      have hlen := HLN.out [] HST.out
      rw [← HQ5.out] at hlen
      have HHIT2 : Hid (hit = (okP pg.1 && decide (sealL pg.1.body = bs))) := H! (by rw [HHIT.out, HST.out]; simp)
      have HOK := H! (okP_eq (⟨rc, cc, code, rt, ct, types, rv, cv, curves, rm, cm, maps, cells, ri, ci, inputs, rs, cs, states, ro, co, outputs, rn, cn, initial⟩ : PV))
      rw [HQ5.out] at HOK
      cases hv : validB (⟨rc, cc, code, rt, ct, types, rv, cv, curves, rm, cm, maps, cells, ri, ci, inputs, rs, cs, states, ro, co, outputs, rn, cn, initial⟩ : PV)
      ·
       have HE : Hid (∀ W, Below w6.heap.size w6 W → _) := H! (fun W (h : Below w6.heap.size w6 W) => iencode_bad (⟨rc, cc, code, rt, ct, types, rv, cv, curves, rm, cm, maps, cells, ri, ci, inputs, rs, cs, states, ro, co, outputs, rn, cn, initial⟩ : PV) W (HPA.out W ⟨h.size, fun q _ hq => h.block q hq⟩) hv)
       have HD3 := H! (HMISS.out (by rw [HHIT2.out, HOK.out, hv]; rfl))
       simp only [PV.val] at HE
       clear hv
       go_wp2_with (go_at_call 18; refine (HE.out _ (Below.refl _ _)).mono ?_; rintro _ w7 ⟨rfl, hb7⟩)
       go_roundg (4 - (k + 1))
       case measure => omega
       case rel => exact ⟨k + 1, true, rfl, by go_num, by omega, by omega, hrel6 _ hb7, HD3⟩
      ·
       have HE : Hid (∀ W, Below w6.heap.size w6 W → _) := H! (fun W (h : Below w6.heap.size w6 W) => iencode_ok (⟨rc, cc, code, rt, ct, types, rv, cv, curves, rm, cm, maps, cells, ri, ci, inputs, rs, cs, states, ro, co, outputs, rn, cn, initial⟩ : PV) W (HPA.out W ⟨h.size, fun q _ hq => h.block q hq⟩) hv (by omega))
       have HBYS := H! (sealL_byte (body_byte (⟨rc, cc, code, rt, ct, types, rv, cv, curves, rm, cm, maps, cells, ri, ci, inputs, rs, cs, states, ro, co, outputs, rn, cn, initial⟩ : PV).p))
       rw [HQ5.out] at HE HBYS
       simp only [PV.val] at HE
       obtain ⟨G, hG⟩ : ∃ G, G = decide (sealL pg.1.body = bs) := ⟨_, rfl⟩
       have HEQ2 : Hid (∀ W r7 c7, Below w.heap.size w W → OwnK .u8 5 W w.heap.size r7 c7 (sealL pg.1.body) → Calls Tryz.prog 38 #[.slice r7 (sealL pg.1.body).length c7, .slice (some ⟨bX, off, none⟩) n c] W fun e w' => e = .returned (.bool G) ∧ Below W.heap.size W w') := H! (fun W r7 c7 h ho => by
        have := bEq_any r7 (some ⟨bX, off, none⟩) c7 c (sealL pg.1.body) bs W (ints_b ho HBYS.out) (HX.out.later h)
        rw [← HN.out] at this
        rwa [hG])
       have HHIT3 : Hid (hit = G) := H! (by rw [HHIT2.out, HOK.out, hv, hG]; rfl)
       clear hG hv HHIT2 HBYS HOK HHIT
       generalize sealL pg.1.body = sl at *
       cases G
       ·
        have HD3 := H! (HMISS.out HHIT3.out)
        go_wp2_with (first | (go_at_call 18; refine (HE.out _ (Below.refl _ _)).mono ?_; rintro _ w7 ⟨r7, c7, rfl, ho7, hb7⟩; have HO7 := H! ho7; clear ho7; have hb7s := hb7.size; have hB7 : Below w.heap.size w w7 := hB6.trans (hb7.mono (by omega))) | (go_at_call 38; refine (HEQ2.out _ _ _ hB7 (HO7.out.base (by omega))).mono ?_; rintro _ w8 ⟨rfl, hb8⟩))
        go_roundg (4 - (k + 1))
        case measure => omega
        case rel => exact ⟨k + 1, true, rfl, by go_num, by omega, by omega, hrel6 _ (hb7.trans (hb8.mono (by omega))), HD3⟩
       ·
        have HD3 := H! (HGOT.out HHIT3.out)
        go_wp2_with (first | (go_at_call 18; refine (HE.out _ (Below.refl _ _)).mono ?_; rintro _ w7 ⟨r7, c7, rfl, ho7, hb7⟩; have HO7 := H! ho7; clear ho7; have hb7s := hb7.size; have hB7 : Below w.heap.size w w7 := hB6.trans (hb7.mono (by omega))) | (go_at_call 38; refine (HEQ2.out _ _ _ hB7 (HO7.out.base (by omega))).mono ?_; rintro _ w8 ⟨rfl, hb8⟩; have hb8s := hb8.size; have hb68 : Below w6.heap.size w6 w8 := hb7.trans (hb8.mono (by omega)); have AT8 := HAT.out.keep (hb68.block P hz6a); have AR8 := HA1.out.keep ((hrel6 _ hb68).block w.heap.size hz1); have s0c := (AT8 0 _ rfl).1; have s1c := (AT8 1 _ rfl).1; have s2c := (AT8 2 _ rfl).1; have s3c := (AT8 3 _ rfl).1; have s4c := (AT8 4 _ rfl).1; have s5c := (AT8 5 _ rfl).1; have s6c := (AT8 6 _ rfl).1; have s7c := (AT8 7 _ rfl).1; have s8c := (AT8 8 _ rfl).1; have z0c := (AR8 0 _ rfl).1; have z0f := (AR8 0 _ rfl).2; have z1c := (AR8 1 _ rfl).1; have z1f := (AR8 1 _ rfl).2; have z2c := (AR8 2 _ rfl).1; have z2f := (AR8 2 _ rfl).2; have z3c := (AR8 3 _ rfl).1; have z3f := (AR8 3 _ rfl).2; have z4c := (AR8 4 _ rfl).1; have z4f := (AR8 4 _ rfl).2; have z5c := (AR8 5 _ rfl).1; have z5f := (AR8 5 _ rfl).2; have z6c := (AR8 6 _ rfl).1; have z6f := (AR8 6 _ rfl).2; have z7c := (AR8 7 _ rfl).1; have z7f := (AR8 7 _ rfl).2; have z8c := (AR8 8 _ rfl).1; have z8f := (AR8 8 _ rfl).2; clear AT8 AR8; have hB8 : Below w.heap.size w w8 := hB7.trans (hb8.mono (by omega)); have HKP : Hid (KeepA w4a.heap.size w6 w8) := H! ⟨by omega, fun q _ hq => hb68.block q hq⟩; have hPw8 : P < w8.heap.size := (by omega); have hRw8 : w.heap.size < w8.heap.size := (by omega); have hRP : ¬ w.heap.size = P := (by omega); have hPR : ¬ P = w.heap.size := (by omega)))
        refine bodyPost_ret (by simp [results, Tryz.results16, go_sem, *]; try rfl) rfl ?_
        rw [HD3.out]
        exact ⟨(⟨rc, cc, code, rt, ct, types, rv, cv, curves, rm, cm, maps, cells, ri, ci, inputs, rs, cs, states, ro, co, outputs, rn, cn, initial⟩ : PV), rfl, HPA.out _ ((((((((((HKP.out).trans (KeepA.set _ hRle 0 _)).trans (KeepA.set _ hRle 1 _)).trans (KeepA.set _ hRle 2 _)).trans (KeepA.set _ hRle 3 _)).trans (KeepA.set _ hRle 4 _)).trans (KeepA.set _ hRle 5 _)).trans (KeepA.set _ hRle 6 _)).trans (KeepA.set _ hRle 7 _)).trans (KeepA.set _ hRle 8 _)), HQ5.out, (((((((((hB8).setCell (p := ⟨w.heap.size, 0, none⟩) (Nat.le_refl _) _).setCell (p := ⟨w.heap.size, 1, none⟩) (Nat.le_refl _) _).setCell (p := ⟨w.heap.size, 2, none⟩) (Nat.le_refl _) _).setCell (p := ⟨w.heap.size, 3, none⟩) (Nat.le_refl _) _).setCell (p := ⟨w.heap.size, 4, none⟩) (Nat.le_refl _) _).setCell (p := ⟨w.heap.size, 5, none⟩) (Nat.le_refl _) _).setCell (p := ⟨w.heap.size, 6, none⟩) (Nat.le_refl _) _).setCell (p := ⟨w.heap.size, 7, none⟩) (Nat.le_refl _) _).setCell (p := ⟨w.heap.size, 8, none⟩) (Nat.le_refl _) _⟩
    ·
     have HD3 := H! (HMISS.out (by rw [HHIT.out, HST.out]; simp))
     go_wp2
     go_roundg (4 - (k + 1))
     case measure => omega
     case rel => exact ⟨k + 1, true, rfl, by go_num, by omega, by omega, hb16, HD3⟩
  ·
   obtain rfl : k = 4 := by omega
   have ARr := HA1.out.keep (hbr.block w.heap.size hz1)
   have z0c := (ARr 0 _ rfl).1; have z0f := (ARr 0 _ rfl).2; have z1c := (ARr 1 _ rfl).1; have z1f := (ARr 1 _ rfl).2; have z2c := (ARr 2 _ rfl).1; have z2f := (ARr 2 _ rfl).2; have z3c := (ARr 3 _ rfl).1; have z3f := (ARr 3 _ rfl).2; have z4c := (ARr 4 _ rfl).1; have z4f := (ARr 4 _ rfl).2; have z5c := (ARr 5 _ rfl).1; have z5f := (ARr 5 _ rfl).2; have z6c := (ARr 6 _ rfl).1; have z6f := (ARr 6 _ rfl).2; have z7c := (ARr 7 _ rfl).1; have z7f := (ARr 7 _ rfl).2; have z8c := (ARr 8 _ rfl).1; have z8f := (ARr 8 _ rfl).2
   clear ARr
   have hRw : w.heap.size < wr.heap.size := by omega
   cases f
   ·
    go_wp2
    refine bodyPost_ret (by simp [results, Tryz.results16, go_sem, *]; try rfl) rfl ?_
    rw [HD.out]
    exact ⟨pv0, rfl, isP0 _, rfl, (((((((((hBW).setCell (p := ⟨w.heap.size, 0, none⟩) (Nat.le_refl _) _).setCell (p := ⟨w.heap.size, 1, none⟩) (Nat.le_refl _) _).setCell (p := ⟨w.heap.size, 2, none⟩) (Nat.le_refl _) _).setCell (p := ⟨w.heap.size, 3, none⟩) (Nat.le_refl _) _).setCell (p := ⟨w.heap.size, 4, none⟩) (Nat.le_refl _) _).setCell (p := ⟨w.heap.size, 5, none⟩) (Nat.le_refl _) _).setCell (p := ⟨w.heap.size, 6, none⟩) (Nat.le_refl _) _).setCell (p := ⟨w.heap.size, 7, none⟩) (Nat.le_refl _) _).setCell (p := ⟨w.heap.size, 8, none⟩) (Nat.le_refl _) _⟩
   ·
    go_wp2
    refine bodyPost_ret (by simp [results, Tryz.results16, go_sem, *]; try rfl) rfl ?_
    rw [HD.out]
    exact ⟨pv0, rfl, isP0 _, rfl, (((((((((hBW).setCell (p := ⟨w.heap.size, 0, none⟩) (Nat.le_refl _) _).setCell (p := ⟨w.heap.size, 1, none⟩) (Nat.le_refl _) _).setCell (p := ⟨w.heap.size, 2, none⟩) (Nat.le_refl _) _).setCell (p := ⟨w.heap.size, 3, none⟩) (Nat.le_refl _) _).setCell (p := ⟨w.heap.size, 4, none⟩) (Nat.le_refl _) _).setCell (p := ⟨w.heap.size, 5, none⟩) (Nat.le_refl _) _).setCell (p := ⟨w.heap.size, 6, none⟩) (Nat.le_refl _) _).setCell (p := ⟨w.heap.size, 7, none⟩) (Nat.le_refl _) _).setCell (p := ⟨w.heap.size, 8, none⟩) (Nat.le_refl _) _⟩
theorem idecode_any (r : Option Addr) (c : Nat) (bs : List Int) (w : World) (hx : IsInts w r c .u8 bs) (hl : bs.length ≤ 100000) : Calls Tryz.prog 16 #[.slice r bs.length c] w fun e w' => ∃ q : PV, e = .returned (.tuple #[q.val, .int .i64 (decP bs).2]) ∧ IsP w' q ∧ q.p = (decP bs).1 ∧ Below w.heap.size w w' := by
 by_cases h : bs.length < 12 ∨ bs.length % 4 ≠ 0
 ·
  refine (idecode_len r c bs w hl h).mono ?_
  rintro e w' ⟨rfl, hb⟩
  have e : decP bs = (pp0, 3) := by unfold decP; rw [if_pos h]
  rw [e]
  exact ⟨pv0, rfl, isP0 _, rfl, hb⟩
 ·
  exact idecode_go r c bs w hx hl (by omega) (by omega)
def sxOf (bs : List Int) (bad : Bool) : Sx := if bad = true then none else some bs
structure RdV (W0 : World) (r : Option Addr) (c : Nat) (bs : List Int) (bad : Bool) (s : Sx) : Prop where
 ints : IsInts W0 r c .u8 bs
 len : bs.length ≤ 100000
 sx : s = sxOf bs bad
 inv : bad = true → bs = []
theorem RdV.none (W0 : World) : RdV W0 none 0 [] true none := ⟨nilI, Nat.zero_le _, rfl, fun _ => rfl⟩
set_option maxRecDepth 100000 in
theorem rtake_bad (r : Option Addr) (c n : Nat) (bs : List Int) (bad : Bool) (w : World) (hn : n ≤ 100) (hl : bs.length < n) : Calls Tryz.prog 89 #[.agg #[.slice r bs.length c, .bool bad], .int .i64 n] w fun e w' => e = .returned (.tuple #[.slice none 0 0, .agg #[.slice none 0 0, .bool true]]) ∧ Below w.heap.size w w' := by
 have h1 : (bs.length : Int) < n := by omega
 have h2 : ¬ (n : Int) < 0 := by omega
 have h3 : decide ((n : Int) < 0) = false := decide_eq_false h2
 go_enter Tryz.func89, Tryz.ntmps89
 go_wp2
 refine bodyPost_ret (by simp [results, Tryz.results89, go_sem, *]; try rfl) rfl ?_
 exact ⟨rfl, bw⟩
set_option maxRecDepth 100000 in
theorem rtake_ok (B off c n : Nat) (bs : List Int) (w : World) (h0 : 0 < n) (hn : n ≤ bs.length) (hc : bs.length ≤ c) (hm : c ≤ 9223372036854775807) : Calls Tryz.prog 89 #[.agg #[.slice (some ⟨B, off, none⟩) bs.length c, .bool false], .int .i64 n] w fun e w' => ∃ o2, e = .returned (.tuple #[.slice (some ⟨B, off, none⟩) n c, .agg #[.slice (some ⟨B, o2, none⟩) (bs.length - n) (c - n), .bool false]]) ∧ (c ≠ n → o2 = off + n) ∧ Below w.heap.size w w' := by
 have h1 : ¬ (bs.length : Int) < n := by omega
 have h2 : ¬ (n : Int) < 0 := by omega
 have h3 : decide ((n : Int) < 0) = false := decide_eq_false h2
 have h4 : (0 : Int) ≤ n := by omega
 have h5 : (n : Int) ≤ c := by omega
 have h6 : (n : Int) ≤ bs.length := by omega
 have h7 : (bs.length : Int) ≤ c := by omega
 go_enter Tryz.func89, Tryz.ntmps89
 go_wp2
 go_region_held3 (fun w' => w'.cell? ⟨w.heap.size, 0, none⟩ = some (.slice (some ⟨B, off, none⟩) bs.length c) ∧ w'.cell? ⟨w.heap.size, 1, none⟩ = some (.bool false)) (go_keep) (fail)
 all_goals go_wp2
 all_goals refine bodyPost_ret (by simp [results, Tryz.results89, go_sem, *]; try rfl) rfl ?_
 all_goals first | exact ⟨⟨_, rfl⟩, bw⟩ | exact ⟨_, rfl, rfl, bw⟩
theorem rtake_any (n : Nat) (W0 w : World) {r : Option Addr} {c : Nat} {bs : List Int} {bad : Bool} {s : Sx} (h : RdV W0 r c bs bad s) (hn0 : 0 < n) (hn : n ≤ 100) : Calls Tryz.prog 89 #[.agg #[.slice r bs.length c, .bool bad], .int .i64 n] w fun e w' => ∃ ro co r' c' bs' bad', e = .returned (.tuple #[.slice ro (pTake n s).1.length co, .agg #[.slice r' (List.length bs') c', .bool bad']]) ∧ IsInts W0 ro co .u8 (pTake n s).1 ∧ RdV W0 r' c' bs' bad' (pTake n s).2 ∧ Below w.heap.size w w' := by
 obtain ⟨hx, hl, rfl, hi⟩ := h
 by_cases hlt : bs.length < n
 ·
  have e : pTake n (sxOf bs bad) = ([], none) := by
   cases bad
   ·
    show (if n ≤ bs.length then _ else _) = _
    rw [if_neg (by omega)]
   ·
    rfl
  rw [e]
  refine (rtake_bad r c n bs bad w hn hlt).mono ?_
  rintro e w' ⟨rfl, hb⟩
  exact ⟨none, 0, none, 0, [], true, rfl, nilI, RdV.none W0, hb⟩
 ·
  have hbad : bad = false := by
   cases bad
   ·
    rfl
   ·
    have := hi rfl
    subst this
    simp at hlt
    omega
  subst hbad
  have hne : bs ≠ [] := fun e => by rw [e] at hlt; simp at hlt; omega
  obtain ⟨B, off, rfl, hB, _⟩ := hx.cells hne
  have hm := hx.max
  unfold maxLen at hm
  have e : pTake n (sxOf bs false) = (bs.take n, some (bs.drop n)) := by
   show (if n ≤ bs.length then _ else _) = _
   rw [if_pos (by omega)]
  rw [e]
  refine (rtake_ok B off c n bs w hn0 (by omega) hx.le (by omega)).mono ?_
  rintro e w' ⟨o2, rfl, ho, hb⟩
  refine ⟨some ⟨B, off, none⟩, c, some ⟨B, o2, none⟩, c - n, bs.drop n, false, by rw [List.length_take, List.length_drop, Nat.min_eq_left (by omega)], hx.take n, ⟨?_, by rw [List.length_drop]; omega, rfl, fun h => by cases h⟩, hb⟩
  by_cases hc : c = n
  ·
   have hle := hx.le
   have hd : bs.drop n = [] := List.drop_eq_nil_of_le (by omega)
   rw [hd]
   exact ⟨Nat.zero_le _, Nat.le_trans (Nat.sub_le _ _) hx.max, by simp, fun h => absurd rfl h⟩
  ·
   rw [ho hc]; exact hx.drop (by omega)
theorem or_i64 {a b : Int} (h0 : 0 ≤ a) (h1 : a < 72057594037927936) (b0 : 0 ≤ b) (b1 : b ≤ 255) : bits .or .i64 (wrap64 (a * 256)) b = wrap64 (a * 256 + b) := by
 obtain ⟨n, rfl⟩ : ∃ n : Nat, a = n := ⟨a.toNat, by omega⟩
 obtain ⟨m, rfl⟩ : ∃ m : Nat, b = m := ⟨b.toNat, by omega⟩
 have hn : n < 72057594037927936 := by omega
 have hm : m < 256 := by omega
 have hk : n * 2 ^ 8 ||| m = n * 2 ^ 8 + m := by rw [← Nat.shiftLeft_eq, Nat.shiftLeft_add_eq_or_of_lt hm]
 have e1 : (BitVec.ofInt 64 (wrap64 ((n : Int) * 256))).toNat = n * 256 := by rw [BitVec.toNat_ofInt]; unfold wrap64; omega
 have e2 : (BitVec.ofInt 64 (m : Int)).toNat = m := by rw [BitVec.toNat_ofInt]; omega
 show IntKind.i64.wrap ((BitVec.ofInt 64 (wrap64 ((n : Int) * 256)) ||| BitVec.ofInt 64 (m : Int)).toNat : Nat) = _
 rw [BitVec.toNat_or, e1, e2]
 rw [show (256 : Nat) = 2 ^ 8 from rfl, hk, IntKind.wrap_i64]
 unfold wrap64
 omega
set_option maxRecDepth 100000 in
theorem rinteger_any (W0 w : World) {r : Option Addr} {c : Nat} {bs : List Int} {bad : Bool} {s : Sx} (h : RdV W0 r c bs bad s) (hb0 : Below W0.heap.size W0 w) : Calls Tryz.prog 93 #[.agg #[.slice r bs.length c, .bool bad]] w fun e w' => ∃ r' c' bs' bad', e = .returned (.tuple #[.int .i64 (pInt s).1, .agg #[.slice r' (List.length bs') c', .bool bad']]) ∧ RdV W0 r' c' bs' bad' (pInt s).2 ∧ Below w.heap.size w w' := by
 rw [pInt_take]
 have HT := H! (fun W => rtake_any 8 W0 W h (by omega) (by omega))
 have HL : Hid ((pTake 8 s).1.length ≤ 8) := H! (by
  cases s with
  | none => simp [pTake]
  | some bs =>
   simp only [pTake]
   split
   ·
    rw [List.length_take]; omega
   ·
    simp)
 generalize (pTake 8 s).2 = s2 at *
 generalize (pTake 8 s).1 = out at *
 clear h
 go_enter Tryz.func93, Tryz.ntmps93
 go_wp2_with (first | (go_at_call 89; refine (HT.out _).mono ?_; rintro _ w1 ⟨ro, co, r', c', bs', bad', rfl, hx, hr, hb1⟩; have HX := H! hx; have HR := H! hr; obtain ⟨hb1c, hb1f⟩ := bcell hb1; have hb1s := hb1.size; (try simp only [zA] at hb1s); have hx1 : w.heap.size < w1.heap.size := (by omega); have hx2 : w.heap.size + 1 < w1.heap.size := (by omega); clear hx hr))
 have HBO : Hid (∀ k, k < out.length → rawB (out.take (k + 1)) = rawB (out.take k) * 256 + out.getD k 0) := H! (fun k hk => rawB_take hk)
 have hby : ByteL out := fun x h => wf_u8 (HX.out.wf x h)
 have HBY := H! hby
 have HRB : Hid (∀ k, k < 8 → 0 ≤ rawB (out.take k) ∧ rawB (out.take k) < 72057594037927936) := H! (fun k hk => rawB_lt56 hby hk)
 have HVB : Hid (valB out = wrap64 (rawB out)) := H! (valB_eq out)
 have AT := AtV.new w1 [.slice r' bs'.length c', .bool bad'] 122
 change AtV (w1.alloc (.cells #[.slice r' bs'.length c', .bool bad'] 122)) _ _ at AT
 have AR0 : AtV ((w.alloc (.cells #[.slice r bs.length c, .bool bad] 122)).alloc (.cells #[.slice none 0 0, .bool false] 122)) (w.heap.size + 1) [.slice none 0 0, .bool false] := by
  have := AtV.new (w.alloc (.cells #[.slice r bs.length c, .bool bad] 122)) [.slice none 0 0, .bool false] 122
  rwa [zA] at this
 have AR : AtV (w1.alloc (.cells #[.slice r' bs'.length c', .bool bad'] 122)) (w.heap.size + 1) [.slice none 0 0, .bool false] := (AR0.keep (hb1.block _ (by simp only [zA]; omega))).keep (Below.heap_alloc _ _ _ (by omega))
 obtain ⟨q0, q2⟩ := AR 0 _ rfl
 obtain ⟨q1, q3⟩ := AR 1 _ rfl
 clear AR0 AR
 have hB3 : Below w.heap.size w (w1.alloc (.cells #[.slice r' bs'.length c', .bool bad'] 122)) := bw
 have hz3 : w1.heap.size < (w1.alloc (.cells #[.slice r' bs'.length c', .bool bad'] 122)).heap.size := by rw [zA]; omega
 generalize w1.alloc (.cells #[.slice r' bs'.length c', .bool bad'] 122) = W3 at *
 generalize w1.heap.size = T at *
 have ⟨t0, _⟩ := AT 0 _ rfl
 have ⟨t1, _⟩ := AT 1 _ rfl
 have hT1 : ¬ T = w.heap.size + 1 := by omega
 have hT2 : ¬ w.heap.size + 1 = T := by omega
 have hT3 : w.heap.size + 1 < W3.heap.size := by omega
 clear AT hby hb1c hb1f hb1s hb1
 generalize hn : out.length = n at *
 have HN := H! hn
 clear hn
 have hn8 : n ≤ 8 := HL.out
 have hBW0 := hb0.size
 go_loopg [6, 7] n (fun kx s6 s7 wr => ∃ (k : Nat) (a : Int), s6 = .int .i64 a ∧ s7 = .int .i64 k ∧ k ≤ n ∧ n - k ≤ kx ∧ wr = W3 ∧ Hid (a = wrap64 (rawB (out.take k))))
 case atStart => exact ⟨0, 0, rfl, rfl, by omega, by omega, rfl, H! (by simp [rawB, wrap64])⟩
 case round =>
  obtain ⟨k, a, rfl, rfl, hk, hkx, hw, HA⟩ := hrel
  subst hw
  by_cases hlt : k < n
  ·
   have hk1 : (0 : Int) ≤ (k : Int) := by omega
   have hk2 : (k : Int) < n := by omega
   obtain ⟨bX, off, rfl, hb, hc⟩ := HX.out.cells (fun e => by have := HN.out; rw [e] at this; simp at this; omega)
   have hc1 : wr.cell? ⟨bX, off + k, none⟩ = some (.int .u8 (out.getD k 0)) := ((hb0.trans (hB3.mono hBW0)).cell (p := ⟨bX, off + k, none⟩) hb).trans (hc k (by first | exact hlt | (rw [HN.out]; exact hlt)))
   have hxb := HBY.out _ (getD_mem' (xs := out) (k := k) (by have := HN.out; omega))
   have hab := HRB.out k (by omega)
   have HA2 := HBO.out k (by first | exact hlt | (rw [HN.out]; exact hlt))
   have ha3 : a = rawB (out.take k) := by rw [HA.out]; unfold wrap64; omega
   rw [← ha3] at hab HA2
   have HA3 := H! HA2
   clear hc HA2 ha3
   generalize out.getD k 0 = x at *
   have e2 : IntKind.i64.wrap x = x := IntWalk.i64_in _ (by omega)
   have e3 := or_i64 hab.1 hab.2 hxb.1 hxb.2
   go_wp2
   go_roundg (n - (k + 1))
   case measure => omega
   case rel => exact ⟨k + 1, wrap64 (a * 256 + x), by first | rfl | (simp [*]; done), by go_num, by omega, by omega, rfl, H! (by rw [HA3.out])⟩
  ·
   obtain rfl : k = n := by omega
   have HE : Hid (a = valB out) := H! (by rw [HA.out, HVB.out, ← HN.out, List.take_length])
   go_wp2
   go_region_held3 (fun w' => w'.cell? ⟨T, 0, none⟩ = some (.slice r' bs'.length c') ∧ w'.cell? ⟨T, 1, none⟩ = some (.bool bad')) (go_keep) (fail)
   all_goals go_wp2
   all_goals refine bodyPost_ret (by simp [results, Tryz.results93, go_sem, *]; try rfl) rfl ?_
   all_goals rw [← HE.out]
   all_goals exact ⟨r', c', bs', bad', rfl, HR.out, ((hB3.drew).setCell (p := ⟨w.heap.size + 1, 0, none⟩) (Nat.le_succ _) _).setCell (p := ⟨w.heap.size + 1, 1, none⟩) (Nat.le_succ _) _⟩
theorem rd_cells {w w1 : World} {t : TypeId} {r r' : Option Addr} {c c' n n' : Nat} {bad bad' : Bool} (hb1 : Below ((w.alloc (.cells #[.slice r n c, .bool bad] t)).alloc (.cells #[.slice none 0 0, .bool false] t)).heap.size ((w.alloc (.cells #[.slice r n c, .bool bad] t)).alloc (.cells #[.slice none 0 0, .bool false] t)) w1) :
  w.heap.size + 2 ≤ w1.heap.size ∧ Below w.heap.size w (w1.alloc (.cells #[.slice r' n' c', .bool bad'] t)) ∧ AtV (w1.alloc (.cells #[.slice r' n' c', .bool bad'] t)) (w.heap.size + 1) [.slice none 0 0, .bool false] ∧ AtV (w1.alloc (.cells #[.slice r' n' c', .bool bad'] t)) w1.heap.size [.slice r' n' c', .bool bad'] ∧ (w1.alloc (.cells #[.slice r' n' c', .bool bad'] t)).heap.size = w1.heap.size + 1 := by
 have hz : ((w.alloc (.cells #[.slice r n c, .bool bad] t)).alloc (.cells #[.slice none 0 0, .bool false] t)).heap.size = w.heap.size + 2 := by simp only [zA]
 have hb1s := hb1.size
 have AR0 : AtV ((w.alloc (.cells #[.slice r n c, .bool bad] t)).alloc (.cells #[.slice none 0 0, .bool false] t)) (w.heap.size + 1) [.slice none 0 0, .bool false] := by
  have := AtV.new (w.alloc (.cells #[.slice r n c, .bool bad] t)) [.slice none 0 0, .bool false] t
  rwa [zA] at this
 have hB0 : Below w.heap.size w ((w.alloc (.cells #[.slice r n c, .bool bad] t)).alloc (.cells #[.slice none 0 0, .bool false] t)) := bw
 rw [hz] at hb1s
 exact ⟨hb1s, (hB0.trans (hb1.mono hB0.size)).alloc (by omega) _, (AR0.keep (hb1.block _ (by rw [hz]; omega))).keep (Below.heap_alloc _ _ _ (by omega)), AtV.new w1 _ t, zA _ _⟩
theorem two_set {w0 : Nat} {w : World} {b : Nat} (h : w0 ≤ b) {w1 : World} (hb : Below w0 w w1) (u v : Value) : Below w0 w ((w1.setCell ⟨b, 0, none⟩ u).setCell ⟨b, 1, none⟩ v) := (hb.setCell (p := ⟨b, 0, none⟩) h _).setCell (p := ⟨b, 1, none⟩) h _
def RdPost (W0 w : World) (v : Value) (s : Sx) (e : Ending) (w' : World) : Prop := ∃ r' c' bs' bad', e = .returned (.tuple #[v, .agg #[.slice r' (List.length bs') c', .bool bad']]) ∧ RdV W0 r' c' bs' bad' s ∧ Below w.heap.size w w'
theorem rdp {W0 w : World} {v : Value} {s : Sx} {e : Ending} {w' : World} (r' : Option Addr) (c' : Nat) (bs' : List Int) (bad' : Bool) (he : e = .returned (.tuple #[v, .agg #[.slice r' (List.length bs') c', .bool bad']])) (h : RdV W0 r' c' bs' bad' s) (hb : Below w.heap.size w w') : RdPost W0 w v s e w' := ⟨r', c', bs', bad', he, h, hb⟩
set_option maxRecDepth 100000 in
theorem rcnt_any (size : Nat) (W0 w : World) {r : Option Addr} {c : Nat} {bs : List Int} {bad : Bool} {s : Sx} (h : RdV W0 r c bs bad s) (hb0 : Below W0.heap.size W0 w) (hs0 : 0 < size) (hs1 : size ≤ 100) : Calls Tryz.prog 88 #[.agg #[.slice r bs.length c, .bool bad], .int .i64 size] w fun e w' => RdPost W0 w (.int .i64 (pCount size s).1) (pCount size s).2 e w' := by
 have hb0s := hb0.size
 have HI := H! (fun W (hW : Below w.heap.size w W) => rinteger_any W0 W h (hb0.trans (hW.mono hb0s)))
 have HC := H! (pCount_eq size s)
 generalize pCount size s = C at *
 generalize (pInt s).1 = n at *
 generalize (pInt s).2 = t at *
 clear h
 have hs2 : ¬ (size : Int) = 0 := by omega
 have hs3 : ((size : Int) == 0) = false := beq_eq_false_iff_ne.2 (by omega)
 go_enter Tryz.func88, Tryz.ntmps88
 go_upto_region 2 with (go_at_call 93; refine (HI.out _ bw).mono ?_; rintro _ w1 ⟨r1, c1, bs1, bad1, rfl, hr1, hb1⟩; have HR1 := H! hr1; clear hr1)
 obtain ⟨hz1, hB3, AR, AT, hz3⟩ := rd_cells (r' := r1) (c' := c1) (n' := bs1.length) (bad' := bad1) hb1
 change Below _ _ (w1.alloc (.cells #[.slice r1 bs1.length c1, .bool bad1] 122)) at hB3
 change AtV (w1.alloc (.cells #[.slice r1 bs1.length c1, .bool bad1] 122)) _ _ at AR AT
 change (w1.alloc (.cells #[.slice r1 bs1.length c1, .bool bad1] 122)).heap.size = _ at hz3
 generalize w1.alloc (.cells #[.slice r1 bs1.length c1, .bool bad1] 122) = W3 at *
 clear hb1
 generalize w1.heap.size = T at *
 have ⟨t0, _⟩ := AT 0 _ rfl
 have ⟨t1, _⟩ := AT 1 _ rfl
 obtain ⟨q0, q2⟩ := AR 0 _ rfl
 obtain ⟨q1, q3⟩ := AR 1 _ rfl
 have hT1 : ¬ T = w.heap.size + 1 := by omega
 have hT2 : ¬ w.heap.size + 1 = T := by omega
 have hT3 : w.heap.size + 1 < W3.heap.size := by omega
 clear AT AR hz3 hz1
 have hsx := HR1.out.sx
 cases bad1
 ·
  obtain ⟨q, hq⟩ : ∃ q, q = bs1.length / size := ⟨_, rfl⟩
  have hql : q ≤ bs1.length := by rw [hq]; exact Nat.div_le_self _ _
  have hdv : wrap64 ((bs1.length : Int) / (size : Int)) = (q : Int) := by
   have h2 : ((bs1.length / size : Nat) : Int) = (bs1.length : Int) / (size : Int) := by simp
   have h3 := HR1.out.len
   rw [← h2, ← hq]
   unfold wrap64
   omega
  have hC : C = if 0 ≤ n ∧ n ≤ (q : Int) then (n.toNat, t) else (0, none) := by
   rw [HC.out, hsx]
   show (if _ then _ else _) = _
   rw [hq]
   rfl
  have HC2 := H! hC
  clear hC hq hsx
  by_cases hneg : n < 0
  ·
   have HC3 : Hid (C = (0, none)) := H! (by rw [HC2.out, if_neg (by omega)])
   have hn1 : decide (n < 0) = true := decide_eq_true hneg
   go_wp2
   refine bodyPost_ret (by simp [results, Tryz.results88, go_sem, *]; try rfl) rfl ?_
   rw [HC3.out]
   exact rdp none 0 [] true rfl (RdV.none W0) (two_set (Nat.le_succ _) hB3 _ _)
  ·
   have hn1 : decide (n < 0) = false := decide_eq_false hneg
   by_cases hgt : (q : Int) < n
   ·
    have HC3 : Hid (C = (0, none)) := H! (by rw [HC2.out, if_neg (by omega)])
    have hn2 : decide ((q : Int) < n) = true := decide_eq_true hgt
    go_wp2
    refine bodyPost_ret (by simp [results, Tryz.results88, go_sem, *]; try rfl) rfl ?_
    rw [HC3.out]
    exact rdp none 0 [] true rfl (RdV.none W0) (two_set (Nat.le_succ _) hB3 _ _)
   ·
    have HC3 : Hid (C = (n.toNat, t)) := H! (by rw [HC2.out, if_pos (by omega)])
    have hn2 : decide ((q : Int) < n) = false := decide_eq_false hgt
    have HN : Hid (((n.toNat : Nat) : Int) = n) := H! (by omega)
    go_wp2
    go_region_held3 (fun w' => w'.cell? ⟨T, 0, none⟩ = some (.slice r1 bs1.length c1) ∧ w'.cell? ⟨T, 1, none⟩ = some (.bool false)) (go_keep) (fail)
    all_goals go_wp2
    all_goals refine bodyPost_ret (by simp [results, Tryz.results88, go_sem, *]; try rfl) rfl ?_
    all_goals rw [HC3.out]
    all_goals exact rdp r1 c1 bs1 false (by simp only [HN.out]) HR1.out (two_set (Nat.le_succ _) hB3.drew _ _)
 ·
  have HC3 : Hid (C = (0, none)) := H! (by rw [HC.out, hsx]; rfl)
  clear hsx
  go_wp2
  refine bodyPost_ret (by simp [results, Tryz.results88, go_sem, *]; try rfl) rfl ?_
  rw [HC3.out]
  exact rdp none 0 [] true rfl (RdV.none W0) (two_set (Nat.le_succ _) hB3 _ _)
theorem KeepB.setBo {B Bo : Nat} {W w' : World} (h : KeepB B Bo W w') (j : Nat) (v : Value) : KeepB B Bo W (w'.setCell ⟨Bo, j, none⟩ v) :=
 ⟨h.1.trans ((Below.refl 0 w').setCell (p := ⟨Bo, j, none⟩) (Nat.zero_le _) v), fun q hq hn => (Below.heap_setCell _ _ _ _ hn).trans (h.2 q hq hn)⟩
def RlPost (W0 w : World) (l : List Int) (s : Sx) (e : Ending) (w' : World) : Prop := ∃ ro co r' c' bs' bad', e = .returned (.tuple #[.slice ro l.length co, .agg #[.slice r' (List.length bs') c', .bool bad']]) ∧ OwnK .i64 3 w' w.heap.size ro co l ∧ RdV W0 r' c' bs' bad' s ∧ Below w.heap.size w w'
theorem rlp {W0 w : World} {l : List Int} {s : Sx} {e : Ending} {w' : World} (ro : Option Addr) (co : Nat) (r' : Option Addr) (c' : Nat) (bs' : List Int) (bad' : Bool) (he : e = .returned (.tuple #[.slice ro l.length co, .agg #[.slice r' (List.length bs') c', .bool bad']])) (ho : OwnK .i64 3 w' w.heap.size ro co l) (h : RdV W0 r' c' bs' bad' s) (hb : Below w.heap.size w w') : RlPost W0 w l s e w' := ⟨ro, co, r', c', bs', bad', he, ho, h, hb⟩
theorem OwnK.drew {k : IntKind} {te : TypeId} {W : World} {base : Nat} {r : Option Addr} {cap : Nat} {xs : List Int} (h : OwnK k te W base r cap xs) : OwnK k te W.drew base r cap xs := h.below (Below.refl _ _).drew (Nat.le_refl _)
set_option maxRecDepth 100000 in
theorem rnums_any (n : Nat) (hn : n ≤ 100000) (W0 w : World) {r : Option Addr} {c : Nat} {bs : List Int} {bad : Bool} {s : Sx} (h : RdV W0 r c bs bad s) (hb0 : Below W0.heap.size W0 w) : Calls Tryz.prog 91 #[.agg #[.slice r bs.length c, .bool bad], .int .i64 n] w fun e w' => RlPost W0 w (pRep pInt n s).1 (pRep pInt n s).2 e w' := by
 have hb0s := hb0.size
 have HE : Hid (pRep pInt n s = pRep pInt n s) := H! rfl
 have HR := H! h
 clear h
 go_enter Tryz.func91, Tryz.ntmps91
 go_upto_region 3 with fail
 have hz2 : ((w.alloc (.cells #[.slice r bs.length c, .bool bad] 122)).alloc (.cells #[.slice none 0 0, .bool false] 122)).heap.size = w.heap.size + 2 := by simp only [zA]
 have hB2 : Below w.heap.size w ((w.alloc (.cells #[.slice r bs.length c, .bool bad] 122)).alloc (.cells #[.slice none 0 0, .bool false] 122)) := bw
 have A0 : AtV ((w.alloc (.cells #[.slice r bs.length c, .bool bad] 122)).alloc (.cells #[.slice none 0 0, .bool false] 122)) w.heap.size [.slice r bs.length c, .bool bad] := (AtV.new w [.slice r bs.length c, .bool bad] 122).keep (Below.heap_alloc _ _ _ (by rw [zA]; omega))
 have A1 : AtV ((w.alloc (.cells #[.slice r bs.length c, .bool bad] 122)).alloc (.cells #[.slice none 0 0, .bool false] 122)) (w.heap.size + 1) [.slice none 0 0, .bool false] := by
  have := AtV.new (w.alloc (.cells #[.slice r bs.length c, .bool bad] 122)) [.slice none 0 0, .bool false] 122
  rwa [zA] at this
 generalize (w.alloc (.cells #[.slice r bs.length c, .bool bad] 122)).alloc (.cells #[.slice none 0 0, .bool false] 122) = W2 at *
 have HA0 := H! A0
 have HA1 := H! A1
 clear A0 A1
 obtain ⟨D, hD⟩ : ∃ D, D = w.heap.size + 2 := ⟨_, rfl⟩
 have hD0 : w.heap.size < D := by omega
 have hD1 : w.heap.size + 1 < D := by omega
 have hD2 : D ≤ W2.heap.size := by omega
 have hD3 : D ≤ w.heap.size + 2 := by omega
 clear hD hz2
 go_loopg [6, 7] n (fun kx s6 s7 wr => ∃ (k : Nat) (ro : Option Addr) (co : Nat) (out : List Int) (r : Option Addr) (c : Nat) (bs : List Int) (bad : Bool) (s2 : Sx), s6 = .slice ro out.length co ∧ s7 = .int .i64 k ∧ k ≤ n ∧ n - k ≤ kx ∧ D ≤ wr.heap.size ∧ Hid (KeepB D w.heap.size W2 wr) ∧ Hid (AtV wr w.heap.size [.slice r bs.length c, .bool bad]) ∧ Hid (RdV W0 r c bs bad s2) ∧ Hid (OwnK .i64 3 wr D ro co out) ∧ Hid ((out, s2) = pRep pInt k s) ∧ Hid (out.length = k))
 case atStart => exact ⟨0, none, 0, [], r, c, bs, bad, s, rfl, rfl, by omega, by omega, hD2, H! (KeepB.refl _ _ _), HA0, HR, H! (OwnK.nil _ _), H! rfl, H! rfl⟩
 case round =>
  clear HA0 HR
  obtain ⟨k, ro, co, out, r, c, bs, bad, s2, rfl, rfl, hk, hkx, hsz, HK, HA, HR, HO, HP, HL⟩ := hrel
  obtain ⟨a0, f0⟩ := HA.out 0 _ rfl
  obtain ⟨a1, f1⟩ := HA.out 1 _ rfl
  have hwz : w.heap.size < wr.heap.size := by omega
  have HBr : Hid (Below w.heap.size w wr) := H! (hB2.trans (HK.out.below (by omega) (Nat.le_refl _)))
  by_cases hlt : k < n
  ·
   have hk1 : (0 : Int) ≤ (k : Int) := by omega
   have hk2 : (k : Int) < n := by omega
   have HI := H! (rinteger_any W0 wr HR.out (hb0.trans (HBr.out.mono hb0s)))
   have hol : out.length ≤ 100000 := by have := HL.out; omega
   have HP2 : Hid ((out ++ [(pInt s2).1], (pInt s2).2) = pRep pInt (k + 1) s) := H! (by rw [pRep, ← HP.out])
   generalize (pInt s2).1 = x at *
   generalize (pInt s2).2 = s3 at *
   go_upto_region 6 with (go_at_call 93; refine HI.out.mono ?_; rintro _ w3 ⟨r1, c1, bs1, bad1, rfl, hr1, hb3⟩; have HR1 := H! hr1; clear hr1)
   have hz3 := hb3.size
   have AT := AtV.new w3 [.slice r1 bs1.length c1, .bool bad1] 122
   change AtV (w3.alloc (.cells #[.slice r1 bs1.length c1, .bool bad1] 122)) _ _ at AT
   have hb4 : Below wr.heap.size wr (w3.alloc (.cells #[.slice r1 bs1.length c1, .bool bad1] 122)) := hb3.alloc hz3 _
   have hz4 : (w3.alloc (.cells #[.slice r1 bs1.length c1, .bool bad1] 122)).heap.size = w3.heap.size + 1 := zA _ _
   generalize w3.alloc (.cells #[.slice r1 bs1.length c1, .bool bad1] 122) = w4 at *
   generalize w3.heap.size = T at *
   have ⟨t0, _⟩ := AT 0 _ rfl
   have ⟨t1, _⟩ := AT 1 _ rfl
   have HA4 := H! (HA.out.keep (hb4.block _ hwz))
   obtain ⟨b0, g0⟩ := HA4.out 0 _ rfl
   obtain ⟨b1, g1⟩ := HA4.out 1 _ rfl
   have hT1 : ¬ T = w.heap.size := by omega
   have hT2 : ¬ w.heap.size = T := by omega
   have hw4 : w.heap.size < w4.heap.size := by omega
   have hD4 : D ≤ w4.heap.size := by omega
   have HK4 : Hid (KeepB D w.heap.size W2 w4) := H! (HK.out.trans (below_keepB (hb4.mono hsz)))
   have HO4 : Hid (OwnK .i64 3 w4 D ro co out) := H! (HO.out.below hb4 (Nat.le_refl _))
   clear AT hb3 HK HO HA a0 f0 a1 f1 HI hz4 HBr
   go_upto_region 7 with fail
   have HA5 : Hid (AtV ((w4.setCell ⟨w.heap.size, 0, none⟩ (.slice r1 bs1.length c1)).setCell ⟨w.heap.size, 1, none⟩ (.bool bad1)) w.heap.size [.slice r1 bs1.length c1, .bool bad1]) := H! ((HA4.out.set (j := 0) (by simp) _).set (j := 1) (by simp) _)
   have HK5 : Hid (KeepB D w.heap.size W2 ((w4.setCell ⟨w.heap.size, 0, none⟩ (.slice r1 bs1.length c1)).setCell ⟨w.heap.size, 1, none⟩ (.bool bad1))) := H! ((HK4.out.setBo 0 _).setBo 1 _)
   have HO5 : Hid (OwnK .i64 3 ((w4.setCell ⟨w.heap.size, 0, none⟩ (.slice r1 bs1.length c1)).setCell ⟨w.heap.size, 1, none⟩ (.bool bad1)) D ro co out) := H! ((HO4.out.set (a := ⟨w.heap.size, 0, none⟩) hD0 _).set (a := ⟨w.heap.size, 1, none⟩) hD0 _)
   have hz5 : D ≤ ((w4.setCell ⟨w.heap.size, 0, none⟩ (.slice r1 bs1.length c1)).setCell ⟨w.heap.size, 1, none⟩ (.bool bad1)).heap.size := by simp only [zS]; omega
   generalize (w4.setCell ⟨w.heap.size, 0, none⟩ (.slice r1 bs1.length c1)).setCell ⟨w.heap.size, 1, none⟩ (.bool bad1) = w5 at *
   clear HA4 HK4 HO4 b0 g0 b1 g1 t0 t1
   go_wp2_with (at_builtin; refine wpList_append_k Tryz.underlying26 infoI64 rfl (by omega) (by rfl) _ _ (by rfl) w5 D ro co out [x] 1 rfl (by omega) (by rfl) (by rfl) (by rfl) HO5.out (by omega) hz5 ?_; intro ro' co' w6 hown6 hb6; have HO6 := H! hown6; clear hown6)
   have hz6 := hb6.size
   go_roundg (n - (k + 1))
   case measure => omega
   case rel => exact ⟨k + 1, ro', co', out ++ [x], r1, c1, bs1, bad1, s3, by simp, by go_num, by omega, by omega, by omega, H! (HK5.out.trans (below_keepB hb6)), H! (HA5.out.keep (hb6.block _ hD0)), HR1, HO6, HP2, H! (by rw [List.length_append, HL.out]; rfl)⟩
  ·
   obtain rfl : k = n := by omega
   have HA1r := HA1.out.keep (HK.out.block (w.heap.size + 1) hD1 (by omega))
   obtain ⟨q0, q2⟩ := HA1r 0 _ rfl
   obtain ⟨q1, q3⟩ := HA1r 1 _ rfl
   have hw1 : w.heap.size + 1 < wr.heap.size := by omega
   have HQ := H! HP.out.symm
   clear HA1r
   go_wp2
   go_region_held3 (fun w' => w'.cell? ⟨w.heap.size, 0, none⟩ = some (.slice r bs.length c) ∧ w'.cell? ⟨w.heap.size, 1, none⟩ = some (.bool bad)) (go_keep) (fail)
   all_goals go_wp2
   all_goals refine bodyPost_ret (by simp [results, Tryz.results91, go_sem, *]; try rfl) rfl ?_
   all_goals rw [HQ.out]
   all_goals exact rlp ro co r c bs bad rfl (((HO.out.drew.set (a := ⟨w.heap.size + 1, 0, none⟩) hD1 _).set (a := ⟨w.heap.size + 1, 1, none⟩) hD1 _).base (by omega)) HR.out (two_set (Nat.le_succ _) HBr.out.drew _ _)
set_option maxRecDepth 100000 in
theorem rints_any (W0 w : World) {r : Option Addr} {c : Nat} {bs : List Int} {bad : Bool} {s : Sx} (h : RdV W0 r c bs bad s) (hb0 : Below W0.heap.size W0 w) : Calls Tryz.prog 92 #[.agg #[.slice r bs.length c, .bool bad]] w fun e w' => RlPost W0 w (pList s).1 (pList s).2 e w' := by
 have hb0s := hb0.size
 have HC := H! (fun W (hW : Below w.heap.size w W) => rcnt_any 8 W0 W h (hb0.trans (hW.mono hb0s)) (by omega) (by omega))
 have hcl := pCount_le (size := 8) (s := s) (fun bs' e => by
  have := h.len
  rw [h.sx] at e
  cases bad
  ·
   cases e; exact this
  ·
   cases e)
 have HE : Hid (pList s = pRep pInt (pCount 8 s).1 (pCount 8 s).2) := H! rfl
 generalize pList s = PL at *
 generalize (pCount 8 s).1 = n at *
 generalize (pCount 8 s).2 = s1 at *
 clear h
 go_enter Tryz.func92, Tryz.ntmps92
 go_upto_region 2 with (go_at_call 88; refine (HC.out _ bw).mono ?_; rintro _ w1 ⟨r1, c1, bs1, bad1, rfl, hr1, hb1⟩; have HR1 := H! hr1; clear hr1)
 obtain ⟨hz1, hB3, AR, AT, hz3⟩ := rd_cells (r' := r1) (c' := c1) (n' := bs1.length) (bad' := bad1) hb1
 change Below _ _ (w1.alloc (.cells #[.slice r1 bs1.length c1, .bool bad1] 122)) at hB3
 change AtV (w1.alloc (.cells #[.slice r1 bs1.length c1, .bool bad1] 122)) _ _ at AR AT
 change (w1.alloc (.cells #[.slice r1 bs1.length c1, .bool bad1] 122)).heap.size = _ at hz3
 generalize w1.alloc (.cells #[.slice r1 bs1.length c1, .bool bad1] 122) = W3 at *
 clear hb1
 generalize w1.heap.size = T at *
 have ⟨t0, _⟩ := AT 0 _ rfl
 have ⟨t1, _⟩ := AT 1 _ rfl
 have hT3 : w.heap.size + 1 < W3.heap.size := by omega
 have HAR := H! AR
 have HN := H! (rnums_any n hcl W0 W3 HR1.out (hb0.trans (hB3.mono hb0s)))
 clear AT AR hz3 hz1
 go_wp2_with (go_at_call 91; refine HN.out.mono ?_; rintro _ w4 ⟨ro, co, r2, c2, bs2, bad2, rfl, ho4, hr4, hb4⟩; have HO4 := H! ho4; have HR4 := H! hr4; have AR4 := HAR.out.keep (hb4.block _ hT3); obtain ⟨q0, q2⟩ := AR4 0 _ rfl; obtain ⟨q1, q3⟩ := AR4 1 _ rfl; have hz4 := hb4.size; have hw4 : w.heap.size + 1 < w4.heap.size := (by omega); clear ho4 hr4 AR4)
 refine bodyPost_ret (by simp [results, Tryz.results92, go_sem, *]; try rfl) rfl ?_
 have hB4 : Below w.heap.size w w4 := hB3.trans (hb4.mono hB3.size)
 rw [HE.out]
 exact rlp ro co r2 c2 bs2 bad2 rfl (((HO4.out.set (a := ⟨w.heap.size + 1, 0, none⟩) hT3 _).set (a := ⟨w.heap.size + 1, 1, none⟩) hT3 _).base (by omega)) HR4.out (two_set (Nat.le_succ _) hB4 _ _)
set_option maxRecDepth 100000 in
theorem runit_any (m kg s a k : Int) (w : World) : Calls Tryz.prog 70 #[.agg #[.int .i64 m, .int .i64 kg, .int .i64 s, .int .i64 a, .int .i64 k]] w fun e w' => e = .returned (.bool (unitB m kg s a k)) ∧ Below w.heap.size w w' := by
 have HR : Hid (unitB m kg s a k = (in9 m && (in9 kg && (in9 s && (in9 a && in9 k))))) := H! rfl
 generalize unitB m kg s a k = R at *
 by_cases n0 : -9 ≤ m
 rotate_left
 ·
  obtain rfl : R = false := by rw [HR.out, in9_bad (x := m) (.inl (by omega))]; simp
  clear HR
  go_enter Tryz.func70, Tryz.ntmps70
  go_wp2
  go_ret
  exact ⟨rfl, bw⟩
 by_cases u0 : m ≤ 9
 rotate_left
 ·
  obtain rfl : R = false := by rw [HR.out, in9_bad (x := m) (.inr (by omega))]; simp
  clear HR
  go_enter Tryz.func70, Tryz.ntmps70
  go_wp2
  go_ret
  exact ⟨rfl, bw⟩
 by_cases n1 : -9 ≤ kg
 rotate_left
 ·
  obtain rfl : R = false := by rw [HR.out, in9_bad (x := kg) (.inl (by omega))]; simp
  clear HR
  go_enter Tryz.func70, Tryz.ntmps70
  go_wp2
  go_ret
  exact ⟨rfl, bw⟩
 by_cases u1 : kg ≤ 9
 rotate_left
 ·
  obtain rfl : R = false := by rw [HR.out, in9_bad (x := kg) (.inr (by omega))]; simp
  clear HR
  go_enter Tryz.func70, Tryz.ntmps70
  go_wp2
  go_ret
  exact ⟨rfl, bw⟩
 by_cases n2 : -9 ≤ s
 rotate_left
 ·
  obtain rfl : R = false := by rw [HR.out, in9_bad (x := s) (.inl (by omega))]; simp
  clear HR
  go_enter Tryz.func70, Tryz.ntmps70
  go_wp2
  go_ret
  exact ⟨rfl, bw⟩
 by_cases u2 : s ≤ 9
 rotate_left
 ·
  obtain rfl : R = false := by rw [HR.out, in9_bad (x := s) (.inr (by omega))]; simp
  clear HR
  go_enter Tryz.func70, Tryz.ntmps70
  go_wp2
  go_ret
  exact ⟨rfl, bw⟩
 by_cases n3 : -9 ≤ a
 rotate_left
 ·
  obtain rfl : R = false := by rw [HR.out, in9_bad (x := a) (.inl (by omega))]; simp
  clear HR
  go_enter Tryz.func70, Tryz.ntmps70
  go_wp2
  go_ret
  exact ⟨rfl, bw⟩
 by_cases u3 : a ≤ 9
 rotate_left
 ·
  obtain rfl : R = false := by rw [HR.out, in9_bad (x := a) (.inr (by omega))]; simp
  clear HR
  go_enter Tryz.func70, Tryz.ntmps70
  go_wp2
  go_ret
  exact ⟨rfl, bw⟩
 by_cases n4 : -9 ≤ k
 rotate_left
 ·
  obtain rfl : R = false := by rw [HR.out, in9_bad (x := k) (.inl (by omega))]; simp
  clear HR
  go_enter Tryz.func70, Tryz.ntmps70
  go_wp2
  go_ret
  exact ⟨rfl, bw⟩
 by_cases u4 : k ≤ 9
 rotate_left
 ·
  obtain rfl : R = false := by rw [HR.out, in9_bad (x := k) (.inr (by omega))]; simp
  clear HR
  go_enter Tryz.func70, Tryz.ntmps70
  go_wp2
  go_ret
  exact ⟨rfl, bw⟩
 obtain rfl : R = true := by rw [HR.out, in9_good (x := m) (by omega) (by omega), in9_good (x := kg) (by omega) (by omega), in9_good (x := s) (by omega) (by omega), in9_good (x := a) (by omega) (by omega), in9_good (x := k) (by omega) (by omega)]; rfl
 clear HR
 go_enter Tryz.func70, Tryz.ntmps70
 go_wp2
 go_ret
 exact ⟨rfl, bw⟩
theorem fxb0 {t : Fx} (h : ¬ (t.bits = 8 ∨ t.bits = 16 ∨ t.bits = 32)) : fxB t = false := by unfold fxB; rw [decide_eq_false h]; rfl
theorem fxb1 {t : Fx} (h : ¬ (1 ≤ t.num ∧ t.num ≤ 1048576)) : fxB t = false := by unfold fxB; rw [decide_eq_false h]; simp
theorem fxb2 {t : Fx} (h : ¬ (1 ≤ t.den ∧ t.den ≤ 1048576)) : fxB t = false := by unfold fxB; rw [decide_eq_false h]; simp
theorem fxb3 {t : Fx} (h : ¬ (-1073741824 ≤ t.off ∧ t.off ≤ 1073741824)) : fxB t = false := by unfold fxB; rw [decide_eq_false h]; simp
theorem fxb4 {t : Fx} (h0 : t.bits = 8 ∨ t.bits = 16 ∨ t.bits = 32) (h1 : 1 ≤ t.num ∧ t.num ≤ 1048576) (h2 : 1 ≤ t.den ∧ t.den ≤ 1048576) (h3 : -1073741824 ≤ t.off ∧ t.off ≤ 1073741824) : fxB t = unitB t.m t.kg t.s t.a t.k := by
 unfold fxB; rw [decide_eq_true h0, decide_eq_true h1, decide_eq_true h2, decide_eq_true h3]; rfl
set_option maxRecDepth 100000 in
theorem r3valid_any (t : Fx) (w : World) : Calls Tryz.prog 29 #[.agg #[.int .i64 t.bits, .bool t.sg, .int .i64 t.num, .int .i64 t.off, .int .i64 t.den, .int .i64 t.m, .int .i64 t.kg, .int .i64 t.s, .int .i64 t.a, .int .i64 t.k]] w fun e w' => e = .returned (.bool (fxB t)) ∧ Below w.heap.size w w' := by
 have F0 := H! (@fxb0 t)
 have F1 := H! (@fxb1 t)
 have F2 := H! (@fxb2 t)
 have F3 := H! (@fxb3 t)
 have F4 := H! (@fxb4 t)
 have HU := H! (fun W => runit_any t.m t.kg t.s t.a t.k W)
 obtain ⟨bits, sg, num, off, den, m, kg, s, a, k⟩ := t
 simp only at F0 F1 F2 F3 F4 HU ⊢
 generalize unitB m kg s a k = U at *
 generalize fxB ⟨bits, sg, num, off, den, m, kg, s, a, k⟩ = R at *
 by_cases hb : bits = 8 ∨ bits = 16 ∨ bits = 32
 rotate_left
 ·
  obtain rfl := F0.out hb
  have b0 : ¬ bits = 8 := by omega
  have b1 : ¬ bits = 16 := by omega
  have b2 : ¬ bits = 32 := by omega
  have c0 : (bits != 8) = true := by simp [b0]
  have c1 : (bits != 16) = true := by simp [b1]
  have c2 : (bits != 32) = true := by simp [b2]
  clear F0 F1 F2 F3 F4 HU hb
  go_enter Tryz.func29, Tryz.ntmps29
  go_wp2
  go_ret
  exact ⟨rfl, bw⟩
 by_cases l0 : 1 ≤ num
 rotate_left
 ·
  obtain rfl := F1.out (by omega)
  clear F0 F1 F2 F3 F4 HU
  rcases hb with rfl | rfl | rfl
  all_goals (go_enter Tryz.func29, Tryz.ntmps29)
  all_goals go_wp2
  all_goals go_ret
  all_goals exact ⟨rfl, bw⟩
 by_cases u0 : num ≤ 1048576
 rotate_left
 ·
  obtain rfl := F1.out (by omega)
  clear F0 F1 F2 F3 F4 HU
  rcases hb with rfl | rfl | rfl
  all_goals (go_enter Tryz.func29, Tryz.ntmps29)
  all_goals go_wp2
  all_goals go_ret
  all_goals exact ⟨rfl, bw⟩
 by_cases l1 : 1 ≤ den
 rotate_left
 ·
  obtain rfl := F2.out (by omega)
  clear F0 F1 F2 F3 F4 HU
  rcases hb with rfl | rfl | rfl
  all_goals (go_enter Tryz.func29, Tryz.ntmps29)
  all_goals go_wp2
  all_goals go_ret
  all_goals exact ⟨rfl, bw⟩
 by_cases u1 : den ≤ 1048576
 rotate_left
 ·
  obtain rfl := F2.out (by omega)
  clear F0 F1 F2 F3 F4 HU
  rcases hb with rfl | rfl | rfl
  all_goals (go_enter Tryz.func29, Tryz.ntmps29)
  all_goals go_wp2
  all_goals go_ret
  all_goals exact ⟨rfl, bw⟩
 by_cases l2 : -1073741824 ≤ off
 rotate_left
 ·
  obtain rfl := F3.out (by omega)
  clear F0 F1 F2 F3 F4 HU
  rcases hb with rfl | rfl | rfl
  all_goals (go_enter Tryz.func29, Tryz.ntmps29)
  all_goals go_wp2
  all_goals go_ret
  all_goals exact ⟨rfl, bw⟩
 by_cases u2 : off ≤ 1073741824
 rotate_left
 ·
  obtain rfl := F3.out (by omega)
  clear F0 F1 F2 F3 F4 HU
  rcases hb with rfl | rfl | rfl
  all_goals (go_enter Tryz.func29, Tryz.ntmps29)
  all_goals go_wp2
  all_goals go_ret
  all_goals exact ⟨rfl, bw⟩
 obtain rfl := F4.out hb ⟨l0, u0⟩ ⟨l1, u1⟩ ⟨l2, u2⟩
 clear F0 F1 F2 F3 F4
 rcases hb with rfl | rfl | rfl
 all_goals (go_enter Tryz.func29, Tryz.ntmps29)
 all_goals (go_wp2_with ((go_at_call 70; refine (HU.out _).mono ?_; rintro e hb1w ⟨rfl, hb1⟩; obtain ⟨hb1c, hb1f⟩ := bcell hb1; have hb1s := hb1.size; (try simp only [zA] at hb1s); (try (have : w.heap.size < hb1w.heap.size := by omega)); (try (have : w.heap.size + 1 < hb1w.heap.size := by omega)); (try (have : w.heap.size + 1 + 1 < hb1w.heap.size := by omega)); (try (have : w.heap.size + 1 + 1 + 1 < hb1w.heap.size := by omega)); (try (have : bX < hb1w.heap.size := by omega)); (try (have : bY < hb1w.heap.size := by omega)); (try (have : bZ < hb1w.heap.size := by omega)))))
 all_goals go_ret
 all_goals exact ⟨rfl, bw⟩
set_option maxRecDepth 100000 in
theorem rfields_v (op : Nat) (h1 : 1 ≤ op) (h2 : op ≤ 22) (w : World) : Calls Tryz.prog 75 #[.int .i64 op] w fun e w' => e = .returned (.string (rowF op)) ∧ w' = w := by
 obtain rfl | rfl | rfl | rfl | rfl | rfl | rfl | rfl | rfl | rfl | rfl | rfl | rfl | rfl | rfl | rfl | rfl | rfl | rfl | rfl | rfl | rfl : op = 1 ∨ op = 2 ∨ op = 3 ∨ op = 4 ∨ op = 5 ∨ op = 6 ∨ op = 7 ∨ op = 8 ∨ op = 9 ∨ op = 10 ∨ op = 11 ∨ op = 12 ∨ op = 13 ∨ op = 14 ∨ op = 15 ∨ op = 16 ∨ op = 17 ∨ op = 18 ∨ op = 19 ∨ op = 20 ∨ op = 21 ∨ op = 22 := by omega
 all_goals (go_enter Tryz.func75, Tryz.ntmps75)
 all_goals go_wp2
 all_goals go_ret
 all_goals exact ⟨rfl, rfl⟩
def holds (s : ByteArray) (c : Int) : Bool := s.data.toList.any fun x => decide ((x.toNat : Int) = c)
theorem holds_at {s : ByteArray} {c : Int} (k : Nat) (hk : k < s.size) (h : ((s[k]'hk).toNat : Int) = c) : holds s c = true := by
 unfold holds
 rw [List.any_eq_true]
 exact ⟨s[k]'hk, by
  rw [show s[k]'hk = s.data[k]'hk from rfl]
  exact Array.getElem_mem_toList hk, by simpa using h⟩
theorem holds_not {s : ByteArray} {c : Int} (h : ∀ k, ∀ hk : k < s.size, ¬ ((s[k]'hk).toNat : Int) = c) : holds s c = false := by
 unfold holds
 rw [List.any_eq_false]
 intro x hx
 obtain ⟨k, hk, rfl⟩ := List.mem_iff_getElem.1 hx
 have := h k hk
 rw [show s[k]'hk = s.data[k]'hk from rfl] at this
 simpa using this
set_option maxRecDepth 100000 in
theorem ruses_any (s : ByteArray) (hs : s.size ≤ 1000) (c : Int) (w : World) : Calls Tryz.prog 76 #[.string s, .int .u8 c] w fun e w' => e = .returned (.bool (holds s c)) ∧ w' = w := by
 have HT := H! (@holds_at s c)
 have HF := H! (@holds_not s c)
 generalize holds s c = R at *
 go_enter Tryz.func76, Tryz.ntmps76
 go_wp2
 go_loopg [5] s.size (fun kx s5 wr => ∃ (k : Nat), s5 = .int .i64 k ∧ k ≤ s.size ∧ s.size - k ≤ kx ∧ wr = w ∧ Hid (∀ j, ∀ hj : j < s.size, j < k → ¬ ((s[j]'hj).toNat : Int) = c))
 case atStart => exact ⟨0, rfl, by omega, by omega, rfl, H! (fun j _ h => absurd h (by omega))⟩
 case round =>
  obtain ⟨k, rfl, hk, hkx, rfl, HN⟩ := hrel
  by_cases hlt : k < s.size
  ·
   have hix : ∀ W, (Instr.index 9 (.string s) (.int .i64 k)).run Tryz.prog W = .ok (.int .u8 ((s[k]'hlt).toNat : Nat)) W := fun W => by
    rw [run_index_string W 9 s .i64 k Tryz.underlying9, dif_pos ⟨by omega, by omega⟩]
    rfl
   have hk1 : (k : Int) < s.size := by omega
   by_cases hc : ((s[k]'hlt).toNat : Int) = c
   ·
    obtain rfl := HT.out k hlt hc
    clear HT HF
    generalize ((s[k]'hlt).toNat : Int) = x at *
    go_wp2
    go_ret
    exact ⟨rfl, rfl⟩
   ·
    have HC := H! hc
    clear HT
    generalize hx : ((s[k]'hlt).toNat : Int) = x at *
    go_wp2
    go_roundg (s.size - (k + 1))
    case measure => omega
    case rel =>
     refine ⟨k + 1, by go_num, by omega, by omega, rfl, H! (fun j hj hjk => ?_)⟩
     by_cases e : j = k
     ·
      subst e
      rw [hx]
      exact HC.out
     ·
      exact HN.out j hj (by omega)
  ·
   obtain rfl : k = s.size := by omega
   obtain rfl := HF.out (fun j hj => HN.out j hj hj)
   clear HT HF
   go_wp2
   go_ret
   exact ⟨rfl, rfl⟩
theorem holds_row (n : Nat) (h1 : 1 ≤ n) (h2 : n ≤ 22) : holds (rowF n) 66 = decide (0 ≤ ixB n 66) ∧ holds (rowF n) 67 = decide (0 ≤ ixB n 67) ∧ holds (rowF n) 75 = hasK n ∧ 0 ≤ ixB n 65 ∧ (rowF n).size ≤ 1000 := by
 obtain rfl | rfl | rfl | rfl | rfl | rfl | rfl | rfl | rfl | rfl | rfl | rfl | rfl | rfl | rfl | rfl | rfl | rfl | rfl | rfl | rfl | rfl : n = 1 ∨ n = 2 ∨ n = 3 ∨ n = 4 ∨ n = 5 ∨ n = 6 ∨ n = 7 ∨ n = 8 ∨ n = 9 ∨ n = 10 ∨ n = 11 ∨ n = 12 ∨ n = 13 ∨ n = 14 ∨ n = 15 ∨ n = 16 ∨ n = 17 ∨ n = 18 ∨ n = 19 ∨ n = 20 ∨ n = 21 ∨ n = 22 := by omega
 all_goals decide
theorem formB_eq (n : Nat) (h1 : 1 ≤ n) (h2 : n ≤ 22) (a b c k : Int) : formB n a b c k = (decide (0 ≤ a ∧ a ≤ 15) && (decide (0 ≤ b ∧ b ≤ 15) && (decide (0 ≤ c ∧ c ≤ 15) && ((holds (rowF n) 66 || decide (b = 0)) && ((holds (rowF n) 67 || decide (c = 0)) && ((holds (rowF n) 75 || decide (k = 0)) && (!(holds (rowF n) 75) || kOk n k))))))) := by
 obtain ⟨e1, e2, e3, e4, _⟩ := holds_row n h1 h2
 unfold formB opB regB
 rw [e1, e2, e3, Int.toNat_natCast]
 have t : decide (1 ≤ (n : Int) ∧ (n : Int) ≤ 22) = true := by simp; omega
 rw [t]
 cases hasK n <;> cases kOk (n : Int) k
 all_goals (rw [Bool.eq_iff_iff]; simp only [Bool.and_eq_true, Bool.or_eq_true, decide_eq_true_eq, Bool.true_and, Bool.false_eq_true, if_true, if_false, Bool.not_true, Bool.not_false, and_true, and_false, true_or, false_or, or_false, or_true, Bool.and_true, Bool.and_false])
 all_goals omega
end Go.Proofs.YtfooefiaenlhmaaGreat
