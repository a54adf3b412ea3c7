/- The reference's Decode. No conditions. -/
import Derived.Test.YtfooefiaenlhmaaGreatGA1
import Derived.Test.YtfooefiaenlhmaaGreatGA7
import Derived.Test.YtfooefiaenlhmaaGreatGA9
import Derived.Test.YtfooefiaenlhmaaGreatGA11
import Derived.Test.YtfooefiaenlhmaaGreatGA22
import Derived.Deep.RegionHeld3
import Derived.Deep.Cut
namespace Go.Proofs.YtfooefiaenlhmaaGreat
set_option maxHeartbeats 16000000
open Go.RowKit Go.ChangeShapes Go.WideShapes Go.ChangeAt
theorem rsm_any (r q : Option Addr) (c d : Nat) (xs ys : List Int) (w : World) (hx : IsInts w r c .u8 xs) (hy : IsInts w q d .u8 ys) :
  Calls Tryz.prog 36 #[.slice r xs.length c, .slice q ys.length d] w fun e w' => e = .returned (.bool (decide (xs = ys))) ∧ Below w.heap.size w w' := by
 by_cases hl : xs.length = ys.length
 ·
  by_cases hne : xs = []
  ·
   subst hne
   obtain rfl : ys = [] := List.length_eq_zero_iff.1 hl.symm
   clear hx hy
   go_enter Tryz.func36, Tryz.ntmps36
   go_wp2
   go_rounds 1
   go_ret
   exact ⟨by simp, bw⟩
  ·
   have hney : ys ≠ [] := fun e => by subst e; exact hne (List.length_eq_zero_iff.1 hl)
   obtain ⟨bX, off, rfl, hb, hc⟩ := hx.cells hne
   obtain ⟨bY, ofy, rfl, hby, hcy⟩ := hy.cells hney
   have hmax := hx.max
   have hle := hx.le
   unfold maxLen at hmax
   have HC := H! hc
   have HCY := H! hcy
   have HT : Hid ((∀ t, t < xs.length → xs.getD t 0 = ys.getD t 0) → decide (xs = ys) = true) := H! (fun h => by simpa using getD_ext hl h)
   have HF : Hid (∀ t, xs.getD t 0 ≠ ys.getD t 0 → decide (xs = ys) = false) := H! (fun t h => by
    simp only [decide_eq_false_iff_not]
    intro e
    subst e
    exact h rfl)
   clear hc hcy hx hy hne hney
   rw [← hl] at HCY ⊢
   generalize hn : xs.length = n at *
   have HN := H! hn
   clear hn hl
   generalize decide (xs = ys) = res at *
   go_enter Tryz.func36, Tryz.ntmps36
   go_wp2
   go_loopg [5] n (fun kx s5 wr => ∃ (k : Nat) (e : Later w), s5 = .int .i64 k ∧ k ≤ n ∧ n - k ≤ kx ∧ wr = e.w ∧ Hid (∀ t, t < k → xs.getD t 0 = ys.getD t 0))
   case atStart => exact ⟨0, ⟨_, Below.refl _ _⟩, rfl, by omega, by omega, rfl, H! (fun t ht => absurd ht (Nat.not_lt_zero _))⟩
   case round =>
    obtain ⟨k, e, rfl, hk, hkx, rfl, HQ⟩ := hrel
    have hes := e.h.size
    by_cases hlt : k < n
    ·
     have hc1 : e.w.cell? ⟨bX, off + k, none⟩ = some (.int .u8 (xs.getD k 0)) := by
      rw [e.h.cell (p := ⟨bX, off + k, none⟩) hb]
      exact HC.out k hlt
     have hc2 : e.w.cell? ⟨bY, ofy + k, none⟩ = some (.int .u8 (ys.getD k 0)) := by
      rw [e.h.cell (p := ⟨bY, ofy + k, none⟩) hby]
      exact HCY.out k hlt
     have hk1 : (0 : Int) ≤ (k : Int) := by omega
     have hk2 : (k : Int) < n := by omega
     have HG : Hid (xs.getD k 0 = ys.getD k 0 → ∀ t, t < k + 1 → xs.getD t 0 = ys.getD t 0) := H! (fun h t ht => by
      by_cases e : t = k
      ·
       subst e; exact h
      ·
       exact HQ.out t (by omega))
     have HB := H! (HF.out k)
     generalize xs.getD k 0 = x at hc1 HG HB
     generalize ys.getD k 0 = y at hc2 HG HB
     by_cases hxy : x = y
     ·
      have HG2 := H! (HG.out hxy)
      go_wp2
      go_quiet (fail)
      go_wp2
      go_roundg (n - (k + 1))
      case measure => omega
      case rel => exact ⟨k + 1, ⟨_, below_drewN e.h _⟩, by go_num, by omega, by omega, rfl, HG2⟩
     ·
      have H := H! (HB.out hxy)
      go_wp2
      go_quiet (fail)
      go_wp2
      go_ret
      exact ⟨by rw [H.out]; first | done | rfl, below_drewN e.h _⟩
    ·
     obtain rfl : k = n := by omega
     have H := H! (HT.out HQ.out)
     go_wp2
     go_ret
     exact ⟨by rw [H.out]; first | done | rfl, e.h⟩
 ·
  have H := H! (show decide (xs = ys) = false by simp only [decide_eq_false_iff_not]; intro e; subst e; exact hl rfl)
  have hl2 : ((xs.length : Int) == (ys.length : Int)) = false := by simp; omega
  have hl3 : ¬ (xs.length : Int) = (ys.length : Int) := by omega
  clear hx hy
  go_enter Tryz.func36, Tryz.ntmps36
  go_wp2
  go_ret
  exact ⟨by rw [H.out]; first | done | rfl, bw⟩
set_option maxRecDepth 100000 in
theorem rdecode_len (r : Option Addr) (c : Nat) (bs : List Int) (w : World) (hl : bs.length ≤ 100000) (h : bs.length < 12 ∨ bs.length % 4 ≠ 0) : Calls Tryz.prog 17 #[.slice r bs.length c] w fun e w' => e = .returned (.tuple #[pv0.val, .int .i64 3]) ∧ Below w.heap.size w w' := by
 by_cases h12 : (bs.length : Int) < 12
 ·
  clear h
  go_enter Tryz.func17, Tryz.ntmps17
  go_wp2
  refine bodyPost_ret (by simp [results, Tryz.results17, go_sem, *]; try rfl) rfl ?_
  exact ⟨rfl, bw⟩
 ·
  have h4 : ¬ (bs.length : Int) % 4 = 0 := by omega
  clear h
  go_enter Tryz.func17, Tryz.ntmps17
  go_wp2
  refine bodyPost_ret (by simp [results, Tryz.results17, go_sem, *]; try rfl) rfl ?_
  exact ⟨rfl, bw⟩
theorem fnd_same {bs : List Int} {k m : Nat} (hm : m = bs.length - 4 - k) : decide (partZ bs k ++ endZ bs k = bs) = fndZ bs k := by
 unfold fndZ
 rw [decide_eq_decide]
 have e : partZ bs k = bs.take m := by unfold partZ; rw [← hm]
 rw [← hm, e]
 constructor
 ·
  intro h
  have h2 : bs.take m ++ endZ bs k = bs.take m ++ bs.drop m := by rw [h, List.take_append_drop]
  exact (List.append_cancel_left h2).symm
 ·
  intro h
  rw [← h, List.take_append_drop]
def errF (f : Bool) : Int := if f = true then 3 else 14
set_option maxRecDepth 100000 in
theorem rdecode_go (r : Option Addr) (c : Nat) (bs : List Int) (w : World) (hx : IsInts w r c .u8 bs) (hl : bs.length ≤ 100000) (h12 : 12 ≤ bs.length) (h4 : bs.length % 4 = 0) : Calls Tryz.prog 17 #[.slice r bs.length c] w fun e w' => ∃ q : PV, e = .returned (.tuple #[q.val, .int .i64 (decP bs).2]) ∧ IsP w' q ∧ q.p = (decP bs).1 ∧ Below w.heap.size w w' := by
 have hne : bs ≠ [] := fun e => by rw [e] at h12; simp at h12
 obtain ⟨bX, off, rfl, hbX, _⟩ := hx.cells hne
 have hcap := hx.le
 have hmax := hx.max
 unfold maxLen at hmax
 have HX := H! hx
 have HD : Hid (decP bs = decF bs 4 false) := H! (by unfold decP; rw [if_neg (by omega)])
 have HBY : Hid (ByteL bs) := H! (fun x h => wf_u8 (hx.wf x h))
 have i1 : ¬ (bs.length : Int) < 12 := by omega
 have i2 : (bs.length : Int) % 4 = 0 := by omega
 clear hx hne h4
 generalize decP bs = D at *
 obtain ⟨n, hn⟩ : ∃ n, n = bs.length := ⟨_, rfl⟩
 have HN := H! hn
 rw [← hn] at i1 i2 hl h12 hcap ⊢
 clear hn
 have e4 : IntKind.i64.wrap ((n : Int) - 4) = ((n - 4 : Nat) : Int) := by rw [IntWalk.i64_in _ (by omega)]; omega
 have e7 : IntKind.i64.wrap ((n : Int) - 7) = ((n - 7 : Nat) : Int) := by rw [IntWalk.i64_in _ (by omega)]; omega
 obtain ⟨n4, hn4⟩ : ∃ q, q = n - 4 := ⟨_, rfl⟩
 obtain ⟨n7, hn7⟩ : ∃ q, q = n - 7 := ⟨_, rfl⟩
 rw [← hn4] at e4
 rw [← hn7] at e7
 have HN4 := H! hn4
 have HN7 := H! hn7
 clear hn4 hn7
 go_enter Tryz.func17, Tryz.ntmps17
 go_wp2
 have AR1 : AtV (w.alloc (.cells #[.slice none 0 0, .slice none 0 0, .slice none 0 0, .slice none 0 0, .int .i64 0, .slice none 0 0, .slice none 0 0, .slice none 0 0, .slice none 0 0] 28)) w.heap.size [.slice none 0 0, .slice none 0 0, .slice none 0 0, .slice none 0 0, .int .i64 0, .slice none 0 0, .slice none 0 0, .slice none 0 0, .slice none 0 0] := AtV.new w [.slice none 0 0, .slice none 0 0, .slice none 0 0, .slice none 0 0, .int .i64 0, .slice none 0 0, .slice none 0 0, .slice none 0 0, .slice none 0 0] 28
 have hbw1 : Below w.heap.size w (w.alloc (.cells #[.slice none 0 0, .slice none 0 0, .slice none 0 0, .slice none 0 0, .int .i64 0, .slice none 0 0, .slice none 0 0, .slice none 0 0, .slice none 0 0] 28)) := bw
 have hz1 : w.heap.size < (w.alloc (.cells #[.slice none 0 0, .slice none 0 0, .slice none 0 0, .slice none 0 0, .int .i64 0, .slice none 0 0, .slice none 0 0, .slice none 0 0, .slice none 0 0] 28)).heap.size := by rw [zA]; omega
 generalize w.alloc (.cells #[.slice none 0 0, .slice none 0 0, .slice none 0 0, .slice none 0 0, .int .i64 0, .slice none 0 0, .slice none 0 0, .slice none 0 0, .slice none 0 0] 28) = W1 at *
 have HA1 := H! AR1
 clear AR1
 go_loopg [4, 5] 4 (fun kx s4 s5 wr => ∃ (k m : Nat) (f : Bool), s4 = .int .i64 (errF f) ∧ s5 = .int .i64 m ∧ k ≤ 4 ∧ 4 - k ≤ kx ∧ Below W1.heap.size W1 wr ∧ Hid (D = decF bs (4 - k) f) ∧ Hid (m + 4 + k = n))
 case atStart => exact ⟨0, n4, false, rfl, rfl, by omega, by omega, Below.refl _ _, HD, H! (by have := HN4.out; omega)⟩
 case round =>
  clear HD
  obtain ⟨k, m, f, rfl, rfl, hk, hkx, hbr, HD, HM⟩ := hrel
  have hbrs := hbr.size
  have hBW : Below w.heap.size w wr := hbw1.trans (hbr.mono (by omega))
  by_cases hlt : k < 4
  ·
   have HD2 : Hid (D = if hitZ bs k = true then ((prgZ bs k).1, 0) else decF bs (4 - (k + 1)) (f || fndZ bs k)) := H! (by rw [HD.out, decF_step hlt])
   clear HD
   have hmn := HM.out
   have hpl : m = (partZ bs k).length := by unfold partZ; rw [List.length_take, ← HN.out]; omega
   have hpe : partZ bs k = bs.take m := by unfold partZ; rw [← HN.out, show n - 4 - k = m by omega]
   have hge : (n7 : Int) ≤ (m : Int) := by have := HN7.out; omega
   have hs0 := (sumB_u32 (partZ bs k)).1
   have hs1 := (sumB_u32 (partZ bs k)).2
   have HPI : Hid (IsInts w (some ⟨bX, off, none⟩) c .u8 (partZ bs k)) := H! (by rw [hpe]; exact HX.out.take m)
   have HSUM : Hid (∀ W, Below w.heap.size w W → Calls Tryz.prog 40 #[.slice (some ⟨bX, off, none⟩) (partZ bs k).length c] W fun e w' => e = .returned (.int .u32 (sumB (partZ bs k))) ∧ Below W.heap.size W w') := H! (fun W h => rsum_any (some ⟨bX, off, none⟩) c (partZ bs k) W (HPI.out.later h))
   have HSAME : Hid (∀ W base r3 c3, Below w.heap.size w W → OwnK .u8 5 W base r3 c3 (partZ bs k ++ endZ bs k) → Calls Tryz.prog 36 #[.slice r3 (partZ bs k ++ endZ bs k).length c3, .slice (some ⟨bX, off, none⟩) n c] W fun e w' => e = .returned (.bool (fndZ bs k)) ∧ Below W.heap.size W w') := H! (fun W base r3 c3 h ho => by
    have hby : ByteL (endZ bs k) := by
     unfold endZ
     refine bytes_append (b4_byte (sumB_u32 _)) (fun x hx => ?_)
     have := (List.mem_replicate.1 hx).2
     omega
    have hbp : ByteL (partZ bs k) := fun x hx => wf_u8 (HPI.out.wf x hx)
    have := rsm_any r3 (some ⟨bX, off, none⟩) c3 c (partZ bs k ++ endZ bs k) bs W (ints_b ho (bytes_append hbp hby)) (HX.out.later h)
    rw [← HN.out] at this
    rwa [fnd_same (m := m) (by rw [← HN.out]; omega)] at this)
   have HEN : Hid (endZ bs k = b4 (sumB (partZ bs k)) ++ List.replicate k 0) := H! rfl
   have HHIT : Hid (hitZ bs k = (fndZ bs k && (decide ((prgZ bs k).2 = some []) && (okP (prgZ bs k).1 && decide (sealL (prgZ bs k).1.body = bs))))) := H! rfl
   have HPR : Hid (∀ W, Below w.heap.size w W → Calls Tryz.prog 41 #[.slice (some ⟨bX, off, none⟩) (partZ bs k).length c] W fun e w' => ∃ (q : PV) (ok : Bool), e = .returned (.tuple #[q.val, .bool ok]) ∧ (∀ W', KeepA W.heap.size w' W' → IsP W' q) ∧ (ok = true → prgZ bs k = (q.p, some []) ∧ okP q.p = true) ∧ (ok = false → (prgZ bs k).2 = some [] → okP (prgZ bs k).1 = false) ∧ Below W.heap.size W w') := H! (fun W h => by
    refine (rprogr_any (some ⟨bX, off, none⟩) c (partZ bs k) W (HPI.out.later h) (by omega)).mono ?_
    rintro e w' ⟨q, ok, h1, h2, h3, h4⟩
    refine ⟨q, ok, h1, h2, fun ho => ?_, fun ho => ?_, h4⟩
    ·
     rw [if_pos ho] at h3; exact h3
    ·
     rw [if_neg (by rw [ho]; simp)] at h3; exact h3.2)
   have HLN : Hid (∀ t, (prgZ bs k).2 = some t → (prgZ bs k).1.body.length ≤ 100000) := H! (fun t h => Nat.le_trans (prgZ_len h) (by rw [← HN.out]; exact hl))
   clear hpe
   generalize hitZ bs k = hit at *
   generalize prgZ bs k = pg at *
   generalize sumB (partZ bs k) = sv at *
   generalize endZ bs k = en at *
   generalize fndZ bs k = F at *
   generalize partZ bs k = part at *
   subst hpl
   have j3 : (part.length : Int) ≤ c := by omega
   have j4 : (0 : Int) ≤ part.length := by omega
   have j5 : (part.length : Int) ≤ n := by omega
   have j6 : (n : Int) ≤ c := by omega
   obtain ⟨m1, hm1⟩ : ∃ q, q = part.length - 1 := ⟨_, rfl⟩
   have j1 : IntKind.i64.wrap ((part.length : Int) - 1) = (m1 : Int) := by rw [IntWalk.i64_in _ (by omega)]; omega
   have HM1 : Hid (m1 + 4 + (k + 1) = n) := H! (by omega)
   have hmn2 : part.length + 4 + k = n := hmn
   clear hm1 hmn HM
   have HMN := H! hmn2
   have t0 : True := trivial
   go_upto_region 9 with (first | (go_at_call 40; refine (HSUM.out _ hBW).mono ?_; rintro _ w2 ⟨rfl, hb2⟩; have hb2s := hb2.size; have hB2 : Below W1.heap.size W1 w2 := hbr.trans (hb2.mono (by omega)); have hB2s := hB2.size; have OW0 : Hid (OwnK .u8 5 (w2.alloc (.cells #[] 5)) W1.heap.size (some ⟨w2.heap.size, 0, none⟩) 0 []) := H! (own_built .u8 5 w2 W1.heap.size [] hB2s (by simp [maxLen])); have hB2a : Below W1.heap.size W1 (w2.alloc (.cells #[] 5)) := hB2.alloc hB2s _) | (have _t := t0; at_builtin; refine wpList_append_ks Tryz.underlying43 infoU8 rfl (by omega) (by rfl) _ _ (by rfl) W1.heap.size (some ⟨w2.heap.size, 0, none⟩) (some ⟨bX, off, none⟩) 0 c [] part (by rfl) (by rfl) OW0.out (HPI.out.later (hbw1.trans (hB2a.mono (by omega)))) (by simp only [List.length_nil]; omega) hB2a.size ?_; intro ra ca w3 howna hbwa; have HOA : Hid (OwnK .u8 5 w3 W1.heap.size ra ca part) := H! (by simpa using howna); clear howna t0 _t; have hB3 : Below W1.heap.size W1 w3 := hB2a.trans hbwa; have hB3s := hB3.size) | (at_builtin; refine wpList_append_k Tryz.underlying43 infoU8 rfl (by omega) (by rfl) _ _ (by rfl) w3 W1.heap.size ra ca part (b4 sv) 4 rfl (by omega) (by first | rfl | (rw [← b4_wrap hs0 hs1]; rfl)) (by first | rfl | simp) (by rfl) HOA.out (by omega) hB3s ?_; intro r4 c4 w4 hown4 hbw4; have HO4 := H! hown4; have hB4 : Below W1.heap.size W1 w4 := hB3.trans hbw4; clear hown4))
   obtain ⟨sm, hsm⟩ : ∃ sm, sm = part ++ b4 sv := ⟨_, rfl⟩
   have HO4' : Hid (OwnK .u8 5 w4 W1.heap.size r4 c4 sm) := H! (by rw [hsm]; exact HO4.out)
   have hlen0 : part.length + 4 = sm.length := by rw [hsm, List.length_append, b4_len]
   have HSM := H! hsm
   clear hsm
   rw [hlen0]
   have HL0 := H! hlen0
   clear hlen0
   clear HO4 HOA OW0 HPI HSUM hB2a
   have hjk3 : k ≤ 3 := by omega
   go_wp2
   go_loopg [7] 4 (fun kx s7 wi => ∃ (j : Nat) (ro : Option Addr) (co : Nat) (out : List Int), s7 = .slice ro out.length co ∧ j ≤ k ∧ k - j ≤ kx ∧ Below W1.heap.size W1 wi ∧ Hid (OwnK .u8 5 wi W1.heap.size ro co out) ∧ Hid (out = sm ++ List.replicate j 0) ∧ Hid (out.length + (k - j) = n) ∧ out.length ≤ 200000)
   case atStart => exact ⟨0, r4, c4, sm, rfl, by omega, by omega, hB4, HO4', H! (by simp), H! (by rw [← HL0.out]; omega), by rw [← HL0.out]; omega⟩
   case round =>
    clear HO4'
    obtain ⟨j, ro, co, out, rfl, hj, hjx, hbi, HOi, HQ, HLi, hol⟩ := hrel
    have hbis := hbi.size
    by_cases hjl : j < k
    ·
     have hcmp : (out.length : Int) < n := by have := HLi.out; omega
     go_wp2_with (at_builtin; refine wpList_append_k Tryz.underlying43 infoU8 rfl (by omega) (by rfl) _ _ (by rfl) wr W1.heap.size ro co out [0] 1 rfl (by omega) (by rfl) (by rfl) (by rfl) HOi.out (by omega) hbis ?_; intro r5 c5 w5 hown5 hbw5; have HO5 := H! hown5; clear hown5)
     go_roundg (k - (j + 1))
     case measure => omega
     case rel => exact ⟨j + 1, r5, c5, out ++ [0], by simp, by omega, by omega, hbi.trans hbw5, HO5, H! (by rw [HQ.out, List.append_assoc, List.replicate_succ']), H! (by have := HLi.out; rw [List.length_append, List.length_singleton]; omega), by have := HLi.out; rw [List.length_append, List.length_singleton]; omega⟩
    ·
     obtain rfl : j = k := by omega
     have hcmp : ¬ (out.length : Int) < n := by have := HLi.out; omega
     have hout : out = part ++ en := by rw [HQ.out, HSM.out, HEN.out, List.append_assoc]
     have HSM2 : Hid (∀ W, Below w.heap.size w W → OwnK .u8 5 W W1.heap.size ro co out → Calls Tryz.prog 36 #[.slice ro out.length co, .slice (some ⟨bX, off, none⟩) n c] W fun e w' => e = .returned (.bool F) ∧ Below W.heap.size W w') := H! (fun W h ho => by rw [hout] at ho ⊢; exact HSAME.out W _ ro co h ho)
     clear hout HSAME
     have hBi : Below w.heap.size w wr := hbw1.trans (hbi.mono (by omega))
     clear HQ HLi
     cases F
     ·
      go_wp2_with (go_at_call 36; refine (HSM2.out _ hBi HOi.out).mono ?_; rintro _ w6 ⟨rfl, hb6⟩)
      go_roundg (4 - (j + 1))
      case measure => omega
      case rel => exact ⟨j + 1, m1, f, rfl, rfl, by omega, by omega, hbi.trans (hb6.mono (by omega)), H! (by rw [HD2.out, HHIT.out]; simp), HM1⟩
     ·
      have HMISS : Hid (hit = false → D = decF bs (4 - (j + 1)) true) := H! (fun h => by rw [HD2.out, h]; simp)
      have HGOT : Hid (hit = true → D = (pg.1, 0)) := H! (fun h => by rw [HD2.out, h]; simp)
      clear HD2
      go_upto_region 14 with (first | (go_at_call 36; refine (HSM2.out _ hBi HOi.out).mono ?_; rintro _ w6 ⟨rfl, hb6⟩; have hb6s := hb6.size; have hB6 : Below w.heap.size w w6 := hBi.trans (hb6.mono (by omega))) | (go_at_call 41; refine (HPR.out _ hB6).mono ?_; rintro _ w7 ⟨⟨rc, cc, code, rt, ct, tZ, rv, cv, vZ, rm, cm, maps, lZ, ri, ci, nZ, rs, cs, sZ, ro, co, oZ, rn, cn, iZ⟩, ok, rfl, hp7, ho7, hf7, hb7⟩; simp only [PV.val]; have HP7 := H! hp7; have HG7 := H! ho7; have HF7 := H! hf7; have hb7s := hb7.size; clear hp7 ho7 hf7))
      have hB7 : Below w.heap.size w w7 := hB6.trans (hb7.mono hB6.size)
      have hb17 : Below W1.heap.size W1 w7 := (hbi.trans (hb6.mono (by omega))).trans (hb7.mono (by omega))
      have AT := AtV.new w7 [.slice rc code.length cc, .slice rt tZ.length ct, .slice rv vZ.length cv, .slice rm maps.length cm, .int .i64 lZ, .slice ri nZ.length ci, .slice rs sZ.length cs, .slice ro oZ.length co, .slice rn iZ.length cn] 28
      have hb78 : Below w7.heap.size w7 (w7.alloc (.cells #[.slice rc code.length cc, .slice rt tZ.length ct, .slice rv vZ.length cv, .slice rm maps.length cm, .int .i64 lZ, .slice ri nZ.length ci, .slice rs sZ.length cs, .slice ro oZ.length co, .slice rn iZ.length cn] 28)) := (Below.refl _ _).alloc (Nat.le_refl _) _
      have hz8 : w7.heap.size < (w7.alloc (.cells #[.slice rc code.length cc, .slice rt tZ.length ct, .slice rv vZ.length cv, .slice rm maps.length cm, .int .i64 lZ, .slice ri nZ.length ci, .slice rs sZ.length cs, .slice ro oZ.length co, .slice rn iZ.length cn] 28)).heap.size := by rw [zA]; omega
      change AtV (w7.alloc (.cells #[.slice rc code.length cc, .slice rt tZ.length ct, .slice rv vZ.length cv, .slice rm maps.length cm, .int .i64 lZ, .slice ri nZ.length ci, .slice rs sZ.length cs, .slice ro oZ.length co, .slice rn iZ.length cn] 28)) _ _ at AT
      generalize w7.alloc (.cells #[.slice rc code.length cc, .slice rt tZ.length ct, .slice rv vZ.length cv, .slice rm maps.length cm, .int .i64 lZ, .slice ri nZ.length ci, .slice rs sZ.length cs, .slice ro oZ.length co, .slice rn iZ.length cn] 28) = w8 at *
      have HPA : Hid (∀ W', KeepA w6.heap.size w8 W' → IsP W' (⟨rc, cc, code, rt, ct, tZ, rv, cv, vZ, rm, cm, maps, lZ, ri, ci, nZ, rs, cs, sZ, ro, co, oZ, rn, cn, iZ⟩ : PV)) := H! (fun W' hW => HP7.out W' ((⟨hb78.size, fun q _ h => hb78.block q h⟩ : KeepA w6.heap.size w7 w8).trans hW))
      have hb18 : Below W1.heap.size W1 w8 := hb17.trans (hb78.mono (by omega))
      have hB8 : Below w.heap.size w w8 := hB7.trans (hb78.mono hB7.size)
      generalize w7.heap.size = P at *
      have p0c := (AT 0 _ rfl).1; have p1c := (AT 1 _ rfl).1; have p2c := (AT 2 _ rfl).1; have p3c := (AT 3 _ rfl).1; have p4c := (AT 4 _ rfl).1; have p5c := (AT 5 _ rfl).1; have p6c := (AT 6 _ rfl).1; have p7c := (AT 7 _ rfl).1; have p8c := (AT 8 _ rfl).1
      have HAT := H! AT
      have hRle : w.heap.size ≤ w6.heap.size := hB6.size
      have hrel8 : ∀ W, Below w8.heap.size w8 W → Below W1.heap.size W1 W := fun W h => hb18.trans (h.mono (by omega))
      clear AT HP7 HPR HSM2 HOi
      cases ok
      ·
       have HD3 := H! (HMISS.out (by
        rw [HHIT.out]
        by_cases hs : pg.2 = some []
        ·
         rw [HF7.out rfl hs]; simp
        ·
         simp [hs]))
       go_wp2
       go_roundg (4 - (j + 1))
       case measure => omega
       case rel => exact ⟨j + 1, m1, true, rfl, rfl, by omega, by omega, hb18, HD3, HM1⟩
      ·
       obtain ⟨g1, g2⟩ := HG7.out rfl
       have hqp : (⟨rc, cc, code, rt, ct, tZ, rv, cv, vZ, rm, cm, maps, lZ, ri, ci, nZ, rs, cs, sZ, ro, co, oZ, rn, cn, iZ⟩ : PV).p = pg.1 := by rw [g1]
       have hps : pg.2 = some [] := by rw [g1]
       have hlen := HLN.out [] hps
       rw [← hqp] at hlen
       have HE : Hid (∀ W, Below w8.heap.size w8 W → _) := H! (fun W (h : Below w8.heap.size w8 W) => rencode_any (⟨rc, cc, code, rt, ct, tZ, rv, cv, vZ, rm, cm, maps, lZ, ri, ci, nZ, rs, cs, sZ, ro, co, oZ, rn, cn, iZ⟩ : PV) W (HPA.out W ⟨h.size, fun q _ hq => h.block q hq⟩) (by omega))
       have HBYS := H! (sealL_byte (body_byte (⟨rc, cc, code, rt, ct, tZ, rv, cv, vZ, rm, cm, maps, lZ, ri, ci, nZ, rs, cs, sZ, ro, co, oZ, rn, cn, iZ⟩ : PV).p))
       rw [hqp] at HE HBYS g2
       simp only [PV.val] at HE
       obtain ⟨G, hG⟩ : ∃ G, G = decide (sealL pg.1.body = bs) := ⟨_, rfl⟩
       have HEQ2 : Hid (∀ W base r7 c7, Below w.heap.size w W → OwnK .u8 5 W base r7 c7 (sealL pg.1.body) → Calls Tryz.prog 36 #[.slice r7 (sealL pg.1.body).length c7, .slice (some ⟨bX, off, none⟩) n c] W fun e w' => e = .returned (.bool G) ∧ Below W.heap.size W w') := H! (fun W base r7 c7 h ho => by
        have := rsm_any r7 (some ⟨bX, off, none⟩) c7 c (sealL pg.1.body) bs W (ints_b ho HBYS.out) (HX.out.later h)
        rw [← HN.out] at this
        rwa [hG])
       have HHIT3 : Hid (hit = G) := H! (by rw [HHIT.out, hps, g2, hG]; simp)
       have HQP := H! hqp
       clear hG HBYS HHIT g1 g2 hps hqp hlen HG7 HF7 HLN
       generalize sealL pg.1.body = sl at *
       cases G
       ·
        have HD3 := H! (HMISS.out HHIT3.out)
        go_wp2_with (first | (go_at_call 42; refine (HE.out _ (Below.refl _ _)).mono ?_; rintro _ w9 ⟨r9, c9, rfl, ho9, hb9⟩; have HO9 := H! ho9; clear ho9; have hb9s := hb9.size; have hB9 : Below w.heap.size w w9 := hB8.trans (hb9.mono hB8.size)) | (go_at_call 36; refine (HEQ2.out _ _ _ _ hB9 HO9.out).mono ?_; rintro _ w10 ⟨rfl, hb10⟩))
        go_roundg (4 - (j + 1))
        case measure => omega
        case rel => exact ⟨j + 1, m1, true, rfl, rfl, by omega, by omega, hrel8 _ (hb9.trans (hb10.mono (by omega))), HD3, HM1⟩
       ·
        have HD3 := H! (HGOT.out HHIT3.out)
        go_upto_region 15 with (first | (go_at_call 42; refine (HE.out _ (Below.refl _ _)).mono ?_; rintro _ w9 ⟨r9, c9, rfl, ho9, hb9⟩; have HO9 := H! ho9; clear ho9; have hb9s := hb9.size; have hB9 : Below w.heap.size w w9 := hB8.trans (hb9.mono hB8.size)) | (go_at_call 36; refine (HEQ2.out _ _ _ _ hB9 HO9.out).mono ?_; rintro _ w10 ⟨rfl, hb10⟩; have hb10s := hb10.size; have hb810 : Below w8.heap.size w8 w10 := hb9.trans (hb10.mono (by omega)); have AT8 := HAT.out.keep (hb810.block P hz8); have AR8 := HA1.out.keep ((hrel8 _ hb810).block w.heap.size hz1); have s0c := (AT8 0 _ rfl).1; have s1c := (AT8 1 _ rfl).1; have s2c := (AT8 2 _ rfl).1; have s3c := (AT8 3 _ rfl).1; have s4c := (AT8 4 _ rfl).1; have s5c := (AT8 5 _ rfl).1; have s6c := (AT8 6 _ rfl).1; have s7c := (AT8 7 _ rfl).1; have s8c := (AT8 8 _ rfl).1; have z0c := (AR8 0 _ rfl).1; have z0f := (AR8 0 _ rfl).2; have z1c := (AR8 1 _ rfl).1; have z1f := (AR8 1 _ rfl).2; have z2c := (AR8 2 _ rfl).1; have z2f := (AR8 2 _ rfl).2; have z3c := (AR8 3 _ rfl).1; have z3f := (AR8 3 _ rfl).2; have z4c := (AR8 4 _ rfl).1; have z4f := (AR8 4 _ rfl).2; have z5c := (AR8 5 _ rfl).1; have z5f := (AR8 5 _ rfl).2; have z6c := (AR8 6 _ rfl).1; have z6f := (AR8 6 _ rfl).2; have z7c := (AR8 7 _ rfl).1; have z7f := (AR8 7 _ rfl).2; have z8c := (AR8 8 _ rfl).1; have z8f := (AR8 8 _ rfl).2; clear AT8 AR8; have hB10 : Below w.heap.size w w10 := hB9.trans (hb10.mono (by omega)); have HKP : Hid (KeepA w6.heap.size w8 w10) := H! ⟨by omega, fun q _ hq => hb810.block q hq⟩; have hPw8 : P < w10.heap.size := (by omega); have hRw8 : w.heap.size < w10.heap.size := (by omega); have hRP : ¬ w.heap.size = P := (by omega); have hPR : ¬ P = w.heap.size := (by omega)))
        go_wp2
        refine bodyPost_ret (by simp [results, Tryz.results17, go_sem, *]; try rfl) rfl ?_
        rw [HD3.out]
        exact ⟨(⟨rc, cc, code, rt, ct, tZ, rv, cv, vZ, rm, cm, maps, lZ, ri, ci, nZ, rs, cs, sZ, ro, co, oZ, rn, cn, iZ⟩ : PV), rfl, HPA.out _ ((((((((((HKP.out).trans (KeepA.set _ hRle 0 _)).trans (KeepA.set _ hRle 1 _)).trans (KeepA.set _ hRle 2 _)).trans (KeepA.set _ hRle 3 _)).trans (KeepA.set _ hRle 4 _)).trans (KeepA.set _ hRle 5 _)).trans (KeepA.set _ hRle 6 _)).trans (KeepA.set _ hRle 7 _)).trans (KeepA.set _ hRle 8 _)), HQP.out, (((((((((hB10).setCell (p := ⟨w.heap.size, 0, none⟩) (Nat.le_refl _) _).setCell (p := ⟨w.heap.size, 1, none⟩) (Nat.le_refl _) _).setCell (p := ⟨w.heap.size, 2, none⟩) (Nat.le_refl _) _).setCell (p := ⟨w.heap.size, 3, none⟩) (Nat.le_refl _) _).setCell (p := ⟨w.heap.size, 4, none⟩) (Nat.le_refl _) _).setCell (p := ⟨w.heap.size, 5, none⟩) (Nat.le_refl _) _).setCell (p := ⟨w.heap.size, 6, none⟩) (Nat.le_refl _) _).setCell (p := ⟨w.heap.size, 7, none⟩) (Nat.le_refl _) _).setCell (p := ⟨w.heap.size, 8, none⟩) (Nat.le_refl _) _⟩
  ·
   obtain rfl : k = 4 := by omega
   have ARr := HA1.out.keep (hbr.block w.heap.size hz1)
   have z0c := (ARr 0 _ rfl).1; have z0f := (ARr 0 _ rfl).2; have z1c := (ARr 1 _ rfl).1; have z1f := (ARr 1 _ rfl).2; have z2c := (ARr 2 _ rfl).1; have z2f := (ARr 2 _ rfl).2; have z3c := (ARr 3 _ rfl).1; have z3f := (ARr 3 _ rfl).2; have z4c := (ARr 4 _ rfl).1; have z4f := (ARr 4 _ rfl).2; have z5c := (ARr 5 _ rfl).1; have z5f := (ARr 5 _ rfl).2; have z6c := (ARr 6 _ rfl).1; have z6f := (ARr 6 _ rfl).2; have z7c := (ARr 7 _ rfl).1; have z7f := (ARr 7 _ rfl).2; have z8c := (ARr 8 _ rfl).1; have z8f := (ARr 8 _ rfl).2
   clear ARr
   have hRw : w.heap.size < wr.heap.size := by omega
   have hge : ¬ (n7 : Int) ≤ (m : Int) := by have := HN7.out; have := HM.out; omega
   have HDE : Hid (D = (pp0, errF f)) := H! (by rw [HD.out]; rfl)
   clear HD
   generalize errF f = ev at *
   go_wp2
   refine bodyPost_ret (by simp [results, Tryz.results17, go_sem, *]; try rfl) rfl ?_
   rw [HDE.out]
   exact ⟨pv0, rfl, isP0 _, rfl, (((((((((hBW).setCell (p := ⟨w.heap.size, 0, none⟩) (Nat.le_refl _) _).setCell (p := ⟨w.heap.size, 1, none⟩) (Nat.le_refl _) _).setCell (p := ⟨w.heap.size, 2, none⟩) (Nat.le_refl _) _).setCell (p := ⟨w.heap.size, 3, none⟩) (Nat.le_refl _) _).setCell (p := ⟨w.heap.size, 4, none⟩) (Nat.le_refl _) _).setCell (p := ⟨w.heap.size, 5, none⟩) (Nat.le_refl _) _).setCell (p := ⟨w.heap.size, 6, none⟩) (Nat.le_refl _) _).setCell (p := ⟨w.heap.size, 7, none⟩) (Nat.le_refl _) _).setCell (p := ⟨w.heap.size, 8, none⟩) (Nat.le_refl _) _⟩
theorem rdecode_any (r : Option Addr) (c : Nat) (bs : List Int) (w : World) (hx : IsInts w r c .u8 bs) (hl : bs.length ≤ 100000) : Calls Tryz.prog 17 #[.slice r bs.length c] w fun e w' => ∃ q : PV, e = .returned (.tuple #[q.val, .int .i64 (decP bs).2]) ∧ IsP w' q ∧ q.p = (decP bs).1 ∧ Below w.heap.size w w' := by
 by_cases h : bs.length < 12 ∨ bs.length % 4 ≠ 0
 ·
  refine (rdecode_len r c bs w hl h).mono ?_
  rintro e w' ⟨rfl, hb⟩
  have e : decP bs = (pp0, 3) := by unfold decP; rw [if_pos h]
  rw [e]
  exact ⟨pv0, rfl, isP0 _, rfl, hb⟩
 ·
  exact rdecode_go r c bs w hx hl (by omega) (by omega)
theorem IsInts.len {W : World} {r : Option Addr} {c : Nat} {k : IntKind} {xs : List Int} (h : IsInts W r c k xs) : xs.length ≤ 9223372036854775807 := by have := h.le; have := h.max; unfold maxLen at this; omega
theorem dec_len {bs : List Int} (hl : bs.length ≤ 100010) : (decP bs).1.body.length ≤ 10000000000 := by
 by_cases h : (decP bs).2 = 0
 ·
  have e := (dec_ok h).2
  have := sealL_len (decP bs).1.body
  rw [e] at this
  omega
 ·
  rw [dec_no h]
  have : pp0.body.length = 72 := rfl
  omega
theorem same_next {W v v' : World} {A B : Nat} {v0 v1 v2 v3 v4 v5 v6 v7 v8 v9 v10 v11 v12 v13 v14 v15 v16 v17 : Value} (hA : A < W.heap.size) (hB : B < W.heap.size) (h : Below W.heap.size W v ∧ v.cell? ⟨A, 0, none⟩ = some (v0) ∧ v.cell? ⟨A, 1, none⟩ = some (v1) ∧ v.cell? ⟨A, 2, none⟩ = some (v2) ∧ v.cell? ⟨A, 3, none⟩ = some (v3) ∧ v.cell? ⟨A, 4, none⟩ = some (v4) ∧ v.cell? ⟨A, 5, none⟩ = some (v5) ∧ v.cell? ⟨A, 6, none⟩ = some (v6) ∧ v.cell? ⟨A, 7, none⟩ = some (v7) ∧ v.cell? ⟨A, 8, none⟩ = some (v8) ∧ v.cell? ⟨B, 0, none⟩ = some (v9) ∧ v.cell? ⟨B, 1, none⟩ = some (v10) ∧ v.cell? ⟨B, 2, none⟩ = some (v11) ∧ v.cell? ⟨B, 3, none⟩ = some (v12) ∧ v.cell? ⟨B, 4, none⟩ = some (v13) ∧ v.cell? ⟨B, 5, none⟩ = some (v14) ∧ v.cell? ⟨B, 6, none⟩ = some (v15) ∧ v.cell? ⟨B, 7, none⟩ = some (v16) ∧ v.cell? ⟨B, 8, none⟩ = some (v17)) (hv : Below v.heap.size v v') : Below W.heap.size W v' ∧ v'.cell? ⟨A, 0, none⟩ = some (v0) ∧ v'.cell? ⟨A, 1, none⟩ = some (v1) ∧ v'.cell? ⟨A, 2, none⟩ = some (v2) ∧ v'.cell? ⟨A, 3, none⟩ = some (v3) ∧ v'.cell? ⟨A, 4, none⟩ = some (v4) ∧ v'.cell? ⟨A, 5, none⟩ = some (v5) ∧ v'.cell? ⟨A, 6, none⟩ = some (v6) ∧ v'.cell? ⟨A, 7, none⟩ = some (v7) ∧ v'.cell? ⟨A, 8, none⟩ = some (v8) ∧ v'.cell? ⟨B, 0, none⟩ = some (v9) ∧ v'.cell? ⟨B, 1, none⟩ = some (v10) ∧ v'.cell? ⟨B, 2, none⟩ = some (v11) ∧ v'.cell? ⟨B, 3, none⟩ = some (v12) ∧ v'.cell? ⟨B, 4, none⟩ = some (v13) ∧ v'.cell? ⟨B, 5, none⟩ = some (v14) ∧ v'.cell? ⟨B, 6, none⟩ = some (v15) ∧ v'.cell? ⟨B, 7, none⟩ = some (v16) ∧ v'.cell? ⟨B, 8, none⟩ = some (v17) := by
 obtain ⟨h0, h1, h2, h3, h4, h5, h6, h7, h8, h9, h10, h11, h12, h13, h14, h15, h16, h17, h18⟩ := h
 have hz := h0.size
 exact ⟨h0.trans (hv.mono hz), (hv.cell (p := ⟨A, 0, none⟩) (Nat.lt_of_lt_of_le hA hz)).trans h1, (hv.cell (p := ⟨A, 1, none⟩) (Nat.lt_of_lt_of_le hA hz)).trans h2, (hv.cell (p := ⟨A, 2, none⟩) (Nat.lt_of_lt_of_le hA hz)).trans h3, (hv.cell (p := ⟨A, 3, none⟩) (Nat.lt_of_lt_of_le hA hz)).trans h4, (hv.cell (p := ⟨A, 4, none⟩) (Nat.lt_of_lt_of_le hA hz)).trans h5, (hv.cell (p := ⟨A, 5, none⟩) (Nat.lt_of_lt_of_le hA hz)).trans h6, (hv.cell (p := ⟨A, 6, none⟩) (Nat.lt_of_lt_of_le hA hz)).trans h7, (hv.cell (p := ⟨A, 7, none⟩) (Nat.lt_of_lt_of_le hA hz)).trans h8, (hv.cell (p := ⟨A, 8, none⟩) (Nat.lt_of_lt_of_le hA hz)).trans h9, (hv.cell (p := ⟨B, 0, none⟩) (Nat.lt_of_lt_of_le hB hz)).trans h10, (hv.cell (p := ⟨B, 1, none⟩) (Nat.lt_of_lt_of_le hB hz)).trans h11, (hv.cell (p := ⟨B, 2, none⟩) (Nat.lt_of_lt_of_le hB hz)).trans h12, (hv.cell (p := ⟨B, 3, none⟩) (Nat.lt_of_lt_of_le hB hz)).trans h13, (hv.cell (p := ⟨B, 4, none⟩) (Nat.lt_of_lt_of_le hB hz)).trans h14, (hv.cell (p := ⟨B, 5, none⟩) (Nat.lt_of_lt_of_le hB hz)).trans h15, (hv.cell (p := ⟨B, 6, none⟩) (Nat.lt_of_lt_of_le hB hz)).trans h16, (hv.cell (p := ⟨B, 7, none⟩) (Nat.lt_of_lt_of_le hB hz)).trans h17, (hv.cell (p := ⟨B, 8, none⟩) (Nat.lt_of_lt_of_le hB hz)).trans h18⟩
set_option maxRecDepth 100000 in
theorem rsame_any (p q : PV) (w : World) (hp : IsP w p) (hq : IsP w q) (lp : p.p.body.length ≤ 10000000000) (lq : q.p.body.length ≤ 10000000000) : Calls Tryz.prog 15 #[p.val, q.val] w fun e w' => e = .returned (.bool (decide (p.p.body = q.p.body))) ∧ Below w.heap.size w w' := by
 have HBP := H! (fun W (h : Below w.heap.size w W) => rbody_any p W (hp.later h) lp)
 have HBQ := H! (fun W (h : Below w.heap.size w W) => rbody_any q W (hq.later h) lq)
 have HYP := H! (body_byte p.p)
 have HYQ := H! (body_byte q.p)
 clear hp hq
 obtain ⟨rc, cc, code, rt, ct, tZ, rv, cv, vZ, rm, cm, maps, lZ, ri, ci, nZ, rs, cs, sZ, ro, co, oZ, rn, cn, iZ⟩ := p
 obtain ⟨rc2, cc2, code2, rt2, ct2, tZ2, rv2, cv2, vZ2, rm2, cm2, maps2, lZ2, ri2, ci2, nZ2, rs2, cs2, sZ2, ro2, co2, oZ2, rn2, cn2, iZ2⟩ := q
 simp only [PV.val] at HBP HBQ ⊢
 generalize PP.body (PV.p ⟨rc, cc, code, rt, ct, tZ, rv, cv, vZ, rm, cm, maps, lZ, ri, ci, nZ, rs, cs, sZ, ro, co, oZ, rn, cn, iZ⟩) = x at *
 generalize PP.body (PV.p ⟨rc2, cc2, code2, rt2, ct2, tZ2, rv2, cv2, vZ2, rm2, cm2, maps2, lZ2, ri2, ci2, nZ2, rs2, cs2, sZ2, ro2, co2, oZ2, rn2, cn2, iZ2⟩) = y at *
 go_enter Tryz.func15, Tryz.ntmps15
 go_wp2
 have hB0 : Below w.heap.size w ((w.alloc (.cells #[.slice rc code.length cc, .slice rt tZ.length ct, .slice rv vZ.length cv, .slice rm maps.length cm, .int .i64 lZ, .slice ri nZ.length ci, .slice rs sZ.length cs, .slice ro oZ.length co, .slice rn iZ.length cn] 28)).alloc (.cells #[.slice rc2 code2.length cc2, .slice rt2 tZ2.length ct2, .slice rv2 vZ2.length cv2, .slice rm2 maps2.length cm2, .int .i64 lZ2, .slice ri2 nZ2.length ci2, .slice rs2 sZ2.length cs2, .slice ro2 oZ2.length co2, .slice rn2 iZ2.length cn2] 28)) := bw
 have hz : ((w.alloc (.cells #[.slice rc code.length cc, .slice rt tZ.length ct, .slice rv vZ.length cv, .slice rm maps.length cm, .int .i64 lZ, .slice ri nZ.length ci, .slice rs sZ.length cs, .slice ro oZ.length co, .slice rn iZ.length cn] 28)).alloc (.cells #[.slice rc2 code2.length cc2, .slice rt2 tZ2.length ct2, .slice rv2 vZ2.length cv2, .slice rm2 maps2.length cm2, .int .i64 lZ2, .slice ri2 nZ2.length ci2, .slice rs2 sZ2.length cs2, .slice ro2 oZ2.length co2, .slice rn2 iZ2.length cn2] 28)).heap.size = w.heap.size + 2 := by simp only [zA]
 have AP : AtV ((w.alloc (.cells #[.slice rc code.length cc, .slice rt tZ.length ct, .slice rv vZ.length cv, .slice rm maps.length cm, .int .i64 lZ, .slice ri nZ.length ci, .slice rs sZ.length cs, .slice ro oZ.length co, .slice rn iZ.length cn] 28)).alloc (.cells #[.slice rc2 code2.length cc2, .slice rt2 tZ2.length ct2, .slice rv2 vZ2.length cv2, .slice rm2 maps2.length cm2, .int .i64 lZ2, .slice ri2 nZ2.length ci2, .slice rs2 sZ2.length cs2, .slice ro2 oZ2.length co2, .slice rn2 iZ2.length cn2] 28)) w.heap.size [.slice rc code.length cc, .slice rt tZ.length ct, .slice rv vZ.length cv, .slice rm maps.length cm, .int .i64 lZ, .slice ri nZ.length ci, .slice rs sZ.length cs, .slice ro oZ.length co, .slice rn iZ.length cn] := (AtV.new w [.slice rc code.length cc, .slice rt tZ.length ct, .slice rv vZ.length cv, .slice rm maps.length cm, .int .i64 lZ, .slice ri nZ.length ci, .slice rs sZ.length cs, .slice ro oZ.length co, .slice rn iZ.length cn] 28).keep (Below.heap_alloc _ _ _ (by rw [zA]; omega))
 have AQ : AtV ((w.alloc (.cells #[.slice rc code.length cc, .slice rt tZ.length ct, .slice rv vZ.length cv, .slice rm maps.length cm, .int .i64 lZ, .slice ri nZ.length ci, .slice rs sZ.length cs, .slice ro oZ.length co, .slice rn iZ.length cn] 28)).alloc (.cells #[.slice rc2 code2.length cc2, .slice rt2 tZ2.length ct2, .slice rv2 vZ2.length cv2, .slice rm2 maps2.length cm2, .int .i64 lZ2, .slice ri2 nZ2.length ci2, .slice rs2 sZ2.length cs2, .slice ro2 oZ2.length co2, .slice rn2 iZ2.length cn2] 28)) (w.heap.size + 1) [.slice rc2 code2.length cc2, .slice rt2 tZ2.length ct2, .slice rv2 vZ2.length cv2, .slice rm2 maps2.length cm2, .int .i64 lZ2, .slice ri2 nZ2.length ci2, .slice rs2 sZ2.length cs2, .slice ro2 oZ2.length co2, .slice rn2 iZ2.length cn2] := by
  have := AtV.new (w.alloc (.cells #[.slice rc code.length cc, .slice rt tZ.length ct, .slice rv vZ.length cv, .slice rm maps.length cm, .int .i64 lZ, .slice ri nZ.length ci, .slice rs sZ.length cs, .slice ro oZ.length co, .slice rn iZ.length cn] 28)) [.slice rc2 code2.length cc2, .slice rt2 tZ2.length ct2, .slice rv2 vZ2.length cv2, .slice rm2 maps2.length cm2, .int .i64 lZ2, .slice ri2 nZ2.length ci2, .slice rs2 sZ2.length cs2, .slice ro2 oZ2.length co2, .slice rn2 iZ2.length cn2] 28
  rwa [zA] at this
 generalize (w.alloc (.cells #[.slice rc code.length cc, .slice rt tZ.length ct, .slice rv vZ.length cv, .slice rm maps.length cm, .int .i64 lZ, .slice ri nZ.length ci, .slice rs sZ.length cs, .slice ro oZ.length co, .slice rn iZ.length cn] 28)).alloc (.cells #[.slice rc2 code2.length cc2, .slice rt2 tZ2.length ct2, .slice rv2 vZ2.length cv2, .slice rm2 maps2.length cm2, .int .i64 lZ2, .slice ri2 nZ2.length ci2, .slice rs2 sZ2.length cs2, .slice ro2 oZ2.length co2, .slice rn2 iZ2.length cn2] 28) = W2 at *
 have hA : w.heap.size < W2.heap.size := by omega
 have hB : w.heap.size + 1 < W2.heap.size := by omega
 have p0c := (AP 0 _ rfl).1
 have p1c := (AP 1 _ rfl).1
 have p2c := (AP 2 _ rfl).1
 have p3c := (AP 3 _ rfl).1
 have p4c := (AP 4 _ rfl).1
 have p5c := (AP 5 _ rfl).1
 have p6c := (AP 6 _ rfl).1
 have p7c := (AP 7 _ rfl).1
 have p8c := (AP 8 _ rfl).1
 have q0c := (AQ 0 _ rfl).1
 have q1c := (AQ 1 _ rfl).1
 have q2c := (AQ 2 _ rfl).1
 have q3c := (AQ 3 _ rfl).1
 have q4c := (AQ 4 _ rfl).1
 have q5c := (AQ 5 _ rfl).1
 have q6c := (AQ 6 _ rfl).1
 have q7c := (AQ 7 _ rfl).1
 have q8c := (AQ 8 _ rfl).1
 clear AP AQ hz
 go_region_held3 (fun w' => Below W2.heap.size W2 w' ∧ w'.cell? ⟨w.heap.size, 0, none⟩ = some (.slice rc code.length cc) ∧ w'.cell? ⟨w.heap.size, 1, none⟩ = some (.slice rt tZ.length ct) ∧ w'.cell? ⟨w.heap.size, 2, none⟩ = some (.slice rv vZ.length cv) ∧ w'.cell? ⟨w.heap.size, 3, none⟩ = some (.slice rm maps.length cm) ∧ w'.cell? ⟨w.heap.size, 4, none⟩ = some (.int .i64 lZ) ∧ w'.cell? ⟨w.heap.size, 5, none⟩ = some (.slice ri nZ.length ci) ∧ w'.cell? ⟨w.heap.size, 6, none⟩ = some (.slice rs sZ.length cs) ∧ w'.cell? ⟨w.heap.size, 7, none⟩ = some (.slice ro oZ.length co) ∧ w'.cell? ⟨w.heap.size, 8, none⟩ = some (.slice rn iZ.length cn) ∧ w'.cell? ⟨w.heap.size + 1, 0, none⟩ = some (.slice rc2 code2.length cc2) ∧ w'.cell? ⟨w.heap.size + 1, 1, none⟩ = some (.slice rt2 tZ2.length ct2) ∧ w'.cell? ⟨w.heap.size + 1, 2, none⟩ = some (.slice rv2 vZ2.length cv2) ∧ w'.cell? ⟨w.heap.size + 1, 3, none⟩ = some (.slice rm2 maps2.length cm2) ∧ w'.cell? ⟨w.heap.size + 1, 4, none⟩ = some (.int .i64 lZ2) ∧ w'.cell? ⟨w.heap.size + 1, 5, none⟩ = some (.slice ri2 nZ2.length ci2) ∧ w'.cell? ⟨w.heap.size + 1, 6, none⟩ = some (.slice rs2 sZ2.length cs2) ∧ w'.cell? ⟨w.heap.size + 1, 7, none⟩ = some (.slice ro2 oZ2.length co2) ∧ w'.cell? ⟨w.heap.size + 1, 8, none⟩ = some (.slice rn2 iZ2.length cn2)) (first | exact ⟨(Below.refl _ _).drew, p0c, p1c, p2c, p3c, p4c, p5c, p6c, p7c, p8c, q0c, q1c, q2c, q3c, q4c, q5c, q6c, q7c, q8c⟩ | assumption | go_keep) (first | (go_at_call 37; with_reducible (refine (HBP.out _ ?hq).mono ?_); (case hq => exact hB0.trans ((by assumption : Below W2.heap.size W2 _ ∧ _).1.mono hB0.size)); rintro _ w3 ⟨r3, c3, rfl, ho3, hb3⟩; have HO3 := H! (ints_b ho3 HYP.out); clear ho3; have hS3 := same_next hA hB (by assumption) hb3) | (go_at_call 37; with_reducible (refine (HBQ.out _ ?hq).mono ?_); (case hq => exact hB0.trans ((by assumption : Below W2.heap.size W2 _ ∧ _).1.mono hB0.size)); rintro _ w4 ⟨r4, c4, rfl, ho4, hb4⟩; have HO4 := H! (ints_b ho4 HYQ.out); clear ho4; have hS4 := same_next hA hB (by assumption) hb4) | (go_at_call 36; refine (rsm_any r3 r4 c3 c4 x y _ (by first | exact HO3.out | exact HO3.out.later hb4) (by first | exact HO4.out | exact HO4.out.later hb3)).mono ?_; rintro _ w5 ⟨rfl, hb5⟩; have hS5 := same_next hA hB (by assumption) hb5))
 go_wp2
 go_ret
 exact ⟨by rfl, hB0.trans ((by assumption : Below W2.heap.size W2 _ ∧ _).1.mono hB0.size)⟩
end Go.Proofs.YtfooefiaenlhmaaGreat
