/- Lemmas for the laws of package magnetolaw15: what its functions return, for any arguments that the lemmas name. -/
import Derived.Test.YtfooefiaenlhmaaGreatGA17
import Derived.Test.YtfooefiaenlhmaaGreatGA21
import Derived.Deep.Cut
import Derived.Deep.RegionLaw
namespace Go.Proofs.YtfooefiaenlhmaaGreat
set_option linter.unusedVariables false
set_option linter.unusedSimpArgs false
set_option maxHeartbeats 16000000
open Go.RowKit Go.ChangeShapes Go.WideShapes Go.ChangeAt
set_option maxRecDepth 100000 in
theorem rprogr_any (r : Option Addr) (c : Nat) (part : List Int) (w : World) (hx : IsInts w r c .u8 part) (hl : part.length ≤ 100000) : Calls Tryz.prog 41 #[.slice r part.length c] w fun e w' => RpPost part w e w' := by
 have hV0 : RdV w r c part false (some part) := ⟨hx, hl, rfl, fun h => by cases h⟩
 have HC1 := H! (fun W (hW : Below w.heap.size w W) => rcnt_any 12 w W hV0 hW (by omega) (by omega))
 have hcl1 := pCount_le (size := 12) (s := some part) (fun bs' e => by cases e; exact hl)
 have HM1 : Hid (pMany pIns 12 (some part) = pRep pIns (pCount 12 (some part)).1 (pCount 12 (some part)).2) := H! rfl
 generalize (pCount 12 (some part)).1 = n1 at *
 generalize (pCount 12 (some part)).2 = s1 at *
 clear hV0 hx
 go_enter Tryz.func41, Tryz.ntmps41
 go_upto_region 3 with (go_at_call 88; refine (HC1.out _ bw).mono ?_; rintro _ w1 ⟨r1, c1, bs1, bad1, rfl, hr1, hbw1⟩; have HR1 := H! hr1; clear hr1)
 have AR0 : AtV ((w.alloc (.cells #[.slice none 0 0, .slice none 0 0, .slice none 0 0, .slice none 0 0, .int .i64 0, .slice none 0 0, .slice none 0 0, .slice none 0 0, .slice none 0 0] 28)).alloc (.cells #[.slice none 0 0, .slice none 0 0, .slice none 0 0, .slice none 0 0, .int .i64 0, .slice none 0 0, .slice none 0 0, .slice none 0 0, .slice none 0 0] 28)) w.heap.size [.slice none 0 0, .slice none 0 0, .slice none 0 0, .slice none 0 0, .int .i64 0, .slice none 0 0, .slice none 0 0, .slice none 0 0, .slice none 0 0] := (AtV.new w [.slice none 0 0, .slice none 0 0, .slice none 0 0, .slice none 0 0, .int .i64 0, .slice none 0 0, .slice none 0 0, .slice none 0 0, .slice none 0 0] 28).keep (Below.heap_alloc _ _ _ (by rw [zA]; omega))
 have AP0 : AtV ((w.alloc (.cells #[.slice none 0 0, .slice none 0 0, .slice none 0 0, .slice none 0 0, .int .i64 0, .slice none 0 0, .slice none 0 0, .slice none 0 0, .slice none 0 0] 28)).alloc (.cells #[.slice none 0 0, .slice none 0 0, .slice none 0 0, .slice none 0 0, .int .i64 0, .slice none 0 0, .slice none 0 0, .slice none 0 0, .slice none 0 0] 28)) (w.heap.size + 1) [.slice none 0 0, .slice none 0 0, .slice none 0 0, .slice none 0 0, .int .i64 0, .slice none 0 0, .slice none 0 0, .slice none 0 0, .slice none 0 0] := by
  have := AtV.new (w.alloc (.cells #[.slice none 0 0, .slice none 0 0, .slice none 0 0, .slice none 0 0, .int .i64 0, .slice none 0 0, .slice none 0 0, .slice none 0 0, .slice none 0 0] 28)) [.slice none 0 0, .slice none 0 0, .slice none 0 0, .slice none 0 0, .int .i64 0, .slice none 0 0, .slice none 0 0, .slice none 0 0, .slice none 0 0] 28
  rwa [zA] at this
 have hz1 : ((w.alloc (.cells #[.slice none 0 0, .slice none 0 0, .slice none 0 0, .slice none 0 0, .int .i64 0, .slice none 0 0, .slice none 0 0, .slice none 0 0, .slice none 0 0] 28)).alloc (.cells #[.slice none 0 0, .slice none 0 0, .slice none 0 0, .slice none 0 0, .int .i64 0, .slice none 0 0, .slice none 0 0, .slice none 0 0, .slice none 0 0] 28)).heap.size = w.heap.size + 2 := by simp only [zA]
 have hbW1 : Below w.heap.size w ((w.alloc (.cells #[.slice none 0 0, .slice none 0 0, .slice none 0 0, .slice none 0 0, .int .i64 0, .slice none 0 0, .slice none 0 0, .slice none 0 0, .slice none 0 0] 28)).alloc (.cells #[.slice none 0 0, .slice none 0 0, .slice none 0 0, .slice none 0 0, .int .i64 0, .slice none 0 0, .slice none 0 0, .slice none 0 0, .slice none 0 0] 28)) := bw
 generalize (w.alloc (.cells #[.slice none 0 0, .slice none 0 0, .slice none 0 0, .slice none 0 0, .int .i64 0, .slice none 0 0, .slice none 0 0, .slice none 0 0, .slice none 0 0] 28)).alloc (.cells #[.slice none 0 0, .slice none 0 0, .slice none 0 0, .slice none 0 0, .int .i64 0, .slice none 0 0, .slice none 0 0, .slice none 0 0, .slice none 0 0] 28) = W1 at *
 have hzw1 := hbw1.size
 have AT1 := AtV.new w1 [.slice r1 bs1.length c1, .bool bad1] 122
 change AtV (w1.alloc (.cells #[.slice r1 bs1.length c1, .bool bad1] 122)) _ _ at AT1
 have hbg1 : Below W1.heap.size W1 (w1.alloc (.cells #[.slice r1 bs1.length c1, .bool bad1] 122)) := hbw1.alloc hzw1 _
 have hzg1 : (w1.alloc (.cells #[.slice r1 bs1.length c1, .bool bad1] 122)).heap.size = w1.heap.size + 1 := zA _ _
 have hal1 : Below w1.heap.size w1 (w1.alloc (.cells #[.slice r1 bs1.length c1, .bool bad1] 122)) := (Below.refl _ _).alloc (Nat.le_refl _) _
 generalize w1.alloc (.cells #[.slice r1 bs1.length c1, .bool bad1] 122) = g1 at *
 obtain ⟨b, hb⟩ : ∃ T, T = w1.heap.size := ⟨_, rfl⟩
 rw [← hb] at AT1 hzg1 ⊢
 have hba : b < g1.heap.size := by omega
 have hbb : W1.heap.size ≤ b := by omega
 have hbc : w1.heap.size ≤ b := by omega
 have ⟨t01, _⟩ := AT1 0 _ rfl
 have ⟨t11, _⟩ := AT1 1 _ rfl
 clear hzg1 hb
 have AR1 : Hid (AtV g1 w.heap.size [.slice none 0 0, .slice none 0 0, .slice none 0 0, .slice none 0 0, .int .i64 0, .slice none 0 0, .slice none 0 0, .slice none 0 0, .slice none 0 0]) := H! (AR0.keep (hbg1.block _ (by omega)))
 have AP1 := AP0.keep (hbg1.block (w.heap.size + 1) (by omega))
 have HBw1 : Hid (Below w.heap.size w g1) := H! (hbW1.trans (hbg1.mono (by omega)))
 obtain ⟨R, hR⟩ : ∃ R, R = w.heap.size := ⟨_, rfl⟩
 obtain ⟨P, hP⟩ : ∃ P, P = R + 1 := ⟨_, rfl⟩
 rw [← hR] at AR1 AP1 ⊢
 rw [← hP] at AP1 ⊢
 have hRl : w.heap.size ≤ R := by omega
 have hRu : R ≤ w.heap.size := by omega
 have hPl : R < P := by omega
 have hPb : P < b := by omega
 have hwb : w.heap.size ≤ b := by omega
 have hwP : w.heap.size ≤ P := by omega
 have nPb : ¬ P = b := by omega
 have nbP : ¬ b = P := by omega
 have nRb : ¬ R = b := by omega
 have nbR : ¬ b = R := by omega
 have nRP : ¬ R = P := by omega
 have nPR : ¬ P = R := by omega
 have hbD1 : b < g1.heap.size := by omega
 have hPD1 : P < g1.heap.size := by omega
 have hRD1 : R < g1.heap.size := by omega
 have HS1 : Hid (Sg g1 g1.heap.size b P g1 [.slice r1 bs1.length c1, .bool bad1] [.slice none 0 0, .slice none 0 0, .slice none 0 0, .slice none 0 0, .int .i64 0, .slice none 0 0, .slice none 0 0, .slice none 0 0, .slice none 0 0]) := H! ⟨Nat.le_refl _, Keep2.refl _ _ _ _, AT1, AP1⟩
 have HSB1 : Hid (SxB s1) := H! (fun bs' e => by
  rw [HR1.out.sx] at e
  cases bad1
  ·
   cases e; exact fun x hx => wf_u8 (HR1.out.ints.wf x hx)
  ·
   cases e)
 have HFA1 : Hid (∀ W', KeepA b g1 W' → True) := H! (fun _ _ => trivial)
 clear AR0 AP0 AT1 AP1 hz1 hbw1 hbW1 HC1 hP hR hbg1 hal1 t01 t11 hzw1 hba hbb hbc
 go_wp2
 go_loopg [7] n1 (fun kx sx wr => ∃ (k : Nat) (r : Option Addr) (c : Nat) (rows : List Ins) (rx : Option Addr) (cx : Nat) (bx : List Int) (ax : Bool) (sr : Sx), sx = .int .i64 k ∧ k ≤ n1 ∧ n1 - k ≤ kx ∧ Hid (Sg g1 g1.heap.size b P wr [.slice rx bx.length cx, .bool ax] [.slice r rows.length c, .slice none 0 0, .slice none 0 0, .slice none 0 0, .int .i64 0, .slice none 0 0, .slice none 0 0, .slice none 0 0, .slice none 0 0]) ∧ Hid (OwnR 42 5 Ins.enc wr g1.heap.size r c rows) ∧ Hid (RdV w rx cx bx ax sr) ∧ Hid ((rows, sr) = pRep pIns k s1) ∧ Hid (rows.length = k))
 case atStart => exact ⟨0, none, 0, [], r1, c1, bs1, bad1, s1, rfl, by omega, by omega, HS1, H! (OwnR.nil _ _), HR1, H! rfl, H! rfl⟩
 case round =>
  clear HS1 HR1
  obtain ⟨k, rc, cc, code, rx, cx, bx, ax, e1, rfl, hk, hkx, HS, HO, HV, HP, HL⟩ := hrel
  have hsz := HS.out.sz
  have HBr : Hid (Below w.heap.size w wr) := H! (HBw1.out.trans (HS.out.toBelow (by omega) hwb hwP))
  obtain ⟨b0c, b0f⟩ := HS.out.rd 0 _ rfl
  obtain ⟨b1c, b1f⟩ := HS.out.rd 1 _ rfl
  have hbr : b < wr.heap.size := by omega
  by_cases hlt : k < n1
  ·
   skip
   have hk1 : (0 : Int) ≤ (k : Int) := by omega
   have hk2 : (k : Int) < n1 := by omega
   have HT := H! (rtake_any 12 w wr HV.out (by omega) (by omega))
   have HDC := H! (fun r c W (h : IsInts W r c .u8 (pTake 12 e1).1) => rdec_pins r c e1 W h)
   have HPn : Hid ((code ++ [(pIns e1).1], (pIns e1).2) = pRep pIns (k + 1) s1) := H! (by rw [pRep, ← HP.out])
   have hol : code.length ≤ 100000 := by have := HL.out; omega
   generalize hpi : pIns e1 = pi at *
   generalize (pTake 12 e1).2 = t2 at *
   generalize (pTake 12 e1).1 = out at *
   go_upto_region 7 with (go_at_call 89; refine HT.out.mono ?_; rintro _ v3 ⟨ro, co, rq, cq, bsq, badq, rfl, hxq, hrq, hbv3⟩; have HX := H! hxq; have HRq := H! hrq; clear hxq hrq)
   have hzv3 := hbv3.size
   have ATq := AtV.new v3 [.slice rq bsq.length cq, .bool badq] 122
   change AtV (v3.alloc (.cells #[.slice rq bsq.length cq, .bool badq] 122)) _ _ at ATq
   have hbv4 : Below wr.heap.size wr (v3.alloc (.cells #[.slice rq bsq.length cq, .bool badq] 122)) := hbv3.alloc hzv3 _
   have hzv4 : (v3.alloc (.cells #[.slice rq bsq.length cq, .bool badq] 122)).heap.size = v3.heap.size + 1 := zA _ _
   have halq : Below v3.heap.size v3 (v3.alloc (.cells #[.slice rq bsq.length cq, .bool badq] 122)) := (Below.refl _ _).alloc (Nat.le_refl _) _
   generalize v3.alloc (.cells #[.slice rq bsq.length cq, .bool badq] 122) = v4 at *
   obtain ⟨T, hT⟩ : ∃ T, T = v3.heap.size := ⟨_, rfl⟩
   rw [← hT] at ATq hzv4 ⊢
   have hTa : T < v4.heap.size := by omega
   have hTb : wr.heap.size ≤ T := by omega
   have hTc : v3.heap.size ≤ T := by omega
   have ⟨t0q, _⟩ := ATq 0 _ rfl
   have ⟨t1q, _⟩ := ATq 1 _ rfl
   clear hzv4 hT
   have HSv4 := H! (HS.out.below hbD1 hPD1 hbv4)
   have HOv4 := H! (HO.out.below hbv4 (Nat.le_refl _))
   have hzv4 := hbv4.size
   obtain ⟨u0c, u0f⟩ := HSv4.out.rd 0 _ rfl
   obtain ⟨u1c, u1f⟩ := HSv4.out.rd 1 _ rfl
   have nTb : ¬ T = b := by omega
   have nbT : ¬ b = T := by omega
   have hbu : b < v4.heap.size := by have := HSv4.out.sz; omega
   go_upto_region 8 with fail
   have HSv5 := H! (HSv4.out.setRd nPb (.slice rq bsq.length cq) (.bool badq))
   have HOv5 := H! (HOv4.out.set2 hbD1 (.slice rq bsq.length cq) (.bool badq))
   have hzset : ((v4.setCell ⟨b, 0, none⟩ (.slice rq bsq.length cq)).setCell ⟨b, 1, none⟩ (.bool badq)).heap.size = v4.heap.size := by simp only [zS]
   generalize (v4.setCell ⟨b, 0, none⟩ (.slice rq bsq.length cq)).setCell ⟨b, 1, none⟩ (.bool badq) = v5 at *
   have hzs1v5 : v5.heap.size ≤ v4.heap.size := by omega
   have hzs2v5 : v4.heap.size ≤ v5.heap.size := by omega
   clear hzset u0c u0f u1c u1f nTb nbT hbu t0q t1q
   have hz5 := HSv5.out.sz
   have HBv5 : Hid (Below w.heap.size w v5) := H! (HBw1.out.trans (HSv5.out.toBelow (by omega) hwb hwP))
   go_upto_region 9 with (go_at_call 90; refine (HDC.out ro co v5 (HX.out.later HBv5.out)).mono ?_; rintro _ v6 ⟨⟨xo, xa, xb, xc, xk⟩, ok, rfl, hpe, hbv6⟩; simp only [insV]; have HPE := H! hpe; clear hpe)
   have hzv6 := hbv6.size
   have AI := AtV.new v6 [.int .i64 xo, .int .i64 xa, .int .i64 xb, .int .i64 xc, .int .i64 xk] 42
   change AtV (v6.alloc (.cells #[.int .i64 xo, .int .i64 xa, .int .i64 xb, .int .i64 xc, .int .i64 xk] 42)) _ _ at AI
   have hbv7 : Below v5.heap.size v5 (v6.alloc (.cells #[.int .i64 xo, .int .i64 xa, .int .i64 xb, .int .i64 xc, .int .i64 xk] 42)) := hbv6.alloc hzv6 _
   have hz7 : (v6.alloc (.cells #[.int .i64 xo, .int .i64 xa, .int .i64 xb, .int .i64 xc, .int .i64 xk] 42)).heap.size = v6.heap.size + 1 := zA _ _
   generalize v6.alloc (.cells #[.int .i64 xo, .int .i64 xa, .int .i64 xb, .int .i64 xc, .int .i64 xk] 42) = v7 at *
   obtain ⟨T2, hT2⟩ : ∃ T, T = v6.heap.size := ⟨_, rfl⟩
   rw [← hT2] at AI hz7 ⊢
   have HSv7 := H! (HSv5.out.below hbD1 hPD1 hbv7)
   have HOv7 := H! (HOv5.out.below hbv7 (Nat.le_refl _))
   have HAR := H! ((AR1.out.keep (HSv7.out.keep.block R (by omega) nRb nRP)))
   have HBW : Hid (Below w.heap.size w v7) := H! (HBv5.out.trans (hbv7.mono (by omega)))
   have hP7 : P < v7.heap.size := by omega
   have hT7 : T2 < v7.heap.size := by omega
   have nPT : ¬ P = T2 := by omega
   have nTP : ¬ T2 = P := by omega
   have ⟨i0, _⟩ := AI 0 _ rfl
   have ⟨i1, _⟩ := AI 1 _ rfl
   have ⟨i2, _⟩ := AI 2 _ rfl
   have ⟨i3, _⟩ := AI 3 _ rfl
   have ⟨i4, _⟩ := AI 4 _ rfl
   obtain ⟨p0c, p0f⟩ := HSv7.out.at_ 0 _ rfl
   clear AI hT2 hz7 HT HDC HX HS HO HSv4 HOv4 HSv5 HOv5
   have hi' : (⟨xo, xa, xb, xc, xk⟩ : Ins) = pi.1 := by rw [HPE.out]
   have hs' : (if ok = true then t2 else none) = pi.2 := by rw [HPE.out]
   have HN := HPn.out
   rw [← hi', ← hs'] at HN
   have HN2 := H! HN
   clear HN hi' hs' HPE HPn hpi
   cases ok
   ·
    obtain ⟨z0c, z0f⟩ := HAR.out 0 _ rfl
    obtain ⟨z1c, z1f⟩ := HAR.out 1 _ rfl
    obtain ⟨z2c, z2f⟩ := HAR.out 2 _ rfl
    obtain ⟨z3c, z3f⟩ := HAR.out 3 _ rfl
    obtain ⟨z4c, z4f⟩ := HAR.out 4 _ rfl
    obtain ⟨z5c, z5f⟩ := HAR.out 5 _ rfl
    obtain ⟨z6c, z6f⟩ := HAR.out 6 _ rfl
    obtain ⟨z7c, z7f⟩ := HAR.out 7 _ rfl
    obtain ⟨z8c, z8f⟩ := HAR.out 8 _ rfl
    have hRW : R < v7.heap.size := by omega
    go_wp2
    refine bodyPost_ret (by simp [results, Tryz.results41, go_sem, *]; try rfl) rfl ?_
    exact rp_bad rfl (fun h => absurd h (fun h => (prg_some h).1 (by
      have e : (pRep pIns (k + 1) s1).2 = none := by rw [← HN2.out]; rfl
      rw [HM1.out]
      exact rep_no cons_ins e (by omega)))) ((((((((((HBW.out).setCell (p := ⟨R, 0, none⟩) hRl _).setCell (p := ⟨R, 1, none⟩) hRl _).setCell (p := ⟨R, 2, none⟩) hRl _).setCell (p := ⟨R, 3, none⟩) hRl _).setCell (p := ⟨R, 4, none⟩) hRl _).setCell (p := ⟨R, 5, none⟩) hRl _).setCell (p := ⟨R, 6, none⟩) hRl _).setCell (p := ⟨R, 7, none⟩) hRl _).setCell (p := ⟨R, 8, none⟩) hRl _)
   ·
    go_wp2_with (first | (at_builtin; refine wpList_append_rowf Tryz.underlying22 infoInstr rfl (by omega) (by omega) (by rfl) _ _ (by rfl) v7 g1.heap.size rc cc code ((⟨xo, xa, xb, xc, xk⟩ : Ins)) (by rfl) (fun u hu => by simp only [Ins.enc, List.mem_cons, List.not_mem_nil, or_false] at hu; rcases hu with rfl | rfl | rfl | rfl | rfl <;> rfl) (by rfl) (by rfl) (by rfl) HOv7.out (by omega) HSv7.out.sz ?_; intro r' c' w9 hown9 hbw9 hst9 hrr9; have HS9 := H! (HSv7.out.row hbD1 hPD1 nPb hbw9 (j := 0) (by simp) (.slice r' (code.length + 1) c')); have HO9 := H! (hown9.setb hPD1 (q := P) (j := 0) (.slice r' (code.length + 1) c')); have p9c := (hbw9.cell (p := ⟨P, 0, none⟩) hPD1).trans (HSv7.out.at_ 0 _ rfl).1; have p9f := (hbw9.frozen (p := ⟨P, 0, none⟩) hPD1).trans (HSv7.out.at_ 0 _ rfl).2; have HST := H! hst9; have HRR := H! hrr9; have HBW9 := H! hbw9; have hz9 := hbw9.size; clear hst9 hrr9 hown9 hbw9))
    go_roundg (n1 - (k + 1))
    case measure => omega
    case rel => exact ⟨k + 1, r', c', code ++ [⟨xo, xa, xb, xc, xk⟩], rq, cq, bsq, badq, t2, by go_num, by omega, by omega, H! (by simpa using HS9.out), HO9, HRq, HN2, H! (by rw [List.length_append, HL.out]; rfl)⟩
  ·
   obtain rfl : k = n1 := by omega
   have HQ1 : Hid (pMany pIns 12 (some part) = (code, e1)) := H! (by rw [HM1.out, HP.out])
   have HGx : Hid (∀ x ∈ code, x.ok) := H! (by
    have h := pRep_all (f := pIns) (Q := Ins.ok) (fun s h => h.ins) (fun s h => pIns_ok s h) HSB1.out k
    rw [← HP.out] at h
    exact h)
   have HFc : Hid (∀ W', KeepA b wr W' → IsS 5 Ins.enc W' rc cc code ∧ ∀ x ∈ code, x.ok) := H! (fun W' hW => ⟨HO.out.closed (fun _ => rfl) hbD1 hbD1 W' hW, HGx.out⟩)
   have HCn := H! (rcnt_any 80 w wr HV.out HBr.out (by omega) (by omega))
   have hsl : SxL e1 := fun bs' e => by
    have h := HV.out.len
    rw [HV.out.sx] at e
    cases ax
    ·
     cases e; exact h
    ·
     cases e
   have hcl2 := pCount_le (size := 80) hsl
   have hsb : SxB e1 := fun bs' e => by
    rw [HV.out.sx] at e
    cases ax
    ·
     cases e; exact fun x hx => wf_u8 (HV.out.ints.wf x hx)
    ·
     cases e
   have HM2 : Hid (pMany pFx 80 e1 = pRep pFx (pCount 80 e1).1 (pCount 80 e1).2) := H! rfl
   generalize (pCount 80 e1).1 = n2 at *
   generalize (pCount 80 e1).2 = s2 at *
   go_upto_region 13 with (go_at_call 88; refine HCn.out.mono ?_; rintro _ w2 ⟨r2, c2, bs2, bad2, rfl, hr2, hbw2⟩; have HR2 := H! hr2; clear hr2; have HSc := H! (HS.out.below hbD1 hPD1 hbw2); obtain ⟨u0c, u0f⟩ := HSc.out.rd 0 _ rfl; obtain ⟨u1c, u1f⟩ := HSc.out.rd 1 _ rfl; have hzw2 := hbw2.size; have hbu : b < w2.heap.size := (by omega))
   have HSd := H! (HSc.out.setRd nPb (.slice r2 bs2.length c2) (.bool bad2))
   have hzset : ((w2.setCell ⟨b, 0, none⟩ (.slice r2 bs2.length c2)).setCell ⟨b, 1, none⟩ (.bool bad2)).heap.size = w2.heap.size := by simp only [zS]
   have hkn : KeepA b wr ((w2.setCell ⟨b, 0, none⟩ (.slice r2 bs2.length c2)).setCell ⟨b, 1, none⟩ (.bool bad2)) := (KeepA.below hbw2).trans (KeepA.set2 _ (Nat.le_refl _) _ _)
   have hrn : ((w2.setCell ⟨b, 0, none⟩ (.slice r2 bs2.length c2)).setCell ⟨b, 1, none⟩ (.bool bad2)).heap[R]? = w2.heap[R]? := (Below.heap_setCell _ _ _ _ nRb).trans (Below.heap_setCell _ _ _ _ nRb)
   have hwn : Below w.heap.size w ((w2.setCell ⟨b, 0, none⟩ (.slice r2 bs2.length c2)).setCell ⟨b, 1, none⟩ (.bool bad2)) := two_set hwb (HBr.out.trans (hbw2.mono (by omega))) _ _
   generalize (w2.setCell ⟨b, 0, none⟩ (.slice r2 bs2.length c2)).setCell ⟨b, 1, none⟩ (.bool bad2) = g2 at *
   have HBw2 : Hid (Below w.heap.size w g2) := H! hwn
   have AR2 : Hid (AtV g2 R [.slice none 0 0, .slice none 0 0, .slice none 0 0, .slice none 0 0, .int .i64 0, .slice none 0 0, .slice none 0 0, .slice none 0 0, .slice none 0 0]) := H! (((AR1.out.keep (HS.out.keep.block R (by omega) nRb nRP)).keep (hbw2.block R (by omega))).keep hrn)
   have HS2 : Hid (Sg g2 g2.heap.size b P g2 [.slice r2 bs2.length c2, .bool bad2] [.slice rc code.length cc, .slice none 0 0, .slice none 0 0, .slice none 0 0, .int .i64 0, .slice none 0 0, .slice none 0 0, .slice none 0 0, .slice none 0 0]) := H! ⟨Nat.le_refl _, Keep2.refl _ _ _ _, HSd.out.rd, HSd.out.at_⟩
   have HFA2 : Hid (∀ W', KeepA b g2 W' → (True) ∧ (IsS 5 Ins.enc W' rc cc code ∧ ∀ x ∈ code, x.ok)) := H! (fun W' hW => ⟨HFA1.out W' (((HS.out.toA (by omega) (Nat.le_refl _)).trans hkn).trans hW), HFc.out W' (hkn.trans hW)⟩)
   have HSB2 : Hid (SxB s2) := H! (fun bs' e => by
    rw [HR2.out.sx] at e
    cases bad2
    ·
     cases e; exact fun x hx => wf_u8 (HR2.out.ints.wf x hx)
    ·
     cases e)
   have hbD2 : b < g2.heap.size := by omega
   have hPD2 : P < g2.heap.size := by omega
   have hRD2 : R < g2.heap.size := by omega
   clear HCn hsl hsb HSc HSd u0c u0f u1c u1f hzset hkn hrn hwn HS HO HV HP HL HFc AR1 HFA1 HBw1 HSB1 HM1 HBr hbr b0c b0f b1c b1f hbw2 hsz HGx
   go_wp2
   go_loopg [12] n2 (fun kx sx wr => ∃ (k : Nat) (r : Option Addr) (c : Nat) (rows : List Fx) (rx : Option Addr) (cx : Nat) (bx : List Int) (ax : Bool) (sr : Sx), sx = .int .i64 k ∧ k ≤ n2 ∧ n2 - k ≤ kx ∧ Hid (Sg g2 g2.heap.size b P wr [.slice rx bx.length cx, .bool ax] [.slice rc code.length cc, .slice r rows.length c, .slice none 0 0, .slice none 0 0, .int .i64 0, .slice none 0 0, .slice none 0 0, .slice none 0 0, .slice none 0 0]) ∧ Hid (OwnR 73 10 Fx.enc wr g2.heap.size r c rows) ∧ Hid (RdV w rx cx bx ax sr) ∧ Hid ((rows, sr) = pRep pFx k s2) ∧ Hid (rows.length = k))
   case atStart => exact ⟨0, none, 0, [], r2, c2, bs2, bad2, s2, rfl, by omega, by omega, HS2, H! (OwnR.nil _ _), HR2, H! rfl, H! rfl⟩
   case round =>
    clear HS2 HR2
    obtain ⟨k, rt, ct, types, rx, cx, bx, ax, e2, rfl, hk, hkx, HS, HO, HV, HP, HL⟩ := hrel
    have hsz := HS.out.sz
    have HBr : Hid (Below w.heap.size w wr) := H! (HBw2.out.trans (HS.out.toBelow (by omega) hwb hwP))
    obtain ⟨b0c, b0f⟩ := HS.out.rd 0 _ rfl
    obtain ⟨b1c, b1f⟩ := HS.out.rd 1 _ rfl
    have hbr : b < wr.heap.size := by omega
    by_cases hlt : k < n2
    ·
     skip
     have hk1 : (0 : Int) ≤ (k : Int) := by omega
     have hk2 : (k : Int) < n2 := by omega
     have HT := H! (rnums_any 10 (by omega) w wr HV.out HBr.out)
     have HFX : Hid (pFx e2 = (⟨(pRep pInt 10 e2).1.getD 0 0, decide ((pRep pInt 10 e2).1.getD 1 0 = 1), (pRep pInt 10 e2).1.getD 2 0, (pRep pInt 10 e2).1.getD 3 0, (pRep pInt 10 e2).1.getD 4 0, (pRep pInt 10 e2).1.getD 5 0, (pRep pInt 10 e2).1.getD 6 0, (pRep pInt 10 e2).1.getD 7 0, (pRep pInt 10 e2).1.getD 8 0, (pRep pInt 10 e2).1.getD 9 0⟩, if decide ((pRep pInt 10 e2).1.getD 1 0 = 0 ∨ (pRep pInt 10 e2).1.getD 1 0 = 1) = true then (pRep pInt 10 e2).2 else none)) := H! rfl
     have HPn : Hid ((types ++ [(pFx e2).1], (pFx e2).2) = pRep pFx (k + 1) s2) := H! (by rw [pRep, ← HP.out])
     have hol : types.length ≤ 100000 := by have := HL.out; omega
     have HL10 := H! (pRep_len pInt 10 e2)
     generalize hpi : pFx e2 = pi at *
     generalize (pRep pInt 10 e2).2 = t2 at *
     generalize (pRep pInt 10 e2).1 = out at *
     go_upto_region 17 with (go_at_call 91; refine HT.out.mono ?_; rintro _ v3 ⟨ro, co, rq, cq, bsq, badq, rfl, hoq, hrq, hbv3⟩; have HOq := H! hoq; have HRq := H! hrq; clear hoq hrq; rw [HL10.out])
     have hzv3 := hbv3.size
     have ATq := AtV.new v3 [.slice rq bsq.length cq, .bool badq] 122
     change AtV (v3.alloc (.cells #[.slice rq bsq.length cq, .bool badq] 122)) _ _ at ATq
     have hbv4 : Below wr.heap.size wr (v3.alloc (.cells #[.slice rq bsq.length cq, .bool badq] 122)) := hbv3.alloc hzv3 _
     have hzv4 : (v3.alloc (.cells #[.slice rq bsq.length cq, .bool badq] 122)).heap.size = v3.heap.size + 1 := zA _ _
     have halq : Below v3.heap.size v3 (v3.alloc (.cells #[.slice rq bsq.length cq, .bool badq] 122)) := (Below.refl _ _).alloc (Nat.le_refl _) _
     generalize v3.alloc (.cells #[.slice rq bsq.length cq, .bool badq] 122) = v4 at *
     obtain ⟨T, hT⟩ : ∃ T, T = v3.heap.size := ⟨_, rfl⟩
     rw [← hT] at ATq hzv4 ⊢
     have hTa : T < v4.heap.size := by omega
     have hTb : wr.heap.size ≤ T := by omega
     have hTc : v3.heap.size ≤ T := by omega
     have ⟨t0q, _⟩ := ATq 0 _ rfl
     have ⟨t1q, _⟩ := ATq 1 _ rfl
     clear hzv4 hT
     have HSv4 := H! (HS.out.below hbD2 hPD2 hbv4)
     have HOv4 := H! (HO.out.below hbv4 (Nat.le_refl _))
     have hzv4 := hbv4.size
     have hco : 10 ≤ co := by have := HOq.out.le; rw [HL10.out] at this; exact this
     obtain ⟨g, hg1, hg2, hg3, _⟩ := HOq.out.at_ (j := 0) (by rw [HL10.out]; omega)
     subst hg1
     have hgb : ¬ g = b := by omega
     have HC4 : Hid (∀ j, j < 10 → v4.cell? ⟨g, j, none⟩ = some (.int .i64 (out.getD j 0))) := H! (fun j hj => by
      obtain ⟨g', h1, _, _, h4, _⟩ := HOq.out.at_ (j := j) (by rw [HL10.out]; exact hj)
      obtain rfl : g = g' := by simpa using h1
      exact (halq.cell (p := ⟨g, j, none⟩) hg3).trans h4)
     obtain ⟨u0c, u0f⟩ := HSv4.out.rd 0 _ rfl
     obtain ⟨u1c, u1f⟩ := HSv4.out.rd 1 _ rfl
     have nTb : ¬ T = b := by omega
     have nbT : ¬ b = T := by omega
     have hbu : b < v4.heap.size := by have := HSv4.out.sz; omega
     go_upto_region 18 with fail
     have HSv5 := H! (HSv4.out.setRd nPb (.slice rq bsq.length cq) (.bool badq))
     have HOv5 := H! (HOv4.out.set2 hbD2 (.slice rq bsq.length cq) (.bool badq))
     have HC5 : Hid (∀ j, j < 10 → ((v4.setCell ⟨b, 0, none⟩ (.slice rq bsq.length cq)).setCell ⟨b, 1, none⟩ (.bool badq)).cell? ⟨g, j, none⟩ = some (.int .i64 (out.getD j 0))) := H! (fun j hj => (World.cell?_of_block (a := ⟨g, j, none⟩) ((Below.heap_setCell _ _ _ _ hgb).trans (Below.heap_setCell _ _ _ _ hgb))).trans (HC4.out j hj))
     have hzset : ((v4.setCell ⟨b, 0, none⟩ (.slice rq bsq.length cq)).setCell ⟨b, 1, none⟩ (.bool badq)).heap.size = v4.heap.size := by simp only [zS]
     generalize (v4.setCell ⟨b, 0, none⟩ (.slice rq bsq.length cq)).setCell ⟨b, 1, none⟩ (.bool badq) = v5 at *
     have hzs1v5 : v5.heap.size ≤ v4.heap.size := by omega
     have hzs2v5 : v4.heap.size ≤ v5.heap.size := by omega
     clear hzset u0c u0f u1c u1f nTb nbT hbu t0q t1q
     have hz5 := HSv5.out.sz
     have HBv5 : Hid (Below w.heap.size w v5) := H! (HBw2.out.trans (HSv5.out.toBelow (by omega) hwb hwP))
     have y0 := HC5.out 0 (by omega)
     have y1 := HC5.out 1 (by omega)
     have y2 := HC5.out 2 (by omega)
     have y3 := HC5.out 3 (by omega)
     have y4 := HC5.out 4 (by omega)
     have y5 := HC5.out 5 (by omega)
     have y6 := HC5.out 6 (by omega)
     have y7 := HC5.out 7 (by omega)
     have y8 := HC5.out 8 (by omega)
     have y9 := HC5.out 9 (by omega)
     clear HC5 HC4 HOq HSv4 HOv4 HT HS HO
     generalize out.getD 0 0 = x0 at *
     generalize out.getD 1 0 = x1 at *
     generalize out.getD 2 0 = x2 at *
     generalize out.getD 3 0 = x3 at *
     generalize out.getD 4 0 = x4 at *
     generalize out.getD 5 0 = x5 at *
     generalize out.getD 6 0 = x6 at *
     generalize out.getD 7 0 = x7 at *
     generalize out.getD 8 0 = x8 at *
     generalize out.getD 9 0 = x9 at *
     go_region_held3 (fun w' => w'.cell? ⟨g, 0, none⟩ = some (.int .i64 x0) ∧ w'.cell? ⟨g, 1, none⟩ = some (.int .i64 x1) ∧ w'.cell? ⟨g, 2, none⟩ = some (.int .i64 x2) ∧ w'.cell? ⟨g, 3, none⟩ = some (.int .i64 x3) ∧ w'.cell? ⟨g, 4, none⟩ = some (.int .i64 x4) ∧ w'.cell? ⟨g, 5, none⟩ = some (.int .i64 x5) ∧ w'.cell? ⟨g, 6, none⟩ = some (.int .i64 x6) ∧ w'.cell? ⟨g, 7, none⟩ = some (.int .i64 x7) ∧ w'.cell? ⟨g, 8, none⟩ = some (.int .i64 x8) ∧ w'.cell? ⟨g, 9, none⟩ = some (.int .i64 x9)) (go_keep) (fail)
     rename_i hHeld
     clear hHeld
     have AI := AtV.new v5 [.int .i64 x0, .bool (x1 == 1), .int .i64 x2, .int .i64 x3, .int .i64 x4, .int .i64 x5, .int .i64 x6, .int .i64 x7, .int .i64 x8, .int .i64 x9] 73
     have hbv7 : Below v5.heap.size v5 ((v5.alloc (.cells #[.int .i64 x0, .bool (x1 == 1), .int .i64 x2, .int .i64 x3, .int .i64 x4, .int .i64 x5, .int .i64 x6, .int .i64 x7, .int .i64 x8, .int .i64 x9] 73)).drew) := ((Below.refl _ _).alloc (Nat.le_refl _) _).drew
     have AI2 : AtV ((v5.alloc (.cells #[.int .i64 x0, .bool (x1 == 1), .int .i64 x2, .int .i64 x3, .int .i64 x4, .int .i64 x5, .int .i64 x6, .int .i64 x7, .int .i64 x8, .int .i64 x9] 73)).drew) v5.heap.size [.int .i64 x0, .bool (x1 == 1), .int .i64 x2, .int .i64 x3, .int .i64 x4, .int .i64 x5, .int .i64 x6, .int .i64 x7, .int .i64 x8, .int .i64 x9] := AI.keep rfl
     have hz7 : v5.heap.size < ((v5.alloc (.cells #[.int .i64 x0, .bool (x1 == 1), .int .i64 x2, .int .i64 x3, .int .i64 x4, .int .i64 x5, .int .i64 x6, .int .i64 x7, .int .i64 x8, .int .i64 x9] 73)).drew).heap.size := by show v5.heap.size < (v5.alloc (.cells #[.int .i64 x0, .bool (x1 == 1), .int .i64 x2, .int .i64 x3, .int .i64 x4, .int .i64 x5, .int .i64 x6, .int .i64 x7, .int .i64 x8, .int .i64 x9] 73)).heap.size; rw [zA]; omega
     generalize (v5.alloc (.cells #[.int .i64 x0, .bool (x1 == 1), .int .i64 x2, .int .i64 x3, .int .i64 x4, .int .i64 x5, .int .i64 x6, .int .i64 x7, .int .i64 x8, .int .i64 x9] 73)).drew = v7 at *
     obtain ⟨T2, hT2⟩ : ∃ T, T = v5.heap.size := ⟨_, rfl⟩
     have HSv7 := H! (HSv5.out.below hbD2 hPD2 hbv7)
     have HOv7 := H! (HOv5.out.below hbv7 (Nat.le_refl _))
     have HAR := H! ((AR2.out.keep (HSv7.out.keep.block R (by omega) nRb nRP)))
     have HBW : Hid (Below w.heap.size w v7) := H! (HBv5.out.trans (hbv7.mono (by omega)))
     have hP7 : P < v7.heap.size := by omega
     rw [← hT2] at AI2 hz7 ⊢
     have nPT : ¬ P = T2 := by omega
     have nTP : ¬ T2 = P := by omega
     have i0 := (AI2 0 _ rfl).1
     have i1 := (AI2 1 _ rfl).1
     have i2 := (AI2 2 _ rfl).1
     have i3 := (AI2 3 _ rfl).1
     have i4 := (AI2 4 _ rfl).1
     have i5 := (AI2 5 _ rfl).1
     have i6 := (AI2 6 _ rfl).1
     have i7 := (AI2 7 _ rfl).1
     have i8 := (AI2 8 _ rfl).1
     have i9 := (AI2 9 _ rfl).1
     have w1c := (hbv7.cell (p := ⟨g, 1, none⟩) (by show g < v5.heap.size; omega)).trans y1
     obtain ⟨p1c, p1f⟩ := HSv7.out.at_ 1 _ rfl
     clear AI AI2 HSv5 HOv5 hbv7 hbv4 y0 y1 y2 y3 y4 y5 y6 y7 y8 y9 hT2
     by_cases nx1 : x1 = 1
     ·
      subst nx1
      have HN := HPn.out
      rw [HFX.out] at HN
      have HN2 : Hid ((types ++ [(⟨x0, true, x2, x3, x4, x5, x6, x7, x8, x9⟩ : Fx)], t2) = pRep pFx (k + 1) s2) := H! (by rw [← HN]; simp)
      clear HN HFX HPn
      go_wp2_with (first | (at_builtin; refine wpList_append_rowf Tryz.underlying23 infoFixed rfl (by omega) (by omega) (by rfl) _ _ (by rfl) v7 g2.heap.size rt ct types ((⟨x0, true, x2, x3, x4, x5, x6, x7, x8, x9⟩ : Fx)) (by rfl) (fun u hu => by simp only [Fx.enc, List.mem_cons, List.not_mem_nil, or_false] at hu; rcases hu with rfl | rfl | rfl | rfl | rfl | rfl | rfl | rfl | rfl | rfl <;> rfl) (by rfl) (by rfl) (by rfl) HOv7.out (by omega) HSv7.out.sz ?_; intro r' c' w9 hown9 hbw9 hst9 hrr9; have HS9 := H! (HSv7.out.row hbD2 hPD2 nPb hbw9 (j := 1) (by simp) (.slice r' (types.length + 1) c')); have HO9 := H! (hown9.setb hPD2 (q := P) (j := 1) (.slice r' (types.length + 1) c')); have p9c := (hbw9.cell (p := ⟨P, 1, none⟩) hPD2).trans (HSv7.out.at_ 1 _ rfl).1; have p9f := (hbw9.frozen (p := ⟨P, 1, none⟩) hPD2).trans (HSv7.out.at_ 1 _ rfl).2; have HST := H! hst9; have HRR := H! hrr9; have HBW9 := H! hbw9; have hz9 := hbw9.size; clear hst9 hrr9 hown9 hbw9))
      go_roundg (n2 - (k + 1))
      case measure => omega
      case rel => exact ⟨k + 1, r', c', types ++ [(⟨x0, true, x2, x3, x4, x5, x6, x7, x8, x9⟩ : Fx)], rq, cq, bsq, badq, t2, by go_num, by omega, by omega, H! (by simpa using HS9.out), HO9, HRq, HN2, H! (by rw [List.length_append, HL.out]; rfl)⟩
     by_cases nx0 : x1 = 0
     ·
      subst nx0
      have HN := HPn.out
      rw [HFX.out] at HN
      have HN2 : Hid ((types ++ [(⟨x0, false, x2, x3, x4, x5, x6, x7, x8, x9⟩ : Fx)], t2) = pRep pFx (k + 1) s2) := H! (by rw [← HN]; simp)
      clear HN HFX HPn
      go_wp2_with (first | (at_builtin; refine wpList_append_rowf Tryz.underlying23 infoFixed rfl (by omega) (by omega) (by rfl) _ _ (by rfl) v7 g2.heap.size rt ct types ((⟨x0, false, x2, x3, x4, x5, x6, x7, x8, x9⟩ : Fx)) (by rfl) (fun u hu => by simp only [Fx.enc, List.mem_cons, List.not_mem_nil, or_false] at hu; rcases hu with rfl | rfl | rfl | rfl | rfl | rfl | rfl | rfl | rfl | rfl <;> rfl) (by rfl) (by rfl) (by rfl) HOv7.out (by omega) HSv7.out.sz ?_; intro r' c' w9 hown9 hbw9 hst9 hrr9; have HS9 := H! (HSv7.out.row hbD2 hPD2 nPb hbw9 (j := 1) (by simp) (.slice r' (types.length + 1) c')); have HO9 := H! (hown9.setb hPD2 (q := P) (j := 1) (.slice r' (types.length + 1) c')); have p9c := (hbw9.cell (p := ⟨P, 1, none⟩) hPD2).trans (HSv7.out.at_ 1 _ rfl).1; have p9f := (hbw9.frozen (p := ⟨P, 1, none⟩) hPD2).trans (HSv7.out.at_ 1 _ rfl).2; have HST := H! hst9; have HRR := H! hrr9; have HBW9 := H! hbw9; have hz9 := hbw9.size; clear hst9 hrr9 hown9 hbw9))
      go_roundg (n2 - (k + 1))
      case measure => omega
      case rel => exact ⟨k + 1, r', c', types ++ [(⟨x0, false, x2, x3, x4, x5, x6, x7, x8, x9⟩ : Fx)], rq, cq, bsq, badq, t2, by go_num, by omega, by omega, H! (by simpa using HS9.out), HO9, HRq, HN2, H! (by rw [List.length_append, HL.out]; rfl)⟩
     have nb1 : (x1 == 1) = false := by simp [nx1]
     have nb0 : (x1 == 0) = false := by simp [nx0]
     have nn1 : (x1 != 1) = true := by simp [nx1]
     have nn0 : (x1 != 0) = true := by simp [nx0]
     have HN := HPn.out
     rw [HFX.out] at HN
     have HN2 : Hid ((types ++ [(⟨x0, decide (x1 = 1), x2, x3, x4, x5, x6, x7, x8, x9⟩ : Fx)], none) = pRep pFx (k + 1) s2) := H! (by rw [← HN]; simp [nx0, nx1])
     clear HN HFX HPn
     obtain ⟨z0c, z0f⟩ := HAR.out 0 _ rfl
     obtain ⟨z1c, z1f⟩ := HAR.out 1 _ rfl
     obtain ⟨z2c, z2f⟩ := HAR.out 2 _ rfl
     obtain ⟨z3c, z3f⟩ := HAR.out 3 _ rfl
     obtain ⟨z4c, z4f⟩ := HAR.out 4 _ rfl
     obtain ⟨z5c, z5f⟩ := HAR.out 5 _ rfl
     obtain ⟨z6c, z6f⟩ := HAR.out 6 _ rfl
     obtain ⟨z7c, z7f⟩ := HAR.out 7 _ rfl
     obtain ⟨z8c, z8f⟩ := HAR.out 8 _ rfl
     have hRW : R < v7.heap.size := by omega
     go_wp2
     refine bodyPost_ret (by simp [results, Tryz.results41, go_sem, *]; try rfl) rfl ?_
     exact rp_bad rfl (fun h => absurd h (fun h => (prg_some h).2 (by
       have e : (pRep pFx (k + 1) s2).2 = none := by rw [← HN2.out]
       rw [HQ1.out, HM2.out]
       exact rep_no cons_fx e (by omega)))) ((((((((((HBW.out).setCell (p := ⟨R, 0, none⟩) hRl _).setCell (p := ⟨R, 1, none⟩) hRl _).setCell (p := ⟨R, 2, none⟩) hRl _).setCell (p := ⟨R, 3, none⟩) hRl _).setCell (p := ⟨R, 4, none⟩) hRl _).setCell (p := ⟨R, 5, none⟩) hRl _).setCell (p := ⟨R, 6, none⟩) hRl _).setCell (p := ⟨R, 7, none⟩) hRl _).setCell (p := ⟨R, 8, none⟩) hRl _)
    ·
     obtain rfl : k = n2 := by omega
     have HQ2 : Hid (pMany pFx 80 e1 = (types, e2)) := H! (by rw [HM2.out, HP.out])
     have HGx : Hid (∀ x ∈ types, x.ok) := H! (by
      have h := pRep_all (f := pFx) (Q := Fx.ok) (fun s h => h.fx) (fun s _ => pFx_ok s) HSB2.out k
      rw [← HP.out] at h
      exact h)
     have HFc : Hid (∀ W', KeepA b wr W' → IsS 10 Fx.enc W' rt ct types ∧ ∀ x ∈ types, x.ok) := H! (fun W' hW => ⟨HO.out.closed (fun _ => rfl) hbD2 hbD2 W' hW, HGx.out⟩)
     have HCn := H! (rcnt_any 16 w wr HV.out HBr.out (by omega) (by omega))
     have hsl : SxL e2 := fun bs' e => by
      have h := HV.out.len
      rw [HV.out.sx] at e
      cases ax
      ·
       cases e; exact h
      ·
       cases e
     have hcl3 := pCount_le (size := 16) hsl
     have hsb : SxB e2 := fun bs' e => by
      rw [HV.out.sx] at e
      cases ax
      ·
       cases e; exact fun x hx => wf_u8 (HV.out.ints.wf x hx)
      ·
       cases e
     have HM3 : Hid (pMany pCv 16 e2 = pRep pCv (pCount 16 e2).1 (pCount 16 e2).2) := H! rfl
     generalize (pCount 16 e2).1 = n3 at *
     generalize (pCount 16 e2).2 = s3 at *
     go_upto_region 23 with (go_at_call 88; refine HCn.out.mono ?_; rintro _ w3 ⟨r3, c3, bs3, bad3, rfl, hr3, hbw3⟩; have HR3 := H! hr3; clear hr3; have HSc := H! (HS.out.below hbD2 hPD2 hbw3); obtain ⟨u0c, u0f⟩ := HSc.out.rd 0 _ rfl; obtain ⟨u1c, u1f⟩ := HSc.out.rd 1 _ rfl; have hzw3 := hbw3.size; have hbu : b < w3.heap.size := (by omega))
     have HSd := H! (HSc.out.setRd nPb (.slice r3 bs3.length c3) (.bool bad3))
     have hzset : ((w3.setCell ⟨b, 0, none⟩ (.slice r3 bs3.length c3)).setCell ⟨b, 1, none⟩ (.bool bad3)).heap.size = w3.heap.size := by simp only [zS]
     have hkn : KeepA b wr ((w3.setCell ⟨b, 0, none⟩ (.slice r3 bs3.length c3)).setCell ⟨b, 1, none⟩ (.bool bad3)) := (KeepA.below hbw3).trans (KeepA.set2 _ (Nat.le_refl _) _ _)
     have hrn : ((w3.setCell ⟨b, 0, none⟩ (.slice r3 bs3.length c3)).setCell ⟨b, 1, none⟩ (.bool bad3)).heap[R]? = w3.heap[R]? := (Below.heap_setCell _ _ _ _ nRb).trans (Below.heap_setCell _ _ _ _ nRb)
     have hwn : Below w.heap.size w ((w3.setCell ⟨b, 0, none⟩ (.slice r3 bs3.length c3)).setCell ⟨b, 1, none⟩ (.bool bad3)) := two_set hwb (HBr.out.trans (hbw3.mono (by omega))) _ _
     generalize (w3.setCell ⟨b, 0, none⟩ (.slice r3 bs3.length c3)).setCell ⟨b, 1, none⟩ (.bool bad3) = g3 at *
     have HBw3 : Hid (Below w.heap.size w g3) := H! hwn
     have AR3 : Hid (AtV g3 R [.slice none 0 0, .slice none 0 0, .slice none 0 0, .slice none 0 0, .int .i64 0, .slice none 0 0, .slice none 0 0, .slice none 0 0, .slice none 0 0]) := H! (((AR2.out.keep (HS.out.keep.block R (by omega) nRb nRP)).keep (hbw3.block R (by omega))).keep hrn)
     have HS3 : Hid (Sg g3 g3.heap.size b P g3 [.slice r3 bs3.length c3, .bool bad3] [.slice rc code.length cc, .slice rt types.length ct, .slice none 0 0, .slice none 0 0, .int .i64 0, .slice none 0 0, .slice none 0 0, .slice none 0 0, .slice none 0 0]) := H! ⟨Nat.le_refl _, Keep2.refl _ _ _ _, HSd.out.rd, HSd.out.at_⟩
     have HFA3 : Hid (∀ W', KeepA b g3 W' → ((True) ∧ (IsS 5 Ins.enc W' rc cc code ∧ ∀ x ∈ code, x.ok)) ∧ (IsS 10 Fx.enc W' rt ct types ∧ ∀ x ∈ types, x.ok)) := H! (fun W' hW => ⟨HFA2.out W' (((HS.out.toA (by omega) (Nat.le_refl _)).trans hkn).trans hW), HFc.out W' (hkn.trans hW)⟩)
     have HSB3 : Hid (SxB s3) := H! (fun bs' e => by
      rw [HR3.out.sx] at e
      cases bad3
      ·
       cases e; exact fun x hx => wf_u8 (HR3.out.ints.wf x hx)
      ·
       cases e)
     have hbD3 : b < g3.heap.size := by omega
     have hPD3 : P < g3.heap.size := by omega
     have hRD3 : R < g3.heap.size := by omega
     clear HCn hsl hsb HSc HSd u0c u0f u1c u1f hzset hkn hrn hwn HS HO HV HP HL HFc AR2 HFA2 HBw2 HSB2 HM2 HBr hbr b0c b0f b1c b1f hbw3 hsz HGx
     go_wp2
     go_loopg [16] n3 (fun kx sx wr => ∃ (k : Nat) (r : Option Addr) (c : Nat) (rows : List Cv) (rx : Option Addr) (cx : Nat) (bx : List Int) (ax : Bool) (sr : Sx), sx = .int .i64 k ∧ k ≤ n3 ∧ n3 - k ≤ kx ∧ Hid (Sg g3 g3.heap.size b P wr [.slice rx bx.length cx, .bool ax] [.slice rc code.length cc, .slice rt types.length ct, .slice r rows.length c, .slice none 0 0, .int .i64 0, .slice none 0 0, .slice none 0 0, .slice none 0 0, .slice none 0 0]) ∧ Hid (OwnR 55 2 Cv.enc wr g3.heap.size r c rows) ∧ Hid (RdV w rx cx bx ax sr) ∧ Hid ((rows.map Cv.p, sr) = pRep pCv k s3) ∧ Hid (rows.length = k) ∧ Hid (∀ x ∈ rows, IntsO g3.heap.size r wr x.rx x.cx x.X ∧ IntsO g3.heap.size r wr x.ry x.cy x.Y))
     case atStart => exact ⟨0, none, 0, [], r3, c3, bs3, bad3, s3, rfl, by omega, by omega, HS3, H! (OwnR.nil _ _), HR3, H! rfl, H! rfl, H! (fun x hx => by simp at hx)⟩
     case round =>
      clear HS3 HR3
      obtain ⟨k, rv, cv, curves, rx, cx, bx, ax, e3, rfl, hk, hkx, HS, HO, HV, HP, HL, HD⟩ := hrel
      have hsz := HS.out.sz
      have HBr : Hid (Below w.heap.size w wr) := H! (HBw3.out.trans (HS.out.toBelow (by omega) hwb hwP))
      obtain ⟨b0c, b0f⟩ := HS.out.rd 0 _ rfl
      obtain ⟨b1c, b1f⟩ := HS.out.rd 1 _ rfl
      have hbr : b < wr.heap.size := by omega
      by_cases hlt : k < n3
      ·
       skip
       have hk1 : (0 : Int) ≤ (k : Int) := by omega
       have hk2 : (k : Int) < n3 := by omega
       have HT1 := H! (rints_any w wr HV.out HBr.out)
       have HT2 := H! (fun W r c bs bad (h : RdV w r c bs bad (pList e3).2) (hb : Below w.heap.size w W) => rints_any w W h hb)
       have HWX := H! (pList_wf e3)
       have HWY := H! (pList_wf (pList e3).2)
       have HPn : Hid ((curves.map Cv.p ++ [(((pList e3).1, (pList (pList e3).2).1) : List Int × List Int)], (pList (pList e3).2).2) = pRep pCv (k + 1) s3) := H! (by rw [pRep, ← HP.out]; rfl)
       have hol : curves.length ≤ 100000 := by have := HL.out; omega
       generalize (pList (pList e3).2).2 = t2 at *
       generalize (pList (pList e3).2).1 = Y at *
       generalize (pList e3).2 = t1 at *
       generalize (pList e3).1 = X at *
       go_upto_region 27 with (go_at_call 92; refine HT1.out.mono ?_; rintro _ v3 ⟨rX, cX, rp, cp, bsp, badp, rfl, hoX, hrp, hbv3⟩; have HOX := H! hoX; have HRp := H! hrp; clear hoX hrp)
       have hzv3 := hbv3.size
       have ATp := AtV.new v3 [.slice rp bsp.length cp, .bool badp] 122
       change AtV (v3.alloc (.cells #[.slice rp bsp.length cp, .bool badp] 122)) _ _ at ATp
       have hbv4 : Below wr.heap.size wr (v3.alloc (.cells #[.slice rp bsp.length cp, .bool badp] 122)) := hbv3.alloc hzv3 _
       have hzv4 : (v3.alloc (.cells #[.slice rp bsp.length cp, .bool badp] 122)).heap.size = v3.heap.size + 1 := zA _ _
       have halp : Below v3.heap.size v3 (v3.alloc (.cells #[.slice rp bsp.length cp, .bool badp] 122)) := (Below.refl _ _).alloc (Nat.le_refl _) _
       generalize v3.alloc (.cells #[.slice rp bsp.length cp, .bool badp] 122) = v4 at *
       obtain ⟨T, hT⟩ : ∃ T, T = v3.heap.size := ⟨_, rfl⟩
       rw [← hT] at ATp hzv4 ⊢
       have hTa : T < v4.heap.size := by omega
       have hTb : wr.heap.size ≤ T := by omega
       have hTc : v3.heap.size ≤ T := by omega
       have ⟨t0p, _⟩ := ATp 0 _ rfl
       have ⟨t1p, _⟩ := ATp 1 _ rfl
       clear hzv4 hT
       have HBv4 : Hid (Below w.heap.size w v4) := H! (HBr.out.trans (hbv4.mono HBr.out.size))
       have HT3 := H! (HT2.out v4 rp cp bsp badp HRp.out HBv4.out)
       have hzv4 := hbv4.size
       go_upto_region 28 with (go_at_call 92; refine HT3.out.mono ?_; rintro _ v5 ⟨rY, cY, rq, cq, bsq, badq, rfl, hoY, hrq, hbv5⟩; have HOY := H! hoY; have HRq := H! hrq; clear hoY hrq)
       have hzv5 := hbv5.size
       have ATq := AtV.new v5 [.slice rq bsq.length cq, .bool badq] 122
       change AtV (v5.alloc (.cells #[.slice rq bsq.length cq, .bool badq] 122)) _ _ at ATq
       have hbv6 : Below v4.heap.size v4 (v5.alloc (.cells #[.slice rq bsq.length cq, .bool badq] 122)) := hbv5.alloc hzv5 _
       have hzv6 : (v5.alloc (.cells #[.slice rq bsq.length cq, .bool badq] 122)).heap.size = v5.heap.size + 1 := zA _ _
       have halq : Below v5.heap.size v5 (v5.alloc (.cells #[.slice rq bsq.length cq, .bool badq] 122)) := (Below.refl _ _).alloc (Nat.le_refl _) _
       generalize v5.alloc (.cells #[.slice rq bsq.length cq, .bool badq] 122) = v6 at *
       obtain ⟨T2, hT2⟩ : ∃ T, T = v5.heap.size := ⟨_, rfl⟩
       rw [← hT2] at ATq hzv6 ⊢
       have hT2a : T2 < v6.heap.size := by omega
       have hT2b : v4.heap.size ≤ T2 := by omega
       have hT2c : v5.heap.size ≤ T2 := by omega
       have ⟨t0q, _⟩ := ATq 0 _ rfl
       have ⟨t1q, _⟩ := ATq 1 _ rfl
       clear hzv6 hT2
       have hbr6 : Below wr.heap.size wr v6 := hbv4.trans (hbv6.mono hzv4)
       have hzv6 := hbr6.size
       have HSv6 := H! (HS.out.below hbD3 hPD3 hbr6)
       have HOv6 := H! (HO.out.below hbr6 (Nat.le_refl _))
       have HD6 : Hid (∀ x ∈ curves, IntsO g3.heap.size rv v6 x.rx x.cx x.X ∧ IntsO g3.heap.size rv v6 x.ry x.cy x.Y) := H! (fun x hx => ⟨(HD.out x hx).1.below hbr6, (HD.out x hx).2.below hbr6⟩)
       have HX6 : Hid (IntsO g3.heap.size rv v6 rX cX X) := H! (((IntsO.new HOX.out (by omega) (fun a ha => (HO.out.lt a ha).2) HWX.out).below halp).below hbv6)
       have HY6 : Hid (IntsO g3.heap.size rv v6 rY cY Y) := H! ((IntsO.new HOY.out (by omega) (fun a ha => by have := (HO.out.lt a ha).2; omega) HWY.out).below halq)
       clear HOX HOY HS HO HD HT1 HT2 HT3
       obtain ⟨u0c, u0f⟩ := HSv6.out.rd 0 _ rfl
       obtain ⟨u1c, u1f⟩ := HSv6.out.rd 1 _ rfl
       have nTb : ¬ T2 = b := by omega
       have nbT : ¬ b = T2 := by omega
       have hbu : b < v6.heap.size := by have := HSv6.out.sz; omega
       go_upto_region 29 with fail
       have HSv7 := H! (HSv6.out.setRd nPb (.slice rq bsq.length cq) (.bool badq))
       have HOv7 := H! (HOv6.out.set2 hbD3 (.slice rq bsq.length cq) (.bool badq))
       have HD7 : Hid (∀ x ∈ curves, IntsO g3.heap.size rv ((v6.setCell ⟨b, 0, none⟩ (.slice rq bsq.length cq)).setCell ⟨b, 1, none⟩ (.bool badq)) x.rx x.cx x.X ∧ IntsO g3.heap.size rv ((v6.setCell ⟨b, 0, none⟩ (.slice rq bsq.length cq)).setCell ⟨b, 1, none⟩ (.bool badq)) x.ry x.cy x.Y) := H! (fun x hx => ⟨(HD6.out x hx).1.set2 hbD3 _ _, (HD6.out x hx).2.set2 hbD3 _ _⟩)
       have HX7 : Hid (IntsO g3.heap.size rv ((v6.setCell ⟨b, 0, none⟩ (.slice rq bsq.length cq)).setCell ⟨b, 1, none⟩ (.bool badq)) rX cX X) := H! (HX6.out.set2 hbD3 _ _)
       have HY7 : Hid (IntsO g3.heap.size rv ((v6.setCell ⟨b, 0, none⟩ (.slice rq bsq.length cq)).setCell ⟨b, 1, none⟩ (.bool badq)) rY cY Y) := H! (HY6.out.set2 hbD3 _ _)
       clear HD6 HX6 HY6
       have hzset : ((v6.setCell ⟨b, 0, none⟩ (.slice rq bsq.length cq)).setCell ⟨b, 1, none⟩ (.bool badq)).heap.size = v6.heap.size := by simp only [zS]
       generalize (v6.setCell ⟨b, 0, none⟩ (.slice rq bsq.length cq)).setCell ⟨b, 1, none⟩ (.bool badq) = v7 at *
       have hzs1v7 : v7.heap.size ≤ v6.heap.size := by omega
       have hzs2v7 : v6.heap.size ≤ v7.heap.size := by omega
       clear hzset u0c u0f u1c u1f nTb nbT hbu t0q t1q
       have hz5 := HSv7.out.sz
       obtain ⟨p2c, p2f⟩ := HSv7.out.at_ 2 _ rfl
       have hP7 : P < v7.heap.size := by omega
       go_wp2_with (first | (at_builtin; refine wpList_append_rowf Tryz.underlying24 infoCurve rfl (by omega) (by omega) (by rfl) _ _ (by rfl) v7 g3.heap.size rv cv curves ((⟨rX, cX, X, rY, cY, Y⟩ : Cv)) (by rfl) (fun u hu => by simp only [Cv.enc, List.mem_cons, List.not_mem_nil, or_false] at hu; rcases hu with rfl | rfl <;> rfl) (by rfl) (by rfl) (by rfl) HOv7.out (by omega) HSv7.out.sz ?_; intro r' c' w9 hown9 hbw9 hst9 hrr9; have HS9 := H! (HSv7.out.row hbD3 hPD3 nPb hbw9 (j := 2) (by simp) (.slice r' (curves.length + 1) c')); have HO9 := H! (hown9.setb hPD3 (q := P) (j := 2) (.slice r' (curves.length + 1) c')); have p9c := (hbw9.cell (p := ⟨P, 2, none⟩) hPD3).trans (HSv7.out.at_ 2 _ rfl).1; have p9f := (hbw9.frozen (p := ⟨P, 2, none⟩) hPD3).trans (HSv7.out.at_ 2 _ rfl).2; have HST := H! hst9; have HRR := H! hrr9; have HBW9 := H! hbw9; have hz9 := hbw9.size; clear hst9 hrr9 hown9 hbw9))
       have HDn : Hid (∀ x ∈ curves ++ [(⟨rX, cX, X, rY, cY, Y⟩ : Cv)], IntsO g3.heap.size r' (w9.setCell ⟨P, 2, none⟩ (.slice r' (curves.length + 1) c')) x.rx x.cx x.X ∧ IntsO g3.heap.size r' (w9.setCell ⟨P, 2, none⟩ (.slice r' (curves.length + 1) c')) x.ry x.cy x.Y) := H! (fun x hx => by
        rcases List.mem_append.1 hx with hx | hx
        ·
         obtain ⟨h1, h2⟩ := HD7.out x hx
         exact ⟨h1.grow HST.out hz9 HRR.out hPD3 _, h2.grow HST.out hz9 HRR.out hPD3 _⟩
        ·
         simp only [List.mem_singleton] at hx
         subst hx
         exact ⟨HX7.out.grow HST.out hz9 HRR.out hPD3 _, HY7.out.grow HST.out hz9 HRR.out hPD3 _⟩)
       go_roundg (n3 - (k + 1))
       case measure => omega
       case rel => exact ⟨k + 1, r', c', curves ++ [⟨rX, cX, X, rY, cY, Y⟩], rq, cq, bsq, badq, t2, by go_num, by omega, by omega, H! (by simpa using HS9.out), HO9, HRq, H! (by rw [List.map_append]; exact HPn.out), H! (by rw [List.length_append, HL.out]; rfl), HDn⟩
      ·
       obtain rfl : k = n3 := by omega
       have HQ3 : Hid (pMany pCv 16 e2 = (curves.map Cv.p, e3)) := H! (by rw [HM3.out, HP.out])
       have HFc : Hid (∀ W', KeepA b wr W' → IsS 2 Cv.enc W' rv cv curves ∧ ∀ x ∈ curves, x.ok W') := H! (fun W' hW => ⟨HO.out.closed (fun _ => rfl) hbD3 hbD3 W' hW, fun x hx => ⟨(HD.out x hx).1.closed hbD3 hbD3 W' hW, (HD.out x hx).2.closed hbD3 hbD3 W' hW⟩⟩)
       have HCn := H! (rcnt_any 16 w wr HV.out HBr.out (by omega) (by omega))
       have hsl : SxL e3 := fun bs' e => by
        have h := HV.out.len
        rw [HV.out.sx] at e
        cases ax
        ·
         cases e; exact h
        ·
         cases e
       have hcl4 := pCount_le (size := 16) hsl
       have hsb : SxB e3 := fun bs' e => by
        rw [HV.out.sx] at e
        cases ax
        ·
         cases e; exact fun x hx => wf_u8 (HV.out.ints.wf x hx)
        ·
         cases e
       have HM4 : Hid (pMany pMp 16 e3 = pRep pMp (pCount 16 e3).1 (pCount 16 e3).2) := H! rfl
       generalize (pCount 16 e3).1 = n4 at *
       generalize (pCount 16 e3).2 = s4 at *
       go_upto_region 31 with (go_at_call 88; refine HCn.out.mono ?_; rintro _ w4 ⟨r4, c4, bs4, bad4, rfl, hr4, hbw4⟩; have HR4 := H! hr4; clear hr4; have HSc := H! (HS.out.below hbD3 hPD3 hbw4); obtain ⟨u0c, u0f⟩ := HSc.out.rd 0 _ rfl; obtain ⟨u1c, u1f⟩ := HSc.out.rd 1 _ rfl; have hzw4 := hbw4.size; have hbu : b < w4.heap.size := (by omega))
       have HSd := H! (HSc.out.setRd nPb (.slice r4 bs4.length c4) (.bool bad4))
       have hzset : ((w4.setCell ⟨b, 0, none⟩ (.slice r4 bs4.length c4)).setCell ⟨b, 1, none⟩ (.bool bad4)).heap.size = w4.heap.size := by simp only [zS]
       have hkn : KeepA b wr ((w4.setCell ⟨b, 0, none⟩ (.slice r4 bs4.length c4)).setCell ⟨b, 1, none⟩ (.bool bad4)) := (KeepA.below hbw4).trans (KeepA.set2 _ (Nat.le_refl _) _ _)
       have hrn : ((w4.setCell ⟨b, 0, none⟩ (.slice r4 bs4.length c4)).setCell ⟨b, 1, none⟩ (.bool bad4)).heap[R]? = w4.heap[R]? := (Below.heap_setCell _ _ _ _ nRb).trans (Below.heap_setCell _ _ _ _ nRb)
       have hwn : Below w.heap.size w ((w4.setCell ⟨b, 0, none⟩ (.slice r4 bs4.length c4)).setCell ⟨b, 1, none⟩ (.bool bad4)) := two_set hwb (HBr.out.trans (hbw4.mono (by omega))) _ _
       generalize (w4.setCell ⟨b, 0, none⟩ (.slice r4 bs4.length c4)).setCell ⟨b, 1, none⟩ (.bool bad4) = g4 at *
       have HBw4 : Hid (Below w.heap.size w g4) := H! hwn
       have AR4 : Hid (AtV g4 R [.slice none 0 0, .slice none 0 0, .slice none 0 0, .slice none 0 0, .int .i64 0, .slice none 0 0, .slice none 0 0, .slice none 0 0, .slice none 0 0]) := H! (((AR3.out.keep (HS.out.keep.block R (by omega) nRb nRP)).keep (hbw4.block R (by omega))).keep hrn)
       have HS4 : Hid (Sg g4 g4.heap.size b P g4 [.slice r4 bs4.length c4, .bool bad4] [.slice rc code.length cc, .slice rt types.length ct, .slice rv curves.length cv, .slice none 0 0, .int .i64 0, .slice none 0 0, .slice none 0 0, .slice none 0 0, .slice none 0 0]) := H! ⟨Nat.le_refl _, Keep2.refl _ _ _ _, HSd.out.rd, HSd.out.at_⟩
       have HFA4 : Hid (∀ W', KeepA b g4 W' → (((True) ∧ (IsS 5 Ins.enc W' rc cc code ∧ ∀ x ∈ code, x.ok)) ∧ (IsS 10 Fx.enc W' rt ct types ∧ ∀ x ∈ types, x.ok)) ∧ (IsS 2 Cv.enc W' rv cv curves ∧ ∀ x ∈ curves, x.ok W')) := H! (fun W' hW => ⟨HFA3.out W' (((HS.out.toA (by omega) (Nat.le_refl _)).trans hkn).trans hW), HFc.out W' (hkn.trans hW)⟩)
       have HSB4 : Hid (SxB s4) := H! (fun bs' e => by
        rw [HR4.out.sx] at e
        cases bad4
        ·
         cases e; exact fun x hx => wf_u8 (HR4.out.ints.wf x hx)
        ·
         cases e)
       have hbD4 : b < g4.heap.size := by omega
       have hPD4 : P < g4.heap.size := by omega
       have hRD4 : R < g4.heap.size := by omega
       clear HCn hsl hsb HSc HSd u0c u0f u1c u1f hzset hkn hrn hwn HS HO HV HP HL HFc AR3 HFA3 HBw3 HSB3 HM3 HBr hbr b0c b0f b1c b1f hbw4 hsz HD
       go_wp2
       go_loopg [21] n4 (fun kx sx wr => ∃ (k : Nat) (r : Option Addr) (c : Nat) (rows : List Mq) (rx : Option Addr) (cx : Nat) (bx : List Int) (ax : Bool) (sr : Sx), sx = .int .i64 k ∧ k ≤ n4 ∧ n4 - k ≤ kx ∧ Hid (Sg g4 g4.heap.size b P wr [.slice rx bx.length cx, .bool ax] [.slice rc code.length cc, .slice rt types.length ct, .slice rv curves.length cv, .slice r rows.length c, .int .i64 0, .slice none 0 0, .slice none 0 0, .slice none 0 0, .slice none 0 0]) ∧ Hid (OwnR 60 3 Mq.enc wr g4.heap.size r c rows) ∧ Hid (RdV w rx cx bx ax sr) ∧ Hid ((rows.map (fun m : Mq => m.mp.p), sr) = pRep pMp k s4) ∧ Hid (rows.length = k) ∧ Hid (∀ x ∈ rows, MqO g4.heap.size r wr x))
       case atStart => exact ⟨0, none, 0, [], r4, c4, bs4, bad4, s4, rfl, by omega, by omega, HS4, H! (OwnR.nil _ _), HR4, H! rfl, H! rfl, H! (fun x hx => by simp at hx)⟩
       case round =>
        clear HS4 HR4
        obtain ⟨k, rm, cm, maps, rx, cx, bx, ax, e4, rfl, hk, hkx, HS, HO, HV, HP, HL, HD⟩ := hrel
        have hsz := HS.out.sz
        have HBr : Hid (Below w.heap.size w wr) := H! (HBw4.out.trans (HS.out.toBelow (by omega) hwb hwP))
        obtain ⟨b0c, b0f⟩ := HS.out.rd 0 _ rfl
        obtain ⟨b1c, b1f⟩ := HS.out.rd 1 _ rfl
        have hbr : b < wr.heap.size := by omega
        by_cases hlt : k < n4
        ·
         skip
         have hk1 : (0 : Int) ≤ (k : Int) := by omega
         have hk2 : (k : Int) < n4 := by omega
         have HT1 := H! (rints_any w wr HV.out HBr.out)
         have HT2 := H! (fun W r c bs bad (h : RdV w r c bs bad (pList e4).2) (hb : Below w.heap.size w W) => rints_any w W h hb)
         have HWX := H! (pList_wf e4)
         have HWY := H! (pList_wf (pList e4).2)
         have HPn : Hid ((maps.map (fun m : Mq => m.mp.p) ++ [((pList e4).1, (pList (pList e4).2).1, (pRep pList (pList e4).1.length (pList (pList e4).2).2).1)], (pRep pList (pList e4).1.length (pList (pList e4).2).2).2) = pRep pMp (k + 1) s4) := H! (by rw [pRep, ← HP.out]; rfl)
         have hol : maps.length ≤ 100000 := by have := HL.out; omega
         have hsl4 : SxL e4 := fun bs' e => by
          have h := HV.out.len
          rw [HV.out.sx] at e
          cases ax
          ·
           cases e; exact h
          ·
           cases e
         have hXl : (pList e4).1.length ≤ 100000 := by unfold pList; rw [pRep_len]; exact pCount_le hsl4
         clear hsl4
         generalize (pList (pList e4).2).2 = t2 at *
         generalize (pList (pList e4).2).1 = Y at *
         generalize (pList e4).2 = t1 at *
         generalize (pList e4).1 = X at *
         go_upto_region 35 with (go_at_call 92; refine HT1.out.mono ?_; rintro _ v3 ⟨rX, cX, rp, cp, bsp, badp, rfl, hoX, hrp, hbv3⟩; have HOX := H! hoX; have HRp := H! hrp; clear hoX hrp)
         have hzv3 := hbv3.size
         have ATp := AtV.new v3 [.slice rp bsp.length cp, .bool badp] 122
         change AtV (v3.alloc (.cells #[.slice rp bsp.length cp, .bool badp] 122)) _ _ at ATp
         have hbv4 : Below wr.heap.size wr (v3.alloc (.cells #[.slice rp bsp.length cp, .bool badp] 122)) := hbv3.alloc hzv3 _
         have hzv4 : (v3.alloc (.cells #[.slice rp bsp.length cp, .bool badp] 122)).heap.size = v3.heap.size + 1 := zA _ _
         have halp : Below v3.heap.size v3 (v3.alloc (.cells #[.slice rp bsp.length cp, .bool badp] 122)) := (Below.refl _ _).alloc (Nat.le_refl _) _
         generalize v3.alloc (.cells #[.slice rp bsp.length cp, .bool badp] 122) = v4 at *
         obtain ⟨T, hT⟩ : ∃ T, T = v3.heap.size := ⟨_, rfl⟩
         rw [← hT] at ATp hzv4 ⊢
         have hTa : T < v4.heap.size := by omega
         have hTb : wr.heap.size ≤ T := by omega
         have hTc : v3.heap.size ≤ T := by omega
         have ⟨t0p, _⟩ := ATp 0 _ rfl
         have ⟨t1p, _⟩ := ATp 1 _ rfl
         clear hzv4 hT
         have HBv4 : Hid (Below w.heap.size w v4) := H! (HBr.out.trans (hbv4.mono HBr.out.size))
         have HT3 := H! (HT2.out v4 rp cp bsp badp HRp.out HBv4.out)
         have hzv4 := hbv4.size
         go_upto_region 36 with (go_at_call 92; refine HT3.out.mono ?_; rintro _ v5 ⟨rY, cY, rq, cq, bsq, badq, rfl, hoY, hrq, hbv5⟩; have HOY := H! hoY; have HRq := H! hrq; clear hoY hrq)
         have hzv5 := hbv5.size
         have ATq := AtV.new v5 [.slice rq bsq.length cq, .bool badq] 122
         change AtV (v5.alloc (.cells #[.slice rq bsq.length cq, .bool badq] 122)) _ _ at ATq
         have hbv6 : Below v4.heap.size v4 (v5.alloc (.cells #[.slice rq bsq.length cq, .bool badq] 122)) := hbv5.alloc hzv5 _
         have hzv6 : (v5.alloc (.cells #[.slice rq bsq.length cq, .bool badq] 122)).heap.size = v5.heap.size + 1 := zA _ _
         have halq : Below v5.heap.size v5 (v5.alloc (.cells #[.slice rq bsq.length cq, .bool badq] 122)) := (Below.refl _ _).alloc (Nat.le_refl _) _
         generalize v5.alloc (.cells #[.slice rq bsq.length cq, .bool badq] 122) = v6 at *
         obtain ⟨T2, hT2⟩ : ∃ T, T = v5.heap.size := ⟨_, rfl⟩
         rw [← hT2] at ATq hzv6 ⊢
         have hT2a : T2 < v6.heap.size := by omega
         have hT2b : v4.heap.size ≤ T2 := by omega
         have hT2c : v5.heap.size ≤ T2 := by omega
         have ⟨t0q, _⟩ := ATq 0 _ rfl
         have ⟨t1q, _⟩ := ATq 1 _ rfl
         clear hzv6 hT2
         have hbr6 : Below wr.heap.size wr v6 := hbv4.trans (hbv6.mono hzv4)
         have hzv6 := hbr6.size
         have HSv6 := H! (HS.out.below hbD4 hPD4 hbr6)
         have HOv6 := H! (HO.out.below hbr6 (Nat.le_refl _))
         have HD6 : Hid (∀ x ∈ maps, MqO g4.heap.size rm v6 x) := H! (fun x hx => (HD.out x hx).below hbr6)
         have HX6 : Hid (IntsO g4.heap.size rm v6 rX cX X) := H! (((IntsO.new HOX.out (by omega) (fun a ha => (HO.out.lt a ha).2) HWX.out).below halp).below hbv6)
         have HY6 : Hid (IntsO g4.heap.size rm v6 rY cY Y) := H! ((IntsO.new HOY.out (by omega) (fun a ha => by have := (HO.out.lt a ha).2; omega) HWY.out).below halq)
         clear HOX HOY HS HO HD HT1 HT2 HT3
         obtain ⟨u0c, u0f⟩ := HSv6.out.rd 0 _ rfl
         obtain ⟨u1c, u1f⟩ := HSv6.out.rd 1 _ rfl
         have nTb : ¬ T2 = b := by omega
         have nbT : ¬ b = T2 := by omega
         have hbu : b < v6.heap.size := by have := HSv6.out.sz; omega
         go_upto_region 37 with fail
         have HSv7 := H! (HSv6.out.setRd nPb (.slice rq bsq.length cq) (.bool badq))
         have HOv7 := H! (HOv6.out.set2 hbD4 (.slice rq bsq.length cq) (.bool badq))
         have HD7 : Hid (∀ x ∈ maps, MqO g4.heap.size rm ((v6.setCell ⟨b, 0, none⟩ (.slice rq bsq.length cq)).setCell ⟨b, 1, none⟩ (.bool badq)) x) := H! (fun x hx => (HD6.out x hx).set2 hbD4 _ _)
         have HX7 : Hid (IntsO g4.heap.size rm ((v6.setCell ⟨b, 0, none⟩ (.slice rq bsq.length cq)).setCell ⟨b, 1, none⟩ (.bool badq)) rX cX X) := H! (HX6.out.set2 hbD4 _ _)
         have HY7 : Hid (IntsO g4.heap.size rm ((v6.setCell ⟨b, 0, none⟩ (.slice rq bsq.length cq)).setCell ⟨b, 1, none⟩ (.bool badq)) rY cY Y) := H! (HY6.out.set2 hbD4 _ _)
         clear HD6 HX6 HY6
         have hzset : ((v6.setCell ⟨b, 0, none⟩ (.slice rq bsq.length cq)).setCell ⟨b, 1, none⟩ (.bool badq)).heap.size = v6.heap.size := by simp only [zS]
         generalize (v6.setCell ⟨b, 0, none⟩ (.slice rq bsq.length cq)).setCell ⟨b, 1, none⟩ (.bool badq) = v7 at *
         have hzs1v7 : v7.heap.size ≤ v6.heap.size := by omega
         have hzs2v7 : v6.heap.size ≤ v7.heap.size := by omega
         clear hzset u0c u0f u1c u1f nTb nbT hbu t0q t1q
         have hz5 := HSv7.out.sz
         go_upto_region 38 with fail
         have AM := AtV.new v7 [.slice rX X.length cX, .slice rY Y.length cY, .slice none 0 0] 60
         have hbm : Below v7.heap.size v7 (v7.alloc (.cells #[.slice rX X.length cX, .slice rY Y.length cY, .slice none 0 0] 60)) := (Below.refl _ _).alloc (Nat.le_refl _) _
         have hzm : (v7.alloc (.cells #[.slice rX X.length cX, .slice rY Y.length cY, .slice none 0 0] 60)).heap.size = v7.heap.size + 1 := zA _ _
         change AtV (v7.alloc (.cells #[.slice rX X.length cX, .slice rY Y.length cY, .slice none 0 0] 60)) _ _ at AM
         generalize v7.alloc (.cells #[.slice rX X.length cX, .slice rY Y.length cY, .slice none 0 0] 60) = v8 at *
         obtain ⟨M, hM⟩ : ∃ M, M = v7.heap.size := ⟨_, rfl⟩
         have HSv8 := H! (HSv7.out.below hbD4 hPD4 hbm)
         have HBv8 : Hid (Below w.heap.size w v8) := H! (HBw4.out.trans (HSv8.out.toBelow (by omega) hwb hwP))
         have HBM := H! hbm
         rw [← hM] at AM hzm ⊢
         have hM1 : v7.heap.size ≤ M := by omega
         have hM2 : M ≤ v7.heap.size := by omega
         have hM3 : M + 1 ≤ v8.heap.size := by omega
         have hM4 : v8.heap.size ≤ M + 1 := by omega
         have nMb : ¬ M = b := by omega
         have nbM : ¬ b = M := by omega
         have nMP : ¬ M = P := by omega
         have nPM : ¬ P = M := by omega
         have hbM1 : b < M + 1 := by omega
         have hMM1 : M < M + 1 := by omega
         have hDM : g4.heap.size ≤ M := by omega
         have hwM : w.heap.size ≤ M := by omega
         have HSm : Hid (Sg v8 (M + 1) b M v8 [.slice rq bsq.length cq, .bool badq] [.slice rX X.length cX, .slice rY Y.length cY, .slice none 0 0]) := H! ⟨hM3, Keep2.refl _ _ _ _, HSv8.out.rd, AM⟩
         have hXX : (X.length : Int) ≤ 100000 := by omega
         clear AM hM hzm hbm hbv4 hbv6 hbr6 b0c b0f b1c b1f
         go_wp2
         go_loopg [27] X.length (fun kx sx wr => ∃ (j : Nat) (r : Option Addr) (c : Nat) (rows : List Rw) (rx : Option Addr) (cx : Nat) (bx : List Int) (ax : Bool) (sr : Sx), sx = .int .i64 j ∧ j ≤ X.length ∧ X.length - j ≤ kx ∧ Hid (Sg v8 (M + 1) b M wr [.slice rx bx.length cx, .bool ax] [.slice rX X.length cX, .slice rY Y.length cY, .slice r rows.length c]) ∧ Hid (OwnR 26 1 Rw.enc wr (M + 1) r c rows) ∧ Hid (RdV w rx cx bx ax sr) ∧ Hid ((rows.map Rw.l, sr) = pRep pList j t2) ∧ Hid (rows.length = j) ∧ Hid (∀ x ∈ rows, IntsO (M + 1) r wr x.r x.c x.l))
         case atStart => exact ⟨0, none, 0, [], rq, cq, bsq, badq, t2, rfl, by omega, by omega, HSm, H! (OwnR.nil _ _), HRq, H! rfl, H! rfl, H! (fun x hx => by simp at hx)⟩
         case round =>
          clear HSm HRq
          obtain ⟨j, rz, cz, Z, rx, cx, bx, ax, ej, rfl, hj, hjx, HSj, HOj, HVj, HPj, HLj, HDj⟩ := hrel
          have hjz := HSj.out.sz
          have HBj : Hid (Below w.heap.size w wr) := H! (HBv8.out.trans (HSj.out.toBelow (by omega) hwb hwM))
          obtain ⟨b0c, b0f⟩ := HSj.out.rd 0 _ rfl
          obtain ⟨b1c, b1f⟩ := HSj.out.rd 1 _ rfl
          have hbr : b < wr.heap.size := by omega
          by_cases hjl : j < X.length
          ·
           have hj1 : (0 : Int) ≤ (j : Int) := by omega
           have hj2 : (j : Int) < X.length := by omega
           have HTr := H! (rints_any w wr HVj.out HBj.out)
           have HWr := H! (pList_wf ej)
           have HPj2 : Hid ((Z.map Rw.l ++ [(pList ej).1], (pList ej).2) = pRep pList (j + 1) t2) := H! (by rw [pRep, ← HPj.out])
           generalize (pList ej).1 = row at *
           generalize (pList ej).2 = ej2 at *
           have hzl : Z.length ≤ 100000 := by have := HLj.out; omega
           go_upto_region 42 with (go_at_call 92; refine HTr.out.mono ?_; rintro _ x3 ⟨rQ, cQ, ru, cu, bsu, badu, rfl, hoQ, hru, hbx3⟩; have HOQ := H! hoQ; have HRu := H! hru; clear hoQ hru)
           have hzx3 := hbx3.size
           have ATu := AtV.new x3 [.slice ru bsu.length cu, .bool badu] 122
           change AtV (x3.alloc (.cells #[.slice ru bsu.length cu, .bool badu] 122)) _ _ at ATu
           have hbx4 : Below wr.heap.size wr (x3.alloc (.cells #[.slice ru bsu.length cu, .bool badu] 122)) := hbx3.alloc hzx3 _
           have hzx4 : (x3.alloc (.cells #[.slice ru bsu.length cu, .bool badu] 122)).heap.size = x3.heap.size + 1 := zA _ _
           have halu : Below x3.heap.size x3 (x3.alloc (.cells #[.slice ru bsu.length cu, .bool badu] 122)) := (Below.refl _ _).alloc (Nat.le_refl _) _
           generalize x3.alloc (.cells #[.slice ru bsu.length cu, .bool badu] 122) = x4 at *
           obtain ⟨T3, hT3⟩ : ∃ T, T = x3.heap.size := ⟨_, rfl⟩
           rw [← hT3] at ATu hzx4 ⊢
           have hT3a : T3 < x4.heap.size := by omega
           have hT3b : wr.heap.size ≤ T3 := by omega
           have hT3c : x3.heap.size ≤ T3 := by omega
           have ⟨t0u, _⟩ := ATu 0 _ rfl
           have ⟨t1u, _⟩ := ATu 1 _ rfl
           clear hzx4 hT3
           have HSx4 := H! (HSj.out.below hbM1 hMM1 hbx4)
           have HOx4 := H! (HOj.out.below hbx4 (Nat.le_refl _))
           have hzx4 := hbx4.size
           have HD4 : Hid (∀ x ∈ Z, IntsO (M + 1) rz x4 x.r x.c x.l) := H! (fun x hx => (HDj.out x hx).below hbx4)
           have HQ4 : Hid (IntsO (M + 1) rz x4 rQ cQ row) := H! ((IntsO.new HOQ.out (by omega) (fun a ha => (HOj.out.lt a ha).2) HWr.out).below halu)
           clear HOQ HSj HOj HDj HTr
           obtain ⟨u0c, u0f⟩ := HSx4.out.rd 0 _ rfl
           obtain ⟨u1c, u1f⟩ := HSx4.out.rd 1 _ rfl
           have nTb : ¬ T3 = b := by omega
           have nbT : ¬ b = T3 := by omega
           have hbu : b < x4.heap.size := by have := HSx4.out.sz; omega
           go_upto_region 43 with fail
           have HSx5 := H! (HSx4.out.setRd nMb (.slice ru bsu.length cu) (.bool badu))
           have HOx5 := H! (HOx4.out.set2 hbM1 (.slice ru bsu.length cu) (.bool badu))
           have HD5 : Hid (∀ x ∈ Z, IntsO (M + 1) rz ((x4.setCell ⟨b, 0, none⟩ (.slice ru bsu.length cu)).setCell ⟨b, 1, none⟩ (.bool badu)) x.r x.c x.l) := H! (fun x hx => (HD4.out x hx).set2 hbM1 _ _)
           have HQ5 : Hid (IntsO (M + 1) rz ((x4.setCell ⟨b, 0, none⟩ (.slice ru bsu.length cu)).setCell ⟨b, 1, none⟩ (.bool badu)) rQ cQ row) := H! (HQ4.out.set2 hbM1 _ _)
           clear HD4 HQ4
           have hzset : ((x4.setCell ⟨b, 0, none⟩ (.slice ru bsu.length cu)).setCell ⟨b, 1, none⟩ (.bool badu)).heap.size = x4.heap.size := by simp only [zS]
           generalize (x4.setCell ⟨b, 0, none⟩ (.slice ru bsu.length cu)).setCell ⟨b, 1, none⟩ (.bool badu) = x5 at *
           have hzs1x5 : x5.heap.size ≤ x4.heap.size := by omega
           have hzs2x5 : x4.heap.size ≤ x5.heap.size := by omega
           clear hzset u0c u0f u1c u1f nTb nbT hbu t0u t1u
           have hz5u := HSx5.out.sz
           obtain ⟨m2c, m2f⟩ := HSx5.out.at_ 2 _ rfl
           have hM5 : M < x5.heap.size := by omega
           go_wp2_with (first | (at_builtin; refine wpList_append_rowf Tryz.underlying58 infoRow rfl (by omega) (by omega) (by rfl) _ _ (by rfl) x5 (M + 1) rz cz Z ((⟨rQ, cQ, row⟩ : Rw)) (by rfl) (fun u hu => by simp only [Rw.enc, List.mem_cons, List.not_mem_nil, or_false] at hu; rcases hu with rfl; rfl) (by rfl) (by rfl) (by rfl) HOx5.out (by omega) HSx5.out.sz ?_; intro r' c' w9 hown9 hbw9 hst9 hrr9; have HS9 := H! (HSx5.out.row hbM1 hMM1 nMb hbw9 (j := 2) (by simp) (.slice r' (Z.length + 1) c')); have HO9 := H! (hown9.setb hMM1 (q := M) (j := 2) (.slice r' (Z.length + 1) c')); have p9c := (hbw9.cell (p := ⟨M, 2, none⟩) hMM1).trans (HSx5.out.at_ 2 _ rfl).1; have p9f := (hbw9.frozen (p := ⟨M, 2, none⟩) hMM1).trans (HSx5.out.at_ 2 _ rfl).2; have HST := H! hst9; have HRR := H! hrr9; have HBW9 := H! hbw9; have hz9 := hbw9.size; clear hst9 hrr9 hown9 hbw9))
           have HDn : Hid (∀ x ∈ Z ++ [(⟨rQ, cQ, row⟩ : Rw)], IntsO (M + 1) r' (w9.setCell ⟨M, 2, none⟩ (.slice r' (Z.length + 1) c')) x.r x.c x.l) := H! (fun x hx => by
            rcases List.mem_append.1 hx with hx | hx
            ·
             exact (HD5.out x hx).grow HST.out hz9 HRR.out hMM1 _
            ·
             simp only [List.mem_singleton] at hx
             subst hx
             exact HQ5.out.grow HST.out hz9 HRR.out hMM1 _)
           go_roundg (X.length - (j + 1))
           case measure => omega
           case rel => exact ⟨j + 1, r', c', Z ++ [⟨rQ, cQ, row⟩], ru, cu, bsu, badu, ej2, by go_num, by omega, by omega, H! (by simpa using HS9.out), HO9, HRu, H! (by rw [List.map_append]; exact HPj2.out), H! (by rw [List.length_append, HLj.out]; rfl), HDn⟩
          ·
           obtain rfl : j = X.length := by omega
           have HPn2 : Hid ((maps.map (fun m : Mq => m.mp.p) ++ [(X, Y, Z.map Rw.l)], ej) = pRep pMp (k + 1) s4) := H! (by have h := HPn.out; rw [← HPj.out] at h; exact h)
           clear HPn HPj
           have hzw : v7.heap.size ≤ wr.heap.size := by omega
           have HVM : Hid (∀ q, q < M → q ≠ b → wr.heap[q]? = v7.heap[q]?) := H! (fun q h1 h2 => (HSj.out.keep.block q (by omega) h2 (by omega)).trans (HBM.out.block q (by omega)))
           have HSw := H! (HSv8.out.outer HSj.out (by omega) hDM hPD4 nPb)
           have HOw : Hid (OwnR 60 3 Mq.enc wr g4.heap.size rm cm maps) := H! (HOv7.out.keep (fun a ha => HVM.out _ (by have := (HOv7.out.lt a ha).2; omega) (by have := (HOv7.out.lt a ha).1; omega)))
           have HDw : Hid (∀ x ∈ maps, MqO g4.heap.size rm wr x) := H! (fun x hx => (HD7.out x hx).step (fun q h1 h2 _ => HVM.out q (by omega) (by omega)) hzw (fun a ha => .inl ⟨a, ha, rfl⟩))
           have HNw : Hid (MqO g4.heap.size rm wr ⟨rX, cX, X, rY, cY, Y, rz, cz, Z⟩) := H!
            ⟨HX7.out.step (fun q h1 h2 _ => HVM.out q (by omega) (by omega)) hzw (fun a ha => .inl ⟨a, ha, rfl⟩), HY7.out.step (fun q h1 h2 _ => HVM.out q (by omega) (by omega)) hzw (fun a ha => .inl ⟨a, ha, rfl⟩), HOj.out.isS (fun _ => rfl),
             fun a ha => ⟨by have := (HOj.out.lt a ha).1; omega, (HOj.out.lt a ha).2, fun x hx => by have h1 := (HOv7.out.lt x hx).2; have h2 := (HOj.out.lt a ha).1; omega⟩,
             fun r hr => ((HDj.out r hr).done (g' := rm) (fun x hx => by have h1 := (HOv7.out.lt x hx).2; omega)).base (by omega)⟩
           obtain ⟨m0c, m0f⟩ := HSj.out.at_ 0 _ rfl
           obtain ⟨m1c, m1f⟩ := HSj.out.at_ 1 _ rfl
           obtain ⟨m2c, m2f⟩ := HSj.out.at_ 2 _ rfl
           obtain ⟨p3c, p3f⟩ := HSw.out.at_ 3 _ rfl
           have hPw4 : P < wr.heap.size := by omega
           have hMw4 : M < wr.heap.size := by omega
           clear HVM HSv8 HSv7 HOv7 HD7 HX7 HY7 HSj HOj HDj HBM
           go_wp2_with (first | (at_builtin; refine wpList_append_rowf Tryz.underlying25 infoMap rfl (by omega) (by omega) (by rfl) _ _ (by rfl) wr g4.heap.size rm cm maps ((⟨rX, cX, X, rY, cY, Y, rz, cz, Z⟩ : Mq)) (by rfl) (fun u hu => by simp only [Mq.enc, List.mem_cons, List.not_mem_nil, or_false] at hu; rcases hu with rfl | rfl | rfl <;> rfl) (by rfl) (by rfl) (by rfl) HOw.out (by omega) HSw.out.sz ?_; intro r' c' w9 hown9 hbw9 hst9 hrr9; have HS9 := H! (HSw.out.row hbD4 hPD4 nPb hbw9 (j := 3) (by simp) (.slice r' (maps.length + 1) c')); have HO9 := H! (hown9.setb hPD4 (q := P) (j := 3) (.slice r' (maps.length + 1) c')); have p9c := (hbw9.cell (p := ⟨P, 3, none⟩) hPD4).trans (HSw.out.at_ 3 _ rfl).1; have p9f := (hbw9.frozen (p := ⟨P, 3, none⟩) hPD4).trans (HSw.out.at_ 3 _ rfl).2; have HST := H! hst9; have HRR := H! hrr9; have HBW9 := H! hbw9; have hz9 := hbw9.size; clear hst9 hrr9 hown9 hbw9))
           have HDn : Hid (∀ x ∈ maps ++ [(⟨rX, cX, X, rY, cY, Y, rz, cz, Z⟩ : Mq)], MqO g4.heap.size r' (w9.setCell ⟨P, 3, none⟩ (.slice r' (maps.length + 1) c')) x) := H! (fun x hx => by
            rcases List.mem_append.1 hx with hx | hx
            ·
             exact (HDw.out x hx).grow HST.out hz9 HRR.out hPD4 _
            ·
             simp only [List.mem_singleton] at hx
             subst hx
             exact HNw.out.grow HST.out hz9 HRR.out hPD4 _)
           go_roundg (n4 - (k + 1))
           case measure => omega
           case rel => exact ⟨k + 1, r', c', maps ++ [⟨rX, cX, X, rY, cY, Y, rz, cz, Z⟩], rx, cx, bx, ax, ej, by go_num, by omega, by omega, H! (by simpa using HS9.out), HO9, HVj, H! (by rw [List.map_append]; exact HPn2.out), H! (by rw [List.length_append, HL.out]; rfl), HDn⟩
        ·
         obtain rfl : k = n4 := by omega
         have HQ4 : Hid (pMany pMp 16 e3 = (maps.map (fun m : Mq => m.mp.p), e4)) := H! (by rw [HM4.out, HP.out])
         have HFc : Hid (∀ W', KeepA b wr W' → IsS 3 Mq.enc W' rm cm maps ∧ ∀ x ∈ maps, x.mp.ok W') := H! (fun W' hW => ⟨HO.out.closed (fun _ => rfl) hbD4 hbD4 W' hW, fun x hx => (HD.out x hx).closed hbD4 hbD4 W' hW⟩)
         have HT0 := H! (rinteger_any w wr HV.out HBr.out)
         have HX0 := H! (pInt_wf e4)
         have HQ5 : Hid (pInt e4 = ((pInt e4).1, (pInt e4).2)) := H! rfl
         generalize (pInt e4).2 = t1 at *
         generalize (pInt e4).1 = x at *
         have HQL : Hid (pPrg (some part) = (⟨code, types, curves.map Cv.p, maps.map (fun m : Mq => m.mp.p), x, (pList t1).1, (pList (pList t1).2).1, (pList (pList (pList t1).2).2).1, (pList (pList (pList (pList t1).2).2).2).1⟩, (pList (pList (pList (pList t1).2).2).2).2)) := H! (by
          unfold pPrg
          rw [HQ1.out]; simp only
          rw [HQ2.out]; simp only
          rw [HQ3.out]; simp only
          rw [HQ4.out]; simp only
          rw [HQ5.out])
         have HW1 := H! (pList_wf t1)
         have HW2 := H! (pList_wf (pList t1).2)
         have HW3 := H! (pList_wf (pList (pList t1).2).2)
         have HW4 := H! (pList_wf (pList (pList (pList t1).2).2).2)
         have HG1 : Hid (∀ W r c bs bad, RdV w r c bs bad t1 → Below w.heap.size w W → _) := H! (fun W r c bs bad (h : RdV w r c bs bad t1) (hb : Below w.heap.size w W) => rints_any w W h hb)
         have HG2 : Hid (∀ W r c bs bad, RdV w r c bs bad (pList t1).2 → Below w.heap.size w W → _) := H! (fun W r c bs bad (h : RdV w r c bs bad (pList t1).2) (hb : Below w.heap.size w W) => rints_any w W h hb)
         have HG3 : Hid (∀ W r c bs bad, RdV w r c bs bad (pList (pList t1).2).2 → Below w.heap.size w W → _) := H! (fun W r c bs bad (h : RdV w r c bs bad (pList (pList t1).2).2) (hb : Below w.heap.size w W) => rints_any w W h hb)
         have HG4 : Hid (∀ W r c bs bad, RdV w r c bs bad (pList (pList (pList t1).2).2).2 → Below w.heap.size w W → _) := H! (fun W r c bs bad (h : RdV w r c bs bad (pList (pList (pList t1).2).2).2) (hb : Below w.heap.size w W) => rints_any w W h hb)
         generalize (pList (pList (pList (pList t1).2).2).2).2 = t5 at *
         generalize (pList (pList (pList (pList t1).2).2).2).1 = l4 at *
         generalize (pList (pList (pList t1).2).2).2 = t4 at *
         generalize (pList (pList (pList t1).2).2).1 = l3 at *
         generalize (pList (pList t1).2).2 = t3 at *
         generalize (pList (pList t1).2).1 = l2 at *
         generalize (pList t1).2 = t2 at *
         generalize (pList t1).1 = l1 at *
         have HARts := H! (AR4.out.keep (HS.out.keep.block R (by omega) nRb nRP))
         have HBxs := HBr.out
         have HSts := H! HS.out
         have hkA4 : KeepA b g4 wr := HS.out.toA (by omega) (Nat.le_refl _)
         clear HS HV HP HL HBr AR4 HM4 HQ1 HQ2 HQ3 HQ4 HQ5 HSB4 HO HD
         go_upto_region 46 with (go_at_call 93; refine HT0.out.mono ?_; rintro _ u0 ⟨rq0, cq0, bq0, aq0, rfl, hr, hb⟩; have HRt0 := H! hr; have hbu0 := hb; clear hr hb; have HSu0 := H! (HSts.out.below hbD4 hPD4 hbu0); obtain ⟨y0c, y0f⟩ := HSu0.out.rd 0 _ rfl; obtain ⟨y1c, y1f⟩ := HSu0.out.rd 1 _ rfl; obtain ⟨y2c, y2f⟩ := HSu0.out.at_ 4 _ rfl; have hzu0 := HSu0.out.sz; have hbU : b < u0.heap.size := (by omega); have hPU : P < u0.heap.size := (by omega))
         have HSt0 : Hid (Sg g4 g4.heap.size b P (((u0.setCell ⟨P, 4, none⟩ (.int .i64 x)).setCell ⟨b, 0, none⟩ (.slice rq0 bq0.length cq0)).setCell ⟨b, 1, none⟩ (.bool aq0)) [.slice rq0 bq0.length cq0, .bool aq0] [.slice rc code.length cc, .slice rt types.length ct, .slice rv curves.length cv, .slice rm maps.length cm, .int .i64 x, .slice none 0 0, .slice none 0 0, .slice none 0 0, .slice none 0 0]) := H! (by simpa using (HSu0.out.setP nPb (j := 4) (by simp) (.int .i64 x)).setRd nPb (.slice rq0 bq0.length cq0) (.bool aq0))
         have hku0 : KeepA b u0 (((u0.setCell ⟨P, 4, none⟩ (.int .i64 x)).setCell ⟨b, 0, none⟩ (.slice rq0 bq0.length cq0)).setCell ⟨b, 1, none⟩ (.bool aq0)) := (KeepA.set u0 (Nat.le_of_lt hPb) 4 _).trans (KeepA.set2 _ (Nat.le_refl _) _ _)
         have hkw0 : KeepA b wr (((u0.setCell ⟨P, 4, none⟩ (.int .i64 x)).setCell ⟨b, 0, none⟩ (.slice rq0 bq0.length cq0)).setCell ⟨b, 1, none⟩ (.bool aq0)) := (KeepA.below hbu0).trans hku0
         have hbx0 : Below w.heap.size w (((u0.setCell ⟨P, 4, none⟩ (.int .i64 x)).setCell ⟨b, 0, none⟩ (.slice rq0 bq0.length cq0)).setCell ⟨b, 1, none⟩ (.bool aq0)) := two_set hwb ((HBxs.trans (hbu0.mono HBxs.size)).setCell (p := ⟨P, 4, none⟩) hwP _) _ _
         have hrx0 : (((u0.setCell ⟨P, 4, none⟩ (.int .i64 x)).setCell ⟨b, 0, none⟩ (.slice rq0 bq0.length cq0)).setCell ⟨b, 1, none⟩ (.bool aq0)).heap[R]? = u0.heap[R]? := ((Below.heap_setCell _ _ _ _ nRb).trans (Below.heap_setCell _ _ _ _ nRb)).trans (Below.heap_setCell _ _ _ _ nRP)
         have HARt0 := H! ((HARts.out.keep (hbu0.block R (by omega))).keep hrx0)
         generalize hWq : ((u0.setCell ⟨P, 4, none⟩ (.int .i64 x)).setCell ⟨b, 0, none⟩ (.slice rq0 bq0.length cq0)).setCell ⟨b, 1, none⟩ (.bool aq0) = W0 at *
         clear hWq
         have HBx0 := hbx0
         have hzW0 : g4.heap.size ≤ W0.heap.size := HSt0.out.sz
         obtain ⟨b0c, b0f⟩ := HSt0.out.rd 0 _ rfl
         obtain ⟨b1c, b1f⟩ := HSt0.out.rd 1 _ rfl
         have hbr0 : b < W0.heap.size := by omega
         clear HSu0 y0c y0f y1c y1f y2c y2f hbU hPU hrx0 hbx0 HSts HARts
         have HT1 := H! (HG1.out W0 _ _ _ _ HRt0.out HBx0)
         go_upto_region 47 with (go_at_call 92; refine HT1.out.mono ?_; rintro _ u1 ⟨rl1, cl1, rq1, cq1, bq1, aq1, rfl, ho, hr, hb⟩; have HRt1 := H! hr; have HOl1 := H! ho; have hbu1 := hb; clear hr hb ho; have HSu1 := H! (HSt0.out.below hbD4 hPD4 hbu1); obtain ⟨y0c, y0f⟩ := HSu1.out.rd 0 _ rfl; obtain ⟨y1c, y1f⟩ := HSu1.out.rd 1 _ rfl; obtain ⟨y2c, y2f⟩ := HSu1.out.at_ 5 _ rfl; have hzu1 := HSu1.out.sz; have hbU : b < u1.heap.size := (by omega); have hPU : P < u1.heap.size := (by omega))
         have HSt1 : Hid (Sg g4 g4.heap.size b P (((u1.setCell ⟨P, 5, none⟩ (.slice rl1 l1.length cl1)).setCell ⟨b, 0, none⟩ (.slice rq1 bq1.length cq1)).setCell ⟨b, 1, none⟩ (.bool aq1)) [.slice rq1 bq1.length cq1, .bool aq1] [.slice rc code.length cc, .slice rt types.length ct, .slice rv curves.length cv, .slice rm maps.length cm, .int .i64 x, .slice rl1 l1.length cl1, .slice none 0 0, .slice none 0 0, .slice none 0 0]) := H! (by simpa using (HSu1.out.setP nPb (j := 5) (by simp) (.slice rl1 l1.length cl1)).setRd nPb (.slice rq1 bq1.length cq1) (.bool aq1))
         have hku1 : KeepA b u1 (((u1.setCell ⟨P, 5, none⟩ (.slice rl1 l1.length cl1)).setCell ⟨b, 0, none⟩ (.slice rq1 bq1.length cq1)).setCell ⟨b, 1, none⟩ (.bool aq1)) := (KeepA.set u1 (Nat.le_of_lt hPb) 5 _).trans (KeepA.set2 _ (Nat.le_refl _) _ _)
         have hkw1 : KeepA b W0 (((u1.setCell ⟨P, 5, none⟩ (.slice rl1 l1.length cl1)).setCell ⟨b, 0, none⟩ (.slice rq1 bq1.length cq1)).setCell ⟨b, 1, none⟩ (.bool aq1)) := (KeepA.below hbu1).trans hku1
         have hbx1 : Below w.heap.size w (((u1.setCell ⟨P, 5, none⟩ (.slice rl1 l1.length cl1)).setCell ⟨b, 0, none⟩ (.slice rq1 bq1.length cq1)).setCell ⟨b, 1, none⟩ (.bool aq1)) := two_set hwb ((HBx0.trans (hbu1.mono HBx0.size)).setCell (p := ⟨P, 5, none⟩) hwP _) _ _
         have hrx1 : (((u1.setCell ⟨P, 5, none⟩ (.slice rl1 l1.length cl1)).setCell ⟨b, 0, none⟩ (.slice rq1 bq1.length cq1)).setCell ⟨b, 1, none⟩ (.bool aq1)).heap[R]? = u1.heap[R]? := ((Below.heap_setCell _ _ _ _ nRb).trans (Below.heap_setCell _ _ _ _ nRb)).trans (Below.heap_setCell _ _ _ _ nRP)
         have HARt1 := H! ((HARt0.out.keep (hbu1.block R (by omega))).keep hrx1)
         generalize hWq : ((u1.setCell ⟨P, 5, none⟩ (.slice rl1 l1.length cl1)).setCell ⟨b, 0, none⟩ (.slice rq1 bq1.length cq1)).setCell ⟨b, 1, none⟩ (.bool aq1) = W1 at *
         clear hWq
         have HBx1 := hbx1
         have hzW1 : g4.heap.size ≤ W1.heap.size := HSt1.out.sz
         obtain ⟨b0c, b0f⟩ := HSt1.out.rd 0 _ rfl
         obtain ⟨b1c, b1f⟩ := HSt1.out.rd 1 _ rfl
         have hbr1 : b < W1.heap.size := by omega
         clear HSu1 y0c y0f y1c y1f y2c y2f hbU hPU hrx1 hbx1 HSt0 HARt0
         have HT2 := H! (HG2.out W1 _ _ _ _ HRt1.out HBx1)
         go_upto_region 48 with (go_at_call 92; refine HT2.out.mono ?_; rintro _ u2 ⟨rl2, cl2, rq2, cq2, bq2, aq2, rfl, ho, hr, hb⟩; have HRt2 := H! hr; have HOl2 := H! ho; have hbu2 := hb; clear hr hb ho; have HSu2 := H! (HSt1.out.below hbD4 hPD4 hbu2); obtain ⟨y0c, y0f⟩ := HSu2.out.rd 0 _ rfl; obtain ⟨y1c, y1f⟩ := HSu2.out.rd 1 _ rfl; obtain ⟨y2c, y2f⟩ := HSu2.out.at_ 6 _ rfl; have hzu2 := HSu2.out.sz; have hbU : b < u2.heap.size := (by omega); have hPU : P < u2.heap.size := (by omega))
         have HSt2 : Hid (Sg g4 g4.heap.size b P (((u2.setCell ⟨P, 6, none⟩ (.slice rl2 l2.length cl2)).setCell ⟨b, 0, none⟩ (.slice rq2 bq2.length cq2)).setCell ⟨b, 1, none⟩ (.bool aq2)) [.slice rq2 bq2.length cq2, .bool aq2] [.slice rc code.length cc, .slice rt types.length ct, .slice rv curves.length cv, .slice rm maps.length cm, .int .i64 x, .slice rl1 l1.length cl1, .slice rl2 l2.length cl2, .slice none 0 0, .slice none 0 0]) := H! (by simpa using (HSu2.out.setP nPb (j := 6) (by simp) (.slice rl2 l2.length cl2)).setRd nPb (.slice rq2 bq2.length cq2) (.bool aq2))
         have hku2 : KeepA b u2 (((u2.setCell ⟨P, 6, none⟩ (.slice rl2 l2.length cl2)).setCell ⟨b, 0, none⟩ (.slice rq2 bq2.length cq2)).setCell ⟨b, 1, none⟩ (.bool aq2)) := (KeepA.set u2 (Nat.le_of_lt hPb) 6 _).trans (KeepA.set2 _ (Nat.le_refl _) _ _)
         have hkw2 : KeepA b W1 (((u2.setCell ⟨P, 6, none⟩ (.slice rl2 l2.length cl2)).setCell ⟨b, 0, none⟩ (.slice rq2 bq2.length cq2)).setCell ⟨b, 1, none⟩ (.bool aq2)) := (KeepA.below hbu2).trans hku2
         have hbx2 : Below w.heap.size w (((u2.setCell ⟨P, 6, none⟩ (.slice rl2 l2.length cl2)).setCell ⟨b, 0, none⟩ (.slice rq2 bq2.length cq2)).setCell ⟨b, 1, none⟩ (.bool aq2)) := two_set hwb ((HBx1.trans (hbu2.mono HBx1.size)).setCell (p := ⟨P, 6, none⟩) hwP _) _ _
         have hrx2 : (((u2.setCell ⟨P, 6, none⟩ (.slice rl2 l2.length cl2)).setCell ⟨b, 0, none⟩ (.slice rq2 bq2.length cq2)).setCell ⟨b, 1, none⟩ (.bool aq2)).heap[R]? = u2.heap[R]? := ((Below.heap_setCell _ _ _ _ nRb).trans (Below.heap_setCell _ _ _ _ nRb)).trans (Below.heap_setCell _ _ _ _ nRP)
         have HARt2 := H! ((HARt1.out.keep (hbu2.block R (by omega))).keep hrx2)
         generalize hWq : ((u2.setCell ⟨P, 6, none⟩ (.slice rl2 l2.length cl2)).setCell ⟨b, 0, none⟩ (.slice rq2 bq2.length cq2)).setCell ⟨b, 1, none⟩ (.bool aq2) = W2 at *
         clear hWq
         have HBx2 := hbx2
         have hzW2 : g4.heap.size ≤ W2.heap.size := HSt2.out.sz
         obtain ⟨b0c, b0f⟩ := HSt2.out.rd 0 _ rfl
         obtain ⟨b1c, b1f⟩ := HSt2.out.rd 1 _ rfl
         have hbr2 : b < W2.heap.size := by omega
         clear HSu2 y0c y0f y1c y1f y2c y2f hbU hPU hrx2 hbx2 HSt1 HARt1
         have HT3 := H! (HG3.out W2 _ _ _ _ HRt2.out HBx2)
         go_upto_region 49 with (go_at_call 92; refine HT3.out.mono ?_; rintro _ u3 ⟨rl3, cl3, rq3, cq3, bq3, aq3, rfl, ho, hr, hb⟩; have HRt3 := H! hr; have HOl3 := H! ho; have hbu3 := hb; clear hr hb ho; have HSu3 := H! (HSt2.out.below hbD4 hPD4 hbu3); obtain ⟨y0c, y0f⟩ := HSu3.out.rd 0 _ rfl; obtain ⟨y1c, y1f⟩ := HSu3.out.rd 1 _ rfl; obtain ⟨y2c, y2f⟩ := HSu3.out.at_ 7 _ rfl; have hzu3 := HSu3.out.sz; have hbU : b < u3.heap.size := (by omega); have hPU : P < u3.heap.size := (by omega))
         have HSt3 : Hid (Sg g4 g4.heap.size b P (((u3.setCell ⟨P, 7, none⟩ (.slice rl3 l3.length cl3)).setCell ⟨b, 0, none⟩ (.slice rq3 bq3.length cq3)).setCell ⟨b, 1, none⟩ (.bool aq3)) [.slice rq3 bq3.length cq3, .bool aq3] [.slice rc code.length cc, .slice rt types.length ct, .slice rv curves.length cv, .slice rm maps.length cm, .int .i64 x, .slice rl1 l1.length cl1, .slice rl2 l2.length cl2, .slice rl3 l3.length cl3, .slice none 0 0]) := H! (by simpa using (HSu3.out.setP nPb (j := 7) (by simp) (.slice rl3 l3.length cl3)).setRd nPb (.slice rq3 bq3.length cq3) (.bool aq3))
         have hku3 : KeepA b u3 (((u3.setCell ⟨P, 7, none⟩ (.slice rl3 l3.length cl3)).setCell ⟨b, 0, none⟩ (.slice rq3 bq3.length cq3)).setCell ⟨b, 1, none⟩ (.bool aq3)) := (KeepA.set u3 (Nat.le_of_lt hPb) 7 _).trans (KeepA.set2 _ (Nat.le_refl _) _ _)
         have hkw3 : KeepA b W2 (((u3.setCell ⟨P, 7, none⟩ (.slice rl3 l3.length cl3)).setCell ⟨b, 0, none⟩ (.slice rq3 bq3.length cq3)).setCell ⟨b, 1, none⟩ (.bool aq3)) := (KeepA.below hbu3).trans hku3
         have hbx3 : Below w.heap.size w (((u3.setCell ⟨P, 7, none⟩ (.slice rl3 l3.length cl3)).setCell ⟨b, 0, none⟩ (.slice rq3 bq3.length cq3)).setCell ⟨b, 1, none⟩ (.bool aq3)) := two_set hwb ((HBx2.trans (hbu3.mono HBx2.size)).setCell (p := ⟨P, 7, none⟩) hwP _) _ _
         have hrx3 : (((u3.setCell ⟨P, 7, none⟩ (.slice rl3 l3.length cl3)).setCell ⟨b, 0, none⟩ (.slice rq3 bq3.length cq3)).setCell ⟨b, 1, none⟩ (.bool aq3)).heap[R]? = u3.heap[R]? := ((Below.heap_setCell _ _ _ _ nRb).trans (Below.heap_setCell _ _ _ _ nRb)).trans (Below.heap_setCell _ _ _ _ nRP)
         have HARt3 := H! ((HARt2.out.keep (hbu3.block R (by omega))).keep hrx3)
         generalize hWq : ((u3.setCell ⟨P, 7, none⟩ (.slice rl3 l3.length cl3)).setCell ⟨b, 0, none⟩ (.slice rq3 bq3.length cq3)).setCell ⟨b, 1, none⟩ (.bool aq3) = W3 at *
         clear hWq
         have HBx3 := hbx3
         have hzW3 : g4.heap.size ≤ W3.heap.size := HSt3.out.sz
         obtain ⟨b0c, b0f⟩ := HSt3.out.rd 0 _ rfl
         obtain ⟨b1c, b1f⟩ := HSt3.out.rd 1 _ rfl
         have hbr3 : b < W3.heap.size := by omega
         clear HSu3 y0c y0f y1c y1f y2c y2f hbU hPU hrx3 hbx3 HSt2 HARt2
         have HT4 := H! (HG4.out W3 _ _ _ _ HRt3.out HBx3)
         go_upto_region 50 with (go_at_call 92; refine HT4.out.mono ?_; rintro _ u4 ⟨rl4, cl4, rq4, cq4, bq4, aq4, rfl, ho, hr, hb⟩; have HRt4 := H! hr; have HOl4 := H! ho; have hbu4 := hb; clear hr hb ho; have HSu4 := H! (HSt3.out.below hbD4 hPD4 hbu4); obtain ⟨y0c, y0f⟩ := HSu4.out.rd 0 _ rfl; obtain ⟨y1c, y1f⟩ := HSu4.out.rd 1 _ rfl; obtain ⟨y2c, y2f⟩ := HSu4.out.at_ 8 _ rfl; have hzu4 := HSu4.out.sz; have hbU : b < u4.heap.size := (by omega); have hPU : P < u4.heap.size := (by omega))
         have HSt4 : Hid (Sg g4 g4.heap.size b P (((u4.setCell ⟨P, 8, none⟩ (.slice rl4 l4.length cl4)).setCell ⟨b, 0, none⟩ (.slice rq4 bq4.length cq4)).setCell ⟨b, 1, none⟩ (.bool aq4)) [.slice rq4 bq4.length cq4, .bool aq4] [.slice rc code.length cc, .slice rt types.length ct, .slice rv curves.length cv, .slice rm maps.length cm, .int .i64 x, .slice rl1 l1.length cl1, .slice rl2 l2.length cl2, .slice rl3 l3.length cl3, .slice rl4 l4.length cl4]) := H! (by simpa using (HSu4.out.setP nPb (j := 8) (by simp) (.slice rl4 l4.length cl4)).setRd nPb (.slice rq4 bq4.length cq4) (.bool aq4))
         have hku4 : KeepA b u4 (((u4.setCell ⟨P, 8, none⟩ (.slice rl4 l4.length cl4)).setCell ⟨b, 0, none⟩ (.slice rq4 bq4.length cq4)).setCell ⟨b, 1, none⟩ (.bool aq4)) := (KeepA.set u4 (Nat.le_of_lt hPb) 8 _).trans (KeepA.set2 _ (Nat.le_refl _) _ _)
         have hkw4 : KeepA b W3 (((u4.setCell ⟨P, 8, none⟩ (.slice rl4 l4.length cl4)).setCell ⟨b, 0, none⟩ (.slice rq4 bq4.length cq4)).setCell ⟨b, 1, none⟩ (.bool aq4)) := (KeepA.below hbu4).trans hku4
         have hbx4 : Below w.heap.size w (((u4.setCell ⟨P, 8, none⟩ (.slice rl4 l4.length cl4)).setCell ⟨b, 0, none⟩ (.slice rq4 bq4.length cq4)).setCell ⟨b, 1, none⟩ (.bool aq4)) := two_set hwb ((HBx3.trans (hbu4.mono HBx3.size)).setCell (p := ⟨P, 8, none⟩) hwP _) _ _
         have hrx4 : (((u4.setCell ⟨P, 8, none⟩ (.slice rl4 l4.length cl4)).setCell ⟨b, 0, none⟩ (.slice rq4 bq4.length cq4)).setCell ⟨b, 1, none⟩ (.bool aq4)).heap[R]? = u4.heap[R]? := ((Below.heap_setCell _ _ _ _ nRb).trans (Below.heap_setCell _ _ _ _ nRb)).trans (Below.heap_setCell _ _ _ _ nRP)
         have HARt4 := H! ((HARt3.out.keep (hbu4.block R (by omega))).keep hrx4)
         generalize hWq : ((u4.setCell ⟨P, 8, none⟩ (.slice rl4 l4.length cl4)).setCell ⟨b, 0, none⟩ (.slice rq4 bq4.length cq4)).setCell ⟨b, 1, none⟩ (.bool aq4) = W4 at *
         clear hWq
         have HBx4 := hbx4
         have hzW4 : g4.heap.size ≤ W4.heap.size := HSt4.out.sz
         obtain ⟨b0c, b0f⟩ := HSt4.out.rd 0 _ rfl
         obtain ⟨b1c, b1f⟩ := HSt4.out.rd 1 _ rfl
         have hbr4 : b < W4.heap.size := by omega
         clear HSu4 y0c y0f y1c y1f y2c y2f hbU hPU hrx4 hbx4 HSt3 HARt3
         have hlist : ∀ {W W' : World} {D : Nat} {r : Option Addr} {c : Nat} {l : List Int}, OwnK .i64 3 W D r c l → b < D → KeepA b W W' → (∀ x ∈ l, I64 x) → IsInts W' r c .i64 l := fun ho hD hk hw => ints_keep (ho.ints (fun x hx => hw x hx)) (fun a ha => hk.block _ (by have := (ho.lt a ha).1; omega) (ho.lt a ha).2) hk.size
         have HPA : Hid (∀ W', KeepA b W4 W' → IsP W' (⟨rc, cc, code, rt, ct, types, rv, cv, curves, rm, cm, maps.map Mq.mp, x, rl1, cl1, l1, rl2, cl2, l2, rl3, cl3, l3, rl4, cl4, l4⟩ : PV)) := H! (fun W' hW => by
          have k4 := hku4.trans hW
          have k3 := hku3.trans (hkw4.trans hW)
          have k2 := hku2.trans (hkw3.trans (hkw4.trans hW))
          have k1 := hku1.trans (hkw2.trans (hkw3.trans (hkw4.trans hW)))
          have k0 : KeepA b wr W' := hkw0.trans (hkw1.trans (hkw2.trans (hkw3.trans (hkw4.trans hW))))
          have hFA := HFA4.out W' (hkA4.trans k0)
          have hFB := HFc.out W' k0
          exact ⟨hFA.1.1.2.1, hFA.1.1.2.2, hFA.1.2.1, hFA.1.2.2, hFA.2.1, hFA.2.2, isS_mq hFB.1, fun y hy => by
           obtain ⟨m, hm, rfl⟩ := List.mem_map.1 hy
           exact hFB.2 m hm, HX0.out, hlist HOl1.out (by omega) k1 HW1.out, hlist HOl2.out (by omega) k2 HW2.out, hlist HOl3.out (by omega) k3 HW3.out, hlist HOl4.out (by omega) k4 HW4.out⟩)
         have HQP : Hid ((⟨rc, cc, code, rt, ct, types, rv, cv, curves, rm, cm, maps.map Mq.mp, x, rl1, cl1, l1, rl2, cl2, l2, rl3, cl3, l3, rl4, cl4, l4⟩ : PV).p = (pPrg (some part)).1) := H! (by
          rw [HQL.out]
          unfold PV.p
          simp only [List.map_map]
          rfl)
         have HQ2 : Hid ((pPrg (some part)).2 = t5) := H! (by rw [HQL.out])
         have hsx := HRt4.out.sx
         clear HQL HFA4 HFc HX0 HW1 HW2 HW3 HW4 HOl1 HOl2 HOl3 HOl4 hku0 hku1 hku2 hku3 hku4 hkw0 hkw1 hkw2 hkw3 hkw4 hkA4 hlist HG1 HG2 HG3 HG4 HT0 HT1 HT2 HT3 HT4
         have p0c := (HSt4.out.at_ 0 _ rfl).1
         have p1c := (HSt4.out.at_ 1 _ rfl).1
         have p2c := (HSt4.out.at_ 2 _ rfl).1
         have p3c := (HSt4.out.at_ 3 _ rfl).1
         have p4c := (HSt4.out.at_ 4 _ rfl).1
         have p5c := (HSt4.out.at_ 5 _ rfl).1
         have p6c := (HSt4.out.at_ 6 _ rfl).1
         have p7c := (HSt4.out.at_ 7 _ rfl).1
         have p8c := (HSt4.out.at_ 8 _ rfl).1
         have HAR := H! HARt4.out
         have HBW := H! HBx4
         have hPz : P < W4.heap.size := by omega
         cases aq4
         ·
          by_cases hb0 : (0 : Int) < bq4.length
          ·
           have hd0 : decide ((0 : Int) < bq4.length) = true := decide_eq_true hb0
           have HNO : Hid ((pPrg (some part)).2 ≠ some []) := H! (by
            rw [HQ2.out, hsx]
            intro e
            have : bq4 = [] := by simpa [sxOf] using e
            rw [this] at hb0
            simp at hb0)
           obtain ⟨n, hn⟩ : ∃ n, n = bq4.length := ⟨_, rfl⟩
           rw [← hn] at b0c hb0 hd0
           have hn4 : 0 < n := by omega
           have hn2 : decide (0 < n) = true := decide_eq_true hn4
           clear hn hsx HRt4
           obtain ⟨z0c, z0f⟩ := HAR.out 0 _ rfl
           obtain ⟨z1c, z1f⟩ := HAR.out 1 _ rfl
           obtain ⟨z2c, z2f⟩ := HAR.out 2 _ rfl
           obtain ⟨z3c, z3f⟩ := HAR.out 3 _ rfl
           obtain ⟨z4c, z4f⟩ := HAR.out 4 _ rfl
           obtain ⟨z5c, z5f⟩ := HAR.out 5 _ rfl
           obtain ⟨z6c, z6f⟩ := HAR.out 6 _ rfl
           obtain ⟨z7c, z7f⟩ := HAR.out 7 _ rfl
           obtain ⟨z8c, z8f⟩ := HAR.out 8 _ rfl
           have hRW : R < W4.heap.size := by omega
           repeat (first | go_values | go_skip | go_guarded | go_step | go_upon)
           refine bodyPost_ret (by simp [results, Tryz.results41, go_sem, *]; try rfl) rfl ?_
           exact rp_bad rfl (fun h => absurd h HNO.out) ((((((((((HBW.out).setCell (p := ⟨R, 0, none⟩) hRl _).setCell (p := ⟨R, 1, none⟩) hRl _).setCell (p := ⟨R, 2, none⟩) hRl _).setCell (p := ⟨R, 3, none⟩) hRl _).setCell (p := ⟨R, 4, none⟩) hRl _).setCell (p := ⟨R, 5, none⟩) hRl _).setCell (p := ⟨R, 6, none⟩) hRl _).setCell (p := ⟨R, 7, none⟩) hRl _).setCell (p := ⟨R, 8, none⟩) hRl _)
          ·
           obtain rfl : bq4 = [] := by
            cases bq4 with
            | nil => rfl
            | cons y l => simp only [List.length_cons] at hb0; omega
           have HOK := H! (okP_eq (⟨rc, cc, code, rt, ct, types, rv, cv, curves, rm, cm, maps.map Mq.mp, x, rl1, cl1, l1, rl2, cl2, l2, rl3, cl3, l3, rl4, cl4, l4⟩ : PV))
           rw [HQP.out] at HOK
           have HSO : Hid ((pPrg (some part)).2 = some []) := H! (by rw [HQ2.out, hsx]; rfl)
           have HVA := H! (rvalid13_any (⟨rc, cc, code, rt, ct, types, rv, cv, curves, rm, cm, maps.map Mq.mp, x, rl1, cl1, l1, rl2, cl2, l2, rl3, cl3, l3, rl4, cl4, l4⟩ : PV) W4 (HPA.out W4 ⟨Nat.le_refl _, fun _ _ _ => rfl⟩))
           simp only [PV.val, List.length_map] at HVA
           clear hsx
           cases hv : validB (⟨rc, cc, code, rt, ct, types, rv, cv, curves, rm, cm, maps.map Mq.mp, x, rl1, cl1, l1, rl2, cl2, l2, rl3, cl3, l3, rl4, cl4, l4⟩ : PV)
           ·
            rw [hv] at HVA HOK
            have HNO : Hid (okP (pPrg (some part)).1 = false) := H! HOK.out
            go_upto_region 51 with (go_at_call 10; refine HVA.out.mono ?_; rintro _ w6 ⟨rfl, hb6⟩; have HAR6 := H! (HAR.out.keep (hb6.block R (by omega))); have HBW6 : Hid (Below w.heap.size w w6) := H! (HBW.out.trans (hb6.mono HBW.out.size)); have hzv6 := hb6.size)
            clear HAR HBW
            have HAR := H! HAR6.out
            have HBW := H! HBW6.out
            obtain ⟨z0c, z0f⟩ := HAR.out 0 _ rfl
            obtain ⟨z1c, z1f⟩ := HAR.out 1 _ rfl
            obtain ⟨z2c, z2f⟩ := HAR.out 2 _ rfl
            obtain ⟨z3c, z3f⟩ := HAR.out 3 _ rfl
            obtain ⟨z4c, z4f⟩ := HAR.out 4 _ rfl
            obtain ⟨z5c, z5f⟩ := HAR.out 5 _ rfl
            obtain ⟨z6c, z6f⟩ := HAR.out 6 _ rfl
            obtain ⟨z7c, z7f⟩ := HAR.out 7 _ rfl
            obtain ⟨z8c, z8f⟩ := HAR.out 8 _ rfl
            have hRW : R < w6.heap.size := by omega
            repeat (first | go_values | go_skip | go_guarded | go_step | go_upon)
            refine bodyPost_ret (by simp [results, Tryz.results41, go_sem, *]; try rfl) rfl ?_
            exact rp_bad rfl (fun h => HNO.out) ((((((((((HBW.out).setCell (p := ⟨R, 0, none⟩) hRl _).setCell (p := ⟨R, 1, none⟩) hRl _).setCell (p := ⟨R, 2, none⟩) hRl _).setCell (p := ⟨R, 3, none⟩) hRl _).setCell (p := ⟨R, 4, none⟩) hRl _).setCell (p := ⟨R, 5, none⟩) hRl _).setCell (p := ⟨R, 6, none⟩) hRl _).setCell (p := ⟨R, 7, none⟩) hRl _).setCell (p := ⟨R, 8, none⟩) hRl _)
           ·
            rw [hv] at HVA HOK
            go_upto_region 52 with (go_at_call 10; refine HVA.out.mono ?_; rintro _ w6 ⟨rfl, hb6⟩; have HAR6 := HAR.out.keep (hb6.block R (by omega)); have HBW6 : Hid (Below w.heap.size w w6) := H! (HBW.out.trans (hb6.mono HBW.out.size)); have hzv6 := hb6.size; obtain ⟨z0c, z0f⟩ := HAR6 0 _ rfl; obtain ⟨z1c, z1f⟩ := HAR6 1 _ rfl; obtain ⟨z2c, z2f⟩ := HAR6 2 _ rfl; obtain ⟨z3c, z3f⟩ := HAR6 3 _ rfl; obtain ⟨z4c, z4f⟩ := HAR6 4 _ rfl; obtain ⟨z5c, z5f⟩ := HAR6 5 _ rfl; obtain ⟨z6c, z6f⟩ := HAR6 6 _ rfl; obtain ⟨z7c, z7f⟩ := HAR6 7 _ rfl; obtain ⟨z8c, z8f⟩ := HAR6 8 _ rfl; have s0c := (hb6.cell (p := ⟨P, 0, none⟩) hPz).trans p0c; have s1c := (hb6.cell (p := ⟨P, 1, none⟩) hPz).trans p1c; have s2c := (hb6.cell (p := ⟨P, 2, none⟩) hPz).trans p2c; have s3c := (hb6.cell (p := ⟨P, 3, none⟩) hPz).trans p3c; have s4c := (hb6.cell (p := ⟨P, 4, none⟩) hPz).trans p4c; have s5c := (hb6.cell (p := ⟨P, 5, none⟩) hPz).trans p5c; have s6c := (hb6.cell (p := ⟨P, 6, none⟩) hPz).trans p6c; have s7c := (hb6.cell (p := ⟨P, 7, none⟩) hPz).trans p7c; have s8c := (hb6.cell (p := ⟨P, 8, none⟩) hPz).trans p8c; have hRw6 : R < w6.heap.size := (by omega); have hPw6 : P < w6.heap.size := (by omega))
            repeat (first | go_values | go_skip | go_guarded | go_step | go_upon)
            refine bodyPost_ret (by simp [results, Tryz.results41, go_sem, *]; try rfl) rfl ?_
            refine rp_ok (⟨rc, cc, code, rt, ct, types, rv, cv, curves, rm, cm, maps.map Mq.mp, x, rl1, cl1, l1, rl2, cl2, l2, rl3, cl3, l3, rl4, cl4, l4⟩ : PV) (by simp only [PV.val, List.length_map]) (fun W' hW => HPA.out W' ?_) ?_ (by rw [HQP.out]; exact HOK.out) ((((((((((HBW6.out).setCell (p := ⟨R, 0, none⟩) hRl _).setCell (p := ⟨R, 1, none⟩) hRl _).setCell (p := ⟨R, 2, none⟩) hRl _).setCell (p := ⟨R, 3, none⟩) hRl _).setCell (p := ⟨R, 4, none⟩) hRl _).setCell (p := ⟨R, 5, none⟩) hRl _).setCell (p := ⟨R, 6, none⟩) hRl _).setCell (p := ⟨R, 7, none⟩) hRl _).setCell (p := ⟨R, 8, none⟩) hRl _)
            ·
             exact ((KeepA.below hb6).trans (((((((((KeepA.set w6 (show R ≤ b by omega) 0 _).trans (KeepA.set _ (show R ≤ b by omega) 1 _)).trans (KeepA.set _ (show R ≤ b by omega) 2 _)).trans (KeepA.set _ (show R ≤ b by omega) 3 _)).trans (KeepA.set _ (show R ≤ b by omega) 4 _)).trans (KeepA.set _ (show R ≤ b by omega) 5 _)).trans (KeepA.set _ (show R ≤ b by omega) 6 _)).trans (KeepA.set _ (show R ≤ b by omega) 7 _)).trans (KeepA.set _ (show R ≤ b by omega) 8 _))).trans ⟨hW.size, fun q h1 h2 => hW.block q (by omega) h2⟩
            ·
             rw [← HSO.out, HQP.out]
         ·
          have HNO : Hid ((pPrg (some part)).2 ≠ some []) := H! (by
           rw [HQ2.out, hsx]
           intro e
           cases e)
          obtain ⟨z0c, z0f⟩ := HAR.out 0 _ rfl
          obtain ⟨z1c, z1f⟩ := HAR.out 1 _ rfl
          obtain ⟨z2c, z2f⟩ := HAR.out 2 _ rfl
          obtain ⟨z3c, z3f⟩ := HAR.out 3 _ rfl
          obtain ⟨z4c, z4f⟩ := HAR.out 4 _ rfl
          obtain ⟨z5c, z5f⟩ := HAR.out 5 _ rfl
          obtain ⟨z6c, z6f⟩ := HAR.out 6 _ rfl
          obtain ⟨z7c, z7f⟩ := HAR.out 7 _ rfl
          obtain ⟨z8c, z8f⟩ := HAR.out 8 _ rfl
          have hRW : R < W4.heap.size := by omega
          repeat (first | go_values | go_skip | go_guarded | go_step | go_upon)
          refine bodyPost_ret (by simp [results, Tryz.results41, go_sem, *]; try rfl) rfl ?_
          exact rp_bad rfl (fun h => absurd h HNO.out) ((((((((((HBW.out).setCell (p := ⟨R, 0, none⟩) hRl _).setCell (p := ⟨R, 1, none⟩) hRl _).setCell (p := ⟨R, 2, none⟩) hRl _).setCell (p := ⟨R, 3, none⟩) hRl _).setCell (p := ⟨R, 4, none⟩) hRl _).setCell (p := ⟨R, 5, none⟩) hRl _).setCell (p := ⟨R, 6, none⟩) hRl _).setCell (p := ⟨R, 7, none⟩) hRl _).setCell (p := ⟨R, 8, none⟩) hRl _)
end Go.Proofs.YtfooefiaenlhmaaGreat
