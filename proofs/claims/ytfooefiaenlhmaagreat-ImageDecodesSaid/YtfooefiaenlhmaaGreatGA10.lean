/- Lemmas for the laws of package magnetolaw15: what its functions return, for any arguments that the lemmas name. -/
import Derived.Test.YtfooefiaenlhmaaGreatGA7
import Derived.Deep.Cut
import Derived.Deep.RegionLaw
namespace Go.Proofs.YtfooefiaenlhmaaGreat
set_option linter.unusedVariables false
set_option linter.unusedSimpArgs false
set_option maxHeartbeats 16000000
open Go.RowKit Go.ChangeShapes Go.WideShapes Go.ChangeAt
set_option maxRecDepth 100000 in
theorem rprog_any (b : Nat) (W0 w : World) (s : Sx) (h : Rdr W0 w b s) (hB : W0.heap.size ≤ b) (hb0 : Below W0.heap.size W0 w) : Calls Tryz.prog 39 #[.pointer (some ⟨b, 0, none⟩)] w fun e w' => ∃ q : PV, e = .returned q.val ∧ (∀ W', KeepA w.heap.size w' W' → IsP W' q) ∧ q.p = (pPrg s).1 ∧ Rdr W0 w' b (pPrg s).2 ∧ KeepB w.heap.size b w w' := by
 have hbl := h.lt
 have HB0 := H! hb0
 have hb0s := hb0.size
 have HC1 : Hid (∀ W, Below w.heap.size w W → _) := H! (fun W (hW : Below w.heap.size w W) => rcount_any b 12 W0 W s (h.below hW hbl) hB (hb0.trans (hW.mono hb0s)) (by omega) (by omega))
 have hcl1 := pCount_le (size := 12) h.len
 have HM1 : Hid (pMany pIns 12 s = pRep pIns (pCount 12 s).1 (pCount 12 s).2) := H! rfl
 generalize (pCount 12 s).1 = n1 at *
 generalize (pCount 12 s).2 = s1 at *
 clear h
 go_enter Tryz.func39, Tryz.ntmps39
 go_wp2_with (first | (go_at_call 83; refine (HC1.out _ bw).mono ?_; rintro _ w1 ⟨rfl, hr, hk⟩; have HR1 := H! hr; have HK1 := H! hk; clear hr hk))
 have AR0 : AtV ((w.alloc (.cells #[.slice none 0 0, .slice none 0 0, .slice none 0 0, .slice none 0 0, .int .i64 0, .slice none 0 0, .slice none 0 0, .slice none 0 0, .slice none 0 0] 28)).alloc (.cells #[.slice none 0 0, .slice none 0 0, .slice none 0 0, .slice none 0 0, .int .i64 0, .slice none 0 0, .slice none 0 0, .slice none 0 0, .slice none 0 0] 28)) w.heap.size [.slice none 0 0, .slice none 0 0, .slice none 0 0, .slice none 0 0, .int .i64 0, .slice none 0 0, .slice none 0 0, .slice none 0 0, .slice none 0 0] := (AtV.new w [.slice none 0 0, .slice none 0 0, .slice none 0 0, .slice none 0 0, .int .i64 0, .slice none 0 0, .slice none 0 0, .slice none 0 0, .slice none 0 0] 28).keep (Below.heap_alloc _ _ _ (by rw [zA]; omega))
 have AP0 : AtV ((w.alloc (.cells #[.slice none 0 0, .slice none 0 0, .slice none 0 0, .slice none 0 0, .int .i64 0, .slice none 0 0, .slice none 0 0, .slice none 0 0, .slice none 0 0] 28)).alloc (.cells #[.slice none 0 0, .slice none 0 0, .slice none 0 0, .slice none 0 0, .int .i64 0, .slice none 0 0, .slice none 0 0, .slice none 0 0, .slice none 0 0] 28)) (w.heap.size + 1) [.slice none 0 0, .slice none 0 0, .slice none 0 0, .slice none 0 0, .int .i64 0, .slice none 0 0, .slice none 0 0, .slice none 0 0, .slice none 0 0] := by
  have := AtV.new (w.alloc (.cells #[.slice none 0 0, .slice none 0 0, .slice none 0 0, .slice none 0 0, .int .i64 0, .slice none 0 0, .slice none 0 0, .slice none 0 0, .slice none 0 0] 28)) [.slice none 0 0, .slice none 0 0, .slice none 0 0, .slice none 0 0, .int .i64 0, .slice none 0 0, .slice none 0 0, .slice none 0 0, .slice none 0 0] 28
  rwa [zA] at this
 have hz1 : ((w.alloc (.cells #[.slice none 0 0, .slice none 0 0, .slice none 0 0, .slice none 0 0, .int .i64 0, .slice none 0 0, .slice none 0 0, .slice none 0 0, .slice none 0 0] 28)).alloc (.cells #[.slice none 0 0, .slice none 0 0, .slice none 0 0, .slice none 0 0, .int .i64 0, .slice none 0 0, .slice none 0 0, .slice none 0 0, .slice none 0 0] 28)).heap.size = w.heap.size + 2 := by simp only [zA]
 have hbw1 : Below w.heap.size w ((w.alloc (.cells #[.slice none 0 0, .slice none 0 0, .slice none 0 0, .slice none 0 0, .int .i64 0, .slice none 0 0, .slice none 0 0, .slice none 0 0, .slice none 0 0] 28)).alloc (.cells #[.slice none 0 0, .slice none 0 0, .slice none 0 0, .slice none 0 0, .int .i64 0, .slice none 0 0, .slice none 0 0, .slice none 0 0, .slice none 0 0] 28)) := bw
 generalize (w.alloc (.cells #[.slice none 0 0, .slice none 0 0, .slice none 0 0, .slice none 0 0, .int .i64 0, .slice none 0 0, .slice none 0 0, .slice none 0 0, .slice none 0 0] 28)).alloc (.cells #[.slice none 0 0, .slice none 0 0, .slice none 0 0, .slice none 0 0, .int .i64 0, .slice none 0 0, .slice none 0 0, .slice none 0 0, .slice none 0 0] 28) = W1 at *
 have AR1 : Hid (AtV w1 w.heap.size [.slice none 0 0, .slice none 0 0, .slice none 0 0, .slice none 0 0, .int .i64 0, .slice none 0 0, .slice none 0 0, .slice none 0 0, .slice none 0 0]) := H! (AR0.keep (HK1.out.block _ (by omega) (by omega)))
 have AP1 : Hid (AtV w1 (w.heap.size + 1) [.slice none 0 0, .slice none 0 0, .slice none 0 0, .slice none 0 0, .int .i64 0, .slice none 0 0, .slice none 0 0, .slice none 0 0, .slice none 0 0]) := H! (AP0.keep (HK1.out.block _ (by omega) (by omega)))
 have hs1 := HK1.out.zero.size
 have HKw1 : Hid (KeepB w.heap.size b w w1) := H! ((below_keepB hbw1).trans (HK1.out.mono (by omega)))
 have hRw : w.heap.size < w1.heap.size := by omega
 have hPw : w.heap.size + 1 < w1.heap.size := by omega
 obtain ⟨R, hR⟩ : ∃ R, R = w.heap.size := ⟨_, rfl⟩
 have hRb : ¬ R = b := by omega
 have hbR : ¬ b = R := by omega
 obtain ⟨P, hP⟩ : ∃ P, P = R + 1 := ⟨_, rfl⟩
 rw [← hR] at AR1 AP1 hRw hPw ⊢
 rw [← hP] at AP1 hPw ⊢
 have hPb : ¬ P = b := by omega
 have hbP : ¬ b = P := by omega
 have hPR : ¬ P = R := by omega
 have hRP : ¬ R = P := by omega
 have hBP : b < P := by omega
 have hRl : w.heap.size ≤ R := by omega
 have hRu : R ≤ w.heap.size := by omega
 have hPl : R < P := by omega
 have hPu : P ≤ R + 1 := by omega
 clear AR0 AP0 HK1 hz1 hbw1 HC1 hR hP
 have hb1 : b < w1.heap.size := by omega
 have HSB1 : Hid (SxB s1) := H! HR1.out.bytes
 have HF1 : Hid (∀ W', KeepA P w1 W' → True) := H! (fun _ _ => trivial)
 have HB1 : Hid (Below W0.heap.size W0 w1) := H! (HB0.out.trans (HKw1.out.below (by omega) hB))
 go_loopg [11] n1 (fun kx s11x wr => ∃ (k : Nat) (r : Option Addr) (c : Nat) (rows : List Ins) (sr : Sx), s11x = .int .i64 k ∧ k ≤ n1 ∧ n1 - k ≤ kx ∧ w1.heap.size ≤ wr.heap.size ∧ Hid (Keep2 w1.heap.size b P w1 wr) ∧ Hid (AtV wr P [.slice r rows.length c, .slice none 0 0, .slice none 0 0, .slice none 0 0, .int .i64 0, .slice none 0 0, .slice none 0 0, .slice none 0 0, .slice none 0 0]) ∧ Hid (OwnR 42 5 Ins.enc wr w1.heap.size r c rows) ∧ Hid (Rdr W0 wr b sr) ∧ Hid ((rows, sr) = pRep pIns k s1) ∧ Hid (rows.length = k))
 case atStart => exact ⟨0, none, 0, [], s1, rfl, by omega, by omega, Nat.le_refl _, H! (Keep2.refl _ _ _ _), AP1, H! (OwnR.nil _ _), HR1, H! rfl, H! rfl⟩
 case round =>
  clear HR1
  obtain ⟨k, rc, cc, code, e1, rfl, hk, hkx, hsz, HK, HA, HO, HR, HP, HL⟩ := hrel
  by_cases hlt : k < n1
  ·
   skip
   have hk1 : (0 : Int) ≤ (k : Int) := by omega
   have hk2 : (k : Int) < n1 := by omega
   have HT := H! (take_any b 12 W0 wr e1 HR.out (by omega) (by omega))
   have HDC := H! (fun r c W (h : IsInts W r c .u8 (pTake 12 e1).1) => mdec_pins r c e1 W h)
   have HOK := H! (pIns_ok e1 HR.out.bytes)
   have HPn : Hid ((code ++ [(pIns e1).1], (pIns e1).2) = pRep pIns (k + 1) s1) := H! (by rw [pRep, ← HP.out])
   have HBr : Hid (Below W0.heap.size W0 wr) := H! (HB1.out.trans ((HK.out.toB (B := W0.heap.size) (by omega) (by omega)).below (Nat.le_refl _) hB))
   generalize hpi : pIns e1 = pi at *
   generalize (pTake 12 e1).2 = t2 at *
   generalize (pTake 12 e1).1 = out at *
   go_upto_region 5 with (first | (go_at_call 85; refine HT.out.mono ?_; rintro _ w2 ⟨r2, c2, rfl, hx2, hr2, hk2⟩; have HX2 := H! hx2; have HR2 := H! hr2; have HK2 := H! hk2; clear hx2 hr2 hk2; have he1 := HK2.out.zero.size; have hb2 : Below W0.heap.size W0 w2 := HBr.out.trans (HK2.out.below (by omega) hB)) | (go_at_call 84; refine (HDC.out r2 c2 _ (HX2.out.later hb2)).mono ?_; rintro _ w3 ⟨⟨xo, xa, xb, xc, xk⟩, ee, rfl, hee, hpe, hb3⟩; simp only [insV]; have HPE := H! hpe; clear hpe))
   have hs3 := hb3.size
   have AT := AtV.new w3 [.int .i64 xo, .int .i64 xa, .int .i64 xb, .int .i64 xc, .int .i64 xk] 42
   have hb4 : Below w2.heap.size w2 (w3.alloc (.cells #[.int .i64 xo, .int .i64 xa, .int .i64 xb, .int .i64 xc, .int .i64 xk] 42)) := hb3.alloc hs3 _
   have hs4 : (w3.alloc (.cells #[.int .i64 xo, .int .i64 xa, .int .i64 xb, .int .i64 xc, .int .i64 xk] 42)).heap.size = w3.heap.size + 1 := zA _ _
   change AtV (w3.alloc (.cells #[.int .i64 xo, .int .i64 xa, .int .i64 xb, .int .i64 xc, .int .i64 xk] 42)) _ _ at AT
   generalize w3.alloc (.cells #[.int .i64 xo, .int .i64 xa, .int .i64 xb, .int .i64 xc, .int .i64 xk] 42) = w4 at *
   generalize w3.heap.size = T at *
   have hs4a : T < w4.heap.size := by omega
   clear hs4
   have HR4 : Rdr W0 w4 b t2 := HR2.out.below hb4 (by omega)
   have HK4 : Keep2 w1.heap.size b P w1 w4 := (HK.out.trans (Keep2.ofB HK2.out hsz)).trans (Keep2.ofBelow hb4 (by omega))
   have AP4 := (HA.out.keep (HK2.out.block P (by omega) hPb)).keep (hb4.block P (by omega))
   have AO4 : OwnR 42 5 Ins.enc w4 w1.heap.size rc cc code := HO.out.keep (fun a ha => by
    have h1 := HO.out.lt a ha
    exact (hb4.block a.block (by omega)).trans (HK2.out.block a.block h1.2 (by omega)))
   obtain ⟨hlt4, f04, f14, ra, ca, bs, bad, c04, c14, hbx, hbl4, ht2⟩ := HR4
   have HF := H! (fun nb => put_flag nb hPb hlt4 f04 f14 c04 c14 hbx hbl4 HK4 AP4)
   have HO5 := H! (fun (nb : Bool) => AO4.setb (q := b) (j := 1) hb1 (.bool nb))
   obtain ⟨p0c, p0f⟩ := AP4 0 _ rfl
   have ⟨t0, _⟩ := AT 0 _ rfl
   have ⟨t1, _⟩ := AT 1 _ rfl
   have ⟨t2c, _⟩ := AT 2 _ rfl
   have ⟨t3, _⟩ := AT 3 _ rfl
   have ⟨t4, _⟩ := AT 4 _ rfl
   have hTb : ¬ T = b := by omega
   have hbT : ¬ b = T := by omega
   have hPT : ¬ P = T := by omega
   have hTP : ¬ T = P := by omega
   have hP4 : P < w4.heap.size := by omega
   have hT4 : T < w4.heap.size := by omega
   have hol : code.length ≤ 100000 := by have := HL.out; omega
   have hD4 : w1.heap.size ≤ w4.heap.size := by omega
   have HT2 := H! ht2
   clear ht2 AT HK4 AP4 AO4 hbx
   cases bad
   ·
    rcases hee with rfl | rfl
    ·
     go_wp2_with (first | (at_builtin; refine wpList_append_rowf Tryz.underlying22 infoInstr rfl (by omega) (by omega) (by rfl) _ _ (by rfl) (w4.setCell ⟨b, 1, none⟩ (.bool false)) w1.heap.size rc cc code (⟨xo, xa, xb, xc, xk⟩ : Ins) (by rfl) (fun u hu => by simp only [Ins.enc, List.mem_cons, List.not_mem_nil, or_false] at hu; rcases hu with rfl | rfl | rfl | rfl | rfl <;> rfl) (by rfl) (by rfl) (by rw [zS]; rfl) (HO5.out false) (by omega) (by rw [zS]; exact hD4) ?_; intro r' c' w6 hown6 hbw6 hst6 hrr6; have HW6 := H! (put_row hb1 hPw hPb (by rw [zS]; exact hD4) (HF.out false).2.1 (HF.out false).2.2 (HF.out false).1 hown6 hbw6 0 (by simp) (.slice r' (code.length + 1) c')); have p6c := (hbw6.cell (p := ⟨P, 0, none⟩) hPw).trans ((HF.out false).2.2 0 _ rfl).1; have p6f := (hbw6.frozen (p := ⟨P, 0, none⟩) hPw).trans ((HF.out false).2.2 0 _ rfl).2; clear hst6 hrr6 hown6))
     have he1' : (if false = true then none else some bs) = pi.2 := by rw [HPE.out, HT2.out]; rfl
     have hi' : (⟨xo, xa, xb, xc, xk⟩ : Ins) = pi.1 := by rw [HPE.out]
     obtain ⟨hw1, hw2, hw3, hw4, hw5⟩ := HW6.out
     have HN := H! HPn.out
     rw [← hi', ← he1'] at HN
     have HN2 := H! HN.out
     clear he1' hi'
     go_roundg (n1 - (k + 1))
     case measure => omega
     case rel => exact ⟨k + 1, r', c', code ++ [⟨xo, xa, xb, xc, xk⟩], (if false = true then none else some bs), by go_num, by omega, by omega, hw5, H! hw1, H! (by simpa using hw2), H! hw3, H! hw4, HN2, H! (by rw [List.length_append, HL.out]; rfl)⟩
    ·
     go_wp2_with (first | (at_builtin; refine wpList_append_rowf Tryz.underlying22 infoInstr rfl (by omega) (by omega) (by rfl) _ _ (by rfl) (w4.setCell ⟨b, 1, none⟩ (.bool true)) w1.heap.size rc cc code (⟨xo, xa, xb, xc, xk⟩ : Ins) (by rfl) (fun u hu => by simp only [Ins.enc, List.mem_cons, List.not_mem_nil, or_false] at hu; rcases hu with rfl | rfl | rfl | rfl | rfl <;> rfl) (by rfl) (by rfl) (by rw [zS]; rfl) (HO5.out true) (by omega) (by rw [zS]; exact hD4) ?_; intro r' c' w6 hown6 hbw6 hst6 hrr6; have HW6 := H! (put_row hb1 hPw hPb (by rw [zS]; exact hD4) (HF.out true).2.1 (HF.out true).2.2 (HF.out true).1 hown6 hbw6 0 (by simp) (.slice r' (code.length + 1) c')); have p6c := (hbw6.cell (p := ⟨P, 0, none⟩) hPw).trans ((HF.out true).2.2 0 _ rfl).1; have p6f := (hbw6.frozen (p := ⟨P, 0, none⟩) hPw).trans ((HF.out true).2.2 0 _ rfl).2; clear hst6 hrr6 hown6))
     have he1' : (if true = true then none else some bs) = pi.2 := by rw [HPE.out, HT2.out]; rfl
     have hi' : (⟨xo, xa, xb, xc, xk⟩ : Ins) = pi.1 := by rw [HPE.out]
     obtain ⟨hw1, hw2, hw3, hw4, hw5⟩ := HW6.out
     have HN := H! HPn.out
     rw [← hi', ← he1'] at HN
     have HN2 := H! HN.out
     clear he1' hi'
     go_roundg (n1 - (k + 1))
     case measure => omega
     case rel => exact ⟨k + 1, r', c', code ++ [⟨xo, xa, xb, xc, xk⟩], (if true = true then none else some bs), by go_num, by omega, by omega, hw5, H! hw1, H! (by simpa using hw2), H! hw3, H! hw4, HN2, H! (by rw [List.length_append, HL.out]; rfl)⟩
   ·
    rcases hee with rfl | rfl
    ·
     go_wp2_with (first | (at_builtin; refine wpList_append_rowf Tryz.underlying22 infoInstr rfl (by omega) (by omega) (by rfl) _ _ (by rfl) (w4.setCell ⟨b, 1, none⟩ (.bool true)) w1.heap.size rc cc code (⟨xo, xa, xb, xc, xk⟩ : Ins) (by rfl) (fun u hu => by simp only [Ins.enc, List.mem_cons, List.not_mem_nil, or_false] at hu; rcases hu with rfl | rfl | rfl | rfl | rfl <;> rfl) (by rfl) (by rfl) (by rw [zS]; rfl) (HO5.out true) (by omega) (by rw [zS]; exact hD4) ?_; intro r' c' w6 hown6 hbw6 hst6 hrr6; have HW6 := H! (put_row hb1 hPw hPb (by rw [zS]; exact hD4) (HF.out true).2.1 (HF.out true).2.2 (HF.out true).1 hown6 hbw6 0 (by simp) (.slice r' (code.length + 1) c')); have p6c := (hbw6.cell (p := ⟨P, 0, none⟩) hPw).trans ((HF.out true).2.2 0 _ rfl).1; have p6f := (hbw6.frozen (p := ⟨P, 0, none⟩) hPw).trans ((HF.out true).2.2 0 _ rfl).2; clear hst6 hrr6 hown6))
     have he1' : (if true = true then none else some bs) = pi.2 := by rw [HPE.out, HT2.out]; rfl
     have hi' : (⟨xo, xa, xb, xc, xk⟩ : Ins) = pi.1 := by rw [HPE.out]
     obtain ⟨hw1, hw2, hw3, hw4, hw5⟩ := HW6.out
     have HN := H! HPn.out
     rw [← hi', ← he1'] at HN
     have HN2 := H! HN.out
     clear he1' hi'
     go_roundg (n1 - (k + 1))
     case measure => omega
     case rel => exact ⟨k + 1, r', c', code ++ [⟨xo, xa, xb, xc, xk⟩], (if true = true then none else some bs), by go_num, by omega, by omega, hw5, H! hw1, H! (by simpa using hw2), H! hw3, H! hw4, HN2, H! (by rw [List.length_append, HL.out]; rfl)⟩
    ·
     go_wp2_with (first | (at_builtin; refine wpList_append_rowf Tryz.underlying22 infoInstr rfl (by omega) (by omega) (by rfl) _ _ (by rfl) (w4.setCell ⟨b, 1, none⟩ (.bool true)) w1.heap.size rc cc code (⟨xo, xa, xb, xc, xk⟩ : Ins) (by rfl) (fun u hu => by simp only [Ins.enc, List.mem_cons, List.not_mem_nil, or_false] at hu; rcases hu with rfl | rfl | rfl | rfl | rfl <;> rfl) (by rfl) (by rfl) (by rw [zS]; rfl) (HO5.out true) (by omega) (by rw [zS]; exact hD4) ?_; intro r' c' w6 hown6 hbw6 hst6 hrr6; have HW6 := H! (put_row hb1 hPw hPb (by rw [zS]; exact hD4) (HF.out true).2.1 (HF.out true).2.2 (HF.out true).1 hown6 hbw6 0 (by simp) (.slice r' (code.length + 1) c')); have p6c := (hbw6.cell (p := ⟨P, 0, none⟩) hPw).trans ((HF.out true).2.2 0 _ rfl).1; have p6f := (hbw6.frozen (p := ⟨P, 0, none⟩) hPw).trans ((HF.out true).2.2 0 _ rfl).2; clear hst6 hrr6 hown6))
     have he1' : (if true = true then none else some bs) = pi.2 := by rw [HPE.out, HT2.out]; rfl
     have hi' : (⟨xo, xa, xb, xc, xk⟩ : Ins) = pi.1 := by rw [HPE.out]
     obtain ⟨hw1, hw2, hw3, hw4, hw5⟩ := HW6.out
     have HN := H! HPn.out
     rw [← hi', ← he1'] at HN
     have HN2 := H! HN.out
     clear he1' hi'
     go_roundg (n1 - (k + 1))
     case measure => omega
     case rel => exact ⟨k + 1, r', c', code ++ [⟨xo, xa, xb, xc, xk⟩], (if true = true then none else some bs), by go_num, by omega, by omega, hw5, H! hw1, H! (by simpa using hw2), H! hw3, H! hw4, HN2, H! (by rw [List.length_append, HL.out]; rfl)⟩
  ·
   obtain rfl : k = n1 := by omega
   have HQ1 : Hid (pMany pIns 12 s = (code, e1)) := H! (by rw [HM1.out, HP.out])
   have HBr : Hid (Below W0.heap.size W0 wr) := H! (HB1.out.trans ((HK.out.toB (B := W0.heap.size) (by omega) (by omega)).below (Nat.le_refl _) hB))
   have HGx : Hid (∀ x ∈ code, x.ok) := H! (by
    have h := pRep_all (f := pIns) (Q := Ins.ok) (fun s h => h.ins) (fun s h => pIns_ok s h) HSB1.out k
    rw [← HP.out] at h
    exact h)
   have HFc : Hid (∀ W', KeepA P wr W' → IsS 5 Ins.enc W' rc cc code ∧ ∀ x ∈ code, x.ok) := H! (fun W' hW => ⟨HO.out.closed (fun _ => rfl) hb1 hPw W' hW, HGx.out⟩)
   have hkz := HK.out.zero.size
   have HCn := H! (rcount_any b 80 W0 wr e1 HR.out hB HBr.out (by omega) (by omega))
   have hcl2 := pCount_le (size := 80) HR.out.len
   have HM2 : Hid (pMany pFx 80 e1 = pRep pFx (pCount 80 e1).1 (pCount 80 e1).2) := H! rfl
   generalize (pCount 80 e1).1 = n2 at *
   generalize (pCount 80 e1).2 = s2 at *
   go_wp2_with (first | (go_at_call 83; refine HCn.out.mono ?_; rintro _ w2 ⟨rfl, hr, hk2⟩; have HR2 := H! hr; have HKn2 := H! hk2; clear hr hk2))
   have hs2 := HKn2.out.zero.size
   have AP2 : Hid (AtV w2 P [.slice rc code.length cc, .slice none 0 0, .slice none 0 0, .slice none 0 0, .int .i64 0, .slice none 0 0, .slice none 0 0, .slice none 0 0, .slice none 0 0]) := H! (HA.out.keep (HKn2.out.block P (by omega) hPb))
   have AR2 : Hid (AtV w2 R [.slice none 0 0, .slice none 0 0, .slice none 0 0, .slice none 0 0, .int .i64 0, .slice none 0 0, .slice none 0 0, .slice none 0 0, .slice none 0 0]) := H! ((AR1.out.keep (HK.out.block R (by omega) hRb hRP)).keep (HKn2.out.block R (by omega) hRb))
   have HKw2 : Hid (KeepB w.heap.size b w w2) := H! ((HKw1.out.trans (HK.out.toB (by omega) (by omega))).trans (HKn2.out.mono (by omega)))
   have HSB2 : Hid (SxB s2) := H! HR2.out.bytes
   have HB2 : Hid (Below W0.heap.size W0 w2) := H! (HBr.out.trans (HKn2.out.below (by omega) hB))
   have HF2 : Hid (∀ W', KeepA P w2 W' → (True ∧ (IsS 5 Ins.enc W' rc cc code ∧ ∀ x ∈ code, x.ok))) := H! (fun W' hW => ⟨HF1.out W' (((KeepA.of2 HK.out hBP (Nat.le_refl _)).trans (KeepA.ofB HKn2.out hBP)).trans hW), HFc.out W' ((KeepA.ofB HKn2.out hBP).trans hW)⟩)
   have hb2 : b < w2.heap.size := by omega
   have hPw2 : P < w2.heap.size := by omega
   have hRw2 : R < w2.heap.size := by omega
   clear HCn HKn2 HK HA HO HR HFc AP1 AR1 HKw1 HB1 HSB1 HF1 HBr HM1 HP HL
   go_loopg [39] n2 (fun kx s39x wr => ∃ (k : Nat) (r : Option Addr) (c : Nat) (rows : List Fx) (sr : Sx), s39x = .int .i64 k ∧ k ≤ n2 ∧ n2 - k ≤ kx ∧ w2.heap.size ≤ wr.heap.size ∧ Hid (Keep2 w2.heap.size b P w2 wr) ∧ Hid (AtV wr P [.slice rc code.length cc, .slice r rows.length c, .slice none 0 0, .slice none 0 0, .int .i64 0, .slice none 0 0, .slice none 0 0, .slice none 0 0, .slice none 0 0]) ∧ Hid (OwnR 73 10 Fx.enc wr w2.heap.size r c rows) ∧ Hid (Rdr W0 wr b sr) ∧ Hid ((rows, sr) = pRep pFx k s2) ∧ Hid (rows.length = k))
   case atStart => exact ⟨0, none, 0, [], s2, rfl, by omega, by omega, Nat.le_refl _, H! (Keep2.refl _ _ _ _), AP2, H! (OwnR.nil _ _), HR2, H! rfl, H! rfl⟩
   case round =>
    clear HR2
    obtain ⟨k, rt, ct, types, e2, rfl, hk, hkx, hsz, HK, HA, HO, HR, HP, HL⟩ := hrel
    by_cases hlt : k < n2
    ·
     skip
     have hk1 : (0 : Int) ≤ (k : Int) := by omega
     have hk2 : (k : Int) < n2 := by omega
     have HPn : Hid ((types ++ [(pFx e2).1], (pFx e2).2) = pRep pFx (k + 1) s2) := H! (by rw [pRep, ← HP.out])
     have HBr : Hid (Below W0.heap.size W0 wr) := H! (HB2.out.trans ((HK.out.toB (B := W0.heap.size) (by omega) (by omega)).below (Nat.le_refl _) hB))
     go_wp2
     have AT0 : AtL (wr.alloc (.cells #[.int .i64 0, .int .i64 0, .int .i64 0, .int .i64 0, .int .i64 0, .int .i64 0, .int .i64 0, .int .i64 0, .int .i64 0, .int .i64 0] 118)) wr.heap.size (List.replicate 10 0) := fun i v hi => AtV.new wr [.int .i64 0, .int .i64 0, .int .i64 0, .int .i64 0, .int .i64 0, .int .i64 0, .int .i64 0, .int .i64 0, .int .i64 0, .int .i64 0] 118 i _ (by
      match i, hi with
      | 0, hi | 1, hi | 2, hi | 3, hi | 4, hi | 5, hi | 6, hi | 7, hi | 8, hi | 9, hi => simp at hi; subst hi; rfl
      | i + 10, hi => simp at hi)
     have hba : Below wr.heap.size wr (wr.alloc (.cells #[.int .i64 0, .int .i64 0, .int .i64 0, .int .i64 0, .int .i64 0, .int .i64 0, .int .i64 0, .int .i64 0, .int .i64 0, .int .i64 0] 118)) := (Below.refl _ _).alloc (Nat.le_refl _) _
     have hza : wr.heap.size < (wr.alloc (.cells #[.int .i64 0, .int .i64 0, .int .i64 0, .int .i64 0, .int .i64 0, .int .i64 0, .int .i64 0, .int .i64 0, .int .i64 0, .int .i64 0] 118)).heap.size := by rw [zA]; omega
     have hbT : b < wr.heap.size := by omega
     have hPT : P < wr.heap.size := by omega
     have HRa : Hid (Rdr W0 (wr.alloc (.cells #[.int .i64 0, .int .i64 0, .int .i64 0, .int .i64 0, .int .i64 0, .int .i64 0, .int .i64 0, .int .i64 0, .int .i64 0, .int .i64 0] 118)) b e2) := H! (HR.out.below hba hbT)
     have HKa : Hid (Keep2 w2.heap.size b P w2 (wr.alloc (.cells #[.int .i64 0, .int .i64 0, .int .i64 0, .int .i64 0, .int .i64 0, .int .i64 0, .int .i64 0, .int .i64 0, .int .i64 0, .int .i64 0] 118))) := H! (HK.out.trans (Keep2.ofBelow hba hsz))
     have APa := H! (HA.out.keep (hba.block P hPT))
     have AOa : Hid (OwnR 73 10 Fx.enc (wr.alloc (.cells #[.int .i64 0, .int .i64 0, .int .i64 0, .int .i64 0, .int .i64 0, .int .i64 0, .int .i64 0, .int .i64 0, .int .i64 0, .int .i64 0] 118)) w2.heap.size rt ct types) := H! (HO.out.below hba (Nat.le_refl _))
     have HOL := H! (fun a ha => (HO.out.lt a ha).2)
     have HBa : Hid (Below W0.heap.size W0 (wr.alloc (.cells #[.int .i64 0, .int .i64 0, .int .i64 0, .int .i64 0, .int .i64 0, .int .i64 0, .int .i64 0, .int .i64 0, .int .i64 0, .int .i64 0] 118))) := H! (HBr.out.trans (hba.mono (by omega)))
     clear HA HO HR HK HBr hba
     generalize wr.alloc (.cells #[.int .i64 0, .int .i64 0, .int .i64 0, .int .i64 0, .int .i64 0, .int .i64 0, .int .i64 0, .int .i64 0, .int .i64 0, .int .i64 0] 118) = wa at *
     generalize hT : wr.heap.size = T at *
     clear hT
     have hTb : ¬ T = b := by omega
     have hbT2 : ¬ b = T := by omega
     have hTP : ¬ T = P := by omega
     have hPT2 : ¬ P = T := by omega
     go_loopg [41] 10 (fun kx s41x wr => ∃ (j : Nat) (out : List Int) (sj : Sx), s41x = .int .i64 j ∧ j ≤ 10 ∧ 10 - j ≤ kx ∧ T < wr.heap.size ∧ Hid (KeepB T b wa wr) ∧ Hid (AtL wr T (out ++ List.replicate (10 - j) 0)) ∧ Hid (Rdr W0 wr b sj) ∧ Hid ((out, sj) = pRep pInt j e2) ∧ Hid (out.length = j))
     case atStart => exact ⟨0, [], e2, rfl, by omega, by omega, hza, H! (KeepB.refl _ _ _), H! AT0, HRa, H! rfl, H! rfl⟩
     case round =>
      clear AT0 HRa
      obtain ⟨j, out, sj, rfl, hj, hjx, hTz, HKj, HAj, HRj, HPj, HLj⟩ := hrel
      have HBj : Hid (Below W0.heap.size W0 wr) := H! (HBa.out.trans (HKj.out.below (by omega) hB))
      by_cases hjl : j < 10
      ·
       have hj1 : (0 : Int) ≤ (j : Int) := by omega
       have hj2 : (j : Int) < 10 := by omega
       have HI := H! (rint_any b W0 wr sj HRj.out hB HBj.out)
       have HPj2 : Hid ((out ++ [(pInt sj).1], (pInt sj).2) = pRep pInt (j + 1) e2) := H! (by rw [pRep, ← HPj.out])
       generalize (pInt sj).1 = x at *
       generalize (pInt sj).2 = sj2 at *
       go_wp2_with (first | (go_at_call 86; refine HI.out.mono ?_; rintro _ v2 ⟨rfl, hr2, hk2'⟩; have HRv := H! hr2; have HKv := H! hk2'; have hzv := hk2'.zero.size; have HAv := H! (HAj.out.keep (hk2'.block T hTz hTb)); have hcj := HAv.out j 0 (rep_at hjl HLj.out); obtain ⟨hcj1, hcj2⟩ := hcj; clear hr2 hk2'))
       go_roundg (10 - (j + 1))
       case measure => omega
       case rel => exact ⟨j + 1, out ++ [x], sj2, by go_num, by omega, by omega, by rw [zS]; omega, H! ((HKj.out.trans (HKv.out.mono (by omega))).trans (below_keepB ((Below.refl T v2).setCell (p := ⟨T, j, none⟩) (Nat.le_refl _) _))), H! (by rw [← rep_snoc hjl x HLj.out]; exact HAv.out.set (by rw [List.length_append, HLj.out, List.length_replicate]; omega) x), H! (HRv.out.keep (Below.heap_setCell _ _ _ _ hbT2) (by rw [zS]; exact Nat.le_refl _)), HPj2, H! (by rw [List.length_append, HLj.out]; rfl)⟩
      ·
       obtain rfl : j = 10 := by omega
       have HFX : Hid (pFx e2 = (⟨out.getD 0 0, decide (out.getD 1 0 = 1), out.getD 2 0, out.getD 3 0, out.getD 4 0, out.getD 5 0, out.getD 6 0, out.getD 7 0, out.getD 8 0, out.getD 9 0⟩, if decide (out.getD 1 0 = 0 ∨ out.getD 1 0 = 1) = true then sj else none)) := H! (by unfold pFx; rw [← HPj.out]; rfl)
       have HAL : ∀ q, q < 10 → wr.cell? ⟨T, q, none⟩ = some (.int .i64 (out.getD q 0)) := fun q hq => (HAj.out q _ (by rw [List.getElem?_append_left (by rw [HLj.out]; exact hq), List.getD_eq_getElem?_getD, List.getElem?_eq_getElem (by rw [HLj.out]; exact hq)]; rfl)).1
       have t0 := HAL 0 (by omega)
       have t1 := HAL 1 (by omega)
       have t2 := HAL 2 (by omega)
       have t3 := HAL 3 (by omega)
       have t4 := HAL 4 (by omega)
       have t5 := HAL 5 (by omega)
       have t6 := HAL 6 (by omega)
       have t7 := HAL 7 (by omega)
       have t8 := HAL 8 (by omega)
       have t9 := HAL 9 (by omega)
       clear HAL HAj HPj
       generalize out.getD 0 0 = x0 at *
       generalize out.getD 1 0 = x1 at *
       generalize out.getD 2 0 = x2 at *
       generalize out.getD 3 0 = x3 at *
       generalize out.getD 4 0 = x4 at *
       generalize out.getD 5 0 = x5 at *
       generalize out.getD 6 0 = x6 at *
       generalize out.getD 7 0 = x7 at *
       generalize out.getD 8 0 = x8 at *
       generalize out.getD 9 0 = x9 at *
       obtain ⟨hlt5, f05, f15, ra, ca, bs, bad, c05, c15, hbx, hbl5, hsj⟩ := HRj.out
       have hzj := HKj.out.zero.size
       have HKf : Keep2 w2.heap.size b P w2 wr := HKa.out.trans (Keep2.ofB HKj.out (by omega))
       have APf := APa.out.keep (HKj.out.block P hPT hPb)
       have AOf : OwnR 73 10 Fx.enc wr w2.heap.size rt ct types := AOa.out.keep (fun a ha => HKj.out.block _ (HOL.out a ha) (by have := (AOa.out.lt a ha).1; omega))
       have HF5 := H! (fun nb => put_flag nb hPb hlt5 f05 f15 c05 c15 hbx hbl5 HKf APf)
       have HO5 := H! (fun (nb : Bool) => AOf.setb (q := b) (j := 1) hb2 (.bool nb))
       obtain ⟨p1c, p1f⟩ := APf 1 _ rfl
       have hol : types.length ≤ 100000 := by have := HL.out; omega
       have hD5 : w2.heap.size ≤ wr.heap.size := by omega
       have HSJ := H! hsj
       have hP5 : P < wr.heap.size := by omega
       clear hsj HKf APf AOf hbx HKj HRj HKa APa AOa HOL HBa HBj
       cases bad
       rotate_left
       ·
        go_wp2_with (first | (at_builtin; refine wpList_append_rowf Tryz.underlying23 infoFixed rfl (by omega) (by omega) (by rfl) _ _ (by rfl) (wr.setCell ⟨b, 1, none⟩ (.bool true)) w2.heap.size rt ct types ((⟨x0, decide (x1 = 1), x2, x3, x4, x5, x6, x7, x8, x9⟩ : Fx)) (by rfl) (fun u hu => by simp only [Fx.enc, List.mem_cons, List.not_mem_nil, or_false] at hu; rcases hu with rfl | rfl | rfl | rfl | rfl | rfl | rfl | rfl | rfl | rfl <;> rfl) (by rfl) (by rfl) (by first | rfl | (rw [zS]; rfl)) (HO5.out true) (by omega) (by rw [zS]; exact hD5) ?_; intro r' c' w6 hown6 hbw6 hst6 hrr6; have HW6 := H! (put_row hb2 hPw2 hPb (by rw [zS]; exact hD5) (HF5.out true).2.1 (HF5.out true).2.2 (HF5.out true).1 hown6 hbw6 1 (by simp) (.slice r' (types.length + 1) c')); have p6c := (hbw6.cell (p := ⟨P, 1, none⟩) hPw2).trans ((HF5.out true).2.2 1 _ rfl).1; have p6f := (hbw6.frozen (p := ⟨P, 1, none⟩) hPw2).trans ((HF5.out true).2.2 1 _ rfl).2; have HST := H! hst6; have HRR := H! hrr6; have HOW := H! hown6; have HBW := H! hbw6; clear hst6 hrr6 hown6))
        obtain ⟨hw1, hw2, hw3, hw4, hw5⟩ := HW6.out
        have hi' : (⟨x0, decide (x1 = 1), x2, x3, x4, x5, x6, x7, x8, x9⟩ : Fx) = (pFx e2).1 := by rw [HFX.out]
        have hs' : (if true = true then none else some bs) = (pFx e2).2 := by rw [HFX.out, HSJ.out]; simp
        have HN := HPn.out
        rw [← hi', ← hs'] at HN
        have HN2 := H! HN
        clear HN hi' hs'
        go_roundg (n2 - (k + 1))
        case measure => omega
        case rel => exact ⟨k + 1, r', c', types ++ [(⟨x0, decide (x1 = 1), x2, x3, x4, x5, x6, x7, x8, x9⟩ : Fx)], (if true = true then none else some bs), by go_num, by omega, by omega, hw5, H! hw1, H! (by simpa using hw2), H! hw3, H! hw4, HN2, H! (by rw [List.length_append, HL.out]; rfl)⟩
       by_cases nx1 : x1 = 1
       ·
        subst nx1
        go_wp2_with (first | (at_builtin; refine wpList_append_rowf Tryz.underlying23 infoFixed rfl (by omega) (by omega) (by rfl) _ _ (by rfl) (wr.setCell ⟨b, 1, none⟩ (.bool false)) w2.heap.size rt ct types ((⟨x0, true, x2, x3, x4, x5, x6, x7, x8, x9⟩ : Fx)) (by rfl) (fun u hu => by simp only [Fx.enc, List.mem_cons, List.not_mem_nil, or_false] at hu; rcases hu with rfl | rfl | rfl | rfl | rfl | rfl | rfl | rfl | rfl | rfl <;> rfl) (by rfl) (by rfl) (by first | rfl | (rw [zS]; rfl)) (HO5.out false) (by omega) (by rw [zS]; exact hD5) ?_; intro r' c' w6 hown6 hbw6 hst6 hrr6; have HW6 := H! (put_row hb2 hPw2 hPb (by rw [zS]; exact hD5) (HF5.out false).2.1 (HF5.out false).2.2 (HF5.out false).1 hown6 hbw6 1 (by simp) (.slice r' (types.length + 1) c')); have p6c := (hbw6.cell (p := ⟨P, 1, none⟩) hPw2).trans ((HF5.out false).2.2 1 _ rfl).1; have p6f := (hbw6.frozen (p := ⟨P, 1, none⟩) hPw2).trans ((HF5.out false).2.2 1 _ rfl).2; have HST := H! hst6; have HRR := H! hrr6; have HOW := H! hown6; have HBW := H! hbw6; clear hst6 hrr6 hown6))
        obtain ⟨hw1, hw2, hw3, hw4, hw5⟩ := HW6.out
        have hi' : (⟨x0, true, x2, x3, x4, x5, x6, x7, x8, x9⟩ : Fx) = (pFx e2).1 := by rw [HFX.out]; rfl
        have hs' : (if false = true then none else some bs) = (pFx e2).2 := by rw [HFX.out, HSJ.out]; rfl
        have HN := HPn.out
        rw [← hi', ← hs'] at HN
        have HN2 := H! HN
        clear HN hi' hs'
        go_roundg (n2 - (k + 1))
        case measure => omega
        case rel => exact ⟨k + 1, r', c', types ++ [(⟨x0, true, x2, x3, x4, x5, x6, x7, x8, x9⟩ : Fx)], (if false = true then none else some bs), by go_num, by omega, by omega, hw5, H! hw1, H! (by simpa using hw2), H! hw3, H! hw4, HN2, H! (by rw [List.length_append, HL.out]; rfl)⟩
       by_cases nx0 : x1 = 0
       ·
        subst nx0
        go_wp2_with (first | (at_builtin; refine wpList_append_rowf Tryz.underlying23 infoFixed rfl (by omega) (by omega) (by rfl) _ _ (by rfl) (wr.setCell ⟨b, 1, none⟩ (.bool false)) w2.heap.size rt ct types ((⟨x0, false, x2, x3, x4, x5, x6, x7, x8, x9⟩ : Fx)) (by rfl) (fun u hu => by simp only [Fx.enc, List.mem_cons, List.not_mem_nil, or_false] at hu; rcases hu with rfl | rfl | rfl | rfl | rfl | rfl | rfl | rfl | rfl | rfl <;> rfl) (by rfl) (by rfl) (by first | rfl | (rw [zS]; rfl)) (HO5.out false) (by omega) (by rw [zS]; exact hD5) ?_; intro r' c' w6 hown6 hbw6 hst6 hrr6; have HW6 := H! (put_row hb2 hPw2 hPb (by rw [zS]; exact hD5) (HF5.out false).2.1 (HF5.out false).2.2 (HF5.out false).1 hown6 hbw6 1 (by simp) (.slice r' (types.length + 1) c')); have p6c := (hbw6.cell (p := ⟨P, 1, none⟩) hPw2).trans ((HF5.out false).2.2 1 _ rfl).1; have p6f := (hbw6.frozen (p := ⟨P, 1, none⟩) hPw2).trans ((HF5.out false).2.2 1 _ rfl).2; have HST := H! hst6; have HRR := H! hrr6; have HOW := H! hown6; have HBW := H! hbw6; clear hst6 hrr6 hown6))
        obtain ⟨hw1, hw2, hw3, hw4, hw5⟩ := HW6.out
        have hi' : (⟨x0, false, x2, x3, x4, x5, x6, x7, x8, x9⟩ : Fx) = (pFx e2).1 := by rw [HFX.out]; rfl
        have hs' : (if false = true then none else some bs) = (pFx e2).2 := by rw [HFX.out, HSJ.out]; rfl
        have HN := HPn.out
        rw [← hi', ← hs'] at HN
        have HN2 := H! HN
        clear HN hi' hs'
        go_roundg (n2 - (k + 1))
        case measure => omega
        case rel => exact ⟨k + 1, r', c', types ++ [(⟨x0, false, x2, x3, x4, x5, x6, x7, x8, x9⟩ : Fx)], (if false = true then none else some bs), by go_num, by omega, by omega, hw5, H! hw1, H! (by simpa using hw2), H! hw3, H! hw4, HN2, H! (by rw [List.length_append, HL.out]; rfl)⟩
       have nb1 : (x1 == 1) = false := by simp [nx1]
       have nb0 : (x1 == 0) = false := by simp [nx0]
       have nn1 : (x1 != 1) = true := by simp [nx1]
       have nn0 : (x1 != 0) = true := by simp [nx0]
       go_wp2_with (first | (at_builtin; refine wpList_append_rowf Tryz.underlying23 infoFixed rfl (by omega) (by omega) (by rfl) _ _ (by rfl) (wr.setCell ⟨b, 1, none⟩ (.bool true)) w2.heap.size rt ct types ((⟨x0, false, x2, x3, x4, x5, x6, x7, x8, x9⟩ : Fx)) (by rfl) (fun u hu => by simp only [Fx.enc, List.mem_cons, List.not_mem_nil, or_false] at hu; rcases hu with rfl | rfl | rfl | rfl | rfl | rfl | rfl | rfl | rfl | rfl <;> rfl) (by rfl) (by rfl) (by first | rfl | (rw [zS]; rfl)) (HO5.out true) (by omega) (by rw [zS]; exact hD5) ?_; intro r' c' w6 hown6 hbw6 hst6 hrr6; have HW6 := H! (put_row hb2 hPw2 hPb (by rw [zS]; exact hD5) (HF5.out true).2.1 (HF5.out true).2.2 (HF5.out true).1 hown6 hbw6 1 (by simp) (.slice r' (types.length + 1) c')); have p6c := (hbw6.cell (p := ⟨P, 1, none⟩) hPw2).trans ((HF5.out true).2.2 1 _ rfl).1; have p6f := (hbw6.frozen (p := ⟨P, 1, none⟩) hPw2).trans ((HF5.out true).2.2 1 _ rfl).2; have HST := H! hst6; have HRR := H! hrr6; have HOW := H! hown6; have HBW := H! hbw6; clear hst6 hrr6 hown6))
       obtain ⟨hw1, hw2, hw3, hw4, hw5⟩ := HW6.out
       have hi' : (⟨x0, false, x2, x3, x4, x5, x6, x7, x8, x9⟩ : Fx) = (pFx e2).1 := by rw [HFX.out]; simp only [decide_eq_false nx1]
       have hs' : (if true = true then none else some bs) = (pFx e2).2 := by rw [HFX.out, HSJ.out]; simp [nx0, nx1]
       have HN := HPn.out
       rw [← hi', ← hs'] at HN
       have HN2 := H! HN
       clear HN hi' hs'
       go_roundg (n2 - (k + 1))
       case measure => omega
       case rel => exact ⟨k + 1, r', c', types ++ [(⟨x0, false, x2, x3, x4, x5, x6, x7, x8, x9⟩ : Fx)], (if true = true then none else some bs), by go_num, by omega, by omega, hw5, H! hw1, H! (by simpa using hw2), H! hw3, H! hw4, HN2, H! (by rw [List.length_append, HL.out]; rfl)⟩
    ·
     obtain rfl : k = n2 := by omega
     have HQ2 : Hid (pMany pFx 80 e1 = (types, e2)) := H! (by rw [HM2.out, HP.out])
     have HBr : Hid (Below W0.heap.size W0 wr) := H! (HB2.out.trans ((HK.out.toB (B := W0.heap.size) (by omega) (by omega)).below (Nat.le_refl _) hB))
     have HGx : Hid (∀ x ∈ types, x.ok) := H! (by
      have h := pRep_all (f := pFx) (Q := Fx.ok) (fun s h => h.fx) (fun s _ => pFx_ok s) HSB2.out k
      rw [← HP.out] at h
      exact h)
     have HFc : Hid (∀ W', KeepA P wr W' → IsS 10 Fx.enc W' rt ct types ∧ ∀ x ∈ types, x.ok) := H! (fun W' hW => ⟨HO.out.closed (fun _ => rfl) hb2 hPw2 W' hW, HGx.out⟩)
     have hkz := HK.out.zero.size
     have HCn := H! (rcount_any b 16 W0 wr e2 HR.out hB HBr.out (by omega) (by omega))
     have hcl3 := pCount_le (size := 16) HR.out.len
     have HM3 : Hid (pMany pCv 16 e2 = pRep pCv (pCount 16 e2).1 (pCount 16 e2).2) := H! rfl
     generalize (pCount 16 e2).1 = n3 at *
     generalize (pCount 16 e2).2 = s3 at *
     go_wp2_with (first | (go_at_call 83; refine HCn.out.mono ?_; rintro _ w3 ⟨rfl, hr, hk3⟩; have HR3 := H! hr; have HKn3 := H! hk3; clear hr hk3))
     have hs3 := HKn3.out.zero.size
     have AP3 : Hid (AtV w3 P [.slice rc code.length cc, .slice rt types.length ct, .slice none 0 0, .slice none 0 0, .int .i64 0, .slice none 0 0, .slice none 0 0, .slice none 0 0, .slice none 0 0]) := H! (HA.out.keep (HKn3.out.block P (by omega) hPb))
     have AR3 : Hid (AtV w3 R [.slice none 0 0, .slice none 0 0, .slice none 0 0, .slice none 0 0, .int .i64 0, .slice none 0 0, .slice none 0 0, .slice none 0 0, .slice none 0 0]) := H! ((AR2.out.keep (HK.out.block R (by omega) hRb hRP)).keep (HKn3.out.block R (by omega) hRb))
     have HKw3 : Hid (KeepB w.heap.size b w w3) := H! ((HKw2.out.trans (HK.out.toB (by omega) (by omega))).trans (HKn3.out.mono (by omega)))
     have HSB3 : Hid (SxB s3) := H! HR3.out.bytes
     have HB3 : Hid (Below W0.heap.size W0 w3) := H! (HBr.out.trans (HKn3.out.below (by omega) hB))
     have HF3 : Hid (∀ W', KeepA P w3 W' → ((True ∧ (IsS 5 Ins.enc W' rc cc code ∧ ∀ x ∈ code, x.ok)) ∧ (IsS 10 Fx.enc W' rt ct types ∧ ∀ x ∈ types, x.ok))) := H! (fun W' hW => ⟨HF2.out W' (((KeepA.of2 HK.out hBP (Nat.le_refl _)).trans (KeepA.ofB HKn3.out hBP)).trans hW), HFc.out W' ((KeepA.ofB HKn3.out hBP).trans hW)⟩)
     have hb3 : b < w3.heap.size := by omega
     have hPw3 : P < w3.heap.size := by omega
     have hRw3 : R < w3.heap.size := by omega
     clear HCn HKn3 HK HA HO HR HFc AP2 AR2 HKw2 HB2 HSB2 HF2 HBr HM2 HP HL
     go_loopg [97] n3 (fun kx s97x wr => ∃ (k : Nat) (r : Option Addr) (c : Nat) (rows : List Cv) (sr : Sx), s97x = .int .i64 k ∧ k ≤ n3 ∧ n3 - k ≤ kx ∧ w3.heap.size ≤ wr.heap.size ∧ Hid (Keep2 w3.heap.size b P w3 wr) ∧ Hid (AtV wr P [.slice rc code.length cc, .slice rt types.length ct, .slice r rows.length c, .slice none 0 0, .int .i64 0, .slice none 0 0, .slice none 0 0, .slice none 0 0, .slice none 0 0]) ∧ Hid (OwnR 55 2 Cv.enc wr w3.heap.size r c rows) ∧ Hid (Rdr W0 wr b sr) ∧ Hid ((rows.map Cv.p, sr) = pRep pCv k s3) ∧ Hid (rows.length = k) ∧ Hid (∀ x ∈ rows, IntsO w3.heap.size r wr x.rx x.cx x.X ∧ IntsO w3.heap.size r wr x.ry x.cy x.Y))
     case atStart => exact ⟨0, none, 0, [], s3, rfl, by omega, by omega, Nat.le_refl _, H! (Keep2.refl _ _ _ _), AP3, H! (OwnR.nil _ _), HR3, H! rfl, H! rfl, H! (fun x hx => by simp at hx)⟩
     case round =>
      clear HR3
      obtain ⟨k, rv, cv, curves, e3, rfl, hk, hkx, hsz, HK, HA, HO, HR, HP, HL, HD⟩ := hrel
      by_cases hlt : k < n3
      ·
       skip
       have hk1 : (0 : Int) ≤ (k : Int) := by omega
       have hk2 : (k : Int) < n3 := by omega
       have HPn : Hid ((curves.map Cv.p ++ [(((pList e3).1, (pList (pList e3).2).1) : List Int × List Int)], (pList (pList e3).2).2) = pRep pCv (k + 1) s3) := H! (by rw [pRep, ← HP.out]; rfl)
       have HBr : Hid (Below W0.heap.size W0 wr) := H! (HB3.out.trans ((HK.out.toB (B := W0.heap.size) (by omega) (by omega)).below (Nat.le_refl _) hB))
       have HBd : Hid (Below W0.heap.size W0 wr.drew) := H! HBr.out.drew
       have HRd : Hid (Rdr W0 wr.drew b e3) := H! (HR.out.below (Below.refl wr.heap.size wr).drew (by omega))
       have HL1 := H! (rlst_any b W0 wr.drew e3 HRd.out hB HBd.out)
       have HL2 := H! (fun W h1 h2 => rlst_any b W0 W (pList e3).2 h1 hB h2)
       have HWX := H! (pList_wf e3)
       have HWY := H! (pList_wf (pList e3).2)
       generalize (pList (pList e3).2).2 = t2 at *
       generalize (pList (pList e3).2).1 = Y at *
       generalize (pList e3).2 = t1 at *
       generalize (pList e3).1 = X at *
       have hP3 : P < wr.heap.size := by omega
       obtain ⟨pc, pf⟩ := HA.out 2 _ rfl
       have hol : curves.length ≤ 100000 := by have := HL.out; omega
       have pcd : wr.drew.cell? ⟨P, 2, none⟩ = some (.slice rv curves.length cv) := pc
       have pfd : wr.drew.frozen? ⟨P, 2, none⟩ = false := pf
       have hzd : wr.drew.heap.size = wr.heap.size := rfl
       have tk0 : True := trivial
       have tk1 : True := trivial
       go_wp2
       go_region_law (first | (go_simp; have _t := tk0; go_at_call 87; refine (HL1.out).mono ?_; rintro _ v1 ⟨rX, cX, rfl, hoX, hrX, hkX⟩; have HOX := H! hoX; have HRX := H! hrX; have HKX := H! hkX; have hzX := hkX.zero.size; clear hoX hrX hkX tk0 _t; have pc1 : v1.cell? ⟨P, 2, none⟩ = some (.slice rv curves.length cv) := (HKX.out.cell (q := P) (by omega) hPb).trans pcd; have pf1 : v1.frozen? ⟨P, 2, none⟩ = false := (World.frozen?_of_block (a := ⟨P, 2, none⟩) (HKX.out.block P (by omega) hPb)).trans pfd; have HB1v : Hid (Below W0.heap.size W0 v1) := H! (HBd.out.trans (HKX.out.below (by omega) hB))) | (go_simp; have _t := tk1; go_at_call 87; refine (HL2.out _ HRX.out HB1v.out).mono ?_; rintro _ v2 ⟨rY, cY, rfl, hoY, hrY, hkY⟩; have HOY := H! hoY; have HRY := H! hrY; have HKY := H! hkY; have hzY := hkY.zero.size; clear hoY hrY hkY tk1 _t; have pc2 : v2.cell? ⟨P, 2, none⟩ = some (.slice rv curves.length cv) := (HKY.out.cell (q := P) (by omega) hPb).trans pc1; have pf2 : v2.frozen? ⟨P, 2, none⟩ = false := (World.frozen?_of_block (a := ⟨P, 2, none⟩) (HKY.out.block P (by omega) hPb)).trans pf1; have hca : ∀ o, (v2.alloc o).cell? ⟨P, 2, none⟩ = some (.slice rv curves.length cv) := (fun o => (((Below.refl v2.heap.size v2).alloc (Nat.le_refl _) o).cell (p := ⟨P, 2, none⟩) (by show P < v2.heap.size; omega)).trans pc2); have HO2 : Hid (OwnR 55 2 Cv.enc v2 w3.heap.size rv cv curves) := H! ((HO.out.keep (W' := v1) (fun a ha => HKX.out.block _ (HO.out.lt a ha).2 (by have := (HO.out.lt a ha).1; omega))).keep (fun a ha => HKY.out.block _ (by have := (HO.out.lt a ha).2; omega) (by have := (HO.out.lt a ha).1; omega)))) | ((refine step_of_list ?_); (refine wpList_append_rowf Tryz.underlying24 infoCurve rfl (by omega) (by omega) (by rfl) _ _ (by rfl) v2 w3.heap.size rv cv curves (⟨rX, cX, X, rY, cY, Y⟩ : Cv) (by rfl) (fun u hu => by simp only [Cv.enc, List.mem_cons, List.not_mem_nil, or_false] at hu; rcases hu with rfl | rfl <;> rfl) (by rfl) (by rfl) (by rfl) HO2.out (by omega) (by omega) ?_); (intro r' c' w6 hown6 hbw6 hst6 hrr6); (have HST := H! hst6); (have HRR := H! hrr6); (have HOW := H! hown6); (have p6c := (hbw6.cell (p := ⟨P, 2, none⟩) hPw3).trans pc2); (have p6f := (hbw6.frozen (p := ⟨P, 2, none⟩) hPw3).trans pf2); (clear hst6 hrr6 hown6); (refine ⟨rfl, ?_⟩)))
       all_goals
        have hD2 : w3.heap.size ≤ v2.heap.size := by omega
        have hz6 := hbw6.size
        have HW6 := H! (put_row hb3 hPw3 hPb hD2 (((HK.out.drew).trans (Keep2.ofB HKX.out (by omega))).trans (Keep2.ofB HKY.out (by omega))) ((HA.out.keep (W' := v1) (HKX.out.block P (by omega) hPb)).keep (HKY.out.block P (by omega) hPb)) HRY.out HOW.out hbw6 2 (by simp) (.slice r' (curves.length + 1) c'))
        have HDn : Hid (∀ x ∈ curves ++ [(⟨rX, cX, X, rY, cY, Y⟩ : Cv)], IntsO w3.heap.size r' (w6.setCell ⟨P, 2, none⟩ (.slice r' (curves.length + 1) c')) x.rx x.cx x.X ∧ IntsO w3.heap.size r' (w6.setCell ⟨P, 2, none⟩ (.slice r' (curves.length + 1) c')) x.ry x.cy x.Y) := H! (fun x hx => by
         rcases List.mem_append.1 hx with hx | hx
         ·
          obtain ⟨h1, h2⟩ := HD.out x hx
          exact ⟨((h1.drew.keepB HKX.out hb3).keepB HKY.out hb3).grow HST.out hz6 HRR.out hPw3 _, ((h2.drew.keepB HKX.out hb3).keepB HKY.out hb3).grow HST.out hz6 HRR.out hPw3 _⟩
         ·
          simp only [List.mem_singleton] at hx
          subst hx
          exact ⟨((IntsO.new HOX.out (by omega) (fun a ha => (HO.out.lt a ha).2) HWX.out).keepB HKY.out hb3).grow HST.out hz6 HRR.out hPw3 _, (IntsO.new HOY.out (by omega) (fun a ha => by have := (HO.out.lt a ha).2; omega) HWY.out).grow HST.out hz6 HRR.out hPw3 _⟩)
        obtain ⟨hw1, hw2, hw3, hw4, hw5⟩ := HW6.out
        clear HD HA HO HR HRd HRX HOX HOY HKX HKY HOW HST HRR HW6 HB1v HBd HBr hbw6 hca pc2 pf2
        go_wp2
        go_roundg (n3 - (k + 1))
        case measure => omega
        case rel => exact ⟨k + 1, r', c', curves ++ [⟨rX, cX, X, rY, cY, Y⟩], t2, by go_num, by omega, by omega, hw5, H! hw1, H! (by simpa using hw2), H! hw3, H! hw4, H! (by rw [List.map_append]; exact HPn.out), H! (by rw [List.length_append, HL.out]; rfl), HDn⟩
      ·
       obtain rfl : k = n3 := by omega
       have HQ3 : Hid (pMany pCv 16 e2 = (curves.map Cv.p, e3)) := H! (by rw [HM3.out, HP.out])
       have HBr : Hid (Below W0.heap.size W0 wr) := H! (HB3.out.trans ((HK.out.toB (B := W0.heap.size) (by omega) (by omega)).below (Nat.le_refl _) hB))
       have HFc : Hid (∀ W', KeepA P wr W' → IsS 2 Cv.enc W' rv cv curves ∧ ∀ x ∈ curves, x.ok W') := H! (fun W' hW => ⟨HO.out.closed (fun _ => rfl) hb3 hPw3 W' hW, fun x hx => ⟨(HD.out x hx).1.closed hb3 hPw3 W' hW, (HD.out x hx).2.closed hb3 hPw3 W' hW⟩⟩)
       have hkz := HK.out.zero.size
       have HCn := H! (rcount_any b 16 W0 wr e3 HR.out hB HBr.out (by omega) (by omega))
       have hcl4 := pCount_le (size := 16) HR.out.len
       have HM4 : Hid (pMany pMp 16 e3 = pRep pMp (pCount 16 e3).1 (pCount 16 e3).2) := H! rfl
       generalize (pCount 16 e3).1 = n4 at *
       generalize (pCount 16 e3).2 = s4 at *
       go_wp2_with (first | (go_at_call 83; refine HCn.out.mono ?_; rintro _ w4 ⟨rfl, hr, hk4⟩; have HR4 := H! hr; have HKn4 := H! hk4; clear hr hk4))
       have hs4 := HKn4.out.zero.size
       have AP4 : Hid (AtV w4 P [.slice rc code.length cc, .slice rt types.length ct, .slice rv curves.length cv, .slice none 0 0, .int .i64 0, .slice none 0 0, .slice none 0 0, .slice none 0 0, .slice none 0 0]) := H! (HA.out.keep (HKn4.out.block P (by omega) hPb))
       have AR4 : Hid (AtV w4 R [.slice none 0 0, .slice none 0 0, .slice none 0 0, .slice none 0 0, .int .i64 0, .slice none 0 0, .slice none 0 0, .slice none 0 0, .slice none 0 0]) := H! ((AR3.out.keep (HK.out.block R (by omega) hRb hRP)).keep (HKn4.out.block R (by omega) hRb))
       have HKw4 : Hid (KeepB w.heap.size b w w4) := H! ((HKw3.out.trans (HK.out.toB (by omega) (by omega))).trans (HKn4.out.mono (by omega)))
       have HSB4 : Hid (SxB s4) := H! HR4.out.bytes
       have HB4 : Hid (Below W0.heap.size W0 w4) := H! (HBr.out.trans (HKn4.out.below (by omega) hB))
       have HF4 : Hid (∀ W', KeepA P w4 W' → (((True ∧ (IsS 5 Ins.enc W' rc cc code ∧ ∀ x ∈ code, x.ok)) ∧ (IsS 10 Fx.enc W' rt ct types ∧ ∀ x ∈ types, x.ok)) ∧ (IsS 2 Cv.enc W' rv cv curves ∧ ∀ x ∈ curves, x.ok W'))) := H! (fun W' hW => ⟨HF3.out W' (((KeepA.of2 HK.out hBP (Nat.le_refl _)).trans (KeepA.ofB HKn4.out hBP)).trans hW), HFc.out W' ((KeepA.ofB HKn4.out hBP).trans hW)⟩)
       have hb4 : b < w4.heap.size := by omega
       have hPw4 : P < w4.heap.size := by omega
       have hRw4 : R < w4.heap.size := by omega
       clear HD HCn HKn4 HK HA HO HR HFc AP3 AR3 HKw3 HB3 HSB3 HF3 HBr HM3 HP HL
       go_loopg [112] n4 (fun kx s112x wr => ∃ (k : Nat) (r : Option Addr) (c : Nat) (rows : List Mq) (sr : Sx), s112x = .int .i64 k ∧ k ≤ n4 ∧ n4 - k ≤ kx ∧ w4.heap.size ≤ wr.heap.size ∧ Hid (Keep2 w4.heap.size b P w4 wr) ∧ Hid (AtV wr P [.slice rc code.length cc, .slice rt types.length ct, .slice rv curves.length cv, .slice r rows.length c, .int .i64 0, .slice none 0 0, .slice none 0 0, .slice none 0 0, .slice none 0 0]) ∧ Hid (OwnR 60 3 Mq.enc wr w4.heap.size r c rows) ∧ Hid (Rdr W0 wr b sr) ∧ Hid ((rows.map (fun m : Mq => m.mp.p), sr) = pRep pMp k s4) ∧ Hid (rows.length = k) ∧ Hid (∀ x ∈ rows, MqO w4.heap.size r wr x))
       case atStart => exact ⟨0, none, 0, [], s4, rfl, by omega, by omega, Nat.le_refl _, H! (Keep2.refl _ _ _ _), AP4, H! (OwnR.nil _ _), HR4, H! rfl, H! rfl, H! (fun x hx => by simp at hx)⟩
       case round =>
        clear HR4
        obtain ⟨k, rm, cm, maps, e4, rfl, hk, hkx, hsz, HK, HA, HO, HR, HP, HL, HD⟩ := hrel
        by_cases hlt : k < n4
        ·
         skip
         have hk1 : (0 : Int) ≤ (k : Int) := by omega
         have hk2 : (k : Int) < n4 := by omega
         have HPn : Hid ((maps.map (fun m : Mq => m.mp.p) ++ [((pList e4).1, (pList (pList e4).2).1, (pRep pList (pList e4).1.length (pList (pList e4).2).2).1)], (pRep pList (pList e4).1.length (pList (pList e4).2).2).2) = pRep pMp (k + 1) s4) := H! (by rw [pRep, ← HP.out]; rfl)
         have HBr : Hid (Below W0.heap.size W0 wr) := H! (HB4.out.trans ((HK.out.toB (B := W0.heap.size) (by omega) (by omega)).below (Nat.le_refl _) hB))
         have HL1 := H! (rlst_any b W0 wr e4 HR.out hB HBr.out)
         have HL2 := H! (fun W h1 h2 => rlst_any b W0 W (pList e4).2 h1 hB h2)
         have HWX := H! (pList_wf e4)
         have HWY := H! (pList_wf (pList e4).2)
         have hXl : (pList e4).1.length ≤ 100000 := by unfold pList; rw [pRep_len]; exact pCount_le HR.out.len
         generalize (pList (pList e4).2).2 = t2 at *
         generalize (pList (pList e4).2).1 = Y at *
         generalize (pList e4).2 = t1 at *
         generalize (pList e4).1 = X at *
         have hP4 : P < wr.heap.size := by omega
         have hol : maps.length ≤ 100000 := by have := HL.out; omega
         have tk0 : True := trivial
         have tk1 : True := trivial
         go_wp2_with (first | (have _t := tk0; go_at_call 87; refine HL1.out.mono ?_; rintro _ v1 ⟨rX, cX, rfl, hoX, hrX, hkX⟩; have HOX := H! hoX; have HRX := H! hrX; have HKX := H! hkX; have hzX := hkX.zero.size; clear hoX hrX hkX tk0 _t; have HB1v : Hid (Below W0.heap.size W0 v1) := H! (HBr.out.trans (HKX.out.below (by omega) hB))) | (have _t := tk1; go_at_call 87; refine (HL2.out _ HRX.out HB1v.out).mono ?_; rintro _ v2 ⟨rY, cY, rfl, hoY, hrY, hkY⟩; have HOY := H! hoY; have HRY := H! hrY; have HKY := H! hkY; have hzY := hkY.zero.size; clear hoY hrY hkY tk1 _t))
         have HB2v : Hid (Below W0.heap.size W0 v2) := H! (HB1v.out.trans (HKY.out.below (by omega) hB))
         have HK2v : Hid (Keep2 w4.heap.size b P w4 v2) := H! ((HK.out.trans (Keep2.ofB HKX.out (by omega))).trans (Keep2.ofB HKY.out (by omega)))
         have HA2v := H! ((HA.out.keep (W' := v1) (HKX.out.block P (by omega) hPb)).keep (HKY.out.block P (by omega) hPb))
         have HO2v : Hid (OwnR 60 3 Mq.enc v2 w4.heap.size rm cm maps) := H! ((HO.out.keep (W' := v1) (fun a ha => HKX.out.block _ (HO.out.lt a ha).2 (by have := (HO.out.lt a ha).1; omega))).keep (fun a ha => HKY.out.block _ (by have := (HO.out.lt a ha).2; omega) (by have := (HO.out.lt a ha).1; omega)))
         have HD2v : Hid (∀ x ∈ maps, MqO w4.heap.size rm v2 x) := H! (fun x hx => ((HD.out x hx).keepB HKX.out hb4).keepB HKY.out hb4)
         have HX2v : Hid (IntsO w4.heap.size rm v2 rX cX X) := H! ((IntsO.new HOX.out (by omega) (fun a ha => (HO.out.lt a ha).2) HWX.out).keepB HKY.out hb4)
         have HY2v : Hid (IntsO w4.heap.size rm v2 rY cY Y) := H! (IntsO.new HOY.out (by omega) (fun a ha => by have := (HO.out.lt a ha).2; omega) HWY.out)
         have AM : AtV (v2.alloc (.cells #[.slice rX X.length cX, .slice rY Y.length cY, .slice none 0 0] 60)) v2.heap.size [.slice rX X.length cX, .slice rY Y.length cY, .slice none 0 0] := AtV.new v2 [.slice rX X.length cX, .slice rY Y.length cY, .slice none 0 0] 60
         have hbm : Below v2.heap.size v2 (v2.alloc (.cells #[.slice rX X.length cX, .slice rY Y.length cY, .slice none 0 0] 60)) := (Below.refl _ _).alloc (Nat.le_refl _) _
         have hzm : v2.heap.size < (v2.alloc (.cells #[.slice rX X.length cX, .slice rY Y.length cY, .slice none 0 0] 60)).heap.size := by rw [zA]; omega
         have HRm : Hid (Rdr W0 (v2.alloc (.cells #[.slice rX X.length cX, .slice rY Y.length cY, .slice none 0 0] 60)) b t2) := H! (HRY.out.below hbm (by omega))
         have HBm : Hid (Below W0.heap.size W0 (v2.alloc (.cells #[.slice rX X.length cX, .slice rY Y.length cY, .slice none 0 0] 60))) := H! (HB2v.out.trans (hbm.mono (by omega)))
         have hXX : (X.length : Int) ≤ 100000 := by omega
         have HBm2 := H! hbm
         have hMb : ¬ v2.heap.size = b := by omega
         have hbM : ¬ b = v2.heap.size := by omega
         have hMP : ¬ v2.heap.size = P := by omega
         have hPM : ¬ P = v2.heap.size := by omega
         have hDM : w4.heap.size ≤ v2.heap.size := by omega
         clear HB2v HB1v HK HA HO HD HOX HOY HKX HKY HR HRX HRY HL1 HL2 hbm HBr hzX hzY
         generalize v2.alloc (.cells #[.slice rX X.length cX, .slice rY Y.length cY, .slice none 0 0] 60) = wm at *
         generalize hM : v2.heap.size = M at *
         have hM1 : v2.heap.size ≤ M := by omega
         have hM2 : M ≤ v2.heap.size := by omega
         clear hM
         go_loopg [122] X.length (fun kx s122x wr => ∃ (j : Nat) (r : Option Addr) (c : Nat) (rows : List Rw) (sj : Sx), s122x = .int .i64 j ∧ j ≤ X.length ∧ X.length - j ≤ kx ∧ M + 1 ≤ wr.heap.size ∧ Hid (Keep2 (M + 1) b M wm wr) ∧ Hid (AtV wr M [.slice rX X.length cX, .slice rY Y.length cY, .slice r rows.length c]) ∧ Hid (OwnR 26 1 Rw.enc wr (M + 1) r c rows) ∧ Hid (Rdr W0 wr b sj) ∧ Hid ((rows.map Rw.l, sj) = pRep pList j t2) ∧ Hid (rows.length = j) ∧ Hid (∀ x ∈ rows, IntsO (M + 1) r wr x.r x.c x.l))
         case atStart => exact ⟨0, none, 0, [], t2, rfl, by omega, by omega, hzm, H! (Keep2.refl _ _ _ _), H! AM, H! (OwnR.nil _ _), HRm, H! rfl, H! rfl, H! (fun x hx => by simp at hx)⟩
         case round =>
          clear AM HRm
          obtain ⟨j, rz, cz, Z, ej, rfl, hj, hjx, hjz, HKj, HAj, HOj, HRj, HPj, HLj, HDj⟩ := hrel
          obtain ⟨mc0, mf0⟩ := HAj.out 0 _ rfl
          obtain ⟨mc2, mf2⟩ := HAj.out 2 _ rfl
          have HBj : Hid (Below W0.heap.size W0 wr) := H! (HBm.out.trans ((HKj.out.toB (B := W0.heap.size) (by omega) (by omega)).below (Nat.le_refl _) hB))
          by_cases hjl : j < X.length
          ·
           have hj1 : (0 : Int) ≤ (j : Int) := by omega
           have hj2 : (j : Int) < X.length := by omega
           have HBd : Hid (Below W0.heap.size W0 wr.drew) := H! HBj.out.drew
           have HRd : Hid (Rdr W0 wr.drew b ej) := H! (HRj.out.below (Below.refl wr.heap.size wr).drew (by omega))
           have HLr := H! (rlst_any b W0 wr.drew ej HRd.out hB HBd.out)
           have HWr := H! (pList_wf ej)
           have HPj2 : Hid ((Z.map Rw.l ++ [(pList ej).1], (pList ej).2) = pRep pList (j + 1) t2) := H! (by rw [pRep, ← HPj.out])
           generalize (pList ej).1 = row at *
           generalize (pList ej).2 = ej2 at *
           have hzl : Z.length ≤ 100000 := by have := HLj.out; omega
           have mcd : wr.drew.cell? ⟨M, 2, none⟩ = some (.slice rz Z.length cz) := mc2
           have mfd : wr.drew.frozen? ⟨M, 2, none⟩ = false := mf2
           have hzd : wr.drew.heap.size = wr.heap.size := rfl
           have tk0 : True := trivial
           go_wp2
           go_region_law (first | (go_simp; have _t := tk0; go_at_call 87; refine (HLr.out).mono ?_; rintro _ v3 ⟨rQ, cQ, rfl, hoQ, hrQ, hkQ⟩; have HOQ := H! hoQ; have HRQ := H! hrQ; have HKQ := H! hkQ; have hzQ := hkQ.zero.size; clear hoQ hrQ hkQ tk0 _t; have mc3 : v3.cell? ⟨M, 2, none⟩ = some (.slice rz Z.length cz) := (HKQ.out.cell (q := M) (by omega) hMb).trans mcd; have mf3 : v3.frozen? ⟨M, 2, none⟩ = false := (World.frozen?_of_block (a := ⟨M, 2, none⟩) (HKQ.out.block M (by omega) hMb)).trans mfd; have hca : ∀ o, (v3.alloc o).cell? ⟨M, 2, none⟩ = some (.slice rz Z.length cz) := (fun o => (((Below.refl v3.heap.size v3).alloc (Nat.le_refl _) o).cell (p := ⟨M, 2, none⟩) (by show M < v3.heap.size; omega)).trans mc3); have HO3 : Hid (OwnR 26 1 Rw.enc v3 (M + 1) rz cz Z) := H! (HOj.out.keep (fun a ha => HKQ.out.block _ (HOj.out.lt a ha).2 (by have := (HOj.out.lt a ha).1; omega)))) | ((refine step_of_list ?_); (refine wpList_append_rowf Tryz.underlying58 infoRow rfl (by omega) (by omega) (by rfl) _ _ (by rfl) v3 (M + 1) rz cz Z (⟨rQ, cQ, row⟩ : Rw) (by rfl) (fun u hu => by simp only [Rw.enc, List.mem_cons, List.not_mem_nil, or_false] at hu; rcases hu with rfl; rfl) (by rfl) (by rfl) (by rfl) HO3.out (by omega) (by omega) ?_); (intro r' c' w6 hown6 hbw6 hst6 hrr6); (have HST := H! hst6); (have HRR := H! hrr6); (have HOW := H! hown6); (have m6c := (hbw6.cell (p := ⟨M, 2, none⟩) (Nat.lt_succ_self M)).trans mc3); (have m6f := (hbw6.frozen (p := ⟨M, 2, none⟩) (Nat.lt_succ_self M)).trans mf3); (clear hst6 hrr6 hown6); (refine ⟨rfl, ?_⟩)))
           all_goals
            have hD2 : M + 1 ≤ v3.heap.size := by omega
            have hz6 := hbw6.size
            have hbM1 : b < M + 1 := by omega
            have HW6 := H! (put_row hbM1 (Nat.lt_succ_self M) hMb hD2 ((HKj.out.drew).trans (Keep2.ofB HKQ.out (by omega))) (HAj.out.keep (W' := v3) (HKQ.out.block M (by omega) hMb)) HRQ.out HOW.out hbw6 2 (by simp) (.slice r' (Z.length + 1) c'))
            have HDn : Hid (∀ x ∈ Z ++ [(⟨rQ, cQ, row⟩ : Rw)], IntsO (M + 1) r' (w6.setCell ⟨M, 2, none⟩ (.slice r' (Z.length + 1) c')) x.r x.c x.l) := H! (fun x hx => by
             rcases List.mem_append.1 hx with hx | hx
             ·
              exact ((HDj.out x hx).drew.keepB HKQ.out hbM1).grow HST.out hz6 HRR.out (Nat.lt_succ_self M) _
             ·
              simp only [List.mem_singleton] at hx
              subst hx
              exact (IntsO.new HOQ.out (by omega) (fun a ha => (HOj.out.lt a ha).2) HWr.out).grow HST.out hz6 HRR.out (Nat.lt_succ_self M) _)
            obtain ⟨hw1, hw2, hw3, hw4, hw5⟩ := HW6.out
            clear HDj HAj HOj HRj HRd HRQ HOQ HKQ HOW HST HRR HW6 HBd HBj hbw6 hca mc3 mf3
            go_wp2
            go_roundg (X.length - (j + 1))
            case measure => omega
            case rel => exact ⟨j + 1, r', c', Z ++ [⟨rQ, cQ, row⟩], ej2, by go_num, by omega, by omega, hw5, H! hw1, H! (by simpa using hw2), H! hw3, H! hw4, H! (by rw [List.map_append]; exact HPj2.out), H! (by rw [List.length_append, HLj.out]; rfl), HDn⟩
          ·
           obtain rfl : j = X.length := by omega
           have HQ : Hid ((Z.map Rw.l, ej) = pRep pList X.length t2) := H! HPj.out
           have HPn2 : Hid ((maps.map (fun m : Mq => m.mp.p) ++ [(X, Y, Z.map Rw.l)], ej) = pRep pMp (k + 1) s4) := H! (by have h := HPn.out; rw [← HQ.out] at h; exact h)
           clear HPn HPj HQ
           have hzw : v2.heap.size ≤ wr.heap.size := by omega
           have HVM : Hid (∀ q, q < M → q ≠ b → wr.heap[q]? = v2.heap[q]?) := H! (fun q h1 h2 => (HKj.out.block q (by omega) h2 (by omega)).trans (HBm2.out.block q (by omega)))
           have HAw := H! (HA2v.out.keep (HVM.out P (by omega) hPb))
           have HOw : Hid (OwnR 60 3 Mq.enc wr w4.heap.size rm cm maps) := H! (HO2v.out.keep (fun a ha => HVM.out _ (by have := (HO2v.out.lt a ha).2; omega) (by have := (HO2v.out.lt a ha).1; omega)))
           have HKw' : Hid (Keep2 w4.heap.size b P w4 wr) := H! (HK2v.out.trans ⟨(HBm2.out.mono (Nat.zero_le _)).trans HKj.out.zero, fun q h1 h2 _ => HVM.out q (by omega) h2⟩)
           have HDw : Hid (∀ x ∈ maps, MqO w4.heap.size rm wr x) := H! (fun x hx => (HD2v.out x hx).step (fun q h1 h2 _ => HVM.out q (by omega) (by omega)) hzw (fun a ha => .inl ⟨a, ha, rfl⟩))
           have HNw : Hid (MqO w4.heap.size rm wr ⟨rX, cX, X, rY, cY, Y, rz, cz, Z⟩) := H!
            ⟨HX2v.out.step (fun q h1 h2 _ => HVM.out q (by omega) (by omega)) hzw (fun a ha => .inl ⟨a, ha, rfl⟩), HY2v.out.step (fun q h1 h2 _ => HVM.out q (by omega) (by omega)) hzw (fun a ha => .inl ⟨a, ha, rfl⟩), HOj.out.isS (fun _ => rfl),
             fun a ha => ⟨by have := (HOj.out.lt a ha).1; omega, (HOj.out.lt a ha).2, fun x hx => by have h1 := (HO2v.out.lt x hx).2; have h2 := (HOj.out.lt a ha).1; omega⟩,
             fun r hr => ((HDj.out r hr).done (g' := rm) (fun x hx => by have h1 := (HO2v.out.lt x hx).2; omega)).base (by omega)⟩
           obtain ⟨mc1, mf1⟩ := HAj.out 1 _ rfl
           obtain ⟨p3c, p3f⟩ := HAw.out 3 _ rfl
           have hD6 : w4.heap.size ≤ wr.heap.size := by omega
           clear HVM HA2v HO2v HK2v HD2v HX2v HY2v HKj HAj HOj HDj HBm HBm2 HBj
           go_wp2_with (first | (at_builtin; refine wpList_append_rowf Tryz.underlying25 infoMap rfl (by omega) (by omega) (by rfl) _ _ (by rfl) wr w4.heap.size rm cm maps (⟨rX, cX, X, rY, cY, Y, rz, cz, Z⟩ : Mq) (by rfl) (fun u hu => by simp only [Mq.enc, List.mem_cons, List.not_mem_nil, or_false] at hu; rcases hu with rfl | rfl | rfl <;> rfl) (by rfl) (by rfl) (by rfl) HOw.out (by omega) hD6 ?_; intro r' c' w6 hown6 hbw6 hst6 hrr6; have HST := H! hst6; have HRR := H! hrr6; have HOW := H! hown6; have p6c := (hbw6.cell (p := ⟨P, 3, none⟩) hPw4).trans p3c; have p6f := (hbw6.frozen (p := ⟨P, 3, none⟩) hPw4).trans p3f; clear hst6 hrr6 hown6))
           have hz6 := hbw6.size
           have HW6 := H! (put_row hb4 hPw4 hPb hD6 HKw'.out HAw.out HRj.out HOW.out hbw6 3 (by simp) (.slice r' (maps.length + 1) c'))
           have HDn : Hid (∀ x ∈ maps ++ [(⟨rX, cX, X, rY, cY, Y, rz, cz, Z⟩ : Mq)], MqO w4.heap.size r' (w6.setCell ⟨P, 3, none⟩ (.slice r' (maps.length + 1) c')) x) := H! (fun x hx => by
            rcases List.mem_append.1 hx with hx | hx
            ·
             exact (HDw.out x hx).grow HST.out hz6 HRR.out hPw4 _
            ·
             simp only [List.mem_singleton] at hx
             subst hx
             exact HNw.out.grow HST.out hz6 HRR.out hPw4 _)
           obtain ⟨hw1, hw2, hw3, hw4, hw5⟩ := HW6.out
           go_roundg (n4 - (k + 1))
           case measure => omega
           case rel => exact ⟨k + 1, r', c', maps ++ [⟨rX, cX, X, rY, cY, Y, rz, cz, Z⟩], ej, by go_num, by omega, by omega, hw5, H! hw1, H! (by simpa using hw2), H! hw3, H! hw4, H! (by rw [List.map_append]; exact HPn2.out), H! (by rw [List.length_append, HL.out]; rfl), HDn⟩
        ·
         obtain rfl : k = n4 := by omega
         have HQ4 : Hid (pMany pMp 16 e3 = (maps.map (fun m : Mq => m.mp.p), e4)) := H! (by rw [HM4.out, HP.out])
         have HBr : Hid (Below W0.heap.size W0 wr) := H! (HB4.out.trans ((HK.out.toB (B := W0.heap.size) (by omega) (by omega)).below (Nat.le_refl _) hB))
         have HFc : Hid (∀ W', KeepA P wr W' → IsS 3 Mq.enc W' rm cm maps ∧ ∀ x ∈ maps, x.mp.ok W') := H! (fun W' hW => ⟨HO.out.closed (fun _ => rfl) hb4 hPw4 W' hW, fun x hx => (HD.out x hx).closed hb4 hPw4 W' hW⟩)
         have hkz := HK.out.zero.size
         have hkw := HK.out.zero.size
         have HI := H! (rint_any b W0 wr e4 HR.out hB HBr.out)
         have HX0 := H! (pInt_wf e4)
         have HQ5 : Hid (pInt e4 = ((pInt e4).1, (pInt e4).2)) := H! rfl
         generalize (pInt e4).2 = t1 at *
         generalize (pInt e4).1 = x at *
         have HL1 := H! (fun W h1 h2 => rlst_any b W0 W t1 h1 hB h2)
         have HL2 := H! (fun W h1 h2 => rlst_any b W0 W (pList t1).2 h1 hB h2)
         have HL3 := H! (fun W h1 h2 => rlst_any b W0 W (pList (pList t1).2).2 h1 hB h2)
         have HL4 := H! (fun W h1 h2 => rlst_any b W0 W (pList (pList (pList t1).2).2).2 h1 hB h2)
         have HQL : Hid (pPrg s = (⟨code, types, curves.map Cv.p, maps.map (fun m : Mq => m.mp.p), x, (pList t1).1, (pList (pList t1).2).1, (pList (pList (pList t1).2).2).1, (pList (pList (pList (pList t1).2).2).2).1⟩, (pList (pList (pList (pList t1).2).2).2).2)) := H! (by
          unfold pPrg
          rw [HQ1.out]; simp only
          rw [HQ2.out]; simp only
          rw [HQ3.out]; simp only
          rw [HQ4.out]; simp only
          rw [HQ5.out])
         have HW1 := H! (pList_wf t1)
         have HW2 := H! (pList_wf (pList t1).2)
         have HW3 := H! (pList_wf (pList (pList t1).2).2)
         have HW4 := H! (pList_wf (pList (pList (pList t1).2).2).2)
         generalize (pList (pList (pList (pList t1).2).2).2).2 = t5 at *
         generalize (pList (pList (pList (pList t1).2).2).2).1 = l4 at *
         generalize (pList (pList (pList t1).2).2).2 = t4 at *
         generalize (pList (pList (pList t1).2).2).1 = l3 at *
         generalize (pList (pList t1).2).2 = t3 at *
         generalize (pList (pList t1).2).1 = l2 at *
         generalize (pList t1).2 = t2 at *
         generalize (pList t1).1 = l1 at *
         have HARr := H! (AR4.out.keep (HK.out.block R (by omega) hRb hRP))
         have hPz : P < wr.heap.size := by omega
         have hRz : R < wr.heap.size := by omega
         have tk1 : True := trivial
         have tk2 : True := trivial
         have tk3 : True := trivial
         have tk4 : True := trivial
         go_wp2_with (first | (go_at_call 86; refine HI.out.mono ?_; rintro _ u0 ⟨rfl, hr0, hk0⟩; have HK0 := H! hk0; have hz0 := hk0.zero.size; have AP0 := HA.out.keep (hk0.block P (by omega) hPb); have ARd0 : Hid (AtV (u0.setCell ⟨P, 4, none⟩ (.int .i64 x)) R [.slice none 0 0, .slice none 0 0, .slice none 0 0, .slice none 0 0, .int .i64 0, .slice none 0 0, .slice none 0 0, .slice none 0 0, .slice none 0 0]) := H! ((HARr.out.keep (hk0.block R (by omega) hRb)).keep (Below.heap_setCell _ _ _ _ hRP)); have APd0 : Hid (AtV (u0.setCell ⟨P, 4, none⟩ (.int .i64 x)) P [.slice rc code.length cc, .slice rt types.length ct, .slice rv curves.length cv, .slice rm maps.length cm, .int .i64 x, .slice none 0 0, .slice none 0 0, .slice none 0 0, .slice none 0 0]) := H! (AP0.set (j := 4) (by simp) (.int .i64 x)); have z4c := (AP0 4 _ rfl).1; have z4f := (AP0 4 _ rfl).2; have HRd0 : Hid (Rdr W0 (u0.setCell ⟨P, 4, none⟩ (.int .i64 x)) b t1) := H! (hr0.keep (Below.heap_setCell _ _ _ _ hbP) (by rw [zS]; exact Nat.le_refl _)); have HBd0 : Hid (Below W0.heap.size W0 (u0.setCell ⟨P, 4, none⟩ (.int .i64 x))) := H! ((HBr.out.trans (hk0.below (by omega) hB)).setCell (p := ⟨P, 4, none⟩) (by show W0.heap.size ≤ P; omega) _); clear hr0 hk0 AP0) | (have _t := tk1; go_at_call 87; refine (HL1.out _ HRd0.out HBd0.out).mono ?_; rintro _ u1 ⟨r1, c1, rfl, ho1, hr1, hk1⟩; have HOl1 := H! ho1; have HRd1 := H! hr1; have HKd1 := H! hk1; have hz1 := hk1.zero.size; (try simp only [zS] at hz1); clear ho1 hr1 hk1 tk1 _t; have HBd1 : Hid (Below W0.heap.size W0 u1) := H! (HBd0.out.trans (HKd1.out.below (by (try simp only [zS]); omega) hB)); have APd1 := H! (APd0.out.keep (HKd1.out.block P (by (try simp only [zS]); omega) hPb)); have ARd1 := H! (ARd0.out.keep (HKd1.out.block R (by (try simp only [zS]); omega) hRb))) | (have _t := tk2; go_at_call 87; refine (HL2.out _ HRd1.out HBd1.out).mono ?_; rintro _ u2 ⟨r2, c2, rfl, ho2, hr2, hk2⟩; have HOl2 := H! ho2; have HRd2 := H! hr2; have HKd2 := H! hk2; have hz2 := hk2.zero.size; (try simp only [zS] at hz2); clear ho2 hr2 hk2 tk2 _t; have HBd2 : Hid (Below W0.heap.size W0 u2) := H! (HBd1.out.trans (HKd2.out.below (by (try simp only [zS]); omega) hB)); have APd2 := H! (APd1.out.keep (HKd2.out.block P (by (try simp only [zS]); omega) hPb)); have ARd2 := H! (ARd1.out.keep (HKd2.out.block R (by (try simp only [zS]); omega) hRb))) | (have _t := tk3; go_at_call 87; refine (HL3.out _ HRd2.out HBd2.out).mono ?_; rintro _ u3 ⟨r3, c3, rfl, ho3, hr3, hk3⟩; have HOl3 := H! ho3; have HRd3 := H! hr3; have HKd3 := H! hk3; have hz3 := hk3.zero.size; (try simp only [zS] at hz3); clear ho3 hr3 hk3 tk3 _t; have HBd3 : Hid (Below W0.heap.size W0 u3) := H! (HBd2.out.trans (HKd3.out.below (by (try simp only [zS]); omega) hB)); have APd3 := H! (APd2.out.keep (HKd3.out.block P (by (try simp only [zS]); omega) hPb)); have ARd3 := H! (ARd2.out.keep (HKd3.out.block R (by (try simp only [zS]); omega) hRb))) | (have _t := tk4; go_at_call 87; refine (HL4.out _ HRd3.out HBd3.out).mono ?_; rintro _ u4 ⟨r4, c4, rfl, ho4, hr4, hk4⟩; have HOl4 := H! ho4; have HRd4 := H! hr4; have HKd4 := H! hk4; have hz4 := hk4.zero.size; (try simp only [zS] at hz4); clear ho4 hr4 hk4 tk4 _t; have HBd4 : Hid (Below W0.heap.size W0 u4) := H! (HBd3.out.trans (HKd4.out.below (by (try simp only [zS]); omega) hB)); have APd4 := H! (APd3.out.keep (HKd4.out.block P (by (try simp only [zS]); omega) hPb)); have ARd4 := H! (ARd3.out.keep (HKd4.out.block R (by (try simp only [zS]); omega) hRb)); have p0c := (APd4.out 0 _ rfl).1; have p1c := (APd4.out 1 _ rfl).1; have p2c := (APd4.out 2 _ rfl).1; have p3c := (APd4.out 3 _ rfl).1; have p4c := (APd4.out 4 _ rfl).1; have p5c := (APd4.out 5 _ rfl).1; have p6c := (APd4.out 6 _ rfl).1; have p7c := (APd4.out 7 _ rfl).1; have p8c := (APd4.out 8 _ rfl).1; have pff : ∀ z : Nat, z < 9 → u4.frozen? ⟨P, z, none⟩ = false := (fun z hz => (APd4.out z _ (List.getElem?_eq_getElem (by simpa using hz))).2); have pf5 := pff 5 (by omega); have pf6 := pff 6 (by omega); have pf7 := pff 7 (by omega); have pf8 := pff 8 (by omega); have q0c := (ARd4.out 0 _ rfl).1; have q0f := (ARd4.out 0 _ rfl).2; have q1c := (ARd4.out 1 _ rfl).1; have q1f := (ARd4.out 1 _ rfl).2; have q2c := (ARd4.out 2 _ rfl).1; have q2f := (ARd4.out 2 _ rfl).2; have q3c := (ARd4.out 3 _ rfl).1; have q3f := (ARd4.out 3 _ rfl).2; have q4c := (ARd4.out 4 _ rfl).1; have q4f := (ARd4.out 4 _ rfl).2; have q5c := (ARd4.out 5 _ rfl).1; have q5f := (ARd4.out 5 _ rfl).2; have q6c := (ARd4.out 6 _ rfl).1; have q6f := (ARd4.out 6 _ rfl).2; have q7c := (ARd4.out 7 _ rfl).1; have q7f := (ARd4.out 7 _ rfl).2; have q8c := (ARd4.out 8 _ rfl).1; have q8f := (ARd4.out 8 _ rfl).2))
         have hPw9 : w.heap.size ≤ P := by omega
         have hz01 : (u0.setCell ⟨P, 4, none⟩ (.int .i64 x)).heap.size = u0.heap.size := zS _ _ _
         have hKA0 : KeepA P wr (u0.setCell ⟨P, 4, none⟩ (.int .i64 x)) := (KeepA.ofB HK0.out hBP).trans (KeepA.set _ (Nat.le_refl P) 4 _)
         have hKA1 : KeepA P wr u1 := hKA0.trans (KeepA.ofB HKd1.out hBP)
         have hK12 : KeepA P u1 u2 := KeepA.ofB HKd2.out hBP
         have hK23 : KeepA P u2 u3 := KeepA.ofB HKd3.out hBP
         have hK34 : KeepA P u3 u4 := KeepA.ofB HKd4.out hBP
         have kset : ∀ (W : World) (q j : Nat) (v : Value), w.heap.size ≤ q → KeepB w.heap.size b W (W.setCell ⟨q, j, none⟩ v) := fun W q j v h => below_keepB ((Below.refl _ W).setCell (p := ⟨q, j, none⟩) h v)
         have hset : ∀ (W : World) (q j : Nat) (v : Value), ¬ b = q → (W.setCell ⟨q, j, none⟩ v).heap[b]? = W.heap[b]? := fun W q j v h => Below.heap_setCell _ _ _ _ h
         have hKB4 : KeepB w.heap.size b w u4 := (((((((HKw4.out.trans (HK.out.toB (by omega) (by omega))).trans (HK0.out.mono (by omega))).trans (kset _ P 4 _ hPw9)).trans (HKd1.out.mono (by omega))).trans (HKd2.out.mono (by omega))).trans (HKd3.out.mono (by omega))).trans (HKd4.out.mono (by omega)))
         refine bodyPost_ret (by simp [results, Tryz.results39, go_sem, *]; try rfl) rfl ?_
         obtain ⟨wf, hwf⟩ : ∃ v : World, v = (((((((((((((u4).setCell ⟨P, 5, none⟩ (.slice r1 l1.length c1)).setCell ⟨P, 6, none⟩ (.slice r2 l2.length c2)).setCell ⟨P, 7, none⟩ (.slice r3 l3.length c3)).setCell ⟨P, 8, none⟩ (.slice r4 l4.length c4)).setCell ⟨R, 0, none⟩ (.slice rc code.length cc)).setCell ⟨R, 1, none⟩ (.slice rt types.length ct)).setCell ⟨R, 2, none⟩ (.slice rv curves.length cv)).setCell ⟨R, 3, none⟩ (.slice rm maps.length cm)).setCell ⟨R, 4, none⟩ (.int .i64 x)).setCell ⟨R, 5, none⟩ (.slice r1 l1.length c1)).setCell ⟨R, 6, none⟩ (.slice r2 l2.length c2)).setCell ⟨R, 7, none⟩ (.slice r3 l3.length c3)).setCell ⟨R, 8, none⟩ (.slice r4 l4.length c4) := ⟨_, rfl⟩
         rw [← hwf]
         have hKf : KeepA P u4 wf := by
          rw [hwf]
          exact ((((((((((((KeepA.set u4 (Nat.le_refl P) 5 _).trans (KeepA.set _ (Nat.le_refl P) 6 _)).trans (KeepA.set _ (Nat.le_refl P) 7 _)).trans (KeepA.set _ (Nat.le_refl P) 8 _)).trans (KeepA.set _ (Nat.le_of_lt hPl) 0 _)).trans (KeepA.set _ (Nat.le_of_lt hPl) 1 _)).trans (KeepA.set _ (Nat.le_of_lt hPl) 2 _)).trans (KeepA.set _ (Nat.le_of_lt hPl) 3 _)).trans (KeepA.set _ (Nat.le_of_lt hPl) 4 _)).trans (KeepA.set _ (Nat.le_of_lt hPl) 5 _)).trans (KeepA.set _ (Nat.le_of_lt hPl) 6 _)).trans (KeepA.set _ (Nat.le_of_lt hPl) 7 _)).trans (KeepA.set _ (Nat.le_of_lt hPl) 8 _)
         have hKBf : KeepB w.heap.size b u4 wf := by
          rw [hwf]
          exact ((((((((((((kset u4 P 5 _ hPw9).trans (kset _ P 6 _ hPw9)).trans (kset _ P 7 _ hPw9)).trans (kset _ P 8 _ hPw9)).trans (kset _ R 0 _ hRl)).trans (kset _ R 1 _ hRl)).trans (kset _ R 2 _ hRl)).trans (kset _ R 3 _ hRl)).trans (kset _ R 4 _ hRl)).trans (kset _ R 5 _ hRl)).trans (kset _ R 6 _ hRl)).trans (kset _ R 7 _ hRl)).trans (kset _ R 8 _ hRl)
         have hlist : ∀ {W W' : World} {D : Nat} {r : Option Addr} {c : Nat} {l : List Int}, OwnK .i64 3 W D r c l → P < D → KeepA P W W' → (∀ x ∈ l, I64 x) → IsInts W' r c .i64 l := fun ho hD hk hw => ints_keep (ho.ints (fun x hx => hw x hx)) (fun a ha => hk.block _ (by have := (ho.lt a ha).1; omega) (ho.lt a ha).2) hk.size
         refine ⟨⟨rc, cc, code, rt, ct, types, rv, cv, curves, rm, cm, maps.map Mq.mp, x, r1, c1, l1, r2, c2, l2, r3, c3, l3, r4, c4, l4⟩, by simp [PV.val], ?_, ?_, ?_, hKB4.trans hKBf⟩
         ·
          intro W' hW
          have hKg : KeepA P u4 W' := hKf.trans ⟨hW.size, fun q h1 h2 => hW.block q (by omega) h2⟩
          have hFA := HF4.out W' ((KeepA.of2 HK.out hBP (Nat.le_refl _)).trans ((((hKA1.trans hK12).trans hK23).trans hK34).trans hKg))
          have hFB := HFc.out W' ((((hKA1.trans hK12).trans hK23).trans hK34).trans hKg)
          exact ⟨hFA.1.1.2.1, hFA.1.1.2.2, hFA.1.2.1, hFA.1.2.2, hFA.2.1, hFA.2.2, isS_mq hFB.1, fun y hy => by
           obtain ⟨m, hm, rfl⟩ := List.mem_map.1 hy
           exact hFB.2 m hm, HX0.out, hlist HOl1.out (by omega) (((hK12.trans hK23).trans hK34).trans hKg) HW1.out, hlist HOl2.out (by omega) ((hK23.trans hK34).trans hKg) HW2.out, hlist HOl3.out (by omega) (hK34.trans hKg) HW3.out, hlist HOl4.out (by omega) hKg HW4.out⟩
         ·
          rw [HQL.out]
          unfold PV.p
          simp only [List.map_map]
          rfl
         ·
          rw [HQL.out]
          exact HRd4.out.keep (by rw [hwf, hset _ R 8 _ hbR, hset _ R 7 _ hbR, hset _ R 6 _ hbR, hset _ R 5 _ hbR, hset _ R 4 _ hbR, hset _ R 3 _ hbR, hset _ R 2 _ hbR, hset _ R 1 _ hbR, hset _ R 0 _ hbR, hset _ P 8 _ hbP, hset _ P 7 _ hbP, hset _ P 6 _ hbP, hset _ P 5 _ hbP]) (by rw [hwf]; simp only [zS]; exact Nat.le_refl _)
end Go.Proofs.YtfooefiaenlhmaaGreat
