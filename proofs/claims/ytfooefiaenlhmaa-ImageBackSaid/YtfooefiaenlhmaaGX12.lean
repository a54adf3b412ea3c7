/- Lemmas for the laws of package magnetolaw15: The reader of package image: program. image.Decode of any bytes. The reference's same, Same; the law's none. The reference's Same; the law's none. slices.Clone of bytes. Contracts of slices.IsSorted, IsSortedFunc of integers, of ContainsFunc of rows. Which programs exceed the limits of the statements. No conditions. A program within the limits has a short body. -/
import Derived.Test.YtfooefiaenlhmaaGX1
import Derived.Test.YtfooefiaenlhmaaGX2
import Derived.Test.YtfooefiaenlhmaaGX8
import Derived.Test.YtfooefiaenlhmaaGX9
import Derived.Test.YtfooefiaenlhmaaGX11
import Derived.Deep.Cut
import Derived.Deep.RegionLaw
import Derived.Deep.RegionHeld3
namespace Go.Proofs.Ytfooefiaenlhmaa
set_option linter.unusedVariables false
set_option linter.unusedSimpArgs false
open Go.RowKit Go.ChangeShapes Go.WideShapes Go.ChangeAt

set_option maxRecDepth 100000 in
set_option maxHeartbeats 16000000 in
theorem rprog_any (b : Nat) (W0 w : World) (s : Sx) (h : Rdr W0 w b s) (hB : W0.heap.size ≤ b) (hb0 : Below W0.heap.size W0 w) : Calls Try.prog 52 #[.pointer (some ⟨b, 0, none⟩)] w fun e w' => ∃ q : PV, e = .returned q.val ∧ (∀ W', KeepA w.heap.size w' W' → IsP W' q) ∧ q.p = (pPrg s).1 ∧ Rdr W0 w' b (pPrg s).2 ∧ KeepB w.heap.size b w w' := by
  have hbl := h.lt
  have HB0 := Lib.hid hb0
  have hb0s := hb0.size
  have HC1 : Hid (∀ W, Below w.heap.size w W → _) := Lib.hid (fun W (hW : Below w.heap.size w W) => rcount_any b 12 W0 W s (h.below hW hbl) hB (hb0.trans (hW.mono hb0s)) (by omega) (by omega))
  have hcl1 := pCount_le (size := 12) h.len
  have HM1 : Hid (pMany pIns 12 s = pRep pIns (pCount 12 s).1 (pCount 12 s).2) := Lib.hid rfl
  generalize (pCount 12 s).1 = n1 at *
  generalize (pCount 12 s).2 = s1 at *
  clear h
  go_enter Try.func52, Try.ntmps52
  go_wp2_with (first | (go_at_call 92; refine (HC1.out _ (by (repeat' (first | (with_reducible exact Below.refl _ _) | (with_reducible assumption) | (with_reducible refine below_alloc ?_ _) | (with_reducible refine Below.drew ?_) | (with_reducible refine below_drewN ?_ _) | (with_reducible refine below_step (by assumption) ?_) | (with_reducible refine below_later ?_ _) | (with_reducible refine Below.setCell ?_ ?_ _) | go_size)))).mono ?_; rintro _ w1 ⟨rfl, hr, hk⟩; have HR1 := Lib.hid hr; have HK1 := Lib.hid hk; clear hr hk))
  have AR0 : AtV ((w.alloc (.cells #[.slice none 0 0, .slice none 0 0, .slice none 0 0, .slice none 0 0, .int .i64 0, .slice none 0 0, .slice none 0 0, .slice none 0 0, .slice none 0 0] 28)).alloc (.cells #[.slice none 0 0, .slice none 0 0, .slice none 0 0, .slice none 0 0, .int .i64 0, .slice none 0 0, .slice none 0 0, .slice none 0 0, .slice none 0 0] 28)) w.heap.size [.slice none 0 0, .slice none 0 0, .slice none 0 0, .slice none 0 0, .int .i64 0, .slice none 0 0, .slice none 0 0, .slice none 0 0, .slice none 0 0] := (AtV.new w [.slice none 0 0, .slice none 0 0, .slice none 0 0, .slice none 0 0, .int .i64 0, .slice none 0 0, .slice none 0 0, .slice none 0 0, .slice none 0 0] 28).keep (Below.heap_alloc _ _ _ (by rw [World.size_alloc]; omega))
  have AP0 : AtV ((w.alloc (.cells #[.slice none 0 0, .slice none 0 0, .slice none 0 0, .slice none 0 0, .int .i64 0, .slice none 0 0, .slice none 0 0, .slice none 0 0, .slice none 0 0] 28)).alloc (.cells #[.slice none 0 0, .slice none 0 0, .slice none 0 0, .slice none 0 0, .int .i64 0, .slice none 0 0, .slice none 0 0, .slice none 0 0, .slice none 0 0] 28)) (w.heap.size + 1) [.slice none 0 0, .slice none 0 0, .slice none 0 0, .slice none 0 0, .int .i64 0, .slice none 0 0, .slice none 0 0, .slice none 0 0, .slice none 0 0] := by
    have := AtV.new (w.alloc (.cells #[.slice none 0 0, .slice none 0 0, .slice none 0 0, .slice none 0 0, .int .i64 0, .slice none 0 0, .slice none 0 0, .slice none 0 0, .slice none 0 0] 28)) [.slice none 0 0, .slice none 0 0, .slice none 0 0, .slice none 0 0, .int .i64 0, .slice none 0 0, .slice none 0 0, .slice none 0 0, .slice none 0 0] 28
    rwa [World.size_alloc] at this
  have hz1 : ((w.alloc (.cells #[.slice none 0 0, .slice none 0 0, .slice none 0 0, .slice none 0 0, .int .i64 0, .slice none 0 0, .slice none 0 0, .slice none 0 0, .slice none 0 0] 28)).alloc (.cells #[.slice none 0 0, .slice none 0 0, .slice none 0 0, .slice none 0 0, .int .i64 0, .slice none 0 0, .slice none 0 0, .slice none 0 0, .slice none 0 0] 28)).heap.size = w.heap.size + 2 := by simp only [World.size_alloc]
  have hbw1 : Below w.heap.size w ((w.alloc (.cells #[.slice none 0 0, .slice none 0 0, .slice none 0 0, .slice none 0 0, .int .i64 0, .slice none 0 0, .slice none 0 0, .slice none 0 0, .slice none 0 0] 28)).alloc (.cells #[.slice none 0 0, .slice none 0 0, .slice none 0 0, .slice none 0 0, .int .i64 0, .slice none 0 0, .slice none 0 0, .slice none 0 0, .slice none 0 0] 28)) := by (repeat' (first | (with_reducible exact Below.refl _ _) | (with_reducible assumption) | (with_reducible refine below_alloc ?_ _) | (with_reducible refine Below.drew ?_) | (with_reducible refine below_drewN ?_ _) | (with_reducible refine below_step (by assumption) ?_) | (with_reducible refine below_later ?_ _) | (with_reducible refine Below.setCell ?_ ?_ _) | go_size))
  generalize (w.alloc (.cells #[.slice none 0 0, .slice none 0 0, .slice none 0 0, .slice none 0 0, .int .i64 0, .slice none 0 0, .slice none 0 0, .slice none 0 0, .slice none 0 0] 28)).alloc (.cells #[.slice none 0 0, .slice none 0 0, .slice none 0 0, .slice none 0 0, .int .i64 0, .slice none 0 0, .slice none 0 0, .slice none 0 0, .slice none 0 0] 28) = W1 at *
  have AR1 : Hid (AtV w1 w.heap.size [.slice none 0 0, .slice none 0 0, .slice none 0 0, .slice none 0 0, .int .i64 0, .slice none 0 0, .slice none 0 0, .slice none 0 0, .slice none 0 0]) := Lib.hid (AR0.keep (HK1.out.block _ (by omega) (by omega)))
  have AP1 : Hid (AtV w1 (w.heap.size + 1) [.slice none 0 0, .slice none 0 0, .slice none 0 0, .slice none 0 0, .int .i64 0, .slice none 0 0, .slice none 0 0, .slice none 0 0, .slice none 0 0]) := Lib.hid (AP0.keep (HK1.out.block _ (by omega) (by omega)))
  have hs1 := HK1.out.zero.size
  have HKw1 : Hid (KeepB w.heap.size b w w1) := Lib.hid ((below_keepB hbw1).trans (HK1.out.mono (by omega)))
  have hRw : w.heap.size < w1.heap.size := by omega
  have hPw : w.heap.size + 1 < w1.heap.size := by omega
  obtain ⟨R, hR⟩ : ∃ R, R = w.heap.size := ⟨_, rfl⟩
  have hRb : ¬ R = b := by omega
  have hbR : ¬ b = R := by omega
  obtain ⟨P, hP⟩ : ∃ P, P = R + 1 := ⟨_, rfl⟩
  rw [← hR] at AR1 AP1 hRw hPw ⊢
  rw [← hP] at AP1 hPw ⊢
  have hPb : ¬ P = b := by omega
  have hbP : ¬ b = P := by omega
  have hPR : ¬ P = R := by omega
  have hRP : ¬ R = P := by omega
  have hBP : b < P := by omega
  have hRl : w.heap.size ≤ R := by omega
  have hRu : R ≤ w.heap.size := by omega
  have hPl : R < P := by omega
  have hPu : P ≤ R + 1 := by omega
  clear AR0 AP0 HK1 hz1 hbw1 HC1 hR hP
  have hb1 : b < w1.heap.size := by omega
  have HSB1 : Hid (SxB s1) := Lib.hid HR1.out.bytes
  have HF1 : Hid (∀ W', KeepA P w1 W' → True) := Lib.hid (fun _ _ => trivial)
  have HB1 : Hid (Below W0.heap.size W0 w1) := Lib.hid (HB0.out.trans (HKw1.out.below (by omega) hB))
  go_loopg [11] n1 (fun kx s11x wr => ∃ (k : Nat) (r : Option Addr) (c : Nat) (rows : List Ins) (sr : Sx), s11x = .int .i64 k ∧ k ≤ n1 ∧ n1 - k ≤ kx ∧ w1.heap.size ≤ wr.heap.size ∧ Hid (Keep2 w1.heap.size b P w1 wr) ∧ Hid (AtV wr P [.slice r rows.length c, .slice none 0 0, .slice none 0 0, .slice none 0 0, .int .i64 0, .slice none 0 0, .slice none 0 0, .slice none 0 0, .slice none 0 0]) ∧ Hid (OwnR 50 5 Ins.enc wr w1.heap.size r c rows) ∧ Hid (Rdr W0 wr b sr) ∧ Hid ((rows, sr) = pRep pIns k s1) ∧ Hid (rows.length = k))
  case atStart => exact ⟨0, none, 0, [], s1, rfl, by omega, by omega, Nat.le_refl _, Lib.hid (Keep2.refl _ _ _ _), AP1, Lib.hid (OwnR.nil _ _), HR1, Lib.hid rfl, Lib.hid rfl⟩
  case round =>
    clear HR1
    obtain ⟨k, rc, cc, code, e1, rfl, hk, hkx, hsz, HK, HA, HO, HR, HP, HL⟩ := hrel
    by_cases hlt : k < n1
    · skip
      have hk1 : (0 : Int) ≤ (k : Int) := by omega
      have hk2 : (k : Int) < n1 := by omega
      have HT := Lib.hid (take_any b 12 W0 wr e1 HR.out (by omega) (by omega))
      have HDC := Lib.hid (fun r c W (h : IsInts W r c .u8 (pTake 12 e1).1) => mdec_pins r c e1 W h)
      have HOK := Lib.hid (pIns_ok e1 HR.out.bytes)
      have HPn : Hid ((code ++ [(pIns e1).1], (pIns e1).2) = pRep pIns (k + 1) s1) := Lib.hid (by rw [pRep, ← HP.out])
      have HBr : Hid (Below W0.heap.size W0 wr) := Lib.hid (HB1.out.trans ((HK.out.toB (B := W0.heap.size) (by omega) (by omega)).below (Nat.le_refl _) hB))
      generalize hpi : pIns e1 = pi at *
      generalize (pTake 12 e1).2 = t2 at *
      generalize (pTake 12 e1).1 = out at *
      go_upto_region 5 with (first | (go_at_call 94; refine HT.out.mono ?_; rintro _ w2 ⟨r2, c2, rfl, hx2, hr2, hk2⟩; have HX2 := Lib.hid hx2; have HR2 := Lib.hid hr2; have HK2 := Lib.hid hk2; clear hx2 hr2 hk2; have he1 := HK2.out.zero.size; have hb2 : Below W0.heap.size W0 w2 := HBr.out.trans (HK2.out.below (by omega) hB)) | (go_at_call 93; refine (HDC.out r2 c2 _ (HX2.out.later hb2)).mono ?_; rintro _ w3 ⟨⟨xo, xa, xb, xc, xk⟩, ee, rfl, hee, hpe, hb3⟩; simp only [insV]; have HPE := Lib.hid hpe; clear hpe))
      have hs3 := hb3.size
      have AT := AtV.new w3 [.int .i64 xo, .int .i64 xa, .int .i64 xb, .int .i64 xc, .int .i64 xk] 50
      have hb4 : Below w2.heap.size w2 (w3.alloc (.cells #[.int .i64 xo, .int .i64 xa, .int .i64 xb, .int .i64 xc, .int .i64 xk] 50)) := hb3.alloc hs3 _
      have hs4 : (w3.alloc (.cells #[.int .i64 xo, .int .i64 xa, .int .i64 xb, .int .i64 xc, .int .i64 xk] 50)).heap.size = w3.heap.size + 1 := World.size_alloc _ _
      change AtV (w3.alloc (.cells #[.int .i64 xo, .int .i64 xa, .int .i64 xb, .int .i64 xc, .int .i64 xk] 50)) _ _ at AT
      generalize w3.alloc (.cells #[.int .i64 xo, .int .i64 xa, .int .i64 xb, .int .i64 xc, .int .i64 xk] 50) = w4 at *
      generalize w3.heap.size = T at *
      have hs4a : T < w4.heap.size := by omega
      clear hs4
      have HR4 : Rdr W0 w4 b t2 := HR2.out.below hb4 (by omega)
      have HK4 : Keep2 w1.heap.size b P w1 w4 := (HK.out.trans (Keep2.ofB HK2.out hsz)).trans (Keep2.ofBelow hb4 (by omega))
      have AP4 := (HA.out.keep (HK2.out.block P (by omega) hPb)).keep (hb4.block P (by omega))
      have AO4 : OwnR 50 5 Ins.enc w4 w1.heap.size rc cc code := HO.out.keep (fun a ha => by
        have h1 := HO.out.lt a ha
        exact (hb4.block a.block (by omega)).trans (HK2.out.block a.block h1.2 (by omega)))
      obtain ⟨hlt4, f04, f14, ra, ca, bs, bad, c04, c14, hbx, hbl4, ht2⟩ := HR4
      have HF := Lib.hid (fun nb => put_flag nb hPb hlt4 f04 f14 c04 c14 hbx hbl4 HK4 AP4)
      have HO5 := Lib.hid (fun (nb : Bool) => AO4.setb (q := b) (j := 1) hb1 (.bool nb))
      obtain ⟨p0c, p0f⟩ := AP4 0 _ rfl
      have ⟨t0, _⟩ := AT 0 _ rfl
      have ⟨t1, _⟩ := AT 1 _ rfl
      have ⟨t2c, _⟩ := AT 2 _ rfl
      have ⟨t3, _⟩ := AT 3 _ rfl
      have ⟨t4, _⟩ := AT 4 _ rfl
      have hTb : ¬ T = b := by omega
      have hbT : ¬ b = T := by omega
      have hPT : ¬ P = T := by omega
      have hTP : ¬ T = P := by omega
      have hP4 : P < w4.heap.size := by omega
      have hT4 : T < w4.heap.size := by omega
      have hol : code.length ≤ 100000 := by have := HL.out; omega
      have hD4 : w1.heap.size ≤ w4.heap.size := by omega
      have HT2 := Lib.hid ht2
      clear ht2 AT HK4 AP4 AO4 hbx
      cases bad
      · rcases hee with rfl | rfl
        · go_wp2_with (first | (at_builtin; refine wpList_append_rowf Try.underlying22 infoInstr rfl (by omega) (by omega) (by rfl) _ _ (by rfl) (w4.setCell ⟨b, 1, none⟩ (.bool false)) w1.heap.size rc cc code (⟨xo, xa, xb, xc, xk⟩ : Ins) (by rfl) (fun u hu => by simp only [Ins.enc, List.mem_cons, List.not_mem_nil, or_false] at hu; rcases hu with rfl | rfl | rfl | rfl | rfl <;> rfl) (by rfl) (by rfl) (by rw [World.size_setCell]; rfl) (HO5.out false) (by omega) (by rw [World.size_setCell]; exact hD4) ?_; intro r' c' w6 hown6 hbw6 hst6 hrr6; have HW6 := Lib.hid (put_row hb1 hPw hPb (by rw [World.size_setCell]; exact hD4) (HF.out false).2.1 (HF.out false).2.2 (HF.out false).1 hown6 hbw6 0 (by simp) (.slice r' (code.length + 1) c')); have p6c := (hbw6.cell (p := ⟨P, 0, none⟩) hPw).trans ((HF.out false).2.2 0 _ rfl).1; have p6f := (hbw6.frozen (p := ⟨P, 0, none⟩) hPw).trans ((HF.out false).2.2 0 _ rfl).2; clear hst6 hrr6 hown6))
          have he1' : (if false = true then none else some bs) = pi.2 := by rw [HPE.out, HT2.out]; rfl
          have hi' : (⟨xo, xa, xb, xc, xk⟩ : Ins) = pi.1 := by rw [HPE.out]
          obtain ⟨hw1, hw2, hw3, hw4, hw5⟩ := HW6.out
          have HN := Lib.hid HPn.out
          rw [← hi', ← he1'] at HN
          have HN2 := Lib.hid HN.out
          clear he1' hi'
          go_roundg (n1 - (k + 1))
          case measure => omega
          case rel => exact ⟨k + 1, r', c', code ++ [⟨xo, xa, xb, xc, xk⟩], (if false = true then none else some bs), by go_num, by omega, by omega, hw5, Lib.hid hw1, Lib.hid (by simpa using hw2), Lib.hid hw3, Lib.hid hw4, HN2, Lib.hid (by rw [List.length_append, HL.out]; rfl)⟩
        · go_wp2_with (first | (at_builtin; refine wpList_append_rowf Try.underlying22 infoInstr rfl (by omega) (by omega) (by rfl) _ _ (by rfl) (w4.setCell ⟨b, 1, none⟩ (.bool true)) w1.heap.size rc cc code (⟨xo, xa, xb, xc, xk⟩ : Ins) (by rfl) (fun u hu => by simp only [Ins.enc, List.mem_cons, List.not_mem_nil, or_false] at hu; rcases hu with rfl | rfl | rfl | rfl | rfl <;> rfl) (by rfl) (by rfl) (by rw [World.size_setCell]; rfl) (HO5.out true) (by omega) (by rw [World.size_setCell]; exact hD4) ?_; intro r' c' w6 hown6 hbw6 hst6 hrr6; have HW6 := Lib.hid (put_row hb1 hPw hPb (by rw [World.size_setCell]; exact hD4) (HF.out true).2.1 (HF.out true).2.2 (HF.out true).1 hown6 hbw6 0 (by simp) (.slice r' (code.length + 1) c')); have p6c := (hbw6.cell (p := ⟨P, 0, none⟩) hPw).trans ((HF.out true).2.2 0 _ rfl).1; have p6f := (hbw6.frozen (p := ⟨P, 0, none⟩) hPw).trans ((HF.out true).2.2 0 _ rfl).2; clear hst6 hrr6 hown6))
          have he1' : (if true = true then none else some bs) = pi.2 := by rw [HPE.out, HT2.out]; rfl
          have hi' : (⟨xo, xa, xb, xc, xk⟩ : Ins) = pi.1 := by rw [HPE.out]
          obtain ⟨hw1, hw2, hw3, hw4, hw5⟩ := HW6.out
          have HN := Lib.hid HPn.out
          rw [← hi', ← he1'] at HN
          have HN2 := Lib.hid HN.out
          clear he1' hi'
          go_roundg (n1 - (k + 1))
          case measure => omega
          case rel => exact ⟨k + 1, r', c', code ++ [⟨xo, xa, xb, xc, xk⟩], (if true = true then none else some bs), by go_num, by omega, by omega, hw5, Lib.hid hw1, Lib.hid (by simpa using hw2), Lib.hid hw3, Lib.hid hw4, HN2, Lib.hid (by rw [List.length_append, HL.out]; rfl)⟩
      · rcases hee with rfl | rfl
        · go_wp2_with (first | (at_builtin; refine wpList_append_rowf Try.underlying22 infoInstr rfl (by omega) (by omega) (by rfl) _ _ (by rfl) (w4.setCell ⟨b, 1, none⟩ (.bool true)) w1.heap.size rc cc code (⟨xo, xa, xb, xc, xk⟩ : Ins) (by rfl) (fun u hu => by simp only [Ins.enc, List.mem_cons, List.not_mem_nil, or_false] at hu; rcases hu with rfl | rfl | rfl | rfl | rfl <;> rfl) (by rfl) (by rfl) (by rw [World.size_setCell]; rfl) (HO5.out true) (by omega) (by rw [World.size_setCell]; exact hD4) ?_; intro r' c' w6 hown6 hbw6 hst6 hrr6; have HW6 := Lib.hid (put_row hb1 hPw hPb (by rw [World.size_setCell]; exact hD4) (HF.out true).2.1 (HF.out true).2.2 (HF.out true).1 hown6 hbw6 0 (by simp) (.slice r' (code.length + 1) c')); have p6c := (hbw6.cell (p := ⟨P, 0, none⟩) hPw).trans ((HF.out true).2.2 0 _ rfl).1; have p6f := (hbw6.frozen (p := ⟨P, 0, none⟩) hPw).trans ((HF.out true).2.2 0 _ rfl).2; clear hst6 hrr6 hown6))
          have he1' : (if true = true then none else some bs) = pi.2 := by rw [HPE.out, HT2.out]; rfl
          have hi' : (⟨xo, xa, xb, xc, xk⟩ : Ins) = pi.1 := by rw [HPE.out]
          obtain ⟨hw1, hw2, hw3, hw4, hw5⟩ := HW6.out
          have HN := Lib.hid HPn.out
          rw [← hi', ← he1'] at HN
          have HN2 := Lib.hid HN.out
          clear he1' hi'
          go_roundg (n1 - (k + 1))
          case measure => omega
          case rel => exact ⟨k + 1, r', c', code ++ [⟨xo, xa, xb, xc, xk⟩], (if true = true then none else some bs), by go_num, by omega, by omega, hw5, Lib.hid hw1, Lib.hid (by simpa using hw2), Lib.hid hw3, Lib.hid hw4, HN2, Lib.hid (by rw [List.length_append, HL.out]; rfl)⟩
        · go_wp2_with (first | (at_builtin; refine wpList_append_rowf Try.underlying22 infoInstr rfl (by omega) (by omega) (by rfl) _ _ (by rfl) (w4.setCell ⟨b, 1, none⟩ (.bool true)) w1.heap.size rc cc code (⟨xo, xa, xb, xc, xk⟩ : Ins) (by rfl) (fun u hu => by simp only [Ins.enc, List.mem_cons, List.not_mem_nil, or_false] at hu; rcases hu with rfl | rfl | rfl | rfl | rfl <;> rfl) (by rfl) (by rfl) (by rw [World.size_setCell]; rfl) (HO5.out true) (by omega) (by rw [World.size_setCell]; exact hD4) ?_; intro r' c' w6 hown6 hbw6 hst6 hrr6; have HW6 := Lib.hid (put_row hb1 hPw hPb (by rw [World.size_setCell]; exact hD4) (HF.out true).2.1 (HF.out true).2.2 (HF.out true).1 hown6 hbw6 0 (by simp) (.slice r' (code.length + 1) c')); have p6c := (hbw6.cell (p := ⟨P, 0, none⟩) hPw).trans ((HF.out true).2.2 0 _ rfl).1; have p6f := (hbw6.frozen (p := ⟨P, 0, none⟩) hPw).trans ((HF.out true).2.2 0 _ rfl).2; clear hst6 hrr6 hown6))
          have he1' : (if true = true then none else some bs) = pi.2 := by rw [HPE.out, HT2.out]; rfl
          have hi' : (⟨xo, xa, xb, xc, xk⟩ : Ins) = pi.1 := by rw [HPE.out]
          obtain ⟨hw1, hw2, hw3, hw4, hw5⟩ := HW6.out
          have HN := Lib.hid HPn.out
          rw [← hi', ← he1'] at HN
          have HN2 := Lib.hid HN.out
          clear he1' hi'
          go_roundg (n1 - (k + 1))
          case measure => omega
          case rel => exact ⟨k + 1, r', c', code ++ [⟨xo, xa, xb, xc, xk⟩], (if true = true then none else some bs), by go_num, by omega, by omega, hw5, Lib.hid hw1, Lib.hid (by simpa using hw2), Lib.hid hw3, Lib.hid hw4, HN2, Lib.hid (by rw [List.length_append, HL.out]; rfl)⟩
    · obtain rfl : k = n1 := by omega
      have HQ1 : Hid (pMany pIns 12 s = (code, e1)) := Lib.hid (by rw [HM1.out, HP.out])
      have HBr : Hid (Below W0.heap.size W0 wr) := Lib.hid (HB1.out.trans ((HK.out.toB (B := W0.heap.size) (by omega) (by omega)).below (Nat.le_refl _) hB))
      have HGx : Hid (∀ x ∈ code, x.ok) := Lib.hid (by
        have h := pRep_all (f := pIns) (Q := Ins.ok) (fun s h => h.ins) (fun s h => pIns_ok s h) HSB1.out k
        rw [← HP.out] at h
        exact h)
      have HFc : Hid (∀ W', KeepA P wr W' → IsS 5 Ins.enc W' rc cc code ∧ ∀ x ∈ code, x.ok) := Lib.hid (fun W' hW => ⟨HO.out.closed (fun _ => rfl) hb1 hPw W' hW, HGx.out⟩)
      have hkz := HK.out.zero.size
      have HCn := Lib.hid (rcount_any b 80 W0 wr e1 HR.out hB HBr.out (by omega) (by omega))
      have hcl2 := pCount_le (size := 80) HR.out.len
      have HM2 : Hid (pMany pFx 80 e1 = pRep pFx (pCount 80 e1).1 (pCount 80 e1).2) := Lib.hid rfl
      generalize (pCount 80 e1).1 = n2 at *
      generalize (pCount 80 e1).2 = s2 at *
      go_wp2_with (first | (go_at_call 92; refine HCn.out.mono ?_; rintro _ w2 ⟨rfl, hr, hk2⟩; have HR2 := Lib.hid hr; have HKn2 := Lib.hid hk2; clear hr hk2))
      have hs2 := HKn2.out.zero.size
      have AP2 : Hid (AtV w2 P [.slice rc code.length cc, .slice none 0 0, .slice none 0 0, .slice none 0 0, .int .i64 0, .slice none 0 0, .slice none 0 0, .slice none 0 0, .slice none 0 0]) := Lib.hid (HA.out.keep (HKn2.out.block P (by omega) hPb))
      have AR2 : Hid (AtV w2 R [.slice none 0 0, .slice none 0 0, .slice none 0 0, .slice none 0 0, .int .i64 0, .slice none 0 0, .slice none 0 0, .slice none 0 0, .slice none 0 0]) := Lib.hid ((AR1.out.keep (HK.out.block R (by omega) hRb hRP)).keep (HKn2.out.block R (by omega) hRb))
      have HKw2 : Hid (KeepB w.heap.size b w w2) := Lib.hid ((HKw1.out.trans (HK.out.toB (by omega) (by omega))).trans (HKn2.out.mono (by omega)))
      have HSB2 : Hid (SxB s2) := Lib.hid HR2.out.bytes
      have HB2 : Hid (Below W0.heap.size W0 w2) := Lib.hid (HBr.out.trans (HKn2.out.below (by omega) hB))
      have HF2 : Hid (∀ W', KeepA P w2 W' → (True ∧ (IsS 5 Ins.enc W' rc cc code ∧ ∀ x ∈ code, x.ok))) := Lib.hid (fun W' hW => ⟨HF1.out W' (((KeepA.of2 HK.out hBP (Nat.le_refl _)).trans (KeepA.ofB HKn2.out hBP)).trans hW), HFc.out W' ((KeepA.ofB HKn2.out hBP).trans hW)⟩)
      have hb2 : b < w2.heap.size := by omega
      have hPw2 : P < w2.heap.size := by omega
      have hRw2 : R < w2.heap.size := by omega
      clear HCn HKn2 HK HA HO HR HFc AP1 AR1 HKw1 HB1 HSB1 HF1 HBr HM1 HP HL
      go_loopg [39] n2 (fun kx s39x wr => ∃ (k : Nat) (r : Option Addr) (c : Nat) (rows : List Fx) (sr : Sx), s39x = .int .i64 k ∧ k ≤ n2 ∧ n2 - k ≤ kx ∧ w2.heap.size ≤ wr.heap.size ∧ Hid (Keep2 w2.heap.size b P w2 wr) ∧ Hid (AtV wr P [.slice rc code.length cc, .slice r rows.length c, .slice none 0 0, .slice none 0 0, .int .i64 0, .slice none 0 0, .slice none 0 0, .slice none 0 0, .slice none 0 0]) ∧ Hid (OwnR 59 10 Fx.enc wr w2.heap.size r c rows) ∧ Hid (Rdr W0 wr b sr) ∧ Hid ((rows, sr) = pRep pFx k s2) ∧ Hid (rows.length = k))
      case atStart => exact ⟨0, none, 0, [], s2, rfl, by omega, by omega, Nat.le_refl _, Lib.hid (Keep2.refl _ _ _ _), AP2, Lib.hid (OwnR.nil _ _), HR2, Lib.hid rfl, Lib.hid rfl⟩
      case round =>
        clear HR2
        obtain ⟨k, rt, ct, types, e2, rfl, hk, hkx, hsz, HK, HA, HO, HR, HP, HL⟩ := hrel
        by_cases hlt : k < n2
        · skip
          have hk1 : (0 : Int) ≤ (k : Int) := by omega
          have hk2 : (k : Int) < n2 := by omega
          have HPn : Hid ((types ++ [(pFx e2).1], (pFx e2).2) = pRep pFx (k + 1) s2) := Lib.hid (by rw [pRep, ← HP.out])
          have HBr : Hid (Below W0.heap.size W0 wr) := Lib.hid (HB2.out.trans ((HK.out.toB (B := W0.heap.size) (by omega) (by omega)).below (Nat.le_refl _) hB))
          go_wp2
          have AT0 : AtL (wr.alloc (.cells #[.int .i64 0, .int .i64 0, .int .i64 0, .int .i64 0, .int .i64 0, .int .i64 0, .int .i64 0, .int .i64 0, .int .i64 0, .int .i64 0] 130)) wr.heap.size (List.replicate 10 0) := fun i v hi => AtV.new wr [.int .i64 0, .int .i64 0, .int .i64 0, .int .i64 0, .int .i64 0, .int .i64 0, .int .i64 0, .int .i64 0, .int .i64 0, .int .i64 0] 130 i _ (by
            match i, hi with
            | 0, hi | 1, hi | 2, hi | 3, hi | 4, hi | 5, hi | 6, hi | 7, hi | 8, hi | 9, hi => simp at hi; subst hi; rfl
            | i + 10, hi => simp at hi)
          have hba : Below wr.heap.size wr (wr.alloc (.cells #[.int .i64 0, .int .i64 0, .int .i64 0, .int .i64 0, .int .i64 0, .int .i64 0, .int .i64 0, .int .i64 0, .int .i64 0, .int .i64 0] 130)) := (Below.refl _ _).alloc (Nat.le_refl _) _
          have hza : wr.heap.size < (wr.alloc (.cells #[.int .i64 0, .int .i64 0, .int .i64 0, .int .i64 0, .int .i64 0, .int .i64 0, .int .i64 0, .int .i64 0, .int .i64 0, .int .i64 0] 130)).heap.size := by rw [World.size_alloc]; omega
          have hbT : b < wr.heap.size := by omega
          have hPT : P < wr.heap.size := by omega
          have HRa : Hid (Rdr W0 (wr.alloc (.cells #[.int .i64 0, .int .i64 0, .int .i64 0, .int .i64 0, .int .i64 0, .int .i64 0, .int .i64 0, .int .i64 0, .int .i64 0, .int .i64 0] 130)) b e2) := Lib.hid (HR.out.below hba hbT)
          have HKa : Hid (Keep2 w2.heap.size b P w2 (wr.alloc (.cells #[.int .i64 0, .int .i64 0, .int .i64 0, .int .i64 0, .int .i64 0, .int .i64 0, .int .i64 0, .int .i64 0, .int .i64 0, .int .i64 0] 130))) := Lib.hid (HK.out.trans (Keep2.ofBelow hba hsz))
          have APa := Lib.hid (HA.out.keep (hba.block P hPT))
          have AOa : Hid (OwnR 59 10 Fx.enc (wr.alloc (.cells #[.int .i64 0, .int .i64 0, .int .i64 0, .int .i64 0, .int .i64 0, .int .i64 0, .int .i64 0, .int .i64 0, .int .i64 0, .int .i64 0] 130)) w2.heap.size rt ct types) := Lib.hid (HO.out.below hba (Nat.le_refl _))
          have HOL := Lib.hid (fun a ha => (HO.out.lt a ha).2)
          have HBa : Hid (Below W0.heap.size W0 (wr.alloc (.cells #[.int .i64 0, .int .i64 0, .int .i64 0, .int .i64 0, .int .i64 0, .int .i64 0, .int .i64 0, .int .i64 0, .int .i64 0, .int .i64 0] 130))) := Lib.hid (HBr.out.trans (hba.mono (by omega)))
          clear HA HO HR HK HBr hba
          generalize wr.alloc (.cells #[.int .i64 0, .int .i64 0, .int .i64 0, .int .i64 0, .int .i64 0, .int .i64 0, .int .i64 0, .int .i64 0, .int .i64 0, .int .i64 0] 130) = wa at *
          generalize hT : wr.heap.size = T at *
          clear hT
          have hTb : ¬ T = b := by omega
          have hbT2 : ¬ b = T := by omega
          have hTP : ¬ T = P := by omega
          have hPT2 : ¬ P = T := by omega
          go_loopg [41] 10 (fun kx s41x wr => ∃ (j : Nat) (out : List Int) (sj : Sx), s41x = .int .i64 j ∧ j ≤ 10 ∧ 10 - j ≤ kx ∧ T < wr.heap.size ∧ Hid (KeepB T b wa wr) ∧ Hid (AtL wr T (out ++ List.replicate (10 - j) 0)) ∧ Hid (Rdr W0 wr b sj) ∧ Hid ((out, sj) = pRep pInt j e2) ∧ Hid (out.length = j))
          case atStart => exact ⟨0, [], e2, rfl, by omega, by omega, hza, Lib.hid (KeepB.refl _ _ _), Lib.hid AT0, HRa, Lib.hid rfl, Lib.hid rfl⟩
          case round =>
            clear AT0 HRa
            obtain ⟨j, out, sj, rfl, hj, hjx, hTz, HKj, HAj, HRj, HPj, HLj⟩ := hrel
            have HBj : Hid (Below W0.heap.size W0 wr) := Lib.hid (HBa.out.trans (HKj.out.below (by omega) hB))
            by_cases hjl : j < 10
            · have hj1 : (0 : Int) ≤ (j : Int) := by omega
              have hj2 : (j : Int) < 10 := by omega
              have HI := Lib.hid (rint_any b W0 wr sj HRj.out hB HBj.out)
              have HPj2 : Hid ((out ++ [(pInt sj).1], (pInt sj).2) = pRep pInt (j + 1) e2) := Lib.hid (by rw [pRep, ← HPj.out])
              generalize (pInt sj).1 = x at *
              generalize (pInt sj).2 = sj2 at *
              go_wp2_with (first | (go_at_call 95; refine HI.out.mono ?_; rintro _ v2 ⟨rfl, hr2, hk2'⟩; have HRv := Lib.hid hr2; have HKv := Lib.hid hk2'; have hzv := hk2'.zero.size; have HAv := Lib.hid (HAj.out.keep (hk2'.block T hTz hTb)); have hcj := HAv.out j 0 (rep_at hjl HLj.out); obtain ⟨hcj1, hcj2⟩ := hcj; clear hr2 hk2'))
              go_roundg (10 - (j + 1))
              case measure => omega
              case rel => exact ⟨j + 1, out ++ [x], sj2, by go_num, by omega, by omega, by rw [World.size_setCell]; omega, Lib.hid ((HKj.out.trans (HKv.out.mono (by omega))).trans (below_keepB ((Below.refl T v2).setCell (p := ⟨T, j, none⟩) (Nat.le_refl _) _))), Lib.hid (by rw [← rep_snoc hjl x HLj.out]; exact HAv.out.set (by rw [List.length_append, HLj.out, List.length_replicate]; omega) x), Lib.hid (HRv.out.keep (Below.heap_setCell _ _ _ _ hbT2) (by rw [World.size_setCell]; exact Nat.le_refl _)), HPj2, Lib.hid (by rw [List.length_append, HLj.out]; rfl)⟩
            · obtain rfl : j = 10 := by omega
              have HFX : Hid (pFx e2 = (⟨out.getD 0 0, decide (out.getD 1 0 = 1), out.getD 2 0, out.getD 3 0, out.getD 4 0, out.getD 5 0, out.getD 6 0, out.getD 7 0, out.getD 8 0, out.getD 9 0⟩, if decide (out.getD 1 0 = 0 ∨ out.getD 1 0 = 1) = true then sj else none)) := Lib.hid (by unfold pFx; rw [← HPj.out]; rfl)
              have HAL : ∀ q, q < 10 → wr.cell? ⟨T, q, none⟩ = some (.int .i64 (out.getD q 0)) := fun q hq => (HAj.out q _ (by rw [List.getElem?_append_left (by rw [HLj.out]; exact hq), List.getD_eq_getElem?_getD, List.getElem?_eq_getElem (by rw [HLj.out]; exact hq)]; rfl)).1
              have t0 := HAL 0 (by omega)
              have t1 := HAL 1 (by omega)
              have t2 := HAL 2 (by omega)
              have t3 := HAL 3 (by omega)
              have t4 := HAL 4 (by omega)
              have t5 := HAL 5 (by omega)
              have t6 := HAL 6 (by omega)
              have t7 := HAL 7 (by omega)
              have t8 := HAL 8 (by omega)
              have t9 := HAL 9 (by omega)
              clear HAL HAj HPj
              generalize out.getD 0 0 = x0 at *
              generalize out.getD 1 0 = x1 at *
              generalize out.getD 2 0 = x2 at *
              generalize out.getD 3 0 = x3 at *
              generalize out.getD 4 0 = x4 at *
              generalize out.getD 5 0 = x5 at *
              generalize out.getD 6 0 = x6 at *
              generalize out.getD 7 0 = x7 at *
              generalize out.getD 8 0 = x8 at *
              generalize out.getD 9 0 = x9 at *
              obtain ⟨hlt5, f05, f15, ra, ca, bs, bad, c05, c15, hbx, hbl5, hsj⟩ := HRj.out
              have hzj := HKj.out.zero.size
              have HKf : Keep2 w2.heap.size b P w2 wr := HKa.out.trans (Keep2.ofB HKj.out (by omega))
              have APf := APa.out.keep (HKj.out.block P hPT hPb)
              have AOf : OwnR 59 10 Fx.enc wr w2.heap.size rt ct types := AOa.out.keep (fun a ha => HKj.out.block _ (HOL.out a ha) (by have := (AOa.out.lt a ha).1; omega))
              have HF5 := Lib.hid (fun nb => put_flag nb hPb hlt5 f05 f15 c05 c15 hbx hbl5 HKf APf)
              have HO5 := Lib.hid (fun (nb : Bool) => AOf.setb (q := b) (j := 1) hb2 (.bool nb))
              obtain ⟨p1c, p1f⟩ := APf 1 _ rfl
              have hol : types.length ≤ 100000 := by have := HL.out; omega
              have hD5 : w2.heap.size ≤ wr.heap.size := by omega
              have HSJ := Lib.hid hsj
              have hP5 : P < wr.heap.size := by omega
              clear hsj HKf APf AOf hbx HKj HRj HKa APa AOa HOL HBa HBj
              cases bad
              rotate_left
              · go_wp2_with (first | (at_builtin; refine wpList_append_rowf Try.underlying23 infoFixed rfl (by omega) (by omega) (by rfl) _ _ (by rfl) (wr.setCell ⟨b, 1, none⟩ (.bool true)) w2.heap.size rt ct types ((⟨x0, decide (x1 = 1), x2, x3, x4, x5, x6, x7, x8, x9⟩ : Fx)) (by rfl) (fun u hu => by simp only [Fx.enc, List.mem_cons, List.not_mem_nil, or_false] at hu; rcases hu with rfl | rfl | rfl | rfl | rfl | rfl | rfl | rfl | rfl | rfl <;> rfl) (by rfl) (by rfl) (by first | rfl | (rw [World.size_setCell]; rfl)) (HO5.out true) (by omega) (by rw [World.size_setCell]; exact hD5) ?_; intro r' c' w6 hown6 hbw6 hst6 hrr6; have HW6 := Lib.hid (put_row hb2 hPw2 hPb (by rw [World.size_setCell]; exact hD5) (HF5.out true).2.1 (HF5.out true).2.2 (HF5.out true).1 hown6 hbw6 1 (by simp) (.slice r' (types.length + 1) c')); have p6c := (hbw6.cell (p := ⟨P, 1, none⟩) hPw2).trans ((HF5.out true).2.2 1 _ rfl).1; have p6f := (hbw6.frozen (p := ⟨P, 1, none⟩) hPw2).trans ((HF5.out true).2.2 1 _ rfl).2; have HST := Lib.hid hst6; have HRR := Lib.hid hrr6; have HOW := Lib.hid hown6; have HBW := Lib.hid hbw6; clear hst6 hrr6 hown6))
                obtain ⟨hw1, hw2, hw3, hw4, hw5⟩ := HW6.out
                have hi' : (⟨x0, decide (x1 = 1), x2, x3, x4, x5, x6, x7, x8, x9⟩ : Fx) = (pFx e2).1 := by rw [HFX.out]
                have hs' : (if true = true then none else some bs) = (pFx e2).2 := by rw [HFX.out, HSJ.out]; simp
                have HN := HPn.out
                rw [← hi', ← hs'] at HN
                have HN2 := Lib.hid HN
                clear HN hi' hs'
                go_roundg (n2 - (k + 1))
                case measure => omega
                case rel => exact ⟨k + 1, r', c', types ++ [(⟨x0, decide (x1 = 1), x2, x3, x4, x5, x6, x7, x8, x9⟩ : Fx)], (if true = true then none else some bs), by go_num, by omega, by omega, hw5, Lib.hid hw1, Lib.hid (by simpa using hw2), Lib.hid hw3, Lib.hid hw4, HN2, Lib.hid (by rw [List.length_append, HL.out]; rfl)⟩
              by_cases nx1 : x1 = 1
              · subst nx1
                go_wp2_with (first | (at_builtin; refine wpList_append_rowf Try.underlying23 infoFixed rfl (by omega) (by omega) (by rfl) _ _ (by rfl) (wr.setCell ⟨b, 1, none⟩ (.bool false)) w2.heap.size rt ct types ((⟨x0, true, x2, x3, x4, x5, x6, x7, x8, x9⟩ : Fx)) (by rfl) (fun u hu => by simp only [Fx.enc, List.mem_cons, List.not_mem_nil, or_false] at hu; rcases hu with rfl | rfl | rfl | rfl | rfl | rfl | rfl | rfl | rfl | rfl <;> rfl) (by rfl) (by rfl) (by first | rfl | (rw [World.size_setCell]; rfl)) (HO5.out false) (by omega) (by rw [World.size_setCell]; exact hD5) ?_; intro r' c' w6 hown6 hbw6 hst6 hrr6; have HW6 := Lib.hid (put_row hb2 hPw2 hPb (by rw [World.size_setCell]; exact hD5) (HF5.out false).2.1 (HF5.out false).2.2 (HF5.out false).1 hown6 hbw6 1 (by simp) (.slice r' (types.length + 1) c')); have p6c := (hbw6.cell (p := ⟨P, 1, none⟩) hPw2).trans ((HF5.out false).2.2 1 _ rfl).1; have p6f := (hbw6.frozen (p := ⟨P, 1, none⟩) hPw2).trans ((HF5.out false).2.2 1 _ rfl).2; have HST := Lib.hid hst6; have HRR := Lib.hid hrr6; have HOW := Lib.hid hown6; have HBW := Lib.hid hbw6; clear hst6 hrr6 hown6))
                obtain ⟨hw1, hw2, hw3, hw4, hw5⟩ := HW6.out
                have hi' : (⟨x0, true, x2, x3, x4, x5, x6, x7, x8, x9⟩ : Fx) = (pFx e2).1 := by rw [HFX.out]; rfl
                have hs' : (if false = true then none else some bs) = (pFx e2).2 := by rw [HFX.out, HSJ.out]; rfl
                have HN := HPn.out
                rw [← hi', ← hs'] at HN
                have HN2 := Lib.hid HN
                clear HN hi' hs'
                go_roundg (n2 - (k + 1))
                case measure => omega
                case rel => exact ⟨k + 1, r', c', types ++ [(⟨x0, true, x2, x3, x4, x5, x6, x7, x8, x9⟩ : Fx)], (if false = true then none else some bs), by go_num, by omega, by omega, hw5, Lib.hid hw1, Lib.hid (by simpa using hw2), Lib.hid hw3, Lib.hid hw4, HN2, Lib.hid (by rw [List.length_append, HL.out]; rfl)⟩
              by_cases nx0 : x1 = 0
              · subst nx0
                go_wp2_with (first | (at_builtin; refine wpList_append_rowf Try.underlying23 infoFixed rfl (by omega) (by omega) (by rfl) _ _ (by rfl) (wr.setCell ⟨b, 1, none⟩ (.bool false)) w2.heap.size rt ct types ((⟨x0, false, x2, x3, x4, x5, x6, x7, x8, x9⟩ : Fx)) (by rfl) (fun u hu => by simp only [Fx.enc, List.mem_cons, List.not_mem_nil, or_false] at hu; rcases hu with rfl | rfl | rfl | rfl | rfl | rfl | rfl | rfl | rfl | rfl <;> rfl) (by rfl) (by rfl) (by first | rfl | (rw [World.size_setCell]; rfl)) (HO5.out false) (by omega) (by rw [World.size_setCell]; exact hD5) ?_; intro r' c' w6 hown6 hbw6 hst6 hrr6; have HW6 := Lib.hid (put_row hb2 hPw2 hPb (by rw [World.size_setCell]; exact hD5) (HF5.out false).2.1 (HF5.out false).2.2 (HF5.out false).1 hown6 hbw6 1 (by simp) (.slice r' (types.length + 1) c')); have p6c := (hbw6.cell (p := ⟨P, 1, none⟩) hPw2).trans ((HF5.out false).2.2 1 _ rfl).1; have p6f := (hbw6.frozen (p := ⟨P, 1, none⟩) hPw2).trans ((HF5.out false).2.2 1 _ rfl).2; have HST := Lib.hid hst6; have HRR := Lib.hid hrr6; have HOW := Lib.hid hown6; have HBW := Lib.hid hbw6; clear hst6 hrr6 hown6))
                obtain ⟨hw1, hw2, hw3, hw4, hw5⟩ := HW6.out
                have hi' : (⟨x0, false, x2, x3, x4, x5, x6, x7, x8, x9⟩ : Fx) = (pFx e2).1 := by rw [HFX.out]; rfl
                have hs' : (if false = true then none else some bs) = (pFx e2).2 := by rw [HFX.out, HSJ.out]; rfl
                have HN := HPn.out
                rw [← hi', ← hs'] at HN
                have HN2 := Lib.hid HN
                clear HN hi' hs'
                go_roundg (n2 - (k + 1))
                case measure => omega
                case rel => exact ⟨k + 1, r', c', types ++ [(⟨x0, false, x2, x3, x4, x5, x6, x7, x8, x9⟩ : Fx)], (if false = true then none else some bs), by go_num, by omega, by omega, hw5, Lib.hid hw1, Lib.hid (by simpa using hw2), Lib.hid hw3, Lib.hid hw4, HN2, Lib.hid (by rw [List.length_append, HL.out]; rfl)⟩
              have nb1 : (x1 == 1) = false := by simp [nx1]
              have nb0 : (x1 == 0) = false := by simp [nx0]
              have nn1 : (x1 != 1) = true := by simp [nx1]
              have nn0 : (x1 != 0) = true := by simp [nx0]
              go_wp2_with (first | (at_builtin; refine wpList_append_rowf Try.underlying23 infoFixed rfl (by omega) (by omega) (by rfl) _ _ (by rfl) (wr.setCell ⟨b, 1, none⟩ (.bool true)) w2.heap.size rt ct types ((⟨x0, false, x2, x3, x4, x5, x6, x7, x8, x9⟩ : Fx)) (by rfl) (fun u hu => by simp only [Fx.enc, List.mem_cons, List.not_mem_nil, or_false] at hu; rcases hu with rfl | rfl | rfl | rfl | rfl | rfl | rfl | rfl | rfl | rfl <;> rfl) (by rfl) (by rfl) (by first | rfl | (rw [World.size_setCell]; rfl)) (HO5.out true) (by omega) (by rw [World.size_setCell]; exact hD5) ?_; intro r' c' w6 hown6 hbw6 hst6 hrr6; have HW6 := Lib.hid (put_row hb2 hPw2 hPb (by rw [World.size_setCell]; exact hD5) (HF5.out true).2.1 (HF5.out true).2.2 (HF5.out true).1 hown6 hbw6 1 (by simp) (.slice r' (types.length + 1) c')); have p6c := (hbw6.cell (p := ⟨P, 1, none⟩) hPw2).trans ((HF5.out true).2.2 1 _ rfl).1; have p6f := (hbw6.frozen (p := ⟨P, 1, none⟩) hPw2).trans ((HF5.out true).2.2 1 _ rfl).2; have HST := Lib.hid hst6; have HRR := Lib.hid hrr6; have HOW := Lib.hid hown6; have HBW := Lib.hid hbw6; clear hst6 hrr6 hown6))
              obtain ⟨hw1, hw2, hw3, hw4, hw5⟩ := HW6.out
              have hi' : (⟨x0, false, x2, x3, x4, x5, x6, x7, x8, x9⟩ : Fx) = (pFx e2).1 := by rw [HFX.out]; simp only [decide_eq_false nx1]
              have hs' : (if true = true then none else some bs) = (pFx e2).2 := by rw [HFX.out, HSJ.out]; simp [nx0, nx1]
              have HN := HPn.out
              rw [← hi', ← hs'] at HN
              have HN2 := Lib.hid HN
              clear HN hi' hs'
              go_roundg (n2 - (k + 1))
              case measure => omega
              case rel => exact ⟨k + 1, r', c', types ++ [(⟨x0, false, x2, x3, x4, x5, x6, x7, x8, x9⟩ : Fx)], (if true = true then none else some bs), by go_num, by omega, by omega, hw5, Lib.hid hw1, Lib.hid (by simpa using hw2), Lib.hid hw3, Lib.hid hw4, HN2, Lib.hid (by rw [List.length_append, HL.out]; rfl)⟩
        · obtain rfl : k = n2 := by omega
          have HQ2 : Hid (pMany pFx 80 e1 = (types, e2)) := Lib.hid (by rw [HM2.out, HP.out])
          have HBr : Hid (Below W0.heap.size W0 wr) := Lib.hid (HB2.out.trans ((HK.out.toB (B := W0.heap.size) (by omega) (by omega)).below (Nat.le_refl _) hB))
          have HGx : Hid (∀ x ∈ types, x.ok) := Lib.hid (by
            have h := pRep_all (f := pFx) (Q := Fx.ok) (fun s h => h.fx) (fun s _ => pFx_ok s) HSB2.out k
            rw [← HP.out] at h
            exact h)
          have HFc : Hid (∀ W', KeepA P wr W' → IsS 10 Fx.enc W' rt ct types ∧ ∀ x ∈ types, x.ok) := Lib.hid (fun W' hW => ⟨HO.out.closed (fun _ => rfl) hb2 hPw2 W' hW, HGx.out⟩)
          have hkz := HK.out.zero.size
          have HCn := Lib.hid (rcount_any b 16 W0 wr e2 HR.out hB HBr.out (by omega) (by omega))
          have hcl3 := pCount_le (size := 16) HR.out.len
          have HM3 : Hid (pMany pCv 16 e2 = pRep pCv (pCount 16 e2).1 (pCount 16 e2).2) := Lib.hid rfl
          generalize (pCount 16 e2).1 = n3 at *
          generalize (pCount 16 e2).2 = s3 at *
          go_wp2_with (first | (go_at_call 92; refine HCn.out.mono ?_; rintro _ w3 ⟨rfl, hr, hk3⟩; have HR3 := Lib.hid hr; have HKn3 := Lib.hid hk3; clear hr hk3))
          have hs3 := HKn3.out.zero.size
          have AP3 : Hid (AtV w3 P [.slice rc code.length cc, .slice rt types.length ct, .slice none 0 0, .slice none 0 0, .int .i64 0, .slice none 0 0, .slice none 0 0, .slice none 0 0, .slice none 0 0]) := Lib.hid (HA.out.keep (HKn3.out.block P (by omega) hPb))
          have AR3 : Hid (AtV w3 R [.slice none 0 0, .slice none 0 0, .slice none 0 0, .slice none 0 0, .int .i64 0, .slice none 0 0, .slice none 0 0, .slice none 0 0, .slice none 0 0]) := Lib.hid ((AR2.out.keep (HK.out.block R (by omega) hRb hRP)).keep (HKn3.out.block R (by omega) hRb))
          have HKw3 : Hid (KeepB w.heap.size b w w3) := Lib.hid ((HKw2.out.trans (HK.out.toB (by omega) (by omega))).trans (HKn3.out.mono (by omega)))
          have HSB3 : Hid (SxB s3) := Lib.hid HR3.out.bytes
          have HB3 : Hid (Below W0.heap.size W0 w3) := Lib.hid (HBr.out.trans (HKn3.out.below (by omega) hB))
          have HF3 : Hid (∀ W', KeepA P w3 W' → ((True ∧ (IsS 5 Ins.enc W' rc cc code ∧ ∀ x ∈ code, x.ok)) ∧ (IsS 10 Fx.enc W' rt ct types ∧ ∀ x ∈ types, x.ok))) := Lib.hid (fun W' hW => ⟨HF2.out W' (((KeepA.of2 HK.out hBP (Nat.le_refl _)).trans (KeepA.ofB HKn3.out hBP)).trans hW), HFc.out W' ((KeepA.ofB HKn3.out hBP).trans hW)⟩)
          have hb3 : b < w3.heap.size := by omega
          have hPw3 : P < w3.heap.size := by omega
          have hRw3 : R < w3.heap.size := by omega
          clear HCn HKn3 HK HA HO HR HFc AP2 AR2 HKw2 HB2 HSB2 HF2 HBr HM2 HP HL
          go_loopg [97] n3 (fun kx s97x wr => ∃ (k : Nat) (r : Option Addr) (c : Nat) (rows : List Cv) (sr : Sx), s97x = .int .i64 k ∧ k ≤ n3 ∧ n3 - k ≤ kx ∧ w3.heap.size ≤ wr.heap.size ∧ Hid (Keep2 w3.heap.size b P w3 wr) ∧ Hid (AtV wr P [.slice rc code.length cc, .slice rt types.length ct, .slice r rows.length c, .slice none 0 0, .int .i64 0, .slice none 0 0, .slice none 0 0, .slice none 0 0, .slice none 0 0]) ∧ Hid (OwnR 53 2 Cv.enc wr w3.heap.size r c rows) ∧ Hid (Rdr W0 wr b sr) ∧ Hid ((rows.map Cv.p, sr) = pRep pCv k s3) ∧ Hid (rows.length = k) ∧ Hid (∀ x ∈ rows, IntsO w3.heap.size r wr x.rx x.cx x.X ∧ IntsO w3.heap.size r wr x.ry x.cy x.Y))
          case atStart => exact ⟨0, none, 0, [], s3, rfl, by omega, by omega, Nat.le_refl _, Lib.hid (Keep2.refl _ _ _ _), AP3, Lib.hid (OwnR.nil _ _), HR3, Lib.hid rfl, Lib.hid rfl, Lib.hid (fun x hx => by simp at hx)⟩
          case round =>
            clear HR3
            obtain ⟨k, rv, cv, curves, e3, rfl, hk, hkx, hsz, HK, HA, HO, HR, HP, HL, HD⟩ := hrel
            by_cases hlt : k < n3
            · skip
              have hk1 : (0 : Int) ≤ (k : Int) := by omega
              have hk2 : (k : Int) < n3 := by omega
              have HPn : Hid ((curves.map Cv.p ++ [(((pList e3).1, (pList (pList e3).2).1) : List Int × List Int)], (pList (pList e3).2).2) = pRep pCv (k + 1) s3) := Lib.hid (by rw [pRep, ← HP.out]; rfl)
              have HBr : Hid (Below W0.heap.size W0 wr) := Lib.hid (HB3.out.trans ((HK.out.toB (B := W0.heap.size) (by omega) (by omega)).below (Nat.le_refl _) hB))
              have HBd : Hid (Below W0.heap.size W0 wr.drew) := Lib.hid HBr.out.drew
              have HRd : Hid (Rdr W0 wr.drew b e3) := Lib.hid (HR.out.below (Below.refl wr.heap.size wr).drew (by omega))
              have HL1 := Lib.hid (rlst_any b W0 wr.drew e3 HRd.out hB HBd.out)
              have HL2 := Lib.hid (fun W h1 h2 => rlst_any b W0 W (pList e3).2 h1 hB h2)
              have HWX := Lib.hid (pList_wf e3)
              have HWY := Lib.hid (pList_wf (pList e3).2)
              generalize (pList (pList e3).2).2 = t2 at *
              generalize (pList (pList e3).2).1 = Y at *
              generalize (pList e3).2 = t1 at *
              generalize (pList e3).1 = X at *
              have hP3 : P < wr.heap.size := by omega
              obtain ⟨pc, pf⟩ := HA.out 2 _ rfl
              have hol : curves.length ≤ 100000 := by have := HL.out; omega
              have pcd : wr.drew.cell? ⟨P, 2, none⟩ = some (.slice rv curves.length cv) := pc
              have pfd : wr.drew.frozen? ⟨P, 2, none⟩ = false := pf
              have hzd : wr.drew.heap.size = wr.heap.size := rfl
              have tk0 : True := trivial
              have tk1 : True := trivial
              go_wp2
              go_region_law (first | (go_simp; have _t := tk0; go_at_call 96; refine (HL1.out).mono ?_; rintro _ v1 ⟨rX, cX, rfl, hoX, hrX, hkX⟩; have HOX := Lib.hid hoX; have HRX := Lib.hid hrX; have HKX := Lib.hid hkX; have hzX := hkX.zero.size; clear hoX hrX hkX tk0 _t; have pc1 : v1.cell? ⟨P, 2, none⟩ = some (.slice rv curves.length cv) := (HKX.out.cell (q := P) (by omega) hPb).trans pcd; have pf1 : v1.frozen? ⟨P, 2, none⟩ = false := (World.frozen?_of_block (a := ⟨P, 2, none⟩) (HKX.out.block P (by omega) hPb)).trans pfd; have HB1v : Hid (Below W0.heap.size W0 v1) := Lib.hid (HBd.out.trans (HKX.out.below (by omega) hB))) | (go_simp; have _t := tk1; go_at_call 96; refine (HL2.out _ HRX.out HB1v.out).mono ?_; rintro _ v2 ⟨rY, cY, rfl, hoY, hrY, hkY⟩; have HOY := Lib.hid hoY; have HRY := Lib.hid hrY; have HKY := Lib.hid hkY; have hzY := hkY.zero.size; clear hoY hrY hkY tk1 _t; have pc2 : v2.cell? ⟨P, 2, none⟩ = some (.slice rv curves.length cv) := (HKY.out.cell (q := P) (by omega) hPb).trans pc1; have pf2 : v2.frozen? ⟨P, 2, none⟩ = false := (World.frozen?_of_block (a := ⟨P, 2, none⟩) (HKY.out.block P (by omega) hPb)).trans pf1; have hca : ∀ o, (v2.alloc o).cell? ⟨P, 2, none⟩ = some (.slice rv curves.length cv) := (fun o => (((Below.refl v2.heap.size v2).alloc (Nat.le_refl _) o).cell (p := ⟨P, 2, none⟩) (by show P < v2.heap.size; omega)).trans pc2); have HO2 : Hid (OwnR 53 2 Cv.enc v2 w3.heap.size rv cv curves) := Lib.hid ((HO.out.keep (W' := v1) (fun a ha => HKX.out.block _ (HO.out.lt a ha).2 (by have := (HO.out.lt a ha).1; omega))).keep (fun a ha => HKY.out.block _ (by have := (HO.out.lt a ha).2; omega) (by have := (HO.out.lt a ha).1; omega)))) | ((refine step_of_list ?_); (refine wpList_append_rowf Try.underlying24 infoCurve rfl (by omega) (by omega) (by rfl) _ _ (by rfl) v2 w3.heap.size rv cv curves (⟨rX, cX, X, rY, cY, Y⟩ : Cv) (by rfl) (fun u hu => by simp only [Cv.enc, List.mem_cons, List.not_mem_nil, or_false] at hu; rcases hu with rfl | rfl <;> rfl) (by rfl) (by rfl) (by rfl) HO2.out (by omega) (by omega) ?_); (intro r' c' w6 hown6 hbw6 hst6 hrr6); (have HST := Lib.hid hst6); (have HRR := Lib.hid hrr6); (have HOW := Lib.hid hown6); (have p6c := (hbw6.cell (p := ⟨P, 2, none⟩) hPw3).trans pc2); (have p6f := (hbw6.frozen (p := ⟨P, 2, none⟩) hPw3).trans pf2); (clear hst6 hrr6 hown6); (refine ⟨rfl, ?_⟩)))
              all_goals
                have hD2 : w3.heap.size ≤ v2.heap.size := by omega
                have hz6 := hbw6.size
                have HW6 := Lib.hid (put_row hb3 hPw3 hPb hD2 (((HK.out.drew).trans (Keep2.ofB HKX.out (by omega))).trans (Keep2.ofB HKY.out (by omega))) ((HA.out.keep (W' := v1) (HKX.out.block P (by omega) hPb)).keep (HKY.out.block P (by omega) hPb)) HRY.out HOW.out hbw6 2 (by simp) (.slice r' (curves.length + 1) c'))
                have HDn : Hid (∀ x ∈ curves ++ [(⟨rX, cX, X, rY, cY, Y⟩ : Cv)], IntsO w3.heap.size r' (w6.setCell ⟨P, 2, none⟩ (.slice r' (curves.length + 1) c')) x.rx x.cx x.X ∧ IntsO w3.heap.size r' (w6.setCell ⟨P, 2, none⟩ (.slice r' (curves.length + 1) c')) x.ry x.cy x.Y) := Lib.hid (fun x hx => by
                  rcases List.mem_append.1 hx with hx | hx
                  · obtain ⟨h1, h2⟩ := HD.out x hx
                    exact ⟨((h1.drew.keepB HKX.out hb3).keepB HKY.out hb3).grow HST.out hz6 HRR.out hPw3 _, ((h2.drew.keepB HKX.out hb3).keepB HKY.out hb3).grow HST.out hz6 HRR.out hPw3 _⟩
                  · simp only [List.mem_singleton] at hx
                    subst hx
                    exact ⟨((IntsO.new HOX.out (by omega) (fun a ha => (HO.out.lt a ha).2) HWX.out).keepB HKY.out hb3).grow HST.out hz6 HRR.out hPw3 _, (IntsO.new HOY.out (by omega) (fun a ha => by have := (HO.out.lt a ha).2; omega) HWY.out).grow HST.out hz6 HRR.out hPw3 _⟩)
                obtain ⟨hw1, hw2, hw3, hw4, hw5⟩ := HW6.out
                clear HD HA HO HR HRd HRX HOX HOY HKX HKY HOW HST HRR HW6 HB1v HBd HBr hbw6 hca pc2 pf2
                go_wp2
                go_roundg (n3 - (k + 1))
                case measure => omega
                case rel => exact ⟨k + 1, r', c', curves ++ [⟨rX, cX, X, rY, cY, Y⟩], t2, by go_num, by omega, by omega, hw5, Lib.hid hw1, Lib.hid (by simpa using hw2), Lib.hid hw3, Lib.hid hw4, Lib.hid (by rw [List.map_append]; exact HPn.out), Lib.hid (by rw [List.length_append, HL.out]; rfl), HDn⟩
            · obtain rfl : k = n3 := by omega
              have HQ3 : Hid (pMany pCv 16 e2 = (curves.map Cv.p, e3)) := Lib.hid (by rw [HM3.out, HP.out])
              have HBr : Hid (Below W0.heap.size W0 wr) := Lib.hid (HB3.out.trans ((HK.out.toB (B := W0.heap.size) (by omega) (by omega)).below (Nat.le_refl _) hB))
              have HFc : Hid (∀ W', KeepA P wr W' → IsS 2 Cv.enc W' rv cv curves ∧ ∀ x ∈ curves, x.ok W') := Lib.hid (fun W' hW => ⟨HO.out.closed (fun _ => rfl) hb3 hPw3 W' hW, fun x hx => ⟨(HD.out x hx).1.closed hb3 hPw3 W' hW, (HD.out x hx).2.closed hb3 hPw3 W' hW⟩⟩)
              have hkz := HK.out.zero.size
              have HCn := Lib.hid (rcount_any b 16 W0 wr e3 HR.out hB HBr.out (by omega) (by omega))
              have hcl4 := pCount_le (size := 16) HR.out.len
              have HM4 : Hid (pMany pMp 16 e3 = pRep pMp (pCount 16 e3).1 (pCount 16 e3).2) := Lib.hid rfl
              generalize (pCount 16 e3).1 = n4 at *
              generalize (pCount 16 e3).2 = s4 at *
              go_wp2_with (first | (go_at_call 92; refine HCn.out.mono ?_; rintro _ w4 ⟨rfl, hr, hk4⟩; have HR4 := Lib.hid hr; have HKn4 := Lib.hid hk4; clear hr hk4))
              have hs4 := HKn4.out.zero.size
              have AP4 : Hid (AtV w4 P [.slice rc code.length cc, .slice rt types.length ct, .slice rv curves.length cv, .slice none 0 0, .int .i64 0, .slice none 0 0, .slice none 0 0, .slice none 0 0, .slice none 0 0]) := Lib.hid (HA.out.keep (HKn4.out.block P (by omega) hPb))
              have AR4 : Hid (AtV w4 R [.slice none 0 0, .slice none 0 0, .slice none 0 0, .slice none 0 0, .int .i64 0, .slice none 0 0, .slice none 0 0, .slice none 0 0, .slice none 0 0]) := Lib.hid ((AR3.out.keep (HK.out.block R (by omega) hRb hRP)).keep (HKn4.out.block R (by omega) hRb))
              have HKw4 : Hid (KeepB w.heap.size b w w4) := Lib.hid ((HKw3.out.trans (HK.out.toB (by omega) (by omega))).trans (HKn4.out.mono (by omega)))
              have HSB4 : Hid (SxB s4) := Lib.hid HR4.out.bytes
              have HB4 : Hid (Below W0.heap.size W0 w4) := Lib.hid (HBr.out.trans (HKn4.out.below (by omega) hB))
              have HF4 : Hid (∀ W', KeepA P w4 W' → (((True ∧ (IsS 5 Ins.enc W' rc cc code ∧ ∀ x ∈ code, x.ok)) ∧ (IsS 10 Fx.enc W' rt ct types ∧ ∀ x ∈ types, x.ok)) ∧ (IsS 2 Cv.enc W' rv cv curves ∧ ∀ x ∈ curves, x.ok W'))) := Lib.hid (fun W' hW => ⟨HF3.out W' (((KeepA.of2 HK.out hBP (Nat.le_refl _)).trans (KeepA.ofB HKn4.out hBP)).trans hW), HFc.out W' ((KeepA.ofB HKn4.out hBP).trans hW)⟩)
              have hb4 : b < w4.heap.size := by omega
              have hPw4 : P < w4.heap.size := by omega
              have hRw4 : R < w4.heap.size := by omega
              clear HD HCn HKn4 HK HA HO HR HFc AP3 AR3 HKw3 HB3 HSB3 HF3 HBr HM3 HP HL
              go_loopg [112] n4 (fun kx s112x wr => ∃ (k : Nat) (r : Option Addr) (c : Nat) (rows : List Mq) (sr : Sx), s112x = .int .i64 k ∧ k ≤ n4 ∧ n4 - k ≤ kx ∧ w4.heap.size ≤ wr.heap.size ∧ Hid (Keep2 w4.heap.size b P w4 wr) ∧ Hid (AtV wr P [.slice rc code.length cc, .slice rt types.length ct, .slice rv curves.length cv, .slice r rows.length c, .int .i64 0, .slice none 0 0, .slice none 0 0, .slice none 0 0, .slice none 0 0]) ∧ Hid (OwnR 55 3 Mq.enc wr w4.heap.size r c rows) ∧ Hid (Rdr W0 wr b sr) ∧ Hid ((rows.map (fun m : Mq => m.mp.p), sr) = pRep pMp k s4) ∧ Hid (rows.length = k) ∧ Hid (∀ x ∈ rows, MqO w4.heap.size r wr x))
              case atStart => exact ⟨0, none, 0, [], s4, rfl, by omega, by omega, Nat.le_refl _, Lib.hid (Keep2.refl _ _ _ _), AP4, Lib.hid (OwnR.nil _ _), HR4, Lib.hid rfl, Lib.hid rfl, Lib.hid (fun x hx => by simp at hx)⟩
              case round =>
                clear HR4
                obtain ⟨k, rm, cm, maps, e4, rfl, hk, hkx, hsz, HK, HA, HO, HR, HP, HL, HD⟩ := hrel
                by_cases hlt : k < n4
                · skip
                  have hk1 : (0 : Int) ≤ (k : Int) := by omega
                  have hk2 : (k : Int) < n4 := by omega
                  have HPn : Hid ((maps.map (fun m : Mq => m.mp.p) ++ [((pList e4).1, (pList (pList e4).2).1, (pRep pList (pList e4).1.length (pList (pList e4).2).2).1)], (pRep pList (pList e4).1.length (pList (pList e4).2).2).2) = pRep pMp (k + 1) s4) := Lib.hid (by rw [pRep, ← HP.out]; rfl)
                  have HBr : Hid (Below W0.heap.size W0 wr) := Lib.hid (HB4.out.trans ((HK.out.toB (B := W0.heap.size) (by omega) (by omega)).below (Nat.le_refl _) hB))
                  have HL1 := Lib.hid (rlst_any b W0 wr e4 HR.out hB HBr.out)
                  have HL2 := Lib.hid (fun W h1 h2 => rlst_any b W0 W (pList e4).2 h1 hB h2)
                  have HWX := Lib.hid (pList_wf e4)
                  have HWY := Lib.hid (pList_wf (pList e4).2)
                  have hXl : (pList e4).1.length ≤ 100000 := by unfold pList; rw [pRep_len]; exact pCount_le HR.out.len
                  generalize (pList (pList e4).2).2 = t2 at *
                  generalize (pList (pList e4).2).1 = Y at *
                  generalize (pList e4).2 = t1 at *
                  generalize (pList e4).1 = X at *
                  have hP4 : P < wr.heap.size := by omega
                  have hol : maps.length ≤ 100000 := by have := HL.out; omega
                  have tk0 : True := trivial
                  have tk1 : True := trivial
                  go_wp2_with (first | (have _t := tk0; go_at_call 96; refine HL1.out.mono ?_; rintro _ v1 ⟨rX, cX, rfl, hoX, hrX, hkX⟩; have HOX := Lib.hid hoX; have HRX := Lib.hid hrX; have HKX := Lib.hid hkX; have hzX := hkX.zero.size; clear hoX hrX hkX tk0 _t; have HB1v : Hid (Below W0.heap.size W0 v1) := Lib.hid (HBr.out.trans (HKX.out.below (by omega) hB))) | (have _t := tk1; go_at_call 96; refine (HL2.out _ HRX.out HB1v.out).mono ?_; rintro _ v2 ⟨rY, cY, rfl, hoY, hrY, hkY⟩; have HOY := Lib.hid hoY; have HRY := Lib.hid hrY; have HKY := Lib.hid hkY; have hzY := hkY.zero.size; clear hoY hrY hkY tk1 _t))
                  have HB2v : Hid (Below W0.heap.size W0 v2) := Lib.hid (HB1v.out.trans (HKY.out.below (by omega) hB))
                  have HK2v : Hid (Keep2 w4.heap.size b P w4 v2) := Lib.hid ((HK.out.trans (Keep2.ofB HKX.out (by omega))).trans (Keep2.ofB HKY.out (by omega)))
                  have HA2v := Lib.hid ((HA.out.keep (W' := v1) (HKX.out.block P (by omega) hPb)).keep (HKY.out.block P (by omega) hPb))
                  have HO2v : Hid (OwnR 55 3 Mq.enc v2 w4.heap.size rm cm maps) := Lib.hid ((HO.out.keep (W' := v1) (fun a ha => HKX.out.block _ (HO.out.lt a ha).2 (by have := (HO.out.lt a ha).1; omega))).keep (fun a ha => HKY.out.block _ (by have := (HO.out.lt a ha).2; omega) (by have := (HO.out.lt a ha).1; omega)))
                  have HD2v : Hid (∀ x ∈ maps, MqO w4.heap.size rm v2 x) := Lib.hid (fun x hx => ((HD.out x hx).keepB HKX.out hb4).keepB HKY.out hb4)
                  have HX2v : Hid (IntsO w4.heap.size rm v2 rX cX X) := Lib.hid ((IntsO.new HOX.out (by omega) (fun a ha => (HO.out.lt a ha).2) HWX.out).keepB HKY.out hb4)
                  have HY2v : Hid (IntsO w4.heap.size rm v2 rY cY Y) := Lib.hid (IntsO.new HOY.out (by omega) (fun a ha => by have := (HO.out.lt a ha).2; omega) HWY.out)
                  have AM : AtV (v2.alloc (.cells #[.slice rX X.length cX, .slice rY Y.length cY, .slice none 0 0] 55)) v2.heap.size [.slice rX X.length cX, .slice rY Y.length cY, .slice none 0 0] := AtV.new v2 [.slice rX X.length cX, .slice rY Y.length cY, .slice none 0 0] 55
                  have hbm : Below v2.heap.size v2 (v2.alloc (.cells #[.slice rX X.length cX, .slice rY Y.length cY, .slice none 0 0] 55)) := (Below.refl _ _).alloc (Nat.le_refl _) _
                  have hzm : v2.heap.size < (v2.alloc (.cells #[.slice rX X.length cX, .slice rY Y.length cY, .slice none 0 0] 55)).heap.size := by rw [World.size_alloc]; omega
                  have HRm : Hid (Rdr W0 (v2.alloc (.cells #[.slice rX X.length cX, .slice rY Y.length cY, .slice none 0 0] 55)) b t2) := Lib.hid (HRY.out.below hbm (by omega))
                  have HBm : Hid (Below W0.heap.size W0 (v2.alloc (.cells #[.slice rX X.length cX, .slice rY Y.length cY, .slice none 0 0] 55))) := Lib.hid (HB2v.out.trans (hbm.mono (by omega)))
                  have hXX : (X.length : Int) ≤ 100000 := by omega
                  have HBm2 := Lib.hid hbm
                  have hMb : ¬ v2.heap.size = b := by omega
                  have hbM : ¬ b = v2.heap.size := by omega
                  have hMP : ¬ v2.heap.size = P := by omega
                  have hPM : ¬ P = v2.heap.size := by omega
                  have hDM : w4.heap.size ≤ v2.heap.size := by omega
                  clear HB2v HB1v HK HA HO HD HOX HOY HKX HKY HR HRX HRY HL1 HL2 hbm HBr hzX hzY
                  generalize v2.alloc (.cells #[.slice rX X.length cX, .slice rY Y.length cY, .slice none 0 0] 55) = wm at *
                  generalize hM : v2.heap.size = M at *
                  have hM1 : v2.heap.size ≤ M := by omega
                  have hM2 : M ≤ v2.heap.size := by omega
                  clear hM
                  go_loopg [122] X.length (fun kx s122x wr => ∃ (j : Nat) (r : Option Addr) (c : Nat) (rows : List Rw) (sj : Sx), s122x = .int .i64 j ∧ j ≤ X.length ∧ X.length - j ≤ kx ∧ M + 1 ≤ wr.heap.size ∧ Hid (Keep2 (M + 1) b M wm wr) ∧ Hid (AtV wr M [.slice rX X.length cX, .slice rY Y.length cY, .slice r rows.length c]) ∧ Hid (OwnR 26 1 Rw.enc wr (M + 1) r c rows) ∧ Hid (Rdr W0 wr b sj) ∧ Hid ((rows.map Rw.l, sj) = pRep pList j t2) ∧ Hid (rows.length = j) ∧ Hid (∀ x ∈ rows, IntsO (M + 1) r wr x.r x.c x.l))
                  case atStart => exact ⟨0, none, 0, [], t2, rfl, by omega, by omega, hzm, Lib.hid (Keep2.refl _ _ _ _), Lib.hid AM, Lib.hid (OwnR.nil _ _), HRm, Lib.hid rfl, Lib.hid rfl, Lib.hid (fun x hx => by simp at hx)⟩
                  case round =>
                    clear AM HRm
                    obtain ⟨j, rz, cz, Z, ej, rfl, hj, hjx, hjz, HKj, HAj, HOj, HRj, HPj, HLj, HDj⟩ := hrel
                    obtain ⟨mc0, mf0⟩ := HAj.out 0 _ rfl
                    obtain ⟨mc2, mf2⟩ := HAj.out 2 _ rfl
                    have HBj : Hid (Below W0.heap.size W0 wr) := Lib.hid (HBm.out.trans ((HKj.out.toB (B := W0.heap.size) (by omega) (by omega)).below (Nat.le_refl _) hB))
                    by_cases hjl : j < X.length
                    · have hj1 : (0 : Int) ≤ (j : Int) := by omega
                      have hj2 : (j : Int) < X.length := by omega
                      have HBd : Hid (Below W0.heap.size W0 wr.drew) := Lib.hid HBj.out.drew
                      have HRd : Hid (Rdr W0 wr.drew b ej) := Lib.hid (HRj.out.below (Below.refl wr.heap.size wr).drew (by omega))
                      have HLr := Lib.hid (rlst_any b W0 wr.drew ej HRd.out hB HBd.out)
                      have HWr := Lib.hid (pList_wf ej)
                      have HPj2 : Hid ((Z.map Rw.l ++ [(pList ej).1], (pList ej).2) = pRep pList (j + 1) t2) := Lib.hid (by rw [pRep, ← HPj.out])
                      generalize (pList ej).1 = row at *
                      generalize (pList ej).2 = ej2 at *
                      have hzl : Z.length ≤ 100000 := by have := HLj.out; omega
                      have mcd : wr.drew.cell? ⟨M, 2, none⟩ = some (.slice rz Z.length cz) := mc2
                      have mfd : wr.drew.frozen? ⟨M, 2, none⟩ = false := mf2
                      have hzd : wr.drew.heap.size = wr.heap.size := rfl
                      have tk0 : True := trivial
                      go_wp2
                      go_region_law (first | (go_simp; have _t := tk0; go_at_call 96; refine (HLr.out).mono ?_; rintro _ v3 ⟨rQ, cQ, rfl, hoQ, hrQ, hkQ⟩; have HOQ := Lib.hid hoQ; have HRQ := Lib.hid hrQ; have HKQ := Lib.hid hkQ; have hzQ := hkQ.zero.size; clear hoQ hrQ hkQ tk0 _t; have mc3 : v3.cell? ⟨M, 2, none⟩ = some (.slice rz Z.length cz) := (HKQ.out.cell (q := M) (by omega) hMb).trans mcd; have mf3 : v3.frozen? ⟨M, 2, none⟩ = false := (World.frozen?_of_block (a := ⟨M, 2, none⟩) (HKQ.out.block M (by omega) hMb)).trans mfd; have hca : ∀ o, (v3.alloc o).cell? ⟨M, 2, none⟩ = some (.slice rz Z.length cz) := (fun o => (((Below.refl v3.heap.size v3).alloc (Nat.le_refl _) o).cell (p := ⟨M, 2, none⟩) (by show M < v3.heap.size; omega)).trans mc3); have HO3 : Hid (OwnR 26 1 Rw.enc v3 (M + 1) rz cz Z) := Lib.hid (HOj.out.keep (fun a ha => HKQ.out.block _ (HOj.out.lt a ha).2 (by have := (HOj.out.lt a ha).1; omega)))) | ((refine step_of_list ?_); (refine wpList_append_rowf Try.underlying51 infoRow rfl (by omega) (by omega) (by rfl) _ _ (by rfl) v3 (M + 1) rz cz Z (⟨rQ, cQ, row⟩ : Rw) (by rfl) (fun u hu => by simp only [Rw.enc, List.mem_cons, List.not_mem_nil, or_false] at hu; rcases hu with rfl; rfl) (by rfl) (by rfl) (by rfl) HO3.out (by omega) (by omega) ?_); (intro r' c' w6 hown6 hbw6 hst6 hrr6); (have HST := Lib.hid hst6); (have HRR := Lib.hid hrr6); (have HOW := Lib.hid hown6); (have m6c := (hbw6.cell (p := ⟨M, 2, none⟩) (Nat.lt_succ_self M)).trans mc3); (have m6f := (hbw6.frozen (p := ⟨M, 2, none⟩) (Nat.lt_succ_self M)).trans mf3); (clear hst6 hrr6 hown6); (refine ⟨rfl, ?_⟩)))
                      all_goals
                        have hD2 : M + 1 ≤ v3.heap.size := by omega
                        have hz6 := hbw6.size
                        have hbM1 : b < M + 1 := by omega
                        have HW6 := Lib.hid (put_row hbM1 (Nat.lt_succ_self M) hMb hD2 ((HKj.out.drew).trans (Keep2.ofB HKQ.out (by omega))) (HAj.out.keep (W' := v3) (HKQ.out.block M (by omega) hMb)) HRQ.out HOW.out hbw6 2 (by simp) (.slice r' (Z.length + 1) c'))
                        have HDn : Hid (∀ x ∈ Z ++ [(⟨rQ, cQ, row⟩ : Rw)], IntsO (M + 1) r' (w6.setCell ⟨M, 2, none⟩ (.slice r' (Z.length + 1) c')) x.r x.c x.l) := Lib.hid (fun x hx => by
                          rcases List.mem_append.1 hx with hx | hx
                          · exact ((HDj.out x hx).drew.keepB HKQ.out hbM1).grow HST.out hz6 HRR.out (Nat.lt_succ_self M) _
                          · simp only [List.mem_singleton] at hx
                            subst hx
                            exact (IntsO.new HOQ.out (by omega) (fun a ha => (HOj.out.lt a ha).2) HWr.out).grow HST.out hz6 HRR.out (Nat.lt_succ_self M) _)
                        obtain ⟨hw1, hw2, hw3, hw4, hw5⟩ := HW6.out
                        clear HDj HAj HOj HRj HRd HRQ HOQ HKQ HOW HST HRR HW6 HBd HBj hbw6 hca mc3 mf3
                        go_wp2
                        go_roundg (X.length - (j + 1))
                        case measure => omega
                        case rel => exact ⟨j + 1, r', c', Z ++ [⟨rQ, cQ, row⟩], ej2, by go_num, by omega, by omega, hw5, Lib.hid hw1, Lib.hid (by simpa using hw2), Lib.hid hw3, Lib.hid hw4, Lib.hid (by rw [List.map_append]; exact HPj2.out), Lib.hid (by rw [List.length_append, HLj.out]; rfl), HDn⟩
                    · obtain rfl : j = X.length := by omega
                      have HQ : Hid ((Z.map Rw.l, ej) = pRep pList X.length t2) := Lib.hid HPj.out
                      have HPn2 : Hid ((maps.map (fun m : Mq => m.mp.p) ++ [(X, Y, Z.map Rw.l)], ej) = pRep pMp (k + 1) s4) := Lib.hid (by have h := HPn.out; rw [← HQ.out] at h; exact h)
                      clear HPn HPj HQ
                      have hzw : v2.heap.size ≤ wr.heap.size := by omega
                      have HVM : Hid (∀ q, q < M → q ≠ b → wr.heap[q]? = v2.heap[q]?) := Lib.hid (fun q h1 h2 => (HKj.out.block q (by omega) h2 (by omega)).trans (HBm2.out.block q (by omega)))
                      have HAw := Lib.hid (HA2v.out.keep (HVM.out P (by omega) hPb))
                      have HOw : Hid (OwnR 55 3 Mq.enc wr w4.heap.size rm cm maps) := Lib.hid (HO2v.out.keep (fun a ha => HVM.out _ (by have := (HO2v.out.lt a ha).2; omega) (by have := (HO2v.out.lt a ha).1; omega)))
                      have HKw' : Hid (Keep2 w4.heap.size b P w4 wr) := Lib.hid (HK2v.out.trans ⟨(HBm2.out.mono (Nat.zero_le _)).trans HKj.out.zero, fun q h1 h2 _ => HVM.out q (by omega) h2⟩)
                      have HDw : Hid (∀ x ∈ maps, MqO w4.heap.size rm wr x) := Lib.hid (fun x hx => (HD2v.out x hx).step (fun q h1 h2 _ => HVM.out q (by omega) (by omega)) hzw (fun a ha => .inl ⟨a, ha, rfl⟩))
                      have HNw : Hid (MqO w4.heap.size rm wr ⟨rX, cX, X, rY, cY, Y, rz, cz, Z⟩) := Lib.hid
                        ⟨HX2v.out.step (fun q h1 h2 _ => HVM.out q (by omega) (by omega)) hzw (fun a ha => .inl ⟨a, ha, rfl⟩), HY2v.out.step (fun q h1 h2 _ => HVM.out q (by omega) (by omega)) hzw (fun a ha => .inl ⟨a, ha, rfl⟩), HOj.out.isS (fun _ => rfl),
                          fun a ha => ⟨by have := (HOj.out.lt a ha).1; omega, (HOj.out.lt a ha).2, fun x hx => by have h1 := (HO2v.out.lt x hx).2; have h2 := (HOj.out.lt a ha).1; omega⟩,
                          fun r hr => ((HDj.out r hr).done (g' := rm) (fun x hx => by have h1 := (HO2v.out.lt x hx).2; omega)).base (by omega)⟩
                      obtain ⟨mc1, mf1⟩ := HAj.out 1 _ rfl
                      obtain ⟨p3c, p3f⟩ := HAw.out 3 _ rfl
                      have hD6 : w4.heap.size ≤ wr.heap.size := by omega
                      clear HVM HA2v HO2v HK2v HD2v HX2v HY2v HKj HAj HOj HDj HBm HBm2 HBj
                      go_wp2_with (first | (at_builtin; refine wpList_append_rowf Try.underlying25 infoMap rfl (by omega) (by omega) (by rfl) _ _ (by rfl) wr w4.heap.size rm cm maps (⟨rX, cX, X, rY, cY, Y, rz, cz, Z⟩ : Mq) (by rfl) (fun u hu => by simp only [Mq.enc, List.mem_cons, List.not_mem_nil, or_false] at hu; rcases hu with rfl | rfl | rfl <;> rfl) (by rfl) (by rfl) (by rfl) HOw.out (by omega) hD6 ?_; intro r' c' w6 hown6 hbw6 hst6 hrr6; have HST := Lib.hid hst6; have HRR := Lib.hid hrr6; have HOW := Lib.hid hown6; have p6c := (hbw6.cell (p := ⟨P, 3, none⟩) hPw4).trans p3c; have p6f := (hbw6.frozen (p := ⟨P, 3, none⟩) hPw4).trans p3f; clear hst6 hrr6 hown6))
                      have hz6 := hbw6.size
                      have HW6 := Lib.hid (put_row hb4 hPw4 hPb hD6 HKw'.out HAw.out HRj.out HOW.out hbw6 3 (by simp) (.slice r' (maps.length + 1) c'))
                      have HDn : Hid (∀ x ∈ maps ++ [(⟨rX, cX, X, rY, cY, Y, rz, cz, Z⟩ : Mq)], MqO w4.heap.size r' (w6.setCell ⟨P, 3, none⟩ (.slice r' (maps.length + 1) c')) x) := Lib.hid (fun x hx => by
                        rcases List.mem_append.1 hx with hx | hx
                        · exact (HDw.out x hx).grow HST.out hz6 HRR.out hPw4 _
                        · simp only [List.mem_singleton] at hx
                          subst hx
                          exact HNw.out.grow HST.out hz6 HRR.out hPw4 _)
                      obtain ⟨hw1, hw2, hw3, hw4, hw5⟩ := HW6.out
                      go_roundg (n4 - (k + 1))
                      case measure => omega
                      case rel => exact ⟨k + 1, r', c', maps ++ [⟨rX, cX, X, rY, cY, Y, rz, cz, Z⟩], ej, by go_num, by omega, by omega, hw5, Lib.hid hw1, Lib.hid (by simpa using hw2), Lib.hid hw3, Lib.hid hw4, Lib.hid (by rw [List.map_append]; exact HPn2.out), Lib.hid (by rw [List.length_append, HL.out]; rfl), HDn⟩
                · obtain rfl : k = n4 := by omega
                  have HQ4 : Hid (pMany pMp 16 e3 = (maps.map (fun m : Mq => m.mp.p), e4)) := Lib.hid (by rw [HM4.out, HP.out])
                  have HBr : Hid (Below W0.heap.size W0 wr) := Lib.hid (HB4.out.trans ((HK.out.toB (B := W0.heap.size) (by omega) (by omega)).below (Nat.le_refl _) hB))
                  have HFc : Hid (∀ W', KeepA P wr W' → IsS 3 Mq.enc W' rm cm maps ∧ ∀ x ∈ maps, x.mp.ok W') := Lib.hid (fun W' hW => ⟨HO.out.closed (fun _ => rfl) hb4 hPw4 W' hW, fun x hx => (HD.out x hx).closed hb4 hPw4 W' hW⟩)
                  have hkz := HK.out.zero.size
                  have hkw := HK.out.zero.size
                  have HI := Lib.hid (rint_any b W0 wr e4 HR.out hB HBr.out)
                  have HX0 := Lib.hid (pInt_wf e4)
                  have HQ5 : Hid (pInt e4 = ((pInt e4).1, (pInt e4).2)) := Lib.hid rfl
                  generalize (pInt e4).2 = t1 at *
                  generalize (pInt e4).1 = x at *
                  have HL1 := Lib.hid (fun W h1 h2 => rlst_any b W0 W t1 h1 hB h2)
                  have HL2 := Lib.hid (fun W h1 h2 => rlst_any b W0 W (pList t1).2 h1 hB h2)
                  have HL3 := Lib.hid (fun W h1 h2 => rlst_any b W0 W (pList (pList t1).2).2 h1 hB h2)
                  have HL4 := Lib.hid (fun W h1 h2 => rlst_any b W0 W (pList (pList (pList t1).2).2).2 h1 hB h2)
                  have HQL : Hid (pPrg s = (⟨code, types, curves.map Cv.p, maps.map (fun m : Mq => m.mp.p), x, (pList t1).1, (pList (pList t1).2).1, (pList (pList (pList t1).2).2).1, (pList (pList (pList (pList t1).2).2).2).1⟩, (pList (pList (pList (pList t1).2).2).2).2)) := Lib.hid (by
                    unfold pPrg
                    rw [HQ1.out]; simp only
                    rw [HQ2.out]; simp only
                    rw [HQ3.out]; simp only
                    rw [HQ4.out]; simp only
                    rw [HQ5.out])
                  have HW1 := Lib.hid (pList_wf t1)
                  have HW2 := Lib.hid (pList_wf (pList t1).2)
                  have HW3 := Lib.hid (pList_wf (pList (pList t1).2).2)
                  have HW4 := Lib.hid (pList_wf (pList (pList (pList t1).2).2).2)
                  generalize (pList (pList (pList (pList t1).2).2).2).2 = t5 at *
                  generalize (pList (pList (pList (pList t1).2).2).2).1 = l4 at *
                  generalize (pList (pList (pList t1).2).2).2 = t4 at *
                  generalize (pList (pList (pList t1).2).2).1 = l3 at *
                  generalize (pList (pList t1).2).2 = t3 at *
                  generalize (pList (pList t1).2).1 = l2 at *
                  generalize (pList t1).2 = t2 at *
                  generalize (pList t1).1 = l1 at *
                  have HARr := Lib.hid (AR4.out.keep (HK.out.block R (by omega) hRb hRP))
                  have hPz : P < wr.heap.size := by omega
                  have hRz : R < wr.heap.size := by omega
                  have tk1 : True := trivial
                  have tk2 : True := trivial
                  have tk3 : True := trivial
                  have tk4 : True := trivial
                  go_wp2_with (first | (go_at_call 95; refine HI.out.mono ?_; rintro _ u0 ⟨rfl, hr0, hk0⟩; have HK0 := Lib.hid hk0; have hz0 := hk0.zero.size; have AP0 := HA.out.keep (hk0.block P (by omega) hPb); have ARd0 : Hid (AtV (u0.setCell ⟨P, 4, none⟩ (.int .i64 x)) R [.slice none 0 0, .slice none 0 0, .slice none 0 0, .slice none 0 0, .int .i64 0, .slice none 0 0, .slice none 0 0, .slice none 0 0, .slice none 0 0]) := Lib.hid ((HARr.out.keep (hk0.block R (by omega) hRb)).keep (Below.heap_setCell _ _ _ _ hRP)); have APd0 : Hid (AtV (u0.setCell ⟨P, 4, none⟩ (.int .i64 x)) P [.slice rc code.length cc, .slice rt types.length ct, .slice rv curves.length cv, .slice rm maps.length cm, .int .i64 x, .slice none 0 0, .slice none 0 0, .slice none 0 0, .slice none 0 0]) := Lib.hid (AP0.set (j := 4) (by simp) (.int .i64 x)); have z4c := (AP0 4 _ rfl).1; have z4f := (AP0 4 _ rfl).2; have HRd0 : Hid (Rdr W0 (u0.setCell ⟨P, 4, none⟩ (.int .i64 x)) b t1) := Lib.hid (hr0.keep (Below.heap_setCell _ _ _ _ hbP) (by rw [World.size_setCell]; exact Nat.le_refl _)); have HBd0 : Hid (Below W0.heap.size W0 (u0.setCell ⟨P, 4, none⟩ (.int .i64 x))) := Lib.hid ((HBr.out.trans (hk0.below (by omega) hB)).setCell (p := ⟨P, 4, none⟩) (by show W0.heap.size ≤ P; omega) _); clear hr0 hk0 AP0) | (have _t := tk1; go_at_call 96; refine (HL1.out _ HRd0.out HBd0.out).mono ?_; rintro _ u1 ⟨r1, c1, rfl, ho1, hr1, hk1⟩; have HOl1 := Lib.hid ho1; have HRd1 := Lib.hid hr1; have HKd1 := Lib.hid hk1; have hz1 := hk1.zero.size; (try simp only [World.size_setCell] at hz1); clear ho1 hr1 hk1 tk1 _t; have HBd1 : Hid (Below W0.heap.size W0 u1) := Lib.hid (HBd0.out.trans (HKd1.out.below (by (try simp only [World.size_setCell]); omega) hB)); have APd1 := Lib.hid (APd0.out.keep (HKd1.out.block P (by (try simp only [World.size_setCell]); omega) hPb)); have ARd1 := Lib.hid (ARd0.out.keep (HKd1.out.block R (by (try simp only [World.size_setCell]); omega) hRb))) | (have _t := tk2; go_at_call 96; refine (HL2.out _ HRd1.out HBd1.out).mono ?_; rintro _ u2 ⟨r2, c2, rfl, ho2, hr2, hk2⟩; have HOl2 := Lib.hid ho2; have HRd2 := Lib.hid hr2; have HKd2 := Lib.hid hk2; have hz2 := hk2.zero.size; (try simp only [World.size_setCell] at hz2); clear ho2 hr2 hk2 tk2 _t; have HBd2 : Hid (Below W0.heap.size W0 u2) := Lib.hid (HBd1.out.trans (HKd2.out.below (by (try simp only [World.size_setCell]); omega) hB)); have APd2 := Lib.hid (APd1.out.keep (HKd2.out.block P (by (try simp only [World.size_setCell]); omega) hPb)); have ARd2 := Lib.hid (ARd1.out.keep (HKd2.out.block R (by (try simp only [World.size_setCell]); omega) hRb))) | (have _t := tk3; go_at_call 96; refine (HL3.out _ HRd2.out HBd2.out).mono ?_; rintro _ u3 ⟨r3, c3, rfl, ho3, hr3, hk3⟩; have HOl3 := Lib.hid ho3; have HRd3 := Lib.hid hr3; have HKd3 := Lib.hid hk3; have hz3 := hk3.zero.size; (try simp only [World.size_setCell] at hz3); clear ho3 hr3 hk3 tk3 _t; have HBd3 : Hid (Below W0.heap.size W0 u3) := Lib.hid (HBd2.out.trans (HKd3.out.below (by (try simp only [World.size_setCell]); omega) hB)); have APd3 := Lib.hid (APd2.out.keep (HKd3.out.block P (by (try simp only [World.size_setCell]); omega) hPb)); have ARd3 := Lib.hid (ARd2.out.keep (HKd3.out.block R (by (try simp only [World.size_setCell]); omega) hRb))) | (have _t := tk4; go_at_call 96; refine (HL4.out _ HRd3.out HBd3.out).mono ?_; rintro _ u4 ⟨r4, c4, rfl, ho4, hr4, hk4⟩; have HOl4 := Lib.hid ho4; have HRd4 := Lib.hid hr4; have HKd4 := Lib.hid hk4; have hz4 := hk4.zero.size; (try simp only [World.size_setCell] at hz4); clear ho4 hr4 hk4 tk4 _t; have HBd4 : Hid (Below W0.heap.size W0 u4) := Lib.hid (HBd3.out.trans (HKd4.out.below (by (try simp only [World.size_setCell]); omega) hB)); have APd4 := Lib.hid (APd3.out.keep (HKd4.out.block P (by (try simp only [World.size_setCell]); omega) hPb)); have ARd4 := Lib.hid (ARd3.out.keep (HKd4.out.block R (by (try simp only [World.size_setCell]); omega) hRb)); have p0c := (APd4.out 0 _ rfl).1; have p1c := (APd4.out 1 _ rfl).1; have p2c := (APd4.out 2 _ rfl).1; have p3c := (APd4.out 3 _ rfl).1; have p4c := (APd4.out 4 _ rfl).1; have p5c := (APd4.out 5 _ rfl).1; have p6c := (APd4.out 6 _ rfl).1; have p7c := (APd4.out 7 _ rfl).1; have p8c := (APd4.out 8 _ rfl).1; have pff : ∀ z : Nat, z < 9 → u4.frozen? ⟨P, z, none⟩ = false := (fun z hz => (APd4.out z _ (List.getElem?_eq_getElem (by simpa using hz))).2); have pf5 := pff 5 (by omega); have pf6 := pff 6 (by omega); have pf7 := pff 7 (by omega); have pf8 := pff 8 (by omega); have q0c := (ARd4.out 0 _ rfl).1; have q0f := (ARd4.out 0 _ rfl).2; have q1c := (ARd4.out 1 _ rfl).1; have q1f := (ARd4.out 1 _ rfl).2; have q2c := (ARd4.out 2 _ rfl).1; have q2f := (ARd4.out 2 _ rfl).2; have q3c := (ARd4.out 3 _ rfl).1; have q3f := (ARd4.out 3 _ rfl).2; have q4c := (ARd4.out 4 _ rfl).1; have q4f := (ARd4.out 4 _ rfl).2; have q5c := (ARd4.out 5 _ rfl).1; have q5f := (ARd4.out 5 _ rfl).2; have q6c := (ARd4.out 6 _ rfl).1; have q6f := (ARd4.out 6 _ rfl).2; have q7c := (ARd4.out 7 _ rfl).1; have q7f := (ARd4.out 7 _ rfl).2; have q8c := (ARd4.out 8 _ rfl).1; have q8f := (ARd4.out 8 _ rfl).2))
                  have hPw9 : w.heap.size ≤ P := by omega
                  have hz01 : (u0.setCell ⟨P, 4, none⟩ (.int .i64 x)).heap.size = u0.heap.size := World.size_setCell _ _ _
                  have hKA0 : KeepA P wr (u0.setCell ⟨P, 4, none⟩ (.int .i64 x)) := (KeepA.ofB HK0.out hBP).trans (KeepA.set _ (Nat.le_refl P) 4 _)
                  have hKA1 : KeepA P wr u1 := hKA0.trans (KeepA.ofB HKd1.out hBP)
                  have hK12 : KeepA P u1 u2 := KeepA.ofB HKd2.out hBP
                  have hK23 : KeepA P u2 u3 := KeepA.ofB HKd3.out hBP
                  have hK34 : KeepA P u3 u4 := KeepA.ofB HKd4.out hBP
                  have kset : ∀ (W : World) (q j : Nat) (v : Value), w.heap.size ≤ q → KeepB w.heap.size b W (W.setCell ⟨q, j, none⟩ v) := fun W q j v h => below_keepB ((Below.refl _ W).setCell (p := ⟨q, j, none⟩) h v)
                  have hset : ∀ (W : World) (q j : Nat) (v : Value), ¬ b = q → (W.setCell ⟨q, j, none⟩ v).heap[b]? = W.heap[b]? := fun W q j v h => Below.heap_setCell _ _ _ _ h
                  have hKB4 : KeepB w.heap.size b w u4 := (((((((HKw4.out.trans (HK.out.toB (by omega) (by omega))).trans (HK0.out.mono (by omega))).trans (kset _ P 4 _ hPw9)).trans (HKd1.out.mono (by omega))).trans (HKd2.out.mono (by omega))).trans (HKd3.out.mono (by omega))).trans (HKd4.out.mono (by omega)))
                  refine bodyPost_ret (by simp [results, Try.results52, go_sem, *]; try rfl) rfl ?_
                  obtain ⟨wf, hwf⟩ : ∃ v : World, v = (((((((((((((u4).setCell ⟨P, 5, none⟩ (.slice r1 l1.length c1)).setCell ⟨P, 6, none⟩ (.slice r2 l2.length c2)).setCell ⟨P, 7, none⟩ (.slice r3 l3.length c3)).setCell ⟨P, 8, none⟩ (.slice r4 l4.length c4)).setCell ⟨R, 0, none⟩ (.slice rc code.length cc)).setCell ⟨R, 1, none⟩ (.slice rt types.length ct)).setCell ⟨R, 2, none⟩ (.slice rv curves.length cv)).setCell ⟨R, 3, none⟩ (.slice rm maps.length cm)).setCell ⟨R, 4, none⟩ (.int .i64 x)).setCell ⟨R, 5, none⟩ (.slice r1 l1.length c1)).setCell ⟨R, 6, none⟩ (.slice r2 l2.length c2)).setCell ⟨R, 7, none⟩ (.slice r3 l3.length c3)).setCell ⟨R, 8, none⟩ (.slice r4 l4.length c4) := ⟨_, rfl⟩
                  rw [← hwf]
                  have hKf : KeepA P u4 wf := by
                    rw [hwf]
                    exact ((((((((((((KeepA.set u4 (Nat.le_refl P) 5 _).trans (KeepA.set _ (Nat.le_refl P) 6 _)).trans (KeepA.set _ (Nat.le_refl P) 7 _)).trans (KeepA.set _ (Nat.le_refl P) 8 _)).trans (KeepA.set _ (Nat.le_of_lt hPl) 0 _)).trans (KeepA.set _ (Nat.le_of_lt hPl) 1 _)).trans (KeepA.set _ (Nat.le_of_lt hPl) 2 _)).trans (KeepA.set _ (Nat.le_of_lt hPl) 3 _)).trans (KeepA.set _ (Nat.le_of_lt hPl) 4 _)).trans (KeepA.set _ (Nat.le_of_lt hPl) 5 _)).trans (KeepA.set _ (Nat.le_of_lt hPl) 6 _)).trans (KeepA.set _ (Nat.le_of_lt hPl) 7 _)).trans (KeepA.set _ (Nat.le_of_lt hPl) 8 _)
                  have hKBf : KeepB w.heap.size b u4 wf := by
                    rw [hwf]
                    exact ((((((((((((kset u4 P 5 _ hPw9).trans (kset _ P 6 _ hPw9)).trans (kset _ P 7 _ hPw9)).trans (kset _ P 8 _ hPw9)).trans (kset _ R 0 _ hRl)).trans (kset _ R 1 _ hRl)).trans (kset _ R 2 _ hRl)).trans (kset _ R 3 _ hRl)).trans (kset _ R 4 _ hRl)).trans (kset _ R 5 _ hRl)).trans (kset _ R 6 _ hRl)).trans (kset _ R 7 _ hRl)).trans (kset _ R 8 _ hRl)
                  have hlist : ∀ {W W' : World} {D : Nat} {r : Option Addr} {c : Nat} {l : List Int}, OwnK .i64 3 W D r c l → P < D → KeepA P W W' → (∀ x ∈ l, I64 x) → IsInts W' r c .i64 l := fun ho hD hk hw => ints_keep (ho.ints (fun x hx => hw x hx)) (fun a ha => hk.block _ (by have := (ho.lt a ha).1; omega) (ho.lt a ha).2) hk.size
                  refine ⟨⟨rc, cc, code, rt, ct, types, rv, cv, curves, rm, cm, maps.map Mq.mp, x, r1, c1, l1, r2, c2, l2, r3, c3, l3, r4, c4, l4⟩, by simp [PV.val], ?_, ?_, ?_, hKB4.trans hKBf⟩
                  · intro W' hW
                    have hKg : KeepA P u4 W' := hKf.trans ⟨hW.size, fun q h1 h2 => hW.block q (by omega) h2⟩
                    have hFA := HF4.out W' ((KeepA.of2 HK.out hBP (Nat.le_refl _)).trans ((((hKA1.trans hK12).trans hK23).trans hK34).trans hKg))
                    have hFB := HFc.out W' ((((hKA1.trans hK12).trans hK23).trans hK34).trans hKg)
                    exact ⟨hFA.1.1.2.1, hFA.1.1.2.2, hFA.1.2.1, hFA.1.2.2, hFA.2.1, hFA.2.2, isS_mq hFB.1, fun y hy => by
                      obtain ⟨m, hm, rfl⟩ := List.mem_map.1 hy
                      exact hFB.2 m hm, HX0.out, hlist HOl1.out (by omega) (((hK12.trans hK23).trans hK34).trans hKg) HW1.out, hlist HOl2.out (by omega) ((hK23.trans hK34).trans hKg) HW2.out, hlist HOl3.out (by omega) (hK34.trans hKg) HW3.out, hlist HOl4.out (by omega) hKg HW4.out⟩
                  · rw [HQL.out]
                    unfold PV.p
                    simp only [List.map_map]
                    rfl
                  · rw [HQL.out]
                    exact HRd4.out.keep (by rw [hwf, hset _ R 8 _ hbR, hset _ R 7 _ hbR, hset _ R 6 _ hbR, hset _ R 5 _ hbR, hset _ R 4 _ hbR, hset _ R 3 _ hbR, hset _ R 2 _ hbR, hset _ R 1 _ hbR, hset _ R 0 _ hbR, hset _ P 8 _ hbP, hset _ P 7 _ hbP, hset _ P 6 _ hbP, hset _ P 5 _ hbP]) (by rw [hwf]; simp only [World.size_setCell]; exact Nat.le_refl _)
end Go.Proofs.Ytfooefiaenlhmaa
namespace Go.Proofs.Ytfooefiaenlhmaa
set_option linter.unusedVariables false
set_option linter.unusedSimpArgs false
open Go.RowKit Go.ChangeShapes Go.WideShapes Go.ChangeAt

set_option maxRecDepth 100000 in
set_option maxHeartbeats 2000000 in
theorem idecode_len (r : Option Addr) (c : Nat) (bs : List Int) (w : World) (hl : bs.length ≤ 100000) (h : bs.length < 12 ∨ bs.length % 4 ≠ 0) : Calls Try.prog 25 #[.slice r bs.length c] w fun e w' => e = .returned (.tuple #[pv0.val, .int .i64 3]) ∧ Below w.heap.size w w' := by
  by_cases h12 : (bs.length : Int) < 12
  · clear h
    go_enter Try.func25, Try.ntmps25
    go_wp2
    refine bodyPost_ret (by simp [results, Try.results25, go_sem, *]; try rfl) rfl ?_
    exact ⟨rfl, by (repeat' (first | (with_reducible exact Below.refl _ _) | (with_reducible assumption) | (with_reducible refine below_alloc ?_ _) | (with_reducible refine Below.drew ?_) | (with_reducible refine below_drewN ?_ _) | (with_reducible refine below_step (by assumption) ?_) | (with_reducible refine below_later ?_ _) | (with_reducible refine Below.setCell ?_ ?_ _) | go_size))⟩
  · have h4 : ¬ (bs.length : Int) % 4 = 0 := by omega
    clear h
    go_enter Try.func25, Try.ntmps25
    go_wp2
    refine bodyPost_ret (by simp [results, Try.results25, go_sem, *]; try rfl) rfl ?_
    exact ⟨rfl, by (repeat' (first | (with_reducible exact Below.refl _ _) | (with_reducible assumption) | (with_reducible refine below_alloc ?_ _) | (with_reducible refine Below.drew ?_) | (with_reducible refine below_drewN ?_ _) | (with_reducible refine below_step (by assumption) ?_) | (with_reducible refine below_later ?_ _) | (with_reducible refine Below.setCell ?_ ?_ _) | go_size))⟩
/-- A new reader. -/
theorem Rdr.new {W0 : World} (w : World) (t : TypeId) {r : Option Addr} {m c : Nat} {part : List Int} (hI : IsInts W0 r c .u8 part) (hm : part.length = m) (hl : m ≤ 100000) : Rdr W0 (w.alloc (.cells #[.slice r m c, .bool false] t)) w.heap.size (some part) := by
  have A := AtV.new w [.slice r m c, .bool false] t
  obtain ⟨a0, f0⟩ := A 0 _ rfl
  obtain ⟨a1, f1⟩ := A 1 _ rfl
  subst hm
  exact ⟨by rw [World.size_alloc]; omega, f0, f1, r, c, part, false, a0, a1, hI, hl, rfl⟩
theorem decF_step {bs : List Int} {k : Nat} (hk : k < 4) (f : Bool) : decF bs (4 - k) f = if hitZ bs k = true then ((prgZ bs k).1, 0) else decF bs (4 - (k + 1)) (f || fndZ bs k) := by
  obtain rfl | rfl | rfl | rfl : k = 0 ∨ k = 1 ∨ k = 2 ∨ k = 3 := by omega
  all_goals rfl
set_option maxRecDepth 100000 in
set_option maxHeartbeats 8000000 in
theorem idecode_go (r : Option Addr) (c : Nat) (bs : List Int) (w : World) (hx : IsInts w r c .u8 bs) (hl : bs.length ≤ 100000) (h12 : 12 ≤ bs.length) (h4 : bs.length % 4 = 0) : Calls Try.prog 25 #[.slice r bs.length c] w fun e w' => ∃ q : PV, e = .returned (.tuple #[q.val, .int .i64 (decP bs).2]) ∧ IsP w' q ∧ q.p = (decP bs).1 ∧ Below w.heap.size w w' := by
  have hne : bs ≠ [] := fun e => by rw [e] at h12; simp at h12
  obtain ⟨bX, off, rfl, hbX, _⟩ := hx.cells hne
  have hcap := hx.le
  have hmax := hx.max
  unfold maxLen at hmax
  have HX := Lib.hid hx
  have HD : Hid (decP bs = decF bs 4 false) := Lib.hid (by unfold decP; rw [if_neg (by omega)])
  have HBY : Hid (ByteL bs) := Lib.hid (fun x h => wf_u8 (hx.wf x h))
  have i1 : ¬ (bs.length : Int) < 12 := by omega
  have i2 : (bs.length : Int) % 4 = 0 := by omega
  clear hx hne h4
  generalize decP bs = D at *
  obtain ⟨n, hn⟩ : ∃ n, n = bs.length := ⟨_, rfl⟩
  have HN := Lib.hid hn
  rw [← hn] at i1 i2 hl h12 hcap ⊢
  clear hn
  go_enter Try.func25, Try.ntmps25
  go_wp2
  have AR1 : AtV (w.alloc (.cells #[.slice none 0 0, .slice none 0 0, .slice none 0 0, .slice none 0 0, .int .i64 0, .slice none 0 0, .slice none 0 0, .slice none 0 0, .slice none 0 0] 28)) w.heap.size [.slice none 0 0, .slice none 0 0, .slice none 0 0, .slice none 0 0, .int .i64 0, .slice none 0 0, .slice none 0 0, .slice none 0 0, .slice none 0 0] := AtV.new w [.slice none 0 0, .slice none 0 0, .slice none 0 0, .slice none 0 0, .int .i64 0, .slice none 0 0, .slice none 0 0, .slice none 0 0, .slice none 0 0] 28
  have hbw1 : Below w.heap.size w (w.alloc (.cells #[.slice none 0 0, .slice none 0 0, .slice none 0 0, .slice none 0 0, .int .i64 0, .slice none 0 0, .slice none 0 0, .slice none 0 0, .slice none 0 0] 28)) := by (repeat' (first | (with_reducible exact Below.refl _ _) | (with_reducible assumption) | (with_reducible refine below_alloc ?_ _) | (with_reducible refine Below.drew ?_) | (with_reducible refine below_drewN ?_ _) | (with_reducible refine below_step (by assumption) ?_) | (with_reducible refine below_later ?_ _) | (with_reducible refine Below.setCell ?_ ?_ _) | go_size))
  have hz1 : w.heap.size < (w.alloc (.cells #[.slice none 0 0, .slice none 0 0, .slice none 0 0, .slice none 0 0, .int .i64 0, .slice none 0 0, .slice none 0 0, .slice none 0 0, .slice none 0 0] 28)).heap.size := by rw [World.size_alloc]; omega
  generalize w.alloc (.cells #[.slice none 0 0, .slice none 0 0, .slice none 0 0, .slice none 0 0, .int .i64 0, .slice none 0 0, .slice none 0 0, .slice none 0 0, .slice none 0 0] 28) = W1 at *
  have HA1 := Lib.hid AR1
  clear AR1
  go_loopg [4, 23] 4 (fun kx s4 s23 wr => ∃ (k : Nat) (f : Bool), s4 = .bool f ∧ s23 = .int .i64 k ∧ k ≤ 4 ∧ 4 - k ≤ kx ∧ Below W1.heap.size W1 wr ∧ Hid (D = decF bs (4 - k) f))
  case atStart => exact ⟨0, false, rfl, rfl, by omega, by omega, Below.refl _ _, HD⟩
  case round =>
    clear HD
    obtain ⟨k, f, rfl, rfl, hk, hkx, hbr, HD⟩ := hrel
    have hbrs := hbr.size
    have hBW : Below w.heap.size w wr := hbw1.trans (hbr.mono (by omega))
    by_cases hlt : k < 4
    · have HD2 : Hid (D = if hitZ bs k = true then ((prgZ bs k).1, 0) else decF bs (4 - (k + 1)) (f || fndZ bs k)) := Lib.hid (by rw [HD.out, decF_step hlt])
      clear HD
      obtain ⟨m, hm⟩ : ∃ m, m = n - 4 - k := ⟨_, rfl⟩
      have hmn : m + 4 + k = n := by omega
      have hpl : (partZ bs k).length = m := by unfold partZ; rw [List.length_take, ← HN.out]; omega
      have hpe : partZ bs k = bs.take m := by unfold partZ; rw [← HN.out, ← hm]
      have hk1 : (0 : Int) ≤ (k : Int) := by omega
      have hk2 : (k : Int) < 4 := by omega
      have hs0 := (sumB_u32 (partZ bs k)).1
      have hs1 := (sumB_u32 (partZ bs k)).2
      have HSUM : Hid (∀ W, Below w.heap.size w W → Calls Try.prog 11 #[.slice (some ⟨bX, off, none⟩) m c] W fun e w' => e = .returned (.int .u32 (sumB (partZ bs k))) ∧ Below W.heap.size W w') := Lib.hid (fun W h => by
        have := isum_any (some ⟨bX, off, none⟩) c (partZ bs k) W (by rw [hpe]; exact (HX.out.later h).take m)
        rwa [hpl] at this)
      have HPI : Hid (IsInts w (some ⟨bX, off, none⟩) c .u8 (partZ bs k)) := Lib.hid (by rw [hpe]; exact HX.out.take m)
      have HEQ : Hid (∀ W r3 c3, Below w.heap.size w W → OwnK .u8 5 W w.heap.size r3 c3 (endZ bs k) → Calls Try.prog 14 #[.slice (some ⟨bX, off + m, none⟩) (n - m) (c - m), .slice r3 (4 + k) c3] W fun e w' => e = .returned (.bool (fndZ bs k)) ∧ Below W.heap.size W w') := Lib.hid (fun W r3 c3 h ho => by
        have hby : ByteL (endZ bs k) := by
          unfold endZ
          refine bytes_append (b4_byte (sumB_u32 _)) (fun x hx => ?_)
          have := (List.mem_replicate.1 hx).2
          omega
        have he : (endZ bs k).length = 4 + k := by unfold endZ; rw [List.length_append, b4_len, List.length_replicate]
        have := bEq_any (some ⟨bX, off + m, none⟩) r3 (c - m) c3 (bs.drop m) (endZ bs k) W ((HX.out.later h).drop (by rw [← HN.out]; omega)) (ints_b ho hby)
        rw [he, List.length_drop, ← HN.out] at this
        unfold fndZ
        rwa [← HN.out, ← hm])
      have HEN : Hid (endZ bs k = b4 (sumB (partZ bs k)) ++ List.replicate k 0) := Lib.hid rfl
      have HHIT : Hid (hitZ bs k = (fndZ bs k && (decide ((prgZ bs k).2 = some []) && (okP (prgZ bs k).1 && decide (sealL (prgZ bs k).1.body = bs))))) := Lib.hid rfl
      have HPR : Hid (∀ W b, Rdr w W b (some (partZ bs k)) → w.heap.size ≤ b → Below w.heap.size w W → Calls Try.prog 52 #[.pointer (some ⟨b, 0, none⟩)] W fun e w' => ∃ q : PV, e = .returned q.val ∧ (∀ W', KeepA W.heap.size w' W' → IsP W' q) ∧ q.p = (prgZ bs k).1 ∧ Rdr w w' b (prgZ bs k).2 ∧ KeepB W.heap.size b W w') := Lib.hid (fun W b h1 h2 h3 => rprog_any b w W _ h1 h2 h3)
      have HLN : Hid (∀ t, (prgZ bs k).2 = some t → (prgZ bs k).1.body.length ≤ 100000) := Lib.hid (fun t h => Nat.le_trans (prgZ_len h) (by rw [← HN.out]; exact hl))
      have HPL := Lib.hid hpl
      clear hpl hpe hm
      generalize hitZ bs k = hit at *
      generalize prgZ bs k = pg at *
      generalize sumB (partZ bs k) = sv at *
      generalize endZ bs k = en at *
      generalize fndZ bs k = F at *
      generalize partZ bs k = part at *
      have e1 : IntKind.i64.wrap ((n : Int) - 4) = (n : Int) - 4 := IntWalk.i64_in _ (by omega)
      have e2 : IntKind.i64.wrap ((n : Int) - 4 - k) = m := by rw [IntWalk.i64_in _ (by omega)]; omega
      have e3 : (m : Int) ≤ c := by omega
      have e4 : (0 : Int) ≤ m := by omega
      have e5 : (m : Int) ≤ n := by omega
      have e6 : (n : Int) ≤ c := by omega
      have e7 : ¬ c = m := by omega
      have hk3 : k ≤ 3 := by omega
      go_upto_region 10 with (first | (go_at_call 11; refine (HSUM.out _ hBW).mono ?_; rintro _ w2 ⟨rfl, hb2⟩; have hb2s := hb2.size; have hB2 : Below w.heap.size w w2 := hBW.trans (hb2.mono (by omega))) | (at_builtin; refine wpList_append_z (by rfl) _ _ (by rfl) w2 (b4 sv) rfl k hk3 (by first | rfl | (rw [← b4_wrap hs0 hs1]; rfl)) (by rfl) (by rfl) ?_; intro r3 c3 w3 ho3 hb3; have HO3 := Lib.hid ho3; clear ho3; have hb3s := hb3.size; have hB3 : Below w.heap.size w w3 := hB2.trans (hb3.mono (by have := hB2.size; omega))))
      cases F
      · go_wp2_with (go_at_call 14; refine (HEQ.out _ _ _ hB3 (by have := HO3.out; rw [← HEN.out] at this; exact this.base (by have := hB2.size; omega))).mono ?_; rintro _ w4 ⟨rfl, hb4⟩; have hb4s := hb4.size)
        go_roundg (4 - (k + 1))
        case measure => omega
        case rel => exact ⟨k + 1, f, rfl, by go_num, by omega, by omega, ((hbr.trans (hb2.mono (by omega))).trans (hb3.mono (by omega))).trans (hb4.mono (by omega)), Lib.hid (by rw [HD2.out, HHIT.out]; simp)⟩
      · have HMISS : Hid (hit = false → D = decF bs (4 - (k + 1)) true) := Lib.hid (fun h => by rw [HD2.out, h]; simp)
        have HGOT : Hid (hit = true → D = (pg.1, 0)) := Lib.hid (fun h => by rw [HD2.out, h]; simp)
        clear HD2
        go_upto_region 14 with (first | (go_at_call 14; refine (HEQ.out _ _ _ hB3 (by have := HO3.out; rw [← HEN.out] at this; exact this.base (by have := hB2.size; omega))).mono ?_; rintro _ w4 ⟨rfl, hb4⟩; have hb4s := hb4.size; have hB4 : Below w.heap.size w w4 := hB3.trans (hb4.mono (by omega))) | (go_at_call 52; refine (HPR.out _ w4.heap.size (Rdr.new w4 _ HPI.out HPL.out (by omega)) (by have := hB4.size; omega) (hB4.alloc hB4.size _)).mono ?_; rintro _ w5 ⟨⟨rc, cc, code, rt, ct, types, rv, cv, curves, rm, cm, maps, cells, ri, ci, inputs, rs, cs, states, ro, co, outputs, rn, cn, initial⟩, rfl, hp5, hq5, hr5, hk5⟩; simp only [PV.val]; have HP5 := Lib.hid hp5; have HQ5 := Lib.hid hq5; have HR5 := Lib.hid hr5; have HK5 := Lib.hid hk5; clear hp5 hq5 hr5 hk5))
        have hz5 := HK5.out.zero.size
        have hz4a : (w4.alloc (.cells #[.slice (some ⟨bX, off, none⟩) m c, .bool false] 94)).heap.size = w4.heap.size + 1 := World.size_alloc _ _
        have hB4z := hB4.size
        have hb14 : Below W1.heap.size W1 (w4.alloc (.cells #[.slice (some ⟨bX, off, none⟩) m c, .bool false] 94)) := (((hbr.trans (hb2.mono (by omega))).trans (hb3.mono (by omega))).trans (hb4.mono (by omega))).alloc (by omega) _
        have hB4a : Below w.heap.size w (w4.alloc (.cells #[.slice (some ⟨bX, off, none⟩) m c, .bool false] 94)) := hB4.alloc hB4.size _
        generalize w4.alloc (.cells #[.slice (some ⟨bX, off, none⟩) m c, .bool false] 94) = w4a at *
        have hb15 : Below W1.heap.size W1 w5 := hb14.trans (HK5.out.below (by omega) (by omega))
        have hB5 : Below w.heap.size w w5 := hB4a.trans (HK5.out.below (by omega) (by omega))
        have AT := AtV.new w5 [.slice rc code.length cc, .slice rt types.length ct, .slice rv curves.length cv, .slice rm maps.length cm, .int .i64 cells, .slice ri inputs.length ci, .slice rs states.length cs, .slice ro outputs.length co, .slice rn initial.length cn] 28
        have hb56 : Below w5.heap.size w5 (w5.alloc (.cells #[.slice rc code.length cc, .slice rt types.length ct, .slice rv curves.length cv, .slice rm maps.length cm, .int .i64 cells, .slice ri inputs.length ci, .slice rs states.length cs, .slice ro outputs.length co, .slice rn initial.length cn] 28)) := (Below.refl _ _).alloc (Nat.le_refl _) _
        have hz6 : (w5.alloc (.cells #[.slice rc code.length cc, .slice rt types.length ct, .slice rv curves.length cv, .slice rm maps.length cm, .int .i64 cells, .slice ri inputs.length ci, .slice rs states.length cs, .slice ro outputs.length co, .slice rn initial.length cn] 28)).heap.size = w5.heap.size + 1 := World.size_alloc _ _
        change AtV (w5.alloc (.cells #[.slice rc code.length cc, .slice rt types.length ct, .slice rv curves.length cv, .slice rm maps.length cm, .int .i64 cells, .slice ri inputs.length ci, .slice rs states.length cs, .slice ro outputs.length co, .slice rn initial.length cn] 28)) _ _ at AT
        generalize w5.alloc (.cells #[.slice rc code.length cc, .slice rt types.length ct, .slice rv curves.length cv, .slice rm maps.length cm, .int .i64 cells, .slice ri inputs.length ci, .slice rs states.length cs, .slice ro outputs.length co, .slice rn initial.length cn] 28) = w6 at *
        have HPA : Hid (∀ W', KeepA w4a.heap.size w6 W' → IsP W' (⟨rc, cc, code, rt, ct, types, rv, cv, curves, rm, cm, maps, cells, ri, ci, inputs, rs, cs, states, ro, co, outputs, rn, cn, initial⟩ : PV)) := Lib.hid (fun W' hW => HP5.out W' ((⟨hb56.size, fun q _ h => hb56.block q h⟩ : KeepA w4a.heap.size w5 w6).trans hW))
        generalize w5.heap.size = P at *
        have hz6a : P < w6.heap.size := by omega
        have hb16 : Below W1.heap.size W1 w6 := hb15.trans (hb56.mono (by omega))
        have hB6 : Below w.heap.size w w6 := hB5.trans (hb56.mono (by omega))
        obtain ⟨hlt6, f06, f16, ra, ca, bt, bad, c06, c16, hbx6, hbl6, hst⟩ := HR5.out.below hb56 (by omega)
        have HST := Lib.hid hst
        have p0c := (AT 0 _ rfl).1; have p1c := (AT 1 _ rfl).1; have p2c := (AT 2 _ rfl).1; have p3c := (AT 3 _ rfl).1; have p4c := (AT 4 _ rfl).1; have p5c := (AT 5 _ rfl).1; have p6c := (AT 6 _ rfl).1; have p7c := (AT 7 _ rfl).1; have p8c := (AT 8 _ rfl).1
        have HAT := Lib.hid AT
        have hRle : w.heap.size ≤ w4a.heap.size := by omega
        have hnb : ¬ P = w4.heap.size := by omega
        have hnb2 : ¬ w4.heap.size = P := by omega
        clear hst hz6 HR5 HP5 AT HK5 HPR HPI HEQ HSUM HO3
        have hrel6 : ∀ W, Below w6.heap.size w6 W → Below W1.heap.size W1 W := fun W h => hb16.trans (h.mono (by omega))
        cases bad
        · by_cases hb0 : (0 : Int) < bt.length
          · have HD3 := Lib.hid (HMISS.out (by
              have hne : ¬ bt = [] := fun e => by rw [e] at hb0; simp at hb0
              rw [HHIT.out, HST.out]; simp [hne]))
            go_wp2
            go_roundg (4 - (k + 1))
            case measure => omega
            case rel => exact ⟨k + 1, true, rfl, by go_num, by omega, by omega, hb16, HD3⟩
          · obtain rfl : bt = [] := by
              cases bt with
              | nil => rfl
              | cons x l => simp only [List.length_cons] at hb0; omega
            have hlen := HLN.out [] HST.out
            rw [← HQ5.out] at hlen
            have HHIT2 : Hid (hit = (okP pg.1 && decide (sealL pg.1.body = bs))) := Lib.hid (by rw [HHIT.out, HST.out]; simp)
            have HOK := Lib.hid (okP_eq (⟨rc, cc, code, rt, ct, types, rv, cv, curves, rm, cm, maps, cells, ri, ci, inputs, rs, cs, states, ro, co, outputs, rn, cn, initial⟩ : PV))
            rw [HQ5.out] at HOK
            cases hv : validB (⟨rc, cc, code, rt, ct, types, rv, cv, curves, rm, cm, maps, cells, ri, ci, inputs, rs, cs, states, ro, co, outputs, rn, cn, initial⟩ : PV)
            · have HE : Hid (∀ W, Below w6.heap.size w6 W → _) := Lib.hid (fun W (h : Below w6.heap.size w6 W) => iencode_bad (⟨rc, cc, code, rt, ct, types, rv, cv, curves, rm, cm, maps, cells, ri, ci, inputs, rs, cs, states, ro, co, outputs, rn, cn, initial⟩ : PV) W (HPA.out W ⟨h.size, fun q _ hq => h.block q hq⟩) hv)
              have HD3 := Lib.hid (HMISS.out (by rw [HHIT2.out, HOK.out, hv]; rfl))
              simp only [PV.val] at HE
              clear hv
              go_wp2_with (go_at_call 10; refine (HE.out _ (Below.refl _ _)).mono ?_; rintro _ w7 ⟨rfl, hb7⟩)
              go_roundg (4 - (k + 1))
              case measure => omega
              case rel => exact ⟨k + 1, true, rfl, by go_num, by omega, by omega, hrel6 _ hb7, HD3⟩
            · have HE : Hid (∀ W, Below w6.heap.size w6 W → _) := Lib.hid (fun W (h : Below w6.heap.size w6 W) => iencode_ok (⟨rc, cc, code, rt, ct, types, rv, cv, curves, rm, cm, maps, cells, ri, ci, inputs, rs, cs, states, ro, co, outputs, rn, cn, initial⟩ : PV) W (HPA.out W ⟨h.size, fun q _ hq => h.block q hq⟩) hv (by omega))
              have HBYS := Lib.hid (sealL_byte (body_byte (⟨rc, cc, code, rt, ct, types, rv, cv, curves, rm, cm, maps, cells, ri, ci, inputs, rs, cs, states, ro, co, outputs, rn, cn, initial⟩ : PV).p))
              rw [HQ5.out] at HE HBYS
              simp only [PV.val] at HE
              obtain ⟨G, hG⟩ : ∃ G, G = decide (sealL pg.1.body = bs) := ⟨_, rfl⟩
              have HEQ2 : Hid (∀ W r7 c7, Below w.heap.size w W → OwnK .u8 5 W w.heap.size r7 c7 (sealL pg.1.body) → Calls Try.prog 14 #[.slice r7 (sealL pg.1.body).length c7, .slice (some ⟨bX, off, none⟩) n c] W fun e w' => e = .returned (.bool G) ∧ Below W.heap.size W w') := Lib.hid (fun W r7 c7 h ho => by
                have := bEq_any r7 (some ⟨bX, off, none⟩) c7 c (sealL pg.1.body) bs W (ints_b ho HBYS.out) (HX.out.later h)
                rw [← HN.out] at this
                rwa [hG])
              have HHIT3 : Hid (hit = G) := Lib.hid (by rw [HHIT2.out, HOK.out, hv, hG]; rfl)
              clear hG hv HHIT2 HBYS HOK HHIT
              generalize sealL pg.1.body = sl at *
              cases G
              · have HD3 := Lib.hid (HMISS.out HHIT3.out)
                go_wp2_with (first | (go_at_call 10; refine (HE.out _ (Below.refl _ _)).mono ?_; rintro _ w7 ⟨r7, c7, rfl, ho7, hb7⟩; have HO7 := Lib.hid ho7; clear ho7; have hb7s := hb7.size; have hB7 : Below w.heap.size w w7 := hB6.trans (hb7.mono (by omega))) | (go_at_call 14; refine (HEQ2.out _ _ _ hB7 (HO7.out.base (by omega))).mono ?_; rintro _ w8 ⟨rfl, hb8⟩))
                go_roundg (4 - (k + 1))
                case measure => omega
                case rel => exact ⟨k + 1, true, rfl, by go_num, by omega, by omega, hrel6 _ (hb7.trans (hb8.mono (by omega))), HD3⟩
              · have HD3 := Lib.hid (HGOT.out HHIT3.out)
                go_wp2_with (first | (go_at_call 10; refine (HE.out _ (Below.refl _ _)).mono ?_; rintro _ w7 ⟨r7, c7, rfl, ho7, hb7⟩; have HO7 := Lib.hid ho7; clear ho7; have hb7s := hb7.size; have hB7 : Below w.heap.size w w7 := hB6.trans (hb7.mono (by omega))) | (go_at_call 14; refine (HEQ2.out _ _ _ hB7 (HO7.out.base (by omega))).mono ?_; rintro _ w8 ⟨rfl, hb8⟩; have hb8s := hb8.size; have hb68 : Below w6.heap.size w6 w8 := hb7.trans (hb8.mono (by omega)); have AT8 := HAT.out.keep (hb68.block P hz6a); have AR8 := HA1.out.keep ((hrel6 _ hb68).block w.heap.size hz1); have s0c := (AT8 0 _ rfl).1; have s1c := (AT8 1 _ rfl).1; have s2c := (AT8 2 _ rfl).1; have s3c := (AT8 3 _ rfl).1; have s4c := (AT8 4 _ rfl).1; have s5c := (AT8 5 _ rfl).1; have s6c := (AT8 6 _ rfl).1; have s7c := (AT8 7 _ rfl).1; have s8c := (AT8 8 _ rfl).1; have z0c := (AR8 0 _ rfl).1; have z0f := (AR8 0 _ rfl).2; have z1c := (AR8 1 _ rfl).1; have z1f := (AR8 1 _ rfl).2; have z2c := (AR8 2 _ rfl).1; have z2f := (AR8 2 _ rfl).2; have z3c := (AR8 3 _ rfl).1; have z3f := (AR8 3 _ rfl).2; have z4c := (AR8 4 _ rfl).1; have z4f := (AR8 4 _ rfl).2; have z5c := (AR8 5 _ rfl).1; have z5f := (AR8 5 _ rfl).2; have z6c := (AR8 6 _ rfl).1; have z6f := (AR8 6 _ rfl).2; have z7c := (AR8 7 _ rfl).1; have z7f := (AR8 7 _ rfl).2; have z8c := (AR8 8 _ rfl).1; have z8f := (AR8 8 _ rfl).2; clear AT8 AR8; have hB8 : Below w.heap.size w w8 := hB7.trans (hb8.mono (by omega)); have HKP : Hid (KeepA w4a.heap.size w6 w8) := Lib.hid ⟨by omega, fun q _ hq => hb68.block q hq⟩; have hPw8 : P < w8.heap.size := (by omega); have hRw8 : w.heap.size < w8.heap.size := (by omega); have hRP : ¬ w.heap.size = P := (by omega); have hPR : ¬ P = w.heap.size := (by omega)))
                refine bodyPost_ret (by simp [results, Try.results25, go_sem, *]; try rfl) rfl ?_
                rw [HD3.out]
                exact ⟨(⟨rc, cc, code, rt, ct, types, rv, cv, curves, rm, cm, maps, cells, ri, ci, inputs, rs, cs, states, ro, co, outputs, rn, cn, initial⟩ : PV), rfl, HPA.out _ ((((((((((HKP.out).trans (KeepA.set _ hRle 0 _)).trans (KeepA.set _ hRle 1 _)).trans (KeepA.set _ hRle 2 _)).trans (KeepA.set _ hRle 3 _)).trans (KeepA.set _ hRle 4 _)).trans (KeepA.set _ hRle 5 _)).trans (KeepA.set _ hRle 6 _)).trans (KeepA.set _ hRle 7 _)).trans (KeepA.set _ hRle 8 _)), HQ5.out, (((((((((hB8).setCell (p := ⟨w.heap.size, 0, none⟩) (Nat.le_refl _) _).setCell (p := ⟨w.heap.size, 1, none⟩) (Nat.le_refl _) _).setCell (p := ⟨w.heap.size, 2, none⟩) (Nat.le_refl _) _).setCell (p := ⟨w.heap.size, 3, none⟩) (Nat.le_refl _) _).setCell (p := ⟨w.heap.size, 4, none⟩) (Nat.le_refl _) _).setCell (p := ⟨w.heap.size, 5, none⟩) (Nat.le_refl _) _).setCell (p := ⟨w.heap.size, 6, none⟩) (Nat.le_refl _) _).setCell (p := ⟨w.heap.size, 7, none⟩) (Nat.le_refl _) _).setCell (p := ⟨w.heap.size, 8, none⟩) (Nat.le_refl _) _⟩
        · have HD3 := Lib.hid (HMISS.out (by rw [HHIT.out, HST.out]; simp))
          go_wp2
          go_roundg (4 - (k + 1))
          case measure => omega
          case rel => exact ⟨k + 1, true, rfl, by go_num, by omega, by omega, hb16, HD3⟩
    · obtain rfl : k = 4 := by omega
      have ARr := HA1.out.keep (hbr.block w.heap.size hz1)
      have z0c := (ARr 0 _ rfl).1; have z0f := (ARr 0 _ rfl).2; have z1c := (ARr 1 _ rfl).1; have z1f := (ARr 1 _ rfl).2; have z2c := (ARr 2 _ rfl).1; have z2f := (ARr 2 _ rfl).2; have z3c := (ARr 3 _ rfl).1; have z3f := (ARr 3 _ rfl).2; have z4c := (ARr 4 _ rfl).1; have z4f := (ARr 4 _ rfl).2; have z5c := (ARr 5 _ rfl).1; have z5f := (ARr 5 _ rfl).2; have z6c := (ARr 6 _ rfl).1; have z6f := (ARr 6 _ rfl).2; have z7c := (ARr 7 _ rfl).1; have z7f := (ARr 7 _ rfl).2; have z8c := (ARr 8 _ rfl).1; have z8f := (ARr 8 _ rfl).2
      clear ARr
      have hRw : w.heap.size < wr.heap.size := by omega
      cases f
      · go_wp2
        refine bodyPost_ret (by simp [results, Try.results25, go_sem, *]; try rfl) rfl ?_
        rw [HD.out]
        exact ⟨pv0, rfl, isP0 _, rfl, (((((((((hBW).setCell (p := ⟨w.heap.size, 0, none⟩) (Nat.le_refl _) _).setCell (p := ⟨w.heap.size, 1, none⟩) (Nat.le_refl _) _).setCell (p := ⟨w.heap.size, 2, none⟩) (Nat.le_refl _) _).setCell (p := ⟨w.heap.size, 3, none⟩) (Nat.le_refl _) _).setCell (p := ⟨w.heap.size, 4, none⟩) (Nat.le_refl _) _).setCell (p := ⟨w.heap.size, 5, none⟩) (Nat.le_refl _) _).setCell (p := ⟨w.heap.size, 6, none⟩) (Nat.le_refl _) _).setCell (p := ⟨w.heap.size, 7, none⟩) (Nat.le_refl _) _).setCell (p := ⟨w.heap.size, 8, none⟩) (Nat.le_refl _) _⟩
      · go_wp2
        refine bodyPost_ret (by simp [results, Try.results25, go_sem, *]; try rfl) rfl ?_
        rw [HD.out]
        exact ⟨pv0, rfl, isP0 _, rfl, (((((((((hBW).setCell (p := ⟨w.heap.size, 0, none⟩) (Nat.le_refl _) _).setCell (p := ⟨w.heap.size, 1, none⟩) (Nat.le_refl _) _).setCell (p := ⟨w.heap.size, 2, none⟩) (Nat.le_refl _) _).setCell (p := ⟨w.heap.size, 3, none⟩) (Nat.le_refl _) _).setCell (p := ⟨w.heap.size, 4, none⟩) (Nat.le_refl _) _).setCell (p := ⟨w.heap.size, 5, none⟩) (Nat.le_refl _) _).setCell (p := ⟨w.heap.size, 6, none⟩) (Nat.le_refl _) _).setCell (p := ⟨w.heap.size, 7, none⟩) (Nat.le_refl _) _).setCell (p := ⟨w.heap.size, 8, none⟩) (Nat.le_refl _) _⟩
theorem idecode_any (r : Option Addr) (c : Nat) (bs : List Int) (w : World) (hx : IsInts w r c .u8 bs) (hl : bs.length ≤ 100000) : Calls Try.prog 25 #[.slice r bs.length c] w fun e w' => ∃ q : PV, e = .returned (.tuple #[q.val, .int .i64 (decP bs).2]) ∧ IsP w' q ∧ q.p = (decP bs).1 ∧ Below w.heap.size w w' := by
  by_cases h : bs.length < 12 ∨ bs.length % 4 ≠ 0
  · refine (idecode_len r c bs w hl h).mono ?_
    rintro e w' ⟨rfl, hb⟩
    have e : decP bs = (pp0, 3) := by unfold decP; rw [if_pos h]
    rw [e]
    exact ⟨pv0, rfl, isP0 _, rfl, hb⟩
  · exact idecode_go r c bs w hx hl (by omega) (by omega)
end Go.Proofs.Ytfooefiaenlhmaa
namespace Go.Proofs.Ytfooefiaenlhmaa
set_option linter.unusedVariables false
set_option linter.unusedSimpArgs false
open Go.RowKit Go.ChangeShapes Go.WideShapes Go.ChangeAt

set_option maxHeartbeats 1000000 in
theorem rsm_any (r q : Option Addr) (c d : Nat) (xs ys : List Int) (w : World) (hx : IsInts w r c .u8 xs) (hy : IsInts w q d .u8 ys) :
    Calls Try.prog 53 #[.slice r xs.length c, .slice q ys.length d] w fun e w' => e = .returned (.bool (decide (xs = ys))) ∧ Below w.heap.size w w' := by
  by_cases hl : xs.length = ys.length
  · by_cases hne : xs = []
    · subst hne
      obtain rfl : ys = [] := List.length_eq_zero_iff.1 hl.symm
      clear hx hy
      go_enter Try.func53, Try.ntmps53
      go_wp2
      go_rounds 1
      go_ret
      exact ⟨by simp, by (repeat' (first | (with_reducible exact Below.refl _ _) | (with_reducible assumption) | (with_reducible refine below_alloc ?_ _) | (with_reducible refine Below.drew ?_) | (with_reducible refine below_drewN ?_ _) | (with_reducible refine below_step (by assumption) ?_) | (with_reducible refine below_later ?_ _) | (with_reducible refine Below.setCell ?_ ?_ _) | go_size))⟩
    · have hney : ys ≠ [] := fun e => by subst e; exact hne (List.length_eq_zero_iff.1 hl)
      obtain ⟨bX, off, rfl, hb, hc⟩ := hx.cells hne
      obtain ⟨bY, ofy, rfl, hby, hcy⟩ := hy.cells hney
      have hmax := hx.max
      have hle := hx.le
      unfold maxLen at hmax
      have HC := Lib.hid hc
      have HCY := Lib.hid hcy
      have HT : Hid ((∀ t, t < xs.length → xs.getD t 0 = ys.getD t 0) → decide (xs = ys) = true) := Lib.hid (fun h => by simpa using getD_ext hl h)
      have HF : Hid (∀ t, xs.getD t 0 ≠ ys.getD t 0 → decide (xs = ys) = false) := Lib.hid (fun t h => by
        simp only [decide_eq_false_iff_not]
        intro e
        subst e
        exact h rfl)
      clear hc hcy hx hy hne hney
      rw [← hl] at HCY ⊢
      generalize hn : xs.length = n at *
      have HN := Lib.hid hn
      clear hn hl
      generalize decide (xs = ys) = res at *
      go_enter Try.func53, Try.ntmps53
      go_wp2
      go_loopg [5] n (fun kx s5 wr => ∃ (k : Nat) (e : Later w), s5 = .int .i64 k ∧ k ≤ n ∧ n - k ≤ kx ∧ wr = e.w ∧ Hid (∀ t, t < k → xs.getD t 0 = ys.getD t 0))
      case atStart => exact ⟨0, ⟨_, Below.refl _ _⟩, rfl, by omega, by omega, rfl, Lib.hid (fun t ht => absurd ht (Nat.not_lt_zero _))⟩
      case round =>
        obtain ⟨k, e, rfl, hk, hkx, rfl, HQ⟩ := hrel
        have hes := e.h.size
        by_cases hlt : k < n
        · have hc1 : e.w.cell? ⟨bX, off + k, none⟩ = some (.int .u8 (xs.getD k 0)) := by
            rw [e.h.cell (p := ⟨bX, off + k, none⟩) hb]
            exact HC.out k hlt
          have hc2 : e.w.cell? ⟨bY, ofy + k, none⟩ = some (.int .u8 (ys.getD k 0)) := by
            rw [e.h.cell (p := ⟨bY, ofy + k, none⟩) hby]
            exact HCY.out k hlt
          have hk1 : (0 : Int) ≤ (k : Int) := by omega
          have hk2 : (k : Int) < n := by omega
          have HG : Hid (xs.getD k 0 = ys.getD k 0 → ∀ t, t < k + 1 → xs.getD t 0 = ys.getD t 0) := Lib.hid (fun h t ht => by
            by_cases e : t = k
            · subst e; exact h
            · exact HQ.out t (by omega))
          have HB := Lib.hid (HF.out k)
          generalize xs.getD k 0 = x at hc1 HG HB
          generalize ys.getD k 0 = y at hc2 HG HB
          by_cases hxy : x = y
          · have HG2 := Lib.hid (HG.out hxy)
            go_wp2
            go_quiet (fail)
            go_wp2
            go_roundg (n - (k + 1))
            case measure => omega
            case rel => exact ⟨k + 1, ⟨_, below_drewN e.h _⟩, by go_num, by omega, by omega, rfl, HG2⟩
          · have H := Lib.hid (HB.out hxy)
            go_wp2
            go_quiet (fail)
            go_wp2
            go_ret
            exact ⟨by rw [H.out]; first | done | rfl, below_drewN e.h _⟩
        · obtain rfl : k = n := by omega
          have H := Lib.hid (HT.out HQ.out)
          go_wp2
          go_ret
          exact ⟨by rw [H.out]; first | done | rfl, e.h⟩
  · have H := Lib.hid (show decide (xs = ys) = false by simp only [decide_eq_false_iff_not]; intro e; subst e; exact hl rfl)
    have hl2 : ((xs.length : Int) == (ys.length : Int)) = false := by simp; omega
    have hl3 : ¬ (xs.length : Int) = (ys.length : Int) := by omega
    clear hx hy
    go_enter Try.func53, Try.ntmps53
    go_wp2
    go_ret
    exact ⟨by rw [H.out]; first | done | rfl, by (repeat' (first | (with_reducible exact Below.refl _ _) | (with_reducible assumption) | (with_reducible refine below_alloc ?_ _) | (with_reducible refine Below.drew ?_) | (with_reducible refine below_drewN ?_ _) | (with_reducible refine below_step (by assumption) ?_) | (with_reducible refine below_later ?_ _) | (with_reducible refine Below.setCell ?_ ?_ _) | go_size))⟩
end Go.Proofs.Ytfooefiaenlhmaa
namespace Go.Proofs.Ytfooefiaenlhmaa
set_option linter.unusedVariables false
set_option linter.unusedSimpArgs false
open Go.RowKit Go.ChangeShapes Go.WideShapes Go.ChangeAt

theorem IsInts.len {W : World} {r : Option Addr} {c : Nat} {k : IntKind} {xs : List Int} (h : IsInts W r c k xs) : xs.length ≤ 9223372036854775807 := by have := h.le; have := h.max; unfold maxLen at this; omega
theorem dec_len {bs : List Int} (hl : bs.length ≤ 100010) : (decP bs).1.body.length ≤ 10000000000 := by
  by_cases h : (decP bs).2 = 0
  · have e := (dec_ok h).2
    have := sealL_len (decP bs).1.body
    rw [e] at this
    omega
  · rw [dec_no h]
    have : pp0.body.length = 72 := rfl
    omega
theorem same_next {W v v' : World} {A B : Nat} {v0 v1 v2 v3 v4 v5 v6 v7 v8 v9 v10 v11 v12 v13 v14 v15 v16 v17 : Value} (hA : A < W.heap.size) (hB : B < W.heap.size) (h : Below W.heap.size W v ∧ v.cell? ⟨A, 0, none⟩ = some (v0) ∧ v.cell? ⟨A, 1, none⟩ = some (v1) ∧ v.cell? ⟨A, 2, none⟩ = some (v2) ∧ v.cell? ⟨A, 3, none⟩ = some (v3) ∧ v.cell? ⟨A, 4, none⟩ = some (v4) ∧ v.cell? ⟨A, 5, none⟩ = some (v5) ∧ v.cell? ⟨A, 6, none⟩ = some (v6) ∧ v.cell? ⟨A, 7, none⟩ = some (v7) ∧ v.cell? ⟨A, 8, none⟩ = some (v8) ∧ v.cell? ⟨B, 0, none⟩ = some (v9) ∧ v.cell? ⟨B, 1, none⟩ = some (v10) ∧ v.cell? ⟨B, 2, none⟩ = some (v11) ∧ v.cell? ⟨B, 3, none⟩ = some (v12) ∧ v.cell? ⟨B, 4, none⟩ = some (v13) ∧ v.cell? ⟨B, 5, none⟩ = some (v14) ∧ v.cell? ⟨B, 6, none⟩ = some (v15) ∧ v.cell? ⟨B, 7, none⟩ = some (v16) ∧ v.cell? ⟨B, 8, none⟩ = some (v17)) (hv : Below v.heap.size v v') : Below W.heap.size W v' ∧ v'.cell? ⟨A, 0, none⟩ = some (v0) ∧ v'.cell? ⟨A, 1, none⟩ = some (v1) ∧ v'.cell? ⟨A, 2, none⟩ = some (v2) ∧ v'.cell? ⟨A, 3, none⟩ = some (v3) ∧ v'.cell? ⟨A, 4, none⟩ = some (v4) ∧ v'.cell? ⟨A, 5, none⟩ = some (v5) ∧ v'.cell? ⟨A, 6, none⟩ = some (v6) ∧ v'.cell? ⟨A, 7, none⟩ = some (v7) ∧ v'.cell? ⟨A, 8, none⟩ = some (v8) ∧ v'.cell? ⟨B, 0, none⟩ = some (v9) ∧ v'.cell? ⟨B, 1, none⟩ = some (v10) ∧ v'.cell? ⟨B, 2, none⟩ = some (v11) ∧ v'.cell? ⟨B, 3, none⟩ = some (v12) ∧ v'.cell? ⟨B, 4, none⟩ = some (v13) ∧ v'.cell? ⟨B, 5, none⟩ = some (v14) ∧ v'.cell? ⟨B, 6, none⟩ = some (v15) ∧ v'.cell? ⟨B, 7, none⟩ = some (v16) ∧ v'.cell? ⟨B, 8, none⟩ = some (v17) := by
  obtain ⟨h0, h1, h2, h3, h4, h5, h6, h7, h8, h9, h10, h11, h12, h13, h14, h15, h16, h17, h18⟩ := h
  have hz := h0.size
  exact ⟨h0.trans (hv.mono hz), (hv.cell (p := ⟨A, 0, none⟩) (Nat.lt_of_lt_of_le hA hz)).trans h1, (hv.cell (p := ⟨A, 1, none⟩) (Nat.lt_of_lt_of_le hA hz)).trans h2, (hv.cell (p := ⟨A, 2, none⟩) (Nat.lt_of_lt_of_le hA hz)).trans h3, (hv.cell (p := ⟨A, 3, none⟩) (Nat.lt_of_lt_of_le hA hz)).trans h4, (hv.cell (p := ⟨A, 4, none⟩) (Nat.lt_of_lt_of_le hA hz)).trans h5, (hv.cell (p := ⟨A, 5, none⟩) (Nat.lt_of_lt_of_le hA hz)).trans h6, (hv.cell (p := ⟨A, 6, none⟩) (Nat.lt_of_lt_of_le hA hz)).trans h7, (hv.cell (p := ⟨A, 7, none⟩) (Nat.lt_of_lt_of_le hA hz)).trans h8, (hv.cell (p := ⟨A, 8, none⟩) (Nat.lt_of_lt_of_le hA hz)).trans h9, (hv.cell (p := ⟨B, 0, none⟩) (Nat.lt_of_lt_of_le hB hz)).trans h10, (hv.cell (p := ⟨B, 1, none⟩) (Nat.lt_of_lt_of_le hB hz)).trans h11, (hv.cell (p := ⟨B, 2, none⟩) (Nat.lt_of_lt_of_le hB hz)).trans h12, (hv.cell (p := ⟨B, 3, none⟩) (Nat.lt_of_lt_of_le hB hz)).trans h13, (hv.cell (p := ⟨B, 4, none⟩) (Nat.lt_of_lt_of_le hB hz)).trans h14, (hv.cell (p := ⟨B, 5, none⟩) (Nat.lt_of_lt_of_le hB hz)).trans h15, (hv.cell (p := ⟨B, 6, none⟩) (Nat.lt_of_lt_of_le hB hz)).trans h16, (hv.cell (p := ⟨B, 7, none⟩) (Nat.lt_of_lt_of_le hB hz)).trans h17, (hv.cell (p := ⟨B, 8, none⟩) (Nat.lt_of_lt_of_le hB hz)).trans h18⟩
set_option maxRecDepth 100000 in
set_option maxHeartbeats 4000000 in
theorem rsame_any (p q : PV) (w : World) (hp : IsP w p) (hq : IsP w q) (lp : p.p.body.length ≤ 10000000000) (lq : q.p.body.length ≤ 10000000000) : Calls Try.prog 26 #[p.val, q.val] w fun e w' => e = .returned (.bool (decide (p.p.body = q.p.body))) ∧ Below w.heap.size w w' := by
  have HBP := Lib.hid (fun W (h : Below w.heap.size w W) => rbody_any p W (hp.later h) lp)
  have HBQ := Lib.hid (fun W (h : Below w.heap.size w W) => rbody_any q W (hq.later h) lq)
  have HYP := Lib.hid (body_byte p.p)
  have HYQ := Lib.hid (body_byte q.p)
  clear hp hq
  obtain ⟨rc, cc, code, rt, ct, types, rv, cv, curves, rm, cm, maps, cells, ri, ci, inputs, rs, cs, states, ro, co, outputs, rn, cn, initial⟩ := p
  obtain ⟨rc2, cc2, code2, rt2, ct2, types2, rv2, cv2, curves2, rm2, cm2, maps2, cells2, ri2, ci2, inputs2, rs2, cs2, states2, ro2, co2, outputs2, rn2, cn2, initial2⟩ := q
  simp only [PV.val] at HBP HBQ ⊢
  generalize PP.body (PV.p ⟨rc, cc, code, rt, ct, types, rv, cv, curves, rm, cm, maps, cells, ri, ci, inputs, rs, cs, states, ro, co, outputs, rn, cn, initial⟩) = x at *
  generalize PP.body (PV.p ⟨rc2, cc2, code2, rt2, ct2, types2, rv2, cv2, curves2, rm2, cm2, maps2, cells2, ri2, ci2, inputs2, rs2, cs2, states2, ro2, co2, outputs2, rn2, cn2, initial2⟩) = y at *
  go_enter Try.func26, Try.ntmps26
  go_wp2
  have hB0 : Below w.heap.size w ((w.alloc (.cells #[.slice rc code.length cc, .slice rt types.length ct, .slice rv curves.length cv, .slice rm maps.length cm, .int .i64 cells, .slice ri inputs.length ci, .slice rs states.length cs, .slice ro outputs.length co, .slice rn initial.length cn] 28)).alloc (.cells #[.slice rc2 code2.length cc2, .slice rt2 types2.length ct2, .slice rv2 curves2.length cv2, .slice rm2 maps2.length cm2, .int .i64 cells2, .slice ri2 inputs2.length ci2, .slice rs2 states2.length cs2, .slice ro2 outputs2.length co2, .slice rn2 initial2.length cn2] 28)) := by (repeat' (first | (with_reducible exact Below.refl _ _) | (with_reducible assumption) | (with_reducible refine below_alloc ?_ _) | (with_reducible refine Below.drew ?_) | (with_reducible refine below_drewN ?_ _) | (with_reducible refine below_step (by assumption) ?_) | (with_reducible refine below_later ?_ _) | (with_reducible refine Below.setCell ?_ ?_ _) | go_size))
  have hz : ((w.alloc (.cells #[.slice rc code.length cc, .slice rt types.length ct, .slice rv curves.length cv, .slice rm maps.length cm, .int .i64 cells, .slice ri inputs.length ci, .slice rs states.length cs, .slice ro outputs.length co, .slice rn initial.length cn] 28)).alloc (.cells #[.slice rc2 code2.length cc2, .slice rt2 types2.length ct2, .slice rv2 curves2.length cv2, .slice rm2 maps2.length cm2, .int .i64 cells2, .slice ri2 inputs2.length ci2, .slice rs2 states2.length cs2, .slice ro2 outputs2.length co2, .slice rn2 initial2.length cn2] 28)).heap.size = w.heap.size + 2 := by simp only [World.size_alloc]
  have AP : AtV ((w.alloc (.cells #[.slice rc code.length cc, .slice rt types.length ct, .slice rv curves.length cv, .slice rm maps.length cm, .int .i64 cells, .slice ri inputs.length ci, .slice rs states.length cs, .slice ro outputs.length co, .slice rn initial.length cn] 28)).alloc (.cells #[.slice rc2 code2.length cc2, .slice rt2 types2.length ct2, .slice rv2 curves2.length cv2, .slice rm2 maps2.length cm2, .int .i64 cells2, .slice ri2 inputs2.length ci2, .slice rs2 states2.length cs2, .slice ro2 outputs2.length co2, .slice rn2 initial2.length cn2] 28)) w.heap.size [.slice rc code.length cc, .slice rt types.length ct, .slice rv curves.length cv, .slice rm maps.length cm, .int .i64 cells, .slice ri inputs.length ci, .slice rs states.length cs, .slice ro outputs.length co, .slice rn initial.length cn] := (AtV.new w [.slice rc code.length cc, .slice rt types.length ct, .slice rv curves.length cv, .slice rm maps.length cm, .int .i64 cells, .slice ri inputs.length ci, .slice rs states.length cs, .slice ro outputs.length co, .slice rn initial.length cn] 28).keep (Below.heap_alloc _ _ _ (by rw [World.size_alloc]; omega))
  have AQ : AtV ((w.alloc (.cells #[.slice rc code.length cc, .slice rt types.length ct, .slice rv curves.length cv, .slice rm maps.length cm, .int .i64 cells, .slice ri inputs.length ci, .slice rs states.length cs, .slice ro outputs.length co, .slice rn initial.length cn] 28)).alloc (.cells #[.slice rc2 code2.length cc2, .slice rt2 types2.length ct2, .slice rv2 curves2.length cv2, .slice rm2 maps2.length cm2, .int .i64 cells2, .slice ri2 inputs2.length ci2, .slice rs2 states2.length cs2, .slice ro2 outputs2.length co2, .slice rn2 initial2.length cn2] 28)) (w.heap.size + 1) [.slice rc2 code2.length cc2, .slice rt2 types2.length ct2, .slice rv2 curves2.length cv2, .slice rm2 maps2.length cm2, .int .i64 cells2, .slice ri2 inputs2.length ci2, .slice rs2 states2.length cs2, .slice ro2 outputs2.length co2, .slice rn2 initial2.length cn2] := by
    have := AtV.new (w.alloc (.cells #[.slice rc code.length cc, .slice rt types.length ct, .slice rv curves.length cv, .slice rm maps.length cm, .int .i64 cells, .slice ri inputs.length ci, .slice rs states.length cs, .slice ro outputs.length co, .slice rn initial.length cn] 28)) [.slice rc2 code2.length cc2, .slice rt2 types2.length ct2, .slice rv2 curves2.length cv2, .slice rm2 maps2.length cm2, .int .i64 cells2, .slice ri2 inputs2.length ci2, .slice rs2 states2.length cs2, .slice ro2 outputs2.length co2, .slice rn2 initial2.length cn2] 28
    rwa [World.size_alloc] at this
  generalize (w.alloc (.cells #[.slice rc code.length cc, .slice rt types.length ct, .slice rv curves.length cv, .slice rm maps.length cm, .int .i64 cells, .slice ri inputs.length ci, .slice rs states.length cs, .slice ro outputs.length co, .slice rn initial.length cn] 28)).alloc (.cells #[.slice rc2 code2.length cc2, .slice rt2 types2.length ct2, .slice rv2 curves2.length cv2, .slice rm2 maps2.length cm2, .int .i64 cells2, .slice ri2 inputs2.length ci2, .slice rs2 states2.length cs2, .slice ro2 outputs2.length co2, .slice rn2 initial2.length cn2] 28) = W2 at *
  have hA : w.heap.size < W2.heap.size := by omega
  have hB : w.heap.size + 1 < W2.heap.size := by omega
  have p0c := (AP 0 _ rfl).1
  have p1c := (AP 1 _ rfl).1
  have p2c := (AP 2 _ rfl).1
  have p3c := (AP 3 _ rfl).1
  have p4c := (AP 4 _ rfl).1
  have p5c := (AP 5 _ rfl).1
  have p6c := (AP 6 _ rfl).1
  have p7c := (AP 7 _ rfl).1
  have p8c := (AP 8 _ rfl).1
  have q0c := (AQ 0 _ rfl).1
  have q1c := (AQ 1 _ rfl).1
  have q2c := (AQ 2 _ rfl).1
  have q3c := (AQ 3 _ rfl).1
  have q4c := (AQ 4 _ rfl).1
  have q5c := (AQ 5 _ rfl).1
  have q6c := (AQ 6 _ rfl).1
  have q7c := (AQ 7 _ rfl).1
  have q8c := (AQ 8 _ rfl).1
  clear AP AQ hz
  go_region_held3 (fun w' => Below W2.heap.size W2 w' ∧ w'.cell? ⟨w.heap.size, 0, none⟩ = some (.slice rc code.length cc) ∧ w'.cell? ⟨w.heap.size, 1, none⟩ = some (.slice rt types.length ct) ∧ w'.cell? ⟨w.heap.size, 2, none⟩ = some (.slice rv curves.length cv) ∧ w'.cell? ⟨w.heap.size, 3, none⟩ = some (.slice rm maps.length cm) ∧ w'.cell? ⟨w.heap.size, 4, none⟩ = some (.int .i64 cells) ∧ w'.cell? ⟨w.heap.size, 5, none⟩ = some (.slice ri inputs.length ci) ∧ w'.cell? ⟨w.heap.size, 6, none⟩ = some (.slice rs states.length cs) ∧ w'.cell? ⟨w.heap.size, 7, none⟩ = some (.slice ro outputs.length co) ∧ w'.cell? ⟨w.heap.size, 8, none⟩ = some (.slice rn initial.length cn) ∧ w'.cell? ⟨w.heap.size + 1, 0, none⟩ = some (.slice rc2 code2.length cc2) ∧ w'.cell? ⟨w.heap.size + 1, 1, none⟩ = some (.slice rt2 types2.length ct2) ∧ w'.cell? ⟨w.heap.size + 1, 2, none⟩ = some (.slice rv2 curves2.length cv2) ∧ w'.cell? ⟨w.heap.size + 1, 3, none⟩ = some (.slice rm2 maps2.length cm2) ∧ w'.cell? ⟨w.heap.size + 1, 4, none⟩ = some (.int .i64 cells2) ∧ w'.cell? ⟨w.heap.size + 1, 5, none⟩ = some (.slice ri2 inputs2.length ci2) ∧ w'.cell? ⟨w.heap.size + 1, 6, none⟩ = some (.slice rs2 states2.length cs2) ∧ w'.cell? ⟨w.heap.size + 1, 7, none⟩ = some (.slice ro2 outputs2.length co2) ∧ w'.cell? ⟨w.heap.size + 1, 8, none⟩ = some (.slice rn2 initial2.length cn2)) (first | exact ⟨(Below.refl _ _).drew, p0c, p1c, p2c, p3c, p4c, p5c, p6c, p7c, p8c, q0c, q1c, q2c, q3c, q4c, q5c, q6c, q7c, q8c⟩ | assumption | go_keep) (first | (go_at_call 22; with_reducible (refine (HBP.out _ ?hq).mono ?_); (case hq => exact hB0.trans ((by assumption : Below W2.heap.size W2 _ ∧ _).1.mono hB0.size)); rintro _ w3 ⟨r3, c3, rfl, ho3, hb3⟩; have HO3 := Lib.hid (ints_b ho3 HYP.out); clear ho3; have hS3 := same_next hA hB (by assumption) hb3) | (go_at_call 22; with_reducible (refine (HBQ.out _ ?hq).mono ?_); (case hq => exact hB0.trans ((by assumption : Below W2.heap.size W2 _ ∧ _).1.mono hB0.size)); rintro _ w4 ⟨r4, c4, rfl, ho4, hb4⟩; have HO4 := Lib.hid (ints_b ho4 HYQ.out); clear ho4; have hS4 := same_next hA hB (by assumption) hb4) | (go_at_call 53; refine (rsm_any r3 r4 c3 c4 x y _ (by first | exact HO3.out | exact HO3.out.later hb4) (by first | exact HO4.out | exact HO4.out.later hb3)).mono ?_; rintro _ w5 ⟨rfl, hb5⟩; have hS5 := same_next hA hB (by assumption) hb5))
  go_wp2
  go_ret
  exact ⟨by rfl, hB0.trans ((by assumption : Below W2.heap.size W2 _ ∧ _).1.mono hB0.size)⟩
set_option maxRecDepth 100000 in
theorem rnone_any (p : PV) (w : World) (hp : IsP w p) (lp : p.p.body.length ≤ 10000000000) : Calls Try.prog 27 #[p.val] w fun e w' => e = .returned (.bool (decide (p.p.body = pp0.body))) ∧ Below w.heap.size w w' := by
  have HS : Hid (∀ W, Below w.heap.size w W → Calls Try.prog 26 #[p.val, pv0.val] W fun e w' => e = .returned (.bool (decide (p.p.body = pp0.body))) ∧ Below W.heap.size W w') := Lib.hid (fun W h => rsame_any p pv0 W (hp.later h) (isP0 W) lp (by have : pv0.p.body.length = 72 := rfl; omega))
  clear hp lp
  obtain ⟨rc, cc, code, rt, ct, types, rv, cv, curves, rm, cm, maps, cells, ri, ci, inputs, rs, cs, states, ro, co, outputs, rn, cn, initial⟩ := p
  simp only [PV.val] at HS ⊢
  generalize decide (PP.body (PV.p ⟨rc, cc, code, rt, ct, types, rv, cv, curves, rm, cm, maps, cells, ri, ci, inputs, rs, cs, states, ro, co, outputs, rn, cn, initial⟩) = pp0.body) = x at *
  go_enter Try.func27, Try.ntmps27
  go_wp2_with (go_at_call 26; refine (HS.out _ (by (repeat' (first | (with_reducible exact Below.refl _ _) | (with_reducible assumption) | (with_reducible refine below_alloc ?_ _) | (with_reducible refine Below.drew ?_) | (with_reducible refine below_drewN ?_ _) | (with_reducible refine below_step (by assumption) ?_) | (with_reducible refine below_later ?_ _) | (with_reducible refine Below.setCell ?_ ?_ _) | go_size)))).mono ?_; rintro _ w1 ⟨rfl, hb1⟩)
  go_ret
  exact ⟨rfl, by (repeat' (first | (with_reducible exact Below.refl _ _) | (with_reducible assumption) | (with_reducible refine below_alloc ?_ _) | (with_reducible refine Below.drew ?_) | (with_reducible refine below_drewN ?_ _) | (with_reducible refine below_step (by assumption) ?_) | (with_reducible refine below_later ?_ _) | (with_reducible refine Below.setCell ?_ ?_ _) | go_size))⟩
end Go.Proofs.Ytfooefiaenlhmaa
namespace Go.Proofs.Ytfooefiaenlhmaa
set_option linter.unusedVariables false
set_option linter.unusedSimpArgs false
open Go.RowKit Go.ChangeShapes Go.WideShapes Go.ChangeAt

theorem cloneB_any (r : Option Addr) (cap : Nat) (xs : List Int) (w : World) (hx : IsInts w r cap .u8 xs) (hl : xs.length ≤ 1099511627776) (hne : xs ≠ []) : Calls Try.prog 24 #[.slice r xs.length cap] w fun e w' => ∃ r' cap', e = .returned (.slice r' xs.length cap') ∧ OwnK .u8 5 w' w.heap.size r' cap' xs ∧ Below w.heap.size w w' := by
  obtain ⟨b, off, rfl, _, _⟩ := hx.cells hne
  have HX : Hid (∀ w', Below w.heap.size w w' → IsInts w' (some ⟨b, off, none⟩) cap .u8 xs) := Lib.hid (fun _ h => hx.later h)
  clear hx
  have HE : Hid (OwnK .u8 5 (w.alloc (.cells #[] 5)) w.heap.size (some ⟨w.heap.size, 0, none⟩) 0 []) := Lib.hid ⟨by simp, Or.inr ⟨w.heap.size, 0, #[], rfl, Nat.le_refl _, heap_alloc_new w _, by simp, by simp [maxLen], by simp, by simp⟩⟩
  have hq : ∀ w, (binOp .eql 29 (.slice (some ⟨b, off, none⟩) xs.length cap) (.slice none 0 0)).run Try.prog w = .ok (.bool false) w := fun w => run_eqlN Try.underlying29 _ _ _ w
  go_enter Try.func24, Try.ntmps24
  go_wp2_with (at_builtin; refine wpList_append_ks Try.underlying29 infoU8 rfl (by omega) (by rfl) _ _ (by rfl) w.heap.size (some ⟨w.heap.size, 0, none⟩) (some ⟨b, off, none⟩) 0 cap [] xs (by rfl) (by rfl) HE.out (HX.out _ (by (repeat' (first | (with_reducible exact Below.refl _ _) | (with_reducible assumption) | (with_reducible refine below_alloc ?_ _) | (with_reducible refine Below.drew ?_) | (with_reducible refine below_drewN ?_ _) | (with_reducible refine below_step (by assumption) ?_) | (with_reducible refine below_later ?_ _) | (with_reducible refine Below.setCell ?_ ?_ _) | go_size)))) (by simpa using hl) (by go_size) ?_; intro r' cap' w1 hown1 hbw1; have HO1 := Lib.hid hown1; clear hown1)
  go_ret
  have hO := HO1.out
  rw [List.nil_append] at hO
  exact ⟨r', cap', rfl, hO, Below.trans ((Below.refl _ w).alloc (Nat.le_refl _) _) hbw1⟩
end Go.Proofs.Ytfooefiaenlhmaa
namespace Go.Proofs.Ytfooefiaenlhmaa
set_option linter.unusedVariables false
set_option linter.unusedSimpArgs false
open Go.RowKit Go.ChangeShapes Go.WideShapes Go.ChangeAt

def idxR (p : List Int → Bool) (Z : List (List Int)) : Int := if Z.any p = true then (Z.findIdx p : Nat) else -1
theorem idxR_hit {p : List Int → Bool} {Z : List (List Int)} {k : Nat} (hk : k < Z.length) (h0 : ∀ t, t < k → p (Z.getD t []) = false) (h1 : p (Z.getD k []) = true) : idxR p Z = k := by
  have hg : ∀ t (h : t < Z.length), Z.getD t [] = Z[t] := fun t h => by simp [List.getD, List.getElem?_eq_getElem h]
  have hf : Z.findIdx p = k := by
    rw [List.findIdx_eq hk]
    refine ⟨by rw [← hg k hk]; exact h1, fun j hj => ?_⟩
    rw [← hg j (by omega)]
    exact h0 j hj
  have ha : Z.any p = true := List.any_eq_true.2 ⟨Z[k], List.getElem_mem hk, by rw [← hg k hk]; exact h1⟩
  simp [idxR, ha, hf]
theorem idxR_miss {p : List Int → Bool} {Z : List (List Int)} (h0 : ∀ t, t < Z.length → p (Z.getD t []) = false) : idxR p Z = -1 := by
  have ha : Z.any p = false := by
    rw [List.any_eq_false]
    intro x hx
    obtain ⟨t, ht, rfl⟩ := List.getElem_of_mem hx
    have := h0 t ht
    simpa [List.getD, List.getElem?_eq_getElem ht] using this
  simp [idxR, ha]
theorem idxR_any (p : List Int → Bool) (Z : List (List Int)) : decide (0 ≤ idxR p Z) = Z.any p := by
  unfold idxR
  split
  · rename_i h; rw [h]; simp
  · rename_i h; simp at h ⊢; simpa using h

set_option maxHeartbeats 1000000 in
theorem indexFuncR_any (g : Nat) (cb : Array Value) (r : Option Addr) (cap : Nat) (Z : List (List Int)) (p : List Int → Bool) (w : World) (eg : ∀ args w, (callFunc g args).run Try.prog w = .ok (.enter g args) w) (hZ : IsRows w r cap Z) (hne : Z ≠ [])
    (hf : ∀ (e : Later w) (k : Nat) (ri : Option Addr) (ci : Nat), k < Z.length → IsInts e.w ri ci .i64 (Z.getD k []) → Calls Try.prog g (#[.slice ri (Z.getD k []).length ci] ++ cb) e.w fun a w' => a = .returned (.bool (p (Z.getD k []))) ∧ Below e.w.heap.size e.w w') :
    Calls Try.prog 56 #[.slice r Z.length cap, .func (.func g) #[] cb] w fun e w' => e = .returned (.int .i64 (idxR p Z)) ∧ Below w.heap.size w w' := by
  have HF := Lib.hid hf
  have hmax := hZ.max
  have hle := hZ.le
  unfold maxLen at hmax
  obtain ⟨b, off, rfl, hb, hc⟩ := hZ.cells hne
  have HC := Lib.hid hc
  clear hc hf hZ hne
  generalize hn : Z.length = n at *
  have HN := Lib.hid hn
  clear hn
  go_enter Try.func56, Try.ntmps56
  go_wp2
  go_loopg [8] n (fun kx s8 wr => ∃ (k : Nat) (e : Later w), s8 = .int .i64 k ∧ k ≤ n ∧ n - k ≤ kx ∧ wr = e.w ∧ Hid (∀ t, t < k → p (Z.getD t []) = false))
  case atStart => exact ⟨0, ⟨w, Below.refl _ _⟩, rfl, Nat.zero_le _, by omega, rfl, Lib.hid (fun t h => absurd h (Nat.not_lt_zero _))⟩
  case round =>
    obtain ⟨k, e, rfl, hk, hkx, rfl, HP⟩ := hrel
    have hes := e.h.size
    by_cases hlt : k < n
    · obtain ⟨ri, ci, g1, g2⟩ := HC.out k hlt
      have hcell : e.w.cell? ⟨b, off + k, none⟩ = some (.slice ri (Z.getD k []).length ci) := by
        rw [Later.cell e hb]
        exact g1
      have hcall := HF.out e k ri ci hlt (g2.later e.h)
      have HHIT : Hid (p (Z.getD k []) = true → idxR p Z = k) := Lib.hid (fun h => idxR_hit (by have := HN.out; omega) HP.out h)
      have HMISS : Hid (p (Z.getD k []) = false → ∀ t, t < k + 1 → p (Z.getD t []) = false) := Lib.hid (fun h t ht => by
        by_cases e : t = k
        · subst e; exact h
        · exact HP.out t (by omega))
      clear g1 g2
      generalize Z.getD k [] = row at *
      cases hp : p row <;> rw [hp] at hcall
      · have HQ := Lib.hid (HMISS.out hp)
        clear hp
        go_wp2_with (go_at_fn g; refine hcall.mono ?_; rintro a w' ⟨rfl, hb2⟩)
        go_roundg (n - (k + 1))
        case measure => omega
        case rel =>
          obtain ⟨e', rfl⟩ := e.next hb2
          exact ⟨k + 1, e', by go_num, by omega, Nat.le_refl _, rfl, HQ⟩
      · have HQ := Lib.hid (HHIT.out hp)
        clear hp
        go_wp2_with (go_at_fn g; refine hcall.mono ?_; rintro a w' ⟨rfl, hb2⟩)
        go_ret
        exact ⟨by rw [HQ.out]; first | done | rfl, by obtain ⟨e', rfl⟩ := e.next hb2; exact e'.h⟩
    · obtain rfl : k = n := by omega
      have HQ := Lib.hid (idxR_miss (p := p) (Z := Z) (fun t ht => HP.out t (by have := HN.out; omega)))
      go_wp2
      go_ret
      exact ⟨by rw [HQ.out]; first | done | rfl, e.h⟩

theorem containsFuncR_any (g : Nat) (cb : Array Value) (r : Option Addr) (cap : Nat) (Z : List (List Int)) (p : List Int → Bool) (w : World) (eg : ∀ args w, (callFunc g args).run Try.prog w = .ok (.enter g args) w) (hZ : IsRows w r cap Z) (hne : Z ≠ [])
    (hf : ∀ (e : Later w) (k : Nat) (ri : Option Addr) (ci : Nat), k < Z.length → IsInts e.w ri ci .i64 (Z.getD k []) → Calls Try.prog g (#[.slice ri (Z.getD k []).length ci] ++ cb) e.w fun a w' => a = .returned (.bool (p (Z.getD k []))) ∧ Below e.w.heap.size e.w w') :
    Calls Try.prog 32 #[.slice r Z.length cap, .func (.func g) #[] cb] w fun e w' => e = .returned (.bool (Z.any p)) ∧ Below w.heap.size w w' := by
  have HI := Lib.hid (indexFuncR_any g cb r cap Z p w eg hZ hne hf)
  clear hf hZ
  go_enter Try.func32, Try.ntmps32
  go_wp2_with ((go_at_call 56; refine (HI.out).mono ?_; rintro e hb1w ⟨rfl, hb1⟩; obtain ⟨hb1c, hb1f⟩ := bcell hb1; have hb1s := hb1.size; (try simp only [World.size_alloc] at hb1s); (try (have : w.heap.size < hb1w.heap.size := by omega)); (try (have : w.heap.size + 1 < hb1w.heap.size := by omega)); (try (have : w.heap.size + 1 + 1 < hb1w.heap.size := by omega)); (try (have : w.heap.size + 1 + 1 + 1 < hb1w.heap.size := by omega)); (try (have : bX < hb1w.heap.size := by omega)); (try (have : bY < hb1w.heap.size := by omega)); (try (have : bZ < hb1w.heap.size := by omega))))
  go_ret
  exact ⟨ret_bool (idxR_any p Z), by (repeat' (first | (with_reducible exact Below.refl _ _) | (with_reducible assumption) | (with_reducible refine below_alloc ?_ _) | (with_reducible refine Below.drew ?_) | (with_reducible refine below_drewN ?_ _) | (with_reducible refine below_step (by assumption) ?_) | (with_reducible refine below_later ?_ _) | (with_reducible refine Below.setCell ?_ ?_ _) | go_size))⟩
end Go.Proofs.Ytfooefiaenlhmaa
namespace Go.Proofs.Ytfooefiaenlhmaa
set_option linter.unusedVariables false
set_option linter.unusedSimpArgs false
open Go.RowKit Go.ChangeShapes Go.WideShapes Go.ChangeAt

theorem mx2 (a b : Int) : ∃ m : Int, (∀ w, (Builtin.max_ #[3, 3] 3 #[.int .i64 a, .int .i64 b]).run Try.prog w = .ok (.int .i64 m) w) ∧ m = max a b := by
  refine ⟨_, fun _ => rfl, ?_⟩
  split <;> omega
theorem mx3 (a b c : Int) : ∃ m : Int, (∀ w, (Builtin.max_ #[3, 3, 3] 3 #[.int .i64 a, .int .i64 b, .int .i64 c]).run Try.prog w = .ok (.int .i64 m) w) ∧ m = max a (max b c) := by
  refine ⟨_, fun _ => rfl, ?_⟩
  (repeat' split) <;> omega
theorem mx4 (a b c d : Int) : ∃ m : Int, (∀ w, (Builtin.max_ #[3, 3, 3, 3] 3 #[.int .i64 a, .int .i64 b, .int .i64 c, .int .i64 d]).run Try.prog w = .ok (.int .i64 m) w) ∧ m = max a (max b (max c d)) := by
  refine ⟨_, fun _ => rfl, ?_⟩
  (repeat' split) <;> omega
def gC (c : Cv) : Bool := decide ((10 : Int) < max (c.X.length : Int) c.Y.length)
def gR (l : List Int) : Bool := decide ((10 : Int) < l.length)
def gM (m : Mp) : Bool := decide ((10 : Int) < max (m.X.length : Int) (max (m.Y.length : Int) m.Z.length)) || m.Z.any gR
def szG (p : PV) : Bool := decide ((60 : Int) < p.code.length) || (decide ((20 : Int) < p.types.length) || (decide ((20 : Int) < p.curves.length) || (decide ((20 : Int) < p.maps.length) || decide ((60 : Int) < max (p.inputs.length : Int) (max (p.states.length : Int) (max (p.outputs.length : Int) p.initial.length))))))
/-- Whether a program exceeds the limits. -/
def greatB (p : PV) : Bool := szG p || (p.curves.any gC || p.maps.any gM)
set_option maxRecDepth 100000 in
set_option maxHeartbeats 2000000 in
theorem g1_any (c : Cv) (w : World) : Calls Try.prog 29 #[.agg #[.slice c.rx c.X.length c.cx, .slice c.ry c.Y.length c.cy]] w fun e w' => e = .returned (.bool (gC c)) ∧ Below w.heap.size w w' := by
  obtain ⟨rx, cx, X, ry, cy, Y⟩ := c
  obtain ⟨m, HM, hm⟩ := mx2 (X.length : Int) (Y.length : Int)
  simp only [gC]
  rw [← hm]
  clear hm
  go_enter Try.func29, Try.ntmps29
  go_wp2
  go_ret
  exact ⟨by first | rfl | (simp; done), by (repeat' (first | (with_reducible exact Below.refl _ _) | (with_reducible assumption) | (with_reducible refine below_alloc ?_ _) | (with_reducible refine Below.drew ?_) | (with_reducible refine below_drewN ?_ _) | (with_reducible refine below_step (by assumption) ?_) | (with_reducible refine below_later ?_ _) | (with_reducible refine Below.setCell ?_ ?_ _) | go_size))⟩
set_option maxRecDepth 100000 in
theorem g3_any (r : Option Addr) (l : List Int) (c : Nat) (w : World) : Calls Try.prog 33 #[.slice r l.length c] w fun e w' => e = .returned (.bool (gR l)) ∧ Below w.heap.size w w' := by
  simp only [gR]
  go_enter Try.func33, Try.ntmps33
  go_wp2
  go_ret
  exact ⟨by first | rfl | (simp; done), by (repeat' (first | (with_reducible exact Below.refl _ _) | (with_reducible assumption) | (with_reducible refine below_alloc ?_ _) | (with_reducible refine Below.drew ?_) | (with_reducible refine below_drewN ?_ _) | (with_reducible refine below_step (by assumption) ?_) | (with_reducible refine below_later ?_ _) | (with_reducible refine Below.setCell ?_ ?_ _) | go_size))⟩
theorem idx0R (r : Option Addr) (c : Nat) (v : Value) (w : World) : Calls Try.prog 56 #[.slice r 0 c, v] w fun e w' => e = .returned (.int .i64 (-1)) ∧ Below w.heap.size w w' := by
  go_enter Try.func56, Try.ntmps56
  go_wp2
  go_loopg [8] 0 (fun kx s8 wr => s8 = .int .i64 0 ∧ wr = w)
  case atStart => exact ⟨rfl, rfl⟩
  case round =>
    obtain ⟨rfl, rfl⟩ := hrel
    go_wp2
    go_ret
    exact ⟨rfl, by (repeat' (first | (with_reducible exact Below.refl _ _) | (with_reducible assumption) | (with_reducible refine below_alloc ?_ _) | (with_reducible refine Below.drew ?_) | (with_reducible refine below_drewN ?_ _) | (with_reducible refine below_step (by assumption) ?_) | (with_reducible refine below_later ?_ _) | (with_reducible refine Below.setCell ?_ ?_ _) | go_size))⟩
theorem has0R (r : Option Addr) (c : Nat) (v : Value) (w : World) : Calls Try.prog 32 #[.slice r 0 c, v] w fun e w' => e = .returned (.bool false) ∧ Below w.heap.size w w' := by
  go_enter Try.func32, Try.ntmps32
  go_wp2_with ((go_at_call 56; refine (idx0R _ _ _ _).mono ?_; rintro e hb1w ⟨rfl, hb1⟩; obtain ⟨hb1c, hb1f⟩ := bcell hb1; have hb1s := hb1.size; (try simp only [World.size_alloc] at hb1s); (try (have : w.heap.size < hb1w.heap.size := by omega)); (try (have : w.heap.size + 1 < hb1w.heap.size := by omega)); (try (have : w.heap.size + 1 + 1 < hb1w.heap.size := by omega)); (try (have : w.heap.size + 1 + 1 + 1 < hb1w.heap.size := by omega)); (try (have : bX < hb1w.heap.size := by omega)); (try (have : bY < hb1w.heap.size := by omega)); (try (have : bZ < hb1w.heap.size := by omega))))
  go_ret
  exact ⟨by first | rfl | (simp; done), by (repeat' (first | (with_reducible exact Below.refl _ _) | (with_reducible assumption) | (with_reducible refine below_alloc ?_ _) | (with_reducible refine Below.drew ?_) | (with_reducible refine below_drewN ?_ _) | (with_reducible refine below_step (by assumption) ?_) | (with_reducible refine below_later ?_ _) | (with_reducible refine Below.setCell ?_ ?_ _) | go_size))⟩
theorem hasR_g (r : Option Addr) (c : Nat) (Z : List (List Int)) (w : World) (hZ : IsRows w r c Z) : Calls Try.prog 32 #[.slice r Z.length c, .func (.func 33) #[] #[]] w fun e w' => e = .returned (.bool (Z.any gR)) ∧ Below w.heap.size w w' := by
  by_cases hne : Z = []
  · subst hne
    exact has0R _ _ _ _
  · exact containsFuncR_any _ _ r c Z gR w (enters_of Try.func33 (by kernel_rfl) rfl) hZ hne (fun e k ri ci hk hI => g3_any ri _ ci e.w)
set_option maxRecDepth 100000 in
set_option maxHeartbeats 2000000 in
theorem g2_any (m : Mp) (w : World) (hm : m.ok w) : Calls Try.prog 31 #[.agg #[.slice m.rx m.X.length m.cx, .slice m.ry m.Y.length m.cy, .slice m.rz m.Z.length m.cz]] w fun e w' => e = .returned (.bool (gM m)) ∧ Below w.heap.size w w' := by
  obtain ⟨rx, cx, X, ry, cy, Y, rz, cz, Z⟩ := m
  have hZ := hm.2.2
  clear hm
  simp only at hZ
  have HZ := Lib.hid (fun W (h : Below w.heap.size w W) => hasR_g rz cz Z W (hZ.later h))
  clear hZ
  obtain ⟨m, HM, hm⟩ := mx3 (X.length : Int) (Y.length : Int) (Z.length : Int)
  simp only [gM]
  rw [← hm]
  clear hm
  by_cases h : (10 : Int) < m
  · go_enter Try.func31, Try.ntmps31
    go_wp2
    go_ret
    exact ⟨by first | rfl | (simp [*]; done), by (repeat' (first | (with_reducible exact Below.refl _ _) | (with_reducible assumption) | (with_reducible refine below_alloc ?_ _) | (with_reducible refine Below.drew ?_) | (with_reducible refine below_drewN ?_ _) | (with_reducible refine below_step (by assumption) ?_) | (with_reducible refine below_later ?_ _) | (with_reducible refine Below.setCell ?_ ?_ _) | go_size))⟩
  · go_enter Try.func31, Try.ntmps31
    generalize Z.any gR = R at *
    go_wp2_with (go_at_call 32; refine (HZ.out _ (by (repeat' (first | (with_reducible exact Below.refl _ _) | (with_reducible assumption) | (with_reducible refine below_alloc ?_ _) | (with_reducible refine Below.drew ?_) | (with_reducible refine below_drewN ?_ _) | (with_reducible refine below_step (by assumption) ?_) | (with_reducible refine below_later ?_ _) | (with_reducible refine Below.setCell ?_ ?_ _) | go_size)))).mono ?_; rintro _ w1 ⟨rfl, hb1⟩)
    go_ret
    exact ⟨by first | rfl | (simp [*]; done) | (simp; omega), by (repeat' (first | (with_reducible exact Below.refl _ _) | (with_reducible assumption) | (with_reducible refine below_alloc ?_ _) | (with_reducible refine Below.drew ?_) | (with_reducible refine below_drewN ?_ _) | (with_reducible refine below_step (by assumption) ?_) | (with_reducible refine below_later ?_ _) | (with_reducible refine Below.setCell ?_ ?_ _) | go_size))⟩
set_option maxRecDepth 100000 in
set_option maxHeartbeats 4000000 in
theorem great_any (p : PV) (w : World) (hp : IsP w p) : Calls Try.prog 9 #[p.val] w fun e w' => e = .returned (.bool (greatB p)) ∧ Below w.heap.size w w' := by
  have HC : Hid (∀ W, Below w.heap.size w W → Calls Try.prog 28 #[.slice p.rv p.curves.length p.cv, .func (.func 29) #[] #[]] W fun e w' => e = .returned (.bool (p.curves.any gC)) ∧ Below W.heap.size W w') := Lib.hid (fun W h =>
    has_Curve _ _ p.rv p.cv p.curves gC W (enters_of Try.func29 (by kernel_rfl) rfl) (hp.later h).curves (fun e x hx => g1_any x e.w))
  have HM : Hid (∀ W, Below w.heap.size w W → Calls Try.prog 30 #[.slice p.rm p.maps.length p.cm, .func (.func 31) #[] #[]] W fun e w' => e = .returned (.bool (p.maps.any gM)) ∧ Below W.heap.size W w') := Lib.hid (fun W h =>
    has_Map _ _ p.rm p.cm p.maps gM W (enters_of Try.func31 (by kernel_rfl) rfl) (hp.later h).maps (fun e x hx => g2_any x e.w (((hp.later h).mapsG x hx).later e.h)))
  have HG : Hid (greatB p = (szG p || (p.curves.any gC || p.maps.any gM))) := Lib.hid rfl
  have HSZ : Hid (szG p = (decide ((60 : Int) < p.code.length) || (decide ((20 : Int) < p.types.length) || (decide ((20 : Int) < p.curves.length) || (decide ((20 : Int) < p.maps.length) || decide ((60 : Int) < max (p.inputs.length : Int) (max (p.states.length : Int) (max (p.outputs.length : Int) p.initial.length)))))))) := Lib.hid rfl
  obtain ⟨rc, cc, code, rt, ct, types, rv, cv, curves, rm, cm, maps, cells, ri, ci, inputs, rs, cs, states, ro, co, outputs, rn, cn, initial⟩ := p
  clear hp
  simp only at HC HM HSZ HG
  simp only [PV.val]
  obtain ⟨m, HMX, hm⟩ := mx4 (inputs.length : Int) (states.length : Int) (outputs.length : Int) (initial.length : Int)
  rw [← hm] at HSZ
  clear hm
  generalize greatB _ = G at *
  generalize szG _ = S at *
  generalize curves.any gC = C at *
  generalize maps.any gM = M at *
  rw [HG.out]
  clear HG
  by_cases h0 : (60 : Int) < code.length
  · obtain rfl : S = true := by rw [HSZ.out, decide_eq_true h0]; rfl
    clear HSZ
    go_enter Try.func9, Try.ntmps9
    go_wp2
    go_ret
    exact ⟨rfl, by (repeat' (first | (with_reducible exact Below.refl _ _) | (with_reducible assumption) | (with_reducible refine below_alloc ?_ _) | (with_reducible refine Below.drew ?_) | (with_reducible refine below_drewN ?_ _) | (with_reducible refine below_step (by assumption) ?_) | (with_reducible refine below_later ?_ _) | (with_reducible refine Below.setCell ?_ ?_ _) | go_size))⟩
  by_cases h1 : (20 : Int) < types.length
  · obtain rfl : S = true := by rw [HSZ.out, decide_eq_true h1]; simp
    clear HSZ
    go_enter Try.func9, Try.ntmps9
    go_wp2
    go_ret
    exact ⟨rfl, by (repeat' (first | (with_reducible exact Below.refl _ _) | (with_reducible assumption) | (with_reducible refine below_alloc ?_ _) | (with_reducible refine Below.drew ?_) | (with_reducible refine below_drewN ?_ _) | (with_reducible refine below_step (by assumption) ?_) | (with_reducible refine below_later ?_ _) | (with_reducible refine Below.setCell ?_ ?_ _) | go_size))⟩
  by_cases h2 : (20 : Int) < curves.length
  · obtain rfl : S = true := by rw [HSZ.out, decide_eq_true h2]; simp
    clear HSZ
    go_enter Try.func9, Try.ntmps9
    go_wp2
    go_ret
    exact ⟨rfl, by (repeat' (first | (with_reducible exact Below.refl _ _) | (with_reducible assumption) | (with_reducible refine below_alloc ?_ _) | (with_reducible refine Below.drew ?_) | (with_reducible refine below_drewN ?_ _) | (with_reducible refine below_step (by assumption) ?_) | (with_reducible refine below_later ?_ _) | (with_reducible refine Below.setCell ?_ ?_ _) | go_size))⟩
  by_cases h3 : (20 : Int) < maps.length
  · obtain rfl : S = true := by rw [HSZ.out, decide_eq_true h3]; simp
    clear HSZ
    go_enter Try.func9, Try.ntmps9
    go_wp2
    go_ret
    exact ⟨rfl, by (repeat' (first | (with_reducible exact Below.refl _ _) | (with_reducible assumption) | (with_reducible refine below_alloc ?_ _) | (with_reducible refine Below.drew ?_) | (with_reducible refine below_drewN ?_ _) | (with_reducible refine below_step (by assumption) ?_) | (with_reducible refine below_later ?_ _) | (with_reducible refine Below.setCell ?_ ?_ _) | go_size))⟩
  by_cases h4 : (60 : Int) < m
  · obtain rfl : S = true := by rw [HSZ.out, decide_eq_true h4]; simp
    clear HSZ
    go_enter Try.func9, Try.ntmps9
    go_wp2
    go_ret
    exact ⟨rfl, by (repeat' (first | (with_reducible exact Below.refl _ _) | (with_reducible assumption) | (with_reducible refine below_alloc ?_ _) | (with_reducible refine Below.drew ?_) | (with_reducible refine below_drewN ?_ _) | (with_reducible refine below_step (by assumption) ?_) | (with_reducible refine below_later ?_ _) | (with_reducible refine Below.setCell ?_ ?_ _) | go_size))⟩
  obtain rfl : S = false := by rw [HSZ.out, decide_eq_false h0, decide_eq_false h1, decide_eq_false h2, decide_eq_false h3, decide_eq_false h4]; rfl
  clear HSZ
  cases C
  · go_enter Try.func9, Try.ntmps9
    go_wp2_with (first | (go_at_call 28; refine (HC.out _ (by (repeat' (first | (with_reducible exact Below.refl _ _) | (with_reducible assumption) | (with_reducible refine below_alloc ?_ _) | (with_reducible refine Below.drew ?_) | (with_reducible refine below_drewN ?_ _) | (with_reducible refine below_step (by assumption) ?_) | (with_reducible refine below_later ?_ _) | (with_reducible refine Below.setCell ?_ ?_ _) | go_size)))).mono ?_; rintro _ w1 ⟨rfl, hb1⟩; obtain ⟨hb1c, hb1f⟩ := bcell hb1; have hb1s := hb1.size; (try simp only [World.size_alloc] at hb1s); have hx1 : w.heap.size < w1.heap.size := (by omega)) | (go_at_call 30; refine (HM.out _ (by (repeat' (first | (with_reducible exact Below.refl _ _) | (with_reducible assumption) | (with_reducible refine below_alloc ?_ _) | (with_reducible refine Below.drew ?_) | (with_reducible refine below_drewN ?_ _) | (with_reducible refine below_step (by assumption) ?_) | (with_reducible refine below_later ?_ _) | (with_reducible refine Below.setCell ?_ ?_ _) | go_size)))).mono ?_; rintro _ w2 ⟨rfl, hb2⟩))
    go_ret
    exact ⟨by first | rfl | (simp; done), by (repeat' (first | (with_reducible exact Below.refl _ _) | (with_reducible assumption) | (with_reducible refine below_alloc ?_ _) | (with_reducible refine Below.drew ?_) | (with_reducible refine below_drewN ?_ _) | (with_reducible refine below_step (by assumption) ?_) | (with_reducible refine below_later ?_ _) | (with_reducible refine Below.setCell ?_ ?_ _) | go_size))⟩
  · go_enter Try.func9, Try.ntmps9
    go_wp2_with (first | (go_at_call 28; refine (HC.out _ (by (repeat' (first | (with_reducible exact Below.refl _ _) | (with_reducible assumption) | (with_reducible refine below_alloc ?_ _) | (with_reducible refine Below.drew ?_) | (with_reducible refine below_drewN ?_ _) | (with_reducible refine below_step (by assumption) ?_) | (with_reducible refine below_later ?_ _) | (with_reducible refine Below.setCell ?_ ?_ _) | go_size)))).mono ?_; rintro _ w1 ⟨rfl, hb1⟩; obtain ⟨hb1c, hb1f⟩ := bcell hb1; have hb1s := hb1.size; (try simp only [World.size_alloc] at hb1s); have hx1 : w.heap.size < w1.heap.size := (by omega)))
    go_ret
    exact ⟨by first | rfl | (simp; done), by (repeat' (first | (with_reducible exact Below.refl _ _) | (with_reducible assumption) | (with_reducible refine below_alloc ?_ _) | (with_reducible refine Below.drew ?_) | (with_reducible refine below_drewN ?_ _) | (with_reducible refine below_step (by assumption) ?_) | (with_reducible refine below_later ?_ _) | (with_reducible refine Below.setCell ?_ ?_ _) | go_size))⟩
end Go.Proofs.Ytfooefiaenlhmaa
namespace Go.Proofs.Ytfooefiaenlhmaa
set_option linter.unusedVariables false
set_option linter.unusedSimpArgs false
open Go.RowKit Go.ChangeShapes Go.WideShapes Go.ChangeAt

theorem flat_bd {α : Type} {f : α → List Int} {m : Nat} {l : List α} (h : ∀ x ∈ l, (f x).length ≤ m) : (l.flatMap f).length ≤ l.length * m := by
  induction l with
  | nil => simp
  | cons x l ih =>
    have h1 := ih (fun y hy => h y (List.mem_cons_of_mem _ hy))
    have h2 := h x (List.mem_cons_self ..)
    rw [List.length_cons, List.flatMap_cons, List.length_append, Nat.succ_mul]
    omega
/-- A program within the limits has a short body. -/
theorem great_len {p : PV} (h : greatB p = false) : p.p.body.length ≤ 90000 := by
  unfold greatB at h
  simp only [Bool.or_eq_false_iff] at h
  obtain ⟨hz, hc, hm⟩ := h
  unfold szG at hz
  simp only [Bool.or_eq_false_iff, decide_eq_false_iff_not, Int.not_lt, Int.max_le] at hz
  obtain ⟨z0, z1, z2, z3, z4⟩ := hz
  have e1 : (p.code.flatMap Ins.by8).length ≤ p.code.length * 12 := flat_bd (fun i _ => Nat.le_refl 12)
  have e2 : (p.types.flatMap Fx.by8).length ≤ p.types.length * 80 := flat_bd (fun i _ => Nat.le_refl 80)
  have e3 : (p.curves.flatMap (fun c => curveB8 c.p)).length ≤ p.curves.length * 176 := flat_bd (fun c hx => by
    rw [List.any_eq_false] at hc
    have := hc c hx
    unfold gC at this
    simp only [decide_eq_true_eq, Int.not_lt, Int.max_le] at this
    show (list8 c.X ++ list8 c.Y).length ≤ 176
    rw [List.length_append, list8_len, list8_len]
    omega)
  have e4 : (p.maps.flatMap (fun c => mapB8 c.p)).length ≤ p.maps.length * 1056 := flat_bd (fun c hx => by
    rw [List.any_eq_false] at hm
    have := hm c hx
    unfold gM at this
    simp only [Bool.or_eq_true, decide_eq_true_eq, not_or, Int.not_lt, Int.max_le] at this
    obtain ⟨h1, h2⟩ := this
    have h2 := Bool.eq_false_iff.2 h2
    rw [List.any_eq_false] at h2
    have h3 : (c.Z.flatMap list8).length ≤ c.Z.length * 88 := flat_bd (fun l hl => by
      have := h2 l hl
      unfold gR at this
      simp only [decide_eq_true_eq, Int.not_lt] at this
      rw [list8_len]
      omega)
    show (list8 c.X ++ list8 c.Y ++ c.Z.flatMap list8).length ≤ 1056
    rw [List.length_append, List.length_append, list8_len, list8_len]
    omega)
  unfold PP.body PV.p
  simp only [List.length_map]
  rw [flat_curves, flat_maps]
  simp only [List.length_append, num8_len, list8_len]
  omega
end Go.Proofs.Ytfooefiaenlhmaa
