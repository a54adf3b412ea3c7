/- Lemmas for the laws of package magnetolaw15: what its functions return, for any arguments that the lemmas name. -/
import Derived.Test.YtfooefiaenlhmaaGreatGB18
set_option maxRecDepth 100000
namespace Go.Proofs.YtfooefiaenlhmaaGreat
set_option linter.all false
set_option maxHeartbeats 16000000
open Go.RowKit Go.ChangeShapes Go.WideShapes Go.ChangeAt
section
variable (rc : Option Addr) (lc cc : Nat) (rt : Option Addr) (ct : Nat) (tY : List Fx) (rv : Option Addr) (lv cv : Nat) (rm : Option Addr) (lm cm : Nat) (cells : Int) (ri : Option Addr) (li ci : Nat) (rs : Option Addr) (ls cs : Nat) (ro : Option Addr) (lo co : Nat) (rn : Option Addr) (ln cn : Nat)
theorem na_5_a (a b c k : Int) (hk : I64 k) (h0 : 0 ≤ k) (na nb nt : Nat) (hna : k / 16384 = (na : Int)) (hnb : k / 128 % 128 = (nb : Int)) (hnt : k % 128 = (nt : Int)) (za : tY.length ≤ na) (w : World) (hS : IsS 10 Fx.enc w rt ct tY) : Calls Tryz.prog 33 #[.agg #[.slice rc lc cc, .slice rt tY.length ct, .slice rv lv cv, .slice rm lm cm, .int .i64 cells, .slice ri li ci, .slice rs ls cs, .slice ro lo co, .slice rn ln cn], .agg #[.int .i64 5, .int .i64 a, .int .i64 b, .int .i64 c, .int .i64 k]] w fun e w' => e = .returned (.bool (false)) ∧ Below w.heap.size w w' := by
 obtain ⟨m, HM, hm⟩ := yae k
 have hk2 := hk
 unfold I64 at hk2
 simp [Lit.wf, IntKind.min, IntKind.max, IntKind.bits, IntKind.signed] at hk2
 have hm0 : m = k := by omega
 rw [hm0] at HM
 clear hm0 hm
 have HTY := H! (fun W => yac k (by omega) hk W)
 have hmx := Nat.le_trans hS.le hS.max
 unfold maxLen at hmx
 have ia : (tY.length : Int) ≤ (na : Int) := by omega
 have ml : (tY.length : Int) ≤ 9223372036854775807 := by omega
 rw [hna, hnb, hnt] at HTY
 clear hS
 go_enter Tryz.func33, Tryz.ntmps33
 go_wp2_with (first | (go_at_call 77; refine (HTY.out _).mono ?_; rintro _ _ ⟨rfl, rfl⟩))
 all_goals go_ret
 all_goals exact ⟨by first | rfl | (simp [*]; done), bw⟩
theorem na_5_b (a b c k : Int) (hk : I64 k) (h0 : 0 ≤ k) (na nb nt : Nat) (hna : k / 16384 = (na : Int)) (hnb : k / 128 % 128 = (nb : Int)) (hnt : k % 128 = (nt : Int)) (ha : na < tY.length) (zb : tY.length ≤ nb) (w : World) (hS : IsS 10 Fx.enc w rt ct tY) : Calls Tryz.prog 33 #[.agg #[.slice rc lc cc, .slice rt tY.length ct, .slice rv lv cv, .slice rm lm cm, .int .i64 cells, .slice ri li ci, .slice rs ls cs, .slice ro lo co, .slice rn ln cn], .agg #[.int .i64 5, .int .i64 a, .int .i64 b, .int .i64 c, .int .i64 k]] w fun e w' => e = .returned (.bool (false)) ∧ Below w.heap.size w w' := by
 obtain ⟨m, HM, hm⟩ := yae k
 have hk2 := hk
 unfold I64 at hk2
 simp [Lit.wf, IntKind.min, IntKind.max, IntKind.bits, IntKind.signed] at hk2
 have hm0 : m = k := by omega
 rw [hm0] at HM
 clear hm0 hm
 have HTY := H! (fun W => yac k (by omega) hk W)
 have hmx := Nat.le_trans hS.le hS.max
 unfold maxLen at hmx
 have ia : (na : Int) < (tY.length : Int) := by omega
 have ja : (0 : Int) ≤ (na : Int) := by omega
 have ib : (tY.length : Int) ≤ (nb : Int) := by omega
 have ml : (tY.length : Int) ≤ 9223372036854775807 := by omega
 rw [hna, hnb, hnt] at HTY
 clear hS
 go_enter Tryz.func33, Tryz.ntmps33
 go_wp2_with (first | (go_at_call 77; refine (HTY.out _).mono ?_; rintro _ _ ⟨rfl, rfl⟩))
 all_goals go_ret
 all_goals exact ⟨by first | rfl | (simp [*]; done), bw⟩
theorem na_5_t (a b c k : Int) (hk : I64 k) (h0 : 0 ≤ k) (na nb nt : Nat) (hna : k / 16384 = (na : Int)) (hnb : k / 128 % 128 = (nb : Int)) (hnt : k % 128 = (nt : Int)) (ha : na < tY.length) (hb : nb < tY.length) (zt : tY.length ≤ nt) (w : World) (hS : IsS 10 Fx.enc w rt ct tY) : Calls Tryz.prog 33 #[.agg #[.slice rc lc cc, .slice rt tY.length ct, .slice rv lv cv, .slice rm lm cm, .int .i64 cells, .slice ri li ci, .slice rs ls cs, .slice ro lo co, .slice rn ln cn], .agg #[.int .i64 5, .int .i64 a, .int .i64 b, .int .i64 c, .int .i64 k]] w fun e w' => e = .returned (.bool (false)) ∧ Below w.heap.size w w' := by
 obtain ⟨m, HM, hm⟩ := yae k
 have hk2 := hk
 unfold I64 at hk2
 simp [Lit.wf, IntKind.min, IntKind.max, IntKind.bits, IntKind.signed] at hk2
 have hm0 : m = k := by omega
 rw [hm0] at HM
 clear hm0 hm
 have HTY := H! (fun W => yac k (by omega) hk W)
 have hmx := Nat.le_trans hS.le hS.max
 unfold maxLen at hmx
 have ia : (na : Int) < (tY.length : Int) := by omega
 have ja : (0 : Int) ≤ (na : Int) := by omega
 have ib : (nb : Int) < (tY.length : Int) := by omega
 have jb : (0 : Int) ≤ (nb : Int) := by omega
 have it : (tY.length : Int) ≤ (nt : Int) := by omega
 have ml : (tY.length : Int) ≤ 9223372036854775807 := by omega
 rw [hna, hnb, hnt] at HTY
 clear hS
 go_enter Tryz.func33, Tryz.ntmps33
 go_wp2_with (first | (go_at_call 77; refine (HTY.out _).mono ?_; rintro _ _ ⟨rfl, rfl⟩))
 all_goals go_ret
 all_goals exact ⟨by first | rfl | (simp [*]; done), bw⟩
theorem na_5_ok (a b c k : Int) (hk : I64 k) (h0 : 0 ≤ k) (na nb nt : Nat) (hna : k / 16384 = (na : Int)) (hnb : k / 128 % 128 = (nb : Int)) (hnt : k % 128 = (nt : Int)) (ha : na < tY.length) (hb : nb < tY.length) (ht : nt < tY.length) (w : World) (hS : IsS 10 Fx.enc w rt ct tY) : Calls Tryz.prog 33 #[.agg #[.slice rc lc cc, .slice rt tY.length ct, .slice rv lv cv, .slice rm lm cm, .int .i64 cells, .slice ri li ci, .slice rs ls cs, .slice ro lo co, .slice rn ln cn], .agg #[.int .i64 5, .int .i64 a, .int .i64 b, .int .i64 c, .int .i64 k]] w fun e w' => e = .returned (.bool (yap 5 (tY.getD na default) (tY.getD nb default) (tY.getD nt default))) ∧ Below w.heap.size w w' := by
 obtain ⟨m, HM, hm⟩ := yae k
 have hk2 := hk
 unfold I64 at hk2
 simp [Lit.wf, IntKind.min, IntKind.max, IntKind.bits, IntKind.signed] at hk2
 have hm0 : m = k := by omega
 rw [hm0] at HM
 clear hm0 hm
 have HTY := H! (fun W => yac k (by omega) hk W)
 have hmx := Nat.le_trans hS.le hS.max
 unfold maxLen at hmx
 have ia : (na : Int) < (tY.length : Int) := by omega
 have ja : (0 : Int) ≤ (na : Int) := by omega
 have ib : (nb : Int) < (tY.length : Int) := by omega
 have jb : (0 : Int) ≤ (nb : Int) := by omega
 have it : (nt : Int) < (tY.length : Int) := by omega
 have jt : (0 : Int) ≤ (nt : Int) := by omega
 have ml : (tY.length : Int) ≤ 9223372036854775807 := by omega
 rw [hna, hnb, hnt] at HTY
 obtain ⟨bXa, offa, hra, hba, hca⟩ := hS.at_ ha
 subst hra
 have ha0 : w.cell? ⟨bXa, offa + na * 10 + 5, none⟩ = some (.int .i64 (tY.getD na default).m) := hca 5 _ rfl
 have ha1 : w.cell? ⟨bXa, offa + na * 10 + 6, none⟩ = some (.int .i64 (tY.getD na default).kg) := hca 6 _ rfl
 have ha2 : w.cell? ⟨bXa, offa + na * 10 + 7, none⟩ = some (.int .i64 (tY.getD na default).s) := hca 7 _ rfl
 have ha3 : w.cell? ⟨bXa, offa + na * 10 + 8, none⟩ = some (.int .i64 (tY.getD na default).a) := hca 8 _ rfl
 have ha4 : w.cell? ⟨bXa, offa + na * 10 + 9, none⟩ = some (.int .i64 (tY.getD na default).k) := hca 9 _ rfl
 clear hca
 obtain ⟨bXb, offb, hrb, hbb, hcb⟩ := hS.at_ hb
 simp only [Option.some.injEq, Addr.mk.injEq, and_true] at hrb
 obtain ⟨rfl, rfl⟩ := hrb
 have hb0 : w.cell? ⟨bXa, offa + nb * 10 + 5, none⟩ = some (.int .i64 (tY.getD nb default).m) := hcb 5 _ rfl
 have hb1 : w.cell? ⟨bXa, offa + nb * 10 + 6, none⟩ = some (.int .i64 (tY.getD nb default).kg) := hcb 6 _ rfl
 have hb2 : w.cell? ⟨bXa, offa + nb * 10 + 7, none⟩ = some (.int .i64 (tY.getD nb default).s) := hcb 7 _ rfl
 have hb3 : w.cell? ⟨bXa, offa + nb * 10 + 8, none⟩ = some (.int .i64 (tY.getD nb default).a) := hcb 8 _ rfl
 have hb4 : w.cell? ⟨bXa, offa + nb * 10 + 9, none⟩ = some (.int .i64 (tY.getD nb default).k) := hcb 9 _ rfl
 clear hcb
 obtain ⟨bXt, offt, hrt, hbt, hct⟩ := hS.at_ ht
 simp only [Option.some.injEq, Addr.mk.injEq, and_true] at hrt
 obtain ⟨rfl, rfl⟩ := hrt
 have ht0 : w.cell? ⟨bXa, offa + nt * 10 + 5, none⟩ = some (.int .i64 (tY.getD nt default).m) := hct 5 _ rfl
 have ht1 : w.cell? ⟨bXa, offa + nt * 10 + 6, none⟩ = some (.int .i64 (tY.getD nt default).kg) := hct 6 _ rfl
 have ht2 : w.cell? ⟨bXa, offa + nt * 10 + 7, none⟩ = some (.int .i64 (tY.getD nt default).s) := hct 7 _ rfl
 have ht3 : w.cell? ⟨bXa, offa + nt * 10 + 8, none⟩ = some (.int .i64 (tY.getD nt default).a) := hct 8 _ rfl
 have ht4 : w.cell? ⟨bXa, offa + nt * 10 + 9, none⟩ = some (.int .i64 (tY.getD nt default).k) := hct 9 _ rfl
 clear hct
 clear hS
 have HUB : Hid (yap 5 (tY.getD na default) (tY.getD nb default) (tY.getD nt default) = (ueq (tY.getD na default).m (tY.getD na default).kg (tY.getD na default).s (tY.getD na default).a (tY.getD na default).k (tY.getD nb default).m (tY.getD nb default).kg (tY.getD nb default).s (tY.getD nb default).a (tY.getD nb default).k && ueq (tY.getD na default).m (tY.getD na default).kg (tY.getD na default).s (tY.getD na default).a (tY.getD na default).k (tY.getD nt default).m (tY.getD nt default).kg (tY.getD nt default).s (tY.getD nt default).a (tY.getD nt default).k)) := H! (by unfold yap; simp)
 rw [HUB.out]
 clear HUB
 generalize (tY.getD na default) = Ta at *
 obtain ⟨va0, va1, va2, va3, va4, va5, va6, va7, va8, va9⟩ := Ta
 generalize (tY.getD nb default) = Tb at *
 obtain ⟨vb0, vb1, vb2, vb3, vb4, vb5, vb6, vb7, vb8, vb9⟩ := Tb
 generalize (tY.getD nt default) = Tt at *
 obtain ⟨vt0, vt1, vt2, vt3, vt4, vt5, vt6, vt7, vt8, vt9⟩ := Tt
 simp only at ha0 ha1 ha2 ha3 ha4 hb0 hb1 hb2 hb3 hb4 ht0 ht1 ht2 ht3 ht4 ⊢
 have qz1 : bXa < w.heap.size + 1 := by omega
 have qz2 : bXa < w.heap.size + 1 + 1 := by omega
 have HUN := H! (fun W => un4_o 1 va5 va6 va7 va8 va9 vb5 vb6 vb7 vb8 vb9 (by omega) (by omega) W)
 have HE2 := ybj va5 va6 va7 va8 va9 vt5 vt6 vt7 vt8 vt9
 generalize ueq va5 va6 va7 va8 va9 vb5 vb6 vb7 vb8 vb9 = R1 at *
 generalize ueq va5 va6 va7 va8 va9 vt5 vt6 vt7 vt8 vt9 = R2 at *
 go_enter Tryz.func33, Tryz.ntmps33
 go_wp2_with (first | (go_at_call 77; refine (HTY.out _).mono ?_; rintro _ _ ⟨rfl, rfl⟩))
 refine yba (P := fun W => Code.wp _ _ _ _ W) _ ?_
 intro W9 hW9
 have p1 : W9.cell? ⟨w.heap.size, 1, none⟩ = some (.slice (some ⟨bXa, offa, none⟩) tY.length ct) := by rw [hW9]; first | go_keep | (simp [go_sem]; done)
 have p2 : W9.cell? ⟨w.heap.size + 1, 0, none⟩ = some (.int .i64 5) := by rw [hW9]; first | go_keep | (simp [go_sem]; done)
 have ga0 : W9.cell? ⟨bXa, offa + na * 10 + 5, none⟩ = some (.int .i64 va5) := by rw [hW9]; first | go_keep | (simp [go_sem, *]; done)
 have ga1 : W9.cell? ⟨bXa, offa + na * 10 + 6, none⟩ = some (.int .i64 va6) := by rw [hW9]; first | go_keep | (simp [go_sem, *]; done)
 have ga2 : W9.cell? ⟨bXa, offa + na * 10 + 7, none⟩ = some (.int .i64 va7) := by rw [hW9]; first | go_keep | (simp [go_sem, *]; done)
 have ga3 : W9.cell? ⟨bXa, offa + na * 10 + 8, none⟩ = some (.int .i64 va8) := by rw [hW9]; first | go_keep | (simp [go_sem, *]; done)
 have ga4 : W9.cell? ⟨bXa, offa + na * 10 + 9, none⟩ = some (.int .i64 va9) := by rw [hW9]; first | go_keep | (simp [go_sem, *]; done)
 have gb0 : W9.cell? ⟨bXa, offa + nb * 10 + 5, none⟩ = some (.int .i64 vb5) := by rw [hW9]; first | go_keep | (simp [go_sem, *]; done)
 have gb1 : W9.cell? ⟨bXa, offa + nb * 10 + 6, none⟩ = some (.int .i64 vb6) := by rw [hW9]; first | go_keep | (simp [go_sem, *]; done)
 have gb2 : W9.cell? ⟨bXa, offa + nb * 10 + 7, none⟩ = some (.int .i64 vb7) := by rw [hW9]; first | go_keep | (simp [go_sem, *]; done)
 have gb3 : W9.cell? ⟨bXa, offa + nb * 10 + 8, none⟩ = some (.int .i64 vb8) := by rw [hW9]; first | go_keep | (simp [go_sem, *]; done)
 have gb4 : W9.cell? ⟨bXa, offa + nb * 10 + 9, none⟩ = some (.int .i64 vb9) := by rw [hW9]; first | go_keep | (simp [go_sem, *]; done)
 have gt0 : W9.cell? ⟨bXa, offa + nt * 10 + 5, none⟩ = some (.int .i64 vt5) := by rw [hW9]; first | go_keep | (simp [go_sem, *]; done)
 have gt1 : W9.cell? ⟨bXa, offa + nt * 10 + 6, none⟩ = some (.int .i64 vt6) := by rw [hW9]; first | go_keep | (simp [go_sem, *]; done)
 have gt2 : W9.cell? ⟨bXa, offa + nt * 10 + 7, none⟩ = some (.int .i64 vt7) := by rw [hW9]; first | go_keep | (simp [go_sem, *]; done)
 have gt3 : W9.cell? ⟨bXa, offa + nt * 10 + 8, none⟩ = some (.int .i64 vt8) := by rw [hW9]; first | go_keep | (simp [go_sem, *]; done)
 have gt4 : W9.cell? ⟨bXa, offa + nt * 10 + 9, none⟩ = some (.int .i64 vt9) := by rw [hW9]; first | go_keep | (simp [go_sem, *]; done)
 have s0 : w.heap.size < W9.heap.size := by rw [hW9]; simp only [zA]; omega
 have s1 : w.heap.size + 1 < W9.heap.size := by rw [hW9]; simp only [zA]; omega
 have sX : bXa < W9.heap.size := by omega
 have hB9 : Below w.heap.size w W9 := by rw [hW9]; (exact bw)
 clear hW9 ha0 ha1 ha2 ha3 ha4 hb0 hb1 hb2 hb3 hb4 ht0 ht1 ht2 ht3 ht4
 have HS : ∀ V, Below W9.heap.size W9 V → V.cell? ⟨w.heap.size, 1, none⟩ = some (.slice (some ⟨bXa, offa, none⟩) tY.length ct) ∧ V.cell? ⟨w.heap.size + 1, 0, none⟩ = some (.int .i64 5) ∧ V.cell? ⟨bXa, offa + na * 10 + 5, none⟩ = some (.int .i64 va5) ∧ V.cell? ⟨bXa, offa + na * 10 + 6, none⟩ = some (.int .i64 va6) ∧ V.cell? ⟨bXa, offa + na * 10 + 7, none⟩ = some (.int .i64 va7) ∧ V.cell? ⟨bXa, offa + na * 10 + 8, none⟩ = some (.int .i64 va8) ∧ V.cell? ⟨bXa, offa + na * 10 + 9, none⟩ = some (.int .i64 va9) ∧ V.cell? ⟨bXa, offa + nb * 10 + 5, none⟩ = some (.int .i64 vb5) ∧ V.cell? ⟨bXa, offa + nb * 10 + 6, none⟩ = some (.int .i64 vb6) ∧ V.cell? ⟨bXa, offa + nb * 10 + 7, none⟩ = some (.int .i64 vb7) ∧ V.cell? ⟨bXa, offa + nb * 10 + 8, none⟩ = some (.int .i64 vb8) ∧ V.cell? ⟨bXa, offa + nb * 10 + 9, none⟩ = some (.int .i64 vb9) ∧ V.cell? ⟨bXa, offa + nt * 10 + 5, none⟩ = some (.int .i64 vt5) ∧ V.cell? ⟨bXa, offa + nt * 10 + 6, none⟩ = some (.int .i64 vt6) ∧ V.cell? ⟨bXa, offa + nt * 10 + 7, none⟩ = some (.int .i64 vt7) ∧ V.cell? ⟨bXa, offa + nt * 10 + 8, none⟩ = some (.int .i64 vt8) ∧ V.cell? ⟨bXa, offa + nt * 10 + 9, none⟩ = some (.int .i64 vt9) := fun V hV => ⟨(hV.cell (p := ⟨w.heap.size, 1, none⟩) s0).trans p1, (hV.cell (p := ⟨w.heap.size + 1, 0, none⟩) s1).trans p2, (hV.cell (p := ⟨bXa, offa + na * 10 + 5, none⟩) sX).trans ga0, (hV.cell (p := ⟨bXa, offa + na * 10 + 6, none⟩) sX).trans ga1, (hV.cell (p := ⟨bXa, offa + na * 10 + 7, none⟩) sX).trans ga2, (hV.cell (p := ⟨bXa, offa + na * 10 + 8, none⟩) sX).trans ga3, (hV.cell (p := ⟨bXa, offa + na * 10 + 9, none⟩) sX).trans ga4, (hV.cell (p := ⟨bXa, offa + nb * 10 + 5, none⟩) sX).trans gb0, (hV.cell (p := ⟨bXa, offa + nb * 10 + 6, none⟩) sX).trans gb1, (hV.cell (p := ⟨bXa, offa + nb * 10 + 7, none⟩) sX).trans gb2, (hV.cell (p := ⟨bXa, offa + nb * 10 + 8, none⟩) sX).trans gb3, (hV.cell (p := ⟨bXa, offa + nb * 10 + 9, none⟩) sX).trans gb4, (hV.cell (p := ⟨bXa, offa + nt * 10 + 5, none⟩) sX).trans gt0, (hV.cell (p := ⟨bXa, offa + nt * 10 + 6, none⟩) sX).trans gt1, (hV.cell (p := ⟨bXa, offa + nt * 10 + 7, none⟩) sX).trans gt2, (hV.cell (p := ⟨bXa, offa + nt * 10 + 8, none⟩) sX).trans gt3, (hV.cell (p := ⟨bXa, offa + nt * 10 + 9, none⟩) sX).trans gt4⟩
 go_region_held3 (fun v => v.cell? ⟨w.heap.size, 1, none⟩ = some (.slice (some ⟨bXa, offa, none⟩) tY.length ct) ∧ v.cell? ⟨w.heap.size + 1, 0, none⟩ = some (.int .i64 5) ∧ v.cell? ⟨bXa, offa + na * 10 + 5, none⟩ = some (.int .i64 va5) ∧ v.cell? ⟨bXa, offa + na * 10 + 6, none⟩ = some (.int .i64 va6) ∧ v.cell? ⟨bXa, offa + na * 10 + 7, none⟩ = some (.int .i64 va7) ∧ v.cell? ⟨bXa, offa + na * 10 + 8, none⟩ = some (.int .i64 va8) ∧ v.cell? ⟨bXa, offa + na * 10 + 9, none⟩ = some (.int .i64 va9) ∧ v.cell? ⟨bXa, offa + nb * 10 + 5, none⟩ = some (.int .i64 vb5) ∧ v.cell? ⟨bXa, offa + nb * 10 + 6, none⟩ = some (.int .i64 vb6) ∧ v.cell? ⟨bXa, offa + nb * 10 + 7, none⟩ = some (.int .i64 vb7) ∧ v.cell? ⟨bXa, offa + nb * 10 + 8, none⟩ = some (.int .i64 vb8) ∧ v.cell? ⟨bXa, offa + nb * 10 + 9, none⟩ = some (.int .i64 vb9) ∧ v.cell? ⟨bXa, offa + nt * 10 + 5, none⟩ = some (.int .i64 vt5) ∧ v.cell? ⟨bXa, offa + nt * 10 + 6, none⟩ = some (.int .i64 vt6) ∧ v.cell? ⟨bXa, offa + nt * 10 + 7, none⟩ = some (.int .i64 vt7) ∧ v.cell? ⟨bXa, offa + nt * 10 + 8, none⟩ = some (.int .i64 vt8) ∧ v.cell? ⟨bXa, offa + nt * 10 + 9, none⟩ = some (.int .i64 vt9)) (exact HS _ bw) (first | (go_at_call 78; rw [show IntKind.i64.wrap 1 = 1 from rfl]; with_reducible (refine (HUN.out _).mono ?_); rintro _ w1 ⟨rfl, hb1⟩; obtain ⟨hb1c, hb1f⟩ := yah hb1; have hb1s := hb1.size; (try simp only [zA, World.size_drew] at hb1s); have x0 : w.heap.size < w1.heap.size := (by omega); have xX : bXa < w1.heap.size := (by omega); have y0 : w.heap.size < w1.heap.size + 1 := (by omega); have yX : bXa < w1.heap.size + 1 := (by omega); have v0 : ¬ w.heap.size = w1.heap.size := (by omega); have vX : ¬ bXa = w1.heap.size := (by omega); have v1 : ¬ w1.heap.size = w.heap.size := (by omega); have vY : ¬ w1.heap.size = bXa := (by omega)))
 all_goals cases R1
 all_goals go_wp2
 all_goals go_quiet (fail)
 all_goals go_wp2
 all_goals go_ret
 all_goals exact ⟨by first | rfl | (simp [*]; done), bw⟩
end
section
variable (rc : Option Addr) (lc cc : Nat) (rt : Option Addr) (ct : Nat) (tY : List Fx) (rv : Option Addr) (lv cv : Nat) (rm : Option Addr) (lm cm : Nat) (cells : Int) (ri : Option Addr) (li ci : Nat) (rs : Option Addr) (ls cs : Nat) (ro : Option Addr) (lo co : Nat) (rn : Option Addr) (ln cn : Nat)
theorem na_6_a (a b c k : Int) (hk : I64 k) (h0 : 0 ≤ k) (na nb nt : Nat) (hna : k / 16384 = (na : Int)) (hnb : k / 128 % 128 = (nb : Int)) (hnt : k % 128 = (nt : Int)) (za : tY.length ≤ na) (w : World) (hS : IsS 10 Fx.enc w rt ct tY) : Calls Tryz.prog 33 #[.agg #[.slice rc lc cc, .slice rt tY.length ct, .slice rv lv cv, .slice rm lm cm, .int .i64 cells, .slice ri li ci, .slice rs ls cs, .slice ro lo co, .slice rn ln cn], .agg #[.int .i64 6, .int .i64 a, .int .i64 b, .int .i64 c, .int .i64 k]] w fun e w' => e = .returned (.bool (false)) ∧ Below w.heap.size w w' := by
 obtain ⟨m, HM, hm⟩ := yae k
 have hk2 := hk
 unfold I64 at hk2
 simp [Lit.wf, IntKind.min, IntKind.max, IntKind.bits, IntKind.signed] at hk2
 have hm0 : m = k := by omega
 rw [hm0] at HM
 clear hm0 hm
 have HTY := H! (fun W => yac k (by omega) hk W)
 have hmx := Nat.le_trans hS.le hS.max
 unfold maxLen at hmx
 have ia : (tY.length : Int) ≤ (na : Int) := by omega
 have ml : (tY.length : Int) ≤ 9223372036854775807 := by omega
 rw [hna, hnb, hnt] at HTY
 clear hS
 go_enter Tryz.func33, Tryz.ntmps33
 go_wp2_with (first | (go_at_call 77; refine (HTY.out _).mono ?_; rintro _ _ ⟨rfl, rfl⟩))
 all_goals go_ret
 all_goals exact ⟨by first | rfl | (simp [*]; done), bw⟩
theorem na_6_b (a b c k : Int) (hk : I64 k) (h0 : 0 ≤ k) (na nb nt : Nat) (hna : k / 16384 = (na : Int)) (hnb : k / 128 % 128 = (nb : Int)) (hnt : k % 128 = (nt : Int)) (ha : na < tY.length) (zb : tY.length ≤ nb) (w : World) (hS : IsS 10 Fx.enc w rt ct tY) : Calls Tryz.prog 33 #[.agg #[.slice rc lc cc, .slice rt tY.length ct, .slice rv lv cv, .slice rm lm cm, .int .i64 cells, .slice ri li ci, .slice rs ls cs, .slice ro lo co, .slice rn ln cn], .agg #[.int .i64 6, .int .i64 a, .int .i64 b, .int .i64 c, .int .i64 k]] w fun e w' => e = .returned (.bool (false)) ∧ Below w.heap.size w w' := by
 obtain ⟨m, HM, hm⟩ := yae k
 have hk2 := hk
 unfold I64 at hk2
 simp [Lit.wf, IntKind.min, IntKind.max, IntKind.bits, IntKind.signed] at hk2
 have hm0 : m = k := by omega
 rw [hm0] at HM
 clear hm0 hm
 have HTY := H! (fun W => yac k (by omega) hk W)
 have hmx := Nat.le_trans hS.le hS.max
 unfold maxLen at hmx
 have ia : (na : Int) < (tY.length : Int) := by omega
 have ja : (0 : Int) ≤ (na : Int) := by omega
 have ib : (tY.length : Int) ≤ (nb : Int) := by omega
 have ml : (tY.length : Int) ≤ 9223372036854775807 := by omega
 rw [hna, hnb, hnt] at HTY
 clear hS
 go_enter Tryz.func33, Tryz.ntmps33
 go_wp2_with (first | (go_at_call 77; refine (HTY.out _).mono ?_; rintro _ _ ⟨rfl, rfl⟩))
 all_goals go_ret
 all_goals exact ⟨by first | rfl | (simp [*]; done), bw⟩
theorem na_6_t (a b c k : Int) (hk : I64 k) (h0 : 0 ≤ k) (na nb nt : Nat) (hna : k / 16384 = (na : Int)) (hnb : k / 128 % 128 = (nb : Int)) (hnt : k % 128 = (nt : Int)) (ha : na < tY.length) (hb : nb < tY.length) (zt : tY.length ≤ nt) (w : World) (hS : IsS 10 Fx.enc w rt ct tY) : Calls Tryz.prog 33 #[.agg #[.slice rc lc cc, .slice rt tY.length ct, .slice rv lv cv, .slice rm lm cm, .int .i64 cells, .slice ri li ci, .slice rs ls cs, .slice ro lo co, .slice rn ln cn], .agg #[.int .i64 6, .int .i64 a, .int .i64 b, .int .i64 c, .int .i64 k]] w fun e w' => e = .returned (.bool (false)) ∧ Below w.heap.size w w' := by
 obtain ⟨m, HM, hm⟩ := yae k
 have hk2 := hk
 unfold I64 at hk2
 simp [Lit.wf, IntKind.min, IntKind.max, IntKind.bits, IntKind.signed] at hk2
 have hm0 : m = k := by omega
 rw [hm0] at HM
 clear hm0 hm
 have HTY := H! (fun W => yac k (by omega) hk W)
 have hmx := Nat.le_trans hS.le hS.max
 unfold maxLen at hmx
 have ia : (na : Int) < (tY.length : Int) := by omega
 have ja : (0 : Int) ≤ (na : Int) := by omega
 have ib : (nb : Int) < (tY.length : Int) := by omega
 have jb : (0 : Int) ≤ (nb : Int) := by omega
 have it : (tY.length : Int) ≤ (nt : Int) := by omega
 have ml : (tY.length : Int) ≤ 9223372036854775807 := by omega
 rw [hna, hnb, hnt] at HTY
 clear hS
 go_enter Tryz.func33, Tryz.ntmps33
 go_wp2_with (first | (go_at_call 77; refine (HTY.out _).mono ?_; rintro _ _ ⟨rfl, rfl⟩))
 all_goals go_ret
 all_goals exact ⟨by first | rfl | (simp [*]; done), bw⟩
theorem na_6_ok (a b c k : Int) (hk : I64 k) (h0 : 0 ≤ k) (na nb nt : Nat) (hna : k / 16384 = (na : Int)) (hnb : k / 128 % 128 = (nb : Int)) (hnt : k % 128 = (nt : Int)) (ha : na < tY.length) (hb : nb < tY.length) (ht : nt < tY.length) (w : World) (hS : IsS 10 Fx.enc w rt ct tY) : Calls Tryz.prog 33 #[.agg #[.slice rc lc cc, .slice rt tY.length ct, .slice rv lv cv, .slice rm lm cm, .int .i64 cells, .slice ri li ci, .slice rs ls cs, .slice ro lo co, .slice rn ln cn], .agg #[.int .i64 6, .int .i64 a, .int .i64 b, .int .i64 c, .int .i64 k]] w fun e w' => e = .returned (.bool (yap 6 (tY.getD na default) (tY.getD nb default) (tY.getD nt default))) ∧ Below w.heap.size w w' := by
 obtain ⟨m, HM, hm⟩ := yae k
 have hk2 := hk
 unfold I64 at hk2
 simp [Lit.wf, IntKind.min, IntKind.max, IntKind.bits, IntKind.signed] at hk2
 have hm0 : m = k := by omega
 rw [hm0] at HM
 clear hm0 hm
 have HTY := H! (fun W => yac k (by omega) hk W)
 have hmx := Nat.le_trans hS.le hS.max
 unfold maxLen at hmx
 have ia : (na : Int) < (tY.length : Int) := by omega
 have ja : (0 : Int) ≤ (na : Int) := by omega
 have ib : (nb : Int) < (tY.length : Int) := by omega
 have jb : (0 : Int) ≤ (nb : Int) := by omega
 have it : (nt : Int) < (tY.length : Int) := by omega
 have jt : (0 : Int) ≤ (nt : Int) := by omega
 have ml : (tY.length : Int) ≤ 9223372036854775807 := by omega
 rw [hna, hnb, hnt] at HTY
 obtain ⟨bXa, offa, hra, hba, hca⟩ := hS.at_ ha
 subst hra
 have ha0 : w.cell? ⟨bXa, offa + na * 10 + 5, none⟩ = some (.int .i64 (tY.getD na default).m) := hca 5 _ rfl
 have ha1 : w.cell? ⟨bXa, offa + na * 10 + 6, none⟩ = some (.int .i64 (tY.getD na default).kg) := hca 6 _ rfl
 have ha2 : w.cell? ⟨bXa, offa + na * 10 + 7, none⟩ = some (.int .i64 (tY.getD na default).s) := hca 7 _ rfl
 have ha3 : w.cell? ⟨bXa, offa + na * 10 + 8, none⟩ = some (.int .i64 (tY.getD na default).a) := hca 8 _ rfl
 have ha4 : w.cell? ⟨bXa, offa + na * 10 + 9, none⟩ = some (.int .i64 (tY.getD na default).k) := hca 9 _ rfl
 clear hca
 obtain ⟨bXb, offb, hrb, hbb, hcb⟩ := hS.at_ hb
 simp only [Option.some.injEq, Addr.mk.injEq, and_true] at hrb
 obtain ⟨rfl, rfl⟩ := hrb
 have hb0 : w.cell? ⟨bXa, offa + nb * 10 + 5, none⟩ = some (.int .i64 (tY.getD nb default).m) := hcb 5 _ rfl
 have hb1 : w.cell? ⟨bXa, offa + nb * 10 + 6, none⟩ = some (.int .i64 (tY.getD nb default).kg) := hcb 6 _ rfl
 have hb2 : w.cell? ⟨bXa, offa + nb * 10 + 7, none⟩ = some (.int .i64 (tY.getD nb default).s) := hcb 7 _ rfl
 have hb3 : w.cell? ⟨bXa, offa + nb * 10 + 8, none⟩ = some (.int .i64 (tY.getD nb default).a) := hcb 8 _ rfl
 have hb4 : w.cell? ⟨bXa, offa + nb * 10 + 9, none⟩ = some (.int .i64 (tY.getD nb default).k) := hcb 9 _ rfl
 clear hcb
 obtain ⟨bXt, offt, hrt, hbt, hct⟩ := hS.at_ ht
 simp only [Option.some.injEq, Addr.mk.injEq, and_true] at hrt
 obtain ⟨rfl, rfl⟩ := hrt
 have ht0 : w.cell? ⟨bXa, offa + nt * 10 + 5, none⟩ = some (.int .i64 (tY.getD nt default).m) := hct 5 _ rfl
 have ht1 : w.cell? ⟨bXa, offa + nt * 10 + 6, none⟩ = some (.int .i64 (tY.getD nt default).kg) := hct 6 _ rfl
 have ht2 : w.cell? ⟨bXa, offa + nt * 10 + 7, none⟩ = some (.int .i64 (tY.getD nt default).s) := hct 7 _ rfl
 have ht3 : w.cell? ⟨bXa, offa + nt * 10 + 8, none⟩ = some (.int .i64 (tY.getD nt default).a) := hct 8 _ rfl
 have ht4 : w.cell? ⟨bXa, offa + nt * 10 + 9, none⟩ = some (.int .i64 (tY.getD nt default).k) := hct 9 _ rfl
 clear hct
 clear hS
 have HUB : Hid (yap 6 (tY.getD na default) (tY.getD nb default) (tY.getD nt default) = (ueq (tY.getD na default).m (tY.getD na default).kg (tY.getD na default).s (tY.getD na default).a (tY.getD na default).k (tY.getD nb default).m (tY.getD nb default).kg (tY.getD nb default).s (tY.getD nb default).a (tY.getD nb default).k && ueq (tY.getD na default).m (tY.getD na default).kg (tY.getD na default).s (tY.getD na default).a (tY.getD na default).k (tY.getD nt default).m (tY.getD nt default).kg (tY.getD nt default).s (tY.getD nt default).a (tY.getD nt default).k)) := H! (by unfold yap; simp)
 rw [HUB.out]
 clear HUB
 generalize (tY.getD na default) = Ta at *
 obtain ⟨va0, va1, va2, va3, va4, va5, va6, va7, va8, va9⟩ := Ta
 generalize (tY.getD nb default) = Tb at *
 obtain ⟨vb0, vb1, vb2, vb3, vb4, vb5, vb6, vb7, vb8, vb9⟩ := Tb
 generalize (tY.getD nt default) = Tt at *
 obtain ⟨vt0, vt1, vt2, vt3, vt4, vt5, vt6, vt7, vt8, vt9⟩ := Tt
 simp only at ha0 ha1 ha2 ha3 ha4 hb0 hb1 hb2 hb3 hb4 ht0 ht1 ht2 ht3 ht4 ⊢
 have qz1 : bXa < w.heap.size + 1 := by omega
 have qz2 : bXa < w.heap.size + 1 + 1 := by omega
 have HUN := H! (fun W => un4_o 2 va5 va6 va7 va8 va9 vb5 vb6 vb7 vb8 vb9 (by omega) (by omega) W)
 have HE2 := ybj va5 va6 va7 va8 va9 vt5 vt6 vt7 vt8 vt9
 generalize ueq va5 va6 va7 va8 va9 vb5 vb6 vb7 vb8 vb9 = R1 at *
 generalize ueq va5 va6 va7 va8 va9 vt5 vt6 vt7 vt8 vt9 = R2 at *
 go_enter Tryz.func33, Tryz.ntmps33
 go_wp2_with (first | (go_at_call 77; refine (HTY.out _).mono ?_; rintro _ _ ⟨rfl, rfl⟩))
 refine yba (P := fun W => Code.wp _ _ _ _ W) _ ?_
 intro W9 hW9
 have p1 : W9.cell? ⟨w.heap.size, 1, none⟩ = some (.slice (some ⟨bXa, offa, none⟩) tY.length ct) := by rw [hW9]; first | go_keep | (simp [go_sem]; done)
 have p2 : W9.cell? ⟨w.heap.size + 1, 0, none⟩ = some (.int .i64 6) := by rw [hW9]; first | go_keep | (simp [go_sem]; done)
 have ga0 : W9.cell? ⟨bXa, offa + na * 10 + 5, none⟩ = some (.int .i64 va5) := by rw [hW9]; first | go_keep | (simp [go_sem, *]; done)
 have ga1 : W9.cell? ⟨bXa, offa + na * 10 + 6, none⟩ = some (.int .i64 va6) := by rw [hW9]; first | go_keep | (simp [go_sem, *]; done)
 have ga2 : W9.cell? ⟨bXa, offa + na * 10 + 7, none⟩ = some (.int .i64 va7) := by rw [hW9]; first | go_keep | (simp [go_sem, *]; done)
 have ga3 : W9.cell? ⟨bXa, offa + na * 10 + 8, none⟩ = some (.int .i64 va8) := by rw [hW9]; first | go_keep | (simp [go_sem, *]; done)
 have ga4 : W9.cell? ⟨bXa, offa + na * 10 + 9, none⟩ = some (.int .i64 va9) := by rw [hW9]; first | go_keep | (simp [go_sem, *]; done)
 have gb0 : W9.cell? ⟨bXa, offa + nb * 10 + 5, none⟩ = some (.int .i64 vb5) := by rw [hW9]; first | go_keep | (simp [go_sem, *]; done)
 have gb1 : W9.cell? ⟨bXa, offa + nb * 10 + 6, none⟩ = some (.int .i64 vb6) := by rw [hW9]; first | go_keep | (simp [go_sem, *]; done)
 have gb2 : W9.cell? ⟨bXa, offa + nb * 10 + 7, none⟩ = some (.int .i64 vb7) := by rw [hW9]; first | go_keep | (simp [go_sem, *]; done)
 have gb3 : W9.cell? ⟨bXa, offa + nb * 10 + 8, none⟩ = some (.int .i64 vb8) := by rw [hW9]; first | go_keep | (simp [go_sem, *]; done)
 have gb4 : W9.cell? ⟨bXa, offa + nb * 10 + 9, none⟩ = some (.int .i64 vb9) := by rw [hW9]; first | go_keep | (simp [go_sem, *]; done)
 have gt0 : W9.cell? ⟨bXa, offa + nt * 10 + 5, none⟩ = some (.int .i64 vt5) := by rw [hW9]; first | go_keep | (simp [go_sem, *]; done)
 have gt1 : W9.cell? ⟨bXa, offa + nt * 10 + 6, none⟩ = some (.int .i64 vt6) := by rw [hW9]; first | go_keep | (simp [go_sem, *]; done)
 have gt2 : W9.cell? ⟨bXa, offa + nt * 10 + 7, none⟩ = some (.int .i64 vt7) := by rw [hW9]; first | go_keep | (simp [go_sem, *]; done)
 have gt3 : W9.cell? ⟨bXa, offa + nt * 10 + 8, none⟩ = some (.int .i64 vt8) := by rw [hW9]; first | go_keep | (simp [go_sem, *]; done)
 have gt4 : W9.cell? ⟨bXa, offa + nt * 10 + 9, none⟩ = some (.int .i64 vt9) := by rw [hW9]; first | go_keep | (simp [go_sem, *]; done)
 have s0 : w.heap.size < W9.heap.size := by rw [hW9]; simp only [zA]; omega
 have s1 : w.heap.size + 1 < W9.heap.size := by rw [hW9]; simp only [zA]; omega
 have sX : bXa < W9.heap.size := by omega
 have hB9 : Below w.heap.size w W9 := by rw [hW9]; (exact bw)
 clear hW9 ha0 ha1 ha2 ha3 ha4 hb0 hb1 hb2 hb3 hb4 ht0 ht1 ht2 ht3 ht4
 have HS : ∀ V, Below W9.heap.size W9 V → V.cell? ⟨w.heap.size, 1, none⟩ = some (.slice (some ⟨bXa, offa, none⟩) tY.length ct) ∧ V.cell? ⟨w.heap.size + 1, 0, none⟩ = some (.int .i64 6) ∧ V.cell? ⟨bXa, offa + na * 10 + 5, none⟩ = some (.int .i64 va5) ∧ V.cell? ⟨bXa, offa + na * 10 + 6, none⟩ = some (.int .i64 va6) ∧ V.cell? ⟨bXa, offa + na * 10 + 7, none⟩ = some (.int .i64 va7) ∧ V.cell? ⟨bXa, offa + na * 10 + 8, none⟩ = some (.int .i64 va8) ∧ V.cell? ⟨bXa, offa + na * 10 + 9, none⟩ = some (.int .i64 va9) ∧ V.cell? ⟨bXa, offa + nb * 10 + 5, none⟩ = some (.int .i64 vb5) ∧ V.cell? ⟨bXa, offa + nb * 10 + 6, none⟩ = some (.int .i64 vb6) ∧ V.cell? ⟨bXa, offa + nb * 10 + 7, none⟩ = some (.int .i64 vb7) ∧ V.cell? ⟨bXa, offa + nb * 10 + 8, none⟩ = some (.int .i64 vb8) ∧ V.cell? ⟨bXa, offa + nb * 10 + 9, none⟩ = some (.int .i64 vb9) ∧ V.cell? ⟨bXa, offa + nt * 10 + 5, none⟩ = some (.int .i64 vt5) ∧ V.cell? ⟨bXa, offa + nt * 10 + 6, none⟩ = some (.int .i64 vt6) ∧ V.cell? ⟨bXa, offa + nt * 10 + 7, none⟩ = some (.int .i64 vt7) ∧ V.cell? ⟨bXa, offa + nt * 10 + 8, none⟩ = some (.int .i64 vt8) ∧ V.cell? ⟨bXa, offa + nt * 10 + 9, none⟩ = some (.int .i64 vt9) := fun V hV => ⟨(hV.cell (p := ⟨w.heap.size, 1, none⟩) s0).trans p1, (hV.cell (p := ⟨w.heap.size + 1, 0, none⟩) s1).trans p2, (hV.cell (p := ⟨bXa, offa + na * 10 + 5, none⟩) sX).trans ga0, (hV.cell (p := ⟨bXa, offa + na * 10 + 6, none⟩) sX).trans ga1, (hV.cell (p := ⟨bXa, offa + na * 10 + 7, none⟩) sX).trans ga2, (hV.cell (p := ⟨bXa, offa + na * 10 + 8, none⟩) sX).trans ga3, (hV.cell (p := ⟨bXa, offa + na * 10 + 9, none⟩) sX).trans ga4, (hV.cell (p := ⟨bXa, offa + nb * 10 + 5, none⟩) sX).trans gb0, (hV.cell (p := ⟨bXa, offa + nb * 10 + 6, none⟩) sX).trans gb1, (hV.cell (p := ⟨bXa, offa + nb * 10 + 7, none⟩) sX).trans gb2, (hV.cell (p := ⟨bXa, offa + nb * 10 + 8, none⟩) sX).trans gb3, (hV.cell (p := ⟨bXa, offa + nb * 10 + 9, none⟩) sX).trans gb4, (hV.cell (p := ⟨bXa, offa + nt * 10 + 5, none⟩) sX).trans gt0, (hV.cell (p := ⟨bXa, offa + nt * 10 + 6, none⟩) sX).trans gt1, (hV.cell (p := ⟨bXa, offa + nt * 10 + 7, none⟩) sX).trans gt2, (hV.cell (p := ⟨bXa, offa + nt * 10 + 8, none⟩) sX).trans gt3, (hV.cell (p := ⟨bXa, offa + nt * 10 + 9, none⟩) sX).trans gt4⟩
 go_region_held3 (fun v => v.cell? ⟨w.heap.size, 1, none⟩ = some (.slice (some ⟨bXa, offa, none⟩) tY.length ct) ∧ v.cell? ⟨w.heap.size + 1, 0, none⟩ = some (.int .i64 6) ∧ v.cell? ⟨bXa, offa + na * 10 + 5, none⟩ = some (.int .i64 va5) ∧ v.cell? ⟨bXa, offa + na * 10 + 6, none⟩ = some (.int .i64 va6) ∧ v.cell? ⟨bXa, offa + na * 10 + 7, none⟩ = some (.int .i64 va7) ∧ v.cell? ⟨bXa, offa + na * 10 + 8, none⟩ = some (.int .i64 va8) ∧ v.cell? ⟨bXa, offa + na * 10 + 9, none⟩ = some (.int .i64 va9) ∧ v.cell? ⟨bXa, offa + nb * 10 + 5, none⟩ = some (.int .i64 vb5) ∧ v.cell? ⟨bXa, offa + nb * 10 + 6, none⟩ = some (.int .i64 vb6) ∧ v.cell? ⟨bXa, offa + nb * 10 + 7, none⟩ = some (.int .i64 vb7) ∧ v.cell? ⟨bXa, offa + nb * 10 + 8, none⟩ = some (.int .i64 vb8) ∧ v.cell? ⟨bXa, offa + nb * 10 + 9, none⟩ = some (.int .i64 vb9) ∧ v.cell? ⟨bXa, offa + nt * 10 + 5, none⟩ = some (.int .i64 vt5) ∧ v.cell? ⟨bXa, offa + nt * 10 + 6, none⟩ = some (.int .i64 vt6) ∧ v.cell? ⟨bXa, offa + nt * 10 + 7, none⟩ = some (.int .i64 vt7) ∧ v.cell? ⟨bXa, offa + nt * 10 + 8, none⟩ = some (.int .i64 vt8) ∧ v.cell? ⟨bXa, offa + nt * 10 + 9, none⟩ = some (.int .i64 vt9)) (exact HS _ bw) (first | (go_at_call 78; rw [show IntKind.i64.wrap 2 = 2 from rfl]; with_reducible (refine (HUN.out _).mono ?_); rintro _ w1 ⟨rfl, hb1⟩; obtain ⟨hb1c, hb1f⟩ := yah hb1; have hb1s := hb1.size; (try simp only [zA, World.size_drew] at hb1s); have x0 : w.heap.size < w1.heap.size := (by omega); have xX : bXa < w1.heap.size := (by omega); have y0 : w.heap.size < w1.heap.size + 1 := (by omega); have yX : bXa < w1.heap.size + 1 := (by omega); have v0 : ¬ w.heap.size = w1.heap.size := (by omega); have vX : ¬ bXa = w1.heap.size := (by omega); have v1 : ¬ w1.heap.size = w.heap.size := (by omega); have vY : ¬ w1.heap.size = bXa := (by omega)))
 all_goals cases R1
 all_goals go_wp2
 all_goals go_quiet (fail)
 all_goals go_wp2
 all_goals go_ret
 all_goals exact ⟨by first | rfl | (simp [*]; done), bw⟩
end
section
variable (rc : Option Addr) (lc cc : Nat) (rt : Option Addr) (ct : Nat) (tY : List Fx) (rv : Option Addr) (lv cv : Nat) (rm : Option Addr) (lm cm : Nat) (cells : Int) (ri : Option Addr) (li ci : Nat) (rs : Option Addr) (ls cs : Nat) (ro : Option Addr) (lo co : Nat) (rn : Option Addr) (ln cn : Nat)
theorem na_7_a (a b c k : Int) (hk : I64 k) (h0 : 0 ≤ k) (na nb nt : Nat) (hna : k / 16384 = (na : Int)) (hnb : k / 128 % 128 = (nb : Int)) (hnt : k % 128 = (nt : Int)) (za : tY.length ≤ na) (w : World) (hS : IsS 10 Fx.enc w rt ct tY) : Calls Tryz.prog 33 #[.agg #[.slice rc lc cc, .slice rt tY.length ct, .slice rv lv cv, .slice rm lm cm, .int .i64 cells, .slice ri li ci, .slice rs ls cs, .slice ro lo co, .slice rn ln cn], .agg #[.int .i64 7, .int .i64 a, .int .i64 b, .int .i64 c, .int .i64 k]] w fun e w' => e = .returned (.bool (false)) ∧ Below w.heap.size w w' := by
 obtain ⟨m, HM, hm⟩ := yae k
 have hk2 := hk
 unfold I64 at hk2
 simp [Lit.wf, IntKind.min, IntKind.max, IntKind.bits, IntKind.signed] at hk2
 have hm0 : m = k := by omega
 rw [hm0] at HM
 clear hm0 hm
 have HTY := H! (fun W => yac k (by omega) hk W)
 have hmx := Nat.le_trans hS.le hS.max
 unfold maxLen at hmx
 have ia : (tY.length : Int) ≤ (na : Int) := by omega
 have ml : (tY.length : Int) ≤ 9223372036854775807 := by omega
 rw [hna, hnb, hnt] at HTY
 clear hS
 go_enter Tryz.func33, Tryz.ntmps33
 go_wp2_with (first | (go_at_call 77; refine (HTY.out _).mono ?_; rintro _ _ ⟨rfl, rfl⟩))
 all_goals go_ret
 all_goals exact ⟨by first | rfl | (simp [*]; done), bw⟩
theorem na_7_b (a b c k : Int) (hk : I64 k) (h0 : 0 ≤ k) (na nb nt : Nat) (hna : k / 16384 = (na : Int)) (hnb : k / 128 % 128 = (nb : Int)) (hnt : k % 128 = (nt : Int)) (ha : na < tY.length) (zb : tY.length ≤ nb) (w : World) (hS : IsS 10 Fx.enc w rt ct tY) : Calls Tryz.prog 33 #[.agg #[.slice rc lc cc, .slice rt tY.length ct, .slice rv lv cv, .slice rm lm cm, .int .i64 cells, .slice ri li ci, .slice rs ls cs, .slice ro lo co, .slice rn ln cn], .agg #[.int .i64 7, .int .i64 a, .int .i64 b, .int .i64 c, .int .i64 k]] w fun e w' => e = .returned (.bool (false)) ∧ Below w.heap.size w w' := by
 obtain ⟨m, HM, hm⟩ := yae k
 have hk2 := hk
 unfold I64 at hk2
 simp [Lit.wf, IntKind.min, IntKind.max, IntKind.bits, IntKind.signed] at hk2
 have hm0 : m = k := by omega
 rw [hm0] at HM
 clear hm0 hm
 have HTY := H! (fun W => yac k (by omega) hk W)
 have hmx := Nat.le_trans hS.le hS.max
 unfold maxLen at hmx
 have ia : (na : Int) < (tY.length : Int) := by omega
 have ja : (0 : Int) ≤ (na : Int) := by omega
 have ib : (tY.length : Int) ≤ (nb : Int) := by omega
 have ml : (tY.length : Int) ≤ 9223372036854775807 := by omega
 rw [hna, hnb, hnt] at HTY
 clear hS
 go_enter Tryz.func33, Tryz.ntmps33
 go_wp2_with (first | (go_at_call 77; refine (HTY.out _).mono ?_; rintro _ _ ⟨rfl, rfl⟩))
 all_goals go_ret
 all_goals exact ⟨by first | rfl | (simp [*]; done), bw⟩
theorem na_7_t (a b c k : Int) (hk : I64 k) (h0 : 0 ≤ k) (na nb nt : Nat) (hna : k / 16384 = (na : Int)) (hnb : k / 128 % 128 = (nb : Int)) (hnt : k % 128 = (nt : Int)) (ha : na < tY.length) (hb : nb < tY.length) (zt : tY.length ≤ nt) (w : World) (hS : IsS 10 Fx.enc w rt ct tY) : Calls Tryz.prog 33 #[.agg #[.slice rc lc cc, .slice rt tY.length ct, .slice rv lv cv, .slice rm lm cm, .int .i64 cells, .slice ri li ci, .slice rs ls cs, .slice ro lo co, .slice rn ln cn], .agg #[.int .i64 7, .int .i64 a, .int .i64 b, .int .i64 c, .int .i64 k]] w fun e w' => e = .returned (.bool (false)) ∧ Below w.heap.size w w' := by
 obtain ⟨m, HM, hm⟩ := yae k
 have hk2 := hk
 unfold I64 at hk2
 simp [Lit.wf, IntKind.min, IntKind.max, IntKind.bits, IntKind.signed] at hk2
 have hm0 : m = k := by omega
 rw [hm0] at HM
 clear hm0 hm
 have HTY := H! (fun W => yac k (by omega) hk W)
 have hmx := Nat.le_trans hS.le hS.max
 unfold maxLen at hmx
 have ia : (na : Int) < (tY.length : Int) := by omega
 have ja : (0 : Int) ≤ (na : Int) := by omega
 have ib : (nb : Int) < (tY.length : Int) := by omega
 have jb : (0 : Int) ≤ (nb : Int) := by omega
 have it : (tY.length : Int) ≤ (nt : Int) := by omega
 have ml : (tY.length : Int) ≤ 9223372036854775807 := by omega
 rw [hna, hnb, hnt] at HTY
 clear hS
 go_enter Tryz.func33, Tryz.ntmps33
 go_wp2_with (first | (go_at_call 77; refine (HTY.out _).mono ?_; rintro _ _ ⟨rfl, rfl⟩))
 all_goals go_ret
 all_goals exact ⟨by first | rfl | (simp [*]; done), bw⟩
theorem na_7_ok (a b c k : Int) (hk : I64 k) (h0 : 0 ≤ k) (na nb nt : Nat) (hna : k / 16384 = (na : Int)) (hnb : k / 128 % 128 = (nb : Int)) (hnt : k % 128 = (nt : Int)) (ha : na < tY.length) (hb : nb < tY.length) (ht : nt < tY.length) (w : World) (hS : IsS 10 Fx.enc w rt ct tY) : Calls Tryz.prog 33 #[.agg #[.slice rc lc cc, .slice rt tY.length ct, .slice rv lv cv, .slice rm lm cm, .int .i64 cells, .slice ri li ci, .slice rs ls cs, .slice ro lo co, .slice rn ln cn], .agg #[.int .i64 7, .int .i64 a, .int .i64 b, .int .i64 c, .int .i64 k]] w fun e w' => e = .returned (.bool (yap 7 (tY.getD na default) (tY.getD nb default) (tY.getD nt default))) ∧ Below w.heap.size w w' := by
 obtain ⟨m, HM, hm⟩ := yae k
 have hk2 := hk
 unfold I64 at hk2
 simp [Lit.wf, IntKind.min, IntKind.max, IntKind.bits, IntKind.signed] at hk2
 have hm0 : m = k := by omega
 rw [hm0] at HM
 clear hm0 hm
 have HTY := H! (fun W => yac k (by omega) hk W)
 have hmx := Nat.le_trans hS.le hS.max
 unfold maxLen at hmx
 have ia : (na : Int) < (tY.length : Int) := by omega
 have ja : (0 : Int) ≤ (na : Int) := by omega
 have ib : (nb : Int) < (tY.length : Int) := by omega
 have jb : (0 : Int) ≤ (nb : Int) := by omega
 have it : (nt : Int) < (tY.length : Int) := by omega
 have jt : (0 : Int) ≤ (nt : Int) := by omega
 have ml : (tY.length : Int) ≤ 9223372036854775807 := by omega
 rw [hna, hnb, hnt] at HTY
 obtain ⟨bXa, offa, hra, hba, hca⟩ := hS.at_ ha
 subst hra
 have ha0 : w.cell? ⟨bXa, offa + na * 10 + 5, none⟩ = some (.int .i64 (tY.getD na default).m) := hca 5 _ rfl
 have ha1 : w.cell? ⟨bXa, offa + na * 10 + 6, none⟩ = some (.int .i64 (tY.getD na default).kg) := hca 6 _ rfl
 have ha2 : w.cell? ⟨bXa, offa + na * 10 + 7, none⟩ = some (.int .i64 (tY.getD na default).s) := hca 7 _ rfl
 have ha3 : w.cell? ⟨bXa, offa + na * 10 + 8, none⟩ = some (.int .i64 (tY.getD na default).a) := hca 8 _ rfl
 have ha4 : w.cell? ⟨bXa, offa + na * 10 + 9, none⟩ = some (.int .i64 (tY.getD na default).k) := hca 9 _ rfl
 clear hca
 obtain ⟨bXb, offb, hrb, hbb, hcb⟩ := hS.at_ hb
 simp only [Option.some.injEq, Addr.mk.injEq, and_true] at hrb
 obtain ⟨rfl, rfl⟩ := hrb
 have hb0 : w.cell? ⟨bXa, offa + nb * 10 + 5, none⟩ = some (.int .i64 (tY.getD nb default).m) := hcb 5 _ rfl
 have hb1 : w.cell? ⟨bXa, offa + nb * 10 + 6, none⟩ = some (.int .i64 (tY.getD nb default).kg) := hcb 6 _ rfl
 have hb2 : w.cell? ⟨bXa, offa + nb * 10 + 7, none⟩ = some (.int .i64 (tY.getD nb default).s) := hcb 7 _ rfl
 have hb3 : w.cell? ⟨bXa, offa + nb * 10 + 8, none⟩ = some (.int .i64 (tY.getD nb default).a) := hcb 8 _ rfl
 have hb4 : w.cell? ⟨bXa, offa + nb * 10 + 9, none⟩ = some (.int .i64 (tY.getD nb default).k) := hcb 9 _ rfl
 clear hcb
 obtain ⟨bXt, offt, hrt, hbt, hct⟩ := hS.at_ ht
 simp only [Option.some.injEq, Addr.mk.injEq, and_true] at hrt
 obtain ⟨rfl, rfl⟩ := hrt
 have ht0 : w.cell? ⟨bXa, offa + nt * 10 + 5, none⟩ = some (.int .i64 (tY.getD nt default).m) := hct 5 _ rfl
 have ht1 : w.cell? ⟨bXa, offa + nt * 10 + 6, none⟩ = some (.int .i64 (tY.getD nt default).kg) := hct 6 _ rfl
 have ht2 : w.cell? ⟨bXa, offa + nt * 10 + 7, none⟩ = some (.int .i64 (tY.getD nt default).s) := hct 7 _ rfl
 have ht3 : w.cell? ⟨bXa, offa + nt * 10 + 8, none⟩ = some (.int .i64 (tY.getD nt default).a) := hct 8 _ rfl
 have ht4 : w.cell? ⟨bXa, offa + nt * 10 + 9, none⟩ = some (.int .i64 (tY.getD nt default).k) := hct 9 _ rfl
 clear hct
 clear hS
 have HUB : Hid (yap 7 (tY.getD na default) (tY.getD nb default) (tY.getD nt default) = (decide (yav (1) (tY.getD na default).m (tY.getD na default).kg (tY.getD na default).s (tY.getD na default).a (tY.getD na default).k (tY.getD nb default).m (tY.getD nb default).kg (tY.getD nb default).s (tY.getD nb default).a (tY.getD nb default).k = 0) && ueq (yam (1) (tY.getD na default).m (tY.getD nb default).m (yav (1) (tY.getD na default).m (tY.getD na default).kg (tY.getD na default).s (tY.getD na default).a (tY.getD na default).k (tY.getD nb default).m (tY.getD nb default).kg (tY.getD nb default).s (tY.getD nb default).a (tY.getD nb default).k)) (yam (1) (tY.getD na default).kg (tY.getD nb default).kg (yav (1) (tY.getD na default).m (tY.getD na default).kg (tY.getD na default).s (tY.getD na default).a (tY.getD na default).k (tY.getD nb default).m (tY.getD nb default).kg (tY.getD nb default).s (tY.getD nb default).a (tY.getD nb default).k)) (yam (1) (tY.getD na default).s (tY.getD nb default).s (yav (1) (tY.getD na default).m (tY.getD na default).kg (tY.getD na default).s (tY.getD na default).a (tY.getD na default).k (tY.getD nb default).m (tY.getD nb default).kg (tY.getD nb default).s (tY.getD nb default).a (tY.getD nb default).k)) (yam (1) (tY.getD na default).a (tY.getD nb default).a (yav (1) (tY.getD na default).m (tY.getD na default).kg (tY.getD na default).s (tY.getD na default).a (tY.getD na default).k (tY.getD nb default).m (tY.getD nb default).kg (tY.getD nb default).s (tY.getD nb default).a (tY.getD nb default).k)) (yam (1) (tY.getD na default).k (tY.getD nb default).k (yav (1) (tY.getD na default).m (tY.getD na default).kg (tY.getD na default).s (tY.getD na default).a (tY.getD na default).k (tY.getD nb default).m (tY.getD nb default).kg (tY.getD nb default).s (tY.getD nb default).a (tY.getD nb default).k)) (tY.getD nt default).m (tY.getD nt default).kg (tY.getD nt default).s (tY.getD nt default).a (tY.getD nt default).k)) := H! (by unfold yap; simp)
 rw [HUB.out]
 clear HUB
 generalize (tY.getD na default) = Ta at *
 obtain ⟨va0, va1, va2, va3, va4, va5, va6, va7, va8, va9⟩ := Ta
 generalize (tY.getD nb default) = Tb at *
 obtain ⟨vb0, vb1, vb2, vb3, vb4, vb5, vb6, vb7, vb8, vb9⟩ := Tb
 generalize (tY.getD nt default) = Tt at *
 obtain ⟨vt0, vt1, vt2, vt3, vt4, vt5, vt6, vt7, vt8, vt9⟩ := Tt
 simp only at ha0 ha1 ha2 ha3 ha4 hb0 hb1 hb2 hb3 hb4 ht0 ht1 ht2 ht3 ht4 ⊢
 have qz1 : bXa < w.heap.size + 1 := by omega
 have qz2 : bXa < w.heap.size + 1 + 1 := by omega
 have HUN := H! (fun W => un4_3 va5 va6 va7 va8 va9 vb5 vb6 vb7 vb8 vb9 W)
 generalize hE : yav (1) va5 va6 va7 va8 va9 vb5 vb6 vb7 vb8 vb9 = E at *
 generalize yam (1) va5 vb5 E = u5 at *
 generalize yam (1) va6 vb6 E = u6 at *
 generalize yam (1) va7 vb7 E = u7 at *
 generalize yam (1) va8 vb8 E = u8 at *
 generalize yam (1) va9 vb9 E = u9 at *
 have HE2 := ybj u5 u6 u7 u8 u9 vt5 vt6 vt7 vt8 vt9
 generalize ueq u5 u6 u7 u8 u9 vt5 vt6 vt7 vt8 vt9 = R2 at *
 generalize decide (E = 0) = R1 at *
 go_enter Tryz.func33, Tryz.ntmps33
 go_wp2_with (first | (go_at_call 77; refine (HTY.out _).mono ?_; rintro _ _ ⟨rfl, rfl⟩))
 refine yba (P := fun W => Code.wp _ _ _ _ W) _ ?_
 intro W9 hW9
 have p1 : W9.cell? ⟨w.heap.size, 1, none⟩ = some (.slice (some ⟨bXa, offa, none⟩) tY.length ct) := by rw [hW9]; first | go_keep | (simp [go_sem]; done)
 have p2 : W9.cell? ⟨w.heap.size + 1, 0, none⟩ = some (.int .i64 7) := by rw [hW9]; first | go_keep | (simp [go_sem]; done)
 have ga0 : W9.cell? ⟨bXa, offa + na * 10 + 5, none⟩ = some (.int .i64 va5) := by rw [hW9]; first | go_keep | (simp [go_sem, *]; done)
 have ga1 : W9.cell? ⟨bXa, offa + na * 10 + 6, none⟩ = some (.int .i64 va6) := by rw [hW9]; first | go_keep | (simp [go_sem, *]; done)
 have ga2 : W9.cell? ⟨bXa, offa + na * 10 + 7, none⟩ = some (.int .i64 va7) := by rw [hW9]; first | go_keep | (simp [go_sem, *]; done)
 have ga3 : W9.cell? ⟨bXa, offa + na * 10 + 8, none⟩ = some (.int .i64 va8) := by rw [hW9]; first | go_keep | (simp [go_sem, *]; done)
 have ga4 : W9.cell? ⟨bXa, offa + na * 10 + 9, none⟩ = some (.int .i64 va9) := by rw [hW9]; first | go_keep | (simp [go_sem, *]; done)
 have gb0 : W9.cell? ⟨bXa, offa + nb * 10 + 5, none⟩ = some (.int .i64 vb5) := by rw [hW9]; first | go_keep | (simp [go_sem, *]; done)
 have gb1 : W9.cell? ⟨bXa, offa + nb * 10 + 6, none⟩ = some (.int .i64 vb6) := by rw [hW9]; first | go_keep | (simp [go_sem, *]; done)
 have gb2 : W9.cell? ⟨bXa, offa + nb * 10 + 7, none⟩ = some (.int .i64 vb7) := by rw [hW9]; first | go_keep | (simp [go_sem, *]; done)
 have gb3 : W9.cell? ⟨bXa, offa + nb * 10 + 8, none⟩ = some (.int .i64 vb8) := by rw [hW9]; first | go_keep | (simp [go_sem, *]; done)
 have gb4 : W9.cell? ⟨bXa, offa + nb * 10 + 9, none⟩ = some (.int .i64 vb9) := by rw [hW9]; first | go_keep | (simp [go_sem, *]; done)
 have gt0 : W9.cell? ⟨bXa, offa + nt * 10 + 5, none⟩ = some (.int .i64 vt5) := by rw [hW9]; first | go_keep | (simp [go_sem, *]; done)
 have gt1 : W9.cell? ⟨bXa, offa + nt * 10 + 6, none⟩ = some (.int .i64 vt6) := by rw [hW9]; first | go_keep | (simp [go_sem, *]; done)
 have gt2 : W9.cell? ⟨bXa, offa + nt * 10 + 7, none⟩ = some (.int .i64 vt7) := by rw [hW9]; first | go_keep | (simp [go_sem, *]; done)
 have gt3 : W9.cell? ⟨bXa, offa + nt * 10 + 8, none⟩ = some (.int .i64 vt8) := by rw [hW9]; first | go_keep | (simp [go_sem, *]; done)
 have gt4 : W9.cell? ⟨bXa, offa + nt * 10 + 9, none⟩ = some (.int .i64 vt9) := by rw [hW9]; first | go_keep | (simp [go_sem, *]; done)
 have s0 : w.heap.size < W9.heap.size := by rw [hW9]; simp only [zA]; omega
 have s1 : w.heap.size + 1 < W9.heap.size := by rw [hW9]; simp only [zA]; omega
 have sX : bXa < W9.heap.size := by omega
 have hB9 : Below w.heap.size w W9 := by rw [hW9]; (exact bw)
 clear hW9 ha0 ha1 ha2 ha3 ha4 hb0 hb1 hb2 hb3 hb4 ht0 ht1 ht2 ht3 ht4
 have HS : ∀ V, Below W9.heap.size W9 V → V.cell? ⟨w.heap.size, 1, none⟩ = some (.slice (some ⟨bXa, offa, none⟩) tY.length ct) ∧ V.cell? ⟨w.heap.size + 1, 0, none⟩ = some (.int .i64 7) ∧ V.cell? ⟨bXa, offa + na * 10 + 5, none⟩ = some (.int .i64 va5) ∧ V.cell? ⟨bXa, offa + na * 10 + 6, none⟩ = some (.int .i64 va6) ∧ V.cell? ⟨bXa, offa + na * 10 + 7, none⟩ = some (.int .i64 va7) ∧ V.cell? ⟨bXa, offa + na * 10 + 8, none⟩ = some (.int .i64 va8) ∧ V.cell? ⟨bXa, offa + na * 10 + 9, none⟩ = some (.int .i64 va9) ∧ V.cell? ⟨bXa, offa + nb * 10 + 5, none⟩ = some (.int .i64 vb5) ∧ V.cell? ⟨bXa, offa + nb * 10 + 6, none⟩ = some (.int .i64 vb6) ∧ V.cell? ⟨bXa, offa + nb * 10 + 7, none⟩ = some (.int .i64 vb7) ∧ V.cell? ⟨bXa, offa + nb * 10 + 8, none⟩ = some (.int .i64 vb8) ∧ V.cell? ⟨bXa, offa + nb * 10 + 9, none⟩ = some (.int .i64 vb9) ∧ V.cell? ⟨bXa, offa + nt * 10 + 5, none⟩ = some (.int .i64 vt5) ∧ V.cell? ⟨bXa, offa + nt * 10 + 6, none⟩ = some (.int .i64 vt6) ∧ V.cell? ⟨bXa, offa + nt * 10 + 7, none⟩ = some (.int .i64 vt7) ∧ V.cell? ⟨bXa, offa + nt * 10 + 8, none⟩ = some (.int .i64 vt8) ∧ V.cell? ⟨bXa, offa + nt * 10 + 9, none⟩ = some (.int .i64 vt9) := fun V hV => ⟨(hV.cell (p := ⟨w.heap.size, 1, none⟩) s0).trans p1, (hV.cell (p := ⟨w.heap.size + 1, 0, none⟩) s1).trans p2, (hV.cell (p := ⟨bXa, offa + na * 10 + 5, none⟩) sX).trans ga0, (hV.cell (p := ⟨bXa, offa + na * 10 + 6, none⟩) sX).trans ga1, (hV.cell (p := ⟨bXa, offa + na * 10 + 7, none⟩) sX).trans ga2, (hV.cell (p := ⟨bXa, offa + na * 10 + 8, none⟩) sX).trans ga3, (hV.cell (p := ⟨bXa, offa + na * 10 + 9, none⟩) sX).trans ga4, (hV.cell (p := ⟨bXa, offa + nb * 10 + 5, none⟩) sX).trans gb0, (hV.cell (p := ⟨bXa, offa + nb * 10 + 6, none⟩) sX).trans gb1, (hV.cell (p := ⟨bXa, offa + nb * 10 + 7, none⟩) sX).trans gb2, (hV.cell (p := ⟨bXa, offa + nb * 10 + 8, none⟩) sX).trans gb3, (hV.cell (p := ⟨bXa, offa + nb * 10 + 9, none⟩) sX).trans gb4, (hV.cell (p := ⟨bXa, offa + nt * 10 + 5, none⟩) sX).trans gt0, (hV.cell (p := ⟨bXa, offa + nt * 10 + 6, none⟩) sX).trans gt1, (hV.cell (p := ⟨bXa, offa + nt * 10 + 7, none⟩) sX).trans gt2, (hV.cell (p := ⟨bXa, offa + nt * 10 + 8, none⟩) sX).trans gt3, (hV.cell (p := ⟨bXa, offa + nt * 10 + 9, none⟩) sX).trans gt4⟩
 go_region_held3 (fun v => v.cell? ⟨w.heap.size, 1, none⟩ = some (.slice (some ⟨bXa, offa, none⟩) tY.length ct) ∧ v.cell? ⟨w.heap.size + 1, 0, none⟩ = some (.int .i64 7) ∧ v.cell? ⟨bXa, offa + na * 10 + 5, none⟩ = some (.int .i64 va5) ∧ v.cell? ⟨bXa, offa + na * 10 + 6, none⟩ = some (.int .i64 va6) ∧ v.cell? ⟨bXa, offa + na * 10 + 7, none⟩ = some (.int .i64 va7) ∧ v.cell? ⟨bXa, offa + na * 10 + 8, none⟩ = some (.int .i64 va8) ∧ v.cell? ⟨bXa, offa + na * 10 + 9, none⟩ = some (.int .i64 va9) ∧ v.cell? ⟨bXa, offa + nb * 10 + 5, none⟩ = some (.int .i64 vb5) ∧ v.cell? ⟨bXa, offa + nb * 10 + 6, none⟩ = some (.int .i64 vb6) ∧ v.cell? ⟨bXa, offa + nb * 10 + 7, none⟩ = some (.int .i64 vb7) ∧ v.cell? ⟨bXa, offa + nb * 10 + 8, none⟩ = some (.int .i64 vb8) ∧ v.cell? ⟨bXa, offa + nb * 10 + 9, none⟩ = some (.int .i64 vb9) ∧ v.cell? ⟨bXa, offa + nt * 10 + 5, none⟩ = some (.int .i64 vt5) ∧ v.cell? ⟨bXa, offa + nt * 10 + 6, none⟩ = some (.int .i64 vt6) ∧ v.cell? ⟨bXa, offa + nt * 10 + 7, none⟩ = some (.int .i64 vt7) ∧ v.cell? ⟨bXa, offa + nt * 10 + 8, none⟩ = some (.int .i64 vt8) ∧ v.cell? ⟨bXa, offa + nt * 10 + 9, none⟩ = some (.int .i64 vt9)) (exact HS _ bw) (first | (go_at_call 78; rw [show IntKind.i64.wrap 3 = 3 from rfl]; with_reducible (refine (HUN.out _).mono ?_); rintro _ w1 ⟨rfl, hb1⟩; obtain ⟨hb1c, hb1f⟩ := yah hb1; have hb1s := hb1.size; (try simp only [zA, World.size_drew] at hb1s); have x0 : w.heap.size < w1.heap.size := (by omega); have xX : bXa < w1.heap.size := (by omega); have y0 : w.heap.size < w1.heap.size + 1 := (by omega); have yX : bXa < w1.heap.size + 1 := (by omega); have v0 : ¬ w.heap.size = w1.heap.size := (by omega); have vX : ¬ bXa = w1.heap.size := (by omega); have v1 : ¬ w1.heap.size = w.heap.size := (by omega); have vY : ¬ w1.heap.size = bXa := (by omega)))
 all_goals cases R1
 all_goals go_wp2
 all_goals go_quiet (fail)
 all_goals go_wp2
 all_goals go_ret
 all_goals exact ⟨by first | rfl | (simp [*]; done), bw⟩
end
section
variable (rc : Option Addr) (lc cc : Nat) (rt : Option Addr) (ct : Nat) (tY : List Fx) (rv : Option Addr) (lv cv : Nat) (rm : Option Addr) (lm cm : Nat) (cells : Int) (ri : Option Addr) (li ci : Nat) (rs : Option Addr) (ls cs : Nat) (ro : Option Addr) (lo co : Nat) (rn : Option Addr) (ln cn : Nat)
theorem na_8_a (a b c k : Int) (hk : I64 k) (h0 : 0 ≤ k) (na nb nt : Nat) (hna : k / 16384 = (na : Int)) (hnb : k / 128 % 128 = (nb : Int)) (hnt : k % 128 = (nt : Int)) (za : tY.length ≤ na) (w : World) (hS : IsS 10 Fx.enc w rt ct tY) : Calls Tryz.prog 33 #[.agg #[.slice rc lc cc, .slice rt tY.length ct, .slice rv lv cv, .slice rm lm cm, .int .i64 cells, .slice ri li ci, .slice rs ls cs, .slice ro lo co, .slice rn ln cn], .agg #[.int .i64 8, .int .i64 a, .int .i64 b, .int .i64 c, .int .i64 k]] w fun e w' => e = .returned (.bool (false)) ∧ Below w.heap.size w w' := by
 obtain ⟨m, HM, hm⟩ := yae k
 have hk2 := hk
 unfold I64 at hk2
 simp [Lit.wf, IntKind.min, IntKind.max, IntKind.bits, IntKind.signed] at hk2
 have hm0 : m = k := by omega
 rw [hm0] at HM
 clear hm0 hm
 have HTY := H! (fun W => yac k (by omega) hk W)
 have hmx := Nat.le_trans hS.le hS.max
 unfold maxLen at hmx
 have ia : (tY.length : Int) ≤ (na : Int) := by omega
 have ml : (tY.length : Int) ≤ 9223372036854775807 := by omega
 rw [hna, hnb, hnt] at HTY
 clear hS
 go_enter Tryz.func33, Tryz.ntmps33
 go_wp2_with (first | (go_at_call 77; refine (HTY.out _).mono ?_; rintro _ _ ⟨rfl, rfl⟩))
 all_goals go_ret
 all_goals exact ⟨by first | rfl | (simp [*]; done), bw⟩
theorem na_8_b (a b c k : Int) (hk : I64 k) (h0 : 0 ≤ k) (na nb nt : Nat) (hna : k / 16384 = (na : Int)) (hnb : k / 128 % 128 = (nb : Int)) (hnt : k % 128 = (nt : Int)) (ha : na < tY.length) (zb : tY.length ≤ nb) (w : World) (hS : IsS 10 Fx.enc w rt ct tY) : Calls Tryz.prog 33 #[.agg #[.slice rc lc cc, .slice rt tY.length ct, .slice rv lv cv, .slice rm lm cm, .int .i64 cells, .slice ri li ci, .slice rs ls cs, .slice ro lo co, .slice rn ln cn], .agg #[.int .i64 8, .int .i64 a, .int .i64 b, .int .i64 c, .int .i64 k]] w fun e w' => e = .returned (.bool (false)) ∧ Below w.heap.size w w' := by
 obtain ⟨m, HM, hm⟩ := yae k
 have hk2 := hk
 unfold I64 at hk2
 simp [Lit.wf, IntKind.min, IntKind.max, IntKind.bits, IntKind.signed] at hk2
 have hm0 : m = k := by omega
 rw [hm0] at HM
 clear hm0 hm
 have HTY := H! (fun W => yac k (by omega) hk W)
 have hmx := Nat.le_trans hS.le hS.max
 unfold maxLen at hmx
 have ia : (na : Int) < (tY.length : Int) := by omega
 have ja : (0 : Int) ≤ (na : Int) := by omega
 have ib : (tY.length : Int) ≤ (nb : Int) := by omega
 have ml : (tY.length : Int) ≤ 9223372036854775807 := by omega
 rw [hna, hnb, hnt] at HTY
 clear hS
 go_enter Tryz.func33, Tryz.ntmps33
 go_wp2_with (first | (go_at_call 77; refine (HTY.out _).mono ?_; rintro _ _ ⟨rfl, rfl⟩))
 all_goals go_ret
 all_goals exact ⟨by first | rfl | (simp [*]; done), bw⟩
theorem na_8_t (a b c k : Int) (hk : I64 k) (h0 : 0 ≤ k) (na nb nt : Nat) (hna : k / 16384 = (na : Int)) (hnb : k / 128 % 128 = (nb : Int)) (hnt : k % 128 = (nt : Int)) (ha : na < tY.length) (hb : nb < tY.length) (zt : tY.length ≤ nt) (w : World) (hS : IsS 10 Fx.enc w rt ct tY) : Calls Tryz.prog 33 #[.agg #[.slice rc lc cc, .slice rt tY.length ct, .slice rv lv cv, .slice rm lm cm, .int .i64 cells, .slice ri li ci, .slice rs ls cs, .slice ro lo co, .slice rn ln cn], .agg #[.int .i64 8, .int .i64 a, .int .i64 b, .int .i64 c, .int .i64 k]] w fun e w' => e = .returned (.bool (false)) ∧ Below w.heap.size w w' := by
 obtain ⟨m, HM, hm⟩ := yae k
 have hk2 := hk
 unfold I64 at hk2
 simp [Lit.wf, IntKind.min, IntKind.max, IntKind.bits, IntKind.signed] at hk2
 have hm0 : m = k := by omega
 rw [hm0] at HM
 clear hm0 hm
 have HTY := H! (fun W => yac k (by omega) hk W)
 have hmx := Nat.le_trans hS.le hS.max
 unfold maxLen at hmx
 have ia : (na : Int) < (tY.length : Int) := by omega
 have ja : (0 : Int) ≤ (na : Int) := by omega
 have ib : (nb : Int) < (tY.length : Int) := by omega
 have jb : (0 : Int) ≤ (nb : Int) := by omega
 have it : (tY.length : Int) ≤ (nt : Int) := by omega
 have ml : (tY.length : Int) ≤ 9223372036854775807 := by omega
 rw [hna, hnb, hnt] at HTY
 clear hS
 go_enter Tryz.func33, Tryz.ntmps33
 go_wp2_with (first | (go_at_call 77; refine (HTY.out _).mono ?_; rintro _ _ ⟨rfl, rfl⟩))
 all_goals go_ret
 all_goals exact ⟨by first | rfl | (simp [*]; done), bw⟩
theorem na_8_ok (a b c k : Int) (hk : I64 k) (h0 : 0 ≤ k) (na nb nt : Nat) (hna : k / 16384 = (na : Int)) (hnb : k / 128 % 128 = (nb : Int)) (hnt : k % 128 = (nt : Int)) (ha : na < tY.length) (hb : nb < tY.length) (ht : nt < tY.length) (w : World) (hS : IsS 10 Fx.enc w rt ct tY) : Calls Tryz.prog 33 #[.agg #[.slice rc lc cc, .slice rt tY.length ct, .slice rv lv cv, .slice rm lm cm, .int .i64 cells, .slice ri li ci, .slice rs ls cs, .slice ro lo co, .slice rn ln cn], .agg #[.int .i64 8, .int .i64 a, .int .i64 b, .int .i64 c, .int .i64 k]] w fun e w' => e = .returned (.bool (yap 8 (tY.getD na default) (tY.getD nb default) (tY.getD nt default))) ∧ Below w.heap.size w w' := by
 obtain ⟨m, HM, hm⟩ := yae k
 have hk2 := hk
 unfold I64 at hk2
 simp [Lit.wf, IntKind.min, IntKind.max, IntKind.bits, IntKind.signed] at hk2
 have hm0 : m = k := by omega
 rw [hm0] at HM
 clear hm0 hm
 have HTY := H! (fun W => yac k (by omega) hk W)
 have hmx := Nat.le_trans hS.le hS.max
 unfold maxLen at hmx
 have ia : (na : Int) < (tY.length : Int) := by omega
 have ja : (0 : Int) ≤ (na : Int) := by omega
 have ib : (nb : Int) < (tY.length : Int) := by omega
 have jb : (0 : Int) ≤ (nb : Int) := by omega
 have it : (nt : Int) < (tY.length : Int) := by omega
 have jt : (0 : Int) ≤ (nt : Int) := by omega
 have ml : (tY.length : Int) ≤ 9223372036854775807 := by omega
 rw [hna, hnb, hnt] at HTY
 obtain ⟨bXa, offa, hra, hba, hca⟩ := hS.at_ ha
 subst hra
 have ha0 : w.cell? ⟨bXa, offa + na * 10 + 5, none⟩ = some (.int .i64 (tY.getD na default).m) := hca 5 _ rfl
 have ha1 : w.cell? ⟨bXa, offa + na * 10 + 6, none⟩ = some (.int .i64 (tY.getD na default).kg) := hca 6 _ rfl
 have ha2 : w.cell? ⟨bXa, offa + na * 10 + 7, none⟩ = some (.int .i64 (tY.getD na default).s) := hca 7 _ rfl
 have ha3 : w.cell? ⟨bXa, offa + na * 10 + 8, none⟩ = some (.int .i64 (tY.getD na default).a) := hca 8 _ rfl
 have ha4 : w.cell? ⟨bXa, offa + na * 10 + 9, none⟩ = some (.int .i64 (tY.getD na default).k) := hca 9 _ rfl
 clear hca
 obtain ⟨bXb, offb, hrb, hbb, hcb⟩ := hS.at_ hb
 simp only [Option.some.injEq, Addr.mk.injEq, and_true] at hrb
 obtain ⟨rfl, rfl⟩ := hrb
 have hb0 : w.cell? ⟨bXa, offa + nb * 10 + 5, none⟩ = some (.int .i64 (tY.getD nb default).m) := hcb 5 _ rfl
 have hb1 : w.cell? ⟨bXa, offa + nb * 10 + 6, none⟩ = some (.int .i64 (tY.getD nb default).kg) := hcb 6 _ rfl
 have hb2 : w.cell? ⟨bXa, offa + nb * 10 + 7, none⟩ = some (.int .i64 (tY.getD nb default).s) := hcb 7 _ rfl
 have hb3 : w.cell? ⟨bXa, offa + nb * 10 + 8, none⟩ = some (.int .i64 (tY.getD nb default).a) := hcb 8 _ rfl
 have hb4 : w.cell? ⟨bXa, offa + nb * 10 + 9, none⟩ = some (.int .i64 (tY.getD nb default).k) := hcb 9 _ rfl
 clear hcb
 obtain ⟨bXt, offt, hrt, hbt, hct⟩ := hS.at_ ht
 simp only [Option.some.injEq, Addr.mk.injEq, and_true] at hrt
 obtain ⟨rfl, rfl⟩ := hrt
 have ht0 : w.cell? ⟨bXa, offa + nt * 10 + 5, none⟩ = some (.int .i64 (tY.getD nt default).m) := hct 5 _ rfl
 have ht1 : w.cell? ⟨bXa, offa + nt * 10 + 6, none⟩ = some (.int .i64 (tY.getD nt default).kg) := hct 6 _ rfl
 have ht2 : w.cell? ⟨bXa, offa + nt * 10 + 7, none⟩ = some (.int .i64 (tY.getD nt default).s) := hct 7 _ rfl
 have ht3 : w.cell? ⟨bXa, offa + nt * 10 + 8, none⟩ = some (.int .i64 (tY.getD nt default).a) := hct 8 _ rfl
 have ht4 : w.cell? ⟨bXa, offa + nt * 10 + 9, none⟩ = some (.int .i64 (tY.getD nt default).k) := hct 9 _ rfl
 clear hct
 clear hS
 have HUB : Hid (yap 8 (tY.getD na default) (tY.getD nb default) (tY.getD nt default) = (decide (yav (-1) (tY.getD na default).m (tY.getD na default).kg (tY.getD na default).s (tY.getD na default).a (tY.getD na default).k (tY.getD nb default).m (tY.getD nb default).kg (tY.getD nb default).s (tY.getD nb default).a (tY.getD nb default).k = 0) && ueq (yam (-1) (tY.getD na default).m (tY.getD nb default).m (yav (-1) (tY.getD na default).m (tY.getD na default).kg (tY.getD na default).s (tY.getD na default).a (tY.getD na default).k (tY.getD nb default).m (tY.getD nb default).kg (tY.getD nb default).s (tY.getD nb default).a (tY.getD nb default).k)) (yam (-1) (tY.getD na default).kg (tY.getD nb default).kg (yav (-1) (tY.getD na default).m (tY.getD na default).kg (tY.getD na default).s (tY.getD na default).a (tY.getD na default).k (tY.getD nb default).m (tY.getD nb default).kg (tY.getD nb default).s (tY.getD nb default).a (tY.getD nb default).k)) (yam (-1) (tY.getD na default).s (tY.getD nb default).s (yav (-1) (tY.getD na default).m (tY.getD na default).kg (tY.getD na default).s (tY.getD na default).a (tY.getD na default).k (tY.getD nb default).m (tY.getD nb default).kg (tY.getD nb default).s (tY.getD nb default).a (tY.getD nb default).k)) (yam (-1) (tY.getD na default).a (tY.getD nb default).a (yav (-1) (tY.getD na default).m (tY.getD na default).kg (tY.getD na default).s (tY.getD na default).a (tY.getD na default).k (tY.getD nb default).m (tY.getD nb default).kg (tY.getD nb default).s (tY.getD nb default).a (tY.getD nb default).k)) (yam (-1) (tY.getD na default).k (tY.getD nb default).k (yav (-1) (tY.getD na default).m (tY.getD na default).kg (tY.getD na default).s (tY.getD na default).a (tY.getD na default).k (tY.getD nb default).m (tY.getD nb default).kg (tY.getD nb default).s (tY.getD nb default).a (tY.getD nb default).k)) (tY.getD nt default).m (tY.getD nt default).kg (tY.getD nt default).s (tY.getD nt default).a (tY.getD nt default).k)) := H! (by unfold yap; simp)
 rw [HUB.out]
 clear HUB
 generalize (tY.getD na default) = Ta at *
 obtain ⟨va0, va1, va2, va3, va4, va5, va6, va7, va8, va9⟩ := Ta
 generalize (tY.getD nb default) = Tb at *
 obtain ⟨vb0, vb1, vb2, vb3, vb4, vb5, vb6, vb7, vb8, vb9⟩ := Tb
 generalize (tY.getD nt default) = Tt at *
 obtain ⟨vt0, vt1, vt2, vt3, vt4, vt5, vt6, vt7, vt8, vt9⟩ := Tt
 simp only at ha0 ha1 ha2 ha3 ha4 hb0 hb1 hb2 hb3 hb4 ht0 ht1 ht2 ht3 ht4 ⊢
 have qz1 : bXa < w.heap.size + 1 := by omega
 have qz2 : bXa < w.heap.size + 1 + 1 := by omega
 have HUN := H! (fun W => un4_4 va5 va6 va7 va8 va9 vb5 vb6 vb7 vb8 vb9 W)
 generalize hE : yav (-1) va5 va6 va7 va8 va9 vb5 vb6 vb7 vb8 vb9 = E at *
 generalize yam (-1) va5 vb5 E = u5 at *
 generalize yam (-1) va6 vb6 E = u6 at *
 generalize yam (-1) va7 vb7 E = u7 at *
 generalize yam (-1) va8 vb8 E = u8 at *
 generalize yam (-1) va9 vb9 E = u9 at *
 have HE2 := ybj u5 u6 u7 u8 u9 vt5 vt6 vt7 vt8 vt9
 generalize ueq u5 u6 u7 u8 u9 vt5 vt6 vt7 vt8 vt9 = R2 at *
 generalize decide (E = 0) = R1 at *
 go_enter Tryz.func33, Tryz.ntmps33
 go_wp2_with (first | (go_at_call 77; refine (HTY.out _).mono ?_; rintro _ _ ⟨rfl, rfl⟩))
 refine yba (P := fun W => Code.wp _ _ _ _ W) _ ?_
 intro W9 hW9
 have p1 : W9.cell? ⟨w.heap.size, 1, none⟩ = some (.slice (some ⟨bXa, offa, none⟩) tY.length ct) := by rw [hW9]; first | go_keep | (simp [go_sem]; done)
 have p2 : W9.cell? ⟨w.heap.size + 1, 0, none⟩ = some (.int .i64 8) := by rw [hW9]; first | go_keep | (simp [go_sem]; done)
 have ga0 : W9.cell? ⟨bXa, offa + na * 10 + 5, none⟩ = some (.int .i64 va5) := by rw [hW9]; first | go_keep | (simp [go_sem, *]; done)
 have ga1 : W9.cell? ⟨bXa, offa + na * 10 + 6, none⟩ = some (.int .i64 va6) := by rw [hW9]; first | go_keep | (simp [go_sem, *]; done)
 have ga2 : W9.cell? ⟨bXa, offa + na * 10 + 7, none⟩ = some (.int .i64 va7) := by rw [hW9]; first | go_keep | (simp [go_sem, *]; done)
 have ga3 : W9.cell? ⟨bXa, offa + na * 10 + 8, none⟩ = some (.int .i64 va8) := by rw [hW9]; first | go_keep | (simp [go_sem, *]; done)
 have ga4 : W9.cell? ⟨bXa, offa + na * 10 + 9, none⟩ = some (.int .i64 va9) := by rw [hW9]; first | go_keep | (simp [go_sem, *]; done)
 have gb0 : W9.cell? ⟨bXa, offa + nb * 10 + 5, none⟩ = some (.int .i64 vb5) := by rw [hW9]; first | go_keep | (simp [go_sem, *]; done)
 have gb1 : W9.cell? ⟨bXa, offa + nb * 10 + 6, none⟩ = some (.int .i64 vb6) := by rw [hW9]; first | go_keep | (simp [go_sem, *]; done)
 have gb2 : W9.cell? ⟨bXa, offa + nb * 10 + 7, none⟩ = some (.int .i64 vb7) := by rw [hW9]; first | go_keep | (simp [go_sem, *]; done)
 have gb3 : W9.cell? ⟨bXa, offa + nb * 10 + 8, none⟩ = some (.int .i64 vb8) := by rw [hW9]; first | go_keep | (simp [go_sem, *]; done)
 have gb4 : W9.cell? ⟨bXa, offa + nb * 10 + 9, none⟩ = some (.int .i64 vb9) := by rw [hW9]; first | go_keep | (simp [go_sem, *]; done)
 have gt0 : W9.cell? ⟨bXa, offa + nt * 10 + 5, none⟩ = some (.int .i64 vt5) := by rw [hW9]; first | go_keep | (simp [go_sem, *]; done)
 have gt1 : W9.cell? ⟨bXa, offa + nt * 10 + 6, none⟩ = some (.int .i64 vt6) := by rw [hW9]; first | go_keep | (simp [go_sem, *]; done)
 have gt2 : W9.cell? ⟨bXa, offa + nt * 10 + 7, none⟩ = some (.int .i64 vt7) := by rw [hW9]; first | go_keep | (simp [go_sem, *]; done)
 have gt3 : W9.cell? ⟨bXa, offa + nt * 10 + 8, none⟩ = some (.int .i64 vt8) := by rw [hW9]; first | go_keep | (simp [go_sem, *]; done)
 have gt4 : W9.cell? ⟨bXa, offa + nt * 10 + 9, none⟩ = some (.int .i64 vt9) := by rw [hW9]; first | go_keep | (simp [go_sem, *]; done)
 have s0 : w.heap.size < W9.heap.size := by rw [hW9]; simp only [zA]; omega
 have s1 : w.heap.size + 1 < W9.heap.size := by rw [hW9]; simp only [zA]; omega
 have sX : bXa < W9.heap.size := by omega
 have hB9 : Below w.heap.size w W9 := by rw [hW9]; (exact bw)
 clear hW9 ha0 ha1 ha2 ha3 ha4 hb0 hb1 hb2 hb3 hb4 ht0 ht1 ht2 ht3 ht4
 have HS : ∀ V, Below W9.heap.size W9 V → V.cell? ⟨w.heap.size, 1, none⟩ = some (.slice (some ⟨bXa, offa, none⟩) tY.length ct) ∧ V.cell? ⟨w.heap.size + 1, 0, none⟩ = some (.int .i64 8) ∧ V.cell? ⟨bXa, offa + na * 10 + 5, none⟩ = some (.int .i64 va5) ∧ V.cell? ⟨bXa, offa + na * 10 + 6, none⟩ = some (.int .i64 va6) ∧ V.cell? ⟨bXa, offa + na * 10 + 7, none⟩ = some (.int .i64 va7) ∧ V.cell? ⟨bXa, offa + na * 10 + 8, none⟩ = some (.int .i64 va8) ∧ V.cell? ⟨bXa, offa + na * 10 + 9, none⟩ = some (.int .i64 va9) ∧ V.cell? ⟨bXa, offa + nb * 10 + 5, none⟩ = some (.int .i64 vb5) ∧ V.cell? ⟨bXa, offa + nb * 10 + 6, none⟩ = some (.int .i64 vb6) ∧ V.cell? ⟨bXa, offa + nb * 10 + 7, none⟩ = some (.int .i64 vb7) ∧ V.cell? ⟨bXa, offa + nb * 10 + 8, none⟩ = some (.int .i64 vb8) ∧ V.cell? ⟨bXa, offa + nb * 10 + 9, none⟩ = some (.int .i64 vb9) ∧ V.cell? ⟨bXa, offa + nt * 10 + 5, none⟩ = some (.int .i64 vt5) ∧ V.cell? ⟨bXa, offa + nt * 10 + 6, none⟩ = some (.int .i64 vt6) ∧ V.cell? ⟨bXa, offa + nt * 10 + 7, none⟩ = some (.int .i64 vt7) ∧ V.cell? ⟨bXa, offa + nt * 10 + 8, none⟩ = some (.int .i64 vt8) ∧ V.cell? ⟨bXa, offa + nt * 10 + 9, none⟩ = some (.int .i64 vt9) := fun V hV => ⟨(hV.cell (p := ⟨w.heap.size, 1, none⟩) s0).trans p1, (hV.cell (p := ⟨w.heap.size + 1, 0, none⟩) s1).trans p2, (hV.cell (p := ⟨bXa, offa + na * 10 + 5, none⟩) sX).trans ga0, (hV.cell (p := ⟨bXa, offa + na * 10 + 6, none⟩) sX).trans ga1, (hV.cell (p := ⟨bXa, offa + na * 10 + 7, none⟩) sX).trans ga2, (hV.cell (p := ⟨bXa, offa + na * 10 + 8, none⟩) sX).trans ga3, (hV.cell (p := ⟨bXa, offa + na * 10 + 9, none⟩) sX).trans ga4, (hV.cell (p := ⟨bXa, offa + nb * 10 + 5, none⟩) sX).trans gb0, (hV.cell (p := ⟨bXa, offa + nb * 10 + 6, none⟩) sX).trans gb1, (hV.cell (p := ⟨bXa, offa + nb * 10 + 7, none⟩) sX).trans gb2, (hV.cell (p := ⟨bXa, offa + nb * 10 + 8, none⟩) sX).trans gb3, (hV.cell (p := ⟨bXa, offa + nb * 10 + 9, none⟩) sX).trans gb4, (hV.cell (p := ⟨bXa, offa + nt * 10 + 5, none⟩) sX).trans gt0, (hV.cell (p := ⟨bXa, offa + nt * 10 + 6, none⟩) sX).trans gt1, (hV.cell (p := ⟨bXa, offa + nt * 10 + 7, none⟩) sX).trans gt2, (hV.cell (p := ⟨bXa, offa + nt * 10 + 8, none⟩) sX).trans gt3, (hV.cell (p := ⟨bXa, offa + nt * 10 + 9, none⟩) sX).trans gt4⟩
 go_region_held3 (fun v => v.cell? ⟨w.heap.size, 1, none⟩ = some (.slice (some ⟨bXa, offa, none⟩) tY.length ct) ∧ v.cell? ⟨w.heap.size + 1, 0, none⟩ = some (.int .i64 8) ∧ v.cell? ⟨bXa, offa + na * 10 + 5, none⟩ = some (.int .i64 va5) ∧ v.cell? ⟨bXa, offa + na * 10 + 6, none⟩ = some (.int .i64 va6) ∧ v.cell? ⟨bXa, offa + na * 10 + 7, none⟩ = some (.int .i64 va7) ∧ v.cell? ⟨bXa, offa + na * 10 + 8, none⟩ = some (.int .i64 va8) ∧ v.cell? ⟨bXa, offa + na * 10 + 9, none⟩ = some (.int .i64 va9) ∧ v.cell? ⟨bXa, offa + nb * 10 + 5, none⟩ = some (.int .i64 vb5) ∧ v.cell? ⟨bXa, offa + nb * 10 + 6, none⟩ = some (.int .i64 vb6) ∧ v.cell? ⟨bXa, offa + nb * 10 + 7, none⟩ = some (.int .i64 vb7) ∧ v.cell? ⟨bXa, offa + nb * 10 + 8, none⟩ = some (.int .i64 vb8) ∧ v.cell? ⟨bXa, offa + nb * 10 + 9, none⟩ = some (.int .i64 vb9) ∧ v.cell? ⟨bXa, offa + nt * 10 + 5, none⟩ = some (.int .i64 vt5) ∧ v.cell? ⟨bXa, offa + nt * 10 + 6, none⟩ = some (.int .i64 vt6) ∧ v.cell? ⟨bXa, offa + nt * 10 + 7, none⟩ = some (.int .i64 vt7) ∧ v.cell? ⟨bXa, offa + nt * 10 + 8, none⟩ = some (.int .i64 vt8) ∧ v.cell? ⟨bXa, offa + nt * 10 + 9, none⟩ = some (.int .i64 vt9)) (exact HS _ bw) (first | (go_at_call 78; rw [show IntKind.i64.wrap 4 = 4 from rfl]; with_reducible (refine (HUN.out _).mono ?_); rintro _ w1 ⟨rfl, hb1⟩; obtain ⟨hb1c, hb1f⟩ := yah hb1; have hb1s := hb1.size; (try simp only [zA, World.size_drew] at hb1s); have x0 : w.heap.size < w1.heap.size := (by omega); have xX : bXa < w1.heap.size := (by omega); have y0 : w.heap.size < w1.heap.size + 1 := (by omega); have yX : bXa < w1.heap.size + 1 := (by omega); have v0 : ¬ w.heap.size = w1.heap.size := (by omega); have vX : ¬ bXa = w1.heap.size := (by omega); have v1 : ¬ w1.heap.size = w.heap.size := (by omega); have vY : ¬ w1.heap.size = bXa := (by omega)))
 all_goals cases R1
 all_goals go_wp2
 all_goals go_quiet (fail)
 all_goals go_wp2
 all_goals go_ret
 all_goals exact ⟨by first | rfl | (simp [*]; done), bw⟩
end
end Go.Proofs.YtfooefiaenlhmaaGreat
