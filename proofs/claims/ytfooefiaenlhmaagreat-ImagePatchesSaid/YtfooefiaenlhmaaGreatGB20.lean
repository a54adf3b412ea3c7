/- Lemmas for the laws of package magnetolaw15: what its functions return, for any arguments that the lemmas name. -/
import Derived.Test.YtfooefiaenlhmaaGreatGB7
import Derived.Test.YtfooefiaenlhmaaGreatGB8
import Derived.Test.YtfooefiaenlhmaaGreatGB9
import Derived.Test.YtfooefiaenlhmaaGreatGB17
import Derived.Test.YtfooefiaenlhmaaGreatGB18
import Derived.Test.YtfooefiaenlhmaaGreatGB19
import Derived.Deep.LoopGhost
set_option maxRecDepth 100000
namespace Go.Proofs.YtfooefiaenlhmaaGreat
set_option linter.all false
set_option maxHeartbeats 16000000
open Go.RowKit Go.ChangeShapes Go.WideShapes Go.ChangeAt
section
variable (rc : Option Addr) (lc cc : Nat) (rt : Option Addr) (ct : Nat) (tY : List Fx) (rv : Option Addr) (lv cv : Nat) (rm : Option Addr) (lm cm : Nat) (cells : Int) (ri : Option Addr) (li ci : Nat) (rs : Option Addr) (ls cs : Nat) (ro : Option Addr) (lo co : Nat) (rn : Option Addr) (ln cn : Nat)
theorem na_9_a (a b c k : Int) (hk : I64 k) (h0 : 0 ≤ k) (na nb nt : Nat) (hna : k / 16384 = (na : Int)) (hnb : k / 128 % 128 = (nb : Int)) (hnt : k % 128 = (nt : Int)) (za : tY.length ≤ na) (w : World) (hS : IsS 10 Fx.enc w rt ct tY) : Calls Tryz.prog 33 #[.agg #[.slice rc lc cc, .slice rt tY.length ct, .slice rv lv cv, .slice rm lm cm, .int .i64 cells, .slice ri li ci, .slice rs ls cs, .slice ro lo co, .slice rn ln cn], .agg #[.int .i64 9, .int .i64 a, .int .i64 b, .int .i64 c, .int .i64 k]] w fun e w' => e = .returned (.bool (false)) ∧ Below w.heap.size w w' := by
 obtain ⟨m, HM, hm⟩ := yae k
 have hk2 := hk
 unfold I64 at hk2
 simp [Lit.wf, IntKind.min, IntKind.max, IntKind.bits, IntKind.signed] at hk2
 have hm0 : m = k := by omega
 rw [hm0] at HM
 clear hm0 hm
 have HTY := H! (fun W => yac k (by omega) hk W)
 have hmx := Nat.le_trans hS.le hS.max
 unfold maxLen at hmx
 have ia : (tY.length : Int) ≤ (na : Int) := by omega
 have lda : decide ((na : Int) < (tY.length : Int)) = false := by simp; omega
 have nza : ¬ na < tY.length := by omega
 have nda : decide (na < tY.length) = false := by simp; omega
 have ml : (tY.length : Int) ≤ 9223372036854775807 := by omega
 rw [hna, hnb, hnt] at HTY
 clear hS
 go_enter Tryz.func33, Tryz.ntmps33
 go_wp2_with (first | (go_at_call 77; refine (HTY.out _).mono ?_; rintro _ _ ⟨rfl, rfl⟩))
 all_goals go_quiet (fail)
 all_goals go_wp2
 all_goals go_ret
 all_goals exact ⟨by first | rfl | (simp [*]; done), bw⟩
theorem na_9_t (a b c k : Int) (hk : I64 k) (h0 : 0 ≤ k) (na nb nt : Nat) (hna : k / 16384 = (na : Int)) (hnb : k / 128 % 128 = (nb : Int)) (hnt : k % 128 = (nt : Int)) (ha : na < tY.length) (zt : tY.length ≤ nt) (w : World) (hS : IsS 10 Fx.enc w rt ct tY) : Calls Tryz.prog 33 #[.agg #[.slice rc lc cc, .slice rt tY.length ct, .slice rv lv cv, .slice rm lm cm, .int .i64 cells, .slice ri li ci, .slice rs ls cs, .slice ro lo co, .slice rn ln cn], .agg #[.int .i64 9, .int .i64 a, .int .i64 b, .int .i64 c, .int .i64 k]] w fun e w' => e = .returned (.bool (false)) ∧ Below w.heap.size w w' := by
 obtain ⟨m, HM, hm⟩ := yae k
 have hk2 := hk
 unfold I64 at hk2
 simp [Lit.wf, IntKind.min, IntKind.max, IntKind.bits, IntKind.signed] at hk2
 have hm0 : m = k := by omega
 rw [hm0] at HM
 clear hm0 hm
 have HTY := H! (fun W => yac k (by omega) hk W)
 have hmx := Nat.le_trans hS.le hS.max
 unfold maxLen at hmx
 have ia : (na : Int) < (tY.length : Int) := by omega
 have ja : (0 : Int) ≤ (na : Int) := by omega
 have lda : decide ((na : Int) < (tY.length : Int)) = true := by simp; omega
 have it : (tY.length : Int) ≤ (nt : Int) := by omega
 have ldt : decide ((nt : Int) < (tY.length : Int)) = false := by simp; omega
 have nzt : ¬ nt < tY.length := by omega
 have ndt : decide (nt < tY.length) = false := by simp; omega
 have ml : (tY.length : Int) ≤ 9223372036854775807 := by omega
 rw [hna, hnb, hnt] at HTY
 clear hS
 go_enter Tryz.func33, Tryz.ntmps33
 go_wp2_with (first | (go_at_call 77; refine (HTY.out _).mono ?_; rintro _ _ ⟨rfl, rfl⟩))
 all_goals go_quiet (fail)
 all_goals go_wp2
 all_goals go_ret
 all_goals exact ⟨by first | rfl | (simp [*]; done), bw⟩
theorem na_9_ok (a b c k : Int) (hk : I64 k) (h0 : 0 ≤ k) (na nb nt : Nat) (hna : k / 16384 = (na : Int)) (hnb : k / 128 % 128 = (nb : Int)) (hnt : k % 128 = (nt : Int)) (ha : na < tY.length) (ht : nt < tY.length) (w : World) (hS : IsS 10 Fx.enc w rt ct tY) : Calls Tryz.prog 33 #[.agg #[.slice rc lc cc, .slice rt tY.length ct, .slice rv lv cv, .slice rm lm cm, .int .i64 cells, .slice ri li ci, .slice rs ls cs, .slice ro lo co, .slice rn ln cn], .agg #[.int .i64 9, .int .i64 a, .int .i64 b, .int .i64 c, .int .i64 k]] w fun e w' => e = .returned (.bool (yap 9 (tY.getD na default) default (tY.getD nt default))) ∧ Below w.heap.size w w' := by
 obtain ⟨m, HM, hm⟩ := yae k
 have hk2 := hk
 unfold I64 at hk2
 simp [Lit.wf, IntKind.min, IntKind.max, IntKind.bits, IntKind.signed] at hk2
 have hm0 : m = k := by omega
 rw [hm0] at HM
 clear hm0 hm
 have HTY := H! (fun W => yac k (by omega) hk W)
 have hmx := Nat.le_trans hS.le hS.max
 unfold maxLen at hmx
 have ia : (na : Int) < (tY.length : Int) := by omega
 have ja : (0 : Int) ≤ (na : Int) := by omega
 have lda : decide ((na : Int) < (tY.length : Int)) = true := by simp; omega
 have it : (nt : Int) < (tY.length : Int) := by omega
 have jt : (0 : Int) ≤ (nt : Int) := by omega
 have ldt : decide ((nt : Int) < (tY.length : Int)) = true := by simp; omega
 have ml : (tY.length : Int) ≤ 9223372036854775807 := by omega
 rw [hna, hnb, hnt] at HTY
 obtain ⟨bXa, offa, hra, hba, hca⟩ := hS.at_ ha
 subst hra
 have ha0 : w.cell? ⟨bXa, offa + na * 10 + 5, none⟩ = some (.int .i64 (tY.getD na default).m) := hca 5 _ rfl
 have ha1 : w.cell? ⟨bXa, offa + na * 10 + 6, none⟩ = some (.int .i64 (tY.getD na default).kg) := hca 6 _ rfl
 have ha2 : w.cell? ⟨bXa, offa + na * 10 + 7, none⟩ = some (.int .i64 (tY.getD na default).s) := hca 7 _ rfl
 have ha3 : w.cell? ⟨bXa, offa + na * 10 + 8, none⟩ = some (.int .i64 (tY.getD na default).a) := hca 8 _ rfl
 have ha4 : w.cell? ⟨bXa, offa + na * 10 + 9, none⟩ = some (.int .i64 (tY.getD na default).k) := hca 9 _ rfl
 clear hca
 obtain ⟨bXt, offt, hrt, hbt, hct⟩ := hS.at_ ht
 simp only [Option.some.injEq, Addr.mk.injEq, and_true] at hrt
 obtain ⟨rfl, rfl⟩ := hrt
 have ht0 : w.cell? ⟨bXa, offa + nt * 10 + 5, none⟩ = some (.int .i64 (tY.getD nt default).m) := hct 5 _ rfl
 have ht1 : w.cell? ⟨bXa, offa + nt * 10 + 6, none⟩ = some (.int .i64 (tY.getD nt default).kg) := hct 6 _ rfl
 have ht2 : w.cell? ⟨bXa, offa + nt * 10 + 7, none⟩ = some (.int .i64 (tY.getD nt default).s) := hct 7 _ rfl
 have ht3 : w.cell? ⟨bXa, offa + nt * 10 + 8, none⟩ = some (.int .i64 (tY.getD nt default).a) := hct 8 _ rfl
 have ht4 : w.cell? ⟨bXa, offa + nt * 10 + 9, none⟩ = some (.int .i64 (tY.getD nt default).k) := hct 9 _ rfl
 clear hct
 clear hS
 have HUB : Hid (yap 9 (tY.getD na default) default (tY.getD nt default) = (ueq (tY.getD na default).m (tY.getD na default).kg (tY.getD na default).s (tY.getD na default).a (tY.getD na default).k (tY.getD nt default).m (tY.getD nt default).kg (tY.getD nt default).s (tY.getD nt default).a (tY.getD nt default).k)) := H! (by unfold yap; simp)
 rw [HUB.out]
 clear HUB
 generalize (tY.getD na default) = Ta at *
 obtain ⟨va0, va1, va2, va3, va4, va5, va6, va7, va8, va9⟩ := Ta
 generalize (tY.getD nt default) = Tt at *
 obtain ⟨vt0, vt1, vt2, vt3, vt4, vt5, vt6, vt7, vt8, vt9⟩ := Tt
 simp only at ha0 ha1 ha2 ha3 ha4 ht0 ht1 ht2 ht3 ht4 ⊢
 have qz1 : bXa < w.heap.size + 1 := by omega
 have qz2 : bXa < w.heap.size + 1 + 1 := by omega
 have HE2 := ybj va5 va6 va7 va8 va9 vt5 vt6 vt7 vt8 vt9
 generalize ueq va5 va6 va7 va8 va9 vt5 vt6 vt7 vt8 vt9 = R2 at *
 go_enter Tryz.func33, Tryz.ntmps33
 go_wp2_with (first | (go_at_call 77; refine (HTY.out _).mono ?_; rintro _ _ ⟨rfl, rfl⟩))
 all_goals go_quiet (fail)
 all_goals go_wp2
 all_goals go_ret
 all_goals exact ⟨by first | rfl | (simp [*]; done), bw⟩
theorem na_10_a (a b c k : Int) (hk : I64 k) (h0 : 0 ≤ k) (na nb nt : Nat) (hna : k / 16384 = (na : Int)) (hnb : k / 128 % 128 = (nb : Int)) (hnt : k % 128 = (nt : Int)) (za : tY.length ≤ na) (w : World) (hS : IsS 10 Fx.enc w rt ct tY) : Calls Tryz.prog 33 #[.agg #[.slice rc lc cc, .slice rt tY.length ct, .slice rv lv cv, .slice rm lm cm, .int .i64 cells, .slice ri li ci, .slice rs ls cs, .slice ro lo co, .slice rn ln cn], .agg #[.int .i64 10, .int .i64 a, .int .i64 b, .int .i64 c, .int .i64 k]] w fun e w' => e = .returned (.bool (false)) ∧ Below w.heap.size w w' := by
 obtain ⟨m, HM, hm⟩ := yae k
 have hk2 := hk
 unfold I64 at hk2
 simp [Lit.wf, IntKind.min, IntKind.max, IntKind.bits, IntKind.signed] at hk2
 have hm0 : m = k := by omega
 rw [hm0] at HM
 clear hm0 hm
 have HTY := H! (fun W => yac k (by omega) hk W)
 have hmx := Nat.le_trans hS.le hS.max
 unfold maxLen at hmx
 have ia : (tY.length : Int) ≤ (na : Int) := by omega
 have lda : decide ((na : Int) < (tY.length : Int)) = false := by simp; omega
 have nza : ¬ na < tY.length := by omega
 have nda : decide (na < tY.length) = false := by simp; omega
 have ml : (tY.length : Int) ≤ 9223372036854775807 := by omega
 rw [hna, hnb, hnt] at HTY
 clear hS
 go_enter Tryz.func33, Tryz.ntmps33
 go_wp2_with (first | (go_at_call 77; refine (HTY.out _).mono ?_; rintro _ _ ⟨rfl, rfl⟩))
 all_goals go_quiet (fail)
 all_goals go_wp2
 all_goals go_ret
 all_goals exact ⟨by first | rfl | (simp [*]; done), bw⟩
theorem na_10_t (a b c k : Int) (hk : I64 k) (h0 : 0 ≤ k) (na nb nt : Nat) (hna : k / 16384 = (na : Int)) (hnb : k / 128 % 128 = (nb : Int)) (hnt : k % 128 = (nt : Int)) (ha : na < tY.length) (zt : tY.length ≤ nt) (w : World) (hS : IsS 10 Fx.enc w rt ct tY) : Calls Tryz.prog 33 #[.agg #[.slice rc lc cc, .slice rt tY.length ct, .slice rv lv cv, .slice rm lm cm, .int .i64 cells, .slice ri li ci, .slice rs ls cs, .slice ro lo co, .slice rn ln cn], .agg #[.int .i64 10, .int .i64 a, .int .i64 b, .int .i64 c, .int .i64 k]] w fun e w' => e = .returned (.bool (false)) ∧ Below w.heap.size w w' := by
 obtain ⟨m, HM, hm⟩ := yae k
 have hk2 := hk
 unfold I64 at hk2
 simp [Lit.wf, IntKind.min, IntKind.max, IntKind.bits, IntKind.signed] at hk2
 have hm0 : m = k := by omega
 rw [hm0] at HM
 clear hm0 hm
 have HTY := H! (fun W => yac k (by omega) hk W)
 have hmx := Nat.le_trans hS.le hS.max
 unfold maxLen at hmx
 have ia : (na : Int) < (tY.length : Int) := by omega
 have ja : (0 : Int) ≤ (na : Int) := by omega
 have lda : decide ((na : Int) < (tY.length : Int)) = true := by simp; omega
 have it : (tY.length : Int) ≤ (nt : Int) := by omega
 have ldt : decide ((nt : Int) < (tY.length : Int)) = false := by simp; omega
 have nzt : ¬ nt < tY.length := by omega
 have ndt : decide (nt < tY.length) = false := by simp; omega
 have ml : (tY.length : Int) ≤ 9223372036854775807 := by omega
 rw [hna, hnb, hnt] at HTY
 clear hS
 go_enter Tryz.func33, Tryz.ntmps33
 go_wp2_with (first | (go_at_call 77; refine (HTY.out _).mono ?_; rintro _ _ ⟨rfl, rfl⟩))
 all_goals go_quiet (fail)
 all_goals go_wp2
 all_goals go_ret
 all_goals exact ⟨by first | rfl | (simp [*]; done), bw⟩
theorem na_10_ok (a b c k : Int) (hk : I64 k) (h0 : 0 ≤ k) (na nb nt : Nat) (hna : k / 16384 = (na : Int)) (hnb : k / 128 % 128 = (nb : Int)) (hnt : k % 128 = (nt : Int)) (ha : na < tY.length) (ht : nt < tY.length) (w : World) (hS : IsS 10 Fx.enc w rt ct tY) : Calls Tryz.prog 33 #[.agg #[.slice rc lc cc, .slice rt tY.length ct, .slice rv lv cv, .slice rm lm cm, .int .i64 cells, .slice ri li ci, .slice rs ls cs, .slice ro lo co, .slice rn ln cn], .agg #[.int .i64 10, .int .i64 a, .int .i64 b, .int .i64 c, .int .i64 k]] w fun e w' => e = .returned (.bool (yap 10 (tY.getD na default) default (tY.getD nt default))) ∧ Below w.heap.size w w' := by
 obtain ⟨m, HM, hm⟩ := yae k
 have hk2 := hk
 unfold I64 at hk2
 simp [Lit.wf, IntKind.min, IntKind.max, IntKind.bits, IntKind.signed] at hk2
 have hm0 : m = k := by omega
 rw [hm0] at HM
 clear hm0 hm
 have HTY := H! (fun W => yac k (by omega) hk W)
 have hmx := Nat.le_trans hS.le hS.max
 unfold maxLen at hmx
 have ia : (na : Int) < (tY.length : Int) := by omega
 have ja : (0 : Int) ≤ (na : Int) := by omega
 have lda : decide ((na : Int) < (tY.length : Int)) = true := by simp; omega
 have it : (nt : Int) < (tY.length : Int) := by omega
 have jt : (0 : Int) ≤ (nt : Int) := by omega
 have ldt : decide ((nt : Int) < (tY.length : Int)) = true := by simp; omega
 have ml : (tY.length : Int) ≤ 9223372036854775807 := by omega
 rw [hna, hnb, hnt] at HTY
 obtain ⟨bXa, offa, hra, hba, hca⟩ := hS.at_ ha
 subst hra
 have ha0 : w.cell? ⟨bXa, offa + na * 10 + 5, none⟩ = some (.int .i64 (tY.getD na default).m) := hca 5 _ rfl
 have ha1 : w.cell? ⟨bXa, offa + na * 10 + 6, none⟩ = some (.int .i64 (tY.getD na default).kg) := hca 6 _ rfl
 have ha2 : w.cell? ⟨bXa, offa + na * 10 + 7, none⟩ = some (.int .i64 (tY.getD na default).s) := hca 7 _ rfl
 have ha3 : w.cell? ⟨bXa, offa + na * 10 + 8, none⟩ = some (.int .i64 (tY.getD na default).a) := hca 8 _ rfl
 have ha4 : w.cell? ⟨bXa, offa + na * 10 + 9, none⟩ = some (.int .i64 (tY.getD na default).k) := hca 9 _ rfl
 clear hca
 obtain ⟨bXt, offt, hrt, hbt, hct⟩ := hS.at_ ht
 simp only [Option.some.injEq, Addr.mk.injEq, and_true] at hrt
 obtain ⟨rfl, rfl⟩ := hrt
 have ht0 : w.cell? ⟨bXa, offa + nt * 10 + 5, none⟩ = some (.int .i64 (tY.getD nt default).m) := hct 5 _ rfl
 have ht1 : w.cell? ⟨bXa, offa + nt * 10 + 6, none⟩ = some (.int .i64 (tY.getD nt default).kg) := hct 6 _ rfl
 have ht2 : w.cell? ⟨bXa, offa + nt * 10 + 7, none⟩ = some (.int .i64 (tY.getD nt default).s) := hct 7 _ rfl
 have ht3 : w.cell? ⟨bXa, offa + nt * 10 + 8, none⟩ = some (.int .i64 (tY.getD nt default).a) := hct 8 _ rfl
 have ht4 : w.cell? ⟨bXa, offa + nt * 10 + 9, none⟩ = some (.int .i64 (tY.getD nt default).k) := hct 9 _ rfl
 clear hct
 clear hS
 have HUB : Hid (yap 10 (tY.getD na default) default (tY.getD nt default) = (ueq (tY.getD na default).m (tY.getD na default).kg (tY.getD na default).s (tY.getD na default).a (tY.getD na default).k (tY.getD nt default).m (tY.getD nt default).kg (tY.getD nt default).s (tY.getD nt default).a (tY.getD nt default).k)) := H! (by unfold yap; simp)
 rw [HUB.out]
 clear HUB
 generalize (tY.getD na default) = Ta at *
 obtain ⟨va0, va1, va2, va3, va4, va5, va6, va7, va8, va9⟩ := Ta
 generalize (tY.getD nt default) = Tt at *
 obtain ⟨vt0, vt1, vt2, vt3, vt4, vt5, vt6, vt7, vt8, vt9⟩ := Tt
 simp only at ha0 ha1 ha2 ha3 ha4 ht0 ht1 ht2 ht3 ht4 ⊢
 have qz1 : bXa < w.heap.size + 1 := by omega
 have qz2 : bXa < w.heap.size + 1 + 1 := by omega
 have HE2 := ybj va5 va6 va7 va8 va9 vt5 vt6 vt7 vt8 vt9
 generalize ueq va5 va6 va7 va8 va9 vt5 vt6 vt7 vt8 vt9 = R2 at *
 go_enter Tryz.func33, Tryz.ntmps33
 go_wp2_with (first | (go_at_call 77; refine (HTY.out _).mono ?_; rintro _ _ ⟨rfl, rfl⟩))
 all_goals go_quiet (fail)
 all_goals go_wp2
 all_goals go_ret
 all_goals exact ⟨by first | rfl | (simp [*]; done), bw⟩
theorem na_13_a (a b c k : Int) (hk : I64 k) (h0 : 0 ≤ k) (na nb nt : Nat) (hna : k / 16384 = (na : Int)) (hnb : k / 128 % 128 = (nb : Int)) (hnt : k % 128 = (nt : Int)) (za : tY.length ≤ na) (w : World) (hS : IsS 10 Fx.enc w rt ct tY) : Calls Tryz.prog 33 #[.agg #[.slice rc lc cc, .slice rt tY.length ct, .slice rv lv cv, .slice rm lm cm, .int .i64 cells, .slice ri li ci, .slice rs ls cs, .slice ro lo co, .slice rn ln cn], .agg #[.int .i64 13, .int .i64 a, .int .i64 b, .int .i64 c, .int .i64 k]] w fun e w' => e = .returned (.bool (false)) ∧ Below w.heap.size w w' := by
 obtain ⟨m, HM, hm⟩ := yae k
 have hk2 := hk
 unfold I64 at hk2
 simp [Lit.wf, IntKind.min, IntKind.max, IntKind.bits, IntKind.signed] at hk2
 have hm0 : m = k := by omega
 rw [hm0] at HM
 clear hm0 hm
 have HTY := H! (fun W => yac k (by omega) hk W)
 have hmx := Nat.le_trans hS.le hS.max
 unfold maxLen at hmx
 have ia : (tY.length : Int) ≤ (na : Int) := by omega
 have lda : decide ((na : Int) < (tY.length : Int)) = false := by simp; omega
 have nza : ¬ na < tY.length := by omega
 have nda : decide (na < tY.length) = false := by simp; omega
 have ml : (tY.length : Int) ≤ 9223372036854775807 := by omega
 rw [hna, hnb, hnt] at HTY
 clear hS
 go_enter Tryz.func33, Tryz.ntmps33
 go_wp2_with (first | (go_at_call 77; refine (HTY.out _).mono ?_; rintro _ _ ⟨rfl, rfl⟩))
 all_goals go_quiet (fail)
 all_goals go_wp2
 all_goals go_ret
 all_goals exact ⟨by first | rfl | (simp [*]; done), bw⟩
theorem na_13_b (a b c k : Int) (hk : I64 k) (h0 : 0 ≤ k) (na nb nt : Nat) (hna : k / 16384 = (na : Int)) (hnb : k / 128 % 128 = (nb : Int)) (hnt : k % 128 = (nt : Int)) (ha : na < tY.length) (zb : tY.length ≤ nb) (w : World) (hS : IsS 10 Fx.enc w rt ct tY) : Calls Tryz.prog 33 #[.agg #[.slice rc lc cc, .slice rt tY.length ct, .slice rv lv cv, .slice rm lm cm, .int .i64 cells, .slice ri li ci, .slice rs ls cs, .slice ro lo co, .slice rn ln cn], .agg #[.int .i64 13, .int .i64 a, .int .i64 b, .int .i64 c, .int .i64 k]] w fun e w' => e = .returned (.bool (false)) ∧ Below w.heap.size w w' := by
 obtain ⟨m, HM, hm⟩ := yae k
 have hk2 := hk
 unfold I64 at hk2
 simp [Lit.wf, IntKind.min, IntKind.max, IntKind.bits, IntKind.signed] at hk2
 have hm0 : m = k := by omega
 rw [hm0] at HM
 clear hm0 hm
 have HTY := H! (fun W => yac k (by omega) hk W)
 have hmx := Nat.le_trans hS.le hS.max
 unfold maxLen at hmx
 have ia : (na : Int) < (tY.length : Int) := by omega
 have ja : (0 : Int) ≤ (na : Int) := by omega
 have lda : decide ((na : Int) < (tY.length : Int)) = true := by simp; omega
 have ib : (tY.length : Int) ≤ (nb : Int) := by omega
 have ldb : decide ((nb : Int) < (tY.length : Int)) = false := by simp; omega
 have nzb : ¬ nb < tY.length := by omega
 have ndb : decide (nb < tY.length) = false := by simp; omega
 have ml : (tY.length : Int) ≤ 9223372036854775807 := by omega
 rw [hna, hnb, hnt] at HTY
 clear hS
 go_enter Tryz.func33, Tryz.ntmps33
 go_wp2_with (first | (go_at_call 77; refine (HTY.out _).mono ?_; rintro _ _ ⟨rfl, rfl⟩))
 all_goals go_quiet (fail)
 all_goals go_wp2
 all_goals go_ret
 all_goals exact ⟨by first | rfl | (simp [*]; done), bw⟩
theorem na_13_ok (a b c k : Int) (hk : I64 k) (h0 : 0 ≤ k) (na nb nt : Nat) (hna : k / 16384 = (na : Int)) (hnb : k / 128 % 128 = (nb : Int)) (hnt : k % 128 = (nt : Int)) (ha : na < tY.length) (hb : nb < tY.length) (w : World) (hS : IsS 10 Fx.enc w rt ct tY) : Calls Tryz.prog 33 #[.agg #[.slice rc lc cc, .slice rt tY.length ct, .slice rv lv cv, .slice rm lm cm, .int .i64 cells, .slice ri li ci, .slice rs ls cs, .slice ro lo co, .slice rn ln cn], .agg #[.int .i64 13, .int .i64 a, .int .i64 b, .int .i64 c, .int .i64 k]] w fun e w' => e = .returned (.bool (yap 13 (tY.getD na default) (tY.getD nb default) default)) ∧ Below w.heap.size w w' := by
 obtain ⟨m, HM, hm⟩ := yae k
 have hk2 := hk
 unfold I64 at hk2
 simp [Lit.wf, IntKind.min, IntKind.max, IntKind.bits, IntKind.signed] at hk2
 have hm0 : m = k := by omega
 rw [hm0] at HM
 clear hm0 hm
 have HTY := H! (fun W => yac k (by omega) hk W)
 have hmx := Nat.le_trans hS.le hS.max
 unfold maxLen at hmx
 have ia : (na : Int) < (tY.length : Int) := by omega
 have ja : (0 : Int) ≤ (na : Int) := by omega
 have lda : decide ((na : Int) < (tY.length : Int)) = true := by simp; omega
 have ib : (nb : Int) < (tY.length : Int) := by omega
 have jb : (0 : Int) ≤ (nb : Int) := by omega
 have ldb : decide ((nb : Int) < (tY.length : Int)) = true := by simp; omega
 have ml : (tY.length : Int) ≤ 9223372036854775807 := by omega
 rw [hna, hnb, hnt] at HTY
 obtain ⟨bXa, offa, hra, hba, hca⟩ := hS.at_ ha
 subst hra
 have ha0 : w.cell? ⟨bXa, offa + na * 10 + 5, none⟩ = some (.int .i64 (tY.getD na default).m) := hca 5 _ rfl
 have ha1 : w.cell? ⟨bXa, offa + na * 10 + 6, none⟩ = some (.int .i64 (tY.getD na default).kg) := hca 6 _ rfl
 have ha2 : w.cell? ⟨bXa, offa + na * 10 + 7, none⟩ = some (.int .i64 (tY.getD na default).s) := hca 7 _ rfl
 have ha3 : w.cell? ⟨bXa, offa + na * 10 + 8, none⟩ = some (.int .i64 (tY.getD na default).a) := hca 8 _ rfl
 have ha4 : w.cell? ⟨bXa, offa + na * 10 + 9, none⟩ = some (.int .i64 (tY.getD na default).k) := hca 9 _ rfl
 clear hca
 obtain ⟨bXb, offb, hrb, hbb, hcb⟩ := hS.at_ hb
 simp only [Option.some.injEq, Addr.mk.injEq, and_true] at hrb
 obtain ⟨rfl, rfl⟩ := hrb
 have hb0 : w.cell? ⟨bXa, offa + nb * 10 + 5, none⟩ = some (.int .i64 (tY.getD nb default).m) := hcb 5 _ rfl
 have hb1 : w.cell? ⟨bXa, offa + nb * 10 + 6, none⟩ = some (.int .i64 (tY.getD nb default).kg) := hcb 6 _ rfl
 have hb2 : w.cell? ⟨bXa, offa + nb * 10 + 7, none⟩ = some (.int .i64 (tY.getD nb default).s) := hcb 7 _ rfl
 have hb3 : w.cell? ⟨bXa, offa + nb * 10 + 8, none⟩ = some (.int .i64 (tY.getD nb default).a) := hcb 8 _ rfl
 have hb4 : w.cell? ⟨bXa, offa + nb * 10 + 9, none⟩ = some (.int .i64 (tY.getD nb default).k) := hcb 9 _ rfl
 clear hcb
 clear hS
 have HUB : Hid (yap 13 (tY.getD na default) (tY.getD nb default) default = (ueq (tY.getD na default).m (tY.getD na default).kg (tY.getD na default).s (tY.getD na default).a (tY.getD na default).k (tY.getD nb default).m (tY.getD nb default).kg (tY.getD nb default).s (tY.getD nb default).a (tY.getD nb default).k)) := H! (by unfold yap; simp)
 rw [HUB.out]
 clear HUB
 generalize (tY.getD na default) = Ta at *
 obtain ⟨va0, va1, va2, va3, va4, va5, va6, va7, va8, va9⟩ := Ta
 generalize (tY.getD nb default) = Tb at *
 obtain ⟨vb0, vb1, vb2, vb3, vb4, vb5, vb6, vb7, vb8, vb9⟩ := Tb
 simp only at ha0 ha1 ha2 ha3 ha4 hb0 hb1 hb2 hb3 hb4 ⊢
 have qz1 : bXa < w.heap.size + 1 := by omega
 have qz2 : bXa < w.heap.size + 1 + 1 := by omega
 have HE2 := ybj va5 va6 va7 va8 va9 vb5 vb6 vb7 vb8 vb9
 generalize ueq va5 va6 va7 va8 va9 vb5 vb6 vb7 vb8 vb9 = R2 at *
 go_enter Tryz.func33, Tryz.ntmps33
 go_wp2_with (first | (go_at_call 77; refine (HTY.out _).mono ?_; rintro _ _ ⟨rfl, rfl⟩))
 all_goals go_quiet (fail)
 all_goals go_wp2
 all_goals go_ret
 all_goals exact ⟨by first | rfl | (simp [*]; done), bw⟩
theorem na_14_a (a b c k : Int) (hk : I64 k) (h0 : 0 ≤ k) (na nb nt : Nat) (hna : k / 16384 = (na : Int)) (hnb : k / 128 % 128 = (nb : Int)) (hnt : k % 128 = (nt : Int)) (za : tY.length ≤ na) (w : World) (hS : IsS 10 Fx.enc w rt ct tY) : Calls Tryz.prog 33 #[.agg #[.slice rc lc cc, .slice rt tY.length ct, .slice rv lv cv, .slice rm lm cm, .int .i64 cells, .slice ri li ci, .slice rs ls cs, .slice ro lo co, .slice rn ln cn], .agg #[.int .i64 14, .int .i64 a, .int .i64 b, .int .i64 c, .int .i64 k]] w fun e w' => e = .returned (.bool (false)) ∧ Below w.heap.size w w' := by
 obtain ⟨m, HM, hm⟩ := yae k
 have hk2 := hk
 unfold I64 at hk2
 simp [Lit.wf, IntKind.min, IntKind.max, IntKind.bits, IntKind.signed] at hk2
 have hm0 : m = k := by omega
 rw [hm0] at HM
 clear hm0 hm
 have HTY := H! (fun W => yac k (by omega) hk W)
 have hmx := Nat.le_trans hS.le hS.max
 unfold maxLen at hmx
 have ia : (tY.length : Int) ≤ (na : Int) := by omega
 have lda : decide ((na : Int) < (tY.length : Int)) = false := by simp; omega
 have nza : ¬ na < tY.length := by omega
 have nda : decide (na < tY.length) = false := by simp; omega
 have ml : (tY.length : Int) ≤ 9223372036854775807 := by omega
 rw [hna, hnb, hnt] at HTY
 clear hS
 go_enter Tryz.func33, Tryz.ntmps33
 go_wp2_with (first | (go_at_call 77; refine (HTY.out _).mono ?_; rintro _ _ ⟨rfl, rfl⟩))
 all_goals go_quiet (fail)
 all_goals go_wp2
 all_goals go_ret
 all_goals exact ⟨by first | rfl | (simp [*]; done), bw⟩
theorem na_14_b (a b c k : Int) (hk : I64 k) (h0 : 0 ≤ k) (na nb nt : Nat) (hna : k / 16384 = (na : Int)) (hnb : k / 128 % 128 = (nb : Int)) (hnt : k % 128 = (nt : Int)) (ha : na < tY.length) (zb : tY.length ≤ nb) (w : World) (hS : IsS 10 Fx.enc w rt ct tY) : Calls Tryz.prog 33 #[.agg #[.slice rc lc cc, .slice rt tY.length ct, .slice rv lv cv, .slice rm lm cm, .int .i64 cells, .slice ri li ci, .slice rs ls cs, .slice ro lo co, .slice rn ln cn], .agg #[.int .i64 14, .int .i64 a, .int .i64 b, .int .i64 c, .int .i64 k]] w fun e w' => e = .returned (.bool (false)) ∧ Below w.heap.size w w' := by
 obtain ⟨m, HM, hm⟩ := yae k
 have hk2 := hk
 unfold I64 at hk2
 simp [Lit.wf, IntKind.min, IntKind.max, IntKind.bits, IntKind.signed] at hk2
 have hm0 : m = k := by omega
 rw [hm0] at HM
 clear hm0 hm
 have HTY := H! (fun W => yac k (by omega) hk W)
 have hmx := Nat.le_trans hS.le hS.max
 unfold maxLen at hmx
 have ia : (na : Int) < (tY.length : Int) := by omega
 have ja : (0 : Int) ≤ (na : Int) := by omega
 have lda : decide ((na : Int) < (tY.length : Int)) = true := by simp; omega
 have ib : (tY.length : Int) ≤ (nb : Int) := by omega
 have ldb : decide ((nb : Int) < (tY.length : Int)) = false := by simp; omega
 have nzb : ¬ nb < tY.length := by omega
 have ndb : decide (nb < tY.length) = false := by simp; omega
 have ml : (tY.length : Int) ≤ 9223372036854775807 := by omega
 rw [hna, hnb, hnt] at HTY
 clear hS
 go_enter Tryz.func33, Tryz.ntmps33
 go_wp2_with (first | (go_at_call 77; refine (HTY.out _).mono ?_; rintro _ _ ⟨rfl, rfl⟩))
 all_goals go_quiet (fail)
 all_goals go_wp2
 all_goals go_ret
 all_goals exact ⟨by first | rfl | (simp [*]; done), bw⟩
theorem na_14_ok (a b c k : Int) (hk : I64 k) (h0 : 0 ≤ k) (na nb nt : Nat) (hna : k / 16384 = (na : Int)) (hnb : k / 128 % 128 = (nb : Int)) (hnt : k % 128 = (nt : Int)) (ha : na < tY.length) (hb : nb < tY.length) (w : World) (hS : IsS 10 Fx.enc w rt ct tY) : Calls Tryz.prog 33 #[.agg #[.slice rc lc cc, .slice rt tY.length ct, .slice rv lv cv, .slice rm lm cm, .int .i64 cells, .slice ri li ci, .slice rs ls cs, .slice ro lo co, .slice rn ln cn], .agg #[.int .i64 14, .int .i64 a, .int .i64 b, .int .i64 c, .int .i64 k]] w fun e w' => e = .returned (.bool (yap 14 (tY.getD na default) (tY.getD nb default) default)) ∧ Below w.heap.size w w' := by
 obtain ⟨m, HM, hm⟩ := yae k
 have hk2 := hk
 unfold I64 at hk2
 simp [Lit.wf, IntKind.min, IntKind.max, IntKind.bits, IntKind.signed] at hk2
 have hm0 : m = k := by omega
 rw [hm0] at HM
 clear hm0 hm
 have HTY := H! (fun W => yac k (by omega) hk W)
 have hmx := Nat.le_trans hS.le hS.max
 unfold maxLen at hmx
 have ia : (na : Int) < (tY.length : Int) := by omega
 have ja : (0 : Int) ≤ (na : Int) := by omega
 have lda : decide ((na : Int) < (tY.length : Int)) = true := by simp; omega
 have ib : (nb : Int) < (tY.length : Int) := by omega
 have jb : (0 : Int) ≤ (nb : Int) := by omega
 have ldb : decide ((nb : Int) < (tY.length : Int)) = true := by simp; omega
 have ml : (tY.length : Int) ≤ 9223372036854775807 := by omega
 rw [hna, hnb, hnt] at HTY
 obtain ⟨bXa, offa, hra, hba, hca⟩ := hS.at_ ha
 subst hra
 have ha0 : w.cell? ⟨bXa, offa + na * 10 + 5, none⟩ = some (.int .i64 (tY.getD na default).m) := hca 5 _ rfl
 have ha1 : w.cell? ⟨bXa, offa + na * 10 + 6, none⟩ = some (.int .i64 (tY.getD na default).kg) := hca 6 _ rfl
 have ha2 : w.cell? ⟨bXa, offa + na * 10 + 7, none⟩ = some (.int .i64 (tY.getD na default).s) := hca 7 _ rfl
 have ha3 : w.cell? ⟨bXa, offa + na * 10 + 8, none⟩ = some (.int .i64 (tY.getD na default).a) := hca 8 _ rfl
 have ha4 : w.cell? ⟨bXa, offa + na * 10 + 9, none⟩ = some (.int .i64 (tY.getD na default).k) := hca 9 _ rfl
 clear hca
 obtain ⟨bXb, offb, hrb, hbb, hcb⟩ := hS.at_ hb
 simp only [Option.some.injEq, Addr.mk.injEq, and_true] at hrb
 obtain ⟨rfl, rfl⟩ := hrb
 have hb0 : w.cell? ⟨bXa, offa + nb * 10 + 5, none⟩ = some (.int .i64 (tY.getD nb default).m) := hcb 5 _ rfl
 have hb1 : w.cell? ⟨bXa, offa + nb * 10 + 6, none⟩ = some (.int .i64 (tY.getD nb default).kg) := hcb 6 _ rfl
 have hb2 : w.cell? ⟨bXa, offa + nb * 10 + 7, none⟩ = some (.int .i64 (tY.getD nb default).s) := hcb 7 _ rfl
 have hb3 : w.cell? ⟨bXa, offa + nb * 10 + 8, none⟩ = some (.int .i64 (tY.getD nb default).a) := hcb 8 _ rfl
 have hb4 : w.cell? ⟨bXa, offa + nb * 10 + 9, none⟩ = some (.int .i64 (tY.getD nb default).k) := hcb 9 _ rfl
 clear hcb
 clear hS
 have HUB : Hid (yap 14 (tY.getD na default) (tY.getD nb default) default = (ueq (tY.getD na default).m (tY.getD na default).kg (tY.getD na default).s (tY.getD na default).a (tY.getD na default).k (tY.getD nb default).m (tY.getD nb default).kg (tY.getD nb default).s (tY.getD nb default).a (tY.getD nb default).k)) := H! (by unfold yap; simp)
 rw [HUB.out]
 clear HUB
 generalize (tY.getD na default) = Ta at *
 obtain ⟨va0, va1, va2, va3, va4, va5, va6, va7, va8, va9⟩ := Ta
 generalize (tY.getD nb default) = Tb at *
 obtain ⟨vb0, vb1, vb2, vb3, vb4, vb5, vb6, vb7, vb8, vb9⟩ := Tb
 simp only at ha0 ha1 ha2 ha3 ha4 hb0 hb1 hb2 hb3 hb4 ⊢
 have qz1 : bXa < w.heap.size + 1 := by omega
 have qz2 : bXa < w.heap.size + 1 + 1 := by omega
 have HE2 := ybj va5 va6 va7 va8 va9 vb5 vb6 vb7 vb8 vb9
 generalize ueq va5 va6 va7 va8 va9 vb5 vb6 vb7 vb8 vb9 = R2 at *
 go_enter Tryz.func33, Tryz.ntmps33
 go_wp2_with (first | (go_at_call 77; refine (HTY.out _).mono ?_; rintro _ _ ⟨rfl, rfl⟩))
 all_goals go_quiet (fail)
 all_goals go_wp2
 all_goals go_ret
 all_goals exact ⟨by first | rfl | (simp [*]; done), bw⟩
end
section
variable (rc : Option Addr) (lc cc : Nat) (rt : Option Addr) (ct : Nat) (tY : List Fx) (rv : Option Addr) (lv cv : Nat) (rm : Option Addr) (lm cm : Nat) (cells : Int) (ri : Option Addr) (li ci : Nat) (rs : Option Addr) (ls cs : Nat) (ro : Option Addr) (lo co : Nat) (rn : Option Addr) (ln cn : Nat)
theorem form_pos {op a b c k : Int} (h : ybk op a b c k = true) (ho : ¬ op = 1) : 0 ≤ k := by
 unfold ybk at h
 simp only [Bool.and_eq_true] at h
 obtain ⟨_, _, _, _, h⟩ := h
 split at h
 ·
  unfold kOk at h
  rw [if_neg ho] at h
  (repeat' split at h) <;> (simp only [decide_eq_true_eq] at h; omega)
 ·
  simp only [decide_eq_true_eq] at h; omega
theorem nt_5 (a b c k : Int) (hk : I64 k) (h0 : 0 ≤ k) (w : World) (hS : IsS 10 Fx.enc w rt ct tY) : Calls Tryz.prog 33 #[.agg #[.slice rc lc cc, .slice rt tY.length ct, .slice rv lv cv, .slice rm lm cm, .int .i64 cells, .slice ri li ci, .slice rs ls cs, .slice ro lo co, .slice rn ln cn], .agg #[.int .i64 5, .int .i64 a, .int .i64 b, .int .i64 c, .int .i64 k]] w fun e w' => e = .returned (.bool (ybz cells lv lm tY ⟨5, a, b, c, k⟩)) ∧ Below w.heap.size w w' := by
 obtain ⟨e1, e2, e3⟩ := tAs h0
 have HN : ybz cells lv lm tY ⟨5, a, b, c, k⟩ = (okT tY.length 5 k && yap 5 (tY.getD (tA k) default) (tY.getD (tB k) default) (tY.getD (tT k) default)) := by unfold ybz tyB tyT; simp [show typB 5 = true from rfl]
 rw [HN]
 by_cases ha : tA k < tY.length
 rotate_left
 ·
  rw [show okT tY.length 5 k = false by unfold okT; simp; omega]
  exact na_5_a rc lc cc rt ct tY rv lv cv rm lm cm cells ri li ci rs ls cs ro lo co rn ln cn a b c k hk h0 (tA k) (tB k) (tT k) e1 e2 e3  (by omega) w hS
 by_cases hb : tB k < tY.length
 rotate_left
 ·
  rw [show okT tY.length 5 k = false by unfold okT; simp; omega]
  exact na_5_b rc lc cc rt ct tY rv lv cv rm lm cm cells ri li ci rs ls cs ro lo co rn ln cn a b c k hk h0 (tA k) (tB k) (tT k) e1 e2 e3  ha (by omega) w hS
 by_cases ht : tT k < tY.length
 rotate_left
 ·
  rw [show okT tY.length 5 k = false by unfold okT; simp; omega]
  exact na_5_t rc lc cc rt ct tY rv lv cv rm lm cm cells ri li ci rs ls cs ro lo co rn ln cn a b c k hk h0 (tA k) (tB k) (tT k) e1 e2 e3  ha hb (by omega) w hS
 rw [show okT tY.length 5 k = true by unfold okT; simp; omega, Bool.true_and]
 exact na_5_ok rc lc cc rt ct tY rv lv cv rm lm cm cells ri li ci rs ls cs ro lo co rn ln cn a b c k hk h0 (tA k) (tB k) (tT k) e1 e2 e3  ha hb ht w hS
theorem nt_6 (a b c k : Int) (hk : I64 k) (h0 : 0 ≤ k) (w : World) (hS : IsS 10 Fx.enc w rt ct tY) : Calls Tryz.prog 33 #[.agg #[.slice rc lc cc, .slice rt tY.length ct, .slice rv lv cv, .slice rm lm cm, .int .i64 cells, .slice ri li ci, .slice rs ls cs, .slice ro lo co, .slice rn ln cn], .agg #[.int .i64 6, .int .i64 a, .int .i64 b, .int .i64 c, .int .i64 k]] w fun e w' => e = .returned (.bool (ybz cells lv lm tY ⟨6, a, b, c, k⟩)) ∧ Below w.heap.size w w' := by
 obtain ⟨e1, e2, e3⟩ := tAs h0
 have HN : ybz cells lv lm tY ⟨6, a, b, c, k⟩ = (okT tY.length 6 k && yap 6 (tY.getD (tA k) default) (tY.getD (tB k) default) (tY.getD (tT k) default)) := by unfold ybz tyB tyT; simp [show typB 6 = true from rfl]
 rw [HN]
 by_cases ha : tA k < tY.length
 rotate_left
 ·
  rw [show okT tY.length 6 k = false by unfold okT; simp; omega]
  exact na_6_a rc lc cc rt ct tY rv lv cv rm lm cm cells ri li ci rs ls cs ro lo co rn ln cn a b c k hk h0 (tA k) (tB k) (tT k) e1 e2 e3  (by omega) w hS
 by_cases hb : tB k < tY.length
 rotate_left
 ·
  rw [show okT tY.length 6 k = false by unfold okT; simp; omega]
  exact na_6_b rc lc cc rt ct tY rv lv cv rm lm cm cells ri li ci rs ls cs ro lo co rn ln cn a b c k hk h0 (tA k) (tB k) (tT k) e1 e2 e3  ha (by omega) w hS
 by_cases ht : tT k < tY.length
 rotate_left
 ·
  rw [show okT tY.length 6 k = false by unfold okT; simp; omega]
  exact na_6_t rc lc cc rt ct tY rv lv cv rm lm cm cells ri li ci rs ls cs ro lo co rn ln cn a b c k hk h0 (tA k) (tB k) (tT k) e1 e2 e3  ha hb (by omega) w hS
 rw [show okT tY.length 6 k = true by unfold okT; simp; omega, Bool.true_and]
 exact na_6_ok rc lc cc rt ct tY rv lv cv rm lm cm cells ri li ci rs ls cs ro lo co rn ln cn a b c k hk h0 (tA k) (tB k) (tT k) e1 e2 e3  ha hb ht w hS
theorem nt_7 (a b c k : Int) (hk : I64 k) (h0 : 0 ≤ k) (w : World) (hS : IsS 10 Fx.enc w rt ct tY) : Calls Tryz.prog 33 #[.agg #[.slice rc lc cc, .slice rt tY.length ct, .slice rv lv cv, .slice rm lm cm, .int .i64 cells, .slice ri li ci, .slice rs ls cs, .slice ro lo co, .slice rn ln cn], .agg #[.int .i64 7, .int .i64 a, .int .i64 b, .int .i64 c, .int .i64 k]] w fun e w' => e = .returned (.bool (ybz cells lv lm tY ⟨7, a, b, c, k⟩)) ∧ Below w.heap.size w w' := by
 obtain ⟨e1, e2, e3⟩ := tAs h0
 have HN : ybz cells lv lm tY ⟨7, a, b, c, k⟩ = (okT tY.length 7 k && yap 7 (tY.getD (tA k) default) (tY.getD (tB k) default) (tY.getD (tT k) default)) := by unfold ybz tyB tyT; simp [show typB 7 = true from rfl]
 rw [HN]
 by_cases ha : tA k < tY.length
 rotate_left
 ·
  rw [show okT tY.length 7 k = false by unfold okT; simp; omega]
  exact na_7_a rc lc cc rt ct tY rv lv cv rm lm cm cells ri li ci rs ls cs ro lo co rn ln cn a b c k hk h0 (tA k) (tB k) (tT k) e1 e2 e3  (by omega) w hS
 by_cases hb : tB k < tY.length
 rotate_left
 ·
  rw [show okT tY.length 7 k = false by unfold okT; simp; omega]
  exact na_7_b rc lc cc rt ct tY rv lv cv rm lm cm cells ri li ci rs ls cs ro lo co rn ln cn a b c k hk h0 (tA k) (tB k) (tT k) e1 e2 e3  ha (by omega) w hS
 by_cases ht : tT k < tY.length
 rotate_left
 ·
  rw [show okT tY.length 7 k = false by unfold okT; simp; omega]
  exact na_7_t rc lc cc rt ct tY rv lv cv rm lm cm cells ri li ci rs ls cs ro lo co rn ln cn a b c k hk h0 (tA k) (tB k) (tT k) e1 e2 e3  ha hb (by omega) w hS
 rw [show okT tY.length 7 k = true by unfold okT; simp; omega, Bool.true_and]
 exact na_7_ok rc lc cc rt ct tY rv lv cv rm lm cm cells ri li ci rs ls cs ro lo co rn ln cn a b c k hk h0 (tA k) (tB k) (tT k) e1 e2 e3  ha hb ht w hS
theorem nt_8 (a b c k : Int) (hk : I64 k) (h0 : 0 ≤ k) (w : World) (hS : IsS 10 Fx.enc w rt ct tY) : Calls Tryz.prog 33 #[.agg #[.slice rc lc cc, .slice rt tY.length ct, .slice rv lv cv, .slice rm lm cm, .int .i64 cells, .slice ri li ci, .slice rs ls cs, .slice ro lo co, .slice rn ln cn], .agg #[.int .i64 8, .int .i64 a, .int .i64 b, .int .i64 c, .int .i64 k]] w fun e w' => e = .returned (.bool (ybz cells lv lm tY ⟨8, a, b, c, k⟩)) ∧ Below w.heap.size w w' := by
 obtain ⟨e1, e2, e3⟩ := tAs h0
 have HN : ybz cells lv lm tY ⟨8, a, b, c, k⟩ = (okT tY.length 8 k && yap 8 (tY.getD (tA k) default) (tY.getD (tB k) default) (tY.getD (tT k) default)) := by unfold ybz tyB tyT; simp [show typB 8 = true from rfl]
 rw [HN]
 by_cases ha : tA k < tY.length
 rotate_left
 ·
  rw [show okT tY.length 8 k = false by unfold okT; simp; omega]
  exact na_8_a rc lc cc rt ct tY rv lv cv rm lm cm cells ri li ci rs ls cs ro lo co rn ln cn a b c k hk h0 (tA k) (tB k) (tT k) e1 e2 e3  (by omega) w hS
 by_cases hb : tB k < tY.length
 rotate_left
 ·
  rw [show okT tY.length 8 k = false by unfold okT; simp; omega]
  exact na_8_b rc lc cc rt ct tY rv lv cv rm lm cm cells ri li ci rs ls cs ro lo co rn ln cn a b c k hk h0 (tA k) (tB k) (tT k) e1 e2 e3  ha (by omega) w hS
 by_cases ht : tT k < tY.length
 rotate_left
 ·
  rw [show okT tY.length 8 k = false by unfold okT; simp; omega]
  exact na_8_t rc lc cc rt ct tY rv lv cv rm lm cm cells ri li ci rs ls cs ro lo co rn ln cn a b c k hk h0 (tA k) (tB k) (tT k) e1 e2 e3  ha hb (by omega) w hS
 rw [show okT tY.length 8 k = true by unfold okT; simp; omega, Bool.true_and]
 exact na_8_ok rc lc cc rt ct tY rv lv cv rm lm cm cells ri li ci rs ls cs ro lo co rn ln cn a b c k hk h0 (tA k) (tB k) (tT k) e1 e2 e3  ha hb ht w hS
theorem nt_9 (a b c k : Int) (hk : I64 k) (h0 : 0 ≤ k) (w : World) (hS : IsS 10 Fx.enc w rt ct tY) : Calls Tryz.prog 33 #[.agg #[.slice rc lc cc, .slice rt tY.length ct, .slice rv lv cv, .slice rm lm cm, .int .i64 cells, .slice ri li ci, .slice rs ls cs, .slice ro lo co, .slice rn ln cn], .agg #[.int .i64 9, .int .i64 a, .int .i64 b, .int .i64 c, .int .i64 k]] w fun e w' => e = .returned (.bool (ybz cells lv lm tY ⟨9, a, b, c, k⟩)) ∧ Below w.heap.size w w' := by
 obtain ⟨e1, e2, e3⟩ := tAs h0
 have HN : ybz cells lv lm tY ⟨9, a, b, c, k⟩ = (okT tY.length 9 k && yap 9 (tY.getD (tA k) default) default (tY.getD (tT k) default)) := by unfold ybz tyB tyT; simp [show typB 9 = true from rfl]
 rw [HN]
 by_cases ha : tA k < tY.length
 rotate_left
 ·
  rw [show okT tY.length 9 k = false by unfold okT; simp; omega]
  exact na_9_a rc lc cc rt ct tY rv lv cv rm lm cm cells ri li ci rs ls cs ro lo co rn ln cn a b c k hk h0 (tA k) (tB k) (tT k) e1 e2 e3  (by omega) w hS
 by_cases ht : tT k < tY.length
 rotate_left
 ·
  rw [show okT tY.length 9 k = false by unfold okT; simp; omega]
  exact na_9_t rc lc cc rt ct tY rv lv cv rm lm cm cells ri li ci rs ls cs ro lo co rn ln cn a b c k hk h0 (tA k) (tB k) (tT k) e1 e2 e3  ha (by omega) w hS
 rw [show okT tY.length 9 k = true by unfold okT; simp; omega, Bool.true_and]
 exact na_9_ok rc lc cc rt ct tY rv lv cv rm lm cm cells ri li ci rs ls cs ro lo co rn ln cn a b c k hk h0 (tA k) (tB k) (tT k) e1 e2 e3  ha ht w hS
theorem nt_10 (a b c k : Int) (hk : I64 k) (h0 : 0 ≤ k) (w : World) (hS : IsS 10 Fx.enc w rt ct tY) : Calls Tryz.prog 33 #[.agg #[.slice rc lc cc, .slice rt tY.length ct, .slice rv lv cv, .slice rm lm cm, .int .i64 cells, .slice ri li ci, .slice rs ls cs, .slice ro lo co, .slice rn ln cn], .agg #[.int .i64 10, .int .i64 a, .int .i64 b, .int .i64 c, .int .i64 k]] w fun e w' => e = .returned (.bool (ybz cells lv lm tY ⟨10, a, b, c, k⟩)) ∧ Below w.heap.size w w' := by
 obtain ⟨e1, e2, e3⟩ := tAs h0
 have HN : ybz cells lv lm tY ⟨10, a, b, c, k⟩ = (okT tY.length 10 k && yap 10 (tY.getD (tA k) default) default (tY.getD (tT k) default)) := by unfold ybz tyB tyT; simp [show typB 10 = true from rfl]
 rw [HN]
 by_cases ha : tA k < tY.length
 rotate_left
 ·
  rw [show okT tY.length 10 k = false by unfold okT; simp; omega]
  exact na_10_a rc lc cc rt ct tY rv lv cv rm lm cm cells ri li ci rs ls cs ro lo co rn ln cn a b c k hk h0 (tA k) (tB k) (tT k) e1 e2 e3  (by omega) w hS
 by_cases ht : tT k < tY.length
 rotate_left
 ·
  rw [show okT tY.length 10 k = false by unfold okT; simp; omega]
  exact na_10_t rc lc cc rt ct tY rv lv cv rm lm cm cells ri li ci rs ls cs ro lo co rn ln cn a b c k hk h0 (tA k) (tB k) (tT k) e1 e2 e3  ha (by omega) w hS
 rw [show okT tY.length 10 k = true by unfold okT; simp; omega, Bool.true_and]
 exact na_10_ok rc lc cc rt ct tY rv lv cv rm lm cm cells ri li ci rs ls cs ro lo co rn ln cn a b c k hk h0 (tA k) (tB k) (tT k) e1 e2 e3  ha ht w hS
theorem nt_13 (a b c k : Int) (hk : I64 k) (h0 : 0 ≤ k) (w : World) (hS : IsS 10 Fx.enc w rt ct tY) : Calls Tryz.prog 33 #[.agg #[.slice rc lc cc, .slice rt tY.length ct, .slice rv lv cv, .slice rm lm cm, .int .i64 cells, .slice ri li ci, .slice rs ls cs, .slice ro lo co, .slice rn ln cn], .agg #[.int .i64 13, .int .i64 a, .int .i64 b, .int .i64 c, .int .i64 k]] w fun e w' => e = .returned (.bool (ybz cells lv lm tY ⟨13, a, b, c, k⟩)) ∧ Below w.heap.size w w' := by
 obtain ⟨e1, e2, e3⟩ := tAs h0
 have HN : ybz cells lv lm tY ⟨13, a, b, c, k⟩ = (okT tY.length 13 k && yap 13 (tY.getD (tA k) default) (tY.getD (tB k) default) default) := by unfold ybz tyB tyT; simp [show typB 13 = true from rfl]
 rw [HN]
 by_cases ha : tA k < tY.length
 rotate_left
 ·
  rw [show okT tY.length 13 k = false by unfold okT; simp; omega]
  exact na_13_a rc lc cc rt ct tY rv lv cv rm lm cm cells ri li ci rs ls cs ro lo co rn ln cn a b c k hk h0 (tA k) (tB k) (tT k) e1 e2 e3  (by omega) w hS
 by_cases hb : tB k < tY.length
 rotate_left
 ·
  rw [show okT tY.length 13 k = false by unfold okT; simp; omega]
  exact na_13_b rc lc cc rt ct tY rv lv cv rm lm cm cells ri li ci rs ls cs ro lo co rn ln cn a b c k hk h0 (tA k) (tB k) (tT k) e1 e2 e3  ha (by omega) w hS
 rw [show okT tY.length 13 k = true by unfold okT; simp; omega, Bool.true_and]
 exact na_13_ok rc lc cc rt ct tY rv lv cv rm lm cm cells ri li ci rs ls cs ro lo co rn ln cn a b c k hk h0 (tA k) (tB k) (tT k) e1 e2 e3  ha hb w hS
theorem nt_14 (a b c k : Int) (hk : I64 k) (h0 : 0 ≤ k) (w : World) (hS : IsS 10 Fx.enc w rt ct tY) : Calls Tryz.prog 33 #[.agg #[.slice rc lc cc, .slice rt tY.length ct, .slice rv lv cv, .slice rm lm cm, .int .i64 cells, .slice ri li ci, .slice rs ls cs, .slice ro lo co, .slice rn ln cn], .agg #[.int .i64 14, .int .i64 a, .int .i64 b, .int .i64 c, .int .i64 k]] w fun e w' => e = .returned (.bool (ybz cells lv lm tY ⟨14, a, b, c, k⟩)) ∧ Below w.heap.size w w' := by
 obtain ⟨e1, e2, e3⟩ := tAs h0
 have HN : ybz cells lv lm tY ⟨14, a, b, c, k⟩ = (okT tY.length 14 k && yap 14 (tY.getD (tA k) default) (tY.getD (tB k) default) default) := by unfold ybz tyB tyT; simp [show typB 14 = true from rfl]
 rw [HN]
 by_cases ha : tA k < tY.length
 rotate_left
 ·
  rw [show okT tY.length 14 k = false by unfold okT; simp; omega]
  exact na_14_a rc lc cc rt ct tY rv lv cv rm lm cm cells ri li ci rs ls cs ro lo co rn ln cn a b c k hk h0 (tA k) (tB k) (tT k) e1 e2 e3  (by omega) w hS
 by_cases hb : tB k < tY.length
 rotate_left
 ·
  rw [show okT tY.length 14 k = false by unfold okT; simp; omega]
  exact na_14_b rc lc cc rt ct tY rv lv cv rm lm cm cells ri li ci rs ls cs ro lo co rn ln cn a b c k hk h0 (tA k) (tB k) (tT k) e1 e2 e3  ha (by omega) w hS
 rw [show okT tY.length 14 k = true by unfold okT; simp; omega, Bool.true_and]
 exact na_14_ok rc lc cc rt ct tY rv lv cv rm lm cm cells ri li ci rs ls cs ro lo co rn ln cn a b c k hk h0 (tA k) (tB k) (tT k) e1 e2 e3  ha hb w hS
theorem ylg (op a b c k : Int) (hk : I64 k) (hf : ybk op a b c k = true) (w : World) (hS : IsS 10 Fx.enc w rt ct tY) : Calls Tryz.prog 33 #[.agg #[.slice rc lc cc, .slice rt tY.length ct, .slice rv lv cv, .slice rm lm cm, .int .i64 cells, .slice ri li ci, .slice rs ls cs, .slice ro lo co, .slice rn ln cn], .agg #[.int .i64 op, .int .i64 a, .int .i64 b, .int .i64 c, .int .i64 k]] w fun e w' => e = .returned (.bool (ybz cells lv lm tY ⟨op, a, b, c, k⟩)) ∧ Below w.heap.size w w' := by
 by_cases o1 : op = 1
 ·
  subst o1
  exact na_o rc lc cc rt ct tY rv lv cv rm lm cm cells ri li ci rs ls cs ro lo co rn ln cn 1 a b c k hk (by omega) (by omega) (by omega) (by omega) (by omega) (by omega) (by omega) (by omega) (by omega) (by omega) (by omega) (by omega) (by omega) w
 have h0 := form_pos hf o1
 by_cases o2 : op = 2
 ·
  subst o2
  exact na_2 rc lc cc rt ct tY rv lv cv rm lm cm cells ri li ci rs ls cs ro lo co rn ln cn a b c k hk h0 w
 by_cases o3 : op = 3
 ·
  subst o3
  exact na_3 rc lc cc rt ct tY rv lv cv rm lm cm cells ri li ci rs ls cs ro lo co rn ln cn a b c k hk h0 w
 by_cases o5 : op = 5
 ·
  subst o5
  exact nt_5 rc lc cc rt ct tY rv lv cv rm lm cm cells ri li ci rs ls cs ro lo co rn ln cn a b c k hk h0 w hS
 by_cases o6 : op = 6
 ·
  subst o6
  exact nt_6 rc lc cc rt ct tY rv lv cv rm lm cm cells ri li ci rs ls cs ro lo co rn ln cn a b c k hk h0 w hS
 by_cases o7 : op = 7
 ·
  subst o7
  exact nt_7 rc lc cc rt ct tY rv lv cv rm lm cm cells ri li ci rs ls cs ro lo co rn ln cn a b c k hk h0 w hS
 by_cases o8 : op = 8
 ·
  subst o8
  exact nt_8 rc lc cc rt ct tY rv lv cv rm lm cm cells ri li ci rs ls cs ro lo co rn ln cn a b c k hk h0 w hS
 by_cases o9 : op = 9
 ·
  subst o9
  exact nt_9 rc lc cc rt ct tY rv lv cv rm lm cm cells ri li ci rs ls cs ro lo co rn ln cn a b c k hk h0 w hS
 by_cases o10 : op = 10
 ·
  subst o10
  exact nt_10 rc lc cc rt ct tY rv lv cv rm lm cm cells ri li ci rs ls cs ro lo co rn ln cn a b c k hk h0 w hS
 by_cases o13 : op = 13
 ·
  subst o13
  exact nt_13 rc lc cc rt ct tY rv lv cv rm lm cm cells ri li ci rs ls cs ro lo co rn ln cn a b c k hk h0 w hS
 by_cases o14 : op = 14
 ·
  subst o14
  exact nt_14 rc lc cc rt ct tY rv lv cv rm lm cm cells ri li ci rs ls cs ro lo co rn ln cn a b c k hk h0 w hS
 by_cases o20 : op = 20
 ·
  subst o20
  exact na_20 rc lc cc rt ct tY rv lv cv rm lm cm cells ri li ci rs ls cs ro lo co rn ln cn a b c k hk h0 w
 by_cases o21 : op = 21
 ·
  subst o21
  exact na_21 rc lc cc rt ct tY rv lv cv rm lm cm cells ri li ci rs ls cs ro lo co rn ln cn a b c k hk h0 w
 by_cases o22 : op = 22
 ·
  subst o22
  exact na_22 rc lc cc rt ct tY rv lv cv rm lm cm cells ri li ci rs ls cs ro lo co rn ln cn a b c k hk h0 w
 rw [show ybz cells lv lm tY ⟨op, a, b, c, k⟩ = true by unfold ybz; simp [*, typB]; omega]
 exact na_o rc lc cc rt ct tY rv lv cv rm lm cm cells ri li ci rs ls cs ro lo co rn ln cn op a b c k hk o2 o3 o5 o6 o7 o8 o9 o10 o13 o14 o20 o21 o22 w
theorem yfq (p : PV) (r : Option Addr) (cap : Nat) (l : List Int) (w : World) (hl : IsInts w r cap .i64 l) : Calls Tryz.prog 34 #[p.val, .slice r l.length cap] w fun e w' => e = .returned (.bool (inL p.cells l)) ∧ Below w.heap.size w w' := by
 obtain ⟨rc, cc, xY, rt, ct, tY, rv, cv, zY, rm, cm, mY, cells, ri, ci, qY, rs, cs, sY, ro, co, oY, rn, cn, iY⟩ := p
 simp only [PV.val]
 have hmx := Nat.le_trans hl.le hl.max
 unfold maxLen at hmx
 have HX : Hid (l = [] ∨ ∃ b off, r = some ⟨b, off, none⟩ ∧ b < w.heap.size ∧ ∀ i, i < l.length → w.cell? ⟨b, off + i, none⟩ = some (.int .i64 (l.getD i 0))) := H! (by
  by_cases e : l = []
  ·
   exact .inl e
  ·
   exact .inr (hl.cells e))
 have HT : Hid (l.length ≤ 1000 → (∀ j, j < l.length → badC cells (l.getD j 0) = false) → inL cells l = true) := H! (fun h1 h2 => ygj h1 (by
  rw [List.any_eq_false]
  intro x hx
  obtain ⟨i, hi, rfl⟩ := List.getElem_of_mem hx
  have := h2 i hi
  rw [List.getD_eq_getElem?_getD, List.getElem?_eq_getElem hi] at this
  simpa using this))
 have HF : Hid (∀ j, j < l.length → badC cells (l.getD j 0) = true → inL cells l = false) := H! (fun j hj h => yej (.inr (List.any_eq_true.2 ⟨_, yek hj, h⟩)))
 have HB : Hid (1000 < l.length → inL cells l = false) := H! (fun h => yej (.inl h))
 clear hl
 generalize inL cells l = R at *
 generalize hn : l.length = n at *
 have HN := H! hn
 clear hn
 by_cases hbig : 1000 < n
 ·
  obtain rfl := HB.out hbig
  clear HT HF HB HX
  have h1 : (1000 : Int) < n := by omega
  go_enter Tryz.func34, Tryz.ntmps34
  go_wp2
  go_ret
  exact ⟨rfl, bw⟩
 have h1 : ¬ (1000 : Int) < n := by omega
 clear HB
 go_enter Tryz.func34, Tryz.ntmps34
 go_wp2
 have hc4 : (w.alloc (.cells #[.slice rc xY.length cc, .slice rt tY.length ct, .slice rv zY.length cv, .slice rm mY.length cm, .int .i64 cells, .slice ri qY.length ci, .slice rs sY.length cs, .slice ro oY.length co, .slice rn iY.length cn] 28)).cell? ⟨w.heap.size, 4, none⟩ = some (.int .i64 cells) := by first | go_keep | simp
 have hbW : Below w.heap.size w (w.alloc (.cells #[.slice rc xY.length cc, .slice rt tY.length ct, .slice rv zY.length cv, .slice rm mY.length cm, .int .i64 cells, .slice ri qY.length ci, .slice rs sY.length cs, .slice ro oY.length co, .slice rn iY.length cn] 28)) := bw
 have hz : w.heap.size < (w.alloc (.cells #[.slice rc xY.length cc, .slice rt tY.length ct, .slice rv zY.length cv, .slice rm mY.length cm, .int .i64 cells, .slice ri qY.length ci, .slice rs sY.length cs, .slice ro oY.length co, .slice rn iY.length cn] 28)).heap.size := by rw [zA]; omega
 generalize w.alloc (.cells #[.slice rc xY.length cc, .slice rt tY.length ct, .slice rv zY.length cv, .slice rm mY.length cm, .int .i64 cells, .slice ri qY.length ci, .slice rs sY.length cs, .slice ro oY.length co, .slice rn iY.length cn] 28) = W1 at *
 go_loopg [5] n (fun kx s5 wr => ∃ (j : Nat) (e : Later W1), s5 = .int .i64 j ∧ j ≤ n ∧ n - j ≤ kx ∧ wr = e.w ∧ Hid (∀ i, i < j → badC cells (l.getD i 0) = false))
 case atStart => exact ⟨0, ⟨W1, Below.refl _ _⟩, rfl, by omega, by omega, rfl, H! (fun i h => absurd h (by omega))⟩
 case round =>
  obtain ⟨j, e, rfl, hj, hjx, rfl, HG⟩ := hrel
  have hes := e.h.size
  have hce : e.w.cell? ⟨w.heap.size, 4, none⟩ = some (.int .i64 cells) := (Later.cell e hz).trans hc4
  have hbe : Below w.heap.size w e.w := hbW.trans (e.h.mono (by omega))
  by_cases hlt : j < n
  ·
   have hj1 : (0 : Int) ≤ (j : Int) := by omega
   have hj2 : (j : Int) < n := by omega
   obtain ⟨bX, off, rfl, hb, hc⟩ := HX.out.resolve_left (fun e => by have := HN.out; rw [e] at this; simp at this; omega)
   have hcx : e.w.cell? ⟨bX, off + j, none⟩ = some (.int .i64 (l.getD j 0)) := (hbe.cell (p := ⟨bX, off + j, none⟩) hb).trans (hc j hlt)
   have HFj := H! (fun h => HF.out j hlt h)
   have HGj : Hid (badC cells (l.getD j 0) = false → ∀ i, i < j + 1 → badC cells (l.getD i 0) = false) := H! (fun h i hi => by
    by_cases e : i = j
    ·
     subst e; exact h
    ·
     exact HG.out i (by omega))
   clear HF hc
   generalize l.getD j 0 = x at *
   by_cases n0 : x < 0
   ·
    obtain rfl := HFj.out (by unfold badC; simp; omega)
    clear HT HFj HGj
    go_wp2
    go_quiet (fail)
    go_wp2
    go_ret
    exact ⟨rfl, ybf hbe _⟩
   ·
    by_cases n1 : cells ≤ x
    ·
     obtain rfl := HFj.out (by unfold badC; simp; omega)
     clear HT HFj HGj
     go_wp2
     go_quiet (fail)
     go_wp2
     go_ret
     exact ⟨rfl, ybf hbe _⟩
    ·
     have HG2 := H! (HGj.out (by unfold badC; simp; omega))
     clear HFj HGj
     go_wp2
     go_quiet (fail)
     go_wp2
     go_roundg (n - (j + 1))
     case measure => omega
     case rel => exact ⟨j + 1, ⟨_, by first | exact e.h | exact e.h.drew | exact ybf e.h _⟩, by go_num, by omega, by omega, rfl, HG2⟩
  ·
   obtain rfl : j = n := by omega
   obtain rfl := HT.out (by omega) HG.out
   clear HT HF
   go_wp2
   go_ret
   exact ⟨rfl, by first | exact hbe | (exact bw)⟩
end
theorem ydk (x : Int) (w : World) : Calls Tryz.prog 72 #[.int .i64 x] w fun e w' => e = .returned (.bool (!farB x)) ∧ w = w' := by
 go_enter Tryz.func72, Tryz.ntmps72
 go_wp2
 all_goals go_ret
 all_goals exact ⟨yal (by grind [farB]), rfl⟩
theorem ygv (r : Option Addr) (cap : Nat) (xs : List Int) (w : World) (hxs : IsInts w r cap .i64 xs) :
  Calls Tryz.prog 71 #[.slice r xs.length cap] w fun e w' => e = .returned (.bool (ydi xs)) ∧ Below w.heap.size w w' := by
 by_cases h2 : xs.length < 2
 ·
  have H := H! (yao.2 (fun h : yce xs => by have := h.1; omega))
  have h2' : (xs.length : Int) < 2 := by omega
  clear hxs h2
  go_enter Tryz.func71, Tryz.ntmps71
  go_wp2
  go_ret
  exact ⟨by rw [H.out]; first | done | rfl, bw⟩
 ·
  by_cases h3 : 32 < xs.length
  ·
   have H := H! (yao.2 (fun h : yce xs => by have := h.2.1; omega))
   have h2' : ¬ (xs.length : Int) < 2 := by omega
   have h3' : (32 : Int) < xs.length := by omega
   clear hxs h2 h3
   go_enter Tryz.func71, Tryz.ntmps71
   go_wp2
   go_ret
   exact ⟨by rw [H.out]; first | done | rfl, bw⟩
  ·
   have h2' : ¬ (xs.length : Int) < 2 := by omega
   have h3' : ¬ (32 : Int) < xs.length := by omega
   obtain ⟨bX, off, rfl, hb, hc⟩ := hxs.cells (fun e => by subst e; simp at h2)
   have HC := H! hc
   have HAX : Hid ((∀ t, t < xs.length → farB (xs.getD t 0) = false) → (∀ t, t + 1 < xs.length → xs.getD t 0 < xs.getD (t + 1) 0) → yce xs) := H! (fun g h => ⟨by omega, by omega, yhf g, h⟩)
   clear hc hxs
   generalize hn : xs.length = n at *
   have HN := H! hn
   clear hn
   go_enter Tryz.func71, Tryz.ntmps71
   go_wp2
   go_loopg [3] n (fun kx s3 wr => ∃ (k : Nat) (e : Later w), s3 = .int .i64 k ∧ k ≤ n ∧ n - k ≤ kx ∧ wr = e.w ∧ Hid (∀ t, t < k → farB (xs.getD t 0) = false) ∧ Hid (∀ t, t + 1 < k → xs.getD t 0 < xs.getD (t + 1) 0))
   case atStart => exact ⟨0, ⟨w, Below.refl _ _⟩, rfl, by omega, by omega, rfl, H! (fun t h => absurd h (Nat.not_lt_zero _)), H! (fun t h => absurd h (Nat.not_lt_zero _))⟩
   case round =>
    obtain ⟨k, e, rfl, hk, hkx, rfl, HP, HQ⟩ := hrel
    have hes := e.h.size
    have hbe : bX < e.w.heap.size := by omega
    by_cases hlt : k < n
    ·
     have hk1 : (0 : Int) ≤ (k : Int) := by omega
     have hk2 : (k : Int) < n := by omega
     have hc1 : e.w.cell? ⟨bX, off + k, none⟩ = some (.int .i64 (xs.getD k 0)) := by
      rw [Later.cell e hb]
      exact HC.out k (by have := HN.out; omega)
     have HF : Hid (farB (xs.getD k 0) = true → ydi xs = false) := H! (fun h => yao.2 (fun hh => by have := yhe (show k < xs.length by have := HN.out; omega) h; rw [hh.2.2.1] at this; cases this))
     cases hf : farB (xs.getD k 0) with
     | true =>
      have H := H! (HF.out hf)
      clear HF
      generalize xs.getD k 0 = x at hc1 hf
      go_wp2
      (refine yaw (by kernel_rfl) (by kernel_rfl) ?_; (repeat (go_big_quiet_step ((go_at_call 72; exact ybx (ydk _ _))))); refine wpQuiet_nil ?_; rintro _ ⟨e1, rfl⟩; have e1s := e1.h.size; (try simp only [zA, World.size_drewN, World.drewN_heap] at e1s); (try (have : w.heap.size < e1.w.heap.size := by omega)); (try (have : w.heap.size + 1 < e1.w.heap.size := by omega)); (try (have : w.heap.size + 1 + 1 < e1.w.heap.size := by omega)); (try (have : w.heap.size + 1 + 1 + 1 < e1.w.heap.size := by omega)); (try (have : bX < e1.w.heap.size := by omega)); (try (have : bY < e1.w.heap.size := by omega)); (try (have : bZ < e1.w.heap.size := by omega)))
      go_wp2
      go_ret
      exact ⟨by rw [H.out]; first | done | rfl, ybm e.h e1⟩
     | false =>
      have HFK := H! hf
      clear HF
      by_cases hk0 : k = 0
      ·
       have hkd : decide ((0 : Int) < (k : Int)) = false := by simp; omega
       have hkd2 : decide (0 < k) = false := by simp; omega
       have HK := H! hk0
       clear hk0
       generalize hx : xs.getD k 0 = x at hc1 hf
       have HX := H! hx
       clear hx
       go_wp2
       (refine yaw (by kernel_rfl) (by kernel_rfl) ?_; (repeat (go_big_quiet_step ((go_at_call 72; exact ybx (ydk _ _))))); refine wpQuiet_nil ?_; rintro _ ⟨e1, rfl⟩; have e1s := e1.h.size; (try simp only [zA, World.size_drewN, World.drewN_heap] at e1s); (try (have : w.heap.size < e1.w.heap.size := by omega)); (try (have : w.heap.size + 1 < e1.w.heap.size := by omega)); (try (have : w.heap.size + 1 + 1 < e1.w.heap.size := by omega)); (try (have : w.heap.size + 1 + 1 + 1 < e1.w.heap.size := by omega)); (try (have : bX < e1.w.heap.size := by omega)); (try (have : bY < e1.w.heap.size := by omega)); (try (have : bZ < e1.w.heap.size := by omega)))
       go_wp2
       go_roundg (n - (k + 1))
       case measure => omega
       case rel =>
        have hkk := HK.out
        refine ⟨k + 1, ⟨_, ybm e.h e1⟩, by go_num, by omega, Nat.le_refl _, rfl, H! (fun t ht => ?_), H! (fun t ht => by omega)⟩
        obtain rfl : t = k := by omega
        exact HFK.out
      ·
       have hk3 : (0 : Int) < (k : Int) := by omega
       have hk6 : 0 < k := by omega
       have hw1 : IntKind.i64.wrap ((k : Int) - 1) = (k : Int) - 1 := IntWalk.i64_in _ (by omega)
       have hk4 : (0 : Int) ≤ (k : Int) - 1 := by omega
       have hk5 : (k : Int) - 1 < n := by omega
       have hc2 : e.w.cell? ⟨bX, off + (k - 1), none⟩ = some (.int .i64 (xs.getD (k - 1) 0)) := by
        rw [Later.cell e hb]
        exact HC.out (k - 1) (by have := HN.out; omega)
       have HV : Hid (∀ x y, xs.getD k 0 = x → xs.getD (k - 1) 0 = y → x ≤ y → ydi xs = false) := H! (fun x y h1 h2 h => yao.2 (fun hh => by
        have := hh.2.2.2 (k - 1) (by have := HN.out; omega)
        rw [show k - 1 + 1 = k by omega, h1, h2] at this
        omega))
       generalize hx : xs.getD k 0 = x at hc1 hf
       generalize hy : xs.getD (k - 1) 0 = y at hc2
       have HXY := H! (And.intro hx hy)
       clear hx hy
       by_cases hxy : x ≤ y
       ·
        have H := H! (HV.out x y HXY.out.1 HXY.out.2 hxy)
        go_wp2
        (refine yaw (by kernel_rfl) (by kernel_rfl) ?_; (repeat (go_big_quiet_step ((go_at_call 72; exact ybx (ydk _ _))))); refine wpQuiet_nil ?_; rintro _ ⟨e1, rfl⟩; have e1s := e1.h.size; (try simp only [zA, World.size_drewN, World.drewN_heap] at e1s); (try (have : w.heap.size < e1.w.heap.size := by omega)); (try (have : w.heap.size + 1 < e1.w.heap.size := by omega)); (try (have : w.heap.size + 1 + 1 < e1.w.heap.size := by omega)); (try (have : w.heap.size + 1 + 1 + 1 < e1.w.heap.size := by omega)); (try (have : bX < e1.w.heap.size := by omega)); (try (have : bY < e1.w.heap.size := by omega)); (try (have : bZ < e1.w.heap.size := by omega)))
        go_wp2
        go_ret
        exact ⟨by rw [H.out]; first | done | rfl, ybm e.h e1⟩
       ·
        have hxy2 : y < x := by omega
        have HLT := H! hxy2
        go_wp2
        (refine yaw (by kernel_rfl) (by kernel_rfl) ?_; (repeat (go_big_quiet_step ((go_at_call 72; exact ybx (ydk _ _))))); refine wpQuiet_nil ?_; rintro _ ⟨e1, rfl⟩; have e1s := e1.h.size; (try simp only [zA, World.size_drewN, World.drewN_heap] at e1s); (try (have : w.heap.size < e1.w.heap.size := by omega)); (try (have : w.heap.size + 1 < e1.w.heap.size := by omega)); (try (have : w.heap.size + 1 + 1 < e1.w.heap.size := by omega)); (try (have : w.heap.size + 1 + 1 + 1 < e1.w.heap.size := by omega)); (try (have : bX < e1.w.heap.size := by omega)); (try (have : bY < e1.w.heap.size := by omega)); (try (have : bZ < e1.w.heap.size := by omega)))
        go_wp2
        go_roundg (n - (k + 1))
        case measure => omega
        case rel =>
         refine ⟨k + 1, ⟨_, ybm e.h e1⟩, by go_num, by omega, Nat.le_refl _, rfl, H! (fun t ht => ?_), H! (fun t ht => ?_)⟩
         ·
          by_cases h : t < k
          ·
           exact HP.out t h
          ·
           obtain rfl : t = k := by omega
           exact HFK.out
         ·
          by_cases h : t + 1 < k
          ·
           exact HQ.out t h
          ·
           obtain rfl : t = k - 1 := by omega
           rw [show k - 1 + 1 = k by omega, HXY.out.1, HXY.out.2]
           exact HLT.out
    ·
     obtain rfl : k = n := by omega
     go_wp2
     go_ret
     refine ⟨yal ?_, e.h⟩
     exact (ybd.2 (HAX.out HP.out HQ.out)).symm
theorem ylf (rx ry : Option Addr) (cx cy : Nat) (xs ys : List Int) (w : World) (hx : IsInts w rx cx .i64 xs) (hy : IsInts w ry cy .i64 ys) :
  Calls Tryz.prog 30 #[.agg #[.slice rx xs.length cx, .slice ry ys.length cy]] w fun e w' => e = .returned (.bool (ycg xs ys)) ∧ Below w.heap.size w w' := by
 have HX : Hid (∀ w', Below w.heap.size w w' → IsInts w' rx cx .i64 xs) := H! (fun _ h => hx.later h)
 clear hx
 cases ha : ydi xs with
 | false =>
  have H : Hid (ycg xs ys = false) := H! (yby.2 (fun h => yao.1 ha h.2.1))
  clear hy
  go_enter Tryz.func30, Tryz.ntmps30
  go_wp2_with ((go_at_call 71; refine (ygv _ _ _ _ (HX.out _ bw)).mono ?_; rintro e hb1w ⟨rfl, hb1⟩; obtain ⟨hb1c, hb1f⟩ := yah hb1; have hb1s := hb1.size; (try simp only [zA] at hb1s); (try (have : w.heap.size < hb1w.heap.size := by omega)); (try (have : w.heap.size + 1 < hb1w.heap.size := by omega)); (try (have : w.heap.size + 1 + 1 < hb1w.heap.size := by omega)); (try (have : w.heap.size + 1 + 1 + 1 < hb1w.heap.size := by omega)); (try (have : bX < hb1w.heap.size := by omega)); (try (have : bY < hb1w.heap.size := by omega)); (try (have : bZ < hb1w.heap.size := by omega))))
  go_ret
  exact ⟨by rw [H.out]; first | done | rfl, bw⟩
 | true =>
  have hax := ybd.1 ha
  by_cases hl : xs.length = ys.length
  ·
   have hl' : ((ys.length : Int) == (xs.length : Int)) = true := by simp [hl]
   have hl2 : ((ys.length : Int) != (xs.length : Int)) = false := by simp [hl]
   have h2 := hax.1
   have h32 := hax.2.1
   obtain ⟨bY, off, rfl, hb, hc⟩ := hy.cells (fun e => by rw [e] at hl; simp only [List.length_nil] at hl; omega)
   have HC := H! hc
   have HT : Hid ((∀ t, t < ys.length → farB (ys.getD t 0) = false) → ycg xs ys = true) := H! (fun h => yhg.2 ⟨hl, hax, yhf h⟩)
   have HFA : Hid (∀ t, t < ys.length → farB (ys.getD t 0) = true → ycg xs ys = false) := H! (fun t ht h => yby.2 (fun hh => by have := yhe ht h; rw [hh.2.2] at this; cases this))
   clear hc hy hax hl
   have hm32 : xs.length ≤ 32 := h32
   generalize hn : ys.length = n at *
   have HN := H! hn
   clear hn
   go_enter Tryz.func30, Tryz.ntmps30
   go_wp2_with ((go_at_call 71; refine (ygv _ _ _ _ (HX.out _ bw)).mono ?_; rintro e hb1w ⟨rfl, hb1⟩; obtain ⟨hb1c, hb1f⟩ := yah hb1; have hb1s := hb1.size; (try simp only [zA] at hb1s); (try (have : w.heap.size < hb1w.heap.size := by omega)); (try (have : w.heap.size + 1 < hb1w.heap.size := by omega)); (try (have : w.heap.size + 1 + 1 < hb1w.heap.size := by omega)); (try (have : w.heap.size + 1 + 1 + 1 < hb1w.heap.size := by omega)); (try (have : bX < hb1w.heap.size := by omega)); (try (have : bY < hb1w.heap.size := by omega)); (try (have : bZ < hb1w.heap.size := by omega))))
   go_loopg [3] n (fun kx s3 wr => ∃ (k : Nat) (e : Later hb1w), s3 = .int .i64 k ∧ k ≤ n ∧ n - k ≤ kx ∧ wr = e.w ∧ Hid (∀ t, t < k → farB (ys.getD t 0) = false))
   case atStart => exact ⟨0, ⟨hb1w, Below.refl _ _⟩, rfl, by omega, by omega, rfl, H! (fun t h => absurd h (Nat.not_lt_zero _))⟩
   case round =>
    obtain ⟨k, e, rfl, hk, hkx, rfl, HP⟩ := hrel
    have hes := e.h.size
    have hbe : bY < e.w.heap.size := by omega
    have hbo : w.heap.size < e.w.heap.size := by omega
    have hmn : n ≤ 32 := by
     have : ((n : Int) == (xs.length : Int)) = true := hl'
     simp at this
     omega
    by_cases hlt : k < n
    ·
     have hk1 : (0 : Int) ≤ (k : Int) := by omega
     have hk2 : (k : Int) < n := by omega
     have hc1 : e.w.cell? ⟨bY, off + k, none⟩ = some (.int .i64 (ys.getD k 0)) := by
      have hbw : Below w.heap.size w e.w := bw
      rw [hbw.cell (p := ⟨bY, off + k, none⟩) hb]
      exact HC.out k (by have := HN.out; omega)
     have HF1 : Hid (farB (ys.getD k 0) = true → ycg xs ys = false) := H! (HFA.out k (by omega))
     cases hf : farB (ys.getD k 0) with
     | true =>
      have H := H! (HF1.out hf)
      clear HF1
      generalize ys.getD k 0 = x at hc1 hf
      go_wp2_with ((go_at_call 72; refine (ydk _ _).mono ?_; rintro e w' ⟨rfl, rfl⟩))
      go_ret
      exact ⟨by rw [H.out]; first | done | rfl, bw⟩
     | false =>
      have HFK := H! hf
      clear HF1
      generalize hx : ys.getD k 0 = x at hc1 hf
      have HXX := H! hx
      clear hx
      go_wp2_with ((go_at_call 72; refine (ydk _ _).mono ?_; rintro e w' ⟨rfl, rfl⟩))
      go_roundg (n - (k + 1))
      case measure => omega
      case rel =>
       refine ⟨k + 1, e, by go_num, by omega, Nat.le_refl _, rfl, H! (fun t ht => ?_)⟩
       by_cases h : t < k
       ·
        exact HP.out t h
       ·
        obtain rfl : t = k := by omega
        exact HFK.out
    ·
     obtain rfl : k = n := by omega
     go_wp2
     go_ret
     refine ⟨yal ?_, bw⟩
     exact (HT.out (fun t ht => HP.out t (by have := HN.out; omega))).symm
  ·
   have hl' : ((ys.length : Int) == (xs.length : Int)) = false := by simp; omega
   have hl2 : ((ys.length : Int) != (xs.length : Int)) = true := by simp; omega
   have H : Hid (ycg xs ys = false) := H! (yby.2 (fun h => hl h.1))
   clear hl hax hy
   go_enter Tryz.func30, Tryz.ntmps30
   go_wp2_with ((go_at_call 71; refine (ygv _ _ _ _ (HX.out _ bw)).mono ?_; rintro e hb1w ⟨rfl, hb1⟩; obtain ⟨hb1c, hb1f⟩ := yah hb1; have hb1s := hb1.size; (try simp only [zA] at hb1s); (try (have : w.heap.size < hb1w.heap.size := by omega)); (try (have : w.heap.size + 1 < hb1w.heap.size := by omega)); (try (have : w.heap.size + 1 + 1 < hb1w.heap.size := by omega)); (try (have : w.heap.size + 1 + 1 + 1 < hb1w.heap.size := by omega)); (try (have : bX < hb1w.heap.size := by omega)); (try (have : bY < hb1w.heap.size := by omega)); (try (have : bZ < hb1w.heap.size := by omega))))
   go_ret
   exact ⟨by rw [H.out]; first | done | rfl, bw⟩
@[go_sem] def tupS (s : Nat) (x : Int) : Value := .tuple #[.int .i64 (s : Int), .int .i64 x]
theorem size_setCell (w : World) (a : Addr) (v : Value) : (w.setCell a v).heap.size = w.heap.size := by simp [World.setCell]
theorem ygw (x : Int) (w : World) : Calls Tryz.prog 74 #[.int .i64 x] w fun e w' => e = .returned (.bool (farB x)) ∧ w = w' := by
 go_enter Tryz.func74, Tryz.ntmps74
 go_wp2
 all_goals go_ret
 all_goals exact ⟨yal (by grind [farB]), rfl⟩
theorem yie {x : Int} {b : Bool} (h : farB x = b) (w : World) : Calls Tryz.prog 74 #[.int .i64 x] w fun e w' => e = .returned (.bool b) ∧ w = w' := by
 subst h
 exact ygw x w
theorem yeo (r : Option Addr) (cap : Nat) (xs : List Int) (w : World) (hxs : IsInts w r cap .i64 xs) :
  Calls Tryz.prog 73 #[.slice r xs.length cap] w fun e w' => e = .returned (.bool (ydi xs)) ∧ Below w.heap.size w w' := by
 by_cases h2 : xs.length < 2
 ·
  have H := H! (yao.2 (fun h : yce xs => by have := h.1; omega))
  have h2' : (xs.length : Int) < 2 := by omega
  clear hxs h2
  go_enter Tryz.func73, Tryz.ntmps73
  go_wp2
  go_ret
  exact ⟨by rw [H.out]; first | done | rfl, bw⟩
 ·
  by_cases h3 : 32 < xs.length
  ·
   have H := H! (yao.2 (fun h : yce xs => by have := h.2.1; omega))
   have h2' : ¬ (xs.length : Int) < 2 := by omega
   have h3' : (32 : Int) < xs.length := by omega
   clear hxs h2 h3
   go_enter Tryz.func73, Tryz.ntmps73
   go_wp2
   go_ret
   exact ⟨by rw [H.out]; first | done | rfl, bw⟩
  ·
   have h2' : ¬ (xs.length : Int) < 2 := by omega
   have h3' : ¬ (32 : Int) < xs.length := by omega
   obtain ⟨bX, off, rfl, hb, hc⟩ := hxs.cells (fun e => by subst e; simp at h2)
   have HC := H! hc
   have HAX : Hid ((∀ t, t < xs.length → farB (xs.getD t 0) = false) → (∀ t, t + 1 < xs.length → xs.getD t 0 < xs.getD (t + 1) 0) → yce xs) := H! (fun g h => ⟨by omega, by omega, yhf g, h⟩)
   clear hc hxs
   generalize hn : xs.length = n at *
   have HN := H! hn
   clear hn
   go_enter Tryz.func73, Tryz.ntmps73
   go_wp2
   go_loopg [3] n (fun kx s3 wr => ∃ (k : Nat) (e : Later w), s3 = .int .i64 k ∧ k ≤ n ∧ n - k ≤ kx ∧ wr = e.w ∧ Hid (∀ t, t < k → farB (xs.getD t 0) = false) ∧ Hid (∀ t, t + 1 < k → xs.getD t 0 < xs.getD (t + 1) 0))
   case atStart => exact ⟨0, ⟨w, Below.refl _ _⟩, rfl, by omega, by omega, rfl, H! (fun t h => absurd h (Nat.not_lt_zero _)), H! (fun t h => absurd h (Nat.not_lt_zero _))⟩
   case round =>
    obtain ⟨k, e, rfl, hk, hkx, rfl, HP, HQ⟩ := hrel
    have hes := e.h.size
    have hbe : bX < e.w.heap.size := by omega
    by_cases hlt : k < n
    ·
     have hk1 : (0 : Int) ≤ (k : Int) := by omega
     have hk2 : (k : Int) < n := by omega
     have hc1 : e.w.cell? ⟨bX, off + k, none⟩ = some (.int .i64 (xs.getD k 0)) := by
      rw [Later.cell e hb]
      exact HC.out k (by have := HN.out; omega)
     have HF : Hid (farB (xs.getD k 0) = true → ydi xs = false) := H! (fun h => yao.2 (fun hh => by have := yhe (show k < xs.length by have := HN.out; omega) h; rw [hh.2.2.1] at this; cases this))
     cases hf : farB (xs.getD k 0) with
     | true =>
      have H := H! (HF.out hf)
      clear HF
      generalize xs.getD k 0 = x at hc1 hf
      go_wp2
      (refine yaw (by kernel_rfl) (by kernel_rfl) ?_; (repeat (go_big_quiet_step ((go_at_call 74; exact ybx (yie hf _))))); refine wpQuiet_nil ?_; rintro _ ⟨e1, rfl⟩; have e1s := e1.h.size; (try simp only [zA, World.size_drewN, World.drewN_heap] at e1s); (try (have : w.heap.size < e1.w.heap.size := by omega)); (try (have : w.heap.size + 1 < e1.w.heap.size := by omega)); (try (have : w.heap.size + 1 + 1 < e1.w.heap.size := by omega)); (try (have : w.heap.size + 1 + 1 + 1 < e1.w.heap.size := by omega)); (try (have : bX < e1.w.heap.size := by omega)); (try (have : bY < e1.w.heap.size := by omega)); (try (have : bZ < e1.w.heap.size := by omega)))
      go_wp2
      go_ret
      exact ⟨by rw [H.out]; first | done | rfl, ybm e.h e1⟩
     | false =>
      have HFK := H! hf
      clear HF
      by_cases hk0 : k = 0
      ·
       have hkd : decide ((0 : Int) < (k : Int)) = false := by simp; omega
       have hkd2 : decide (0 < k) = false := by simp; omega
       have HK := H! hk0
       clear hk0
       generalize hx : xs.getD k 0 = x at hc1 hf
       have HX := H! hx
       clear hx
       go_wp2
       (refine yaw (by kernel_rfl) (by kernel_rfl) ?_; (repeat (go_big_quiet_step ((go_at_call 74; exact ybx (yie hf _))))); refine wpQuiet_nil ?_; rintro _ ⟨e1, rfl⟩; have e1s := e1.h.size; (try simp only [zA, World.size_drewN, World.drewN_heap] at e1s); (try (have : w.heap.size < e1.w.heap.size := by omega)); (try (have : w.heap.size + 1 < e1.w.heap.size := by omega)); (try (have : w.heap.size + 1 + 1 < e1.w.heap.size := by omega)); (try (have : w.heap.size + 1 + 1 + 1 < e1.w.heap.size := by omega)); (try (have : bX < e1.w.heap.size := by omega)); (try (have : bY < e1.w.heap.size := by omega)); (try (have : bZ < e1.w.heap.size := by omega)))
       go_wp2
       go_roundg (n - (k + 1))
       case measure => omega
       case rel =>
        have hkk := HK.out
        refine ⟨k + 1, ⟨_, ybm e.h e1⟩, by go_num, by omega, Nat.le_refl _, rfl, H! (fun t ht => ?_), H! (fun t ht => by omega)⟩
        obtain rfl : t = k := by omega
        exact HFK.out
      ·
       have hk3 : (0 : Int) < (k : Int) := by omega
       have hk6 : 0 < k := by omega
       have hw1 : IntKind.i64.wrap ((k : Int) - 1) = (k : Int) - 1 := IntWalk.i64_in _ (by omega)
       have hk4 : (0 : Int) ≤ (k : Int) - 1 := by omega
       have hk5 : (k : Int) - 1 < n := by omega
       have hc2 : e.w.cell? ⟨bX, off + (k - 1), none⟩ = some (.int .i64 (xs.getD (k - 1) 0)) := by
        rw [Later.cell e hb]
        exact HC.out (k - 1) (by have := HN.out; omega)
       have HV : Hid (∀ x y, xs.getD k 0 = x → xs.getD (k - 1) 0 = y → x ≤ y → ydi xs = false) := H! (fun x y h1 h2 h => yao.2 (fun hh => by
        have := hh.2.2.2 (k - 1) (by have := HN.out; omega)
        rw [show k - 1 + 1 = k by omega, h1, h2] at this
        omega))
       generalize hx : xs.getD k 0 = x at hc1 hf
       generalize hy : xs.getD (k - 1) 0 = y at hc2
       have HXY := H! (And.intro hx hy)
       clear hx hy
       by_cases hxy : x ≤ y
       ·
        have H := H! (HV.out x y HXY.out.1 HXY.out.2 hxy)
        go_wp2
        (refine yaw (by kernel_rfl) (by kernel_rfl) ?_; (repeat (go_big_quiet_step ((go_at_call 74; exact ybx (yie hf _))))); refine wpQuiet_nil ?_; rintro _ ⟨e1, rfl⟩; have e1s := e1.h.size; (try simp only [zA, World.size_drewN, World.drewN_heap] at e1s); (try (have : w.heap.size < e1.w.heap.size := by omega)); (try (have : w.heap.size + 1 < e1.w.heap.size := by omega)); (try (have : w.heap.size + 1 + 1 < e1.w.heap.size := by omega)); (try (have : w.heap.size + 1 + 1 + 1 < e1.w.heap.size := by omega)); (try (have : bX < e1.w.heap.size := by omega)); (try (have : bY < e1.w.heap.size := by omega)); (try (have : bZ < e1.w.heap.size := by omega)))
        go_wp2
        go_ret
        exact ⟨by rw [H.out]; first | done | rfl, ybm e.h e1⟩
       ·
        have hxy2 : y < x := by omega
        have HLT := H! hxy2
        go_wp2
        (refine yaw (by kernel_rfl) (by kernel_rfl) ?_; (repeat (go_big_quiet_step ((go_at_call 74; exact ybx (yie hf _))))); refine wpQuiet_nil ?_; rintro _ ⟨e1, rfl⟩; have e1s := e1.h.size; (try simp only [zA, World.size_drewN, World.drewN_heap] at e1s); (try (have : w.heap.size < e1.w.heap.size := by omega)); (try (have : w.heap.size + 1 < e1.w.heap.size := by omega)); (try (have : w.heap.size + 1 + 1 < e1.w.heap.size := by omega)); (try (have : w.heap.size + 1 + 1 + 1 < e1.w.heap.size := by omega)); (try (have : bX < e1.w.heap.size := by omega)); (try (have : bY < e1.w.heap.size := by omega)); (try (have : bZ < e1.w.heap.size := by omega)))
        go_wp2
        go_roundg (n - (k + 1))
        case measure => omega
        case rel =>
         refine ⟨k + 1, ⟨_, ybm e.h e1⟩, by go_num, by omega, Nat.le_refl _, rfl, H! (fun t ht => ?_), H! (fun t ht => ?_)⟩
         ·
          by_cases h : t < k
          ·
           exact HP.out t h
          ·
           obtain rfl : t = k := by omega
           exact HFK.out
         ·
          by_cases h : t + 1 < k
          ·
           exact HQ.out t h
          ·
           obtain rfl : t = k - 1 := by omega
           rw [show k - 1 + 1 = k by omega, HXY.out.1, HXY.out.2]
           exact HLT.out
    ·
     obtain rfl : k = n := by omega
     go_wp2
     go_ret
     refine ⟨yal ?_, e.h⟩
     exact (ybd.2 (HAX.out HP.out HQ.out)).symm
theorem yjs (rX rY rZ : Option Addr) (cX cY cZ : Nat) (X Y : List Int) (Z : List (List Int)) (w : World) (hX : IsInts w rX cX .i64 X) (hY : IsInts w rY cY .i64 Y) (hZ : IsRows w rZ cZ Z) :
  Calls Tryz.prog 31 #[.agg #[.slice rX X.length cX, .slice rY Y.length cY, .slice rZ Z.length cZ]] w fun e w' => e = .returned (.bool (mapB X Y Z)) ∧ Below w.heap.size w w' := by
 have HX : Hid (∀ w', Below w.heap.size w w' → IsInts w' rX cX .i64 X) := H! (fun _ h => hX.later h)
 have HY : Hid (∀ w', Below w.heap.size w w' → IsInts w' rY cY .i64 Y) := H! (fun _ h => hY.later h)
 have HZ : Hid (∀ w', Below w.heap.size w w' → IsRows w' rZ cZ Z) := H! (fun _ h => hZ.later h)
 have hmax := hZ.max
 have hle := hZ.le
 unfold maxLen at hmax
 have hmy := hY.max
 have hley := hY.le
 unfold maxLen at hmy
 cases ax : ydi X with
 | false =>
  have H := H! (ybw.2 (fun h : yir X Y Z => yao.1 ax h.1))
  clear hX hY hZ
  go_enter Tryz.func31, Tryz.ntmps31
  go_wp2_with ((go_at_call 73; refine (yeo _ _ _ _ (by first | exact HX.out _ bw | exact HY.out _ bw)).mono ?_; rintro e hb1w ⟨rfl, hb1⟩; obtain ⟨hb1c, hb1f⟩ := yah hb1; have hb1s := hb1.size; (try simp only [zA] at hb1s); (try (have : w.heap.size < hb1w.heap.size := by omega)); (try (have : w.heap.size + 1 < hb1w.heap.size := by omega)); (try (have : w.heap.size + 1 + 1 < hb1w.heap.size := by omega)); (try (have : w.heap.size + 1 + 1 + 1 < hb1w.heap.size := by omega)); (try (have : bX < hb1w.heap.size := by omega)); (try (have : bY < hb1w.heap.size := by omega)); (try (have : bZ < hb1w.heap.size := by omega))))
  go_ret
  exact ⟨by rw [H.out]; first | done | rfl, bw⟩
 | true =>
  cases ay : ydi Y with
  | false =>
   have H := H! (ybw.2 (fun h : yir X Y Z => yao.1 ay h.2.1))
   clear hX hY hZ
   go_enter Tryz.func31, Tryz.ntmps31
   go_wp2_with ((go_at_call 73; refine (yeo _ _ _ _ (by first | exact HX.out _ bw | exact HY.out _ bw)).mono ?_; rintro e hb1w ⟨rfl, hb1⟩; obtain ⟨hb1c, hb1f⟩ := yah hb1; have hb1s := hb1.size; (try simp only [zA] at hb1s); (try (have : w.heap.size < hb1w.heap.size := by omega)); (try (have : w.heap.size + 1 < hb1w.heap.size := by omega)); (try (have : w.heap.size + 1 + 1 < hb1w.heap.size := by omega)); (try (have : w.heap.size + 1 + 1 + 1 < hb1w.heap.size := by omega)); (try (have : bX < hb1w.heap.size := by omega)); (try (have : bY < hb1w.heap.size := by omega)); (try (have : bZ < hb1w.heap.size := by omega))))
   go_ret
   exact ⟨by rw [H.out]; first | done | rfl, bw⟩
  | true =>
   by_cases hl : Z.length = X.length
   ·
    have hl' : ((Z.length : Int) == (X.length : Int)) = true := by simp [hl]
    have hl2 : (Z.length : Int) = (X.length : Int) := by omega
    have h2 := (ybd.1 ax).1
    obtain ⟨bZ, oZ, rfl, hbZ, hcZ⟩ := hZ.cells (fun e => by rw [e] at hl; simp at hl; omega)
    have HC := H! hcZ
    have HT : Hid (ynx Y.length Z → mapB X Y Z = true) := H! (fun h => yje.2 ⟨ybd.1 ax, ybd.1 ay, hl, h⟩)
    have HF : Hid (∀ t, t < Z.length → ¬ ((Z.getD t []).length = Y.length ∧ (Z.getD t []).any farB = false) → mapB X Y Z = false) := H! (fun t ht h => ybw.2 (fun hh => h (hh.2.2.2 t ht)))
    clear hX hY hZ hcZ
    generalize hn : Z.length = n at *
    have HN := H! hn
    clear hn hl' hl2
    subst hl
    go_enter Tryz.func31, Tryz.ntmps31
    go_wp2_with ((go_at_call 73; refine (yeo _ _ _ _ (by first | exact HX.out _ bw | exact HY.out _ bw)).mono ?_; rintro e hb1w ⟨rfl, hb1⟩; obtain ⟨hb1c, hb1f⟩ := yah hb1; have hb1s := hb1.size; (try simp only [zA] at hb1s); (try (have : w.heap.size < hb1w.heap.size := by omega)); (try (have : w.heap.size + 1 < hb1w.heap.size := by omega)); (try (have : w.heap.size + 1 + 1 < hb1w.heap.size := by omega)); (try (have : w.heap.size + 1 + 1 + 1 < hb1w.heap.size := by omega)); (try (have : bX < hb1w.heap.size := by omega)); (try (have : bY < hb1w.heap.size := by omega)); (try (have : bZ < hb1w.heap.size := by omega))))
    go_loopg [3] X.length (fun kx s3 wr => ∃ (k : Nat) (e : Later hb1w), s3 = .int .i64 k ∧ k ≤ X.length ∧ X.length - k ≤ kx ∧ wr = e.w ∧ Hid (∀ t, t < k → (Z.getD t []).length = Y.length ∧ (Z.getD t []).any farB = false))
    case atStart => exact ⟨0, ⟨_, Below.refl _ _⟩, rfl, by omega, by omega, rfl, H! (fun t h => absurd h (Nat.not_lt_zero _))⟩
    case round =>
     obtain ⟨k, e, rfl, hk, hkx, rfl, HP⟩ := hrel
     have hes := e.h.size
     have hbo : w.heap.size < e.w.heap.size := by omega
     by_cases hlt : k < X.length
     ·
      have hbw : Below w.heap.size w e.w := bw
      have hkZ : k < Z.length := by have := HN.out; omega
      have hbe : bZ < e.w.heap.size := by omega
      obtain ⟨ri, ci, g1, g2⟩ := HC.out k (by omega)
      have hc1 : e.w.cell? ⟨bZ, oZ + k, none⟩ = some (.slice ri (Z.getD k []).length ci) := by
       rw [hbw.cell (p := ⟨bZ, oZ + k, none⟩) hbZ]; exact g1
      have hk1 : (0 : Int) ≤ (k : Int) := by omega
      have hk2 : (k : Int) < X.length := by omega
      have HB := H! (HF.out k hlt)
      have HG : Hid ((Z.getD k []).length = Y.length ∧ (Z.getD k []).any farB = false → ∀ t, t < k + 1 → (Z.getD t []).length = Y.length ∧ (Z.getD t []).any farB = false) := H! (fun h t ht => by
       by_cases e : t = k
       ·
        subst e; exact h
       ·
        exact HP.out t (by omega))
      have HROW : Hid (IsInts e.w ri ci .i64 (Z.getD k [])) := H! (g2.later hbw)
      clear g1 g2 hbw
      generalize Z.getD k [] = row at *
      by_cases hrl : row.length = Y.length
      ·
       have hr' : ((row.length : Int) == (Y.length : Int)) = true := by simp [hrl]
       have hr2 : (row.length : Int) = (Y.length : Int) := by omega
       have h2y := (ybd.1 ay).1
       obtain ⟨b1, o1, rfl, hb1lt, hcr⟩ := HROW.out.cells (fun e => by subst e; simp at hrl; omega)
       have HCR := H! hcr
       clear hcr HROW
       have HFR : Hid ((∀ t, t < row.length → farB (row.getD t 0) = false) → ∀ t, t < k + 1 → (Z.getD t []).length = Y.length ∧ (Z.getD t []).any farB = false) := H! (fun h => HG.out ⟨hrl, yhf h⟩)
       have HFB : Hid (∀ t, t < row.length → farB (row.getD t 0) = true → mapB X Y Z = false) := H! (fun t ht h => HB.out (fun hh => by
        have := yhe ht h
        rw [hh.2] at this
        cases this))
       have HRL := H! hrl
       rw [hrl] at hc1
       clear hrl HG HB
       go_wp2
       go_quiet (fail)
       go_wp2
       go_loopg [4] Y.length (fun ky s4 wq => ∃ (j : Nat) (q : Later e.w), s4 = .int .i64 j ∧ j ≤ Y.length ∧ Y.length - j ≤ ky ∧ wq = q.w ∧ Hid (∀ t, t < j → farB (row.getD t 0) = false))
       case atStart => exact ⟨0, ⟨_, ybf (Below.refl _ _) _⟩, rfl, by omega, by omega, rfl, H! (fun t h => absurd h (Nat.not_lt_zero _))⟩
       case round =>
        obtain ⟨j, q, rfl, hj, hjy, rfl, HJ⟩ := hrel
        have hqs := q.h.size
        have hbq : w.heap.size < q.w.heap.size := by omega
        by_cases hjl : j < Y.length
        ·
         have hj1 : (0 : Int) ≤ (j : Int) := by omega
         have hj2 : (j : Int) < Y.length := by omega
         have hc2 : q.w.cell? ⟨b1, o1 + j, none⟩ = some (.int .i64 (row.getD j 0)) := by
          rw [q.h.cell (p := ⟨b1, o1 + j, none⟩) hb1lt]
          exact HCR.out j (by have := HRL.out; omega)
         have HJ2 : Hid (farB (row.getD j 0) = false → ∀ t, t < j + 1 → farB (row.getD t 0) = false) := H! (fun h t ht => by
          by_cases e : t = j
          ·
           subst e; exact h
          ·
           exact HJ.out t (by omega))
         have HJB := H! (HFB.out j (by have := HRL.out; omega))
         generalize row.getD j 0 = z at hc2 HJ2 HJB
         cases hf : farB z with
         | true =>
          have H := H! (HJB.out hf)
          go_wp2_with ((go_at_call 74; refine (ygw _ _).mono ?_; rintro e w' ⟨rfl, rfl⟩))
          go_ret
          exact ⟨by rw [H.out]; first | done | rfl, bw⟩
         | false =>
          have HJ3 := H! (HJ2.out hf)
          go_wp2_with ((go_at_call 74; refine (ygw _ _).mono ?_; rintro e w' ⟨rfl, rfl⟩))
          go_roundg (Y.length - (j + 1))
          case measure => omega
          case rel => exact ⟨j + 1, q, by go_num, by omega, by omega, rfl, HJ3⟩
        ·
         obtain rfl : j = Y.length := by omega
         have HG2 := H! (HFR.out (fun t ht => HJ.out t (by have := HRL.out; omega)))
         go_wp2
         go_roundg (X.length - (k + 1))
         case measure => omega
         case rel => exact ⟨k + 1, ⟨q.w, bw⟩, by go_num, by omega, by omega, rfl, HG2⟩
      ·
       have hr' : ((row.length : Int) == (Y.length : Int)) = false := by simp; omega
       have hr2 : ¬ (row.length : Int) = (Y.length : Int) := by omega
       have H := H! (HB.out (fun h => hrl h.1))
       clear hrl
       go_wp2
       go_quiet (fail)
       go_wp2
       go_ret
       exact ⟨by rw [H.out]; first | done | rfl, bw⟩
     ·
      obtain rfl : k = X.length := by omega
      have H := H! (HT.out (fun t ht => HP.out t (by have := HN.out; omega)))
      go_wp2
      go_ret
      exact ⟨by rw [H.out]; first | done | rfl, bw⟩
   ·
    have hl' : ((Z.length : Int) == (X.length : Int)) = false := by simp; omega
    have hl2 : ¬ (Z.length : Int) = (X.length : Int) := by omega
    have H := H! (ybw.2 (fun h : yir X Y Z => hl h.2.2.1))
    clear hX hY hZ hl
    go_enter Tryz.func31, Tryz.ntmps31
    go_wp2_with ((go_at_call 73; refine (yeo _ _ _ _ (by first | exact HX.out _ bw | exact HY.out _ bw)).mono ?_; rintro e hb1w ⟨rfl, hb1⟩; obtain ⟨hb1c, hb1f⟩ := yah hb1; have hb1s := hb1.size; (try simp only [zA] at hb1s); (try (have : w.heap.size < hb1w.heap.size := by omega)); (try (have : w.heap.size + 1 < hb1w.heap.size := by omega)); (try (have : w.heap.size + 1 + 1 < hb1w.heap.size := by omega)); (try (have : w.heap.size + 1 + 1 + 1 < hb1w.heap.size := by omega)); (try (have : bX < hb1w.heap.size := by omega)); (try (have : bY < hb1w.heap.size := by omega)); (try (have : bZ < hb1w.heap.size := by omega))))
    go_ret
    exact ⟨by rw [H.out]; first | done | rfl, bw⟩
end Go.Proofs.YtfooefiaenlhmaaGreat
