/- Lemmas for the laws of package magnetolaw15: what its functions return, for any arguments that the lemmas name. -/
import Derived.Test.YtfooefiaenlhmaaGreatGB4
import Derived.Test.YtfooefiaenlhmaaGreatGB6
import Derived.Test.YtfooefiaenlhmaaGreatGB11
import Derived.Test.YtfooefiaenlhmaaGreatGB17
set_option maxRecDepth 100000
namespace Go.Proofs.YtfooefiaenlhmaaGreat
set_option linter.all false
set_option maxHeartbeats 16000000
open Go.RowKit Go.ChangeShapes Go.WideShapes Go.ChangeAt
theorem un4_o (op m kg s a k m2 kg2 s2 a2 k2 : Int) (h3 : ¬ op = 3) (h4 : ¬ op = 4) (w : World) : Calls Tryz.prog 78 #[.int .i64 op, .agg #[.int .i64 m, .int .i64 kg, .int .i64 s, .int .i64 a, .int .i64 k], .agg #[.int .i64 m2, .int .i64 kg2, .int .i64 s2, .int .i64 a2, .int .i64 k2]] w fun e w' => e = .returned (.tuple #[.agg #[.int .i64 m, .int .i64 kg, .int .i64 s, .int .i64 a, .int .i64 k], .bool (ueq m kg s a k m2 kg2 s2 a2 k2)]) ∧ Below w.heap.size w w' := by
 have HEQ := ybj m kg s a k m2 kg2 s2 a2 k2
 have e3 : (op == 3) = false := by simp [h3]
 have e4 : (op == 4) = false := by simp [h4]
 generalize ueq m kg s a k m2 kg2 s2 a2 k2 = R at *
 go_enter Tryz.func78, Tryz.ntmps78
 go_wp2
 refine yba (P := fun W => Code.wp _ _ _ _ W) _ ?_
 intro W9 hW9
 have c00 : W9.cell? ⟨w.heap.size, 0, none⟩ = some (.int .i64 m) := by rw [hW9]; first | go_keep | (simp [go_sem]; done)
 have c01 : W9.cell? ⟨w.heap.size, 1, none⟩ = some (.int .i64 kg) := by rw [hW9]; first | go_keep | (simp [go_sem]; done)
 have c02 : W9.cell? ⟨w.heap.size, 2, none⟩ = some (.int .i64 s) := by rw [hW9]; first | go_keep | (simp [go_sem]; done)
 have c03 : W9.cell? ⟨w.heap.size, 3, none⟩ = some (.int .i64 a) := by rw [hW9]; first | go_keep | (simp [go_sem]; done)
 have c04 : W9.cell? ⟨w.heap.size, 4, none⟩ = some (.int .i64 k) := by rw [hW9]; first | go_keep | (simp [go_sem]; done)
 have c10 : W9.cell? ⟨w.heap.size + 1, 0, none⟩ = some (.int .i64 m2) := by rw [hW9]; first | go_keep | (simp [go_sem]; done)
 have c11 : W9.cell? ⟨w.heap.size + 1, 1, none⟩ = some (.int .i64 kg2) := by rw [hW9]; first | go_keep | (simp [go_sem]; done)
 have c12 : W9.cell? ⟨w.heap.size + 1, 2, none⟩ = some (.int .i64 s2) := by rw [hW9]; first | go_keep | (simp [go_sem]; done)
 have c13 : W9.cell? ⟨w.heap.size + 1, 3, none⟩ = some (.int .i64 a2) := by rw [hW9]; first | go_keep | (simp [go_sem]; done)
 have c14 : W9.cell? ⟨w.heap.size + 1, 4, none⟩ = some (.int .i64 k2) := by rw [hW9]; first | go_keep | (simp [go_sem]; done)
 have c20 : W9.cell? ⟨w.heap.size + 1 + 1, 0, none⟩ = some (.int .i64 0) := by rw [hW9]; first | go_keep | (simp [go_sem]; done)
 have c21 : W9.cell? ⟨w.heap.size + 1 + 1, 1, none⟩ = some (.int .i64 0) := by rw [hW9]; first | go_keep | (simp [go_sem]; done)
 have c22 : W9.cell? ⟨w.heap.size + 1 + 1, 2, none⟩ = some (.int .i64 0) := by rw [hW9]; first | go_keep | (simp [go_sem]; done)
 have c23 : W9.cell? ⟨w.heap.size + 1 + 1, 3, none⟩ = some (.int .i64 0) := by rw [hW9]; first | go_keep | (simp [go_sem]; done)
 have c24 : W9.cell? ⟨w.heap.size + 1 + 1, 4, none⟩ = some (.int .i64 0) := by rw [hW9]; first | go_keep | (simp [go_sem]; done)
 have f9 : ∀ j, W9.frozen? ⟨w.heap.size + 1 + 1, j, none⟩ = false := fun j => by rw [hW9]; first | go_keep | (simp [go_sem]; done) | (simp [World.frozen?]; done)
 have s9 : w.heap.size + 1 + 1 < W9.heap.size := by rw [hW9]; simp only [zA]; omega
 have s8 : w.heap.size + 1 < W9.heap.size := by omega
 have s7 : w.heap.size < W9.heap.size := by omega
 have hB9 : Below w.heap.size w W9 := by rw [hW9]; (exact bw)
 clear hW9
 go_region_with (fail)
 all_goals go_wp2
 all_goals refine bodyPost_ret (by simp [results, Tryz.results78, go_sem, *]; try rfl) rfl ?_
 all_goals exact ⟨rfl, by first | (exact bw) | (repeat (refine Below.setCell ?_ (by simp) _); exact hB9.drew)⟩
theorem un4_3 (m kg s a k m2 kg2 s2 a2 k2 : Int) (w : World) : Calls Tryz.prog 78 #[.int .i64 3, .agg #[.int .i64 m, .int .i64 kg, .int .i64 s, .int .i64 a, .int .i64 k], .agg #[.int .i64 m2, .int .i64 kg2, .int .i64 s2, .int .i64 a2, .int .i64 k2]] w fun e w' => e = .returned (.tuple #[.agg #[.int .i64 (yam (1) m m2 (yav (1) m kg s a k m2 kg2 s2 a2 k2)), .int .i64 (yam (1) kg kg2 (yav (1) m kg s a k m2 kg2 s2 a2 k2)), .int .i64 (yam (1) s s2 (yav (1) m kg s a k m2 kg2 s2 a2 k2)), .int .i64 (yam (1) a a2 (yav (1) m kg s a k m2 kg2 s2 a2 k2)), .int .i64 (yam (1) k k2 (yav (1) m kg s a k m2 kg2 s2 a2 k2))], .bool (decide (yav (1) m kg s a k m2 kg2 s2 a2 k2 = 0))]) ∧ Below w.heap.size w w' := by
 have HC := H! (fun w => yiu (1) m kg s a k m2 kg2 s2 a2 k2 (by omega) w)
 generalize yav (1) m kg s a k m2 kg2 s2 a2 k2 = E at *
 generalize yam (1) m m2 E = v0 at *
 generalize yam (1) kg kg2 E = v1 at *
 generalize yam (1) s s2 E = v2 at *
 generalize yam (1) a a2 E = v3 at *
 generalize yam (1) k k2 E = v4 at *
 go_enter Tryz.func78, Tryz.ntmps78
 go_wp2_with (first | (go_at_call 113; refine (HC.out _).mono ?_; rintro _ w1 ⟨rfl, hb1⟩; obtain ⟨hb1c, hb1f⟩ := yah hb1; have hb1s := hb1.size; (try simp only [zA] at hb1s); have hx2 : w.heap.size + 1 + 1 < w1.heap.size := (by omega); have hx3 : w.heap.size + 1 + 1 < w1.heap.size + 1 := (by omega); have hx4 : ¬ w.heap.size + 1 + 1 = w1.heap.size := (by omega); have hx5 : ¬ w1.heap.size = w.heap.size + 1 + 1 := (by omega)))
 refine bodyPost_ret (by simp [results, Tryz.results78, go_sem, *]; try rfl) rfl ?_
 exact ⟨by first | rfl | (simp; done), bw⟩
theorem un4_4 (m kg s a k m2 kg2 s2 a2 k2 : Int) (w : World) : Calls Tryz.prog 78 #[.int .i64 4, .agg #[.int .i64 m, .int .i64 kg, .int .i64 s, .int .i64 a, .int .i64 k], .agg #[.int .i64 m2, .int .i64 kg2, .int .i64 s2, .int .i64 a2, .int .i64 k2]] w fun e w' => e = .returned (.tuple #[.agg #[.int .i64 (yam (-1) m m2 (yav (-1) m kg s a k m2 kg2 s2 a2 k2)), .int .i64 (yam (-1) kg kg2 (yav (-1) m kg s a k m2 kg2 s2 a2 k2)), .int .i64 (yam (-1) s s2 (yav (-1) m kg s a k m2 kg2 s2 a2 k2)), .int .i64 (yam (-1) a a2 (yav (-1) m kg s a k m2 kg2 s2 a2 k2)), .int .i64 (yam (-1) k k2 (yav (-1) m kg s a k m2 kg2 s2 a2 k2))], .bool (decide (yav (-1) m kg s a k m2 kg2 s2 a2 k2 = 0))]) ∧ Below w.heap.size w w' := by
 have HC := H! (fun w => yiu (-1) m kg s a k m2 kg2 s2 a2 k2 (by omega) w)
 generalize yav (-1) m kg s a k m2 kg2 s2 a2 k2 = E at *
 generalize yam (-1) m m2 E = v0 at *
 generalize yam (-1) kg kg2 E = v1 at *
 generalize yam (-1) s s2 E = v2 at *
 generalize yam (-1) a a2 E = v3 at *
 generalize yam (-1) k k2 E = v4 at *
 go_enter Tryz.func78, Tryz.ntmps78
 go_wp2_with (first | (go_at_call 113; refine (HC.out _).mono ?_; rintro _ w1 ⟨rfl, hb1⟩; obtain ⟨hb1c, hb1f⟩ := yah hb1; have hb1s := hb1.size; (try simp only [zA] at hb1s); have hx2 : w.heap.size + 1 + 1 < w1.heap.size := (by omega); have hx3 : w.heap.size + 1 + 1 < w1.heap.size + 1 := (by omega); have hx4 : ¬ w.heap.size + 1 + 1 = w1.heap.size := (by omega); have hx5 : ¬ w1.heap.size = w.heap.size + 1 + 1 := (by omega)))
 refine bodyPost_ret (by simp [results, Tryz.results78, go_sem, *]; try rfl) rfl ?_
 exact ⟨by first | rfl | (simp; done), bw⟩
def ybz (cells : Int) (nv nm : Nat) (tY : List Fx) (i : Ins) : Bool :=
 if i.op = 2 ∨ i.op = 3 then decide (i.k < cells)
 else if i.op = 20 then decide (i.k < nv)
 else if i.op = 21 then decide (i.k < nm)
 else if i.op = 22 then decide (i.k / 32 + 1 < cells)
 else if typB i.op = true then okT tY.length i.op i.k && yap i.op (tY.getD (tA i.k) default) (tyB tY i.op i.k) (tyT tY i.op i.k)
 else true
section
variable (rc : Option Addr) (lc cc : Nat) (rt : Option Addr) (ct : Nat) (tY : List Fx) (rv : Option Addr) (lv cv : Nat) (rm : Option Addr) (lm cm : Nat) (cells : Int) (ri : Option Addr) (li ci : Nat) (rs : Option Addr) (ls cs : Nat) (ro : Option Addr) (lo co : Nat) (rn : Option Addr) (ln cn : Nat)
theorem na_2 (a b c k : Int) (hk : I64 k) (h0 : 0 ≤ k) (w : World) : Calls Tryz.prog 33 #[.agg #[.slice rc lc cc, .slice rt tY.length ct, .slice rv lv cv, .slice rm lm cm, .int .i64 cells, .slice ri li ci, .slice rs ls cs, .slice ro lo co, .slice rn ln cn], .agg #[.int .i64 2, .int .i64 a, .int .i64 b, .int .i64 c, .int .i64 k]] w fun e w' => e = .returned (.bool (decide (k < cells))) ∧ Below w.heap.size w w' := by
 obtain ⟨m, HM, hm⟩ := yae k
 have hk2 := hk
 unfold I64 at hk2
 simp [Lit.wf, IntKind.min, IntKind.max, IntKind.bits, IntKind.signed] at hk2
 have hm0 : m = k := by omega
 rw [hm0] at HM
 clear hm0 hm
 have HTY := H! (fun W => yac k (by omega) hk W)
 go_enter Tryz.func33, Tryz.ntmps33
 go_wp2_with (first | (go_at_call 77; refine (HTY.out _).mono ?_; rintro _ _ ⟨rfl, rfl⟩))
 all_goals go_ret
 all_goals exact ⟨by first | rfl | (simp [*]; done), bw⟩
theorem na_3 (a b c k : Int) (hk : I64 k) (h0 : 0 ≤ k) (w : World) : Calls Tryz.prog 33 #[.agg #[.slice rc lc cc, .slice rt tY.length ct, .slice rv lv cv, .slice rm lm cm, .int .i64 cells, .slice ri li ci, .slice rs ls cs, .slice ro lo co, .slice rn ln cn], .agg #[.int .i64 3, .int .i64 a, .int .i64 b, .int .i64 c, .int .i64 k]] w fun e w' => e = .returned (.bool (decide (k < cells))) ∧ Below w.heap.size w w' := by
 obtain ⟨m, HM, hm⟩ := yae k
 have hk2 := hk
 unfold I64 at hk2
 simp [Lit.wf, IntKind.min, IntKind.max, IntKind.bits, IntKind.signed] at hk2
 have hm0 : m = k := by omega
 rw [hm0] at HM
 clear hm0 hm
 have HTY := H! (fun W => yac k (by omega) hk W)
 go_enter Tryz.func33, Tryz.ntmps33
 go_wp2_with (first | (go_at_call 77; refine (HTY.out _).mono ?_; rintro _ _ ⟨rfl, rfl⟩))
 all_goals go_ret
 all_goals exact ⟨by first | rfl | (simp [*]; done), bw⟩
theorem na_20 (a b c k : Int) (hk : I64 k) (h0 : 0 ≤ k) (w : World) : Calls Tryz.prog 33 #[.agg #[.slice rc lc cc, .slice rt tY.length ct, .slice rv lv cv, .slice rm lm cm, .int .i64 cells, .slice ri li ci, .slice rs ls cs, .slice ro lo co, .slice rn ln cn], .agg #[.int .i64 20, .int .i64 a, .int .i64 b, .int .i64 c, .int .i64 k]] w fun e w' => e = .returned (.bool (decide (k < (lv : Int)))) ∧ Below w.heap.size w w' := by
 obtain ⟨m, HM, hm⟩ := yae k
 have hk2 := hk
 unfold I64 at hk2
 simp [Lit.wf, IntKind.min, IntKind.max, IntKind.bits, IntKind.signed] at hk2
 have hm0 : m = k := by omega
 rw [hm0] at HM
 clear hm0 hm
 have HTY := H! (fun W => yac k (by omega) hk W)
 go_enter Tryz.func33, Tryz.ntmps33
 go_wp2_with (first | (go_at_call 77; refine (HTY.out _).mono ?_; rintro _ _ ⟨rfl, rfl⟩))
 all_goals go_ret
 all_goals exact ⟨by first | rfl | (simp [*]; done), bw⟩
theorem na_21 (a b c k : Int) (hk : I64 k) (h0 : 0 ≤ k) (w : World) : Calls Tryz.prog 33 #[.agg #[.slice rc lc cc, .slice rt tY.length ct, .slice rv lv cv, .slice rm lm cm, .int .i64 cells, .slice ri li ci, .slice rs ls cs, .slice ro lo co, .slice rn ln cn], .agg #[.int .i64 21, .int .i64 a, .int .i64 b, .int .i64 c, .int .i64 k]] w fun e w' => e = .returned (.bool (decide (k < (lm : Int)))) ∧ Below w.heap.size w w' := by
 obtain ⟨m, HM, hm⟩ := yae k
 have hk2 := hk
 unfold I64 at hk2
 simp [Lit.wf, IntKind.min, IntKind.max, IntKind.bits, IntKind.signed] at hk2
 have hm0 : m = k := by omega
 rw [hm0] at HM
 clear hm0 hm
 have HTY := H! (fun W => yac k (by omega) hk W)
 go_enter Tryz.func33, Tryz.ntmps33
 go_wp2_with (first | (go_at_call 77; refine (HTY.out _).mono ?_; rintro _ _ ⟨rfl, rfl⟩))
 all_goals go_ret
 all_goals exact ⟨by first | rfl | (simp [*]; done), bw⟩
theorem na_22 (a b c k : Int) (hk : I64 k) (h0 : 0 ≤ k) (w : World) : Calls Tryz.prog 33 #[.agg #[.slice rc lc cc, .slice rt tY.length ct, .slice rv lv cv, .slice rm lm cm, .int .i64 cells, .slice ri li ci, .slice rs ls cs, .slice ro lo co, .slice rn ln cn], .agg #[.int .i64 22, .int .i64 a, .int .i64 b, .int .i64 c, .int .i64 k]] w fun e w' => e = .returned (.bool (decide (k / 32 + 1 < cells))) ∧ Below w.heap.size w w' := by
 obtain ⟨m, HM, hm⟩ := yae k
 have hk2 := hk
 unfold I64 at hk2
 simp [Lit.wf, IntKind.min, IntKind.max, IntKind.bits, IntKind.signed] at hk2
 have hm0 : m = k := by omega
 rw [hm0] at HM
 clear hm0 hm
 have HTY := H! (fun W => yac k (by omega) hk W)
 have q3 : k.tdiv 32 = k / 32 := Int.tdiv_eq_ediv_of_nonneg h0
 have q4 : IntKind.i64.wrap (k / 32) = k / 32 := IntWalk.i64_in _ (by omega)
 have q5 : IntKind.i64.wrap (k / 32 + 1) = k / 32 + 1 := IntWalk.i64_in _ (by omega)
 go_enter Tryz.func33, Tryz.ntmps33
 go_wp2_with (first | (go_at_call 77; refine (HTY.out _).mono ?_; rintro _ _ ⟨rfl, rfl⟩))
 all_goals go_ret
 all_goals exact ⟨by first | rfl | (simp [*]; done), bw⟩
theorem na_o (op a b c k : Int) (hk : I64 k) (o2 : ¬ op = 2) (o3 : ¬ op = 3) (o5 : ¬ op = 5) (o6 : ¬ op = 6) (o7 : ¬ op = 7) (o8 : ¬ op = 8) (o9 : ¬ op = 9) (o10 : ¬ op = 10) (o13 : ¬ op = 13) (o14 : ¬ op = 14) (o20 : ¬ op = 20) (o21 : ¬ op = 21) (o22 : ¬ op = 22) (w : World) : Calls Tryz.prog 33 #[.agg #[.slice rc lc cc, .slice rt tY.length ct, .slice rv lv cv, .slice rm lm cm, .int .i64 cells, .slice ri li ci, .slice rs ls cs, .slice ro lo co, .slice rn ln cn], .agg #[.int .i64 op, .int .i64 a, .int .i64 b, .int .i64 c, .int .i64 k]] w fun e w' => e = .returned (.bool (true)) ∧ Below w.heap.size w w' := by
 obtain ⟨m, HM, hm⟩ := yae k
 have hk2 := hk
 unfold I64 at hk2
 simp [Lit.wf, IntKind.min, IntKind.max, IntKind.bits, IntKind.signed] at hk2
 have HTY := H! (fun W => yac m (by omega) (by unfold I64; simp [Lit.wf, IntKind.min, IntKind.max, IntKind.bits, IntKind.signed]; omega) W)
 clear hm
 have e2 : (op == 2) = false := by simp [o2]
 have e3 : (op == 3) = false := by simp [o3]
 have e5 : (op == 5) = false := by simp [o5]
 have e6 : (op == 6) = false := by simp [o6]
 have e7 : (op == 7) = false := by simp [o7]
 have e8 : (op == 8) = false := by simp [o8]
 have e9 : (op == 9) = false := by simp [o9]
 have e10 : (op == 10) = false := by simp [o10]
 have e13 : (op == 13) = false := by simp [o13]
 have e14 : (op == 14) = false := by simp [o14]
 have e20 : (op == 20) = false := by simp [o20]
 have e21 : (op == 21) = false := by simp [o21]
 have e22 : (op == 22) = false := by simp [o22]
 go_enter Tryz.func33, Tryz.ntmps33
 go_wp2_with (first | (go_at_call 77; refine (HTY.out _).mono ?_; rintro _ _ ⟨rfl, rfl⟩))
 all_goals go_ret
 all_goals exact ⟨by first | rfl | (simp [*]; done), bw⟩
end
end Go.Proofs.YtfooefiaenlhmaaGreat
