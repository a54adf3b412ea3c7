/- Lemmas for the laws of package magnetolaw15: what its functions return, for any arguments that the lemmas name. -/
import Derived.Test.YtfooefiaenlhmaaGO3
import Derived.Test.YtfooefiaenlhmaaGO5
import Derived.Laws.StructEq
import Derived.Deep.RegionHeld3
namespace Go.Proofs.Ytfooefiaenlhmaa
set_option linter.unusedVariables false
set_option linter.unusedSimpArgs false
set_option maxHeartbeats 16000000
open Go.RowKit Go.ChangeShapes Go.WideShapes Go.ChangeAt
def ueq (m kg s a k m2 kg2 s2 a2 k2 : Int) : Bool := decide (m = m2) && (decide (kg = kg2) && (decide (s = s2) && (decide (a = a2) && decide (k = k2))))
set_option maxRecDepth 100000 in
theorem eql_unit (m kg s a k m2 kg2 s2 a2 k2 : Int) (w : World) : (binOp .eql 57 (.agg #[.int .i64 m, .int .i64 kg, .int .i64 s, .int .i64 a, .int .i64 k]) (.agg #[.int .i64 m2, .int .i64 kg2, .int .i64 s2, .int .i64 a2, .int .i64 k2])).run Try.prog w = .ok (.bool (ueq m kg s a k m2 kg2 s2 a2 k2)) w := by
 have h1 : Try.prog.underlying 57 = some (.struct (Try.prog.fieldsOf 57)) := by kernel_rfl
 have h2 : Try.prog.stoodInHeld 57 = false := by kernel_rfl
 rw [run_eql_struct]
 have h3 := run_equalIn_agg (P := Try.prog) w 9999 57 #[.int .i64 m, .int .i64 kg, .int .i64 s, .int .i64 a, .int .i64 k] #[.int .i64 m2, .int .i64 kg2, .int .i64 s2, .int .i64 a2, .int .i64 k2] h1 h2
 rw [show (10000 : Nat) = 9999 + 1 from rfl, h3]
 simp only [Program.fieldsOf, Try.underlying57]
 unfold ueq
 by_cases e0 : m = m2
 ·
  by_cases e1 : kg = kg2
  ·
   by_cases e2 : s = s2
   ·
    by_cases e3 : a = a2
    ·
     by_cases e4 : k = k2
     ·
      subst e0 e1 e2 e3 e4
      simp [Op.eqFields, go_sem, Result.andThen]
     ·
      subst e0 e1 e2 e3
      simp [Op.eqFields, go_sem, Result.andThen, e4]
    ·
     subst e0 e1 e2
     simp [Op.eqFields, go_sem, Result.andThen, e3]
   ·
    subst e0 e1
    simp [Op.eqFields, go_sem, Result.andThen, e2]
  ·
   subst e0
   simp [Op.eqFields, go_sem, Result.andThen, e1]
 ·
  simp [Op.eqFields, go_sem, Result.andThen, e0]
set_option maxRecDepth 100000 in
theorem mul_v (m kg s a k m2 kg2 s2 a2 k2 E : Int) (hE : combE (1) m kg s a k m2 kg2 s2 a2 k2 = E) (w : World) : Calls Try.prog 121 #[.agg #[.int .i64 m, .int .i64 kg, .int .i64 s, .int .i64 a, .int .i64 k], .agg #[.int .i64 m2, .int .i64 kg2, .int .i64 s2, .int .i64 a2, .int .i64 k2]] w fun e w' => e = .returned (.tuple #[.agg #[.int .i64 (combV (1) m m2 E), .int .i64 (combV (1) kg kg2 E), .int .i64 (combV (1) s s2 E), .int .i64 (combV (1) a a2 E), .int .i64 (combV (1) k k2 E)], .int .i64 E]) ∧ Below w.heap.size w w' := by
 have HC := H! (fun w => comb_any (1) m kg s a k m2 kg2 s2 a2 k2 (by omega) w)
 rw [hE] at HC
 clear hE
 generalize combV (1) m m2 E = v0 at *
 generalize combV (1) kg kg2 E = v1 at *
 generalize combV (1) s s2 E = v2 at *
 generalize combV (1) a a2 E = v3 at *
 generalize combV (1) k k2 E = v4 at *
 go_enter Try.func121, Try.ntmps121
 go_wp2_with (first | (go_at_call 128; refine (HC.out _).mono ?_; rintro _ w1 ⟨rfl, hb1⟩; obtain ⟨hb1c, hb1f⟩ := bcell hb1; have hb1s := hb1.size; (try simp only [zA] at hb1s); have hx2 : w.heap.size + 1 + 1 < w1.heap.size := (by omega)))
 refine bodyPost_ret (by simp [results, Try.results121, go_sem, *]; try rfl) rfl ?_
 exact ⟨rfl, bw⟩
set_option maxRecDepth 100000 in
theorem div_v (m kg s a k m2 kg2 s2 a2 k2 E : Int) (hE : combE (-1) m kg s a k m2 kg2 s2 a2 k2 = E) (w : World) : Calls Try.prog 122 #[.agg #[.int .i64 m, .int .i64 kg, .int .i64 s, .int .i64 a, .int .i64 k], .agg #[.int .i64 m2, .int .i64 kg2, .int .i64 s2, .int .i64 a2, .int .i64 k2]] w fun e w' => e = .returned (.tuple #[.agg #[.int .i64 (combV (-1) m m2 E), .int .i64 (combV (-1) kg kg2 E), .int .i64 (combV (-1) s s2 E), .int .i64 (combV (-1) a a2 E), .int .i64 (combV (-1) k k2 E)], .int .i64 E]) ∧ Below w.heap.size w w' := by
 have HC := H! (fun w => comb_any (-1) m kg s a k m2 kg2 s2 a2 k2 (by omega) w)
 rw [hE] at HC
 clear hE
 generalize combV (-1) m m2 E = v0 at *
 generalize combV (-1) kg kg2 E = v1 at *
 generalize combV (-1) s s2 E = v2 at *
 generalize combV (-1) a a2 E = v3 at *
 generalize combV (-1) k k2 E = v4 at *
 go_enter Try.func122, Try.ntmps122
 go_wp2_with (first | (go_at_call 128; refine (HC.out _).mono ?_; rintro _ w1 ⟨rfl, hb1⟩; obtain ⟨hb1c, hb1f⟩ := bcell hb1; have hb1s := hb1.size; (try simp only [zA] at hb1s); have hx2 : w.heap.size + 1 + 1 < w1.heap.size := (by omega)))
 refine bodyPost_ret (by simp [results, Try.results122, go_sem, *]; try rfl) rfl ?_
 exact ⟨rfl, bw⟩
 in
def unitsB (op : Int) (x y t : Fx) : Bool :=
 if op = 5 ∨ op = 6 then ueq x.m x.kg x.s x.a x.k y.m y.kg y.s y.a y.k && ueq x.m x.kg x.s x.a x.k t.m t.kg t.s t.a t.k
 else if op = 7 then decide (combE 1 x.m x.kg x.s x.a x.k y.m y.kg y.s y.a y.k = 0) && ueq (combV (1) x.m y.m (combE (1) x.m x.kg x.s x.a x.k y.m y.kg y.s y.a y.k)) (combV (1) x.kg y.kg (combE (1) x.m x.kg x.s x.a x.k y.m y.kg y.s y.a y.k)) (combV (1) x.s y.s (combE (1) x.m x.kg x.s x.a x.k y.m y.kg y.s y.a y.k)) (combV (1) x.a y.a (combE (1) x.m x.kg x.s x.a x.k y.m y.kg y.s y.a y.k)) (combV (1) x.k y.k (combE (1) x.m x.kg x.s x.a x.k y.m y.kg y.s y.a y.k)) t.m t.kg t.s t.a t.k
 else if op = 8 then decide (combE (-1) x.m x.kg x.s x.a x.k y.m y.kg y.s y.a y.k = 0) && ueq (combV (-1) x.m y.m (combE (-1) x.m x.kg x.s x.a x.k y.m y.kg y.s y.a y.k)) (combV (-1) x.kg y.kg (combE (-1) x.m x.kg x.s x.a x.k y.m y.kg y.s y.a y.k)) (combV (-1) x.s y.s (combE (-1) x.m x.kg x.s x.a x.k y.m y.kg y.s y.a y.k)) (combV (-1) x.a y.a (combE (-1) x.m x.kg x.s x.a x.k y.m y.kg y.s y.a y.k)) (combV (-1) x.k y.k (combE (-1) x.m x.kg x.s x.a x.k y.m y.kg y.s y.a y.k)) t.m t.kg t.s t.a t.k
 else if op = 9 ∨ op = 10 then ueq x.m x.kg x.s x.a x.k t.m t.kg t.s t.a t.k
 else ueq x.m x.kg x.s x.a x.k y.m y.kg y.s y.a y.k
set_option maxRecDepth 100000 in
theorem un_5 (a b c k : Int) (x y t : Fx) (w : World) : Calls Try.prog 108 #[.agg #[.int .i64 5, .int .i64 a, .int .i64 b, .int .i64 c, .int .i64 k], .agg #[.int .i64 x.bits, .bool x.sg, .int .i64 x.num, .int .i64 x.off, .int .i64 x.den, .int .i64 x.m, .int .i64 x.kg, .int .i64 x.s, .int .i64 x.a, .int .i64 x.k], .agg #[.int .i64 y.bits, .bool y.sg, .int .i64 y.num, .int .i64 y.off, .int .i64 y.den, .int .i64 y.m, .int .i64 y.kg, .int .i64 y.s, .int .i64 y.a, .int .i64 y.k], .agg #[.int .i64 t.bits, .bool t.sg, .int .i64 t.num, .int .i64 t.off, .int .i64 t.den, .int .i64 t.m, .int .i64 t.kg, .int .i64 t.s, .int .i64 t.a, .int .i64 t.k]] w fun e w' => e = .returned (.bool (unitsB 5 x y t)) ∧ Below w.heap.size w w' := by
 have HR : Hid (unitsB 5 x y t = (ueq x.m x.kg x.s x.a x.k y.m y.kg y.s y.a y.k && ueq x.m x.kg x.s x.a x.k t.m t.kg t.s t.a t.k)) := H! (by unfold unitsB; simp)
 rw [HR.out]
 clear HR
 obtain ⟨x0, x1, x2, x3, x4, x5, x6, x7, x8, x9⟩ := x
 obtain ⟨y0, y1, y2, y3, y4, y5, y6, y7, y8, y9⟩ := y
 obtain ⟨t0, t1, t2, t3, t4, t5, t6, t7, t8, t9⟩ := t
 simp only
 have HEQ := eql_unit
 go_enter Try.func108, Try.ntmps108
 go_wp2
 all_goals go_ret
 all_goals exact ⟨by first | rfl | (simp [*]; done) | (simp_all; done), bw⟩
set_option maxRecDepth 100000 in
theorem un_6 (a b c k : Int) (x y t : Fx) (w : World) : Calls Try.prog 108 #[.agg #[.int .i64 6, .int .i64 a, .int .i64 b, .int .i64 c, .int .i64 k], .agg #[.int .i64 x.bits, .bool x.sg, .int .i64 x.num, .int .i64 x.off, .int .i64 x.den, .int .i64 x.m, .int .i64 x.kg, .int .i64 x.s, .int .i64 x.a, .int .i64 x.k], .agg #[.int .i64 y.bits, .bool y.sg, .int .i64 y.num, .int .i64 y.off, .int .i64 y.den, .int .i64 y.m, .int .i64 y.kg, .int .i64 y.s, .int .i64 y.a, .int .i64 y.k], .agg #[.int .i64 t.bits, .bool t.sg, .int .i64 t.num, .int .i64 t.off, .int .i64 t.den, .int .i64 t.m, .int .i64 t.kg, .int .i64 t.s, .int .i64 t.a, .int .i64 t.k]] w fun e w' => e = .returned (.bool (unitsB 6 x y t)) ∧ Below w.heap.size w w' := by
 have HR : Hid (unitsB 6 x y t = (ueq x.m x.kg x.s x.a x.k y.m y.kg y.s y.a y.k && ueq x.m x.kg x.s x.a x.k t.m t.kg t.s t.a t.k)) := H! (by unfold unitsB; simp)
 rw [HR.out]
 clear HR
 obtain ⟨x0, x1, x2, x3, x4, x5, x6, x7, x8, x9⟩ := x
 obtain ⟨y0, y1, y2, y3, y4, y5, y6, y7, y8, y9⟩ := y
 obtain ⟨t0, t1, t2, t3, t4, t5, t6, t7, t8, t9⟩ := t
 simp only
 have HEQ := eql_unit
 go_enter Try.func108, Try.ntmps108
 go_wp2
 all_goals go_ret
 all_goals exact ⟨by first | rfl | (simp [*]; done) | (simp_all; done), bw⟩
set_option maxRecDepth 100000 in
theorem un_7 (a b c k : Int) (x y t : Fx) (w : World) : Calls Try.prog 108 #[.agg #[.int .i64 7, .int .i64 a, .int .i64 b, .int .i64 c, .int .i64 k], .agg #[.int .i64 x.bits, .bool x.sg, .int .i64 x.num, .int .i64 x.off, .int .i64 x.den, .int .i64 x.m, .int .i64 x.kg, .int .i64 x.s, .int .i64 x.a, .int .i64 x.k], .agg #[.int .i64 y.bits, .bool y.sg, .int .i64 y.num, .int .i64 y.off, .int .i64 y.den, .int .i64 y.m, .int .i64 y.kg, .int .i64 y.s, .int .i64 y.a, .int .i64 y.k], .agg #[.int .i64 t.bits, .bool t.sg, .int .i64 t.num, .int .i64 t.off, .int .i64 t.den, .int .i64 t.m, .int .i64 t.kg, .int .i64 t.s, .int .i64 t.a, .int .i64 t.k]] w fun e w' => e = .returned (.bool (unitsB 7 x y t)) ∧ Below w.heap.size w w' := by
 have HR : Hid (unitsB 7 x y t = (decide (combE 1 x.m x.kg x.s x.a x.k y.m y.kg y.s y.a y.k = 0) && ueq (combV 1 x.m y.m (combE 1 x.m x.kg x.s x.a x.k y.m y.kg y.s y.a y.k)) (combV 1 x.kg y.kg (combE 1 x.m x.kg x.s x.a x.k y.m y.kg y.s y.a y.k)) (combV 1 x.s y.s (combE 1 x.m x.kg x.s x.a x.k y.m y.kg y.s y.a y.k)) (combV 1 x.a y.a (combE 1 x.m x.kg x.s x.a x.k y.m y.kg y.s y.a y.k)) (combV 1 x.k y.k (combE 1 x.m x.kg x.s x.a x.k y.m y.kg y.s y.a y.k)) t.m t.kg t.s t.a t.k)) := H! (by unfold unitsB; simp)
 rw [HR.out]
 clear HR
 obtain ⟨x0, x1, x2, x3, x4, x5, x6, x7, x8, x9⟩ := x
 obtain ⟨y0, y1, y2, y3, y4, y5, y6, y7, y8, y9⟩ := y
 obtain ⟨t0, t1, t2, t3, t4, t5, t6, t7, t8, t9⟩ := t
 simp only
 have HEQ := eql_unit
 obtain ⟨E, hE⟩ : ∃ E, combE (1) x5 x6 x7 x8 x9 y5 y6 y7 y8 y9 = E := ⟨_, rfl⟩
 rw [hE]
 have HM := H! (fun w => mul_v x5 x6 x7 x8 x9 y5 y6 y7 y8 y9 E hE w)
 clear hE
 generalize combV (1) x5 y5 E = v5 at *
 generalize combV (1) x6 y6 E = v6 at *
 generalize combV (1) x7 y7 E = v7 at *
 generalize combV (1) x8 y8 E = v8 at *
 generalize combV (1) x9 y9 E = v9 at *
 by_cases h0 : E = 0
 ·
  subst h0
  go_enter Try.func108, Try.ntmps108
  go_wp2_with (first | (go_at_call 121; refine (HM.out _).mono ?_; rintro _ w1 ⟨rfl, hb1⟩; obtain ⟨hb1c, hb1f⟩ := bcell hb1; have hb1s := hb1.size; (try simp only [zA] at hb1s); have hx1 : w.heap.size + 1 < w1.heap.size := (by omega); have hx2 : w.heap.size + 1 + 1 < w1.heap.size := (by omega); have hx3 : w.heap.size + 1 + 1 + 1 < w1.heap.size := (by omega)))
  all_goals go_ret
  all_goals exact ⟨by first | rfl | (simp [*]; done), bw⟩
 ·
  go_enter Try.func108, Try.ntmps108
  go_wp2_with (first | (go_at_call 121; refine (HM.out _).mono ?_; rintro _ w1 ⟨rfl, hb1⟩; obtain ⟨hb1c, hb1f⟩ := bcell hb1; have hb1s := hb1.size; (try simp only [zA] at hb1s); have hx1 : w.heap.size + 1 < w1.heap.size := (by omega); have hx2 : w.heap.size + 1 + 1 < w1.heap.size := (by omega); have hx3 : w.heap.size + 1 + 1 + 1 < w1.heap.size := (by omega)))
  all_goals go_ret
  all_goals exact ⟨by first | rfl | (simp [*]; done), bw⟩
set_option maxRecDepth 100000 in
theorem un_8 (a b c k : Int) (x y t : Fx) (w : World) : Calls Try.prog 108 #[.agg #[.int .i64 8, .int .i64 a, .int .i64 b, .int .i64 c, .int .i64 k], .agg #[.int .i64 x.bits, .bool x.sg, .int .i64 x.num, .int .i64 x.off, .int .i64 x.den, .int .i64 x.m, .int .i64 x.kg, .int .i64 x.s, .int .i64 x.a, .int .i64 x.k], .agg #[.int .i64 y.bits, .bool y.sg, .int .i64 y.num, .int .i64 y.off, .int .i64 y.den, .int .i64 y.m, .int .i64 y.kg, .int .i64 y.s, .int .i64 y.a, .int .i64 y.k], .agg #[.int .i64 t.bits, .bool t.sg, .int .i64 t.num, .int .i64 t.off, .int .i64 t.den, .int .i64 t.m, .int .i64 t.kg, .int .i64 t.s, .int .i64 t.a, .int .i64 t.k]] w fun e w' => e = .returned (.bool (unitsB 8 x y t)) ∧ Below w.heap.size w w' := by
 have HR : Hid (unitsB 8 x y t = (decide (combE (-1) x.m x.kg x.s x.a x.k y.m y.kg y.s y.a y.k = 0) && ueq (combV (-1) x.m y.m (combE (-1) x.m x.kg x.s x.a x.k y.m y.kg y.s y.a y.k)) (combV (-1) x.kg y.kg (combE (-1) x.m x.kg x.s x.a x.k y.m y.kg y.s y.a y.k)) (combV (-1) x.s y.s (combE (-1) x.m x.kg x.s x.a x.k y.m y.kg y.s y.a y.k)) (combV (-1) x.a y.a (combE (-1) x.m x.kg x.s x.a x.k y.m y.kg y.s y.a y.k)) (combV (-1) x.k y.k (combE (-1) x.m x.kg x.s x.a x.k y.m y.kg y.s y.a y.k)) t.m t.kg t.s t.a t.k)) := H! (by unfold unitsB; simp)
 rw [HR.out]
 clear HR
 obtain ⟨x0, x1, x2, x3, x4, x5, x6, x7, x8, x9⟩ := x
 obtain ⟨y0, y1, y2, y3, y4, y5, y6, y7, y8, y9⟩ := y
 obtain ⟨t0, t1, t2, t3, t4, t5, t6, t7, t8, t9⟩ := t
 simp only
 have HEQ := eql_unit
 obtain ⟨E, hE⟩ : ∃ E, combE (-1) x5 x6 x7 x8 x9 y5 y6 y7 y8 y9 = E := ⟨_, rfl⟩
 rw [hE]
 have HM := H! (fun w => div_v x5 x6 x7 x8 x9 y5 y6 y7 y8 y9 E hE w)
 clear hE
 generalize combV (-1) x5 y5 E = v5 at *
 generalize combV (-1) x6 y6 E = v6 at *
 generalize combV (-1) x7 y7 E = v7 at *
 generalize combV (-1) x8 y8 E = v8 at *
 generalize combV (-1) x9 y9 E = v9 at *
 by_cases h0 : E = 0
 ·
  subst h0
  go_enter Try.func108, Try.ntmps108
  go_wp2_with (first | (go_at_call 122; refine (HM.out _).mono ?_; rintro _ w1 ⟨rfl, hb1⟩; obtain ⟨hb1c, hb1f⟩ := bcell hb1; have hb1s := hb1.size; (try simp only [zA] at hb1s); have hx1 : w.heap.size + 1 < w1.heap.size := (by omega); have hx2 : w.heap.size + 1 + 1 < w1.heap.size := (by omega); have hx3 : w.heap.size + 1 + 1 + 1 < w1.heap.size := (by omega)))
  all_goals go_ret
  all_goals exact ⟨by first | rfl | (simp [*]; done), bw⟩
 ·
  go_enter Try.func108, Try.ntmps108
  go_wp2_with (first | (go_at_call 122; refine (HM.out _).mono ?_; rintro _ w1 ⟨rfl, hb1⟩; obtain ⟨hb1c, hb1f⟩ := bcell hb1; have hb1s := hb1.size; (try simp only [zA] at hb1s); have hx1 : w.heap.size + 1 < w1.heap.size := (by omega); have hx2 : w.heap.size + 1 + 1 < w1.heap.size := (by omega); have hx3 : w.heap.size + 1 + 1 + 1 < w1.heap.size := (by omega)))
  all_goals go_ret
  all_goals exact ⟨by first | rfl | (simp [*]; done), bw⟩
set_option maxRecDepth 100000 in
theorem un_9 (a b c k : Int) (x y t : Fx) (w : World) : Calls Try.prog 108 #[.agg #[.int .i64 9, .int .i64 a, .int .i64 b, .int .i64 c, .int .i64 k], .agg #[.int .i64 x.bits, .bool x.sg, .int .i64 x.num, .int .i64 x.off, .int .i64 x.den, .int .i64 x.m, .int .i64 x.kg, .int .i64 x.s, .int .i64 x.a, .int .i64 x.k], .agg #[.int .i64 y.bits, .bool y.sg, .int .i64 y.num, .int .i64 y.off, .int .i64 y.den, .int .i64 y.m, .int .i64 y.kg, .int .i64 y.s, .int .i64 y.a, .int .i64 y.k], .agg #[.int .i64 t.bits, .bool t.sg, .int .i64 t.num, .int .i64 t.off, .int .i64 t.den, .int .i64 t.m, .int .i64 t.kg, .int .i64 t.s, .int .i64 t.a, .int .i64 t.k]] w fun e w' => e = .returned (.bool (unitsB 9 x y t)) ∧ Below w.heap.size w w' := by
 have HR : Hid (unitsB 9 x y t = (ueq x.m x.kg x.s x.a x.k t.m t.kg t.s t.a t.k)) := H! (by unfold unitsB; simp)
 rw [HR.out]
 clear HR
 obtain ⟨x0, x1, x2, x3, x4, x5, x6, x7, x8, x9⟩ := x
 obtain ⟨y0, y1, y2, y3, y4, y5, y6, y7, y8, y9⟩ := y
 obtain ⟨t0, t1, t2, t3, t4, t5, t6, t7, t8, t9⟩ := t
 simp only
 have HEQ := eql_unit
 go_enter Try.func108, Try.ntmps108
 go_wp2
 all_goals go_ret
 all_goals exact ⟨by first | rfl | (simp [*]; done) | (simp_all; done), bw⟩
set_option maxRecDepth 100000 in
theorem un_10 (a b c k : Int) (x y t : Fx) (w : World) : Calls Try.prog 108 #[.agg #[.int .i64 10, .int .i64 a, .int .i64 b, .int .i64 c, .int .i64 k], .agg #[.int .i64 x.bits, .bool x.sg, .int .i64 x.num, .int .i64 x.off, .int .i64 x.den, .int .i64 x.m, .int .i64 x.kg, .int .i64 x.s, .int .i64 x.a, .int .i64 x.k], .agg #[.int .i64 y.bits, .bool y.sg, .int .i64 y.num, .int .i64 y.off, .int .i64 y.den, .int .i64 y.m, .int .i64 y.kg, .int .i64 y.s, .int .i64 y.a, .int .i64 y.k], .agg #[.int .i64 t.bits, .bool t.sg, .int .i64 t.num, .int .i64 t.off, .int .i64 t.den, .int .i64 t.m, .int .i64 t.kg, .int .i64 t.s, .int .i64 t.a, .int .i64 t.k]] w fun e w' => e = .returned (.bool (unitsB 10 x y t)) ∧ Below w.heap.size w w' := by
 have HR : Hid (unitsB 10 x y t = (ueq x.m x.kg x.s x.a x.k t.m t.kg t.s t.a t.k)) := H! (by unfold unitsB; simp)
 rw [HR.out]
 clear HR
 obtain ⟨x0, x1, x2, x3, x4, x5, x6, x7, x8, x9⟩ := x
 obtain ⟨y0, y1, y2, y3, y4, y5, y6, y7, y8, y9⟩ := y
 obtain ⟨t0, t1, t2, t3, t4, t5, t6, t7, t8, t9⟩ := t
 simp only
 have HEQ := eql_unit
 go_enter Try.func108, Try.ntmps108
 go_wp2
 all_goals go_ret
 all_goals exact ⟨by first | rfl | (simp [*]; done) | (simp_all; done), bw⟩
set_option maxRecDepth 100000 in
theorem un_o (op a b c k : Int) (o5 : ¬ op = 5) (o6 : ¬ op = 6) (o7 : ¬ op = 7) (o8 : ¬ op = 8) (o9 : ¬ op = 9) (o10 : ¬ op = 10) (x y t : Fx) (w : World) : Calls Try.prog 108 #[.agg #[.int .i64 op, .int .i64 a, .int .i64 b, .int .i64 c, .int .i64 k], .agg #[.int .i64 x.bits, .bool x.sg, .int .i64 x.num, .int .i64 x.off, .int .i64 x.den, .int .i64 x.m, .int .i64 x.kg, .int .i64 x.s, .int .i64 x.a, .int .i64 x.k], .agg #[.int .i64 y.bits, .bool y.sg, .int .i64 y.num, .int .i64 y.off, .int .i64 y.den, .int .i64 y.m, .int .i64 y.kg, .int .i64 y.s, .int .i64 y.a, .int .i64 y.k], .agg #[.int .i64 t.bits, .bool t.sg, .int .i64 t.num, .int .i64 t.off, .int .i64 t.den, .int .i64 t.m, .int .i64 t.kg, .int .i64 t.s, .int .i64 t.a, .int .i64 t.k]] w fun e w' => e = .returned (.bool (unitsB op x y t)) ∧ Below w.heap.size w w' := by
 have HR : Hid (unitsB op x y t = (ueq x.m x.kg x.s x.a x.k y.m y.kg y.s y.a y.k)) := H! (by unfold unitsB; simp [*])
 rw [HR.out]
 clear HR
 obtain ⟨x0, x1, x2, x3, x4, x5, x6, x7, x8, x9⟩ := x
 obtain ⟨y0, y1, y2, y3, y4, y5, y6, y7, y8, y9⟩ := y
 obtain ⟨t0, t1, t2, t3, t4, t5, t6, t7, t8, t9⟩ := t
 simp only
 have HEQ := eql_unit
 go_enter Try.func108, Try.ntmps108
 go_wp2
 all_goals go_ret
 all_goals exact ⟨by first | rfl | (simp [*]; done) | (simp_all; done), bw⟩
theorem units_any (op a b c k : Int) (x y t : Fx) (w : World) : Calls Try.prog 108 #[.agg #[.int .i64 op, .int .i64 a, .int .i64 b, .int .i64 c, .int .i64 k], .agg #[.int .i64 x.bits, .bool x.sg, .int .i64 x.num, .int .i64 x.off, .int .i64 x.den, .int .i64 x.m, .int .i64 x.kg, .int .i64 x.s, .int .i64 x.a, .int .i64 x.k], .agg #[.int .i64 y.bits, .bool y.sg, .int .i64 y.num, .int .i64 y.off, .int .i64 y.den, .int .i64 y.m, .int .i64 y.kg, .int .i64 y.s, .int .i64 y.a, .int .i64 y.k], .agg #[.int .i64 t.bits, .bool t.sg, .int .i64 t.num, .int .i64 t.off, .int .i64 t.den, .int .i64 t.m, .int .i64 t.kg, .int .i64 t.s, .int .i64 t.a, .int .i64 t.k]] w fun e w' => e = .returned (.bool (unitsB op x y t)) ∧ Below w.heap.size w w' := by
 by_cases o5 : op = 5
 ·
  subst o5
  exact un_5 a b c k x y t w
 by_cases o6 : op = 6
 ·
  subst o6
  exact un_6 a b c k x y t w
 by_cases o7 : op = 7
 ·
  subst o7
  exact un_7 a b c k x y t w
 by_cases o8 : op = 8
 ·
  subst o8
  exact un_8 a b c k x y t w
 by_cases o9 : op = 9
 ·
  subst o9
  exact un_9 a b c k x y t w
 by_cases o10 : op = 10
 ·
  subst o10
  exact un_10 a b c k x y t w
 exact un_o op a b c k o5 o6 o7 o8 o9 o10 x y t w
theorem setCell_self {W : World} {a : Addr} {v : Value} (h : W.cell? a = some v) : W.setCell a v = W := by
 unfold World.setCell
 have hm : ∀ f : Obj → Obj, (∀ o, W.heap[a.block]? = some o → f o = o) → W.heap.modify a.block f = W.heap := fun f hf => by
  apply Array.ext
  ·
   simp
  ·
   intro i h1 h2
   rw [Array.getElem_modify]
   split
   ·
    rename_i hi
    subst hi
    exact hf _ (Array.getElem?_eq_getElem h2)
   ·
    rfl
 rw [hm]
 intro o ho
 unfold World.cell? at h
 rw [ho] at h
 cases o with
 | cells c e f =>
  simp only at h ⊢
  split at h
  ·
   cases h
  ·
   rename_i hs
   have hs2 : a.spot.isSome = false := by simpa using hs
   obtain ⟨hlt, hv⟩ := Array.getElem?_eq_some_iff.1 h
   have hc : c.setIfInBounds a.off v = c := by
    apply Array.ext
    ·
     simp
    ·
     intro i h1 h2
     rw [Array.getElem_setIfInBounds]
     split
     ·
      rename_i hi; subst hi; exact hv.symm
     ·
      rfl
   simp [hs2, hc]
 | _ => rfl
theorem cap_world2 {P : World → Prop} (W : World) (h : ∀ W', W' = W → P W') : P W := h W rfl
end Go.Proofs.Ytfooefiaenlhmaa
