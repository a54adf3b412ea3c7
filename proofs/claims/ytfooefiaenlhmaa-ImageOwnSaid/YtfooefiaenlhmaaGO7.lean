/- Lemmas for the laws of package magnetolaw15: what its functions return, for any arguments that the lemmas name. -/
import Derived.Test.YtfooefiaenlhmaaGO6
namespace Go.Proofs.Ytfooefiaenlhmaa
set_option linter.unusedVariables false
set_option linter.unusedSimpArgs false
set_option maxHeartbeats 16000000
open Go.RowKit Go.ChangeShapes Go.WideShapes Go.ChangeAt
section
variable (rc : Option Addr) (lc cc : Nat) (rt : Option Addr) (ct : Nat) (types : List Fx) (rv : Option Addr) (lv cv : Nat) (rm : Option Addr) (lm cm : Nat) (cells : Int) (ri : Option Addr) (li ci : Nat) (rs : Option Addr) (ls cs : Nat) (ro : Option Addr) (lo co : Nat) (rn : Option Addr) (ln cn : Nat)
set_option maxRecDepth 100000 in
theorem ty_n_a (op a b c k : Int) (na nb nt : Nat) (hk : I64 k) (hna : k / 16384 = (na : Int)) (hnb : k / 128 % 128 = (nb : Int)) (hnt : k % 128 = (nt : Int)) (o9 : ¬ op = 9) (o10 : ¬ op = 10) (o13 : ¬ op = 13) (o14 : ¬ op = 14) (za : types.length ≤ na) (w : World) (hS : IsS 10 Fx.enc w rt ct types) : Calls Try.prog 107 #[.agg #[.slice rc lc cc, .slice rt types.length ct, .slice rv lv cv, .slice rm lm cm, .int .i64 cells, .slice ri li ci, .slice rs ls cs, .slice ro lo co, .slice rn ln cn], .agg #[.int .i64 op, .int .i64 a, .int .i64 b, .int .i64 c, .int .i64 k]] w fun e w' => e = .returned (.tuple #[.agg #[.int .i64 0, .bool false, .int .i64 0, .int .i64 0, .int .i64 0, .int .i64 0, .int .i64 0, .int .i64 0, .int .i64 0, .int .i64 0], .agg #[.int .i64 0, .bool false, .int .i64 0, .int .i64 0, .int .i64 0, .int .i64 0, .int .i64 0, .int .i64 0, .int .i64 0, .int .i64 0], .agg #[.int .i64 0, .bool false, .int .i64 0, .int .i64 0, .int .i64 0, .int .i64 0, .int .i64 0, .int .i64 0, .int .i64 0, .int .i64 0], .bool false]) ∧ Below w.heap.size w w' := by
 have hmx := Nat.le_trans hS.le hS.max
 unfold maxLen at hmx
 have ia : (types.length : Int) ≤ (na : Int) := by omega
 clear hS
 have e9 : (op == 9) = false := by simp [o9]
 have e10 : (op == 10) = false := by simp [o10]
 have e13 : (op == 13) = false := by simp [o13]
 have e14 : (op == 14) = false := by simp [o14]
 have ml : (types.length : Int) ≤ 9223372036854775807 := by omega
 go_enter Try.func107, Try.ntmps107
 go_wp2_with (first | (go_at_call 120; refine (split_any k hk _).mono ?_; rintro e w' ⟨rfl, rfl⟩; rw [hna, hnb, hnt]))
 refine cap_world2 (P := fun W => Code.wp _ _ _ _ W) _ ?_
 intro W9 hW9
 have f00 : W9.cell? ⟨w.heap.size + 1 + 1, 0, none⟩ = some (.int .i64 0) := by rw [hW9]; first | go_keep | (simp [go_sem, *]; done)
 have f01 : W9.cell? ⟨w.heap.size + 1 + 1, 1, none⟩ = some (.bool false) := by rw [hW9]; first | go_keep | (simp [go_sem, *]; done)
 have f02 : W9.cell? ⟨w.heap.size + 1 + 1, 2, none⟩ = some (.int .i64 0) := by rw [hW9]; first | go_keep | (simp [go_sem, *]; done)
 have f03 : W9.cell? ⟨w.heap.size + 1 + 1, 3, none⟩ = some (.int .i64 0) := by rw [hW9]; first | go_keep | (simp [go_sem, *]; done)
 have f04 : W9.cell? ⟨w.heap.size + 1 + 1, 4, none⟩ = some (.int .i64 0) := by rw [hW9]; first | go_keep | (simp [go_sem, *]; done)
 have f05 : W9.cell? ⟨w.heap.size + 1 + 1, 5, none⟩ = some (.int .i64 0) := by rw [hW9]; first | go_keep | (simp [go_sem, *]; done)
 have f06 : W9.cell? ⟨w.heap.size + 1 + 1, 6, none⟩ = some (.int .i64 0) := by rw [hW9]; first | go_keep | (simp [go_sem, *]; done)
 have f07 : W9.cell? ⟨w.heap.size + 1 + 1, 7, none⟩ = some (.int .i64 0) := by rw [hW9]; first | go_keep | (simp [go_sem, *]; done)
 have f08 : W9.cell? ⟨w.heap.size + 1 + 1, 8, none⟩ = some (.int .i64 0) := by rw [hW9]; first | go_keep | (simp [go_sem, *]; done)
 have f09 : W9.cell? ⟨w.heap.size + 1 + 1, 9, none⟩ = some (.int .i64 0) := by rw [hW9]; first | go_keep | (simp [go_sem, *]; done)
 have fz0 : ∀ j, W9.frozen? ⟨w.heap.size + 1 + 1, j, none⟩ = false := fun j => by rw [hW9]; simp [go_sem]
 have f10 : W9.cell? ⟨w.heap.size + 1 + 1 + 1, 0, none⟩ = some (.int .i64 0) := by rw [hW9]; first | go_keep | (simp [go_sem, *]; done)
 have f11 : W9.cell? ⟨w.heap.size + 1 + 1 + 1, 1, none⟩ = some (.bool false) := by rw [hW9]; first | go_keep | (simp [go_sem, *]; done)
 have f12 : W9.cell? ⟨w.heap.size + 1 + 1 + 1, 2, none⟩ = some (.int .i64 0) := by rw [hW9]; first | go_keep | (simp [go_sem, *]; done)
 have f13 : W9.cell? ⟨w.heap.size + 1 + 1 + 1, 3, none⟩ = some (.int .i64 0) := by rw [hW9]; first | go_keep | (simp [go_sem, *]; done)
 have f14 : W9.cell? ⟨w.heap.size + 1 + 1 + 1, 4, none⟩ = some (.int .i64 0) := by rw [hW9]; first | go_keep | (simp [go_sem, *]; done)
 have f15 : W9.cell? ⟨w.heap.size + 1 + 1 + 1, 5, none⟩ = some (.int .i64 0) := by rw [hW9]; first | go_keep | (simp [go_sem, *]; done)
 have f16 : W9.cell? ⟨w.heap.size + 1 + 1 + 1, 6, none⟩ = some (.int .i64 0) := by rw [hW9]; first | go_keep | (simp [go_sem, *]; done)
 have f17 : W9.cell? ⟨w.heap.size + 1 + 1 + 1, 7, none⟩ = some (.int .i64 0) := by rw [hW9]; first | go_keep | (simp [go_sem, *]; done)
 have f18 : W9.cell? ⟨w.heap.size + 1 + 1 + 1, 8, none⟩ = some (.int .i64 0) := by rw [hW9]; first | go_keep | (simp [go_sem, *]; done)
 have f19 : W9.cell? ⟨w.heap.size + 1 + 1 + 1, 9, none⟩ = some (.int .i64 0) := by rw [hW9]; first | go_keep | (simp [go_sem, *]; done)
 have fz1 : ∀ j, W9.frozen? ⟨w.heap.size + 1 + 1 + 1, j, none⟩ = false := fun j => by rw [hW9]; simp [go_sem]
 have f20 : W9.cell? ⟨w.heap.size + 1 + 1 + 1 + 1, 0, none⟩ = some (.int .i64 0) := by rw [hW9]; first | go_keep | (simp [go_sem, *]; done)
 have f21 : W9.cell? ⟨w.heap.size + 1 + 1 + 1 + 1, 1, none⟩ = some (.bool false) := by rw [hW9]; first | go_keep | (simp [go_sem, *]; done)
 have f22 : W9.cell? ⟨w.heap.size + 1 + 1 + 1 + 1, 2, none⟩ = some (.int .i64 0) := by rw [hW9]; first | go_keep | (simp [go_sem, *]; done)
 have f23 : W9.cell? ⟨w.heap.size + 1 + 1 + 1 + 1, 3, none⟩ = some (.int .i64 0) := by rw [hW9]; first | go_keep | (simp [go_sem, *]; done)
 have f24 : W9.cell? ⟨w.heap.size + 1 + 1 + 1 + 1, 4, none⟩ = some (.int .i64 0) := by rw [hW9]; first | go_keep | (simp [go_sem, *]; done)
 have f25 : W9.cell? ⟨w.heap.size + 1 + 1 + 1 + 1, 5, none⟩ = some (.int .i64 0) := by rw [hW9]; first | go_keep | (simp [go_sem, *]; done)
 have f26 : W9.cell? ⟨w.heap.size + 1 + 1 + 1 + 1, 6, none⟩ = some (.int .i64 0) := by rw [hW9]; first | go_keep | (simp [go_sem, *]; done)
 have f27 : W9.cell? ⟨w.heap.size + 1 + 1 + 1 + 1, 7, none⟩ = some (.int .i64 0) := by rw [hW9]; first | go_keep | (simp [go_sem, *]; done)
 have f28 : W9.cell? ⟨w.heap.size + 1 + 1 + 1 + 1, 8, none⟩ = some (.int .i64 0) := by rw [hW9]; first | go_keep | (simp [go_sem, *]; done)
 have f29 : W9.cell? ⟨w.heap.size + 1 + 1 + 1 + 1, 9, none⟩ = some (.int .i64 0) := by rw [hW9]; first | go_keep | (simp [go_sem, *]; done)
 have fz2 : ∀ j, W9.frozen? ⟨w.heap.size + 1 + 1 + 1 + 1, j, none⟩ = false := fun j => by rw [hW9]; simp [go_sem]
 have s9 : w.heap.size + 1 + 1 + 1 + 1 < W9.heap.size := by rw [hW9]; simp only [zA, zS]; omega
 have hB9 : Below w.heap.size w W9 := by rw [hW9]; (exact bw)
 clear hW9
 have sz0 : w.heap.size + 1 + 1 < W9.heap.size := by omega
 have g00 : W9.drew.cell? ⟨w.heap.size + 1 + 1, 0, none⟩ = some (.int .i64 0) := f00
 have k00 := setCell_self g00
 have g01 : W9.drew.cell? ⟨w.heap.size + 1 + 1, 1, none⟩ = some (.bool false) := f01
 have k01 := setCell_self g01
 have g02 : W9.drew.cell? ⟨w.heap.size + 1 + 1, 2, none⟩ = some (.int .i64 0) := f02
 have k02 := setCell_self g02
 have g03 : W9.drew.cell? ⟨w.heap.size + 1 + 1, 3, none⟩ = some (.int .i64 0) := f03
 have k03 := setCell_self g03
 have g04 : W9.drew.cell? ⟨w.heap.size + 1 + 1, 4, none⟩ = some (.int .i64 0) := f04
 have k04 := setCell_self g04
 have g05 : W9.drew.cell? ⟨w.heap.size + 1 + 1, 5, none⟩ = some (.int .i64 0) := f05
 have k05 := setCell_self g05
 have g06 : W9.drew.cell? ⟨w.heap.size + 1 + 1, 6, none⟩ = some (.int .i64 0) := f06
 have k06 := setCell_self g06
 have g07 : W9.drew.cell? ⟨w.heap.size + 1 + 1, 7, none⟩ = some (.int .i64 0) := f07
 have k07 := setCell_self g07
 have g08 : W9.drew.cell? ⟨w.heap.size + 1 + 1, 8, none⟩ = some (.int .i64 0) := f08
 have k08 := setCell_self g08
 have g09 : W9.drew.cell? ⟨w.heap.size + 1 + 1, 9, none⟩ = some (.int .i64 0) := f09
 have k09 := setCell_self g09
 have gz0 : ∀ j, W9.drew.frozen? ⟨w.heap.size + 1 + 1, j, none⟩ = false := fz0
 have sz1 : w.heap.size + 1 + 1 + 1 < W9.heap.size := by omega
 have g10 : W9.drew.cell? ⟨w.heap.size + 1 + 1 + 1, 0, none⟩ = some (.int .i64 0) := f10
 have k10 := setCell_self g10
 have g11 : W9.drew.cell? ⟨w.heap.size + 1 + 1 + 1, 1, none⟩ = some (.bool false) := f11
 have k11 := setCell_self g11
 have g12 : W9.drew.cell? ⟨w.heap.size + 1 + 1 + 1, 2, none⟩ = some (.int .i64 0) := f12
 have k12 := setCell_self g12
 have g13 : W9.drew.cell? ⟨w.heap.size + 1 + 1 + 1, 3, none⟩ = some (.int .i64 0) := f13
 have k13 := setCell_self g13
 have g14 : W9.drew.cell? ⟨w.heap.size + 1 + 1 + 1, 4, none⟩ = some (.int .i64 0) := f14
 have k14 := setCell_self g14
 have g15 : W9.drew.cell? ⟨w.heap.size + 1 + 1 + 1, 5, none⟩ = some (.int .i64 0) := f15
 have k15 := setCell_self g15
 have g16 : W9.drew.cell? ⟨w.heap.size + 1 + 1 + 1, 6, none⟩ = some (.int .i64 0) := f16
 have k16 := setCell_self g16
 have g17 : W9.drew.cell? ⟨w.heap.size + 1 + 1 + 1, 7, none⟩ = some (.int .i64 0) := f17
 have k17 := setCell_self g17
 have g18 : W9.drew.cell? ⟨w.heap.size + 1 + 1 + 1, 8, none⟩ = some (.int .i64 0) := f18
 have k18 := setCell_self g18
 have g19 : W9.drew.cell? ⟨w.heap.size + 1 + 1 + 1, 9, none⟩ = some (.int .i64 0) := f19
 have k19 := setCell_self g19
 have gz1 : ∀ j, W9.drew.frozen? ⟨w.heap.size + 1 + 1 + 1, j, none⟩ = false := fz1
 have sz2 : w.heap.size + 1 + 1 + 1 + 1 < W9.heap.size := by omega
 have g20 : W9.drew.cell? ⟨w.heap.size + 1 + 1 + 1 + 1, 0, none⟩ = some (.int .i64 0) := f20
 have k20 := setCell_self g20
 have g21 : W9.drew.cell? ⟨w.heap.size + 1 + 1 + 1 + 1, 1, none⟩ = some (.bool false) := f21
 have k21 := setCell_self g21
 have g22 : W9.drew.cell? ⟨w.heap.size + 1 + 1 + 1 + 1, 2, none⟩ = some (.int .i64 0) := f22
 have k22 := setCell_self g22
 have g23 : W9.drew.cell? ⟨w.heap.size + 1 + 1 + 1 + 1, 3, none⟩ = some (.int .i64 0) := f23
 have k23 := setCell_self g23
 have g24 : W9.drew.cell? ⟨w.heap.size + 1 + 1 + 1 + 1, 4, none⟩ = some (.int .i64 0) := f24
 have k24 := setCell_self g24
 have g25 : W9.drew.cell? ⟨w.heap.size + 1 + 1 + 1 + 1, 5, none⟩ = some (.int .i64 0) := f25
 have k25 := setCell_self g25
 have g26 : W9.drew.cell? ⟨w.heap.size + 1 + 1 + 1 + 1, 6, none⟩ = some (.int .i64 0) := f26
 have k26 := setCell_self g26
 have g27 : W9.drew.cell? ⟨w.heap.size + 1 + 1 + 1 + 1, 7, none⟩ = some (.int .i64 0) := f27
 have k27 := setCell_self g27
 have g28 : W9.drew.cell? ⟨w.heap.size + 1 + 1 + 1 + 1, 8, none⟩ = some (.int .i64 0) := f28
 have k28 := setCell_self g28
 have g29 : W9.drew.cell? ⟨w.heap.size + 1 + 1 + 1 + 1, 9, none⟩ = some (.int .i64 0) := f29
 have k29 := setCell_self g29
 have gz2 : ∀ j, W9.drew.frozen? ⟨w.heap.size + 1 + 1 + 1 + 1, j, none⟩ = false := fz2
 clear f00 f01 f02 f03 f04 f05 f06 f07 f08 f09 f10 f11 f12 f13 f14 f15 f16 f17 f18 f19 f20 f21 f22 f23 f24 f25 f26 f27 f28 f29
 go_region_held3 (fun w' => w' = W9.drew) (first | rfl | assumption | (simp [*]; done)) (fail)
 all_goals go_wp2
 all_goals refine bodyPost_ret (by simp [results, Try.results107, go_sem, *]; try rfl) rfl ?_
 all_goals exact ⟨rfl, hB9.drew⟩
set_option maxRecDepth 100000 in
theorem ty_n_b (op a b c k : Int) (na nb nt : Nat) (hk : I64 k) (hna : k / 16384 = (na : Int)) (hnb : k / 128 % 128 = (nb : Int)) (hnt : k % 128 = (nt : Int)) (o9 : ¬ op = 9) (o10 : ¬ op = 10) (o13 : ¬ op = 13) (o14 : ¬ op = 14) (ha : na < types.length) (zb : types.length ≤ nb) (w : World) (hS : IsS 10 Fx.enc w rt ct types) : Calls Try.prog 107 #[.agg #[.slice rc lc cc, .slice rt types.length ct, .slice rv lv cv, .slice rm lm cm, .int .i64 cells, .slice ri li ci, .slice rs ls cs, .slice ro lo co, .slice rn ln cn], .agg #[.int .i64 op, .int .i64 a, .int .i64 b, .int .i64 c, .int .i64 k]] w fun e w' => e = .returned (.tuple #[.agg #[.int .i64 0, .bool false, .int .i64 0, .int .i64 0, .int .i64 0, .int .i64 0, .int .i64 0, .int .i64 0, .int .i64 0, .int .i64 0], .agg #[.int .i64 0, .bool false, .int .i64 0, .int .i64 0, .int .i64 0, .int .i64 0, .int .i64 0, .int .i64 0, .int .i64 0, .int .i64 0], .agg #[.int .i64 0, .bool false, .int .i64 0, .int .i64 0, .int .i64 0, .int .i64 0, .int .i64 0, .int .i64 0, .int .i64 0, .int .i64 0], .bool false]) ∧ Below w.heap.size w w' := by
 have hmx := Nat.le_trans hS.le hS.max
 unfold maxLen at hmx
 have ia : (na : Int) < (types.length : Int) := by omega
 have ja : (0 : Int) ≤ (na : Int) := by omega
 have ib : (types.length : Int) ≤ (nb : Int) := by omega
 clear hS
 have e9 : (op == 9) = false := by simp [o9]
 have e10 : (op == 10) = false := by simp [o10]
 have e13 : (op == 13) = false := by simp [o13]
 have e14 : (op == 14) = false := by simp [o14]
 have ml : (types.length : Int) ≤ 9223372036854775807 := by omega
 go_enter Try.func107, Try.ntmps107
 go_wp2_with (first | (go_at_call 120; refine (split_any k hk _).mono ?_; rintro e w' ⟨rfl, rfl⟩; rw [hna, hnb, hnt]))
 refine cap_world2 (P := fun W => Code.wp _ _ _ _ W) _ ?_
 intro W9 hW9
 have f00 : W9.cell? ⟨w.heap.size + 1 + 1, 0, none⟩ = some (.int .i64 0) := by rw [hW9]; first | go_keep | (simp [go_sem, *]; done)
 have f01 : W9.cell? ⟨w.heap.size + 1 + 1, 1, none⟩ = some (.bool false) := by rw [hW9]; first | go_keep | (simp [go_sem, *]; done)
 have f02 : W9.cell? ⟨w.heap.size + 1 + 1, 2, none⟩ = some (.int .i64 0) := by rw [hW9]; first | go_keep | (simp [go_sem, *]; done)
 have f03 : W9.cell? ⟨w.heap.size + 1 + 1, 3, none⟩ = some (.int .i64 0) := by rw [hW9]; first | go_keep | (simp [go_sem, *]; done)
 have f04 : W9.cell? ⟨w.heap.size + 1 + 1, 4, none⟩ = some (.int .i64 0) := by rw [hW9]; first | go_keep | (simp [go_sem, *]; done)
 have f05 : W9.cell? ⟨w.heap.size + 1 + 1, 5, none⟩ = some (.int .i64 0) := by rw [hW9]; first | go_keep | (simp [go_sem, *]; done)
 have f06 : W9.cell? ⟨w.heap.size + 1 + 1, 6, none⟩ = some (.int .i64 0) := by rw [hW9]; first | go_keep | (simp [go_sem, *]; done)
 have f07 : W9.cell? ⟨w.heap.size + 1 + 1, 7, none⟩ = some (.int .i64 0) := by rw [hW9]; first | go_keep | (simp [go_sem, *]; done)
 have f08 : W9.cell? ⟨w.heap.size + 1 + 1, 8, none⟩ = some (.int .i64 0) := by rw [hW9]; first | go_keep | (simp [go_sem, *]; done)
 have f09 : W9.cell? ⟨w.heap.size + 1 + 1, 9, none⟩ = some (.int .i64 0) := by rw [hW9]; first | go_keep | (simp [go_sem, *]; done)
 have fz0 : ∀ j, W9.frozen? ⟨w.heap.size + 1 + 1, j, none⟩ = false := fun j => by rw [hW9]; simp [go_sem]
 have f10 : W9.cell? ⟨w.heap.size + 1 + 1 + 1, 0, none⟩ = some (.int .i64 0) := by rw [hW9]; first | go_keep | (simp [go_sem, *]; done)
 have f11 : W9.cell? ⟨w.heap.size + 1 + 1 + 1, 1, none⟩ = some (.bool false) := by rw [hW9]; first | go_keep | (simp [go_sem, *]; done)
 have f12 : W9.cell? ⟨w.heap.size + 1 + 1 + 1, 2, none⟩ = some (.int .i64 0) := by rw [hW9]; first | go_keep | (simp [go_sem, *]; done)
 have f13 : W9.cell? ⟨w.heap.size + 1 + 1 + 1, 3, none⟩ = some (.int .i64 0) := by rw [hW9]; first | go_keep | (simp [go_sem, *]; done)
 have f14 : W9.cell? ⟨w.heap.size + 1 + 1 + 1, 4, none⟩ = some (.int .i64 0) := by rw [hW9]; first | go_keep | (simp [go_sem, *]; done)
 have f15 : W9.cell? ⟨w.heap.size + 1 + 1 + 1, 5, none⟩ = some (.int .i64 0) := by rw [hW9]; first | go_keep | (simp [go_sem, *]; done)
 have f16 : W9.cell? ⟨w.heap.size + 1 + 1 + 1, 6, none⟩ = some (.int .i64 0) := by rw [hW9]; first | go_keep | (simp [go_sem, *]; done)
 have f17 : W9.cell? ⟨w.heap.size + 1 + 1 + 1, 7, none⟩ = some (.int .i64 0) := by rw [hW9]; first | go_keep | (simp [go_sem, *]; done)
 have f18 : W9.cell? ⟨w.heap.size + 1 + 1 + 1, 8, none⟩ = some (.int .i64 0) := by rw [hW9]; first | go_keep | (simp [go_sem, *]; done)
 have f19 : W9.cell? ⟨w.heap.size + 1 + 1 + 1, 9, none⟩ = some (.int .i64 0) := by rw [hW9]; first | go_keep | (simp [go_sem, *]; done)
 have fz1 : ∀ j, W9.frozen? ⟨w.heap.size + 1 + 1 + 1, j, none⟩ = false := fun j => by rw [hW9]; simp [go_sem]
 have f20 : W9.cell? ⟨w.heap.size + 1 + 1 + 1 + 1, 0, none⟩ = some (.int .i64 0) := by rw [hW9]; first | go_keep | (simp [go_sem, *]; done)
 have f21 : W9.cell? ⟨w.heap.size + 1 + 1 + 1 + 1, 1, none⟩ = some (.bool false) := by rw [hW9]; first | go_keep | (simp [go_sem, *]; done)
 have f22 : W9.cell? ⟨w.heap.size + 1 + 1 + 1 + 1, 2, none⟩ = some (.int .i64 0) := by rw [hW9]; first | go_keep | (simp [go_sem, *]; done)
 have f23 : W9.cell? ⟨w.heap.size + 1 + 1 + 1 + 1, 3, none⟩ = some (.int .i64 0) := by rw [hW9]; first | go_keep | (simp [go_sem, *]; done)
 have f24 : W9.cell? ⟨w.heap.size + 1 + 1 + 1 + 1, 4, none⟩ = some (.int .i64 0) := by rw [hW9]; first | go_keep | (simp [go_sem, *]; done)
 have f25 : W9.cell? ⟨w.heap.size + 1 + 1 + 1 + 1, 5, none⟩ = some (.int .i64 0) := by rw [hW9]; first | go_keep | (simp [go_sem, *]; done)
 have f26 : W9.cell? ⟨w.heap.size + 1 + 1 + 1 + 1, 6, none⟩ = some (.int .i64 0) := by rw [hW9]; first | go_keep | (simp [go_sem, *]; done)
 have f27 : W9.cell? ⟨w.heap.size + 1 + 1 + 1 + 1, 7, none⟩ = some (.int .i64 0) := by rw [hW9]; first | go_keep | (simp [go_sem, *]; done)
 have f28 : W9.cell? ⟨w.heap.size + 1 + 1 + 1 + 1, 8, none⟩ = some (.int .i64 0) := by rw [hW9]; first | go_keep | (simp [go_sem, *]; done)
 have f29 : W9.cell? ⟨w.heap.size + 1 + 1 + 1 + 1, 9, none⟩ = some (.int .i64 0) := by rw [hW9]; first | go_keep | (simp [go_sem, *]; done)
 have fz2 : ∀ j, W9.frozen? ⟨w.heap.size + 1 + 1 + 1 + 1, j, none⟩ = false := fun j => by rw [hW9]; simp [go_sem]
 have s9 : w.heap.size + 1 + 1 + 1 + 1 < W9.heap.size := by rw [hW9]; simp only [zA, zS]; omega
 have hB9 : Below w.heap.size w W9 := by rw [hW9]; (exact bw)
 clear hW9
 have sz0 : w.heap.size + 1 + 1 < W9.heap.size := by omega
 have g00 : W9.drew.cell? ⟨w.heap.size + 1 + 1, 0, none⟩ = some (.int .i64 0) := f00
 have k00 := setCell_self g00
 have g01 : W9.drew.cell? ⟨w.heap.size + 1 + 1, 1, none⟩ = some (.bool false) := f01
 have k01 := setCell_self g01
 have g02 : W9.drew.cell? ⟨w.heap.size + 1 + 1, 2, none⟩ = some (.int .i64 0) := f02
 have k02 := setCell_self g02
 have g03 : W9.drew.cell? ⟨w.heap.size + 1 + 1, 3, none⟩ = some (.int .i64 0) := f03
 have k03 := setCell_self g03
 have g04 : W9.drew.cell? ⟨w.heap.size + 1 + 1, 4, none⟩ = some (.int .i64 0) := f04
 have k04 := setCell_self g04
 have g05 : W9.drew.cell? ⟨w.heap.size + 1 + 1, 5, none⟩ = some (.int .i64 0) := f05
 have k05 := setCell_self g05
 have g06 : W9.drew.cell? ⟨w.heap.size + 1 + 1, 6, none⟩ = some (.int .i64 0) := f06
 have k06 := setCell_self g06
 have g07 : W9.drew.cell? ⟨w.heap.size + 1 + 1, 7, none⟩ = some (.int .i64 0) := f07
 have k07 := setCell_self g07
 have g08 : W9.drew.cell? ⟨w.heap.size + 1 + 1, 8, none⟩ = some (.int .i64 0) := f08
 have k08 := setCell_self g08
 have g09 : W9.drew.cell? ⟨w.heap.size + 1 + 1, 9, none⟩ = some (.int .i64 0) := f09
 have k09 := setCell_self g09
 have gz0 : ∀ j, W9.drew.frozen? ⟨w.heap.size + 1 + 1, j, none⟩ = false := fz0
 have sz1 : w.heap.size + 1 + 1 + 1 < W9.heap.size := by omega
 have g10 : W9.drew.cell? ⟨w.heap.size + 1 + 1 + 1, 0, none⟩ = some (.int .i64 0) := f10
 have k10 := setCell_self g10
 have g11 : W9.drew.cell? ⟨w.heap.size + 1 + 1 + 1, 1, none⟩ = some (.bool false) := f11
 have k11 := setCell_self g11
 have g12 : W9.drew.cell? ⟨w.heap.size + 1 + 1 + 1, 2, none⟩ = some (.int .i64 0) := f12
 have k12 := setCell_self g12
 have g13 : W9.drew.cell? ⟨w.heap.size + 1 + 1 + 1, 3, none⟩ = some (.int .i64 0) := f13
 have k13 := setCell_self g13
 have g14 : W9.drew.cell? ⟨w.heap.size + 1 + 1 + 1, 4, none⟩ = some (.int .i64 0) := f14
 have k14 := setCell_self g14
 have g15 : W9.drew.cell? ⟨w.heap.size + 1 + 1 + 1, 5, none⟩ = some (.int .i64 0) := f15
 have k15 := setCell_self g15
 have g16 : W9.drew.cell? ⟨w.heap.size + 1 + 1 + 1, 6, none⟩ = some (.int .i64 0) := f16
 have k16 := setCell_self g16
 have g17 : W9.drew.cell? ⟨w.heap.size + 1 + 1 + 1, 7, none⟩ = some (.int .i64 0) := f17
 have k17 := setCell_self g17
 have g18 : W9.drew.cell? ⟨w.heap.size + 1 + 1 + 1, 8, none⟩ = some (.int .i64 0) := f18
 have k18 := setCell_self g18
 have g19 : W9.drew.cell? ⟨w.heap.size + 1 + 1 + 1, 9, none⟩ = some (.int .i64 0) := f19
 have k19 := setCell_self g19
 have gz1 : ∀ j, W9.drew.frozen? ⟨w.heap.size + 1 + 1 + 1, j, none⟩ = false := fz1
 have sz2 : w.heap.size + 1 + 1 + 1 + 1 < W9.heap.size := by omega
 have g20 : W9.drew.cell? ⟨w.heap.size + 1 + 1 + 1 + 1, 0, none⟩ = some (.int .i64 0) := f20
 have k20 := setCell_self g20
 have g21 : W9.drew.cell? ⟨w.heap.size + 1 + 1 + 1 + 1, 1, none⟩ = some (.bool false) := f21
 have k21 := setCell_self g21
 have g22 : W9.drew.cell? ⟨w.heap.size + 1 + 1 + 1 + 1, 2, none⟩ = some (.int .i64 0) := f22
 have k22 := setCell_self g22
 have g23 : W9.drew.cell? ⟨w.heap.size + 1 + 1 + 1 + 1, 3, none⟩ = some (.int .i64 0) := f23
 have k23 := setCell_self g23
 have g24 : W9.drew.cell? ⟨w.heap.size + 1 + 1 + 1 + 1, 4, none⟩ = some (.int .i64 0) := f24
 have k24 := setCell_self g24
 have g25 : W9.drew.cell? ⟨w.heap.size + 1 + 1 + 1 + 1, 5, none⟩ = some (.int .i64 0) := f25
 have k25 := setCell_self g25
 have g26 : W9.drew.cell? ⟨w.heap.size + 1 + 1 + 1 + 1, 6, none⟩ = some (.int .i64 0) := f26
 have k26 := setCell_self g26
 have g27 : W9.drew.cell? ⟨w.heap.size + 1 + 1 + 1 + 1, 7, none⟩ = some (.int .i64 0) := f27
 have k27 := setCell_self g27
 have g28 : W9.drew.cell? ⟨w.heap.size + 1 + 1 + 1 + 1, 8, none⟩ = some (.int .i64 0) := f28
 have k28 := setCell_self g28
 have g29 : W9.drew.cell? ⟨w.heap.size + 1 + 1 + 1 + 1, 9, none⟩ = some (.int .i64 0) := f29
 have k29 := setCell_self g29
 have gz2 : ∀ j, W9.drew.frozen? ⟨w.heap.size + 1 + 1 + 1 + 1, j, none⟩ = false := fz2
 clear f00 f01 f02 f03 f04 f05 f06 f07 f08 f09 f10 f11 f12 f13 f14 f15 f16 f17 f18 f19 f20 f21 f22 f23 f24 f25 f26 f27 f28 f29
 go_region_held3 (fun w' => w' = W9.drew) (first | rfl | assumption | (simp [*]; done)) (fail)
 all_goals go_wp2
 all_goals refine bodyPost_ret (by simp [results, Try.results107, go_sem, *]; try rfl) rfl ?_
 all_goals exact ⟨rfl, hB9.drew⟩
set_option maxRecDepth 100000 in
theorem ty_n_t (op a b c k : Int) (na nb nt : Nat) (hk : I64 k) (hna : k / 16384 = (na : Int)) (hnb : k / 128 % 128 = (nb : Int)) (hnt : k % 128 = (nt : Int)) (o9 : ¬ op = 9) (o10 : ¬ op = 10) (o13 : ¬ op = 13) (o14 : ¬ op = 14) (ha : na < types.length) (hb : nb < types.length) (zt : types.length ≤ nt) (w : World) (hS : IsS 10 Fx.enc w rt ct types) : Calls Try.prog 107 #[.agg #[.slice rc lc cc, .slice rt types.length ct, .slice rv lv cv, .slice rm lm cm, .int .i64 cells, .slice ri li ci, .slice rs ls cs, .slice ro lo co, .slice rn ln cn], .agg #[.int .i64 op, .int .i64 a, .int .i64 b, .int .i64 c, .int .i64 k]] w fun e w' => e = .returned (.tuple #[.agg #[.int .i64 0, .bool false, .int .i64 0, .int .i64 0, .int .i64 0, .int .i64 0, .int .i64 0, .int .i64 0, .int .i64 0, .int .i64 0], .agg #[.int .i64 0, .bool false, .int .i64 0, .int .i64 0, .int .i64 0, .int .i64 0, .int .i64 0, .int .i64 0, .int .i64 0, .int .i64 0], .agg #[.int .i64 0, .bool false, .int .i64 0, .int .i64 0, .int .i64 0, .int .i64 0, .int .i64 0, .int .i64 0, .int .i64 0, .int .i64 0], .bool false]) ∧ Below w.heap.size w w' := by
 have hmx := Nat.le_trans hS.le hS.max
 unfold maxLen at hmx
 have ia : (na : Int) < (types.length : Int) := by omega
 have ja : (0 : Int) ≤ (na : Int) := by omega
 have ib : (nb : Int) < (types.length : Int) := by omega
 have jb : (0 : Int) ≤ (nb : Int) := by omega
 have it : (types.length : Int) ≤ (nt : Int) := by omega
 clear hS
 have e9 : (op == 9) = false := by simp [o9]
 have e10 : (op == 10) = false := by simp [o10]
 have e13 : (op == 13) = false := by simp [o13]
 have e14 : (op == 14) = false := by simp [o14]
 have ml : (types.length : Int) ≤ 9223372036854775807 := by omega
 go_enter Try.func107, Try.ntmps107
 go_wp2_with (first | (go_at_call 120; refine (split_any k hk _).mono ?_; rintro e w' ⟨rfl, rfl⟩; rw [hna, hnb, hnt]))
 refine cap_world2 (P := fun W => Code.wp _ _ _ _ W) _ ?_
 intro W9 hW9
 have f00 : W9.cell? ⟨w.heap.size + 1 + 1, 0, none⟩ = some (.int .i64 0) := by rw [hW9]; first | go_keep | (simp [go_sem, *]; done)
 have f01 : W9.cell? ⟨w.heap.size + 1 + 1, 1, none⟩ = some (.bool false) := by rw [hW9]; first | go_keep | (simp [go_sem, *]; done)
 have f02 : W9.cell? ⟨w.heap.size + 1 + 1, 2, none⟩ = some (.int .i64 0) := by rw [hW9]; first | go_keep | (simp [go_sem, *]; done)
 have f03 : W9.cell? ⟨w.heap.size + 1 + 1, 3, none⟩ = some (.int .i64 0) := by rw [hW9]; first | go_keep | (simp [go_sem, *]; done)
 have f04 : W9.cell? ⟨w.heap.size + 1 + 1, 4, none⟩ = some (.int .i64 0) := by rw [hW9]; first | go_keep | (simp [go_sem, *]; done)
 have f05 : W9.cell? ⟨w.heap.size + 1 + 1, 5, none⟩ = some (.int .i64 0) := by rw [hW9]; first | go_keep | (simp [go_sem, *]; done)
 have f06 : W9.cell? ⟨w.heap.size + 1 + 1, 6, none⟩ = some (.int .i64 0) := by rw [hW9]; first | go_keep | (simp [go_sem, *]; done)
 have f07 : W9.cell? ⟨w.heap.size + 1 + 1, 7, none⟩ = some (.int .i64 0) := by rw [hW9]; first | go_keep | (simp [go_sem, *]; done)
 have f08 : W9.cell? ⟨w.heap.size + 1 + 1, 8, none⟩ = some (.int .i64 0) := by rw [hW9]; first | go_keep | (simp [go_sem, *]; done)
 have f09 : W9.cell? ⟨w.heap.size + 1 + 1, 9, none⟩ = some (.int .i64 0) := by rw [hW9]; first | go_keep | (simp [go_sem, *]; done)
 have fz0 : ∀ j, W9.frozen? ⟨w.heap.size + 1 + 1, j, none⟩ = false := fun j => by rw [hW9]; simp [go_sem]
 have f10 : W9.cell? ⟨w.heap.size + 1 + 1 + 1, 0, none⟩ = some (.int .i64 0) := by rw [hW9]; first | go_keep | (simp [go_sem, *]; done)
 have f11 : W9.cell? ⟨w.heap.size + 1 + 1 + 1, 1, none⟩ = some (.bool false) := by rw [hW9]; first | go_keep | (simp [go_sem, *]; done)
 have f12 : W9.cell? ⟨w.heap.size + 1 + 1 + 1, 2, none⟩ = some (.int .i64 0) := by rw [hW9]; first | go_keep | (simp [go_sem, *]; done)
 have f13 : W9.cell? ⟨w.heap.size + 1 + 1 + 1, 3, none⟩ = some (.int .i64 0) := by rw [hW9]; first | go_keep | (simp [go_sem, *]; done)
 have f14 : W9.cell? ⟨w.heap.size + 1 + 1 + 1, 4, none⟩ = some (.int .i64 0) := by rw [hW9]; first | go_keep | (simp [go_sem, *]; done)
 have f15 : W9.cell? ⟨w.heap.size + 1 + 1 + 1, 5, none⟩ = some (.int .i64 0) := by rw [hW9]; first | go_keep | (simp [go_sem, *]; done)
 have f16 : W9.cell? ⟨w.heap.size + 1 + 1 + 1, 6, none⟩ = some (.int .i64 0) := by rw [hW9]; first | go_keep | (simp [go_sem, *]; done)
 have f17 : W9.cell? ⟨w.heap.size + 1 + 1 + 1, 7, none⟩ = some (.int .i64 0) := by rw [hW9]; first | go_keep | (simp [go_sem, *]; done)
 have f18 : W9.cell? ⟨w.heap.size + 1 + 1 + 1, 8, none⟩ = some (.int .i64 0) := by rw [hW9]; first | go_keep | (simp [go_sem, *]; done)
 have f19 : W9.cell? ⟨w.heap.size + 1 + 1 + 1, 9, none⟩ = some (.int .i64 0) := by rw [hW9]; first | go_keep | (simp [go_sem, *]; done)
 have fz1 : ∀ j, W9.frozen? ⟨w.heap.size + 1 + 1 + 1, j, none⟩ = false := fun j => by rw [hW9]; simp [go_sem]
 have f20 : W9.cell? ⟨w.heap.size + 1 + 1 + 1 + 1, 0, none⟩ = some (.int .i64 0) := by rw [hW9]; first | go_keep | (simp [go_sem, *]; done)
 have f21 : W9.cell? ⟨w.heap.size + 1 + 1 + 1 + 1, 1, none⟩ = some (.bool false) := by rw [hW9]; first | go_keep | (simp [go_sem, *]; done)
 have f22 : W9.cell? ⟨w.heap.size + 1 + 1 + 1 + 1, 2, none⟩ = some (.int .i64 0) := by rw [hW9]; first | go_keep | (simp [go_sem, *]; done)
 have f23 : W9.cell? ⟨w.heap.size + 1 + 1 + 1 + 1, 3, none⟩ = some (.int .i64 0) := by rw [hW9]; first | go_keep | (simp [go_sem, *]; done)
 have f24 : W9.cell? ⟨w.heap.size + 1 + 1 + 1 + 1, 4, none⟩ = some (.int .i64 0) := by rw [hW9]; first | go_keep | (simp [go_sem, *]; done)
 have f25 : W9.cell? ⟨w.heap.size + 1 + 1 + 1 + 1, 5, none⟩ = some (.int .i64 0) := by rw [hW9]; first | go_keep | (simp [go_sem, *]; done)
 have f26 : W9.cell? ⟨w.heap.size + 1 + 1 + 1 + 1, 6, none⟩ = some (.int .i64 0) := by rw [hW9]; first | go_keep | (simp [go_sem, *]; done)
 have f27 : W9.cell? ⟨w.heap.size + 1 + 1 + 1 + 1, 7, none⟩ = some (.int .i64 0) := by rw [hW9]; first | go_keep | (simp [go_sem, *]; done)
 have f28 : W9.cell? ⟨w.heap.size + 1 + 1 + 1 + 1, 8, none⟩ = some (.int .i64 0) := by rw [hW9]; first | go_keep | (simp [go_sem, *]; done)
 have f29 : W9.cell? ⟨w.heap.size + 1 + 1 + 1 + 1, 9, none⟩ = some (.int .i64 0) := by rw [hW9]; first | go_keep | (simp [go_sem, *]; done)
 have fz2 : ∀ j, W9.frozen? ⟨w.heap.size + 1 + 1 + 1 + 1, j, none⟩ = false := fun j => by rw [hW9]; simp [go_sem]
 have s9 : w.heap.size + 1 + 1 + 1 + 1 < W9.heap.size := by rw [hW9]; simp only [zA, zS]; omega
 have hB9 : Below w.heap.size w W9 := by rw [hW9]; (exact bw)
 clear hW9
 have sz0 : w.heap.size + 1 + 1 < W9.heap.size := by omega
 have g00 : W9.drew.cell? ⟨w.heap.size + 1 + 1, 0, none⟩ = some (.int .i64 0) := f00
 have k00 := setCell_self g00
 have g01 : W9.drew.cell? ⟨w.heap.size + 1 + 1, 1, none⟩ = some (.bool false) := f01
 have k01 := setCell_self g01
 have g02 : W9.drew.cell? ⟨w.heap.size + 1 + 1, 2, none⟩ = some (.int .i64 0) := f02
 have k02 := setCell_self g02
 have g03 : W9.drew.cell? ⟨w.heap.size + 1 + 1, 3, none⟩ = some (.int .i64 0) := f03
 have k03 := setCell_self g03
 have g04 : W9.drew.cell? ⟨w.heap.size + 1 + 1, 4, none⟩ = some (.int .i64 0) := f04
 have k04 := setCell_self g04
 have g05 : W9.drew.cell? ⟨w.heap.size + 1 + 1, 5, none⟩ = some (.int .i64 0) := f05
 have k05 := setCell_self g05
 have g06 : W9.drew.cell? ⟨w.heap.size + 1 + 1, 6, none⟩ = some (.int .i64 0) := f06
 have k06 := setCell_self g06
 have g07 : W9.drew.cell? ⟨w.heap.size + 1 + 1, 7, none⟩ = some (.int .i64 0) := f07
 have k07 := setCell_self g07
 have g08 : W9.drew.cell? ⟨w.heap.size + 1 + 1, 8, none⟩ = some (.int .i64 0) := f08
 have k08 := setCell_self g08
 have g09 : W9.drew.cell? ⟨w.heap.size + 1 + 1, 9, none⟩ = some (.int .i64 0) := f09
 have k09 := setCell_self g09
 have gz0 : ∀ j, W9.drew.frozen? ⟨w.heap.size + 1 + 1, j, none⟩ = false := fz0
 have sz1 : w.heap.size + 1 + 1 + 1 < W9.heap.size := by omega
 have g10 : W9.drew.cell? ⟨w.heap.size + 1 + 1 + 1, 0, none⟩ = some (.int .i64 0) := f10
 have k10 := setCell_self g10
 have g11 : W9.drew.cell? ⟨w.heap.size + 1 + 1 + 1, 1, none⟩ = some (.bool false) := f11
 have k11 := setCell_self g11
 have g12 : W9.drew.cell? ⟨w.heap.size + 1 + 1 + 1, 2, none⟩ = some (.int .i64 0) := f12
 have k12 := setCell_self g12
 have g13 : W9.drew.cell? ⟨w.heap.size + 1 + 1 + 1, 3, none⟩ = some (.int .i64 0) := f13
 have k13 := setCell_self g13
 have g14 : W9.drew.cell? ⟨w.heap.size + 1 + 1 + 1, 4, none⟩ = some (.int .i64 0) := f14
 have k14 := setCell_self g14
 have g15 : W9.drew.cell? ⟨w.heap.size + 1 + 1 + 1, 5, none⟩ = some (.int .i64 0) := f15
 have k15 := setCell_self g15
 have g16 : W9.drew.cell? ⟨w.heap.size + 1 + 1 + 1, 6, none⟩ = some (.int .i64 0) := f16
 have k16 := setCell_self g16
 have g17 : W9.drew.cell? ⟨w.heap.size + 1 + 1 + 1, 7, none⟩ = some (.int .i64 0) := f17
 have k17 := setCell_self g17
 have g18 : W9.drew.cell? ⟨w.heap.size + 1 + 1 + 1, 8, none⟩ = some (.int .i64 0) := f18
 have k18 := setCell_self g18
 have g19 : W9.drew.cell? ⟨w.heap.size + 1 + 1 + 1, 9, none⟩ = some (.int .i64 0) := f19
 have k19 := setCell_self g19
 have gz1 : ∀ j, W9.drew.frozen? ⟨w.heap.size + 1 + 1 + 1, j, none⟩ = false := fz1
 have sz2 : w.heap.size + 1 + 1 + 1 + 1 < W9.heap.size := by omega
 have g20 : W9.drew.cell? ⟨w.heap.size + 1 + 1 + 1 + 1, 0, none⟩ = some (.int .i64 0) := f20
 have k20 := setCell_self g20
 have g21 : W9.drew.cell? ⟨w.heap.size + 1 + 1 + 1 + 1, 1, none⟩ = some (.bool false) := f21
 have k21 := setCell_self g21
 have g22 : W9.drew.cell? ⟨w.heap.size + 1 + 1 + 1 + 1, 2, none⟩ = some (.int .i64 0) := f22
 have k22 := setCell_self g22
 have g23 : W9.drew.cell? ⟨w.heap.size + 1 + 1 + 1 + 1, 3, none⟩ = some (.int .i64 0) := f23
 have k23 := setCell_self g23
 have g24 : W9.drew.cell? ⟨w.heap.size + 1 + 1 + 1 + 1, 4, none⟩ = some (.int .i64 0) := f24
 have k24 := setCell_self g24
 have g25 : W9.drew.cell? ⟨w.heap.size + 1 + 1 + 1 + 1, 5, none⟩ = some (.int .i64 0) := f25
 have k25 := setCell_self g25
 have g26 : W9.drew.cell? ⟨w.heap.size + 1 + 1 + 1 + 1, 6, none⟩ = some (.int .i64 0) := f26
 have k26 := setCell_self g26
 have g27 : W9.drew.cell? ⟨w.heap.size + 1 + 1 + 1 + 1, 7, none⟩ = some (.int .i64 0) := f27
 have k27 := setCell_self g27
 have g28 : W9.drew.cell? ⟨w.heap.size + 1 + 1 + 1 + 1, 8, none⟩ = some (.int .i64 0) := f28
 have k28 := setCell_self g28
 have g29 : W9.drew.cell? ⟨w.heap.size + 1 + 1 + 1 + 1, 9, none⟩ = some (.int .i64 0) := f29
 have k29 := setCell_self g29
 have gz2 : ∀ j, W9.drew.frozen? ⟨w.heap.size + 1 + 1 + 1 + 1, j, none⟩ = false := fz2
 clear f00 f01 f02 f03 f04 f05 f06 f07 f08 f09 f10 f11 f12 f13 f14 f15 f16 f17 f18 f19 f20 f21 f22 f23 f24 f25 f26 f27 f28 f29
 go_region_held3 (fun w' => w' = W9.drew) (first | rfl | assumption | (simp [*]; done)) (fail)
 all_goals go_wp2
 all_goals refine bodyPost_ret (by simp [results, Try.results107, go_sem, *]; try rfl) rfl ?_
 all_goals exact ⟨rfl, hB9.drew⟩
set_option maxRecDepth 100000 in
theorem ty_n_ok (op a b c k : Int) (na nb nt : Nat) (hk : I64 k) (hna : k / 16384 = (na : Int)) (hnb : k / 128 % 128 = (nb : Int)) (hnt : k % 128 = (nt : Int)) (o9 : ¬ op = 9) (o10 : ¬ op = 10) (o13 : ¬ op = 13) (o14 : ¬ op = 14) (ha : na < types.length) (hb : nb < types.length) (ht : nt < types.length) (w : World) (hS : IsS 10 Fx.enc w rt ct types) : Calls Try.prog 107 #[.agg #[.slice rc lc cc, .slice rt types.length ct, .slice rv lv cv, .slice rm lm cm, .int .i64 cells, .slice ri li ci, .slice rs ls cs, .slice ro lo co, .slice rn ln cn], .agg #[.int .i64 op, .int .i64 a, .int .i64 b, .int .i64 c, .int .i64 k]] w fun e w' => e = .returned (.tuple #[.agg #[.int .i64 (types.getD na default).bits, .bool (types.getD na default).sg, .int .i64 (types.getD na default).num, .int .i64 (types.getD na default).off, .int .i64 (types.getD na default).den, .int .i64 (types.getD na default).m, .int .i64 (types.getD na default).kg, .int .i64 (types.getD na default).s, .int .i64 (types.getD na default).a, .int .i64 (types.getD na default).k], .agg #[.int .i64 (types.getD nb default).bits, .bool (types.getD nb default).sg, .int .i64 (types.getD nb default).num, .int .i64 (types.getD nb default).off, .int .i64 (types.getD nb default).den, .int .i64 (types.getD nb default).m, .int .i64 (types.getD nb default).kg, .int .i64 (types.getD nb default).s, .int .i64 (types.getD nb default).a, .int .i64 (types.getD nb default).k], .agg #[.int .i64 (types.getD nt default).bits, .bool (types.getD nt default).sg, .int .i64 (types.getD nt default).num, .int .i64 (types.getD nt default).off, .int .i64 (types.getD nt default).den, .int .i64 (types.getD nt default).m, .int .i64 (types.getD nt default).kg, .int .i64 (types.getD nt default).s, .int .i64 (types.getD nt default).a, .int .i64 (types.getD nt default).k], .bool true]) ∧ Below w.heap.size w w' := by
 have hmx := Nat.le_trans hS.le hS.max
 unfold maxLen at hmx
 obtain ⟨bXa, offa, hra, hba, hca⟩ := hS.at_ ha
 subst hra
 have ha0 : w.cell? ⟨bXa, offa + na * 10, none⟩ = some (.int .i64 (types.getD na default).bits) := hca 0 _ rfl
 have ha1 : w.cell? ⟨bXa, offa + na * 10 + 1, none⟩ = some (.bool (types.getD na default).sg) := hca 1 _ rfl
 have ha2 : w.cell? ⟨bXa, offa + na * 10 + 2, none⟩ = some (.int .i64 (types.getD na default).num) := hca 2 _ rfl
 have ha3 : w.cell? ⟨bXa, offa + na * 10 + 3, none⟩ = some (.int .i64 (types.getD na default).off) := hca 3 _ rfl
 have ha4 : w.cell? ⟨bXa, offa + na * 10 + 4, none⟩ = some (.int .i64 (types.getD na default).den) := hca 4 _ rfl
 have ha5 : w.cell? ⟨bXa, offa + na * 10 + 5, none⟩ = some (.int .i64 (types.getD na default).m) := hca 5 _ rfl
 have ha6 : w.cell? ⟨bXa, offa + na * 10 + 6, none⟩ = some (.int .i64 (types.getD na default).kg) := hca 6 _ rfl
 have ha7 : w.cell? ⟨bXa, offa + na * 10 + 7, none⟩ = some (.int .i64 (types.getD na default).s) := hca 7 _ rfl
 have ha8 : w.cell? ⟨bXa, offa + na * 10 + 8, none⟩ = some (.int .i64 (types.getD na default).a) := hca 8 _ rfl
 have ha9 : w.cell? ⟨bXa, offa + na * 10 + 9, none⟩ = some (.int .i64 (types.getD na default).k) := hca 9 _ rfl
 clear hca
 obtain ⟨bXb, offb, hrb, hbb, hcb⟩ := hS.at_ hb
 simp only [Option.some.injEq, Addr.mk.injEq, and_true] at hrb
 obtain ⟨rfl, rfl⟩ := hrb
 have hb0 : w.cell? ⟨bXa, offa + nb * 10, none⟩ = some (.int .i64 (types.getD nb default).bits) := hcb 0 _ rfl
 have hb1 : w.cell? ⟨bXa, offa + nb * 10 + 1, none⟩ = some (.bool (types.getD nb default).sg) := hcb 1 _ rfl
 have hb2 : w.cell? ⟨bXa, offa + nb * 10 + 2, none⟩ = some (.int .i64 (types.getD nb default).num) := hcb 2 _ rfl
 have hb3 : w.cell? ⟨bXa, offa + nb * 10 + 3, none⟩ = some (.int .i64 (types.getD nb default).off) := hcb 3 _ rfl
 have hb4 : w.cell? ⟨bXa, offa + nb * 10 + 4, none⟩ = some (.int .i64 (types.getD nb default).den) := hcb 4 _ rfl
 have hb5 : w.cell? ⟨bXa, offa + nb * 10 + 5, none⟩ = some (.int .i64 (types.getD nb default).m) := hcb 5 _ rfl
 have hb6 : w.cell? ⟨bXa, offa + nb * 10 + 6, none⟩ = some (.int .i64 (types.getD nb default).kg) := hcb 6 _ rfl
 have hb7 : w.cell? ⟨bXa, offa + nb * 10 + 7, none⟩ = some (.int .i64 (types.getD nb default).s) := hcb 7 _ rfl
 have hb8 : w.cell? ⟨bXa, offa + nb * 10 + 8, none⟩ = some (.int .i64 (types.getD nb default).a) := hcb 8 _ rfl
 have hb9 : w.cell? ⟨bXa, offa + nb * 10 + 9, none⟩ = some (.int .i64 (types.getD nb default).k) := hcb 9 _ rfl
 clear hcb
 obtain ⟨bXt, offt, hrt, hbt, hct⟩ := hS.at_ ht
 simp only [Option.some.injEq, Addr.mk.injEq, and_true] at hrt
 obtain ⟨rfl, rfl⟩ := hrt
 have ht0 : w.cell? ⟨bXa, offa + nt * 10, none⟩ = some (.int .i64 (types.getD nt default).bits) := hct 0 _ rfl
 have ht1 : w.cell? ⟨bXa, offa + nt * 10 + 1, none⟩ = some (.bool (types.getD nt default).sg) := hct 1 _ rfl
 have ht2 : w.cell? ⟨bXa, offa + nt * 10 + 2, none⟩ = some (.int .i64 (types.getD nt default).num) := hct 2 _ rfl
 have ht3 : w.cell? ⟨bXa, offa + nt * 10 + 3, none⟩ = some (.int .i64 (types.getD nt default).off) := hct 3 _ rfl
 have ht4 : w.cell? ⟨bXa, offa + nt * 10 + 4, none⟩ = some (.int .i64 (types.getD nt default).den) := hct 4 _ rfl
 have ht5 : w.cell? ⟨bXa, offa + nt * 10 + 5, none⟩ = some (.int .i64 (types.getD nt default).m) := hct 5 _ rfl
 have ht6 : w.cell? ⟨bXa, offa + nt * 10 + 6, none⟩ = some (.int .i64 (types.getD nt default).kg) := hct 6 _ rfl
 have ht7 : w.cell? ⟨bXa, offa + nt * 10 + 7, none⟩ = some (.int .i64 (types.getD nt default).s) := hct 7 _ rfl
 have ht8 : w.cell? ⟨bXa, offa + nt * 10 + 8, none⟩ = some (.int .i64 (types.getD nt default).a) := hct 8 _ rfl
 have ht9 : w.cell? ⟨bXa, offa + nt * 10 + 9, none⟩ = some (.int .i64 (types.getD nt default).k) := hct 9 _ rfl
 clear hct
 generalize (types.getD na default) = Ta at *
 obtain ⟨va0, va1, va2, va3, va4, va5, va6, va7, va8, va9⟩ := Ta
 generalize (types.getD nb default) = Tb at *
 obtain ⟨vb0, vb1, vb2, vb3, vb4, vb5, vb6, vb7, vb8, vb9⟩ := Tb
 generalize (types.getD nt default) = Tt at *
 obtain ⟨vt0, vt1, vt2, vt3, vt4, vt5, vt6, vt7, vt8, vt9⟩ := Tt
 simp only at ha0 ha1 ha2 ha3 ha4 ha5 ha6 ha7 ha8 ha9 hb0 hb1 hb2 hb3 hb4 hb5 hb6 hb7 hb8 hb9 ht0 ht1 ht2 ht3 ht4 ht5 ht6 ht7 ht8 ht9 ⊢
 have ia : (na : Int) < (types.length : Int) := by omega
 have ja : (0 : Int) ≤ (na : Int) := by omega
 have ib : (nb : Int) < (types.length : Int) := by omega
 have jb : (0 : Int) ≤ (nb : Int) := by omega
 have it : (nt : Int) < (types.length : Int) := by omega
 have jt : (0 : Int) ≤ (nt : Int) := by omega
 clear hS
 have q1 : bXa < w.heap.size + 1 := by omega
 have q2 : bXa < w.heap.size + 1 + 1 := by omega
 have q3 : bXa < w.heap.size + 1 + 1 + 1 := by omega
 have q4 : bXa < w.heap.size + 1 + 1 + 1 + 1 := by omega
 have e9 : (op == 9) = false := by simp [o9]
 have e10 : (op == 10) = false := by simp [o10]
 have e13 : (op == 13) = false := by simp [o13]
 have e14 : (op == 14) = false := by simp [o14]
 have ml : (types.length : Int) ≤ 9223372036854775807 := by omega
 go_enter Try.func107, Try.ntmps107
 go_wp2_with (first | (go_at_call 120; refine (split_any k hk _).mono ?_; rintro e w' ⟨rfl, rfl⟩; rw [hna, hnb, hnt]))
 refine cap_world2 (P := fun W => Code.wp _ _ _ _ W) _ ?_
 intro W9 hW9
 have f00 : W9.cell? ⟨w.heap.size + 1 + 1, 0, none⟩ = some (.int .i64 va0) := by rw [hW9]; first | go_keep | (simp [go_sem, *]; done)
 have f01 : W9.cell? ⟨w.heap.size + 1 + 1, 1, none⟩ = some (.bool va1) := by rw [hW9]; first | go_keep | (simp [go_sem, *]; done)
 have f02 : W9.cell? ⟨w.heap.size + 1 + 1, 2, none⟩ = some (.int .i64 va2) := by rw [hW9]; first | go_keep | (simp [go_sem, *]; done)
 have f03 : W9.cell? ⟨w.heap.size + 1 + 1, 3, none⟩ = some (.int .i64 va3) := by rw [hW9]; first | go_keep | (simp [go_sem, *]; done)
 have f04 : W9.cell? ⟨w.heap.size + 1 + 1, 4, none⟩ = some (.int .i64 va4) := by rw [hW9]; first | go_keep | (simp [go_sem, *]; done)
 have f05 : W9.cell? ⟨w.heap.size + 1 + 1, 5, none⟩ = some (.int .i64 va5) := by rw [hW9]; first | go_keep | (simp [go_sem, *]; done)
 have f06 : W9.cell? ⟨w.heap.size + 1 + 1, 6, none⟩ = some (.int .i64 va6) := by rw [hW9]; first | go_keep | (simp [go_sem, *]; done)
 have f07 : W9.cell? ⟨w.heap.size + 1 + 1, 7, none⟩ = some (.int .i64 va7) := by rw [hW9]; first | go_keep | (simp [go_sem, *]; done)
 have f08 : W9.cell? ⟨w.heap.size + 1 + 1, 8, none⟩ = some (.int .i64 va8) := by rw [hW9]; first | go_keep | (simp [go_sem, *]; done)
 have f09 : W9.cell? ⟨w.heap.size + 1 + 1, 9, none⟩ = some (.int .i64 va9) := by rw [hW9]; first | go_keep | (simp [go_sem, *]; done)
 have fz0 : ∀ j, W9.frozen? ⟨w.heap.size + 1 + 1, j, none⟩ = false := fun j => by rw [hW9]; simp [go_sem]
 have f10 : W9.cell? ⟨w.heap.size + 1 + 1 + 1, 0, none⟩ = some (.int .i64 vb0) := by rw [hW9]; first | go_keep | (simp [go_sem, *]; done)
 have f11 : W9.cell? ⟨w.heap.size + 1 + 1 + 1, 1, none⟩ = some (.bool vb1) := by rw [hW9]; first | go_keep | (simp [go_sem, *]; done)
 have f12 : W9.cell? ⟨w.heap.size + 1 + 1 + 1, 2, none⟩ = some (.int .i64 vb2) := by rw [hW9]; first | go_keep | (simp [go_sem, *]; done)
 have f13 : W9.cell? ⟨w.heap.size + 1 + 1 + 1, 3, none⟩ = some (.int .i64 vb3) := by rw [hW9]; first | go_keep | (simp [go_sem, *]; done)
 have f14 : W9.cell? ⟨w.heap.size + 1 + 1 + 1, 4, none⟩ = some (.int .i64 vb4) := by rw [hW9]; first | go_keep | (simp [go_sem, *]; done)
 have f15 : W9.cell? ⟨w.heap.size + 1 + 1 + 1, 5, none⟩ = some (.int .i64 vb5) := by rw [hW9]; first | go_keep | (simp [go_sem, *]; done)
 have f16 : W9.cell? ⟨w.heap.size + 1 + 1 + 1, 6, none⟩ = some (.int .i64 vb6) := by rw [hW9]; first | go_keep | (simp [go_sem, *]; done)
 have f17 : W9.cell? ⟨w.heap.size + 1 + 1 + 1, 7, none⟩ = some (.int .i64 vb7) := by rw [hW9]; first | go_keep | (simp [go_sem, *]; done)
 have f18 : W9.cell? ⟨w.heap.size + 1 + 1 + 1, 8, none⟩ = some (.int .i64 vb8) := by rw [hW9]; first | go_keep | (simp [go_sem, *]; done)
 have f19 : W9.cell? ⟨w.heap.size + 1 + 1 + 1, 9, none⟩ = some (.int .i64 vb9) := by rw [hW9]; first | go_keep | (simp [go_sem, *]; done)
 have fz1 : ∀ j, W9.frozen? ⟨w.heap.size + 1 + 1 + 1, j, none⟩ = false := fun j => by rw [hW9]; simp [go_sem]
 have f20 : W9.cell? ⟨w.heap.size + 1 + 1 + 1 + 1, 0, none⟩ = some (.int .i64 vt0) := by rw [hW9]; first | go_keep | (simp [go_sem, *]; done)
 have f21 : W9.cell? ⟨w.heap.size + 1 + 1 + 1 + 1, 1, none⟩ = some (.bool vt1) := by rw [hW9]; first | go_keep | (simp [go_sem, *]; done)
 have f22 : W9.cell? ⟨w.heap.size + 1 + 1 + 1 + 1, 2, none⟩ = some (.int .i64 vt2) := by rw [hW9]; first | go_keep | (simp [go_sem, *]; done)
 have f23 : W9.cell? ⟨w.heap.size + 1 + 1 + 1 + 1, 3, none⟩ = some (.int .i64 vt3) := by rw [hW9]; first | go_keep | (simp [go_sem, *]; done)
 have f24 : W9.cell? ⟨w.heap.size + 1 + 1 + 1 + 1, 4, none⟩ = some (.int .i64 vt4) := by rw [hW9]; first | go_keep | (simp [go_sem, *]; done)
 have f25 : W9.cell? ⟨w.heap.size + 1 + 1 + 1 + 1, 5, none⟩ = some (.int .i64 vt5) := by rw [hW9]; first | go_keep | (simp [go_sem, *]; done)
 have f26 : W9.cell? ⟨w.heap.size + 1 + 1 + 1 + 1, 6, none⟩ = some (.int .i64 vt6) := by rw [hW9]; first | go_keep | (simp [go_sem, *]; done)
 have f27 : W9.cell? ⟨w.heap.size + 1 + 1 + 1 + 1, 7, none⟩ = some (.int .i64 vt7) := by rw [hW9]; first | go_keep | (simp [go_sem, *]; done)
 have f28 : W9.cell? ⟨w.heap.size + 1 + 1 + 1 + 1, 8, none⟩ = some (.int .i64 vt8) := by rw [hW9]; first | go_keep | (simp [go_sem, *]; done)
 have f29 : W9.cell? ⟨w.heap.size + 1 + 1 + 1 + 1, 9, none⟩ = some (.int .i64 vt9) := by rw [hW9]; first | go_keep | (simp [go_sem, *]; done)
 have fz2 : ∀ j, W9.frozen? ⟨w.heap.size + 1 + 1 + 1 + 1, j, none⟩ = false := fun j => by rw [hW9]; simp [go_sem]
 have s9 : w.heap.size + 1 + 1 + 1 + 1 < W9.heap.size := by rw [hW9]; simp only [zA, zS]; omega
 have hB9 : Below w.heap.size w W9 := by rw [hW9]; (exact bw)
 clear hW9 ha0 ha1 ha2 ha3 ha4 ha5 ha6 ha7 ha8 ha9 hb0 hb1 hb2 hb3 hb4 hb5 hb6 hb7 hb8 hb9 ht0 ht1 ht2 ht3 ht4 ht5 ht6 ht7 ht8 ht9
 have sz0 : w.heap.size + 1 + 1 < W9.heap.size := by omega
 have g00 : W9.drew.cell? ⟨w.heap.size + 1 + 1, 0, none⟩ = some (.int .i64 va0) := f00
 have k00 := setCell_self g00
 have g01 : W9.drew.cell? ⟨w.heap.size + 1 + 1, 1, none⟩ = some (.bool va1) := f01
 have k01 := setCell_self g01
 have g02 : W9.drew.cell? ⟨w.heap.size + 1 + 1, 2, none⟩ = some (.int .i64 va2) := f02
 have k02 := setCell_self g02
 have g03 : W9.drew.cell? ⟨w.heap.size + 1 + 1, 3, none⟩ = some (.int .i64 va3) := f03
 have k03 := setCell_self g03
 have g04 : W9.drew.cell? ⟨w.heap.size + 1 + 1, 4, none⟩ = some (.int .i64 va4) := f04
 have k04 := setCell_self g04
 have g05 : W9.drew.cell? ⟨w.heap.size + 1 + 1, 5, none⟩ = some (.int .i64 va5) := f05
 have k05 := setCell_self g05
 have g06 : W9.drew.cell? ⟨w.heap.size + 1 + 1, 6, none⟩ = some (.int .i64 va6) := f06
 have k06 := setCell_self g06
 have g07 : W9.drew.cell? ⟨w.heap.size + 1 + 1, 7, none⟩ = some (.int .i64 va7) := f07
 have k07 := setCell_self g07
 have g08 : W9.drew.cell? ⟨w.heap.size + 1 + 1, 8, none⟩ = some (.int .i64 va8) := f08
 have k08 := setCell_self g08
 have g09 : W9.drew.cell? ⟨w.heap.size + 1 + 1, 9, none⟩ = some (.int .i64 va9) := f09
 have k09 := setCell_self g09
 have gz0 : ∀ j, W9.drew.frozen? ⟨w.heap.size + 1 + 1, j, none⟩ = false := fz0
 have sz1 : w.heap.size + 1 + 1 + 1 < W9.heap.size := by omega
 have g10 : W9.drew.cell? ⟨w.heap.size + 1 + 1 + 1, 0, none⟩ = some (.int .i64 vb0) := f10
 have k10 := setCell_self g10
 have g11 : W9.drew.cell? ⟨w.heap.size + 1 + 1 + 1, 1, none⟩ = some (.bool vb1) := f11
 have k11 := setCell_self g11
 have g12 : W9.drew.cell? ⟨w.heap.size + 1 + 1 + 1, 2, none⟩ = some (.int .i64 vb2) := f12
 have k12 := setCell_self g12
 have g13 : W9.drew.cell? ⟨w.heap.size + 1 + 1 + 1, 3, none⟩ = some (.int .i64 vb3) := f13
 have k13 := setCell_self g13
 have g14 : W9.drew.cell? ⟨w.heap.size + 1 + 1 + 1, 4, none⟩ = some (.int .i64 vb4) := f14
 have k14 := setCell_self g14
 have g15 : W9.drew.cell? ⟨w.heap.size + 1 + 1 + 1, 5, none⟩ = some (.int .i64 vb5) := f15
 have k15 := setCell_self g15
 have g16 : W9.drew.cell? ⟨w.heap.size + 1 + 1 + 1, 6, none⟩ = some (.int .i64 vb6) := f16
 have k16 := setCell_self g16
 have g17 : W9.drew.cell? ⟨w.heap.size + 1 + 1 + 1, 7, none⟩ = some (.int .i64 vb7) := f17
 have k17 := setCell_self g17
 have g18 : W9.drew.cell? ⟨w.heap.size + 1 + 1 + 1, 8, none⟩ = some (.int .i64 vb8) := f18
 have k18 := setCell_self g18
 have g19 : W9.drew.cell? ⟨w.heap.size + 1 + 1 + 1, 9, none⟩ = some (.int .i64 vb9) := f19
 have k19 := setCell_self g19
 have gz1 : ∀ j, W9.drew.frozen? ⟨w.heap.size + 1 + 1 + 1, j, none⟩ = false := fz1
 have sz2 : w.heap.size + 1 + 1 + 1 + 1 < W9.heap.size := by omega
 have g20 : W9.drew.cell? ⟨w.heap.size + 1 + 1 + 1 + 1, 0, none⟩ = some (.int .i64 vt0) := f20
 have k20 := setCell_self g20
 have g21 : W9.drew.cell? ⟨w.heap.size + 1 + 1 + 1 + 1, 1, none⟩ = some (.bool vt1) := f21
 have k21 := setCell_self g21
 have g22 : W9.drew.cell? ⟨w.heap.size + 1 + 1 + 1 + 1, 2, none⟩ = some (.int .i64 vt2) := f22
 have k22 := setCell_self g22
 have g23 : W9.drew.cell? ⟨w.heap.size + 1 + 1 + 1 + 1, 3, none⟩ = some (.int .i64 vt3) := f23
 have k23 := setCell_self g23
 have g24 : W9.drew.cell? ⟨w.heap.size + 1 + 1 + 1 + 1, 4, none⟩ = some (.int .i64 vt4) := f24
 have k24 := setCell_self g24
 have g25 : W9.drew.cell? ⟨w.heap.size + 1 + 1 + 1 + 1, 5, none⟩ = some (.int .i64 vt5) := f25
 have k25 := setCell_self g25
 have g26 : W9.drew.cell? ⟨w.heap.size + 1 + 1 + 1 + 1, 6, none⟩ = some (.int .i64 vt6) := f26
 have k26 := setCell_self g26
 have g27 : W9.drew.cell? ⟨w.heap.size + 1 + 1 + 1 + 1, 7, none⟩ = some (.int .i64 vt7) := f27
 have k27 := setCell_self g27
 have g28 : W9.drew.cell? ⟨w.heap.size + 1 + 1 + 1 + 1, 8, none⟩ = some (.int .i64 vt8) := f28
 have k28 := setCell_self g28
 have g29 : W9.drew.cell? ⟨w.heap.size + 1 + 1 + 1 + 1, 9, none⟩ = some (.int .i64 vt9) := f29
 have k29 := setCell_self g29
 have gz2 : ∀ j, W9.drew.frozen? ⟨w.heap.size + 1 + 1 + 1 + 1, j, none⟩ = false := fz2
 clear f00 f01 f02 f03 f04 f05 f06 f07 f08 f09 f10 f11 f12 f13 f14 f15 f16 f17 f18 f19 f20 f21 f22 f23 f24 f25 f26 f27 f28 f29
 go_region_held3 (fun w' => w' = W9.drew) (first | rfl | assumption | (simp [*]; done)) (fail)
 all_goals go_wp2
 all_goals refine bodyPost_ret (by simp [results, Try.results107, go_sem, *]; try rfl) rfl ?_
 all_goals exact ⟨rfl, hB9.drew⟩
end
end Go.Proofs.Ytfooefiaenlhmaa
