/- Lemmas for the laws of package magnetolaw15: what its functions return, for any arguments that the lemmas name. -/
import Derived.Test.YtfooefiaenlhmaaGO1
import Derived.Test.YtfooefiaenlhmaaGO4
import Derived.Test.YtfooefiaenlhmaaGO5
import Derived.Test.YtfooefiaenlhmaaGO6
import Derived.Test.YtfooefiaenlhmaaGO7
import Derived.Test.YtfooefiaenlhmaaGO8
namespace Go.Proofs.Ytfooefiaenlhmaa
set_option linter.unusedVariables false
set_option linter.unusedSimpArgs false
set_option maxHeartbeats 16000000
open Go.RowKit Go.ChangeShapes Go.WideShapes Go.ChangeAt
set_option maxRecDepth 100000 in
theorem tw_13_a (op : Int) (hop : op = 13 ∨ op = 14) (rc : Option Addr) (lc cc : Nat) (rt : Option Addr) (ct : Nat) (types : List Fx) (rv : Option Addr) (lv cv : Nat) (rm : Option Addr) (lm cm : Nat) (cells : Int) (ri : Option Addr) (li ci : Nat) (rs : Option Addr) (ls cs : Nat) (ro : Option Addr) (lo co : Nat) (rn : Option Addr) (ln cn : Nat) (a b c k : Int) (na nb nt : Nat) (hk : I64 k) (hna : k / 16384 = (na : Int)) (hnb : k / 128 % 128 = (nb : Int)) (hnt : k % 128 = (nt : Int)) (za : types.length ≤ na) (w : World) (hS : IsS 10 Fx.enc w rt ct types) : Calls Try.prog 107 #[.agg #[.slice rc lc cc, .slice rt types.length ct, .slice rv lv cv, .slice rm lm cm, .int .i64 cells, .slice ri li ci, .slice rs ls cs, .slice ro lo co, .slice rn ln cn], .agg #[.int .i64 op, .int .i64 a, .int .i64 b, .int .i64 c, .int .i64 k]] w fun e w' => e = .returned (.tuple #[.agg #[.int .i64 0, .bool false, .int .i64 0, .int .i64 0, .int .i64 0, .int .i64 0, .int .i64 0, .int .i64 0, .int .i64 0, .int .i64 0], .agg #[.int .i64 0, .bool false, .int .i64 0, .int .i64 0, .int .i64 0, .int .i64 0, .int .i64 0, .int .i64 0, .int .i64 0, .int .i64 0], .agg #[.int .i64 0, .bool false, .int .i64 0, .int .i64 0, .int .i64 0, .int .i64 0, .int .i64 0, .int .i64 0, .int .i64 0, .int .i64 0], .bool false]) ∧ Below w.heap.size w w' := by
 rcases hop with rfl | rfl
 all_goals
  have hmx := Nat.le_trans hS.le hS.max
  unfold maxLen at hmx
  have ia : (types.length : Int) ≤ (na : Int) := by omega
  clear hS
  have ml : (types.length : Int) ≤ 9223372036854775807 := by omega
  go_enter Try.func107, Try.ntmps107
  go_wp2_with (first | (go_at_call 120; refine (split_any k hk _).mono ?_; rintro e w' ⟨rfl, rfl⟩; rw [hna, hnb, hnt]))
  refine cap_world2 (P := fun W => Code.wp _ _ _ _ W) _ ?_
  intro W9 hW9
  have f00 : W9.cell? ⟨w.heap.size + 1 + 1, 0, none⟩ = some (.int .i64 0) := by rw [hW9]; first | go_keep | (simp [go_sem, *]; done)
  have f01 : W9.cell? ⟨w.heap.size + 1 + 1, 1, none⟩ = some (.bool false) := by rw [hW9]; first | go_keep | (simp [go_sem, *]; done)
  have f02 : W9.cell? ⟨w.heap.size + 1 + 1, 2, none⟩ = some (.int .i64 0) := by rw [hW9]; first | go_keep | (simp [go_sem, *]; done)
  have f03 : W9.cell? ⟨w.heap.size + 1 + 1, 3, none⟩ = some (.int .i64 0) := by rw [hW9]; first | go_keep | (simp [go_sem, *]; done)
  have f04 : W9.cell? ⟨w.heap.size + 1 + 1, 4, none⟩ = some (.int .i64 0) := by rw [hW9]; first | go_keep | (simp [go_sem, *]; done)
  have f05 : W9.cell? ⟨w.heap.size + 1 + 1, 5, none⟩ = some (.int .i64 0) := by rw [hW9]; first | go_keep | (simp [go_sem, *]; done)
  have f06 : W9.cell? ⟨w.heap.size + 1 + 1, 6, none⟩ = some (.int .i64 0) := by rw [hW9]; first | go_keep | (simp [go_sem, *]; done)
  have f07 : W9.cell? ⟨w.heap.size + 1 + 1, 7, none⟩ = some (.int .i64 0) := by rw [hW9]; first | go_keep | (simp [go_sem, *]; done)
  have f08 : W9.cell? ⟨w.heap.size + 1 + 1, 8, none⟩ = some (.int .i64 0) := by rw [hW9]; first | go_keep | (simp [go_sem, *]; done)
  have f09 : W9.cell? ⟨w.heap.size + 1 + 1, 9, none⟩ = some (.int .i64 0) := by rw [hW9]; first | go_keep | (simp [go_sem, *]; done)
  have fz0 : ∀ j, W9.frozen? ⟨w.heap.size + 1 + 1, j, none⟩ = false := fun j => by rw [hW9]; simp [go_sem]
  have f10 : W9.cell? ⟨w.heap.size + 1 + 1 + 1, 0, none⟩ = some (.int .i64 0) := by rw [hW9]; first | go_keep | (simp [go_sem, *]; done)
  have f11 : W9.cell? ⟨w.heap.size + 1 + 1 + 1, 1, none⟩ = some (.bool false) := by rw [hW9]; first | go_keep | (simp [go_sem, *]; done)
  have f12 : W9.cell? ⟨w.heap.size + 1 + 1 + 1, 2, none⟩ = some (.int .i64 0) := by rw [hW9]; first | go_keep | (simp [go_sem, *]; done)
  have f13 : W9.cell? ⟨w.heap.size + 1 + 1 + 1, 3, none⟩ = some (.int .i64 0) := by rw [hW9]; first | go_keep | (simp [go_sem, *]; done)
  have f14 : W9.cell? ⟨w.heap.size + 1 + 1 + 1, 4, none⟩ = some (.int .i64 0) := by rw [hW9]; first | go_keep | (simp [go_sem, *]; done)
  have f15 : W9.cell? ⟨w.heap.size + 1 + 1 + 1, 5, none⟩ = some (.int .i64 0) := by rw [hW9]; first | go_keep | (simp [go_sem, *]; done)
  have f16 : W9.cell? ⟨w.heap.size + 1 + 1 + 1, 6, none⟩ = some (.int .i64 0) := by rw [hW9]; first | go_keep | (simp [go_sem, *]; done)
  have f17 : W9.cell? ⟨w.heap.size + 1 + 1 + 1, 7, none⟩ = some (.int .i64 0) := by rw [hW9]; first | go_keep | (simp [go_sem, *]; done)
  have f18 : W9.cell? ⟨w.heap.size + 1 + 1 + 1, 8, none⟩ = some (.int .i64 0) := by rw [hW9]; first | go_keep | (simp [go_sem, *]; done)
  have f19 : W9.cell? ⟨w.heap.size + 1 + 1 + 1, 9, none⟩ = some (.int .i64 0) := by rw [hW9]; first | go_keep | (simp [go_sem, *]; done)
  have fz1 : ∀ j, W9.frozen? ⟨w.heap.size + 1 + 1 + 1, j, none⟩ = false := fun j => by rw [hW9]; simp [go_sem]
  have f20 : W9.cell? ⟨w.heap.size + 1 + 1 + 1 + 1, 0, none⟩ = some (.int .i64 0) := by rw [hW9]; first | go_keep | (simp [go_sem, *]; done)
  have f21 : W9.cell? ⟨w.heap.size + 1 + 1 + 1 + 1, 1, none⟩ = some (.bool false) := by rw [hW9]; first | go_keep | (simp [go_sem, *]; done)
  have f22 : W9.cell? ⟨w.heap.size + 1 + 1 + 1 + 1, 2, none⟩ = some (.int .i64 0) := by rw [hW9]; first | go_keep | (simp [go_sem, *]; done)
  have f23 : W9.cell? ⟨w.heap.size + 1 + 1 + 1 + 1, 3, none⟩ = some (.int .i64 0) := by rw [hW9]; first | go_keep | (simp [go_sem, *]; done)
  have f24 : W9.cell? ⟨w.heap.size + 1 + 1 + 1 + 1, 4, none⟩ = some (.int .i64 0) := by rw [hW9]; first | go_keep | (simp [go_sem, *]; done)
  have f25 : W9.cell? ⟨w.heap.size + 1 + 1 + 1 + 1, 5, none⟩ = some (.int .i64 0) := by rw [hW9]; first | go_keep | (simp [go_sem, *]; done)
  have f26 : W9.cell? ⟨w.heap.size + 1 + 1 + 1 + 1, 6, none⟩ = some (.int .i64 0) := by rw [hW9]; first | go_keep | (simp [go_sem, *]; done)
  have f27 : W9.cell? ⟨w.heap.size + 1 + 1 + 1 + 1, 7, none⟩ = some (.int .i64 0) := by rw [hW9]; first | go_keep | (simp [go_sem, *]; done)
  have f28 : W9.cell? ⟨w.heap.size + 1 + 1 + 1 + 1, 8, none⟩ = some (.int .i64 0) := by rw [hW9]; first | go_keep | (simp [go_sem, *]; done)
  have f29 : W9.cell? ⟨w.heap.size + 1 + 1 + 1 + 1, 9, none⟩ = some (.int .i64 0) := by rw [hW9]; first | go_keep | (simp [go_sem, *]; done)
  have fz2 : ∀ j, W9.frozen? ⟨w.heap.size + 1 + 1 + 1 + 1, j, none⟩ = false := fun j => by rw [hW9]; simp [go_sem]
  have s9 : w.heap.size + 1 + 1 + 1 + 1 < W9.heap.size := by rw [hW9]; simp only [zA, zS]; omega
  have hB9 : Below w.heap.size w W9 := by rw [hW9]; (exact bw)
  clear hW9
  have sz0 : w.heap.size + 1 + 1 < W9.heap.size := by omega
  have g00 : W9.drew.cell? ⟨w.heap.size + 1 + 1, 0, none⟩ = some (.int .i64 0) := f00
  have k00 := setCell_self g00
  have g01 : W9.drew.cell? ⟨w.heap.size + 1 + 1, 1, none⟩ = some (.bool false) := f01
  have k01 := setCell_self g01
  have g02 : W9.drew.cell? ⟨w.heap.size + 1 + 1, 2, none⟩ = some (.int .i64 0) := f02
  have k02 := setCell_self g02
  have g03 : W9.drew.cell? ⟨w.heap.size + 1 + 1, 3, none⟩ = some (.int .i64 0) := f03
  have k03 := setCell_self g03
  have g04 : W9.drew.cell? ⟨w.heap.size + 1 + 1, 4, none⟩ = some (.int .i64 0) := f04
  have k04 := setCell_self g04
  have g05 : W9.drew.cell? ⟨w.heap.size + 1 + 1, 5, none⟩ = some (.int .i64 0) := f05
  have k05 := setCell_self g05
  have g06 : W9.drew.cell? ⟨w.heap.size + 1 + 1, 6, none⟩ = some (.int .i64 0) := f06
  have k06 := setCell_self g06
  have g07 : W9.drew.cell? ⟨w.heap.size + 1 + 1, 7, none⟩ = some (.int .i64 0) := f07
  have k07 := setCell_self g07
  have g08 : W9.drew.cell? ⟨w.heap.size + 1 + 1, 8, none⟩ = some (.int .i64 0) := f08
  have k08 := setCell_self g08
  have g09 : W9.drew.cell? ⟨w.heap.size + 1 + 1, 9, none⟩ = some (.int .i64 0) := f09
  have k09 := setCell_self g09
  have gz0 : ∀ j, W9.drew.frozen? ⟨w.heap.size + 1 + 1, j, none⟩ = false := fz0
  have sz1 : w.heap.size + 1 + 1 + 1 < W9.heap.size := by omega
  have g10 : W9.drew.cell? ⟨w.heap.size + 1 + 1 + 1, 0, none⟩ = some (.int .i64 0) := f10
  have k10 := setCell_self g10
  have g11 : W9.drew.cell? ⟨w.heap.size + 1 + 1 + 1, 1, none⟩ = some (.bool false) := f11
  have k11 := setCell_self g11
  have g12 : W9.drew.cell? ⟨w.heap.size + 1 + 1 + 1, 2, none⟩ = some (.int .i64 0) := f12
  have k12 := setCell_self g12
  have g13 : W9.drew.cell? ⟨w.heap.size + 1 + 1 + 1, 3, none⟩ = some (.int .i64 0) := f13
  have k13 := setCell_self g13
  have g14 : W9.drew.cell? ⟨w.heap.size + 1 + 1 + 1, 4, none⟩ = some (.int .i64 0) := f14
  have k14 := setCell_self g14
  have g15 : W9.drew.cell? ⟨w.heap.size + 1 + 1 + 1, 5, none⟩ = some (.int .i64 0) := f15
  have k15 := setCell_self g15
  have g16 : W9.drew.cell? ⟨w.heap.size + 1 + 1 + 1, 6, none⟩ = some (.int .i64 0) := f16
  have k16 := setCell_self g16
  have g17 : W9.drew.cell? ⟨w.heap.size + 1 + 1 + 1, 7, none⟩ = some (.int .i64 0) := f17
  have k17 := setCell_self g17
  have g18 : W9.drew.cell? ⟨w.heap.size + 1 + 1 + 1, 8, none⟩ = some (.int .i64 0) := f18
  have k18 := setCell_self g18
  have g19 : W9.drew.cell? ⟨w.heap.size + 1 + 1 + 1, 9, none⟩ = some (.int .i64 0) := f19
  have k19 := setCell_self g19
  have gz1 : ∀ j, W9.drew.frozen? ⟨w.heap.size + 1 + 1 + 1, j, none⟩ = false := fz1
  have sz2 : w.heap.size + 1 + 1 + 1 + 1 < W9.heap.size := by omega
  have g20 : W9.drew.cell? ⟨w.heap.size + 1 + 1 + 1 + 1, 0, none⟩ = some (.int .i64 0) := f20
  have k20 := setCell_self g20
  have g21 : W9.drew.cell? ⟨w.heap.size + 1 + 1 + 1 + 1, 1, none⟩ = some (.bool false) := f21
  have k21 := setCell_self g21
  have g22 : W9.drew.cell? ⟨w.heap.size + 1 + 1 + 1 + 1, 2, none⟩ = some (.int .i64 0) := f22
  have k22 := setCell_self g22
  have g23 : W9.drew.cell? ⟨w.heap.size + 1 + 1 + 1 + 1, 3, none⟩ = some (.int .i64 0) := f23
  have k23 := setCell_self g23
  have g24 : W9.drew.cell? ⟨w.heap.size + 1 + 1 + 1 + 1, 4, none⟩ = some (.int .i64 0) := f24
  have k24 := setCell_self g24
  have g25 : W9.drew.cell? ⟨w.heap.size + 1 + 1 + 1 + 1, 5, none⟩ = some (.int .i64 0) := f25
  have k25 := setCell_self g25
  have g26 : W9.drew.cell? ⟨w.heap.size + 1 + 1 + 1 + 1, 6, none⟩ = some (.int .i64 0) := f26
  have k26 := setCell_self g26
  have g27 : W9.drew.cell? ⟨w.heap.size + 1 + 1 + 1 + 1, 7, none⟩ = some (.int .i64 0) := f27
  have k27 := setCell_self g27
  have g28 : W9.drew.cell? ⟨w.heap.size + 1 + 1 + 1 + 1, 8, none⟩ = some (.int .i64 0) := f28
  have k28 := setCell_self g28
  have g29 : W9.drew.cell? ⟨w.heap.size + 1 + 1 + 1 + 1, 9, none⟩ = some (.int .i64 0) := f29
  have k29 := setCell_self g29
  have gz2 : ∀ j, W9.drew.frozen? ⟨w.heap.size + 1 + 1 + 1 + 1, j, none⟩ = false := fz2
  clear f00 f01 f02 f03 f04 f05 f06 f07 f08 f09 f10 f11 f12 f13 f14 f15 f16 f17 f18 f19 f20 f21 f22 f23 f24 f25 f26 f27 f28 f29
  go_region_held3 (fun w' => w' = W9.drew) (first | rfl | assumption | (simp [*]; done)) (fail)
  all_goals go_wp2
  all_goals refine bodyPost_ret (by simp [results, Try.results107, go_sem, *]; try rfl) rfl ?_
  all_goals exact ⟨rfl, hB9.drew⟩
abbrev ty_13_a := @tw_13_a 13 (Or.inl rfl)
abbrev ty_14_a := @tw_13_a 14 (Or.inr rfl)
set_option maxRecDepth 100000 in
theorem tw_13_b (op : Int) (hop : op = 13 ∨ op = 14) (rc : Option Addr) (lc cc : Nat) (rt : Option Addr) (ct : Nat) (types : List Fx) (rv : Option Addr) (lv cv : Nat) (rm : Option Addr) (lm cm : Nat) (cells : Int) (ri : Option Addr) (li ci : Nat) (rs : Option Addr) (ls cs : Nat) (ro : Option Addr) (lo co : Nat) (rn : Option Addr) (ln cn : Nat) (a b c k : Int) (na nb nt : Nat) (hk : I64 k) (hna : k / 16384 = (na : Int)) (hnb : k / 128 % 128 = (nb : Int)) (hnt : k % 128 = (nt : Int)) (ha : na < types.length) (zb : types.length ≤ nb) (w : World) (hS : IsS 10 Fx.enc w rt ct types) : Calls Try.prog 107 #[.agg #[.slice rc lc cc, .slice rt types.length ct, .slice rv lv cv, .slice rm lm cm, .int .i64 cells, .slice ri li ci, .slice rs ls cs, .slice ro lo co, .slice rn ln cn], .agg #[.int .i64 op, .int .i64 a, .int .i64 b, .int .i64 c, .int .i64 k]] w fun e w' => e = .returned (.tuple #[.agg #[.int .i64 0, .bool false, .int .i64 0, .int .i64 0, .int .i64 0, .int .i64 0, .int .i64 0, .int .i64 0, .int .i64 0, .int .i64 0], .agg #[.int .i64 0, .bool false, .int .i64 0, .int .i64 0, .int .i64 0, .int .i64 0, .int .i64 0, .int .i64 0, .int .i64 0, .int .i64 0], .agg #[.int .i64 0, .bool false, .int .i64 0, .int .i64 0, .int .i64 0, .int .i64 0, .int .i64 0, .int .i64 0, .int .i64 0, .int .i64 0], .bool false]) ∧ Below w.heap.size w w' := by
 rcases hop with rfl | rfl
 all_goals
  have hmx := Nat.le_trans hS.le hS.max
  unfold maxLen at hmx
  have ia : (na : Int) < (types.length : Int) := by omega
  have ja : (0 : Int) ≤ (na : Int) := by omega
  have ib : (types.length : Int) ≤ (nb : Int) := by omega
  clear hS
  have ml : (types.length : Int) ≤ 9223372036854775807 := by omega
  go_enter Try.func107, Try.ntmps107
  go_wp2_with (first | (go_at_call 120; refine (split_any k hk _).mono ?_; rintro e w' ⟨rfl, rfl⟩; rw [hna, hnb, hnt]))
  refine cap_world2 (P := fun W => Code.wp _ _ _ _ W) _ ?_
  intro W9 hW9
  have f00 : W9.cell? ⟨w.heap.size + 1 + 1, 0, none⟩ = some (.int .i64 0) := by rw [hW9]; first | go_keep | (simp [go_sem, *]; done)
  have f01 : W9.cell? ⟨w.heap.size + 1 + 1, 1, none⟩ = some (.bool false) := by rw [hW9]; first | go_keep | (simp [go_sem, *]; done)
  have f02 : W9.cell? ⟨w.heap.size + 1 + 1, 2, none⟩ = some (.int .i64 0) := by rw [hW9]; first | go_keep | (simp [go_sem, *]; done)
  have f03 : W9.cell? ⟨w.heap.size + 1 + 1, 3, none⟩ = some (.int .i64 0) := by rw [hW9]; first | go_keep | (simp [go_sem, *]; done)
  have f04 : W9.cell? ⟨w.heap.size + 1 + 1, 4, none⟩ = some (.int .i64 0) := by rw [hW9]; first | go_keep | (simp [go_sem, *]; done)
  have f05 : W9.cell? ⟨w.heap.size + 1 + 1, 5, none⟩ = some (.int .i64 0) := by rw [hW9]; first | go_keep | (simp [go_sem, *]; done)
  have f06 : W9.cell? ⟨w.heap.size + 1 + 1, 6, none⟩ = some (.int .i64 0) := by rw [hW9]; first | go_keep | (simp [go_sem, *]; done)
  have f07 : W9.cell? ⟨w.heap.size + 1 + 1, 7, none⟩ = some (.int .i64 0) := by rw [hW9]; first | go_keep | (simp [go_sem, *]; done)
  have f08 : W9.cell? ⟨w.heap.size + 1 + 1, 8, none⟩ = some (.int .i64 0) := by rw [hW9]; first | go_keep | (simp [go_sem, *]; done)
  have f09 : W9.cell? ⟨w.heap.size + 1 + 1, 9, none⟩ = some (.int .i64 0) := by rw [hW9]; first | go_keep | (simp [go_sem, *]; done)
  have fz0 : ∀ j, W9.frozen? ⟨w.heap.size + 1 + 1, j, none⟩ = false := fun j => by rw [hW9]; simp [go_sem]
  have f10 : W9.cell? ⟨w.heap.size + 1 + 1 + 1, 0, none⟩ = some (.int .i64 0) := by rw [hW9]; first | go_keep | (simp [go_sem, *]; done)
  have f11 : W9.cell? ⟨w.heap.size + 1 + 1 + 1, 1, none⟩ = some (.bool false) := by rw [hW9]; first | go_keep | (simp [go_sem, *]; done)
  have f12 : W9.cell? ⟨w.heap.size + 1 + 1 + 1, 2, none⟩ = some (.int .i64 0) := by rw [hW9]; first | go_keep | (simp [go_sem, *]; done)
  have f13 : W9.cell? ⟨w.heap.size + 1 + 1 + 1, 3, none⟩ = some (.int .i64 0) := by rw [hW9]; first | go_keep | (simp [go_sem, *]; done)
  have f14 : W9.cell? ⟨w.heap.size + 1 + 1 + 1, 4, none⟩ = some (.int .i64 0) := by rw [hW9]; first | go_keep | (simp [go_sem, *]; done)
  have f15 : W9.cell? ⟨w.heap.size + 1 + 1 + 1, 5, none⟩ = some (.int .i64 0) := by rw [hW9]; first | go_keep | (simp [go_sem, *]; done)
  have f16 : W9.cell? ⟨w.heap.size + 1 + 1 + 1, 6, none⟩ = some (.int .i64 0) := by rw [hW9]; first | go_keep | (simp [go_sem, *]; done)
  have f17 : W9.cell? ⟨w.heap.size + 1 + 1 + 1, 7, none⟩ = some (.int .i64 0) := by rw [hW9]; first | go_keep | (simp [go_sem, *]; done)
  have f18 : W9.cell? ⟨w.heap.size + 1 + 1 + 1, 8, none⟩ = some (.int .i64 0) := by rw [hW9]; first | go_keep | (simp [go_sem, *]; done)
  have f19 : W9.cell? ⟨w.heap.size + 1 + 1 + 1, 9, none⟩ = some (.int .i64 0) := by rw [hW9]; first | go_keep | (simp [go_sem, *]; done)
  have fz1 : ∀ j, W9.frozen? ⟨w.heap.size + 1 + 1 + 1, j, none⟩ = false := fun j => by rw [hW9]; simp [go_sem]
  have f20 : W9.cell? ⟨w.heap.size + 1 + 1 + 1 + 1, 0, none⟩ = some (.int .i64 0) := by rw [hW9]; first | go_keep | (simp [go_sem, *]; done)
  have f21 : W9.cell? ⟨w.heap.size + 1 + 1 + 1 + 1, 1, none⟩ = some (.bool false) := by rw [hW9]; first | go_keep | (simp [go_sem, *]; done)
  have f22 : W9.cell? ⟨w.heap.size + 1 + 1 + 1 + 1, 2, none⟩ = some (.int .i64 0) := by rw [hW9]; first | go_keep | (simp [go_sem, *]; done)
  have f23 : W9.cell? ⟨w.heap.size + 1 + 1 + 1 + 1, 3, none⟩ = some (.int .i64 0) := by rw [hW9]; first | go_keep | (simp [go_sem, *]; done)
  have f24 : W9.cell? ⟨w.heap.size + 1 + 1 + 1 + 1, 4, none⟩ = some (.int .i64 0) := by rw [hW9]; first | go_keep | (simp [go_sem, *]; done)
  have f25 : W9.cell? ⟨w.heap.size + 1 + 1 + 1 + 1, 5, none⟩ = some (.int .i64 0) := by rw [hW9]; first | go_keep | (simp [go_sem, *]; done)
  have f26 : W9.cell? ⟨w.heap.size + 1 + 1 + 1 + 1, 6, none⟩ = some (.int .i64 0) := by rw [hW9]; first | go_keep | (simp [go_sem, *]; done)
  have f27 : W9.cell? ⟨w.heap.size + 1 + 1 + 1 + 1, 7, none⟩ = some (.int .i64 0) := by rw [hW9]; first | go_keep | (simp [go_sem, *]; done)
  have f28 : W9.cell? ⟨w.heap.size + 1 + 1 + 1 + 1, 8, none⟩ = some (.int .i64 0) := by rw [hW9]; first | go_keep | (simp [go_sem, *]; done)
  have f29 : W9.cell? ⟨w.heap.size + 1 + 1 + 1 + 1, 9, none⟩ = some (.int .i64 0) := by rw [hW9]; first | go_keep | (simp [go_sem, *]; done)
  have fz2 : ∀ j, W9.frozen? ⟨w.heap.size + 1 + 1 + 1 + 1, j, none⟩ = false := fun j => by rw [hW9]; simp [go_sem]
  have s9 : w.heap.size + 1 + 1 + 1 + 1 < W9.heap.size := by rw [hW9]; simp only [zA, zS]; omega
  have hB9 : Below w.heap.size w W9 := by rw [hW9]; (exact bw)
  clear hW9
  have sz0 : w.heap.size + 1 + 1 < W9.heap.size := by omega
  have g00 : W9.drew.cell? ⟨w.heap.size + 1 + 1, 0, none⟩ = some (.int .i64 0) := f00
  have k00 := setCell_self g00
  have g01 : W9.drew.cell? ⟨w.heap.size + 1 + 1, 1, none⟩ = some (.bool false) := f01
  have k01 := setCell_self g01
  have g02 : W9.drew.cell? ⟨w.heap.size + 1 + 1, 2, none⟩ = some (.int .i64 0) := f02
  have k02 := setCell_self g02
  have g03 : W9.drew.cell? ⟨w.heap.size + 1 + 1, 3, none⟩ = some (.int .i64 0) := f03
  have k03 := setCell_self g03
  have g04 : W9.drew.cell? ⟨w.heap.size + 1 + 1, 4, none⟩ = some (.int .i64 0) := f04
  have k04 := setCell_self g04
  have g05 : W9.drew.cell? ⟨w.heap.size + 1 + 1, 5, none⟩ = some (.int .i64 0) := f05
  have k05 := setCell_self g05
  have g06 : W9.drew.cell? ⟨w.heap.size + 1 + 1, 6, none⟩ = some (.int .i64 0) := f06
  have k06 := setCell_self g06
  have g07 : W9.drew.cell? ⟨w.heap.size + 1 + 1, 7, none⟩ = some (.int .i64 0) := f07
  have k07 := setCell_self g07
  have g08 : W9.drew.cell? ⟨w.heap.size + 1 + 1, 8, none⟩ = some (.int .i64 0) := f08
  have k08 := setCell_self g08
  have g09 : W9.drew.cell? ⟨w.heap.size + 1 + 1, 9, none⟩ = some (.int .i64 0) := f09
  have k09 := setCell_self g09
  have gz0 : ∀ j, W9.drew.frozen? ⟨w.heap.size + 1 + 1, j, none⟩ = false := fz0
  have sz1 : w.heap.size + 1 + 1 + 1 < W9.heap.size := by omega
  have g10 : W9.drew.cell? ⟨w.heap.size + 1 + 1 + 1, 0, none⟩ = some (.int .i64 0) := f10
  have k10 := setCell_self g10
  have g11 : W9.drew.cell? ⟨w.heap.size + 1 + 1 + 1, 1, none⟩ = some (.bool false) := f11
  have k11 := setCell_self g11
  have g12 : W9.drew.cell? ⟨w.heap.size + 1 + 1 + 1, 2, none⟩ = some (.int .i64 0) := f12
  have k12 := setCell_self g12
  have g13 : W9.drew.cell? ⟨w.heap.size + 1 + 1 + 1, 3, none⟩ = some (.int .i64 0) := f13
  have k13 := setCell_self g13
  have g14 : W9.drew.cell? ⟨w.heap.size + 1 + 1 + 1, 4, none⟩ = some (.int .i64 0) := f14
  have k14 := setCell_self g14
  have g15 : W9.drew.cell? ⟨w.heap.size + 1 + 1 + 1, 5, none⟩ = some (.int .i64 0) := f15
  have k15 := setCell_self g15
  have g16 : W9.drew.cell? ⟨w.heap.size + 1 + 1 + 1, 6, none⟩ = some (.int .i64 0) := f16
  have k16 := setCell_self g16
  have g17 : W9.drew.cell? ⟨w.heap.size + 1 + 1 + 1, 7, none⟩ = some (.int .i64 0) := f17
  have k17 := setCell_self g17
  have g18 : W9.drew.cell? ⟨w.heap.size + 1 + 1 + 1, 8, none⟩ = some (.int .i64 0) := f18
  have k18 := setCell_self g18
  have g19 : W9.drew.cell? ⟨w.heap.size + 1 + 1 + 1, 9, none⟩ = some (.int .i64 0) := f19
  have k19 := setCell_self g19
  have gz1 : ∀ j, W9.drew.frozen? ⟨w.heap.size + 1 + 1 + 1, j, none⟩ = false := fz1
  have sz2 : w.heap.size + 1 + 1 + 1 + 1 < W9.heap.size := by omega
  have g20 : W9.drew.cell? ⟨w.heap.size + 1 + 1 + 1 + 1, 0, none⟩ = some (.int .i64 0) := f20
  have k20 := setCell_self g20
  have g21 : W9.drew.cell? ⟨w.heap.size + 1 + 1 + 1 + 1, 1, none⟩ = some (.bool false) := f21
  have k21 := setCell_self g21
  have g22 : W9.drew.cell? ⟨w.heap.size + 1 + 1 + 1 + 1, 2, none⟩ = some (.int .i64 0) := f22
  have k22 := setCell_self g22
  have g23 : W9.drew.cell? ⟨w.heap.size + 1 + 1 + 1 + 1, 3, none⟩ = some (.int .i64 0) := f23
  have k23 := setCell_self g23
  have g24 : W9.drew.cell? ⟨w.heap.size + 1 + 1 + 1 + 1, 4, none⟩ = some (.int .i64 0) := f24
  have k24 := setCell_self g24
  have g25 : W9.drew.cell? ⟨w.heap.size + 1 + 1 + 1 + 1, 5, none⟩ = some (.int .i64 0) := f25
  have k25 := setCell_self g25
  have g26 : W9.drew.cell? ⟨w.heap.size + 1 + 1 + 1 + 1, 6, none⟩ = some (.int .i64 0) := f26
  have k26 := setCell_self g26
  have g27 : W9.drew.cell? ⟨w.heap.size + 1 + 1 + 1 + 1, 7, none⟩ = some (.int .i64 0) := f27
  have k27 := setCell_self g27
  have g28 : W9.drew.cell? ⟨w.heap.size + 1 + 1 + 1 + 1, 8, none⟩ = some (.int .i64 0) := f28
  have k28 := setCell_self g28
  have g29 : W9.drew.cell? ⟨w.heap.size + 1 + 1 + 1 + 1, 9, none⟩ = some (.int .i64 0) := f29
  have k29 := setCell_self g29
  have gz2 : ∀ j, W9.drew.frozen? ⟨w.heap.size + 1 + 1 + 1 + 1, j, none⟩ = false := fz2
  clear f00 f01 f02 f03 f04 f05 f06 f07 f08 f09 f10 f11 f12 f13 f14 f15 f16 f17 f18 f19 f20 f21 f22 f23 f24 f25 f26 f27 f28 f29
  go_region_held3 (fun w' => w' = W9.drew) (first | rfl | assumption | (simp [*]; done)) (fail)
  all_goals go_wp2
  all_goals refine bodyPost_ret (by simp [results, Try.results107, go_sem, *]; try rfl) rfl ?_
  all_goals exact ⟨rfl, hB9.drew⟩
abbrev ty_13_b := @tw_13_b 13 (Or.inl rfl)
abbrev ty_14_b := @tw_13_b 14 (Or.inr rfl)
set_option maxRecDepth 100000 in
theorem tw_13_ok (op : Int) (hop : op = 13 ∨ op = 14) (rc : Option Addr) (lc cc : Nat) (rt : Option Addr) (ct : Nat) (types : List Fx) (rv : Option Addr) (lv cv : Nat) (rm : Option Addr) (lm cm : Nat) (cells : Int) (ri : Option Addr) (li ci : Nat) (rs : Option Addr) (ls cs : Nat) (ro : Option Addr) (lo co : Nat) (rn : Option Addr) (ln cn : Nat) (a b c k : Int) (na nb nt : Nat) (hk : I64 k) (hna : k / 16384 = (na : Int)) (hnb : k / 128 % 128 = (nb : Int)) (hnt : k % 128 = (nt : Int)) (ha : na < types.length) (hb : nb < types.length) (w : World) (hS : IsS 10 Fx.enc w rt ct types) : Calls Try.prog 107 #[.agg #[.slice rc lc cc, .slice rt types.length ct, .slice rv lv cv, .slice rm lm cm, .int .i64 cells, .slice ri li ci, .slice rs ls cs, .slice ro lo co, .slice rn ln cn], .agg #[.int .i64 op, .int .i64 a, .int .i64 b, .int .i64 c, .int .i64 k]] w fun e w' => e = .returned (.tuple #[.agg #[.int .i64 (types.getD na default).bits, .bool (types.getD na default).sg, .int .i64 (types.getD na default).num, .int .i64 (types.getD na default).off, .int .i64 (types.getD na default).den, .int .i64 (types.getD na default).m, .int .i64 (types.getD na default).kg, .int .i64 (types.getD na default).s, .int .i64 (types.getD na default).a, .int .i64 (types.getD na default).k], .agg #[.int .i64 (types.getD nb default).bits, .bool (types.getD nb default).sg, .int .i64 (types.getD nb default).num, .int .i64 (types.getD nb default).off, .int .i64 (types.getD nb default).den, .int .i64 (types.getD nb default).m, .int .i64 (types.getD nb default).kg, .int .i64 (types.getD nb default).s, .int .i64 (types.getD nb default).a, .int .i64 (types.getD nb default).k], .agg #[.int .i64 0, .bool false, .int .i64 0, .int .i64 0, .int .i64 0, .int .i64 0, .int .i64 0, .int .i64 0, .int .i64 0, .int .i64 0], .bool true]) ∧ Below w.heap.size w w' := by
 rcases hop with rfl | rfl
 all_goals
  have hmx := Nat.le_trans hS.le hS.max
  unfold maxLen at hmx
  obtain ⟨bXa, offa, hra, hba, hca⟩ := hS.at_ ha
  subst hra
  have ha0 : w.cell? ⟨bXa, offa + na * 10, none⟩ = some (.int .i64 (types.getD na default).bits) := hca 0 _ rfl
  have ha1 : w.cell? ⟨bXa, offa + na * 10 + 1, none⟩ = some (.bool (types.getD na default).sg) := hca 1 _ rfl
  have ha2 : w.cell? ⟨bXa, offa + na * 10 + 2, none⟩ = some (.int .i64 (types.getD na default).num) := hca 2 _ rfl
  have ha3 : w.cell? ⟨bXa, offa + na * 10 + 3, none⟩ = some (.int .i64 (types.getD na default).off) := hca 3 _ rfl
  have ha4 : w.cell? ⟨bXa, offa + na * 10 + 4, none⟩ = some (.int .i64 (types.getD na default).den) := hca 4 _ rfl
  have ha5 : w.cell? ⟨bXa, offa + na * 10 + 5, none⟩ = some (.int .i64 (types.getD na default).m) := hca 5 _ rfl
  have ha6 : w.cell? ⟨bXa, offa + na * 10 + 6, none⟩ = some (.int .i64 (types.getD na default).kg) := hca 6 _ rfl
  have ha7 : w.cell? ⟨bXa, offa + na * 10 + 7, none⟩ = some (.int .i64 (types.getD na default).s) := hca 7 _ rfl
  have ha8 : w.cell? ⟨bXa, offa + na * 10 + 8, none⟩ = some (.int .i64 (types.getD na default).a) := hca 8 _ rfl
  have ha9 : w.cell? ⟨bXa, offa + na * 10 + 9, none⟩ = some (.int .i64 (types.getD na default).k) := hca 9 _ rfl
  clear hca
  obtain ⟨bXb, offb, hrb, hbb, hcb⟩ := hS.at_ hb
  simp only [Option.some.injEq, Addr.mk.injEq, and_true] at hrb
  obtain ⟨rfl, rfl⟩ := hrb
  have hb0 : w.cell? ⟨bXa, offa + nb * 10, none⟩ = some (.int .i64 (types.getD nb default).bits) := hcb 0 _ rfl
  have hb1 : w.cell? ⟨bXa, offa + nb * 10 + 1, none⟩ = some (.bool (types.getD nb default).sg) := hcb 1 _ rfl
  have hb2 : w.cell? ⟨bXa, offa + nb * 10 + 2, none⟩ = some (.int .i64 (types.getD nb default).num) := hcb 2 _ rfl
  have hb3 : w.cell? ⟨bXa, offa + nb * 10 + 3, none⟩ = some (.int .i64 (types.getD nb default).off) := hcb 3 _ rfl
  have hb4 : w.cell? ⟨bXa, offa + nb * 10 + 4, none⟩ = some (.int .i64 (types.getD nb default).den) := hcb 4 _ rfl
  have hb5 : w.cell? ⟨bXa, offa + nb * 10 + 5, none⟩ = some (.int .i64 (types.getD nb default).m) := hcb 5 _ rfl
  have hb6 : w.cell? ⟨bXa, offa + nb * 10 + 6, none⟩ = some (.int .i64 (types.getD nb default).kg) := hcb 6 _ rfl
  have hb7 : w.cell? ⟨bXa, offa + nb * 10 + 7, none⟩ = some (.int .i64 (types.getD nb default).s) := hcb 7 _ rfl
  have hb8 : w.cell? ⟨bXa, offa + nb * 10 + 8, none⟩ = some (.int .i64 (types.getD nb default).a) := hcb 8 _ rfl
  have hb9 : w.cell? ⟨bXa, offa + nb * 10 + 9, none⟩ = some (.int .i64 (types.getD nb default).k) := hcb 9 _ rfl
  clear hcb
  generalize (types.getD na default) = Ta at *
  obtain ⟨va0, va1, va2, va3, va4, va5, va6, va7, va8, va9⟩ := Ta
  generalize (types.getD nb default) = Tb at *
  obtain ⟨vb0, vb1, vb2, vb3, vb4, vb5, vb6, vb7, vb8, vb9⟩ := Tb
  simp only at ha0 ha1 ha2 ha3 ha4 ha5 ha6 ha7 ha8 ha9 hb0 hb1 hb2 hb3 hb4 hb5 hb6 hb7 hb8 hb9 ⊢
  have ia : (na : Int) < (types.length : Int) := by omega
  have ja : (0 : Int) ≤ (na : Int) := by omega
  have ib : (nb : Int) < (types.length : Int) := by omega
  have jb : (0 : Int) ≤ (nb : Int) := by omega
  clear hS
  have q1 : bXa < w.heap.size + 1 := by omega
  have q2 : bXa < w.heap.size + 1 + 1 := by omega
  have q3 : bXa < w.heap.size + 1 + 1 + 1 := by omega
  have q4 : bXa < w.heap.size + 1 + 1 + 1 + 1 := by omega
  have ml : (types.length : Int) ≤ 9223372036854775807 := by omega
  go_enter Try.func107, Try.ntmps107
  go_wp2_with (first | (go_at_call 120; refine (split_any k hk _).mono ?_; rintro e w' ⟨rfl, rfl⟩; rw [hna, hnb, hnt]))
  refine cap_world2 (P := fun W => Code.wp _ _ _ _ W) _ ?_
  intro W9 hW9
  have f00 : W9.cell? ⟨w.heap.size + 1 + 1, 0, none⟩ = some (.int .i64 va0) := by rw [hW9]; first | go_keep | (simp [go_sem, *]; done)
  have f01 : W9.cell? ⟨w.heap.size + 1 + 1, 1, none⟩ = some (.bool va1) := by rw [hW9]; first | go_keep | (simp [go_sem, *]; done)
  have f02 : W9.cell? ⟨w.heap.size + 1 + 1, 2, none⟩ = some (.int .i64 va2) := by rw [hW9]; first | go_keep | (simp [go_sem, *]; done)
  have f03 : W9.cell? ⟨w.heap.size + 1 + 1, 3, none⟩ = some (.int .i64 va3) := by rw [hW9]; first | go_keep | (simp [go_sem, *]; done)
  have f04 : W9.cell? ⟨w.heap.size + 1 + 1, 4, none⟩ = some (.int .i64 va4) := by rw [hW9]; first | go_keep | (simp [go_sem, *]; done)
  have f05 : W9.cell? ⟨w.heap.size + 1 + 1, 5, none⟩ = some (.int .i64 va5) := by rw [hW9]; first | go_keep | (simp [go_sem, *]; done)
  have f06 : W9.cell? ⟨w.heap.size + 1 + 1, 6, none⟩ = some (.int .i64 va6) := by rw [hW9]; first | go_keep | (simp [go_sem, *]; done)
  have f07 : W9.cell? ⟨w.heap.size + 1 + 1, 7, none⟩ = some (.int .i64 va7) := by rw [hW9]; first | go_keep | (simp [go_sem, *]; done)
  have f08 : W9.cell? ⟨w.heap.size + 1 + 1, 8, none⟩ = some (.int .i64 va8) := by rw [hW9]; first | go_keep | (simp [go_sem, *]; done)
  have f09 : W9.cell? ⟨w.heap.size + 1 + 1, 9, none⟩ = some (.int .i64 va9) := by rw [hW9]; first | go_keep | (simp [go_sem, *]; done)
  have fz0 : ∀ j, W9.frozen? ⟨w.heap.size + 1 + 1, j, none⟩ = false := fun j => by rw [hW9]; simp [go_sem]
  have f10 : W9.cell? ⟨w.heap.size + 1 + 1 + 1, 0, none⟩ = some (.int .i64 vb0) := by rw [hW9]; first | go_keep | (simp [go_sem, *]; done)
  have f11 : W9.cell? ⟨w.heap.size + 1 + 1 + 1, 1, none⟩ = some (.bool vb1) := by rw [hW9]; first | go_keep | (simp [go_sem, *]; done)
  have f12 : W9.cell? ⟨w.heap.size + 1 + 1 + 1, 2, none⟩ = some (.int .i64 vb2) := by rw [hW9]; first | go_keep | (simp [go_sem, *]; done)
  have f13 : W9.cell? ⟨w.heap.size + 1 + 1 + 1, 3, none⟩ = some (.int .i64 vb3) := by rw [hW9]; first | go_keep | (simp [go_sem, *]; done)
  have f14 : W9.cell? ⟨w.heap.size + 1 + 1 + 1, 4, none⟩ = some (.int .i64 vb4) := by rw [hW9]; first | go_keep | (simp [go_sem, *]; done)
  have f15 : W9.cell? ⟨w.heap.size + 1 + 1 + 1, 5, none⟩ = some (.int .i64 vb5) := by rw [hW9]; first | go_keep | (simp [go_sem, *]; done)
  have f16 : W9.cell? ⟨w.heap.size + 1 + 1 + 1, 6, none⟩ = some (.int .i64 vb6) := by rw [hW9]; first | go_keep | (simp [go_sem, *]; done)
  have f17 : W9.cell? ⟨w.heap.size + 1 + 1 + 1, 7, none⟩ = some (.int .i64 vb7) := by rw [hW9]; first | go_keep | (simp [go_sem, *]; done)
  have f18 : W9.cell? ⟨w.heap.size + 1 + 1 + 1, 8, none⟩ = some (.int .i64 vb8) := by rw [hW9]; first | go_keep | (simp [go_sem, *]; done)
  have f19 : W9.cell? ⟨w.heap.size + 1 + 1 + 1, 9, none⟩ = some (.int .i64 vb9) := by rw [hW9]; first | go_keep | (simp [go_sem, *]; done)
  have fz1 : ∀ j, W9.frozen? ⟨w.heap.size + 1 + 1 + 1, j, none⟩ = false := fun j => by rw [hW9]; simp [go_sem]
  have f20 : W9.cell? ⟨w.heap.size + 1 + 1 + 1 + 1, 0, none⟩ = some (.int .i64 0) := by rw [hW9]; first | go_keep | (simp [go_sem, *]; done)
  have f21 : W9.cell? ⟨w.heap.size + 1 + 1 + 1 + 1, 1, none⟩ = some (.bool false) := by rw [hW9]; first | go_keep | (simp [go_sem, *]; done)
  have f22 : W9.cell? ⟨w.heap.size + 1 + 1 + 1 + 1, 2, none⟩ = some (.int .i64 0) := by rw [hW9]; first | go_keep | (simp [go_sem, *]; done)
  have f23 : W9.cell? ⟨w.heap.size + 1 + 1 + 1 + 1, 3, none⟩ = some (.int .i64 0) := by rw [hW9]; first | go_keep | (simp [go_sem, *]; done)
  have f24 : W9.cell? ⟨w.heap.size + 1 + 1 + 1 + 1, 4, none⟩ = some (.int .i64 0) := by rw [hW9]; first | go_keep | (simp [go_sem, *]; done)
  have f25 : W9.cell? ⟨w.heap.size + 1 + 1 + 1 + 1, 5, none⟩ = some (.int .i64 0) := by rw [hW9]; first | go_keep | (simp [go_sem, *]; done)
  have f26 : W9.cell? ⟨w.heap.size + 1 + 1 + 1 + 1, 6, none⟩ = some (.int .i64 0) := by rw [hW9]; first | go_keep | (simp [go_sem, *]; done)
  have f27 : W9.cell? ⟨w.heap.size + 1 + 1 + 1 + 1, 7, none⟩ = some (.int .i64 0) := by rw [hW9]; first | go_keep | (simp [go_sem, *]; done)
  have f28 : W9.cell? ⟨w.heap.size + 1 + 1 + 1 + 1, 8, none⟩ = some (.int .i64 0) := by rw [hW9]; first | go_keep | (simp [go_sem, *]; done)
  have f29 : W9.cell? ⟨w.heap.size + 1 + 1 + 1 + 1, 9, none⟩ = some (.int .i64 0) := by rw [hW9]; first | go_keep | (simp [go_sem, *]; done)
  have fz2 : ∀ j, W9.frozen? ⟨w.heap.size + 1 + 1 + 1 + 1, j, none⟩ = false := fun j => by rw [hW9]; simp [go_sem]
  have s9 : w.heap.size + 1 + 1 + 1 + 1 < W9.heap.size := by rw [hW9]; simp only [zA, zS]; omega
  have hB9 : Below w.heap.size w W9 := by rw [hW9]; (exact bw)
  clear hW9 ha0 ha1 ha2 ha3 ha4 ha5 ha6 ha7 ha8 ha9 hb0 hb1 hb2 hb3 hb4 hb5 hb6 hb7 hb8 hb9
  have sz0 : w.heap.size + 1 + 1 < W9.heap.size := by omega
  have g00 : W9.drew.cell? ⟨w.heap.size + 1 + 1, 0, none⟩ = some (.int .i64 va0) := f00
  have k00 := setCell_self g00
  have g01 : W9.drew.cell? ⟨w.heap.size + 1 + 1, 1, none⟩ = some (.bool va1) := f01
  have k01 := setCell_self g01
  have g02 : W9.drew.cell? ⟨w.heap.size + 1 + 1, 2, none⟩ = some (.int .i64 va2) := f02
  have k02 := setCell_self g02
  have g03 : W9.drew.cell? ⟨w.heap.size + 1 + 1, 3, none⟩ = some (.int .i64 va3) := f03
  have k03 := setCell_self g03
  have g04 : W9.drew.cell? ⟨w.heap.size + 1 + 1, 4, none⟩ = some (.int .i64 va4) := f04
  have k04 := setCell_self g04
  have g05 : W9.drew.cell? ⟨w.heap.size + 1 + 1, 5, none⟩ = some (.int .i64 va5) := f05
  have k05 := setCell_self g05
  have g06 : W9.drew.cell? ⟨w.heap.size + 1 + 1, 6, none⟩ = some (.int .i64 va6) := f06
  have k06 := setCell_self g06
  have g07 : W9.drew.cell? ⟨w.heap.size + 1 + 1, 7, none⟩ = some (.int .i64 va7) := f07
  have k07 := setCell_self g07
  have g08 : W9.drew.cell? ⟨w.heap.size + 1 + 1, 8, none⟩ = some (.int .i64 va8) := f08
  have k08 := setCell_self g08
  have g09 : W9.drew.cell? ⟨w.heap.size + 1 + 1, 9, none⟩ = some (.int .i64 va9) := f09
  have k09 := setCell_self g09
  have gz0 : ∀ j, W9.drew.frozen? ⟨w.heap.size + 1 + 1, j, none⟩ = false := fz0
  have sz1 : w.heap.size + 1 + 1 + 1 < W9.heap.size := by omega
  have g10 : W9.drew.cell? ⟨w.heap.size + 1 + 1 + 1, 0, none⟩ = some (.int .i64 vb0) := f10
  have k10 := setCell_self g10
  have g11 : W9.drew.cell? ⟨w.heap.size + 1 + 1 + 1, 1, none⟩ = some (.bool vb1) := f11
  have k11 := setCell_self g11
  have g12 : W9.drew.cell? ⟨w.heap.size + 1 + 1 + 1, 2, none⟩ = some (.int .i64 vb2) := f12
  have k12 := setCell_self g12
  have g13 : W9.drew.cell? ⟨w.heap.size + 1 + 1 + 1, 3, none⟩ = some (.int .i64 vb3) := f13
  have k13 := setCell_self g13
  have g14 : W9.drew.cell? ⟨w.heap.size + 1 + 1 + 1, 4, none⟩ = some (.int .i64 vb4) := f14
  have k14 := setCell_self g14
  have g15 : W9.drew.cell? ⟨w.heap.size + 1 + 1 + 1, 5, none⟩ = some (.int .i64 vb5) := f15
  have k15 := setCell_self g15
  have g16 : W9.drew.cell? ⟨w.heap.size + 1 + 1 + 1, 6, none⟩ = some (.int .i64 vb6) := f16
  have k16 := setCell_self g16
  have g17 : W9.drew.cell? ⟨w.heap.size + 1 + 1 + 1, 7, none⟩ = some (.int .i64 vb7) := f17
  have k17 := setCell_self g17
  have g18 : W9.drew.cell? ⟨w.heap.size + 1 + 1 + 1, 8, none⟩ = some (.int .i64 vb8) := f18
  have k18 := setCell_self g18
  have g19 : W9.drew.cell? ⟨w.heap.size + 1 + 1 + 1, 9, none⟩ = some (.int .i64 vb9) := f19
  have k19 := setCell_self g19
  have gz1 : ∀ j, W9.drew.frozen? ⟨w.heap.size + 1 + 1 + 1, j, none⟩ = false := fz1
  have sz2 : w.heap.size + 1 + 1 + 1 + 1 < W9.heap.size := by omega
  have g20 : W9.drew.cell? ⟨w.heap.size + 1 + 1 + 1 + 1, 0, none⟩ = some (.int .i64 0) := f20
  have k20 := setCell_self g20
  have g21 : W9.drew.cell? ⟨w.heap.size + 1 + 1 + 1 + 1, 1, none⟩ = some (.bool false) := f21
  have k21 := setCell_self g21
  have g22 : W9.drew.cell? ⟨w.heap.size + 1 + 1 + 1 + 1, 2, none⟩ = some (.int .i64 0) := f22
  have k22 := setCell_self g22
  have g23 : W9.drew.cell? ⟨w.heap.size + 1 + 1 + 1 + 1, 3, none⟩ = some (.int .i64 0) := f23
  have k23 := setCell_self g23
  have g24 : W9.drew.cell? ⟨w.heap.size + 1 + 1 + 1 + 1, 4, none⟩ = some (.int .i64 0) := f24
  have k24 := setCell_self g24
  have g25 : W9.drew.cell? ⟨w.heap.size + 1 + 1 + 1 + 1, 5, none⟩ = some (.int .i64 0) := f25
  have k25 := setCell_self g25
  have g26 : W9.drew.cell? ⟨w.heap.size + 1 + 1 + 1 + 1, 6, none⟩ = some (.int .i64 0) := f26
  have k26 := setCell_self g26
  have g27 : W9.drew.cell? ⟨w.heap.size + 1 + 1 + 1 + 1, 7, none⟩ = some (.int .i64 0) := f27
  have k27 := setCell_self g27
  have g28 : W9.drew.cell? ⟨w.heap.size + 1 + 1 + 1 + 1, 8, none⟩ = some (.int .i64 0) := f28
  have k28 := setCell_self g28
  have g29 : W9.drew.cell? ⟨w.heap.size + 1 + 1 + 1 + 1, 9, none⟩ = some (.int .i64 0) := f29
  have k29 := setCell_self g29
  have gz2 : ∀ j, W9.drew.frozen? ⟨w.heap.size + 1 + 1 + 1 + 1, j, none⟩ = false := fz2
  clear f00 f01 f02 f03 f04 f05 f06 f07 f08 f09 f10 f11 f12 f13 f14 f15 f16 f17 f18 f19 f20 f21 f22 f23 f24 f25 f26 f27 f28 f29
  go_region_held3 (fun w' => w' = W9.drew) (first | rfl | assumption | (simp [*]; done)) (fail)
  all_goals go_wp2
  all_goals refine bodyPost_ret (by simp [results, Try.results107, go_sem, *]; try rfl) rfl ?_
  all_goals exact ⟨rfl, hB9.drew⟩
abbrev ty_13_ok := @tw_13_ok 13 (Or.inl rfl)
abbrev ty_14_ok := @tw_13_ok 14 (Or.inr rfl)
def tA (k : Int) : Nat := (k / 16384).toNat
def tB (k : Int) : Nat := (k / 128 % 128).toNat
def tT (k : Int) : Nat := (k % 128).toNat
def okT (n : Nat) (op k : Int) : Bool := decide (tA k < n) && ((decide (op = 9 ∨ op = 10) || decide (tB k < n)) && (decide (op = 13 ∨ op = 14) || decide (tT k < n)))
def tyB (types : List Fx) (op k : Int) : Fx := if op = 9 ∨ op = 10 then default else types.getD (tB k) default
def tyT (types : List Fx) (op k : Int) : Fx := if op = 13 ∨ op = 14 then default else types.getD (tT k) default
def fitB (cells : Int) (nv nm : Nat) (types : List Fx) (i : Ins) : Bool :=
 formB i.op i.a i.b i.c i.k && (
  if i.op = 2 ∨ i.op = 3 then decide (i.k < cells)
  else if i.op = 20 then decide (i.k < nv)
  else if i.op = 21 then decide (i.k < nm)
  else if i.op = 22 then decide (i.k / 32 + 1 < cells)
  else if typB i.op = true then okT types.length i.op i.k && unitsB i.op (types.getD (tA i.k) default) (tyB types i.op i.k) (tyT types i.op i.k)
  else true)
section
variable (rc : Option Addr) (lc cc : Nat) (rt : Option Addr) (ct : Nat) (types : List Fx) (rv : Option Addr) (lv cv : Nat) (rm : Option Addr) (lm cm : Nat) (cells : Int) (ri : Option Addr) (li ci : Nat) (rs : Option Addr) (ls cs : Nat) (ro : Option Addr) (lo co : Nat) (rn : Option Addr) (ln cn : Nat)
theorem tAs {k : Int} (h : 0 ≤ k) : k / 16384 = (tA k : Int) ∧ k / 128 % 128 = (tB k : Int) ∧ k % 128 = (tT k : Int) := by
 unfold tA tB tT
 omega
theorem ty_bad (op a b c k : Int) (hk : I64 k) (h0 : 0 ≤ k) (hok : okT types.length op k = false) (w : World) (hS : IsS 10 Fx.enc w rt ct types) : Calls Try.prog 107 #[.agg #[.slice rc lc cc, .slice rt types.length ct, .slice rv lv cv, .slice rm lm cm, .int .i64 cells, .slice ri li ci, .slice rs ls cs, .slice ro lo co, .slice rn ln cn], .agg #[.int .i64 op, .int .i64 a, .int .i64 b, .int .i64 c, .int .i64 k]] w fun e w' => e = .returned (.tuple #[.agg #[.int .i64 0, .bool false, .int .i64 0, .int .i64 0, .int .i64 0, .int .i64 0, .int .i64 0, .int .i64 0, .int .i64 0, .int .i64 0], .agg #[.int .i64 0, .bool false, .int .i64 0, .int .i64 0, .int .i64 0, .int .i64 0, .int .i64 0, .int .i64 0, .int .i64 0, .int .i64 0], .agg #[.int .i64 0, .bool false, .int .i64 0, .int .i64 0, .int .i64 0, .int .i64 0, .int .i64 0, .int .i64 0, .int .i64 0, .int .i64 0], .bool false]) ∧ Below w.heap.size w w' := by
 obtain ⟨e1, e2, e3⟩ := tAs h0
 by_cases ha : tA k < types.length
 ·
  by_cases o9 : op = 9
  ·
   subst o9
   exact ty_9_t rc lc cc rt ct types rv lv cv rm lm cm cells ri li ci rs ls cs ro lo co rn ln cn a b c k (tA k) (tB k) (tT k) hk e1 e2 e3 ha (by unfold okT at hok; simp at hok; omega) w hS
  by_cases o10 : op = 10
  ·
   subst o10
   exact ty_10_t rc lc cc rt ct types rv lv cv rm lm cm cells ri li ci rs ls cs ro lo co rn ln cn a b c k (tA k) (tB k) (tT k) hk e1 e2 e3 ha (by unfold okT at hok; simp at hok; omega) w hS
  by_cases o13 : op = 13
  ·
   subst o13
   by_cases hb : tB k < types.length
   ·
    exfalso
    have hh := hok
    unfold okT at hh
    simp at hh
    omega
   exact ty_13_b rc lc cc rt ct types rv lv cv rm lm cm cells ri li ci rs ls cs ro lo co rn ln cn a b c k (tA k) (tB k) (tT k) hk e1 e2 e3 ha (by omega) w hS
  by_cases o14 : op = 14
  ·
   subst o14
   by_cases hb : tB k < types.length
   ·
    exfalso
    have hh := hok
    unfold okT at hh
    simp at hh
    omega
   exact ty_14_b rc lc cc rt ct types rv lv cv rm lm cm cells ri li ci rs ls cs ro lo co rn ln cn a b c k (tA k) (tB k) (tT k) hk e1 e2 e3 ha (by omega) w hS
  by_cases hb : tB k < types.length
  ·
   exact ty_n_t rc lc cc rt ct types rv lv cv rm lm cm cells ri li ci rs ls cs ro lo co rn ln cn op a b c k (tA k) (tB k) (tT k) hk e1 e2 e3 o9 o10 o13 o14 ha hb (by unfold okT at hok; simp at hok; omega) w hS
  exact ty_n_b rc lc cc rt ct types rv lv cv rm lm cm cells ri li ci rs ls cs ro lo co rn ln cn op a b c k (tA k) (tB k) (tT k) hk e1 e2 e3 o9 o10 o13 o14 ha (by omega) w hS
 by_cases o9 : op = 9
 ·
  subst o9
  exact ty_9_a rc lc cc rt ct types rv lv cv rm lm cm cells ri li ci rs ls cs ro lo co rn ln cn a b c k (tA k) (tB k) (tT k) hk e1 e2 e3 (by omega) w hS
 by_cases o10 : op = 10
 ·
  subst o10
  exact ty_10_a rc lc cc rt ct types rv lv cv rm lm cm cells ri li ci rs ls cs ro lo co rn ln cn a b c k (tA k) (tB k) (tT k) hk e1 e2 e3 (by omega) w hS
 by_cases o13 : op = 13
 ·
  subst o13
  exact ty_13_a rc lc cc rt ct types rv lv cv rm lm cm cells ri li ci rs ls cs ro lo co rn ln cn a b c k (tA k) (tB k) (tT k) hk e1 e2 e3 (by omega) w hS
 by_cases o14 : op = 14
 ·
  subst o14
  exact ty_14_a rc lc cc rt ct types rv lv cv rm lm cm cells ri li ci rs ls cs ro lo co rn ln cn a b c k (tA k) (tB k) (tT k) hk e1 e2 e3 (by omega) w hS
 exact ty_n_a rc lc cc rt ct types rv lv cv rm lm cm cells ri li ci rs ls cs ro lo co rn ln cn op a b c k (tA k) (tB k) (tT k) hk e1 e2 e3 o9 o10 o13 o14 (by omega) w hS
theorem ty_ok (op a b c k : Int) (hk : I64 k) (h0 : 0 ≤ k) (hok : okT types.length op k = true) (w : World) (hS : IsS 10 Fx.enc w rt ct types) : Calls Try.prog 107 #[.agg #[.slice rc lc cc, .slice rt types.length ct, .slice rv lv cv, .slice rm lm cm, .int .i64 cells, .slice ri li ci, .slice rs ls cs, .slice ro lo co, .slice rn ln cn], .agg #[.int .i64 op, .int .i64 a, .int .i64 b, .int .i64 c, .int .i64 k]] w fun e w' => e = .returned (.tuple #[.agg #[.int .i64 (types.getD (tA k) default).bits, .bool (types.getD (tA k) default).sg, .int .i64 (types.getD (tA k) default).num, .int .i64 (types.getD (tA k) default).off, .int .i64 (types.getD (tA k) default).den, .int .i64 (types.getD (tA k) default).m, .int .i64 (types.getD (tA k) default).kg, .int .i64 (types.getD (tA k) default).s, .int .i64 (types.getD (tA k) default).a, .int .i64 (types.getD (tA k) default).k], .agg #[.int .i64 (tyB types op k).bits, .bool (tyB types op k).sg, .int .i64 (tyB types op k).num, .int .i64 (tyB types op k).off, .int .i64 (tyB types op k).den, .int .i64 (tyB types op k).m, .int .i64 (tyB types op k).kg, .int .i64 (tyB types op k).s, .int .i64 (tyB types op k).a, .int .i64 (tyB types op k).k], .agg #[.int .i64 (tyT types op k).bits, .bool (tyT types op k).sg, .int .i64 (tyT types op k).num, .int .i64 (tyT types op k).off, .int .i64 (tyT types op k).den, .int .i64 (tyT types op k).m, .int .i64 (tyT types op k).kg, .int .i64 (tyT types op k).s, .int .i64 (tyT types op k).a, .int .i64 (tyT types op k).k], .bool true]) ∧ Below w.heap.size w w' := by
 obtain ⟨e1, e2, e3⟩ := tAs h0
 have ha : tA k < types.length := by unfold okT at hok; simp at hok; omega
 by_cases o9 : op = 9
 ·
  subst o9
  have ht : tT k < types.length := by unfold okT at hok; simp at hok; omega
  have h := ty_9_ok rc lc cc rt ct types rv lv cv rm lm cm cells ri li ci rs ls cs ro lo co rn ln cn a b c k (tA k) (tB k) (tT k) hk e1 e2 e3 ha ht w hS
  rw [show tyB types 9 k = default by unfold tyB; simp, show tyT types 9 k = types.getD (tT k) default by unfold tyT; simp]
  exact h
 by_cases o10 : op = 10
 ·
  subst o10
  have ht : tT k < types.length := by unfold okT at hok; simp at hok; omega
  have h := ty_10_ok rc lc cc rt ct types rv lv cv rm lm cm cells ri li ci rs ls cs ro lo co rn ln cn a b c k (tA k) (tB k) (tT k) hk e1 e2 e3 ha ht w hS
  rw [show tyB types 10 k = default by unfold tyB; simp, show tyT types 10 k = types.getD (tT k) default by unfold tyT; simp]
  exact h
 by_cases o13 : op = 13
 ·
  subst o13
  have hb : tB k < types.length := by unfold okT at hok; simp at hok; omega
  have h := ty_13_ok rc lc cc rt ct types rv lv cv rm lm cm cells ri li ci rs ls cs ro lo co rn ln cn a b c k (tA k) (tB k) (tT k) hk e1 e2 e3 ha hb w hS
  rw [show tyB types 13 k = types.getD (tB k) default by unfold tyB; simp, show tyT types 13 k = default by unfold tyT; simp]
  exact h
 by_cases o14 : op = 14
 ·
  subst o14
  have hb : tB k < types.length := by unfold okT at hok; simp at hok; omega
  have h := ty_14_ok rc lc cc rt ct types rv lv cv rm lm cm cells ri li ci rs ls cs ro lo co rn ln cn a b c k (tA k) (tB k) (tT k) hk e1 e2 e3 ha hb w hS
  rw [show tyB types 14 k = types.getD (tB k) default by unfold tyB; simp, show tyT types 14 k = default by unfold tyT; simp]
  exact h
 have hb : tB k < types.length := by unfold okT at hok; simp at hok; omega
 have ht : tT k < types.length := by unfold okT at hok; simp at hok; omega
 have h := ty_n_ok rc lc cc rt ct types rv lv cv rm lm cm cells ri li ci rs ls cs ro lo co rn ln cn op a b c k (tA k) (tB k) (tT k) hk e1 e2 e3 o9 o10 o13 o14 ha hb ht w hS
 rw [show tyB types op k = types.getD (tB k) default by unfold tyB; simp [o9, o10], show tyT types op k = types.getD (tT k) default by unfold tyT; simp [o13, o14]]
 exact h
end
section
variable (rc : Option Addr) (lc cc : Nat) (rt : Option Addr) (ct : Nat) (types : List Fx) (rv : Option Addr) (lv cv : Nat) (rm : Option Addr) (lm cm : Nat) (cells : Int) (ri : Option Addr) (li ci : Nat) (rs : Option Addr) (ls cs : Nat) (ro : Option Addr) (lo co : Nat) (rn : Option Addr) (ln cn : Nat)
theorem formed_v {op a b c k : Int} {v : Bool} (hk : I64 k) (h : formB op a b c k = v) (w : World) : Calls Try.prog 105 #[.agg #[.int .i64 op, .int .i64 a, .int .i64 b, .int .i64 c, .int .i64 k]] w fun e w' => e = .returned (.bool v) ∧ Below w.heap.size w w' := by
 subst h
 exact formed_any op a b c k hk w
theorem form_k {op a b c k : Int} (h : formB op a b c k = true) (ht : typB op = true) : 0 ≤ k := by
 unfold formB at h
 simp only [Bool.and_eq_true] at h
 obtain ⟨_, _, _, _, h⟩ := h
 split at h
 ·
  unfold kOk at h
  have h5 := ht
  unfold typB at h5
  simp at h5
  repeat' split at h
  all_goals first | omega | (simp at h; omega)
 ·
  simp at h; omega
set_option maxRecDepth 100000 in
theorem fi_bad (op a b c k : Int) (hk : I64 k) (hf : formB op a b c k = false) (w : World) (hS : IsS 10 Fx.enc w rt ct types) : Calls Try.prog 67 #[.agg #[.slice rc lc cc, .slice rt types.length ct, .slice rv lv cv, .slice rm lm cm, .int .i64 cells, .slice ri li ci, .slice rs ls cs, .slice ro lo co, .slice rn ln cn], .agg #[.int .i64 op, .int .i64 a, .int .i64 b, .int .i64 c, .int .i64 k]] w fun e w' => e = .returned (.bool (false)) ∧ Below w.heap.size w w' := by
 have HF : Hid (formB op a b c k = false) := H! hf
 clear hf
 go_enter Try.func67, Try.ntmps67
 go_wp2_with (first | (go_at_call 105; refine (formed_v hk HF.out _).mono ?_; rintro _ w1 ⟨rfl, hb1⟩; obtain ⟨hb1c, hb1f⟩ := bcell hb1; have hb1s := hb1.size; (try simp only [zA] at hb1s); have hx0 : w.heap.size < w1.heap.size := (by omega); have hx1 : w.heap.size + 1 < w1.heap.size := (by omega)))
 all_goals go_ret
 all_goals exact ⟨by first | rfl | (simp [*]; done), bw⟩
set_option maxRecDepth 100000 in
theorem fi_2 (a b c k : Int) (hk : I64 k) (hf : formB 2 a b c k = true) (w : World) (hS : IsS 10 Fx.enc w rt ct types) : Calls Try.prog 67 #[.agg #[.slice rc lc cc, .slice rt types.length ct, .slice rv lv cv, .slice rm lm cm, .int .i64 cells, .slice ri li ci, .slice rs ls cs, .slice ro lo co, .slice rn ln cn], .agg #[.int .i64 2, .int .i64 a, .int .i64 b, .int .i64 c, .int .i64 k]] w fun e w' => e = .returned (.bool (decide (k < cells))) ∧ Below w.heap.size w w' := by
 have HF : Hid (formB 2 a b c k = true) := H! hf
 clear hf
 go_enter Try.func67, Try.ntmps67
 go_wp2_with (first | (go_at_call 105; refine (formed_v hk HF.out _).mono ?_; rintro _ w1 ⟨rfl, hb1⟩; obtain ⟨hb1c, hb1f⟩ := bcell hb1; have hb1s := hb1.size; (try simp only [zA] at hb1s); have hx0 : w.heap.size < w1.heap.size := (by omega); have hx1 : w.heap.size + 1 < w1.heap.size := (by omega)))
 all_goals go_ret
 all_goals exact ⟨by first | rfl | (simp [*]; done), bw⟩
set_option maxRecDepth 100000 in
theorem fi_3 (a b c k : Int) (hk : I64 k) (hf : formB 3 a b c k = true) (w : World) (hS : IsS 10 Fx.enc w rt ct types) : Calls Try.prog 67 #[.agg #[.slice rc lc cc, .slice rt types.length ct, .slice rv lv cv, .slice rm lm cm, .int .i64 cells, .slice ri li ci, .slice rs ls cs, .slice ro lo co, .slice rn ln cn], .agg #[.int .i64 3, .int .i64 a, .int .i64 b, .int .i64 c, .int .i64 k]] w fun e w' => e = .returned (.bool (decide (k < cells))) ∧ Below w.heap.size w w' := by
 have HF : Hid (formB 3 a b c k = true) := H! hf
 clear hf
 go_enter Try.func67, Try.ntmps67
 go_wp2_with (first | (go_at_call 105; refine (formed_v hk HF.out _).mono ?_; rintro _ w1 ⟨rfl, hb1⟩; obtain ⟨hb1c, hb1f⟩ := bcell hb1; have hb1s := hb1.size; (try simp only [zA] at hb1s); have hx0 : w.heap.size < w1.heap.size := (by omega); have hx1 : w.heap.size + 1 < w1.heap.size := (by omega)))
 all_goals go_ret
 all_goals exact ⟨by first | rfl | (simp [*]; done), bw⟩
set_option maxRecDepth 100000 in
theorem fi_20 (a b c k : Int) (hk : I64 k) (hf : formB 20 a b c k = true) (w : World) (hS : IsS 10 Fx.enc w rt ct types) : Calls Try.prog 67 #[.agg #[.slice rc lc cc, .slice rt types.length ct, .slice rv lv cv, .slice rm lm cm, .int .i64 cells, .slice ri li ci, .slice rs ls cs, .slice ro lo co, .slice rn ln cn], .agg #[.int .i64 20, .int .i64 a, .int .i64 b, .int .i64 c, .int .i64 k]] w fun e w' => e = .returned (.bool (decide (k < lv))) ∧ Below w.heap.size w w' := by
 have HF : Hid (formB 20 a b c k = true) := H! hf
 clear hf
 go_enter Try.func67, Try.ntmps67
 go_wp2_with (first | (go_at_call 105; refine (formed_v hk HF.out _).mono ?_; rintro _ w1 ⟨rfl, hb1⟩; obtain ⟨hb1c, hb1f⟩ := bcell hb1; have hb1s := hb1.size; (try simp only [zA] at hb1s); have hx0 : w.heap.size < w1.heap.size := (by omega); have hx1 : w.heap.size + 1 < w1.heap.size := (by omega)))
 all_goals go_ret
 all_goals exact ⟨by first | rfl | (simp [*]; done), bw⟩
set_option maxRecDepth 100000 in
theorem fi_21 (a b c k : Int) (hk : I64 k) (hf : formB 21 a b c k = true) (w : World) (hS : IsS 10 Fx.enc w rt ct types) : Calls Try.prog 67 #[.agg #[.slice rc lc cc, .slice rt types.length ct, .slice rv lv cv, .slice rm lm cm, .int .i64 cells, .slice ri li ci, .slice rs ls cs, .slice ro lo co, .slice rn ln cn], .agg #[.int .i64 21, .int .i64 a, .int .i64 b, .int .i64 c, .int .i64 k]] w fun e w' => e = .returned (.bool (decide (k < lm))) ∧ Below w.heap.size w w' := by
 have HF : Hid (formB 21 a b c k = true) := H! hf
 clear hf
 go_enter Try.func67, Try.ntmps67
 go_wp2_with (first | (go_at_call 105; refine (formed_v hk HF.out _).mono ?_; rintro _ w1 ⟨rfl, hb1⟩; obtain ⟨hb1c, hb1f⟩ := bcell hb1; have hb1s := hb1.size; (try simp only [zA] at hb1s); have hx0 : w.heap.size < w1.heap.size := (by omega); have hx1 : w.heap.size + 1 < w1.heap.size := (by omega)))
 all_goals go_ret
 all_goals exact ⟨by first | rfl | (simp [*]; done), bw⟩
set_option maxRecDepth 100000 in
theorem fi_22 (a b c k : Int) (hk : I64 k) (hf : formB 22 a b c k = true) (w : World) (hS : IsS 10 Fx.enc w rt ct types) : Calls Try.prog 67 #[.agg #[.slice rc lc cc, .slice rt types.length ct, .slice rv lv cv, .slice rm lm cm, .int .i64 cells, .slice ri li ci, .slice rs ls cs, .slice ro lo co, .slice rn ln cn], .agg #[.int .i64 22, .int .i64 a, .int .i64 b, .int .i64 c, .int .i64 k]] w fun e w' => e = .returned (.bool (decide (k / 32 + 1 < cells))) ∧ Below w.heap.size w w' := by
 have hw : IntKind.i64.wrap (k / 32 + 1) = k / 32 + 1 := IntWalk.i64_in _ (by have := I64.bd hk; omega)
 have HF : Hid (formB 22 a b c k = true) := H! hf
 clear hf
 go_enter Try.func67, Try.ntmps67
 go_wp2_with (first | (go_at_call 105; refine (formed_v hk HF.out _).mono ?_; rintro _ w1 ⟨rfl, hb1⟩; obtain ⟨hb1c, hb1f⟩ := bcell hb1; have hb1s := hb1.size; (try simp only [zA] at hb1s); have hx0 : w.heap.size < w1.heap.size := (by omega); have hx1 : w.heap.size + 1 < w1.heap.size := (by omega)))
 all_goals go_ret
 all_goals exact ⟨by first | rfl | (simp [*]; done), bw⟩
set_option maxRecDepth 100000 in
theorem fi_o (op a b c k : Int) (hk : I64 k) (n2 : ¬ op = 2) (n3 : ¬ op = 3) (n20 : ¬ op = 20) (n21 : ¬ op = 21) (n22 : ¬ op = 22) (ht : typB op = false) (hf : formB op a b c k = true) (w : World) (hS : IsS 10 Fx.enc w rt ct types) : Calls Try.prog 67 #[.agg #[.slice rc lc cc, .slice rt types.length ct, .slice rv lv cv, .slice rm lm cm, .int .i64 cells, .slice ri li ci, .slice rs ls cs, .slice ro lo co, .slice rn ln cn], .agg #[.int .i64 op, .int .i64 a, .int .i64 b, .int .i64 c, .int .i64 k]] w fun e w' => e = .returned (.bool (true)) ∧ Below w.heap.size w w' := by
 have e2 : (op == 2) = false := by simp [n2]
 have e3 : (op == 3) = false := by simp [n3]
 have e20 : (op == 20) = false := by simp [n20]
 have e21 : (op == 21) = false := by simp [n21]
 have e22 : (op == 22) = false := by simp [n22]
 have HT := H! ht
 clear ht
 have HF : Hid (formB op a b c k = true) := H! hf
 clear hf
 go_enter Try.func67, Try.ntmps67
 go_wp2_with (first | (go_at_call 105; refine (formed_v hk HF.out _).mono ?_; rintro _ w1 ⟨rfl, hb1⟩; obtain ⟨hb1c, hb1f⟩ := bcell hb1; have hb1s := hb1.size; (try simp only [zA] at hb1s); have hx0 : w.heap.size < w1.heap.size := (by omega); have hx1 : w.heap.size + 1 < w1.heap.size := (by omega)) | (go_at_call 106; refine (typed_v HT.out _).mono ?_; rintro e w' ⟨rfl, rfl⟩))
 all_goals go_ret
 all_goals exact ⟨by first | rfl | (simp [*]; done), bw⟩
set_option maxRecDepth 100000 in
theorem fi_tb (op a b c k : Int) (hk : I64 k) (n2 : ¬ op = 2) (n3 : ¬ op = 3) (n20 : ¬ op = 20) (n21 : ¬ op = 21) (n22 : ¬ op = 22) (ht : typB op = true) (h0 : 0 ≤ k) (hf : formB op a b c k = true) (hok : okT types.length op k = false) (w : World) (hS : IsS 10 Fx.enc w rt ct types) : Calls Try.prog 67 #[.agg #[.slice rc lc cc, .slice rt types.length ct, .slice rv lv cv, .slice rm lm cm, .int .i64 cells, .slice ri li ci, .slice rs ls cs, .slice ro lo co, .slice rn ln cn], .agg #[.int .i64 op, .int .i64 a, .int .i64 b, .int .i64 c, .int .i64 k]] w fun e w' => e = .returned (.bool (false)) ∧ Below w.heap.size w w' := by
 have e2 : (op == 2) = false := by simp [n2]
 have e3 : (op == 3) = false := by simp [n3]
 have e20 : (op == 20) = false := by simp [n20]
 have e21 : (op == 21) = false := by simp [n21]
 have e22 : (op == 22) = false := by simp [n22]
 have HT := H! ht
 have HTY : Hid (∀ W, Below w.heap.size w W → Calls Try.prog 107 #[.agg #[.slice rc lc cc, .slice rt types.length ct, .slice rv lv cv, .slice rm lm cm, .int .i64 cells, .slice ri li ci, .slice rs ls cs, .slice ro lo co, .slice rn ln cn], .agg #[.int .i64 op, .int .i64 a, .int .i64 b, .int .i64 c, .int .i64 k]] W fun e w' => e = .returned (.tuple #[.agg #[.int .i64 0, .bool false, .int .i64 0, .int .i64 0, .int .i64 0, .int .i64 0, .int .i64 0, .int .i64 0, .int .i64 0, .int .i64 0], .agg #[.int .i64 0, .bool false, .int .i64 0, .int .i64 0, .int .i64 0, .int .i64 0, .int .i64 0, .int .i64 0, .int .i64 0, .int .i64 0], .agg #[.int .i64 0, .bool false, .int .i64 0, .int .i64 0, .int .i64 0, .int .i64 0, .int .i64 0, .int .i64 0, .int .i64 0, .int .i64 0], .bool false]) ∧ Below W.heap.size W w') := H! (fun W hW => ty_bad rc lc cc rt ct types rv lv cv rm lm cm cells ri li ci rs ls cs ro lo co rn ln cn op a b c k hk h0 hok W (hS.later hW))
 clear ht hS
 have HF : Hid (formB op a b c k = true) := H! hf
 clear hf
 go_enter Try.func67, Try.ntmps67
 go_wp2_with (first | (go_at_call 105; refine (formed_v hk HF.out _).mono ?_; rintro _ w1 ⟨rfl, hb1⟩; obtain ⟨hb1c, hb1f⟩ := bcell hb1; have hb1s := hb1.size; (try simp only [zA] at hb1s); have hx0 : w.heap.size < w1.heap.size := (by omega); have hx1 : w.heap.size + 1 < w1.heap.size := (by omega)) | (go_at_call 106; refine (typed_v HT.out _).mono ?_; rintro e w' ⟨rfl, rfl⟩) | (go_at_call 107; refine (HTY.out _ bw).mono ?_; rintro _ w2 ⟨rfl, hb2⟩; obtain ⟨hb2c, hb2f⟩ := bcell hb2; have hb2s := hb2.size; have hy0 : w.heap.size < w2.heap.size := (by omega); have hy1 : w.heap.size + 1 < w2.heap.size := (by omega)))
 all_goals go_ret
 all_goals exact ⟨by first | rfl | (simp [*]; done), bw⟩
set_option maxRecDepth 100000 in
theorem fi_tk (op a b c k : Int) (hk : I64 k) (n2 : ¬ op = 2) (n3 : ¬ op = 3) (n20 : ¬ op = 20) (n21 : ¬ op = 21) (n22 : ¬ op = 22) (ht : typB op = true) (h0 : 0 ≤ k) (hf : formB op a b c k = true) (hok : okT types.length op k = true) (w : World) (hS : IsS 10 Fx.enc w rt ct types) : Calls Try.prog 67 #[.agg #[.slice rc lc cc, .slice rt types.length ct, .slice rv lv cv, .slice rm lm cm, .int .i64 cells, .slice ri li ci, .slice rs ls cs, .slice ro lo co, .slice rn ln cn], .agg #[.int .i64 op, .int .i64 a, .int .i64 b, .int .i64 c, .int .i64 k]] w fun e w' => e = .returned (.bool (unitsB op (types.getD (tA k) default) (tyB types op k) (tyT types op k))) ∧ Below w.heap.size w w' := by
 have e2 : (op == 2) = false := by simp [n2]
 have e3 : (op == 3) = false := by simp [n3]
 have e20 : (op == 20) = false := by simp [n20]
 have e21 : (op == 21) = false := by simp [n21]
 have e22 : (op == 22) = false := by simp [n22]
 have HT := H! ht
 have HTY : Hid (∀ W, Below w.heap.size w W → Calls Try.prog 107 #[.agg #[.slice rc lc cc, .slice rt types.length ct, .slice rv lv cv, .slice rm lm cm, .int .i64 cells, .slice ri li ci, .slice rs ls cs, .slice ro lo co, .slice rn ln cn], .agg #[.int .i64 op, .int .i64 a, .int .i64 b, .int .i64 c, .int .i64 k]] W fun e w' => e = .returned (.tuple #[.agg #[.int .i64 (types.getD (tA k) default).bits, .bool (types.getD (tA k) default).sg, .int .i64 (types.getD (tA k) default).num, .int .i64 (types.getD (tA k) default).off, .int .i64 (types.getD (tA k) default).den, .int .i64 (types.getD (tA k) default).m, .int .i64 (types.getD (tA k) default).kg, .int .i64 (types.getD (tA k) default).s, .int .i64 (types.getD (tA k) default).a, .int .i64 (types.getD (tA k) default).k], .agg #[.int .i64 (tyB types op k).bits, .bool (tyB types op k).sg, .int .i64 (tyB types op k).num, .int .i64 (tyB types op k).off, .int .i64 (tyB types op k).den, .int .i64 (tyB types op k).m, .int .i64 (tyB types op k).kg, .int .i64 (tyB types op k).s, .int .i64 (tyB types op k).a, .int .i64 (tyB types op k).k], .agg #[.int .i64 (tyT types op k).bits, .bool (tyT types op k).sg, .int .i64 (tyT types op k).num, .int .i64 (tyT types op k).off, .int .i64 (tyT types op k).den, .int .i64 (tyT types op k).m, .int .i64 (tyT types op k).kg, .int .i64 (tyT types op k).s, .int .i64 (tyT types op k).a, .int .i64 (tyT types op k).k], .bool true]) ∧ Below W.heap.size W w') := H! (fun W hW => ty_ok rc lc cc rt ct types rv lv cv rm lm cm cells ri li ci rs ls cs ro lo co rn ln cn op a b c k hk h0 hok W (hS.later hW))
 clear ht hS
 have HF : Hid (formB op a b c k = true) := H! hf
 clear hf
 generalize types.getD (tA k) default = X at *
 generalize tyB types op k = Y at *
 generalize tyT types op k = T at *
 obtain ⟨X0, X1, X2, X3, X4, X5, X6, X7, X8, X9⟩ := X
 obtain ⟨Y0, Y1, Y2, Y3, Y4, Y5, Y6, Y7, Y8, Y9⟩ := Y
 obtain ⟨T0, T1, T2, T3, T4, T5, T6, T7, T8, T9⟩ := T
 have HUN := H! (fun W => units_any op a b c k ⟨X0, X1, X2, X3, X4, X5, X6, X7, X8, X9⟩ ⟨Y0, Y1, Y2, Y3, Y4, Y5, Y6, Y7, Y8, Y9⟩ ⟨T0, T1, T2, T3, T4, T5, T6, T7, T8, T9⟩ W)
 generalize unitsB op ⟨X0, X1, X2, X3, X4, X5, X6, X7, X8, X9⟩ ⟨Y0, Y1, Y2, Y3, Y4, Y5, Y6, Y7, Y8, Y9⟩ ⟨T0, T1, T2, T3, T4, T5, T6, T7, T8, T9⟩ = R at *
 simp only at HTY HUN
 go_enter Try.func67, Try.ntmps67
 go_wp2_with (first | (go_at_call 105; refine (formed_v hk HF.out _).mono ?_; rintro _ w1 ⟨rfl, hb1⟩; obtain ⟨hb1c, hb1f⟩ := bcell hb1; have hb1s := hb1.size; (try simp only [zA] at hb1s); have hx0 : w.heap.size < w1.heap.size := (by omega); have hx1 : w.heap.size + 1 < w1.heap.size := (by omega)) | (go_at_call 106; refine (typed_v HT.out _).mono ?_; rintro e w' ⟨rfl, rfl⟩) | (go_at_call 107; refine (HTY.out _ bw).mono ?_; rintro _ w2 ⟨rfl, hb2⟩; obtain ⟨hb2c, hb2f⟩ := bcell hb2; have hb2s := hb2.size; have hy0 : w.heap.size < w2.heap.size := (by omega); have hy1 : w.heap.size + 1 < w2.heap.size := (by omega)) | (go_at_call 108; refine (HUN.out _).mono ?_; rintro _ w3 ⟨rfl, hb3⟩))
 all_goals go_ret
 all_goals exact ⟨by first | rfl | (simp [*]; done), bw⟩
theorem fits_any (op a b c k : Int) (hk : I64 k) (w : World) (hS : IsS 10 Fx.enc w rt ct types) : Calls Try.prog 67 #[.agg #[.slice rc lc cc, .slice rt types.length ct, .slice rv lv cv, .slice rm lm cm, .int .i64 cells, .slice ri li ci, .slice rs ls cs, .slice ro lo co, .slice rn ln cn], .agg #[.int .i64 op, .int .i64 a, .int .i64 b, .int .i64 c, .int .i64 k]] w fun e w' => e = .returned (.bool (fitB cells lv lm types ⟨op, a, b, c, k⟩)) ∧ Below w.heap.size w w' := by
 cases hf : formB op a b c k
 ·
  rw [show fitB cells lv lm types ⟨op, a, b, c, k⟩ = false by unfold fitB; simp [hf]]
  exact fi_bad rc lc cc rt ct types rv lv cv rm lm cm cells ri li ci rs ls cs ro lo co rn ln cn op a b c k hk hf w hS
 by_cases n2 : op = 2
 ·
  subst n2
  rw [show fitB cells lv lm types ⟨2, a, b, c, k⟩ = decide (k < cells) by unfold fitB; simp [hf]]
  exact fi_2 rc lc cc rt ct types rv lv cv rm lm cm cells ri li ci rs ls cs ro lo co rn ln cn a b c k hk hf w hS
 by_cases n3 : op = 3
 ·
  subst n3
  rw [show fitB cells lv lm types ⟨3, a, b, c, k⟩ = decide (k < cells) by unfold fitB; simp [hf]]
  exact fi_3 rc lc cc rt ct types rv lv cv rm lm cm cells ri li ci rs ls cs ro lo co rn ln cn a b c k hk hf w hS
 by_cases n20 : op = 20
 ·
  subst n20
  rw [show fitB cells lv lm types ⟨20, a, b, c, k⟩ = decide (k < (lv : Int)) by unfold fitB; simp [hf]]
  exact fi_20 rc lc cc rt ct types rv lv cv rm lm cm cells ri li ci rs ls cs ro lo co rn ln cn a b c k hk hf w hS
 by_cases n21 : op = 21
 ·
  subst n21
  rw [show fitB cells lv lm types ⟨21, a, b, c, k⟩ = decide (k < (lm : Int)) by unfold fitB; simp [hf]]
  exact fi_21 rc lc cc rt ct types rv lv cv rm lm cm cells ri li ci rs ls cs ro lo co rn ln cn a b c k hk hf w hS
 by_cases n22 : op = 22
 ·
  subst n22
  rw [show fitB cells lv lm types ⟨22, a, b, c, k⟩ = decide (k / 32 + 1 < cells) by unfold fitB; simp [hf]]
  exact fi_22 rc lc cc rt ct types rv lv cv rm lm cm cells ri li ci rs ls cs ro lo co rn ln cn a b c k hk hf w hS
 cases ht : typB op
 ·
  rw [show fitB cells lv lm types ⟨op, a, b, c, k⟩ = true by unfold fitB; simp [hf, n2, n3, n20, n21, n22, ht]]
  exact fi_o rc lc cc rt ct types rv lv cv rm lm cm cells ri li ci rs ls cs ro lo co rn ln cn op a b c k hk n2 n3 n20 n21 n22 ht hf w hS
 cases hok : okT types.length op k
 ·
  rw [show fitB cells lv lm types ⟨op, a, b, c, k⟩ = false by unfold fitB; simp [hf, n2, n3, n20, n21, n22, ht, hok]]
  exact fi_tb rc lc cc rt ct types rv lv cv rm lm cm cells ri li ci rs ls cs ro lo co rn ln cn op a b c k hk n2 n3 n20 n21 n22 ht (form_k hf ht) hf hok w hS
 rw [show fitB cells lv lm types ⟨op, a, b, c, k⟩ = unitsB op (types.getD (tA k) default) (tyB types op k) (tyT types op k) by unfold fitB; simp [hf, n2, n3, n20, n21, n22, ht, hok]]
 exact fi_tk rc lc cc rt ct types rv lv cv rm lm cm cells ri li ci rs ls cs ro lo co rn ln cn op a b c k hk n2 n3 n20 n21 n22 ht (form_k hf ht) hf hok w hS
end
def pTake (n : Nat) : Sx → List Int × Sx
 | none => ([], none)
 | some bs => if n ≤ bs.length then (bs.take n, some (bs.drop n)) else ([], none)
theorem pInt_take (s : Sx) : pInt s = (valB (pTake 8 s).1, (pTake 8 s).2) := by
 have h0 : valB [] = 0 := by simp [valB, rawB, IntKind.wrap_i64]
 cases s with
 | none => simp only [pInt, pTake, h0]
 | some bs =>
  simp only [pInt, pTake]
  by_cases h : 8 ≤ bs.length
  ·
   rw [if_pos h, if_pos h]
  ·
   rw [if_neg h, if_neg h, h0]
def SxB (s : Sx) : Prop := ∀ bs, s = some bs → ByteL bs
theorem IsInts.take {W : World} {b off cap : Nat} {k : IntKind} {xs : List Int} (h : IsInts W (some ⟨b, off, none⟩) cap k xs) (n : Nat) : IsInts W (some ⟨b, off, none⟩) cap k (xs.take n) :=
 ⟨by rw [List.length_take]; exact Nat.le_trans (Nat.min_le_right _ _) h.le, h.max, fun x hx => h.wf x (List.mem_of_mem_take hx), fun hne => by
  have hne2 : xs ≠ [] := fun e => hne (by rw [e]; simp)
  obtain ⟨b', off', h1, h2, h3⟩ := h.cells hne2
  simp only [Option.some.injEq, Addr.mk.injEq, and_true] at h1
  obtain ⟨rfl, rfl⟩ := h1
  refine ⟨b, off, rfl, h2, fun i hi => ?_⟩
  rw [List.length_take] at hi
  rw [h3 i (by omega)]
  simp [List.getD, List.getElem?_take, show i < n by omega]⟩
theorem IsInts.drop {W : World} {b off cap : Nat} {k : IntKind} {xs : List Int} (h : IsInts W (some ⟨b, off, none⟩) cap k xs) {n : Nat} (hn : n ≤ xs.length) : IsInts W (some ⟨b, off + n, none⟩) (cap - n) k (xs.drop n) :=
 ⟨by rw [List.length_drop]; have := h.le; omega, Nat.le_trans (Nat.sub_le _ _) h.max, fun x hx => h.wf x (List.mem_of_mem_drop hx), fun hne => by
  have hne2 : xs ≠ [] := fun e => hne (by rw [e]; simp)
  obtain ⟨b', off', h1, h2, h3⟩ := h.cells hne2
  simp only [Option.some.injEq, Addr.mk.injEq, and_true] at h1
  obtain ⟨rfl, rfl⟩ := h1
  refine ⟨b, off + n, rfl, h2, fun i hi => ?_⟩
  rw [List.length_drop] at hi
  rw [Nat.add_assoc, h3 (n + i) (by omega)]
  simp [List.getD, List.getElem?_drop]⟩
structure Rdr (W0 w : World) (b : Nat) (s : Sx) : Prop where
 lt : b < w.heap.size
 f0 : w.frozen? ⟨b, 0, none⟩ = false
 f1 : w.frozen? ⟨b, 1, none⟩ = false
 at_ : ∃ ra ca bs bad, w.cell? ⟨b, 0, none⟩ = some (.slice ra bs.length ca) ∧ w.cell? ⟨b, 1, none⟩ = some (.bool bad) ∧ IsInts W0 ra ca .u8 bs ∧ bs.length ≤ 100000 ∧ s = if bad = true then none else some bs
theorem Rdr.below {W0 w w' : World} {b B : Nat} {s : Sx} (h : Rdr W0 w b s) (hb : Below B w w') (hB : b < B) : Rdr W0 w' b s := by
 obtain ⟨h1, h2, h3, ra, ca, bs, bad, h4, h5, h6⟩ := h
 exact ⟨Nat.lt_of_lt_of_le h1 hb.size, (hb.frozen (p := ⟨b, 0, none⟩) hB).trans h2, (hb.frozen (p := ⟨b, 1, none⟩) hB).trans h3, ra, ca, bs, bad, (hb.cell (p := ⟨b, 0, none⟩) hB).trans h4, (hb.cell (p := ⟨b, 1, none⟩) hB).trans h5, h6⟩
theorem pCount_eq (size : Nat) (s : Sx) : pCount size s = match (pInt s).2 with | none => (0, none) | some bs => if 0 ≤ (pInt s).1 ∧ (pInt s).1 ≤ ((bs.length / size : Nat) : Int) then ((pInt s).1.toNat, some bs) else (0, none) := by
 unfold pCount
 cases h : pInt s with
 | mk n t => cases t <;> rfl
end Go.Proofs.Ytfooefiaenlhmaa
