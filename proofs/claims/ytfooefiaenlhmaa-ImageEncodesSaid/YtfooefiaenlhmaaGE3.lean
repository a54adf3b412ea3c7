/- Lemmas for the laws of package magnetolaw15: Whether the K of an instruction is in its range. Whether the units of the types of an instruction fit. The types that an instruction names. The types that an instruction names: one case. -/
import Derived.Test.YtfooefiaenlhmaaGE2
import Derived.Laws.StructEq
import Derived.Deep.RegionHeld3
namespace Go.Proofs.Ytfooefiaenlhmaa
set_option linter.unusedVariables false
set_option linter.unusedSimpArgs false
open Go.RowKit Go.ChangeShapes Go.WideShapes Go.ChangeAt

theorem i64_and31 (n : Int) : bits .and .i64 n 31 = n % 32 := by
  have h31 : (BitVec.ofInt 64 31).toNat = 2 ^ 5 - 1 := by decide
  have key : (BitVec.ofInt 64 n &&& BitVec.ofInt 64 31).toNat = (n % ((2 ^ 64 : Nat) : Int)).toNat % 2 ^ 5 := by
    rw [BitVec.toNat_and, BitVec.toNat_ofInt, h31, Nat.and_two_pow_sub_one_eq_mod]
  show IntKind.i64.wrap ((BitVec.ofInt 64 n &&& BitVec.ofInt 64 31).toNat : Nat) = n % 32
  rw [key, IntKind.wrap_i64]
  omega
def kOk (op k : Int) : Bool :=
  if op = 1 then decide (-1099511627776 ≤ k ∧ k ≤ 1099511627776)
  else if op = 19 then decide (0 ≤ k ∧ k < 16)
  else if op = 9 ∨ op = 10 then decide (0 ≤ k ∧ k < 2097152 ∧ k / 128 % 128 = 0)
  else if op = 13 ∨ op = 14 then decide (0 ≤ k ∧ k < 2097152 ∧ k % 128 = 0)
  else if typB op = true then decide (0 ≤ k ∧ k < 2097152)
  else if op = 22 then decide (0 ≤ k ∧ k ≤ 32767 ∧ k % 32 ≤ 20)
  else decide (0 ≤ k ∧ k ≤ 32767)
theorem typed_v {op : Int} {v : Bool} (h : typB op = v) (w : World) : Calls Try.prog 106 #[.int .i64 op] w fun e w' => e = .returned (.bool v) ∧ w' = w := by
  subst h
  exact typed_any op w
set_option maxRecDepth 100000 in
set_option maxHeartbeats 2000000 in
theorem kc_1_0 ( k a b c : Int) (hk : I64 k) (n0 : ¬ (-1099511627776 ≤ k)) (w : World) : Calls Try.prog 119 #[.agg #[.int .i64 1, .int .i64 a, .int .i64 b, .int .i64 c, .int .i64 k]] w fun e w' => e = .returned (.bool false) ∧ Below w.heap.size w w' := by
  have h31 := i64_and31 k
  have HT : Hid (typB 1 = false) := Lib.hid (by rfl)
  go_enter Try.func119, Try.ntmps119
  go_wp2_with (first | (go_at_call 120; refine (split_any k hk _).mono ?_; rintro e w' ⟨rfl, rfl⟩) | (go_at_call 106; refine (typed_v HT.out _).mono ?_; rintro e w' ⟨rfl, rfl⟩))
  all_goals go_ret
  all_goals exact ⟨by first | rfl | (simp [*]; done), by (repeat' (first | (with_reducible exact Below.refl _ _) | (with_reducible assumption) | (with_reducible refine below_alloc ?_ _) | (with_reducible refine Below.drew ?_) | (with_reducible refine below_drewN ?_ _) | (with_reducible refine below_step (by assumption) ?_) | (with_reducible refine below_later ?_ _) | (with_reducible refine Below.setCell ?_ ?_ _) | go_size))⟩
set_option maxRecDepth 100000 in
set_option maxHeartbeats 2000000 in
theorem kc_1_1 ( k a b c : Int) (hk : I64 k) (c0 : -1099511627776 ≤ k) (n1 : ¬ (k ≤ 1099511627776)) (w : World) : Calls Try.prog 119 #[.agg #[.int .i64 1, .int .i64 a, .int .i64 b, .int .i64 c, .int .i64 k]] w fun e w' => e = .returned (.bool false) ∧ Below w.heap.size w w' := by
  have h31 := i64_and31 k
  have HT : Hid (typB 1 = false) := Lib.hid (by rfl)
  go_enter Try.func119, Try.ntmps119
  go_wp2_with (first | (go_at_call 120; refine (split_any k hk _).mono ?_; rintro e w' ⟨rfl, rfl⟩) | (go_at_call 106; refine (typed_v HT.out _).mono ?_; rintro e w' ⟨rfl, rfl⟩))
  all_goals go_ret
  all_goals exact ⟨by first | rfl | (simp [*]; done), by (repeat' (first | (with_reducible exact Below.refl _ _) | (with_reducible assumption) | (with_reducible refine below_alloc ?_ _) | (with_reducible refine Below.drew ?_) | (with_reducible refine below_drewN ?_ _) | (with_reducible refine below_step (by assumption) ?_) | (with_reducible refine below_later ?_ _) | (with_reducible refine Below.setCell ?_ ?_ _) | go_size))⟩
set_option maxRecDepth 100000 in
set_option maxHeartbeats 2000000 in
theorem kc_1_2 ( k a b c : Int) (hk : I64 k) (c0 : -1099511627776 ≤ k) (c1 : k ≤ 1099511627776) (w : World) : Calls Try.prog 119 #[.agg #[.int .i64 1, .int .i64 a, .int .i64 b, .int .i64 c, .int .i64 k]] w fun e w' => e = .returned (.bool true) ∧ Below w.heap.size w w' := by
  have h31 := i64_and31 k
  have HT : Hid (typB 1 = false) := Lib.hid (by rfl)
  go_enter Try.func119, Try.ntmps119
  go_wp2_with (first | (go_at_call 120; refine (split_any k hk _).mono ?_; rintro e w' ⟨rfl, rfl⟩) | (go_at_call 106; refine (typed_v HT.out _).mono ?_; rintro e w' ⟨rfl, rfl⟩))
  all_goals go_ret
  all_goals exact ⟨by first | rfl | (simp [*]; done), by (repeat' (first | (with_reducible exact Below.refl _ _) | (with_reducible assumption) | (with_reducible refine below_alloc ?_ _) | (with_reducible refine Below.drew ?_) | (with_reducible refine below_drewN ?_ _) | (with_reducible refine below_step (by assumption) ?_) | (with_reducible refine below_later ?_ _) | (with_reducible refine Below.setCell ?_ ?_ _) | go_size))⟩
set_option maxRecDepth 100000 in
set_option maxHeartbeats 2000000 in
theorem kc_19_0 ( k a b c : Int) (hk : I64 k) (n0 : ¬ (0 ≤ k)) (w : World) : Calls Try.prog 119 #[.agg #[.int .i64 19, .int .i64 a, .int .i64 b, .int .i64 c, .int .i64 k]] w fun e w' => e = .returned (.bool false) ∧ Below w.heap.size w w' := by
  have h31 := i64_and31 k
  have HT : Hid (typB 19 = false) := Lib.hid (by rfl)
  go_enter Try.func119, Try.ntmps119
  go_wp2_with (first | (go_at_call 120; refine (split_any k hk _).mono ?_; rintro e w' ⟨rfl, rfl⟩) | (go_at_call 106; refine (typed_v HT.out _).mono ?_; rintro e w' ⟨rfl, rfl⟩))
  all_goals go_ret
  all_goals exact ⟨by first | rfl | (simp [*]; done), by (repeat' (first | (with_reducible exact Below.refl _ _) | (with_reducible assumption) | (with_reducible refine below_alloc ?_ _) | (with_reducible refine Below.drew ?_) | (with_reducible refine below_drewN ?_ _) | (with_reducible refine below_step (by assumption) ?_) | (with_reducible refine below_later ?_ _) | (with_reducible refine Below.setCell ?_ ?_ _) | go_size))⟩
set_option maxRecDepth 100000 in
set_option maxHeartbeats 2000000 in
theorem kc_19_1 ( k a b c : Int) (hk : I64 k) (c0 : 0 ≤ k) (n1 : ¬ (k < 16)) (w : World) : Calls Try.prog 119 #[.agg #[.int .i64 19, .int .i64 a, .int .i64 b, .int .i64 c, .int .i64 k]] w fun e w' => e = .returned (.bool false) ∧ Below w.heap.size w w' := by
  have h31 := i64_and31 k
  have HT : Hid (typB 19 = false) := Lib.hid (by rfl)
  go_enter Try.func119, Try.ntmps119
  go_wp2_with (first | (go_at_call 120; refine (split_any k hk _).mono ?_; rintro e w' ⟨rfl, rfl⟩) | (go_at_call 106; refine (typed_v HT.out _).mono ?_; rintro e w' ⟨rfl, rfl⟩))
  all_goals go_ret
  all_goals exact ⟨by first | rfl | (simp [*]; done), by (repeat' (first | (with_reducible exact Below.refl _ _) | (with_reducible assumption) | (with_reducible refine below_alloc ?_ _) | (with_reducible refine Below.drew ?_) | (with_reducible refine below_drewN ?_ _) | (with_reducible refine below_step (by assumption) ?_) | (with_reducible refine below_later ?_ _) | (with_reducible refine Below.setCell ?_ ?_ _) | go_size))⟩
set_option maxRecDepth 100000 in
set_option maxHeartbeats 2000000 in
theorem kc_19_2 ( k a b c : Int) (hk : I64 k) (c0 : 0 ≤ k) (c1 : k < 16) (w : World) : Calls Try.prog 119 #[.agg #[.int .i64 19, .int .i64 a, .int .i64 b, .int .i64 c, .int .i64 k]] w fun e w' => e = .returned (.bool true) ∧ Below w.heap.size w w' := by
  have h31 := i64_and31 k
  have HT : Hid (typB 19 = false) := Lib.hid (by rfl)
  go_enter Try.func119, Try.ntmps119
  go_wp2_with (first | (go_at_call 120; refine (split_any k hk _).mono ?_; rintro e w' ⟨rfl, rfl⟩) | (go_at_call 106; refine (typed_v HT.out _).mono ?_; rintro e w' ⟨rfl, rfl⟩))
  all_goals go_ret
  all_goals exact ⟨by first | rfl | (simp [*]; done), by (repeat' (first | (with_reducible exact Below.refl _ _) | (with_reducible assumption) | (with_reducible refine below_alloc ?_ _) | (with_reducible refine Below.drew ?_) | (with_reducible refine below_drewN ?_ _) | (with_reducible refine below_step (by assumption) ?_) | (with_reducible refine below_later ?_ _) | (with_reducible refine Below.setCell ?_ ?_ _) | go_size))⟩
set_option maxRecDepth 100000 in
set_option maxHeartbeats 2000000 in
theorem kc_9_0 ( k a b c : Int) (hk : I64 k) (n0 : ¬ (0 ≤ k)) (w : World) : Calls Try.prog 119 #[.agg #[.int .i64 9, .int .i64 a, .int .i64 b, .int .i64 c, .int .i64 k]] w fun e w' => e = .returned (.bool false) ∧ Below w.heap.size w w' := by
  have h31 := i64_and31 k
  have HT : Hid (typB 9 = true) := Lib.hid (by rfl)
  go_enter Try.func119, Try.ntmps119
  go_wp2_with (first | (go_at_call 120; refine (split_any k hk _).mono ?_; rintro e w' ⟨rfl, rfl⟩) | (go_at_call 106; refine (typed_v HT.out _).mono ?_; rintro e w' ⟨rfl, rfl⟩))
  all_goals go_ret
  all_goals exact ⟨by first | rfl | (simp [*]; done), by (repeat' (first | (with_reducible exact Below.refl _ _) | (with_reducible assumption) | (with_reducible refine below_alloc ?_ _) | (with_reducible refine Below.drew ?_) | (with_reducible refine below_drewN ?_ _) | (with_reducible refine below_step (by assumption) ?_) | (with_reducible refine below_later ?_ _) | (with_reducible refine Below.setCell ?_ ?_ _) | go_size))⟩
set_option maxRecDepth 100000 in
set_option maxHeartbeats 2000000 in
theorem kc_9_1 ( k a b c : Int) (hk : I64 k) (c0 : 0 ≤ k) (n1 : ¬ (k < 2097152)) (w : World) : Calls Try.prog 119 #[.agg #[.int .i64 9, .int .i64 a, .int .i64 b, .int .i64 c, .int .i64 k]] w fun e w' => e = .returned (.bool false) ∧ Below w.heap.size w w' := by
  have h31 := i64_and31 k
  have HT : Hid (typB 9 = true) := Lib.hid (by rfl)
  go_enter Try.func119, Try.ntmps119
  go_wp2_with (first | (go_at_call 120; refine (split_any k hk _).mono ?_; rintro e w' ⟨rfl, rfl⟩) | (go_at_call 106; refine (typed_v HT.out _).mono ?_; rintro e w' ⟨rfl, rfl⟩))
  all_goals go_ret
  all_goals exact ⟨by first | rfl | (simp [*]; done), by (repeat' (first | (with_reducible exact Below.refl _ _) | (with_reducible assumption) | (with_reducible refine below_alloc ?_ _) | (with_reducible refine Below.drew ?_) | (with_reducible refine below_drewN ?_ _) | (with_reducible refine below_step (by assumption) ?_) | (with_reducible refine below_later ?_ _) | (with_reducible refine Below.setCell ?_ ?_ _) | go_size))⟩
set_option maxRecDepth 100000 in
set_option maxHeartbeats 2000000 in
theorem kc_9_2 ( k a b c : Int) (hk : I64 k) (c0 : 0 ≤ k) (c1 : k < 2097152) (n2 : ¬ (k / 128 % 128 = 0)) (w : World) : Calls Try.prog 119 #[.agg #[.int .i64 9, .int .i64 a, .int .i64 b, .int .i64 c, .int .i64 k]] w fun e w' => e = .returned (.bool false) ∧ Below w.heap.size w w' := by
  have h31 := i64_and31 k
  have HT : Hid (typB 9 = true) := Lib.hid (by rfl)
  go_enter Try.func119, Try.ntmps119
  go_wp2_with (first | (go_at_call 120; refine (split_any k hk _).mono ?_; rintro e w' ⟨rfl, rfl⟩) | (go_at_call 106; refine (typed_v HT.out _).mono ?_; rintro e w' ⟨rfl, rfl⟩))
  all_goals go_ret
  all_goals exact ⟨by first | rfl | (simp [*]; done), by (repeat' (first | (with_reducible exact Below.refl _ _) | (with_reducible assumption) | (with_reducible refine below_alloc ?_ _) | (with_reducible refine Below.drew ?_) | (with_reducible refine below_drewN ?_ _) | (with_reducible refine below_step (by assumption) ?_) | (with_reducible refine below_later ?_ _) | (with_reducible refine Below.setCell ?_ ?_ _) | go_size))⟩
set_option maxRecDepth 100000 in
set_option maxHeartbeats 2000000 in
theorem kc_9_3 ( k a b c : Int) (hk : I64 k) (c0 : 0 ≤ k) (c1 : k < 2097152) (c2 : k / 128 % 128 = 0) (w : World) : Calls Try.prog 119 #[.agg #[.int .i64 9, .int .i64 a, .int .i64 b, .int .i64 c, .int .i64 k]] w fun e w' => e = .returned (.bool true) ∧ Below w.heap.size w w' := by
  have h31 := i64_and31 k
  have HT : Hid (typB 9 = true) := Lib.hid (by rfl)
  go_enter Try.func119, Try.ntmps119
  go_wp2_with (first | (go_at_call 120; refine (split_any k hk _).mono ?_; rintro e w' ⟨rfl, rfl⟩) | (go_at_call 106; refine (typed_v HT.out _).mono ?_; rintro e w' ⟨rfl, rfl⟩))
  all_goals go_ret
  all_goals exact ⟨by first | rfl | (simp [*]; done), by (repeat' (first | (with_reducible exact Below.refl _ _) | (with_reducible assumption) | (with_reducible refine below_alloc ?_ _) | (with_reducible refine Below.drew ?_) | (with_reducible refine below_drewN ?_ _) | (with_reducible refine below_step (by assumption) ?_) | (with_reducible refine below_later ?_ _) | (with_reducible refine Below.setCell ?_ ?_ _) | go_size))⟩
set_option maxRecDepth 100000 in
set_option maxHeartbeats 2000000 in
theorem kc_10_0 ( k a b c : Int) (hk : I64 k) (n0 : ¬ (0 ≤ k)) (w : World) : Calls Try.prog 119 #[.agg #[.int .i64 10, .int .i64 a, .int .i64 b, .int .i64 c, .int .i64 k]] w fun e w' => e = .returned (.bool false) ∧ Below w.heap.size w w' := by
  have h31 := i64_and31 k
  have HT : Hid (typB 10 = true) := Lib.hid (by rfl)
  go_enter Try.func119, Try.ntmps119
  go_wp2_with (first | (go_at_call 120; refine (split_any k hk _).mono ?_; rintro e w' ⟨rfl, rfl⟩) | (go_at_call 106; refine (typed_v HT.out _).mono ?_; rintro e w' ⟨rfl, rfl⟩))
  all_goals go_ret
  all_goals exact ⟨by first | rfl | (simp [*]; done), by (repeat' (first | (with_reducible exact Below.refl _ _) | (with_reducible assumption) | (with_reducible refine below_alloc ?_ _) | (with_reducible refine Below.drew ?_) | (with_reducible refine below_drewN ?_ _) | (with_reducible refine below_step (by assumption) ?_) | (with_reducible refine below_later ?_ _) | (with_reducible refine Below.setCell ?_ ?_ _) | go_size))⟩
set_option maxRecDepth 100000 in
set_option maxHeartbeats 2000000 in
theorem kc_10_1 ( k a b c : Int) (hk : I64 k) (c0 : 0 ≤ k) (n1 : ¬ (k < 2097152)) (w : World) : Calls Try.prog 119 #[.agg #[.int .i64 10, .int .i64 a, .int .i64 b, .int .i64 c, .int .i64 k]] w fun e w' => e = .returned (.bool false) ∧ Below w.heap.size w w' := by
  have h31 := i64_and31 k
  have HT : Hid (typB 10 = true) := Lib.hid (by rfl)
  go_enter Try.func119, Try.ntmps119
  go_wp2_with (first | (go_at_call 120; refine (split_any k hk _).mono ?_; rintro e w' ⟨rfl, rfl⟩) | (go_at_call 106; refine (typed_v HT.out _).mono ?_; rintro e w' ⟨rfl, rfl⟩))
  all_goals go_ret
  all_goals exact ⟨by first | rfl | (simp [*]; done), by (repeat' (first | (with_reducible exact Below.refl _ _) | (with_reducible assumption) | (with_reducible refine below_alloc ?_ _) | (with_reducible refine Below.drew ?_) | (with_reducible refine below_drewN ?_ _) | (with_reducible refine below_step (by assumption) ?_) | (with_reducible refine below_later ?_ _) | (with_reducible refine Below.setCell ?_ ?_ _) | go_size))⟩
set_option maxRecDepth 100000 in
set_option maxHeartbeats 2000000 in
theorem kc_10_2 ( k a b c : Int) (hk : I64 k) (c0 : 0 ≤ k) (c1 : k < 2097152) (n2 : ¬ (k / 128 % 128 = 0)) (w : World) : Calls Try.prog 119 #[.agg #[.int .i64 10, .int .i64 a, .int .i64 b, .int .i64 c, .int .i64 k]] w fun e w' => e = .returned (.bool false) ∧ Below w.heap.size w w' := by
  have h31 := i64_and31 k
  have HT : Hid (typB 10 = true) := Lib.hid (by rfl)
  go_enter Try.func119, Try.ntmps119
  go_wp2_with (first | (go_at_call 120; refine (split_any k hk _).mono ?_; rintro e w' ⟨rfl, rfl⟩) | (go_at_call 106; refine (typed_v HT.out _).mono ?_; rintro e w' ⟨rfl, rfl⟩))
  all_goals go_ret
  all_goals exact ⟨by first | rfl | (simp [*]; done), by (repeat' (first | (with_reducible exact Below.refl _ _) | (with_reducible assumption) | (with_reducible refine below_alloc ?_ _) | (with_reducible refine Below.drew ?_) | (with_reducible refine below_drewN ?_ _) | (with_reducible refine below_step (by assumption) ?_) | (with_reducible refine below_later ?_ _) | (with_reducible refine Below.setCell ?_ ?_ _) | go_size))⟩
set_option maxRecDepth 100000 in
set_option maxHeartbeats 2000000 in
theorem kc_10_3 ( k a b c : Int) (hk : I64 k) (c0 : 0 ≤ k) (c1 : k < 2097152) (c2 : k / 128 % 128 = 0) (w : World) : Calls Try.prog 119 #[.agg #[.int .i64 10, .int .i64 a, .int .i64 b, .int .i64 c, .int .i64 k]] w fun e w' => e = .returned (.bool true) ∧ Below w.heap.size w w' := by
  have h31 := i64_and31 k
  have HT : Hid (typB 10 = true) := Lib.hid (by rfl)
  go_enter Try.func119, Try.ntmps119
  go_wp2_with (first | (go_at_call 120; refine (split_any k hk _).mono ?_; rintro e w' ⟨rfl, rfl⟩) | (go_at_call 106; refine (typed_v HT.out _).mono ?_; rintro e w' ⟨rfl, rfl⟩))
  all_goals go_ret
  all_goals exact ⟨by first | rfl | (simp [*]; done), by (repeat' (first | (with_reducible exact Below.refl _ _) | (with_reducible assumption) | (with_reducible refine below_alloc ?_ _) | (with_reducible refine Below.drew ?_) | (with_reducible refine below_drewN ?_ _) | (with_reducible refine below_step (by assumption) ?_) | (with_reducible refine below_later ?_ _) | (with_reducible refine Below.setCell ?_ ?_ _) | go_size))⟩
set_option maxRecDepth 100000 in
set_option maxHeartbeats 2000000 in
theorem kc_13_0 ( k a b c : Int) (hk : I64 k) (n0 : ¬ (0 ≤ k)) (w : World) : Calls Try.prog 119 #[.agg #[.int .i64 13, .int .i64 a, .int .i64 b, .int .i64 c, .int .i64 k]] w fun e w' => e = .returned (.bool false) ∧ Below w.heap.size w w' := by
  have h31 := i64_and31 k
  have HT : Hid (typB 13 = true) := Lib.hid (by rfl)
  go_enter Try.func119, Try.ntmps119
  go_wp2_with (first | (go_at_call 120; refine (split_any k hk _).mono ?_; rintro e w' ⟨rfl, rfl⟩) | (go_at_call 106; refine (typed_v HT.out _).mono ?_; rintro e w' ⟨rfl, rfl⟩))
  all_goals go_ret
  all_goals exact ⟨by first | rfl | (simp [*]; done), by (repeat' (first | (with_reducible exact Below.refl _ _) | (with_reducible assumption) | (with_reducible refine below_alloc ?_ _) | (with_reducible refine Below.drew ?_) | (with_reducible refine below_drewN ?_ _) | (with_reducible refine below_step (by assumption) ?_) | (with_reducible refine below_later ?_ _) | (with_reducible refine Below.setCell ?_ ?_ _) | go_size))⟩
set_option maxRecDepth 100000 in
set_option maxHeartbeats 2000000 in
theorem kc_13_1 ( k a b c : Int) (hk : I64 k) (c0 : 0 ≤ k) (n1 : ¬ (k < 2097152)) (w : World) : Calls Try.prog 119 #[.agg #[.int .i64 13, .int .i64 a, .int .i64 b, .int .i64 c, .int .i64 k]] w fun e w' => e = .returned (.bool false) ∧ Below w.heap.size w w' := by
  have h31 := i64_and31 k
  have HT : Hid (typB 13 = true) := Lib.hid (by rfl)
  go_enter Try.func119, Try.ntmps119
  go_wp2_with (first | (go_at_call 120; refine (split_any k hk _).mono ?_; rintro e w' ⟨rfl, rfl⟩) | (go_at_call 106; refine (typed_v HT.out _).mono ?_; rintro e w' ⟨rfl, rfl⟩))
  all_goals go_ret
  all_goals exact ⟨by first | rfl | (simp [*]; done), by (repeat' (first | (with_reducible exact Below.refl _ _) | (with_reducible assumption) | (with_reducible refine below_alloc ?_ _) | (with_reducible refine Below.drew ?_) | (with_reducible refine below_drewN ?_ _) | (with_reducible refine below_step (by assumption) ?_) | (with_reducible refine below_later ?_ _) | (with_reducible refine Below.setCell ?_ ?_ _) | go_size))⟩
set_option maxRecDepth 100000 in
set_option maxHeartbeats 2000000 in
theorem kc_13_2 ( k a b c : Int) (hk : I64 k) (c0 : 0 ≤ k) (c1 : k < 2097152) (n2 : ¬ (k % 128 = 0)) (w : World) : Calls Try.prog 119 #[.agg #[.int .i64 13, .int .i64 a, .int .i64 b, .int .i64 c, .int .i64 k]] w fun e w' => e = .returned (.bool false) ∧ Below w.heap.size w w' := by
  have h31 := i64_and31 k
  have HT : Hid (typB 13 = true) := Lib.hid (by rfl)
  go_enter Try.func119, Try.ntmps119
  go_wp2_with (first | (go_at_call 120; refine (split_any k hk _).mono ?_; rintro e w' ⟨rfl, rfl⟩) | (go_at_call 106; refine (typed_v HT.out _).mono ?_; rintro e w' ⟨rfl, rfl⟩))
  all_goals go_ret
  all_goals exact ⟨by first | rfl | (simp [*]; done), by (repeat' (first | (with_reducible exact Below.refl _ _) | (with_reducible assumption) | (with_reducible refine below_alloc ?_ _) | (with_reducible refine Below.drew ?_) | (with_reducible refine below_drewN ?_ _) | (with_reducible refine below_step (by assumption) ?_) | (with_reducible refine below_later ?_ _) | (with_reducible refine Below.setCell ?_ ?_ _) | go_size))⟩
set_option maxRecDepth 100000 in
set_option maxHeartbeats 2000000 in
theorem kc_13_3 ( k a b c : Int) (hk : I64 k) (c0 : 0 ≤ k) (c1 : k < 2097152) (c2 : k % 128 = 0) (w : World) : Calls Try.prog 119 #[.agg #[.int .i64 13, .int .i64 a, .int .i64 b, .int .i64 c, .int .i64 k]] w fun e w' => e = .returned (.bool true) ∧ Below w.heap.size w w' := by
  have h31 := i64_and31 k
  have HT : Hid (typB 13 = true) := Lib.hid (by rfl)
  go_enter Try.func119, Try.ntmps119
  go_wp2_with (first | (go_at_call 120; refine (split_any k hk _).mono ?_; rintro e w' ⟨rfl, rfl⟩) | (go_at_call 106; refine (typed_v HT.out _).mono ?_; rintro e w' ⟨rfl, rfl⟩))
  all_goals go_ret
  all_goals exact ⟨by first | rfl | (simp [*]; done), by (repeat' (first | (with_reducible exact Below.refl _ _) | (with_reducible assumption) | (with_reducible refine below_alloc ?_ _) | (with_reducible refine Below.drew ?_) | (with_reducible refine below_drewN ?_ _) | (with_reducible refine below_step (by assumption) ?_) | (with_reducible refine below_later ?_ _) | (with_reducible refine Below.setCell ?_ ?_ _) | go_size))⟩
set_option maxRecDepth 100000 in
set_option maxHeartbeats 2000000 in
theorem kc_14_0 ( k a b c : Int) (hk : I64 k) (n0 : ¬ (0 ≤ k)) (w : World) : Calls Try.prog 119 #[.agg #[.int .i64 14, .int .i64 a, .int .i64 b, .int .i64 c, .int .i64 k]] w fun e w' => e = .returned (.bool false) ∧ Below w.heap.size w w' := by
  have h31 := i64_and31 k
  have HT : Hid (typB 14 = true) := Lib.hid (by rfl)
  go_enter Try.func119, Try.ntmps119
  go_wp2_with (first | (go_at_call 120; refine (split_any k hk _).mono ?_; rintro e w' ⟨rfl, rfl⟩) | (go_at_call 106; refine (typed_v HT.out _).mono ?_; rintro e w' ⟨rfl, rfl⟩))
  all_goals go_ret
  all_goals exact ⟨by first | rfl | (simp [*]; done), by (repeat' (first | (with_reducible exact Below.refl _ _) | (with_reducible assumption) | (with_reducible refine below_alloc ?_ _) | (with_reducible refine Below.drew ?_) | (with_reducible refine below_drewN ?_ _) | (with_reducible refine below_step (by assumption) ?_) | (with_reducible refine below_later ?_ _) | (with_reducible refine Below.setCell ?_ ?_ _) | go_size))⟩
set_option maxRecDepth 100000 in
set_option maxHeartbeats 2000000 in
theorem kc_14_1 ( k a b c : Int) (hk : I64 k) (c0 : 0 ≤ k) (n1 : ¬ (k < 2097152)) (w : World) : Calls Try.prog 119 #[.agg #[.int .i64 14, .int .i64 a, .int .i64 b, .int .i64 c, .int .i64 k]] w fun e w' => e = .returned (.bool false) ∧ Below w.heap.size w w' := by
  have h31 := i64_and31 k
  have HT : Hid (typB 14 = true) := Lib.hid (by rfl)
  go_enter Try.func119, Try.ntmps119
  go_wp2_with (first | (go_at_call 120; refine (split_any k hk _).mono ?_; rintro e w' ⟨rfl, rfl⟩) | (go_at_call 106; refine (typed_v HT.out _).mono ?_; rintro e w' ⟨rfl, rfl⟩))
  all_goals go_ret
  all_goals exact ⟨by first | rfl | (simp [*]; done), by (repeat' (first | (with_reducible exact Below.refl _ _) | (with_reducible assumption) | (with_reducible refine below_alloc ?_ _) | (with_reducible refine Below.drew ?_) | (with_reducible refine below_drewN ?_ _) | (with_reducible refine below_step (by assumption) ?_) | (with_reducible refine below_later ?_ _) | (with_reducible refine Below.setCell ?_ ?_ _) | go_size))⟩
set_option maxRecDepth 100000 in
set_option maxHeartbeats 2000000 in
theorem kc_14_2 ( k a b c : Int) (hk : I64 k) (c0 : 0 ≤ k) (c1 : k < 2097152) (n2 : ¬ (k % 128 = 0)) (w : World) : Calls Try.prog 119 #[.agg #[.int .i64 14, .int .i64 a, .int .i64 b, .int .i64 c, .int .i64 k]] w fun e w' => e = .returned (.bool false) ∧ Below w.heap.size w w' := by
  have h31 := i64_and31 k
  have HT : Hid (typB 14 = true) := Lib.hid (by rfl)
  go_enter Try.func119, Try.ntmps119
  go_wp2_with (first | (go_at_call 120; refine (split_any k hk _).mono ?_; rintro e w' ⟨rfl, rfl⟩) | (go_at_call 106; refine (typed_v HT.out _).mono ?_; rintro e w' ⟨rfl, rfl⟩))
  all_goals go_ret
  all_goals exact ⟨by first | rfl | (simp [*]; done), by (repeat' (first | (with_reducible exact Below.refl _ _) | (with_reducible assumption) | (with_reducible refine below_alloc ?_ _) | (with_reducible refine Below.drew ?_) | (with_reducible refine below_drewN ?_ _) | (with_reducible refine below_step (by assumption) ?_) | (with_reducible refine below_later ?_ _) | (with_reducible refine Below.setCell ?_ ?_ _) | go_size))⟩
set_option maxRecDepth 100000 in
set_option maxHeartbeats 2000000 in
theorem kc_14_3 ( k a b c : Int) (hk : I64 k) (c0 : 0 ≤ k) (c1 : k < 2097152) (c2 : k % 128 = 0) (w : World) : Calls Try.prog 119 #[.agg #[.int .i64 14, .int .i64 a, .int .i64 b, .int .i64 c, .int .i64 k]] w fun e w' => e = .returned (.bool true) ∧ Below w.heap.size w w' := by
  have h31 := i64_and31 k
  have HT : Hid (typB 14 = true) := Lib.hid (by rfl)
  go_enter Try.func119, Try.ntmps119
  go_wp2_with (first | (go_at_call 120; refine (split_any k hk _).mono ?_; rintro e w' ⟨rfl, rfl⟩) | (go_at_call 106; refine (typed_v HT.out _).mono ?_; rintro e w' ⟨rfl, rfl⟩))
  all_goals go_ret
  all_goals exact ⟨by first | rfl | (simp [*]; done), by (repeat' (first | (with_reducible exact Below.refl _ _) | (with_reducible assumption) | (with_reducible refine below_alloc ?_ _) | (with_reducible refine Below.drew ?_) | (with_reducible refine below_drewN ?_ _) | (with_reducible refine below_step (by assumption) ?_) | (with_reducible refine below_later ?_ _) | (with_reducible refine Below.setCell ?_ ?_ _) | go_size))⟩
set_option maxRecDepth 100000 in
set_option maxHeartbeats 2000000 in
theorem kc_22_0 ( k a b c : Int) (hk : I64 k) (n0 : ¬ (0 ≤ k)) (w : World) : Calls Try.prog 119 #[.agg #[.int .i64 22, .int .i64 a, .int .i64 b, .int .i64 c, .int .i64 k]] w fun e w' => e = .returned (.bool false) ∧ Below w.heap.size w w' := by
  have h31 := i64_and31 k
  have HT : Hid (typB 22 = false) := Lib.hid (by rfl)
  go_enter Try.func119, Try.ntmps119
  go_wp2_with (first | (go_at_call 120; refine (split_any k hk _).mono ?_; rintro e w' ⟨rfl, rfl⟩) | (go_at_call 106; refine (typed_v HT.out _).mono ?_; rintro e w' ⟨rfl, rfl⟩))
  all_goals go_ret
  all_goals exact ⟨by first | rfl | (simp [*]; done), by (repeat' (first | (with_reducible exact Below.refl _ _) | (with_reducible assumption) | (with_reducible refine below_alloc ?_ _) | (with_reducible refine Below.drew ?_) | (with_reducible refine below_drewN ?_ _) | (with_reducible refine below_step (by assumption) ?_) | (with_reducible refine below_later ?_ _) | (with_reducible refine Below.setCell ?_ ?_ _) | go_size))⟩
set_option maxRecDepth 100000 in
set_option maxHeartbeats 2000000 in
theorem kc_22_1 ( k a b c : Int) (hk : I64 k) (c0 : 0 ≤ k) (n1 : ¬ (k ≤ 32767)) (w : World) : Calls Try.prog 119 #[.agg #[.int .i64 22, .int .i64 a, .int .i64 b, .int .i64 c, .int .i64 k]] w fun e w' => e = .returned (.bool false) ∧ Below w.heap.size w w' := by
  have h31 := i64_and31 k
  have HT : Hid (typB 22 = false) := Lib.hid (by rfl)
  go_enter Try.func119, Try.ntmps119
  go_wp2_with (first | (go_at_call 120; refine (split_any k hk _).mono ?_; rintro e w' ⟨rfl, rfl⟩) | (go_at_call 106; refine (typed_v HT.out _).mono ?_; rintro e w' ⟨rfl, rfl⟩))
  all_goals go_ret
  all_goals exact ⟨by first | rfl | (simp [*]; done), by (repeat' (first | (with_reducible exact Below.refl _ _) | (with_reducible assumption) | (with_reducible refine below_alloc ?_ _) | (with_reducible refine Below.drew ?_) | (with_reducible refine below_drewN ?_ _) | (with_reducible refine below_step (by assumption) ?_) | (with_reducible refine below_later ?_ _) | (with_reducible refine Below.setCell ?_ ?_ _) | go_size))⟩
set_option maxRecDepth 100000 in
set_option maxHeartbeats 2000000 in
theorem kc_22_2 ( k a b c : Int) (hk : I64 k) (c0 : 0 ≤ k) (c1 : k ≤ 32767) (n2 : ¬ (k % 32 ≤ 20)) (w : World) : Calls Try.prog 119 #[.agg #[.int .i64 22, .int .i64 a, .int .i64 b, .int .i64 c, .int .i64 k]] w fun e w' => e = .returned (.bool false) ∧ Below w.heap.size w w' := by
  have h31 := i64_and31 k
  have HT : Hid (typB 22 = false) := Lib.hid (by rfl)
  go_enter Try.func119, Try.ntmps119
  go_wp2_with (first | (go_at_call 120; refine (split_any k hk _).mono ?_; rintro e w' ⟨rfl, rfl⟩) | (go_at_call 106; refine (typed_v HT.out _).mono ?_; rintro e w' ⟨rfl, rfl⟩))
  all_goals go_ret
  all_goals exact ⟨by first | rfl | (simp [*]; done), by (repeat' (first | (with_reducible exact Below.refl _ _) | (with_reducible assumption) | (with_reducible refine below_alloc ?_ _) | (with_reducible refine Below.drew ?_) | (with_reducible refine below_drewN ?_ _) | (with_reducible refine below_step (by assumption) ?_) | (with_reducible refine below_later ?_ _) | (with_reducible refine Below.setCell ?_ ?_ _) | go_size))⟩
set_option maxRecDepth 100000 in
set_option maxHeartbeats 2000000 in
theorem kc_22_3 ( k a b c : Int) (hk : I64 k) (c0 : 0 ≤ k) (c1 : k ≤ 32767) (c2 : k % 32 ≤ 20) (w : World) : Calls Try.prog 119 #[.agg #[.int .i64 22, .int .i64 a, .int .i64 b, .int .i64 c, .int .i64 k]] w fun e w' => e = .returned (.bool true) ∧ Below w.heap.size w w' := by
  have h31 := i64_and31 k
  have HT : Hid (typB 22 = false) := Lib.hid (by rfl)
  go_enter Try.func119, Try.ntmps119
  go_wp2_with (first | (go_at_call 120; refine (split_any k hk _).mono ?_; rintro e w' ⟨rfl, rfl⟩) | (go_at_call 106; refine (typed_v HT.out _).mono ?_; rintro e w' ⟨rfl, rfl⟩))
  all_goals go_ret
  all_goals exact ⟨by first | rfl | (simp [*]; done), by (repeat' (first | (with_reducible exact Below.refl _ _) | (with_reducible assumption) | (with_reducible refine below_alloc ?_ _) | (with_reducible refine Below.drew ?_) | (with_reducible refine below_drewN ?_ _) | (with_reducible refine below_step (by assumption) ?_) | (with_reducible refine below_later ?_ _) | (with_reducible refine Below.setCell ?_ ?_ _) | go_size))⟩
set_option maxRecDepth 100000 in
set_option maxHeartbeats 2000000 in
theorem kc_t_0 (op k a b c : Int) (hk : I64 k) (o1 : ¬ op = 1) (o19 : ¬ op = 19) (o9 : ¬ op = 9) (o10 : ¬ op = 10) (o13 : ¬ op = 13) (o14 : ¬ op = 14) (o22 : ¬ op = 22) (ht : typB op = true) (n0 : ¬ (0 ≤ k)) (w : World) : Calls Try.prog 119 #[.agg #[.int .i64 op, .int .i64 a, .int .i64 b, .int .i64 c, .int .i64 k]] w fun e w' => e = .returned (.bool false) ∧ Below w.heap.size w w' := by
  have h31 := i64_and31 k
  have HT : Hid (typB op = true) := Lib.hid (by exact ht)
  go_enter Try.func119, Try.ntmps119
  go_wp2_with (first | (go_at_call 120; refine (split_any k hk _).mono ?_; rintro e w' ⟨rfl, rfl⟩) | (go_at_call 106; refine (typed_v HT.out _).mono ?_; rintro e w' ⟨rfl, rfl⟩))
  all_goals go_ret
  all_goals exact ⟨by first | rfl | (simp [*]; done), by (repeat' (first | (with_reducible exact Below.refl _ _) | (with_reducible assumption) | (with_reducible refine below_alloc ?_ _) | (with_reducible refine Below.drew ?_) | (with_reducible refine below_drewN ?_ _) | (with_reducible refine below_step (by assumption) ?_) | (with_reducible refine below_later ?_ _) | (with_reducible refine Below.setCell ?_ ?_ _) | go_size))⟩
set_option maxRecDepth 100000 in
set_option maxHeartbeats 2000000 in
theorem kc_t_1 (op k a b c : Int) (hk : I64 k) (o1 : ¬ op = 1) (o19 : ¬ op = 19) (o9 : ¬ op = 9) (o10 : ¬ op = 10) (o13 : ¬ op = 13) (o14 : ¬ op = 14) (o22 : ¬ op = 22) (ht : typB op = true) (c0 : 0 ≤ k) (n1 : ¬ (k < 2097152)) (w : World) : Calls Try.prog 119 #[.agg #[.int .i64 op, .int .i64 a, .int .i64 b, .int .i64 c, .int .i64 k]] w fun e w' => e = .returned (.bool false) ∧ Below w.heap.size w w' := by
  have h31 := i64_and31 k
  have HT : Hid (typB op = true) := Lib.hid (by exact ht)
  go_enter Try.func119, Try.ntmps119
  go_wp2_with (first | (go_at_call 120; refine (split_any k hk _).mono ?_; rintro e w' ⟨rfl, rfl⟩) | (go_at_call 106; refine (typed_v HT.out _).mono ?_; rintro e w' ⟨rfl, rfl⟩))
  all_goals go_ret
  all_goals exact ⟨by first | rfl | (simp [*]; done), by (repeat' (first | (with_reducible exact Below.refl _ _) | (with_reducible assumption) | (with_reducible refine below_alloc ?_ _) | (with_reducible refine Below.drew ?_) | (with_reducible refine below_drewN ?_ _) | (with_reducible refine below_step (by assumption) ?_) | (with_reducible refine below_later ?_ _) | (with_reducible refine Below.setCell ?_ ?_ _) | go_size))⟩
set_option maxRecDepth 100000 in
set_option maxHeartbeats 2000000 in
theorem kc_t_2 (op k a b c : Int) (hk : I64 k) (o1 : ¬ op = 1) (o19 : ¬ op = 19) (o9 : ¬ op = 9) (o10 : ¬ op = 10) (o13 : ¬ op = 13) (o14 : ¬ op = 14) (o22 : ¬ op = 22) (ht : typB op = true) (c0 : 0 ≤ k) (c1 : k < 2097152) (w : World) : Calls Try.prog 119 #[.agg #[.int .i64 op, .int .i64 a, .int .i64 b, .int .i64 c, .int .i64 k]] w fun e w' => e = .returned (.bool true) ∧ Below w.heap.size w w' := by
  have h31 := i64_and31 k
  have HT : Hid (typB op = true) := Lib.hid (by exact ht)
  go_enter Try.func119, Try.ntmps119
  go_wp2_with (first | (go_at_call 120; refine (split_any k hk _).mono ?_; rintro e w' ⟨rfl, rfl⟩) | (go_at_call 106; refine (typed_v HT.out _).mono ?_; rintro e w' ⟨rfl, rfl⟩))
  all_goals go_ret
  all_goals exact ⟨by first | rfl | (simp [*]; done), by (repeat' (first | (with_reducible exact Below.refl _ _) | (with_reducible assumption) | (with_reducible refine below_alloc ?_ _) | (with_reducible refine Below.drew ?_) | (with_reducible refine below_drewN ?_ _) | (with_reducible refine below_step (by assumption) ?_) | (with_reducible refine below_later ?_ _) | (with_reducible refine Below.setCell ?_ ?_ _) | go_size))⟩
set_option maxRecDepth 100000 in
set_option maxHeartbeats 2000000 in
theorem kc_o_0 (op k a b c : Int) (hk : I64 k) (o1 : ¬ op = 1) (o19 : ¬ op = 19) (o9 : ¬ op = 9) (o10 : ¬ op = 10) (o13 : ¬ op = 13) (o14 : ¬ op = 14) (o22 : ¬ op = 22) (ht : ¬ typB op = true) (n0 : ¬ (0 ≤ k)) (w : World) : Calls Try.prog 119 #[.agg #[.int .i64 op, .int .i64 a, .int .i64 b, .int .i64 c, .int .i64 k]] w fun e w' => e = .returned (.bool false) ∧ Below w.heap.size w w' := by
  have h31 := i64_and31 k
  have HT : Hid (typB op = false) := Lib.hid (by simpa using ht)
  go_enter Try.func119, Try.ntmps119
  go_wp2_with (first | (go_at_call 120; refine (split_any k hk _).mono ?_; rintro e w' ⟨rfl, rfl⟩) | (go_at_call 106; refine (typed_v HT.out _).mono ?_; rintro e w' ⟨rfl, rfl⟩))
  all_goals go_ret
  all_goals exact ⟨by first | rfl | (simp [*]; done), by (repeat' (first | (with_reducible exact Below.refl _ _) | (with_reducible assumption) | (with_reducible refine below_alloc ?_ _) | (with_reducible refine Below.drew ?_) | (with_reducible refine below_drewN ?_ _) | (with_reducible refine below_step (by assumption) ?_) | (with_reducible refine below_later ?_ _) | (with_reducible refine Below.setCell ?_ ?_ _) | go_size))⟩
set_option maxRecDepth 100000 in
set_option maxHeartbeats 2000000 in
theorem kc_o_1 (op k a b c : Int) (hk : I64 k) (o1 : ¬ op = 1) (o19 : ¬ op = 19) (o9 : ¬ op = 9) (o10 : ¬ op = 10) (o13 : ¬ op = 13) (o14 : ¬ op = 14) (o22 : ¬ op = 22) (ht : ¬ typB op = true) (c0 : 0 ≤ k) (n1 : ¬ (k ≤ 32767)) (w : World) : Calls Try.prog 119 #[.agg #[.int .i64 op, .int .i64 a, .int .i64 b, .int .i64 c, .int .i64 k]] w fun e w' => e = .returned (.bool false) ∧ Below w.heap.size w w' := by
  have h31 := i64_and31 k
  have HT : Hid (typB op = false) := Lib.hid (by simpa using ht)
  go_enter Try.func119, Try.ntmps119
  go_wp2_with (first | (go_at_call 120; refine (split_any k hk _).mono ?_; rintro e w' ⟨rfl, rfl⟩) | (go_at_call 106; refine (typed_v HT.out _).mono ?_; rintro e w' ⟨rfl, rfl⟩))
  all_goals go_ret
  all_goals exact ⟨by first | rfl | (simp [*]; done), by (repeat' (first | (with_reducible exact Below.refl _ _) | (with_reducible assumption) | (with_reducible refine below_alloc ?_ _) | (with_reducible refine Below.drew ?_) | (with_reducible refine below_drewN ?_ _) | (with_reducible refine below_step (by assumption) ?_) | (with_reducible refine below_later ?_ _) | (with_reducible refine Below.setCell ?_ ?_ _) | go_size))⟩
set_option maxRecDepth 100000 in
set_option maxHeartbeats 2000000 in
theorem kc_o_2 (op k a b c : Int) (hk : I64 k) (o1 : ¬ op = 1) (o19 : ¬ op = 19) (o9 : ¬ op = 9) (o10 : ¬ op = 10) (o13 : ¬ op = 13) (o14 : ¬ op = 14) (o22 : ¬ op = 22) (ht : ¬ typB op = true) (c0 : 0 ≤ k) (c1 : k ≤ 32767) (w : World) : Calls Try.prog 119 #[.agg #[.int .i64 op, .int .i64 a, .int .i64 b, .int .i64 c, .int .i64 k]] w fun e w' => e = .returned (.bool true) ∧ Below w.heap.size w w' := by
  have h31 := i64_and31 k
  have HT : Hid (typB op = false) := Lib.hid (by simpa using ht)
  go_enter Try.func119, Try.ntmps119
  go_wp2_with (first | (go_at_call 120; refine (split_any k hk _).mono ?_; rintro e w' ⟨rfl, rfl⟩) | (go_at_call 106; refine (typed_v HT.out _).mono ?_; rintro e w' ⟨rfl, rfl⟩))
  all_goals go_ret
  all_goals exact ⟨by first | rfl | (simp [*]; done), by (repeat' (first | (with_reducible exact Below.refl _ _) | (with_reducible assumption) | (with_reducible refine below_alloc ?_ _) | (with_reducible refine Below.drew ?_) | (with_reducible refine below_drewN ?_ _) | (with_reducible refine below_step (by assumption) ?_) | (with_reducible refine below_later ?_ _) | (with_reducible refine Below.setCell ?_ ?_ _) | go_size))⟩
theorem const_any (op a b c k : Int) (hk : I64 k) (w : World) : Calls Try.prog 119 #[.agg #[.int .i64 op, .int .i64 a, .int .i64 b, .int .i64 c, .int .i64 k]] w fun e w' => e = .returned (.bool (kOk op k)) ∧ Below w.heap.size w w' := by
  by_cases o1 : op = 1
  · subst o1
    by_cases c0 : -1099511627776 ≤ k
    · by_cases c1 : k ≤ 1099511627776
      · rw [show kOk 1 k = true by unfold kOk; simp [*, show typB 22 = false from rfl]]
        exact kc_1_2 k a b c hk  c0 c1 w
      · rw [show kOk 1 k = false by unfold kOk; simp [*, show typB 22 = false from rfl]]
        exact kc_1_1 k a b c hk  c0 c1 w
    · rw [show kOk 1 k = false by unfold kOk; simp [*, show typB 22 = false from rfl]]
      exact kc_1_0 k a b c hk   c0 w
  by_cases o19 : op = 19
  · subst o19
    by_cases c0 : 0 ≤ k
    · by_cases c1 : k < 16
      · rw [show kOk 19 k = true by unfold kOk; simp [*, show typB 22 = false from rfl]]
        exact kc_19_2 k a b c hk  c0 c1 w
      · rw [show kOk 19 k = false by unfold kOk; simp [*, show typB 22 = false from rfl]]
        exact kc_19_1 k a b c hk  c0 c1 w
    · rw [show kOk 19 k = false by unfold kOk; simp [*, show typB 22 = false from rfl]]
      exact kc_19_0 k a b c hk   c0 w
  by_cases o9 : op = 9
  · subst o9
    by_cases c0 : 0 ≤ k
    · by_cases c1 : k < 2097152
      · by_cases c2 : k / 128 % 128 = 0
        · rw [show kOk 9 k = true by unfold kOk; simp [*, show typB 22 = false from rfl]]
          exact kc_9_3 k a b c hk  c0 c1 c2 w
        · rw [show kOk 9 k = false by unfold kOk; simp [*, show typB 22 = false from rfl]]
          exact kc_9_2 k a b c hk  c0 c1 c2 w
      · rw [show kOk 9 k = false by unfold kOk; simp [*, show typB 22 = false from rfl]]
        exact kc_9_1 k a b c hk  c0 c1 w
    · rw [show kOk 9 k = false by unfold kOk; simp [*, show typB 22 = false from rfl]]
      exact kc_9_0 k a b c hk   c0 w
  by_cases o10 : op = 10
  · subst o10
    by_cases c0 : 0 ≤ k
    · by_cases c1 : k < 2097152
      · by_cases c2 : k / 128 % 128 = 0
        · rw [show kOk 10 k = true by unfold kOk; simp [*, show typB 22 = false from rfl]]
          exact kc_10_3 k a b c hk  c0 c1 c2 w
        · rw [show kOk 10 k = false by unfold kOk; simp [*, show typB 22 = false from rfl]]
          exact kc_10_2 k a b c hk  c0 c1 c2 w
      · rw [show kOk 10 k = false by unfold kOk; simp [*, show typB 22 = false from rfl]]
        exact kc_10_1 k a b c hk  c0 c1 w
    · rw [show kOk 10 k = false by unfold kOk; simp [*, show typB 22 = false from rfl]]
      exact kc_10_0 k a b c hk   c0 w
  by_cases o13 : op = 13
  · subst o13
    by_cases c0 : 0 ≤ k
    · by_cases c1 : k < 2097152
      · by_cases c2 : k % 128 = 0
        · rw [show kOk 13 k = true by unfold kOk; simp [*, show typB 22 = false from rfl]]
          exact kc_13_3 k a b c hk  c0 c1 c2 w
        · rw [show kOk 13 k = false by unfold kOk; simp [*, show typB 22 = false from rfl]]
          exact kc_13_2 k a b c hk  c0 c1 c2 w
      · rw [show kOk 13 k = false by unfold kOk; simp [*, show typB 22 = false from rfl]]
        exact kc_13_1 k a b c hk  c0 c1 w
    · rw [show kOk 13 k = false by unfold kOk; simp [*, show typB 22 = false from rfl]]
      exact kc_13_0 k a b c hk   c0 w
  by_cases o14 : op = 14
  · subst o14
    by_cases c0 : 0 ≤ k
    · by_cases c1 : k < 2097152
      · by_cases c2 : k % 128 = 0
        · rw [show kOk 14 k = true by unfold kOk; simp [*, show typB 22 = false from rfl]]
          exact kc_14_3 k a b c hk  c0 c1 c2 w
        · rw [show kOk 14 k = false by unfold kOk; simp [*, show typB 22 = false from rfl]]
          exact kc_14_2 k a b c hk  c0 c1 c2 w
      · rw [show kOk 14 k = false by unfold kOk; simp [*, show typB 22 = false from rfl]]
        exact kc_14_1 k a b c hk  c0 c1 w
    · rw [show kOk 14 k = false by unfold kOk; simp [*, show typB 22 = false from rfl]]
      exact kc_14_0 k a b c hk   c0 w
  by_cases o22 : op = 22
  · subst o22
    by_cases c0 : 0 ≤ k
    · by_cases c1 : k ≤ 32767
      · by_cases c2 : k % 32 ≤ 20
        · rw [show kOk 22 k = true by unfold kOk; simp [*, show typB 22 = false from rfl]]
          exact kc_22_3 k a b c hk  c0 c1 c2 w
        · rw [show kOk 22 k = false by unfold kOk; simp [*, show typB 22 = false from rfl]]
          exact kc_22_2 k a b c hk  c0 c1 c2 w
      · rw [show kOk 22 k = false by unfold kOk; simp [*, show typB 22 = false from rfl]]
        exact kc_22_1 k a b c hk  c0 c1 w
    · rw [show kOk 22 k = false by unfold kOk; simp [*, show typB 22 = false from rfl]]
      exact kc_22_0 k a b c hk   c0 w
  by_cases ht : typB op = true
  · by_cases c0 : 0 ≤ k
    · by_cases c1 : k < 2097152
      · rw [show kOk op k = true by unfold kOk; simp [*, show typB 22 = false from rfl]]
        exact kc_t_2 op k a b c hk o1 o19 o9 o10 o13 o14 o22 ht c0 c1 w
      · rw [show kOk op k = false by unfold kOk; simp [*, show typB 22 = false from rfl]]
        exact kc_t_1 op k a b c hk o1 o19 o9 o10 o13 o14 o22 ht c0 c1 w
    · rw [show kOk op k = false by unfold kOk; simp [*, show typB 22 = false from rfl]]
      exact kc_t_0 op k a b c hk o1 o19 o9 o10 o13 o14 o22 ht  c0 w
  · by_cases c0 : 0 ≤ k
    · by_cases c1 : k ≤ 32767
      · rw [show kOk op k = true by unfold kOk; simp [*, show typB 22 = false from rfl]]
        exact kc_o_2 op k a b c hk o1 o19 o9 o10 o13 o14 o22 ht c0 c1 w
      · rw [show kOk op k = false by unfold kOk; simp [*, show typB 22 = false from rfl]]
        exact kc_o_1 op k a b c hk o1 o19 o9 o10 o13 o14 o22 ht c0 c1 w
    · rw [show kOk op k = false by unfold kOk; simp [*, show typB 22 = false from rfl]]
      exact kc_o_0 op k a b c hk o1 o19 o9 o10 o13 o14 o22 ht  c0 w
end Go.Proofs.Ytfooefiaenlhmaa
namespace Go.Proofs.Ytfooefiaenlhmaa
set_option linter.unusedVariables false
set_option linter.unusedSimpArgs false
open Go.RowKit Go.ChangeShapes Go.WideShapes Go.ChangeAt

def ueq (m kg s a k m2 kg2 s2 a2 k2 : Int) : Bool := decide (m = m2) && (decide (kg = kg2) && (decide (s = s2) && (decide (a = a2) && decide (k = k2))))
set_option maxRecDepth 100000 in
theorem eql_unit (m kg s a k m2 kg2 s2 a2 k2 : Int) (w : World) : (binOp .eql 57 (.agg #[.int .i64 m, .int .i64 kg, .int .i64 s, .int .i64 a, .int .i64 k]) (.agg #[.int .i64 m2, .int .i64 kg2, .int .i64 s2, .int .i64 a2, .int .i64 k2])).run Try.prog w = .ok (.bool (ueq m kg s a k m2 kg2 s2 a2 k2)) w := by
  have h1 : Try.prog.underlying 57 = some (.struct (Try.prog.fieldsOf 57)) := by kernel_rfl
  have h2 : Try.prog.stoodInHeld 57 = false := by kernel_rfl
  rw [run_eql_struct]
  have h3 := run_equalIn_agg (P := Try.prog) w 9999 57 #[.int .i64 m, .int .i64 kg, .int .i64 s, .int .i64 a, .int .i64 k] #[.int .i64 m2, .int .i64 kg2, .int .i64 s2, .int .i64 a2, .int .i64 k2] h1 h2
  rw [show (10000 : Nat) = 9999 + 1 from rfl, h3]
  simp only [Program.fieldsOf, Try.underlying57]
  unfold ueq
  by_cases e0 : m = m2
  · by_cases e1 : kg = kg2
    · by_cases e2 : s = s2
      · by_cases e3 : a = a2
        · by_cases e4 : k = k2
          · subst e0 e1 e2 e3 e4
            simp [Op.eqFields, go_sem, Result.andThen]
          · subst e0 e1 e2 e3
            simp [Op.eqFields, go_sem, Result.andThen, e4]
        · subst e0 e1 e2
          simp [Op.eqFields, go_sem, Result.andThen, e3]
      · subst e0 e1
        simp [Op.eqFields, go_sem, Result.andThen, e2]
    · subst e0
      simp [Op.eqFields, go_sem, Result.andThen, e1]
  · simp [Op.eqFields, go_sem, Result.andThen, e0]
set_option maxRecDepth 100000 in
set_option maxHeartbeats 2000000 in
theorem mul_v (m kg s a k m2 kg2 s2 a2 k2 E : Int) (hE : combE (1) m kg s a k m2 kg2 s2 a2 k2 = E) (w : World) : Calls Try.prog 121 #[.agg #[.int .i64 m, .int .i64 kg, .int .i64 s, .int .i64 a, .int .i64 k], .agg #[.int .i64 m2, .int .i64 kg2, .int .i64 s2, .int .i64 a2, .int .i64 k2]] w fun e w' => e = .returned (.tuple #[.agg #[.int .i64 (combV (1) m m2 E), .int .i64 (combV (1) kg kg2 E), .int .i64 (combV (1) s s2 E), .int .i64 (combV (1) a a2 E), .int .i64 (combV (1) k k2 E)], .int .i64 E]) ∧ Below w.heap.size w w' := by
  have HC := Lib.hid (fun w => comb_any (1) m kg s a k m2 kg2 s2 a2 k2 (by omega) w)
  rw [hE] at HC
  clear hE
  generalize combV (1) m m2 E = v0 at *
  generalize combV (1) kg kg2 E = v1 at *
  generalize combV (1) s s2 E = v2 at *
  generalize combV (1) a a2 E = v3 at *
  generalize combV (1) k k2 E = v4 at *
  go_enter Try.func121, Try.ntmps121
  go_wp2_with (first | (go_at_call 128; refine (HC.out _).mono ?_; rintro _ w1 ⟨rfl, hb1⟩; obtain ⟨hb1c, hb1f⟩ := bcell hb1; have hb1s := hb1.size; (try simp only [World.size_alloc] at hb1s); have hx2 : w.heap.size + 1 + 1 < w1.heap.size := (by omega)))
  refine bodyPost_ret (by simp [results, Try.results121, go_sem, *]; try rfl) rfl ?_
  exact ⟨rfl, by (repeat' (first | (with_reducible exact Below.refl _ _) | (with_reducible assumption) | (with_reducible refine below_alloc ?_ _) | (with_reducible refine Below.drew ?_) | (with_reducible refine below_drewN ?_ _) | (with_reducible refine below_step (by assumption) ?_) | (with_reducible refine below_later ?_ _) | (with_reducible refine Below.setCell ?_ ?_ _) | go_size))⟩
set_option maxRecDepth 100000 in
set_option maxHeartbeats 2000000 in
theorem div_v (m kg s a k m2 kg2 s2 a2 k2 E : Int) (hE : combE (-1) m kg s a k m2 kg2 s2 a2 k2 = E) (w : World) : Calls Try.prog 122 #[.agg #[.int .i64 m, .int .i64 kg, .int .i64 s, .int .i64 a, .int .i64 k], .agg #[.int .i64 m2, .int .i64 kg2, .int .i64 s2, .int .i64 a2, .int .i64 k2]] w fun e w' => e = .returned (.tuple #[.agg #[.int .i64 (combV (-1) m m2 E), .int .i64 (combV (-1) kg kg2 E), .int .i64 (combV (-1) s s2 E), .int .i64 (combV (-1) a a2 E), .int .i64 (combV (-1) k k2 E)], .int .i64 E]) ∧ Below w.heap.size w w' := by
  have HC := Lib.hid (fun w => comb_any (-1) m kg s a k m2 kg2 s2 a2 k2 (by omega) w)
  rw [hE] at HC
  clear hE
  generalize combV (-1) m m2 E = v0 at *
  generalize combV (-1) kg kg2 E = v1 at *
  generalize combV (-1) s s2 E = v2 at *
  generalize combV (-1) a a2 E = v3 at *
  generalize combV (-1) k k2 E = v4 at *
  go_enter Try.func122, Try.ntmps122
  go_wp2_with (first | (go_at_call 128; refine (HC.out _).mono ?_; rintro _ w1 ⟨rfl, hb1⟩; obtain ⟨hb1c, hb1f⟩ := bcell hb1; have hb1s := hb1.size; (try simp only [World.size_alloc] at hb1s); have hx2 : w.heap.size + 1 + 1 < w1.heap.size := (by omega)))
  refine bodyPost_ret (by simp [results, Try.results122, go_sem, *]; try rfl) rfl ?_
  exact ⟨rfl, by (repeat' (first | (with_reducible exact Below.refl _ _) | (with_reducible assumption) | (with_reducible refine below_alloc ?_ _) | (with_reducible refine Below.drew ?_) | (with_reducible refine below_drewN ?_ _) | (with_reducible refine below_step (by assumption) ?_) | (with_reducible refine below_later ?_ _) | (with_reducible refine Below.setCell ?_ ?_ _) | go_size))⟩
set_option linter.unusedVariables false in
def unitsB (op : Int) (x y t : Fx) : Bool :=
  if op = 5 ∨ op = 6 then ueq x.m x.kg x.s x.a x.k y.m y.kg y.s y.a y.k && ueq x.m x.kg x.s x.a x.k t.m t.kg t.s t.a t.k
  else if op = 7 then decide (combE 1 x.m x.kg x.s x.a x.k y.m y.kg y.s y.a y.k = 0) && ueq (combV (1) x.m y.m (combE (1) x.m x.kg x.s x.a x.k y.m y.kg y.s y.a y.k)) (combV (1) x.kg y.kg (combE (1) x.m x.kg x.s x.a x.k y.m y.kg y.s y.a y.k)) (combV (1) x.s y.s (combE (1) x.m x.kg x.s x.a x.k y.m y.kg y.s y.a y.k)) (combV (1) x.a y.a (combE (1) x.m x.kg x.s x.a x.k y.m y.kg y.s y.a y.k)) (combV (1) x.k y.k (combE (1) x.m x.kg x.s x.a x.k y.m y.kg y.s y.a y.k)) t.m t.kg t.s t.a t.k
  else if op = 8 then decide (combE (-1) x.m x.kg x.s x.a x.k y.m y.kg y.s y.a y.k = 0) && ueq (combV (-1) x.m y.m (combE (-1) x.m x.kg x.s x.a x.k y.m y.kg y.s y.a y.k)) (combV (-1) x.kg y.kg (combE (-1) x.m x.kg x.s x.a x.k y.m y.kg y.s y.a y.k)) (combV (-1) x.s y.s (combE (-1) x.m x.kg x.s x.a x.k y.m y.kg y.s y.a y.k)) (combV (-1) x.a y.a (combE (-1) x.m x.kg x.s x.a x.k y.m y.kg y.s y.a y.k)) (combV (-1) x.k y.k (combE (-1) x.m x.kg x.s x.a x.k y.m y.kg y.s y.a y.k)) t.m t.kg t.s t.a t.k
  else if op = 9 ∨ op = 10 then ueq x.m x.kg x.s x.a x.k t.m t.kg t.s t.a t.k
  else ueq x.m x.kg x.s x.a x.k y.m y.kg y.s y.a y.k
set_option maxRecDepth 100000 in
set_option maxHeartbeats 4000000 in
theorem un_5 (a b c k : Int) (x y t : Fx) (w : World) : Calls Try.prog 108 #[.agg #[.int .i64 5, .int .i64 a, .int .i64 b, .int .i64 c, .int .i64 k], .agg #[.int .i64 x.bits, .bool x.sg, .int .i64 x.num, .int .i64 x.off, .int .i64 x.den, .int .i64 x.m, .int .i64 x.kg, .int .i64 x.s, .int .i64 x.a, .int .i64 x.k], .agg #[.int .i64 y.bits, .bool y.sg, .int .i64 y.num, .int .i64 y.off, .int .i64 y.den, .int .i64 y.m, .int .i64 y.kg, .int .i64 y.s, .int .i64 y.a, .int .i64 y.k], .agg #[.int .i64 t.bits, .bool t.sg, .int .i64 t.num, .int .i64 t.off, .int .i64 t.den, .int .i64 t.m, .int .i64 t.kg, .int .i64 t.s, .int .i64 t.a, .int .i64 t.k]] w fun e w' => e = .returned (.bool (unitsB 5 x y t)) ∧ Below w.heap.size w w' := by
  have HR : Hid (unitsB 5 x y t = (ueq x.m x.kg x.s x.a x.k y.m y.kg y.s y.a y.k && ueq x.m x.kg x.s x.a x.k t.m t.kg t.s t.a t.k)) := Lib.hid (by unfold unitsB; simp)
  rw [HR.out]
  clear HR
  obtain ⟨x0, x1, x2, x3, x4, x5, x6, x7, x8, x9⟩ := x
  obtain ⟨y0, y1, y2, y3, y4, y5, y6, y7, y8, y9⟩ := y
  obtain ⟨t0, t1, t2, t3, t4, t5, t6, t7, t8, t9⟩ := t
  simp only
  have HEQ := eql_unit
  go_enter Try.func108, Try.ntmps108
  go_wp2
  all_goals go_ret
  all_goals exact ⟨by first | rfl | (simp [*]; done) | (simp_all; done), by (repeat' (first | (with_reducible exact Below.refl _ _) | (with_reducible assumption) | (with_reducible refine below_alloc ?_ _) | (with_reducible refine Below.drew ?_) | (with_reducible refine below_drewN ?_ _) | (with_reducible refine below_step (by assumption) ?_) | (with_reducible refine below_later ?_ _) | (with_reducible refine Below.setCell ?_ ?_ _) | go_size))⟩
set_option maxRecDepth 100000 in
set_option maxHeartbeats 4000000 in
theorem un_6 (a b c k : Int) (x y t : Fx) (w : World) : Calls Try.prog 108 #[.agg #[.int .i64 6, .int .i64 a, .int .i64 b, .int .i64 c, .int .i64 k], .agg #[.int .i64 x.bits, .bool x.sg, .int .i64 x.num, .int .i64 x.off, .int .i64 x.den, .int .i64 x.m, .int .i64 x.kg, .int .i64 x.s, .int .i64 x.a, .int .i64 x.k], .agg #[.int .i64 y.bits, .bool y.sg, .int .i64 y.num, .int .i64 y.off, .int .i64 y.den, .int .i64 y.m, .int .i64 y.kg, .int .i64 y.s, .int .i64 y.a, .int .i64 y.k], .agg #[.int .i64 t.bits, .bool t.sg, .int .i64 t.num, .int .i64 t.off, .int .i64 t.den, .int .i64 t.m, .int .i64 t.kg, .int .i64 t.s, .int .i64 t.a, .int .i64 t.k]] w fun e w' => e = .returned (.bool (unitsB 6 x y t)) ∧ Below w.heap.size w w' := by
  have HR : Hid (unitsB 6 x y t = (ueq x.m x.kg x.s x.a x.k y.m y.kg y.s y.a y.k && ueq x.m x.kg x.s x.a x.k t.m t.kg t.s t.a t.k)) := Lib.hid (by unfold unitsB; simp)
  rw [HR.out]
  clear HR
  obtain ⟨x0, x1, x2, x3, x4, x5, x6, x7, x8, x9⟩ := x
  obtain ⟨y0, y1, y2, y3, y4, y5, y6, y7, y8, y9⟩ := y
  obtain ⟨t0, t1, t2, t3, t4, t5, t6, t7, t8, t9⟩ := t
  simp only
  have HEQ := eql_unit
  go_enter Try.func108, Try.ntmps108
  go_wp2
  all_goals go_ret
  all_goals exact ⟨by first | rfl | (simp [*]; done) | (simp_all; done), by (repeat' (first | (with_reducible exact Below.refl _ _) | (with_reducible assumption) | (with_reducible refine below_alloc ?_ _) | (with_reducible refine Below.drew ?_) | (with_reducible refine below_drewN ?_ _) | (with_reducible refine below_step (by assumption) ?_) | (with_reducible refine below_later ?_ _) | (with_reducible refine Below.setCell ?_ ?_ _) | go_size))⟩
set_option maxRecDepth 100000 in
set_option maxHeartbeats 4000000 in
theorem un_7 (a b c k : Int) (x y t : Fx) (w : World) : Calls Try.prog 108 #[.agg #[.int .i64 7, .int .i64 a, .int .i64 b, .int .i64 c, .int .i64 k], .agg #[.int .i64 x.bits, .bool x.sg, .int .i64 x.num, .int .i64 x.off, .int .i64 x.den, .int .i64 x.m, .int .i64 x.kg, .int .i64 x.s, .int .i64 x.a, .int .i64 x.k], .agg #[.int .i64 y.bits, .bool y.sg, .int .i64 y.num, .int .i64 y.off, .int .i64 y.den, .int .i64 y.m, .int .i64 y.kg, .int .i64 y.s, .int .i64 y.a, .int .i64 y.k], .agg #[.int .i64 t.bits, .bool t.sg, .int .i64 t.num, .int .i64 t.off, .int .i64 t.den, .int .i64 t.m, .int .i64 t.kg, .int .i64 t.s, .int .i64 t.a, .int .i64 t.k]] w fun e w' => e = .returned (.bool (unitsB 7 x y t)) ∧ Below w.heap.size w w' := by
  have HR : Hid (unitsB 7 x y t = (decide (combE 1 x.m x.kg x.s x.a x.k y.m y.kg y.s y.a y.k = 0) && ueq (combV 1 x.m y.m (combE 1 x.m x.kg x.s x.a x.k y.m y.kg y.s y.a y.k)) (combV 1 x.kg y.kg (combE 1 x.m x.kg x.s x.a x.k y.m y.kg y.s y.a y.k)) (combV 1 x.s y.s (combE 1 x.m x.kg x.s x.a x.k y.m y.kg y.s y.a y.k)) (combV 1 x.a y.a (combE 1 x.m x.kg x.s x.a x.k y.m y.kg y.s y.a y.k)) (combV 1 x.k y.k (combE 1 x.m x.kg x.s x.a x.k y.m y.kg y.s y.a y.k)) t.m t.kg t.s t.a t.k)) := Lib.hid (by unfold unitsB; simp)
  rw [HR.out]
  clear HR
  obtain ⟨x0, x1, x2, x3, x4, x5, x6, x7, x8, x9⟩ := x
  obtain ⟨y0, y1, y2, y3, y4, y5, y6, y7, y8, y9⟩ := y
  obtain ⟨t0, t1, t2, t3, t4, t5, t6, t7, t8, t9⟩ := t
  simp only
  have HEQ := eql_unit
  obtain ⟨E, hE⟩ : ∃ E, combE (1) x5 x6 x7 x8 x9 y5 y6 y7 y8 y9 = E := ⟨_, rfl⟩
  rw [hE]
  have HM := Lib.hid (fun w => mul_v x5 x6 x7 x8 x9 y5 y6 y7 y8 y9 E hE w)
  clear hE
  generalize combV (1) x5 y5 E = v5 at *
  generalize combV (1) x6 y6 E = v6 at *
  generalize combV (1) x7 y7 E = v7 at *
  generalize combV (1) x8 y8 E = v8 at *
  generalize combV (1) x9 y9 E = v9 at *
  by_cases h0 : E = 0
  · subst h0
    go_enter Try.func108, Try.ntmps108
    go_wp2_with (first | (go_at_call 121; refine (HM.out _).mono ?_; rintro _ w1 ⟨rfl, hb1⟩; obtain ⟨hb1c, hb1f⟩ := bcell hb1; have hb1s := hb1.size; (try simp only [World.size_alloc] at hb1s); have hx1 : w.heap.size + 1 < w1.heap.size := (by omega); have hx2 : w.heap.size + 1 + 1 < w1.heap.size := (by omega); have hx3 : w.heap.size + 1 + 1 + 1 < w1.heap.size := (by omega)))
    all_goals go_ret
    all_goals exact ⟨by first | rfl | (simp [*]; done), by (repeat' (first | (with_reducible exact Below.refl _ _) | (with_reducible assumption) | (with_reducible refine below_alloc ?_ _) | (with_reducible refine Below.drew ?_) | (with_reducible refine below_drewN ?_ _) | (with_reducible refine below_step (by assumption) ?_) | (with_reducible refine below_later ?_ _) | (with_reducible refine Below.setCell ?_ ?_ _) | go_size))⟩
  · go_enter Try.func108, Try.ntmps108
    go_wp2_with (first | (go_at_call 121; refine (HM.out _).mono ?_; rintro _ w1 ⟨rfl, hb1⟩; obtain ⟨hb1c, hb1f⟩ := bcell hb1; have hb1s := hb1.size; (try simp only [World.size_alloc] at hb1s); have hx1 : w.heap.size + 1 < w1.heap.size := (by omega); have hx2 : w.heap.size + 1 + 1 < w1.heap.size := (by omega); have hx3 : w.heap.size + 1 + 1 + 1 < w1.heap.size := (by omega)))
    all_goals go_ret
    all_goals exact ⟨by first | rfl | (simp [*]; done), by (repeat' (first | (with_reducible exact Below.refl _ _) | (with_reducible assumption) | (with_reducible refine below_alloc ?_ _) | (with_reducible refine Below.drew ?_) | (with_reducible refine below_drewN ?_ _) | (with_reducible refine below_step (by assumption) ?_) | (with_reducible refine below_later ?_ _) | (with_reducible refine Below.setCell ?_ ?_ _) | go_size))⟩
set_option maxRecDepth 100000 in
set_option maxHeartbeats 4000000 in
theorem un_8 (a b c k : Int) (x y t : Fx) (w : World) : Calls Try.prog 108 #[.agg #[.int .i64 8, .int .i64 a, .int .i64 b, .int .i64 c, .int .i64 k], .agg #[.int .i64 x.bits, .bool x.sg, .int .i64 x.num, .int .i64 x.off, .int .i64 x.den, .int .i64 x.m, .int .i64 x.kg, .int .i64 x.s, .int .i64 x.a, .int .i64 x.k], .agg #[.int .i64 y.bits, .bool y.sg, .int .i64 y.num, .int .i64 y.off, .int .i64 y.den, .int .i64 y.m, .int .i64 y.kg, .int .i64 y.s, .int .i64 y.a, .int .i64 y.k], .agg #[.int .i64 t.bits, .bool t.sg, .int .i64 t.num, .int .i64 t.off, .int .i64 t.den, .int .i64 t.m, .int .i64 t.kg, .int .i64 t.s, .int .i64 t.a, .int .i64 t.k]] w fun e w' => e = .returned (.bool (unitsB 8 x y t)) ∧ Below w.heap.size w w' := by
  have HR : Hid (unitsB 8 x y t = (decide (combE (-1) x.m x.kg x.s x.a x.k y.m y.kg y.s y.a y.k = 0) && ueq (combV (-1) x.m y.m (combE (-1) x.m x.kg x.s x.a x.k y.m y.kg y.s y.a y.k)) (combV (-1) x.kg y.kg (combE (-1) x.m x.kg x.s x.a x.k y.m y.kg y.s y.a y.k)) (combV (-1) x.s y.s (combE (-1) x.m x.kg x.s x.a x.k y.m y.kg y.s y.a y.k)) (combV (-1) x.a y.a (combE (-1) x.m x.kg x.s x.a x.k y.m y.kg y.s y.a y.k)) (combV (-1) x.k y.k (combE (-1) x.m x.kg x.s x.a x.k y.m y.kg y.s y.a y.k)) t.m t.kg t.s t.a t.k)) := Lib.hid (by unfold unitsB; simp)
  rw [HR.out]
  clear HR
  obtain ⟨x0, x1, x2, x3, x4, x5, x6, x7, x8, x9⟩ := x
  obtain ⟨y0, y1, y2, y3, y4, y5, y6, y7, y8, y9⟩ := y
  obtain ⟨t0, t1, t2, t3, t4, t5, t6, t7, t8, t9⟩ := t
  simp only
  have HEQ := eql_unit
  obtain ⟨E, hE⟩ : ∃ E, combE (-1) x5 x6 x7 x8 x9 y5 y6 y7 y8 y9 = E := ⟨_, rfl⟩
  rw [hE]
  have HM := Lib.hid (fun w => div_v x5 x6 x7 x8 x9 y5 y6 y7 y8 y9 E hE w)
  clear hE
  generalize combV (-1) x5 y5 E = v5 at *
  generalize combV (-1) x6 y6 E = v6 at *
  generalize combV (-1) x7 y7 E = v7 at *
  generalize combV (-1) x8 y8 E = v8 at *
  generalize combV (-1) x9 y9 E = v9 at *
  by_cases h0 : E = 0
  · subst h0
    go_enter Try.func108, Try.ntmps108
    go_wp2_with (first | (go_at_call 122; refine (HM.out _).mono ?_; rintro _ w1 ⟨rfl, hb1⟩; obtain ⟨hb1c, hb1f⟩ := bcell hb1; have hb1s := hb1.size; (try simp only [World.size_alloc] at hb1s); have hx1 : w.heap.size + 1 < w1.heap.size := (by omega); have hx2 : w.heap.size + 1 + 1 < w1.heap.size := (by omega); have hx3 : w.heap.size + 1 + 1 + 1 < w1.heap.size := (by omega)))
    all_goals go_ret
    all_goals exact ⟨by first | rfl | (simp [*]; done), by (repeat' (first | (with_reducible exact Below.refl _ _) | (with_reducible assumption) | (with_reducible refine below_alloc ?_ _) | (with_reducible refine Below.drew ?_) | (with_reducible refine below_drewN ?_ _) | (with_reducible refine below_step (by assumption) ?_) | (with_reducible refine below_later ?_ _) | (with_reducible refine Below.setCell ?_ ?_ _) | go_size))⟩
  · go_enter Try.func108, Try.ntmps108
    go_wp2_with (first | (go_at_call 122; refine (HM.out _).mono ?_; rintro _ w1 ⟨rfl, hb1⟩; obtain ⟨hb1c, hb1f⟩ := bcell hb1; have hb1s := hb1.size; (try simp only [World.size_alloc] at hb1s); have hx1 : w.heap.size + 1 < w1.heap.size := (by omega); have hx2 : w.heap.size + 1 + 1 < w1.heap.size := (by omega); have hx3 : w.heap.size + 1 + 1 + 1 < w1.heap.size := (by omega)))
    all_goals go_ret
    all_goals exact ⟨by first | rfl | (simp [*]; done), by (repeat' (first | (with_reducible exact Below.refl _ _) | (with_reducible assumption) | (with_reducible refine below_alloc ?_ _) | (with_reducible refine Below.drew ?_) | (with_reducible refine below_drewN ?_ _) | (with_reducible refine below_step (by assumption) ?_) | (with_reducible refine below_later ?_ _) | (with_reducible refine Below.setCell ?_ ?_ _) | go_size))⟩
set_option maxRecDepth 100000 in
set_option maxHeartbeats 4000000 in
theorem un_9 (a b c k : Int) (x y t : Fx) (w : World) : Calls Try.prog 108 #[.agg #[.int .i64 9, .int .i64 a, .int .i64 b, .int .i64 c, .int .i64 k], .agg #[.int .i64 x.bits, .bool x.sg, .int .i64 x.num, .int .i64 x.off, .int .i64 x.den, .int .i64 x.m, .int .i64 x.kg, .int .i64 x.s, .int .i64 x.a, .int .i64 x.k], .agg #[.int .i64 y.bits, .bool y.sg, .int .i64 y.num, .int .i64 y.off, .int .i64 y.den, .int .i64 y.m, .int .i64 y.kg, .int .i64 y.s, .int .i64 y.a, .int .i64 y.k], .agg #[.int .i64 t.bits, .bool t.sg, .int .i64 t.num, .int .i64 t.off, .int .i64 t.den, .int .i64 t.m, .int .i64 t.kg, .int .i64 t.s, .int .i64 t.a, .int .i64 t.k]] w fun e w' => e = .returned (.bool (unitsB 9 x y t)) ∧ Below w.heap.size w w' := by
  have HR : Hid (unitsB 9 x y t = (ueq x.m x.kg x.s x.a x.k t.m t.kg t.s t.a t.k)) := Lib.hid (by unfold unitsB; simp)
  rw [HR.out]
  clear HR
  obtain ⟨x0, x1, x2, x3, x4, x5, x6, x7, x8, x9⟩ := x
  obtain ⟨y0, y1, y2, y3, y4, y5, y6, y7, y8, y9⟩ := y
  obtain ⟨t0, t1, t2, t3, t4, t5, t6, t7, t8, t9⟩ := t
  simp only
  have HEQ := eql_unit
  go_enter Try.func108, Try.ntmps108
  go_wp2
  all_goals go_ret
  all_goals exact ⟨by first | rfl | (simp [*]; done) | (simp_all; done), by (repeat' (first | (with_reducible exact Below.refl _ _) | (with_reducible assumption) | (with_reducible refine below_alloc ?_ _) | (with_reducible refine Below.drew ?_) | (with_reducible refine below_drewN ?_ _) | (with_reducible refine below_step (by assumption) ?_) | (with_reducible refine below_later ?_ _) | (with_reducible refine Below.setCell ?_ ?_ _) | go_size))⟩
set_option maxRecDepth 100000 in
set_option maxHeartbeats 4000000 in
theorem un_10 (a b c k : Int) (x y t : Fx) (w : World) : Calls Try.prog 108 #[.agg #[.int .i64 10, .int .i64 a, .int .i64 b, .int .i64 c, .int .i64 k], .agg #[.int .i64 x.bits, .bool x.sg, .int .i64 x.num, .int .i64 x.off, .int .i64 x.den, .int .i64 x.m, .int .i64 x.kg, .int .i64 x.s, .int .i64 x.a, .int .i64 x.k], .agg #[.int .i64 y.bits, .bool y.sg, .int .i64 y.num, .int .i64 y.off, .int .i64 y.den, .int .i64 y.m, .int .i64 y.kg, .int .i64 y.s, .int .i64 y.a, .int .i64 y.k], .agg #[.int .i64 t.bits, .bool t.sg, .int .i64 t.num, .int .i64 t.off, .int .i64 t.den, .int .i64 t.m, .int .i64 t.kg, .int .i64 t.s, .int .i64 t.a, .int .i64 t.k]] w fun e w' => e = .returned (.bool (unitsB 10 x y t)) ∧ Below w.heap.size w w' := by
  have HR : Hid (unitsB 10 x y t = (ueq x.m x.kg x.s x.a x.k t.m t.kg t.s t.a t.k)) := Lib.hid (by unfold unitsB; simp)
  rw [HR.out]
  clear HR
  obtain ⟨x0, x1, x2, x3, x4, x5, x6, x7, x8, x9⟩ := x
  obtain ⟨y0, y1, y2, y3, y4, y5, y6, y7, y8, y9⟩ := y
  obtain ⟨t0, t1, t2, t3, t4, t5, t6, t7, t8, t9⟩ := t
  simp only
  have HEQ := eql_unit
  go_enter Try.func108, Try.ntmps108
  go_wp2
  all_goals go_ret
  all_goals exact ⟨by first | rfl | (simp [*]; done) | (simp_all; done), by (repeat' (first | (with_reducible exact Below.refl _ _) | (with_reducible assumption) | (with_reducible refine below_alloc ?_ _) | (with_reducible refine Below.drew ?_) | (with_reducible refine below_drewN ?_ _) | (with_reducible refine below_step (by assumption) ?_) | (with_reducible refine below_later ?_ _) | (with_reducible refine Below.setCell ?_ ?_ _) | go_size))⟩
set_option maxRecDepth 100000 in
set_option maxHeartbeats 4000000 in
theorem un_o (op a b c k : Int) (o5 : ¬ op = 5) (o6 : ¬ op = 6) (o7 : ¬ op = 7) (o8 : ¬ op = 8) (o9 : ¬ op = 9) (o10 : ¬ op = 10) (x y t : Fx) (w : World) : Calls Try.prog 108 #[.agg #[.int .i64 op, .int .i64 a, .int .i64 b, .int .i64 c, .int .i64 k], .agg #[.int .i64 x.bits, .bool x.sg, .int .i64 x.num, .int .i64 x.off, .int .i64 x.den, .int .i64 x.m, .int .i64 x.kg, .int .i64 x.s, .int .i64 x.a, .int .i64 x.k], .agg #[.int .i64 y.bits, .bool y.sg, .int .i64 y.num, .int .i64 y.off, .int .i64 y.den, .int .i64 y.m, .int .i64 y.kg, .int .i64 y.s, .int .i64 y.a, .int .i64 y.k], .agg #[.int .i64 t.bits, .bool t.sg, .int .i64 t.num, .int .i64 t.off, .int .i64 t.den, .int .i64 t.m, .int .i64 t.kg, .int .i64 t.s, .int .i64 t.a, .int .i64 t.k]] w fun e w' => e = .returned (.bool (unitsB op x y t)) ∧ Below w.heap.size w w' := by
  have HR : Hid (unitsB op x y t = (ueq x.m x.kg x.s x.a x.k y.m y.kg y.s y.a y.k)) := Lib.hid (by unfold unitsB; simp [*])
  rw [HR.out]
  clear HR
  obtain ⟨x0, x1, x2, x3, x4, x5, x6, x7, x8, x9⟩ := x
  obtain ⟨y0, y1, y2, y3, y4, y5, y6, y7, y8, y9⟩ := y
  obtain ⟨t0, t1, t2, t3, t4, t5, t6, t7, t8, t9⟩ := t
  simp only
  have HEQ := eql_unit
  go_enter Try.func108, Try.ntmps108
  go_wp2
  all_goals go_ret
  all_goals exact ⟨by first | rfl | (simp [*]; done) | (simp_all; done), by (repeat' (first | (with_reducible exact Below.refl _ _) | (with_reducible assumption) | (with_reducible refine below_alloc ?_ _) | (with_reducible refine Below.drew ?_) | (with_reducible refine below_drewN ?_ _) | (with_reducible refine below_step (by assumption) ?_) | (with_reducible refine below_later ?_ _) | (with_reducible refine Below.setCell ?_ ?_ _) | go_size))⟩
theorem units_any (op a b c k : Int) (x y t : Fx) (w : World) : Calls Try.prog 108 #[.agg #[.int .i64 op, .int .i64 a, .int .i64 b, .int .i64 c, .int .i64 k], .agg #[.int .i64 x.bits, .bool x.sg, .int .i64 x.num, .int .i64 x.off, .int .i64 x.den, .int .i64 x.m, .int .i64 x.kg, .int .i64 x.s, .int .i64 x.a, .int .i64 x.k], .agg #[.int .i64 y.bits, .bool y.sg, .int .i64 y.num, .int .i64 y.off, .int .i64 y.den, .int .i64 y.m, .int .i64 y.kg, .int .i64 y.s, .int .i64 y.a, .int .i64 y.k], .agg #[.int .i64 t.bits, .bool t.sg, .int .i64 t.num, .int .i64 t.off, .int .i64 t.den, .int .i64 t.m, .int .i64 t.kg, .int .i64 t.s, .int .i64 t.a, .int .i64 t.k]] w fun e w' => e = .returned (.bool (unitsB op x y t)) ∧ Below w.heap.size w w' := by
  by_cases o5 : op = 5
  · subst o5
    exact un_5 a b c k x y t w
  by_cases o6 : op = 6
  · subst o6
    exact un_6 a b c k x y t w
  by_cases o7 : op = 7
  · subst o7
    exact un_7 a b c k x y t w
  by_cases o8 : op = 8
  · subst o8
    exact un_8 a b c k x y t w
  by_cases o9 : op = 9
  · subst o9
    exact un_9 a b c k x y t w
  by_cases o10 : op = 10
  · subst o10
    exact un_10 a b c k x y t w
  exact un_o op a b c k o5 o6 o7 o8 o9 o10 x y t w
end Go.Proofs.Ytfooefiaenlhmaa
namespace Go.Proofs.Ytfooefiaenlhmaa
set_option linter.unusedVariables false
set_option linter.unusedSimpArgs false
open Go.RowKit Go.ChangeShapes Go.WideShapes Go.ChangeAt

theorem setCell_self {W : World} {a : Addr} {v : Value} (h : W.cell? a = some v) : W.setCell a v = W := by
  unfold World.setCell
  have hm : ∀ f : Obj → Obj, (∀ o, W.heap[a.block]? = some o → f o = o) → W.heap.modify a.block f = W.heap := fun f hf => by
    apply Array.ext
    · simp
    · intro i h1 h2
      rw [Array.getElem_modify]
      split
      · rename_i hi
        subst hi
        exact hf _ (Array.getElem?_eq_getElem h2)
      · rfl
  rw [hm]
  intro o ho
  unfold World.cell? at h
  rw [ho] at h
  cases o with
  | cells c e f =>
    simp only at h ⊢
    split at h
    · cases h
    · rename_i hs
      have hs2 : a.spot.isSome = false := by simpa using hs
      obtain ⟨hlt, hv⟩ := Array.getElem?_eq_some_iff.1 h
      have hc : c.setIfInBounds a.off v = c := by
        apply Array.ext
        · simp
        · intro i h1 h2
          rw [Array.getElem_setIfInBounds]
          split
          · rename_i hi; subst hi; exact hv.symm
          · rfl
      simp [hs2, hc]
  | _ => rfl
theorem cap_world2 {P : World → Prop} (W : World) (h : ∀ W', W' = W → P W') : P W := h W rfl
end Go.Proofs.Ytfooefiaenlhmaa
namespace Go.Proofs.Ytfooefiaenlhmaa
set_option linter.unusedVariables false
set_option linter.unusedSimpArgs false
open Go.RowKit Go.ChangeShapes Go.WideShapes Go.ChangeAt

set_option maxRecDepth 100000 in
set_option maxHeartbeats 8000000 in
theorem ty_n_a (rc : Option Addr) (lc cc : Nat) (rt : Option Addr) (ct : Nat) (types : List Fx) (rv : Option Addr) (lv cv : Nat) (rm : Option Addr) (lm cm : Nat) (cells : Int) (ri : Option Addr) (li ci : Nat) (rs : Option Addr) (ls cs : Nat) (ro : Option Addr) (lo co : Nat) (rn : Option Addr) (ln cn : Nat) (op a b c k : Int) (na nb nt : Nat) (hk : I64 k) (hna : k / 16384 = (na : Int)) (hnb : k / 128 % 128 = (nb : Int)) (hnt : k % 128 = (nt : Int)) (o9 : ¬ op = 9) (o10 : ¬ op = 10) (o13 : ¬ op = 13) (o14 : ¬ op = 14) (za : types.length ≤ na) (w : World) (hS : IsS 10 Fx.enc w rt ct types) : Calls Try.prog 107 #[.agg #[.slice rc lc cc, .slice rt types.length ct, .slice rv lv cv, .slice rm lm cm, .int .i64 cells, .slice ri li ci, .slice rs ls cs, .slice ro lo co, .slice rn ln cn], .agg #[.int .i64 op, .int .i64 a, .int .i64 b, .int .i64 c, .int .i64 k]] w fun e w' => e = .returned (.tuple #[.agg #[.int .i64 0, .bool false, .int .i64 0, .int .i64 0, .int .i64 0, .int .i64 0, .int .i64 0, .int .i64 0, .int .i64 0, .int .i64 0], .agg #[.int .i64 0, .bool false, .int .i64 0, .int .i64 0, .int .i64 0, .int .i64 0, .int .i64 0, .int .i64 0, .int .i64 0, .int .i64 0], .agg #[.int .i64 0, .bool false, .int .i64 0, .int .i64 0, .int .i64 0, .int .i64 0, .int .i64 0, .int .i64 0, .int .i64 0, .int .i64 0], .bool false]) ∧ Below w.heap.size w w' := by
  have hmx := Nat.le_trans hS.le hS.max
  unfold maxLen at hmx
  have ia : (types.length : Int) ≤ (na : Int) := by omega
  clear hS
  have e9 : (op == 9) = false := by simp [o9]
  have e10 : (op == 10) = false := by simp [o10]
  have e13 : (op == 13) = false := by simp [o13]
  have e14 : (op == 14) = false := by simp [o14]
  have ml : (types.length : Int) ≤ 9223372036854775807 := by omega
  go_enter Try.func107, Try.ntmps107
  go_wp2_with (first | (go_at_call 120; refine (split_any k hk _).mono ?_; rintro e w' ⟨rfl, rfl⟩; rw [hna, hnb, hnt]))
  refine cap_world2 (P := fun W => Code.wp _ _ _ _ W) _ ?_
  intro W9 hW9
  have f00 : W9.cell? ⟨w.heap.size + 1 + 1, 0, none⟩ = some (.int .i64 0) := by rw [hW9]; first | go_keep | (simp [go_sem, *]; done)
  have f01 : W9.cell? ⟨w.heap.size + 1 + 1, 1, none⟩ = some (.bool false) := by rw [hW9]; first | go_keep | (simp [go_sem, *]; done)
  have f02 : W9.cell? ⟨w.heap.size + 1 + 1, 2, none⟩ = some (.int .i64 0) := by rw [hW9]; first | go_keep | (simp [go_sem, *]; done)
  have f03 : W9.cell? ⟨w.heap.size + 1 + 1, 3, none⟩ = some (.int .i64 0) := by rw [hW9]; first | go_keep | (simp [go_sem, *]; done)
  have f04 : W9.cell? ⟨w.heap.size + 1 + 1, 4, none⟩ = some (.int .i64 0) := by rw [hW9]; first | go_keep | (simp [go_sem, *]; done)
  have f05 : W9.cell? ⟨w.heap.size + 1 + 1, 5, none⟩ = some (.int .i64 0) := by rw [hW9]; first | go_keep | (simp [go_sem, *]; done)
  have f06 : W9.cell? ⟨w.heap.size + 1 + 1, 6, none⟩ = some (.int .i64 0) := by rw [hW9]; first | go_keep | (simp [go_sem, *]; done)
  have f07 : W9.cell? ⟨w.heap.size + 1 + 1, 7, none⟩ = some (.int .i64 0) := by rw [hW9]; first | go_keep | (simp [go_sem, *]; done)
  have f08 : W9.cell? ⟨w.heap.size + 1 + 1, 8, none⟩ = some (.int .i64 0) := by rw [hW9]; first | go_keep | (simp [go_sem, *]; done)
  have f09 : W9.cell? ⟨w.heap.size + 1 + 1, 9, none⟩ = some (.int .i64 0) := by rw [hW9]; first | go_keep | (simp [go_sem, *]; done)
  have fz0 : ∀ j, W9.frozen? ⟨w.heap.size + 1 + 1, j, none⟩ = false := fun j => by rw [hW9]; simp [go_sem]
  have f10 : W9.cell? ⟨w.heap.size + 1 + 1 + 1, 0, none⟩ = some (.int .i64 0) := by rw [hW9]; first | go_keep | (simp [go_sem, *]; done)
  have f11 : W9.cell? ⟨w.heap.size + 1 + 1 + 1, 1, none⟩ = some (.bool false) := by rw [hW9]; first | go_keep | (simp [go_sem, *]; done)
  have f12 : W9.cell? ⟨w.heap.size + 1 + 1 + 1, 2, none⟩ = some (.int .i64 0) := by rw [hW9]; first | go_keep | (simp [go_sem, *]; done)
  have f13 : W9.cell? ⟨w.heap.size + 1 + 1 + 1, 3, none⟩ = some (.int .i64 0) := by rw [hW9]; first | go_keep | (simp [go_sem, *]; done)
  have f14 : W9.cell? ⟨w.heap.size + 1 + 1 + 1, 4, none⟩ = some (.int .i64 0) := by rw [hW9]; first | go_keep | (simp [go_sem, *]; done)
  have f15 : W9.cell? ⟨w.heap.size + 1 + 1 + 1, 5, none⟩ = some (.int .i64 0) := by rw [hW9]; first | go_keep | (simp [go_sem, *]; done)
  have f16 : W9.cell? ⟨w.heap.size + 1 + 1 + 1, 6, none⟩ = some (.int .i64 0) := by rw [hW9]; first | go_keep | (simp [go_sem, *]; done)
  have f17 : W9.cell? ⟨w.heap.size + 1 + 1 + 1, 7, none⟩ = some (.int .i64 0) := by rw [hW9]; first | go_keep | (simp [go_sem, *]; done)
  have f18 : W9.cell? ⟨w.heap.size + 1 + 1 + 1, 8, none⟩ = some (.int .i64 0) := by rw [hW9]; first | go_keep | (simp [go_sem, *]; done)
  have f19 : W9.cell? ⟨w.heap.size + 1 + 1 + 1, 9, none⟩ = some (.int .i64 0) := by rw [hW9]; first | go_keep | (simp [go_sem, *]; done)
  have fz1 : ∀ j, W9.frozen? ⟨w.heap.size + 1 + 1 + 1, j, none⟩ = false := fun j => by rw [hW9]; simp [go_sem]
  have f20 : W9.cell? ⟨w.heap.size + 1 + 1 + 1 + 1, 0, none⟩ = some (.int .i64 0) := by rw [hW9]; first | go_keep | (simp [go_sem, *]; done)
  have f21 : W9.cell? ⟨w.heap.size + 1 + 1 + 1 + 1, 1, none⟩ = some (.bool false) := by rw [hW9]; first | go_keep | (simp [go_sem, *]; done)
  have f22 : W9.cell? ⟨w.heap.size + 1 + 1 + 1 + 1, 2, none⟩ = some (.int .i64 0) := by rw [hW9]; first | go_keep | (simp [go_sem, *]; done)
  have f23 : W9.cell? ⟨w.heap.size + 1 + 1 + 1 + 1, 3, none⟩ = some (.int .i64 0) := by rw [hW9]; first | go_keep | (simp [go_sem, *]; done)
  have f24 : W9.cell? ⟨w.heap.size + 1 + 1 + 1 + 1, 4, none⟩ = some (.int .i64 0) := by rw [hW9]; first | go_keep | (simp [go_sem, *]; done)
  have f25 : W9.cell? ⟨w.heap.size + 1 + 1 + 1 + 1, 5, none⟩ = some (.int .i64 0) := by rw [hW9]; first | go_keep | (simp [go_sem, *]; done)
  have f26 : W9.cell? ⟨w.heap.size + 1 + 1 + 1 + 1, 6, none⟩ = some (.int .i64 0) := by rw [hW9]; first | go_keep | (simp [go_sem, *]; done)
  have f27 : W9.cell? ⟨w.heap.size + 1 + 1 + 1 + 1, 7, none⟩ = some (.int .i64 0) := by rw [hW9]; first | go_keep | (simp [go_sem, *]; done)
  have f28 : W9.cell? ⟨w.heap.size + 1 + 1 + 1 + 1, 8, none⟩ = some (.int .i64 0) := by rw [hW9]; first | go_keep | (simp [go_sem, *]; done)
  have f29 : W9.cell? ⟨w.heap.size + 1 + 1 + 1 + 1, 9, none⟩ = some (.int .i64 0) := by rw [hW9]; first | go_keep | (simp [go_sem, *]; done)
  have fz2 : ∀ j, W9.frozen? ⟨w.heap.size + 1 + 1 + 1 + 1, j, none⟩ = false := fun j => by rw [hW9]; simp [go_sem]
  have s9 : w.heap.size + 1 + 1 + 1 + 1 < W9.heap.size := by rw [hW9]; simp only [World.size_alloc, World.size_setCell]; omega
  have hB9 : Below w.heap.size w W9 := by rw [hW9]; (repeat' (first | (with_reducible exact Below.refl _ _) | (with_reducible assumption) | (with_reducible refine below_alloc ?_ _) | (with_reducible refine Below.drew ?_) | (with_reducible refine below_drewN ?_ _) | (with_reducible refine below_step (by assumption) ?_) | (with_reducible refine below_later ?_ _) | (with_reducible refine Below.setCell ?_ ?_ _) | go_size))
  clear hW9
  have sz0 : w.heap.size + 1 + 1 < W9.heap.size := by omega
  have g00 : W9.drew.cell? ⟨w.heap.size + 1 + 1, 0, none⟩ = some (.int .i64 0) := f00
  have k00 := setCell_self g00
  have g01 : W9.drew.cell? ⟨w.heap.size + 1 + 1, 1, none⟩ = some (.bool false) := f01
  have k01 := setCell_self g01
  have g02 : W9.drew.cell? ⟨w.heap.size + 1 + 1, 2, none⟩ = some (.int .i64 0) := f02
  have k02 := setCell_self g02
  have g03 : W9.drew.cell? ⟨w.heap.size + 1 + 1, 3, none⟩ = some (.int .i64 0) := f03
  have k03 := setCell_self g03
  have g04 : W9.drew.cell? ⟨w.heap.size + 1 + 1, 4, none⟩ = some (.int .i64 0) := f04
  have k04 := setCell_self g04
  have g05 : W9.drew.cell? ⟨w.heap.size + 1 + 1, 5, none⟩ = some (.int .i64 0) := f05
  have k05 := setCell_self g05
  have g06 : W9.drew.cell? ⟨w.heap.size + 1 + 1, 6, none⟩ = some (.int .i64 0) := f06
  have k06 := setCell_self g06
  have g07 : W9.drew.cell? ⟨w.heap.size + 1 + 1, 7, none⟩ = some (.int .i64 0) := f07
  have k07 := setCell_self g07
  have g08 : W9.drew.cell? ⟨w.heap.size + 1 + 1, 8, none⟩ = some (.int .i64 0) := f08
  have k08 := setCell_self g08
  have g09 : W9.drew.cell? ⟨w.heap.size + 1 + 1, 9, none⟩ = some (.int .i64 0) := f09
  have k09 := setCell_self g09
  have gz0 : ∀ j, W9.drew.frozen? ⟨w.heap.size + 1 + 1, j, none⟩ = false := fz0
  have sz1 : w.heap.size + 1 + 1 + 1 < W9.heap.size := by omega
  have g10 : W9.drew.cell? ⟨w.heap.size + 1 + 1 + 1, 0, none⟩ = some (.int .i64 0) := f10
  have k10 := setCell_self g10
  have g11 : W9.drew.cell? ⟨w.heap.size + 1 + 1 + 1, 1, none⟩ = some (.bool false) := f11
  have k11 := setCell_self g11
  have g12 : W9.drew.cell? ⟨w.heap.size + 1 + 1 + 1, 2, none⟩ = some (.int .i64 0) := f12
  have k12 := setCell_self g12
  have g13 : W9.drew.cell? ⟨w.heap.size + 1 + 1 + 1, 3, none⟩ = some (.int .i64 0) := f13
  have k13 := setCell_self g13
  have g14 : W9.drew.cell? ⟨w.heap.size + 1 + 1 + 1, 4, none⟩ = some (.int .i64 0) := f14
  have k14 := setCell_self g14
  have g15 : W9.drew.cell? ⟨w.heap.size + 1 + 1 + 1, 5, none⟩ = some (.int .i64 0) := f15
  have k15 := setCell_self g15
  have g16 : W9.drew.cell? ⟨w.heap.size + 1 + 1 + 1, 6, none⟩ = some (.int .i64 0) := f16
  have k16 := setCell_self g16
  have g17 : W9.drew.cell? ⟨w.heap.size + 1 + 1 + 1, 7, none⟩ = some (.int .i64 0) := f17
  have k17 := setCell_self g17
  have g18 : W9.drew.cell? ⟨w.heap.size + 1 + 1 + 1, 8, none⟩ = some (.int .i64 0) := f18
  have k18 := setCell_self g18
  have g19 : W9.drew.cell? ⟨w.heap.size + 1 + 1 + 1, 9, none⟩ = some (.int .i64 0) := f19
  have k19 := setCell_self g19
  have gz1 : ∀ j, W9.drew.frozen? ⟨w.heap.size + 1 + 1 + 1, j, none⟩ = false := fz1
  have sz2 : w.heap.size + 1 + 1 + 1 + 1 < W9.heap.size := by omega
  have g20 : W9.drew.cell? ⟨w.heap.size + 1 + 1 + 1 + 1, 0, none⟩ = some (.int .i64 0) := f20
  have k20 := setCell_self g20
  have g21 : W9.drew.cell? ⟨w.heap.size + 1 + 1 + 1 + 1, 1, none⟩ = some (.bool false) := f21
  have k21 := setCell_self g21
  have g22 : W9.drew.cell? ⟨w.heap.size + 1 + 1 + 1 + 1, 2, none⟩ = some (.int .i64 0) := f22
  have k22 := setCell_self g22
  have g23 : W9.drew.cell? ⟨w.heap.size + 1 + 1 + 1 + 1, 3, none⟩ = some (.int .i64 0) := f23
  have k23 := setCell_self g23
  have g24 : W9.drew.cell? ⟨w.heap.size + 1 + 1 + 1 + 1, 4, none⟩ = some (.int .i64 0) := f24
  have k24 := setCell_self g24
  have g25 : W9.drew.cell? ⟨w.heap.size + 1 + 1 + 1 + 1, 5, none⟩ = some (.int .i64 0) := f25
  have k25 := setCell_self g25
  have g26 : W9.drew.cell? ⟨w.heap.size + 1 + 1 + 1 + 1, 6, none⟩ = some (.int .i64 0) := f26
  have k26 := setCell_self g26
  have g27 : W9.drew.cell? ⟨w.heap.size + 1 + 1 + 1 + 1, 7, none⟩ = some (.int .i64 0) := f27
  have k27 := setCell_self g27
  have g28 : W9.drew.cell? ⟨w.heap.size + 1 + 1 + 1 + 1, 8, none⟩ = some (.int .i64 0) := f28
  have k28 := setCell_self g28
  have g29 : W9.drew.cell? ⟨w.heap.size + 1 + 1 + 1 + 1, 9, none⟩ = some (.int .i64 0) := f29
  have k29 := setCell_self g29
  have gz2 : ∀ j, W9.drew.frozen? ⟨w.heap.size + 1 + 1 + 1 + 1, j, none⟩ = false := fz2
  clear f00 f01 f02 f03 f04 f05 f06 f07 f08 f09 f10 f11 f12 f13 f14 f15 f16 f17 f18 f19 f20 f21 f22 f23 f24 f25 f26 f27 f28 f29
  go_region_held3 (fun w' => w' = W9.drew) (first | rfl | assumption | (simp [*]; done)) (fail)
  all_goals go_wp2
  all_goals refine bodyPost_ret (by simp [results, Try.results107, go_sem, *]; try rfl) rfl ?_
  all_goals exact ⟨rfl, hB9.drew⟩
set_option maxRecDepth 100000 in
set_option maxHeartbeats 8000000 in
theorem ty_n_b (rc : Option Addr) (lc cc : Nat) (rt : Option Addr) (ct : Nat) (types : List Fx) (rv : Option Addr) (lv cv : Nat) (rm : Option Addr) (lm cm : Nat) (cells : Int) (ri : Option Addr) (li ci : Nat) (rs : Option Addr) (ls cs : Nat) (ro : Option Addr) (lo co : Nat) (rn : Option Addr) (ln cn : Nat) (op a b c k : Int) (na nb nt : Nat) (hk : I64 k) (hna : k / 16384 = (na : Int)) (hnb : k / 128 % 128 = (nb : Int)) (hnt : k % 128 = (nt : Int)) (o9 : ¬ op = 9) (o10 : ¬ op = 10) (o13 : ¬ op = 13) (o14 : ¬ op = 14) (ha : na < types.length) (zb : types.length ≤ nb) (w : World) (hS : IsS 10 Fx.enc w rt ct types) : Calls Try.prog 107 #[.agg #[.slice rc lc cc, .slice rt types.length ct, .slice rv lv cv, .slice rm lm cm, .int .i64 cells, .slice ri li ci, .slice rs ls cs, .slice ro lo co, .slice rn ln cn], .agg #[.int .i64 op, .int .i64 a, .int .i64 b, .int .i64 c, .int .i64 k]] w fun e w' => e = .returned (.tuple #[.agg #[.int .i64 0, .bool false, .int .i64 0, .int .i64 0, .int .i64 0, .int .i64 0, .int .i64 0, .int .i64 0, .int .i64 0, .int .i64 0], .agg #[.int .i64 0, .bool false, .int .i64 0, .int .i64 0, .int .i64 0, .int .i64 0, .int .i64 0, .int .i64 0, .int .i64 0, .int .i64 0], .agg #[.int .i64 0, .bool false, .int .i64 0, .int .i64 0, .int .i64 0, .int .i64 0, .int .i64 0, .int .i64 0, .int .i64 0, .int .i64 0], .bool false]) ∧ Below w.heap.size w w' := by
  have hmx := Nat.le_trans hS.le hS.max
  unfold maxLen at hmx
  have ia : (na : Int) < (types.length : Int) := by omega
  have ja : (0 : Int) ≤ (na : Int) := by omega
  have ib : (types.length : Int) ≤ (nb : Int) := by omega
  clear hS
  have e9 : (op == 9) = false := by simp [o9]
  have e10 : (op == 10) = false := by simp [o10]
  have e13 : (op == 13) = false := by simp [o13]
  have e14 : (op == 14) = false := by simp [o14]
  have ml : (types.length : Int) ≤ 9223372036854775807 := by omega
  go_enter Try.func107, Try.ntmps107
  go_wp2_with (first | (go_at_call 120; refine (split_any k hk _).mono ?_; rintro e w' ⟨rfl, rfl⟩; rw [hna, hnb, hnt]))
  refine cap_world2 (P := fun W => Code.wp _ _ _ _ W) _ ?_
  intro W9 hW9
  have f00 : W9.cell? ⟨w.heap.size + 1 + 1, 0, none⟩ = some (.int .i64 0) := by rw [hW9]; first | go_keep | (simp [go_sem, *]; done)
  have f01 : W9.cell? ⟨w.heap.size + 1 + 1, 1, none⟩ = some (.bool false) := by rw [hW9]; first | go_keep | (simp [go_sem, *]; done)
  have f02 : W9.cell? ⟨w.heap.size + 1 + 1, 2, none⟩ = some (.int .i64 0) := by rw [hW9]; first | go_keep | (simp [go_sem, *]; done)
  have f03 : W9.cell? ⟨w.heap.size + 1 + 1, 3, none⟩ = some (.int .i64 0) := by rw [hW9]; first | go_keep | (simp [go_sem, *]; done)
  have f04 : W9.cell? ⟨w.heap.size + 1 + 1, 4, none⟩ = some (.int .i64 0) := by rw [hW9]; first | go_keep | (simp [go_sem, *]; done)
  have f05 : W9.cell? ⟨w.heap.size + 1 + 1, 5, none⟩ = some (.int .i64 0) := by rw [hW9]; first | go_keep | (simp [go_sem, *]; done)
  have f06 : W9.cell? ⟨w.heap.size + 1 + 1, 6, none⟩ = some (.int .i64 0) := by rw [hW9]; first | go_keep | (simp [go_sem, *]; done)
  have f07 : W9.cell? ⟨w.heap.size + 1 + 1, 7, none⟩ = some (.int .i64 0) := by rw [hW9]; first | go_keep | (simp [go_sem, *]; done)
  have f08 : W9.cell? ⟨w.heap.size + 1 + 1, 8, none⟩ = some (.int .i64 0) := by rw [hW9]; first | go_keep | (simp [go_sem, *]; done)
  have f09 : W9.cell? ⟨w.heap.size + 1 + 1, 9, none⟩ = some (.int .i64 0) := by rw [hW9]; first | go_keep | (simp [go_sem, *]; done)
  have fz0 : ∀ j, W9.frozen? ⟨w.heap.size + 1 + 1, j, none⟩ = false := fun j => by rw [hW9]; simp [go_sem]
  have f10 : W9.cell? ⟨w.heap.size + 1 + 1 + 1, 0, none⟩ = some (.int .i64 0) := by rw [hW9]; first | go_keep | (simp [go_sem, *]; done)
  have f11 : W9.cell? ⟨w.heap.size + 1 + 1 + 1, 1, none⟩ = some (.bool false) := by rw [hW9]; first | go_keep | (simp [go_sem, *]; done)
  have f12 : W9.cell? ⟨w.heap.size + 1 + 1 + 1, 2, none⟩ = some (.int .i64 0) := by rw [hW9]; first | go_keep | (simp [go_sem, *]; done)
  have f13 : W9.cell? ⟨w.heap.size + 1 + 1 + 1, 3, none⟩ = some (.int .i64 0) := by rw [hW9]; first | go_keep | (simp [go_sem, *]; done)
  have f14 : W9.cell? ⟨w.heap.size + 1 + 1 + 1, 4, none⟩ = some (.int .i64 0) := by rw [hW9]; first | go_keep | (simp [go_sem, *]; done)
  have f15 : W9.cell? ⟨w.heap.size + 1 + 1 + 1, 5, none⟩ = some (.int .i64 0) := by rw [hW9]; first | go_keep | (simp [go_sem, *]; done)
  have f16 : W9.cell? ⟨w.heap.size + 1 + 1 + 1, 6, none⟩ = some (.int .i64 0) := by rw [hW9]; first | go_keep | (simp [go_sem, *]; done)
  have f17 : W9.cell? ⟨w.heap.size + 1 + 1 + 1, 7, none⟩ = some (.int .i64 0) := by rw [hW9]; first | go_keep | (simp [go_sem, *]; done)
  have f18 : W9.cell? ⟨w.heap.size + 1 + 1 + 1, 8, none⟩ = some (.int .i64 0) := by rw [hW9]; first | go_keep | (simp [go_sem, *]; done)
  have f19 : W9.cell? ⟨w.heap.size + 1 + 1 + 1, 9, none⟩ = some (.int .i64 0) := by rw [hW9]; first | go_keep | (simp [go_sem, *]; done)
  have fz1 : ∀ j, W9.frozen? ⟨w.heap.size + 1 + 1 + 1, j, none⟩ = false := fun j => by rw [hW9]; simp [go_sem]
  have f20 : W9.cell? ⟨w.heap.size + 1 + 1 + 1 + 1, 0, none⟩ = some (.int .i64 0) := by rw [hW9]; first | go_keep | (simp [go_sem, *]; done)
  have f21 : W9.cell? ⟨w.heap.size + 1 + 1 + 1 + 1, 1, none⟩ = some (.bool false) := by rw [hW9]; first | go_keep | (simp [go_sem, *]; done)
  have f22 : W9.cell? ⟨w.heap.size + 1 + 1 + 1 + 1, 2, none⟩ = some (.int .i64 0) := by rw [hW9]; first | go_keep | (simp [go_sem, *]; done)
  have f23 : W9.cell? ⟨w.heap.size + 1 + 1 + 1 + 1, 3, none⟩ = some (.int .i64 0) := by rw [hW9]; first | go_keep | (simp [go_sem, *]; done)
  have f24 : W9.cell? ⟨w.heap.size + 1 + 1 + 1 + 1, 4, none⟩ = some (.int .i64 0) := by rw [hW9]; first | go_keep | (simp [go_sem, *]; done)
  have f25 : W9.cell? ⟨w.heap.size + 1 + 1 + 1 + 1, 5, none⟩ = some (.int .i64 0) := by rw [hW9]; first | go_keep | (simp [go_sem, *]; done)
  have f26 : W9.cell? ⟨w.heap.size + 1 + 1 + 1 + 1, 6, none⟩ = some (.int .i64 0) := by rw [hW9]; first | go_keep | (simp [go_sem, *]; done)
  have f27 : W9.cell? ⟨w.heap.size + 1 + 1 + 1 + 1, 7, none⟩ = some (.int .i64 0) := by rw [hW9]; first | go_keep | (simp [go_sem, *]; done)
  have f28 : W9.cell? ⟨w.heap.size + 1 + 1 + 1 + 1, 8, none⟩ = some (.int .i64 0) := by rw [hW9]; first | go_keep | (simp [go_sem, *]; done)
  have f29 : W9.cell? ⟨w.heap.size + 1 + 1 + 1 + 1, 9, none⟩ = some (.int .i64 0) := by rw [hW9]; first | go_keep | (simp [go_sem, *]; done)
  have fz2 : ∀ j, W9.frozen? ⟨w.heap.size + 1 + 1 + 1 + 1, j, none⟩ = false := fun j => by rw [hW9]; simp [go_sem]
  have s9 : w.heap.size + 1 + 1 + 1 + 1 < W9.heap.size := by rw [hW9]; simp only [World.size_alloc, World.size_setCell]; omega
  have hB9 : Below w.heap.size w W9 := by rw [hW9]; (repeat' (first | (with_reducible exact Below.refl _ _) | (with_reducible assumption) | (with_reducible refine below_alloc ?_ _) | (with_reducible refine Below.drew ?_) | (with_reducible refine below_drewN ?_ _) | (with_reducible refine below_step (by assumption) ?_) | (with_reducible refine below_later ?_ _) | (with_reducible refine Below.setCell ?_ ?_ _) | go_size))
  clear hW9
  have sz0 : w.heap.size + 1 + 1 < W9.heap.size := by omega
  have g00 : W9.drew.cell? ⟨w.heap.size + 1 + 1, 0, none⟩ = some (.int .i64 0) := f00
  have k00 := setCell_self g00
  have g01 : W9.drew.cell? ⟨w.heap.size + 1 + 1, 1, none⟩ = some (.bool false) := f01
  have k01 := setCell_self g01
  have g02 : W9.drew.cell? ⟨w.heap.size + 1 + 1, 2, none⟩ = some (.int .i64 0) := f02
  have k02 := setCell_self g02
  have g03 : W9.drew.cell? ⟨w.heap.size + 1 + 1, 3, none⟩ = some (.int .i64 0) := f03
  have k03 := setCell_self g03
  have g04 : W9.drew.cell? ⟨w.heap.size + 1 + 1, 4, none⟩ = some (.int .i64 0) := f04
  have k04 := setCell_self g04
  have g05 : W9.drew.cell? ⟨w.heap.size + 1 + 1, 5, none⟩ = some (.int .i64 0) := f05
  have k05 := setCell_self g05
  have g06 : W9.drew.cell? ⟨w.heap.size + 1 + 1, 6, none⟩ = some (.int .i64 0) := f06
  have k06 := setCell_self g06
  have g07 : W9.drew.cell? ⟨w.heap.size + 1 + 1, 7, none⟩ = some (.int .i64 0) := f07
  have k07 := setCell_self g07
  have g08 : W9.drew.cell? ⟨w.heap.size + 1 + 1, 8, none⟩ = some (.int .i64 0) := f08
  have k08 := setCell_self g08
  have g09 : W9.drew.cell? ⟨w.heap.size + 1 + 1, 9, none⟩ = some (.int .i64 0) := f09
  have k09 := setCell_self g09
  have gz0 : ∀ j, W9.drew.frozen? ⟨w.heap.size + 1 + 1, j, none⟩ = false := fz0
  have sz1 : w.heap.size + 1 + 1 + 1 < W9.heap.size := by omega
  have g10 : W9.drew.cell? ⟨w.heap.size + 1 + 1 + 1, 0, none⟩ = some (.int .i64 0) := f10
  have k10 := setCell_self g10
  have g11 : W9.drew.cell? ⟨w.heap.size + 1 + 1 + 1, 1, none⟩ = some (.bool false) := f11
  have k11 := setCell_self g11
  have g12 : W9.drew.cell? ⟨w.heap.size + 1 + 1 + 1, 2, none⟩ = some (.int .i64 0) := f12
  have k12 := setCell_self g12
  have g13 : W9.drew.cell? ⟨w.heap.size + 1 + 1 + 1, 3, none⟩ = some (.int .i64 0) := f13
  have k13 := setCell_self g13
  have g14 : W9.drew.cell? ⟨w.heap.size + 1 + 1 + 1, 4, none⟩ = some (.int .i64 0) := f14
  have k14 := setCell_self g14
  have g15 : W9.drew.cell? ⟨w.heap.size + 1 + 1 + 1, 5, none⟩ = some (.int .i64 0) := f15
  have k15 := setCell_self g15
  have g16 : W9.drew.cell? ⟨w.heap.size + 1 + 1 + 1, 6, none⟩ = some (.int .i64 0) := f16
  have k16 := setCell_self g16
  have g17 : W9.drew.cell? ⟨w.heap.size + 1 + 1 + 1, 7, none⟩ = some (.int .i64 0) := f17
  have k17 := setCell_self g17
  have g18 : W9.drew.cell? ⟨w.heap.size + 1 + 1 + 1, 8, none⟩ = some (.int .i64 0) := f18
  have k18 := setCell_self g18
  have g19 : W9.drew.cell? ⟨w.heap.size + 1 + 1 + 1, 9, none⟩ = some (.int .i64 0) := f19
  have k19 := setCell_self g19
  have gz1 : ∀ j, W9.drew.frozen? ⟨w.heap.size + 1 + 1 + 1, j, none⟩ = false := fz1
  have sz2 : w.heap.size + 1 + 1 + 1 + 1 < W9.heap.size := by omega
  have g20 : W9.drew.cell? ⟨w.heap.size + 1 + 1 + 1 + 1, 0, none⟩ = some (.int .i64 0) := f20
  have k20 := setCell_self g20
  have g21 : W9.drew.cell? ⟨w.heap.size + 1 + 1 + 1 + 1, 1, none⟩ = some (.bool false) := f21
  have k21 := setCell_self g21
  have g22 : W9.drew.cell? ⟨w.heap.size + 1 + 1 + 1 + 1, 2, none⟩ = some (.int .i64 0) := f22
  have k22 := setCell_self g22
  have g23 : W9.drew.cell? ⟨w.heap.size + 1 + 1 + 1 + 1, 3, none⟩ = some (.int .i64 0) := f23
  have k23 := setCell_self g23
  have g24 : W9.drew.cell? ⟨w.heap.size + 1 + 1 + 1 + 1, 4, none⟩ = some (.int .i64 0) := f24
  have k24 := setCell_self g24
  have g25 : W9.drew.cell? ⟨w.heap.size + 1 + 1 + 1 + 1, 5, none⟩ = some (.int .i64 0) := f25
  have k25 := setCell_self g25
  have g26 : W9.drew.cell? ⟨w.heap.size + 1 + 1 + 1 + 1, 6, none⟩ = some (.int .i64 0) := f26
  have k26 := setCell_self g26
  have g27 : W9.drew.cell? ⟨w.heap.size + 1 + 1 + 1 + 1, 7, none⟩ = some (.int .i64 0) := f27
  have k27 := setCell_self g27
  have g28 : W9.drew.cell? ⟨w.heap.size + 1 + 1 + 1 + 1, 8, none⟩ = some (.int .i64 0) := f28
  have k28 := setCell_self g28
  have g29 : W9.drew.cell? ⟨w.heap.size + 1 + 1 + 1 + 1, 9, none⟩ = some (.int .i64 0) := f29
  have k29 := setCell_self g29
  have gz2 : ∀ j, W9.drew.frozen? ⟨w.heap.size + 1 + 1 + 1 + 1, j, none⟩ = false := fz2
  clear f00 f01 f02 f03 f04 f05 f06 f07 f08 f09 f10 f11 f12 f13 f14 f15 f16 f17 f18 f19 f20 f21 f22 f23 f24 f25 f26 f27 f28 f29
  go_region_held3 (fun w' => w' = W9.drew) (first | rfl | assumption | (simp [*]; done)) (fail)
  all_goals go_wp2
  all_goals refine bodyPost_ret (by simp [results, Try.results107, go_sem, *]; try rfl) rfl ?_
  all_goals exact ⟨rfl, hB9.drew⟩
set_option maxRecDepth 100000 in
set_option maxHeartbeats 8000000 in
theorem ty_n_t (rc : Option Addr) (lc cc : Nat) (rt : Option Addr) (ct : Nat) (types : List Fx) (rv : Option Addr) (lv cv : Nat) (rm : Option Addr) (lm cm : Nat) (cells : Int) (ri : Option Addr) (li ci : Nat) (rs : Option Addr) (ls cs : Nat) (ro : Option Addr) (lo co : Nat) (rn : Option Addr) (ln cn : Nat) (op a b c k : Int) (na nb nt : Nat) (hk : I64 k) (hna : k / 16384 = (na : Int)) (hnb : k / 128 % 128 = (nb : Int)) (hnt : k % 128 = (nt : Int)) (o9 : ¬ op = 9) (o10 : ¬ op = 10) (o13 : ¬ op = 13) (o14 : ¬ op = 14) (ha : na < types.length) (hb : nb < types.length) (zt : types.length ≤ nt) (w : World) (hS : IsS 10 Fx.enc w rt ct types) : Calls Try.prog 107 #[.agg #[.slice rc lc cc, .slice rt types.length ct, .slice rv lv cv, .slice rm lm cm, .int .i64 cells, .slice ri li ci, .slice rs ls cs, .slice ro lo co, .slice rn ln cn], .agg #[.int .i64 op, .int .i64 a, .int .i64 b, .int .i64 c, .int .i64 k]] w fun e w' => e = .returned (.tuple #[.agg #[.int .i64 0, .bool false, .int .i64 0, .int .i64 0, .int .i64 0, .int .i64 0, .int .i64 0, .int .i64 0, .int .i64 0, .int .i64 0], .agg #[.int .i64 0, .bool false, .int .i64 0, .int .i64 0, .int .i64 0, .int .i64 0, .int .i64 0, .int .i64 0, .int .i64 0, .int .i64 0], .agg #[.int .i64 0, .bool false, .int .i64 0, .int .i64 0, .int .i64 0, .int .i64 0, .int .i64 0, .int .i64 0, .int .i64 0, .int .i64 0], .bool false]) ∧ Below w.heap.size w w' := by
  have hmx := Nat.le_trans hS.le hS.max
  unfold maxLen at hmx
  have ia : (na : Int) < (types.length : Int) := by omega
  have ja : (0 : Int) ≤ (na : Int) := by omega
  have ib : (nb : Int) < (types.length : Int) := by omega
  have jb : (0 : Int) ≤ (nb : Int) := by omega
  have it : (types.length : Int) ≤ (nt : Int) := by omega
  clear hS
  have e9 : (op == 9) = false := by simp [o9]
  have e10 : (op == 10) = false := by simp [o10]
  have e13 : (op == 13) = false := by simp [o13]
  have e14 : (op == 14) = false := by simp [o14]
  have ml : (types.length : Int) ≤ 9223372036854775807 := by omega
  go_enter Try.func107, Try.ntmps107
  go_wp2_with (first | (go_at_call 120; refine (split_any k hk _).mono ?_; rintro e w' ⟨rfl, rfl⟩; rw [hna, hnb, hnt]))
  refine cap_world2 (P := fun W => Code.wp _ _ _ _ W) _ ?_
  intro W9 hW9
  have f00 : W9.cell? ⟨w.heap.size + 1 + 1, 0, none⟩ = some (.int .i64 0) := by rw [hW9]; first | go_keep | (simp [go_sem, *]; done)
  have f01 : W9.cell? ⟨w.heap.size + 1 + 1, 1, none⟩ = some (.bool false) := by rw [hW9]; first | go_keep | (simp [go_sem, *]; done)
  have f02 : W9.cell? ⟨w.heap.size + 1 + 1, 2, none⟩ = some (.int .i64 0) := by rw [hW9]; first | go_keep | (simp [go_sem, *]; done)
  have f03 : W9.cell? ⟨w.heap.size + 1 + 1, 3, none⟩ = some (.int .i64 0) := by rw [hW9]; first | go_keep | (simp [go_sem, *]; done)
  have f04 : W9.cell? ⟨w.heap.size + 1 + 1, 4, none⟩ = some (.int .i64 0) := by rw [hW9]; first | go_keep | (simp [go_sem, *]; done)
  have f05 : W9.cell? ⟨w.heap.size + 1 + 1, 5, none⟩ = some (.int .i64 0) := by rw [hW9]; first | go_keep | (simp [go_sem, *]; done)
  have f06 : W9.cell? ⟨w.heap.size + 1 + 1, 6, none⟩ = some (.int .i64 0) := by rw [hW9]; first | go_keep | (simp [go_sem, *]; done)
  have f07 : W9.cell? ⟨w.heap.size + 1 + 1, 7, none⟩ = some (.int .i64 0) := by rw [hW9]; first | go_keep | (simp [go_sem, *]; done)
  have f08 : W9.cell? ⟨w.heap.size + 1 + 1, 8, none⟩ = some (.int .i64 0) := by rw [hW9]; first | go_keep | (simp [go_sem, *]; done)
  have f09 : W9.cell? ⟨w.heap.size + 1 + 1, 9, none⟩ = some (.int .i64 0) := by rw [hW9]; first | go_keep | (simp [go_sem, *]; done)
  have fz0 : ∀ j, W9.frozen? ⟨w.heap.size + 1 + 1, j, none⟩ = false := fun j => by rw [hW9]; simp [go_sem]
  have f10 : W9.cell? ⟨w.heap.size + 1 + 1 + 1, 0, none⟩ = some (.int .i64 0) := by rw [hW9]; first | go_keep | (simp [go_sem, *]; done)
  have f11 : W9.cell? ⟨w.heap.size + 1 + 1 + 1, 1, none⟩ = some (.bool false) := by rw [hW9]; first | go_keep | (simp [go_sem, *]; done)
  have f12 : W9.cell? ⟨w.heap.size + 1 + 1 + 1, 2, none⟩ = some (.int .i64 0) := by rw [hW9]; first | go_keep | (simp [go_sem, *]; done)
  have f13 : W9.cell? ⟨w.heap.size + 1 + 1 + 1, 3, none⟩ = some (.int .i64 0) := by rw [hW9]; first | go_keep | (simp [go_sem, *]; done)
  have f14 : W9.cell? ⟨w.heap.size + 1 + 1 + 1, 4, none⟩ = some (.int .i64 0) := by rw [hW9]; first | go_keep | (simp [go_sem, *]; done)
  have f15 : W9.cell? ⟨w.heap.size + 1 + 1 + 1, 5, none⟩ = some (.int .i64 0) := by rw [hW9]; first | go_keep | (simp [go_sem, *]; done)
  have f16 : W9.cell? ⟨w.heap.size + 1 + 1 + 1, 6, none⟩ = some (.int .i64 0) := by rw [hW9]; first | go_keep | (simp [go_sem, *]; done)
  have f17 : W9.cell? ⟨w.heap.size + 1 + 1 + 1, 7, none⟩ = some (.int .i64 0) := by rw [hW9]; first | go_keep | (simp [go_sem, *]; done)
  have f18 : W9.cell? ⟨w.heap.size + 1 + 1 + 1, 8, none⟩ = some (.int .i64 0) := by rw [hW9]; first | go_keep | (simp [go_sem, *]; done)
  have f19 : W9.cell? ⟨w.heap.size + 1 + 1 + 1, 9, none⟩ = some (.int .i64 0) := by rw [hW9]; first | go_keep | (simp [go_sem, *]; done)
  have fz1 : ∀ j, W9.frozen? ⟨w.heap.size + 1 + 1 + 1, j, none⟩ = false := fun j => by rw [hW9]; simp [go_sem]
  have f20 : W9.cell? ⟨w.heap.size + 1 + 1 + 1 + 1, 0, none⟩ = some (.int .i64 0) := by rw [hW9]; first | go_keep | (simp [go_sem, *]; done)
  have f21 : W9.cell? ⟨w.heap.size + 1 + 1 + 1 + 1, 1, none⟩ = some (.bool false) := by rw [hW9]; first | go_keep | (simp [go_sem, *]; done)
  have f22 : W9.cell? ⟨w.heap.size + 1 + 1 + 1 + 1, 2, none⟩ = some (.int .i64 0) := by rw [hW9]; first | go_keep | (simp [go_sem, *]; done)
  have f23 : W9.cell? ⟨w.heap.size + 1 + 1 + 1 + 1, 3, none⟩ = some (.int .i64 0) := by rw [hW9]; first | go_keep | (simp [go_sem, *]; done)
  have f24 : W9.cell? ⟨w.heap.size + 1 + 1 + 1 + 1, 4, none⟩ = some (.int .i64 0) := by rw [hW9]; first | go_keep | (simp [go_sem, *]; done)
  have f25 : W9.cell? ⟨w.heap.size + 1 + 1 + 1 + 1, 5, none⟩ = some (.int .i64 0) := by rw [hW9]; first | go_keep | (simp [go_sem, *]; done)
  have f26 : W9.cell? ⟨w.heap.size + 1 + 1 + 1 + 1, 6, none⟩ = some (.int .i64 0) := by rw [hW9]; first | go_keep | (simp [go_sem, *]; done)
  have f27 : W9.cell? ⟨w.heap.size + 1 + 1 + 1 + 1, 7, none⟩ = some (.int .i64 0) := by rw [hW9]; first | go_keep | (simp [go_sem, *]; done)
  have f28 : W9.cell? ⟨w.heap.size + 1 + 1 + 1 + 1, 8, none⟩ = some (.int .i64 0) := by rw [hW9]; first | go_keep | (simp [go_sem, *]; done)
  have f29 : W9.cell? ⟨w.heap.size + 1 + 1 + 1 + 1, 9, none⟩ = some (.int .i64 0) := by rw [hW9]; first | go_keep | (simp [go_sem, *]; done)
  have fz2 : ∀ j, W9.frozen? ⟨w.heap.size + 1 + 1 + 1 + 1, j, none⟩ = false := fun j => by rw [hW9]; simp [go_sem]
  have s9 : w.heap.size + 1 + 1 + 1 + 1 < W9.heap.size := by rw [hW9]; simp only [World.size_alloc, World.size_setCell]; omega
  have hB9 : Below w.heap.size w W9 := by rw [hW9]; (repeat' (first | (with_reducible exact Below.refl _ _) | (with_reducible assumption) | (with_reducible refine below_alloc ?_ _) | (with_reducible refine Below.drew ?_) | (with_reducible refine below_drewN ?_ _) | (with_reducible refine below_step (by assumption) ?_) | (with_reducible refine below_later ?_ _) | (with_reducible refine Below.setCell ?_ ?_ _) | go_size))
  clear hW9
  have sz0 : w.heap.size + 1 + 1 < W9.heap.size := by omega
  have g00 : W9.drew.cell? ⟨w.heap.size + 1 + 1, 0, none⟩ = some (.int .i64 0) := f00
  have k00 := setCell_self g00
  have g01 : W9.drew.cell? ⟨w.heap.size + 1 + 1, 1, none⟩ = some (.bool false) := f01
  have k01 := setCell_self g01
  have g02 : W9.drew.cell? ⟨w.heap.size + 1 + 1, 2, none⟩ = some (.int .i64 0) := f02
  have k02 := setCell_self g02
  have g03 : W9.drew.cell? ⟨w.heap.size + 1 + 1, 3, none⟩ = some (.int .i64 0) := f03
  have k03 := setCell_self g03
  have g04 : W9.drew.cell? ⟨w.heap.size + 1 + 1, 4, none⟩ = some (.int .i64 0) := f04
  have k04 := setCell_self g04
  have g05 : W9.drew.cell? ⟨w.heap.size + 1 + 1, 5, none⟩ = some (.int .i64 0) := f05
  have k05 := setCell_self g05
  have g06 : W9.drew.cell? ⟨w.heap.size + 1 + 1, 6, none⟩ = some (.int .i64 0) := f06
  have k06 := setCell_self g06
  have g07 : W9.drew.cell? ⟨w.heap.size + 1 + 1, 7, none⟩ = some (.int .i64 0) := f07
  have k07 := setCell_self g07
  have g08 : W9.drew.cell? ⟨w.heap.size + 1 + 1, 8, none⟩ = some (.int .i64 0) := f08
  have k08 := setCell_self g08
  have g09 : W9.drew.cell? ⟨w.heap.size + 1 + 1, 9, none⟩ = some (.int .i64 0) := f09
  have k09 := setCell_self g09
  have gz0 : ∀ j, W9.drew.frozen? ⟨w.heap.size + 1 + 1, j, none⟩ = false := fz0
  have sz1 : w.heap.size + 1 + 1 + 1 < W9.heap.size := by omega
  have g10 : W9.drew.cell? ⟨w.heap.size + 1 + 1 + 1, 0, none⟩ = some (.int .i64 0) := f10
  have k10 := setCell_self g10
  have g11 : W9.drew.cell? ⟨w.heap.size + 1 + 1 + 1, 1, none⟩ = some (.bool false) := f11
  have k11 := setCell_self g11
  have g12 : W9.drew.cell? ⟨w.heap.size + 1 + 1 + 1, 2, none⟩ = some (.int .i64 0) := f12
  have k12 := setCell_self g12
  have g13 : W9.drew.cell? ⟨w.heap.size + 1 + 1 + 1, 3, none⟩ = some (.int .i64 0) := f13
  have k13 := setCell_self g13
  have g14 : W9.drew.cell? ⟨w.heap.size + 1 + 1 + 1, 4, none⟩ = some (.int .i64 0) := f14
  have k14 := setCell_self g14
  have g15 : W9.drew.cell? ⟨w.heap.size + 1 + 1 + 1, 5, none⟩ = some (.int .i64 0) := f15
  have k15 := setCell_self g15
  have g16 : W9.drew.cell? ⟨w.heap.size + 1 + 1 + 1, 6, none⟩ = some (.int .i64 0) := f16
  have k16 := setCell_self g16
  have g17 : W9.drew.cell? ⟨w.heap.size + 1 + 1 + 1, 7, none⟩ = some (.int .i64 0) := f17
  have k17 := setCell_self g17
  have g18 : W9.drew.cell? ⟨w.heap.size + 1 + 1 + 1, 8, none⟩ = some (.int .i64 0) := f18
  have k18 := setCell_self g18
  have g19 : W9.drew.cell? ⟨w.heap.size + 1 + 1 + 1, 9, none⟩ = some (.int .i64 0) := f19
  have k19 := setCell_self g19
  have gz1 : ∀ j, W9.drew.frozen? ⟨w.heap.size + 1 + 1 + 1, j, none⟩ = false := fz1
  have sz2 : w.heap.size + 1 + 1 + 1 + 1 < W9.heap.size := by omega
  have g20 : W9.drew.cell? ⟨w.heap.size + 1 + 1 + 1 + 1, 0, none⟩ = some (.int .i64 0) := f20
  have k20 := setCell_self g20
  have g21 : W9.drew.cell? ⟨w.heap.size + 1 + 1 + 1 + 1, 1, none⟩ = some (.bool false) := f21
  have k21 := setCell_self g21
  have g22 : W9.drew.cell? ⟨w.heap.size + 1 + 1 + 1 + 1, 2, none⟩ = some (.int .i64 0) := f22
  have k22 := setCell_self g22
  have g23 : W9.drew.cell? ⟨w.heap.size + 1 + 1 + 1 + 1, 3, none⟩ = some (.int .i64 0) := f23
  have k23 := setCell_self g23
  have g24 : W9.drew.cell? ⟨w.heap.size + 1 + 1 + 1 + 1, 4, none⟩ = some (.int .i64 0) := f24
  have k24 := setCell_self g24
  have g25 : W9.drew.cell? ⟨w.heap.size + 1 + 1 + 1 + 1, 5, none⟩ = some (.int .i64 0) := f25
  have k25 := setCell_self g25
  have g26 : W9.drew.cell? ⟨w.heap.size + 1 + 1 + 1 + 1, 6, none⟩ = some (.int .i64 0) := f26
  have k26 := setCell_self g26
  have g27 : W9.drew.cell? ⟨w.heap.size + 1 + 1 + 1 + 1, 7, none⟩ = some (.int .i64 0) := f27
  have k27 := setCell_self g27
  have g28 : W9.drew.cell? ⟨w.heap.size + 1 + 1 + 1 + 1, 8, none⟩ = some (.int .i64 0) := f28
  have k28 := setCell_self g28
  have g29 : W9.drew.cell? ⟨w.heap.size + 1 + 1 + 1 + 1, 9, none⟩ = some (.int .i64 0) := f29
  have k29 := setCell_self g29
  have gz2 : ∀ j, W9.drew.frozen? ⟨w.heap.size + 1 + 1 + 1 + 1, j, none⟩ = false := fz2
  clear f00 f01 f02 f03 f04 f05 f06 f07 f08 f09 f10 f11 f12 f13 f14 f15 f16 f17 f18 f19 f20 f21 f22 f23 f24 f25 f26 f27 f28 f29
  go_region_held3 (fun w' => w' = W9.drew) (first | rfl | assumption | (simp [*]; done)) (fail)
  all_goals go_wp2
  all_goals refine bodyPost_ret (by simp [results, Try.results107, go_sem, *]; try rfl) rfl ?_
  all_goals exact ⟨rfl, hB9.drew⟩
set_option maxRecDepth 100000 in
set_option maxHeartbeats 8000000 in
theorem ty_n_ok (rc : Option Addr) (lc cc : Nat) (rt : Option Addr) (ct : Nat) (types : List Fx) (rv : Option Addr) (lv cv : Nat) (rm : Option Addr) (lm cm : Nat) (cells : Int) (ri : Option Addr) (li ci : Nat) (rs : Option Addr) (ls cs : Nat) (ro : Option Addr) (lo co : Nat) (rn : Option Addr) (ln cn : Nat) (op a b c k : Int) (na nb nt : Nat) (hk : I64 k) (hna : k / 16384 = (na : Int)) (hnb : k / 128 % 128 = (nb : Int)) (hnt : k % 128 = (nt : Int)) (o9 : ¬ op = 9) (o10 : ¬ op = 10) (o13 : ¬ op = 13) (o14 : ¬ op = 14) (ha : na < types.length) (hb : nb < types.length) (ht : nt < types.length) (w : World) (hS : IsS 10 Fx.enc w rt ct types) : Calls Try.prog 107 #[.agg #[.slice rc lc cc, .slice rt types.length ct, .slice rv lv cv, .slice rm lm cm, .int .i64 cells, .slice ri li ci, .slice rs ls cs, .slice ro lo co, .slice rn ln cn], .agg #[.int .i64 op, .int .i64 a, .int .i64 b, .int .i64 c, .int .i64 k]] w fun e w' => e = .returned (.tuple #[.agg #[.int .i64 (types.getD na default).bits, .bool (types.getD na default).sg, .int .i64 (types.getD na default).num, .int .i64 (types.getD na default).off, .int .i64 (types.getD na default).den, .int .i64 (types.getD na default).m, .int .i64 (types.getD na default).kg, .int .i64 (types.getD na default).s, .int .i64 (types.getD na default).a, .int .i64 (types.getD na default).k], .agg #[.int .i64 (types.getD nb default).bits, .bool (types.getD nb default).sg, .int .i64 (types.getD nb default).num, .int .i64 (types.getD nb default).off, .int .i64 (types.getD nb default).den, .int .i64 (types.getD nb default).m, .int .i64 (types.getD nb default).kg, .int .i64 (types.getD nb default).s, .int .i64 (types.getD nb default).a, .int .i64 (types.getD nb default).k], .agg #[.int .i64 (types.getD nt default).bits, .bool (types.getD nt default).sg, .int .i64 (types.getD nt default).num, .int .i64 (types.getD nt default).off, .int .i64 (types.getD nt default).den, .int .i64 (types.getD nt default).m, .int .i64 (types.getD nt default).kg, .int .i64 (types.getD nt default).s, .int .i64 (types.getD nt default).a, .int .i64 (types.getD nt default).k], .bool true]) ∧ Below w.heap.size w w' := by
  have hmx := Nat.le_trans hS.le hS.max
  unfold maxLen at hmx
  obtain ⟨bXa, offa, hra, hba, hca⟩ := hS.at_ ha
  subst hra
  have ha0 : w.cell? ⟨bXa, offa + na * 10, none⟩ = some (.int .i64 (types.getD na default).bits) := hca 0 _ rfl
  have ha1 : w.cell? ⟨bXa, offa + na * 10 + 1, none⟩ = some (.bool (types.getD na default).sg) := hca 1 _ rfl
  have ha2 : w.cell? ⟨bXa, offa + na * 10 + 2, none⟩ = some (.int .i64 (types.getD na default).num) := hca 2 _ rfl
  have ha3 : w.cell? ⟨bXa, offa + na * 10 + 3, none⟩ = some (.int .i64 (types.getD na default).off) := hca 3 _ rfl
  have ha4 : w.cell? ⟨bXa, offa + na * 10 + 4, none⟩ = some (.int .i64 (types.getD na default).den) := hca 4 _ rfl
  have ha5 : w.cell? ⟨bXa, offa + na * 10 + 5, none⟩ = some (.int .i64 (types.getD na default).m) := hca 5 _ rfl
  have ha6 : w.cell? ⟨bXa, offa + na * 10 + 6, none⟩ = some (.int .i64 (types.getD na default).kg) := hca 6 _ rfl
  have ha7 : w.cell? ⟨bXa, offa + na * 10 + 7, none⟩ = some (.int .i64 (types.getD na default).s) := hca 7 _ rfl
  have ha8 : w.cell? ⟨bXa, offa + na * 10 + 8, none⟩ = some (.int .i64 (types.getD na default).a) := hca 8 _ rfl
  have ha9 : w.cell? ⟨bXa, offa + na * 10 + 9, none⟩ = some (.int .i64 (types.getD na default).k) := hca 9 _ rfl
  clear hca
  obtain ⟨bXb, offb, hrb, hbb, hcb⟩ := hS.at_ hb
  simp only [Option.some.injEq, Addr.mk.injEq, and_true] at hrb
  obtain ⟨rfl, rfl⟩ := hrb
  have hb0 : w.cell? ⟨bXa, offa + nb * 10, none⟩ = some (.int .i64 (types.getD nb default).bits) := hcb 0 _ rfl
  have hb1 : w.cell? ⟨bXa, offa + nb * 10 + 1, none⟩ = some (.bool (types.getD nb default).sg) := hcb 1 _ rfl
  have hb2 : w.cell? ⟨bXa, offa + nb * 10 + 2, none⟩ = some (.int .i64 (types.getD nb default).num) := hcb 2 _ rfl
  have hb3 : w.cell? ⟨bXa, offa + nb * 10 + 3, none⟩ = some (.int .i64 (types.getD nb default).off) := hcb 3 _ rfl
  have hb4 : w.cell? ⟨bXa, offa + nb * 10 + 4, none⟩ = some (.int .i64 (types.getD nb default).den) := hcb 4 _ rfl
  have hb5 : w.cell? ⟨bXa, offa + nb * 10 + 5, none⟩ = some (.int .i64 (types.getD nb default).m) := hcb 5 _ rfl
  have hb6 : w.cell? ⟨bXa, offa + nb * 10 + 6, none⟩ = some (.int .i64 (types.getD nb default).kg) := hcb 6 _ rfl
  have hb7 : w.cell? ⟨bXa, offa + nb * 10 + 7, none⟩ = some (.int .i64 (types.getD nb default).s) := hcb 7 _ rfl
  have hb8 : w.cell? ⟨bXa, offa + nb * 10 + 8, none⟩ = some (.int .i64 (types.getD nb default).a) := hcb 8 _ rfl
  have hb9 : w.cell? ⟨bXa, offa + nb * 10 + 9, none⟩ = some (.int .i64 (types.getD nb default).k) := hcb 9 _ rfl
  clear hcb
  obtain ⟨bXt, offt, hrt, hbt, hct⟩ := hS.at_ ht
  simp only [Option.some.injEq, Addr.mk.injEq, and_true] at hrt
  obtain ⟨rfl, rfl⟩ := hrt
  have ht0 : w.cell? ⟨bXa, offa + nt * 10, none⟩ = some (.int .i64 (types.getD nt default).bits) := hct 0 _ rfl
  have ht1 : w.cell? ⟨bXa, offa + nt * 10 + 1, none⟩ = some (.bool (types.getD nt default).sg) := hct 1 _ rfl
  have ht2 : w.cell? ⟨bXa, offa + nt * 10 + 2, none⟩ = some (.int .i64 (types.getD nt default).num) := hct 2 _ rfl
  have ht3 : w.cell? ⟨bXa, offa + nt * 10 + 3, none⟩ = some (.int .i64 (types.getD nt default).off) := hct 3 _ rfl
  have ht4 : w.cell? ⟨bXa, offa + nt * 10 + 4, none⟩ = some (.int .i64 (types.getD nt default).den) := hct 4 _ rfl
  have ht5 : w.cell? ⟨bXa, offa + nt * 10 + 5, none⟩ = some (.int .i64 (types.getD nt default).m) := hct 5 _ rfl
  have ht6 : w.cell? ⟨bXa, offa + nt * 10 + 6, none⟩ = some (.int .i64 (types.getD nt default).kg) := hct 6 _ rfl
  have ht7 : w.cell? ⟨bXa, offa + nt * 10 + 7, none⟩ = some (.int .i64 (types.getD nt default).s) := hct 7 _ rfl
  have ht8 : w.cell? ⟨bXa, offa + nt * 10 + 8, none⟩ = some (.int .i64 (types.getD nt default).a) := hct 8 _ rfl
  have ht9 : w.cell? ⟨bXa, offa + nt * 10 + 9, none⟩ = some (.int .i64 (types.getD nt default).k) := hct 9 _ rfl
  clear hct
  generalize (types.getD na default) = Ta at *
  obtain ⟨va0, va1, va2, va3, va4, va5, va6, va7, va8, va9⟩ := Ta
  generalize (types.getD nb default) = Tb at *
  obtain ⟨vb0, vb1, vb2, vb3, vb4, vb5, vb6, vb7, vb8, vb9⟩ := Tb
  generalize (types.getD nt default) = Tt at *
  obtain ⟨vt0, vt1, vt2, vt3, vt4, vt5, vt6, vt7, vt8, vt9⟩ := Tt
  simp only at ha0 ha1 ha2 ha3 ha4 ha5 ha6 ha7 ha8 ha9 hb0 hb1 hb2 hb3 hb4 hb5 hb6 hb7 hb8 hb9 ht0 ht1 ht2 ht3 ht4 ht5 ht6 ht7 ht8 ht9 ⊢
  have ia : (na : Int) < (types.length : Int) := by omega
  have ja : (0 : Int) ≤ (na : Int) := by omega
  have ib : (nb : Int) < (types.length : Int) := by omega
  have jb : (0 : Int) ≤ (nb : Int) := by omega
  have it : (nt : Int) < (types.length : Int) := by omega
  have jt : (0 : Int) ≤ (nt : Int) := by omega
  clear hS
  have q1 : bXa < w.heap.size + 1 := by omega
  have q2 : bXa < w.heap.size + 1 + 1 := by omega
  have q3 : bXa < w.heap.size + 1 + 1 + 1 := by omega
  have q4 : bXa < w.heap.size + 1 + 1 + 1 + 1 := by omega
  have e9 : (op == 9) = false := by simp [o9]
  have e10 : (op == 10) = false := by simp [o10]
  have e13 : (op == 13) = false := by simp [o13]
  have e14 : (op == 14) = false := by simp [o14]
  have ml : (types.length : Int) ≤ 9223372036854775807 := by omega
  go_enter Try.func107, Try.ntmps107
  go_wp2_with (first | (go_at_call 120; refine (split_any k hk _).mono ?_; rintro e w' ⟨rfl, rfl⟩; rw [hna, hnb, hnt]))
  refine cap_world2 (P := fun W => Code.wp _ _ _ _ W) _ ?_
  intro W9 hW9
  have f00 : W9.cell? ⟨w.heap.size + 1 + 1, 0, none⟩ = some (.int .i64 va0) := by rw [hW9]; first | go_keep | (simp [go_sem, *]; done)
  have f01 : W9.cell? ⟨w.heap.size + 1 + 1, 1, none⟩ = some (.bool va1) := by rw [hW9]; first | go_keep | (simp [go_sem, *]; done)
  have f02 : W9.cell? ⟨w.heap.size + 1 + 1, 2, none⟩ = some (.int .i64 va2) := by rw [hW9]; first | go_keep | (simp [go_sem, *]; done)
  have f03 : W9.cell? ⟨w.heap.size + 1 + 1, 3, none⟩ = some (.int .i64 va3) := by rw [hW9]; first | go_keep | (simp [go_sem, *]; done)
  have f04 : W9.cell? ⟨w.heap.size + 1 + 1, 4, none⟩ = some (.int .i64 va4) := by rw [hW9]; first | go_keep | (simp [go_sem, *]; done)
  have f05 : W9.cell? ⟨w.heap.size + 1 + 1, 5, none⟩ = some (.int .i64 va5) := by rw [hW9]; first | go_keep | (simp [go_sem, *]; done)
  have f06 : W9.cell? ⟨w.heap.size + 1 + 1, 6, none⟩ = some (.int .i64 va6) := by rw [hW9]; first | go_keep | (simp [go_sem, *]; done)
  have f07 : W9.cell? ⟨w.heap.size + 1 + 1, 7, none⟩ = some (.int .i64 va7) := by rw [hW9]; first | go_keep | (simp [go_sem, *]; done)
  have f08 : W9.cell? ⟨w.heap.size + 1 + 1, 8, none⟩ = some (.int .i64 va8) := by rw [hW9]; first | go_keep | (simp [go_sem, *]; done)
  have f09 : W9.cell? ⟨w.heap.size + 1 + 1, 9, none⟩ = some (.int .i64 va9) := by rw [hW9]; first | go_keep | (simp [go_sem, *]; done)
  have fz0 : ∀ j, W9.frozen? ⟨w.heap.size + 1 + 1, j, none⟩ = false := fun j => by rw [hW9]; simp [go_sem]
  have f10 : W9.cell? ⟨w.heap.size + 1 + 1 + 1, 0, none⟩ = some (.int .i64 vb0) := by rw [hW9]; first | go_keep | (simp [go_sem, *]; done)
  have f11 : W9.cell? ⟨w.heap.size + 1 + 1 + 1, 1, none⟩ = some (.bool vb1) := by rw [hW9]; first | go_keep | (simp [go_sem, *]; done)
  have f12 : W9.cell? ⟨w.heap.size + 1 + 1 + 1, 2, none⟩ = some (.int .i64 vb2) := by rw [hW9]; first | go_keep | (simp [go_sem, *]; done)
  have f13 : W9.cell? ⟨w.heap.size + 1 + 1 + 1, 3, none⟩ = some (.int .i64 vb3) := by rw [hW9]; first | go_keep | (simp [go_sem, *]; done)
  have f14 : W9.cell? ⟨w.heap.size + 1 + 1 + 1, 4, none⟩ = some (.int .i64 vb4) := by rw [hW9]; first | go_keep | (simp [go_sem, *]; done)
  have f15 : W9.cell? ⟨w.heap.size + 1 + 1 + 1, 5, none⟩ = some (.int .i64 vb5) := by rw [hW9]; first | go_keep | (simp [go_sem, *]; done)
  have f16 : W9.cell? ⟨w.heap.size + 1 + 1 + 1, 6, none⟩ = some (.int .i64 vb6) := by rw [hW9]; first | go_keep | (simp [go_sem, *]; done)
  have f17 : W9.cell? ⟨w.heap.size + 1 + 1 + 1, 7, none⟩ = some (.int .i64 vb7) := by rw [hW9]; first | go_keep | (simp [go_sem, *]; done)
  have f18 : W9.cell? ⟨w.heap.size + 1 + 1 + 1, 8, none⟩ = some (.int .i64 vb8) := by rw [hW9]; first | go_keep | (simp [go_sem, *]; done)
  have f19 : W9.cell? ⟨w.heap.size + 1 + 1 + 1, 9, none⟩ = some (.int .i64 vb9) := by rw [hW9]; first | go_keep | (simp [go_sem, *]; done)
  have fz1 : ∀ j, W9.frozen? ⟨w.heap.size + 1 + 1 + 1, j, none⟩ = false := fun j => by rw [hW9]; simp [go_sem]
  have f20 : W9.cell? ⟨w.heap.size + 1 + 1 + 1 + 1, 0, none⟩ = some (.int .i64 vt0) := by rw [hW9]; first | go_keep | (simp [go_sem, *]; done)
  have f21 : W9.cell? ⟨w.heap.size + 1 + 1 + 1 + 1, 1, none⟩ = some (.bool vt1) := by rw [hW9]; first | go_keep | (simp [go_sem, *]; done)
  have f22 : W9.cell? ⟨w.heap.size + 1 + 1 + 1 + 1, 2, none⟩ = some (.int .i64 vt2) := by rw [hW9]; first | go_keep | (simp [go_sem, *]; done)
  have f23 : W9.cell? ⟨w.heap.size + 1 + 1 + 1 + 1, 3, none⟩ = some (.int .i64 vt3) := by rw [hW9]; first | go_keep | (simp [go_sem, *]; done)
  have f24 : W9.cell? ⟨w.heap.size + 1 + 1 + 1 + 1, 4, none⟩ = some (.int .i64 vt4) := by rw [hW9]; first | go_keep | (simp [go_sem, *]; done)
  have f25 : W9.cell? ⟨w.heap.size + 1 + 1 + 1 + 1, 5, none⟩ = some (.int .i64 vt5) := by rw [hW9]; first | go_keep | (simp [go_sem, *]; done)
  have f26 : W9.cell? ⟨w.heap.size + 1 + 1 + 1 + 1, 6, none⟩ = some (.int .i64 vt6) := by rw [hW9]; first | go_keep | (simp [go_sem, *]; done)
  have f27 : W9.cell? ⟨w.heap.size + 1 + 1 + 1 + 1, 7, none⟩ = some (.int .i64 vt7) := by rw [hW9]; first | go_keep | (simp [go_sem, *]; done)
  have f28 : W9.cell? ⟨w.heap.size + 1 + 1 + 1 + 1, 8, none⟩ = some (.int .i64 vt8) := by rw [hW9]; first | go_keep | (simp [go_sem, *]; done)
  have f29 : W9.cell? ⟨w.heap.size + 1 + 1 + 1 + 1, 9, none⟩ = some (.int .i64 vt9) := by rw [hW9]; first | go_keep | (simp [go_sem, *]; done)
  have fz2 : ∀ j, W9.frozen? ⟨w.heap.size + 1 + 1 + 1 + 1, j, none⟩ = false := fun j => by rw [hW9]; simp [go_sem]
  have s9 : w.heap.size + 1 + 1 + 1 + 1 < W9.heap.size := by rw [hW9]; simp only [World.size_alloc, World.size_setCell]; omega
  have hB9 : Below w.heap.size w W9 := by rw [hW9]; (repeat' (first | (with_reducible exact Below.refl _ _) | (with_reducible assumption) | (with_reducible refine below_alloc ?_ _) | (with_reducible refine Below.drew ?_) | (with_reducible refine below_drewN ?_ _) | (with_reducible refine below_step (by assumption) ?_) | (with_reducible refine below_later ?_ _) | (with_reducible refine Below.setCell ?_ ?_ _) | go_size))
  clear hW9 ha0 ha1 ha2 ha3 ha4 ha5 ha6 ha7 ha8 ha9 hb0 hb1 hb2 hb3 hb4 hb5 hb6 hb7 hb8 hb9 ht0 ht1 ht2 ht3 ht4 ht5 ht6 ht7 ht8 ht9
  have sz0 : w.heap.size + 1 + 1 < W9.heap.size := by omega
  have g00 : W9.drew.cell? ⟨w.heap.size + 1 + 1, 0, none⟩ = some (.int .i64 va0) := f00
  have k00 := setCell_self g00
  have g01 : W9.drew.cell? ⟨w.heap.size + 1 + 1, 1, none⟩ = some (.bool va1) := f01
  have k01 := setCell_self g01
  have g02 : W9.drew.cell? ⟨w.heap.size + 1 + 1, 2, none⟩ = some (.int .i64 va2) := f02
  have k02 := setCell_self g02
  have g03 : W9.drew.cell? ⟨w.heap.size + 1 + 1, 3, none⟩ = some (.int .i64 va3) := f03
  have k03 := setCell_self g03
  have g04 : W9.drew.cell? ⟨w.heap.size + 1 + 1, 4, none⟩ = some (.int .i64 va4) := f04
  have k04 := setCell_self g04
  have g05 : W9.drew.cell? ⟨w.heap.size + 1 + 1, 5, none⟩ = some (.int .i64 va5) := f05
  have k05 := setCell_self g05
  have g06 : W9.drew.cell? ⟨w.heap.size + 1 + 1, 6, none⟩ = some (.int .i64 va6) := f06
  have k06 := setCell_self g06
  have g07 : W9.drew.cell? ⟨w.heap.size + 1 + 1, 7, none⟩ = some (.int .i64 va7) := f07
  have k07 := setCell_self g07
  have g08 : W9.drew.cell? ⟨w.heap.size + 1 + 1, 8, none⟩ = some (.int .i64 va8) := f08
  have k08 := setCell_self g08
  have g09 : W9.drew.cell? ⟨w.heap.size + 1 + 1, 9, none⟩ = some (.int .i64 va9) := f09
  have k09 := setCell_self g09
  have gz0 : ∀ j, W9.drew.frozen? ⟨w.heap.size + 1 + 1, j, none⟩ = false := fz0
  have sz1 : w.heap.size + 1 + 1 + 1 < W9.heap.size := by omega
  have g10 : W9.drew.cell? ⟨w.heap.size + 1 + 1 + 1, 0, none⟩ = some (.int .i64 vb0) := f10
  have k10 := setCell_self g10
  have g11 : W9.drew.cell? ⟨w.heap.size + 1 + 1 + 1, 1, none⟩ = some (.bool vb1) := f11
  have k11 := setCell_self g11
  have g12 : W9.drew.cell? ⟨w.heap.size + 1 + 1 + 1, 2, none⟩ = some (.int .i64 vb2) := f12
  have k12 := setCell_self g12
  have g13 : W9.drew.cell? ⟨w.heap.size + 1 + 1 + 1, 3, none⟩ = some (.int .i64 vb3) := f13
  have k13 := setCell_self g13
  have g14 : W9.drew.cell? ⟨w.heap.size + 1 + 1 + 1, 4, none⟩ = some (.int .i64 vb4) := f14
  have k14 := setCell_self g14
  have g15 : W9.drew.cell? ⟨w.heap.size + 1 + 1 + 1, 5, none⟩ = some (.int .i64 vb5) := f15
  have k15 := setCell_self g15
  have g16 : W9.drew.cell? ⟨w.heap.size + 1 + 1 + 1, 6, none⟩ = some (.int .i64 vb6) := f16
  have k16 := setCell_self g16
  have g17 : W9.drew.cell? ⟨w.heap.size + 1 + 1 + 1, 7, none⟩ = some (.int .i64 vb7) := f17
  have k17 := setCell_self g17
  have g18 : W9.drew.cell? ⟨w.heap.size + 1 + 1 + 1, 8, none⟩ = some (.int .i64 vb8) := f18
  have k18 := setCell_self g18
  have g19 : W9.drew.cell? ⟨w.heap.size + 1 + 1 + 1, 9, none⟩ = some (.int .i64 vb9) := f19
  have k19 := setCell_self g19
  have gz1 : ∀ j, W9.drew.frozen? ⟨w.heap.size + 1 + 1 + 1, j, none⟩ = false := fz1
  have sz2 : w.heap.size + 1 + 1 + 1 + 1 < W9.heap.size := by omega
  have g20 : W9.drew.cell? ⟨w.heap.size + 1 + 1 + 1 + 1, 0, none⟩ = some (.int .i64 vt0) := f20
  have k20 := setCell_self g20
  have g21 : W9.drew.cell? ⟨w.heap.size + 1 + 1 + 1 + 1, 1, none⟩ = some (.bool vt1) := f21
  have k21 := setCell_self g21
  have g22 : W9.drew.cell? ⟨w.heap.size + 1 + 1 + 1 + 1, 2, none⟩ = some (.int .i64 vt2) := f22
  have k22 := setCell_self g22
  have g23 : W9.drew.cell? ⟨w.heap.size + 1 + 1 + 1 + 1, 3, none⟩ = some (.int .i64 vt3) := f23
  have k23 := setCell_self g23
  have g24 : W9.drew.cell? ⟨w.heap.size + 1 + 1 + 1 + 1, 4, none⟩ = some (.int .i64 vt4) := f24
  have k24 := setCell_self g24
  have g25 : W9.drew.cell? ⟨w.heap.size + 1 + 1 + 1 + 1, 5, none⟩ = some (.int .i64 vt5) := f25
  have k25 := setCell_self g25
  have g26 : W9.drew.cell? ⟨w.heap.size + 1 + 1 + 1 + 1, 6, none⟩ = some (.int .i64 vt6) := f26
  have k26 := setCell_self g26
  have g27 : W9.drew.cell? ⟨w.heap.size + 1 + 1 + 1 + 1, 7, none⟩ = some (.int .i64 vt7) := f27
  have k27 := setCell_self g27
  have g28 : W9.drew.cell? ⟨w.heap.size + 1 + 1 + 1 + 1, 8, none⟩ = some (.int .i64 vt8) := f28
  have k28 := setCell_self g28
  have g29 : W9.drew.cell? ⟨w.heap.size + 1 + 1 + 1 + 1, 9, none⟩ = some (.int .i64 vt9) := f29
  have k29 := setCell_self g29
  have gz2 : ∀ j, W9.drew.frozen? ⟨w.heap.size + 1 + 1 + 1 + 1, j, none⟩ = false := fz2
  clear f00 f01 f02 f03 f04 f05 f06 f07 f08 f09 f10 f11 f12 f13 f14 f15 f16 f17 f18 f19 f20 f21 f22 f23 f24 f25 f26 f27 f28 f29
  go_region_held3 (fun w' => w' = W9.drew) (first | rfl | assumption | (simp [*]; done)) (fail)
  all_goals go_wp2
  all_goals refine bodyPost_ret (by simp [results, Try.results107, go_sem, *]; try rfl) rfl ?_
  all_goals exact ⟨rfl, hB9.drew⟩
end Go.Proofs.Ytfooefiaenlhmaa
