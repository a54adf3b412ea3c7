/- Lemmas for the laws of package magnetolaw15: what its functions return, for any arguments that the lemmas name. -/
import Derived.Test.YtfooefiaenlhmaaGO2
namespace Go.Proofs.Ytfooefiaenlhmaa
set_option linter.unusedVariables false
set_option linter.unusedSimpArgs false
set_option maxHeartbeats 16000000
open Go.RowKit Go.ChangeShapes Go.WideShapes Go.ChangeAt
theorem i64_and31 (n : Int) : bits .and .i64 n 31 = n % 32 := by
 have h31 : (BitVec.ofInt 64 31).toNat = 2 ^ 5 - 1 := by decide
 have key : (BitVec.ofInt 64 n &&& BitVec.ofInt 64 31).toNat = (n % ((2 ^ 64 : Nat) : Int)).toNat % 2 ^ 5 := by
  rw [BitVec.toNat_and, BitVec.toNat_ofInt, h31, Nat.and_two_pow_sub_one_eq_mod]
 show IntKind.i64.wrap ((BitVec.ofInt 64 n &&& BitVec.ofInt 64 31).toNat : Nat) = n % 32
 rw [key, IntKind.wrap_i64]
 omega
def kOk (op k : Int) : Bool :=
 if op = 1 then decide (-1099511627776 ≤ k ∧ k ≤ 1099511627776)
 else if op = 19 then decide (0 ≤ k ∧ k < 16)
 else if op = 9 ∨ op = 10 then decide (0 ≤ k ∧ k < 2097152 ∧ k / 128 % 128 = 0)
 else if op = 13 ∨ op = 14 then decide (0 ≤ k ∧ k < 2097152 ∧ k % 128 = 0)
 else if typB op = true then decide (0 ≤ k ∧ k < 2097152)
 else if op = 22 then decide (0 ≤ k ∧ k ≤ 32767 ∧ k % 32 ≤ 20)
 else decide (0 ≤ k ∧ k ≤ 32767)
theorem typed_v {op : Int} {v : Bool} (h : typB op = v) (w : World) : Calls Try.prog 106 #[.int .i64 op] w fun e w' => e = .returned (.bool v) ∧ w' = w := by
 subst h
 exact typed_any op w
set_option maxRecDepth 100000 in
theorem kc_1_0 ( k a b c : Int) (hk : I64 k) (n0 : ¬ (-1099511627776 ≤ k)) (w : World) : Calls Try.prog 119 #[.agg #[.int .i64 1, .int .i64 a, .int .i64 b, .int .i64 c, .int .i64 k]] w fun e w' => e = .returned (.bool false) ∧ Below w.heap.size w w' := by
 have h31 := i64_and31 k
 have HT : Hid (typB 1 = false) := H! (by rfl)
 go_enter Try.func119, Try.ntmps119
 go_wp2_with (first | (go_at_call 120; refine (split_any k hk _).mono ?_; rintro e w' ⟨rfl, rfl⟩) | (go_at_call 106; refine (typed_v HT.out _).mono ?_; rintro e w' ⟨rfl, rfl⟩))
 all_goals go_ret
 all_goals exact ⟨by first | rfl | (simp [*]; done), bw⟩
set_option maxRecDepth 100000 in
theorem kc_1_1 ( k a b c : Int) (hk : I64 k) (c0 : -1099511627776 ≤ k) (n1 : ¬ (k ≤ 1099511627776)) (w : World) : Calls Try.prog 119 #[.agg #[.int .i64 1, .int .i64 a, .int .i64 b, .int .i64 c, .int .i64 k]] w fun e w' => e = .returned (.bool false) ∧ Below w.heap.size w w' := by
 have h31 := i64_and31 k
 have HT : Hid (typB 1 = false) := H! (by rfl)
 go_enter Try.func119, Try.ntmps119
 go_wp2_with (first | (go_at_call 120; refine (split_any k hk _).mono ?_; rintro e w' ⟨rfl, rfl⟩) | (go_at_call 106; refine (typed_v HT.out _).mono ?_; rintro e w' ⟨rfl, rfl⟩))
 all_goals go_ret
 all_goals exact ⟨by first | rfl | (simp [*]; done), bw⟩
set_option maxRecDepth 100000 in
theorem kc_1_2 ( k a b c : Int) (hk : I64 k) (c0 : -1099511627776 ≤ k) (c1 : k ≤ 1099511627776) (w : World) : Calls Try.prog 119 #[.agg #[.int .i64 1, .int .i64 a, .int .i64 b, .int .i64 c, .int .i64 k]] w fun e w' => e = .returned (.bool true) ∧ Below w.heap.size w w' := by
 have h31 := i64_and31 k
 have HT : Hid (typB 1 = false) := H! (by rfl)
 go_enter Try.func119, Try.ntmps119
 go_wp2_with (first | (go_at_call 120; refine (split_any k hk _).mono ?_; rintro e w' ⟨rfl, rfl⟩) | (go_at_call 106; refine (typed_v HT.out _).mono ?_; rintro e w' ⟨rfl, rfl⟩))
 all_goals go_ret
 all_goals exact ⟨by first | rfl | (simp [*]; done), bw⟩
set_option maxRecDepth 100000 in
theorem kc_19_0 ( k a b c : Int) (hk : I64 k) (n0 : ¬ (0 ≤ k)) (w : World) : Calls Try.prog 119 #[.agg #[.int .i64 19, .int .i64 a, .int .i64 b, .int .i64 c, .int .i64 k]] w fun e w' => e = .returned (.bool false) ∧ Below w.heap.size w w' := by
 have h31 := i64_and31 k
 have HT : Hid (typB 19 = false) := H! (by rfl)
 go_enter Try.func119, Try.ntmps119
 go_wp2_with (first | (go_at_call 120; refine (split_any k hk _).mono ?_; rintro e w' ⟨rfl, rfl⟩) | (go_at_call 106; refine (typed_v HT.out _).mono ?_; rintro e w' ⟨rfl, rfl⟩))
 all_goals go_ret
 all_goals exact ⟨by first | rfl | (simp [*]; done), bw⟩
set_option maxRecDepth 100000 in
theorem kc_19_1 ( k a b c : Int) (hk : I64 k) (c0 : 0 ≤ k) (n1 : ¬ (k < 16)) (w : World) : Calls Try.prog 119 #[.agg #[.int .i64 19, .int .i64 a, .int .i64 b, .int .i64 c, .int .i64 k]] w fun e w' => e = .returned (.bool false) ∧ Below w.heap.size w w' := by
 have h31 := i64_and31 k
 have HT : Hid (typB 19 = false) := H! (by rfl)
 go_enter Try.func119, Try.ntmps119
 go_wp2_with (first | (go_at_call 120; refine (split_any k hk _).mono ?_; rintro e w' ⟨rfl, rfl⟩) | (go_at_call 106; refine (typed_v HT.out _).mono ?_; rintro e w' ⟨rfl, rfl⟩))
 all_goals go_ret
 all_goals exact ⟨by first | rfl | (simp [*]; done), bw⟩
set_option maxRecDepth 100000 in
theorem kc_19_2 ( k a b c : Int) (hk : I64 k) (c0 : 0 ≤ k) (c1 : k < 16) (w : World) : Calls Try.prog 119 #[.agg #[.int .i64 19, .int .i64 a, .int .i64 b, .int .i64 c, .int .i64 k]] w fun e w' => e = .returned (.bool true) ∧ Below w.heap.size w w' := by
 have h31 := i64_and31 k
 have HT : Hid (typB 19 = false) := H! (by rfl)
 go_enter Try.func119, Try.ntmps119
 go_wp2_with (first | (go_at_call 120; refine (split_any k hk _).mono ?_; rintro e w' ⟨rfl, rfl⟩) | (go_at_call 106; refine (typed_v HT.out _).mono ?_; rintro e w' ⟨rfl, rfl⟩))
 all_goals go_ret
 all_goals exact ⟨by first | rfl | (simp [*]; done), bw⟩
set_option maxRecDepth 100000 in
theorem kc_9_0 ( k a b c : Int) (hk : I64 k) (n0 : ¬ (0 ≤ k)) (w : World) : Calls Try.prog 119 #[.agg #[.int .i64 9, .int .i64 a, .int .i64 b, .int .i64 c, .int .i64 k]] w fun e w' => e = .returned (.bool false) ∧ Below w.heap.size w w' := by
 have h31 := i64_and31 k
 have HT : Hid (typB 9 = true) := H! (by rfl)
 go_enter Try.func119, Try.ntmps119
 go_wp2_with (first | (go_at_call 120; refine (split_any k hk _).mono ?_; rintro e w' ⟨rfl, rfl⟩) | (go_at_call 106; refine (typed_v HT.out _).mono ?_; rintro e w' ⟨rfl, rfl⟩))
 all_goals go_ret
 all_goals exact ⟨by first | rfl | (simp [*]; done), bw⟩
set_option maxRecDepth 100000 in
theorem kc_9_1 ( k a b c : Int) (hk : I64 k) (c0 : 0 ≤ k) (n1 : ¬ (k < 2097152)) (w : World) : Calls Try.prog 119 #[.agg #[.int .i64 9, .int .i64 a, .int .i64 b, .int .i64 c, .int .i64 k]] w fun e w' => e = .returned (.bool false) ∧ Below w.heap.size w w' := by
 have h31 := i64_and31 k
 have HT : Hid (typB 9 = true) := H! (by rfl)
 go_enter Try.func119, Try.ntmps119
 go_wp2_with (first | (go_at_call 120; refine (split_any k hk _).mono ?_; rintro e w' ⟨rfl, rfl⟩) | (go_at_call 106; refine (typed_v HT.out _).mono ?_; rintro e w' ⟨rfl, rfl⟩))
 all_goals go_ret
 all_goals exact ⟨by first | rfl | (simp [*]; done), bw⟩
set_option maxRecDepth 100000 in
theorem kc_9_2 ( k a b c : Int) (hk : I64 k) (c0 : 0 ≤ k) (c1 : k < 2097152) (n2 : ¬ (k / 128 % 128 = 0)) (w : World) : Calls Try.prog 119 #[.agg #[.int .i64 9, .int .i64 a, .int .i64 b, .int .i64 c, .int .i64 k]] w fun e w' => e = .returned (.bool false) ∧ Below w.heap.size w w' := by
 have h31 := i64_and31 k
 have HT : Hid (typB 9 = true) := H! (by rfl)
 go_enter Try.func119, Try.ntmps119
 go_wp2_with (first | (go_at_call 120; refine (split_any k hk _).mono ?_; rintro e w' ⟨rfl, rfl⟩) | (go_at_call 106; refine (typed_v HT.out _).mono ?_; rintro e w' ⟨rfl, rfl⟩))
 all_goals go_ret
 all_goals exact ⟨by first | rfl | (simp [*]; done), bw⟩
set_option maxRecDepth 100000 in
theorem kc_9_3 ( k a b c : Int) (hk : I64 k) (c0 : 0 ≤ k) (c1 : k < 2097152) (c2 : k / 128 % 128 = 0) (w : World) : Calls Try.prog 119 #[.agg #[.int .i64 9, .int .i64 a, .int .i64 b, .int .i64 c, .int .i64 k]] w fun e w' => e = .returned (.bool true) ∧ Below w.heap.size w w' := by
 have h31 := i64_and31 k
 have HT : Hid (typB 9 = true) := H! (by rfl)
 go_enter Try.func119, Try.ntmps119
 go_wp2_with (first | (go_at_call 120; refine (split_any k hk _).mono ?_; rintro e w' ⟨rfl, rfl⟩) | (go_at_call 106; refine (typed_v HT.out _).mono ?_; rintro e w' ⟨rfl, rfl⟩))
 all_goals go_ret
 all_goals exact ⟨by first | rfl | (simp [*]; done), bw⟩
set_option maxRecDepth 100000 in
theorem kc_10_0 ( k a b c : Int) (hk : I64 k) (n0 : ¬ (0 ≤ k)) (w : World) : Calls Try.prog 119 #[.agg #[.int .i64 10, .int .i64 a, .int .i64 b, .int .i64 c, .int .i64 k]] w fun e w' => e = .returned (.bool false) ∧ Below w.heap.size w w' := by
 have h31 := i64_and31 k
 have HT : Hid (typB 10 = true) := H! (by rfl)
 go_enter Try.func119, Try.ntmps119
 go_wp2_with (first | (go_at_call 120; refine (split_any k hk _).mono ?_; rintro e w' ⟨rfl, rfl⟩) | (go_at_call 106; refine (typed_v HT.out _).mono ?_; rintro e w' ⟨rfl, rfl⟩))
 all_goals go_ret
 all_goals exact ⟨by first | rfl | (simp [*]; done), bw⟩
set_option maxRecDepth 100000 in
theorem kc_10_1 ( k a b c : Int) (hk : I64 k) (c0 : 0 ≤ k) (n1 : ¬ (k < 2097152)) (w : World) : Calls Try.prog 119 #[.agg #[.int .i64 10, .int .i64 a, .int .i64 b, .int .i64 c, .int .i64 k]] w fun e w' => e = .returned (.bool false) ∧ Below w.heap.size w w' := by
 have h31 := i64_and31 k
 have HT : Hid (typB 10 = true) := H! (by rfl)
 go_enter Try.func119, Try.ntmps119
 go_wp2_with (first | (go_at_call 120; refine (split_any k hk _).mono ?_; rintro e w' ⟨rfl, rfl⟩) | (go_at_call 106; refine (typed_v HT.out _).mono ?_; rintro e w' ⟨rfl, rfl⟩))
 all_goals go_ret
 all_goals exact ⟨by first | rfl | (simp [*]; done), bw⟩
set_option maxRecDepth 100000 in
theorem kc_10_2 ( k a b c : Int) (hk : I64 k) (c0 : 0 ≤ k) (c1 : k < 2097152) (n2 : ¬ (k / 128 % 128 = 0)) (w : World) : Calls Try.prog 119 #[.agg #[.int .i64 10, .int .i64 a, .int .i64 b, .int .i64 c, .int .i64 k]] w fun e w' => e = .returned (.bool false) ∧ Below w.heap.size w w' := by
 have h31 := i64_and31 k
 have HT : Hid (typB 10 = true) := H! (by rfl)
 go_enter Try.func119, Try.ntmps119
 go_wp2_with (first | (go_at_call 120; refine (split_any k hk _).mono ?_; rintro e w' ⟨rfl, rfl⟩) | (go_at_call 106; refine (typed_v HT.out _).mono ?_; rintro e w' ⟨rfl, rfl⟩))
 all_goals go_ret
 all_goals exact ⟨by first | rfl | (simp [*]; done), bw⟩
set_option maxRecDepth 100000 in
theorem kc_10_3 ( k a b c : Int) (hk : I64 k) (c0 : 0 ≤ k) (c1 : k < 2097152) (c2 : k / 128 % 128 = 0) (w : World) : Calls Try.prog 119 #[.agg #[.int .i64 10, .int .i64 a, .int .i64 b, .int .i64 c, .int .i64 k]] w fun e w' => e = .returned (.bool true) ∧ Below w.heap.size w w' := by
 have h31 := i64_and31 k
 have HT : Hid (typB 10 = true) := H! (by rfl)
 go_enter Try.func119, Try.ntmps119
 go_wp2_with (first | (go_at_call 120; refine (split_any k hk _).mono ?_; rintro e w' ⟨rfl, rfl⟩) | (go_at_call 106; refine (typed_v HT.out _).mono ?_; rintro e w' ⟨rfl, rfl⟩))
 all_goals go_ret
 all_goals exact ⟨by first | rfl | (simp [*]; done), bw⟩
set_option maxRecDepth 100000 in
theorem kc_13_0 ( k a b c : Int) (hk : I64 k) (n0 : ¬ (0 ≤ k)) (w : World) : Calls Try.prog 119 #[.agg #[.int .i64 13, .int .i64 a, .int .i64 b, .int .i64 c, .int .i64 k]] w fun e w' => e = .returned (.bool false) ∧ Below w.heap.size w w' := by
 have h31 := i64_and31 k
 have HT : Hid (typB 13 = true) := H! (by rfl)
 go_enter Try.func119, Try.ntmps119
 go_wp2_with (first | (go_at_call 120; refine (split_any k hk _).mono ?_; rintro e w' ⟨rfl, rfl⟩) | (go_at_call 106; refine (typed_v HT.out _).mono ?_; rintro e w' ⟨rfl, rfl⟩))
 all_goals go_ret
 all_goals exact ⟨by first | rfl | (simp [*]; done), bw⟩
set_option maxRecDepth 100000 in
theorem kc_13_1 ( k a b c : Int) (hk : I64 k) (c0 : 0 ≤ k) (n1 : ¬ (k < 2097152)) (w : World) : Calls Try.prog 119 #[.agg #[.int .i64 13, .int .i64 a, .int .i64 b, .int .i64 c, .int .i64 k]] w fun e w' => e = .returned (.bool false) ∧ Below w.heap.size w w' := by
 have h31 := i64_and31 k
 have HT : Hid (typB 13 = true) := H! (by rfl)
 go_enter Try.func119, Try.ntmps119
 go_wp2_with (first | (go_at_call 120; refine (split_any k hk _).mono ?_; rintro e w' ⟨rfl, rfl⟩) | (go_at_call 106; refine (typed_v HT.out _).mono ?_; rintro e w' ⟨rfl, rfl⟩))
 all_goals go_ret
 all_goals exact ⟨by first | rfl | (simp [*]; done), bw⟩
set_option maxRecDepth 100000 in
theorem kc_13_2 ( k a b c : Int) (hk : I64 k) (c0 : 0 ≤ k) (c1 : k < 2097152) (n2 : ¬ (k % 128 = 0)) (w : World) : Calls Try.prog 119 #[.agg #[.int .i64 13, .int .i64 a, .int .i64 b, .int .i64 c, .int .i64 k]] w fun e w' => e = .returned (.bool false) ∧ Below w.heap.size w w' := by
 have h31 := i64_and31 k
 have HT : Hid (typB 13 = true) := H! (by rfl)
 go_enter Try.func119, Try.ntmps119
 go_wp2_with (first | (go_at_call 120; refine (split_any k hk _).mono ?_; rintro e w' ⟨rfl, rfl⟩) | (go_at_call 106; refine (typed_v HT.out _).mono ?_; rintro e w' ⟨rfl, rfl⟩))
 all_goals go_ret
 all_goals exact ⟨by first | rfl | (simp [*]; done), bw⟩
set_option maxRecDepth 100000 in
theorem kc_13_3 ( k a b c : Int) (hk : I64 k) (c0 : 0 ≤ k) (c1 : k < 2097152) (c2 : k % 128 = 0) (w : World) : Calls Try.prog 119 #[.agg #[.int .i64 13, .int .i64 a, .int .i64 b, .int .i64 c, .int .i64 k]] w fun e w' => e = .returned (.bool true) ∧ Below w.heap.size w w' := by
 have h31 := i64_and31 k
 have HT : Hid (typB 13 = true) := H! (by rfl)
 go_enter Try.func119, Try.ntmps119
 go_wp2_with (first | (go_at_call 120; refine (split_any k hk _).mono ?_; rintro e w' ⟨rfl, rfl⟩) | (go_at_call 106; refine (typed_v HT.out _).mono ?_; rintro e w' ⟨rfl, rfl⟩))
 all_goals go_ret
 all_goals exact ⟨by first | rfl | (simp [*]; done), bw⟩
set_option maxRecDepth 100000 in
theorem kc_14_0 ( k a b c : Int) (hk : I64 k) (n0 : ¬ (0 ≤ k)) (w : World) : Calls Try.prog 119 #[.agg #[.int .i64 14, .int .i64 a, .int .i64 b, .int .i64 c, .int .i64 k]] w fun e w' => e = .returned (.bool false) ∧ Below w.heap.size w w' := by
 have h31 := i64_and31 k
 have HT : Hid (typB 14 = true) := H! (by rfl)
 go_enter Try.func119, Try.ntmps119
 go_wp2_with (first | (go_at_call 120; refine (split_any k hk _).mono ?_; rintro e w' ⟨rfl, rfl⟩) | (go_at_call 106; refine (typed_v HT.out _).mono ?_; rintro e w' ⟨rfl, rfl⟩))
 all_goals go_ret
 all_goals exact ⟨by first | rfl | (simp [*]; done), bw⟩
set_option maxRecDepth 100000 in
theorem kc_14_1 ( k a b c : Int) (hk : I64 k) (c0 : 0 ≤ k) (n1 : ¬ (k < 2097152)) (w : World) : Calls Try.prog 119 #[.agg #[.int .i64 14, .int .i64 a, .int .i64 b, .int .i64 c, .int .i64 k]] w fun e w' => e = .returned (.bool false) ∧ Below w.heap.size w w' := by
 have h31 := i64_and31 k
 have HT : Hid (typB 14 = true) := H! (by rfl)
 go_enter Try.func119, Try.ntmps119
 go_wp2_with (first | (go_at_call 120; refine (split_any k hk _).mono ?_; rintro e w' ⟨rfl, rfl⟩) | (go_at_call 106; refine (typed_v HT.out _).mono ?_; rintro e w' ⟨rfl, rfl⟩))
 all_goals go_ret
 all_goals exact ⟨by first | rfl | (simp [*]; done), bw⟩
set_option maxRecDepth 100000 in
theorem kc_14_2 ( k a b c : Int) (hk : I64 k) (c0 : 0 ≤ k) (c1 : k < 2097152) (n2 : ¬ (k % 128 = 0)) (w : World) : Calls Try.prog 119 #[.agg #[.int .i64 14, .int .i64 a, .int .i64 b, .int .i64 c, .int .i64 k]] w fun e w' => e = .returned (.bool false) ∧ Below w.heap.size w w' := by
 have h31 := i64_and31 k
 have HT : Hid (typB 14 = true) := H! (by rfl)
 go_enter Try.func119, Try.ntmps119
 go_wp2_with (first | (go_at_call 120; refine (split_any k hk _).mono ?_; rintro e w' ⟨rfl, rfl⟩) | (go_at_call 106; refine (typed_v HT.out _).mono ?_; rintro e w' ⟨rfl, rfl⟩))
 all_goals go_ret
 all_goals exact ⟨by first | rfl | (simp [*]; done), bw⟩
set_option maxRecDepth 100000 in
theorem kc_14_3 ( k a b c : Int) (hk : I64 k) (c0 : 0 ≤ k) (c1 : k < 2097152) (c2 : k % 128 = 0) (w : World) : Calls Try.prog 119 #[.agg #[.int .i64 14, .int .i64 a, .int .i64 b, .int .i64 c, .int .i64 k]] w fun e w' => e = .returned (.bool true) ∧ Below w.heap.size w w' := by
 have h31 := i64_and31 k
 have HT : Hid (typB 14 = true) := H! (by rfl)
 go_enter Try.func119, Try.ntmps119
 go_wp2_with (first | (go_at_call 120; refine (split_any k hk _).mono ?_; rintro e w' ⟨rfl, rfl⟩) | (go_at_call 106; refine (typed_v HT.out _).mono ?_; rintro e w' ⟨rfl, rfl⟩))
 all_goals go_ret
 all_goals exact ⟨by first | rfl | (simp [*]; done), bw⟩
set_option maxRecDepth 100000 in
theorem kc_22_0 ( k a b c : Int) (hk : I64 k) (n0 : ¬ (0 ≤ k)) (w : World) : Calls Try.prog 119 #[.agg #[.int .i64 22, .int .i64 a, .int .i64 b, .int .i64 c, .int .i64 k]] w fun e w' => e = .returned (.bool false) ∧ Below w.heap.size w w' := by
 have h31 := i64_and31 k
 have HT : Hid (typB 22 = false) := H! (by rfl)
 go_enter Try.func119, Try.ntmps119
 go_wp2_with (first | (go_at_call 120; refine (split_any k hk _).mono ?_; rintro e w' ⟨rfl, rfl⟩) | (go_at_call 106; refine (typed_v HT.out _).mono ?_; rintro e w' ⟨rfl, rfl⟩))
 all_goals go_ret
 all_goals exact ⟨by first | rfl | (simp [*]; done), bw⟩
set_option maxRecDepth 100000 in
theorem kc_22_1 ( k a b c : Int) (hk : I64 k) (c0 : 0 ≤ k) (n1 : ¬ (k ≤ 32767)) (w : World) : Calls Try.prog 119 #[.agg #[.int .i64 22, .int .i64 a, .int .i64 b, .int .i64 c, .int .i64 k]] w fun e w' => e = .returned (.bool false) ∧ Below w.heap.size w w' := by
 have h31 := i64_and31 k
 have HT : Hid (typB 22 = false) := H! (by rfl)
 go_enter Try.func119, Try.ntmps119
 go_wp2_with (first | (go_at_call 120; refine (split_any k hk _).mono ?_; rintro e w' ⟨rfl, rfl⟩) | (go_at_call 106; refine (typed_v HT.out _).mono ?_; rintro e w' ⟨rfl, rfl⟩))
 all_goals go_ret
 all_goals exact ⟨by first | rfl | (simp [*]; done), bw⟩
set_option maxRecDepth 100000 in
theorem kc_22_2 ( k a b c : Int) (hk : I64 k) (c0 : 0 ≤ k) (c1 : k ≤ 32767) (n2 : ¬ (k % 32 ≤ 20)) (w : World) : Calls Try.prog 119 #[.agg #[.int .i64 22, .int .i64 a, .int .i64 b, .int .i64 c, .int .i64 k]] w fun e w' => e = .returned (.bool false) ∧ Below w.heap.size w w' := by
 have h31 := i64_and31 k
 have HT : Hid (typB 22 = false) := H! (by rfl)
 go_enter Try.func119, Try.ntmps119
 go_wp2_with (first | (go_at_call 120; refine (split_any k hk _).mono ?_; rintro e w' ⟨rfl, rfl⟩) | (go_at_call 106; refine (typed_v HT.out _).mono ?_; rintro e w' ⟨rfl, rfl⟩))
 all_goals go_ret
 all_goals exact ⟨by first | rfl | (simp [*]; done), bw⟩
set_option maxRecDepth 100000 in
theorem kc_22_3 ( k a b c : Int) (hk : I64 k) (c0 : 0 ≤ k) (c1 : k ≤ 32767) (c2 : k % 32 ≤ 20) (w : World) : Calls Try.prog 119 #[.agg #[.int .i64 22, .int .i64 a, .int .i64 b, .int .i64 c, .int .i64 k]] w fun e w' => e = .returned (.bool true) ∧ Below w.heap.size w w' := by
 have h31 := i64_and31 k
 have HT : Hid (typB 22 = false) := H! (by rfl)
 go_enter Try.func119, Try.ntmps119
 go_wp2_with (first | (go_at_call 120; refine (split_any k hk _).mono ?_; rintro e w' ⟨rfl, rfl⟩) | (go_at_call 106; refine (typed_v HT.out _).mono ?_; rintro e w' ⟨rfl, rfl⟩))
 all_goals go_ret
 all_goals exact ⟨by first | rfl | (simp [*]; done), bw⟩
set_option maxRecDepth 100000 in
theorem kc_t_0 (op k a b c : Int) (hk : I64 k) (o1 : ¬ op = 1) (o19 : ¬ op = 19) (o9 : ¬ op = 9) (o10 : ¬ op = 10) (o13 : ¬ op = 13) (o14 : ¬ op = 14) (o22 : ¬ op = 22) (ht : typB op = true) (n0 : ¬ (0 ≤ k)) (w : World) : Calls Try.prog 119 #[.agg #[.int .i64 op, .int .i64 a, .int .i64 b, .int .i64 c, .int .i64 k]] w fun e w' => e = .returned (.bool false) ∧ Below w.heap.size w w' := by
 have h31 := i64_and31 k
 have HT : Hid (typB op = true) := H! (by exact ht)
 go_enter Try.func119, Try.ntmps119
 go_wp2_with (first | (go_at_call 120; refine (split_any k hk _).mono ?_; rintro e w' ⟨rfl, rfl⟩) | (go_at_call 106; refine (typed_v HT.out _).mono ?_; rintro e w' ⟨rfl, rfl⟩))
 all_goals go_ret
 all_goals exact ⟨by first | rfl | (simp [*]; done), bw⟩
set_option maxRecDepth 100000 in
theorem kc_t_1 (op k a b c : Int) (hk : I64 k) (o1 : ¬ op = 1) (o19 : ¬ op = 19) (o9 : ¬ op = 9) (o10 : ¬ op = 10) (o13 : ¬ op = 13) (o14 : ¬ op = 14) (o22 : ¬ op = 22) (ht : typB op = true) (c0 : 0 ≤ k) (n1 : ¬ (k < 2097152)) (w : World) : Calls Try.prog 119 #[.agg #[.int .i64 op, .int .i64 a, .int .i64 b, .int .i64 c, .int .i64 k]] w fun e w' => e = .returned (.bool false) ∧ Below w.heap.size w w' := by
 have h31 := i64_and31 k
 have HT : Hid (typB op = true) := H! (by exact ht)
 go_enter Try.func119, Try.ntmps119
 go_wp2_with (first | (go_at_call 120; refine (split_any k hk _).mono ?_; rintro e w' ⟨rfl, rfl⟩) | (go_at_call 106; refine (typed_v HT.out _).mono ?_; rintro e w' ⟨rfl, rfl⟩))
 all_goals go_ret
 all_goals exact ⟨by first | rfl | (simp [*]; done), bw⟩
set_option maxRecDepth 100000 in
theorem kc_t_2 (op k a b c : Int) (hk : I64 k) (o1 : ¬ op = 1) (o19 : ¬ op = 19) (o9 : ¬ op = 9) (o10 : ¬ op = 10) (o13 : ¬ op = 13) (o14 : ¬ op = 14) (o22 : ¬ op = 22) (ht : typB op = true) (c0 : 0 ≤ k) (c1 : k < 2097152) (w : World) : Calls Try.prog 119 #[.agg #[.int .i64 op, .int .i64 a, .int .i64 b, .int .i64 c, .int .i64 k]] w fun e w' => e = .returned (.bool true) ∧ Below w.heap.size w w' := by
 have h31 := i64_and31 k
 have HT : Hid (typB op = true) := H! (by exact ht)
 go_enter Try.func119, Try.ntmps119
 go_wp2_with (first | (go_at_call 120; refine (split_any k hk _).mono ?_; rintro e w' ⟨rfl, rfl⟩) | (go_at_call 106; refine (typed_v HT.out _).mono ?_; rintro e w' ⟨rfl, rfl⟩))
 all_goals go_ret
 all_goals exact ⟨by first | rfl | (simp [*]; done), bw⟩
set_option maxRecDepth 100000 in
theorem kc_o_0 (op k a b c : Int) (hk : I64 k) (o1 : ¬ op = 1) (o19 : ¬ op = 19) (o9 : ¬ op = 9) (o10 : ¬ op = 10) (o13 : ¬ op = 13) (o14 : ¬ op = 14) (o22 : ¬ op = 22) (ht : ¬ typB op = true) (n0 : ¬ (0 ≤ k)) (w : World) : Calls Try.prog 119 #[.agg #[.int .i64 op, .int .i64 a, .int .i64 b, .int .i64 c, .int .i64 k]] w fun e w' => e = .returned (.bool false) ∧ Below w.heap.size w w' := by
 have h31 := i64_and31 k
 have HT : Hid (typB op = false) := H! (by simpa using ht)
 go_enter Try.func119, Try.ntmps119
 go_wp2_with (first | (go_at_call 120; refine (split_any k hk _).mono ?_; rintro e w' ⟨rfl, rfl⟩) | (go_at_call 106; refine (typed_v HT.out _).mono ?_; rintro e w' ⟨rfl, rfl⟩))
 all_goals go_ret
 all_goals exact ⟨by first | rfl | (simp [*]; done), bw⟩
set_option maxRecDepth 100000 in
theorem kc_o_1 (op k a b c : Int) (hk : I64 k) (o1 : ¬ op = 1) (o19 : ¬ op = 19) (o9 : ¬ op = 9) (o10 : ¬ op = 10) (o13 : ¬ op = 13) (o14 : ¬ op = 14) (o22 : ¬ op = 22) (ht : ¬ typB op = true) (c0 : 0 ≤ k) (n1 : ¬ (k ≤ 32767)) (w : World) : Calls Try.prog 119 #[.agg #[.int .i64 op, .int .i64 a, .int .i64 b, .int .i64 c, .int .i64 k]] w fun e w' => e = .returned (.bool false) ∧ Below w.heap.size w w' := by
 have h31 := i64_and31 k
 have HT : Hid (typB op = false) := H! (by simpa using ht)
 go_enter Try.func119, Try.ntmps119
 go_wp2_with (first | (go_at_call 120; refine (split_any k hk _).mono ?_; rintro e w' ⟨rfl, rfl⟩) | (go_at_call 106; refine (typed_v HT.out _).mono ?_; rintro e w' ⟨rfl, rfl⟩))
 all_goals go_ret
 all_goals exact ⟨by first | rfl | (simp [*]; done), bw⟩
set_option maxRecDepth 100000 in
theorem kc_o_2 (op k a b c : Int) (hk : I64 k) (o1 : ¬ op = 1) (o19 : ¬ op = 19) (o9 : ¬ op = 9) (o10 : ¬ op = 10) (o13 : ¬ op = 13) (o14 : ¬ op = 14) (o22 : ¬ op = 22) (ht : ¬ typB op = true) (c0 : 0 ≤ k) (c1 : k ≤ 32767) (w : World) : Calls Try.prog 119 #[.agg #[.int .i64 op, .int .i64 a, .int .i64 b, .int .i64 c, .int .i64 k]] w fun e w' => e = .returned (.bool true) ∧ Below w.heap.size w w' := by
 have h31 := i64_and31 k
 have HT : Hid (typB op = false) := H! (by simpa using ht)
 go_enter Try.func119, Try.ntmps119
 go_wp2_with (first | (go_at_call 120; refine (split_any k hk _).mono ?_; rintro e w' ⟨rfl, rfl⟩) | (go_at_call 106; refine (typed_v HT.out _).mono ?_; rintro e w' ⟨rfl, rfl⟩))
 all_goals go_ret
 all_goals exact ⟨by first | rfl | (simp [*]; done), bw⟩
theorem const_any (op a b c k : Int) (hk : I64 k) (w : World) : Calls Try.prog 119 #[.agg #[.int .i64 op, .int .i64 a, .int .i64 b, .int .i64 c, .int .i64 k]] w fun e w' => e = .returned (.bool (kOk op k)) ∧ Below w.heap.size w w' := by
 by_cases o1 : op = 1
 ·
  subst o1
  by_cases c0 : -1099511627776 ≤ k
  ·
   by_cases c1 : k ≤ 1099511627776
   ·
    rw [show kOk 1 k = true by unfold kOk; simp [*, show typB 22 = false from rfl]]
    exact kc_1_2 k a b c hk  c0 c1 w
   ·
    rw [show kOk 1 k = false by unfold kOk; simp [*, show typB 22 = false from rfl]]
    exact kc_1_1 k a b c hk  c0 c1 w
  ·
   rw [show kOk 1 k = false by unfold kOk; simp [*, show typB 22 = false from rfl]]
   exact kc_1_0 k a b c hk   c0 w
 by_cases o19 : op = 19
 ·
  subst o19
  by_cases c0 : 0 ≤ k
  ·
   by_cases c1 : k < 16
   ·
    rw [show kOk 19 k = true by unfold kOk; simp [*, show typB 22 = false from rfl]]
    exact kc_19_2 k a b c hk  c0 c1 w
   ·
    rw [show kOk 19 k = false by unfold kOk; simp [*, show typB 22 = false from rfl]]
    exact kc_19_1 k a b c hk  c0 c1 w
  ·
   rw [show kOk 19 k = false by unfold kOk; simp [*, show typB 22 = false from rfl]]
   exact kc_19_0 k a b c hk   c0 w
 by_cases o9 : op = 9
 ·
  subst o9
  by_cases c0 : 0 ≤ k
  ·
   by_cases c1 : k < 2097152
   ·
    by_cases c2 : k / 128 % 128 = 0
    ·
     rw [show kOk 9 k = true by unfold kOk; simp [*, show typB 22 = false from rfl]]
     exact kc_9_3 k a b c hk  c0 c1 c2 w
    ·
     rw [show kOk 9 k = false by unfold kOk; simp [*, show typB 22 = false from rfl]]
     exact kc_9_2 k a b c hk  c0 c1 c2 w
   ·
    rw [show kOk 9 k = false by unfold kOk; simp [*, show typB 22 = false from rfl]]
    exact kc_9_1 k a b c hk  c0 c1 w
  ·
   rw [show kOk 9 k = false by unfold kOk; simp [*, show typB 22 = false from rfl]]
   exact kc_9_0 k a b c hk   c0 w
 by_cases o10 : op = 10
 ·
  subst o10
  by_cases c0 : 0 ≤ k
  ·
   by_cases c1 : k < 2097152
   ·
    by_cases c2 : k / 128 % 128 = 0
    ·
     rw [show kOk 10 k = true by unfold kOk; simp [*, show typB 22 = false from rfl]]
     exact kc_10_3 k a b c hk  c0 c1 c2 w
    ·
     rw [show kOk 10 k = false by unfold kOk; simp [*, show typB 22 = false from rfl]]
     exact kc_10_2 k a b c hk  c0 c1 c2 w
   ·
    rw [show kOk 10 k = false by unfold kOk; simp [*, show typB 22 = false from rfl]]
    exact kc_10_1 k a b c hk  c0 c1 w
  ·
   rw [show kOk 10 k = false by unfold kOk; simp [*, show typB 22 = false from rfl]]
   exact kc_10_0 k a b c hk   c0 w
 by_cases o13 : op = 13
 ·
  subst o13
  by_cases c0 : 0 ≤ k
  ·
   by_cases c1 : k < 2097152
   ·
    by_cases c2 : k % 128 = 0
    ·
     rw [show kOk 13 k = true by unfold kOk; simp [*, show typB 22 = false from rfl]]
     exact kc_13_3 k a b c hk  c0 c1 c2 w
    ·
     rw [show kOk 13 k = false by unfold kOk; simp [*, show typB 22 = false from rfl]]
     exact kc_13_2 k a b c hk  c0 c1 c2 w
   ·
    rw [show kOk 13 k = false by unfold kOk; simp [*, show typB 22 = false from rfl]]
    exact kc_13_1 k a b c hk  c0 c1 w
  ·
   rw [show kOk 13 k = false by unfold kOk; simp [*, show typB 22 = false from rfl]]
   exact kc_13_0 k a b c hk   c0 w
 by_cases o14 : op = 14
 ·
  subst o14
  by_cases c0 : 0 ≤ k
  ·
   by_cases c1 : k < 2097152
   ·
    by_cases c2 : k % 128 = 0
    ·
     rw [show kOk 14 k = true by unfold kOk; simp [*, show typB 22 = false from rfl]]
     exact kc_14_3 k a b c hk  c0 c1 c2 w
    ·
     rw [show kOk 14 k = false by unfold kOk; simp [*, show typB 22 = false from rfl]]
     exact kc_14_2 k a b c hk  c0 c1 c2 w
   ·
    rw [show kOk 14 k = false by unfold kOk; simp [*, show typB 22 = false from rfl]]
    exact kc_14_1 k a b c hk  c0 c1 w
  ·
   rw [show kOk 14 k = false by unfold kOk; simp [*, show typB 22 = false from rfl]]
   exact kc_14_0 k a b c hk   c0 w
 by_cases o22 : op = 22
 ·
  subst o22
  by_cases c0 : 0 ≤ k
  ·
   by_cases c1 : k ≤ 32767
   ·
    by_cases c2 : k % 32 ≤ 20
    ·
     rw [show kOk 22 k = true by unfold kOk; simp [*, show typB 22 = false from rfl]]
     exact kc_22_3 k a b c hk  c0 c1 c2 w
    ·
     rw [show kOk 22 k = false by unfold kOk; simp [*, show typB 22 = false from rfl]]
     exact kc_22_2 k a b c hk  c0 c1 c2 w
   ·
    rw [show kOk 22 k = false by unfold kOk; simp [*, show typB 22 = false from rfl]]
    exact kc_22_1 k a b c hk  c0 c1 w
  ·
   rw [show kOk 22 k = false by unfold kOk; simp [*, show typB 22 = false from rfl]]
   exact kc_22_0 k a b c hk   c0 w
 by_cases ht : typB op = true
 ·
  by_cases c0 : 0 ≤ k
  ·
   by_cases c1 : k < 2097152
   ·
    rw [show kOk op k = true by unfold kOk; simp [*, show typB 22 = false from rfl]]
    exact kc_t_2 op k a b c hk o1 o19 o9 o10 o13 o14 o22 ht c0 c1 w
   ·
    rw [show kOk op k = false by unfold kOk; simp [*, show typB 22 = false from rfl]]
    exact kc_t_1 op k a b c hk o1 o19 o9 o10 o13 o14 o22 ht c0 c1 w
  ·
   rw [show kOk op k = false by unfold kOk; simp [*, show typB 22 = false from rfl]]
   exact kc_t_0 op k a b c hk o1 o19 o9 o10 o13 o14 o22 ht  c0 w
 ·
  by_cases c0 : 0 ≤ k
  ·
   by_cases c1 : k ≤ 32767
   ·
    rw [show kOk op k = true by unfold kOk; simp [*, show typB 22 = false from rfl]]
    exact kc_o_2 op k a b c hk o1 o19 o9 o10 o13 o14 o22 ht c0 c1 w
   ·
    rw [show kOk op k = false by unfold kOk; simp [*, show typB 22 = false from rfl]]
    exact kc_o_1 op k a b c hk o1 o19 o9 o10 o13 o14 o22 ht c0 c1 w
  ·
   rw [show kOk op k = false by unfold kOk; simp [*, show typB 22 = false from rfl]]
   exact kc_o_0 op k a b c hk o1 o19 o9 o10 o13 o14 o22 ht  c0 w
end Go.Proofs.Ytfooefiaenlhmaa
