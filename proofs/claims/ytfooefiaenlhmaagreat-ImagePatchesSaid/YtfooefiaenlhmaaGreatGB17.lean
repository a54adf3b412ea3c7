/- Lemmas for the laws of package magnetolaw15: what its functions return, for any arguments that the lemmas name. -/
import Derived.Test.YtfooefiaenlhmaaGreatGB4
import Derived.Test.YtfooefiaenlhmaaGreatGB12
import Derived.Test.YtfooefiaenlhmaaGreatGB13
import Derived.Test.YtfooefiaenlhmaaGreatGB14
import Derived.Test.YtfooefiaenlhmaaGreatGB15
import Derived.Test.YtfooefiaenlhmaaGreatGB16
set_option maxRecDepth 100000
namespace Go.Proofs.YtfooefiaenlhmaaGreat
set_option linter.all false
set_option maxHeartbeats 16000000
open Go.RowKit Go.ChangeShapes Go.WideShapes Go.ChangeAt
theorem ymp (op a b c k : Int) (hk : I64 k) (w : World) : Calls Tryz.prog 32 #[.agg #[.int .i64 op, .int .i64 a, .int .i64 b, .int .i64 c, .int .i64 k]] w fun e w' => e = .returned (.bool (ybk op a b c k)) ∧ Below w.heap.size w w' := by
 by_cases h : ¬ (1 ≤ op ∧ op ≤ 22 ∧ 0 ≤ a ∧ a ≤ 15 ∧ 0 ≤ b ∧ b ≤ 15 ∧ 0 ≤ c ∧ c ≤ 15)
 ·
  exact ymo op a b c k h w
 have h' := Classical.not_not.1 h
 clear h
 obtain ⟨g0, g1, n2, n3, n4, n5, n6, n7⟩ := h'
 obtain ⟨n, rfl⟩ : ∃ n : Nat, op = n := ⟨op.toNat, by omega⟩
 have n0 : 1 ≤ n := by omega
 have n1 : n ≤ 22 := by omega
 rw [formB_eq n n0 n1]
 rw [decide_eq_true (⟨n2, n3⟩ : 0 ≤ a ∧ a ≤ 15), decide_eq_true (⟨n4, n5⟩ : 0 ≤ b ∧ b ≤ 15), decide_eq_true (⟨n6, n7⟩ : 0 ≤ c ∧ c ≤ 15)]
 simp only [Bool.true_and]
 cases hb : holds (rowF n) 66
 ·
  by_cases zb : b = 0
  rotate_left
  ·
   rw [decide_eq_false zb]
   exact rfo_b n n0 n1 a b c k n2 n3 n4 n5 n6 n7 hb zb w
  cases hc : holds (rowF n) 67
  ·
   by_cases zc : c = 0
   rotate_left
   ·
    rw [decide_eq_false zc, decide_eq_true zb]
    exact yjr n n0 n1 a b c k n2 n3 n4 n5 n6 n7 hb zb hc zc w
   rw [decide_eq_true zb, decide_eq_true zc]
   cases hkk : holds (rowF n) 75
   ·
    by_cases zk : k = 0
    rotate_left
    ·
     rw [decide_eq_false zk]
     exact yfp n n0 n1 a b c k n2 n3 n4 n5 n6 n7 hb zb hc zc hkk zk w
    rw [decide_eq_true zk]
    subst zk
    subst zb
    subst zc
    have hn : False := by
     have h22 : n = 1 ∨ n = 2 ∨ n = 3 ∨ n = 4 ∨ n = 5 ∨ n = 6 ∨ n = 7 ∨ n = 8 ∨ n = 9 ∨ n = 10 ∨ n = 11 ∨ n = 12 ∨ n = 13 ∨ n = 14 ∨ n = 15 ∨ n = 16 ∨ n = 17 ∨ n = 18 ∨ n = 19 ∨ n = 20 ∨ n = 21 ∨ n = 22 := by omega
     rcases h22 with rfl | rfl | rfl | rfl | rfl | rfl | rfl | rfl | rfl | rfl | rfl | rfl | rfl | rfl | rfl | rfl | rfl | rfl | rfl | rfl | rfl | rfl
     all_goals first | (exfalso; revert hb hc hkk; decide) | omega
    exact hn.elim
   ·
    subst zb
    subst zc
    have hn : n = 1 ∨ n = 2 ∨ n = 3 := by
     have h22 : n = 1 ∨ n = 2 ∨ n = 3 ∨ n = 4 ∨ n = 5 ∨ n = 6 ∨ n = 7 ∨ n = 8 ∨ n = 9 ∨ n = 10 ∨ n = 11 ∨ n = 12 ∨ n = 13 ∨ n = 14 ∨ n = 15 ∨ n = 16 ∨ n = 17 ∨ n = 18 ∨ n = 19 ∨ n = 20 ∨ n = 21 ∨ n = 22 := by omega
     rcases h22 with rfl | rfl | rfl | rfl | rfl | rfl | rfl | rfl | rfl | rfl | rfl | rfl | rfl | rfl | rfl | rfl | rfl | rfl | rfl | rfl | rfl | rfl
     all_goals first | (exfalso; revert hb hc hkk; decide) | omega
    rcases hn with rfl | rfl | rfl
    ·
     by_cases c0 : -1099511627776 ≤ k
     rotate_left
     ·
      rw [show kOk (1 : Nat) k = false by unfold kOk; simp [*, show typB 22 = false from rfl, show typB 19 = false from rfl, show typB 1 = false from rfl]]
      exact rfo_1_0 a k hk n2 n3  c0 w
     by_cases c1 : k ≤ 1099511627776
     rotate_left
     ·
      rw [show kOk (1 : Nat) k = false by unfold kOk; simp [*, show typB 22 = false from rfl, show typB 19 = false from rfl, show typB 1 = false from rfl]]
      exact rfo_1_1 a k hk n2 n3 c0 c1 w
     rw [show kOk (1 : Nat) k = true by unfold kOk; simp [*, show typB 22 = false from rfl, show typB 1 = false from rfl]]
     exact rfo_1_2 a k hk n2 n3 c0 c1 w
    ·
     by_cases c0 : 0 ≤ k
     rotate_left
     ·
      rw [show kOk (2 : Nat) k = false by unfold kOk; simp [*, show typB 22 = false from rfl, show typB 19 = false from rfl, show typB 2 = false from rfl]]
      exact rfo_2_0 a k hk n2 n3  c0 w
     by_cases c1 : k ≤ 32767
     rotate_left
     ·
      rw [show kOk (2 : Nat) k = false by unfold kOk; simp [*, show typB 22 = false from rfl, show typB 19 = false from rfl, show typB 2 = false from rfl]]
      exact rfo_2_1 a k hk n2 n3 c0 c1 w
     rw [show kOk (2 : Nat) k = true by unfold kOk; simp [*, show typB 22 = false from rfl, show typB 2 = false from rfl]]
     exact rfo_2_2 a k hk n2 n3 c0 c1 w
    ·
     by_cases c0 : 0 ≤ k
     rotate_left
     ·
      rw [show kOk (3 : Nat) k = false by unfold kOk; simp [*, show typB 22 = false from rfl, show typB 19 = false from rfl, show typB 3 = false from rfl]]
      exact rfo_3_0 a k hk n2 n3  c0 w
     by_cases c1 : k ≤ 32767
     rotate_left
     ·
      rw [show kOk (3 : Nat) k = false by unfold kOk; simp [*, show typB 22 = false from rfl, show typB 19 = false from rfl, show typB 3 = false from rfl]]
      exact rfo_3_1 a k hk n2 n3 c0 c1 w
     rw [show kOk (3 : Nat) k = true by unfold kOk; simp [*, show typB 22 = false from rfl, show typB 3 = false from rfl]]
     exact rfo_3_2 a k hk n2 n3 c0 c1 w
  ·
   rw [decide_eq_true zb]
   cases hkk : holds (rowF n) 75
   ·
    by_cases zk : k = 0
    rotate_left
    ·
     rw [decide_eq_false zk]
     exact yga n n0 n1 a b c k n2 n3 n4 n5 n6 n7 hb zb hc  hkk zk w
    rw [decide_eq_true zk]
    subst zk
    subst zb
    have hn : False := by
     have h22 : n = 1 ∨ n = 2 ∨ n = 3 ∨ n = 4 ∨ n = 5 ∨ n = 6 ∨ n = 7 ∨ n = 8 ∨ n = 9 ∨ n = 10 ∨ n = 11 ∨ n = 12 ∨ n = 13 ∨ n = 14 ∨ n = 15 ∨ n = 16 ∨ n = 17 ∨ n = 18 ∨ n = 19 ∨ n = 20 ∨ n = 21 ∨ n = 22 := by omega
     rcases h22 with rfl | rfl | rfl | rfl | rfl | rfl | rfl | rfl | rfl | rfl | rfl | rfl | rfl | rfl | rfl | rfl | rfl | rfl | rfl | rfl | rfl | rfl
     all_goals first | (exfalso; revert hb hc hkk; decide) | omega
    exact hn.elim
   ·
    subst zb
    have hn : False := by
     have h22 : n = 1 ∨ n = 2 ∨ n = 3 ∨ n = 4 ∨ n = 5 ∨ n = 6 ∨ n = 7 ∨ n = 8 ∨ n = 9 ∨ n = 10 ∨ n = 11 ∨ n = 12 ∨ n = 13 ∨ n = 14 ∨ n = 15 ∨ n = 16 ∨ n = 17 ∨ n = 18 ∨ n = 19 ∨ n = 20 ∨ n = 21 ∨ n = 22 := by omega
     rcases h22 with rfl | rfl | rfl | rfl | rfl | rfl | rfl | rfl | rfl | rfl | rfl | rfl | rfl | rfl | rfl | rfl | rfl | rfl | rfl | rfl | rfl | rfl
     all_goals first | (exfalso; revert hb hc hkk; decide) | omega
    exact hn.elim
 ·
  cases hc : holds (rowF n) 67
  ·
   by_cases zc : c = 0
   rotate_left
   ·
    rw [decide_eq_false zc]
    exact ylh n n0 n1 a b c k n2 n3 n4 n5 n6 n7 hb hc zc w
   rw [decide_eq_true zc]
   cases hkk : holds (rowF n) 75
   ·
    by_cases zk : k = 0
    rotate_left
    ·
     rw [decide_eq_false zk]
     exact yfz n n0 n1 a b c k n2 n3 n4 n5 n6 n7 hb  hc zc hkk zk w
    rw [decide_eq_true zk]
    subst zk
    subst zc
    have hn : n = 4 ∨ n = 18 := by
     have h22 : n = 1 ∨ n = 2 ∨ n = 3 ∨ n = 4 ∨ n = 5 ∨ n = 6 ∨ n = 7 ∨ n = 8 ∨ n = 9 ∨ n = 10 ∨ n = 11 ∨ n = 12 ∨ n = 13 ∨ n = 14 ∨ n = 15 ∨ n = 16 ∨ n = 17 ∨ n = 18 ∨ n = 19 ∨ n = 20 ∨ n = 21 ∨ n = 22 := by omega
     rcases h22 with rfl | rfl | rfl | rfl | rfl | rfl | rfl | rfl | rfl | rfl | rfl | rfl | rfl | rfl | rfl | rfl | rfl | rfl | rfl | rfl | rfl | rfl
     all_goals first | (exfalso; revert hb hc hkk; decide) | omega
    rcases hn with rfl | rfl
    ·
     exact rfo_4_0 a b n2 n3 n4 n5 w
    ·
     exact rfo_18_0 a b n2 n3 n4 n5 w
   ·
    subst zc
    have hn : n = 9 ∨ n = 10 ∨ n = 20 ∨ n = 22 := by
     have h22 : n = 1 ∨ n = 2 ∨ n = 3 ∨ n = 4 ∨ n = 5 ∨ n = 6 ∨ n = 7 ∨ n = 8 ∨ n = 9 ∨ n = 10 ∨ n = 11 ∨ n = 12 ∨ n = 13 ∨ n = 14 ∨ n = 15 ∨ n = 16 ∨ n = 17 ∨ n = 18 ∨ n = 19 ∨ n = 20 ∨ n = 21 ∨ n = 22 := by omega
     rcases h22 with rfl | rfl | rfl | rfl | rfl | rfl | rfl | rfl | rfl | rfl | rfl | rfl | rfl | rfl | rfl | rfl | rfl | rfl | rfl | rfl | rfl | rfl
     all_goals first | (exfalso; revert hb hc hkk; decide) | omega
    rcases hn with rfl | rfl | rfl | rfl
    ·
     by_cases c0 : 0 ≤ k
     rotate_left
     ·
      rw [show kOk (9 : Nat) k = false by unfold kOk; simp [*, show typB 22 = false from rfl, show typB 19 = false from rfl, show typB 9 = true from rfl]]
      exact rfo_9_0 a b k hk n2 n3 n4 n5  c0 w
     by_cases c1 : k < 2097152
     rotate_left
     ·
      rw [show kOk (9 : Nat) k = false by unfold kOk; simp [*, show typB 22 = false from rfl, show typB 19 = false from rfl, show typB 9 = true from rfl]]
      exact rfo_9_1 a b k hk n2 n3 n4 n5 c0 c1 w
     by_cases c2 : k / 128 % 128 = 0
     rotate_left
     ·
      rw [show kOk (9 : Nat) k = false by unfold kOk; simp [*, show typB 22 = false from rfl, show typB 19 = false from rfl, show typB 9 = true from rfl]]
      exact rfo_9_2 a b k hk n2 n3 n4 n5 c0 c1 c2 w
     rw [show kOk (9 : Nat) k = true by unfold kOk; simp [*, show typB 22 = false from rfl, show typB 9 = true from rfl]]
     exact rfo_9_3 a b k hk n2 n3 n4 n5 c0 c1 c2 w
    ·
     by_cases c0 : 0 ≤ k
     rotate_left
     ·
      rw [show kOk (10 : Nat) k = false by unfold kOk; simp [*, show typB 22 = false from rfl, show typB 19 = false from rfl, show typB 10 = true from rfl]]
      exact rfo_10_0 a b k hk n2 n3 n4 n5  c0 w
     by_cases c1 : k < 2097152
     rotate_left
     ·
      rw [show kOk (10 : Nat) k = false by unfold kOk; simp [*, show typB 22 = false from rfl, show typB 19 = false from rfl, show typB 10 = true from rfl]]
      exact rfo_10_1 a b k hk n2 n3 n4 n5 c0 c1 w
     by_cases c2 : k / 128 % 128 = 0
     rotate_left
     ·
      rw [show kOk (10 : Nat) k = false by unfold kOk; simp [*, show typB 22 = false from rfl, show typB 19 = false from rfl, show typB 10 = true from rfl]]
      exact rfo_10_2 a b k hk n2 n3 n4 n5 c0 c1 c2 w
     rw [show kOk (10 : Nat) k = true by unfold kOk; simp [*, show typB 22 = false from rfl, show typB 10 = true from rfl]]
     exact rfo_10_3 a b k hk n2 n3 n4 n5 c0 c1 c2 w
    ·
     by_cases c0 : 0 ≤ k
     rotate_left
     ·
      rw [show kOk (20 : Nat) k = false by unfold kOk; simp [*, show typB 22 = false from rfl, show typB 19 = false from rfl, show typB 20 = false from rfl]]
      exact rfo_20_0 a b k hk n2 n3 n4 n5  c0 w
     by_cases c1 : k ≤ 32767
     rotate_left
     ·
      rw [show kOk (20 : Nat) k = false by unfold kOk; simp [*, show typB 22 = false from rfl, show typB 19 = false from rfl, show typB 20 = false from rfl]]
      exact rfo_20_1 a b k hk n2 n3 n4 n5 c0 c1 w
     rw [show kOk (20 : Nat) k = true by unfold kOk; simp [*, show typB 22 = false from rfl, show typB 20 = false from rfl]]
     exact rfo_20_2 a b k hk n2 n3 n4 n5 c0 c1 w
    ·
     by_cases c0 : 0 ≤ k
     rotate_left
     ·
      rw [show kOk (22 : Nat) k = false by unfold kOk; simp [*, show typB 22 = false from rfl, show typB 19 = false from rfl, show typB 22 = false from rfl]]
      exact rfo_22_0 a b k hk n2 n3 n4 n5  c0 w
     by_cases c1 : k ≤ 32767
     rotate_left
     ·
      rw [show kOk (22 : Nat) k = false by unfold kOk; simp [*, show typB 22 = false from rfl, show typB 19 = false from rfl, show typB 22 = false from rfl]]
      exact rfo_22_1 a b k hk n2 n3 n4 n5 c0 c1 w
     by_cases c2 : k % 32 ≤ 20
     rotate_left
     ·
      rw [show kOk (22 : Nat) k = false by unfold kOk; simp [*, show typB 22 = false from rfl, show typB 19 = false from rfl, show typB 22 = false from rfl]]
      exact rfo_22_2 a b k hk n2 n3 n4 n5 c0 c1 c2 w
     rw [show kOk (22 : Nat) k = true by unfold kOk; simp [*, show typB 22 = false from rfl, show typB 22 = false from rfl]]
     exact rfo_22_3 a b k hk n2 n3 n4 n5 c0 c1 c2 w
  ·
   skip
   cases hkk : holds (rowF n) 75
   ·
    by_cases zk : k = 0
    rotate_left
    ·
     rw [decide_eq_false zk]
     exact ygt n n0 n1 a b c k n2 n3 n4 n5 n6 n7 hb  hc  hkk zk w
    rw [decide_eq_true zk]
    subst zk
    have hn : n = 11 ∨ n = 12 ∨ n = 15 ∨ n = 16 ∨ n = 17 := by
     have h22 : n = 1 ∨ n = 2 ∨ n = 3 ∨ n = 4 ∨ n = 5 ∨ n = 6 ∨ n = 7 ∨ n = 8 ∨ n = 9 ∨ n = 10 ∨ n = 11 ∨ n = 12 ∨ n = 13 ∨ n = 14 ∨ n = 15 ∨ n = 16 ∨ n = 17 ∨ n = 18 ∨ n = 19 ∨ n = 20 ∨ n = 21 ∨ n = 22 := by omega
     rcases h22 with rfl | rfl | rfl | rfl | rfl | rfl | rfl | rfl | rfl | rfl | rfl | rfl | rfl | rfl | rfl | rfl | rfl | rfl | rfl | rfl | rfl | rfl
     all_goals first | (exfalso; revert hb hc hkk; decide) | omega
    rcases hn with rfl | rfl | rfl | rfl | rfl
    ·
     exact rfo_11_0 a b c n2 n3 n4 n5 n6 n7 w
    ·
     exact rfo_12_0 a b c n2 n3 n4 n5 n6 n7 w
    ·
     exact rfo_15_0 a b c n2 n3 n4 n5 n6 n7 w
    ·
     exact rfo_16_0 a b c n2 n3 n4 n5 n6 n7 w
    ·
     exact rfo_17_0 a b c n2 n3 n4 n5 n6 n7 w
   ·
    have hn : n = 5 ∨ n = 6 ∨ n = 7 ∨ n = 8 ∨ n = 13 ∨ n = 14 ∨ n = 19 ∨ n = 21 := by
     have h22 : n = 1 ∨ n = 2 ∨ n = 3 ∨ n = 4 ∨ n = 5 ∨ n = 6 ∨ n = 7 ∨ n = 8 ∨ n = 9 ∨ n = 10 ∨ n = 11 ∨ n = 12 ∨ n = 13 ∨ n = 14 ∨ n = 15 ∨ n = 16 ∨ n = 17 ∨ n = 18 ∨ n = 19 ∨ n = 20 ∨ n = 21 ∨ n = 22 := by omega
     rcases h22 with rfl | rfl | rfl | rfl | rfl | rfl | rfl | rfl | rfl | rfl | rfl | rfl | rfl | rfl | rfl | rfl | rfl | rfl | rfl | rfl | rfl | rfl
     all_goals first | (exfalso; revert hb hc hkk; decide) | omega
    rcases hn with rfl | rfl | rfl | rfl | rfl | rfl | rfl | rfl
    ·
     by_cases c0 : 0 ≤ k
     rotate_left
     ·
      rw [show kOk (5 : Nat) k = false by unfold kOk; simp [*, show typB 22 = false from rfl, show typB 19 = false from rfl, show typB 5 = true from rfl]]
      exact rfo_5_0 a b c k hk n2 n3 n4 n5 n6 n7  c0 w
     by_cases c1 : k < 2097152
     rotate_left
     ·
      rw [show kOk (5 : Nat) k = false by unfold kOk; simp [*, show typB 22 = false from rfl, show typB 19 = false from rfl, show typB 5 = true from rfl]]
      exact rfo_5_1 a b c k hk n2 n3 n4 n5 n6 n7 c0 c1 w
     rw [show kOk (5 : Nat) k = true by unfold kOk; simp [*, show typB 22 = false from rfl, show typB 5 = true from rfl]]
     exact rfo_5_2 a b c k hk n2 n3 n4 n5 n6 n7 c0 c1 w
    ·
     by_cases c0 : 0 ≤ k
     rotate_left
     ·
      rw [show kOk (6 : Nat) k = false by unfold kOk; simp [*, show typB 22 = false from rfl, show typB 19 = false from rfl, show typB 6 = true from rfl]]
      exact rfo_6_0 a b c k hk n2 n3 n4 n5 n6 n7  c0 w
     by_cases c1 : k < 2097152
     rotate_left
     ·
      rw [show kOk (6 : Nat) k = false by unfold kOk; simp [*, show typB 22 = false from rfl, show typB 19 = false from rfl, show typB 6 = true from rfl]]
      exact rfo_6_1 a b c k hk n2 n3 n4 n5 n6 n7 c0 c1 w
     rw [show kOk (6 : Nat) k = true by unfold kOk; simp [*, show typB 22 = false from rfl, show typB 6 = true from rfl]]
     exact rfo_6_2 a b c k hk n2 n3 n4 n5 n6 n7 c0 c1 w
    ·
     by_cases c0 : 0 ≤ k
     rotate_left
     ·
      rw [show kOk (7 : Nat) k = false by unfold kOk; simp [*, show typB 22 = false from rfl, show typB 19 = false from rfl, show typB 7 = true from rfl]]
      exact rfo_7_0 a b c k hk n2 n3 n4 n5 n6 n7  c0 w
     by_cases c1 : k < 2097152
     rotate_left
     ·
      rw [show kOk (7 : Nat) k = false by unfold kOk; simp [*, show typB 22 = false from rfl, show typB 19 = false from rfl, show typB 7 = true from rfl]]
      exact rfo_7_1 a b c k hk n2 n3 n4 n5 n6 n7 c0 c1 w
     rw [show kOk (7 : Nat) k = true by unfold kOk; simp [*, show typB 22 = false from rfl, show typB 7 = true from rfl]]
     exact rfo_7_2 a b c k hk n2 n3 n4 n5 n6 n7 c0 c1 w
    ·
     by_cases c0 : 0 ≤ k
     rotate_left
     ·
      rw [show kOk (8 : Nat) k = false by unfold kOk; simp [*, show typB 22 = false from rfl, show typB 19 = false from rfl, show typB 8 = true from rfl]]
      exact rfo_8_0 a b c k hk n2 n3 n4 n5 n6 n7  c0 w
     by_cases c1 : k < 2097152
     rotate_left
     ·
      rw [show kOk (8 : Nat) k = false by unfold kOk; simp [*, show typB 22 = false from rfl, show typB 19 = false from rfl, show typB 8 = true from rfl]]
      exact rfo_8_1 a b c k hk n2 n3 n4 n5 n6 n7 c0 c1 w
     rw [show kOk (8 : Nat) k = true by unfold kOk; simp [*, show typB 22 = false from rfl, show typB 8 = true from rfl]]
     exact rfo_8_2 a b c k hk n2 n3 n4 n5 n6 n7 c0 c1 w
    ·
     by_cases c0 : 0 ≤ k
     rotate_left
     ·
      rw [show kOk (13 : Nat) k = false by unfold kOk; simp [*, show typB 22 = false from rfl, show typB 19 = false from rfl, show typB 13 = true from rfl]]
      exact rfo_13_0 a b c k hk n2 n3 n4 n5 n6 n7  c0 w
     by_cases c1 : k < 2097152
     rotate_left
     ·
      rw [show kOk (13 : Nat) k = false by unfold kOk; simp [*, show typB 22 = false from rfl, show typB 19 = false from rfl, show typB 13 = true from rfl]]
      exact rfo_13_1 a b c k hk n2 n3 n4 n5 n6 n7 c0 c1 w
     by_cases c2 : k % 128 = 0
     rotate_left
     ·
      rw [show kOk (13 : Nat) k = false by unfold kOk; simp [*, show typB 22 = false from rfl, show typB 19 = false from rfl, show typB 13 = true from rfl]]
      exact rfo_13_2 a b c k hk n2 n3 n4 n5 n6 n7 c0 c1 c2 w
     rw [show kOk (13 : Nat) k = true by unfold kOk; simp [*, show typB 22 = false from rfl, show typB 13 = true from rfl]]
     exact rfo_13_3 a b c k hk n2 n3 n4 n5 n6 n7 c0 c1 c2 w
    ·
     by_cases c0 : 0 ≤ k
     rotate_left
     ·
      rw [show kOk (14 : Nat) k = false by unfold kOk; simp [*, show typB 22 = false from rfl, show typB 19 = false from rfl, show typB 14 = true from rfl]]
      exact rfo_14_0 a b c k hk n2 n3 n4 n5 n6 n7  c0 w
     by_cases c1 : k < 2097152
     rotate_left
     ·
      rw [show kOk (14 : Nat) k = false by unfold kOk; simp [*, show typB 22 = false from rfl, show typB 19 = false from rfl, show typB 14 = true from rfl]]
      exact rfo_14_1 a b c k hk n2 n3 n4 n5 n6 n7 c0 c1 w
     by_cases c2 : k % 128 = 0
     rotate_left
     ·
      rw [show kOk (14 : Nat) k = false by unfold kOk; simp [*, show typB 22 = false from rfl, show typB 19 = false from rfl, show typB 14 = true from rfl]]
      exact rfo_14_2 a b c k hk n2 n3 n4 n5 n6 n7 c0 c1 c2 w
     rw [show kOk (14 : Nat) k = true by unfold kOk; simp [*, show typB 22 = false from rfl, show typB 14 = true from rfl]]
     exact rfo_14_3 a b c k hk n2 n3 n4 n5 n6 n7 c0 c1 c2 w
    ·
     by_cases c0 : 0 ≤ k
     rotate_left
     ·
      rw [show kOk (19 : Nat) k = false by unfold kOk; simp [*, show typB 22 = false from rfl, show typB 19 = false from rfl, show typB 19 = false from rfl]]
      exact rfo_19_0 a b c k hk n2 n3 n4 n5 n6 n7  c0 w
     by_cases c1 : k < 16
     rotate_left
     ·
      rw [show kOk (19 : Nat) k = false by unfold kOk; simp [*, show typB 22 = false from rfl, show typB 19 = false from rfl, show typB 19 = false from rfl]]
      exact rfo_19_1 a b c k hk n2 n3 n4 n5 n6 n7 c0 c1 w
     rw [show kOk (19 : Nat) k = true by unfold kOk; simp [*, show typB 22 = false from rfl, show typB 19 = false from rfl]]
     exact rfo_19_2 a b c k hk n2 n3 n4 n5 n6 n7 c0 c1 w
    ·
     by_cases c0 : 0 ≤ k
     rotate_left
     ·
      rw [show kOk (21 : Nat) k = false by unfold kOk; simp [*, show typB 22 = false from rfl, show typB 19 = false from rfl, show typB 21 = false from rfl]]
      exact rfo_21_0 a b c k hk n2 n3 n4 n5 n6 n7  c0 w
     by_cases c1 : k ≤ 32767
     rotate_left
     ·
      rw [show kOk (21 : Nat) k = false by unfold kOk; simp [*, show typB 22 = false from rfl, show typB 19 = false from rfl, show typB 21 = false from rfl]]
      exact rfo_21_1 a b c k hk n2 n3 n4 n5 n6 n7 c0 c1 w
     rw [show kOk (21 : Nat) k = true by unfold kOk; simp [*, show typB 22 = false from rfl, show typB 21 = false from rfl]]
     exact rfo_21_2 a b c k hk n2 n3 n4 n5 n6 n7 c0 c1 w
theorem AtL.later {W W' : World} {b : Nat} {l : List Int} (h : AtL W b l) (hB : Below W.heap.size W W') (hb : b < W.heap.size) : AtL W' b l := fun i v hi => by
 obtain ⟨h1, h2⟩ := h i v hi
 exact ⟨(hB.cell (p := ⟨b, i, none⟩) hb).trans h1, (hB.frozen (p := ⟨b, i, none⟩) hb).trans h2⟩
theorem yfr (m kg s a k : Int) (w : World) : Calls Tryz.prog 125 #[.agg #[.int .i64 m, .int .i64 kg, .int .i64 s, .int .i64 a, .int .i64 k]] w fun e w' => ∃ g, e = .returned (.slice (some ⟨g, 0, none⟩) 5 5) ∧ w.heap.size ≤ g ∧ g < w'.heap.size ∧ AtL w' g [m, kg, s, a, k] ∧ Below w.heap.size w w' := by
 go_enter Tryz.func125, Tryz.ntmps125
 go_wp2
 go_ret
 refine ⟨_, rfl, by omega, by simp only [zA]; omega, ?_, bw⟩
 intro i v hi
 match i, hi with
 | 0, hi | 1, hi | 2, hi | 3, hi | 4, hi => simp at hi; subst hi; exact ⟨by first | go_keep | (simp [go_sem]; done), by first | go_keep | (simp [go_sem]; done) | (simp [World.frozen?]; done)⟩
 | i + 5, hi => simp at hi
theorem yks (g : Nat) (m kg s a k : Int) (w : World) (hg : g < w.heap.size) (hl : AtL w g [m, kg, s, a, k]) : Calls Tryz.prog 126 #[.slice (some ⟨g, 0, none⟩) 5 5] w fun e w' => e = .returned (.agg #[.int .i64 m, .int .i64 kg, .int .i64 s, .int .i64 a, .int .i64 k]) ∧ Below w.heap.size w w' := by
 have c0 : w.cell? ⟨g, 0, none⟩ = some (.int .i64 m) := (hl 0 _ rfl).1
 have c1 : w.cell? ⟨g, 1, none⟩ = some (.int .i64 kg) := (hl 1 _ rfl).1
 have c2 : w.cell? ⟨g, 2, none⟩ = some (.int .i64 s) := (hl 2 _ rfl).1
 have c3 : w.cell? ⟨g, 3, none⟩ = some (.int .i64 a) := (hl 3 _ rfl).1
 have c4 : w.cell? ⟨g, 4, none⟩ = some (.int .i64 k) := (hl 4 _ rfl).1
 clear hl
 go_enter Tryz.func126, Tryz.ntmps126
 go_wp2
 refine ybc 16 (by kernel_rfl) (by kernel_rfl) ?_
 intro W hW hWs
 simp only [zA] at hWs
 have hB : Below w.heap.size w W := (((Below.refl w.heap.size w).alloc (Nat.le_refl _) _).trans (hW.mono (by simp)))
 have hgW : g < W.heap.size := by omega
 have d0 : W.cell? ⟨g, 0, none⟩ = some (.int .i64 m) := (hB.cell (p := ⟨g, 0, none⟩) hg).trans c0
 have d1 : W.cell? ⟨g, 1, none⟩ = some (.int .i64 kg) := (hB.cell (p := ⟨g, 1, none⟩) hg).trans c1
 have d2 : W.cell? ⟨g, 2, none⟩ = some (.int .i64 s) := (hB.cell (p := ⟨g, 2, none⟩) hg).trans c2
 have d3 : W.cell? ⟨g, 3, none⟩ = some (.int .i64 a) := (hB.cell (p := ⟨g, 3, none⟩) hg).trans c3
 have d4 : W.cell? ⟨g, 4, none⟩ = some (.int .i64 k) := (hB.cell (p := ⟨g, 4, none⟩) hg).trans c4
 have hrW : ∀ j : Nat, W.cell? ⟨w.heap.size, j, none⟩ = (w.alloc (.cells #[.int .i64 0, .int .i64 0, .int .i64 0, .int .i64 0, .int .i64 0] 71)).cell? ⟨w.heap.size, j, none⟩ := fun j => hW.cell (p := ⟨w.heap.size, j, none⟩) (by rw [zA]; show w.heap.size < _; omega)
 have hrf : ∀ j : Nat, W.frozen? ⟨w.heap.size, j, none⟩ = (w.alloc (.cells #[.int .i64 0, .int .i64 0, .int .i64 0, .int .i64 0, .int .i64 0] 71)).frozen? ⟨w.heap.size, j, none⟩ := fun j => hW.frozen (p := ⟨w.heap.size, j, none⟩) (by rw [zA]; show w.heap.size < _; omega)
 have hw0 : w.heap.size < W.heap.size := by omega
 simp only [List.take_succ_cons, List.take_zero, List.drop_succ_cons, List.drop_zero]
 repeat (first | (refine wpStill_step (fun K hK => ?_); go_simp; refine hK _ ?_; clear hK K))
 refine wpStill_nil ?_
 go_wp2
 refine bodyPost_ret (by simp [results, Tryz.results126, go_sem, *]; try rfl) rfl ?_
 exact ⟨rfl, bw⟩
theorem yju (m kg s a k : Int) (w : World) : Calls Tryz.prog 124 #[.agg #[.int .i64 m, .int .i64 kg, .int .i64 s, .int .i64 a, .int .i64 k]] w fun e w' => e = .returned (.bool (ybn m kg s a k)) ∧ Below w.heap.size w w' := by
 have HT : Hid ((∀ j, j < 5 → in9 ([m, kg, s, a, k].getD j 0) = true) → ybn m kg s a k = true) := H! (fun h => by
  have h0 := h 0 (by omega); have h1 := h 1 (by omega); have h2 := h 2 (by omega); have h3 := h 3 (by omega); have h4 := h 4 (by omega)
  simp only [List.getD_cons_zero, List.getD_cons_succ] at h0 h1 h2 h3 h4
  unfold ybn
  rw [h0, h1, h2, h3, h4]; rfl)
 have HF : Hid (∀ j, j < 5 → in9 ([m, kg, s, a, k].getD j 0) = false → ybn m kg s a k = false) := H! (fun j hj h => by
  obtain rfl | rfl | rfl | rfl | rfl : j = 0 ∨ j = 1 ∨ j = 2 ∨ j = 3 ∨ j = 4 := by omega
  all_goals (simp only [List.getD_cons_zero, List.getD_cons_succ] at h; unfold ybn; rw [h]; simp))
 generalize ybn m kg s a k = R at *
 go_enter Tryz.func124, Tryz.ntmps124
 go_wp2_with (go_at_call 125; refine (yfr m kg s a k _).mono ?_; rintro _ w1 ⟨g, rfl, hg0, hg1, hA, hb1⟩)
 have HA := H! hA
 have hL : [m, kg, s, a, k].length = 5 := rfl
 generalize [m, kg, s, a, k] = l at *
 have HL := H! hL
 have hb1' : Below w.heap.size w w1 := bw
 have hb1s := hb1'.size
 clear hA hL hb1
 go_loopg [4] 5 (fun kx s4 wr => ∃ (j : Nat) (e : Later w1), s4 = .int .i64 j ∧ j ≤ 5 ∧ 5 - j ≤ kx ∧ wr = e.w ∧ Hid (∀ i, i < j → in9 (l.getD i 0) = true))
 case atStart => exact ⟨0, ⟨w1, Below.refl _ _⟩, rfl, by omega, by omega, rfl, H! (fun i h => absurd h (by omega))⟩
 case round =>
  obtain ⟨j, e, rfl, hj, hjx, rfl, HG⟩ := hrel
  have hes := e.h.size
  by_cases hj5 : j < 5
  ·
   have hj1 : (0 : Int) ≤ (j : Int) := by omega
   have hj2 : (j : Int) < 5 := by omega
   have hc : e.w.cell? ⟨g, j, none⟩ = some (.int .i64 (l.getD j 0)) := (e.h.cell (p := ⟨g, j, none⟩) hg1).trans (HA.out j _ (by rw [List.getD_eq_getElem?_getD, List.getElem?_eq_getElem (by rw [HL.out]; exact hj5)]; rfl)).1
   have HTj := H! (fun h => HF.out j hj5 h)
   have HGj : Hid (in9 (l.getD j 0) = true → ∀ i, i < j + 1 → in9 (l.getD i 0) = true) := H! (fun h i hi => by
    by_cases e : i = j
    ·
     subst e; exact h
    ·
     exact HG.out i (by omega))
   clear HF
   generalize l.getD j 0 = x at *
   by_cases n0 : x < -9
   ·
    obtain rfl := HTj.out (ybg (.inl n0))
    clear HT HTj
    go_wp2
    go_ret
    exact ⟨rfl, hb1'.trans (e.h.mono (by omega))⟩
   ·
    by_cases n1 : 9 < x
    ·
     obtain rfl := HTj.out (ybg (.inr n1))
     clear HT HTj
     go_wp2
     go_ret
     exact ⟨rfl, hb1'.trans (e.h.mono (by omega))⟩
    ·
     have HG2 := H! (HGj.out (ycd n0 n1))
     clear HTj HGj
     go_wp2
     go_roundg (5 - (j + 1))
     case measure => omega
     case rel => exact ⟨j + 1, e, by go_num, by omega, by omega, rfl, HG2⟩
  ·
   obtain rfl : j = 5 := by omega
   obtain rfl := HT.out HG.out
   clear HT HF
   go_wp2
   go_ret
   exact ⟨rfl, hb1'.trans (e.h.mono (by omega))⟩
theorem ycz {m kg s a k : Int} {v : Bool} (h : ybn m kg s a k = v) (w : World) : Calls Tryz.prog 124 #[.agg #[.int .i64 m, .int .i64 kg, .int .i64 s, .int .i64 a, .int .i64 k]] w fun e w' => e = .returned (.bool v) ∧ Below w.heap.size w w' := by
 subst h
 exact yju m kg s a k w
theorem cells10 {m kg s a k m2 kg2 s2 a2 k2 : Int} {w2 : World} {A : Nat} (hA : A < w2.heap.size) (hB : A + 1 < w2.heap.size) (a00 : w2.cell? ⟨A, 0, none⟩ = some (.int .i64 m)) (a01 : w2.cell? ⟨A, 1, none⟩ = some (.int .i64 kg)) (a02 : w2.cell? ⟨A, 2, none⟩ = some (.int .i64 s)) (a03 : w2.cell? ⟨A, 3, none⟩ = some (.int .i64 a)) (a04 : w2.cell? ⟨A, 4, none⟩ = some (.int .i64 k)) (a10 : w2.cell? ⟨A + 1, 0, none⟩ = some (.int .i64 m2)) (a11 : w2.cell? ⟨A + 1, 1, none⟩ = some (.int .i64 kg2)) (a12 : w2.cell? ⟨A + 1, 2, none⟩ = some (.int .i64 s2)) (a13 : w2.cell? ⟨A + 1, 3, none⟩ = some (.int .i64 a2)) (a14 : w2.cell? ⟨A + 1, 4, none⟩ = some (.int .i64 k2)) : Below w2.heap.size w2 w2.drew ∧ w2.drew.cell? ⟨A, 0, none⟩ = some (.int .i64 m) ∧ w2.drew.cell? ⟨A, 1, none⟩ = some (.int .i64 kg) ∧ w2.drew.cell? ⟨A, 2, none⟩ = some (.int .i64 s) ∧ w2.drew.cell? ⟨A, 3, none⟩ = some (.int .i64 a) ∧ w2.drew.cell? ⟨A, 4, none⟩ = some (.int .i64 k) ∧ w2.drew.cell? ⟨A + 1, 0, none⟩ = some (.int .i64 m2) ∧ w2.drew.cell? ⟨A + 1, 1, none⟩ = some (.int .i64 kg2) ∧ w2.drew.cell? ⟨A + 1, 2, none⟩ = some (.int .i64 s2) ∧ w2.drew.cell? ⟨A + 1, 3, none⟩ = some (.int .i64 a2) ∧ w2.drew.cell? ⟨A + 1, 4, none⟩ = some (.int .i64 k2) :=
 ⟨(Below.refl _ _).drew, a00, a01, a02, a03, a04, a10, a11, a12, a13, a14⟩
theorem yla {m kg s a k m2 kg2 s2 a2 k2 : Int} {w2 v v' : World} {A : Nat} (hA : A < w2.heap.size) (hB : A + 1 < w2.heap.size) (h : Below w2.heap.size w2 v ∧ v.cell? ⟨A, 0, none⟩ = some (.int .i64 m) ∧ v.cell? ⟨A, 1, none⟩ = some (.int .i64 kg) ∧ v.cell? ⟨A, 2, none⟩ = some (.int .i64 s) ∧ v.cell? ⟨A, 3, none⟩ = some (.int .i64 a) ∧ v.cell? ⟨A, 4, none⟩ = some (.int .i64 k) ∧ v.cell? ⟨A + 1, 0, none⟩ = some (.int .i64 m2) ∧ v.cell? ⟨A + 1, 1, none⟩ = some (.int .i64 kg2) ∧ v.cell? ⟨A + 1, 2, none⟩ = some (.int .i64 s2) ∧ v.cell? ⟨A + 1, 3, none⟩ = some (.int .i64 a2) ∧ v.cell? ⟨A + 1, 4, none⟩ = some (.int .i64 k2)) (hb : Below v.heap.size v v') : Below w2.heap.size w2 v' ∧ v'.cell? ⟨A, 0, none⟩ = some (.int .i64 m) ∧ v'.cell? ⟨A, 1, none⟩ = some (.int .i64 kg) ∧ v'.cell? ⟨A, 2, none⟩ = some (.int .i64 s) ∧ v'.cell? ⟨A, 3, none⟩ = some (.int .i64 a) ∧ v'.cell? ⟨A, 4, none⟩ = some (.int .i64 k) ∧ v'.cell? ⟨A + 1, 0, none⟩ = some (.int .i64 m2) ∧ v'.cell? ⟨A + 1, 1, none⟩ = some (.int .i64 kg2) ∧ v'.cell? ⟨A + 1, 2, none⟩ = some (.int .i64 s2) ∧ v'.cell? ⟨A + 1, 3, none⟩ = some (.int .i64 a2) ∧ v'.cell? ⟨A + 1, 4, none⟩ = some (.int .i64 k2) := by
 obtain ⟨h0, a00, a01, a02, a03, a04, a10, a11, a12, a13, a14⟩ := h
 have hs := h0.size
 refine ⟨yep hb h0, ?_, ?_, ?_, ?_, ?_, ?_, ?_, ?_, ?_, ?_⟩
 ·
  exact (hb.cell (p := ⟨A, 0, none⟩) (show A < _ by omega)).trans a00
 ·
  exact (hb.cell (p := ⟨A, 1, none⟩) (show A < _ by omega)).trans a01
 ·
  exact (hb.cell (p := ⟨A, 2, none⟩) (show A < _ by omega)).trans a02
 ·
  exact (hb.cell (p := ⟨A, 3, none⟩) (show A < _ by omega)).trans a03
 ·
  exact (hb.cell (p := ⟨A, 4, none⟩) (show A < _ by omega)).trans a04
 ·
  exact (hb.cell (p := ⟨A + 1, 0, none⟩) (show A + 1 < _ by omega)).trans a10
 ·
  exact (hb.cell (p := ⟨A + 1, 1, none⟩) (show A + 1 < _ by omega)).trans a11
 ·
  exact (hb.cell (p := ⟨A + 1, 2, none⟩) (show A + 1 < _ by omega)).trans a12
 ·
  exact (hb.cell (p := ⟨A + 1, 3, none⟩) (show A + 1 < _ by omega)).trans a13
 ·
  exact (hb.cell (p := ⟨A + 1, 4, none⟩) (show A + 1 < _ by omega)).trans a14
theorem yiu (g m kg s a k m2 kg2 s2 a2 k2 : Int) (hg : g = 1 ∨ g = -1) (w : World) : Calls Tryz.prog 113 #[.agg #[.int .i64 m, .int .i64 kg, .int .i64 s, .int .i64 a, .int .i64 k], .agg #[.int .i64 m2, .int .i64 kg2, .int .i64 s2, .int .i64 a2, .int .i64 k2], .int .i64 g] w fun e w' => e = .returned (.tuple #[.agg #[.int .i64 (yam g m m2 (yav g m kg s a k m2 kg2 s2 a2 k2)), .int .i64 (yam g kg kg2 (yav g m kg s a k m2 kg2 s2 a2 k2)), .int .i64 (yam g s s2 (yav g m kg s a k m2 kg2 s2 a2 k2)), .int .i64 (yam g a a2 (yav g m kg s a k m2 kg2 s2 a2 k2)), .int .i64 (yam g k k2 (yav g m kg s a k m2 kg2 s2 a2 k2))], .int .i64 (yav g m kg s a k m2 kg2 s2 a2 k2)]) ∧ Below w.heap.size w w' := by
 have HE : Hid (yav g m kg s a k m2 kg2 s2 a2 k2 = if ybn m kg s a k && ybn m2 kg2 s2 a2 k2 then (if ybn (m + g * m2) (kg + g * kg2) (s + g * s2) (a + g * a2) (k + g * k2) then 0 else 2) else 1) := H! rfl
 generalize yav g m kg s a k m2 kg2 s2 a2 k2 = E at *
 cases hu : ybn m kg s a k
 ·
  have HU := H! hu
  obtain rfl : E = 1 := by rw [HE.out, HU.out]; rfl
  clear HE
  go_enter Tryz.func113, Tryz.ntmps113
  go_wp2_with (first | (go_at_call 124; with_reducible (refine (ycz HU.out _).mono ?_); rintro _ w1 ⟨rfl, hb1⟩; obtain ⟨hb1c, hb1f⟩ := yah hb1; have hb1s := hb1.size; (try simp only [zA] at hb1s); have h1_0 : w.heap.size < w1.heap.size := (by omega); have h1_1 : w.heap.size + 1 < w1.heap.size := (by omega); have h1_2 : w.heap.size + 1 + 1 < w1.heap.size := (by omega)))
  refine bodyPost_ret (by simp [results, Tryz.results113, go_sem, *]; try rfl) rfl ?_
  exact ⟨rfl, bw⟩
 have HU := H! hu
 cases hu2 : ybn m2 kg2 s2 a2 k2
 ·
  have HU2 := H! hu2
  obtain rfl : E = 1 := by rw [HE.out, HU.out, HU2.out]; rfl
  clear HE
  have tk0 : True := trivial
  go_enter Tryz.func113, Tryz.ntmps113
  go_wp2_with (first | (have _t := tk0; go_at_call 124; with_reducible (refine (ycz HU.out _).mono ?_); rintro _ w1 ⟨rfl, hb1⟩; obtain ⟨hb1c, hb1f⟩ := yah hb1; have hb1s := hb1.size; (try simp only [zA] at hb1s); have h1_0 : w.heap.size < w1.heap.size := (by omega); have h1_1 : w.heap.size + 1 < w1.heap.size := (by omega); have h1_2 : w.heap.size + 1 + 1 < w1.heap.size := (by omega); clear tk0 _t) | (go_at_call 124; with_reducible (refine (ycz HU2.out _).mono ?_); rintro _ w2 ⟨rfl, hb2⟩; obtain ⟨hb2c, hb2f⟩ := yah hb2; have hb2s := hb2.size; (try simp only [zA] at hb2s); have h2_0 : w.heap.size < w2.heap.size := (by omega); have h2_1 : w.heap.size + 1 < w2.heap.size := (by omega); have h2_2 : w.heap.size + 1 + 1 < w2.heap.size := (by omega)))
  refine bodyPost_ret (by simp [results, Tryz.results113, go_sem, *]; try rfl) rfl ?_
  exact ⟨rfl, bw⟩
 have HU2 := H! hu2
 have HBD := H! (ygd hu)
 have HBD2 := H! (ygd hu2)
 clear hu hu2
 have HE2 : Hid (E = if ybn (m + g * m2) (kg + g * kg2) (s + g * s2) (a + g * a2) (k + g * k2) then 0 else 2) := H! (by rw [HE.out, HU.out, HU2.out]; rfl)
 clear HE
 have tk0 : True := trivial
 go_enter Tryz.func113, Tryz.ntmps113
 go_wp2_with (first | (have _t := tk0; go_at_call 124; with_reducible (refine (ycz HU.out _).mono ?_); rintro _ w1 ⟨rfl, hb1⟩; obtain ⟨hb1c, hb1f⟩ := yah hb1; have hb1s := hb1.size; (try simp only [zA] at hb1s); have h1_0 : w.heap.size < w1.heap.size := (by omega); have h1_1 : w.heap.size + 1 < w1.heap.size := (by omega); have h1_2 : w.heap.size + 1 + 1 < w1.heap.size := (by omega); clear tk0 _t) | (go_at_call 124; with_reducible (refine (ycz HU2.out _).mono ?_); rintro _ w2 ⟨rfl, hb2⟩; obtain ⟨hb2c, hb2f⟩ := yah hb2; have hb2s := hb2.size; (try simp only [zA] at hb2s); have h2_0 : w.heap.size < w2.heap.size := (by omega); have h2_1 : w.heap.size + 1 < w2.heap.size := (by omega); have h2_2 : w.heap.size + 1 + 1 < w2.heap.size := (by omega)))
 have hA0 : w.heap.size < w2.heap.size := by omega
 have hB0 : w.heap.size + 1 < w2.heap.size := by omega
 have hB2 : Below w.heap.size w w2 := bw
 have a00 : w2.cell? ⟨w.heap.size, 0, none⟩ = some (.int .i64 m) := by rw [hb2c _ _ (by omega), hb1c _ _ (by simp only [zA]; omega)]; first | go_keep | simp
 have a01 : w2.cell? ⟨w.heap.size, 1, none⟩ = some (.int .i64 kg) := by rw [hb2c _ _ (by omega), hb1c _ _ (by simp only [zA]; omega)]; first | go_keep | simp
 have a02 : w2.cell? ⟨w.heap.size, 2, none⟩ = some (.int .i64 s) := by rw [hb2c _ _ (by omega), hb1c _ _ (by simp only [zA]; omega)]; first | go_keep | simp
 have a03 : w2.cell? ⟨w.heap.size, 3, none⟩ = some (.int .i64 a) := by rw [hb2c _ _ (by omega), hb1c _ _ (by simp only [zA]; omega)]; first | go_keep | simp
 have a04 : w2.cell? ⟨w.heap.size, 4, none⟩ = some (.int .i64 k) := by rw [hb2c _ _ (by omega), hb1c _ _ (by simp only [zA]; omega)]; first | go_keep | simp
 have a10 : w2.cell? ⟨w.heap.size + 1, 0, none⟩ = some (.int .i64 m2) := by rw [hb2c _ _ (by omega), hb1c _ _ (by simp only [zA]; omega)]; first | go_keep | simp
 have a11 : w2.cell? ⟨w.heap.size + 1, 1, none⟩ = some (.int .i64 kg2) := by rw [hb2c _ _ (by omega), hb1c _ _ (by simp only [zA]; omega)]; first | go_keep | simp
 have a12 : w2.cell? ⟨w.heap.size + 1, 2, none⟩ = some (.int .i64 s2) := by rw [hb2c _ _ (by omega), hb1c _ _ (by simp only [zA]; omega)]; first | go_keep | simp
 have a13 : w2.cell? ⟨w.heap.size + 1, 3, none⟩ = some (.int .i64 a2) := by rw [hb2c _ _ (by omega), hb1c _ _ (by simp only [zA]; omega)]; first | go_keep | simp
 have a14 : w2.cell? ⟨w.heap.size + 1, 4, none⟩ = some (.int .i64 k2) := by rw [hb2c _ _ (by omega), hb1c _ _ (by simp only [zA]; omega)]; first | go_keep | simp
 have hq := cells10 (A := w.heap.size) hA0 hB0 a00 a01 a02 a03 a04 a10 a11 a12 a13 a14
 have hz2 : w.heap.size + 1 + 1 < w2.heap.size := by omega
 have hr2 : ∀ j : Nat, w2.frozen? ⟨w.heap.size + 1 + 1, j, none⟩ = false := fun j => by rw [hb2f _ _ (by omega), hb1f _ _ (by first | omega | (simp only [zA]; omega))]; first | go_keep | (simp [go_sem]; done) | (simp [World.frozen?]; done)
 have z0 : w2.cell? ⟨w.heap.size + 1 + 1, 0, none⟩ = some (.int .i64 0) := by rw [hb2c _ _ (by omega), hb1c _ _ (by first | omega | (simp only [zA]; omega))]; first | go_keep | (simp [go_sem]; done)
 have z1 : w2.cell? ⟨w.heap.size + 1 + 1, 1, none⟩ = some (.int .i64 0) := by rw [hb2c _ _ (by omega), hb1c _ _ (by first | omega | (simp only [zA]; omega))]; first | go_keep | (simp [go_sem]; done)
 have z2 : w2.cell? ⟨w.heap.size + 1 + 1, 2, none⟩ = some (.int .i64 0) := by rw [hb2c _ _ (by omega), hb1c _ _ (by first | omega | (simp only [zA]; omega))]; first | go_keep | (simp [go_sem]; done)
 have z3 : w2.cell? ⟨w.heap.size + 1 + 1, 3, none⟩ = some (.int .i64 0) := by rw [hb2c _ _ (by omega), hb1c _ _ (by first | omega | (simp only [zA]; omega))]; first | go_keep | (simp [go_sem]; done)
 have z4 : w2.cell? ⟨w.heap.size + 1 + 1, 4, none⟩ = some (.int .i64 0) := by rw [hb2c _ _ (by omega), hb1c _ _ (by first | omega | (simp only [zA]; omega))]; first | go_keep | (simp [go_sem]; done)
 clear hb1c hb1f hb2c hb2f a00 a01 a02 a03 a04 a10 a11 a12 a13 a14
 have tk1 : True := trivial
 go_region_held3 (fun v => Below w2.heap.size w2 v ∧ v.cell? ⟨w.heap.size, 0, none⟩ = some (.int .i64 m) ∧ v.cell? ⟨w.heap.size, 1, none⟩ = some (.int .i64 kg) ∧ v.cell? ⟨w.heap.size, 2, none⟩ = some (.int .i64 s) ∧ v.cell? ⟨w.heap.size, 3, none⟩ = some (.int .i64 a) ∧ v.cell? ⟨w.heap.size, 4, none⟩ = some (.int .i64 k) ∧ v.cell? ⟨w.heap.size + 1, 0, none⟩ = some (.int .i64 m2) ∧ v.cell? ⟨w.heap.size + 1, 1, none⟩ = some (.int .i64 kg2) ∧ v.cell? ⟨w.heap.size + 1, 2, none⟩ = some (.int .i64 s2) ∧ v.cell? ⟨w.heap.size + 1, 3, none⟩ = some (.int .i64 a2) ∧ v.cell? ⟨w.heap.size + 1, 4, none⟩ = some (.int .i64 k2)) (first | exact hq | assumption) (first | (have _t := tk1; go_at_call 125; with_reducible (refine (yfr m kg s a k _).mono ?_); rintro _ w3 ⟨gx, rfl, hx0, hx1, hAx, hb3⟩; have hS3 := yla hA0 hB0 (by assumption) hb3; have HAx := H! hAx; clear hAx tk1 _t) | (go_at_call 125; with_reducible (refine (yfr m2 kg2 s2 a2 k2 _).mono ?_); rintro _ w4 ⟨gy, rfl, hy0, hy1, hAy, hb4⟩; have hS4 := yla hA0 hB0 (by assumption) hb4; have HAy := H! hAy; clear hAy))
 have hb24 := hS4.1
 have hb24s := hb24.size
 have hx0' : w2.heap.size ≤ gx := by first | exact hx0 | (simp only [World.size_drew] at hx0; exact hx0)
 have hb3s := hb3.size
 have hb4s := hb4.size
 have hgx : gx < w4.heap.size := by omega
 have hne : gy ≠ gx := by omega
 have HAx4 : Hid (AtL w4 gx [m, kg, s, a, k]) := H! (HAx.out.later hb4 hx1)
 have hB4 : Below w.heap.size w w4 := yep hb24 hB2
 have HZ4 : Hid (w4.cell? ⟨w.heap.size + 1 + 1, 0, none⟩ = some (.int .i64 0) ∧ w4.cell? ⟨w.heap.size + 1 + 1, 1, none⟩ = some (.int .i64 0) ∧ w4.cell? ⟨w.heap.size + 1 + 1, 2, none⟩ = some (.int .i64 0) ∧ w4.cell? ⟨w.heap.size + 1 + 1, 3, none⟩ = some (.int .i64 0) ∧ w4.cell? ⟨w.heap.size + 1 + 1, 4, none⟩ = some (.int .i64 0) ∧ ∀ j : Nat, w4.frozen? ⟨w.heap.size + 1 + 1, j, none⟩ = false) := H! ⟨(hb24.cell (p := ⟨w.heap.size + 1 + 1, 0, none⟩) hz2).trans z0, (hb24.cell (p := ⟨w.heap.size + 1 + 1, 1, none⟩) hz2).trans z1, (hb24.cell (p := ⟨w.heap.size + 1 + 1, 2, none⟩) hz2).trans z2, (hb24.cell (p := ⟨w.heap.size + 1 + 1, 3, none⟩) hz2).trans z3, (hb24.cell (p := ⟨w.heap.size + 1 + 1, 4, none⟩) hz2).trans z4, fun j => (hb24.frozen (p := ⟨w.heap.size + 1 + 1, j, none⟩) hz2).trans (hr2 j)⟩
 clear hq hS3 hS4 HAx
 have HBX : Hid (∀ j, j < 5 → -9 ≤ [m, kg, s, a, k].getD j 0 ∧ [m, kg, s, a, k].getD j 0 ≤ 9) := H! (fun j hj => by
  obtain ⟨h0, h1, h2, h3, h4⟩ := HBD.out
  obtain rfl | rfl | rfl | rfl | rfl : j = 0 ∨ j = 1 ∨ j = 2 ∨ j = 3 ∨ j = 4 := by omega
  all_goals (simp only [List.getD_cons_zero, List.getD_cons_succ]; assumption))
 have HBY : Hid (∀ j, j < 5 → -9 ≤ [m2, kg2, s2, a2, k2].getD j 0 ∧ [m2, kg2, s2, a2, k2].getD j 0 ≤ 9) := H! (fun j hj => by
  obtain ⟨h0, h1, h2, h3, h4⟩ := HBD2.out
  obtain rfl | rfl | rfl | rfl | rfl : j = 0 ∨ j = 1 ∨ j = 2 ∨ j = 3 ∨ j = 4 := by omega
  all_goals (simp only [List.getD_cons_zero, List.getD_cons_succ]; assumption))
 have HEX : Hid (∀ lx : List Int, lx.length = 5 → (∀ i, i < 5 → lx.getD i 0 = if i < 5 then [m, kg, s, a, k].getD i 0 + g * [m2, kg2, s2, a2, k2].getD i 0 else [m, kg, s, a, k].getD i 0) → lx = [m + g * m2, kg + g * kg2, s + g * s2, a + g * a2, k + g * k2]) := H! (fun lx hl h => yij (by rw [hl]; rfl) (fun t ht => by
  rw [hl] at ht
  rw [h t ht, if_pos ht]
  obtain rfl | rfl | rfl | rfl | rfl : t = 0 ∨ t = 1 ∨ t = 2 ∨ t = 3 ∨ t = 4 := by omega
  all_goals rfl))
 have hXl : [m, kg, s, a, k].length = 5 := rfl
 have hYl : [m2, kg2, s2, a2, k2].length = 5 := rfl
 have HXL := H! hXl
 have HYL := H! hYl
 clear hXl hYl
 generalize [m, kg, s, a, k] = X at *
 generalize [m2, kg2, s2, a2, k2] = Y at *
 go_wp2
 go_loopg [10] 5 (fun kx s10 wr => ∃ (j : Nat) (lx : List Int), s10 = .int .i64 j ∧ j ≤ 5 ∧ 5 - j ≤ kx ∧ w4.heap.size ≤ wr.heap.size ∧ Below w.heap.size w wr ∧ KeepB w4.heap.size gx w4 wr ∧ Hid (AtL wr gx lx) ∧ Hid (lx.length = 5 ∧ ∀ i, i < 5 → lx.getD i 0 = if i < j then X.getD i 0 + g * Y.getD i 0 else X.getD i 0))
 case atStart => exact ⟨0, X, rfl, by omega, by omega, Nat.le_refl _, hB4, KeepB.refl _ _ _, HAx4, H! ⟨HXL.out, fun i _ => by rw [if_neg (by omega)]⟩⟩
 case round =>
  clear HAx4
  obtain ⟨j, lx, rfl, hj, hjx, hsr, hBw, hKB, HA, HL⟩ := hrel
  by_cases hj5 : j < 5
  ·
   have hj1 : (0 : Int) ≤ (j : Int) := by omega
   have hj2 : (j : Int) < 5 := by omega
   have hxj : lx.getD j 0 = X.getD j 0 := by rw [HL.out.2 j hj5, if_neg (by omega)]
   obtain ⟨ca, cf⟩ := HA.out j (X.getD j 0) (by rw [← hxj, List.getD_eq_getElem?_getD, List.getElem?_eq_getElem (by rw [HL.out.1]; exact hj5)]; rfl)
   have cb : wr.cell? ⟨gy, j, none⟩ = some (.int .i64 (Y.getD j 0)) := (hKB.cell hy1 hne).trans (HAy.out j _ (by rw [List.getD_eq_getElem?_getD, List.getElem?_eq_getElem (by rw [HYL.out]; exact hj5)]; rfl)).1
   have bx := HBX.out j hj5
   have hby := HBY.out j hj5
   have HLn : Hid ((lx.set j (X.getD j 0 + g * Y.getD j 0)).length = 5 ∧ ∀ i, i < 5 → (lx.set j (X.getD j 0 + g * Y.getD j 0)).getD i 0 = if i < j + 1 then X.getD i 0 + g * Y.getD i 0 else X.getD i 0) := H! ⟨by rw [List.length_set]; exact HL.out.1, fun i hi => by
    rw [ynq _ _ _ _ (by rw [HL.out.1]; exact hj5)]
    by_cases e : i = j
    ·
     subst e; rw [if_pos rfl, if_pos (by omega)]
    ·
     rw [if_neg e, HL.out.2 i hi]
     by_cases h : i < j
     ·
      rw [if_pos h, if_pos (by omega)]
     ·
      rw [if_neg h, if_neg (by omega)]⟩
   have HLL := H! HL.out.1
   clear hxj
   generalize X.getD j 0 = x at *
   generalize Y.getD j 0 = y at *
   have wm : IntKind.i64.wrap (g * y) = g * y := IntWalk.i64_in _ (by rcases hg with rfl | rfl <;> omega)
   have wa : IntKind.i64.wrap (x + g * y) = x + g * y := IntWalk.i64_in _ (by rcases hg with rfl | rfl <;> omega)
   have szr : gx < wr.heap.size := by omega
   have szy : gy < wr.heap.size := by omega
   go_wp2
   refine ybc 14 (by kernel_rfl) (by kernel_rfl) ?_
   intro W hW hWs
   have cW1 : W.cell? ⟨gx, j, none⟩ = some (.int .i64 x) := (hW.cell (p := ⟨gx, j, none⟩) szr).trans ca
   have cW2 : W.frozen? ⟨gx, j, none⟩ = false := (hW.frozen (p := ⟨gx, j, none⟩) szr).trans cf
   have bW : W.cell? ⟨gy, j, none⟩ = some (.int .i64 y) := (hW.cell (p := ⟨gy, j, none⟩) szy).trans cb
   have HAW : Hid (AtL W gx lx) := H! (HA.out.later hW szr)
   simp only [List.take_succ_cons, List.take_zero, List.drop_succ_cons, List.drop_zero]
   repeat (first | (refine wpStill_step (fun K hK => ?_); go_simp; refine hK _ ?_; clear hK K))
   refine wpStill_nil ?_
   go_wp2
   go_roundg (5 - (j + 1))
   case measure => omega
   case rel => exact ⟨j + 1, lx.set j (x + g * y), by go_num, by omega, by omega, by rw [zS]; omega, hBw.trans ((hW.mono (show w.heap.size ≤ wr.heap.size by omega)).setCell (p := ⟨gx, j, none⟩) (show w.heap.size ≤ gx by omega) _), hKB.trans (KeepB.trans ⟨hW.mono (Nat.zero_le _), fun q hq _ => hW.block q (by omega)⟩ (KeepB.setC W j _)), H! (HAW.out.set (by rw [HLL.out]; exact hj5) _), HLn⟩
  ·
   obtain rfl : j = 5 := by omega
   have hlx := HEX.out lx HL.out.1 HL.out.2
   subst hlx
   clear HEX HL HBX HBY
   have hgw : gx < wr.heap.size := by omega
   have hww : w.heap.size + 1 + 1 < w4.heap.size := by omega
   have hwr : w.heap.size + 1 + 1 < wr.heap.size := by omega
   have z0w : wr.cell? ⟨w.heap.size + 1 + 1, 0, none⟩ = some (.int .i64 0) := (hKB.cell hww (by omega)).trans HZ4.out.1
   have z1w : wr.cell? ⟨w.heap.size + 1 + 1, 1, none⟩ = some (.int .i64 0) := (hKB.cell hww (by omega)).trans HZ4.out.2.1
   have z2w : wr.cell? ⟨w.heap.size + 1 + 1, 2, none⟩ = some (.int .i64 0) := (hKB.cell hww (by omega)).trans HZ4.out.2.2.1
   have z3w : wr.cell? ⟨w.heap.size + 1 + 1, 3, none⟩ = some (.int .i64 0) := (hKB.cell hww (by omega)).trans HZ4.out.2.2.2.1
   have z4w : wr.cell? ⟨w.heap.size + 1 + 1, 4, none⟩ = some (.int .i64 0) := (hKB.cell hww (by omega)).trans HZ4.out.2.2.2.2.1
   have zf : ∀ j : Nat, wr.frozen? ⟨w.heap.size + 1 + 1, j, none⟩ = false := fun j => (hKB.frozen hww (by omega)).trans (HZ4.out.2.2.2.2.2 j)
   clear HZ4
   cases hu3 : ybn (m + g * m2) (kg + g * kg2) (s + g * s2) (a + g * a2) (k + g * k2)
   ·
    have HU3 := H! hu3
    obtain rfl : E = 2 := by rw [HE2.out, HU3.out]; rfl
    clear HE2 hu3
    have HOF := H! (fun W (h : Below wr.heap.size wr W) => yks gx (m + g * m2) (kg + g * kg2) (s + g * s2) (a + g * a2) (k + g * k2) W (Nat.lt_of_lt_of_le hgw h.size) (HA.out.later h hgw))
    go_wp2_with (first | (go_at_call 126; refine (HOF.out _ (Below.refl _ _)).mono ?_; rintro _ w5 ⟨rfl, hb5⟩; obtain ⟨hb5c, hb5f⟩ := yah hb5; have hb5s := hb5.size; have hh5 : w.heap.size + 1 + 1 < w5.heap.size := (by omega); have hh8 : w.heap.size + 1 + 1 < w5.heap.size + 1 := (by omega); have hh9 : ¬ w.heap.size + 1 + 1 = w5.heap.size := (by omega); have hh10 : ¬ w5.heap.size = w.heap.size + 1 + 1 := (by omega)) | (go_at_call 124; with_reducible (refine (ycz HU3.out _).mono ?_); rintro _ w6 ⟨rfl, hb6⟩; obtain ⟨hb6c, hb6f⟩ := yah hb6; have hb6s := hb6.size; (try simp only [zA] at hb6s); have hh6 : w.heap.size + 1 + 1 < w6.heap.size := (by omega); have hh7 : w5.heap.size < w6.heap.size := (by omega)))
    refine bodyPost_ret (by simp [results, Tryz.results113, go_sem, yam, *]; try rfl) rfl ?_
    exact ⟨rfl, bw⟩
   ·
    have HU3 := H! hu3
    obtain rfl : E = 0 := by rw [HE2.out, HU3.out]; rfl
    clear HE2 hu3
    have HOF := H! (fun W (h : Below wr.heap.size wr W) => yks gx (m + g * m2) (kg + g * kg2) (s + g * s2) (a + g * a2) (k + g * k2) W (Nat.lt_of_lt_of_le hgw h.size) (HA.out.later h hgw))
    go_wp2_with (first | (go_at_call 126; refine (HOF.out _ (Below.refl _ _)).mono ?_; rintro _ w5 ⟨rfl, hb5⟩; obtain ⟨hb5c, hb5f⟩ := yah hb5; have hb5s := hb5.size; have hh5 : w.heap.size + 1 + 1 < w5.heap.size := (by omega); have hh8 : w.heap.size + 1 + 1 < w5.heap.size + 1 := (by omega); have hh9 : ¬ w.heap.size + 1 + 1 = w5.heap.size := (by omega); have hh10 : ¬ w5.heap.size = w.heap.size + 1 + 1 := (by omega)) | (go_at_call 124; with_reducible (refine (ycz HU3.out _).mono ?_); rintro _ w6 ⟨rfl, hb6⟩; obtain ⟨hb6c, hb6f⟩ := yah hb6; have hb6s := hb6.size; (try simp only [zA] at hb6s); have hh6 : w.heap.size + 1 + 1 < w6.heap.size := (by omega); have hh7 : w5.heap.size < w6.heap.size := (by omega)))
    refine bodyPost_ret (by simp [results, Tryz.results113, go_sem, yam, *]; try rfl) rfl ?_
    exact ⟨rfl, bw⟩
end Go.Proofs.YtfooefiaenlhmaaGreat
