/- Contracts of the reference's rounded division by a positive number. -/
import Derived.Test.YtohdbneaganfbaaArith
import Derived.Deep.LoopGhost
namespace Go.Proofs.Ytohdbneaganfbaa
set_option linter.unusedVariables false
set_option linter.unusedSimpArgs false
open Go.RowKit Go.ChangeShapes Go.WideShapes Go.ChangeAt Go.Proofs.Mul64

theorem and_mask {x : Int} (h0 : 0 ≤ x) (h1 : x ≤ 18446744073709551615) : bits .and .u64 x 4294967295 = x % 4294967296 := by
  obtain ⟨n, rfl⟩ := Int.eq_ofNat_of_zero_le h0
  rw [Mul64.maskN n (by omega)]
  omega

theorem times_one {x : Int} (h0 : 0 ≤ x) (h1 : x ≤ 4611686018427387904) (w : World) :
    Calls Try.prog 141 #[.int .u64 x, .int .u64 1] w fun e w' => e = .returned (.agg #[.int .u64 0, .int .u64 x]) ∧ Below w.heap.size w w' := by
  have e1 := and_mask h0 (by omega)
  have e2 := and_mask (x := 1) (by omega) (by omega)
  have e3 := and_mask (x := x / 4294967296) (by omega) (by omega)
  have e4 := and_mask (x := x % 4294967296) (by omega) (by omega)
  have ez : x % 4294967296 / 4294967296 = 0 := by omega
  have ey : x / 4294967296 / 4294967296 = 0 := by omega
  rw [show (1 : Int) % 4294967296 = 1 from rfl] at e2
  rw [show x / 4294967296 % 4294967296 = x / 4294967296 by omega] at e3
  rw [show x % 4294967296 % 4294967296 = x % 4294967296 by omega] at e4
  go_enter Try.func141, Try.ntmps141
  go_wp2
  go_returns
  have ex : x / 4294967296 * 4294967296 + x % 4294967296 = x := by omega
  exact ⟨by rw [ex], by (repeat' (first | (with_reducible exact Below.refl _ _) | (with_reducible assumption) | (with_reducible refine below_alloc ?_ _) | (with_reducible refine Below.drew ?_) | (with_reducible refine below_drewN ?_ _) | (with_reducible refine below_step (by assumption) ?_) | (with_reducible refine below_later ?_ _) | (with_reducible refine Below.setCell ?_ ?_ _) | go_size))⟩

theorem over_step {A A' c B : Nat} (hc : 1 ≤ c) (hA : A' = 2 * A + B) (hB : B ≤ 1) :
    (c ≤ A % c * 2 + B → A' % c = A % c * 2 + B - c ∧ A' / c = A / c * 2 + 1) ∧ (A % c * 2 + B < c → A' % c = A % c * 2 + B ∧ A' / c = A / c * 2) := by
  have e := Nat.mod_add_div A c
  have hr := Nat.mod_lt A hc
  generalize A % c = R at *
  generalize A / c = Q at *
  have hm : c * (Q * 2) = 2 * (c * Q) := by rw [← Nat.mul_assoc, Nat.mul_comm]
  have key : A' = c * (Q * 2) + (R * 2 + B) := by rw [hm]; omega
  constructor
  · intro h
    have key2 : A' = c * (Q * 2 + 1) + (R * 2 + B - c) := by rw [Nat.mul_add, Nat.mul_one]; omega
    rw [key2, Nat.mul_add_mod, Nat.mod_eq_of_lt (by omega), Nat.mul_add_div (by omega), Nat.div_eq_of_lt (show R * 2 + B - c < c by omega)]
    exact ⟨rfl, rfl⟩
  · intro h
    rw [key, Nat.mul_add_mod, Nat.mod_eq_of_lt h, Nat.mul_add_div (by omega), Nat.div_eq_of_lt h]
    exact ⟨rfl, rfl⟩

set_option maxHeartbeats 1000000 in
theorem over_low (lo c : Nat) (h1 : lo ≤ 4611686018427387904) (c0 : 1 ≤ c) (c1 : c ≤ 4611686018427387904) (w : World) :
    Calls Try.prog 140 #[.agg #[.int .u64 0, .int .u64 lo], .int .u64 c] w fun e w' => e = .returned (.tuple #[.int .u64 (lo / c : Nat), .int .u64 (lo % c : Nat), .bool true]) ∧ Below w.heap.size w w' := by
  have hcz : (0 : Int) < c := by omega
  go_enter Try.func140, Try.ntmps140
  go_wp2
  go_loopg [7, 8, 9] 64 (fun kx s7 s8 s9 wr => ∃ k : Nat, k ≤ kx ∧ k ≤ 64 ∧ s7 = .int .u64 (lo / 2 ^ k % c : Nat) ∧ s8 = .int .u64 (lo / 2 ^ k / c : Nat) ∧ s9 = .int .i64 (k - 1) ∧ wr = w.alloc (.cells #[.int .u64 0, .int .u64 lo] 126))
  case atStart =>
    have hz : lo / 2 ^ 64 = 0 := Nat.div_eq_of_lt (by omega)
    exact ⟨64, by omega, by omega, by rw [hz]; simp, by rw [hz]; simp, rfl, rfl⟩
  case round =>
    obtain ⟨k, hk, hk2, rfl, rfl, rfl, rfl⟩ := hrel
    cases k with
    | zero =>
      go_wp2
      go_ret3
      exact ⟨by simp, by (repeat' (first | (with_reducible exact Below.refl _ _) | (with_reducible assumption) | (with_reducible refine below_alloc ?_ _) | (with_reducible refine Below.drew ?_) | (with_reducible refine below_drewN ?_ _) | (with_reducible refine below_step (by assumption) ?_) | (with_reducible refine below_later ?_ _) | (with_reducible refine Below.setCell ?_ ?_ _) | go_size))⟩
    | succ m =>
      have hr : lo / 2 ^ (m + 1) % c < c := Nat.mod_lt _ (by omega)
      have hq : lo / 2 ^ (m + 1) / c ≤ lo / 2 ^ (m + 1) := Nat.div_le_self _ _
      have hn : lo / 2 ^ (m + 1) ≤ lo := Nat.div_le_self _ _
      have hn2 : lo / 2 ^ m ≤ lo := Nat.div_le_self _ _
      have hA : lo / 2 ^ m = 2 * (lo / 2 ^ (m + 1)) + lo / 2 ^ m % 2 := by
        rw [Nat.pow_succ, ← Nat.div_div_eq_div_mul]
        omega
      have hst := over_step c0 hA (by omega)
      have hbit : bits .and .u64 ((lo : Int) / 2 ^ m) 1 = ((lo / 2 ^ m % 2 : Nat) : Int) := by
        have e2 : (lo : Int) / 2 ^ m = ((lo / 2 ^ m : Nat) : Int) := by simp
        rw [e2, and_one_u64 _ (by omega) (by omega)]
        omega
      have hB : lo / 2 ^ m % 2 ≤ 1 := by omega
      have HST := Lib.hid hst
      clear hst hA
      generalize lo / 2 ^ m % 2 = B at hbit hB HST
      generalize lo / 2 ^ (m + 1) % c = R at *
      generalize lo / 2 ^ (m + 1) / c = Q at *
      have ht : (R : Int) / 9223372036854775808 = 0 := by omega
      rw [show ((m + 1 : Nat) : Int) - 1 = m by omega]
      by_cases hle : c ≤ R * 2 + B
      · have hle2 : (c : Int) ≤ R * 2 + B := by omega
        obtain ⟨p1, p2⟩ := HST.out.1 hle
        have P1 := Lib.hid p1
        have P2 := Lib.hid p2
        clear p1 p2
        go_wp2
        go_roundg m
        case measure => omega
        case rel => exact ⟨m, Nat.le_refl _, by omega, by rw [P1.out]; exact congrArg (Value.int .u64) (by omega), by rw [P2.out]; exact congrArg (Value.int .u64) (by omega), rfl, rfl⟩
      · have hle2 : (R : Int) * 2 + B < c := by omega
        obtain ⟨p1, p2⟩ := HST.out.2 (by omega)
        have P1 := Lib.hid p1
        have P2 := Lib.hid p2
        clear p1 p2
        go_wp2
        go_roundg m
        case measure => omega
        case rel => exact ⟨m, Nat.le_refl _, by omega, by rw [P1.out]; exact congrArg (Value.int .u64) (by omega), by rw [P2.out]; exact congrArg (Value.int .u64) (by omega), rfl, rfl⟩

theorem rsize_pos {a : Int} (h0 : 0 ≤ a) (h1 : a ≤ 4611686018427387904) (w : World) :
    Calls Try.prog 139 #[.int .i64 a] w fun e w' => e = .returned (.int .u64 a) ∧ w = w' := by
  have hn : ¬ a < 0 := by omega
  go_enter Try.func139, Try.ntmps139
  go_wp2
  go_ret
  exact ⟨rfl, rfl⟩
theorem rsize_neg {a : Int} (h0 : a < 0) (h1 : -4611686018427387904 ≤ a) (w : World) :
    Calls Try.prog 139 #[.int .i64 a] w fun e w' => e = .returned (.int .u64 (-a)) ∧ w = w' := by
  go_enter Try.func139, Try.ntmps139
  go_wp2
  go_ret
  exact ⟨by refine ret_int ?_; simp only [IntKind.wrap_u64]; omega, rfl⟩
theorem over_any {lo c : Int} (h0 : 0 ≤ lo) (h1 : lo ≤ 4611686018427387904) (c0 : 1 ≤ c) (c1 : c ≤ 4611686018427387904) (w : World) :
    Calls Try.prog 140 #[.agg #[.int .u64 0, .int .u64 lo], .int .u64 c] w fun e w' => e = .returned (.tuple #[.int .u64 (lo / c), .int .u64 (lo % c), .bool true]) ∧ Below w.heap.size w w' := by
  obtain ⟨n, rfl⟩ := Int.eq_ofNat_of_zero_le h0
  obtain ⟨m, rfl⟩ := Int.eq_ofNat_of_zero_le (show 0 ≤ c by omega)
  exact over_low n m (by omega) (by omega) (by omega) w

set_option maxRecDepth 100000 in
theorem rmuldiv_pos {a c : Int} (h0 : 0 ≤ a) (h1 : a ≤ 4611686018427387904) (c0 : 1 ≤ c) (c1 : c ≤ 4611686018427387904) (w : World) :
    Calls Try.prog 124 #[.int .i64 a, .int .i64 1, .int .i64 c, .int .i64 1] w fun e w' => e = .returned (.tuple #[.int .i64 (a / c), .int .i64 0]) ∧ Below w.heap.size w w' := by
  have hn : ¬ a < 0 := by omega
  have hcn : ¬ c < 0 := by omega
  have hc0 : (c == 0) = false := by simp; omega
  have ⟨d1, d2, d3, d4⟩ := div_bd h0 c0
  by_cases ha : a = 0
  · subst ha
    go_enter Try.func124, Try.ntmps124
    go_wp2_with (first | (go_at_call 139; refine (rsize_pos (by omega) (by omega) _).mono ?_; rintro e w' ⟨rfl, rfl⟩) | (go_at_call 141; refine (times_one (by omega) (by omega) _).mono ?_; rintro e hb1w ⟨rfl, hb1⟩; obtain ⟨hb1c, hb1f⟩ := bcell hb1; have hb1s := hb1.size; (try simp only [World.size_alloc] at hb1s); (try (have : w.heap.size < hb1w.heap.size := by omega)); (try (have : w.heap.size + 1 < hb1w.heap.size := by omega)); (try (have : w.heap.size + 1 + 1 < hb1w.heap.size := by omega)); (try (have : w.heap.size + 1 + 1 + 1 < hb1w.heap.size := by omega)); (try (have : bX < hb1w.heap.size := by omega)); (try (have : bY < hb1w.heap.size := by omega)); (try (have : bZ < hb1w.heap.size := by omega))) | (go_at_call 140; refine (over_any (by omega) (by omega) (by omega) (by omega) _).mono ?_; rintro e hb2w ⟨rfl, hb2⟩; obtain ⟨hb2c, hb2f⟩ := bcell hb2; have hb2s := hb2.size; (try simp only [World.size_alloc] at hb2s); (try (have : w.heap.size < hb2w.heap.size := by omega)); (try (have : w.heap.size + 1 < hb2w.heap.size := by omega)); (try (have : w.heap.size + 1 + 1 < hb2w.heap.size := by omega)); (try (have : w.heap.size + 1 + 1 + 1 < hb2w.heap.size := by omega)); (try (have : bX < hb2w.heap.size := by omega)); (try (have : bY < hb2w.heap.size := by omega)); (try (have : bZ < hb2w.heap.size := by omega))))
    all_goals go_ret2
    all_goals exact ⟨by simp, by (repeat' (first | (with_reducible exact Below.refl _ _) | (with_reducible assumption) | (with_reducible refine below_alloc ?_ _) | (with_reducible refine Below.drew ?_) | (with_reducible refine below_drewN ?_ _) | (with_reducible refine below_step (by assumption) ?_) | (with_reducible refine below_later ?_ _) | (with_reducible refine Below.setCell ?_ ?_ _) | go_size))⟩
  · have ha2 : (a == 0) = false := by simpa using ha
    have ha3 : (a != 0) = true := by simpa using ha
    go_enter Try.func124, Try.ntmps124
    go_wp2_with (first | (go_at_call 139; refine (rsize_pos (by omega) (by omega) _).mono ?_; rintro e w' ⟨rfl, rfl⟩) | (go_at_call 141; refine (times_one (by omega) (by omega) _).mono ?_; rintro e hb1w ⟨rfl, hb1⟩; obtain ⟨hb1c, hb1f⟩ := bcell hb1; have hb1s := hb1.size; (try simp only [World.size_alloc] at hb1s); (try (have : w.heap.size < hb1w.heap.size := by omega)); (try (have : w.heap.size + 1 < hb1w.heap.size := by omega)); (try (have : w.heap.size + 1 + 1 < hb1w.heap.size := by omega)); (try (have : w.heap.size + 1 + 1 + 1 < hb1w.heap.size := by omega)); (try (have : bX < hb1w.heap.size := by omega)); (try (have : bY < hb1w.heap.size := by omega)); (try (have : bZ < hb1w.heap.size := by omega))) | (go_at_call 140; refine (over_any (by omega) (by omega) (by omega) (by omega) _).mono ?_; rintro e hb2w ⟨rfl, hb2⟩; obtain ⟨hb2c, hb2f⟩ := bcell hb2; have hb2s := hb2.size; (try simp only [World.size_alloc] at hb2s); (try (have : w.heap.size < hb2w.heap.size := by omega)); (try (have : w.heap.size + 1 < hb2w.heap.size := by omega)); (try (have : w.heap.size + 1 + 1 < hb2w.heap.size := by omega)); (try (have : w.heap.size + 1 + 1 + 1 < hb2w.heap.size := by omega)); (try (have : bX < hb2w.heap.size := by omega)); (try (have : bY < hb2w.heap.size := by omega)); (try (have : bZ < hb2w.heap.size := by omega))))
    all_goals go_ret2
    all_goals exact ⟨rfl, by (repeat' (first | (with_reducible exact Below.refl _ _) | (with_reducible assumption) | (with_reducible refine below_alloc ?_ _) | (with_reducible refine Below.drew ?_) | (with_reducible refine below_drewN ?_ _) | (with_reducible refine below_step (by assumption) ?_) | (with_reducible refine below_later ?_ _) | (with_reducible refine Below.setCell ?_ ?_ _) | go_size))⟩

set_option maxRecDepth 100000 in
theorem rmuldiv_neg {a c : Int} (h0 : a < 0) (h1 : -4611686018427387904 ≤ a) (c0 : 1 ≤ c) (c1 : c ≤ 4611686018427387904) (w : World) :
    Calls Try.prog 124 #[.int .i64 a, .int .i64 1, .int .i64 c, .int .i64 1] w fun e w' => e = .returned (.tuple #[.int .i64 (a / c), .int .i64 0]) ∧ Below w.heap.size w w' := by
  have hcn : ¬ c < 0 := by omega
  have hc0 : (c == 0) = false := by simp; omega
  have ha2 : (a == 0) = false := by simp; omega
  have ha3 : (a != 0) = true := by simp; omega
  have ⟨d1, d2, d3, d4⟩ := div_bd (show 0 ≤ -a by omega) c0
  have hnf := neg_floor (a := a) c0
  by_cases hr : 0 < (-a) % c
  · rw [if_pos hr] at hnf
    have H := Lib.hid hnf
    clear hnf
    go_enter Try.func124, Try.ntmps124
    go_wp2_with (first | (go_at_call 139; refine (rsize_neg (by omega) (by omega) _).mono ?_; rintro e w' ⟨rfl, rfl⟩) | (go_at_call 139; refine (rsize_pos (by omega) (by omega) _).mono ?_; rintro e w' ⟨rfl, rfl⟩) | (go_at_call 141; refine (times_one (by omega) (by omega) _).mono ?_; rintro e hb1w ⟨rfl, hb1⟩; obtain ⟨hb1c, hb1f⟩ := bcell hb1; have hb1s := hb1.size; (try simp only [World.size_alloc] at hb1s); (try (have : w.heap.size < hb1w.heap.size := by omega)); (try (have : w.heap.size + 1 < hb1w.heap.size := by omega)); (try (have : w.heap.size + 1 + 1 < hb1w.heap.size := by omega)); (try (have : w.heap.size + 1 + 1 + 1 < hb1w.heap.size := by omega)); (try (have : bX < hb1w.heap.size := by omega)); (try (have : bY < hb1w.heap.size := by omega)); (try (have : bZ < hb1w.heap.size := by omega))) | (go_at_call 140; refine (over_any (by omega) (by omega) (by omega) (by omega) _).mono ?_; rintro e hb2w ⟨rfl, hb2⟩; obtain ⟨hb2c, hb2f⟩ := bcell hb2; have hb2s := hb2.size; (try simp only [World.size_alloc] at hb2s); (try (have : w.heap.size < hb2w.heap.size := by omega)); (try (have : w.heap.size + 1 < hb2w.heap.size := by omega)); (try (have : w.heap.size + 1 + 1 < hb2w.heap.size := by omega)); (try (have : w.heap.size + 1 + 1 + 1 < hb2w.heap.size := by omega)); (try (have : bX < hb2w.heap.size := by omega)); (try (have : bY < hb2w.heap.size := by omega)); (try (have : bZ < hb2w.heap.size := by omega))))
    all_goals go_ret2
    all_goals exact ⟨by rw [H.out]; first | rfl | (simp; done) | (simp [IntKind.wrap_u64, wrap64]; omega), by (repeat' (first | (with_reducible exact Below.refl _ _) | (with_reducible assumption) | (with_reducible refine below_alloc ?_ _) | (with_reducible refine Below.drew ?_) | (with_reducible refine below_drewN ?_ _) | (with_reducible refine below_step (by assumption) ?_) | (with_reducible refine below_later ?_ _) | (with_reducible refine Below.setCell ?_ ?_ _) | go_size))⟩
  · rw [if_neg hr] at hnf
    have H := Lib.hid hnf
    have hq : 1 ≤ (-a) / c := by
      have e := Int.emod_add_mul_ediv (-a) c
      by_cases hq : (-a) / c = 0
      · rw [hq] at e; omega
      · omega
    clear hnf
    go_enter Try.func124, Try.ntmps124
    go_wp2_with (first | (go_at_call 139; refine (rsize_neg (by omega) (by omega) _).mono ?_; rintro e w' ⟨rfl, rfl⟩) | (go_at_call 139; refine (rsize_pos (by omega) (by omega) _).mono ?_; rintro e w' ⟨rfl, rfl⟩) | (go_at_call 141; refine (times_one (by omega) (by omega) _).mono ?_; rintro e hb1w ⟨rfl, hb1⟩; obtain ⟨hb1c, hb1f⟩ := bcell hb1; have hb1s := hb1.size; (try simp only [World.size_alloc] at hb1s); (try (have : w.heap.size < hb1w.heap.size := by omega)); (try (have : w.heap.size + 1 < hb1w.heap.size := by omega)); (try (have : w.heap.size + 1 + 1 < hb1w.heap.size := by omega)); (try (have : w.heap.size + 1 + 1 + 1 < hb1w.heap.size := by omega)); (try (have : bX < hb1w.heap.size := by omega)); (try (have : bY < hb1w.heap.size := by omega)); (try (have : bZ < hb1w.heap.size := by omega))) | (go_at_call 140; refine (over_any (by omega) (by omega) (by omega) (by omega) _).mono ?_; rintro e hb2w ⟨rfl, hb2⟩; obtain ⟨hb2c, hb2f⟩ := bcell hb2; have hb2s := hb2.size; (try simp only [World.size_alloc] at hb2s); (try (have : w.heap.size < hb2w.heap.size := by omega)); (try (have : w.heap.size + 1 < hb2w.heap.size := by omega)); (try (have : w.heap.size + 1 + 1 < hb2w.heap.size := by omega)); (try (have : w.heap.size + 1 + 1 + 1 < hb2w.heap.size := by omega)); (try (have : bX < hb2w.heap.size := by omega)); (try (have : bY < hb2w.heap.size := by omega)); (try (have : bZ < hb2w.heap.size := by omega))))
    all_goals go_ret2
    all_goals exact ⟨by rw [H.out]; first | rfl | (simp; done) | (simp [IntKind.wrap_u64, wrap64]; omega), by (repeat' (first | (with_reducible exact Below.refl _ _) | (with_reducible assumption) | (with_reducible refine below_alloc ?_ _) | (with_reducible refine Below.drew ?_) | (with_reducible refine below_drewN ?_ _) | (with_reducible refine below_step (by assumption) ?_) | (with_reducible refine below_later ?_ _) | (with_reducible refine Below.setCell ?_ ?_ _) | go_size))⟩

theorem rdiv_down {a c : Int} (h0 : -4611686018427387904 ≤ a) (h1 : a ≤ 4611686018427387904) (c0 : 1 ≤ c) (c1 : c ≤ 4611686018427387904) (w : World) :
    Calls Try.prog 106 #[.int .i64 a, .int .i64 c, .int .i64 1] w fun e w' => e = .returned (.tuple #[.int .i64 (a / c), .int .i64 0]) ∧ Below w.heap.size w w' := by
  have hc : ∀ w, Calls Try.prog 124 #[.int .i64 a, .int .i64 1, .int .i64 c, .int .i64 1] w fun e w' => e = .returned (.tuple #[.int .i64 (a / c), .int .i64 0]) ∧ Below w.heap.size w w' := fun w => by
    by_cases hn : a < 0
    · exact rmuldiv_neg hn h0 c0 c1 w
    · exact rmuldiv_pos (by omega) h1 c0 c1 w
  have HC := Lib.hid hc
  clear hc
  go_enter Try.func106, Try.ntmps106
  go_wp2_with ((go_at_call 124; refine (HC.out _).mono ?_; rintro e hb1w ⟨rfl, hb1⟩; obtain ⟨hb1c, hb1f⟩ := bcell hb1; have hb1s := hb1.size; (try simp only [World.size_alloc] at hb1s); (try (have : w.heap.size < hb1w.heap.size := by omega)); (try (have : w.heap.size + 1 < hb1w.heap.size := by omega)); (try (have : w.heap.size + 1 + 1 < hb1w.heap.size := by omega)); (try (have : w.heap.size + 1 + 1 + 1 < hb1w.heap.size := by omega)); (try (have : bX < hb1w.heap.size := by omega)); (try (have : bY < hb1w.heap.size := by omega)); (try (have : bZ < hb1w.heap.size := by omega))))
  go_ret2
  exact ⟨rfl, by (repeat' (first | (with_reducible exact Below.refl _ _) | (with_reducible assumption) | (with_reducible refine below_alloc ?_ _) | (with_reducible refine Below.drew ?_) | (with_reducible refine below_drewN ?_ _) | (with_reducible refine below_step (by assumption) ?_) | (with_reducible refine below_later ?_ _) | (with_reducible refine Below.setCell ?_ ?_ _) | go_size))⟩
theorem rfloor_any {a c : Int} (h0 : -4611686018427387904 ≤ a) (h1 : a ≤ 4611686018427387904) (c0 : 1 ≤ c) (c1 : c ≤ 4611686018427387904) (w : World) :
    Calls Try.prog 71 #[.int .i64 a, .int .i64 c] w fun e w' => e = .returned (.int .i64 (a / c)) ∧ Below w.heap.size w w' := by
  go_enter Try.func71, Try.ntmps71
  go_wp2_with ((go_at_call 106; refine (rdiv_down h0 h1 c0 c1 _).mono ?_; rintro e hb1w ⟨rfl, hb1⟩; obtain ⟨hb1c, hb1f⟩ := bcell hb1; have hb1s := hb1.size; (try simp only [World.size_alloc] at hb1s); (try (have : w.heap.size < hb1w.heap.size := by omega)); (try (have : w.heap.size + 1 < hb1w.heap.size := by omega)); (try (have : w.heap.size + 1 + 1 < hb1w.heap.size := by omega)); (try (have : w.heap.size + 1 + 1 + 1 < hb1w.heap.size := by omega)); (try (have : bX < hb1w.heap.size := by omega)); (try (have : bY < hb1w.heap.size := by omega)); (try (have : bZ < hb1w.heap.size := by omega))))
  go_ret
  exact ⟨rfl, by (repeat' (first | (with_reducible exact Below.refl _ _) | (with_reducible assumption) | (with_reducible refine below_alloc ?_ _) | (with_reducible refine Below.drew ?_) | (with_reducible refine below_drewN ?_ _) | (with_reducible refine below_step (by assumption) ?_) | (with_reducible refine below_later ?_ _) | (with_reducible refine Below.setCell ?_ ?_ _) | go_size))⟩

end Go.Proofs.Ytohdbneaganfbaa
