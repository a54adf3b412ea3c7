/- Contracts of arith's rounded division by a positive number, and of the library's functions below it. -/
import Derived.Test.YtohdbneaganfbaaLib
import Derived.Shelf.Bits.Mul64
namespace Go.Proofs.Ytohdbneaganfbaa
set_option linter.unusedVariables false
set_option linter.unusedSimpArgs false
open Go.RowKit Go.ChangeShapes Go.WideShapes Go.ChangeAt Go.Proofs.Mul64

set_option maxHeartbeats 1000000 in
theorem mul64_any (x y : Nat) (hx : x < 18446744073709551616) (hy : y < 18446744073709551616) (w : World) :
    Calls Try.prog 135 #[.int .u64 x, .int .u64 y] w fun e w' => e = .returned (.tuple #[.int .u64 ((x * y / 18446744073709551616 : Nat) : Int), .int .u64 ((x * y % 18446744073709551616 : Nat) : Int)]) ∧ w = w' := by
  obtain ⟨bd, bt, bw, hhi⟩ := Lib.mul64_hi x y hx hy
  have ba := Lib.half_mul_le (a := x / 4294967296) (b := y / 4294967296) (by omega) (by omega)
  have bb := Lib.half_mul_le (a := x / 4294967296) (b := y % 4294967296) (by omega) (by omega)
  have bc := Lib.half_mul_le (a := x % 4294967296) (b := y / 4294967296) (by omega) (by omega)
  have ba' : x / 4294967296 * (y / 4294967296) < 18446744073709551616 := by omega
  have bb' : x / 4294967296 * (y % 4294967296) < 18446744073709551616 := by omega
  have bc' : x % 4294967296 * (y / 4294967296) < 18446744073709551616 := by omega
  have bh1 : x / 4294967296 * (y / 4294967296) + (x / 4294967296 * (y % 4294967296) + x % 4294967296 * (y % 4294967296) / 4294967296) / 4294967296 < 18446744073709551616 := by omega
  have bh : x / 4294967296 * (y / 4294967296) + (x / 4294967296 * (y % 4294967296) + x % 4294967296 * (y % 4294967296) / 4294967296) / 4294967296 + ((x / 4294967296 * (y % 4294967296) + x % 4294967296 * (y % 4294967296) / 4294967296) % 4294967296 + x % 4294967296 * (y / 4294967296)) / 4294967296 < 18446744073709551616 := by omega
  go_enter Try.func135, Try.ntmps135
  go_wp2
  simp only [Mul64.maskN x hx, Mul64.maskN y hy, Mul64.divN, Mul64.mulN, Mul64.addN, Mul64.wrapN _ bd, Mul64.wrapN _ bb', Mul64.wrapN _ bt, Mul64.maskN _ bt, Mul64.wrapN _ bc', Mul64.wrapN _ bw, Mul64.wrapN _ ba', Mul64.wrapN _ bh1, Mul64.wrapN _ bh, Mul64.wrapM (x * y)]
  rw [hhi]
  go_ret2
  exact ⟨rfl, rfl⟩

/-- Times one. -/
theorem mul64_one {x : Int} (h0 : 0 ≤ x) (h1 : x ≤ 4611686018427387904) (w : World) :
    Calls Try.prog 135 #[.int .u64 x, .int .u64 1] w fun e w' => e = .returned (.tuple #[.int .u64 0, .int .u64 x]) ∧ w = w' := by
  obtain ⟨n, rfl⟩ := Int.eq_ofNat_of_zero_le h0
  have h := mul64_any n 1 (by omega) (by omega) w
  rw [show n * 1 / 18446744073709551616 = 0 by omega, show n * 1 % 18446744073709551616 = n by omega] at h
  exact h

theorem mag_pos {a : Int} (h0 : 0 ≤ a) (h1 : a ≤ 4611686018427387904) (w : World) :
    Calls Try.prog 136 #[.int .i64 a] w fun e w' => e = .returned (.int .u64 a) ∧ w = w' := by
  have hn : ¬ a < 0 := by omega
  go_enter Try.func136, Try.ntmps136
  go_wp2
  go_ret
  exact ⟨by first | rfl | (rw [IntKind.wrap_u64]; exact ret_int (by omega)), rfl⟩
theorem mag_neg {a : Int} (h0 : a < 0) (h1 : -4611686018427387904 ≤ a) (w : World) :
    Calls Try.prog 136 #[.int .i64 a] w fun e w' => e = .returned (.int .u64 (-a)) ∧ w = w' := by
  go_enter Try.func136, Try.ntmps136
  go_wp2
  go_ret
  exact ⟨by first | rfl | (refine ret_int ?_; first | omega | (simp only [IntKind.wrap_u64]; omega)), rfl⟩

theorem div64_low {lo y : Int} (h0 : 0 ≤ lo) (h1 : lo ≤ 4611686018427387904) (y0 : 1 ≤ y) (y1 : y ≤ 4611686018427387904) (w : World) :
    Calls Try.prog 137 #[.int .u64 0, .int .u64 lo, .int .u64 y] w fun e w' => e = .returned (.tuple #[.int .u64 (lo / y), .int .u64 (lo % y)]) ∧ Below w.heap.size w w' := by
  have hy : (y == 0) = false := by simp; omega
  go_enter Try.func137, Try.ntmps137
  go_wp2
  go_quiet (fail)
  go_wp2
  go_ret2
  exact ⟨rfl, by (repeat' (first | (with_reducible exact Below.refl _ _) | (with_reducible assumption) | (with_reducible refine below_alloc ?_ _) | (with_reducible refine Below.drew ?_) | (with_reducible refine below_drewN ?_ _) | (with_reducible refine below_step (by assumption) ?_) | (with_reducible refine below_later ?_ _) | (with_reducible refine Below.setCell ?_ ?_ _) | go_size))⟩

theorem rounded_down_pos (r c : Int) (w : World) : Calls Try.prog 138 #[.int .u64 r, .int .u64 c, .bool false, .int .i64 1] w fun e w' => e = .returned (.bool false) ∧ w = w' := by
  go_enter Try.func138, Try.ntmps138
  go_wp2
  go_ret
  exact ⟨rfl, rfl⟩
theorem rounded_down_neg {r : Int} (c : Int) (w : World) : Calls Try.prog 138 #[.int .u64 r, .int .u64 c, .bool true, .int .i64 1] w fun e w' => e = .returned (.bool (decide (0 < r))) ∧ w = w' := by
  go_enter Try.func138, Try.ntmps138
  go_wp2
  go_ret
  exact ⟨rfl, rfl⟩
theorem rounded_up_pos {r : Int} (c : Int) (w : World) : Calls Try.prog 138 #[.int .u64 r, .int .u64 c, .bool false, .int .i64 2] w fun e w' => e = .returned (.bool (decide (0 < r))) ∧ w = w' := by
  go_enter Try.func138, Try.ntmps138
  go_wp2
  go_ret
  exact ⟨rfl, rfl⟩

theorem div_bd {a c : Int} (h0 : 0 ≤ a) (hc : 1 ≤ c) : 0 ≤ a / c ∧ a / c ≤ a ∧ 0 ≤ a % c ∧ a % c < c :=
  ⟨Int.ediv_nonneg h0 (by omega), Int.ediv_le_self _ h0, Int.emod_nonneg _ (by omega), Int.emod_lt_of_pos _ (by omega)⟩
/-- The floor of a negative quotient. -/
theorem neg_floor {a c : Int} (hc : 1 ≤ c) : a / c = if 0 < (-a) % c then -((-a) / c) - 1 else -((-a) / c) := by
  have e := Int.emod_add_mul_ediv (-a) c
  have h0 := Int.emod_nonneg (-a) (show c ≠ 0 by omega)
  have h1 := Int.emod_lt_of_pos (-a) (show 0 < c by omega)
  generalize (-a) / c = q at *
  generalize (-a) % c = r at *
  have ha : a = c * (-q) + (-r) := by rw [Int.mul_neg]; omega
  split
  · rename_i hr
    rw [ha, show c * -q + -r = c * (-q - 1) + (c - r) by rw [Int.mul_sub]; omega, Int.mul_add_ediv_left _ _ (by omega), Int.ediv_eq_zero_of_lt (by omega) (by omega)]
    omega
  · obtain rfl : r = 0 := by omega
    rw [ha, Int.neg_zero, Int.add_zero, Int.mul_ediv_cancel_left _ (by omega)]
theorem up_div {a c : Int} (hc : 1 ≤ c) : (a + (c - 1)) / c = if 0 < a % c then a / c + 1 else a / c := by
  have e := Int.emod_add_mul_ediv a c
  have h0 := Int.emod_nonneg a (show c ≠ 0 by omega)
  have h1 := Int.emod_lt_of_pos a (show 0 < c by omega)
  generalize a / c = q at *
  generalize a % c = r at *
  split
  · rw [show a + (c - 1) = c * (q + 1) + (r - 1) by rw [Int.mul_add]; omega, Int.mul_add_ediv_left _ _ (by omega), Int.ediv_eq_zero_of_lt (by omega) (by omega)]
    omega
  · rw [show a + (c - 1) = c * q + (r + c - 1) by omega, Int.mul_add_ediv_left _ _ (by omega), Int.ediv_eq_zero_of_lt (by omega) (by omega)]
    omega

set_option maxRecDepth 100000 in
theorem muldiv_pos {a c : Int} (h0 : 0 ≤ a) (h1 : a ≤ 4611686018427387904) (c0 : 1 ≤ c) (c1 : c ≤ 4611686018427387904) (w : World) :
    Calls Try.prog 123 #[.int .i64 a, .int .i64 1, .int .i64 c, .int .i64 1] w fun e w' => e = .returned (.tuple #[.int .i64 (a / c), .int .i64 0]) ∧ Below w.heap.size w w' := by
  have hn : ¬ a < 0 := by omega
  have hcn : ¬ c < 0 := by omega
  have hc0 : (c == 0) = false := by simp; omega
  have ⟨d1, d2, d3, d4⟩ := div_bd h0 c0
  go_enter Try.func123, Try.ntmps123
  go_wp2_with (first | (go_at_call 136; refine (mag_pos (by omega) (by omega) _).mono ?_; rintro e w' ⟨rfl, rfl⟩) | (go_at_call 135; refine (mul64_one (by omega) (by omega) _).mono ?_; rintro e w' ⟨rfl, rfl⟩) | (go_at_call 137; refine (div64_low (by omega) (by omega) (by omega) (by omega) _).mono ?_; rintro e hb1w ⟨rfl, hb1⟩; obtain ⟨hb1c, hb1f⟩ := bcell hb1; have hb1s := hb1.size; (try simp only [World.size_alloc] at hb1s); (try (have : w.heap.size < hb1w.heap.size := by omega)); (try (have : w.heap.size + 1 < hb1w.heap.size := by omega)); (try (have : w.heap.size + 1 + 1 < hb1w.heap.size := by omega)); (try (have : w.heap.size + 1 + 1 + 1 < hb1w.heap.size := by omega)); (try (have : bX < hb1w.heap.size := by omega)); (try (have : bY < hb1w.heap.size := by omega)); (try (have : bZ < hb1w.heap.size := by omega))) | (go_at_call 138; refine (rounded_down_pos _ _ _).mono ?_; rintro e w' ⟨rfl, rfl⟩))
  go_ret2
  exact ⟨rfl, by (repeat' (first | (with_reducible exact Below.refl _ _) | (with_reducible assumption) | (with_reducible refine below_alloc ?_ _) | (with_reducible refine Below.drew ?_) | (with_reducible refine below_drewN ?_ _) | (with_reducible refine below_step (by assumption) ?_) | (with_reducible refine below_later ?_ _) | (with_reducible refine Below.setCell ?_ ?_ _) | go_size))⟩

set_option maxRecDepth 100000 in
theorem muldiv_neg {a c : Int} (h0 : a < 0) (h1 : -4611686018427387904 ≤ a) (c0 : 1 ≤ c) (c1 : c ≤ 4611686018427387904) (w : World) :
    Calls Try.prog 123 #[.int .i64 a, .int .i64 1, .int .i64 c, .int .i64 1] w fun e w' => e = .returned (.tuple #[.int .i64 (a / c), .int .i64 0]) ∧ Below w.heap.size w w' := by
  have hcn : ¬ c < 0 := by omega
  have hc0 : (c == 0) = false := by simp; omega
  have ⟨d1, d2, d3, d4⟩ := div_bd (show 0 ≤ -a by omega) c0
  have hnf := neg_floor (a := a) c0
  by_cases hr : 0 < (-a) % c
  · rw [if_pos hr] at hnf
    have H := Lib.hid hnf
    clear hnf
    go_enter Try.func123, Try.ntmps123
    go_wp2_with (first | (go_at_call 136; refine (mag_neg (by omega) (by omega) _).mono ?_; rintro e w' ⟨rfl, rfl⟩) | (go_at_call 136; refine (mag_pos (by omega) (by omega) _).mono ?_; rintro e w' ⟨rfl, rfl⟩) | (go_at_call 135; refine (mul64_one (by omega) (by omega) _).mono ?_; rintro e w' ⟨rfl, rfl⟩) | (go_at_call 137; refine (div64_low (by omega) (by omega) (by omega) (by omega) _).mono ?_; rintro e hb1w ⟨rfl, hb1⟩; obtain ⟨hb1c, hb1f⟩ := bcell hb1; have hb1s := hb1.size; (try simp only [World.size_alloc] at hb1s); (try (have : w.heap.size < hb1w.heap.size := by omega)); (try (have : w.heap.size + 1 < hb1w.heap.size := by omega)); (try (have : w.heap.size + 1 + 1 < hb1w.heap.size := by omega)); (try (have : w.heap.size + 1 + 1 + 1 < hb1w.heap.size := by omega)); (try (have : bX < hb1w.heap.size := by omega)); (try (have : bY < hb1w.heap.size := by omega)); (try (have : bZ < hb1w.heap.size := by omega))) | (go_at_call 138; refine (rounded_down_neg _ _).mono ?_; rintro e w' ⟨rfl, rfl⟩))
    go_ret2
    exact ⟨by rw [H.out]; first | rfl | (simp; done) | (simp [IntKind.wrap_u64]; omega), by (repeat' (first | (with_reducible exact Below.refl _ _) | (with_reducible assumption) | (with_reducible refine below_alloc ?_ _) | (with_reducible refine Below.drew ?_) | (with_reducible refine below_drewN ?_ _) | (with_reducible refine below_step (by assumption) ?_) | (with_reducible refine below_later ?_ _) | (with_reducible refine Below.setCell ?_ ?_ _) | go_size))⟩
  · rw [if_neg hr] at hnf
    have H := Lib.hid hnf
    have hq : 1 ≤ (-a) / c := by
      have e := Int.emod_add_mul_ediv (-a) c
      by_cases hq : (-a) / c = 0
      · rw [hq] at e; omega
      · omega
    clear hnf
    go_enter Try.func123, Try.ntmps123
    go_wp2_with (first | (go_at_call 136; refine (mag_neg (by omega) (by omega) _).mono ?_; rintro e w' ⟨rfl, rfl⟩) | (go_at_call 136; refine (mag_pos (by omega) (by omega) _).mono ?_; rintro e w' ⟨rfl, rfl⟩) | (go_at_call 135; refine (mul64_one (by omega) (by omega) _).mono ?_; rintro e w' ⟨rfl, rfl⟩) | (go_at_call 137; refine (div64_low (by omega) (by omega) (by omega) (by omega) _).mono ?_; rintro e hb1w ⟨rfl, hb1⟩; obtain ⟨hb1c, hb1f⟩ := bcell hb1; have hb1s := hb1.size; (try simp only [World.size_alloc] at hb1s); (try (have : w.heap.size < hb1w.heap.size := by omega)); (try (have : w.heap.size + 1 < hb1w.heap.size := by omega)); (try (have : w.heap.size + 1 + 1 < hb1w.heap.size := by omega)); (try (have : w.heap.size + 1 + 1 + 1 < hb1w.heap.size := by omega)); (try (have : bX < hb1w.heap.size := by omega)); (try (have : bY < hb1w.heap.size := by omega)); (try (have : bZ < hb1w.heap.size := by omega))) | (go_at_call 138; refine (rounded_down_neg _ _).mono ?_; rintro e w' ⟨rfl, rfl⟩))
    go_ret2
    exact ⟨by rw [H.out]; first | rfl | (simp; done) | (simp; omega), by (repeat' (first | (with_reducible exact Below.refl _ _) | (with_reducible assumption) | (with_reducible refine below_alloc ?_ _) | (with_reducible refine Below.drew ?_) | (with_reducible refine below_drewN ?_ _) | (with_reducible refine below_step (by assumption) ?_) | (with_reducible refine below_later ?_ _) | (with_reducible refine Below.setCell ?_ ?_ _) | go_size))⟩

set_option maxRecDepth 100000 in
theorem muldiv_up {a c : Int} (h0 : 0 ≤ a) (h1 : a ≤ 4611686018427387904) (c0 : 1 ≤ c) (c1 : c ≤ 4611686018427387904) (w : World) :
    Calls Try.prog 123 #[.int .i64 a, .int .i64 1, .int .i64 c, .int .i64 2] w fun e w' => e = .returned (.tuple #[.int .i64 ((a + (c - 1)) / c), .int .i64 0]) ∧ Below w.heap.size w w' := by
  have hn : ¬ a < 0 := by omega
  have hcn : ¬ c < 0 := by omega
  have hc0 : (c == 0) = false := by simp; omega
  have ⟨d1, d2, d3, d4⟩ := div_bd h0 c0
  have hu := up_div (a := a) c0
  by_cases hr : 0 < a % c
  · rw [if_pos hr] at hu
    have H := Lib.hid hu
    clear hu
    go_enter Try.func123, Try.ntmps123
    go_wp2_with (first | (go_at_call 136; refine (mag_pos (by omega) (by omega) _).mono ?_; rintro e w' ⟨rfl, rfl⟩) | (go_at_call 135; refine (mul64_one (by omega) (by omega) _).mono ?_; rintro e w' ⟨rfl, rfl⟩) | (go_at_call 137; refine (div64_low (by omega) (by omega) (by omega) (by omega) _).mono ?_; rintro e hb1w ⟨rfl, hb1⟩; obtain ⟨hb1c, hb1f⟩ := bcell hb1; have hb1s := hb1.size; (try simp only [World.size_alloc] at hb1s); (try (have : w.heap.size < hb1w.heap.size := by omega)); (try (have : w.heap.size + 1 < hb1w.heap.size := by omega)); (try (have : w.heap.size + 1 + 1 < hb1w.heap.size := by omega)); (try (have : w.heap.size + 1 + 1 + 1 < hb1w.heap.size := by omega)); (try (have : bX < hb1w.heap.size := by omega)); (try (have : bY < hb1w.heap.size := by omega)); (try (have : bZ < hb1w.heap.size := by omega))) | (go_at_call 138; refine (rounded_up_pos _ _).mono ?_; rintro e w' ⟨rfl, rfl⟩))
    go_ret2
    exact ⟨by rw [H.out]; rfl, by (repeat' (first | (with_reducible exact Below.refl _ _) | (with_reducible assumption) | (with_reducible refine below_alloc ?_ _) | (with_reducible refine Below.drew ?_) | (with_reducible refine below_drewN ?_ _) | (with_reducible refine below_step (by assumption) ?_) | (with_reducible refine below_later ?_ _) | (with_reducible refine Below.setCell ?_ ?_ _) | go_size))⟩
  · rw [if_neg hr] at hu
    have H := Lib.hid hu
    clear hu
    go_enter Try.func123, Try.ntmps123
    go_wp2_with (first | (go_at_call 136; refine (mag_pos (by omega) (by omega) _).mono ?_; rintro e w' ⟨rfl, rfl⟩) | (go_at_call 135; refine (mul64_one (by omega) (by omega) _).mono ?_; rintro e w' ⟨rfl, rfl⟩) | (go_at_call 137; refine (div64_low (by omega) (by omega) (by omega) (by omega) _).mono ?_; rintro e hb1w ⟨rfl, hb1⟩; obtain ⟨hb1c, hb1f⟩ := bcell hb1; have hb1s := hb1.size; (try simp only [World.size_alloc] at hb1s); (try (have : w.heap.size < hb1w.heap.size := by omega)); (try (have : w.heap.size + 1 < hb1w.heap.size := by omega)); (try (have : w.heap.size + 1 + 1 < hb1w.heap.size := by omega)); (try (have : w.heap.size + 1 + 1 + 1 < hb1w.heap.size := by omega)); (try (have : bX < hb1w.heap.size := by omega)); (try (have : bY < hb1w.heap.size := by omega)); (try (have : bZ < hb1w.heap.size := by omega))) | (go_at_call 138; refine (rounded_up_pos _ _).mono ?_; rintro e w' ⟨rfl, rfl⟩))
    go_ret2
    exact ⟨by rw [H.out]; rfl, by (repeat' (first | (with_reducible exact Below.refl _ _) | (with_reducible assumption) | (with_reducible refine below_alloc ?_ _) | (with_reducible refine Below.drew ?_) | (with_reducible refine below_drewN ?_ _) | (with_reducible refine below_step (by assumption) ?_) | (with_reducible refine below_later ?_ _) | (with_reducible refine Below.setCell ?_ ?_ _) | go_size))⟩

theorem div_down {a c : Int} (h0 : -4611686018427387904 ≤ a) (h1 : a ≤ 4611686018427387904) (c0 : 1 ≤ c) (c1 : c ≤ 4611686018427387904) (w : World) :
    Calls Try.prog 105 #[.int .i64 a, .int .i64 c, .int .i64 1] w fun e w' => e = .returned (.tuple #[.int .i64 (a / c), .int .i64 0]) ∧ Below w.heap.size w w' := by
  have hc : ∀ w, Calls Try.prog 123 #[.int .i64 a, .int .i64 1, .int .i64 c, .int .i64 1] w fun e w' => e = .returned (.tuple #[.int .i64 (a / c), .int .i64 0]) ∧ Below w.heap.size w w' := fun w => by
    by_cases hn : a < 0
    · exact muldiv_neg hn h0 c0 c1 w
    · exact muldiv_pos (by omega) h1 c0 c1 w
  have HC := Lib.hid hc
  clear hc
  go_enter Try.func105, Try.ntmps105
  go_wp2_with ((go_at_call 123; refine (HC.out _).mono ?_; rintro e hb1w ⟨rfl, hb1⟩; obtain ⟨hb1c, hb1f⟩ := bcell hb1; have hb1s := hb1.size; (try simp only [World.size_alloc] at hb1s); (try (have : w.heap.size < hb1w.heap.size := by omega)); (try (have : w.heap.size + 1 < hb1w.heap.size := by omega)); (try (have : w.heap.size + 1 + 1 < hb1w.heap.size := by omega)); (try (have : w.heap.size + 1 + 1 + 1 < hb1w.heap.size := by omega)); (try (have : bX < hb1w.heap.size := by omega)); (try (have : bY < hb1w.heap.size := by omega)); (try (have : bZ < hb1w.heap.size := by omega))))
  go_ret2
  exact ⟨rfl, by (repeat' (first | (with_reducible exact Below.refl _ _) | (with_reducible assumption) | (with_reducible refine below_alloc ?_ _) | (with_reducible refine Below.drew ?_) | (with_reducible refine below_drewN ?_ _) | (with_reducible refine below_step (by assumption) ?_) | (with_reducible refine below_later ?_ _) | (with_reducible refine Below.setCell ?_ ?_ _) | go_size))⟩
theorem div_up {a c : Int} (h0 : 0 ≤ a) (h1 : a ≤ 4611686018427387904) (c0 : 1 ≤ c) (c1 : c ≤ 4611686018427387904) (w : World) :
    Calls Try.prog 105 #[.int .i64 a, .int .i64 c, .int .i64 2] w fun e w' => e = .returned (.tuple #[.int .i64 ((a + (c - 1)) / c), .int .i64 0]) ∧ Below w.heap.size w w' := by
  go_enter Try.func105, Try.ntmps105
  go_wp2_with ((go_at_call 123; refine (muldiv_up h0 h1 c0 c1 _).mono ?_; rintro e hb1w ⟨rfl, hb1⟩; obtain ⟨hb1c, hb1f⟩ := bcell hb1; have hb1s := hb1.size; (try simp only [World.size_alloc] at hb1s); (try (have : w.heap.size < hb1w.heap.size := by omega)); (try (have : w.heap.size + 1 < hb1w.heap.size := by omega)); (try (have : w.heap.size + 1 + 1 < hb1w.heap.size := by omega)); (try (have : w.heap.size + 1 + 1 + 1 < hb1w.heap.size := by omega)); (try (have : bX < hb1w.heap.size := by omega)); (try (have : bY < hb1w.heap.size := by omega)); (try (have : bZ < hb1w.heap.size := by omega))))
  go_ret2
  exact ⟨rfl, by (repeat' (first | (with_reducible exact Below.refl _ _) | (with_reducible assumption) | (with_reducible refine below_alloc ?_ _) | (with_reducible refine Below.drew ?_) | (with_reducible refine below_drewN ?_ _) | (with_reducible refine below_step (by assumption) ?_) | (with_reducible refine below_later ?_ _) | (with_reducible refine Below.setCell ?_ ?_ _) | go_size))⟩
theorem floor_any {a c : Int} (h0 : -4611686018427387904 ≤ a) (h1 : a ≤ 4611686018427387904) (c0 : 1 ≤ c) (c1 : c ≤ 4611686018427387904) (w : World) :
    Calls Try.prog 93 #[.int .i64 a, .int .i64 c] w fun e w' => e = .returned (.int .i64 (a / c)) ∧ Below w.heap.size w w' := by
  go_enter Try.func93, Try.ntmps93
  go_wp2_with ((go_at_call 105; refine (div_down h0 h1 c0 c1 _).mono ?_; rintro e hb1w ⟨rfl, hb1⟩; obtain ⟨hb1c, hb1f⟩ := bcell hb1; have hb1s := hb1.size; (try simp only [World.size_alloc] at hb1s); (try (have : w.heap.size < hb1w.heap.size := by omega)); (try (have : w.heap.size + 1 < hb1w.heap.size := by omega)); (try (have : w.heap.size + 1 + 1 < hb1w.heap.size := by omega)); (try (have : w.heap.size + 1 + 1 + 1 < hb1w.heap.size := by omega)); (try (have : bX < hb1w.heap.size := by omega)); (try (have : bY < hb1w.heap.size := by omega)); (try (have : bZ < hb1w.heap.size := by omega))))
  go_ret
  exact ⟨rfl, by (repeat' (first | (with_reducible exact Below.refl _ _) | (with_reducible assumption) | (with_reducible refine below_alloc ?_ _) | (with_reducible refine Below.drew ?_) | (with_reducible refine below_drewN ?_ _) | (with_reducible refine below_step (by assumption) ?_) | (with_reducible refine below_later ?_ _) | (with_reducible refine Below.setCell ?_ ?_ _) | go_size))⟩

end Go.Proofs.Ytohdbneaganfbaa
