/- Contracts of slices.Index and Contains, of engines and fires (layer 23), and their references. Printed by a program. -/
import Derived.Test.YtohdbneaganfbaaFireP
import Derived.Test.YtohdbneaganfbaaSlices
import Derived.Deep.LoopGhost
namespace Go.Proofs.Ytohdbneaganfbaa
set_option linter.unusedVariables false
set_option linter.unusedSimpArgs false
open Go.RowKit Go.ChangeShapes Go.WideShapes Go.ChangeAt

theorem any_mem {xs : List Int} {x : Int} : xs.any (fun y => decide (y = x)) = decide (x ∈ xs) := by
  rw [Bool.eq_iff_iff, List.any_eq_true, decide_eq_true_eq]
  constructor
  · rintro ⟨y, hy, he⟩
    rw [decide_eq_true_eq] at he
    exact he ▸ hy
  · intro h
    exact ⟨x, h, by simp⟩
set_option maxHeartbeats 1000000 in
theorem sIndex_any (r : Option Addr) (cap : Nat) (xs : List Int) (x : Int) (w : World) (hx : IsInts w r cap .i64 xs) :
    Calls Try.prog 118 #[.slice r xs.length cap, .int .i64 x] w fun e w' => e = .returned (.int .i64 (idxI (fun y => decide (y = x)) xs)) ∧ Below w.heap.size w w' := by
  by_cases hne : xs = []
  · subst hne
    have H : Hid (idxI (fun y => decide (y = x)) [] = -1) := Lib.hid (idxI_miss (fun t h => absurd h (by simp)))
    clear hx
    go_enter Try.func118, Try.ntmps118
    go_wp2
    go_rounds 1
    go_ret
    exact ⟨ret_int H.out.symm, by (repeat' (first | (with_reducible exact Below.refl _ _) | (with_reducible assumption) | (with_reducible refine below_alloc ?_ _) | (with_reducible refine Below.drew ?_) | (with_reducible refine below_drewN ?_ _) | (with_reducible refine below_step (by assumption) ?_) | (with_reducible refine below_later ?_ _) | (with_reducible refine Below.setCell ?_ ?_ _) | go_size))⟩
  · obtain ⟨bX, off, rfl, hb, hc⟩ := hx.cells hne
    have hmax := Nat.le_trans hx.le hx.max
    unfold maxLen at hmax
    have HC := Lib.hid hc
    have HM : Hid ((∀ t, t < xs.length → xs.getD t 0 ≠ x) → idxI (fun y => decide (y = x)) xs = -1) := Lib.hid (fun h => idxI_miss (fun t ht => by simpa using h t ht))
    have HH : Hid (∀ k, k < xs.length → (∀ t, t < k → xs.getD t 0 ≠ x) → xs.getD k 0 = x → idxI (fun y => decide (y = x)) xs = (k : Nat)) := Lib.hid (fun k hk h0 h1 => idxI_hit hk (fun t ht => by simpa using h0 t ht) (by simpa using h1))
    clear hx hc hne
    generalize idxI (fun y => decide (y = x)) xs = res at *
    generalize hn : xs.length = n at *
    have HN := Lib.hid hn
    clear hn
    go_enter Try.func118, Try.ntmps118
    go_wp2
    go_loopg [8] n (fun kx s8 wr => ∃ (k : Nat) (e : Later w), s8 = .int .i64 k ∧ k ≤ n ∧ n - k ≤ kx ∧ wr = e.w ∧ Hid (∀ t, t < k → xs.getD t 0 ≠ x))
    case atStart => exact ⟨0, ⟨_, Below.refl _ _⟩, rfl, by omega, by omega, rfl, Lib.hid (fun t h => absurd h (Nat.not_lt_zero _))⟩
    case round =>
      obtain ⟨k, e, rfl, hk, hkx, rfl, HQ⟩ := hrel
      by_cases hlt : k < n
      · have hk1 : (0 : Int) ≤ (k : Int) := by omega
        have hk2 : (k : Int) < n := by omega
        have hc1 : e.w.cell? ⟨bX, off + k, none⟩ = some (.int .i64 (xs.getD k 0)) := by
          rw [Later.cell e hb]
          exact HC.out k (by omega)
        have HHK := Lib.hid (HH.out k hlt HQ.out)
        have HG : Hid (xs.getD k 0 ≠ x → ∀ t, t < k + 1 → xs.getD t 0 ≠ x) := Lib.hid (fun h t ht => by
          by_cases e : t = k
          · subst e; exact h
          · exact HQ.out t (by omega))
        generalize xs.getD k 0 = y at *
        by_cases hy : x = y
        · have H := Lib.hid (HHK.out hy.symm)
          subst hy
          go_wp2
          (try go_quiet (fail)); (try go_wp2)
          go_ret
          exact ⟨ret_int H.out.symm, by (repeat' (first | (with_reducible exact Below.refl _ _) | (with_reducible assumption) | (with_reducible refine below_alloc ?_ _) | (with_reducible refine Below.drew ?_) | (with_reducible refine below_drewN ?_ _) | (with_reducible refine below_step (by assumption) ?_) | (with_reducible refine below_later ?_ _) | (with_reducible refine Below.setCell ?_ ?_ _) | go_size))⟩
        · have H := Lib.hid (HG.out (fun h => hy h.symm))
          have hxy : (x == y) = false := by simpa using hy
          go_wp2
          (try go_quiet (fail)); (try go_wp2)
          go_roundg (n - (k + 1))
          case measure => omega
          case rel => first | exact ⟨k + 1, e, by go_num, by omega, by omega, rfl, H⟩ | exact ⟨k + 1, ⟨_, below_drewN e.h _⟩, by go_num, by omega, by omega, rfl, H⟩
      · obtain rfl : k = n := by omega
        have H := Lib.hid (HM.out (fun t ht => HQ.out t (by omega)))
        go_wp2
        go_ret
        exact ⟨ret_int H.out.symm, by (repeat' (first | (with_reducible exact Below.refl _ _) | (with_reducible assumption) | (with_reducible refine below_alloc ?_ _) | (with_reducible refine Below.drew ?_) | (with_reducible refine below_drewN ?_ _) | (with_reducible refine below_step (by assumption) ?_) | (with_reducible refine below_later ?_ _) | (with_reducible refine Below.setCell ?_ ?_ _) | go_size))⟩
theorem sContains_any (r : Option Addr) (cap : Nat) (xs : List Int) (x : Int) (w : World) (hx : IsInts w r cap .i64 xs) :
    Calls Try.prog 89 #[.slice r xs.length cap, .int .i64 x] w fun e w' => e = .returned (.bool (decide (x ∈ xs))) ∧ Below w.heap.size w w' := by
  have H : Hid (decide (0 ≤ idxI (fun y => decide (y = x)) xs) = decide (x ∈ xs)) := Lib.hid ((idxI_any (fun y => decide (y = x)) xs).trans any_mem)
  have HI := Lib.hid (fun w hx => sIndex_any r cap xs x w hx)
  have HX : Hid (∀ w', Below w.heap.size w w' → IsInts w' r cap .i64 xs) := Lib.hid (fun _ h => hx.later h)
  clear hx
  generalize idxI (fun y => decide (y = x)) xs = v at *
  go_enter Try.func89, Try.ntmps89
  go_wp2_with ((go_at_call 118; refine (HI.out _ (HX.out _ (by (repeat' (first | (with_reducible exact Below.refl _ _) | (with_reducible assumption) | (with_reducible refine below_alloc ?_ _) | (with_reducible refine Below.drew ?_) | (with_reducible refine below_drewN ?_ _) | (with_reducible refine below_step (by assumption) ?_) | (with_reducible refine below_later ?_ _) | (with_reducible refine Below.setCell ?_ ?_ _) | go_size))))).mono ?_; rintro e hb1w ⟨rfl, hb1⟩; obtain ⟨hb1c, hb1f⟩ := bcell hb1; have hb1s := hb1.size; (try simp only [World.size_alloc] at hb1s); (try (have : w.heap.size < hb1w.heap.size := by omega)); (try (have : w.heap.size + 1 < hb1w.heap.size := by omega)); (try (have : w.heap.size + 1 + 1 < hb1w.heap.size := by omega)); (try (have : w.heap.size + 1 + 1 + 1 < hb1w.heap.size := by omega)); (try (have : bX < hb1w.heap.size := by omega)); (try (have : bY < hb1w.heap.size := by omega)); (try (have : bZ < hb1w.heap.size := by omega))))
  go_ret
  exact ⟨ret_bool H.out, by (repeat' (first | (with_reducible exact Below.refl _ _) | (with_reducible assumption) | (with_reducible refine below_alloc ?_ _) | (with_reducible refine Below.drew ?_) | (with_reducible refine below_drewN ?_ _) | (with_reducible refine below_step (by assumption) ?_) | (with_reducible refine below_later ?_ _) | (with_reducible refine Below.setCell ?_ ?_ _) | go_size))⟩
theorem eangle_any (x : Int) (w : World) : Calls Try.prog 117 #[.int .i64 x] w fun e w' => e = .returned (.bool (inB x 0 46079)) ∧ w = w' := by
  go_enter Try.func117, Try.ntmps117
  go_wp2
  all_goals go_ret
  all_goals exact ⟨ret_bool (by grind [inB]), rfl⟩
theorem ewithin_any (x lo hi : Int) (w : World) : Calls Try.prog 90 #[.int .i64 x, .int .i64 lo, .int .i64 hi] w fun e w' => e = .returned (.bool (inB x lo hi)) ∧ w = w' := by
  go_enter Try.func90, Try.ntmps90
  go_wp2
  all_goals go_ret
  all_goals exact ⟨ret_bool (by grind [inB]), rfl⟩
theorem r23angle_any (x : Int) (w : World) : Calls Try.prog 119 #[.int .i64 x] w fun e w' => e = .returned (.bool (inB x 0 46079)) ∧ w = w' := by
  go_enter Try.func119, Try.ntmps119
  go_wp2
  all_goals go_ret
  all_goals exact ⟨ret_bool (by grind [inB]), rfl⟩
theorem r23pulse_any (x : Int) (w : World) : Calls Try.prog 121 #[.int .i64 x] w fun e w' => e = .returned (.bool (inB x 200 20000)) ∧ w = w' := by
  go_enter Try.func121, Try.ntmps121
  go_wp2
  all_goals go_ret
  all_goals exact ⟨ret_bool (by grind [inB]), rfl⟩
set_option maxRecDepth 100000 in
set_option maxHeartbeats 2000000 in
theorem evalid_any (r : Option Addr) (cap : Nat) (xs : List Int) (f : Int) (w : World) (hx : IsInts w r cap .i64 xs) :
    Calls Try.prog 88 #[.agg #[.slice r xs.length cap, .int .i64 f]] w fun e w' => e = .returned (.bool (engB xs f)) ∧ Below w.heap.size w w' := by
  have HX : Hid (∀ w', Below w.heap.size w w' → IsInts w' r cap .i64 xs) := Lib.hid (fun _ h => hx.later h)
  have hmax := Nat.le_trans hx.le hx.max
  unfold maxLen at hmax
  by_cases l1 : xs.length < 1
  · have H := Lib.hid (engB_false.2 (fun h : EngOk xs f => by have := h.lo; omega))
    have l2 : (xs.length : Int) < 1 := by omega
    clear hx
    go_enter Try.func88, Try.ntmps88
    go_wp2_with ((go_at_call 117; refine (eangle_any _ _).mono ?_; rintro e w' ⟨rfl, rfl⟩))
    go_ret
    exact ⟨by rw [H.out]; first | done | rfl, by (repeat' (first | (with_reducible exact Below.refl _ _) | (with_reducible assumption) | (with_reducible refine below_alloc ?_ _) | (with_reducible refine Below.drew ?_) | (with_reducible refine below_drewN ?_ _) | (with_reducible refine below_step (by assumption) ?_) | (with_reducible refine below_later ?_ _) | (with_reducible refine Below.setCell ?_ ?_ _) | go_size))⟩
  · by_cases l2 : 8 < xs.length
    · have H := Lib.hid (engB_false.2 (fun h : EngOk xs f => by have := h.hi; omega))
      have l3 : ¬ (xs.length : Int) < 1 := by omega
      have l4 : (8 : Int) < xs.length := by omega
      clear hx
      go_enter Try.func88, Try.ntmps88
      go_wp2_with ((go_at_call 117; refine (eangle_any _ _).mono ?_; rintro e w' ⟨rfl, rfl⟩))
      go_ret
      exact ⟨by rw [H.out]; first | done | rfl, by (repeat' (first | (with_reducible exact Below.refl _ _) | (with_reducible assumption) | (with_reducible refine below_alloc ?_ _) | (with_reducible refine Below.drew ?_) | (with_reducible refine below_drewN ?_ _) | (with_reducible refine below_step (by assumption) ?_) | (with_reducible refine below_later ?_ _) | (with_reducible refine Below.setCell ?_ ?_ _) | go_size))⟩
    · have l3 : ¬ (xs.length : Int) < 1 := by omega
      have l4 : ¬ (8 : Int) < xs.length := by omega
      cases ha : inB f 0 46079 with
      | false =>
        have H := Lib.hid (engB_false.2 (fun h : EngOk xs f => inB_false.1 ha h.first))
        clear hx
        go_enter Try.func88, Try.ntmps88
        go_wp2_with ((go_at_call 117; refine (eangle_any _ _).mono ?_; rintro e w' ⟨rfl, rfl⟩))
        go_ret
        exact ⟨by rw [H.out]; first | done | rfl, by (repeat' (first | (with_reducible exact Below.refl _ _) | (with_reducible assumption) | (with_reducible refine below_alloc ?_ _) | (with_reducible refine Below.drew ?_) | (with_reducible refine below_drewN ?_ _) | (with_reducible refine below_step (by assumption) ?_) | (with_reducible refine below_later ?_ _) | (with_reducible refine Below.setCell ?_ ?_ _) | go_size))⟩
      | true =>
        have hf := inB_true.1 ha
        have HLN : Hid (1 ≤ xs.length ∧ xs.length ≤ 8) := Lib.hid (by omega)
        have HT : Hid ((∀ i : Int, 1 ≤ i → i ≤ xs.length → i ∈ xs) → engB xs f = true) := Lib.hid (fun h => engB_true.2 ⟨by omega, by omega, hf, h⟩)
        have HF : Hid (∀ i : Int, 1 ≤ i → i ≤ xs.length → ¬ i ∈ xs → engB xs f = false) := Lib.hid (fun i h1 h2 h3 => engB_false.2 (fun hh => h3 (hh.all i h1 h2)))
        have HCT := Lib.hid (fun x w hx => sContains_any r cap xs x w hx)
        clear hx hf
        generalize hn : xs.length = n at *
        have HN := Lib.hid hn
        clear hn
        go_enter Try.func88, Try.ntmps88
        go_wp2_with ((go_at_call 117; refine (eangle_any _ _).mono ?_; rintro e w' ⟨rfl, rfl⟩))
        go_loopg [4] n (fun kx s4 wr => ∃ (k : Nat) (e : Later (w.alloc (.cells #[.slice r n cap, .int .i64 f] 71))), s4 = .int .i64 ((k : Int) + 1) ∧ k ≤ n ∧ n - k ≤ kx ∧ wr = e.w ∧ Hid (∀ i : Int, 1 ≤ i → i ≤ k → i ∈ xs))
        case atStart => exact ⟨0, ⟨_, Below.refl _ _⟩, rfl, by omega, by omega, rfl, Lib.hid (fun i h1 h2 => by omega)⟩
        case round =>
          obtain ⟨k, e, rfl, hk, hkx, rfl, HP⟩ := hrel
          have hes := e.h.size
          simp only [World.size_alloc] at hes
          have hbo : w.heap.size < e.w.heap.size := by omega
          by_cases hlt : k < n
          · have hk1 : (0 : Int) ≤ (k : Int) := by omega
            have hk2 : (k : Int) + 1 ≤ n := by omega
            have HFK := Lib.hid (HF.out ((k : Int) + 1) (by omega) (by omega))
            have HCK := Lib.hid (HCT.out ((k : Int) + 1))
            have HG : Hid ((k : Int) + 1 ∈ xs → ∀ i : Int, 1 ≤ i → i ≤ ((k + 1 : Nat) : Int) → i ∈ xs) := Lib.hid (fun h i h1 h2 => by
              by_cases e : i = (k : Int) + 1
              · subst e; exact h
              · exact HP.out i h1 (by omega))
            by_cases hm : (k : Int) + 1 ∈ xs
            · have hd : decide ((k : Int) + 1 ∈ xs) = true := by simpa using hm
              have HG2 := Lib.hid (HG.out hm)
              rw [hd] at HCK
              clear hd hm
              go_wp2_with ((go_at_call 89; refine (HCK.out _ (HX.out _ (by (repeat' (first | (with_reducible exact Below.refl _ _) | (with_reducible assumption) | (with_reducible refine below_alloc ?_ _) | (with_reducible refine Below.drew ?_) | (with_reducible refine below_drewN ?_ _) | (with_reducible refine below_step (by assumption) ?_) | (with_reducible refine below_later ?_ _) | (with_reducible refine Below.setCell ?_ ?_ _) | go_size))))).mono ?_; rintro e hb1w ⟨rfl, hb1⟩; obtain ⟨hb1c, hb1f⟩ := bcell hb1; have hb1s := hb1.size; (try simp only [World.size_alloc] at hb1s); (try (have : w.heap.size < hb1w.heap.size := by omega)); (try (have : w.heap.size + 1 < hb1w.heap.size := by omega)); (try (have : w.heap.size + 1 + 1 < hb1w.heap.size := by omega)); (try (have : w.heap.size + 1 + 1 + 1 < hb1w.heap.size := by omega)); (try (have : bX < hb1w.heap.size := by omega)); (try (have : bY < hb1w.heap.size := by omega)); (try (have : bZ < hb1w.heap.size := by omega))))
              go_roundg (n - (k + 1))
              case measure => omega
              case rel => exact ⟨k + 1, ⟨hb1w, by (repeat' (first | (with_reducible exact Below.refl _ _) | (with_reducible assumption) | (with_reducible refine below_alloc ?_ _) | (with_reducible refine Below.drew ?_) | (with_reducible refine below_drewN ?_ _) | (with_reducible refine below_step (by assumption) ?_) | (with_reducible refine below_later ?_ _) | (with_reducible refine Below.setCell ?_ ?_ _) | go_size))⟩, by go_num, by omega, by omega, rfl, HG2⟩
            · have hd : decide ((k : Int) + 1 ∈ xs) = false := by simpa using hm
              have H := Lib.hid (HFK.out hm)
              rw [hd] at HCK
              clear hd hm
              go_wp2_with ((go_at_call 89; refine (HCK.out _ (HX.out _ (by (repeat' (first | (with_reducible exact Below.refl _ _) | (with_reducible assumption) | (with_reducible refine below_alloc ?_ _) | (with_reducible refine Below.drew ?_) | (with_reducible refine below_drewN ?_ _) | (with_reducible refine below_step (by assumption) ?_) | (with_reducible refine below_later ?_ _) | (with_reducible refine Below.setCell ?_ ?_ _) | go_size))))).mono ?_; rintro e hb1w ⟨rfl, hb1⟩; obtain ⟨hb1c, hb1f⟩ := bcell hb1; have hb1s := hb1.size; (try simp only [World.size_alloc] at hb1s); (try (have : w.heap.size < hb1w.heap.size := by omega)); (try (have : w.heap.size + 1 < hb1w.heap.size := by omega)); (try (have : w.heap.size + 1 + 1 < hb1w.heap.size := by omega)); (try (have : w.heap.size + 1 + 1 + 1 < hb1w.heap.size := by omega)); (try (have : bX < hb1w.heap.size := by omega)); (try (have : bY < hb1w.heap.size := by omega)); (try (have : bZ < hb1w.heap.size := by omega))))
              go_ret
              exact ⟨by rw [H.out]; first | done | rfl, by (repeat' (first | (with_reducible exact Below.refl _ _) | (with_reducible assumption) | (with_reducible refine below_alloc ?_ _) | (with_reducible refine Below.drew ?_) | (with_reducible refine below_drewN ?_ _) | (with_reducible refine below_step (by assumption) ?_) | (with_reducible refine below_later ?_ _) | (with_reducible refine Below.setCell ?_ ?_ _) | go_size))⟩
          · obtain rfl : k = n := by omega
            have H := Lib.hid (HT.out HP.out)
            have hk3 : ¬ (k : Int) + 1 ≤ (k : Int) := by omega
            go_wp2
            go_ret
            exact ⟨by rw [H.out]; first | done | rfl, by (repeat' (first | (with_reducible exact Below.refl _ _) | (with_reducible assumption) | (with_reducible refine below_alloc ?_ _) | (with_reducible refine Below.drew ?_) | (with_reducible refine below_drewN ?_ _) | (with_reducible refine below_step (by assumption) ?_) | (with_reducible refine below_later ?_ _) | (with_reducible refine Below.setCell ?_ ?_ _) | go_size))⟩
set_option maxRecDepth 100000 in
set_option maxHeartbeats 2000000 in
theorem r23valid_any (r : Option Addr) (cap : Nat) (xs : List Int) (f : Int) (w : World) (hx : IsInts w r cap .i64 xs) :
    Calls Try.prog 91 #[.agg #[.slice r xs.length cap, .int .i64 f]] w fun e w' => e = .returned (.bool (engB xs f)) ∧ Below w.heap.size w w' := by
  have HX : Hid (∀ w', Below w.heap.size w w' → IsInts w' r cap .i64 xs) := Lib.hid (fun _ h => hx.later h)
  have hmax := Nat.le_trans hx.le hx.max
  unfold maxLen at hmax
  by_cases l1 : xs.length < 1
  · have H := Lib.hid (engB_false.2 (fun h : EngOk xs f => by have := h.lo; omega))
    have l2 : (xs.length : Int) < 1 := by omega
    clear hx
    go_enter Try.func91, Try.ntmps91
    go_wp2_with ((go_at_call 119; refine (r23angle_any _ _).mono ?_; rintro e w' ⟨rfl, rfl⟩))
    go_ret
    exact ⟨by rw [H.out]; first | done | rfl, by (repeat' (first | (with_reducible exact Below.refl _ _) | (with_reducible assumption) | (with_reducible refine below_alloc ?_ _) | (with_reducible refine Below.drew ?_) | (with_reducible refine below_drewN ?_ _) | (with_reducible refine below_step (by assumption) ?_) | (with_reducible refine below_later ?_ _) | (with_reducible refine Below.setCell ?_ ?_ _) | go_size))⟩
  · by_cases l2 : 8 < xs.length
    · have H := Lib.hid (engB_false.2 (fun h : EngOk xs f => by have := h.hi; omega))
      have l3 : ¬ (xs.length : Int) < 1 := by omega
      have l4 : (8 : Int) < xs.length := by omega
      clear hx
      go_enter Try.func91, Try.ntmps91
      go_wp2_with ((go_at_call 119; refine (r23angle_any _ _).mono ?_; rintro e w' ⟨rfl, rfl⟩))
      go_ret
      exact ⟨by rw [H.out]; first | done | rfl, by (repeat' (first | (with_reducible exact Below.refl _ _) | (with_reducible assumption) | (with_reducible refine below_alloc ?_ _) | (with_reducible refine Below.drew ?_) | (with_reducible refine below_drewN ?_ _) | (with_reducible refine below_step (by assumption) ?_) | (with_reducible refine below_later ?_ _) | (with_reducible refine Below.setCell ?_ ?_ _) | go_size))⟩
    · have l3 : ¬ (xs.length : Int) < 1 := by omega
      have l4 : ¬ (8 : Int) < xs.length := by omega
      cases ha : inB f 0 46079 with
      | false =>
        have H := Lib.hid (engB_false.2 (fun h : EngOk xs f => inB_false.1 ha h.first))
        clear hx
        go_enter Try.func91, Try.ntmps91
        go_wp2_with ((go_at_call 119; refine (r23angle_any _ _).mono ?_; rintro e w' ⟨rfl, rfl⟩))
        go_ret
        exact ⟨by rw [H.out]; first | done | rfl, by (repeat' (first | (with_reducible exact Below.refl _ _) | (with_reducible assumption) | (with_reducible refine below_alloc ?_ _) | (with_reducible refine Below.drew ?_) | (with_reducible refine below_drewN ?_ _) | (with_reducible refine below_step (by assumption) ?_) | (with_reducible refine below_later ?_ _) | (with_reducible refine Below.setCell ?_ ?_ _) | go_size))⟩
      | true =>
        have hf := inB_true.1 ha
        have HLN : Hid (1 ≤ xs.length ∧ xs.length ≤ 8) := Lib.hid (by omega)
        obtain ⟨bX, off, rfl, hb, hc⟩ := hx.cells (fun e => by rw [e] at l1; simp at l1)
        have HC := Lib.hid hc
        have HT : Hid ((∀ t, t < xs.length → 1 ≤ xs.getD t 0 ∧ xs.getD t 0 ≤ xs.length) → (∀ t k, t < xs.length → k < t → xs.getD k 0 ≠ xs.getD t 0) → engB xs f = true) := Lib.hid (fun h g => engB_true.2 (eng_ref (by omega) (by omega) hf h g))
        have HF1 : Hid (∀ t, t < xs.length → ¬ (1 ≤ xs.getD t 0 ∧ xs.getD t 0 ≤ xs.length) → engB xs f = false) := Lib.hid (fun t ht h => engB_false.2 (eng_bad1 ht h))
        have HF2 : Hid (∀ t k, t < xs.length → k < t → xs.getD k 0 = xs.getD t 0 → engB xs f = false) := Lib.hid (fun t k ht hk h => engB_false.2 (eng_bad2 ht hk h))
        clear hx hf hc HX
        generalize hn : xs.length = n at *
        have HN := Lib.hid hn
        clear hn
        go_enter Try.func91, Try.ntmps91
        go_wp2_with ((go_at_call 119; refine (r23angle_any _ _).mono ?_; rintro e w' ⟨rfl, rfl⟩))
        go_loopg [4] n (fun kx s4 wr => ∃ (t : Nat) (e : Later (w.alloc (.cells #[.slice (some ⟨bX, off, none⟩) n cap, .int .i64 f] 71))), s4 = .int .i64 t ∧ t ≤ n ∧ n - t ≤ kx ∧ wr = e.w ∧ Hid (∀ i, i < t → 1 ≤ xs.getD i 0 ∧ xs.getD i 0 ≤ n) ∧ Hid (∀ i k, i < t → k < i → xs.getD k 0 ≠ xs.getD i 0))
        case atStart => exact ⟨0, ⟨_, Below.refl _ _⟩, rfl, by omega, by omega, rfl, Lib.hid (fun i h => by omega), Lib.hid (fun i k h => by omega)⟩
        case round =>
          obtain ⟨t, e, rfl, ht, hkx, rfl, HP, HQ⟩ := hrel
          have hes := e.h.size
          simp only [World.size_alloc] at hes
          have hbo : w.heap.size < e.w.heap.size := by omega
          have hbx : bX < w.heap.size + 1 := by omega
          have hbe : bX < e.w.heap.size := by omega
          by_cases hlt : t < n
          · have hk1 : (0 : Int) ≤ (t : Int) := by omega
            have hk2 : (t : Int) < n := by omega
            have hbw : Below w.heap.size w e.w := by (repeat' (first | (with_reducible exact Below.refl _ _) | (with_reducible assumption) | (with_reducible refine below_alloc ?_ _) | (with_reducible refine Below.drew ?_) | (with_reducible refine below_drewN ?_ _) | (with_reducible refine below_step (by assumption) ?_) | (with_reducible refine below_later ?_ _) | (with_reducible refine Below.setCell ?_ ?_ _) | go_size))
            have hc1 : e.w.cell? ⟨bX, off + t, none⟩ = some (.int .i64 (xs.getD t 0)) := by
              rw [hbw.cell (p := ⟨bX, off + t, none⟩) hb]
              exact HC.out t (by omega)
            have HB1 := Lib.hid (HF1.out t hlt)
            have HG1 : Hid (1 ≤ xs.getD t 0 ∧ xs.getD t 0 ≤ n → ∀ i, i < t + 1 → 1 ≤ xs.getD i 0 ∧ xs.getD i 0 ≤ n) := Lib.hid (fun h i hi => by
              by_cases e : i = t
              · subst e; exact h
              · exact HP.out i (by omega))
            have HB2 : Hid (∀ k, k < t → xs.getD k 0 = xs.getD t 0 → engB xs f = false) := Lib.hid (fun k hk h => HF2.out t k hlt hk h)
            have HG2 : Hid ((∀ k, k < t → xs.getD k 0 ≠ xs.getD t 0) → ∀ i k, i < t + 1 → k < i → xs.getD k 0 ≠ xs.getD i 0) := Lib.hid (fun h i k hi hk => by
              by_cases e : i = t
              · subst e; exact h k hk
              · exact HQ.out i k (by omega) hk)
            have HLT := Lib.hid hlt
            generalize xs.getD t 0 = y at *
            by_cases y1 : y < 1
            · have H := Lib.hid (HB1.out (by omega))
              clear hbw
              go_wp2
              go_ret
              exact ⟨by rw [H.out]; first | done | rfl, by (repeat' (first | (with_reducible exact Below.refl _ _) | (with_reducible assumption) | (with_reducible refine below_alloc ?_ _) | (with_reducible refine Below.drew ?_) | (with_reducible refine below_drewN ?_ _) | (with_reducible refine below_step (by assumption) ?_) | (with_reducible refine below_later ?_ _) | (with_reducible refine Below.setCell ?_ ?_ _) | go_size))⟩
            · by_cases y2 : (n : Int) < y
              · have H := Lib.hid (HB1.out (by omega))
                clear hbw
                go_wp2
                go_ret
                exact ⟨by rw [H.out]; first | done | rfl, by (repeat' (first | (with_reducible exact Below.refl _ _) | (with_reducible assumption) | (with_reducible refine below_alloc ?_ _) | (with_reducible refine Below.drew ?_) | (with_reducible refine below_drewN ?_ _) | (with_reducible refine below_step (by assumption) ?_) | (with_reducible refine below_later ?_ _) | (with_reducible refine Below.setCell ?_ ?_ _) | go_size))⟩
              · have HG3 := Lib.hid (HG1.out (by omega))
                go_wp2
                go_loopg [5] t (fun ky s5 wq => ∃ (k : Nat) (q : Later e.w), s5 = .int .i64 k ∧ k ≤ t ∧ t - k ≤ ky ∧ wq = q.w ∧ Hid (∀ i, i < k → xs.getD i 0 ≠ y))
                case atStart => exact ⟨0, ⟨_, Below.refl _ _⟩, rfl, by omega, by omega, rfl, Lib.hid (fun i h => absurd h (Nat.not_lt_zero _))⟩
                case round =>
                  obtain ⟨k, q, rfl, hk, hky, rfl, HK⟩ := hrel
                  have hqs := q.h.size
                  have hqo : w.heap.size < q.w.heap.size := by omega
                  have hqx : bX < q.w.heap.size := by omega
                  by_cases hkl : k < t
                  · have hj1 : (0 : Int) ≤ (k : Int) := by omega
                    have hj2 : (k : Int) < t := by omega
                    have hj3 : (k : Int) < n := by have := HLT.out; omega
                    have hc2 : e.w.cell? ⟨bX, off + k, none⟩ = some (.int .i64 (xs.getD k 0)) := by
                      rw [hbw.cell (p := ⟨bX, off + k, none⟩) hb]
                      exact HC.out k (by have := HLT.out; omega)
                    have HB3 := Lib.hid (HB2.out k hkl)
                    have HG4 : Hid (xs.getD k 0 ≠ y → ∀ i, i < k + 1 → xs.getD i 0 ≠ y) := Lib.hid (fun h i hi => by
                      by_cases e : i = k
                      · subst e; exact h
                      · exact HK.out i (by omega))
                    generalize xs.getD k 0 = x at *
                    by_cases hxy : x = y
                    · have H := Lib.hid (HB3.out hxy)
                      subst hxy
                      clear hbw
                      go_wp2
                      go_quiet (fail)
                      go_wp2
                      go_ret
                      exact ⟨by rw [H.out]; first | done | rfl, by (repeat' (first | (with_reducible exact Below.refl _ _) | (with_reducible assumption) | (with_reducible refine below_alloc ?_ _) | (with_reducible refine Below.drew ?_) | (with_reducible refine below_drewN ?_ _) | (with_reducible refine below_step (by assumption) ?_) | (with_reducible refine below_later ?_ _) | (with_reducible refine Below.setCell ?_ ?_ _) | go_size))⟩
                    · have H := Lib.hid (HG4.out hxy)
                      have hd : (x == y) = false := by simpa using hxy
                      have HBW := Lib.hid hbw
                      clear hbw
                      go_wp2
                      go_quiet (fail)
                      go_wp2
                      go_roundg (t - (k + 1))
                      case measure => omega
                      case rel => exact ⟨k + 1, ⟨_, below_drewN q.h _⟩, by go_num, by omega, by omega, rfl, H⟩
                  · obtain rfl : k = t := by omega
                    have H := Lib.hid (HG2.out HK.out)
                    clear hbw
                    go_wp2
                    go_roundg (n - (k + 1))
                    case measure => have := HLT.out; omega
                    case rel => exact ⟨k + 1, ⟨q.w, e.h.trans (q.h.mono e.h.size)⟩, by go_num, by have := HLT.out; omega, by have := HLT.out; omega, rfl, HG3, H⟩
          · obtain rfl : t = n := by omega
            have H := Lib.hid (HT.out HP.out HQ.out)
            go_wp2
            go_ret
            exact ⟨by rw [H.out]; first | done | rfl, by (repeat' (first | (with_reducible exact Below.refl _ _) | (with_reducible assumption) | (with_reducible refine below_alloc ?_ _) | (with_reducible refine Below.drew ?_) | (with_reducible refine below_drewN ?_ _) | (with_reducible refine below_step (by assumption) ?_) | (with_reducible refine below_later ?_ _) | (with_reducible refine Below.setCell ?_ ?_ _) | go_size))⟩
end Go.Proofs.Ytohdbneaganfbaa
