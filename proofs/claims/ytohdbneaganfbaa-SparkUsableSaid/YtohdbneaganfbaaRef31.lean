/- Contracts of the references of torque and of spark's efficiency. Printed by a program. -/
import Derived.Test.YtohdbneaganfbaaTorqB
import Derived.Test.YtohdbneaganfbaaRef06C
import Derived.Test.YtohdbneaganfbaaRef05
namespace Go.Proofs.Ytohdbneaganfbaa
set_option linter.unusedVariables false
set_option linter.unusedSimpArgs false
open Go.RowKit Go.ChangeShapes Go.WideShapes Go.ChangeAt

theorem rin_any (x lo hi : Int) (w : World) : Calls Try.prog 39 #[.int .i64 x, .int .i64 lo, .int .i64 hi] w fun e w' => e = .returned (.bool (inB x lo hi)) ∧ w = w' := by
  go_enter Try.func39, Try.ntmps39
  go_wp2
  all_goals go_ret
  all_goals exact ⟨ret_bool (by grind [inB]), rfl⟩
theorem rlate_any (x : Int) (w : World) : Calls Try.prog 44 #[.int .i64 x] w fun e w' => e = .returned (.bool (inB x 0 2560)) ∧ w = w' := by
  go_enter Try.func44, Try.ntmps44
  go_wp2_with ((go_at_call 39; refine (rin_any _ _ _ _).mono ?_; rintro e w' ⟨rfl, rfl⟩))
  go_ret
  exact ⟨rfl, rfl⟩
set_option maxHeartbeats 1000000 in
theorem rall_any (lo hi : Int) (r : Option Addr) (cap : Nat) (xs : List Int) (w : World) (hx : IsInts w r cap .i64 xs) (hne : xs ≠ []) :
    Calls Try.prog 82 #[.slice r xs.length cap, .int .i64 lo, .int .i64 hi] w fun e w' => e = .returned (.bool (!(xs.any fun x => !inB x lo hi))) ∧ Below w.heap.size w w' := by
  obtain ⟨bX, off, rfl, hb, hc⟩ := hx.cells hne
  have hmax := hx.max
  have hle := hx.le
  unfold maxLen at hmax
  have HC := Lib.hid hc
  have HT : Hid ((∀ t, t < xs.length → inB (xs.getD t 0) lo hi = true) → (!(xs.any fun x => !inB x lo hi)) = true) := Lib.hid (fun h => by rw [any_in (fun t ht => inB_true.1 (h t ht))]; rfl)
  have HF : Hid (∀ t, t < xs.length → inB (xs.getD t 0) lo hi = false → (!(xs.any fun x => !inB x lo hi)) = false) := Lib.hid (fun t ht h => by rw [any_hit ht (inB_false.1 h)]; rfl)
  clear hc hx hne
  generalize (!(xs.any fun x => !inB x lo hi)) = res at *
  generalize hn : xs.length = n at *
  have HN := Lib.hid hn
  clear hn
  go_enter Try.func82, Try.ntmps82
  go_wp2
  go_loopg [7] n (fun kx s7 wr => ∃ (k : Nat), s7 = .int .i64 k ∧ k ≤ n ∧ n - k ≤ kx ∧ wr = w ∧ Hid (∀ t, t < k → inB (xs.getD t 0) lo hi = true))
  case atStart => exact ⟨0, rfl, by omega, by omega, rfl, Lib.hid (fun t h => absurd h (Nat.not_lt_zero _))⟩
  case round =>
    obtain ⟨k, rfl, hk, hkx, rfl, HP⟩ := hrel
    by_cases hlt : k < n
    · have hc1 := HC.out k hlt
      have hk1 : (0 : Int) ≤ (k : Int) := by omega
      have hk2 : (k : Int) < n := by omega
      have HB := Lib.hid (HF.out k hlt)
      have HG : Hid (inB (xs.getD k 0) lo hi = true → ∀ t, t < k + 1 → inB (xs.getD t 0) lo hi = true) := Lib.hid (fun h t ht => by
        by_cases e : t = k
        · subst e; exact h
        · exact HP.out t (by omega))
      generalize xs.getD k 0 = x at hc1 HB HG
      cases hi1 : inB x lo hi with
      | false =>
        have H := Lib.hid (HB.out hi1)
        go_wp2_with ((go_at_call 39; refine (rin_any _ _ _ _).mono ?_; rintro e w' ⟨rfl, rfl⟩))
        go_ret
        exact ⟨by rw [H.out]; first | done | rfl, by (repeat' (first | (with_reducible exact Below.refl _ _) | (with_reducible assumption) | (with_reducible refine below_alloc ?_ _) | (with_reducible refine Below.drew ?_) | (with_reducible refine below_drewN ?_ _) | (with_reducible refine below_step (by assumption) ?_) | (with_reducible refine below_later ?_ _) | (with_reducible refine Below.setCell ?_ ?_ _) | go_size))⟩
      | true =>
        have H := Lib.hid (HG.out hi1)
        go_wp2_with ((go_at_call 39; refine (rin_any _ _ _ _).mono ?_; rintro e w' ⟨rfl, rfl⟩))
        go_roundg (n - (k + 1))
        case measure => omega
        case rel => exact ⟨k + 1, by go_num, by omega, by omega, rfl, H⟩
    · obtain rfl : k = n := by omega
      have H := Lib.hid (HT.out HP.out)
      go_wp2
      go_ret
      exact ⟨by rw [H.out]; first | done | rfl, by (repeat' (first | (with_reducible exact Below.refl _ _) | (with_reducible assumption) | (with_reducible refine below_alloc ?_ _) | (with_reducible refine Below.drew ?_) | (with_reducible refine below_drewN ?_ _) | (with_reducible refine below_step (by assumption) ?_) | (with_reducible refine below_later ?_ _) | (with_reducible refine Below.setCell ?_ ?_ _) | go_size))⟩
set_option maxHeartbeats 1000000 in
theorem rfalls_any (r : Option Addr) (cap : Nat) (xs : List Int) (w : World) (hx : IsInts w r cap .i64 xs) (hne : xs ≠ []) :
    Calls Try.prog 114 #[.slice r xs.length cap] w fun e w' => e = .returned (.bool (downB xs)) ∧ Below w.heap.size w w' := by
  obtain ⟨bX, off, rfl, hb, hc⟩ := hx.cells hne
  have hmax := hx.max
  have hle := hx.le
  unfold maxLen at hmax
  have h0 : 0 < xs.length := List.length_pos_iff.2 hne
  have HC := Lib.hid hc
  have HT : Hid ((∀ t, t + 1 < xs.length → xs.getD (t + 1) 0 ≤ xs.getD t 0) → downB xs = true) := Lib.hid (fun h => downB_true.2 h)
  have HF : Hid (∀ t, t + 1 < xs.length → xs.getD t 0 < xs.getD (t + 1) 0 → downB xs = false) := Lib.hid (fun t ht h => downB_false.2 (fun hh => by have := hh t ht; omega))
  clear hc hx hne
  generalize downB xs = res at *
  generalize hn : xs.length = n at *
  have HN := Lib.hid hn
  clear hn
  go_enter Try.func114, Try.ntmps114
  go_wp2
  go_loopg [3] n (fun kx s3 wr => ∃ (k : Nat) (e : Later w), s3 = .int .i64 ((k : Int) + 1) ∧ k + 1 ≤ n ∧ n - k ≤ kx ∧ wr = e.w ∧ Hid (∀ t, t < k → xs.getD (t + 1) 0 ≤ xs.getD t 0))
  case atStart => exact ⟨0, ⟨_, Below.refl _ _⟩, rfl, by omega, by omega, rfl, Lib.hid (fun t h => absurd h (Nat.not_lt_zero _))⟩
  case round =>
    obtain ⟨k, e, rfl, hk, hkx, rfl, HP⟩ := hrel
    have hes := e.h.size
    have hbe : bX < e.w.heap.size := by omega
    by_cases hlt : k + 1 < n
    · have hc1 : e.w.cell? ⟨bX, off + k, none⟩ = some (.int .i64 (xs.getD k 0)) := by
        rw [Later.cell e hb]
        exact HC.out k (by omega)
      have hc2 : e.w.cell? ⟨bX, off + (k + 1), none⟩ = some (.int .i64 (xs.getD (k + 1) 0)) := by
        rw [Later.cell e hb]
        exact HC.out (k + 1) hlt
      have i1 : (k : Int) < n := by omega
      have i2 : (k : Int) + 1 < n := by omega
      have i3 : (0 : Int) ≤ (k : Int) := by omega
      have i4 : (0 : Int) ≤ (k : Int) + 1 := by omega
      have i5 : ((k : Int) + 1).toNat = k + 1 := by omega
      have i6 : k < n := by omega
      have w1 : IntKind.i64.wrap ((k : Int) + 1 - 1) = (k : Int) := by rw [IntWalk.i64_in _ (by omega)]; omega
      have w2 : (k : Int) + 1 - 1 = (k : Int) := by omega
      have HB := Lib.hid (HF.out k hlt)
      have HG : Hid (xs.getD (k + 1) 0 ≤ xs.getD k 0 → ∀ t, t < k + 1 → xs.getD (t + 1) 0 ≤ xs.getD t 0) := Lib.hid (fun h t ht => by
        by_cases e : t = k
        · subst e; exact h
        · exact HP.out t (by omega))
      generalize xs.getD k 0 = x at hc1 HB HG
      generalize xs.getD (k + 1) 0 = y at hc2 HB HG
      by_cases hxy : x < y
      · have H := Lib.hid (HB.out hxy)
        go_wp2
        go_quiet (fail)
        go_wp2
        go_ret
        exact ⟨by rw [H.out]; first | done | rfl, below_drewN e.h _⟩
      · have H := Lib.hid (HG.out (by omega))
        clear w1 w2
        have w1 : IntKind.i64.wrap ((k : Int) + 1 - 1) = (k : Int) := by rw [IntWalk.i64_in _ (by omega)]; omega
        go_wp2
        go_quiet (fail)
        go_wp2
        go_roundg (n - (k + 1))
        case measure => omega
        case rel => exact ⟨k + 1, ⟨_, below_drewN e.h _⟩, by go_num, by omega, by omega, rfl, H⟩
    · obtain rfl : n = k + 1 := by omega
      have H := Lib.hid (HT.out (fun t ht => HP.out t (by have := HN.out; omega)))
      go_wp2
      go_ret
      exact ⟨by rw [H.out]; first | done | rfl, e.h⟩
def EffOk (xs ys : List Int) : Prop := CurveOk xs ys ∧ ys.any (fun y => !inB y 0 1000) = false ∧ DownL ys
open Classical in
noncomputable def effB (xs ys : List Int) : Bool := decide (EffOk xs ys)
theorem effB_true {xs ys : List Int} : effB xs ys = true ↔ EffOk xs ys := by simp [effB]
theorem effB_false {xs ys : List Int} : effB xs ys = false ↔ ¬ EffOk xs ys := by simp [effB]
theorem rcurve31_any (rx ry : Option Addr) (cx cy : Nat) (xs ys : List Int) (w : World) (hx : IsInts w rx cx .i64 xs) (hy : IsInts w ry cy .i64 ys) :
    Calls Try.prog 83 #[.agg #[.slice rx xs.length cx, .slice ry ys.length cy]] w fun e w' => e = .returned (.bool (effB xs ys)) ∧ Below w.heap.size w w' := by
  have Hx : Hid (∀ w', Below w.heap.size w w' → IsInts w' rx cx .i64 xs) := Lib.hid (fun _ h => hx.later h)
  have Hy : Hid (∀ w', Below w.heap.size w w' → IsInts w' ry cy .i64 ys) := Lib.hid (fun _ h => hy.later h)
  clear hx hy
  cases hc : curveB xs ys with
  | false =>
    have H := Lib.hid (effB_false.2 (fun h : EffOk xs ys => curveB_false.1 hc h.1))
    go_enter Try.func83, Try.ntmps83
    go_wp2_with (first | (go_at_call 69; refine (rvalid_any _ _ _ _ _ _ _ (Hx.out _ (by (repeat' (first | (with_reducible exact Below.refl _ _) | (with_reducible assumption) | (with_reducible refine below_alloc ?_ _) | (with_reducible refine Below.drew ?_) | (with_reducible refine below_drewN ?_ _) | (with_reducible refine below_step (by assumption) ?_) | (with_reducible refine below_later ?_ _) | (with_reducible refine Below.setCell ?_ ?_ _) | go_size)))) (Hy.out _ (by (repeat' (first | (with_reducible exact Below.refl _ _) | (with_reducible assumption) | (with_reducible refine below_alloc ?_ _) | (with_reducible refine Below.drew ?_) | (with_reducible refine below_drewN ?_ _) | (with_reducible refine below_step (by assumption) ?_) | (with_reducible refine below_later ?_ _) | (with_reducible refine Below.setCell ?_ ?_ _) | go_size))))).mono ?_; rintro e hb1w ⟨rfl, hb1⟩; obtain ⟨hb1c, hb1f⟩ := bcell hb1; have hb1s := hb1.size; (try simp only [World.size_alloc] at hb1s); (try (have : w.heap.size < hb1w.heap.size := by omega)); (try (have : w.heap.size + 1 < hb1w.heap.size := by omega)); (try (have : w.heap.size + 1 + 1 < hb1w.heap.size := by omega)); (try (have : w.heap.size + 1 + 1 + 1 < hb1w.heap.size := by omega)); (try (have : bX < hb1w.heap.size := by omega)); (try (have : bY < hb1w.heap.size := by omega)); (try (have : bZ < hb1w.heap.size := by omega))) | (go_at_call 114; refine (rfalls_any _ _ _ _ (Hy.out _ (by (repeat' (first | (with_reducible exact Below.refl _ _) | (with_reducible assumption) | (with_reducible refine below_alloc ?_ _) | (with_reducible refine Below.drew ?_) | (with_reducible refine below_drewN ?_ _) | (with_reducible refine below_step (by assumption) ?_) | (with_reducible refine below_later ?_ _) | (with_reducible refine Below.setCell ?_ ?_ _) | go_size)))) HNE.out).mono ?_; rintro e hb2w ⟨rfl, hb2⟩; obtain ⟨hb2c, hb2f⟩ := bcell hb2; have hb2s := hb2.size; (try simp only [World.size_alloc] at hb2s); (try (have : w.heap.size < hb2w.heap.size := by omega)); (try (have : w.heap.size + 1 < hb2w.heap.size := by omega)); (try (have : w.heap.size + 1 + 1 < hb2w.heap.size := by omega)); (try (have : w.heap.size + 1 + 1 + 1 < hb2w.heap.size := by omega)); (try (have : bX < hb2w.heap.size := by omega)); (try (have : bY < hb2w.heap.size := by omega)); (try (have : bZ < hb2w.heap.size := by omega))) | (go_at_call 82; refine (rall_any _ _ _ _ _ _ (Hy.out _ (by (repeat' (first | (with_reducible exact Below.refl _ _) | (with_reducible assumption) | (with_reducible refine below_alloc ?_ _) | (with_reducible refine Below.drew ?_) | (with_reducible refine below_drewN ?_ _) | (with_reducible refine below_step (by assumption) ?_) | (with_reducible refine below_later ?_ _) | (with_reducible refine Below.setCell ?_ ?_ _) | go_size)))) HNE.out).mono ?_; rintro e hb3w ⟨rfl, hb3⟩; obtain ⟨hb3c, hb3f⟩ := bcell hb3; have hb3s := hb3.size; (try simp only [World.size_alloc] at hb3s); (try (have : w.heap.size < hb3w.heap.size := by omega)); (try (have : w.heap.size + 1 < hb3w.heap.size := by omega)); (try (have : w.heap.size + 1 + 1 < hb3w.heap.size := by omega)); (try (have : w.heap.size + 1 + 1 + 1 < hb3w.heap.size := by omega)); (try (have : bX < hb3w.heap.size := by omega)); (try (have : bY < hb3w.heap.size := by omega)); (try (have : bZ < hb3w.heap.size := by omega))))
    go_ret
    exact ⟨by rw [H.out]; first | done | rfl, by (repeat' (first | (with_reducible exact Below.refl _ _) | (with_reducible assumption) | (with_reducible refine below_alloc ?_ _) | (with_reducible refine Below.drew ?_) | (with_reducible refine below_drewN ?_ _) | (with_reducible refine below_step (by assumption) ?_) | (with_reducible refine below_later ?_ _) | (with_reducible refine Below.setCell ?_ ?_ _) | go_size))⟩
  | true =>
    have HNE : Hid (ys ≠ []) := Lib.hid (fun e => by have h1 := (curveB_true.1 hc).1; have h2 := (curveB_true.1 hc).2.1.1; rw [e, List.length_nil] at h1; omega)
    cases hd : downB ys with
    | false =>
      have H := Lib.hid (effB_false.2 (fun h : EffOk xs ys => downB_false.1 hd h.2.2))
      go_enter Try.func83, Try.ntmps83
      go_wp2_with (first | (go_at_call 69; refine (rvalid_any _ _ _ _ _ _ _ (Hx.out _ (by (repeat' (first | (with_reducible exact Below.refl _ _) | (with_reducible assumption) | (with_reducible refine below_alloc ?_ _) | (with_reducible refine Below.drew ?_) | (with_reducible refine below_drewN ?_ _) | (with_reducible refine below_step (by assumption) ?_) | (with_reducible refine below_later ?_ _) | (with_reducible refine Below.setCell ?_ ?_ _) | go_size)))) (Hy.out _ (by (repeat' (first | (with_reducible exact Below.refl _ _) | (with_reducible assumption) | (with_reducible refine below_alloc ?_ _) | (with_reducible refine Below.drew ?_) | (with_reducible refine below_drewN ?_ _) | (with_reducible refine below_step (by assumption) ?_) | (with_reducible refine below_later ?_ _) | (with_reducible refine Below.setCell ?_ ?_ _) | go_size))))).mono ?_; rintro e hb1w ⟨rfl, hb1⟩; obtain ⟨hb1c, hb1f⟩ := bcell hb1; have hb1s := hb1.size; (try simp only [World.size_alloc] at hb1s); (try (have : w.heap.size < hb1w.heap.size := by omega)); (try (have : w.heap.size + 1 < hb1w.heap.size := by omega)); (try (have : w.heap.size + 1 + 1 < hb1w.heap.size := by omega)); (try (have : w.heap.size + 1 + 1 + 1 < hb1w.heap.size := by omega)); (try (have : bX < hb1w.heap.size := by omega)); (try (have : bY < hb1w.heap.size := by omega)); (try (have : bZ < hb1w.heap.size := by omega))) | (go_at_call 114; refine (rfalls_any _ _ _ _ (Hy.out _ (by (repeat' (first | (with_reducible exact Below.refl _ _) | (with_reducible assumption) | (with_reducible refine below_alloc ?_ _) | (with_reducible refine Below.drew ?_) | (with_reducible refine below_drewN ?_ _) | (with_reducible refine below_step (by assumption) ?_) | (with_reducible refine below_later ?_ _) | (with_reducible refine Below.setCell ?_ ?_ _) | go_size)))) HNE.out).mono ?_; rintro e hb2w ⟨rfl, hb2⟩; obtain ⟨hb2c, hb2f⟩ := bcell hb2; have hb2s := hb2.size; (try simp only [World.size_alloc] at hb2s); (try (have : w.heap.size < hb2w.heap.size := by omega)); (try (have : w.heap.size + 1 < hb2w.heap.size := by omega)); (try (have : w.heap.size + 1 + 1 < hb2w.heap.size := by omega)); (try (have : w.heap.size + 1 + 1 + 1 < hb2w.heap.size := by omega)); (try (have : bX < hb2w.heap.size := by omega)); (try (have : bY < hb2w.heap.size := by omega)); (try (have : bZ < hb2w.heap.size := by omega))) | (go_at_call 82; refine (rall_any _ _ _ _ _ _ (Hy.out _ (by (repeat' (first | (with_reducible exact Below.refl _ _) | (with_reducible assumption) | (with_reducible refine below_alloc ?_ _) | (with_reducible refine Below.drew ?_) | (with_reducible refine below_drewN ?_ _) | (with_reducible refine below_step (by assumption) ?_) | (with_reducible refine below_later ?_ _) | (with_reducible refine Below.setCell ?_ ?_ _) | go_size)))) HNE.out).mono ?_; rintro e hb3w ⟨rfl, hb3⟩; obtain ⟨hb3c, hb3f⟩ := bcell hb3; have hb3s := hb3.size; (try simp only [World.size_alloc] at hb3s); (try (have : w.heap.size < hb3w.heap.size := by omega)); (try (have : w.heap.size + 1 < hb3w.heap.size := by omega)); (try (have : w.heap.size + 1 + 1 < hb3w.heap.size := by omega)); (try (have : w.heap.size + 1 + 1 + 1 < hb3w.heap.size := by omega)); (try (have : bX < hb3w.heap.size := by omega)); (try (have : bY < hb3w.heap.size := by omega)); (try (have : bZ < hb3w.heap.size := by omega))))
      go_ret
      exact ⟨by rw [H.out]; first | done | rfl, by (repeat' (first | (with_reducible exact Below.refl _ _) | (with_reducible assumption) | (with_reducible refine below_alloc ?_ _) | (with_reducible refine Below.drew ?_) | (with_reducible refine below_drewN ?_ _) | (with_reducible refine below_step (by assumption) ?_) | (with_reducible refine below_later ?_ _) | (with_reducible refine Below.setCell ?_ ?_ _) | go_size))⟩
    | true =>
      cases ho : ys.any (fun y => !inB y 0 1000) with
      | true =>
        have H := Lib.hid (effB_false.2 (fun h : EffOk xs ys => by have := h.2.1; rw [ho] at this; cases this))
        go_enter Try.func83, Try.ntmps83
        go_wp2_with (first | (go_at_call 69; refine (rvalid_any _ _ _ _ _ _ _ (Hx.out _ (by (repeat' (first | (with_reducible exact Below.refl _ _) | (with_reducible assumption) | (with_reducible refine below_alloc ?_ _) | (with_reducible refine Below.drew ?_) | (with_reducible refine below_drewN ?_ _) | (with_reducible refine below_step (by assumption) ?_) | (with_reducible refine below_later ?_ _) | (with_reducible refine Below.setCell ?_ ?_ _) | go_size)))) (Hy.out _ (by (repeat' (first | (with_reducible exact Below.refl _ _) | (with_reducible assumption) | (with_reducible refine below_alloc ?_ _) | (with_reducible refine Below.drew ?_) | (with_reducible refine below_drewN ?_ _) | (with_reducible refine below_step (by assumption) ?_) | (with_reducible refine below_later ?_ _) | (with_reducible refine Below.setCell ?_ ?_ _) | go_size))))).mono ?_; rintro e hb1w ⟨rfl, hb1⟩; obtain ⟨hb1c, hb1f⟩ := bcell hb1; have hb1s := hb1.size; (try simp only [World.size_alloc] at hb1s); (try (have : w.heap.size < hb1w.heap.size := by omega)); (try (have : w.heap.size + 1 < hb1w.heap.size := by omega)); (try (have : w.heap.size + 1 + 1 < hb1w.heap.size := by omega)); (try (have : w.heap.size + 1 + 1 + 1 < hb1w.heap.size := by omega)); (try (have : bX < hb1w.heap.size := by omega)); (try (have : bY < hb1w.heap.size := by omega)); (try (have : bZ < hb1w.heap.size := by omega))) | (go_at_call 114; refine (rfalls_any _ _ _ _ (Hy.out _ (by (repeat' (first | (with_reducible exact Below.refl _ _) | (with_reducible assumption) | (with_reducible refine below_alloc ?_ _) | (with_reducible refine Below.drew ?_) | (with_reducible refine below_drewN ?_ _) | (with_reducible refine below_step (by assumption) ?_) | (with_reducible refine below_later ?_ _) | (with_reducible refine Below.setCell ?_ ?_ _) | go_size)))) HNE.out).mono ?_; rintro e hb2w ⟨rfl, hb2⟩; obtain ⟨hb2c, hb2f⟩ := bcell hb2; have hb2s := hb2.size; (try simp only [World.size_alloc] at hb2s); (try (have : w.heap.size < hb2w.heap.size := by omega)); (try (have : w.heap.size + 1 < hb2w.heap.size := by omega)); (try (have : w.heap.size + 1 + 1 < hb2w.heap.size := by omega)); (try (have : w.heap.size + 1 + 1 + 1 < hb2w.heap.size := by omega)); (try (have : bX < hb2w.heap.size := by omega)); (try (have : bY < hb2w.heap.size := by omega)); (try (have : bZ < hb2w.heap.size := by omega))) | (go_at_call 82; refine (rall_any _ _ _ _ _ _ (Hy.out _ (by (repeat' (first | (with_reducible exact Below.refl _ _) | (with_reducible assumption) | (with_reducible refine below_alloc ?_ _) | (with_reducible refine Below.drew ?_) | (with_reducible refine below_drewN ?_ _) | (with_reducible refine below_step (by assumption) ?_) | (with_reducible refine below_later ?_ _) | (with_reducible refine Below.setCell ?_ ?_ _) | go_size)))) HNE.out).mono ?_; rintro e hb3w ⟨rfl, hb3⟩; obtain ⟨hb3c, hb3f⟩ := bcell hb3; have hb3s := hb3.size; (try simp only [World.size_alloc] at hb3s); (try (have : w.heap.size < hb3w.heap.size := by omega)); (try (have : w.heap.size + 1 < hb3w.heap.size := by omega)); (try (have : w.heap.size + 1 + 1 < hb3w.heap.size := by omega)); (try (have : w.heap.size + 1 + 1 + 1 < hb3w.heap.size := by omega)); (try (have : bX < hb3w.heap.size := by omega)); (try (have : bY < hb3w.heap.size := by omega)); (try (have : bZ < hb3w.heap.size := by omega))))
        go_ret
        exact ⟨by rw [H.out]; first | done | rfl, by (repeat' (first | (with_reducible exact Below.refl _ _) | (with_reducible assumption) | (with_reducible refine below_alloc ?_ _) | (with_reducible refine Below.drew ?_) | (with_reducible refine below_drewN ?_ _) | (with_reducible refine below_step (by assumption) ?_) | (with_reducible refine below_later ?_ _) | (with_reducible refine Below.setCell ?_ ?_ _) | go_size))⟩
      | false =>
        have H := Lib.hid (effB_true.2 (⟨curveB_true.1 hc, ho, downB_true.1 hd⟩ : EffOk xs ys))
        go_enter Try.func83, Try.ntmps83
        go_wp2_with (first | (go_at_call 69; refine (rvalid_any _ _ _ _ _ _ _ (Hx.out _ (by (repeat' (first | (with_reducible exact Below.refl _ _) | (with_reducible assumption) | (with_reducible refine below_alloc ?_ _) | (with_reducible refine Below.drew ?_) | (with_reducible refine below_drewN ?_ _) | (with_reducible refine below_step (by assumption) ?_) | (with_reducible refine below_later ?_ _) | (with_reducible refine Below.setCell ?_ ?_ _) | go_size)))) (Hy.out _ (by (repeat' (first | (with_reducible exact Below.refl _ _) | (with_reducible assumption) | (with_reducible refine below_alloc ?_ _) | (with_reducible refine Below.drew ?_) | (with_reducible refine below_drewN ?_ _) | (with_reducible refine below_step (by assumption) ?_) | (with_reducible refine below_later ?_ _) | (with_reducible refine Below.setCell ?_ ?_ _) | go_size))))).mono ?_; rintro e hb1w ⟨rfl, hb1⟩; obtain ⟨hb1c, hb1f⟩ := bcell hb1; have hb1s := hb1.size; (try simp only [World.size_alloc] at hb1s); (try (have : w.heap.size < hb1w.heap.size := by omega)); (try (have : w.heap.size + 1 < hb1w.heap.size := by omega)); (try (have : w.heap.size + 1 + 1 < hb1w.heap.size := by omega)); (try (have : w.heap.size + 1 + 1 + 1 < hb1w.heap.size := by omega)); (try (have : bX < hb1w.heap.size := by omega)); (try (have : bY < hb1w.heap.size := by omega)); (try (have : bZ < hb1w.heap.size := by omega))) | (go_at_call 114; refine (rfalls_any _ _ _ _ (Hy.out _ (by (repeat' (first | (with_reducible exact Below.refl _ _) | (with_reducible assumption) | (with_reducible refine below_alloc ?_ _) | (with_reducible refine Below.drew ?_) | (with_reducible refine below_drewN ?_ _) | (with_reducible refine below_step (by assumption) ?_) | (with_reducible refine below_later ?_ _) | (with_reducible refine Below.setCell ?_ ?_ _) | go_size)))) HNE.out).mono ?_; rintro e hb2w ⟨rfl, hb2⟩; obtain ⟨hb2c, hb2f⟩ := bcell hb2; have hb2s := hb2.size; (try simp only [World.size_alloc] at hb2s); (try (have : w.heap.size < hb2w.heap.size := by omega)); (try (have : w.heap.size + 1 < hb2w.heap.size := by omega)); (try (have : w.heap.size + 1 + 1 < hb2w.heap.size := by omega)); (try (have : w.heap.size + 1 + 1 + 1 < hb2w.heap.size := by omega)); (try (have : bX < hb2w.heap.size := by omega)); (try (have : bY < hb2w.heap.size := by omega)); (try (have : bZ < hb2w.heap.size := by omega))) | (go_at_call 82; refine (rall_any _ _ _ _ _ _ (Hy.out _ (by (repeat' (first | (with_reducible exact Below.refl _ _) | (with_reducible assumption) | (with_reducible refine below_alloc ?_ _) | (with_reducible refine Below.drew ?_) | (with_reducible refine below_drewN ?_ _) | (with_reducible refine below_step (by assumption) ?_) | (with_reducible refine below_later ?_ _) | (with_reducible refine Below.setCell ?_ ?_ _) | go_size)))) HNE.out).mono ?_; rintro e hb3w ⟨rfl, hb3⟩; obtain ⟨hb3c, hb3f⟩ := bcell hb3; have hb3s := hb3.size; (try simp only [World.size_alloc] at hb3s); (try (have : w.heap.size < hb3w.heap.size := by omega)); (try (have : w.heap.size + 1 < hb3w.heap.size := by omega)); (try (have : w.heap.size + 1 + 1 < hb3w.heap.size := by omega)); (try (have : w.heap.size + 1 + 1 + 1 < hb3w.heap.size := by omega)); (try (have : bX < hb3w.heap.size := by omega)); (try (have : bY < hb3w.heap.size := by omega)); (try (have : bZ < hb3w.heap.size := by omega))))
        go_ret
        exact ⟨by rw [H.out]; first | done | rfl, by (repeat' (first | (with_reducible exact Below.refl _ _) | (with_reducible assumption) | (with_reducible refine below_alloc ?_ _) | (with_reducible refine Below.drew ?_) | (with_reducible refine below_drewN ?_ _) | (with_reducible refine below_step (by assumption) ?_) | (with_reducible refine below_later ?_ _) | (with_reducible refine Below.setCell ?_ ?_ _) | go_size))⟩
theorem reff_any (rx ry : Option Addr) (cx cy : Nat) (xs ys : List Int) (l : Int) (w : World) (hx : IsInts w rx cx .i64 xs) (hy : IsInts w ry cy .i64 ys) (hok : CurveOk xs ys) :
    Calls Try.prog 46 #[.agg #[.slice rx xs.length cx, .slice ry ys.length cy], .int .i64 l] w fun e w' => e = .returned (.int .i64 (cval xs ys l)) ∧ Below w.heap.size w w' := by
  have HA := Lib.hid (fun w hx hy => rat_any rx ry cx cy xs ys l w hx hy hok)
  have Hx : Hid (∀ w', Below w.heap.size w w' → IsInts w' rx cx .i64 xs) := Lib.hid (fun _ h => hx.later h)
  have Hy : Hid (∀ w', Below w.heap.size w w' → IsInts w' ry cy .i64 ys) := Lib.hid (fun _ h => hy.later h)
  clear hx hy hok
  go_enter Try.func46, Try.ntmps46
  go_wp2_with ((go_at_call 87; refine (HA.out _ (Hx.out _ (by (repeat' (first | (with_reducible exact Below.refl _ _) | (with_reducible assumption) | (with_reducible refine below_alloc ?_ _) | (with_reducible refine Below.drew ?_) | (with_reducible refine below_drewN ?_ _) | (with_reducible refine below_step (by assumption) ?_) | (with_reducible refine below_later ?_ _) | (with_reducible refine Below.setCell ?_ ?_ _) | go_size)))) (Hy.out _ (by (repeat' (first | (with_reducible exact Below.refl _ _) | (with_reducible assumption) | (with_reducible refine below_alloc ?_ _) | (with_reducible refine Below.drew ?_) | (with_reducible refine below_drewN ?_ _) | (with_reducible refine below_step (by assumption) ?_) | (with_reducible refine below_later ?_ _) | (with_reducible refine Below.setCell ?_ ?_ _) | go_size))))).mono ?_; rintro e hb1w ⟨rfl, hb1⟩; obtain ⟨hb1c, hb1f⟩ := bcell hb1; have hb1s := hb1.size; (try simp only [World.size_alloc] at hb1s); (try (have : w.heap.size < hb1w.heap.size := by omega)); (try (have : w.heap.size + 1 < hb1w.heap.size := by omega)); (try (have : w.heap.size + 1 + 1 < hb1w.heap.size := by omega)); (try (have : w.heap.size + 1 + 1 + 1 < hb1w.heap.size := by omega)); (try (have : bX < hb1w.heap.size := by omega)); (try (have : bY < hb1w.heap.size := by omega)); (try (have : bZ < hb1w.heap.size := by omega))))
  go_ret
  exact ⟨rfl, by (repeat' (first | (with_reducible exact Below.refl _ _) | (with_reducible assumption) | (with_reducible refine below_alloc ?_ _) | (with_reducible refine Below.drew ?_) | (with_reducible refine below_drewN ?_ _) | (with_reducible refine below_step (by assumption) ?_) | (with_reducible refine below_later ?_ _) | (with_reducible refine Below.setCell ?_ ?_ _) | go_size))⟩
end Go.Proofs.Ytohdbneaganfbaa
