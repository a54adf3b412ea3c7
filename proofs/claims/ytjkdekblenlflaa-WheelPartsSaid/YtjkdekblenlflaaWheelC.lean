/- Contracts of Next of wheels and of the reference's. Printed by a program. -/
import Derived.Test.YtjkdekblenlflaaWheelB
namespace Go.Proofs.Ytjkdekblenlflaa
set_option linter.unusedVariables false
set_option linter.unusedSimpArgs false
open Go.RowKit Go.ChangeShapes Go.WideShapes Go.ChangeAt

def next3 (T M p : Int) : Int × Int × Int := if wheelB T M = true then (if posB p = true then ((wnext T M p).1, (wnext T M p).2, 0) else (0, 0, 2)) else (0, 0, 1)
@[go_sem] def tup3 (p : Int × Int × Int) : Value := .tuple #[.int .i64 p.1, .int .i64 p.2.1, .int .i64 p.2.2]
theorem next_any (T M p : Int) (w : World) : Calls Try.prog 18 #[.agg #[.int .i64 T, .int .i64 M], .int .i64 p] w fun e w' => e = .returned (tup3 (next3 T M p)) ∧ Below w.heap.size w w' := by
  cases h : wheelB T M with
  | false =>
    have H := Lib.hid (show next3 T M p = (0, 0, 1) by simp [next3, h])
    go_enter Try.func18, Try.ntmps18
    go_wp2_with ((go_at_call 13; refine (wvalid_any _ _ _).mono ?_; rintro e hb1w ⟨rfl, hb1⟩; obtain ⟨hb1c, hb1f⟩ := bcell hb1; have hb1s := hb1.size; (try simp only [World.size_alloc] at hb1s); (try (have : w.heap.size < hb1w.heap.size := by omega)); (try (have : w.heap.size + 1 < hb1w.heap.size := by omega)); (try (have : w.heap.size + 1 + 1 < hb1w.heap.size := by omega)); (try (have : w.heap.size + 1 + 1 + 1 < hb1w.heap.size := by omega)); (try (have : bX < hb1w.heap.size := by omega)); (try (have : bY < hb1w.heap.size := by omega)); (try (have : bZ < hb1w.heap.size := by omega))))
    go_returns
    exact ⟨by rw [H.out]; rfl, by (repeat' (first | (with_reducible exact Below.refl _ _) | (with_reducible assumption) | (with_reducible refine below_alloc ?_ _) | (with_reducible refine Below.drew ?_) | (with_reducible refine below_drewN ?_ _) | (with_reducible refine below_step (by assumption) ?_) | (with_reducible refine below_later ?_ _) | (with_reducible refine Below.setCell ?_ ?_ _) | go_size))⟩
  | true =>
    cases hp : posB p with
    | false =>
      have H := Lib.hid (show next3 T M p = (0, 0, 2) by simp [next3, h, hp])
      go_enter Try.func18, Try.ntmps18
      go_wp2_with (first | (go_at_call 13; refine (wvalid_any _ _ _).mono ?_; rintro e hb1w ⟨rfl, hb1⟩; obtain ⟨hb1c, hb1f⟩ := bcell hb1; have hb1s := hb1.size; (try simp only [World.size_alloc] at hb1s); (try (have : w.heap.size < hb1w.heap.size := by omega)); (try (have : w.heap.size + 1 < hb1w.heap.size := by omega)); (try (have : w.heap.size + 1 + 1 < hb1w.heap.size := by omega)); (try (have : w.heap.size + 1 + 1 + 1 < hb1w.heap.size := by omega)); (try (have : bX < hb1w.heap.size := by omega)); (try (have : bY < hb1w.heap.size := by omega)); (try (have : bZ < hb1w.heap.size := by omega))) | (go_at_call 34; refine (pos_any _ _).mono ?_; rintro e w' ⟨rfl, rfl⟩))
      go_returns
      exact ⟨by rw [H.out]; rfl, by (repeat' (first | (with_reducible exact Below.refl _ _) | (with_reducible assumption) | (with_reducible refine below_alloc ?_ _) | (with_reducible refine Below.drew ?_) | (with_reducible refine below_drewN ?_ _) | (with_reducible refine below_step (by assumption) ?_) | (with_reducible refine below_later ?_ _) | (with_reducible refine Below.setCell ?_ ?_ _) | go_size))⟩
    | true =>
      have H := Lib.hid (show next3 T M p = ((wnext T M p).1, (wnext T M p).2, 0) by simp [next3, h, hp])
      have ⟨h0, h1⟩ := posB_true.1 hp
      have HN := Lib.hid (fun w => wnext_any T M p w h h0 (by omega))
      generalize wnext T M p = n at *
      go_enter Try.func18, Try.ntmps18
      go_wp2_with (first | (go_at_call 13; refine (wvalid_any _ _ _).mono ?_; rintro e hb1w ⟨rfl, hb1⟩; obtain ⟨hb1c, hb1f⟩ := bcell hb1; have hb1s := hb1.size; (try simp only [World.size_alloc] at hb1s); (try (have : w.heap.size < hb1w.heap.size := by omega)); (try (have : w.heap.size + 1 < hb1w.heap.size := by omega)); (try (have : w.heap.size + 1 + 1 < hb1w.heap.size := by omega)); (try (have : w.heap.size + 1 + 1 + 1 < hb1w.heap.size := by omega)); (try (have : bX < hb1w.heap.size := by omega)); (try (have : bY < hb1w.heap.size := by omega)); (try (have : bZ < hb1w.heap.size := by omega))) | (go_at_call 34; refine (pos_any _ _).mono ?_; rintro e w' ⟨rfl, rfl⟩) | (go_at_call 35; refine (HN.out _).mono ?_; rintro e hb2w ⟨rfl, hb2⟩; obtain ⟨hb2c, hb2f⟩ := bcell hb2; have hb2s := hb2.size; (try simp only [World.size_alloc] at hb2s); (try (have : w.heap.size < hb2w.heap.size := by omega)); (try (have : w.heap.size + 1 < hb2w.heap.size := by omega)); (try (have : w.heap.size + 1 + 1 < hb2w.heap.size := by omega)); (try (have : w.heap.size + 1 + 1 + 1 < hb2w.heap.size := by omega)); (try (have : bX < hb2w.heap.size := by omega)); (try (have : bY < hb2w.heap.size := by omega)); (try (have : bZ < hb2w.heap.size := by omega))))
      go_returns
      exact ⟨by rw [H.out]; rfl, by (repeat' (first | (with_reducible exact Below.refl _ _) | (with_reducible assumption) | (with_reducible refine below_alloc ?_ _) | (with_reducible refine Below.drew ?_) | (with_reducible refine below_drewN ?_ _) | (with_reducible refine below_step (by assumption) ?_) | (with_reducible refine below_later ?_ _) | (with_reducible refine Below.setCell ?_ ?_ _) | go_size))⟩

theorem rn_hit {T M p : Int} (h : wheelB T M = true) {k : Nat} (hk : (k : Int) < T - M) (h1 : p % 23040 < k * spI T) (h2 : ∀ t : Nat, t < k → t * spI T ≤ p % 23040) : wnext T M p = (p - p % 23040 + k * spI T, (k : Int)) := by
  have ⟨s1, s2, _⟩ := spI_bd h
  have hk0 : 0 < k := by
    rcases Nat.eq_zero_or_pos k with e | e
    · subst e
      have : 0 ≤ p % 23040 := by omega
      simp at h1
      omega
    · exact e
  have h3 := h2 (k - 1) (by omega)
  have e : p % 23040 / spI T = k - 1 := by
    apply Int.le_antisymm
    · exact Int.lt_add_one_iff.1 ((Int.ediv_lt_iff_lt_mul (by omega)).2 (by rw [show (k : Int) - 1 + 1 = k by omega]; exact h1))
    · exact (Int.le_ediv_iff_mul_le (by omega)).2 (by rw [show ((k : Int) - 1) = ((k - 1 : Nat) : Int) by omega]; exact h3)
  unfold wnext
  rw [e, if_neg (by omega), show (k : Int) - 1 + 1 = k by omega]
theorem rn_none {T M p : Int} (h : wheelB T M = true) {k : Nat} (hk : (k : Int) = T - M) (h2 : ∀ t : Nat, t < k → t * spI T ≤ p % 23040) : wnext T M p = (p - p % 23040 + 23040, 0) := by
  have ⟨s1, s2, _⟩ := spI_bd h
  obtain ⟨t0, t1, t2, _⟩ := wheelB_true.1 h
  have h3 := h2 (k - 1) (by omega)
  have e : (k : Int) - 1 ≤ p % 23040 / spI T := (Int.le_ediv_iff_mul_le (by omega)).2 (by rw [show ((k : Int) - 1) = ((k - 1 : Nat) : Int) by omega]; exact h3)
  unfold wnext
  rw [if_pos (by omega)]
theorem rnext_any (T M p : Int) (w : World) (h : wheelB T M = true) (h0 : 0 ≤ p) (h1 : p ≤ 2199023255552) : Calls Try.prog 20 #[.agg #[.int .i64 T, .int .i64 M], .int .i64 p] w fun e w' => e = .returned (tup2 (wnext T M p)) ∧ Below w.heap.size w w' := by
  have HSP := Lib.hid (fun w => rspace_any T M w h)
  have HTE := Lib.hid (fun w => rteeth_any T M w h)
  have ⟨s1, s2, _⟩ := spI_bd h
  obtain ⟨t0, t1, t2, _⟩ := wheelB_true.1 h
  have m1 : 1 ≤ M := by omega
  have m2 : M ≤ 2 := by omega
  have HH := Lib.hid (fun k => @rn_hit T M p h k)
  have HN := Lib.hid (fun k => @rn_none T M p h k)
  clear t0 h
  generalize spI T = s at *
  have hd0 : p / 23040 * 23040 = p - p % 23040 := by omega
  have hd1 : (p / 23040 + 1) * 23040 = p - p % 23040 + 23040 := by omega
  have q1 : 0 ≤ p % 23040 := by omega
  have q2 : p % 23040 < 23040 := by omega
  have q3 : 0 ≤ p - p % 23040 := by omega
  have q4 : p - p % 23040 ≤ p := by omega
  have d1 : 0 ≤ p / 23040 := by omega
  have d2 : p / 23040 ≤ 100000000 := by omega
  have hn : ∃ n : Nat, (n : Int) = T - M := ⟨(T - M).toNat, by omega⟩
  obtain ⟨n, hn⟩ := hn
  go_enter Try.func20, Try.ntmps20
  go_wp2
  go_loopg [7] n (fun kx s7 wr => ∃ (k : Nat) (e : Later (w.alloc (.cells #[.int .i64 T, .int .i64 M] 23))), s7 = .int .i64 k ∧ k ≤ n ∧ n - k ≤ kx ∧ wr = e.w ∧ Hid (∀ t : Nat, t < k → t * s ≤ p % 23040))
  case atStart => exact ⟨0, ⟨_, Below.refl _ _⟩, rfl, by omega, by omega, rfl, Lib.hid (fun t ht => absurd ht (Nat.not_lt_zero _))⟩
  case round =>
    obtain ⟨k, e, rfl, hk, hkx, rfl, HQ⟩ := hrel
    have hes := e.h.size
    have hbo : w.heap.size < e.w.heap.size := by simp only [World.size_alloc] at hes; omega
    by_cases hlt : k < n
    · have hk1 : (k : Int) < T - M := by omega
      have hm : 0 ≤ (k : Int) * s ∧ (k : Int) * s ≤ 120 * 1920 := ⟨Int.mul_nonneg (by omega) (by omega), Int.mul_le_mul (by omega) s2 (by omega) (by omega)⟩
      have hw1 : IntKind.i64.wrap ((k : Int) * s) = k * s := IntWalk.i64_in _ (by omega)
      have hw2 : IntKind.i64.wrap (p - p % 23040 + (k : Int) * s) = p - p % 23040 + k * s := IntWalk.i64_in _ (by omega)
      by_cases hc : p % 23040 < (k : Int) * s
      · have H := Lib.hid (HH.out k hk1 hc HQ.out)
        have hc2 : p < p - p % 23040 + (k : Int) * s := by omega
        clear HN HH
        go_wp2_with (first | (go_at_call 17; refine (HTE.out _).mono ?_; rintro e hb2w ⟨rfl, hb2⟩; obtain ⟨hb2c, hb2f⟩ := bcell hb2; have hb2s := hb2.size; (try simp only [World.size_alloc] at hb2s); (try (have : w.heap.size < hb2w.heap.size := by omega)); (try (have : w.heap.size + 1 < hb2w.heap.size := by omega)); (try (have : w.heap.size + 1 + 1 < hb2w.heap.size := by omega)); (try (have : w.heap.size + 1 + 1 + 1 < hb2w.heap.size := by omega)); (try (have : bX < hb2w.heap.size := by omega)); (try (have : bY < hb2w.heap.size := by omega)); (try (have : bZ < hb2w.heap.size := by omega))) | (go_at_call 16; refine (HSP.out _).mono ?_; rintro e hb3w ⟨rfl, hb3⟩; obtain ⟨hb3c, hb3f⟩ := bcell hb3; have hb3s := hb3.size; (try simp only [World.size_alloc] at hb3s); (try (have : w.heap.size < hb3w.heap.size := by omega)); (try (have : w.heap.size + 1 < hb3w.heap.size := by omega)); (try (have : w.heap.size + 1 + 1 < hb3w.heap.size := by omega)); (try (have : w.heap.size + 1 + 1 + 1 < hb3w.heap.size := by omega)); (try (have : bX < hb3w.heap.size := by omega)); (try (have : bY < hb3w.heap.size := by omega)); (try (have : bZ < hb3w.heap.size := by omega))))
        go_ret2
        exact ⟨by rw [H.out]; first | rfl | (simp [tup2, *]; done), by (repeat' (first | (with_reducible exact Below.refl _ _) | (with_reducible assumption) | (with_reducible refine below_alloc ?_ _) | (with_reducible refine Below.drew ?_) | (with_reducible refine below_drewN ?_ _) | (with_reducible refine below_step (by assumption) ?_) | (with_reducible refine below_later ?_ _) | (with_reducible refine Below.setCell ?_ ?_ _) | go_size))⟩
      · have hc2 : ¬ p < p - p % 23040 + (k : Int) * s := by omega
        have HQ2 := Lib.hid (fun t (ht : t < k + 1) => show (t : Int) * s ≤ p % 23040 by
          by_cases e : t = k
          · subst e; omega
          · exact HQ.out t (by omega))
        go_wp2_with (first | (go_at_call 17; refine (HTE.out _).mono ?_; rintro e hb2w ⟨rfl, hb2⟩; obtain ⟨hb2c, hb2f⟩ := bcell hb2; have hb2s := hb2.size; (try simp only [World.size_alloc] at hb2s); (try (have : w.heap.size < hb2w.heap.size := by omega)); (try (have : w.heap.size + 1 < hb2w.heap.size := by omega)); (try (have : w.heap.size + 1 + 1 < hb2w.heap.size := by omega)); (try (have : w.heap.size + 1 + 1 + 1 < hb2w.heap.size := by omega)); (try (have : bX < hb2w.heap.size := by omega)); (try (have : bY < hb2w.heap.size := by omega)); (try (have : bZ < hb2w.heap.size := by omega))) | (go_at_call 16; refine (HSP.out _).mono ?_; rintro e hb3w ⟨rfl, hb3⟩; obtain ⟨hb3c, hb3f⟩ := bcell hb3; have hb3s := hb3.size; (try simp only [World.size_alloc] at hb3s); (try (have : w.heap.size < hb3w.heap.size := by omega)); (try (have : w.heap.size + 1 < hb3w.heap.size := by omega)); (try (have : w.heap.size + 1 + 1 < hb3w.heap.size := by omega)); (try (have : w.heap.size + 1 + 1 + 1 < hb3w.heap.size := by omega)); (try (have : bX < hb3w.heap.size := by omega)); (try (have : bY < hb3w.heap.size := by omega)); (try (have : bZ < hb3w.heap.size := by omega))))
        go_roundg (n - (k + 1))
        case measure => omega
        case rel => exact ⟨k + 1, ⟨_, by (repeat' (first | (with_reducible exact Below.refl _ _) | (with_reducible assumption) | (with_reducible refine below_alloc ?_ _) | (with_reducible refine Below.drew ?_) | (with_reducible refine below_drewN ?_ _) | (with_reducible refine below_step (by assumption) ?_) | (with_reducible refine below_later ?_ _) | (with_reducible refine Below.setCell ?_ ?_ _) | go_size))⟩, by go_num, by omega, by omega, rfl, HQ2⟩
    · obtain rfl : k = n := by omega
      have H := Lib.hid (HN.out k hn HQ.out)
      have hk1 : ¬ (k : Int) < T - M := by omega
      go_wp2_with (first | (go_at_call 17; refine (HTE.out _).mono ?_; rintro e hb2w ⟨rfl, hb2⟩; obtain ⟨hb2c, hb2f⟩ := bcell hb2; have hb2s := hb2.size; (try simp only [World.size_alloc] at hb2s); (try (have : w.heap.size < hb2w.heap.size := by omega)); (try (have : w.heap.size + 1 < hb2w.heap.size := by omega)); (try (have : w.heap.size + 1 + 1 < hb2w.heap.size := by omega)); (try (have : w.heap.size + 1 + 1 + 1 < hb2w.heap.size := by omega)); (try (have : bX < hb2w.heap.size := by omega)); (try (have : bY < hb2w.heap.size := by omega)); (try (have : bZ < hb2w.heap.size := by omega))) | (go_at_call 16; refine (HSP.out _).mono ?_; rintro e hb3w ⟨rfl, hb3⟩; obtain ⟨hb3c, hb3f⟩ := bcell hb3; have hb3s := hb3.size; (try simp only [World.size_alloc] at hb3s); (try (have : w.heap.size < hb3w.heap.size := by omega)); (try (have : w.heap.size + 1 < hb3w.heap.size := by omega)); (try (have : w.heap.size + 1 + 1 < hb3w.heap.size := by omega)); (try (have : w.heap.size + 1 + 1 + 1 < hb3w.heap.size := by omega)); (try (have : bX < hb3w.heap.size := by omega)); (try (have : bY < hb3w.heap.size := by omega)); (try (have : bZ < hb3w.heap.size := by omega))))
      go_ret2
      exact ⟨by rw [H.out]; first | rfl | (simp [tup2, *]; done), by (repeat' (first | (with_reducible exact Below.refl _ _) | (with_reducible assumption) | (with_reducible refine below_alloc ?_ _) | (with_reducible refine Below.drew ?_) | (with_reducible refine below_drewN ?_ _) | (with_reducible refine below_step (by assumption) ?_) | (with_reducible refine below_later ?_ _) | (with_reducible refine Below.setCell ?_ ?_ _) | go_size))⟩
end Go.Proofs.Ytjkdekblenlflaa
