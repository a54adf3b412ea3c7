/- Contracts of Direction of curves and of the reference's. Printed by a program. -/
import Derived.Test.YthghalhbgppdhaaRef05
import Derived.Test.YthghalhbgppdhaaCurveB
namespace Go.Proofs.Ythghalhbgppdhaa
set_option linter.unusedVariables false
set_option linter.unusedSimpArgs false
open Go.RowKit Go.ChangeShapes Go.WideShapes Go.ChangeAt

def upTo (ys : List Int) : Nat → Bool
  | 0 => true
  | k + 1 => upTo ys k && decide (ys.getD k 0 ≤ ys.getD (k + 1) 0)
def downTo (ys : List Int) : Nat → Bool
  | 0 => true
  | k + 1 => downTo ys k && decide (ys.getD (k + 1) 0 ≤ ys.getD k 0)
def dirI (ys : List Int) : Int := if upTo ys (ys.length - 1) = true then 1 else if downTo ys (ys.length - 1) = true then -1 else 0
theorem upTo_iff (ys : List Int) : ∀ k, upTo ys k = true ↔ ∀ t, t < k → ys.getD t 0 ≤ ys.getD (t + 1) 0
  | 0 => by simp [upTo]
  | k + 1 => by
    simp only [upTo, Bool.and_eq_true, decide_eq_true_eq, upTo_iff ys k]
    refine ⟨fun h t ht => ?_, fun h => ⟨fun t ht => h t (by omega), h k (by omega)⟩⟩
    by_cases e : t = k
    · subst e; exact h.2
    · exact h.1 t (by omega)
theorem downTo_iff (ys : List Int) : ∀ k, downTo ys k = true ↔ ∀ t, t < k → ys.getD (t + 1) 0 ≤ ys.getD t 0
  | 0 => by simp [downTo]
  | k + 1 => by
    simp only [downTo, Bool.and_eq_true, decide_eq_true_eq, downTo_iff ys k]
    refine ⟨fun h t ht => ?_, fun h => ⟨fun t ht => h t (by omega), h k (by omega)⟩⟩
    by_cases e : t = k
    · subst e; exact h.2
    · exact h.1 t (by omega)
theorem dir_one {ys : List Int} : dirI ys = 1 ↔ UpL ys := by
  have : upTo ys (ys.length - 1) = true ↔ UpL ys := by
    rw [upTo_iff]
    exact ⟨fun h t ht => h t (by omega), fun h t ht => h t (by omega)⟩
  unfold dirI
  by_cases h : upTo ys (ys.length - 1) = true
  · rw [if_pos h]
    exact ⟨fun _ => this.1 h, fun _ => rfl⟩
  · rw [if_neg h]
    refine ⟨fun e => ?_, fun e => absurd (this.2 e) h⟩
    split at e <;> omega

set_option maxHeartbeats 1000000 in
theorem rdir_any (rx ry : Option Addr) (cx cy : Nat) (xs ys : List Int) (w : World) (hy : IsInts w ry cy .i64 ys) (hok : CurveOk xs ys) :
    Calls Try.prog 42 #[.agg #[.slice rx xs.length cx, .slice ry ys.length cy]] w fun e w' => e = .returned (.int .i64 (dirI ys)) ∧ Below w.heap.size w w' := by
  obtain ⟨bX, off, rfl, hb, hc⟩ := hy.cells (fun e => by subst e; have h1 := hok.1; have h2 := hok.2.1.1; simp at h1; simp [h1] at h2)
  have hl1 : 2 ≤ ys.length := by have := hok.1; have := hok.2.1.1; omega
  have hl2 : ys.length ≤ 32 := by have := hok.1; have := hok.2.1.2.1; omega
  have HC := Lib.hid hc
  clear hok hy
  clear hc
  generalize hn : ys.length = n at *
  have HN := Lib.hid hn
  clear hn
  go_enter Try.func42, Try.ntmps42
  go_wp2
  go_loopg [3, 4, 5] n (fun kx s3 s4 s5 wr => ∃ (k : Nat) (e : Later (w.alloc (.cells #[.slice rx xs.length cx, .slice (some ⟨bX, off, none⟩) n cy] 29))), s3 = .bool (upTo ys k) ∧ s4 = .bool (downTo ys k) ∧ s5 = .int .i64 k ∧ k + 1 ≤ n ∧ n - k ≤ kx ∧ wr = e.w)
  case atStart => exact ⟨0, ⟨_, Below.refl _ _⟩, rfl, rfl, rfl, by omega, by omega, rfl⟩
  case round =>
    obtain ⟨k, e, rfl, rfl, rfl, hk, hkx, rfl⟩ := hrel
    have hes := e.h.size
    have hbe : bX < e.w.heap.size := by (try simp only [World.size_alloc] at hes); omega
    have hbo : w.heap.size < e.w.heap.size := by (try simp only [World.size_alloc] at hes); omega
    have hbw : Below w.heap.size w e.w := by (repeat' (first | (with_reducible exact Below.refl _ _) | (with_reducible assumption) | (with_reducible refine below_alloc ?_ _) | (with_reducible refine Below.drew ?_) | (with_reducible refine below_drewN ?_ _) | (with_reducible refine below_step (by assumption) ?_) | (with_reducible refine below_later ?_ _) | (with_reducible refine Below.setCell ?_ ?_ _) | go_size))
    by_cases hlt : k + 1 < n
    · have hc1 : e.w.cell? ⟨bX, off + k, none⟩ = some (.int .i64 (ys.getD k 0)) := by
        rw [hbw.cell (p := ⟨bX, off + k, none⟩) hb]
        exact HC.out k (by have := HN.out; omega)
      have hc2 : e.w.cell? ⟨bX, off + (k + 1), none⟩ = some (.int .i64 (ys.getD (k + 1) 0)) := by
        rw [hbw.cell (p := ⟨bX, off + (k + 1), none⟩) hb]
        exact HC.out (k + 1) (by have := HN.out; omega)
      have HU : Hid (upTo ys (k + 1) = (upTo ys k && decide (ys.getD k 0 ≤ ys.getD (k + 1) 0))) := Lib.hid rfl
      have HD : Hid (downTo ys (k + 1) = (downTo ys k && decide (ys.getD (k + 1) 0 ≤ ys.getD k 0))) := Lib.hid rfl
      have hn1 : (k : Int) < (n : Int) - 1 := by omega
      have hn2 : (k : Int) + 1 < (n : Int) := by omega
      have hk0 : (0 : Int) ≤ (k : Int) := by omega
      have hw1 : IntKind.i64.wrap ((k : Int) + 1) = ((k + 1 : Nat) : Int) := by rw [IntWalk.i64_in _ (by omega)]; omega
      generalize ys.getD k 0 = a at hc1 HU HD
      generalize ys.getD (k + 1) 0 = c at hc2 HU HD
      cases hu : upTo ys k <;> cases hd : downTo ys k
      all_goals
        rw [hu] at HU
        rw [hd] at HD
        clear hu hd
        go_wp2
        go_quiet (fail)
        go_wp2
        go_quiet (fail)
        go_wp2
        go_roundg (n - (k + 1))
        case measure => omega
        case rel =>
          exact ⟨k + 1, ⟨_, below_drewN e.h _⟩, by rw [HU.out]; simp, by rw [HD.out]; simp, by go_num, by omega, by omega, rfl⟩
    · obtain rfl : n = k + 1 := by omega
      have hn1 : ¬ (k : Int) < ((k + 1 : Nat) : Int) - 1 := by omega
      have H : Hid (dirI ys = if upTo ys k = true then 1 else if downTo ys k = true then -1 else 0) := Lib.hid (by have := HN.out; unfold dirI; rw [this]; rfl)
      generalize upTo ys k = u at *
      generalize downTo ys k = d at *
      cases u <;> cases d
      all_goals
        go_wp2
        go_ret
        exact ⟨by rw [H.out]; simp, by (repeat' (first | (with_reducible exact Below.refl _ _) | (with_reducible assumption) | (with_reducible refine below_alloc ?_ _) | (with_reducible refine Below.drew ?_) | (with_reducible refine below_drewN ?_ _) | (with_reducible refine below_step (by assumption) ?_) | (with_reducible refine below_later ?_ _) | (with_reducible refine Below.setCell ?_ ?_ _) | go_size))⟩

set_option maxHeartbeats 1000000 in
theorem dir_any (rx ry : Option Addr) (cx cy : Nat) (xs ys : List Int) (w : World) (hx : IsInts w rx cx .i64 xs) (hy : IsInts w ry cy .i64 ys) (hok : CurveOk xs ys) :
    Calls Try.prog 27 #[.agg #[.slice rx xs.length cx, .slice ry ys.length cy]] w fun e w' => e = .returned (.int .i64 (dirI ys)) ∧ Below w.heap.size w w' := by
  have HX : Hid (∀ w', Below w.heap.size w w' → IsInts w' rx cx .i64 xs) := Lib.hid (fun _ h => hx.later h)
  have HY : Hid (∀ w', Below w.heap.size w w' → IsInts w' ry cy .i64 ys) := Lib.hid (fun _ h => hy.later h)
  obtain ⟨bX, off, rfl, hb, hc⟩ := hy.cells (fun e => by subst e; have h1 := hok.1; have h2 := hok.2.1.1; simp at h1; simp [h1] at h2)
  have hl1 : 2 ≤ ys.length := by have := hok.1; have := hok.2.1.1; omega
  have hl2 : ys.length ≤ 32 := by have := hok.1; have := hok.2.1.2.1; omega
  have HC := Lib.hid hc
  have hcv := curveB_true.2 hok
  clear hok hy hx
  clear hc
  generalize hn : ys.length = n at HC hl1 hl2 ⊢
  have HN := Lib.hid hn
  clear hn
  go_enter Try.func27, Try.ntmps27
  go_wp2_with ((go_at_call 21; refine (HN.out ▸ curveValid_any _ _ _ _ _ _ _ (HX.out _ (by (repeat' (first | (with_reducible exact Below.refl _ _) | (with_reducible assumption) | (with_reducible refine below_alloc ?_ _) | (with_reducible refine Below.drew ?_) | (with_reducible refine below_drewN ?_ _) | (with_reducible refine below_step (by assumption) ?_) | (with_reducible refine below_later ?_ _) | (with_reducible refine Below.setCell ?_ ?_ _) | go_size)))) (HY.out _ (by (repeat' (first | (with_reducible exact Below.refl _ _) | (with_reducible assumption) | (with_reducible refine below_alloc ?_ _) | (with_reducible refine Below.drew ?_) | (with_reducible refine below_drewN ?_ _) | (with_reducible refine below_step (by assumption) ?_) | (with_reducible refine below_later ?_ _) | (with_reducible refine Below.setCell ?_ ?_ _) | go_size))))).mono ?_; rintro e hb1w ⟨rfl, hb1⟩; obtain ⟨hb1c, hb1f⟩ := bcell hb1; have hb1s := hb1.size; (try simp only [World.size_alloc] at hb1s); (try (have : w.heap.size < hb1w.heap.size := by omega)); (try (have : w.heap.size + 1 < hb1w.heap.size := by omega)); (try (have : w.heap.size + 1 + 1 < hb1w.heap.size := by omega)); (try (have : w.heap.size + 1 + 1 + 1 < hb1w.heap.size := by omega)); (try (have : bX < hb1w.heap.size := by omega)); (try (have : bY < hb1w.heap.size := by omega)); (try (have : bZ < hb1w.heap.size := by omega))))
  go_loopg [3, 4, 13] n (fun kx s3 s4 s13 wr => ∃ (k : Nat) (e : Later hb1w), s3 = .bool (upTo ys k) ∧ s4 = .bool (downTo ys k) ∧ s13 = .int .i64 k ∧ k + 1 ≤ n ∧ n - k ≤ kx ∧ wr = e.w)
  case atStart => exact ⟨0, ⟨_, Below.refl _ _⟩, rfl, rfl, rfl, by omega, by omega, rfl⟩
  case round =>
    obtain ⟨k, e, rfl, rfl, rfl, hk, hkx, rfl⟩ := hrel
    have hes := e.h.size
    have hbe : bX < e.w.heap.size := by (try simp only [World.size_alloc] at hes); omega
    have hbo : w.heap.size < e.w.heap.size := by (try simp only [World.size_alloc] at hes); omega
    have hbw : Below w.heap.size w e.w := by (repeat' (first | (with_reducible exact Below.refl _ _) | (with_reducible assumption) | (with_reducible refine below_alloc ?_ _) | (with_reducible refine Below.drew ?_) | (with_reducible refine below_drewN ?_ _) | (with_reducible refine below_step (by assumption) ?_) | (with_reducible refine below_later ?_ _) | (with_reducible refine Below.setCell ?_ ?_ _) | go_size))
    by_cases hlt : k + 1 < n
    · have hc1 : e.w.cell? ⟨bX, off + k, none⟩ = some (.int .i64 (ys.getD k 0)) := by
        rw [hbw.cell (p := ⟨bX, off + k, none⟩) hb]
        exact HC.out k (by have := HN.out; omega)
      have hc2 : e.w.cell? ⟨bX, off + (k + 1), none⟩ = some (.int .i64 (ys.getD (k + 1) 0)) := by
        rw [hbw.cell (p := ⟨bX, off + (k + 1), none⟩) hb]
        exact HC.out (k + 1) (by have := HN.out; omega)
      have HU : Hid (upTo ys (k + 1) = (upTo ys k && decide (ys.getD k 0 ≤ ys.getD (k + 1) 0))) := Lib.hid rfl
      have HD : Hid (downTo ys (k + 1) = (downTo ys k && decide (ys.getD (k + 1) 0 ≤ ys.getD k 0))) := Lib.hid rfl
      have hn1 : (k : Int) < (n : Int) - 1 := by omega
      have hn2 : (k : Int) + 1 < (n : Int) := by omega
      have hk0 : (0 : Int) ≤ (k : Int) := by omega
      have hw1 : IntKind.i64.wrap ((k : Int) + 1) = ((k + 1 : Nat) : Int) := by rw [IntWalk.i64_in _ (by omega)]; omega
      generalize ys.getD k 0 = a at hc1 HU HD
      generalize ys.getD (k + 1) 0 = c at hc2 HU HD
      cases hu : upTo ys k <;> cases hd : downTo ys k
      all_goals
        rw [hu] at HU
        rw [hd] at HD
        clear hu hd
        go_wp2
        go_quiet (fail)
        go_wp2
        go_quiet (fail)
        go_wp2
        go_roundg (n - (k + 1))
        case measure => omega
        case rel =>
          exact ⟨k + 1, ⟨_, below_drewN e.h _⟩, by rw [HU.out]; simp, by rw [HD.out]; simp, by go_num, by omega, by omega, rfl⟩
    · obtain rfl : n = k + 1 := by omega
      have hn1 : ¬ (k : Int) < ((k + 1 : Nat) : Int) - 1 := by omega
      have H : Hid (dirI ys = if upTo ys k = true then 1 else if downTo ys k = true then -1 else 0) := Lib.hid (by have := HN.out; unfold dirI; rw [this]; rfl)
      generalize upTo ys k = u at *
      generalize downTo ys k = d at *
      cases u <;> cases d
      all_goals
        go_wp2
        go_ret
        exact ⟨by rw [H.out]; simp, by (repeat' (first | (with_reducible exact Below.refl _ _) | (with_reducible assumption) | (with_reducible refine below_alloc ?_ _) | (with_reducible refine Below.drew ?_) | (with_reducible refine below_drewN ?_ _) | (with_reducible refine below_step (by assumption) ?_) | (with_reducible refine below_later ?_ _) | (with_reducible refine Below.setCell ?_ ?_ _) | go_size))⟩
end Go.Proofs.Ythghalhbgppdhaa
