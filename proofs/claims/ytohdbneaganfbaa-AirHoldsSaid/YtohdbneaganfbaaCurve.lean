/- Contracts of curve's Valid, segment, value and At. -/
import Derived.Test.YtohdbneaganfbaaCurveP
import Derived.Test.YtohdbneaganfbaaSlices
import Derived.Test.YtohdbneaganfbaaArith
namespace Go.Proofs.Ytohdbneaganfbaa
set_option linter.unusedVariables false
set_option linter.unusedSimpArgs false
open Go.RowKit Go.ChangeShapes Go.WideShapes Go.ChangeAt

theorem far_any (x : Int) (w : World) : Calls Try.prog 98 #[.int .i64 x] w fun e w' => e = .returned (.bool (farB x)) ∧ w = w' := by
  go_enter Try.func98, Try.ntmps98
  go_wp2
  all_goals go_ret
  all_goals exact ⟨ret_bool (by grind [farB]), rfl⟩
theorem below_same {P : Program} {f : FuncId} {args : Array Value} {w : World} {v : Value} (h : Calls P f args w fun e w' => e = .returned v ∧ w = w') : Calls P f args w fun e w' => e = .returned v ∧ Below w.heap.size w w' :=
  h.mono fun _ _ ⟨he, hw⟩ => ⟨he, by subst hw; exact Below.refl _ _⟩

theorem farAny_any (r : Option Addr) (cap : Nat) (xs : List Int) (w : World) (hxs : IsInts w r cap .i64 xs) :
    Calls Try.prog 66 #[.slice r xs.length cap, .func (.func 98) #[] #[]] w fun e w' => e = .returned (.bool (xs.any farB)) ∧ Below w.heap.size w w' :=
  containsFunc_any 98 #[] r cap xs farB w (enters_of Try.func98 (by kernel_rfl) rfl) hxs (fun e x _ => below_same (far_any x e.w))

set_option maxHeartbeats 1000000 in
theorem axis_any (r : Option Addr) (cap : Nat) (xs : List Int) (w : World) (hxs : IsInts w r cap .i64 xs) :
    Calls Try.prog 97 #[.slice r xs.length cap] w fun e w' => e = .returned (.bool (axisB xs)) ∧ Below w.heap.size w w' := by
  have HX := Lib.hid hxs
  by_cases h2 : xs.length < 2
  · have H := Lib.hid (axisB_false.2 (fun h : AxisOk xs => by have := h.1; omega))
    have h2' : (xs.length : Int) < 2 := by omega
    clear hxs h2
    go_enter Try.func97, Try.ntmps97
    go_wp2
    go_ret
    exact ⟨by rw [H.out]; first | done | rfl, by (repeat' (first | (with_reducible exact Below.refl _ _) | (with_reducible assumption) | (with_reducible refine below_alloc ?_ _) | (with_reducible refine Below.drew ?_) | (with_reducible refine below_drewN ?_ _) | (with_reducible refine below_step (by assumption) ?_) | (with_reducible refine below_later ?_ _) | (with_reducible refine Below.setCell ?_ ?_ _) | go_size))⟩
  · by_cases h3 : 32 < xs.length
    · have H := Lib.hid (axisB_false.2 (fun h : AxisOk xs => by have := h.2.1; omega))
      have h2' : ¬ (xs.length : Int) < 2 := by omega
      have h3' : (32 : Int) < xs.length := by omega
      clear hxs h2 h3
      go_enter Try.func97, Try.ntmps97
      go_wp2
      go_ret
      exact ⟨by rw [H.out]; first | done | rfl, by (repeat' (first | (with_reducible exact Below.refl _ _) | (with_reducible assumption) | (with_reducible refine below_alloc ?_ _) | (with_reducible refine Below.drew ?_) | (with_reducible refine below_drewN ?_ _) | (with_reducible refine below_step (by assumption) ?_) | (with_reducible refine below_later ?_ _) | (with_reducible refine Below.setCell ?_ ?_ _) | go_size))⟩
    · have h2' : ¬ (xs.length : Int) < 2 := by omega
      have h3' : ¬ (32 : Int) < xs.length := by omega
      cases hf : xs.any farB with
      | true =>
        have H := Lib.hid (axisB_false.2 (fun h : AxisOk xs => by have := h.2.2.1; rw [hf] at this; cases this))
        clear hxs
        go_enter Try.func97, Try.ntmps97
        go_wp2_with ((go_at_call 66; refine (farAny_any _ _ _ _ HX.out).mono ?_; rintro e hb1w ⟨rfl, hb1⟩; obtain ⟨hb1c, hb1f⟩ := bcell hb1; have hb1s := hb1.size; (try simp only [World.size_alloc] at hb1s); (try (have : w.heap.size < hb1w.heap.size := by omega)); (try (have : w.heap.size + 1 < hb1w.heap.size := by omega)); (try (have : w.heap.size + 1 + 1 < hb1w.heap.size := by omega)); (try (have : w.heap.size + 1 + 1 + 1 < hb1w.heap.size := by omega)); (try (have : bX < hb1w.heap.size := by omega)); (try (have : bY < hb1w.heap.size := by omega)); (try (have : bZ < hb1w.heap.size := by omega))))
        go_ret
        exact ⟨by rw [H.out]; first | done | rfl, by (repeat' (first | (with_reducible exact Below.refl _ _) | (with_reducible assumption) | (with_reducible refine below_alloc ?_ _) | (with_reducible refine Below.drew ?_) | (with_reducible refine below_drewN ?_ _) | (with_reducible refine below_step (by assumption) ?_) | (with_reducible refine below_later ?_ _) | (with_reducible refine Below.setCell ?_ ?_ _) | go_size))⟩
      | false =>
        obtain ⟨bX, off, rfl, hb, hc⟩ := hxs.cells (fun e => by subst e; simp at h2)
        have HC := Lib.hid hc
        clear hc hxs
        have HAX : Hid (∀ h : (∀ t, t + 1 < xs.length → xs.getD t 0 < xs.getD (t + 1) 0), AxisOk xs) := Lib.hid (fun h => ⟨by omega, by omega, hf, h⟩)
        generalize hn : xs.length = n at *
        have HN := Lib.hid hn
        clear hn
        go_enter Try.func97, Try.ntmps97
        go_wp2_with (go_at_call 66; (have hcl := farAny_any _ _ _ w HX.out); rw [HN.out] at hcl; refine hcl.mono ?_; clear hcl; rintro e hb1w ⟨rfl, hb1⟩)
        go_loopg [19] n (fun kx s19 wr => ∃ (k : Nat) (e : Later w), s19 = .int .i64 k ∧ k + 1 ≤ n ∧ n - k ≤ kx ∧ wr = e.w ∧ Hid (∀ t, t < k → xs.getD t 0 < xs.getD (t + 1) 0))
        case atStart => exact ⟨0, ⟨hb1w, hb1⟩, rfl, by omega, by omega, rfl, Lib.hid (fun t h => absurd h (Nat.not_lt_zero _))⟩
        case round =>
          obtain ⟨k, e, rfl, hk, hkx, rfl, HP⟩ := hrel
          by_cases hlt : k + 1 < n
          · have hlt' : (k : Int) < (n : Int) - 1 := by omega
            have hk1 : (0 : Int) ≤ (k : Int) := by omega
            have hk2 : (k : Int) < n := by omega
            have hk3 : (k : Int) + 1 < n := by omega
            have hw1 : IntKind.i64.wrap ((k : Int) + 1) = (k : Int) + 1 := IntWalk.i64_in _ (by omega)
            have hc1 : e.w.cell? ⟨bX, off + k, none⟩ = some (.int .i64 (xs.getD k 0)) := by
              rw [Later.cell e hb]
              exact HC.out k (by omega)
            have hc2 : e.w.cell? ⟨bX, off + (k + 1), none⟩ = some (.int .i64 (xs.getD (k + 1) 0)) := by
              rw [Later.cell e hb]
              exact HC.out (k + 1) (by omega)
            have HV : Hid (∀ a b, xs.getD k 0 = a → xs.getD (k + 1) 0 = b → xs.getD k 0 = a ∧ xs.getD (k + 1) 0 = b) := Lib.hid (fun _ _ h h' => ⟨h, h'⟩)
            generalize hx : xs.getD k 0 = x at hc1
            generalize hy : xs.getD (k + 1) 0 = y at hc2
            have HXY := Lib.hid (And.intro hx hy)
            clear hx hy
            by_cases hxy : x < y
            · go_wp2
              go_quiet (fail)
              go_wp2
              go_roundg (n - (k + 1))
              case measure => omega
              case rel =>
                refine ⟨k + 1, ⟨_, below_drewN e.h _⟩, by go_num, by omega, Nat.le_refl _, rfl, Lib.hid (fun t ht => ?_)⟩
                by_cases h : t < k
                · exact HP.out t h
                · obtain rfl : t = k := by omega
                  rw [HXY.out.1, HXY.out.2]
                  assumption
            · have H : Hid (axisB xs = false) := Lib.hid (axisB_false.2 (fun h => by have := h.2.2.2 k (by have := HN.out; omega); rw [HXY.out.1, HXY.out.2] at this; exact hxy this))
              have hxy2 : y ≤ x := by omega
              go_wp2
              go_quiet (fail)
              go_wp2
              go_ret
              exact ⟨by rw [H.out]; first | done | rfl, below_drewN e.h _⟩
          · obtain rfl : n = k + 1 := by omega
            go_wp2
            go_ret
            refine ⟨ret_bool ?_, e.h⟩
            exact (axisB_true.2 (HAX.out (fun t ht => HP.out t (by have := HN.out; omega)))).symm

theorem curveValid_any (rx ry : Option Addr) (cx cy : Nat) (xs ys : List Int) (w : World) (hx : IsInts w rx cx .i64 xs) (hy : IsInts w ry cy .i64 ys) :
    Calls Try.prog 64 #[.agg #[.slice rx xs.length cx, .slice ry ys.length cy]] w fun e w' => e = .returned (.bool (curveB xs ys)) ∧ Below w.heap.size w w' := by
  have HX : Hid (∀ w', Below w.heap.size w w' → IsInts w' rx cx .i64 xs) := Lib.hid (fun _ h => hx.later h)
  have HY : Hid (∀ w', Below w.heap.size w w' → IsInts w' ry cy .i64 ys) := Lib.hid (fun _ h => hy.later h)
  clear hx hy
  by_cases hl : xs.length = ys.length
  · have hl' : ((xs.length : Int) == (ys.length : Int)) = true := by simp [hl]
    cases ha : axisB xs with
    | false =>
      have H : Hid (curveB xs ys = false) := Lib.hid (curveB_false.2 (fun h => axisB_false.1 ha h.2.1))
      clear hl
      go_enter Try.func64, Try.ntmps64
      go_wp2_with (first | (go_at_call 97; refine (axis_any _ _ _ _ (HX.out _ (by (repeat' (first | (with_reducible exact Below.refl _ _) | (with_reducible assumption) | (with_reducible refine below_alloc ?_ _) | (with_reducible refine Below.drew ?_) | (with_reducible refine below_drewN ?_ _) | (with_reducible refine below_step (by assumption) ?_) | (with_reducible refine below_later ?_ _) | (with_reducible refine Below.setCell ?_ ?_ _) | go_size))))).mono ?_; rintro e hb1w ⟨rfl, hb1⟩; obtain ⟨hb1c, hb1f⟩ := bcell hb1; have hb1s := hb1.size; (try simp only [World.size_alloc] at hb1s); (try (have : w.heap.size < hb1w.heap.size := by omega)); (try (have : w.heap.size + 1 < hb1w.heap.size := by omega)); (try (have : w.heap.size + 1 + 1 < hb1w.heap.size := by omega)); (try (have : w.heap.size + 1 + 1 + 1 < hb1w.heap.size := by omega)); (try (have : bX < hb1w.heap.size := by omega)); (try (have : bY < hb1w.heap.size := by omega)); (try (have : bZ < hb1w.heap.size := by omega))) | (go_at_call 66; refine (farAny_any _ _ _ _ (HY.out _ (by (repeat' (first | (with_reducible exact Below.refl _ _) | (with_reducible assumption) | (with_reducible refine below_alloc ?_ _) | (with_reducible refine Below.drew ?_) | (with_reducible refine below_drewN ?_ _) | (with_reducible refine below_step (by assumption) ?_) | (with_reducible refine below_later ?_ _) | (with_reducible refine Below.setCell ?_ ?_ _) | go_size))))).mono ?_; rintro e hb2w ⟨rfl, hb2⟩; obtain ⟨hb2c, hb2f⟩ := bcell hb2; have hb2s := hb2.size; (try simp only [World.size_alloc] at hb2s); (try (have : w.heap.size < hb2w.heap.size := by omega)); (try (have : w.heap.size + 1 < hb2w.heap.size := by omega)); (try (have : w.heap.size + 1 + 1 < hb2w.heap.size := by omega)); (try (have : w.heap.size + 1 + 1 + 1 < hb2w.heap.size := by omega)); (try (have : bX < hb2w.heap.size := by omega)); (try (have : bY < hb2w.heap.size := by omega)); (try (have : bZ < hb2w.heap.size := by omega))))
      go_ret
      exact ⟨by rw [H.out]; first | done | rfl, by (repeat' (first | (with_reducible exact Below.refl _ _) | (with_reducible assumption) | (with_reducible refine below_alloc ?_ _) | (with_reducible refine Below.drew ?_) | (with_reducible refine below_drewN ?_ _) | (with_reducible refine below_step (by assumption) ?_) | (with_reducible refine below_later ?_ _) | (with_reducible refine Below.setCell ?_ ?_ _) | go_size))⟩
    | true =>
      cases hf : ys.any farB with
      | true =>
        have H : Hid (curveB xs ys = false) := Lib.hid (curveB_false.2 (fun h => by have := h.2.2; rw [hf] at this; cases this))
        clear hl
        go_enter Try.func64, Try.ntmps64
        go_wp2_with (first | (go_at_call 97; refine (axis_any _ _ _ _ (HX.out _ (by (repeat' (first | (with_reducible exact Below.refl _ _) | (with_reducible assumption) | (with_reducible refine below_alloc ?_ _) | (with_reducible refine Below.drew ?_) | (with_reducible refine below_drewN ?_ _) | (with_reducible refine below_step (by assumption) ?_) | (with_reducible refine below_later ?_ _) | (with_reducible refine Below.setCell ?_ ?_ _) | go_size))))).mono ?_; rintro e hb1w ⟨rfl, hb1⟩; obtain ⟨hb1c, hb1f⟩ := bcell hb1; have hb1s := hb1.size; (try simp only [World.size_alloc] at hb1s); (try (have : w.heap.size < hb1w.heap.size := by omega)); (try (have : w.heap.size + 1 < hb1w.heap.size := by omega)); (try (have : w.heap.size + 1 + 1 < hb1w.heap.size := by omega)); (try (have : w.heap.size + 1 + 1 + 1 < hb1w.heap.size := by omega)); (try (have : bX < hb1w.heap.size := by omega)); (try (have : bY < hb1w.heap.size := by omega)); (try (have : bZ < hb1w.heap.size := by omega))) | (go_at_call 66; refine (farAny_any _ _ _ _ (HY.out _ (by (repeat' (first | (with_reducible exact Below.refl _ _) | (with_reducible assumption) | (with_reducible refine below_alloc ?_ _) | (with_reducible refine Below.drew ?_) | (with_reducible refine below_drewN ?_ _) | (with_reducible refine below_step (by assumption) ?_) | (with_reducible refine below_later ?_ _) | (with_reducible refine Below.setCell ?_ ?_ _) | go_size))))).mono ?_; rintro e hb2w ⟨rfl, hb2⟩; obtain ⟨hb2c, hb2f⟩ := bcell hb2; have hb2s := hb2.size; (try simp only [World.size_alloc] at hb2s); (try (have : w.heap.size < hb2w.heap.size := by omega)); (try (have : w.heap.size + 1 < hb2w.heap.size := by omega)); (try (have : w.heap.size + 1 + 1 < hb2w.heap.size := by omega)); (try (have : w.heap.size + 1 + 1 + 1 < hb2w.heap.size := by omega)); (try (have : bX < hb2w.heap.size := by omega)); (try (have : bY < hb2w.heap.size := by omega)); (try (have : bZ < hb2w.heap.size := by omega))))
        go_ret
        exact ⟨by rw [H.out]; first | done | rfl, by (repeat' (first | (with_reducible exact Below.refl _ _) | (with_reducible assumption) | (with_reducible refine below_alloc ?_ _) | (with_reducible refine Below.drew ?_) | (with_reducible refine below_drewN ?_ _) | (with_reducible refine below_step (by assumption) ?_) | (with_reducible refine below_later ?_ _) | (with_reducible refine Below.setCell ?_ ?_ _) | go_size))⟩
      | false =>
        have H : Hid (curveB xs ys = true) := Lib.hid (curveB_true.2 ⟨hl, axisB_true.1 ha, hf⟩)
        clear hl
        go_enter Try.func64, Try.ntmps64
        go_wp2_with (first | (go_at_call 97; refine (axis_any _ _ _ _ (HX.out _ (by (repeat' (first | (with_reducible exact Below.refl _ _) | (with_reducible assumption) | (with_reducible refine below_alloc ?_ _) | (with_reducible refine Below.drew ?_) | (with_reducible refine below_drewN ?_ _) | (with_reducible refine below_step (by assumption) ?_) | (with_reducible refine below_later ?_ _) | (with_reducible refine Below.setCell ?_ ?_ _) | go_size))))).mono ?_; rintro e hb1w ⟨rfl, hb1⟩; obtain ⟨hb1c, hb1f⟩ := bcell hb1; have hb1s := hb1.size; (try simp only [World.size_alloc] at hb1s); (try (have : w.heap.size < hb1w.heap.size := by omega)); (try (have : w.heap.size + 1 < hb1w.heap.size := by omega)); (try (have : w.heap.size + 1 + 1 < hb1w.heap.size := by omega)); (try (have : w.heap.size + 1 + 1 + 1 < hb1w.heap.size := by omega)); (try (have : bX < hb1w.heap.size := by omega)); (try (have : bY < hb1w.heap.size := by omega)); (try (have : bZ < hb1w.heap.size := by omega))) | (go_at_call 66; refine (farAny_any _ _ _ _ (HY.out _ (by (repeat' (first | (with_reducible exact Below.refl _ _) | (with_reducible assumption) | (with_reducible refine below_alloc ?_ _) | (with_reducible refine Below.drew ?_) | (with_reducible refine below_drewN ?_ _) | (with_reducible refine below_step (by assumption) ?_) | (with_reducible refine below_later ?_ _) | (with_reducible refine Below.setCell ?_ ?_ _) | go_size))))).mono ?_; rintro e hb2w ⟨rfl, hb2⟩; obtain ⟨hb2c, hb2f⟩ := bcell hb2; have hb2s := hb2.size; (try simp only [World.size_alloc] at hb2s); (try (have : w.heap.size < hb2w.heap.size := by omega)); (try (have : w.heap.size + 1 < hb2w.heap.size := by omega)); (try (have : w.heap.size + 1 + 1 < hb2w.heap.size := by omega)); (try (have : w.heap.size + 1 + 1 + 1 < hb2w.heap.size := by omega)); (try (have : bX < hb2w.heap.size := by omega)); (try (have : bY < hb2w.heap.size := by omega)); (try (have : bZ < hb2w.heap.size := by omega))))
        go_ret
        exact ⟨by rw [H.out]; first | done | rfl, by (repeat' (first | (with_reducible exact Below.refl _ _) | (with_reducible assumption) | (with_reducible refine below_alloc ?_ _) | (with_reducible refine Below.drew ?_) | (with_reducible refine below_drewN ?_ _) | (with_reducible refine below_step (by assumption) ?_) | (with_reducible refine below_later ?_ _) | (with_reducible refine Below.setCell ?_ ?_ _) | go_size))⟩
  · have hl' : ((xs.length : Int) == (ys.length : Int)) = false := by simp; omega
    have H : Hid (curveB xs ys = false) := Lib.hid (curveB_false.2 (fun h => hl h.1))
    clear hl
    go_enter Try.func64, Try.ntmps64
    go_wp2
    go_ret
    exact ⟨by rw [H.out]; first | done | rfl, by (repeat' (first | (with_reducible exact Below.refl _ _) | (with_reducible assumption) | (with_reducible refine below_alloc ?_ _) | (with_reducible refine Below.drew ?_) | (with_reducible refine below_drewN ?_ _) | (with_reducible refine below_step (by assumption) ?_) | (with_reducible refine below_later ?_ _) | (with_reducible refine Below.setCell ?_ ?_ _) | go_size))⟩

end Go.Proofs.Ytohdbneaganfbaa
