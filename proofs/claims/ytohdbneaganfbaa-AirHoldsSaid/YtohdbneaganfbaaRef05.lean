/- Contracts of the reference of curves: Fits, Axis, Valid, At. -/
import Derived.Test.YtohdbneaganfbaaCurveW
import Derived.Test.YtohdbneaganfbaaArithR
namespace Go.Proofs.Ytohdbneaganfbaa
set_option linter.unusedVariables false
set_option linter.unusedSimpArgs false
open Go.RowKit Go.ChangeShapes Go.WideShapes Go.ChangeAt

theorem fits_any (x : Int) (w : World) : Calls Try.prog 104 #[.int .i64 x] w fun e w' => e = .returned (.bool (!farB x)) ∧ w = w' := by
  go_enter Try.func104, Try.ntmps104
  go_wp2
  all_goals go_ret
  all_goals exact ⟨ret_bool (by grind [farB]), rfl⟩

theorem getD_of {xs : List Int} {k : Nat} {x : Int} (h : xs.getD k 0 = x) : xs.getD k 0 = x := h

set_option maxHeartbeats 1000000 in
theorem raxis_any (r : Option Addr) (cap : Nat) (xs : List Int) (w : World) (hxs : IsInts w r cap .i64 xs) :
    Calls Try.prog 103 #[.slice r xs.length cap] w fun e w' => e = .returned (.bool (axisB xs)) ∧ Below w.heap.size w w' := by
  by_cases h2 : xs.length < 2
  · have H := Lib.hid (axisB_false.2 (fun h : AxisOk xs => by have := h.1; omega))
    have h2' : (xs.length : Int) < 2 := by omega
    clear hxs h2
    go_enter Try.func103, Try.ntmps103
    go_wp2
    go_ret
    exact ⟨by rw [H.out]; first | done | rfl, by (repeat' (first | (with_reducible exact Below.refl _ _) | (with_reducible assumption) | (with_reducible refine below_alloc ?_ _) | (with_reducible refine Below.drew ?_) | (with_reducible refine below_drewN ?_ _) | (with_reducible refine below_step (by assumption) ?_) | (with_reducible refine below_later ?_ _) | (with_reducible refine Below.setCell ?_ ?_ _) | go_size))⟩
  · by_cases h3 : 32 < xs.length
    · have H := Lib.hid (axisB_false.2 (fun h : AxisOk xs => by have := h.2.1; omega))
      have h2' : ¬ (xs.length : Int) < 2 := by omega
      have h3' : (32 : Int) < xs.length := by omega
      clear hxs h2 h3
      go_enter Try.func103, Try.ntmps103
      go_wp2
      go_ret
      exact ⟨by rw [H.out]; first | done | rfl, by (repeat' (first | (with_reducible exact Below.refl _ _) | (with_reducible assumption) | (with_reducible refine below_alloc ?_ _) | (with_reducible refine Below.drew ?_) | (with_reducible refine below_drewN ?_ _) | (with_reducible refine below_step (by assumption) ?_) | (with_reducible refine below_later ?_ _) | (with_reducible refine Below.setCell ?_ ?_ _) | go_size))⟩
    · have h2' : ¬ (xs.length : Int) < 2 := by omega
      have h3' : ¬ (32 : Int) < xs.length := by omega
      obtain ⟨bX, off, rfl, hb, hc⟩ := hxs.cells (fun e => by subst e; simp at h2)
      have HC := Lib.hid hc
      have HAX : Hid ((∀ t, t < xs.length → farB (xs.getD t 0) = false) → (∀ t, t + 1 < xs.length → xs.getD t 0 < xs.getD (t + 1) 0) → AxisOk xs) := Lib.hid (fun g h => ⟨by omega, by omega, far_all g, h⟩)
      clear hc hxs
      generalize hn : xs.length = n at *
      have HN := Lib.hid hn
      clear hn
      go_enter Try.func103, Try.ntmps103
      go_wp2
      go_loopg [3] n (fun kx s3 wr => ∃ (k : Nat) (e : Later w), s3 = .int .i64 k ∧ k ≤ n ∧ n - k ≤ kx ∧ wr = e.w ∧ Hid (∀ t, t < k → farB (xs.getD t 0) = false) ∧ Hid (∀ t, t + 1 < k → xs.getD t 0 < xs.getD (t + 1) 0))
      case atStart => exact ⟨0, ⟨w, Below.refl _ _⟩, rfl, by omega, by omega, rfl, Lib.hid (fun t h => absurd h (Nat.not_lt_zero _)), Lib.hid (fun t h => absurd h (Nat.not_lt_zero _))⟩
      case round =>
        obtain ⟨k, e, rfl, hk, hkx, rfl, HP, HQ⟩ := hrel
        have hes := e.h.size
        have hbe : bX < e.w.heap.size := by omega
        by_cases hlt : k < n
        · have hk1 : (0 : Int) ≤ (k : Int) := by omega
          have hk2 : (k : Int) < n := by omega
          have hc1 : e.w.cell? ⟨bX, off + k, none⟩ = some (.int .i64 (xs.getD k 0)) := by
            rw [Later.cell e hb]
            exact HC.out k (by have := HN.out; omega)
          have HF : Hid (farB (xs.getD k 0) = true → axisB xs = false) := Lib.hid (fun h => axisB_false.2 (fun hh => by have := far_hit (show k < xs.length by have := HN.out; omega) h; rw [hh.2.2.1] at this; cases this))
          cases hf : farB (xs.getD k 0) with
          | true =>
            have H := Lib.hid (HF.out hf)
            clear HF
            generalize xs.getD k 0 = x at hc1 hf
            go_wp2
            (refine wp_region_later (by kernel_rfl) (by kernel_rfl) ?_; (repeat (go_big_quiet_step ((go_at_call 104; exact later_same (fits_any _ _))))); refine wpQuiet_nil ?_; rintro _ ⟨e1, rfl⟩; have e1s := e1.h.size; (try simp only [World.size_alloc, World.size_drewN, World.drewN_heap] at e1s); (try (have : w.heap.size < e1.w.heap.size := by omega)); (try (have : w.heap.size + 1 < e1.w.heap.size := by omega)); (try (have : w.heap.size + 1 + 1 < e1.w.heap.size := by omega)); (try (have : w.heap.size + 1 + 1 + 1 < e1.w.heap.size := by omega)); (try (have : bX < e1.w.heap.size := by omega)); (try (have : bY < e1.w.heap.size := by omega)); (try (have : bZ < e1.w.heap.size := by omega)))
            go_wp2
            go_ret
            exact ⟨by rw [H.out]; first | done | rfl, below_later e.h e1⟩
          | false =>
            have HFK := Lib.hid hf
            clear HF
            by_cases hk0 : k = 0
            · have hkd : decide ((0 : Int) < (k : Int)) = false := by simp; omega
              have hkd2 : decide (0 < k) = false := by simp; omega
              have HK := Lib.hid hk0
              clear hk0
              generalize hx : xs.getD k 0 = x at hc1 hf
              have HX := Lib.hid hx
              clear hx
              go_wp2
              (refine wp_region_later (by kernel_rfl) (by kernel_rfl) ?_; (repeat (go_big_quiet_step ((go_at_call 104; exact later_same (fits_any _ _))))); refine wpQuiet_nil ?_; rintro _ ⟨e1, rfl⟩; have e1s := e1.h.size; (try simp only [World.size_alloc, World.size_drewN, World.drewN_heap] at e1s); (try (have : w.heap.size < e1.w.heap.size := by omega)); (try (have : w.heap.size + 1 < e1.w.heap.size := by omega)); (try (have : w.heap.size + 1 + 1 < e1.w.heap.size := by omega)); (try (have : w.heap.size + 1 + 1 + 1 < e1.w.heap.size := by omega)); (try (have : bX < e1.w.heap.size := by omega)); (try (have : bY < e1.w.heap.size := by omega)); (try (have : bZ < e1.w.heap.size := by omega)))
              go_wp2
              go_roundg (n - (k + 1))
              case measure => omega
              case rel =>
                have hkk := HK.out
                refine ⟨k + 1, ⟨_, below_later e.h e1⟩, by go_num, by omega, Nat.le_refl _, rfl, Lib.hid (fun t ht => ?_), Lib.hid (fun t ht => by omega)⟩
                obtain rfl : t = k := by omega
                exact HFK.out
            · have hk3 : (0 : Int) < (k : Int) := by omega
              have hk6 : 0 < k := by omega
              have hw1 : IntKind.i64.wrap ((k : Int) - 1) = (k : Int) - 1 := IntWalk.i64_in _ (by omega)
              have hk4 : (0 : Int) ≤ (k : Int) - 1 := by omega
              have hk5 : (k : Int) - 1 < n := by omega
              have hc2 : e.w.cell? ⟨bX, off + (k - 1), none⟩ = some (.int .i64 (xs.getD (k - 1) 0)) := by
                rw [Later.cell e hb]
                exact HC.out (k - 1) (by have := HN.out; omega)
              have HV : Hid (∀ x y, xs.getD k 0 = x → xs.getD (k - 1) 0 = y → x ≤ y → axisB xs = false) := Lib.hid (fun x y h1 h2 h => axisB_false.2 (fun hh => by
                have := hh.2.2.2 (k - 1) (by have := HN.out; omega)
                rw [show k - 1 + 1 = k by omega, h1, h2] at this
                omega))
              generalize hx : xs.getD k 0 = x at hc1 hf
              generalize hy : xs.getD (k - 1) 0 = y at hc2
              have HXY := Lib.hid (And.intro hx hy)
              clear hx hy
              by_cases hxy : x ≤ y
              · have H := Lib.hid (HV.out x y HXY.out.1 HXY.out.2 hxy)
                go_wp2
                (refine wp_region_later (by kernel_rfl) (by kernel_rfl) ?_; (repeat (go_big_quiet_step ((go_at_call 104; exact later_same (fits_any _ _))))); refine wpQuiet_nil ?_; rintro _ ⟨e1, rfl⟩; have e1s := e1.h.size; (try simp only [World.size_alloc, World.size_drewN, World.drewN_heap] at e1s); (try (have : w.heap.size < e1.w.heap.size := by omega)); (try (have : w.heap.size + 1 < e1.w.heap.size := by omega)); (try (have : w.heap.size + 1 + 1 < e1.w.heap.size := by omega)); (try (have : w.heap.size + 1 + 1 + 1 < e1.w.heap.size := by omega)); (try (have : bX < e1.w.heap.size := by omega)); (try (have : bY < e1.w.heap.size := by omega)); (try (have : bZ < e1.w.heap.size := by omega)))
                go_wp2
                go_ret
                exact ⟨by rw [H.out]; first | done | rfl, below_later e.h e1⟩
              · have hxy2 : y < x := by omega
                have HLT := Lib.hid hxy2
                go_wp2
                (refine wp_region_later (by kernel_rfl) (by kernel_rfl) ?_; (repeat (go_big_quiet_step ((go_at_call 104; exact later_same (fits_any _ _))))); refine wpQuiet_nil ?_; rintro _ ⟨e1, rfl⟩; have e1s := e1.h.size; (try simp only [World.size_alloc, World.size_drewN, World.drewN_heap] at e1s); (try (have : w.heap.size < e1.w.heap.size := by omega)); (try (have : w.heap.size + 1 < e1.w.heap.size := by omega)); (try (have : w.heap.size + 1 + 1 < e1.w.heap.size := by omega)); (try (have : w.heap.size + 1 + 1 + 1 < e1.w.heap.size := by omega)); (try (have : bX < e1.w.heap.size := by omega)); (try (have : bY < e1.w.heap.size := by omega)); (try (have : bZ < e1.w.heap.size := by omega)))
                go_wp2
                go_roundg (n - (k + 1))
                case measure => omega
                case rel =>
                  refine ⟨k + 1, ⟨_, below_later e.h e1⟩, by go_num, by omega, Nat.le_refl _, rfl, Lib.hid (fun t ht => ?_), Lib.hid (fun t ht => ?_)⟩
                  · by_cases h : t < k
                    · exact HP.out t h
                    · obtain rfl : t = k := by omega
                      exact HFK.out
                  · by_cases h : t + 1 < k
                    · exact HQ.out t h
                    · obtain rfl : t = k - 1 := by omega
                      rw [show k - 1 + 1 = k by omega, HXY.out.1, HXY.out.2]
                      exact HLT.out
        · obtain rfl : k = n := by omega
          go_wp2
          go_ret
          refine ⟨ret_bool ?_, e.h⟩
          exact (axisB_true.2 (HAX.out HP.out HQ.out)).symm

set_option maxHeartbeats 1000000 in
theorem rvalid_any (rx ry : Option Addr) (cx cy : Nat) (xs ys : List Int) (w : World) (hx : IsInts w rx cx .i64 xs) (hy : IsInts w ry cy .i64 ys) :
    Calls Try.prog 69 #[.agg #[.slice rx xs.length cx, .slice ry ys.length cy]] w fun e w' => e = .returned (.bool (curveB xs ys)) ∧ Below w.heap.size w w' := by
  have HX : Hid (∀ w', Below w.heap.size w w' → IsInts w' rx cx .i64 xs) := Lib.hid (fun _ h => hx.later h)
  clear hx
  cases ha : axisB xs with
  | false =>
    have H : Hid (curveB xs ys = false) := Lib.hid (curveB_false.2 (fun h => axisB_false.1 ha h.2.1))
    clear hy
    go_enter Try.func69, Try.ntmps69
    go_wp2_with ((go_at_call 103; refine (raxis_any _ _ _ _ (HX.out _ (by (repeat' (first | (with_reducible exact Below.refl _ _) | (with_reducible assumption) | (with_reducible refine below_alloc ?_ _) | (with_reducible refine Below.drew ?_) | (with_reducible refine below_drewN ?_ _) | (with_reducible refine below_step (by assumption) ?_) | (with_reducible refine below_later ?_ _) | (with_reducible refine Below.setCell ?_ ?_ _) | go_size))))).mono ?_; rintro e hb1w ⟨rfl, hb1⟩; obtain ⟨hb1c, hb1f⟩ := bcell hb1; have hb1s := hb1.size; (try simp only [World.size_alloc] at hb1s); (try (have : w.heap.size < hb1w.heap.size := by omega)); (try (have : w.heap.size + 1 < hb1w.heap.size := by omega)); (try (have : w.heap.size + 1 + 1 < hb1w.heap.size := by omega)); (try (have : w.heap.size + 1 + 1 + 1 < hb1w.heap.size := by omega)); (try (have : bX < hb1w.heap.size := by omega)); (try (have : bY < hb1w.heap.size := by omega)); (try (have : bZ < hb1w.heap.size := by omega))))
    go_ret
    exact ⟨by rw [H.out]; first | done | rfl, by (repeat' (first | (with_reducible exact Below.refl _ _) | (with_reducible assumption) | (with_reducible refine below_alloc ?_ _) | (with_reducible refine Below.drew ?_) | (with_reducible refine below_drewN ?_ _) | (with_reducible refine below_step (by assumption) ?_) | (with_reducible refine below_later ?_ _) | (with_reducible refine Below.setCell ?_ ?_ _) | go_size))⟩
  | true =>
    have hax := axisB_true.1 ha
    by_cases hl : xs.length = ys.length
    · have hl' : ((ys.length : Int) == (xs.length : Int)) = true := by simp [hl]
      have hl2 : ((ys.length : Int) != (xs.length : Int)) = false := by simp [hl]
      have h2 := hax.1
      have h32 := hax.2.1
      obtain ⟨bY, off, rfl, hb, hc⟩ := hy.cells (fun e => by rw [e] at hl; simp only [List.length_nil] at hl; omega)
      have HC := Lib.hid hc
      have HT : Hid ((∀ t, t < ys.length → farB (ys.getD t 0) = false) → curveB xs ys = true) := Lib.hid (fun h => curveB_true.2 ⟨hl, hax, far_all h⟩)
      have HFA : Hid (∀ t, t < ys.length → farB (ys.getD t 0) = true → curveB xs ys = false) := Lib.hid (fun t ht h => curveB_false.2 (fun hh => by have := far_hit ht h; rw [hh.2.2] at this; cases this))
      clear hc hy hax hl
      have hm32 : xs.length ≤ 32 := h32
      generalize hn : ys.length = n at *
      have HN := Lib.hid hn
      clear hn
      go_enter Try.func69, Try.ntmps69
      go_wp2_with ((go_at_call 103; refine (raxis_any _ _ _ _ (HX.out _ (by (repeat' (first | (with_reducible exact Below.refl _ _) | (with_reducible assumption) | (with_reducible refine below_alloc ?_ _) | (with_reducible refine Below.drew ?_) | (with_reducible refine below_drewN ?_ _) | (with_reducible refine below_step (by assumption) ?_) | (with_reducible refine below_later ?_ _) | (with_reducible refine Below.setCell ?_ ?_ _) | go_size))))).mono ?_; rintro e hb1w ⟨rfl, hb1⟩; obtain ⟨hb1c, hb1f⟩ := bcell hb1; have hb1s := hb1.size; (try simp only [World.size_alloc] at hb1s); (try (have : w.heap.size < hb1w.heap.size := by omega)); (try (have : w.heap.size + 1 < hb1w.heap.size := by omega)); (try (have : w.heap.size + 1 + 1 < hb1w.heap.size := by omega)); (try (have : w.heap.size + 1 + 1 + 1 < hb1w.heap.size := by omega)); (try (have : bX < hb1w.heap.size := by omega)); (try (have : bY < hb1w.heap.size := by omega)); (try (have : bZ < hb1w.heap.size := by omega))))
      go_loopg [3] n (fun kx s3 wr => ∃ (k : Nat) (e : Later hb1w), s3 = .int .i64 k ∧ k ≤ n ∧ n - k ≤ kx ∧ wr = e.w ∧ Hid (∀ t, t < k → farB (ys.getD t 0) = false))
      case atStart => exact ⟨0, ⟨hb1w, Below.refl _ _⟩, rfl, by omega, by omega, rfl, Lib.hid (fun t h => absurd h (Nat.not_lt_zero _))⟩
      case round =>
        obtain ⟨k, e, rfl, hk, hkx, rfl, HP⟩ := hrel
        have hes := e.h.size
        have hbe : bY < e.w.heap.size := by omega
        have hbo : w.heap.size < e.w.heap.size := by omega
        have hmn : n ≤ 32 := by
          have : ((n : Int) == (xs.length : Int)) = true := hl'
          simp at this
          omega
        by_cases hlt : k < n
        · have hk1 : (0 : Int) ≤ (k : Int) := by omega
          have hk2 : (k : Int) < n := by omega
          have hc1 : e.w.cell? ⟨bY, off + k, none⟩ = some (.int .i64 (ys.getD k 0)) := by
            have hbw : Below w.heap.size w e.w := by (repeat' (first | (with_reducible exact Below.refl _ _) | (with_reducible assumption) | (with_reducible refine below_alloc ?_ _) | (with_reducible refine Below.drew ?_) | (with_reducible refine below_drewN ?_ _) | (with_reducible refine below_step (by assumption) ?_) | (with_reducible refine below_later ?_ _) | (with_reducible refine Below.setCell ?_ ?_ _) | go_size))
            rw [hbw.cell (p := ⟨bY, off + k, none⟩) hb]
            exact HC.out k (by have := HN.out; omega)
          have HF1 : Hid (farB (ys.getD k 0) = true → curveB xs ys = false) := Lib.hid (HFA.out k (by omega))
          cases hf : farB (ys.getD k 0) with
          | true =>
            have H := Lib.hid (HF1.out hf)
            clear HF1
            generalize ys.getD k 0 = x at hc1 hf
            go_wp2_with ((go_at_call 104; refine (fits_any _ _).mono ?_; rintro e w' ⟨rfl, rfl⟩))
            go_ret
            exact ⟨by rw [H.out]; first | done | rfl, by (repeat' (first | (with_reducible exact Below.refl _ _) | (with_reducible assumption) | (with_reducible refine below_alloc ?_ _) | (with_reducible refine Below.drew ?_) | (with_reducible refine below_drewN ?_ _) | (with_reducible refine below_step (by assumption) ?_) | (with_reducible refine below_later ?_ _) | (with_reducible refine Below.setCell ?_ ?_ _) | go_size))⟩
          | false =>
            have HFK := Lib.hid hf
            clear HF1
            generalize hx : ys.getD k 0 = x at hc1 hf
            have HXX := Lib.hid hx
            clear hx
            go_wp2_with ((go_at_call 104; refine (fits_any _ _).mono ?_; rintro e w' ⟨rfl, rfl⟩))
            go_roundg (n - (k + 1))
            case measure => omega
            case rel =>
              refine ⟨k + 1, e, by go_num, by omega, Nat.le_refl _, rfl, Lib.hid (fun t ht => ?_)⟩
              by_cases h : t < k
              · exact HP.out t h
              · obtain rfl : t = k := by omega
                exact HFK.out
        · obtain rfl : k = n := by omega
          go_wp2
          go_ret
          refine ⟨ret_bool ?_, by (repeat' (first | (with_reducible exact Below.refl _ _) | (with_reducible assumption) | (with_reducible refine below_alloc ?_ _) | (with_reducible refine Below.drew ?_) | (with_reducible refine below_drewN ?_ _) | (with_reducible refine below_step (by assumption) ?_) | (with_reducible refine below_later ?_ _) | (with_reducible refine Below.setCell ?_ ?_ _) | go_size))⟩
          exact (HT.out (fun t ht => HP.out t (by have := HN.out; omega))).symm
    · have hl' : ((ys.length : Int) == (xs.length : Int)) = false := by simp; omega
      have hl2 : ((ys.length : Int) != (xs.length : Int)) = true := by simp; omega
      have H : Hid (curveB xs ys = false) := Lib.hid (curveB_false.2 (fun h => hl h.1))
      clear hl hax hy
      go_enter Try.func69, Try.ntmps69
      go_wp2_with ((go_at_call 103; refine (raxis_any _ _ _ _ (HX.out _ (by (repeat' (first | (with_reducible exact Below.refl _ _) | (with_reducible assumption) | (with_reducible refine below_alloc ?_ _) | (with_reducible refine Below.drew ?_) | (with_reducible refine below_drewN ?_ _) | (with_reducible refine below_step (by assumption) ?_) | (with_reducible refine below_later ?_ _) | (with_reducible refine Below.setCell ?_ ?_ _) | go_size))))).mono ?_; rintro e hb1w ⟨rfl, hb1⟩; obtain ⟨hb1c, hb1f⟩ := bcell hb1; have hb1s := hb1.size; (try simp only [World.size_alloc] at hb1s); (try (have : w.heap.size < hb1w.heap.size := by omega)); (try (have : w.heap.size + 1 < hb1w.heap.size := by omega)); (try (have : w.heap.size + 1 + 1 < hb1w.heap.size := by omega)); (try (have : w.heap.size + 1 + 1 + 1 < hb1w.heap.size := by omega)); (try (have : bX < hb1w.heap.size := by omega)); (try (have : bY < hb1w.heap.size := by omega)); (try (have : bZ < hb1w.heap.size := by omega))))
      go_ret
      exact ⟨by rw [H.out]; first | done | rfl, by (repeat' (first | (with_reducible exact Below.refl _ _) | (with_reducible assumption) | (with_reducible refine below_alloc ?_ _) | (with_reducible refine Below.drew ?_) | (with_reducible refine below_drewN ?_ _) | (with_reducible refine below_step (by assumption) ?_) | (with_reducible refine below_later ?_ _) | (with_reducible refine Below.setCell ?_ ?_ _) | go_size))⟩

set_option maxHeartbeats 1000000 in
theorem rat_any (rx ry : Option Addr) (cx cy : Nat) (xs ys : List Int) (x : Int) (w : World) (hx : IsInts w rx cx .i64 xs) (hy : IsInts w ry cy .i64 ys) (hok : CurveOk xs ys) :
    Calls Try.prog 87 #[.agg #[.slice rx xs.length cx, .slice ry ys.length cy], .int .i64 x] w fun e w' => e = .returned (.int .i64 (cval xs ys x)) ∧ Below w.heap.size w w' := by
  obtain ⟨hl, hax, hfy⟩ := hok
  have h2 := hax.1
  have h32 := hax.2.1
  have hx' := hx
  have hy' := hy
  obtain ⟨bX, offX, rfl, hbX, hcX⟩ := hx.cells (fun e => by subst e; simp at h2)
  obtain ⟨bY, offY, rfl, hbY, hcY⟩ := hy.cells (fun e => by rw [e] at hl; simp only [List.length_nil] at hl; omega)
  have hX0 := hcX 0 (by omega)
  have hXn := hcX (xs.length - 1) (by omega)
  by_cases h0 : x ≤ xs.getD 0 0
  · have H := Lib.hid (show cval xs ys x = ys.getD 0 0 by simp only [cval, h0, if_true])
    have hY0 := hcY 0 (by omega)
    rw [Nat.add_zero] at hX0 hY0
    clear hx hy hx' hy' hcX hcY hXn hfy hax
    generalize xs.getD 0 0 = a at *
    generalize ys.getD 0 0 = b at *
    generalize hn : xs.length = n at *
    have hn2 : (0 : Int) < (n : Int) := by omega
    have hn3 : (0 : Int) < (ys.length : Int) := by omega
    clear hn
    go_enter Try.func87, Try.ntmps87
    go_wp2
    go_ret
    exact ⟨by rw [H.out]; rfl, by (repeat' (first | (with_reducible exact Below.refl _ _) | (with_reducible assumption) | (with_reducible refine below_alloc ?_ _) | (with_reducible refine Below.drew ?_) | (with_reducible refine below_drewN ?_ _) | (with_reducible refine below_step (by assumption) ?_) | (with_reducible refine below_later ?_ _) | (with_reducible refine Below.setCell ?_ ?_ _) | go_size))⟩
  · by_cases h1 : xs.getD (xs.length - 1) 0 ≤ x
    · have H := Lib.hid (show cval xs ys x = ys.getD (xs.length - 1) 0 by simp only [cval, h0, h1, if_true, if_false])
      have hYn := hcY (xs.length - 1) (by omega)
      rw [Nat.add_zero] at hX0
      clear hx hy hx' hy' hcX hcY hfy hax
      generalize xs.getD 0 0 = a at *
      generalize xs.getD (xs.length - 1) 0 = c at *
      generalize ys.getD (xs.length - 1) 0 = b at *
      generalize ys.length = m at *
      generalize xs.length = n at *
      obtain rfl : n = m := hl
      have hn2 : (0 : Int) < (n : Int) := by omega
      go_enter Try.func87, Try.ntmps87
      go_wp2
      go_ret
      exact ⟨by rw [H.out]; rfl, by (repeat' (first | (with_reducible exact Below.refl _ _) | (with_reducible assumption) | (with_reducible refine below_alloc ?_ _) | (with_reducible refine Below.drew ?_) | (with_reducible refine below_drewN ?_ _) | (with_reducible refine below_step (by assumption) ?_) | (with_reducible refine below_later ?_ _) | (with_reducible refine Below.setCell ?_ ?_ _) | go_size))⟩
    · obtain ⟨s1, s2, s3⟩ := seg_spec hax h0 h1
      have hXs := hcX (segI xs x) (by omega)
      have hXs1 := hcX (segI xs x + 1) (by omega)
      have hYs := hcY (segI xs x) (by omega)
      have hYs1 := hcY (segI xs x + 1) (by omega)
      have f1 := far_bd hax.2.2.1 (show segI xs x < xs.length by omega)
      have f2 := far_bd hax.2.2.1 (show segI xs x + 1 < xs.length by omega)
      have f3 := far_bd hfy (show segI xs x < ys.length by omega)
      have f4 := far_bd hfy (show segI xs x + 1 < ys.length by omega)
      have H := Lib.hid (show cval xs ys x = _ by simp only [cval, h0, h1, if_false]; rfl)
      have HXC := Lib.hid hcX
      have HLE : Hid (∀ i, i < segI xs x → xs.getD (i + 1) 0 ≤ x) := Lib.hid (fun i hi => by
        by_cases e : i + 1 = segI xs x
        · rw [e]; exact s2
        · have := axis_mono hax (show i + 1 < segI xs x by omega) (by omega)
          omega)
      rw [Nat.add_zero] at hX0
      clear hx hy hx' hy' hcX hcY hfy hax
      generalize xs.getD (xs.length - 1) 0 = q at *
      generalize xs.getD 0 0 = z at *
      generalize segI xs x = s at *
      generalize xs.getD s 0 = a at *
      generalize xs.getD (s + 1) 0 = b at *
      generalize ys.getD s 0 = c at *
      generalize ys.getD (s + 1) 0 = d at *
      obtain ⟨p1, p2, p3, p4⟩ := cval_num (x := x) (a := a) (b := b) (c := c) (d := d) f1.1 f2.2 s2 s3 f3.1 f3.2 f4.1 f4.2
      generalize ys.length = m at *
      generalize xs.length = n at *
      obtain rfl : n = m := hl
      have hn2 : (0 : Int) < (n : Int) := by omega
      have i1 : (s : Int) < n := by omega
      have i2 : (s : Int) + 1 < n := by omega
      have i3 : (0 : Int) ≤ s := by omega
      have i4 : (0 : Int) ≤ (s : Int) + 1 := by omega
      have i5 : ((s : Int) + 1).toNat = s + 1 := by omega
      have w1 : IntKind.i64.wrap ((s : Int) + 1) = (s : Int) + 1 := IntWalk.i64_in _ (by omega)
      have w2 : IntKind.i64.wrap (x - a) = x - a := IntWalk.i64_in _ (by omega)
      have w3 : IntKind.i64.wrap (d - c) = d - c := IntWalk.i64_in _ (by omega)
      have w4 : IntKind.i64.wrap (b - a) = b - a := IntWalk.i64_in _ (by omega)
      have w5 : IntKind.i64.wrap ((x - a) * (d - c)) = (x - a) * (d - c) := IntWalk.i64_in _ (by omega)
      have w6 : IntKind.i64.wrap (c + (x - a) * (d - c) / (b - a)) = c + (x - a) * (d - c) / (b - a) := IntWalk.i64_in _ (by omega)
      have HF : Hid (∀ w', Calls Try.prog 71 #[.int .i64 ((x - a) * (d - c)), .int .i64 (b - a)] w' fun e w'' => e = .returned (.int .i64 ((x - a) * (d - c) / (b - a))) ∧ Below w'.heap.size w' w'') :=
        Lib.hid (fun w' => rfloor_any p1 p2 (by omega) (by omega) w')
      clear p3 p4
      go_enter Try.func87, Try.ntmps87
      go_wp2
      go_loopg [6] n (fun kx s6 wr => ∃ i : Nat, s6 = .int .i64 i ∧ i ≤ s ∧ s - i ≤ kx ∧ wr = w.alloc (.cells #[.slice (some ⟨bX, offX, none⟩) n cx, .slice (some ⟨bY, offY, none⟩) n cy] 27))
      case atStart => exact ⟨0, rfl, by omega, by omega, rfl⟩
      case round =>
        obtain ⟨i, rfl, hi, hik, rfl⟩ := hrel
        by_cases hlt : i < s
        · have hci : w.cell? ⟨bX, offX + (i + 1), none⟩ = some (.int .i64 (xs.getD (i + 1) 0)) := HXC.out (i + 1) (by omega)
          have hle := HLE.out i hlt
          generalize xs.getD (i + 1) 0 = v at hci hle
          have j1 : (i : Int) + 1 < n := by omega
          have j2 : (0 : Int) ≤ (i : Int) + 1 := by omega
          have hlt3 : w.cell? ⟨bX, offX + (i + 1), none⟩ = some (.int .i64 v) := hci
          go_wp2
          go_roundg (s - (i + 1))
          case measure => omega
          case rel => exact ⟨i + 1, by go_num, by omega, Nat.le_refl _, rfl⟩
        · obtain rfl : i = s := by omega
          go_wp2
          (refine wp_region_later (by kernel_rfl) (by kernel_rfl) ?_; (repeat (go_big_quiet_step ((go_at_call 71; exact later_call (HF.out _))))); refine wpQuiet_nil ?_; rintro _ ⟨e1, rfl⟩; have e1s := e1.h.size; (try simp only [World.size_alloc, World.size_drewN, World.drewN_heap] at e1s); (try (have : w.heap.size < e1.w.heap.size := by omega)); (try (have : w.heap.size + 1 < e1.w.heap.size := by omega)); (try (have : w.heap.size + 1 + 1 < e1.w.heap.size := by omega)); (try (have : w.heap.size + 1 + 1 + 1 < e1.w.heap.size := by omega)); (try (have : bX < e1.w.heap.size := by omega)); (try (have : bY < e1.w.heap.size := by omega)); (try (have : bZ < e1.w.heap.size := by omega)))
          go_wp2
          go_ret
          exact ⟨by rw [H.out]; rfl, by (repeat' (first | (with_reducible exact Below.refl _ _) | (with_reducible assumption) | (with_reducible refine below_alloc ?_ _) | (with_reducible refine Below.drew ?_) | (with_reducible refine below_drewN ?_ _) | (with_reducible refine below_step (by assumption) ?_) | (with_reducible refine below_later ?_ _) | (with_reducible refine Below.setCell ?_ ?_ _) | go_size))⟩

end Go.Proofs.Ytohdbneaganfbaa
