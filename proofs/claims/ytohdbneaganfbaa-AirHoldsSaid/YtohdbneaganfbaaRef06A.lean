/- Contracts of the reference of maps: far, Axis, Valid, floor, curve. Printed by a program. -/
import Derived.Test.YtohdbneaganfbaaSurfC
namespace Go.Proofs.Ytohdbneaganfbaa
set_option linter.unusedVariables false
set_option linter.unusedSimpArgs false
open Go.RowKit Go.ChangeShapes Go.WideShapes Go.ChangeAt

theorem r6far_any (x : Int) (w : World) : Calls Try.prog 102 #[.int .i64 x] w fun e w' => e = .returned (.bool (farB x)) ∧ w = w' := by
  go_enter Try.func102, Try.ntmps102
  go_wp2
  all_goals go_ret
  all_goals exact ⟨ret_bool (by grind [farB]), rfl⟩
theorem r6far_v {x : Int} {b : Bool} (h : farB x = b) (w : World) : Calls Try.prog 102 #[.int .i64 x] w fun e w' => e = .returned (.bool b) ∧ w = w' := by
  subst h
  exact r6far_any x w

set_option maxHeartbeats 1000000 in
theorem r6axis_any (r : Option Addr) (cap : Nat) (xs : List Int) (w : World) (hxs : IsInts w r cap .i64 xs) :
    Calls Try.prog 101 #[.slice r xs.length cap] w fun e w' => e = .returned (.bool (axisB xs)) ∧ Below w.heap.size w w' := by
  by_cases h2 : xs.length < 2
  · have H := Lib.hid (axisB_false.2 (fun h : AxisOk xs => by have := h.1; omega))
    have h2' : (xs.length : Int) < 2 := by omega
    clear hxs h2
    go_enter Try.func101, Try.ntmps101
    go_wp2
    go_ret
    exact ⟨by rw [H.out]; first | done | rfl, by (repeat' (first | (with_reducible exact Below.refl _ _) | (with_reducible assumption) | (with_reducible refine below_alloc ?_ _) | (with_reducible refine Below.drew ?_) | (with_reducible refine below_drewN ?_ _) | (with_reducible refine below_step (by assumption) ?_) | (with_reducible refine below_later ?_ _) | (with_reducible refine Below.setCell ?_ ?_ _) | go_size))⟩
  · by_cases h3 : 32 < xs.length
    · have H := Lib.hid (axisB_false.2 (fun h : AxisOk xs => by have := h.2.1; omega))
      have h2' : ¬ (xs.length : Int) < 2 := by omega
      have h3' : (32 : Int) < xs.length := by omega
      clear hxs h2 h3
      go_enter Try.func101, Try.ntmps101
      go_wp2
      go_ret
      exact ⟨by rw [H.out]; first | done | rfl, by (repeat' (first | (with_reducible exact Below.refl _ _) | (with_reducible assumption) | (with_reducible refine below_alloc ?_ _) | (with_reducible refine Below.drew ?_) | (with_reducible refine below_drewN ?_ _) | (with_reducible refine below_step (by assumption) ?_) | (with_reducible refine below_later ?_ _) | (with_reducible refine Below.setCell ?_ ?_ _) | go_size))⟩
    · have h2' : ¬ (xs.length : Int) < 2 := by omega
      have h3' : ¬ (32 : Int) < xs.length := by omega
      obtain ⟨bX, off, rfl, hb, hc⟩ := hxs.cells (fun e => by subst e; simp at h2)
      have HC := Lib.hid hc
      have HAX : Hid ((∀ t, t < xs.length → farB (xs.getD t 0) = false) → (∀ t, t + 1 < xs.length → xs.getD t 0 < xs.getD (t + 1) 0) → AxisOk xs) := Lib.hid (fun g h => ⟨by omega, by omega, far_all g, h⟩)
      clear hc hxs
      generalize hn : xs.length = n at *
      have HN := Lib.hid hn
      clear hn
      go_enter Try.func101, Try.ntmps101
      go_wp2
      go_loopg [3] n (fun kx s3 wr => ∃ (k : Nat) (e : Later w), s3 = .int .i64 k ∧ k ≤ n ∧ n - k ≤ kx ∧ wr = e.w ∧ Hid (∀ t, t < k → farB (xs.getD t 0) = false) ∧ Hid (∀ t, t + 1 < k → xs.getD t 0 < xs.getD (t + 1) 0))
      case atStart => exact ⟨0, ⟨w, Below.refl _ _⟩, rfl, by omega, by omega, rfl, Lib.hid (fun t h => absurd h (Nat.not_lt_zero _)), Lib.hid (fun t h => absurd h (Nat.not_lt_zero _))⟩
      case round =>
        obtain ⟨k, e, rfl, hk, hkx, rfl, HP, HQ⟩ := hrel
        have hes := e.h.size
        have hbe : bX < e.w.heap.size := by omega
        by_cases hlt : k < n
        · have hk1 : (0 : Int) ≤ (k : Int) := by omega
          have hk2 : (k : Int) < n := by omega
          have hc1 : e.w.cell? ⟨bX, off + k, none⟩ = some (.int .i64 (xs.getD k 0)) := by
            rw [Later.cell e hb]
            exact HC.out k (by have := HN.out; omega)
          have HF : Hid (farB (xs.getD k 0) = true → axisB xs = false) := Lib.hid (fun h => axisB_false.2 (fun hh => by have := far_hit (show k < xs.length by have := HN.out; omega) h; rw [hh.2.2.1] at this; cases this))
          cases hf : farB (xs.getD k 0) with
          | true =>
            have H := Lib.hid (HF.out hf)
            clear HF
            generalize xs.getD k 0 = x at hc1 hf
            go_wp2
            (refine wp_region_later (by kernel_rfl) (by kernel_rfl) ?_; (repeat (go_big_quiet_step ((go_at_call 102; exact later_same (r6far_v hf _))))); refine wpQuiet_nil ?_; rintro _ ⟨e1, rfl⟩; have e1s := e1.h.size; (try simp only [World.size_alloc, World.size_drewN, World.drewN_heap] at e1s); (try (have : w.heap.size < e1.w.heap.size := by omega)); (try (have : w.heap.size + 1 < e1.w.heap.size := by omega)); (try (have : w.heap.size + 1 + 1 < e1.w.heap.size := by omega)); (try (have : w.heap.size + 1 + 1 + 1 < e1.w.heap.size := by omega)); (try (have : bX < e1.w.heap.size := by omega)); (try (have : bY < e1.w.heap.size := by omega)); (try (have : bZ < e1.w.heap.size := by omega)))
            go_wp2
            go_ret
            exact ⟨by rw [H.out]; first | done | rfl, below_later e.h e1⟩
          | false =>
            have HFK := Lib.hid hf
            clear HF
            by_cases hk0 : k = 0
            · have hkd : decide ((0 : Int) < (k : Int)) = false := by simp; omega
              have hkd2 : decide (0 < k) = false := by simp; omega
              have HK := Lib.hid hk0
              clear hk0
              generalize hx : xs.getD k 0 = x at hc1 hf
              have HX := Lib.hid hx
              clear hx
              go_wp2
              (refine wp_region_later (by kernel_rfl) (by kernel_rfl) ?_; (repeat (go_big_quiet_step ((go_at_call 102; exact later_same (r6far_v hf _))))); refine wpQuiet_nil ?_; rintro _ ⟨e1, rfl⟩; have e1s := e1.h.size; (try simp only [World.size_alloc, World.size_drewN, World.drewN_heap] at e1s); (try (have : w.heap.size < e1.w.heap.size := by omega)); (try (have : w.heap.size + 1 < e1.w.heap.size := by omega)); (try (have : w.heap.size + 1 + 1 < e1.w.heap.size := by omega)); (try (have : w.heap.size + 1 + 1 + 1 < e1.w.heap.size := by omega)); (try (have : bX < e1.w.heap.size := by omega)); (try (have : bY < e1.w.heap.size := by omega)); (try (have : bZ < e1.w.heap.size := by omega)))
              go_wp2
              go_roundg (n - (k + 1))
              case measure => omega
              case rel =>
                have hkk := HK.out
                refine ⟨k + 1, ⟨_, below_later e.h e1⟩, by go_num, by omega, Nat.le_refl _, rfl, Lib.hid (fun t ht => ?_), Lib.hid (fun t ht => by omega)⟩
                obtain rfl : t = k := by omega
                exact HFK.out
            · have hk3 : (0 : Int) < (k : Int) := by omega
              have hk6 : 0 < k := by omega
              have hw1 : IntKind.i64.wrap ((k : Int) - 1) = (k : Int) - 1 := IntWalk.i64_in _ (by omega)
              have hk4 : (0 : Int) ≤ (k : Int) - 1 := by omega
              have hk5 : (k : Int) - 1 < n := by omega
              have hc2 : e.w.cell? ⟨bX, off + (k - 1), none⟩ = some (.int .i64 (xs.getD (k - 1) 0)) := by
                rw [Later.cell e hb]
                exact HC.out (k - 1) (by have := HN.out; omega)
              have HV : Hid (∀ x y, xs.getD k 0 = x → xs.getD (k - 1) 0 = y → x ≤ y → axisB xs = false) := Lib.hid (fun x y h1 h2 h => axisB_false.2 (fun hh => by
                have := hh.2.2.2 (k - 1) (by have := HN.out; omega)
                rw [show k - 1 + 1 = k by omega, h1, h2] at this
                omega))
              generalize hx : xs.getD k 0 = x at hc1 hf
              generalize hy : xs.getD (k - 1) 0 = y at hc2
              have HXY := Lib.hid (And.intro hx hy)
              clear hx hy
              by_cases hxy : x ≤ y
              · have H := Lib.hid (HV.out x y HXY.out.1 HXY.out.2 hxy)
                go_wp2
                (refine wp_region_later (by kernel_rfl) (by kernel_rfl) ?_; (repeat (go_big_quiet_step ((go_at_call 102; exact later_same (r6far_v hf _))))); refine wpQuiet_nil ?_; rintro _ ⟨e1, rfl⟩; have e1s := e1.h.size; (try simp only [World.size_alloc, World.size_drewN, World.drewN_heap] at e1s); (try (have : w.heap.size < e1.w.heap.size := by omega)); (try (have : w.heap.size + 1 < e1.w.heap.size := by omega)); (try (have : w.heap.size + 1 + 1 < e1.w.heap.size := by omega)); (try (have : w.heap.size + 1 + 1 + 1 < e1.w.heap.size := by omega)); (try (have : bX < e1.w.heap.size := by omega)); (try (have : bY < e1.w.heap.size := by omega)); (try (have : bZ < e1.w.heap.size := by omega)))
                go_wp2
                go_ret
                exact ⟨by rw [H.out]; first | done | rfl, below_later e.h e1⟩
              · have hxy2 : y < x := by omega
                have HLT := Lib.hid hxy2
                go_wp2
                (refine wp_region_later (by kernel_rfl) (by kernel_rfl) ?_; (repeat (go_big_quiet_step ((go_at_call 102; exact later_same (r6far_v hf _))))); refine wpQuiet_nil ?_; rintro _ ⟨e1, rfl⟩; have e1s := e1.h.size; (try simp only [World.size_alloc, World.size_drewN, World.drewN_heap] at e1s); (try (have : w.heap.size < e1.w.heap.size := by omega)); (try (have : w.heap.size + 1 < e1.w.heap.size := by omega)); (try (have : w.heap.size + 1 + 1 < e1.w.heap.size := by omega)); (try (have : w.heap.size + 1 + 1 + 1 < e1.w.heap.size := by omega)); (try (have : bX < e1.w.heap.size := by omega)); (try (have : bY < e1.w.heap.size := by omega)); (try (have : bZ < e1.w.heap.size := by omega)))
                go_wp2
                go_roundg (n - (k + 1))
                case measure => omega
                case rel =>
                  refine ⟨k + 1, ⟨_, below_later e.h e1⟩, by go_num, by omega, Nat.le_refl _, rfl, Lib.hid (fun t ht => ?_), Lib.hid (fun t ht => ?_)⟩
                  · by_cases h : t < k
                    · exact HP.out t h
                    · obtain rfl : t = k := by omega
                      exact HFK.out
                  · by_cases h : t + 1 < k
                    · exact HQ.out t h
                    · obtain rfl : t = k - 1 := by omega
                      rw [show k - 1 + 1 = k by omega, HXY.out.1, HXY.out.2]
                      exact HLT.out
        · obtain rfl : k = n := by omega
          go_wp2
          go_ret
          refine ⟨ret_bool ?_, e.h⟩
          exact (axisB_true.2 (HAX.out HP.out HQ.out)).symm


set_option maxHeartbeats 1000000 in
theorem r6valid_any (rX rY rZ : Option Addr) (cX cY cZ : Nat) (X Y : List Int) (Z : List (List Int)) (w : World) (hX : IsInts w rX cX .i64 X) (hY : IsInts w rY cY .i64 Y) (hZ : IsRows w rZ cZ Z) :
    Calls Try.prog 68 #[.agg #[.slice rX X.length cX, .slice rY Y.length cY, .slice rZ Z.length cZ]] w fun e w' => e = .returned (.bool (mapB X Y Z)) ∧ Below w.heap.size w w' := by
  have HX : Hid (∀ w', Below w.heap.size w w' → IsInts w' rX cX .i64 X) := Lib.hid (fun _ h => hX.later h)
  have HY : Hid (∀ w', Below w.heap.size w w' → IsInts w' rY cY .i64 Y) := Lib.hid (fun _ h => hY.later h)
  have HZ : Hid (∀ w', Below w.heap.size w w' → IsRows w' rZ cZ Z) := Lib.hid (fun _ h => hZ.later h)
  have hmax := hZ.max
  have hle := hZ.le
  unfold maxLen at hmax
  have hmy := hY.max
  have hley := hY.le
  unfold maxLen at hmy
  cases ax : axisB X with
  | false =>
    have H := Lib.hid (mapB_false.2 (fun h : MapOk X Y Z => axisB_false.1 ax h.1))
    clear hX hY hZ
    go_enter Try.func68, Try.ntmps68
    go_wp2_with ((go_at_call 101; refine (r6axis_any _ _ _ _ (by first | exact HX.out _ (by (repeat' (first | (with_reducible exact Below.refl _ _) | (with_reducible assumption) | (with_reducible refine below_alloc ?_ _) | (with_reducible refine Below.drew ?_) | (with_reducible refine below_drewN ?_ _) | (with_reducible refine below_step (by assumption) ?_) | (with_reducible refine below_later ?_ _) | (with_reducible refine Below.setCell ?_ ?_ _) | go_size))) | exact HY.out _ (by (repeat' (first | (with_reducible exact Below.refl _ _) | (with_reducible assumption) | (with_reducible refine below_alloc ?_ _) | (with_reducible refine Below.drew ?_) | (with_reducible refine below_drewN ?_ _) | (with_reducible refine below_step (by assumption) ?_) | (with_reducible refine below_later ?_ _) | (with_reducible refine Below.setCell ?_ ?_ _) | go_size))))).mono ?_; rintro e hb1w ⟨rfl, hb1⟩; obtain ⟨hb1c, hb1f⟩ := bcell hb1; have hb1s := hb1.size; (try simp only [World.size_alloc] at hb1s); (try (have : w.heap.size < hb1w.heap.size := by omega)); (try (have : w.heap.size + 1 < hb1w.heap.size := by omega)); (try (have : w.heap.size + 1 + 1 < hb1w.heap.size := by omega)); (try (have : w.heap.size + 1 + 1 + 1 < hb1w.heap.size := by omega)); (try (have : bX < hb1w.heap.size := by omega)); (try (have : bY < hb1w.heap.size := by omega)); (try (have : bZ < hb1w.heap.size := by omega))))
    go_ret
    exact ⟨by rw [H.out]; first | done | rfl, by (repeat' (first | (with_reducible exact Below.refl _ _) | (with_reducible assumption) | (with_reducible refine below_alloc ?_ _) | (with_reducible refine Below.drew ?_) | (with_reducible refine below_drewN ?_ _) | (with_reducible refine below_step (by assumption) ?_) | (with_reducible refine below_later ?_ _) | (with_reducible refine Below.setCell ?_ ?_ _) | go_size))⟩
  | true =>
    cases ay : axisB Y with
    | false =>
      have H := Lib.hid (mapB_false.2 (fun h : MapOk X Y Z => axisB_false.1 ay h.2.1))
      clear hX hY hZ
      go_enter Try.func68, Try.ntmps68
      go_wp2_with ((go_at_call 101; refine (r6axis_any _ _ _ _ (by first | exact HX.out _ (by (repeat' (first | (with_reducible exact Below.refl _ _) | (with_reducible assumption) | (with_reducible refine below_alloc ?_ _) | (with_reducible refine Below.drew ?_) | (with_reducible refine below_drewN ?_ _) | (with_reducible refine below_step (by assumption) ?_) | (with_reducible refine below_later ?_ _) | (with_reducible refine Below.setCell ?_ ?_ _) | go_size))) | exact HY.out _ (by (repeat' (first | (with_reducible exact Below.refl _ _) | (with_reducible assumption) | (with_reducible refine below_alloc ?_ _) | (with_reducible refine Below.drew ?_) | (with_reducible refine below_drewN ?_ _) | (with_reducible refine below_step (by assumption) ?_) | (with_reducible refine below_later ?_ _) | (with_reducible refine Below.setCell ?_ ?_ _) | go_size))))).mono ?_; rintro e hb1w ⟨rfl, hb1⟩; obtain ⟨hb1c, hb1f⟩ := bcell hb1; have hb1s := hb1.size; (try simp only [World.size_alloc] at hb1s); (try (have : w.heap.size < hb1w.heap.size := by omega)); (try (have : w.heap.size + 1 < hb1w.heap.size := by omega)); (try (have : w.heap.size + 1 + 1 < hb1w.heap.size := by omega)); (try (have : w.heap.size + 1 + 1 + 1 < hb1w.heap.size := by omega)); (try (have : bX < hb1w.heap.size := by omega)); (try (have : bY < hb1w.heap.size := by omega)); (try (have : bZ < hb1w.heap.size := by omega))))
      go_ret
      exact ⟨by rw [H.out]; first | done | rfl, by (repeat' (first | (with_reducible exact Below.refl _ _) | (with_reducible assumption) | (with_reducible refine below_alloc ?_ _) | (with_reducible refine Below.drew ?_) | (with_reducible refine below_drewN ?_ _) | (with_reducible refine below_step (by assumption) ?_) | (with_reducible refine below_later ?_ _) | (with_reducible refine Below.setCell ?_ ?_ _) | go_size))⟩
    | true =>
      by_cases hl : Z.length = X.length
      · have hl' : ((Z.length : Int) == (X.length : Int)) = true := by simp [hl]
        have hl2 : (Z.length : Int) = (X.length : Int) := by omega
        have h2 := (axisB_true.1 ax).1
        obtain ⟨bZ, oZ, rfl, hbZ, hcZ⟩ := hZ.cells (fun e => by rw [e] at hl; simp at hl; omega)
        have HC := Lib.hid hcZ
        have HT : Hid (RowsOk Y.length Z → mapB X Y Z = true) := Lib.hid (fun h => mapB_true.2 ⟨axisB_true.1 ax, axisB_true.1 ay, hl, h⟩)
        have HF : Hid (∀ t, t < Z.length → ¬ ((Z.getD t []).length = Y.length ∧ (Z.getD t []).any farB = false) → mapB X Y Z = false) := Lib.hid (fun t ht h => mapB_false.2 (fun hh => h (hh.2.2.2 t ht)))
        clear hX hY hZ hcZ
        generalize hn : Z.length = n at *
        have HN := Lib.hid hn
        clear hn hl' hl2
        subst hl
        go_enter Try.func68, Try.ntmps68
        go_wp2_with ((go_at_call 101; refine (r6axis_any _ _ _ _ (by first | exact HX.out _ (by (repeat' (first | (with_reducible exact Below.refl _ _) | (with_reducible assumption) | (with_reducible refine below_alloc ?_ _) | (with_reducible refine Below.drew ?_) | (with_reducible refine below_drewN ?_ _) | (with_reducible refine below_step (by assumption) ?_) | (with_reducible refine below_later ?_ _) | (with_reducible refine Below.setCell ?_ ?_ _) | go_size))) | exact HY.out _ (by (repeat' (first | (with_reducible exact Below.refl _ _) | (with_reducible assumption) | (with_reducible refine below_alloc ?_ _) | (with_reducible refine Below.drew ?_) | (with_reducible refine below_drewN ?_ _) | (with_reducible refine below_step (by assumption) ?_) | (with_reducible refine below_later ?_ _) | (with_reducible refine Below.setCell ?_ ?_ _) | go_size))))).mono ?_; rintro e hb1w ⟨rfl, hb1⟩; obtain ⟨hb1c, hb1f⟩ := bcell hb1; have hb1s := hb1.size; (try simp only [World.size_alloc] at hb1s); (try (have : w.heap.size < hb1w.heap.size := by omega)); (try (have : w.heap.size + 1 < hb1w.heap.size := by omega)); (try (have : w.heap.size + 1 + 1 < hb1w.heap.size := by omega)); (try (have : w.heap.size + 1 + 1 + 1 < hb1w.heap.size := by omega)); (try (have : bX < hb1w.heap.size := by omega)); (try (have : bY < hb1w.heap.size := by omega)); (try (have : bZ < hb1w.heap.size := by omega))))
        go_loopg [3] X.length (fun kx s3 wr => ∃ (k : Nat) (e : Later hb1w), s3 = .int .i64 k ∧ k ≤ X.length ∧ X.length - k ≤ kx ∧ wr = e.w ∧ Hid (∀ t, t < k → (Z.getD t []).length = Y.length ∧ (Z.getD t []).any farB = false))
        case atStart => exact ⟨0, ⟨_, Below.refl _ _⟩, rfl, by omega, by omega, rfl, Lib.hid (fun t h => absurd h (Nat.not_lt_zero _))⟩
        case round =>
          obtain ⟨k, e, rfl, hk, hkx, rfl, HP⟩ := hrel
          have hes := e.h.size
          have hbo : w.heap.size < e.w.heap.size := by omega
          by_cases hlt : k < X.length
          · have hbw : Below w.heap.size w e.w := by (repeat' (first | (with_reducible exact Below.refl _ _) | (with_reducible assumption) | (with_reducible refine below_alloc ?_ _) | (with_reducible refine Below.drew ?_) | (with_reducible refine below_drewN ?_ _) | (with_reducible refine below_step (by assumption) ?_) | (with_reducible refine below_later ?_ _) | (with_reducible refine Below.setCell ?_ ?_ _) | go_size))
            have hkZ : k < Z.length := by have := HN.out; omega
            have hbe : bZ < e.w.heap.size := by omega
            obtain ⟨ri, ci, g1, g2⟩ := HC.out k (by omega)
            have hc1 : e.w.cell? ⟨bZ, oZ + k, none⟩ = some (.slice ri (Z.getD k []).length ci) := by
              rw [hbw.cell (p := ⟨bZ, oZ + k, none⟩) hbZ]; exact g1
            have hk1 : (0 : Int) ≤ (k : Int) := by omega
            have hk2 : (k : Int) < X.length := by omega
            have HB := Lib.hid (HF.out k hlt)
            have HG : Hid ((Z.getD k []).length = Y.length ∧ (Z.getD k []).any farB = false → ∀ t, t < k + 1 → (Z.getD t []).length = Y.length ∧ (Z.getD t []).any farB = false) := Lib.hid (fun h t ht => by
              by_cases e : t = k
              · subst e; exact h
              · exact HP.out t (by omega))
            have HROW : Hid (IsInts e.w ri ci .i64 (Z.getD k [])) := Lib.hid (g2.later hbw)
            clear g1 g2 hbw
            generalize Z.getD k [] = row at *
            by_cases hrl : row.length = Y.length
            · have hr' : ((row.length : Int) == (Y.length : Int)) = true := by simp [hrl]
              have hr2 : (row.length : Int) = (Y.length : Int) := by omega
              have h2y := (axisB_true.1 ay).1
              obtain ⟨b1, o1, rfl, hb1lt, hcr⟩ := HROW.out.cells (fun e => by subst e; simp at hrl; omega)
              have HCR := Lib.hid hcr
              clear hcr HROW
              have HFR : Hid ((∀ t, t < row.length → farB (row.getD t 0) = false) → ∀ t, t < k + 1 → (Z.getD t []).length = Y.length ∧ (Z.getD t []).any farB = false) := Lib.hid (fun h => HG.out ⟨hrl, far_all h⟩)
              have HFB : Hid (∀ t, t < row.length → farB (row.getD t 0) = true → mapB X Y Z = false) := Lib.hid (fun t ht h => HB.out (fun hh => by
                have := far_hit ht h
                rw [hh.2] at this
                cases this))
              have HRL := Lib.hid hrl
              rw [hrl] at hc1
              clear hrl HG HB
              go_wp2
              go_quiet (fail)
              go_wp2
              go_loopg [4] Y.length (fun ky s4 wq => ∃ (j : Nat) (q : Later e.w), s4 = .int .i64 j ∧ j ≤ Y.length ∧ Y.length - j ≤ ky ∧ wq = q.w ∧ Hid (∀ t, t < j → farB (row.getD t 0) = false))
              case atStart => exact ⟨0, ⟨_, below_drewN (Below.refl _ _) _⟩, rfl, by omega, by omega, rfl, Lib.hid (fun t h => absurd h (Nat.not_lt_zero _))⟩
              case round =>
                obtain ⟨j, q, rfl, hj, hjy, rfl, HJ⟩ := hrel
                have hqs := q.h.size
                have hbq : w.heap.size < q.w.heap.size := by omega
                by_cases hjl : j < Y.length
                · have hj1 : (0 : Int) ≤ (j : Int) := by omega
                  have hj2 : (j : Int) < Y.length := by omega
                  have hc2 : q.w.cell? ⟨b1, o1 + j, none⟩ = some (.int .i64 (row.getD j 0)) := by
                    rw [q.h.cell (p := ⟨b1, o1 + j, none⟩) hb1lt]
                    exact HCR.out j (by have := HRL.out; omega)
                  have HJ2 : Hid (farB (row.getD j 0) = false → ∀ t, t < j + 1 → farB (row.getD t 0) = false) := Lib.hid (fun h t ht => by
                    by_cases e : t = j
                    · subst e; exact h
                    · exact HJ.out t (by omega))
                  have HJB := Lib.hid (HFB.out j (by have := HRL.out; omega))
                  generalize row.getD j 0 = z at hc2 HJ2 HJB
                  cases hf : farB z with
                  | true =>
                    have H := Lib.hid (HJB.out hf)
                    go_wp2_with ((go_at_call 102; refine (r6far_any _ _).mono ?_; rintro e w' ⟨rfl, rfl⟩))
                    go_ret
                    exact ⟨by rw [H.out]; first | done | rfl, by (repeat' (first | (with_reducible exact Below.refl _ _) | (with_reducible assumption) | (with_reducible refine below_alloc ?_ _) | (with_reducible refine Below.drew ?_) | (with_reducible refine below_drewN ?_ _) | (with_reducible refine below_step (by assumption) ?_) | (with_reducible refine below_later ?_ _) | (with_reducible refine Below.setCell ?_ ?_ _) | go_size))⟩
                  | false =>
                    have HJ3 := Lib.hid (HJ2.out hf)
                    go_wp2_with ((go_at_call 102; refine (r6far_any _ _).mono ?_; rintro e w' ⟨rfl, rfl⟩))
                    go_roundg (Y.length - (j + 1))
                    case measure => omega
                    case rel => exact ⟨j + 1, q, by go_num, by omega, by omega, rfl, HJ3⟩
                · obtain rfl : j = Y.length := by omega
                  have HG2 := Lib.hid (HFR.out (fun t ht => HJ.out t (by have := HRL.out; omega)))
                  go_wp2
                  go_roundg (X.length - (k + 1))
                  case measure => omega
                  case rel => exact ⟨k + 1, ⟨q.w, by (repeat' (first | (with_reducible exact Below.refl _ _) | (with_reducible assumption) | (with_reducible refine below_alloc ?_ _) | (with_reducible refine Below.drew ?_) | (with_reducible refine below_drewN ?_ _) | (with_reducible refine below_step (by assumption) ?_) | (with_reducible refine below_later ?_ _) | (with_reducible refine Below.setCell ?_ ?_ _) | go_size))⟩, by go_num, by omega, by omega, rfl, HG2⟩
            · have hr' : ((row.length : Int) == (Y.length : Int)) = false := by simp; omega
              have hr2 : ¬ (row.length : Int) = (Y.length : Int) := by omega
              have H := Lib.hid (HB.out (fun h => hrl h.1))
              clear hrl
              go_wp2
              go_quiet (fail)
              go_wp2
              go_ret
              exact ⟨by rw [H.out]; first | done | rfl, by (repeat' (first | (with_reducible exact Below.refl _ _) | (with_reducible assumption) | (with_reducible refine below_alloc ?_ _) | (with_reducible refine Below.drew ?_) | (with_reducible refine below_drewN ?_ _) | (with_reducible refine below_step (by assumption) ?_) | (with_reducible refine below_later ?_ _) | (with_reducible refine Below.setCell ?_ ?_ _) | go_size))⟩
          · obtain rfl : k = X.length := by omega
            have H := Lib.hid (HT.out (fun t ht => HP.out t (by have := HN.out; omega)))
            go_wp2
            go_ret
            exact ⟨by rw [H.out]; first | done | rfl, by (repeat' (first | (with_reducible exact Below.refl _ _) | (with_reducible assumption) | (with_reducible refine below_alloc ?_ _) | (with_reducible refine Below.drew ?_) | (with_reducible refine below_drewN ?_ _) | (with_reducible refine below_step (by assumption) ?_) | (with_reducible refine below_later ?_ _) | (with_reducible refine Below.setCell ?_ ?_ _) | go_size))⟩
      · have hl' : ((Z.length : Int) == (X.length : Int)) = false := by simp; omega
        have hl2 : ¬ (Z.length : Int) = (X.length : Int) := by omega
        have H := Lib.hid (mapB_false.2 (fun h : MapOk X Y Z => hl h.2.2.1))
        clear hX hY hZ hl
        go_enter Try.func68, Try.ntmps68
        go_wp2_with ((go_at_call 101; refine (r6axis_any _ _ _ _ (by first | exact HX.out _ (by (repeat' (first | (with_reducible exact Below.refl _ _) | (with_reducible assumption) | (with_reducible refine below_alloc ?_ _) | (with_reducible refine Below.drew ?_) | (with_reducible refine below_drewN ?_ _) | (with_reducible refine below_step (by assumption) ?_) | (with_reducible refine below_later ?_ _) | (with_reducible refine Below.setCell ?_ ?_ _) | go_size))) | exact HY.out _ (by (repeat' (first | (with_reducible exact Below.refl _ _) | (with_reducible assumption) | (with_reducible refine below_alloc ?_ _) | (with_reducible refine Below.drew ?_) | (with_reducible refine below_drewN ?_ _) | (with_reducible refine below_step (by assumption) ?_) | (with_reducible refine below_later ?_ _) | (with_reducible refine Below.setCell ?_ ?_ _) | go_size))))).mono ?_; rintro e hb1w ⟨rfl, hb1⟩; obtain ⟨hb1c, hb1f⟩ := bcell hb1; have hb1s := hb1.size; (try simp only [World.size_alloc] at hb1s); (try (have : w.heap.size < hb1w.heap.size := by omega)); (try (have : w.heap.size + 1 < hb1w.heap.size := by omega)); (try (have : w.heap.size + 1 + 1 < hb1w.heap.size := by omega)); (try (have : w.heap.size + 1 + 1 + 1 < hb1w.heap.size := by omega)); (try (have : bX < hb1w.heap.size := by omega)); (try (have : bY < hb1w.heap.size := by omega)); (try (have : bZ < hb1w.heap.size := by omega))))
        go_ret
        exact ⟨by rw [H.out]; first | done | rfl, by (repeat' (first | (with_reducible exact Below.refl _ _) | (with_reducible assumption) | (with_reducible refine below_alloc ?_ _) | (with_reducible refine Below.drew ?_) | (with_reducible refine below_drewN ?_ _) | (with_reducible refine below_step (by assumption) ?_) | (with_reducible refine below_later ?_ _) | (with_reducible refine Below.setCell ?_ ?_ _) | go_size))⟩
end Go.Proofs.Ytohdbneaganfbaa
