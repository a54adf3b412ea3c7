/- Contracts of surface's axis, Valid, between and segment. Printed by a program. -/
import Derived.Test.YtohdbneaganfbaaSurfP
import Derived.Test.YtohdbneaganfbaaCurve
import Derived.Test.YtohdbneaganfbaaGrid
import Derived.StillTailTactics
namespace Go.Proofs.Ytohdbneaganfbaa
set_option linter.unusedVariables false
set_option linter.unusedSimpArgs false
open Go.RowKit Go.ChangeShapes Go.WideShapes Go.ChangeAt

theorem element_any (x : Int) (w : World) : Calls Try.prog 96 #[.int .i64 x] w fun e w' => e = .returned (.bool (!farB x)) ∧ w = w' := by
  go_enter Try.func96, Try.ntmps96
  go_wp2
  all_goals go_ret
  all_goals exact ⟨ret_bool (by grind [farB]), rfl⟩
theorem elementCl_any (x : Int) (w : World) : Calls Try.prog 95 #[.int .i64 x] w fun e w' => e = .returned (.bool (farB x)) ∧ w = w' := by
  go_enter Try.func95, Try.ntmps95
  go_wp2_with ((go_at_call 96; refine (element_any _ _).mono ?_; rintro e w' ⟨rfl, rfl⟩))
  go_ret
  exact ⟨by simp, rfl⟩
theorem sfar_any (r : Option Addr) (cap : Nat) (xs : List Int) (w : World) (hxs : IsInts w r cap .i64 xs) :
    Calls Try.prog 66 #[.slice r xs.length cap, .func (.func 95) #[] #[]] w fun e w' => e = .returned (.bool (xs.any farB)) ∧ Below w.heap.size w w' :=
  containsFunc_any 95 #[] r cap xs farB w (enters_of Try.func95 (by kernel_rfl) rfl) hxs (fun e x _ => below_same (elementCl_any x e.w))
theorem getD_of {xs : List Int} {k : Nat} {x : Int} (h : xs.getD k 0 = x) : xs.getD k 0 = x := h

set_option maxHeartbeats 1000000 in
theorem saxis_any (r : Option Addr) (cap : Nat) (xs : List Int) (w : World) (hxs : IsInts w r cap .i64 xs) :
    Calls Try.prog 94 #[.slice r xs.length cap] w fun e w' => e = .returned (.bool (axisB xs)) ∧ Below w.heap.size w w' := by
  by_cases h2 : xs.length < 2
  · have H := Lib.hid (axisB_false.2 (fun h : AxisOk xs => by have := h.1; omega))
    have h2' : (xs.length : Int) < 2 := by omega
    clear hxs h2
    go_enter Try.func94, Try.ntmps94
    go_wp2
    go_ret
    exact ⟨by rw [H.out]; first | done | rfl, by (repeat' (first | (with_reducible exact Below.refl _ _) | (with_reducible assumption) | (with_reducible refine below_alloc ?_ _) | (with_reducible refine Below.drew ?_) | (with_reducible refine below_drewN ?_ _) | (with_reducible refine below_step (by assumption) ?_) | (with_reducible refine below_later ?_ _) | (with_reducible refine Below.setCell ?_ ?_ _) | go_size))⟩
  · by_cases h3 : 32 < xs.length
    · have H := Lib.hid (axisB_false.2 (fun h : AxisOk xs => by have := h.2.1; omega))
      have h2' : ¬ (xs.length : Int) < 2 := by omega
      have h3' : (32 : Int) < xs.length := by omega
      clear hxs h2 h3
      go_enter Try.func94, Try.ntmps94
      go_wp2
      go_ret
      exact ⟨by rw [H.out]; first | done | rfl, by (repeat' (first | (with_reducible exact Below.refl _ _) | (with_reducible assumption) | (with_reducible refine below_alloc ?_ _) | (with_reducible refine Below.drew ?_) | (with_reducible refine below_drewN ?_ _) | (with_reducible refine below_step (by assumption) ?_) | (with_reducible refine below_later ?_ _) | (with_reducible refine Below.setCell ?_ ?_ _) | go_size))⟩
    · have h2' : ¬ (xs.length : Int) < 2 := by omega
      have h3' : ¬ (32 : Int) < xs.length := by omega
      obtain ⟨bX, off, rfl, hb, hc⟩ := hxs.cells (fun e => by subst e; simp at h2)
      have HC := Lib.hid hc
      have HAX : Hid ((∀ t, t < xs.length → farB (xs.getD t 0) = false) → (∀ t, t + 1 < xs.length → xs.getD t 0 < xs.getD (t + 1) 0) → AxisOk xs) := Lib.hid (fun g h => ⟨by omega, by omega, far_all g, h⟩)
      clear hc hxs
      generalize hn : xs.length = n at *
      have HN := Lib.hid hn
      clear hn
      go_enter Try.func94, Try.ntmps94
      go_wp2
      go_loopg [15] n (fun kx s15 wr => ∃ (k : Nat) (e : Later w), s15 = .int .i64 k ∧ k ≤ n ∧ n - k ≤ kx ∧ wr = e.w ∧ Hid (∀ t, t < k → farB (xs.getD t 0) = false) ∧ Hid (∀ t, t + 1 < k → xs.getD t 0 < xs.getD (t + 1) 0))
      case atStart => exact ⟨0, ⟨w, Below.refl _ _⟩, rfl, by omega, by omega, rfl, Lib.hid (fun t h => absurd h (Nat.not_lt_zero _)), Lib.hid (fun t h => absurd h (Nat.not_lt_zero _))⟩
      case round =>
        obtain ⟨k, e, rfl, hk, hkx, rfl, HP, HQ⟩ := hrel
        have hes := e.h.size
        have hbe : bX < e.w.heap.size := by omega
        by_cases hlt : k < n
        · have hk1 : (0 : Int) ≤ (k : Int) := by omega
          have hk2 : (k : Int) < n := by omega
          have hc1 : e.w.cell? ⟨bX, off + k, none⟩ = some (.int .i64 (xs.getD k 0)) := by
            rw [Later.cell e hb]
            exact HC.out k (by have := HN.out; omega)
          have HF : Hid (farB (xs.getD k 0) = true → axisB xs = false) := Lib.hid (fun h => axisB_false.2 (fun hh => by have := far_hit (show k < xs.length by have := HN.out; omega) h; rw [hh.2.2.1] at this; cases this))
          cases hf : farB (xs.getD k 0) with
          | true =>
            have H := Lib.hid (HF.out hf)
            clear HF
            generalize xs.getD k 0 = x at hc1 hf
            go_wp2_with ((go_at_call 96; refine (element_any _ _).mono ?_; rintro e w' ⟨rfl, rfl⟩))
            go_ret
            exact ⟨by rw [H.out]; first | done | rfl, e.h⟩
          | false =>
            have HFK := Lib.hid hf
            clear HF
            by_cases hk0 : k = 0
            · have hkd : decide ((0 : Int) < (k : Int)) = false := by simp; omega
              have hkd2 : decide (0 < k) = false := by simp; omega
              have HK := Lib.hid hk0
              clear hk0
              generalize hx : xs.getD k 0 = x at hc1 hf
              have HX := Lib.hid hx
              clear hx
              go_wp2_with ((go_at_call 96; refine (element_any _ _).mono ?_; rintro e w' ⟨rfl, rfl⟩))
              go_roundg (n - (k + 1))
              case measure => omega
              case rel =>
                have hkk := HK.out
                refine ⟨k + 1, e, by go_num, by omega, Nat.le_refl _, rfl, Lib.hid (fun t ht => ?_), Lib.hid (fun t ht => by omega)⟩
                obtain rfl : t = k := by omega
                exact HFK.out
            · have hk3 : (0 : Int) < (k : Int) := by omega
              have hk6 : 0 < k := by omega
              have hw1 : IntKind.i64.wrap ((k : Int) - 1) = (k : Int) - 1 := IntWalk.i64_in _ (by omega)
              have hk4 : (0 : Int) ≤ (k : Int) - 1 := by omega
              have hk5 : (k : Int) - 1 < n := by omega
              have hc2 : e.w.cell? ⟨bX, off + (k - 1), none⟩ = some (.int .i64 (xs.getD (k - 1) 0)) := by
                rw [Later.cell e hb]
                exact HC.out (k - 1) (by have := HN.out; omega)
              have HV : Hid (∀ x y, xs.getD k 0 = x → xs.getD (k - 1) 0 = y → x ≤ y → axisB xs = false) := Lib.hid (fun x y h1 h2 h => axisB_false.2 (fun hh => by
                have := hh.2.2.2 (k - 1) (by have := HN.out; omega)
                rw [show k - 1 + 1 = k by omega, h1, h2] at this
                omega))
              generalize hx : xs.getD k 0 = x at hc1 hf
              generalize hy : xs.getD (k - 1) 0 = y at hc2
              have HXY := Lib.hid (And.intro hx hy)
              clear hx hy
              by_cases hxy : x ≤ y
              · have H := Lib.hid (HV.out x y HXY.out.1 HXY.out.2 hxy)
                go_wp2_with ((go_at_call 96; refine (element_any _ _).mono ?_; rintro e w' ⟨rfl, rfl⟩))
                go_ret
                exact ⟨by rw [H.out]; first | done | rfl, e.h⟩
              · have hxy2 : y < x := by omega
                have HLT := Lib.hid hxy2
                go_wp2_with ((go_at_call 96; refine (element_any _ _).mono ?_; rintro e w' ⟨rfl, rfl⟩))
                go_roundg (n - (k + 1))
                case measure => omega
                case rel =>
                  refine ⟨k + 1, e, by go_num, by omega, Nat.le_refl _, rfl, Lib.hid (fun t ht => ?_), Lib.hid (fun t ht => ?_)⟩
                  · by_cases h : t < k
                    · exact HP.out t h
                    · obtain rfl : t = k := by omega
                      exact HFK.out
                  · by_cases h : t + 1 < k
                    · exact HQ.out t h
                    · obtain rfl : t = k - 1 := by omega
                      rw [show k - 1 + 1 = k by omega, HXY.out.1, HXY.out.2]
                      exact HLT.out
        · obtain rfl : k = n := by omega
          go_wp2
          go_ret
          refine ⟨ret_bool ?_, e.h⟩
          exact (axisB_true.2 (HAX.out HP.out HQ.out)).symm


theorem rows_row {n : Nat} {Z : List (List Int)} {k : Nat} (h : ∀ t, t < k + 1 → (Z.getD t []).length = n ∧ (Z.getD t []).any farB = false) : ∀ t, t < k + 1 → (Z.getD t []).length = n ∧ (Z.getD t []).any farB = false := h
set_option maxHeartbeats 1000000 in
theorem svalid_any (rX rY rZ : Option Addr) (cX cY cZ : Nat) (X Y : List Int) (Z : List (List Int)) (w : World) (hX : IsInts w rX cX .i64 X) (hY : IsInts w rY cY .i64 Y) (hZ : IsRows w rZ cZ Z) :
    Calls Try.prog 63 #[.agg #[.slice rX X.length cX, .slice rY Y.length cY, .slice rZ Z.length cZ]] w fun e w' => e = .returned (.bool (mapB X Y Z)) ∧ Below w.heap.size w w' := by
  have HX : Hid (∀ w', Below w.heap.size w w' → IsInts w' rX cX .i64 X) := Lib.hid (fun _ h => hX.later h)
  have HY : Hid (∀ w', Below w.heap.size w w' → IsInts w' rY cY .i64 Y) := Lib.hid (fun _ h => hY.later h)
  have HZ : Hid (∀ w', Below w.heap.size w w' → IsRows w' rZ cZ Z) := Lib.hid (fun _ h => hZ.later h)
  have hmax := hZ.max
  have hle := hZ.le
  unfold maxLen at hmax
  cases ax : axisB X with
  | false =>
    have H := Lib.hid (mapB_false.2 (fun h : MapOk X Y Z => axisB_false.1 ax h.1))
    clear hX hY hZ
    go_enter Try.func63, Try.ntmps63
    go_wp2_with ((go_at_call 94; refine (saxis_any _ _ X _ (HX.out _ (by (repeat' (first | (with_reducible exact Below.refl _ _) | (with_reducible assumption) | (with_reducible refine below_alloc ?_ _) | (with_reducible refine Below.drew ?_) | (with_reducible refine below_drewN ?_ _) | (with_reducible refine below_step (by assumption) ?_) | (with_reducible refine below_later ?_ _) | (with_reducible refine Below.setCell ?_ ?_ _) | go_size))))).mono ?_; rintro e hb1w ⟨rfl, hb1⟩; obtain ⟨hb1c, hb1f⟩ := bcell hb1; have hb1s := hb1.size; (try simp only [World.size_alloc] at hb1s); (try (have : w.heap.size < hb1w.heap.size := by omega)); (try (have : w.heap.size + 1 < hb1w.heap.size := by omega)); (try (have : w.heap.size + 1 + 1 < hb1w.heap.size := by omega)); (try (have : w.heap.size + 1 + 1 + 1 < hb1w.heap.size := by omega)); (try (have : bX < hb1w.heap.size := by omega)); (try (have : bY < hb1w.heap.size := by omega)); (try (have : bZ < hb1w.heap.size := by omega))))
    go_ret
    exact ⟨by rw [H.out]; first | done | rfl, by (repeat' (first | (with_reducible exact Below.refl _ _) | (with_reducible assumption) | (with_reducible refine below_alloc ?_ _) | (with_reducible refine Below.drew ?_) | (with_reducible refine below_drewN ?_ _) | (with_reducible refine below_step (by assumption) ?_) | (with_reducible refine below_later ?_ _) | (with_reducible refine Below.setCell ?_ ?_ _) | go_size))⟩
  | true =>
    cases ay : axisB Y with
    | false =>
      have H := Lib.hid (mapB_false.2 (fun h : MapOk X Y Z => axisB_false.1 ay h.2.1))
      clear hX hY hZ
      go_enter Try.func63, Try.ntmps63
      go_wp2_with ((go_at_call 94; refine (saxis_any _ _ _ _ (by first | exact HX.out _ (by (repeat' (first | (with_reducible exact Below.refl _ _) | (with_reducible assumption) | (with_reducible refine below_alloc ?_ _) | (with_reducible refine Below.drew ?_) | (with_reducible refine below_drewN ?_ _) | (with_reducible refine below_step (by assumption) ?_) | (with_reducible refine below_later ?_ _) | (with_reducible refine Below.setCell ?_ ?_ _) | go_size))) | exact HY.out _ (by (repeat' (first | (with_reducible exact Below.refl _ _) | (with_reducible assumption) | (with_reducible refine below_alloc ?_ _) | (with_reducible refine Below.drew ?_) | (with_reducible refine below_drewN ?_ _) | (with_reducible refine below_step (by assumption) ?_) | (with_reducible refine below_later ?_ _) | (with_reducible refine Below.setCell ?_ ?_ _) | go_size))))).mono ?_; rintro e hb1w ⟨rfl, hb1⟩; obtain ⟨hb1c, hb1f⟩ := bcell hb1; have hb1s := hb1.size; (try simp only [World.size_alloc] at hb1s); (try (have : w.heap.size < hb1w.heap.size := by omega)); (try (have : w.heap.size + 1 < hb1w.heap.size := by omega)); (try (have : w.heap.size + 1 + 1 < hb1w.heap.size := by omega)); (try (have : w.heap.size + 1 + 1 + 1 < hb1w.heap.size := by omega)); (try (have : bX < hb1w.heap.size := by omega)); (try (have : bY < hb1w.heap.size := by omega)); (try (have : bZ < hb1w.heap.size := by omega))))
      go_ret
      exact ⟨by rw [H.out]; first | done | rfl, by (repeat' (first | (with_reducible exact Below.refl _ _) | (with_reducible assumption) | (with_reducible refine below_alloc ?_ _) | (with_reducible refine Below.drew ?_) | (with_reducible refine below_drewN ?_ _) | (with_reducible refine below_step (by assumption) ?_) | (with_reducible refine below_later ?_ _) | (with_reducible refine Below.setCell ?_ ?_ _) | go_size))⟩
    | true =>
      by_cases hl : Z.length = X.length
      · have hl' : ((Z.length : Int) == (X.length : Int)) = true := by simp [hl]
        have hl2 : (Z.length : Int) = (X.length : Int) := by omega
        have h2 := (axisB_true.1 ax).1
        obtain ⟨bZ, oZ, rfl, hbZ, hcZ⟩ := hZ.cells (fun e => by rw [e] at hl; simp at hl; omega)
        have HC := Lib.hid hcZ
        have HT : Hid (RowsOk Y.length Z → mapB X Y Z = true) := Lib.hid (fun h => mapB_true.2 ⟨axisB_true.1 ax, axisB_true.1 ay, hl, h⟩)
        have HF : Hid (∀ t, t < Z.length → ¬ ((Z.getD t []).length = Y.length ∧ (Z.getD t []).any farB = false) → mapB X Y Z = false) := Lib.hid (fun t ht h => mapB_false.2 (fun hh => h (hh.2.2.2 t ht)))
        clear hX hY hZ hcZ
        generalize hn : Z.length = n at *
        have HN := Lib.hid hn
        clear hn
        go_enter Try.func63, Try.ntmps63
        go_wp2_with ((go_at_call 94; refine (saxis_any _ _ _ _ (by first | exact HX.out _ (by (repeat' (first | (with_reducible exact Below.refl _ _) | (with_reducible assumption) | (with_reducible refine below_alloc ?_ _) | (with_reducible refine Below.drew ?_) | (with_reducible refine below_drewN ?_ _) | (with_reducible refine below_step (by assumption) ?_) | (with_reducible refine below_later ?_ _) | (with_reducible refine Below.setCell ?_ ?_ _) | go_size))) | exact HY.out _ (by (repeat' (first | (with_reducible exact Below.refl _ _) | (with_reducible assumption) | (with_reducible refine below_alloc ?_ _) | (with_reducible refine Below.drew ?_) | (with_reducible refine below_drewN ?_ _) | (with_reducible refine below_step (by assumption) ?_) | (with_reducible refine below_later ?_ _) | (with_reducible refine Below.setCell ?_ ?_ _) | go_size))))).mono ?_; rintro e hb1w ⟨rfl, hb1⟩; obtain ⟨hb1c, hb1f⟩ := bcell hb1; have hb1s := hb1.size; (try simp only [World.size_alloc] at hb1s); (try (have : w.heap.size < hb1w.heap.size := by omega)); (try (have : w.heap.size + 1 < hb1w.heap.size := by omega)); (try (have : w.heap.size + 1 + 1 < hb1w.heap.size := by omega)); (try (have : w.heap.size + 1 + 1 + 1 < hb1w.heap.size := by omega)); (try (have : bX < hb1w.heap.size := by omega)); (try (have : bY < hb1w.heap.size := by omega)); (try (have : bZ < hb1w.heap.size := by omega))))
        go_loopg [27] n (fun kx s27 wr => ∃ (k : Nat) (e : Later hb1w), s27 = .int .i64 k ∧ k ≤ n ∧ n - k ≤ kx ∧ wr = e.w ∧ Hid (∀ t, t < k → (Z.getD t []).length = Y.length ∧ (Z.getD t []).any farB = false))
        case atStart => exact ⟨0, ⟨_, Below.refl _ _⟩, rfl, by omega, by omega, rfl, Lib.hid (fun t h => absurd h (Nat.not_lt_zero _))⟩
        case round =>
          obtain ⟨k, e, rfl, hk, hkx, rfl, HP⟩ := hrel
          have hes := e.h.size
          have hbo : w.heap.size < e.w.heap.size := by omega
          by_cases hlt : k < n
          · have hbw : Below w.heap.size w e.w := by (repeat' (first | (with_reducible exact Below.refl _ _) | (with_reducible assumption) | (with_reducible refine below_alloc ?_ _) | (with_reducible refine Below.drew ?_) | (with_reducible refine below_drewN ?_ _) | (with_reducible refine below_step (by assumption) ?_) | (with_reducible refine below_later ?_ _) | (with_reducible refine Below.setCell ?_ ?_ _) | go_size))
            have hkZ : k < Z.length := by have := HN.out; omega
            obtain ⟨ri, ci, g1, g2⟩ := HC.out k (by omega)
            have hc1 : e.w.cell? ⟨bZ, oZ + k, none⟩ = some (.slice ri (Z.getD k []).length ci) := by
              rw [hbw.cell (p := ⟨bZ, oZ + k, none⟩) hbZ]; exact g1
            have HR : Hid (∀ w', Below w.heap.size w w' → IsInts w' ri ci .i64 (Z.getD k [])) := Lib.hid (fun _ h => g2.later h)
            have hk1 : (0 : Int) ≤ (k : Int) := by omega
            have hk2 : (k : Int) < n := by omega
            have HB := Lib.hid (HF.out k hlt)
            have HG : Hid ((Z.getD k []).length = Y.length ∧ (Z.getD k []).any farB = false → ∀ t, t < k + 1 → (Z.getD t []).length = Y.length ∧ (Z.getD t []).any farB = false) := Lib.hid (fun h t ht => by
              by_cases e : t = k
              · subst e; exact h
              · exact HP.out t (by omega))
            clear g1 g2 hbw
            generalize Z.getD k [] = row at *
            by_cases hrl : row.length = Y.length
            · have hr' : ((row.length : Int) == (Y.length : Int)) = true := by simp [hrl]
              have hr2 : (row.length : Int) = (Y.length : Int) := by omega
              cases hf : row.any farB with
              | true =>
                have H := Lib.hid (HB.out (fun h => by rw [hf] at h; cases h.2))
                clear hrl
                go_wp2_with ((go_at_call 66; refine (sfar_any _ _ _ _ (HR.out _ (by (repeat' (first | (with_reducible exact Below.refl _ _) | (with_reducible assumption) | (with_reducible refine below_alloc ?_ _) | (with_reducible refine Below.drew ?_) | (with_reducible refine below_drewN ?_ _) | (with_reducible refine below_step (by assumption) ?_) | (with_reducible refine below_later ?_ _) | (with_reducible refine Below.setCell ?_ ?_ _) | go_size))))).mono ?_; rintro e hb3w ⟨rfl, hb3⟩; obtain ⟨hb3c, hb3f⟩ := bcell hb3; have hb3s := hb3.size; (try simp only [World.size_alloc] at hb3s); (try (have : w.heap.size < hb3w.heap.size := by omega)); (try (have : w.heap.size + 1 < hb3w.heap.size := by omega)); (try (have : w.heap.size + 1 + 1 < hb3w.heap.size := by omega)); (try (have : w.heap.size + 1 + 1 + 1 < hb3w.heap.size := by omega)); (try (have : bX < hb3w.heap.size := by omega)); (try (have : bY < hb3w.heap.size := by omega)); (try (have : bZ < hb3w.heap.size := by omega))))
                go_ret
                exact ⟨by rw [H.out]; first | done | rfl, by (repeat' (first | (with_reducible exact Below.refl _ _) | (with_reducible assumption) | (with_reducible refine below_alloc ?_ _) | (with_reducible refine Below.drew ?_) | (with_reducible refine below_drewN ?_ _) | (with_reducible refine below_step (by assumption) ?_) | (with_reducible refine below_later ?_ _) | (with_reducible refine Below.setCell ?_ ?_ _) | go_size))⟩
              | false =>
                have HG2 := Lib.hid (HG.out ⟨hrl, hf⟩)
                clear hrl
                go_wp2_with ((go_at_call 66; refine (sfar_any _ _ _ _ (HR.out _ (by (repeat' (first | (with_reducible exact Below.refl _ _) | (with_reducible assumption) | (with_reducible refine below_alloc ?_ _) | (with_reducible refine Below.drew ?_) | (with_reducible refine below_drewN ?_ _) | (with_reducible refine below_step (by assumption) ?_) | (with_reducible refine below_later ?_ _) | (with_reducible refine Below.setCell ?_ ?_ _) | go_size))))).mono ?_; rintro e hb3w ⟨rfl, hb3⟩; obtain ⟨hb3c, hb3f⟩ := bcell hb3; have hb3s := hb3.size; (try simp only [World.size_alloc] at hb3s); (try (have : w.heap.size < hb3w.heap.size := by omega)); (try (have : w.heap.size + 1 < hb3w.heap.size := by omega)); (try (have : w.heap.size + 1 + 1 < hb3w.heap.size := by omega)); (try (have : w.heap.size + 1 + 1 + 1 < hb3w.heap.size := by omega)); (try (have : bX < hb3w.heap.size := by omega)); (try (have : bY < hb3w.heap.size := by omega)); (try (have : bZ < hb3w.heap.size := by omega))))
                go_roundg (n - (k + 1))
                case measure => omega
                case rel => exact ⟨k + 1, ⟨hb3w, by (repeat' (first | (with_reducible exact Below.refl _ _) | (with_reducible assumption) | (with_reducible refine below_alloc ?_ _) | (with_reducible refine Below.drew ?_) | (with_reducible refine below_drewN ?_ _) | (with_reducible refine below_step (by assumption) ?_) | (with_reducible refine below_later ?_ _) | (with_reducible refine Below.setCell ?_ ?_ _) | go_size))⟩, by go_num, by omega, by omega, rfl, HG2⟩
            · have hr' : ((row.length : Int) == (Y.length : Int)) = false := by simp; omega
              have hr2 : ¬ (row.length : Int) = (Y.length : Int) := by omega
              have H := Lib.hid (HB.out (fun h => hrl h.1))
              clear hrl
              go_wp2
              go_ret
              exact ⟨by rw [H.out]; first | done | rfl, by (repeat' (first | (with_reducible exact Below.refl _ _) | (with_reducible assumption) | (with_reducible refine below_alloc ?_ _) | (with_reducible refine Below.drew ?_) | (with_reducible refine below_drewN ?_ _) | (with_reducible refine below_step (by assumption) ?_) | (with_reducible refine below_later ?_ _) | (with_reducible refine Below.setCell ?_ ?_ _) | go_size))⟩
          · obtain rfl : k = n := by omega
            have H := Lib.hid (HT.out (fun t ht => HP.out t (by have := HN.out; omega)))
            go_wp2
            go_ret
            exact ⟨by rw [H.out]; first | done | rfl, by (repeat' (first | (with_reducible exact Below.refl _ _) | (with_reducible assumption) | (with_reducible refine below_alloc ?_ _) | (with_reducible refine Below.drew ?_) | (with_reducible refine below_drewN ?_ _) | (with_reducible refine below_step (by assumption) ?_) | (with_reducible refine below_later ?_ _) | (with_reducible refine Below.setCell ?_ ?_ _) | go_size))⟩
      · have hl' : ((Z.length : Int) == (X.length : Int)) = false := by simp; omega
        have hl2 : ¬ (Z.length : Int) = (X.length : Int) := by omega
        have H := Lib.hid (mapB_false.2 (fun h : MapOk X Y Z => hl h.2.2.1))
        clear hX hY hZ hl
        go_enter Try.func63, Try.ntmps63
        go_wp2_with ((go_at_call 94; refine (saxis_any _ _ _ _ (by first | exact HX.out _ (by (repeat' (first | (with_reducible exact Below.refl _ _) | (with_reducible assumption) | (with_reducible refine below_alloc ?_ _) | (with_reducible refine Below.drew ?_) | (with_reducible refine below_drewN ?_ _) | (with_reducible refine below_step (by assumption) ?_) | (with_reducible refine below_later ?_ _) | (with_reducible refine Below.setCell ?_ ?_ _) | go_size))) | exact HY.out _ (by (repeat' (first | (with_reducible exact Below.refl _ _) | (with_reducible assumption) | (with_reducible refine below_alloc ?_ _) | (with_reducible refine Below.drew ?_) | (with_reducible refine below_drewN ?_ _) | (with_reducible refine below_step (by assumption) ?_) | (with_reducible refine below_later ?_ _) | (with_reducible refine Below.setCell ?_ ?_ _) | go_size))))).mono ?_; rintro e hb1w ⟨rfl, hb1⟩; obtain ⟨hb1c, hb1f⟩ := bcell hb1; have hb1s := hb1.size; (try simp only [World.size_alloc] at hb1s); (try (have : w.heap.size < hb1w.heap.size := by omega)); (try (have : w.heap.size + 1 < hb1w.heap.size := by omega)); (try (have : w.heap.size + 1 + 1 < hb1w.heap.size := by omega)); (try (have : w.heap.size + 1 + 1 + 1 < hb1w.heap.size := by omega)); (try (have : bX < hb1w.heap.size := by omega)); (try (have : bY < hb1w.heap.size := by omega)); (try (have : bZ < hb1w.heap.size := by omega))))
        go_ret
        exact ⟨by rw [H.out]; first | done | rfl, by (repeat' (first | (with_reducible exact Below.refl _ _) | (with_reducible assumption) | (with_reducible refine below_alloc ?_ _) | (with_reducible refine Below.drew ?_) | (with_reducible refine below_drewN ?_ _) | (with_reducible refine below_step (by assumption) ?_) | (with_reducible refine below_later ?_ _) | (with_reducible refine Below.setCell ?_ ?_ _) | go_size))⟩
end Go.Proofs.Ytohdbneaganfbaa
