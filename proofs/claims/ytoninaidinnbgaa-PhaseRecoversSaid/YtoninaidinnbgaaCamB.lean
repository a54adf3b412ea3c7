/- Contracts of ValidCam and Halves of cams and of the reference's. Printed by a program. -/
import Derived.Test.YtoninaidinnbgaaCamA
namespace Go.Proofs.Ytoninaidinnbgaa
set_option linter.unusedVariables false
set_option linter.unusedSimpArgs false
open Go.RowKit Go.ChangeShapes Go.WideShapes Go.ChangeAt

def EdgeOk (x : Int) : Prop := 0 ≤ x ∧ x < 46080 ∧ 1920 ≤ x % 23040 ∧ x % 23040 ≤ 21120
def CamOk (xs : List Int) : Prop := 1 ≤ xs.length ∧ xs.length ≤ 8 ∧ (∀ t, t < xs.length → EdgeOk (xs.getD t 0)) ∧ (∀ t, t + 1 < xs.length → xs.getD t 0 + 1920 ≤ xs.getD (t + 1) 0) ∧ (halfI xs).1 ≠ (halfI xs).2
open Classical in
noncomputable def camB (xs : List Int) : Bool := decide (CamOk xs)
theorem camB_true {xs : List Int} : camB xs = true ↔ CamOk xs := by simp [camB]
theorem camB_false {xs : List Int} : camB xs = false ↔ ¬ CamOk xs := by simp [camB]

set_option maxHeartbeats 2000000 in
theorem cam_any (r : Option Addr) (cap : Nat) (xs : List Int) (w : World) (hx : IsInts w r cap .i64 xs) :
    Calls Try.prog 32 #[.agg #[.slice r xs.length cap]] w fun e w' => e = .returned (.bool (camB xs)) ∧ Below w.heap.size w w' := by
  have HX : Hid (∀ w', Below w.heap.size w w' → IsInts w' r cap .i64 xs) := Lib.hid (fun _ h => hx.later h)
  by_cases h1 : xs.length < 1
  · have H := Lib.hid (camB_false.2 (fun h : CamOk xs => by have := h.1; omega))
    have h1' : (xs.length : Int) < 1 := by omega
    clear hx h1
    go_enter Try.func32, Try.ntmps32
    go_wp2
    go_ret
    exact ⟨by rw [H.out]; rfl, by (repeat' (first | (with_reducible exact Below.refl _ _) | (with_reducible assumption) | (with_reducible refine below_alloc ?_ _) | (with_reducible refine Below.drew ?_) | (with_reducible refine below_drewN ?_ _) | (with_reducible refine below_step (by assumption) ?_) | (with_reducible refine below_later ?_ _) | (with_reducible refine Below.setCell ?_ ?_ _) | go_size))⟩
  · by_cases h8 : 8 < xs.length
    · have H := Lib.hid (camB_false.2 (fun h : CamOk xs => by have := h.2.1; omega))
      have h1' : ¬ (xs.length : Int) < 1 := by omega
      have h8' : (8 : Int) < xs.length := by omega
      clear hx h1 h8
      go_enter Try.func32, Try.ntmps32
      go_wp2
      go_ret
      exact ⟨by rw [H.out]; rfl, by (repeat' (first | (with_reducible exact Below.refl _ _) | (with_reducible assumption) | (with_reducible refine below_alloc ?_ _) | (with_reducible refine Below.drew ?_) | (with_reducible refine below_drewN ?_ _) | (with_reducible refine below_step (by assumption) ?_) | (with_reducible refine below_later ?_ _) | (with_reducible refine Below.setCell ?_ ?_ _) | go_size))⟩
    · have h1' : ¬ (xs.length : Int) < 1 := by omega
      have h8' : ¬ (8 : Int) < xs.length := by omega
      have hne : xs ≠ [] := fun e => by subst e; simp at h1
      cases hsb : sortB xs with
      | false =>
        have H := Lib.hid (camB_false.2 (fun h : CamOk xs => sortB_false.1 hsb (fun t ht => by have := h.2.2.2.1 t ht; omega)))
        clear h1 h8 hx
        go_enter Try.func32, Try.ntmps32
        go_wp2_with ((go_at_call 38; refine (sorted_any _ _ _ _ (HX.out _ (by (repeat' (first | (with_reducible exact Below.refl _ _) | (with_reducible assumption) | (with_reducible refine below_alloc ?_ _) | (with_reducible refine Below.drew ?_) | (with_reducible refine below_drewN ?_ _) | (with_reducible refine below_step (by assumption) ?_) | (with_reducible refine below_later ?_ _) | (with_reducible refine Below.setCell ?_ ?_ _) | go_size)))) hne).mono ?_; rintro e hb1w ⟨rfl, hb1⟩; obtain ⟨hb1c, hb1f⟩ := bcell hb1; have hb1s := hb1.size; (try simp only [World.size_alloc] at hb1s); (try (have : w.heap.size < hb1w.heap.size := by omega)); (try (have : w.heap.size + 1 < hb1w.heap.size := by omega)); (try (have : w.heap.size + 1 + 1 < hb1w.heap.size := by omega)); (try (have : w.heap.size + 1 + 1 + 1 < hb1w.heap.size := by omega)); (try (have : bX < hb1w.heap.size := by omega)); (try (have : bY < hb1w.heap.size := by omega)); (try (have : bZ < hb1w.heap.size := by omega))))
        go_ret
        exact ⟨by rw [H.out]; rfl, by (repeat' (first | (with_reducible exact Below.refl _ _) | (with_reducible assumption) | (with_reducible refine below_alloc ?_ _) | (with_reducible refine Below.drew ?_) | (with_reducible refine below_drewN ?_ _) | (with_reducible refine below_step (by assumption) ?_) | (with_reducible refine below_later ?_ _) | (with_reducible refine Below.setCell ?_ ?_ _) | go_size))⟩
      | true =>
        have HS := Lib.hid (fun w (hx : IsInts w r cap .i64 xs) => sorted_any r cap xs w hx hne)
        have HHF := Lib.hid (fun w (hx : IsInts w r cap .i64 xs) => halves_any r cap xs w hx)
        have HOK := Lib.hid (@camB_true xs)
        have HBAD := Lib.hid (@camB_false xs)
        obtain ⟨bX, off, rfl, hb, hc⟩ := hx.cells hne
        have HC := Lib.hid hc
        have HLEN := Lib.hid (show 1 ≤ xs.length ∧ xs.length ≤ 8 by omega)
        have hn8 : xs.length ≤ 8 := by omega
        have hn1 : 1 ≤ xs.length := by omega
        clear hc hx hne h1 h8
        generalize hn : xs.length = n at *
        have HN := Lib.hid hn
        clear hn
        go_enter Try.func32, Try.ntmps32
        go_wp2_with ((go_at_call 38; refine (HS.out _ (HX.out _ (by (repeat' (first | (with_reducible exact Below.refl _ _) | (with_reducible assumption) | (with_reducible refine below_alloc ?_ _) | (with_reducible refine Below.drew ?_) | (with_reducible refine below_drewN ?_ _) | (with_reducible refine below_step (by assumption) ?_) | (with_reducible refine below_later ?_ _) | (with_reducible refine Below.setCell ?_ ?_ _) | go_size))))).mono ?_; rintro e hb1w ⟨rfl, hb1⟩; obtain ⟨hb1c, hb1f⟩ := bcell hb1; have hb1s := hb1.size; (try simp only [World.size_alloc] at hb1s); (try (have : w.heap.size < hb1w.heap.size := by omega)); (try (have : w.heap.size + 1 < hb1w.heap.size := by omega)); (try (have : w.heap.size + 1 + 1 < hb1w.heap.size := by omega)); (try (have : w.heap.size + 1 + 1 + 1 < hb1w.heap.size := by omega)); (try (have : bX < hb1w.heap.size := by omega)); (try (have : bY < hb1w.heap.size := by omega)); (try (have : bZ < hb1w.heap.size := by omega))))
        go_loopg [26] n (fun kx s26 wr => ∃ (k : Nat) (e : Later hb1w), s26 = .int .i64 k ∧ k ≤ n ∧ n - k ≤ kx ∧ wr = e.w ∧ Hid ((∀ t, t < k → EdgeOk (xs.getD t 0)) ∧ (∀ t, t + 1 < k → xs.getD t 0 + 1920 ≤ xs.getD (t + 1) 0)))
        case atStart => exact ⟨0, ⟨_, Below.refl _ _⟩, rfl, by omega, by omega, rfl, Lib.hid ⟨fun t ht => absurd ht (Nat.not_lt_zero _), fun t ht => absurd ht (Nat.not_lt_zero _)⟩⟩
        case round =>
          obtain ⟨k, e, rfl, hk, hkx, rfl, HQ⟩ := hrel
          have hes := e.h.size
          have hbo : w.heap.size < e.w.heap.size := by (try simp only [World.size_alloc] at hes); omega
          have hbe : bX < e.w.heap.size := by omega
          have hbw : Below w.heap.size w e.w := by (repeat' (first | (with_reducible exact Below.refl _ _) | (with_reducible assumption) | (with_reducible refine below_alloc ?_ _) | (with_reducible refine Below.drew ?_) | (with_reducible refine below_drewN ?_ _) | (with_reducible refine below_step (by assumption) ?_) | (with_reducible refine below_later ?_ _) | (with_reducible refine Below.setCell ?_ ?_ _) | go_size))
          by_cases hlt : k < n
          · have hc1 : e.w.cell? ⟨bX, off + k, none⟩ = some (.int .i64 (xs.getD k 0)) := by
              rw [hbw.cell (p := ⟨bX, off + k, none⟩) hb]
              exact HC.out k hlt
            have hk1 : (0 : Int) ≤ (k : Int) := by omega
            have hk2 : (k : Int) < n := by omega
            have HB : Hid (¬ EdgeOk (xs.getD k 0) → camB xs = false) := Lib.hid (fun h => HBAD.out.2 (fun hh => h (hh.2.2.1 k (by have := HN.out; omega))))
            have HE : Hid (EdgeOk (xs.getD k 0) → ∀ t, t < k + 1 → EdgeOk (xs.getD t 0)) := Lib.hid (fun h t ht => by
              by_cases e : t = k
              · subst e; exact h
              · exact HQ.out.1 t (by omega))
            by_cases hk0 : k = 0
            · have HG : Hid (∀ t, t + 1 < k + 1 → xs.getD t 0 + 1920 ≤ xs.getD (t + 1) 0) := Lib.hid (fun t ht => by omega)
              have hkd : decide ((0 : Int) < (k : Int)) = false := by simp; omega
              have hkd2 : decide (0 < k) = false := by simp; omega
              generalize xs.getD k 0 = x at hc1 HB HE
              clear hk0
              by_cases a1 : x < 0
              · have H := Lib.hid (HB.out (fun h => by have h1 := h.1; have h2 := h.2.1; have h3 := h.2.2.1; have h4 := h.2.2.2; omega))
                clear HB HE
                go_wp2
                go_ret
                exact ⟨by rw [H.out]; rfl, by (repeat' (first | (with_reducible exact Below.refl _ _) | (with_reducible assumption) | (with_reducible refine below_alloc ?_ _) | (with_reducible refine Below.drew ?_) | (with_reducible refine below_drewN ?_ _) | (with_reducible refine below_step (by assumption) ?_) | (with_reducible refine below_later ?_ _) | (with_reducible refine Below.setCell ?_ ?_ _) | go_size))⟩
              · have a0 : 0 ≤ x := by omega
                by_cases a2 : 46080 ≤ x
                · have H := Lib.hid (HB.out (fun h => by have h1 := h.1; have h2 := h.2.1; have h3 := h.2.2.1; have h4 := h.2.2.2; omega))
                  clear HB HE
                  go_wp2
                  go_ret
                  exact ⟨by rw [H.out]; rfl, by (repeat' (first | (with_reducible exact Below.refl _ _) | (with_reducible assumption) | (with_reducible refine below_alloc ?_ _) | (with_reducible refine Below.drew ?_) | (with_reducible refine below_drewN ?_ _) | (with_reducible refine below_step (by assumption) ?_) | (with_reducible refine below_later ?_ _) | (with_reducible refine Below.setCell ?_ ?_ _) | go_size))⟩
                · have a3 : x < 46080 := by omega
                  by_cases a4 : x % 23040 < 1920
                  · have H := Lib.hid (HB.out (fun h => by have h1 := h.1; have h2 := h.2.1; have h3 := h.2.2.1; have h4 := h.2.2.2; omega))
                    clear HB HE
                    go_wp2
                    go_ret
                    exact ⟨by rw [H.out]; rfl, by (repeat' (first | (with_reducible exact Below.refl _ _) | (with_reducible assumption) | (with_reducible refine below_alloc ?_ _) | (with_reducible refine Below.drew ?_) | (with_reducible refine below_drewN ?_ _) | (with_reducible refine below_step (by assumption) ?_) | (with_reducible refine below_later ?_ _) | (with_reducible refine Below.setCell ?_ ?_ _) | go_size))⟩
                  · have a5 : 1920 ≤ x % 23040 := by omega
                    by_cases a6 : 21120 < x % 23040
                    · have H := Lib.hid (HB.out (fun h => by have h1 := h.1; have h2 := h.2.1; have h3 := h.2.2.1; have h4 := h.2.2.2; omega))
                      clear HB HE
                      go_wp2
                      go_ret
                      exact ⟨by rw [H.out]; rfl, by (repeat' (first | (with_reducible exact Below.refl _ _) | (with_reducible assumption) | (with_reducible refine below_alloc ?_ _) | (with_reducible refine Below.drew ?_) | (with_reducible refine below_drewN ?_ _) | (with_reducible refine below_step (by assumption) ?_) | (with_reducible refine below_later ?_ _) | (with_reducible refine Below.setCell ?_ ?_ _) | go_size))⟩
                    · have a7 : x % 23040 ≤ 21120 := by omega
                      have HE2 := Lib.hid (HE.out ⟨a0, a3, a5, a7⟩)
                      clear HB HE
                      go_wp2
                      go_roundg (n - (k + 1))
                      case measure => omega
                      case rel => first | exact ⟨k + 1, e, by go_num, by omega, by omega, rfl, Lib.hid ⟨HE2.out, HG.out⟩⟩ | exact ⟨k + 1, ⟨_, below_drewN e.h _⟩, by go_num, by omega, by omega, rfl, Lib.hid ⟨HE2.out, HG.out⟩⟩
            · have k1 : (0 : Int) < (k : Int) := by omega
              have k6 : 0 < k := by omega
              have hw1 : IntKind.i64.wrap ((k : Int) - 1) = (k : Int) - 1 := IntWalk.i64_in _ (by omega)
              have k4 : (0 : Int) ≤ (k : Int) - 1 := by omega
              have k5 : (k : Int) - 1 < n := by omega
              have hc2 : e.w.cell? ⟨bX, off + (k - 1), none⟩ = some (.int .i64 (xs.getD (k - 1) 0)) := by
                rw [hbw.cell (p := ⟨bX, off + (k - 1), none⟩) hb]
                exact HC.out (k - 1) (by omega)
              have HP := HQ.out.1 (k - 1) (by omega)
              have HB2 : Hid (¬ xs.getD (k - 1) 0 + 1920 ≤ xs.getD k 0 → camB xs = false) := Lib.hid (fun h => HBAD.out.2 (fun hh => h (by
                have := hh.2.2.2.1 (k - 1) (by have := HN.out; omega)
                rw [show k - 1 + 1 = k by omega] at this
                exact this)))
              have HG2 : Hid (xs.getD (k - 1) 0 + 1920 ≤ xs.getD k 0 → ∀ t, t + 1 < k + 1 → xs.getD t 0 + 1920 ≤ xs.getD (t + 1) 0) := Lib.hid (fun h t ht => by
                by_cases e : t = k - 1
                · subst e
                  rw [show k - 1 + 1 = k by omega]
                  exact h
                · exact HQ.out.2 t (by omega))
              generalize xs.getD (k - 1) 0 = y at hc2 HB2 HG2 HP
              generalize xs.getD k 0 = x at hc1 HB HE HB2 HG2
              obtain ⟨y1, y2, _⟩ := HP
              clear hk0
              by_cases a1 : x < 0
              · have H := Lib.hid (HB.out (fun h => by have h1 := h.1; have h2 := h.2.1; have h3 := h.2.2.1; have h4 := h.2.2.2; omega))
                clear HB HE
                go_wp2
                go_ret
                exact ⟨by rw [H.out]; rfl, by (repeat' (first | (with_reducible exact Below.refl _ _) | (with_reducible assumption) | (with_reducible refine below_alloc ?_ _) | (with_reducible refine Below.drew ?_) | (with_reducible refine below_drewN ?_ _) | (with_reducible refine below_step (by assumption) ?_) | (with_reducible refine below_later ?_ _) | (with_reducible refine Below.setCell ?_ ?_ _) | go_size))⟩
              · have a0 : 0 ≤ x := by omega
                by_cases a2 : 46080 ≤ x
                · have H := Lib.hid (HB.out (fun h => by have h1 := h.1; have h2 := h.2.1; have h3 := h.2.2.1; have h4 := h.2.2.2; omega))
                  clear HB HE
                  go_wp2
                  go_ret
                  exact ⟨by rw [H.out]; rfl, by (repeat' (first | (with_reducible exact Below.refl _ _) | (with_reducible assumption) | (with_reducible refine below_alloc ?_ _) | (with_reducible refine Below.drew ?_) | (with_reducible refine below_drewN ?_ _) | (with_reducible refine below_step (by assumption) ?_) | (with_reducible refine below_later ?_ _) | (with_reducible refine Below.setCell ?_ ?_ _) | go_size))⟩
                · have a3 : x < 46080 := by omega
                  by_cases a4 : x % 23040 < 1920
                  · have H := Lib.hid (HB.out (fun h => by have h1 := h.1; have h2 := h.2.1; have h3 := h.2.2.1; have h4 := h.2.2.2; omega))
                    clear HB HE
                    go_wp2
                    go_ret
                    exact ⟨by rw [H.out]; rfl, by (repeat' (first | (with_reducible exact Below.refl _ _) | (with_reducible assumption) | (with_reducible refine below_alloc ?_ _) | (with_reducible refine Below.drew ?_) | (with_reducible refine below_drewN ?_ _) | (with_reducible refine below_step (by assumption) ?_) | (with_reducible refine below_later ?_ _) | (with_reducible refine Below.setCell ?_ ?_ _) | go_size))⟩
                  · have a5 : 1920 ≤ x % 23040 := by omega
                    by_cases a6 : 21120 < x % 23040
                    · have H := Lib.hid (HB.out (fun h => by have h1 := h.1; have h2 := h.2.1; have h3 := h.2.2.1; have h4 := h.2.2.2; omega))
                      clear HB HE
                      go_wp2
                      go_ret
                      exact ⟨by rw [H.out]; rfl, by (repeat' (first | (with_reducible exact Below.refl _ _) | (with_reducible assumption) | (with_reducible refine below_alloc ?_ _) | (with_reducible refine Below.drew ?_) | (with_reducible refine below_drewN ?_ _) | (with_reducible refine below_step (by assumption) ?_) | (with_reducible refine below_later ?_ _) | (with_reducible refine Below.setCell ?_ ?_ _) | go_size))⟩
                    · have a7 : x % 23040 ≤ 21120 := by omega
                      have HE2 := Lib.hid (HE.out ⟨a0, a3, a5, a7⟩)
                      clear HB HE
                      by_cases a8 : x - y < 1920
                      · have H := Lib.hid (HB2.out (by omega))
                        go_wp2
                        go_ret
                        exact ⟨by rw [H.out]; rfl, by (repeat' (first | (with_reducible exact Below.refl _ _) | (with_reducible assumption) | (with_reducible refine below_alloc ?_ _) | (with_reducible refine Below.drew ?_) | (with_reducible refine below_drewN ?_ _) | (with_reducible refine below_step (by assumption) ?_) | (with_reducible refine below_later ?_ _) | (with_reducible refine Below.setCell ?_ ?_ _) | go_size))⟩
                      · have HG := Lib.hid (HG2.out (by omega))
                        go_wp2
                        go_roundg (n - (k + 1))
                        case measure => omega
                        case rel => first | exact ⟨k + 1, e, by go_num, by omega, by omega, rfl, Lib.hid ⟨HE2.out, HG.out⟩⟩ | exact ⟨k + 1, ⟨_, below_drewN e.h _⟩, by go_num, by omega, by omega, rfl, Lib.hid ⟨HE2.out, HG.out⟩⟩
          · obtain rfl : k = n := by omega
            have hkn : ¬ (k : Int) < k := by omega
            have HF : Hid (camB xs = ((halfI xs).1 != (halfI xs).2)) := Lib.hid (by
              have h1 := HLEN.out
              have h2 := HQ.out
              have h3 := HN.out
              by_cases hh : (halfI xs).1 = (halfI xs).2
              · rw [HBAD.out.2 (fun h => h.2.2.2.2 hh)]
                simp [hh]
              · rw [HOK.out.2 ⟨by omega, by omega, fun t ht => h2.1 t (by omega), fun t ht => h2.2 t (by omega), hh⟩]
                simp [hh])
            go_wp2_with ((go_at_call 40; refine (HHF.out _ (HX.out _ (by (repeat' (first | (with_reducible exact Below.refl _ _) | (with_reducible assumption) | (with_reducible refine below_alloc ?_ _) | (with_reducible refine Below.drew ?_) | (with_reducible refine below_drewN ?_ _) | (with_reducible refine below_step (by assumption) ?_) | (with_reducible refine below_later ?_ _) | (with_reducible refine Below.setCell ?_ ?_ _) | go_size))))).mono ?_; rintro e hb2w ⟨rfl, hb2⟩; obtain ⟨hb2c, hb2f⟩ := bcell hb2; have hb2s := hb2.size; (try simp only [World.size_alloc] at hb2s); (try (have : w.heap.size < hb2w.heap.size := by omega)); (try (have : w.heap.size + 1 < hb2w.heap.size := by omega)); (try (have : w.heap.size + 1 + 1 < hb2w.heap.size := by omega)); (try (have : w.heap.size + 1 + 1 + 1 < hb2w.heap.size := by omega)); (try (have : bX < hb2w.heap.size := by omega)); (try (have : bY < hb2w.heap.size := by omega)); (try (have : bZ < hb2w.heap.size := by omega))))
            go_ret
            exact ⟨by rw [HF.out]; first | rfl | (simp; done), by (repeat' (first | (with_reducible exact Below.refl _ _) | (with_reducible assumption) | (with_reducible refine below_alloc ?_ _) | (with_reducible refine Below.drew ?_) | (with_reducible refine below_drewN ?_ _) | (with_reducible refine below_step (by assumption) ?_) | (with_reducible refine below_later ?_ _) | (with_reducible refine Below.setCell ?_ ?_ _) | go_size))⟩

open Classical in
noncomputable def halfB (xs : List Int) : Int × Int := if CamOk xs then halfI xs else (0, 0)
theorem halves2_any (r : Option Addr) (cap : Nat) (xs : List Int) (w : World) (hx : IsInts w r cap .i64 xs) :
    Calls Try.prog 35 #[.agg #[.slice r xs.length cap]] w fun e w' => e = .returned (tupC (halfB xs)) ∧ Below w.heap.size w w' := by
  have HX : Hid (∀ w', Below w.heap.size w w' → IsInts w' r cap .i64 xs) := Lib.hid (fun _ h => hx.later h)
  cases hc : camB xs with
  | false =>
    have H := Lib.hid (show halfB xs = (0, 0) by unfold halfB; rw [if_neg (camB_false.1 hc)])
    clear hx
    go_enter Try.func35, Try.ntmps35
    go_wp2_with ((go_at_call 32; refine (cam_any _ _ _ _ (HX.out _ (by (repeat' (first | (with_reducible exact Below.refl _ _) | (with_reducible assumption) | (with_reducible refine below_alloc ?_ _) | (with_reducible refine Below.drew ?_) | (with_reducible refine below_drewN ?_ _) | (with_reducible refine below_step (by assumption) ?_) | (with_reducible refine below_later ?_ _) | (with_reducible refine Below.setCell ?_ ?_ _) | go_size))))).mono ?_; rintro e hb1w ⟨rfl, hb1⟩; obtain ⟨hb1c, hb1f⟩ := bcell hb1; have hb1s := hb1.size; (try simp only [World.size_alloc] at hb1s); (try (have : w.heap.size < hb1w.heap.size := by omega)); (try (have : w.heap.size + 1 < hb1w.heap.size := by omega)); (try (have : w.heap.size + 1 + 1 < hb1w.heap.size := by omega)); (try (have : w.heap.size + 1 + 1 + 1 < hb1w.heap.size := by omega)); (try (have : bX < hb1w.heap.size := by omega)); (try (have : bY < hb1w.heap.size := by omega)); (try (have : bZ < hb1w.heap.size := by omega))))
    go_ret2
    exact ⟨by rw [H.out]; rfl, by (repeat' (first | (with_reducible exact Below.refl _ _) | (with_reducible assumption) | (with_reducible refine below_alloc ?_ _) | (with_reducible refine Below.drew ?_) | (with_reducible refine below_drewN ?_ _) | (with_reducible refine below_step (by assumption) ?_) | (with_reducible refine below_later ?_ _) | (with_reducible refine Below.setCell ?_ ?_ _) | go_size))⟩
  | true =>
    have H := Lib.hid (show halfB xs = halfI xs by unfold halfB; rw [if_pos (camB_true.1 hc)])
    clear hx
    go_enter Try.func35, Try.ntmps35
    go_wp2_with (first | (go_at_call 32; refine (cam_any _ _ _ _ (HX.out _ (by (repeat' (first | (with_reducible exact Below.refl _ _) | (with_reducible assumption) | (with_reducible refine below_alloc ?_ _) | (with_reducible refine Below.drew ?_) | (with_reducible refine below_drewN ?_ _) | (with_reducible refine below_step (by assumption) ?_) | (with_reducible refine below_later ?_ _) | (with_reducible refine Below.setCell ?_ ?_ _) | go_size))))).mono ?_; rintro e hb1w ⟨rfl, hb1⟩; obtain ⟨hb1c, hb1f⟩ := bcell hb1; have hb1s := hb1.size; (try simp only [World.size_alloc] at hb1s); (try (have : w.heap.size < hb1w.heap.size := by omega)); (try (have : w.heap.size + 1 < hb1w.heap.size := by omega)); (try (have : w.heap.size + 1 + 1 < hb1w.heap.size := by omega)); (try (have : w.heap.size + 1 + 1 + 1 < hb1w.heap.size := by omega)); (try (have : bX < hb1w.heap.size := by omega)); (try (have : bY < hb1w.heap.size := by omega)); (try (have : bZ < hb1w.heap.size := by omega))) | (go_at_call 40; refine (halves_any _ _ _ _ (HX.out _ (by (repeat' (first | (with_reducible exact Below.refl _ _) | (with_reducible assumption) | (with_reducible refine below_alloc ?_ _) | (with_reducible refine Below.drew ?_) | (with_reducible refine below_drewN ?_ _) | (with_reducible refine below_step (by assumption) ?_) | (with_reducible refine below_later ?_ _) | (with_reducible refine Below.setCell ?_ ?_ _) | go_size))))).mono ?_; rintro e hb2w ⟨rfl, hb2⟩; obtain ⟨hb2c, hb2f⟩ := bcell hb2; have hb2s := hb2.size; (try simp only [World.size_alloc] at hb2s); (try (have : w.heap.size < hb2w.heap.size := by omega)); (try (have : w.heap.size + 1 < hb2w.heap.size := by omega)); (try (have : w.heap.size + 1 + 1 < hb2w.heap.size := by omega)); (try (have : w.heap.size + 1 + 1 + 1 < hb2w.heap.size := by omega)); (try (have : bX < hb2w.heap.size := by omega)); (try (have : bY < hb2w.heap.size := by omega)); (try (have : bZ < hb2w.heap.size := by omega))))
    go_ret2
    exact ⟨by rw [H.out]; rfl, by (repeat' (first | (with_reducible exact Below.refl _ _) | (with_reducible assumption) | (with_reducible refine below_alloc ?_ _) | (with_reducible refine Below.drew ?_) | (with_reducible refine below_drewN ?_ _) | (with_reducible refine below_step (by assumption) ?_) | (with_reducible refine below_later ?_ _) | (with_reducible refine Below.setCell ?_ ?_ _) | go_size))⟩
end Go.Proofs.Ytoninaidinnbgaa
