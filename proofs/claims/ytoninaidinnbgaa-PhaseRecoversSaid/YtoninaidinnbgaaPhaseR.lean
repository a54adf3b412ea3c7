/- Contracts of the reference's Halves, Cam, Valid and Turn of phases, and of the program's Turn. Printed by a program. -/
import Derived.Test.YtoninaidinnbgaaPhaseB
namespace Go.Proofs.Ytoninaidinnbgaa
set_option linter.unusedVariables false
set_option linter.unusedSimpArgs false
open Go.RowKit Go.ChangeShapes Go.WideShapes Go.ChangeAt

set_option maxHeartbeats 1000000 in
theorem r21halves_any (r : Option Addr) (cap : Nat) (xs : List Int) (w : World) (hx : IsInts w r cap .i64 xs) :
    Calls Try.prog 24 #[.agg #[.slice r xs.length cap]] w fun e w' => e = .returned (tupC (halfI xs)) ∧ Below w.heap.size w w' := by
  have H : Hid (halfI xs = (((cntI xs xs.length : Nat) : Int), (xs.length : Int) - ((cntI xs xs.length : Nat) : Int))) := Lib.hid rfl
  by_cases hne : xs = []
  · subst hne
    clear hx
    go_enter Try.func24, Try.ntmps24
    go_wp2
    go_rounds 1
    go_quiet (fail)
    go_wp2
    go_ret2
    exact ⟨by rw [H.out]; rfl, by (repeat' (first | (with_reducible exact Below.refl _ _) | (with_reducible assumption) | (with_reducible refine below_alloc ?_ _) | (with_reducible refine Below.drew ?_) | (with_reducible refine below_drewN ?_ _) | (with_reducible refine below_step (by assumption) ?_) | (with_reducible refine below_later ?_ _) | (with_reducible refine Below.setCell ?_ ?_ _) | go_size))⟩
  · obtain ⟨bX, off, rfl, hb, hc⟩ := hx.cells hne
    have hmax := hx.max
    have hle := hx.le
    unfold maxLen at hmax
    have HC := Lib.hid hc
    clear hc hx hne
    generalize hn : xs.length = n at *
    have HN := Lib.hid hn
    clear hn
    go_enter Try.func24, Try.ntmps24
    go_wp2
    go_loopg [4, 5] n (fun kx s4 s5 wr => ∃ (k : Nat) (e : Later (w.alloc (.cells #[.slice (some ⟨bX, off, none⟩) n cap] 24))), s4 = .int .i64 (cntI xs k : Nat) ∧ s5 = .int .i64 k ∧ k ≤ n ∧ n - k ≤ kx ∧ wr = e.w)
    case atStart => exact ⟨0, ⟨_, Below.refl _ _⟩, rfl, rfl, by omega, by omega, rfl⟩
    case round =>
      obtain ⟨k, e, rfl, rfl, hk, hkx, rfl⟩ := hrel
      have hes := e.h.size
      have hbo : w.heap.size < e.w.heap.size := by simp only [World.size_alloc] at hes; omega
      have hbe : bX < e.w.heap.size := by omega
      have hct := cntI_le xs k
      by_cases hlt : k < n
      · have hc1 : e.w.cell? ⟨bX, off + k, none⟩ = some (.int .i64 (xs.getD k 0)) := by
          have hbw : Below w.heap.size w e.w := by (repeat' (first | (with_reducible exact Below.refl _ _) | (with_reducible assumption) | (with_reducible refine below_alloc ?_ _) | (with_reducible refine Below.drew ?_) | (with_reducible refine below_drewN ?_ _) | (with_reducible refine below_step (by assumption) ?_) | (with_reducible refine below_later ?_ _) | (with_reducible refine Below.setCell ?_ ?_ _) | go_size))
          rw [hbw.cell (p := ⟨bX, off + k, none⟩) hb]
          exact HC.out k hlt
        have HK : Hid (cntI xs (k + 1) = cntI xs k + if xs.getD k 0 < 23040 then 1 else 0) := Lib.hid rfl
        have hk1 : (0 : Int) ≤ (k : Int) := by omega
        have hk2 : (k : Int) < n := by omega
        generalize xs.getD k 0 = x at hc1 HK
        generalize cntI xs k = c at *
        by_cases hx : x < 23040
        · have HK2 := Lib.hid (HK.out.trans (by rw [if_pos hx]))
          clear HK
          go_wp2
          go_roundg (n - (k + 1))
          case measure => omega
          case rel => exact ⟨k + 1, ⟨_, by (repeat' (first | (with_reducible exact Below.refl _ _) | (with_reducible assumption) | (with_reducible refine below_alloc ?_ _) | (with_reducible refine Below.drew ?_) | (with_reducible refine below_drewN ?_ _) | (with_reducible refine below_step (by assumption) ?_) | (with_reducible refine below_later ?_ _) | (with_reducible refine Below.setCell ?_ ?_ _) | go_size))⟩, by rw [HK2.out]; go_num, by go_num, by omega, by omega, rfl⟩
        · have HK2 := Lib.hid (HK.out.trans (by rw [if_neg hx]))
          clear HK
          go_wp2
          go_roundg (n - (k + 1))
          case measure => omega
          case rel => exact ⟨k + 1, ⟨_, by (repeat' (first | (with_reducible exact Below.refl _ _) | (with_reducible assumption) | (with_reducible refine below_alloc ?_ _) | (with_reducible refine Below.drew ?_) | (with_reducible refine below_drewN ?_ _) | (with_reducible refine below_step (by assumption) ?_) | (with_reducible refine below_later ?_ _) | (with_reducible refine Below.setCell ?_ ?_ _) | go_size))⟩, by rw [HK2.out]; go_num, by go_num, by omega, by omega, rfl⟩
      · obtain rfl : k = n := by omega
        generalize cntI xs k = c at *
        go_wp2
        go_quiet (fail)
        go_wp2
        go_ret2
        exact ⟨by rw [H.out]; first | rfl | (simp [tupC]; done) | (simp [tupC]; omega), by (repeat' (first | (with_reducible exact Below.refl _ _) | (with_reducible assumption) | (with_reducible refine below_alloc ?_ _) | (with_reducible refine Below.drew ?_) | (with_reducible refine below_drewN ?_ _) | (with_reducible refine below_step (by assumption) ?_) | (with_reducible refine below_later ?_ _) | (with_reducible refine Below.setCell ?_ ?_ _) | go_size))⟩
set_option maxHeartbeats 2000000 in
theorem r21cam_any (r : Option Addr) (cap : Nat) (xs : List Int) (w : World) (hx : IsInts w r cap .i64 xs) :
    Calls Try.prog 10 #[.agg #[.slice r xs.length cap]] w fun e w' => e = .returned (.bool (camB xs)) ∧ Below w.heap.size w w' := by
  have HX : Hid (∀ w', Below w.heap.size w w' → IsInts w' r cap .i64 xs) := Lib.hid (fun _ h => hx.later h)
  by_cases h1 : xs.length < 1
  · have H := Lib.hid (camB_false.2 (fun h : CamOk xs => by have := h.1; omega))
    have h1' : (xs.length : Int) < 1 := by omega
    clear hx h1
    go_enter Try.func10, Try.ntmps10
    go_wp2
    go_ret
    exact ⟨by rw [H.out]; rfl, by (repeat' (first | (with_reducible exact Below.refl _ _) | (with_reducible assumption) | (with_reducible refine below_alloc ?_ _) | (with_reducible refine Below.drew ?_) | (with_reducible refine below_drewN ?_ _) | (with_reducible refine below_step (by assumption) ?_) | (with_reducible refine below_later ?_ _) | (with_reducible refine Below.setCell ?_ ?_ _) | go_size))⟩
  · by_cases h8 : 8 < xs.length
    · have H := Lib.hid (camB_false.2 (fun h : CamOk xs => by have := h.2.1; omega))
      have h1' : ¬ (xs.length : Int) < 1 := by omega
      have h8' : (8 : Int) < xs.length := by omega
      clear hx h1 h8
      go_enter Try.func10, Try.ntmps10
      go_wp2
      go_ret
      exact ⟨by rw [H.out]; rfl, by (repeat' (first | (with_reducible exact Below.refl _ _) | (with_reducible assumption) | (with_reducible refine below_alloc ?_ _) | (with_reducible refine Below.drew ?_) | (with_reducible refine below_drewN ?_ _) | (with_reducible refine below_step (by assumption) ?_) | (with_reducible refine below_later ?_ _) | (with_reducible refine Below.setCell ?_ ?_ _) | go_size))⟩
    · have h1' : ¬ (xs.length : Int) < 1 := by omega
      have h8' : ¬ (8 : Int) < xs.length := by omega
      have hne : xs ≠ [] := fun e => by subst e; simp at h1
      have HHF := Lib.hid (fun w (hx : IsInts w r cap .i64 xs) => r21halves_any r cap xs w hx)
      have HOK := Lib.hid (@camB_true xs)
      have HBAD := Lib.hid (@camB_false xs)
      obtain ⟨bX, off, rfl, hb, hc⟩ := hx.cells hne
      have HC := Lib.hid hc
      have HLEN := Lib.hid (show 1 ≤ xs.length ∧ xs.length ≤ 8 by omega)
      have hn8 : xs.length ≤ 8 := by omega
      have hn1 : 1 ≤ xs.length := by omega
      clear hc hx hne h1 h8
      generalize hn : xs.length = n at *
      have HN := Lib.hid hn
      clear hn
      go_enter Try.func10, Try.ntmps10
      go_wp2
      go_loopg [3] n (fun kx s3 wr => ∃ (k : Nat) (e : Later (w.alloc (.cells #[.slice (some ⟨bX, off, none⟩) n cap] 24))), s3 = .int .i64 k ∧ k ≤ n ∧ n - k ≤ kx ∧ wr = e.w ∧ Hid ((∀ t, t < k → EdgeOk (xs.getD t 0)) ∧ (∀ t, t + 1 < k → xs.getD t 0 + 1920 ≤ xs.getD (t + 1) 0)))
      case atStart => exact ⟨0, ⟨_, Below.refl _ _⟩, rfl, by omega, by omega, rfl, Lib.hid ⟨fun t ht => absurd ht (Nat.not_lt_zero _), fun t ht => absurd ht (Nat.not_lt_zero _)⟩⟩
      case round =>
        obtain ⟨k, e, rfl, hk, hkx, rfl, HQ⟩ := hrel
        have hes := e.h.size
        have hbo : w.heap.size < e.w.heap.size := by (try simp only [World.size_alloc] at hes); omega
        have hbe : bX < e.w.heap.size := by omega
        have hbw : Below w.heap.size w e.w := by (repeat' (first | (with_reducible exact Below.refl _ _) | (with_reducible assumption) | (with_reducible refine below_alloc ?_ _) | (with_reducible refine Below.drew ?_) | (with_reducible refine below_drewN ?_ _) | (with_reducible refine below_step (by assumption) ?_) | (with_reducible refine below_later ?_ _) | (with_reducible refine Below.setCell ?_ ?_ _) | go_size))
        by_cases hlt : k < n
        · have hc1 : e.w.cell? ⟨bX, off + k, none⟩ = some (.int .i64 (xs.getD k 0)) := by
            rw [hbw.cell (p := ⟨bX, off + k, none⟩) hb]
            exact HC.out k hlt
          have hk1 : (0 : Int) ≤ (k : Int) := by omega
          have hk2 : (k : Int) < n := by omega
          have HB : Hid (¬ EdgeOk (xs.getD k 0) → camB xs = false) := Lib.hid (fun h => HBAD.out.2 (fun hh => h (hh.2.2.1 k (by have := HN.out; omega))))
          have HE : Hid (EdgeOk (xs.getD k 0) → ∀ t, t < k + 1 → EdgeOk (xs.getD t 0)) := Lib.hid (fun h t ht => by
            by_cases e : t = k
            · subst e; exact h
            · exact HQ.out.1 t (by omega))
          by_cases hk0 : k = 0
          · have HG : Hid (∀ t, t + 1 < k + 1 → xs.getD t 0 + 1920 ≤ xs.getD (t + 1) 0) := Lib.hid (fun t ht => by omega)
            have hkd : decide ((0 : Int) < (k : Int)) = false := by simp; omega
            have hkd2 : decide (0 < k) = false := by simp; omega
            generalize xs.getD k 0 = x at hc1 HB HE
            clear hk0
            by_cases a1 : x < 1920
            · have H := Lib.hid (HB.out (fun h => by have h1 := h.1; have h2 := h.2.1; have h3 := h.2.2.1; have h4 := h.2.2.2; omega))
              clear HB HE
              go_wp2
              go_ret
              exact ⟨by rw [H.out]; rfl, by (repeat' (first | (with_reducible exact Below.refl _ _) | (with_reducible assumption) | (with_reducible refine below_alloc ?_ _) | (with_reducible refine Below.drew ?_) | (with_reducible refine below_drewN ?_ _) | (with_reducible refine below_step (by assumption) ?_) | (with_reducible refine below_later ?_ _) | (with_reducible refine Below.setCell ?_ ?_ _) | go_size))⟩
            · by_cases a2 : 44160 < x
              · have H := Lib.hid (HB.out (fun h => by have h1 := h.1; have h2 := h.2.1; have h3 := h.2.2.1; have h4 := h.2.2.2; omega))
                clear HB HE
                go_wp2
                go_ret
                exact ⟨by rw [H.out]; rfl, by (repeat' (first | (with_reducible exact Below.refl _ _) | (with_reducible assumption) | (with_reducible refine below_alloc ?_ _) | (with_reducible refine Below.drew ?_) | (with_reducible refine below_drewN ?_ _) | (with_reducible refine below_step (by assumption) ?_) | (with_reducible refine below_later ?_ _) | (with_reducible refine Below.setCell ?_ ?_ _) | go_size))⟩
              · by_cases a3 : 21120 < x
                · by_cases a4 : x < 24960
                  · have H := Lib.hid (HB.out (fun h => by have h1 := h.1; have h2 := h.2.1; have h3 := h.2.2.1; have h4 := h.2.2.2; omega))
                    clear HB HE
                    go_wp2
                    go_ret
                    exact ⟨by rw [H.out]; rfl, by (repeat' (first | (with_reducible exact Below.refl _ _) | (with_reducible assumption) | (with_reducible refine below_alloc ?_ _) | (with_reducible refine Below.drew ?_) | (with_reducible refine below_drewN ?_ _) | (with_reducible refine below_step (by assumption) ?_) | (with_reducible refine below_later ?_ _) | (with_reducible refine Below.setCell ?_ ?_ _) | go_size))⟩
                  · have HE2 := Lib.hid (HE.out ⟨by omega, by omega, by omega, by omega⟩)
                    clear HB HE
                    go_wp2
                    go_roundg (n - (k + 1))
                    case measure => omega
                    case rel => first | exact ⟨k + 1, e, by go_num, by omega, by omega, rfl, Lib.hid ⟨HE2.out, HG.out⟩⟩ | exact ⟨k + 1, ⟨_, below_drewN e.h _⟩, by go_num, by omega, by omega, rfl, Lib.hid ⟨HE2.out, HG.out⟩⟩
                · have HE2 := Lib.hid (HE.out ⟨by omega, by omega, by omega, by omega⟩)
                  clear HB HE
                  go_wp2
                  go_roundg (n - (k + 1))
                  case measure => omega
                  case rel => first | exact ⟨k + 1, e, by go_num, by omega, by omega, rfl, Lib.hid ⟨HE2.out, HG.out⟩⟩ | exact ⟨k + 1, ⟨_, below_drewN e.h _⟩, by go_num, by omega, by omega, rfl, Lib.hid ⟨HE2.out, HG.out⟩⟩
          · have k1 : (0 : Int) < (k : Int) := by omega
            have k6 : 0 < k := by omega
            have hw1 : IntKind.i64.wrap ((k : Int) - 1) = (k : Int) - 1 := IntWalk.i64_in _ (by omega)
            have k4 : (0 : Int) ≤ (k : Int) - 1 := by omega
            have k5 : (k : Int) - 1 < n := by omega
            have hc2 : e.w.cell? ⟨bX, off + (k - 1), none⟩ = some (.int .i64 (xs.getD (k - 1) 0)) := by
              rw [hbw.cell (p := ⟨bX, off + (k - 1), none⟩) hb]
              exact HC.out (k - 1) (by omega)
            have HP := HQ.out.1 (k - 1) (by omega)
            have HB2 : Hid (¬ xs.getD (k - 1) 0 + 1920 ≤ xs.getD k 0 → camB xs = false) := Lib.hid (fun h => HBAD.out.2 (fun hh => h (by
              have := hh.2.2.2.1 (k - 1) (by have := HN.out; omega)
              rw [show k - 1 + 1 = k by omega] at this
              exact this)))
            have HG2 : Hid (xs.getD (k - 1) 0 + 1920 ≤ xs.getD k 0 → ∀ t, t + 1 < k + 1 → xs.getD t 0 + 1920 ≤ xs.getD (t + 1) 0) := Lib.hid (fun h t ht => by
              by_cases e : t = k - 1
              · subst e
                rw [show k - 1 + 1 = k by omega]
                exact h
              · exact HQ.out.2 t (by omega))
            generalize xs.getD (k - 1) 0 = y at hc2 HB2 HG2 HP
            generalize xs.getD k 0 = x at hc1 HB HE HB2 HG2
            obtain ⟨y1, y2, _⟩ := HP
            clear hk0
            by_cases a1 : x < 1920
            · have H := Lib.hid (HB.out (fun h => by have h1 := h.1; have h2 := h.2.1; have h3 := h.2.2.1; have h4 := h.2.2.2; omega))
              clear HB HE
              go_wp2
              go_ret
              exact ⟨by rw [H.out]; rfl, by (repeat' (first | (with_reducible exact Below.refl _ _) | (with_reducible assumption) | (with_reducible refine below_alloc ?_ _) | (with_reducible refine Below.drew ?_) | (with_reducible refine below_drewN ?_ _) | (with_reducible refine below_step (by assumption) ?_) | (with_reducible refine below_later ?_ _) | (with_reducible refine Below.setCell ?_ ?_ _) | go_size))⟩
            · by_cases a2 : 44160 < x
              · have H := Lib.hid (HB.out (fun h => by have h1 := h.1; have h2 := h.2.1; have h3 := h.2.2.1; have h4 := h.2.2.2; omega))
                clear HB HE
                go_wp2
                go_ret
                exact ⟨by rw [H.out]; rfl, by (repeat' (first | (with_reducible exact Below.refl _ _) | (with_reducible assumption) | (with_reducible refine below_alloc ?_ _) | (with_reducible refine Below.drew ?_) | (with_reducible refine below_drewN ?_ _) | (with_reducible refine below_step (by assumption) ?_) | (with_reducible refine below_later ?_ _) | (with_reducible refine Below.setCell ?_ ?_ _) | go_size))⟩
              · by_cases a3 : 21120 < x
                · by_cases a4 : x < 24960
                  · have H := Lib.hid (HB.out (fun h => by have h1 := h.1; have h2 := h.2.1; have h3 := h.2.2.1; have h4 := h.2.2.2; omega))
                    clear HB HE
                    go_wp2
                    go_ret
                    exact ⟨by rw [H.out]; rfl, by (repeat' (first | (with_reducible exact Below.refl _ _) | (with_reducible assumption) | (with_reducible refine below_alloc ?_ _) | (with_reducible refine Below.drew ?_) | (with_reducible refine below_drewN ?_ _) | (with_reducible refine below_step (by assumption) ?_) | (with_reducible refine below_later ?_ _) | (with_reducible refine Below.setCell ?_ ?_ _) | go_size))⟩
                  · have HE2 := Lib.hid (HE.out ⟨by omega, by omega, by omega, by omega⟩)
                    clear HB HE
                    by_cases a8 : x - y < 1920
                    · have H := Lib.hid (HB2.out (by omega))
                      go_wp2
                      go_ret
                      exact ⟨by rw [H.out]; rfl, by (repeat' (first | (with_reducible exact Below.refl _ _) | (with_reducible assumption) | (with_reducible refine below_alloc ?_ _) | (with_reducible refine Below.drew ?_) | (with_reducible refine below_drewN ?_ _) | (with_reducible refine below_step (by assumption) ?_) | (with_reducible refine below_later ?_ _) | (with_reducible refine Below.setCell ?_ ?_ _) | go_size))⟩
                    · have HG := Lib.hid (HG2.out (by omega))
                      go_wp2
                      go_roundg (n - (k + 1))
                      case measure => omega
                      case rel => first | exact ⟨k + 1, e, by go_num, by omega, by omega, rfl, Lib.hid ⟨HE2.out, HG.out⟩⟩ | exact ⟨k + 1, ⟨_, below_drewN e.h _⟩, by go_num, by omega, by omega, rfl, Lib.hid ⟨HE2.out, HG.out⟩⟩
                · have HE2 := Lib.hid (HE.out ⟨by omega, by omega, by omega, by omega⟩)
                  clear HB HE
                  by_cases a8 : x - y < 1920
                  · have H := Lib.hid (HB2.out (by omega))
                    go_wp2
                    go_ret
                    exact ⟨by rw [H.out]; rfl, by (repeat' (first | (with_reducible exact Below.refl _ _) | (with_reducible assumption) | (with_reducible refine below_alloc ?_ _) | (with_reducible refine Below.drew ?_) | (with_reducible refine below_drewN ?_ _) | (with_reducible refine below_step (by assumption) ?_) | (with_reducible refine below_later ?_ _) | (with_reducible refine Below.setCell ?_ ?_ _) | go_size))⟩
                  · have HG := Lib.hid (HG2.out (by omega))
                    go_wp2
                    go_roundg (n - (k + 1))
                    case measure => omega
                    case rel => first | exact ⟨k + 1, e, by go_num, by omega, by omega, rfl, Lib.hid ⟨HE2.out, HG.out⟩⟩ | exact ⟨k + 1, ⟨_, below_drewN e.h _⟩, by go_num, by omega, by omega, rfl, Lib.hid ⟨HE2.out, HG.out⟩⟩
        · obtain rfl : k = n := by omega
          have hkn : ¬ (k : Int) < k := by omega
          have HF : Hid (camB xs = ((halfI xs).1 != (halfI xs).2)) := Lib.hid (by
            have h1 := HLEN.out
            have h2 := HQ.out
            have h3 := HN.out
            by_cases hh : (halfI xs).1 = (halfI xs).2
            · rw [HBAD.out.2 (fun h => h.2.2.2.2 hh)]
              simp [hh]
            · rw [HOK.out.2 ⟨by omega, by omega, fun t ht => h2.1 t (by omega), fun t ht => h2.2 t (by omega), hh⟩]
              simp [hh])
          go_wp2_with ((go_at_call 24; refine (HHF.out _ (HX.out _ (by (repeat' (first | (with_reducible exact Below.refl _ _) | (with_reducible assumption) | (with_reducible refine below_alloc ?_ _) | (with_reducible refine Below.drew ?_) | (with_reducible refine below_drewN ?_ _) | (with_reducible refine below_step (by assumption) ?_) | (with_reducible refine below_later ?_ _) | (with_reducible refine Below.setCell ?_ ?_ _) | go_size))))).mono ?_; rintro e hb2w ⟨rfl, hb2⟩; obtain ⟨hb2c, hb2f⟩ := bcell hb2; have hb2s := hb2.size; (try simp only [World.size_alloc] at hb2s); (try (have : w.heap.size < hb2w.heap.size := by omega)); (try (have : w.heap.size + 1 < hb2w.heap.size := by omega)); (try (have : w.heap.size + 1 + 1 < hb2w.heap.size := by omega)); (try (have : w.heap.size + 1 + 1 + 1 < hb2w.heap.size := by omega)); (try (have : bX < hb2w.heap.size := by omega)); (try (have : bY < hb2w.heap.size := by omega)); (try (have : bZ < hb2w.heap.size := by omega))))
          go_ret
          exact ⟨by rw [HF.out]; first | rfl | (simp; done), by (repeat' (first | (with_reducible exact Below.refl _ _) | (with_reducible assumption) | (with_reducible refine below_alloc ?_ _) | (with_reducible refine Below.drew ?_) | (with_reducible refine below_drewN ?_ _) | (with_reducible refine below_step (by assumption) ?_) | (with_reducible refine below_later ?_ _) | (with_reducible refine Below.setCell ?_ ?_ _) | go_size))⟩

theorem rpValid_any (r : Option Addr) (cap : Nat) (xs : List Int) (k s : Bool) (h c : Int) (w : World) (hx : IsInts w r cap .i64 xs) : Calls Try.prog 18 #[.agg #[.slice r xs.length cap], .agg #[.bool k, .int .i64 h, .int .i64 c, .bool s]] w fun e w' => e = .returned (.bool (cphB xs ⟨k, h, c, s⟩)) ∧ Below w.heap.size w w' := by
  have HX : Hid (∀ w', Below w.heap.size w w' → IsInts w' r cap .i64 xs) := Lib.hid (fun _ h => hx.later h)
  have HC := Lib.hid (fun w hx => r21cam_any r cap xs w hx)
  have HV := Lib.hid (fun w => rplain_any k s h c w)
  have H : Hid (cphB xs ⟨k, h, c, s⟩ = (camB xs && phB ⟨k, h, c, s⟩)) := Lib.hid rfl
  clear hx
  generalize cphB xs ⟨k, h, c, s⟩ = res at *
  generalize phB ⟨k, h, c, s⟩ = b at *
  generalize camB xs = a at *
  cases a
  all_goals go_enter Try.func18, Try.ntmps18
  all_goals go_wp2_with (first | (go_at_call 10; refine (HC.out _ (HX.out _ (by (repeat' (first | (with_reducible exact Below.refl _ _) | (with_reducible assumption) | (with_reducible refine below_alloc ?_ _) | (with_reducible refine Below.drew ?_) | (with_reducible refine below_drewN ?_ _) | (with_reducible refine below_step (by assumption) ?_) | (with_reducible refine below_later ?_ _) | (with_reducible refine Below.setCell ?_ ?_ _) | go_size))))).mono ?_; rintro e hb1w ⟨rfl, hb1⟩; obtain ⟨hb1c, hb1f⟩ := bcell hb1; have hb1s := hb1.size; (try simp only [World.size_alloc] at hb1s); (try (have : w.heap.size < hb1w.heap.size := by omega)); (try (have : w.heap.size + 1 < hb1w.heap.size := by omega)); (try (have : w.heap.size + 1 + 1 < hb1w.heap.size := by omega)); (try (have : w.heap.size + 1 + 1 + 1 < hb1w.heap.size := by omega)); (try (have : bX < hb1w.heap.size := by omega)); (try (have : bY < hb1w.heap.size := by omega)); (try (have : bZ < hb1w.heap.size := by omega))) | (go_at_call 30; refine (HV.out _).mono ?_; rintro e hb2w ⟨rfl, hb2⟩; obtain ⟨hb2c, hb2f⟩ := bcell hb2; have hb2s := hb2.size; (try simp only [World.size_alloc] at hb2s); (try (have : w.heap.size < hb2w.heap.size := by omega)); (try (have : w.heap.size + 1 < hb2w.heap.size := by omega)); (try (have : w.heap.size + 1 + 1 < hb2w.heap.size := by omega)); (try (have : w.heap.size + 1 + 1 + 1 < hb2w.heap.size := by omega)); (try (have : bX < hb2w.heap.size := by omega)); (try (have : bY < hb2w.heap.size := by omega)); (try (have : bZ < hb2w.heap.size := by omega))))
  all_goals go_ret
  all_goals exact ⟨ret_bool (by rw [H.out]; simp), by (repeat' (first | (with_reducible exact Below.refl _ _) | (with_reducible assumption) | (with_reducible refine below_alloc ?_ _) | (with_reducible refine Below.drew ?_) | (with_reducible refine below_drewN ?_ _) | (with_reducible refine below_step (by assumption) ?_) | (with_reducible refine below_later ?_ _) | (with_reducible refine Below.setCell ?_ ?_ _) | go_size))⟩
set_option maxHeartbeats 1000000 in
theorem pTurn_any (r : Option Addr) (cap : Nat) (xs : List Int) (k s k' s' : Bool) (h c h' c' : Int) (w : World) (hx : IsInts w r cap .i64 xs) (hok : cphB xs ⟨k, h, c, s⟩ = true) (he : (Ph.mk k h c s).turn (halfI xs).1 (halfI xs).2 = ⟨k', h', c', s'⟩) :
    Calls Try.prog 15 #[.agg #[.slice r xs.length cap], .agg #[.bool k, .int .i64 h, .int .i64 c, .bool s]] w fun e w' => e = .returned (.tuple #[.agg #[.bool k', .int .i64 h', .int .i64 c', .bool s'], .int .i64 0]) ∧ Below w.heap.size w w' := by
  have HX : Hid (∀ w', Below w.heap.size w w' → IsInts w' r cap .i64 xs) := Lib.hid (fun _ h => hx.later h)
  have HV := Lib.hid (fun w hx => pValid_any r cap xs k s h c w hx)
  rw [hok] at HV
  simp only [cphB, Bool.and_eq_true, phB_true] at hok
  obtain ⟨hcam, hph⟩ := hok
  have hab := (camB_true.1 hcam).2.2.2.2
  have hkn := hph.known
  have hhf := hph.half
  have HH := Lib.hid (fun w hx => halves2_any r cap xs w hx)
  rw [show halfB xs = halfI xs by unfold halfB; rw [if_pos (camB_true.1 hcam)]] at HH
  obtain ⟨a, b, hh⟩ : ∃ a b, halfI xs = (a, b) := ⟨_, _, rfl⟩
  rw [hh] at he hab HH
  have HH2 : Hid (∀ w, IsInts w r cap .i64 xs → Calls Try.prog 35 #[.agg #[.slice r xs.length cap]] w fun e w' => e = .returned (.tuple #[.int .i64 a, .int .i64 b]) ∧ Below w.heap.size w w') := Lib.hid HH.out
  have HE := Lib.hid he
  clear he hx hcam hph HH hh
  change ¬ a = b at hab
  cases s
  · have e := HE.out
    simp only [Ph.turn, if_true, Ph.mk.injEq] at e
    obtain ⟨rfl, rfl, rfl, rfl⟩ := e
    clear hab hkn hhf
    go_enter Try.func15, Try.ntmps15
    go_wp2_with ((first | (go_at_call 13; refine (HV.out _ (HX.out _ (by (repeat' (first | (with_reducible exact Below.refl _ _) | (with_reducible assumption) | (with_reducible refine below_alloc ?_ _) | (with_reducible refine Below.drew ?_) | (with_reducible refine below_drewN ?_ _) | (with_reducible refine below_step (by assumption) ?_) | (with_reducible refine below_later ?_ _) | (with_reducible refine Below.setCell ?_ ?_ _) | go_size))))).mono ?_; rintro e hb1w ⟨rfl, hb1⟩; obtain ⟨hb1c, hb1f⟩ := bcell hb1; have hb1s := hb1.size; (try simp only [World.size_alloc] at hb1s); (try (have : w.heap.size < hb1w.heap.size := by omega)); (try (have : w.heap.size + 1 < hb1w.heap.size := by omega)); (try (have : w.heap.size + 1 + 1 < hb1w.heap.size := by omega)); (try (have : w.heap.size + 1 + 1 + 1 < hb1w.heap.size := by omega)); (try (have : bX < hb1w.heap.size := by omega)); (try (have : bY < hb1w.heap.size := by omega)); (try (have : bZ < hb1w.heap.size := by omega))) | (go_at_call 35; refine (HH2.out _ (HX.out _ (by (repeat' (first | (with_reducible exact Below.refl _ _) | (with_reducible assumption) | (with_reducible refine below_alloc ?_ _) | (with_reducible refine Below.drew ?_) | (with_reducible refine below_drewN ?_ _) | (with_reducible refine below_step (by assumption) ?_) | (with_reducible refine below_later ?_ _) | (with_reducible refine Below.setCell ?_ ?_ _) | go_size))))).mono ?_; rintro e hb2w ⟨rfl, hb2⟩; obtain ⟨hb2c, hb2f⟩ := bcell hb2; have hb2s := hb2.size; (try simp only [World.size_alloc] at hb2s); (try (have : w.heap.size < hb2w.heap.size := by omega)); (try (have : w.heap.size + 1 < hb2w.heap.size := by omega)); (try (have : w.heap.size + 1 + 1 < hb2w.heap.size := by omega)); (try (have : w.heap.size + 1 + 1 + 1 < hb2w.heap.size := by omega)); (try (have : bX < hb2w.heap.size := by omega)); (try (have : bY < hb2w.heap.size := by omega)); (try (have : bZ < hb2w.heap.size := by omega)))))
    all_goals refine bodyPost_ret (by simp [results, Try.results15, go_sem, *]; try rfl) rfl ?_
    all_goals exact ⟨rfl, by (repeat' (first | (with_reducible exact Below.refl _ _) | (with_reducible assumption) | (with_reducible refine below_alloc ?_ _) | (with_reducible refine Below.drew ?_) | (with_reducible refine below_drewN ?_ _) | (with_reducible refine below_step (by assumption) ?_) | (with_reducible refine below_later ?_ _) | (with_reducible refine Below.setCell ?_ ?_ _) | go_size))⟩
  · by_cases h1 : c = a
    · subst h1
      have h2 : (c == b) = false := by simpa using hab
      cases k
      · obtain rfl := hkn rfl
        have e := HE.out
        simp [Ph.turn] at e
        obtain ⟨rfl, rfl, rfl, rfl⟩ := e
        clear hkn hhf
        go_enter Try.func15, Try.ntmps15
        go_wp2_with ((first | (go_at_call 13; refine (HV.out _ (HX.out _ (by (repeat' (first | (with_reducible exact Below.refl _ _) | (with_reducible assumption) | (with_reducible refine below_alloc ?_ _) | (with_reducible refine Below.drew ?_) | (with_reducible refine below_drewN ?_ _) | (with_reducible refine below_step (by assumption) ?_) | (with_reducible refine below_later ?_ _) | (with_reducible refine Below.setCell ?_ ?_ _) | go_size))))).mono ?_; rintro e hb1w ⟨rfl, hb1⟩; obtain ⟨hb1c, hb1f⟩ := bcell hb1; have hb1s := hb1.size; (try simp only [World.size_alloc] at hb1s); (try (have : w.heap.size < hb1w.heap.size := by omega)); (try (have : w.heap.size + 1 < hb1w.heap.size := by omega)); (try (have : w.heap.size + 1 + 1 < hb1w.heap.size := by omega)); (try (have : w.heap.size + 1 + 1 + 1 < hb1w.heap.size := by omega)); (try (have : bX < hb1w.heap.size := by omega)); (try (have : bY < hb1w.heap.size := by omega)); (try (have : bZ < hb1w.heap.size := by omega))) | (go_at_call 35; refine (HH2.out _ (HX.out _ (by (repeat' (first | (with_reducible exact Below.refl _ _) | (with_reducible assumption) | (with_reducible refine below_alloc ?_ _) | (with_reducible refine Below.drew ?_) | (with_reducible refine below_drewN ?_ _) | (with_reducible refine below_step (by assumption) ?_) | (with_reducible refine below_later ?_ _) | (with_reducible refine Below.setCell ?_ ?_ _) | go_size))))).mono ?_; rintro e hb2w ⟨rfl, hb2⟩; obtain ⟨hb2c, hb2f⟩ := bcell hb2; have hb2s := hb2.size; (try simp only [World.size_alloc] at hb2s); (try (have : w.heap.size < hb2w.heap.size := by omega)); (try (have : w.heap.size + 1 < hb2w.heap.size := by omega)); (try (have : w.heap.size + 1 + 1 < hb2w.heap.size := by omega)); (try (have : w.heap.size + 1 + 1 + 1 < hb2w.heap.size := by omega)); (try (have : bX < hb2w.heap.size := by omega)); (try (have : bY < hb2w.heap.size := by omega)); (try (have : bZ < hb2w.heap.size := by omega)))))
        all_goals refine bodyPost_ret (by simp [results, Try.results15, go_sem, *]; try rfl) rfl ?_
        all_goals exact ⟨rfl, by (repeat' (first | (with_reducible exact Below.refl _ _) | (with_reducible assumption) | (with_reducible refine below_alloc ?_ _) | (with_reducible refine Below.drew ?_) | (with_reducible refine below_drewN ?_ _) | (with_reducible refine below_step (by assumption) ?_) | (with_reducible refine below_later ?_ _) | (with_reducible refine Below.setCell ?_ ?_ _) | go_size))⟩
      · rcases hhf with hhf | hhf
        · change h = 0 at hhf
          subst hhf
          have e := HE.out
          simp [Ph.turn] at e
          obtain ⟨rfl, rfl, rfl, rfl⟩ := e
          clear hkn
          go_enter Try.func15, Try.ntmps15
          go_wp2_with ((first | (go_at_call 13; refine (HV.out _ (HX.out _ (by (repeat' (first | (with_reducible exact Below.refl _ _) | (with_reducible assumption) | (with_reducible refine below_alloc ?_ _) | (with_reducible refine Below.drew ?_) | (with_reducible refine below_drewN ?_ _) | (with_reducible refine below_step (by assumption) ?_) | (with_reducible refine below_later ?_ _) | (with_reducible refine Below.setCell ?_ ?_ _) | go_size))))).mono ?_; rintro e hb1w ⟨rfl, hb1⟩; obtain ⟨hb1c, hb1f⟩ := bcell hb1; have hb1s := hb1.size; (try simp only [World.size_alloc] at hb1s); (try (have : w.heap.size < hb1w.heap.size := by omega)); (try (have : w.heap.size + 1 < hb1w.heap.size := by omega)); (try (have : w.heap.size + 1 + 1 < hb1w.heap.size := by omega)); (try (have : w.heap.size + 1 + 1 + 1 < hb1w.heap.size := by omega)); (try (have : bX < hb1w.heap.size := by omega)); (try (have : bY < hb1w.heap.size := by omega)); (try (have : bZ < hb1w.heap.size := by omega))) | (go_at_call 35; refine (HH2.out _ (HX.out _ (by (repeat' (first | (with_reducible exact Below.refl _ _) | (with_reducible assumption) | (with_reducible refine below_alloc ?_ _) | (with_reducible refine Below.drew ?_) | (with_reducible refine below_drewN ?_ _) | (with_reducible refine below_step (by assumption) ?_) | (with_reducible refine below_later ?_ _) | (with_reducible refine Below.setCell ?_ ?_ _) | go_size))))).mono ?_; rintro e hb2w ⟨rfl, hb2⟩; obtain ⟨hb2c, hb2f⟩ := bcell hb2; have hb2s := hb2.size; (try simp only [World.size_alloc] at hb2s); (try (have : w.heap.size < hb2w.heap.size := by omega)); (try (have : w.heap.size + 1 < hb2w.heap.size := by omega)); (try (have : w.heap.size + 1 + 1 < hb2w.heap.size := by omega)); (try (have : w.heap.size + 1 + 1 + 1 < hb2w.heap.size := by omega)); (try (have : bX < hb2w.heap.size := by omega)); (try (have : bY < hb2w.heap.size := by omega)); (try (have : bZ < hb2w.heap.size := by omega)))))
          all_goals refine bodyPost_ret (by simp [results, Try.results15, go_sem, *]; try rfl) rfl ?_
          all_goals exact ⟨rfl, by (repeat' (first | (with_reducible exact Below.refl _ _) | (with_reducible assumption) | (with_reducible refine below_alloc ?_ _) | (with_reducible refine Below.drew ?_) | (with_reducible refine below_drewN ?_ _) | (with_reducible refine below_step (by assumption) ?_) | (with_reducible refine below_later ?_ _) | (with_reducible refine Below.setCell ?_ ?_ _) | go_size))⟩
        · change h = 1 at hhf
          subst hhf
          have e := HE.out
          simp [Ph.turn] at e
          obtain ⟨rfl, rfl, rfl, rfl⟩ := e
          clear hkn
          go_enter Try.func15, Try.ntmps15
          go_wp2_with ((first | (go_at_call 13; refine (HV.out _ (HX.out _ (by (repeat' (first | (with_reducible exact Below.refl _ _) | (with_reducible assumption) | (with_reducible refine below_alloc ?_ _) | (with_reducible refine Below.drew ?_) | (with_reducible refine below_drewN ?_ _) | (with_reducible refine below_step (by assumption) ?_) | (with_reducible refine below_later ?_ _) | (with_reducible refine Below.setCell ?_ ?_ _) | go_size))))).mono ?_; rintro e hb1w ⟨rfl, hb1⟩; obtain ⟨hb1c, hb1f⟩ := bcell hb1; have hb1s := hb1.size; (try simp only [World.size_alloc] at hb1s); (try (have : w.heap.size < hb1w.heap.size := by omega)); (try (have : w.heap.size + 1 < hb1w.heap.size := by omega)); (try (have : w.heap.size + 1 + 1 < hb1w.heap.size := by omega)); (try (have : w.heap.size + 1 + 1 + 1 < hb1w.heap.size := by omega)); (try (have : bX < hb1w.heap.size := by omega)); (try (have : bY < hb1w.heap.size := by omega)); (try (have : bZ < hb1w.heap.size := by omega))) | (go_at_call 35; refine (HH2.out _ (HX.out _ (by (repeat' (first | (with_reducible exact Below.refl _ _) | (with_reducible assumption) | (with_reducible refine below_alloc ?_ _) | (with_reducible refine Below.drew ?_) | (with_reducible refine below_drewN ?_ _) | (with_reducible refine below_step (by assumption) ?_) | (with_reducible refine below_later ?_ _) | (with_reducible refine Below.setCell ?_ ?_ _) | go_size))))).mono ?_; rintro e hb2w ⟨rfl, hb2⟩; obtain ⟨hb2c, hb2f⟩ := bcell hb2; have hb2s := hb2.size; (try simp only [World.size_alloc] at hb2s); (try (have : w.heap.size < hb2w.heap.size := by omega)); (try (have : w.heap.size + 1 < hb2w.heap.size := by omega)); (try (have : w.heap.size + 1 + 1 < hb2w.heap.size := by omega)); (try (have : w.heap.size + 1 + 1 + 1 < hb2w.heap.size := by omega)); (try (have : bX < hb2w.heap.size := by omega)); (try (have : bY < hb2w.heap.size := by omega)); (try (have : bZ < hb2w.heap.size := by omega)))))
          all_goals refine bodyPost_ret (by simp [results, Try.results15, go_sem, *]; try rfl) rfl ?_
          all_goals exact ⟨rfl, by (repeat' (first | (with_reducible exact Below.refl _ _) | (with_reducible assumption) | (with_reducible refine below_alloc ?_ _) | (with_reducible refine Below.drew ?_) | (with_reducible refine below_drewN ?_ _) | (with_reducible refine below_step (by assumption) ?_) | (with_reducible refine below_later ?_ _) | (with_reducible refine Below.setCell ?_ ?_ _) | go_size))⟩
    · have h3 : (c == a) = false := by simpa using h1
      by_cases h2 : c = b
      · subst h2
        have h4 : ¬ a = c := fun h => h1 h.symm
        cases k
        · obtain rfl := hkn rfl
          have e := HE.out
          simp [Ph.turn, h1] at e
          obtain ⟨rfl, rfl, rfl, rfl⟩ := e
          clear hkn hhf
          go_enter Try.func15, Try.ntmps15
          go_wp2_with ((first | (go_at_call 13; refine (HV.out _ (HX.out _ (by (repeat' (first | (with_reducible exact Below.refl _ _) | (with_reducible assumption) | (with_reducible refine below_alloc ?_ _) | (with_reducible refine Below.drew ?_) | (with_reducible refine below_drewN ?_ _) | (with_reducible refine below_step (by assumption) ?_) | (with_reducible refine below_later ?_ _) | (with_reducible refine Below.setCell ?_ ?_ _) | go_size))))).mono ?_; rintro e hb1w ⟨rfl, hb1⟩; obtain ⟨hb1c, hb1f⟩ := bcell hb1; have hb1s := hb1.size; (try simp only [World.size_alloc] at hb1s); (try (have : w.heap.size < hb1w.heap.size := by omega)); (try (have : w.heap.size + 1 < hb1w.heap.size := by omega)); (try (have : w.heap.size + 1 + 1 < hb1w.heap.size := by omega)); (try (have : w.heap.size + 1 + 1 + 1 < hb1w.heap.size := by omega)); (try (have : bX < hb1w.heap.size := by omega)); (try (have : bY < hb1w.heap.size := by omega)); (try (have : bZ < hb1w.heap.size := by omega))) | (go_at_call 35; refine (HH2.out _ (HX.out _ (by (repeat' (first | (with_reducible exact Below.refl _ _) | (with_reducible assumption) | (with_reducible refine below_alloc ?_ _) | (with_reducible refine Below.drew ?_) | (with_reducible refine below_drewN ?_ _) | (with_reducible refine below_step (by assumption) ?_) | (with_reducible refine below_later ?_ _) | (with_reducible refine Below.setCell ?_ ?_ _) | go_size))))).mono ?_; rintro e hb2w ⟨rfl, hb2⟩; obtain ⟨hb2c, hb2f⟩ := bcell hb2; have hb2s := hb2.size; (try simp only [World.size_alloc] at hb2s); (try (have : w.heap.size < hb2w.heap.size := by omega)); (try (have : w.heap.size + 1 < hb2w.heap.size := by omega)); (try (have : w.heap.size + 1 + 1 < hb2w.heap.size := by omega)); (try (have : w.heap.size + 1 + 1 + 1 < hb2w.heap.size := by omega)); (try (have : bX < hb2w.heap.size := by omega)); (try (have : bY < hb2w.heap.size := by omega)); (try (have : bZ < hb2w.heap.size := by omega)))))
          all_goals refine bodyPost_ret (by simp [results, Try.results15, go_sem, *]; try rfl) rfl ?_
          all_goals exact ⟨rfl, by (repeat' (first | (with_reducible exact Below.refl _ _) | (with_reducible assumption) | (with_reducible refine below_alloc ?_ _) | (with_reducible refine Below.drew ?_) | (with_reducible refine below_drewN ?_ _) | (with_reducible refine below_step (by assumption) ?_) | (with_reducible refine below_later ?_ _) | (with_reducible refine Below.setCell ?_ ?_ _) | go_size))⟩
        · rcases hhf with hhf | hhf
          · change h = 0 at hhf
            subst hhf
            have e := HE.out
            simp [Ph.turn, h1] at e
            obtain ⟨rfl, rfl, rfl, rfl⟩ := e
            clear hkn
            go_enter Try.func15, Try.ntmps15
            go_wp2_with ((first | (go_at_call 13; refine (HV.out _ (HX.out _ (by (repeat' (first | (with_reducible exact Below.refl _ _) | (with_reducible assumption) | (with_reducible refine below_alloc ?_ _) | (with_reducible refine Below.drew ?_) | (with_reducible refine below_drewN ?_ _) | (with_reducible refine below_step (by assumption) ?_) | (with_reducible refine below_later ?_ _) | (with_reducible refine Below.setCell ?_ ?_ _) | go_size))))).mono ?_; rintro e hb1w ⟨rfl, hb1⟩; obtain ⟨hb1c, hb1f⟩ := bcell hb1; have hb1s := hb1.size; (try simp only [World.size_alloc] at hb1s); (try (have : w.heap.size < hb1w.heap.size := by omega)); (try (have : w.heap.size + 1 < hb1w.heap.size := by omega)); (try (have : w.heap.size + 1 + 1 < hb1w.heap.size := by omega)); (try (have : w.heap.size + 1 + 1 + 1 < hb1w.heap.size := by omega)); (try (have : bX < hb1w.heap.size := by omega)); (try (have : bY < hb1w.heap.size := by omega)); (try (have : bZ < hb1w.heap.size := by omega))) | (go_at_call 35; refine (HH2.out _ (HX.out _ (by (repeat' (first | (with_reducible exact Below.refl _ _) | (with_reducible assumption) | (with_reducible refine below_alloc ?_ _) | (with_reducible refine Below.drew ?_) | (with_reducible refine below_drewN ?_ _) | (with_reducible refine below_step (by assumption) ?_) | (with_reducible refine below_later ?_ _) | (with_reducible refine Below.setCell ?_ ?_ _) | go_size))))).mono ?_; rintro e hb2w ⟨rfl, hb2⟩; obtain ⟨hb2c, hb2f⟩ := bcell hb2; have hb2s := hb2.size; (try simp only [World.size_alloc] at hb2s); (try (have : w.heap.size < hb2w.heap.size := by omega)); (try (have : w.heap.size + 1 < hb2w.heap.size := by omega)); (try (have : w.heap.size + 1 + 1 < hb2w.heap.size := by omega)); (try (have : w.heap.size + 1 + 1 + 1 < hb2w.heap.size := by omega)); (try (have : bX < hb2w.heap.size := by omega)); (try (have : bY < hb2w.heap.size := by omega)); (try (have : bZ < hb2w.heap.size := by omega)))))
            all_goals refine bodyPost_ret (by simp [results, Try.results15, go_sem, *]; try rfl) rfl ?_
            all_goals exact ⟨rfl, by (repeat' (first | (with_reducible exact Below.refl _ _) | (with_reducible assumption) | (with_reducible refine below_alloc ?_ _) | (with_reducible refine Below.drew ?_) | (with_reducible refine below_drewN ?_ _) | (with_reducible refine below_step (by assumption) ?_) | (with_reducible refine below_later ?_ _) | (with_reducible refine Below.setCell ?_ ?_ _) | go_size))⟩
          · change h = 1 at hhf
            subst hhf
            have e := HE.out
            simp [Ph.turn, h1] at e
            obtain ⟨rfl, rfl, rfl, rfl⟩ := e
            clear hkn
            go_enter Try.func15, Try.ntmps15
            go_wp2_with ((first | (go_at_call 13; refine (HV.out _ (HX.out _ (by (repeat' (first | (with_reducible exact Below.refl _ _) | (with_reducible assumption) | (with_reducible refine below_alloc ?_ _) | (with_reducible refine Below.drew ?_) | (with_reducible refine below_drewN ?_ _) | (with_reducible refine below_step (by assumption) ?_) | (with_reducible refine below_later ?_ _) | (with_reducible refine Below.setCell ?_ ?_ _) | go_size))))).mono ?_; rintro e hb1w ⟨rfl, hb1⟩; obtain ⟨hb1c, hb1f⟩ := bcell hb1; have hb1s := hb1.size; (try simp only [World.size_alloc] at hb1s); (try (have : w.heap.size < hb1w.heap.size := by omega)); (try (have : w.heap.size + 1 < hb1w.heap.size := by omega)); (try (have : w.heap.size + 1 + 1 < hb1w.heap.size := by omega)); (try (have : w.heap.size + 1 + 1 + 1 < hb1w.heap.size := by omega)); (try (have : bX < hb1w.heap.size := by omega)); (try (have : bY < hb1w.heap.size := by omega)); (try (have : bZ < hb1w.heap.size := by omega))) | (go_at_call 35; refine (HH2.out _ (HX.out _ (by (repeat' (first | (with_reducible exact Below.refl _ _) | (with_reducible assumption) | (with_reducible refine below_alloc ?_ _) | (with_reducible refine Below.drew ?_) | (with_reducible refine below_drewN ?_ _) | (with_reducible refine below_step (by assumption) ?_) | (with_reducible refine below_later ?_ _) | (with_reducible refine Below.setCell ?_ ?_ _) | go_size))))).mono ?_; rintro e hb2w ⟨rfl, hb2⟩; obtain ⟨hb2c, hb2f⟩ := bcell hb2; have hb2s := hb2.size; (try simp only [World.size_alloc] at hb2s); (try (have : w.heap.size < hb2w.heap.size := by omega)); (try (have : w.heap.size + 1 < hb2w.heap.size := by omega)); (try (have : w.heap.size + 1 + 1 < hb2w.heap.size := by omega)); (try (have : w.heap.size + 1 + 1 + 1 < hb2w.heap.size := by omega)); (try (have : bX < hb2w.heap.size := by omega)); (try (have : bY < hb2w.heap.size := by omega)); (try (have : bZ < hb2w.heap.size := by omega)))))
            all_goals refine bodyPost_ret (by simp [results, Try.results15, go_sem, *]; try rfl) rfl ?_
            all_goals exact ⟨rfl, by (repeat' (first | (with_reducible exact Below.refl _ _) | (with_reducible assumption) | (with_reducible refine below_alloc ?_ _) | (with_reducible refine Below.drew ?_) | (with_reducible refine below_drewN ?_ _) | (with_reducible refine below_step (by assumption) ?_) | (with_reducible refine below_later ?_ _) | (with_reducible refine Below.setCell ?_ ?_ _) | go_size))⟩
      · have h4 : (c == b) = false := by simpa using h2
        have e := HE.out
        simp [Ph.turn, h1, h2] at e
        obtain ⟨rfl, rfl, rfl, rfl⟩ := e
        clear hkn hhf
        go_enter Try.func15, Try.ntmps15
        go_wp2_with ((first | (go_at_call 13; refine (HV.out _ (HX.out _ (by (repeat' (first | (with_reducible exact Below.refl _ _) | (with_reducible assumption) | (with_reducible refine below_alloc ?_ _) | (with_reducible refine Below.drew ?_) | (with_reducible refine below_drewN ?_ _) | (with_reducible refine below_step (by assumption) ?_) | (with_reducible refine below_later ?_ _) | (with_reducible refine Below.setCell ?_ ?_ _) | go_size))))).mono ?_; rintro e hb1w ⟨rfl, hb1⟩; obtain ⟨hb1c, hb1f⟩ := bcell hb1; have hb1s := hb1.size; (try simp only [World.size_alloc] at hb1s); (try (have : w.heap.size < hb1w.heap.size := by omega)); (try (have : w.heap.size + 1 < hb1w.heap.size := by omega)); (try (have : w.heap.size + 1 + 1 < hb1w.heap.size := by omega)); (try (have : w.heap.size + 1 + 1 + 1 < hb1w.heap.size := by omega)); (try (have : bX < hb1w.heap.size := by omega)); (try (have : bY < hb1w.heap.size := by omega)); (try (have : bZ < hb1w.heap.size := by omega))) | (go_at_call 35; refine (HH2.out _ (HX.out _ (by (repeat' (first | (with_reducible exact Below.refl _ _) | (with_reducible assumption) | (with_reducible refine below_alloc ?_ _) | (with_reducible refine Below.drew ?_) | (with_reducible refine below_drewN ?_ _) | (with_reducible refine below_step (by assumption) ?_) | (with_reducible refine below_later ?_ _) | (with_reducible refine Below.setCell ?_ ?_ _) | go_size))))).mono ?_; rintro e hb2w ⟨rfl, hb2⟩; obtain ⟨hb2c, hb2f⟩ := bcell hb2; have hb2s := hb2.size; (try simp only [World.size_alloc] at hb2s); (try (have : w.heap.size < hb2w.heap.size := by omega)); (try (have : w.heap.size + 1 < hb2w.heap.size := by omega)); (try (have : w.heap.size + 1 + 1 < hb2w.heap.size := by omega)); (try (have : w.heap.size + 1 + 1 + 1 < hb2w.heap.size := by omega)); (try (have : bX < hb2w.heap.size := by omega)); (try (have : bY < hb2w.heap.size := by omega)); (try (have : bZ < hb2w.heap.size := by omega)))))
        all_goals refine bodyPost_ret (by simp [results, Try.results15, go_sem, *]; try rfl) rfl ?_
        all_goals exact ⟨rfl, by (repeat' (first | (with_reducible exact Below.refl _ _) | (with_reducible assumption) | (with_reducible refine below_alloc ?_ _) | (with_reducible refine Below.drew ?_) | (with_reducible refine below_drewN ?_ _) | (with_reducible refine below_step (by assumption) ?_) | (with_reducible refine below_later ?_ _) | (with_reducible refine Below.setCell ?_ ?_ _) | go_size))⟩
set_option maxHeartbeats 1000000 in
theorem rTurn_any (r : Option Addr) (cap : Nat) (xs : List Int) (k s k' s' : Bool) (h c h' c' : Int) (w : World) (hx : IsInts w r cap .i64 xs) (hok : cphB xs ⟨k, h, c, s⟩ = true) (he : (Ph.mk k h c s).turn (halfI xs).1 (halfI xs).2 = ⟨k', h', c', s'⟩) :
    Calls Try.prog 20 #[.agg #[.slice r xs.length cap], .agg #[.bool k, .int .i64 h, .int .i64 c, .bool s]] w fun e w' => e = .returned (.agg #[.bool k', .int .i64 h', .int .i64 c', .bool s']) ∧ Below w.heap.size w w' := by
  have HX : Hid (∀ w', Below w.heap.size w w' → IsInts w' r cap .i64 xs) := Lib.hid (fun _ h => hx.later h)
  simp only [cphB, Bool.and_eq_true, phB_true] at hok
  obtain ⟨hcam, hph⟩ := hok
  have hab := (camB_true.1 hcam).2.2.2.2
  have hkn := hph.known
  have hhf := hph.half
  have HH := Lib.hid (fun w hx => r21halves_any r cap xs w hx)
  obtain ⟨a, b, hh⟩ : ∃ a b, halfI xs = (a, b) := ⟨_, _, rfl⟩
  rw [hh] at he hab HH
  have HH2 : Hid (∀ w, IsInts w r cap .i64 xs → Calls Try.prog 24 #[.agg #[.slice r xs.length cap]] w fun e w' => e = .returned (.tuple #[.int .i64 a, .int .i64 b]) ∧ Below w.heap.size w w') := Lib.hid HH.out
  have HE := Lib.hid he
  clear he hx hcam hph HH hh
  change ¬ a = b at hab
  cases s
  · have e := HE.out
    simp only [Ph.turn, if_true, Ph.mk.injEq] at e
    obtain ⟨rfl, rfl, rfl, rfl⟩ := e
    clear hab hkn hhf
    go_enter Try.func20, Try.ntmps20
    go_wp2_with ((go_at_call 24; refine (HH2.out _ (HX.out _ (by (repeat' (first | (with_reducible exact Below.refl _ _) | (with_reducible assumption) | (with_reducible refine below_alloc ?_ _) | (with_reducible refine Below.drew ?_) | (with_reducible refine below_drewN ?_ _) | (with_reducible refine below_step (by assumption) ?_) | (with_reducible refine below_later ?_ _) | (with_reducible refine Below.setCell ?_ ?_ _) | go_size))))).mono ?_; rintro e hb2w ⟨rfl, hb2⟩; obtain ⟨hb2c, hb2f⟩ := bcell hb2; have hb2s := hb2.size; (try simp only [World.size_alloc] at hb2s); (try (have : w.heap.size < hb2w.heap.size := by omega)); (try (have : w.heap.size + 1 < hb2w.heap.size := by omega)); (try (have : w.heap.size + 1 + 1 < hb2w.heap.size := by omega)); (try (have : w.heap.size + 1 + 1 + 1 < hb2w.heap.size := by omega)); (try (have : bX < hb2w.heap.size := by omega)); (try (have : bY < hb2w.heap.size := by omega)); (try (have : bZ < hb2w.heap.size := by omega))))
    all_goals refine bodyPost_ret (by simp [results, Try.results20, go_sem, *]; try rfl) rfl ?_
    all_goals exact ⟨rfl, by (repeat' (first | (with_reducible exact Below.refl _ _) | (with_reducible assumption) | (with_reducible refine below_alloc ?_ _) | (with_reducible refine Below.drew ?_) | (with_reducible refine below_drewN ?_ _) | (with_reducible refine below_step (by assumption) ?_) | (with_reducible refine below_later ?_ _) | (with_reducible refine Below.setCell ?_ ?_ _) | go_size))⟩
  · by_cases h1 : c = a
    · subst h1
      have h2 : (c == b) = false := by simpa using hab
      cases k
      · obtain rfl := hkn rfl
        have e := HE.out
        simp [Ph.turn] at e
        obtain ⟨rfl, rfl, rfl, rfl⟩ := e
        clear hkn hhf
        go_enter Try.func20, Try.ntmps20
        go_wp2_with ((go_at_call 24; refine (HH2.out _ (HX.out _ (by (repeat' (first | (with_reducible exact Below.refl _ _) | (with_reducible assumption) | (with_reducible refine below_alloc ?_ _) | (with_reducible refine Below.drew ?_) | (with_reducible refine below_drewN ?_ _) | (with_reducible refine below_step (by assumption) ?_) | (with_reducible refine below_later ?_ _) | (with_reducible refine Below.setCell ?_ ?_ _) | go_size))))).mono ?_; rintro e hb2w ⟨rfl, hb2⟩; obtain ⟨hb2c, hb2f⟩ := bcell hb2; have hb2s := hb2.size; (try simp only [World.size_alloc] at hb2s); (try (have : w.heap.size < hb2w.heap.size := by omega)); (try (have : w.heap.size + 1 < hb2w.heap.size := by omega)); (try (have : w.heap.size + 1 + 1 < hb2w.heap.size := by omega)); (try (have : w.heap.size + 1 + 1 + 1 < hb2w.heap.size := by omega)); (try (have : bX < hb2w.heap.size := by omega)); (try (have : bY < hb2w.heap.size := by omega)); (try (have : bZ < hb2w.heap.size := by omega))))
        all_goals refine bodyPost_ret (by simp [results, Try.results20, go_sem, *]; try rfl) rfl ?_
        all_goals exact ⟨rfl, by (repeat' (first | (with_reducible exact Below.refl _ _) | (with_reducible assumption) | (with_reducible refine below_alloc ?_ _) | (with_reducible refine Below.drew ?_) | (with_reducible refine below_drewN ?_ _) | (with_reducible refine below_step (by assumption) ?_) | (with_reducible refine below_later ?_ _) | (with_reducible refine Below.setCell ?_ ?_ _) | go_size))⟩
      · rcases hhf with hhf | hhf
        · change h = 0 at hhf
          subst hhf
          have e := HE.out
          simp [Ph.turn] at e
          obtain ⟨rfl, rfl, rfl, rfl⟩ := e
          clear hkn
          go_enter Try.func20, Try.ntmps20
          go_wp2_with ((go_at_call 24; refine (HH2.out _ (HX.out _ (by (repeat' (first | (with_reducible exact Below.refl _ _) | (with_reducible assumption) | (with_reducible refine below_alloc ?_ _) | (with_reducible refine Below.drew ?_) | (with_reducible refine below_drewN ?_ _) | (with_reducible refine below_step (by assumption) ?_) | (with_reducible refine below_later ?_ _) | (with_reducible refine Below.setCell ?_ ?_ _) | go_size))))).mono ?_; rintro e hb2w ⟨rfl, hb2⟩; obtain ⟨hb2c, hb2f⟩ := bcell hb2; have hb2s := hb2.size; (try simp only [World.size_alloc] at hb2s); (try (have : w.heap.size < hb2w.heap.size := by omega)); (try (have : w.heap.size + 1 < hb2w.heap.size := by omega)); (try (have : w.heap.size + 1 + 1 < hb2w.heap.size := by omega)); (try (have : w.heap.size + 1 + 1 + 1 < hb2w.heap.size := by omega)); (try (have : bX < hb2w.heap.size := by omega)); (try (have : bY < hb2w.heap.size := by omega)); (try (have : bZ < hb2w.heap.size := by omega))))
          all_goals refine bodyPost_ret (by simp [results, Try.results20, go_sem, *]; try rfl) rfl ?_
          all_goals exact ⟨rfl, by (repeat' (first | (with_reducible exact Below.refl _ _) | (with_reducible assumption) | (with_reducible refine below_alloc ?_ _) | (with_reducible refine Below.drew ?_) | (with_reducible refine below_drewN ?_ _) | (with_reducible refine below_step (by assumption) ?_) | (with_reducible refine below_later ?_ _) | (with_reducible refine Below.setCell ?_ ?_ _) | go_size))⟩
        · change h = 1 at hhf
          subst hhf
          have e := HE.out
          simp [Ph.turn] at e
          obtain ⟨rfl, rfl, rfl, rfl⟩ := e
          clear hkn
          go_enter Try.func20, Try.ntmps20
          go_wp2_with ((go_at_call 24; refine (HH2.out _ (HX.out _ (by (repeat' (first | (with_reducible exact Below.refl _ _) | (with_reducible assumption) | (with_reducible refine below_alloc ?_ _) | (with_reducible refine Below.drew ?_) | (with_reducible refine below_drewN ?_ _) | (with_reducible refine below_step (by assumption) ?_) | (with_reducible refine below_later ?_ _) | (with_reducible refine Below.setCell ?_ ?_ _) | go_size))))).mono ?_; rintro e hb2w ⟨rfl, hb2⟩; obtain ⟨hb2c, hb2f⟩ := bcell hb2; have hb2s := hb2.size; (try simp only [World.size_alloc] at hb2s); (try (have : w.heap.size < hb2w.heap.size := by omega)); (try (have : w.heap.size + 1 < hb2w.heap.size := by omega)); (try (have : w.heap.size + 1 + 1 < hb2w.heap.size := by omega)); (try (have : w.heap.size + 1 + 1 + 1 < hb2w.heap.size := by omega)); (try (have : bX < hb2w.heap.size := by omega)); (try (have : bY < hb2w.heap.size := by omega)); (try (have : bZ < hb2w.heap.size := by omega))))
          all_goals refine bodyPost_ret (by simp [results, Try.results20, go_sem, *]; try rfl) rfl ?_
          all_goals exact ⟨rfl, by (repeat' (first | (with_reducible exact Below.refl _ _) | (with_reducible assumption) | (with_reducible refine below_alloc ?_ _) | (with_reducible refine Below.drew ?_) | (with_reducible refine below_drewN ?_ _) | (with_reducible refine below_step (by assumption) ?_) | (with_reducible refine below_later ?_ _) | (with_reducible refine Below.setCell ?_ ?_ _) | go_size))⟩
    · have h3 : (c == a) = false := by simpa using h1
      by_cases h2 : c = b
      · subst h2
        have h4 : ¬ a = c := fun h => h1 h.symm
        cases k
        · obtain rfl := hkn rfl
          have e := HE.out
          simp [Ph.turn, h1] at e
          obtain ⟨rfl, rfl, rfl, rfl⟩ := e
          clear hkn hhf
          go_enter Try.func20, Try.ntmps20
          go_wp2_with ((go_at_call 24; refine (HH2.out _ (HX.out _ (by (repeat' (first | (with_reducible exact Below.refl _ _) | (with_reducible assumption) | (with_reducible refine below_alloc ?_ _) | (with_reducible refine Below.drew ?_) | (with_reducible refine below_drewN ?_ _) | (with_reducible refine below_step (by assumption) ?_) | (with_reducible refine below_later ?_ _) | (with_reducible refine Below.setCell ?_ ?_ _) | go_size))))).mono ?_; rintro e hb2w ⟨rfl, hb2⟩; obtain ⟨hb2c, hb2f⟩ := bcell hb2; have hb2s := hb2.size; (try simp only [World.size_alloc] at hb2s); (try (have : w.heap.size < hb2w.heap.size := by omega)); (try (have : w.heap.size + 1 < hb2w.heap.size := by omega)); (try (have : w.heap.size + 1 + 1 < hb2w.heap.size := by omega)); (try (have : w.heap.size + 1 + 1 + 1 < hb2w.heap.size := by omega)); (try (have : bX < hb2w.heap.size := by omega)); (try (have : bY < hb2w.heap.size := by omega)); (try (have : bZ < hb2w.heap.size := by omega))))
          all_goals refine bodyPost_ret (by simp [results, Try.results20, go_sem, *]; try rfl) rfl ?_
          all_goals exact ⟨rfl, by (repeat' (first | (with_reducible exact Below.refl _ _) | (with_reducible assumption) | (with_reducible refine below_alloc ?_ _) | (with_reducible refine Below.drew ?_) | (with_reducible refine below_drewN ?_ _) | (with_reducible refine below_step (by assumption) ?_) | (with_reducible refine below_later ?_ _) | (with_reducible refine Below.setCell ?_ ?_ _) | go_size))⟩
        · rcases hhf with hhf | hhf
          · change h = 0 at hhf
            subst hhf
            have e := HE.out
            simp [Ph.turn, h1] at e
            obtain ⟨rfl, rfl, rfl, rfl⟩ := e
            clear hkn
            go_enter Try.func20, Try.ntmps20
            go_wp2_with ((go_at_call 24; refine (HH2.out _ (HX.out _ (by (repeat' (first | (with_reducible exact Below.refl _ _) | (with_reducible assumption) | (with_reducible refine below_alloc ?_ _) | (with_reducible refine Below.drew ?_) | (with_reducible refine below_drewN ?_ _) | (with_reducible refine below_step (by assumption) ?_) | (with_reducible refine below_later ?_ _) | (with_reducible refine Below.setCell ?_ ?_ _) | go_size))))).mono ?_; rintro e hb2w ⟨rfl, hb2⟩; obtain ⟨hb2c, hb2f⟩ := bcell hb2; have hb2s := hb2.size; (try simp only [World.size_alloc] at hb2s); (try (have : w.heap.size < hb2w.heap.size := by omega)); (try (have : w.heap.size + 1 < hb2w.heap.size := by omega)); (try (have : w.heap.size + 1 + 1 < hb2w.heap.size := by omega)); (try (have : w.heap.size + 1 + 1 + 1 < hb2w.heap.size := by omega)); (try (have : bX < hb2w.heap.size := by omega)); (try (have : bY < hb2w.heap.size := by omega)); (try (have : bZ < hb2w.heap.size := by omega))))
            all_goals refine bodyPost_ret (by simp [results, Try.results20, go_sem, *]; try rfl) rfl ?_
            all_goals exact ⟨rfl, by (repeat' (first | (with_reducible exact Below.refl _ _) | (with_reducible assumption) | (with_reducible refine below_alloc ?_ _) | (with_reducible refine Below.drew ?_) | (with_reducible refine below_drewN ?_ _) | (with_reducible refine below_step (by assumption) ?_) | (with_reducible refine below_later ?_ _) | (with_reducible refine Below.setCell ?_ ?_ _) | go_size))⟩
          · change h = 1 at hhf
            subst hhf
            have e := HE.out
            simp [Ph.turn, h1] at e
            obtain ⟨rfl, rfl, rfl, rfl⟩ := e
            clear hkn
            go_enter Try.func20, Try.ntmps20
            go_wp2_with ((go_at_call 24; refine (HH2.out _ (HX.out _ (by (repeat' (first | (with_reducible exact Below.refl _ _) | (with_reducible assumption) | (with_reducible refine below_alloc ?_ _) | (with_reducible refine Below.drew ?_) | (with_reducible refine below_drewN ?_ _) | (with_reducible refine below_step (by assumption) ?_) | (with_reducible refine below_later ?_ _) | (with_reducible refine Below.setCell ?_ ?_ _) | go_size))))).mono ?_; rintro e hb2w ⟨rfl, hb2⟩; obtain ⟨hb2c, hb2f⟩ := bcell hb2; have hb2s := hb2.size; (try simp only [World.size_alloc] at hb2s); (try (have : w.heap.size < hb2w.heap.size := by omega)); (try (have : w.heap.size + 1 < hb2w.heap.size := by omega)); (try (have : w.heap.size + 1 + 1 < hb2w.heap.size := by omega)); (try (have : w.heap.size + 1 + 1 + 1 < hb2w.heap.size := by omega)); (try (have : bX < hb2w.heap.size := by omega)); (try (have : bY < hb2w.heap.size := by omega)); (try (have : bZ < hb2w.heap.size := by omega))))
            all_goals refine bodyPost_ret (by simp [results, Try.results20, go_sem, *]; try rfl) rfl ?_
            all_goals exact ⟨rfl, by (repeat' (first | (with_reducible exact Below.refl _ _) | (with_reducible assumption) | (with_reducible refine below_alloc ?_ _) | (with_reducible refine Below.drew ?_) | (with_reducible refine below_drewN ?_ _) | (with_reducible refine below_step (by assumption) ?_) | (with_reducible refine below_later ?_ _) | (with_reducible refine Below.setCell ?_ ?_ _) | go_size))⟩
      · have h4 : (c == b) = false := by simpa using h2
        have e := HE.out
        simp [Ph.turn, h1, h2] at e
        obtain ⟨rfl, rfl, rfl, rfl⟩ := e
        clear hkn hhf
        go_enter Try.func20, Try.ntmps20
        go_wp2_with ((go_at_call 24; refine (HH2.out _ (HX.out _ (by (repeat' (first | (with_reducible exact Below.refl _ _) | (with_reducible assumption) | (with_reducible refine below_alloc ?_ _) | (with_reducible refine Below.drew ?_) | (with_reducible refine below_drewN ?_ _) | (with_reducible refine below_step (by assumption) ?_) | (with_reducible refine below_later ?_ _) | (with_reducible refine Below.setCell ?_ ?_ _) | go_size))))).mono ?_; rintro e hb2w ⟨rfl, hb2⟩; obtain ⟨hb2c, hb2f⟩ := bcell hb2; have hb2s := hb2.size; (try simp only [World.size_alloc] at hb2s); (try (have : w.heap.size < hb2w.heap.size := by omega)); (try (have : w.heap.size + 1 < hb2w.heap.size := by omega)); (try (have : w.heap.size + 1 + 1 < hb2w.heap.size := by omega)); (try (have : w.heap.size + 1 + 1 + 1 < hb2w.heap.size := by omega)); (try (have : bX < hb2w.heap.size := by omega)); (try (have : bY < hb2w.heap.size := by omega)); (try (have : bZ < hb2w.heap.size := by omega))))
        all_goals refine bodyPost_ret (by simp [results, Try.results20, go_sem, *]; try rfl) rfl ?_
        all_goals exact ⟨rfl, by (repeat' (first | (with_reducible exact Below.refl _ _) | (with_reducible assumption) | (with_reducible refine below_alloc ?_ _) | (with_reducible refine Below.drew ?_) | (with_reducible refine below_drewN ?_ _) | (with_reducible refine below_step (by assumption) ?_) | (with_reducible refine below_later ?_ _) | (with_reducible refine Below.setCell ?_ ?_ _) | go_size))⟩
end Go.Proofs.Ytoninaidinnbgaa
