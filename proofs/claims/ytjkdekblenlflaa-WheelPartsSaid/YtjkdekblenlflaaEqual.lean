/- Contract of slices.Equal over slices of integers. -/
import Derived.Test.YtjkdekblenlflaaOpen
import Derived.Deep.LoopGhost
namespace Go.Proofs.Ytjkdekblenlflaa
set_option linter.unusedVariables false
set_option linter.unusedSimpArgs false
open Go.RowKit Go.ChangeShapes Go.WideShapes Go.ChangeAt

theorem getD_ext {xs ys : List Int} (hl : xs.length = ys.length) (h : ∀ t, t < xs.length → xs.getD t 0 = ys.getD t 0) : xs = ys := by
  refine List.ext_getElem hl (fun i h1 h2 => ?_)
  have := h i h1
  simpa [List.getD, List.getElem?_eq_getElem h1, List.getElem?_eq_getElem h2] using this

set_option maxHeartbeats 1000000 in
theorem equal_any (r q : Option Addr) (c d : Nat) (xs ys : List Int) (w : World) (hx : IsInts w r c .i64 xs) (hy : IsInts w q d .i64 ys) :
    Calls Try.prog 28 #[.slice r xs.length c, .slice q ys.length d] w fun e w' => e = .returned (.bool (decide (xs = ys))) ∧ Below w.heap.size w w' := by
  by_cases hl : xs.length = ys.length
  · by_cases hne : xs = []
    · subst hne
      obtain rfl : ys = [] := List.length_eq_zero_iff.1 hl.symm
      clear hx hy
      go_enter Try.func28, Try.ntmps28
      go_wp2
      go_rounds 1
      go_ret
      exact ⟨by simp, by (repeat' (first | (with_reducible exact Below.refl _ _) | (with_reducible assumption) | (with_reducible refine below_alloc ?_ _) | (with_reducible refine Below.drew ?_) | (with_reducible refine below_drewN ?_ _) | (with_reducible refine below_step (by assumption) ?_) | (with_reducible refine below_later ?_ _) | (with_reducible refine Below.setCell ?_ ?_ _) | go_size))⟩
    · have hney : ys ≠ [] := fun e => by subst e; exact hne (List.length_eq_zero_iff.1 hl)
      obtain ⟨bX, off, rfl, hb, hc⟩ := hx.cells hne
      obtain ⟨bY, ofy, rfl, hby, hcy⟩ := hy.cells hney
      have hmax := hx.max
      have hle := hx.le
      unfold maxLen at hmax
      have HC := Lib.hid hc
      have HCY := Lib.hid hcy
      have HT : Hid ((∀ t, t < xs.length → xs.getD t 0 = ys.getD t 0) → decide (xs = ys) = true) := Lib.hid (fun h => by simpa using getD_ext hl h)
      have HF : Hid (∀ t, xs.getD t 0 ≠ ys.getD t 0 → decide (xs = ys) = false) := Lib.hid (fun t h => by
        simp only [decide_eq_false_iff_not]
        intro e
        subst e
        exact h rfl)
      clear hc hcy hx hy hne hney
      rw [← hl] at HCY ⊢
      generalize hn : xs.length = n at *
      have HN := Lib.hid hn
      clear hn hl
      generalize decide (xs = ys) = res at *
      go_enter Try.func28, Try.ntmps28
      go_wp2
      go_loopg [13] n (fun kx s13 wr => ∃ (k : Nat) (e : Later w), s13 = .int .i64 k ∧ k ≤ n ∧ n - k ≤ kx ∧ wr = e.w ∧ Hid (∀ t, t < k → xs.getD t 0 = ys.getD t 0))
      case atStart => exact ⟨0, ⟨_, Below.refl _ _⟩, rfl, by omega, by omega, rfl, Lib.hid (fun t ht => absurd ht (Nat.not_lt_zero _))⟩
      case round =>
        obtain ⟨k, e, rfl, hk, hkx, rfl, HQ⟩ := hrel
        have hes := e.h.size
        by_cases hlt : k < n
        · have hc1 : e.w.cell? ⟨bX, off + k, none⟩ = some (.int .i64 (xs.getD k 0)) := by
            rw [e.h.cell (p := ⟨bX, off + k, none⟩) hb]
            exact HC.out k hlt
          have hc2 : e.w.cell? ⟨bY, ofy + k, none⟩ = some (.int .i64 (ys.getD k 0)) := by
            rw [e.h.cell (p := ⟨bY, ofy + k, none⟩) hby]
            exact HCY.out k hlt
          have hk1 : (0 : Int) ≤ (k : Int) := by omega
          have hk2 : (k : Int) < n := by omega
          have HG : Hid (xs.getD k 0 = ys.getD k 0 → ∀ t, t < k + 1 → xs.getD t 0 = ys.getD t 0) := Lib.hid (fun h t ht => by
            by_cases e : t = k
            · subst e; exact h
            · exact HQ.out t (by omega))
          have HB := Lib.hid (HF.out k)
          generalize xs.getD k 0 = x at hc1 HG HB
          generalize ys.getD k 0 = y at hc2 HG HB
          by_cases hxy : x = y
          · have HG2 := Lib.hid (HG.out hxy)
            go_wp2
            go_quiet (fail)
            go_wp2
            go_roundg (n - (k + 1))
            case measure => omega
            case rel => exact ⟨k + 1, ⟨_, below_drewN e.h _⟩, by go_num, by omega, by omega, rfl, HG2⟩
          · have H := Lib.hid (HB.out hxy)
            go_wp2
            go_quiet (fail)
            go_wp2
            go_ret
            exact ⟨by rw [H.out]; first | done | rfl, below_drewN e.h _⟩
        · obtain rfl : k = n := by omega
          have H := Lib.hid (HT.out HQ.out)
          go_wp2
          go_ret
          exact ⟨by rw [H.out]; first | done | rfl, e.h⟩
  · have H := Lib.hid (show decide (xs = ys) = false by simp only [decide_eq_false_iff_not]; intro e; subst e; exact hl rfl)
    have hl2 : ((xs.length : Int) == (ys.length : Int)) = false := by simp; omega
    have hl3 : ¬ (xs.length : Int) = (ys.length : Int) := by omega
    clear hx hy
    go_enter Try.func28, Try.ntmps28
    go_wp2
    go_ret
    exact ⟨by rw [H.out]; first | done | rfl, by (repeat' (first | (with_reducible exact Below.refl _ _) | (with_reducible assumption) | (with_reducible refine below_alloc ?_ _) | (with_reducible refine Below.drew ?_) | (with_reducible refine below_drewN ?_ _) | (with_reducible refine below_step (by assumption) ?_) | (with_reducible refine below_later ?_ _) | (with_reducible refine Below.setCell ?_ ?_ _) | go_size))⟩
end Go.Proofs.Ytjkdekblenlflaa
