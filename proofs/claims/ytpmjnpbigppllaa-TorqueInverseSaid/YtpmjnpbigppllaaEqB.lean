/- Contract of slices.Equal over slices of bools. -/
import Derived.Test.YtpmjnpbigppllaaPat
import Derived.Deep.LoopGhost
namespace Go.Proofs.Ytpmjnpbigppllaa
set_option linter.unusedVariables false
set_option linter.unusedSimpArgs false
open Go.RowKit Go.ChangeShapes Go.WideShapes Go.ChangeAt

theorem getD_extB {xs ys : List Bool} (hl : xs.length = ys.length) (h : ∀ t, t < xs.length → xs.getD t false = ys.getD t false) : xs = ys := by
  refine List.ext_getElem hl (fun i h1 h2 => ?_)
  have := h i h1
  simpa [List.getD, List.getElem?_eq_getElem h1, List.getElem?_eq_getElem h2] using this

set_option maxHeartbeats 1000000 in
theorem equalB_any (r q : Option Addr) (c d : Nat) (xs ys : List Bool) (w : World) (hx : IsBools w r c xs) (hy : IsBools w q d ys) :
    Calls Try.prog 34 #[.slice r xs.length c, .slice q ys.length d] w fun e w' => e = .returned (.bool (decide (xs = ys))) ∧ Below w.heap.size w w' := by
  by_cases hl : xs.length = ys.length
  · by_cases hne : xs = []
    · subst hne
      obtain rfl : ys = [] := List.length_eq_zero_iff.1 hl.symm
      clear hx hy
      go_enter Try.func34, Try.ntmps34
      go_wp2
      go_rounds 1
      go_ret
      exact ⟨by simp, by (repeat' (first | (with_reducible exact Below.refl _ _) | (with_reducible assumption) | (with_reducible refine below_alloc ?_ _) | (with_reducible refine Below.drew ?_) | (with_reducible refine below_drewN ?_ _) | (with_reducible refine below_step (by assumption) ?_) | (with_reducible refine below_later ?_ _) | (with_reducible refine Below.setCell ?_ ?_ _) | go_size))⟩
    · have hney : ys ≠ [] := fun e => by subst e; exact hne (List.length_eq_zero_iff.1 hl)
      obtain ⟨bX, off, rfl, hb, hc⟩ := hx.cells hne
      obtain ⟨bY, ofy, rfl, hby, hcy⟩ := hy.cells hney
      have hmax := hx.max
      have hle := hx.le
      unfold maxLen at hmax
      have HC := Lib.hid hc
      have HCY := Lib.hid hcy
      have HT : Hid ((∀ t, t < xs.length → xs.getD t false = ys.getD t false) → decide (xs = ys) = true) := Lib.hid (fun h => by simpa using getD_extB hl h)
      have HF : Hid (∀ t, xs.getD t false ≠ ys.getD t false → decide (xs = ys) = false) := Lib.hid (fun t h => by
        simp only [decide_eq_false_iff_not]
        intro e
        subst e
        exact h rfl)
      clear hc hcy hx hy hne hney
      rw [← hl] at HCY ⊢
      generalize hn : xs.length = n at *
      have HN := Lib.hid hn
      clear hn hl
      generalize decide (xs = ys) = res at *
      go_enter Try.func34, Try.ntmps34
      go_wp2
      go_loopg [13] n (fun kx s13 wr => ∃ (k : Nat) (e : Later w), s13 = .int .i64 k ∧ k ≤ n ∧ n - k ≤ kx ∧ wr = e.w ∧ Hid (∀ t, t < k → xs.getD t false = ys.getD t false))
      case atStart => exact ⟨0, ⟨_, Below.refl _ _⟩, rfl, by omega, by omega, rfl, Lib.hid (fun t ht => absurd ht (Nat.not_lt_zero _))⟩
      case round =>
        obtain ⟨k, e, rfl, hk, hkx, rfl, HQ⟩ := hrel
        have hes := e.h.size
        by_cases hlt : k < n
        · have hc1 : e.w.cell? ⟨bX, off + k, none⟩ = some (.bool (xs.getD k false)) := by
            rw [e.h.cell (p := ⟨bX, off + k, none⟩) hb]
            exact HC.out k hlt
          have hc2 : e.w.cell? ⟨bY, ofy + k, none⟩ = some (.bool (ys.getD k false)) := by
            rw [e.h.cell (p := ⟨bY, ofy + k, none⟩) hby]
            exact HCY.out k hlt
          have hk1 : (0 : Int) ≤ (k : Int) := by omega
          have hk2 : (k : Int) < n := by omega
          have HG : Hid (xs.getD k false = ys.getD k false → ∀ t, t < k + 1 → xs.getD t false = ys.getD t false) := Lib.hid (fun h t ht => by
            by_cases e : t = k
            · subst e; exact h
            · exact HQ.out t (by omega))
          have HB := Lib.hid (HF.out k)
          generalize xs.getD k false = x at hc1 HG HB
          generalize ys.getD k false = y at hc2 HG HB
          by_cases hxy : x = y
          · have HG2 := Lib.hid (HG.out hxy)
            clear HG HB
            subst hxy
            cases x
            all_goals go_wp2
            all_goals go_quiet (fail)
            all_goals go_wp2
            all_goals go_roundg (n - (k + 1))
            all_goals first | omega | exact ⟨k + 1, ⟨_, below_drewN e.h _⟩, by go_num, by omega, by omega, rfl, HG2⟩
          · have H := Lib.hid (HB.out hxy)
            have hxy2 : (x != y) = true := by simpa using hxy
            have hxy3 : (x == y) = false := by simpa using hxy
            go_wp2
            go_quiet (fail)
            go_wp2
            go_ret
            exact ⟨by rw [H.out]; first | done | rfl, below_drewN e.h _⟩
        · obtain rfl : k = n := by omega
          have H := Lib.hid (HT.out HQ.out)
          go_wp2
          go_ret
          exact ⟨by rw [H.out]; first | done | rfl, e.h⟩
  · have H := Lib.hid (show decide (xs = ys) = false by simp only [decide_eq_false_iff_not]; intro e; subst e; exact hl rfl)
    have hl2 : ((xs.length : Int) == (ys.length : Int)) = false := by simp; omega
    have hl3 : ¬ (xs.length : Int) = (ys.length : Int) := by omega
    clear hx hy
    go_enter Try.func34, Try.ntmps34
    go_wp2
    go_ret
    exact ⟨by rw [H.out]; first | done | rfl, by (repeat' (first | (with_reducible exact Below.refl _ _) | (with_reducible assumption) | (with_reducible refine below_alloc ?_ _) | (with_reducible refine Below.drew ?_) | (with_reducible refine below_drewN ?_ _) | (with_reducible refine below_step (by assumption) ?_) | (with_reducible refine below_later ?_ _) | (with_reducible refine Below.setCell ?_ ?_ _) | go_size))⟩
end Go.Proofs.Ytpmjnpbigppllaa
