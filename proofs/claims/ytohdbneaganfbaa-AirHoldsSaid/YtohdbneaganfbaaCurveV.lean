/- Contracts of curve's segment, value and At. -/
import Derived.Test.YtohdbneaganfbaaCurve
namespace Go.Proofs.Ytohdbneaganfbaa
set_option linter.unusedVariables false
set_option linter.unusedSimpArgs false
open Go.RowKit Go.ChangeShapes Go.WideShapes Go.ChangeAt

theorem segCl_any (b0 b1 bX off n c x y i : Nat) (ry : Option Addr) (ny cy : Nat) (xv v : Int) (w : World)
    (c0 : w.cell? ⟨b0, 0, none⟩ = some (.slice (some ⟨bX, off, none⟩) n c)) (c1 : w.cell? ⟨b1, 0, none⟩ = some (.int .i64 xv)) (hi : i < n) (hc : w.cell? ⟨bX, off + i, none⟩ = some (.int .i64 v)) :
    Calls Try.prog 144 #[.int .i64 i, .pointer (some ⟨b0, 0, none⟩), .pointer (some ⟨b1, 0, none⟩)] w fun e w' => e = .returned (.bool (decide (xv < v))) ∧ Below w.heap.size w w' := by
  have hi2 : (i : Int) < (n : Int) := by omega
  go_enter Try.func144, Try.ntmps144
  go_wp2
  go_quiet (fail)
  go_wp2
  go_ret
  exact ⟨rfl, by (repeat' (first | (with_reducible exact Below.refl _ _) | (with_reducible assumption) | (with_reducible refine below_alloc ?_ _) | (with_reducible refine Below.drew ?_) | (with_reducible refine below_drewN ?_ _) | (with_reducible refine below_step (by assumption) ?_) | (with_reducible refine below_later ?_ _) | (with_reducible refine Below.setCell ?_ ?_ _) | go_size))⟩

theorem segment_any (rx ry : Option Addr) (cx cy : Nat) (xs ys : List Int) (x : Int) (w : World) (hx : IsInts w rx cx .i64 xs) (hok : AxisOk xs) (h0 : ¬ x ≤ xs.getD 0 0) (h1 : ¬ xs.getD (xs.length - 1) 0 ≤ x) :
    Calls Try.prog 134 #[.agg #[.slice rx xs.length cx, .slice ry ys.length cy], .int .i64 x] w fun e w' => e = .returned (.int .i64 (segI xs x)) ∧ Below w.heap.size w w' := by
  obtain ⟨hl1, hl2⟩ := seg_least hok h0 h1
  obtain ⟨bX, off, rfl, hb, hc⟩ := hx.cells (fun e => by subst e; have := hok.1; simp at this)
  have h32 := hok.2.1
  have HC := Lib.hid hc
  have HLB : Hid (∀ t, t < segI xs x + 1 → decide (x < xs.getD t 0) = false) := Lib.hid (fun t ht => least_below _ _ _ (by rw [hl1]; exact ht))
  have HUB : Hid (∀ t, segI xs x + 1 ≤ t → t < xs.length → decide (x < xs.getD t 0) = true) := Lib.hid (fun t ht htn => by
    have ha := least_at (fun i => decide (x < xs.getD i 0)) xs.length (by omega)
    rw [hl1] at ha
    simp only [decide_eq_true_eq] at ha ⊢
    by_cases e : segI xs x + 1 = t
    · rw [← e]; exact ha
    · have := axis_mono hok (show segI xs x + 1 < t by omega) htn
      omega)
  clear hc hl1 hok h0 h1
  generalize segI xs x = s at *
  generalize hn : xs.length = n at *
  have HN := Lib.hid hn
  clear hn
  go_enter Try.func134, Try.ntmps134
  go_wp2_with (go_at_call 61; refine (search_any 144 #[.pointer (some ⟨w.heap.size, 0, none⟩), .pointer (some ⟨w.heap.size + 1, 0, none⟩)] n (s + 1) (fun i => decide (x < xs.getD i 0)) _ (by rfl) (enters_of Try.func144 (by kernel_rfl) rfl) (by omega) (by omega) ?hf HLB.out HUB.out).mono ?_)
  case hf =>
    intro e i hi
    have hs := e.h.size
    simp only [World.size_alloc] at hs
    exact segCl_any w.heap.size (w.heap.size + 1) bX off n cx 0 0 i none 0 0 x _ e.w (by rw [Later.cell _ (by simp only [World.size_alloc]; omega)]; simp [go_sem]) (by rw [Later.cell _ (by simp only [World.size_alloc]; omega)]; simp [go_sem]) hi
      (by
        have hbw : Below w.heap.size w e.w := by (repeat' (first | (with_reducible exact Below.refl _ _) | (with_reducible assumption) | (with_reducible refine below_alloc ?_ _) | (with_reducible refine Below.drew ?_) | (with_reducible refine below_drewN ?_ _) | (with_reducible refine below_step (by assumption) ?_) | (with_reducible refine below_later ?_ _) | (with_reducible refine Below.setCell ?_ ?_ _) | go_size))
        rw [hbw.cell (p := ⟨bX, off + i, none⟩) hb]
        exact HC.out i (by have := HN.out; omega))
  rintro e hb1w ⟨rfl, hb1⟩
  go_wp2
  go_ret
  exact ⟨by simp, by (repeat' (first | (with_reducible exact Below.refl _ _) | (with_reducible assumption) | (with_reducible refine below_alloc ?_ _) | (with_reducible refine Below.drew ?_) | (with_reducible refine below_drewN ?_ _) | (with_reducible refine below_step (by assumption) ?_) | (with_reducible refine below_later ?_ _) | (with_reducible refine Below.setCell ?_ ?_ _) | go_size))⟩

end Go.Proofs.Ytohdbneaganfbaa
