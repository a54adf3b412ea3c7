/- slices.Grow and slices.Concat of two lists, of numbers and of bytes. Printed by a program. -/
import Derived.Test.YtfooefiaenlhmaaImgF
import Derived.Maps.AppendAt
import Derived.Lib.AppendZeros
import Derived.Deep.LoopGhost
namespace Go.Proofs.Ytfooefiaenlhmaa
set_option linter.unusedVariables false
set_option linter.unusedSimpArgs false
open Go.RowKit Go.ChangeShapes Go.WideShapes Go.ChangeAt

theorem infoI64 : (Try.prog.info? 3).map (fun i => (i.zero, i.size, i.bytes)) = some (some (.int .i64 0), 1, 8) := by kernel_rfl
set_option maxRecDepth 100000 in
theorem growI (n : Nat) (hn : n ≤ 1000000) (w : World) : Calls Try.prog 110 #[.slice none 0 0, .int .i64 n] w fun e w' => ∃ r cap, e = .returned (.slice r 0 cap) ∧ OwnK .i64 3 w' w.heap.size r cap [] ∧ Below w.heap.size w w' := by
  by_cases h0 : n = 0
  · subst h0
    go_enter Try.func110, Try.ntmps110
    go_wp2
    go_ret
    exact ⟨none, 0, rfl, OwnK.nil _ _, by (repeat' (first | (with_reducible exact Below.refl _ _) | (with_reducible assumption) | (with_reducible refine below_alloc ?_ _) | (with_reducible refine Below.drew ?_) | (with_reducible refine below_drewN ?_ _) | (with_reducible refine below_step (by assumption) ?_) | (with_reducible refine below_later ?_ _) | (with_reducible refine Below.setCell ?_ ?_ _) | go_size))⟩
  · have hn0 : (0 : Int) < n := by omega
    obtain ⟨i0, hi, hz0, hz1, hz2⟩ := info_parts infoI64
    have hs8 : i0.size = 1 := hz1
    have hb8 : i0.bytes = 8 := hz2
    go_enter Try.func110, Try.ntmps110
    go_wp2_with (at_builtin; refine Lib.wpList_append_run _ (by rfl) _ _ _ _ (by rfl) _ _ (by rfl) (by rfl) _ _ (Lib.run_append_nil_zeros _ _ _ _ 3 i0 (.int .i64 0) .i64 .i64 Try.underlying26 Try.underlying3 hi hz0 n (by omega) (by omega) (by omega) (by rw [hz2]; omega)) ?_)
    go_ret
    refine ⟨some ⟨w.heap.size, 0, none⟩, grownCap w n 0 3, rfl, ⟨by simp, Or.inr ⟨w.heap.size, grownCap w n 0 3, _, rfl, Nat.le_refl _, heap_alloc_new w _, Nat.zero_le _, grownCap_le_maxLen w n 0 3 (by unfold maxLen; omega), ?_, by simp⟩⟩, by (repeat' (first | (with_reducible exact Below.refl _ _) | (with_reducible assumption) | (with_reducible refine below_alloc ?_ _) | (with_reducible refine Below.drew ?_) | (with_reducible refine below_drewN ?_ _) | (with_reducible refine below_step (by assumption) ?_) | (with_reducible refine below_later ?_ _) | (with_reducible refine Below.setCell ?_ ?_ _) | go_size))⟩
    have := grownCap_ge w n 0 3
    simp only [Array.size_append, size_zeroCells, List.size_toArray, List.length_singleton]
    omega

set_option maxRecDepth 100000 in
set_option maxHeartbeats 2000000 in
theorem concat2I (b : Nat) (r1 r2 : Option Addr) (c1 c2 : Nat) (xs ys : List Int) (w : World) (hb : b < w.heap.size) (d0 : w.cell? ⟨b, 0, none⟩ = some (.slice r1 xs.length c1)) (d1 : w.cell? ⟨b, 1, none⟩ = some (.slice r2 ys.length c2))
    (hx : IsInts w r1 c1 .i64 xs) (hy : IsInts w r2 c2 .i64 ys) (hl : xs.length + ys.length ≤ 100000) (hw : ∀ x ∈ xs ++ ys, (Lit.int .i64 x).wf = true) :
    Calls Try.prog 70 #[.slice (some ⟨b, 0, none⟩) 2 2] w fun e w' => ∃ r cap, e = .returned (.slice r (xs ++ ys).length cap) ∧ IsInts w' r cap .i64 (xs ++ ys) ∧ Below w.heap.size w w' := by
  have HX : Hid (∀ w', Below w.heap.size w w' → IsInts w' r1 c1 .i64 xs) := Lib.hid (fun _ h => hx.later h)
  have HY : Hid (∀ w', Below w.heap.size w w' → IsInts w' r2 c2 .i64 ys) := Lib.hid (fun _ h => hy.later h)
  have HW := Lib.hid hw
  have HL : Hid ((xs ++ ys).length = xs.length + ys.length) := Lib.hid (by simp)
  clear hx hy hw
  go_enter Try.func70, Try.ntmps70
  go_wp2
  go_loopg [3, 11] 2 (fun kx s3 s11 wr => wr = w ∧ ((s3 = .int .i64 0 ∧ s11 = .int .i64 0 ∧ 2 ≤ kx) ∨ (s3 = .int .i64 xs.length ∧ s11 = .int .i64 1 ∧ 1 ≤ kx) ∨ (s3 = .int .i64 ((xs.length : Int) + ys.length) ∧ s11 = .int .i64 2)))
  case atStart => exact ⟨rfl, .inl ⟨rfl, rfl, Nat.le_refl _⟩⟩
  case round =>
    obtain ⟨rfl, h⟩ := hrel
    rcases h with ⟨rfl, rfl, hk⟩ | ⟨rfl, rfl, hk⟩ | ⟨rfl, rfl⟩
    · go_wp2
      go_roundg 1
      case measure => omega
      case rel => exact ⟨rfl, .inr (.inl ⟨by go_num, by go_num, Nat.le_refl _⟩)⟩
    · go_wp2
      go_roundg 0
      case measure => omega
      case rel => exact ⟨rfl, .inr (.inr ⟨by go_num, by go_num⟩)⟩
    · go_wp2_with (go_at_call 110; rw [show ((xs.length : Int) + ys.length) = ((xs.length + ys.length : Nat) : Int) by omega]; refine (growI (xs.length + ys.length) (by omega) _).mono ?_; rintro x hb1w ⟨r0, q0, rfl, hown0, hb1⟩; have HO0 := Lib.hid hown0; clear hown0; have hb1s := hb1.size)
      go_loopg [6, 27] 2 (fun kx s6 s27 we => ∃ (e : Later wr) (r : Option Addr) (cap : Nat), we = e.w ∧ ((s6 = .slice r 0 cap ∧ s27 = .int .i64 0 ∧ 2 ≤ kx ∧ Hid (OwnK .i64 3 e.w wr.heap.size r cap [])) ∨ (s6 = .slice r xs.length cap ∧ s27 = .int .i64 1 ∧ 1 ≤ kx ∧ Hid (OwnK .i64 3 e.w wr.heap.size r cap xs)) ∨ (s6 = .slice r (xs ++ ys).length cap ∧ s27 = .int .i64 2 ∧ Hid (OwnK .i64 3 e.w wr.heap.size r cap (xs ++ ys)))))
      case atStart => exact ⟨⟨hb1w, hb1⟩, r0, q0, rfl, .inl ⟨rfl, rfl, Nat.le_refl _, HO0⟩⟩
      case round =>
        clear HO0
        obtain ⟨e, r, cap, rfl, h⟩ := hrel
        have hes := e.h.size
        rcases h with ⟨rfl, rfl, hk, HO⟩ | ⟨rfl, rfl, hk, HO⟩ | ⟨rfl, rfl, HO⟩
        · go_wp2_with (at_builtin; refine wpList_append_ks Try.underlying26 infoI64 rfl (by omega) (by rfl) _ _ (by rfl) _ r r1 cap c1 [] xs (by rfl) (by rfl) HO.out (HX.out _ e.h) (by simp; omega) (by omega) ?_; intro r' cap' w1 hown1 hbw1; have HO1 := Lib.hid hown1; clear hown1)
          go_roundg 1
          case measure => omega
          case rel => exact ⟨⟨w1, e.h.trans hbw1⟩, r', cap', rfl, .inr (.inl ⟨rfl, by go_num, Nat.le_refl _, HO1⟩)⟩
        · go_wp2_with (at_builtin; refine wpList_append_ks Try.underlying26 infoI64 rfl (by omega) (by rfl) _ _ (by rfl) _ r r2 cap c2 xs ys (by rfl) (by rfl) HO.out (HY.out _ e.h) (by omega) (by omega) ?_; intro r' cap' w1 hown1 hbw1; have HO1 := Lib.hid hown1; clear hown1)
          go_roundg 0
          case measure => omega
          case rel => exact ⟨⟨w1, e.h.trans hbw1⟩, r', cap', rfl, .inr (.inr ⟨by simp, by go_num, HO1⟩)⟩
        · go_wp2
          go_ret
          exact ⟨r, cap, rfl, HO.out.ints HW.out, e.h⟩
set_option maxRecDepth 100000 in
theorem growB (n : Nat) (hn : n ≤ 1000000) (w : World) : Calls Try.prog 45 #[.slice none 0 0, .int .i64 n] w fun e w' => ∃ r cap, e = .returned (.slice r 0 cap) ∧ OwnK .u8 5 w' w.heap.size r cap [] ∧ Below w.heap.size w w' := by
  by_cases h0 : n = 0
  · subst h0
    go_enter Try.func45, Try.ntmps45
    go_wp2
    go_ret
    exact ⟨none, 0, rfl, OwnK.nil _ _, by (repeat' (first | (with_reducible exact Below.refl _ _) | (with_reducible assumption) | (with_reducible refine below_alloc ?_ _) | (with_reducible refine Below.drew ?_) | (with_reducible refine below_drewN ?_ _) | (with_reducible refine below_step (by assumption) ?_) | (with_reducible refine below_later ?_ _) | (with_reducible refine Below.setCell ?_ ?_ _) | go_size))⟩
  · have hn0 : (0 : Int) < n := by omega
    obtain ⟨i0, hi, hz0, hz1, hz2⟩ := info_parts infoU8
    have hs8 : i0.size = 1 := hz1
    have hb8 : i0.bytes = 1 := hz2
    go_enter Try.func45, Try.ntmps45
    go_wp2_with (at_builtin; refine Lib.wpList_append_run _ (by rfl) _ _ _ _ (by rfl) _ _ (by rfl) (by rfl) _ _ (Lib.run_append_nil_zeros _ _ _ _ 5 i0 (.int .u8 0) .i64 .i64 Try.underlying29 Try.underlying3 hi hz0 n (by omega) (by omega) (by omega) (by rw [hz2]; omega)) ?_)
    go_ret
    refine ⟨some ⟨w.heap.size, 0, none⟩, grownCap w n 0 5, rfl, ⟨by simp, Or.inr ⟨w.heap.size, grownCap w n 0 5, _, rfl, Nat.le_refl _, heap_alloc_new w _, Nat.zero_le _, grownCap_le_maxLen w n 0 5 (by unfold maxLen; omega), ?_, by simp⟩⟩, by (repeat' (first | (with_reducible exact Below.refl _ _) | (with_reducible assumption) | (with_reducible refine below_alloc ?_ _) | (with_reducible refine Below.drew ?_) | (with_reducible refine below_drewN ?_ _) | (with_reducible refine below_step (by assumption) ?_) | (with_reducible refine below_later ?_ _) | (with_reducible refine Below.setCell ?_ ?_ _) | go_size))⟩
    have := grownCap_ge w n 0 5
    simp only [Array.size_append, size_zeroCells, List.size_toArray, List.length_singleton]
    omega

set_option maxRecDepth 100000 in
set_option maxHeartbeats 2000000 in
theorem concat2B (b : Nat) (r1 r2 : Option Addr) (c1 c2 : Nat) (xs ys : List Int) (w : World) (hb : b < w.heap.size) (d0 : w.cell? ⟨b, 0, none⟩ = some (.slice r1 xs.length c1)) (d1 : w.cell? ⟨b, 1, none⟩ = some (.slice r2 ys.length c2))
    (hx : IsInts w r1 c1 .u8 xs) (hy : IsInts w r2 c2 .u8 ys) (hl : xs.length + ys.length ≤ 100000) (hw : ∀ x ∈ xs ++ ys, (Lit.int .u8 x).wf = true) :
    Calls Try.prog 21 #[.slice (some ⟨b, 0, none⟩) 2 2] w fun e w' => ∃ r cap, e = .returned (.slice r (xs ++ ys).length cap) ∧ IsInts w' r cap .u8 (xs ++ ys) ∧ Below w.heap.size w w' := by
  have HX : Hid (∀ w', Below w.heap.size w w' → IsInts w' r1 c1 .u8 xs) := Lib.hid (fun _ h => hx.later h)
  have HY : Hid (∀ w', Below w.heap.size w w' → IsInts w' r2 c2 .u8 ys) := Lib.hid (fun _ h => hy.later h)
  have HW := Lib.hid hw
  have HL : Hid ((xs ++ ys).length = xs.length + ys.length) := Lib.hid (by simp)
  clear hx hy hw
  go_enter Try.func21, Try.ntmps21
  go_wp2
  go_loopg [3, 11] 2 (fun kx s3 s11 wr => wr = w ∧ ((s3 = .int .i64 0 ∧ s11 = .int .i64 0 ∧ 2 ≤ kx) ∨ (s3 = .int .i64 xs.length ∧ s11 = .int .i64 1 ∧ 1 ≤ kx) ∨ (s3 = .int .i64 ((xs.length : Int) + ys.length) ∧ s11 = .int .i64 2)))
  case atStart => exact ⟨rfl, .inl ⟨rfl, rfl, Nat.le_refl _⟩⟩
  case round =>
    obtain ⟨rfl, h⟩ := hrel
    rcases h with ⟨rfl, rfl, hk⟩ | ⟨rfl, rfl, hk⟩ | ⟨rfl, rfl⟩
    · go_wp2
      go_roundg 1
      case measure => omega
      case rel => exact ⟨rfl, .inr (.inl ⟨by go_num, by go_num, Nat.le_refl _⟩)⟩
    · go_wp2
      go_roundg 0
      case measure => omega
      case rel => exact ⟨rfl, .inr (.inr ⟨by go_num, by go_num⟩)⟩
    · go_wp2_with (go_at_call 45; rw [show ((xs.length : Int) + ys.length) = ((xs.length + ys.length : Nat) : Int) by omega]; refine (growB (xs.length + ys.length) (by omega) _).mono ?_; rintro x hb1w ⟨r0, q0, rfl, hown0, hb1⟩; have HO0 := Lib.hid hown0; clear hown0; have hb1s := hb1.size)
      go_loopg [6, 27] 2 (fun kx s6 s27 we => ∃ (e : Later wr) (r : Option Addr) (cap : Nat), we = e.w ∧ ((s6 = .slice r 0 cap ∧ s27 = .int .i64 0 ∧ 2 ≤ kx ∧ Hid (OwnK .u8 5 e.w wr.heap.size r cap [])) ∨ (s6 = .slice r xs.length cap ∧ s27 = .int .i64 1 ∧ 1 ≤ kx ∧ Hid (OwnK .u8 5 e.w wr.heap.size r cap xs)) ∨ (s6 = .slice r (xs ++ ys).length cap ∧ s27 = .int .i64 2 ∧ Hid (OwnK .u8 5 e.w wr.heap.size r cap (xs ++ ys)))))
      case atStart => exact ⟨⟨hb1w, hb1⟩, r0, q0, rfl, .inl ⟨rfl, rfl, Nat.le_refl _, HO0⟩⟩
      case round =>
        clear HO0
        obtain ⟨e, r, cap, rfl, h⟩ := hrel
        have hes := e.h.size
        rcases h with ⟨rfl, rfl, hk, HO⟩ | ⟨rfl, rfl, hk, HO⟩ | ⟨rfl, rfl, HO⟩
        · go_wp2_with (at_builtin; refine wpList_append_ks Try.underlying29 infoU8 rfl (by omega) (by rfl) _ _ (by rfl) _ r r1 cap c1 [] xs (by rfl) (by rfl) HO.out (HX.out _ e.h) (by simp; omega) (by omega) ?_; intro r' cap' w1 hown1 hbw1; have HO1 := Lib.hid hown1; clear hown1)
          go_roundg 1
          case measure => omega
          case rel => exact ⟨⟨w1, e.h.trans hbw1⟩, r', cap', rfl, .inr (.inl ⟨rfl, by go_num, Nat.le_refl _, HO1⟩)⟩
        · go_wp2_with (at_builtin; refine wpList_append_ks Try.underlying29 infoU8 rfl (by omega) (by rfl) _ _ (by rfl) _ r r2 cap c2 xs ys (by rfl) (by rfl) HO.out (HY.out _ e.h) (by omega) (by omega) ?_; intro r' cap' w1 hown1 hbw1; have HO1 := Lib.hid hown1; clear hown1)
          go_roundg 0
          case measure => omega
          case rel => exact ⟨⟨w1, e.h.trans hbw1⟩, r', cap', rfl, .inr (.inr ⟨by simp, by go_num, HO1⟩)⟩
        · go_wp2
          go_ret
          exact ⟨r, cap, rfl, HO.out.ints HW.out, e.h⟩
end Go.Proofs.Ytfooefiaenlhmaa
