/- Contracts of the reference of maps: floor, curve, column, value, At. Printed by a program. -/
import Derived.Test.YtohdbneaganfbaaRef06A
import Derived.Test.YtohdbneaganfbaaOwn
import Derived.Test.YtohdbneaganfbaaArithR
namespace Go.Proofs.Ytohdbneaganfbaa
set_option linter.unusedVariables false
set_option linter.unusedSimpArgs false
open Go.RowKit Go.ChangeShapes Go.WideShapes Go.ChangeAt

theorem r6floor_any {a c : Int} (h0 : -4611686018427387904 ≤ a) (h1 : a ≤ 4611686018427387904) (c0 : 1 ≤ c) (c1 : c ≤ 4611686018427387904) (w : World) :
    Calls Try.prog 143 #[.int .i64 a, .int .i64 c] w fun e w' => e = .returned (.int .i64 (a / c)) ∧ w = w' := by
  have hc : ¬ c = 0 := by omega
  by_cases ha : 0 ≤ a
  · have hm := Int.emod_nonneg a hc
    have hm2 : ¬ a % c < 0 := by omega
    have ht : a.tmod c = a % c := Int.tmod_eq_emod_of_nonneg ha
    have hd : a.tdiv c = a / c := Int.tdiv_eq_ediv_of_nonneg ha
    have hd1 : 0 ≤ a / c := Int.ediv_nonneg ha (by omega)
    have hd2 : a / c ≤ a := Int.ediv_le_self _ ha
    have hw1 : IntKind.i64.wrap (a / c) = a / c := IntWalk.i64_in _ (by omega)
    go_enter Try.func143, Try.ntmps143
    go_wp2
    all_goals go_ret
    all_goals exact ⟨by simp [*], rfl⟩
  · have hn : 0 ≤ -a := by omega
    have hf := neg_floor (a := a) c0
    have ht : a.tmod c = -((-a) % c) := by
      rw [show a = -(-a) by omega, Int.neg_tmod, Int.neg_neg, Int.tmod_eq_emod_of_nonneg hn]
    have hd : a.tdiv c = -((-a) / c) := by
      rw [show a = -(-a) by omega, Int.neg_tdiv, Int.neg_neg, Int.tdiv_eq_ediv_of_nonneg hn]
    have hm := Int.emod_nonneg (-a) hc
    have hd1 : 0 ≤ (-a) / c := Int.ediv_nonneg hn (by omega)
    have hd2 : (-a) / c ≤ -a := Int.ediv_le_self _ hn
    have hw1 : IntKind.i64.wrap (-((-a) / c)) = -((-a) / c) := IntWalk.i64_in _ (by omega)
    have hw2 : IntKind.i64.wrap (-((-a) / c) - 1) = -((-a) / c) - 1 := IntWalk.i64_in _ (by omega)
    by_cases hz : 0 < (-a) % c
    · have H := Lib.hid (hf.trans (if_pos hz))
      have hz2 : -((-a) % c) < 0 := by omega
      clear hf
      generalize (-a) % c = m at *
      generalize (-a) / c = q at *
      go_enter Try.func143, Try.ntmps143
      go_wp2
      all_goals go_ret
      all_goals exact ⟨by rw [H.out]; first | done | rfl, rfl⟩
    · have H := Lib.hid (hf.trans (if_neg hz))
      have hz2 : ¬ -((-a) % c) < 0 := by omega
      clear hf
      generalize (-a) % c = m at *
      generalize (-a) / c = q at *
      go_enter Try.func143, Try.ntmps143
      go_wp2
      all_goals go_ret
      all_goals exact ⟨by rw [H.out]; first | done | rfl, rfl⟩

set_option maxHeartbeats 1000000 in
theorem r6curve_any (rx ry : Option Addr) (cx cy : Nat) (xs ys : List Int) (x : Int) (w : World) (hx : IsInts w rx cx .i64 xs) (hy : IsInts w ry cy .i64 ys) (hok : CurveOk xs ys) :
    Calls Try.prog 132 #[.slice rx xs.length cx, .slice ry ys.length cy, .int .i64 x] w fun e w' => e = .returned (.int .i64 (cval xs ys x)) ∧ Below w.heap.size w w' := by
  obtain ⟨hl, hax, hfy⟩ := hok
  have h2 := hax.1
  have h32 := hax.2.1
  obtain ⟨bX, offX, rfl, hbX, hcX⟩ := hx.cells (fun e => by subst e; simp at h2)
  obtain ⟨bY, offY, rfl, hbY, hcY⟩ := hy.cells (fun e => by rw [e] at hl; simp only [List.length_nil] at hl; omega)
  have hX0 := hcX 0 (by omega)
  have hXn := hcX (xs.length - 1) (by omega)
  rw [Nat.add_zero] at hX0
  by_cases h0 : x ≤ xs.getD 0 0
  · have H := Lib.hid (show cval xs ys x = ys.getD 0 0 by simp only [cval, h0, if_true])
    have hY0 := hcY 0 (by omega)
    rw [Nat.add_zero] at hY0
    clear hx hy hcX hcY hXn hfy hax
    generalize xs.getD 0 0 = a at *
    generalize ys.getD 0 0 = b at *
    generalize hn : xs.length = n at *
    have hn2 : (0 : Int) < (n : Int) := by omega
    have hn3 : (0 : Int) < (ys.length : Int) := by omega
    clear hn
    go_enter Try.func132, Try.ntmps132
    go_wp2
    go_ret
    exact ⟨by rw [H.out]; first | done | rfl, by (repeat' (first | (with_reducible exact Below.refl _ _) | (with_reducible assumption) | (with_reducible refine below_alloc ?_ _) | (with_reducible refine Below.drew ?_) | (with_reducible refine below_drewN ?_ _) | (with_reducible refine below_step (by assumption) ?_) | (with_reducible refine below_later ?_ _) | (with_reducible refine Below.setCell ?_ ?_ _) | go_size))⟩
  · by_cases h1 : xs.getD (xs.length - 1) 0 ≤ x
    · have H := Lib.hid (show cval xs ys x = ys.getD (xs.length - 1) 0 by simp only [cval, h0, h1, if_true, if_false])
      have hYn := hcY (xs.length - 1) (by omega)
      clear hx hy hcX hcY hfy hax
      generalize xs.getD 0 0 = a at *
      generalize xs.getD (xs.length - 1) 0 = c at *
      generalize ys.getD (xs.length - 1) 0 = b at *
      generalize ys.length = m at *
      generalize xs.length = n at *
      obtain rfl : n = m := hl
      have hn2 : (0 : Int) < (n : Int) := by omega
      have i1 : (1 : Int) ≤ n := by omega
      have i4 : IntKind.i64.wrap ((n : Int) - 1) = (n : Int) - 1 := IntWalk.i64_in _ (by omega)
      have i5 : ((n : Int) - 1).toNat = n - 1 := by omega
      go_enter Try.func132, Try.ntmps132
      go_wp2
      go_ret
      exact ⟨by rw [H.out]; first | done | rfl, by (repeat' (first | (with_reducible exact Below.refl _ _) | (with_reducible assumption) | (with_reducible refine below_alloc ?_ _) | (with_reducible refine Below.drew ?_) | (with_reducible refine below_drewN ?_ _) | (with_reducible refine below_step (by assumption) ?_) | (with_reducible refine below_later ?_ _) | (with_reducible refine Below.setCell ?_ ?_ _) | go_size))⟩
    · have HSP := Lib.hid (seg_spec hax h0 h1)
      have HSQ : Hid (∀ i, i + 1 < xs.length → xs.getD i 0 ≤ x → x < xs.getD (i + 1) 0 → segI xs x = i) := Lib.hid (fun i hi ha hb => seg_eq hax hi ha hb h0 h1)
      have HV : Hid (cval xs ys x = ys.getD (segI xs x) 0 + (x - xs.getD (segI xs x) 0) * (ys.getD (segI xs x + 1) 0 - ys.getD (segI xs x) 0) / (xs.getD (segI xs x + 1) 0 - xs.getD (segI xs x) 0)) := Lib.hid (by simp only [cval, h0, h1, if_false])
      have HCX := Lib.hid hcX
      have HCY := Lib.hid hcY
      have HFX := Lib.hid (fun t => far_bd hax.2.2.1 (t := t))
      have HFY := Lib.hid (fun t => far_bd hfy (t := t))
      have HLAST : Hid (∀ i, i + 1 = xs.length → xs.getD i 0 ≤ x → False) := Lib.hid (fun i hi h => h1 (by rw [← hi]; exact h))
      have HFIRST : Hid (∀ i, i = 0 → xs.getD i 0 ≤ x) := Lib.hid (fun i hi => by subst hi; omega)
      clear hx hy hcX hcY hfy hax
      generalize xs.getD 0 0 = a0 at *
      generalize xs.getD (xs.length - 1) 0 = an at *
      generalize hm : ys.length = m at *
      have HM := Lib.hid hm
      clear hm
      generalize hn : xs.length = n at *
      obtain rfl : n = m := hl
      have HN := Lib.hid hn
      clear hn
      have hn2 : (0 : Int) < (n : Int) := by omega
      have j1 : (1 : Int) ≤ n := by omega
      have j4 : IntKind.i64.wrap ((n : Int) - 1) = (n : Int) - 1 := IntWalk.i64_in _ (by omega)
      have j5 : ((n : Int) - 1).toNat = n - 1 := by omega
      have h0' : ¬ x ≤ a0 := h0
      have h1' : ¬ an ≤ x := h1
      have h1'' : x < an := by omega
      go_enter Try.func132, Try.ntmps132
      go_wp2
      go_loopg [8] n (fun kx s8 wr => ∃ (k : Nat), s8 = .int .i64 k ∧ k + 1 < n ∧ n - k ≤ kx ∧ wr = w ∧ Hid (xs.getD k 0 ≤ x))
      case atStart => exact ⟨0, rfl, by omega, by omega, rfl, Lib.hid (HFIRST.out 0 rfl)⟩
      case round =>
        obtain ⟨k, rfl, hk, hkx, rfl, HK⟩ := hrel
        have c1 := HCX.out k (by omega)
        have c2 := HCX.out (k + 1) hk
        have i1 : (k : Int) < n := by omega
        have i2 : (k : Int) + 1 < n := by omega
        have i3 : (0 : Int) ≤ (k : Int) := by omega
        have i4 : (0 : Int) ≤ (k : Int) + 1 := by omega
        have i5 : ((k : Int) + 1).toNat = k + 1 := by omega
        have w1 : IntKind.i64.wrap ((k : Int) + 1) = (k : Int) + 1 := IntWalk.i64_in _ (by omega)
        by_cases hle : xs.getD (k + 1) 0 ≤ x
        · have HK2 := Lib.hid hle
          have hk3 : k + 1 + 1 < n := by
            rcases Nat.lt_or_ge (k + 1 + 1) n with h | h
            · exact h
            · exact absurd hle (fun hh => HLAST.out (k + 1) (by have := HN.out; omega) hh)
          generalize xs.getD (k + 1) 0 = b at c2 hle
          go_wp2
          go_roundg (n - (k + 1))
          case measure => omega
          case rel => exact ⟨k + 1, by go_num, hk3, by omega, rfl, HK2⟩
        · have hseg := HSQ.out k (by have := HN.out; omega) HK.out (by omega)
          have H := HV.out
          rw [hseg] at H
          have f1 := HFX.out k (by have := HN.out; omega)
          have f2 := HFX.out (k + 1) (by have := HN.out; omega)
          have f3 := HFY.out k (by have := HM.out; omega)
          have f4 := HFY.out (k + 1) (by have := HM.out; omega)
          have d1 := HCY.out k (by omega)
          have d2 := HCY.out (k + 1) hk
          have hka := HK.out
          have H := Lib.hid H
          clear hseg
          generalize xs.getD k 0 = a at *
          generalize xs.getD (k + 1) 0 = b at *
          generalize ys.getD k 0 = c at *
          generalize ys.getD (k + 1) 0 = d at *
          obtain ⟨p1, p2, p3, p4⟩ := cval_num (x := x) (a := a) (b := b) (c := c) (d := d) f1.1 f2.2 hka (by omega) f3.1 f3.2 f4.1 f4.2
          have w2 : IntKind.i64.wrap (x - a) = x - a := IntWalk.i64_in _ (by omega)
          have w3 : IntKind.i64.wrap (d - c) = d - c := IntWalk.i64_in _ (by omega)
          have w4 : IntKind.i64.wrap (b - a) = b - a := IntWalk.i64_in _ (by omega)
          have w5 : IntKind.i64.wrap ((x - a) * (d - c)) = (x - a) * (d - c) := IntWalk.i64_in _ (by omega)
          have w6 : IntKind.i64.wrap (c + (x - a) * (d - c) / (b - a)) = c + (x - a) * (d - c) / (b - a) := IntWalk.i64_in _ (by omega)
          have HF := Lib.hid (fun w => r6floor_any p1 p2 (show 1 ≤ b - a by omega) (by omega) w)
          clear p1 p2 p3 p4
          go_wp2
          (refine wp_region_later (by kernel_rfl) (by kernel_rfl) ?_; (repeat (go_big_quiet_step ((go_at_call 143; exact later_same (HF.out _))))); refine wpQuiet_nil ?_; rintro _ ⟨e1, rfl⟩; have e1s := e1.h.size; (try simp only [World.size_alloc, World.size_drewN, World.drewN_heap] at e1s); (try (have : w.heap.size < e1.w.heap.size := by omega)); (try (have : w.heap.size + 1 < e1.w.heap.size := by omega)); (try (have : w.heap.size + 1 + 1 < e1.w.heap.size := by omega)); (try (have : w.heap.size + 1 + 1 + 1 < e1.w.heap.size := by omega)); (try (have : bX < e1.w.heap.size := by omega)); (try (have : bY < e1.w.heap.size := by omega)); (try (have : bZ < e1.w.heap.size := by omega)))
          go_wp2
          go_ret
          exact ⟨by rw [H.out]; first | done | rfl, by (repeat' (first | (with_reducible exact Below.refl _ _) | (with_reducible assumption) | (with_reducible refine below_alloc ?_ _) | (with_reducible refine Below.drew ?_) | (with_reducible refine below_drewN ?_ _) | (with_reducible refine below_step (by assumption) ?_) | (with_reducible refine below_later ?_ _) | (with_reducible refine Below.setCell ?_ ?_ _) | go_size))⟩
end Go.Proofs.Ytohdbneaganfbaa
