/- Contracts of torque's Pattern, of the reference's Fired, of slices.Equal over bools. Printed by a program. -/
import Derived.Test.YtpmjnpbigppllaaTorqF
import Derived.OwnWalk
namespace Go.Proofs.Ytpmjnpbigppllaa
set_option linter.unusedVariables false
set_option linter.unusedSimpArgs false
open Go.RowKit Go.ChangeShapes Go.WideShapes Go.ChangeAt

structure IsBools (W : World) (r : Option Addr) (cap : Nat) (xs : List Bool) : Prop where
  le : xs.length ≤ cap
  max : cap ≤ maxLen
  cells : xs ≠ [] → ∃ b off, r = some ⟨b, off, none⟩ ∧ b < W.heap.size ∧ ∀ i, i < xs.length → W.cell? ⟨b, off + i, none⟩ = some (.bool (xs.getD i false))
theorem IsBools.later {W W' : World} {r : Option Addr} {cap : Nat} {xs : List Bool} (h : IsBools W r cap xs) (hb : Below W.heap.size W W') : IsBools W' r cap xs :=
  ⟨h.le, h.max, fun hne => by
    obtain ⟨b, off, h1, h2, h3⟩ := h.cells hne
    exact ⟨b, off, h1, Nat.lt_of_lt_of_le h2 hb.size, fun i hi => by rw [hb.cell (p := ⟨b, off + i, none⟩) h2]; exact h3 i hi⟩⟩
theorem row_store {W : World} {g k : Nat} {arr : Array Value} {t : TypeId} (h : W.heap[g]? = some (.cells arr t)) (v : Value) : (W.setCell ⟨g, k, none⟩ v).heap[g]? = some (.cells (arr.setIfInBounds k v) t) := by
  simp [World.setCell, Array.getElem?_modify, h]

def patJ (n c : Int) (i : Int) : Int := (i + c) % n
/-- Whether a cylinder is fired. -/
@[irreducible] def patB (n f c : Int) (i : Int) : Bool := decide (patJ n c i * f / n < (patJ n c i + 1) * f / n)
def patL (n f c : Int) : List Bool := (List.range n.toNat).map fun i : Nat => patB n f c (i : Int)
theorem patL_len (n f c : Int) : (patL n f c).length = n.toNat := by simp [patL]
theorem patL_get {n f c : Int} {i : Nat} (h : i < n.toNat) : (patL n f c).getD i false = patB n f c i := by simp [patL, List.getD, List.getElem?_map, h]
theorem infoBool : (Try.prog.info? 4).map (fun i => (i.zero, i.size, i.bytes)) = some (some (.bool false), 1, 1) := by kernel_rfl

theorem pat_num {n f j : Int} (j0 : 0 ≤ j) (j1 : j < n) (n1 : n ≤ 8) (f0 : 0 ≤ f) (f1 : f ≤ n) : 0 ≤ j * f ∧ j * f ≤ 64 ∧ 0 ≤ (j + 1) * f ∧ (j + 1) * f ≤ 72 := by
  refine ⟨Int.mul_nonneg j0 f0, ?_, Int.mul_nonneg (by omega) f0, ?_⟩
  · exact Int.le_trans (Int.mul_le_mul (show j ≤ 8 by omega) (show f ≤ 8 by omega) f0 (by omega)) (by omega)
  · exact Int.le_trans (Int.mul_le_mul (show j + 1 ≤ 9 by omega) (show f ≤ 8 by omega) f0 (by omega)) (by omega)

set_option maxRecDepth 100000 in
theorem rfired_any (n f c i : Int) (w : World) (n0 : 1 ≤ n) (n1 : n ≤ 8) (f0 : 0 ≤ f) (f1 : f ≤ n) (c0 : 0 ≤ c) (c1 : c ≤ 1099511627776) (i0 : 0 ≤ i) (i1 : i ≤ 8) :
    Calls Try.prog 22 #[.int .i64 n, .int .i64 f, .int .i64 c, .int .i64 i] w fun e w' => e = .returned (.bool (patB n f c i)) ∧ Below w.heap.size w w' := by
  have H : Hid (patB n f c i = decide ((i + c) % n * f / n < ((i + c) % n + 1) * f / n)) := Lib.hid (by unfold patB patJ; rfl)
  have j0 : 0 ≤ (i + c) % n := Int.emod_nonneg _ (by omega)
  have j1 : (i + c) % n < n := Int.emod_lt_of_pos _ (by omega)
  have hm : (i + c).tmod n = (i + c) % n := Int.tmod_eq_emod_of_nonneg (by omega)
  obtain ⟨p1, p2, p3, p4⟩ := pat_num j0 j1 n1 f0 f1
  generalize (i + c) % n = j at *
  have z : ¬ n = 0 := by omega
  have w1 : IntKind.i64.wrap (j * f) = j * f := IntWalk.i64_in _ (by omega)
  have w2 : IntKind.i64.wrap ((j + 1) * f) = (j + 1) * f := IntWalk.i64_in _ (by omega)
  have w3 : IntKind.i64.wrap (j + 1) = j + 1 := IntWalk.i64_in _ (by omega)
  have w4 : IntKind.i64.wrap j = j := IntWalk.i64_in _ (by omega)
  have d1 : (j * f).tdiv n = j * f / n := Int.tdiv_eq_ediv_of_nonneg p1
  have d2 : ((j + 1) * f).tdiv n = (j + 1) * f / n := Int.tdiv_eq_ediv_of_nonneg p3
  have d3 : 0 ≤ j * f / n := Int.ediv_nonneg p1 (by omega)
  have d4 : j * f / n ≤ j * f := Int.ediv_le_self _ p1
  have d5 : 0 ≤ (j + 1) * f / n := Int.ediv_nonneg p3 (by omega)
  have d6 : (j + 1) * f / n ≤ (j + 1) * f := Int.ediv_le_self _ p3
  have w5 : IntKind.i64.wrap (j * f / n) = j * f / n := IntWalk.i64_in _ (by omega)
  have w6 : IntKind.i64.wrap ((j + 1) * f / n) = (j + 1) * f / n := IntWalk.i64_in _ (by omega)
  go_enter Try.func22, Try.ntmps22
  go_wp2
  go_quiet (fail)
  go_wp2
  go_ret
  exact ⟨by rw [H.out]; first | done | rfl, by (repeat' (first | (with_reducible exact Below.refl _ _) | (with_reducible assumption) | (with_reducible refine below_alloc ?_ _) | (with_reducible refine Below.drew ?_) | (with_reducible refine below_drewN ?_ _) | (with_reducible refine below_step (by assumption) ?_) | (with_reducible refine below_later ?_ _) | (with_reducible refine Below.setCell ?_ ?_ _) | go_size))⟩

set_option maxRecDepth 100000 in
set_option maxHeartbeats 1000000 in
theorem pattern_any (n f c : Int) (w : World) (n0 : 1 ≤ n) (n1 : n ≤ 8) (f0 : 0 ≤ f) (f1 : f ≤ n) (c0 : 0 ≤ c) (c1 : c ≤ 1099511627776) :
    Calls Try.prog 21 #[.int .i64 n, .int .i64 f, .int .i64 c] w fun e w' => ∃ r, e = .returned (.tuple #[.slice r (patL n f c).length (patL n f c).length, .int .i64 0]) ∧ IsBools w' r (patL n f c).length (patL n f c) ∧ Below w.heap.size w w' := by
  obtain ⟨m, rfl⟩ : ∃ m : Nat, n = m := ⟨n.toNat, by omega⟩
  have hlen : (patL (m : Int) f c).length = m := by rw [patL_len]; omega
  have HG : Hid (∀ i : Nat, i < m → (patL (m : Int) f c).getD i false = patB m f c i) := Lib.hid (fun i hi => patL_get (by omega))
  rw [hlen]
  obtain ⟨i0, hi, hz0, hz1, hz2⟩ := info_parts infoBool
  have a1 : inB (m : Int) 1 8 = true := inB_true.2 ⟨n0, n1⟩
  have a2 : inB f 0 (m : Int) = true := inB_true.2 ⟨f0, f1⟩
  have a3 : inB c 0 1099511627776 = true := inB_true.2 ⟨c0, c1⟩
  have HP : Hid (∀ i : Int, patB m f c i = decide ((i + c) % m * f / m < ((i + c) % m + 1) * f / m)) := Lib.hid (fun i => by unfold patB patJ; rfl)
  have HLEN := Lib.hid hlen
  clear hlen
  generalize hpl : patL (m : Int) f c = PL at *
  clear hpl
  go_enter Try.func21, Try.ntmps21
  go_wp2_with (first | (go_at_call 35; refine (twithin_any _ _ _ _).mono ?_; rintro e w' ⟨rfl, rfl⟩) | (at_make; refine wpList_make_full _ (by rfl) _ _ _ (by rfl) w.heap.size 4 i0 (.bool false) 1 Try.underlying43 hi hz0 hz1 .i64 .i64 _ _ m (by rfl) (by rfl) (by rfl) (by rfl) (by rw [hz2]; omega) (by unfold maxLen; omega) (Nat.le_refl _) ?_; intro w1 hown hgrow))
  obtain ⟨hol, ho⟩ := hown
  rcases ho with ⟨hbad, _⟩ | ⟨g, cap, cur, he, hge, hrow, _, _, hsz, _⟩
  · cases hbad
  simp only [Value.slice.injEq, Option.some.injEq, Addr.mk.injEq, and_true, true_and] at he
  obtain ⟨rfl, rfl⟩ := he
  rw [Nat.mul_one] at hsz
  have hb1 : Below w.heap.size w w1 := (Below.refl _ w).grown hgrow (Nat.le_refl _) (by simp)
  have hb1s := hb1.size
  have hlt1 : w.heap.size < w1.heap.size := by
    rcases Nat.lt_or_ge w.heap.size w1.heap.size with hh | hh
    · exact hh
    · rw [Array.getElem?_eq_none hh] at hrow; cases hrow
  go_loopg [29] m (fun kx s29 wr => ∃ (k : Nat) (e : Later w) (arr : Array Value), s29 = .int .i64 k ∧ k ≤ m ∧ m - k ≤ kx ∧ wr = e.w ∧ w.heap.size < e.w.heap.size ∧ Hid (e.w.heap[w.heap.size]? = some (.cells arr 4)) ∧ arr.size = m ∧ Hid (∀ t : Nat, t < k → arr[t]? = some (.bool (patB m f c t))))
  case atStart => exact ⟨0, ⟨w1, hb1⟩, cur, rfl, by omega, by omega, rfl, hlt1, Lib.hid hrow, hsz, Lib.hid (fun t ht => absurd ht (Nat.not_lt_zero _))⟩
  case round =>
    obtain ⟨k, e, arr, rfl, hk, hkx, rfl, hls, HR, hasz, HA⟩ := hrel
    by_cases hlt : k < m
    · have hc1 : e.w.cell? ⟨w.heap.size, k, none⟩ = some (arr[k]'(by omega)) := by
        rw [cell_of_row e.w w.heap.size k arr _ _ HR.out]
        exact Array.getElem?_eq_getElem (by omega)
      have hf1 : e.w.frozen? ⟨w.heap.size, k, none⟩ = false := by simp [World.frozen?, HR.out]
      have hk1 : (0 : Int) ≤ (k : Int) := by omega
      have hk2 : (k : Int) < m := by omega
      have HPK := Lib.hid (HP.out (k : Int))
      have j0 : 0 ≤ ((k : Int) + c) % m := Int.emod_nonneg _ (by omega)
      have j1 : ((k : Int) + c) % m < m := Int.emod_lt_of_pos _ (by omega)
      have hm : ((k : Int) + c).tmod m = ((k : Int) + c) % m := Int.tmod_eq_emod_of_nonneg (by omega)
      obtain ⟨p1, p2, p3, p4⟩ := pat_num j0 j1 n1 f0 f1
      generalize arr[k]'(by omega) = old at hc1
      generalize hj : ((k : Int) + c) % m = j at *
      have z : ¬ (m : Int) = 0 := by omega
      have z2 : ¬ m = 0 := by omega
      have v1 : IntKind.i64.wrap (j * f) = j * f := IntWalk.i64_in _ (by omega)
      have v2 : IntKind.i64.wrap ((j + 1) * f) = (j + 1) * f := IntWalk.i64_in _ (by omega)
      have v3 : IntKind.i64.wrap (j + 1) = j + 1 := IntWalk.i64_in _ (by omega)
      have v4 : IntKind.i64.wrap j = j := IntWalk.i64_in _ (by omega)
      have d1 : (j * f).tdiv m = j * f / m := Int.tdiv_eq_ediv_of_nonneg p1
      have d2 : ((j + 1) * f).tdiv m = (j + 1) * f / m := Int.tdiv_eq_ediv_of_nonneg p3
      have d3 : 0 ≤ j * f / m := Int.ediv_nonneg p1 (by omega)
      have d4 : j * f / m ≤ j * f := Int.ediv_le_self _ p1
      have d5 : 0 ≤ (j + 1) * f / m := Int.ediv_nonneg p3 (by omega)
      have d6 : (j + 1) * f / m ≤ (j + 1) * f := Int.ediv_le_self _ p3
      have v5 : IntKind.i64.wrap (j * f / m) = j * f / m := IntWalk.i64_in _ (by omega)
      have v6 : IntKind.i64.wrap ((j + 1) * f / m) = (j + 1) * f / m := IntWalk.i64_in _ (by omega)
      clear hj
      go_wp2
      refine wp_still_tail 15 (by kernel_rfl) (by kernel_rfl) ?_
      intro W hW hWs
      have y1 : W.cell? ⟨w.heap.size, k, none⟩ = some old := by rw [hW.cell (p := ⟨w.heap.size, k, none⟩) hls]; exact hc1
      have y2 : W.frozen? ⟨w.heap.size, k, none⟩ = false := by rw [hW.frozen (p := ⟨w.heap.size, k, none⟩) hls]; exact hf1
      have HRW : Hid (W.heap[w.heap.size]? = some (.cells arr 4)) := Lib.hid ((hW.block w.heap.size hls).trans HR.out)
      simp only [List.take_succ_cons, List.take_zero, List.drop_succ_cons, List.drop_zero]
      repeat (refine wpStill_step (fun K hK => ?_); go_simp; refine hK _ ?_; clear hK K)
      refine wpStill_nil ?_
      go_wp2
      go_roundg (m - (k + 1))
      case measure => omega
      case rel =>
        refine ⟨k + 1, ⟨W.setCell ⟨w.heap.size, k, none⟩ (.bool (decide (j * f / m < (j + 1) * f / m))), by (repeat' (first | (with_reducible exact Below.refl _ _) | (with_reducible assumption) | (with_reducible refine below_alloc ?_ _) | (with_reducible refine Below.drew ?_) | (with_reducible refine below_drewN ?_ _) | (with_reducible refine below_step (by assumption) ?_) | (with_reducible refine below_later ?_ _) | (with_reducible refine Below.setCell ?_ ?_ _) | go_size))⟩, arr.setIfInBounds k (.bool (decide (j * f / m < (j + 1) * f / m))), by go_num, by omega, by omega, rfl, by rw [size_setCell]; omega, Lib.hid (row_store HRW.out _), by simpa using hasz, Lib.hid (fun t ht => ?_)⟩
        by_cases hte : t = k
        · subst hte
          rw [HPK.out, Array.getElem?_setIfInBounds]
          simp [hasz]
          omega
        · rw [Array.getElem?_setIfInBounds, if_neg (by omega)]
          exact HA.out t (by omega)
    · obtain rfl : k = m := by omega
      go_wp2
      go_ret2
      refine ⟨_, rfl, ⟨by rw [HLEN.out]; exact Nat.le_refl _, by unfold maxLen; omega, fun _ => ⟨w.heap.size, 0, rfl, hls, fun i hi => ?_⟩⟩, e.h⟩
      have hi2 : i < k := by have := HLEN.out; omega
      rw [Nat.zero_add, cell_of_row e.w w.heap.size i arr _ _ HR.out, HA.out i hi2, HG.out i hi2]
end Go.Proofs.Ytpmjnpbigppllaa
