/- The law TorqueFair returns true for all numbers. No conditions. -/
import Derived.Test.YtpmjnpbigppllaaTorqAwake
import Derived.Test.YtpmjnpbigppllaaFairP
import Derived.Test.YtpmjnpbigppllaaOpenTables
import Derived.Test.YtpmjnpbigppllaaFrame
namespace Go.Proofs.Ytpmjnpbigppllaa
set_option linter.unusedVariables false
set_option linter.unusedSimpArgs false
open Go.RowKit Go.ChangeShapes Go.WideShapes Go.ChangeAt

theorem fpattern_bad (n f c : Int) (w : World) (n0 : 1 ≤ n) (n1 : n ≤ 8) (h : ¬ (0 ≤ f ∧ f ≤ n)) :
    Calls Try.prog 21 #[.int .i64 n, .int .i64 f, .int .i64 c] w fun e w' => e = .returned (.tuple #[.slice none 0 0, .int .i64 2]) ∧ w = w' := by
  have h1 : inB n 1 8 = true := inB_true.2 ⟨n0, n1⟩
  have h2 : inB f 0 n = false := inB_false.2 h
  clear h
  go_enter Try.func21, Try.ntmps21
  go_wp2_with ((go_at_call 35; refine (twithin_any _ _ _ _).mono ?_; rintro e w' ⟨rfl, rfl⟩))
  go_ret2
  exact ⟨rfl, rfl⟩
theorem fpattern_good (m : Nat) (f c : Int) (w : World) (n0 : (1 : Int) ≤ m) (n1 : (m : Int) ≤ 8) (f0 : 0 ≤ f) (f1 : f ≤ m) (c0 : 0 ≤ c) (c1 : c ≤ 1099511627776) :
    Calls Try.prog 21 #[.int .i64 m, .int .i64 f, .int .i64 c] w fun e w' => ∃ bP oP, e = .returned (.tuple #[.slice (some ⟨bP, oP, none⟩) m m, .int .i64 0]) ∧ bP < w'.heap.size ∧ Hid (∀ i : Nat, i < m → w'.cell? ⟨bP, oP + i, none⟩ = some (.bool (patB m f c i))) ∧ Below w.heap.size w w' := by
  have hlen : (patL (m : Int) f c).length = m := by rw [patL_len]; omega
  refine (pattern_any m f c w n0 n1 f0 f1 c0 c1).mono ?_
  rintro e w' ⟨r, he, hB, hb⟩
  obtain ⟨bP, oP, rfl, hlt, hc⟩ := hB.cells (fun e => by rw [e] at hlen; simp at hlen; omega)
  rw [hlen] at he hc
  refine ⟨bP, oP, he, hlt, Lib.hid (fun i hi => ?_), hb⟩
  rw [hc i hi, patL_get (by omega)]

set_option maxRecDepth 100000 in
theorem tfair_bad (n f c : Int) (w : World) (n0 : 1 ≤ n) (n1 : n ≤ 8) (c0 : 0 ≤ c) (c1 : c ≤ 1073741824) (hf : ¬ (0 ≤ f ∧ f ≤ n)) : Calls Try.prog 8 #[.int .i64 n, .int .i64 f, .int .i64 c] w fun e w' => e = .returned (.bool true) ∧ Below w.heap.size w w' := by
  have HP := Lib.hid (fun x w => fpattern_bad n f x w n0 n1 hf)
  by_cases a1 : f < 0
  · clear hf
    go_enter Try.func8, Try.ntmps8
    go_wp2_with ((go_at_call 12; refine (awake_any _).mono ?_; rintro e hb1w ⟨rfl, hb1⟩; obtain ⟨hb1c, hb1f⟩ := bcell hb1; have hb1s := hb1.size; (try simp only [World.size_alloc] at hb1s); (try (have : w.heap.size < hb1w.heap.size := by omega)); (try (have : w.heap.size + 1 < hb1w.heap.size := by omega)); (try (have : w.heap.size + 1 + 1 < hb1w.heap.size := by omega)); (try (have : w.heap.size + 1 + 1 + 1 < hb1w.heap.size := by omega)); (try (have : bX < hb1w.heap.size := by omega)); (try (have : bY < hb1w.heap.size := by omega)); (try (have : bZ < hb1w.heap.size := by omega))))
    go_loopg [32] 1 (fun kx s32 wr => ∃ (e : Later hb1w), s32 = .int .i64 0 ∧ wr = e.w)
    case atStart => exact ⟨⟨_, below_alloc (Below.refl _ _) _⟩, rfl, rfl⟩
    case round =>
      obtain ⟨e, rfl, rfl⟩ := hrel
      go_wp2_with ((go_at_call 21; refine (HP.out _ _).mono ?_; rintro e w' ⟨rfl, rfl⟩))
      go_ret
      exact ⟨rfl, by (repeat' (first | (with_reducible exact Below.refl _ _) | (with_reducible assumption) | (with_reducible refine below_alloc ?_ _) | (with_reducible refine Below.drew ?_) | (with_reducible refine below_drewN ?_ _) | (with_reducible refine below_step (by assumption) ?_) | (with_reducible refine below_later ?_ _) | (with_reducible refine Below.setCell ?_ ?_ _) | go_size))⟩
  · have a2 : n < f := by omega
    clear hf
    go_enter Try.func8, Try.ntmps8
    go_wp2_with ((go_at_call 12; refine (awake_any _).mono ?_; rintro e hb1w ⟨rfl, hb1⟩; obtain ⟨hb1c, hb1f⟩ := bcell hb1; have hb1s := hb1.size; (try simp only [World.size_alloc] at hb1s); (try (have : w.heap.size < hb1w.heap.size := by omega)); (try (have : w.heap.size + 1 < hb1w.heap.size := by omega)); (try (have : w.heap.size + 1 + 1 < hb1w.heap.size := by omega)); (try (have : w.heap.size + 1 + 1 + 1 < hb1w.heap.size := by omega)); (try (have : bX < hb1w.heap.size := by omega)); (try (have : bY < hb1w.heap.size := by omega)); (try (have : bZ < hb1w.heap.size := by omega))))
    go_loopg [32] 1 (fun kx s32 wr => ∃ (e : Later hb1w), s32 = .int .i64 0 ∧ wr = e.w)
    case atStart => exact ⟨⟨_, below_alloc (Below.refl _ _) _⟩, rfl, rfl⟩
    case round =>
      obtain ⟨e, rfl, rfl⟩ := hrel
      go_wp2_with ((go_at_call 21; refine (HP.out _ _).mono ?_; rintro e w' ⟨rfl, rfl⟩))
      go_ret
      exact ⟨rfl, by (repeat' (first | (with_reducible exact Below.refl _ _) | (with_reducible assumption) | (with_reducible refine below_alloc ?_ _) | (with_reducible refine Below.drew ?_) | (with_reducible refine below_drewN ?_ _) | (with_reducible refine below_step (by assumption) ?_) | (with_reducible refine below_later ?_ _) | (with_reducible refine Below.setCell ?_ ?_ _) | go_size))⟩

set_option maxRecDepth 100000 in
set_option maxHeartbeats 2000000 in
theorem tfair_good (m g d : Nat) (w : World) (n0 : 1 ≤ m) (n1 : m ≤ 8) (c1 : d ≤ 1073741824) (hf : g ≤ m) : Calls Try.prog 8 #[.int .i64 m, .int .i64 g, .int .i64 d] w fun e w' => e = .returned (.bool true) ∧ Below w.heap.size w w' := by
  have HROW : Hid (∀ k : Nat, cntF (fun t => patB (m : Int) (g : Int) ((d : Int) + (k : Int)) (t : Int)) m = g) := Lib.hid (fun k => fair_row (c := d + k) n0 n1 hf)
  have HEND : Hid (∀ t : Nat, t < m → colC m g d m 0 t = g) := Lib.hid (fun t ht => colC_end n0 n1 hf ht)
  have m0 : (1 : Int) ≤ m := by omega
  have m1 : (m : Int) ≤ 8 := by omega
  have m2 : (0 : Int) < m := by omega
  have g0 : (0 : Int) ≤ g := by omega
  have g1 : (g : Int) ≤ m := by omega
  have d0 : (0 : Int) ≤ d := by omega
  have d1 : (d : Int) ≤ 1073741824 := by omega
  go_enter Try.func8, Try.ntmps8
  go_wp2_with ((go_at_call 12; refine (awake_any _).mono ?_; rintro e hb1w ⟨rfl, hb1⟩; obtain ⟨hb1c, hb1f⟩ := bcell hb1; have hb1s := hb1.size; (try simp only [World.size_alloc] at hb1s); (try (have : w.heap.size < hb1w.heap.size := by omega)); (try (have : w.heap.size + 1 < hb1w.heap.size := by omega)); (try (have : w.heap.size + 1 + 1 < hb1w.heap.size := by omega)); (try (have : w.heap.size + 1 + 1 + 1 < hb1w.heap.size := by omega)); (try (have : bX < hb1w.heap.size := by omega)); (try (have : bY < hb1w.heap.size := by omega)); (try (have : bZ < hb1w.heap.size := by omega))))
  go_loopg [32] m (fun kx s32 wr => ∃ (k : Nat) (e : Later hb1w) (arr : Array Value), s32 = .int .i64 k ∧ k ≤ m ∧ m - k ≤ kx ∧ wr = e.w ∧ hb1w.heap.size < e.w.heap.size ∧ Hid (e.w.heap[hb1w.heap.size]? = some (.cells arr 55)) ∧ Hid (arr.size = 8) ∧ Hid (∀ t : Nat, t < 8 → arr[t]? = some (.int .i64 ((colC m g d k 0 t : Nat) : Int))))
  case atStart =>
    refine ⟨0, ⟨_, below_alloc (Below.refl _ _) _⟩, _, rfl, by omega, by omega, rfl, by simp, Lib.hid (heap_alloc_new _ _), Lib.hid rfl, Lib.hid (fun t ht => ?_)⟩
    rw [colC_start]
    have h : t = 0 ∨ t = 1 ∨ t = 2 ∨ t = 3 ∨ t = 4 ∨ t = 5 ∨ t = 6 ∨ t = 7 := by omega
    rcases h with rfl | rfl | rfl | rfl | rfl | rfl | rfl | rfl <;> rfl
  case round =>
    obtain ⟨k, e, arr, rfl, hk, hkx, rfl, hls, HR, HSZ, HA⟩ := hrel
    have hes := e.h.size
    by_cases hlt : k < m
    · have hk1 : (0 : Int) ≤ (k : Int) := by omega
      have hk2 : (k : Int) < m := by omega
      have HPK := Lib.hid (fun w => fpattern_good m g ((d : Int) + (k : Int)) w m0 m1 g0 g1 (by omega) (by omega))
      have HROWK := Lib.hid (HROW.out k)
      go_wp2_with (go_at_call 21; refine (HPK.out _).mono ?_; rintro _ hb2w ⟨bP, oP, rfl, hbP, HPC, hb2⟩; have hb2s := hb2.size)
      go_loopg [11, 59] m (fun ky s11 s59 wq => ∃ (i : Nat) (q : Later hb1w) (arr : Array Value) (z : Int), s11 = .int .i64 z ∧ s59 = .int .i64 i ∧ i ≤ m ∧ m - i ≤ ky ∧ wq = q.w ∧ hb1w.heap.size < q.w.heap.size ∧ bP < q.w.heap.size ∧ Hid (q.w.heap[hb1w.heap.size]? = some (.cells arr 55)) ∧ Hid (arr.size = 8) ∧ Hid (∀ t : Nat, t < 8 → arr[t]? = some (.int .i64 ((colC m g d k i t : Nat) : Int))) ∧ Hid (∀ i : Nat, i < m → q.w.cell? ⟨bP, oP + i, none⟩ = some (.bool (patB m g ((d : Int) + (k : Int)) i))) ∧ Hid (z = ((cntF (fun t => patB (m : Int) (g : Int) ((d : Int) + (k : Int)) (t : Int)) i : Nat) : Int)) ∧ 0 ≤ z ∧ z ≤ i)
      case atStart =>
        exact ⟨0, ⟨hb2w, e.h.trans (hb2.mono e.h.size)⟩, arr, 0, rfl, rfl, by omega, by omega, rfl, by show hb1w.heap.size < hb2w.heap.size; omega, hbP, Lib.hid ((hb2.block _ hls).trans HR.out), HSZ, HA, HPC, Lib.hid rfl, by omega, by omega⟩
      case round =>
        obtain ⟨i, q, arr, z, rfl, rfl, hi, hky, rfl, hqs, hbq, HR, HSZ, HA, HPC, HZ, z0, z1⟩ := hrel
        by_cases hil : i < m
        · have hi1 : (0 : Int) ≤ (i : Int) := by omega
          have hi2 : (i : Int) < m := by omega
          have hi3 : (i : Int) < 8 := by omega
          have hi4 : i < 8 := by omega
          have hne : ¬ bP = hb1w.heap.size := fun h => by
            have := HPC.out 0 (by omega)
            rw [Nat.add_zero, h, cell_of_row q.w hb1w.heap.size oP arr _ _ HR.out] at this
            rcases Nat.lt_or_ge oP 8 with h8 | h8
            · rw [HA.out oP h8] at this
              cases this
            · rw [Array.getElem?_eq_none (by rw [HSZ.out]; exact h8)] at this
              cases this
          have y0 := HPC.out i hil
          obtain ⟨v, hv⟩ : ∃ v : Int, ((colC m g d k i i : Nat) : Int) = v := ⟨_, rfl⟩
          have v0 : 0 ≤ v := by omega
          have v1 : v ≤ 9 := by have := colC_le (n := m) (f := g) (c := d) (k := k) (i := i) (t := i); omega
          have y1 : q.w.cell? ⟨hb1w.heap.size, i, none⟩ = some (.int .i64 v) := by
            rw [cell_of_row q.w hb1w.heap.size i arr _ _ HR.out, HA.out i hi4, hv]
          have y2 : q.w.frozen? ⟨hb1w.heap.size, i, none⟩ = false := by simp [World.frozen?, HR.out]
          have HV := Lib.hid hv
          clear hv
          have HHIT : Hid (patB (m : Int) (g : Int) ((d : Int) + (k : Int)) (i : Int) = true → cntF (fun t => patB (m : Int) (g : Int) ((d : Int) + (k : Int)) (t : Int)) (i + 1) = cntF (fun t => patB (m : Int) (g : Int) ((d : Int) + (k : Int)) (t : Int)) i + 1 ∧ colC m g d k (i + 1) i = colC m g d k i i + 1) := Lib.hid (fun h => ⟨by rw [cntF, h]; rfl, colC_hit hil h⟩)
          have HMISS : Hid (patB (m : Int) (g : Int) ((d : Int) + (k : Int)) (i : Int) = false → cntF (fun t => patB (m : Int) (g : Int) ((d : Int) + (k : Int)) (t : Int)) (i + 1) = cntF (fun t => patB (m : Int) (g : Int) ((d : Int) + (k : Int)) (t : Int)) i ∧ colC m g d k (i + 1) i = colC m g d k i i) := Lib.hid (fun h => ⟨by rw [cntF, h]; rfl, colC_miss h⟩)
          generalize patB (m : Int) (g : Int) ((d : Int) + (k : Int)) (i : Int) = b at *
          cases b
          · obtain ⟨q1, q2⟩ := HMISS.out rfl
            have Q1 := Lib.hid q1
            have Q2 := Lib.hid q2
            clear q1 q2 HMISS HHIT
            go_wp2
            go_roundg (m - (i + 1))
            case measure => omega
            case rel =>
              refine ⟨i + 1, q, arr, z, rfl, by go_num, by omega, by omega, rfl, hqs, hbq, HR, HSZ, Lib.hid (fun t ht => ?_), HPC, Lib.hid (by rw [Q1.out]; exact HZ.out), z0, by omega⟩
              rw [HA.out t ht]
              by_cases hte : t = i
              · subst hte; rw [Q2.out]
              · rw [colC_other hte]
          · obtain ⟨q1, q2⟩ := HHIT.out rfl
            have Q1 := Lib.hid q1
            have Q2 := Lib.hid q2
            clear q1 q2 HMISS HHIT
            go_wp2
            go_roundg (m - (i + 1))
            case measure => omega
            case rel =>
              refine ⟨i + 1, ⟨q.w.setCell ⟨hb1w.heap.size, i, none⟩ (.int .i64 (v + 1)), by (repeat' (first | (with_reducible exact Below.refl _ _) | (with_reducible assumption) | (with_reducible refine below_alloc ?_ _) | (with_reducible refine Below.drew ?_) | (with_reducible refine below_drewN ?_ _) | (with_reducible refine below_step (by assumption) ?_) | (with_reducible refine below_later ?_ _) | (with_reducible refine Below.setCell ?_ ?_ _) | go_size))⟩, arr.setIfInBounds i (.int .i64 (v + 1)), z + 1, rfl, by go_num, by omega, by omega, rfl, by rw [size_setCell]; exact hqs, by rw [size_setCell]; exact hbq, Lib.hid (row_store HR.out _), Lib.hid (by rw [Array.size_setIfInBounds]; exact HSZ.out), Lib.hid (fun t ht => ?_), Lib.hid (fun j hj => ?_), Lib.hid (by rw [Q1.out, HZ.out]; rfl), by omega, by omega⟩
              · by_cases hte : t = i
                · subst hte
                  rw [Array.getElem?_setIfInBounds, if_pos rfl, if_pos (by rw [HSZ.out]; exact ht), Q2.out, ← HV.out]
                  rfl
                · rw [Array.getElem?_setIfInBounds, if_neg (fun h => hte h.symm), HA.out t ht, colC_other hte]
              · show (q.w.setCell ⟨hb1w.heap.size, i, none⟩ (.int .i64 (v + 1))).cell? ⟨bP, oP + j, none⟩ = _
                rw [World.cell?_setCell_other _ _ _ _ (by intro h; injection h with h1; exact hne h1.symm)]
                exact HPC.out j hj
        · obtain rfl : i = m := by omega
          obtain rfl : z = (g : Int) := by rw [HZ.out, HROWK.out]
          go_wp2
          go_roundg (i - (k + 1))
          case measure => omega
          case rel =>
            exact ⟨k + 1, q, arr, by go_num, by omega, by omega, rfl, hqs, HR, HSZ, Lib.hid (fun t ht => by rw [HA.out t ht, colC_next])⟩
    · obtain rfl : k = m := by omega
      have HC : Hid (∀ t : Nat, t < k → e.w.cell? ⟨hb1w.heap.size, t, none⟩ = some (.int .i64 (g : Int))) := Lib.hid (fun t ht => by
        rw [cell_of_row e.w hb1w.heap.size t arr _ _ HR.out, HA.out t (by omega), HEND.out t ht])
      go_wp2
      go_loopg [78] k (fun ky s78 wq => ∃ (i : Nat), s78 = .int .i64 i ∧ i ≤ k ∧ k - i ≤ ky ∧ wq = e.w)
      case atStart => exact ⟨0, rfl, by omega, by omega, rfl⟩
      case round =>
        obtain ⟨i, rfl, hi, hky, rfl⟩ := hrel
        by_cases hil : i < k
        · have hi1 : (0 : Int) ≤ (i : Int) := by omega
          have hi2 : (i : Int) < k := by omega
          have hi3 : (i : Int) < 8 := by omega
          have y1 := HC.out i hil
          go_wp2
          go_roundg (k - (i + 1))
          case measure => omega
          case rel => exact ⟨i + 1, by go_num, by omega, by omega, rfl⟩
        · obtain rfl : i = k := by omega
          go_wp2
          go_ret
          exact ⟨rfl, by (repeat' (first | (with_reducible exact Below.refl _ _) | (with_reducible assumption) | (with_reducible refine below_alloc ?_ _) | (with_reducible refine Below.drew ?_) | (with_reducible refine below_drewN ?_ _) | (with_reducible refine below_step (by assumption) ?_) | (with_reducible refine below_later ?_ _) | (with_reducible refine Below.setCell ?_ ?_ _) | go_size))⟩

set_option maxRecDepth 100000 in
theorem tfair_walk (n f c : Int) (w : World) : Calls Try.prog 8 #[.int .i64 n, .int .i64 f, .int .i64 c] w fun e w' => e = .returned (.bool true) ∧ Below w.heap.size w w' := by
  by_cases a1 : n < 1
  · go_enter Try.func8, Try.ntmps8
    go_wp2_with ((go_at_call 12; refine (awake_any _).mono ?_; rintro e hb1w ⟨rfl, hb1⟩; obtain ⟨hb1c, hb1f⟩ := bcell hb1; have hb1s := hb1.size; (try simp only [World.size_alloc] at hb1s); (try (have : w.heap.size < hb1w.heap.size := by omega)); (try (have : w.heap.size + 1 < hb1w.heap.size := by omega)); (try (have : w.heap.size + 1 + 1 < hb1w.heap.size := by omega)); (try (have : w.heap.size + 1 + 1 + 1 < hb1w.heap.size := by omega)); (try (have : bX < hb1w.heap.size := by omega)); (try (have : bY < hb1w.heap.size := by omega)); (try (have : bZ < hb1w.heap.size := by omega))))
    go_ret
    exact ⟨rfl, by (repeat' (first | (with_reducible exact Below.refl _ _) | (with_reducible assumption) | (with_reducible refine below_alloc ?_ _) | (with_reducible refine Below.drew ?_) | (with_reducible refine below_drewN ?_ _) | (with_reducible refine below_step (by assumption) ?_) | (with_reducible refine below_later ?_ _) | (with_reducible refine Below.setCell ?_ ?_ _) | go_size))⟩
  · by_cases a2 : 8 < n
    · go_enter Try.func8, Try.ntmps8
      go_wp2_with ((go_at_call 12; refine (awake_any _).mono ?_; rintro e hb1w ⟨rfl, hb1⟩; obtain ⟨hb1c, hb1f⟩ := bcell hb1; have hb1s := hb1.size; (try simp only [World.size_alloc] at hb1s); (try (have : w.heap.size < hb1w.heap.size := by omega)); (try (have : w.heap.size + 1 < hb1w.heap.size := by omega)); (try (have : w.heap.size + 1 + 1 < hb1w.heap.size := by omega)); (try (have : w.heap.size + 1 + 1 + 1 < hb1w.heap.size := by omega)); (try (have : bX < hb1w.heap.size := by omega)); (try (have : bY < hb1w.heap.size := by omega)); (try (have : bZ < hb1w.heap.size := by omega))))
      go_ret
      exact ⟨rfl, by (repeat' (first | (with_reducible exact Below.refl _ _) | (with_reducible assumption) | (with_reducible refine below_alloc ?_ _) | (with_reducible refine Below.drew ?_) | (with_reducible refine below_drewN ?_ _) | (with_reducible refine below_step (by assumption) ?_) | (with_reducible refine below_later ?_ _) | (with_reducible refine Below.setCell ?_ ?_ _) | go_size))⟩
    · by_cases a3 : c < 0
      · go_enter Try.func8, Try.ntmps8
        go_wp2_with ((go_at_call 12; refine (awake_any _).mono ?_; rintro e hb1w ⟨rfl, hb1⟩; obtain ⟨hb1c, hb1f⟩ := bcell hb1; have hb1s := hb1.size; (try simp only [World.size_alloc] at hb1s); (try (have : w.heap.size < hb1w.heap.size := by omega)); (try (have : w.heap.size + 1 < hb1w.heap.size := by omega)); (try (have : w.heap.size + 1 + 1 < hb1w.heap.size := by omega)); (try (have : w.heap.size + 1 + 1 + 1 < hb1w.heap.size := by omega)); (try (have : bX < hb1w.heap.size := by omega)); (try (have : bY < hb1w.heap.size := by omega)); (try (have : bZ < hb1w.heap.size := by omega))))
        go_ret
        exact ⟨rfl, by (repeat' (first | (with_reducible exact Below.refl _ _) | (with_reducible assumption) | (with_reducible refine below_alloc ?_ _) | (with_reducible refine Below.drew ?_) | (with_reducible refine below_drewN ?_ _) | (with_reducible refine below_step (by assumption) ?_) | (with_reducible refine below_later ?_ _) | (with_reducible refine Below.setCell ?_ ?_ _) | go_size))⟩
      · by_cases a4 : 1073741824 < c
        · go_enter Try.func8, Try.ntmps8
          go_wp2_with ((go_at_call 12; refine (awake_any _).mono ?_; rintro e hb1w ⟨rfl, hb1⟩; obtain ⟨hb1c, hb1f⟩ := bcell hb1; have hb1s := hb1.size; (try simp only [World.size_alloc] at hb1s); (try (have : w.heap.size < hb1w.heap.size := by omega)); (try (have : w.heap.size + 1 < hb1w.heap.size := by omega)); (try (have : w.heap.size + 1 + 1 < hb1w.heap.size := by omega)); (try (have : w.heap.size + 1 + 1 + 1 < hb1w.heap.size := by omega)); (try (have : bX < hb1w.heap.size := by omega)); (try (have : bY < hb1w.heap.size := by omega)); (try (have : bZ < hb1w.heap.size := by omega))))
          go_ret
          exact ⟨rfl, by (repeat' (first | (with_reducible exact Below.refl _ _) | (with_reducible assumption) | (with_reducible refine below_alloc ?_ _) | (with_reducible refine Below.drew ?_) | (with_reducible refine below_drewN ?_ _) | (with_reducible refine below_step (by assumption) ?_) | (with_reducible refine below_later ?_ _) | (with_reducible refine Below.setCell ?_ ?_ _) | go_size))⟩
        · by_cases a5 : 0 ≤ f ∧ f ≤ n
          · obtain ⟨m, rfl⟩ : ∃ m : Nat, n = m := ⟨n.toNat, by omega⟩
            obtain ⟨g, rfl⟩ : ∃ m : Nat, f = m := ⟨f.toNat, by omega⟩
            obtain ⟨d, rfl⟩ : ∃ m : Nat, c = m := ⟨c.toNat, by omega⟩
            exact tfair_good m g d w (by omega) (by omega) (by omega) (by omega)
          · exact tfair_bad n f c w (by omega) (by omega) (by omega) (by omega) a5

set_option maxRecDepth 100000 in
theorem tfair_holds : Rows.TorqueFairSaid :=
  OpenClaim.holds_of_wide 8 Try.f8 rfl rfl rfl rfl rfl rfl rfl ⟨rfl, rfl, rfl, rfl, rfl⟩ rfl rfl rfl rfl rfl (by kernel_rfl) Try.func8 (by kernel_rfl)
    (of_decide_eq_true (by kernel_rfl)) (by unfold Func.isWrapper; first | (rw [if_pos (by decide +kernel)]; kernel_rfl) | (rw [if_neg (by decide +kernel)]; exact ⟨rfl, rfl⟩))
    (fun os started H enc _ => by
      refine law_frame started (s := Rows.torqueFairSpec) (conds := Rows.torqueFairRow.domain) Try.func8 (by kernel_rfl) rfl 4 rfl Try.underlying4 (by decide +kernel) (fun ds h => ?_)
        (ChangeSpec.witness6 (enc := enc) (C := Try.checked) false ⟨#[], #[.int .i64 0, .int .i64 0, .int .i64 0], []⟩ 12 (by kernel_rfl) (by kernel_rfl) (by kernel_rfl) (by kernel_rfl)) ?_
      · match ds, h with
        | [_, _, _], _ => rfl
      · intro W base args ds p hval hA _
        rw [Try.params8] at hA hval
        obtain ⟨v0, vs0, d0, ds0, p0, q0, hargs, rfl, rfl, h0, r0⟩ := trodAll_cons hA
        obtain ⟨v1, vs1, d1, ds1, p1, q1, rfl, rfl, rfl, h1, r1⟩ := trodAll_cons r0
        obtain ⟨v2, vs2, d2, ds2, p2, q2, rfl, rfl, rfl, h2, r2⟩ := trodAll_cons r1
        obtain ⟨rfl, rfl, rfl⟩ := trodAll_nil r2
        obtain rfl : args = #[v0, v1, v2] := by cases args; simp_all
        obtain ⟨b0, rfl, rfl, rfl, w0⟩ := open_int Try.underlying3 (hval 0 _ v0 rfl rfl) h0
        obtain ⟨b1, rfl, rfl, rfl, w1⟩ := open_int Try.underlying3 (hval 1 _ v1 rfl rfl) h1
        obtain ⟨b2, rfl, rfl, rfl, w2⟩ := open_int Try.underlying3 (hval 2 _ v2 rfl rfl) h2
        apply tfair_walk <;> (first | assumption | rfl))
#print axioms tfair_holds

end Go.Proofs.Ytpmjnpbigppllaa
