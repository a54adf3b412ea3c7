/- Contracts of surface's between, segment, at and At. Printed by a program. -/
import Derived.Test.YtohdbneaganfbaaSurfA
namespace Go.Proofs.Ytohdbneaganfbaa
set_option linter.unusedVariables false
set_option linter.unusedSimpArgs false
open Go.RowKit Go.ChangeShapes Go.WideShapes Go.ChangeAt

theorem sclamp_any (x lo hi : Int) (w : World) (h : lo ≤ hi) : Calls Try.prog 81 #[.int .i64 x, .int .i64 lo, .int .i64 hi] w fun e w' => e = .returned (.int .i64 (clampI lo hi x)) ∧ w' = w := by
  have HC : Hid (clampI lo hi x = if x < lo then lo else if hi < x then hi else x) := Lib.hid rfl
  by_cases h1 : x < lo
  · have H := Lib.hid (HC.out.trans (if_pos h1))
    go_enter Try.func81, Try.ntmps81
    go_wp2
    all_goals go_ret
    all_goals exact ⟨ret_int (by rw [H.out]; first | done | omega), rfl⟩
  · by_cases h2 : hi < x
    · have H := Lib.hid (HC.out.trans ((if_neg h1).trans (if_pos h2)))
      go_enter Try.func81, Try.ntmps81
      go_wp2
      all_goals go_ret
      all_goals exact ⟨ret_int (by rw [H.out]; first | done | omega), rfl⟩
    · have H := Lib.hid (HC.out.trans ((if_neg h1).trans (if_neg h2)))
      go_enter Try.func81, Try.ntmps81
      go_wp2
      all_goals go_ret
      all_goals exact ⟨ret_int (by rw [H.out]; first | done | omega), rfl⟩

theorem sbetween_any {x a b c d : Int} (a1 : -1073741824 ≤ a) (a2 : b ≤ 1073741824) (hab : a < b) (b1 : a ≤ x) (b2 : x ≤ b) (c1 : -1073741824 ≤ c) (c2 : c ≤ 1073741824) (d1 : -1073741824 ≤ d) (d2 : d ≤ 1073741824) (w : World) :
    Calls Try.prog 131 #[.int .i64 a, .int .i64 b, .int .i64 c, .int .i64 d, .int .i64 x] w fun e w' => e = .returned (.int .i64 (c + (x - a) * (d - c) / (b - a))) ∧ Below w.heap.size w w' := by
  obtain ⟨p1, p2, p3, p4⟩ := sg_num (x := x) a1 a2 hab b1 b2 c1 c2 d1 d2
  have w2 : IntKind.i64.wrap (x - a) = x - a := IntWalk.i64_in _ (by omega)
  have w3 : IntKind.i64.wrap (d - c) = d - c := IntWalk.i64_in _ (by omega)
  have w4 : IntKind.i64.wrap (b - a) = b - a := IntWalk.i64_in _ (by omega)
  have w5 : IntKind.i64.wrap ((x - a) * (d - c)) = (x - a) * (d - c) := IntWalk.i64_in _ (by omega)
  have w6 : IntKind.i64.wrap (c + (x - a) * (d - c) / (b - a)) = c + (x - a) * (d - c) / (b - a) := IntWalk.i64_in _ (by omega)
  have HF : Hid (∀ w', Calls Try.prog 93 #[.int .i64 ((x - a) * (d - c)), .int .i64 (b - a)] w' fun e w'' => e = .returned (.int .i64 ((x - a) * (d - c) / (b - a))) ∧ Below w'.heap.size w' w'') :=
    Lib.hid (fun w' => floor_any p1 p2 (by omega) (by omega) w')
  clear p1 p2 p3 p4
  go_enter Try.func131, Try.ntmps131
  go_wp2_with ((go_at_call 93; refine (HF.out _).mono ?_; rintro e hb1w ⟨rfl, hb1⟩; obtain ⟨hb1c, hb1f⟩ := bcell hb1; have hb1s := hb1.size; (try simp only [World.size_alloc] at hb1s); (try (have : w.heap.size < hb1w.heap.size := by omega)); (try (have : w.heap.size + 1 < hb1w.heap.size := by omega)); (try (have : w.heap.size + 1 + 1 < hb1w.heap.size := by omega)); (try (have : w.heap.size + 1 + 1 + 1 < hb1w.heap.size := by omega)); (try (have : bX < hb1w.heap.size := by omega)); (try (have : bY < hb1w.heap.size := by omega)); (try (have : bZ < hb1w.heap.size := by omega))))
  go_ret
  exact ⟨rfl, by (repeat' (first | (with_reducible exact Below.refl _ _) | (with_reducible assumption) | (with_reducible refine below_alloc ?_ _) | (with_reducible refine Below.drew ?_) | (with_reducible refine below_drewN ?_ _) | (with_reducible refine below_step (by assumption) ?_) | (with_reducible refine below_later ?_ _) | (with_reducible refine Below.setCell ?_ ?_ _) | go_size))⟩

theorem ssegCl_any (b0 b1 bX off n c i : Nat) (xv v : Int) (w : World)
    (c0 : w.cell? ⟨b0, 0, none⟩ = some (.slice (some ⟨bX, off, none⟩) n c)) (c1 : w.cell? ⟨b1, 0, none⟩ = some (.int .i64 xv)) (hi : i < n) (hc : w.cell? ⟨bX, off + i, none⟩ = some (.int .i64 v)) :
    Calls Try.prog 142 #[.int .i64 i, .pointer (some ⟨b0, 0, none⟩), .pointer (some ⟨b1, 0, none⟩)] w fun e w' => e = .returned (.bool (decide (xv < v))) ∧ Below w.heap.size w w' := by
  have hi2 : (i : Int) < (n : Int) := by omega
  go_enter Try.func142, Try.ntmps142
  go_wp2
  go_quiet (fail)
  go_wp2
  go_ret
  exact ⟨rfl, by (repeat' (first | (with_reducible exact Below.refl _ _) | (with_reducible assumption) | (with_reducible refine below_alloc ?_ _) | (with_reducible refine Below.drew ?_) | (with_reducible refine below_drewN ?_ _) | (with_reducible refine below_step (by assumption) ?_) | (with_reducible refine below_later ?_ _) | (with_reducible refine Below.setCell ?_ ?_ _) | go_size))⟩

/-- A region of open order: n operations that read, and calls that leave the world as it is; then a tail in its one order. -/
theorem wp_still_tail {P : Program} {id : Nat} {Q : Exit → Act → World → Prop} {a : Act} {w : World} {l : List Oper} (n : Nat) (hm : P.follows .mixedOrders = true) (hB : Region.lexTailB .any l.toArray n = true)
    (h : ∀ W, Below w.heap.size w W → W.heap.size = w.heap.size → wpStill P l.toArray W (fun a' => wpList P l.toArray Q (l.drop n) a' W) (l.take n) a) : (Code.region id l.toArray true).wp P Q a w :=
  wp_region_still_tail n hm hB (h w.drew (Below.refl _ _).drew rfl)

@[go_sem] def tupS (s : Nat) (x : Int) : Value := .tuple #[.int .i64 (s : Int), .int .i64 x]
set_option maxRecDepth 100000 in
set_option maxHeartbeats 1000000 in
theorem ssegment_any (rx : Option Addr) (cx : Nat) (xs : List Int) (x : Int) (w : World) (hx : IsInts w rx cx .i64 xs) (hok : AxisOk xs) {x' : Int} (hx' : x' = clampI (xs.getD 0 0) (xs.getD (xs.length - 1) 0) x) :
    Calls Try.prog 129 #[.slice rx xs.length cx, .int .i64 x] w fun e w' => e = .returned (tupS (sgI xs x') x') ∧ Below w.heap.size w w' := by
  obtain ⟨bX, off, rfl, hb, hc⟩ := hx.cells (fun e => by subst e; have := hok.1; simp at this)
  have h2 := hok.1
  have h32 := hok.2.1
  have ⟨k1, k2⟩ := clamp_bd hok x
  rw [← hx'] at k1 k2
  have hl := least_le (fun i => decide (x' < xs.getD i 0)) xs.length
  have hlb := least_below (fun i => decide (x' < xs.getD i 0)) xs.length
  have hla := least_at (fun i => decide (x' < xs.getD i 0)) xs.length
  have HS : Hid (sgI xs x' = min (least (fun i => decide (x' < xs.getD i 0)) xs.length - 1) (xs.length - 2)) := Lib.hid (by unfold sgI; rfl)
  have h0 : least (fun i => decide (x' < xs.getD i 0)) xs.length ≠ 0 := fun e => by
    have := hla (by omega)
    rw [e] at this
    simp only [decide_eq_true_eq] at this
    omega
  generalize least (fun i => decide (x' < xs.getD i 0)) xs.length = r at *
  have HLB : Hid (∀ t, t < r → decide (x' < xs.getD t 0) = false) := Lib.hid hlb
  have HUB : Hid (∀ t, r ≤ t → t < xs.length → decide (x' < xs.getD t 0) = true) := Lib.hid (fun t ht htn => by
    have ha := hla (by omega)
    simp only [decide_eq_true_eq] at ha ⊢
    by_cases e : r = t
    · rw [← e]; exact ha
    · have := axis_mono hok (show r < t by omega) htn
      omega)
  have hlo := axis_mono hok (show 0 < xs.length - 1 by omega) (by omega)
  have hX0 := hc 0 (by omega)
  have hXn := hc (xs.length - 1) (by omega)
  rw [Nat.add_zero] at hX0
  have HC := Lib.hid hc
  have HCL := Lib.hid (fun w => sclamp_any x (xs.getD 0 0) (xs.getD (xs.length - 1) 0) w (by omega))
  rw [← hx'] at HCL
  clear hc hlb hla hok hx hx'
  generalize sgI xs x' = s at *
  generalize xs.getD 0 0 = lo at *
  generalize xs.getD (xs.length - 1) 0 = hi at *
  generalize hn : xs.length = n at *
  have HN := Lib.hid hn
  clear hn
  have i1 : (0 : Int) < n := by omega
  have j1 : 0 < n := by omega
  have j3 : 1 ≤ n := by omega
  have j4 : (1 : Int) ≤ n := by omega
  have j2 : n - 1 < n := by omega
  have i2 : (n : Int) - 1 < n := by omega
  have i3 : (0 : Int) ≤ (n : Int) - 1 := by omega
  have i4 : IntKind.i64.wrap ((n : Int) - 1) = (n : Int) - 1 := IntWalk.i64_in _ (by omega)
  have i5 : ((n : Int) - 1).toNat = n - 1 := by omega
  have i6 : IntKind.i64.wrap ((n : Int) - 2) = (n : Int) - 2 := IntWalk.i64_in _ (by omega)
  go_enter Try.func129, Try.ntmps129
  go_wp2
  refine wp_still_tail 11 (by kernel_rfl) (by kernel_rfl) ?_
  intro W hW hWs
  have hWc := (bcell hW).1
  have hWf := (bcell hW).2
  simp only [World.size_alloc] at hWs
  have hW0 : w.heap.size < W.heap.size := by omega
  have hW1 : w.heap.size + 1 < W.heap.size := by omega
  have hWb : bX < W.heap.size := by omega
  have hb2 : bX < w.heap.size + 1 + 1 := by omega
  have hb1 : bX < w.heap.size + 1 := by omega
  simp only [List.take_succ_cons, List.take_zero, List.drop_succ_cons, List.drop_zero]
  repeat (first | (refine wpStill_step (fun K hK => ?_); go_simp; refine hK _ ?_; clear hK K) | (refine wpStill_step (fun K hK => ?_); go_simp; refine ⟨_, HCL.out _, hK _ ?_⟩; clear hK K))
  refine wpStill_nil ?_
  have r1 : (1 : Int) ≤ r := by omega
  have r2 : (0 : Int) < r := by omega
  have hwr : IntKind.i64.wrap ((r : Int) - 1) = (r : Int) - 1 := IntWalk.i64_in _ (by omega)
  have HSI : Hid ((s : Int) = min ((r : Int) - 1) ((n : Int) - 2)) := Lib.hid (by rw [HS.out]; omega)
  go_wp2_with (go_at_call 61; refine (search_any 142 #[.pointer (some ⟨w.heap.size, 0, none⟩), .pointer (some ⟨w.heap.size + 1, 0, none⟩)] n r (fun i => decide (x' < xs.getD i 0)) _ (by rfl) (enters_of Try.func142 (by kernel_rfl) rfl) (by omega) (by omega) ?hf HLB.out HUB.out).mono ?_)
  case hf =>
    intro e i hi
    have hs := e.h.size
    have hcx := HC.out i hi
    exact ssegCl_any w.heap.size (w.heap.size + 1) bX off n cx i x' _ e.w (by rw [Later.cell _ (by go_size)]; simp [go_sem, *]) (by rw [Later.cell _ (by go_size)]; simp [go_sem, *]) hi (by rw [Later.cell _ (by go_size)]; simp [go_sem, *])
  rintro e hb1w ⟨rfl, hb1⟩
  obtain ⟨hb1c, hb1f⟩ := bcell hb1
  have hb1s := hb1.size
  go_wp2
  go_quiet (fail)
  go_wp2
  all_goals go_ret2
  all_goals exact ⟨by rw [HSI.out]; first | done | rfl | (simp [go_sem]; omega), by (repeat' (first | (with_reducible exact Below.refl _ _) | (with_reducible assumption) | (with_reducible refine below_alloc ?_ _) | (with_reducible refine Below.drew ?_) | (with_reducible refine below_drewN ?_ _) | (with_reducible refine below_step (by assumption) ?_) | (with_reducible refine below_later ?_ _) | (with_reducible refine Below.setCell ?_ ?_ _) | go_size))⟩
end Go.Proofs.Ytohdbneaganfbaa
