/- Contracts of the reference's Least and Late of torque. Printed by a program. -/
import Derived.Test.YtpmjnpbigppllaaTorqD
namespace Go.Proofs.Ytpmjnpbigppllaa
set_option linter.unusedVariables false
set_option linter.unusedSimpArgs false
open Go.RowKit Go.ChangeShapes Go.WideShapes Go.ChangeAt

noncomputable def least2 (X Y : List Int) (Z : List (List Int)) (s want : Int) : Int × Bool :=
  if mval X Y Z s (Y.getD (Y.length - 1) 0) < want then (0, false) else (Y.getD 0 0 + (chN X Y Z s want : Int), true)
set_option maxRecDepth 100000 in
set_option maxHeartbeats 1000000 in
theorem r35least_any (tab : Array Value) (X Y : List Int) (Z : List (List Int)) (xs ys : List Int) (w : World) (hsz : tab.size = 24) (hM : MapAt w tab 6 7 8 X Y Z) (hE : CurAt w tab 18 19 xs ys) (s want : Int) (hok : TqOk X Y Z xs ys) :
    Calls Try.prog 28 #[.agg tab, .int .i64 s, .int .i64 want] w fun e w' => e = .returned (.tuple #[.int .i64 (least2 X Y Z s want).1, .bool (least2 X Y Z s want).2]) ∧ Below w.heap.size w w' := by
  have HM : Hid (∀ w', Below w.heap.size w w' → MapAt w' tab 6 7 8 X Y Z) := Lib.hid (fun _ h => hM.later h)
  have HE : Hid (∀ w', Below w.heap.size w w' → CurAt w' tab 18 19 xs ys) := Lib.hid (fun _ h => hE.later h)
  have HI : Hid ((Try.prog.info? 31).map (·.size) = some tab.size) := Lib.hid (by rw [hsz]; kernel_rfl)
  have HSZ := Lib.hid hsz
  clear hsz
  obtain ⟨rX, cX, rY, cY, rZ, cZ, h6, h7, h8, hX, hY, hZ⟩ := hM.ex
  have h2 := hok.map.2.1.1
  have h32 := hok.map.2.1.2.1
  obtain ⟨y1, y2, y3, y4⟩ := chS_bd hok.map.2.1
  obtain ⟨r1, r2, r3⟩ := chN_spec hok s want
  have HOP := Lib.hid (fun x w hM hE => r35opt_any tab X Y Z xs ys w HSZ.out hM hE s x hok.map)
  obtain ⟨bY, oY, rfl, hbY, hcY⟩ := hY.cells (fun e => by rw [e] at h2; simp at h2)
  have k1 := hcY 0 (by omega)
  have k2 := hcY (Y.length - 1) (by omega)
  rw [Nat.add_zero] at k1
  have HV : Hid (least2 X Y Z s want = if mval X Y Z s (Y.getD (Y.length - 1) 0) < want then (0, false) else (Y.getD 0 0 + (chN X Y Z s want : Int), true)) := Lib.hid rfl
  have HR2 : Hid (∀ t : Nat, t < chN X Y Z s want → mval X Y Z s (Y.getD 0 0 + (t : Int)) < want) := Lib.hid (fun t ht => by have := r2 t ht; simp only [decide_eq_false_iff_not] at this; omega)
  have HR3 : Hid (∀ t : Nat, chN X Y Z s want ≤ t → t < chS Y → want ≤ mval X Y Z s (Y.getD 0 0 + (t : Int))) := Lib.hid (fun t ht htn => by have := r3 t ht htn; simpa using this)
  clear hM hE hX hY hZ hok hcY r2 r3
  generalize chN X Y Z s want = r at *
  generalize chS Y = n at *
  generalize Y.getD 0 0 = f at *
  generalize Y.getD (Y.length - 1) 0 = l at *
  have hlast : mval X Y Z s l < want ↔ r = n := by
    have e : l = f + ((n - 1 : Nat) : Int) := by omega
    constructor
    · intro h
      rcases Nat.lt_or_ge r n with hc | hc
      · have := HR3.out (n - 1) (by omega) (by omega)
        rw [← e] at this
        omega
      · omega
    · intro h
      have := HR2.out (n - 1) (by omega)
      rwa [← e] at this
  have j1 : (0 : Int) < (Y.length : Int) := by omega
  have j2 : (1 : Int) ≤ (Y.length : Int) := by omega
  have j3 : 0 < Y.length := by omega
  have j4 : IntKind.i64.wrap ((Y.length : Int) - 1) = (Y.length : Int) - 1 := IntWalk.i64_in _ (by omega)
  have j5 : ((Y.length : Int) - 1).toNat = Y.length - 1 := by omega
  have j6 : (0 : Int) ≤ (Y.length : Int) - 1 := by omega
  have q1 : bY < w.heap.size + 1 := by omega
  by_cases hbad : mval X Y Z s l < want
  · have H := Lib.hid (HV.out.trans (if_pos hbad))
    clear hlast
    go_enter Try.func28, Try.ntmps28
    go_wp2
    go_quiet (fail)
    go_wp2_with (first | (refine wpList_load_row rfl 31 (.tmp 3) rfl w.heap.size rfl 31 tab (0, 0) _ ((Below.block (show Below (w.alloc (.cells tab 31)).heap.size (w.alloc (.cells tab 31)) _ by (repeat' (first | (with_reducible exact Below.refl _ _) | (with_reducible assumption) | (with_reducible refine below_alloc ?_ _) | (with_reducible refine Below.drew ?_) | (with_reducible refine below_drewN ?_ _) | (with_reducible refine below_step (by assumption) ?_) | (with_reducible refine below_later ?_ _) | (with_reducible refine Below.setCell ?_ ?_ _) | go_size))) _ (by simp)).trans (heap_alloc_new _ _)) Try.underlying31 rfl HI.out ?_) | (go_at_call 18; refine (HOP.out _ _ (HM.out _ (by (repeat' (first | (with_reducible exact Below.refl _ _) | (with_reducible assumption) | (with_reducible refine below_alloc ?_ _) | (with_reducible refine Below.drew ?_) | (with_reducible refine below_drewN ?_ _) | (with_reducible refine below_step (by assumption) ?_) | (with_reducible refine below_later ?_ _) | (with_reducible refine Below.setCell ?_ ?_ _) | go_size)))) (HE.out _ (by (repeat' (first | (with_reducible exact Below.refl _ _) | (with_reducible assumption) | (with_reducible refine below_alloc ?_ _) | (with_reducible refine Below.drew ?_) | (with_reducible refine below_drewN ?_ _) | (with_reducible refine below_step (by assumption) ?_) | (with_reducible refine below_later ?_ _) | (with_reducible refine Below.setCell ?_ ?_ _) | go_size))))).mono ?_; rintro e hb1w ⟨rfl, hb1⟩; obtain ⟨hb1c, hb1f⟩ := bcell hb1; have hb1s := hb1.size; (try simp only [World.size_alloc] at hb1s); (try (have : w.heap.size < hb1w.heap.size := by omega)); (try (have : w.heap.size + 1 < hb1w.heap.size := by omega)); (try (have : w.heap.size + 1 + 1 < hb1w.heap.size := by omega)); (try (have : w.heap.size + 1 + 1 + 1 < hb1w.heap.size := by omega)); (try (have : bX < hb1w.heap.size := by omega)); (try (have : bY < hb1w.heap.size := by omega)); (try (have : bZ < hb1w.heap.size := by omega))))
    go_ret2
    exact ⟨by rw [H.out]; first | done | rfl, by (repeat' (first | (with_reducible exact Below.refl _ _) | (with_reducible assumption) | (with_reducible refine below_alloc ?_ _) | (with_reducible refine Below.drew ?_) | (with_reducible refine below_drewN ?_ _) | (with_reducible refine below_step (by assumption) ?_) | (with_reducible refine below_later ?_ _) | (with_reducible refine Below.setCell ?_ ?_ _) | go_size))⟩
  · have H := Lib.hid (HV.out.trans (if_neg hbad))
    have hrn : r < n := by
      rcases Nat.lt_or_ge r n with hc | hc
      · exact hc
      · exact absurd (hlast.2 (by omega)) hbad
    clear hlast
    go_enter Try.func28, Try.ntmps28
    go_wp2
    go_quiet (fail)
    go_wp2_with (first | (refine wpList_load_row rfl 31 (.tmp 3) rfl w.heap.size rfl 31 tab (0, 0) _ ((Below.block (show Below (w.alloc (.cells tab 31)).heap.size (w.alloc (.cells tab 31)) _ by (repeat' (first | (with_reducible exact Below.refl _ _) | (with_reducible assumption) | (with_reducible refine below_alloc ?_ _) | (with_reducible refine Below.drew ?_) | (with_reducible refine below_drewN ?_ _) | (with_reducible refine below_step (by assumption) ?_) | (with_reducible refine below_later ?_ _) | (with_reducible refine Below.setCell ?_ ?_ _) | go_size))) _ (by simp)).trans (heap_alloc_new _ _)) Try.underlying31 rfl HI.out ?_) | (go_at_call 18; refine (HOP.out _ _ (HM.out _ (by (repeat' (first | (with_reducible exact Below.refl _ _) | (with_reducible assumption) | (with_reducible refine below_alloc ?_ _) | (with_reducible refine Below.drew ?_) | (with_reducible refine below_drewN ?_ _) | (with_reducible refine below_step (by assumption) ?_) | (with_reducible refine below_later ?_ _) | (with_reducible refine Below.setCell ?_ ?_ _) | go_size)))) (HE.out _ (by (repeat' (first | (with_reducible exact Below.refl _ _) | (with_reducible assumption) | (with_reducible refine below_alloc ?_ _) | (with_reducible refine Below.drew ?_) | (with_reducible refine below_drewN ?_ _) | (with_reducible refine below_step (by assumption) ?_) | (with_reducible refine below_later ?_ _) | (with_reducible refine Below.setCell ?_ ?_ _) | go_size))))).mono ?_; rintro e hb1w ⟨rfl, hb1⟩; obtain ⟨hb1c, hb1f⟩ := bcell hb1; have hb1s := hb1.size; (try simp only [World.size_alloc] at hb1s); (try (have : w.heap.size < hb1w.heap.size := by omega)); (try (have : w.heap.size + 1 < hb1w.heap.size := by omega)); (try (have : w.heap.size + 1 + 1 < hb1w.heap.size := by omega)); (try (have : w.heap.size + 1 + 1 + 1 < hb1w.heap.size := by omega)); (try (have : bX < hb1w.heap.size := by omega)); (try (have : bY < hb1w.heap.size := by omega)); (try (have : bZ < hb1w.heap.size := by omega))))
    have HL2 : Hid (∀ m : Int, f ≤ m → m < f + (r : Int) → mval X Y Z s m < want) := Lib.hid (fun m h1 h2 => by
      have := HR2.out (m - f).toNat (by omega)
      rwa [show f + (((m - f).toNat : Nat) : Int) = m by omega] at this)
    have HL3 : Hid (∀ m : Int, f + (r : Int) ≤ m → m < f + (n : Int) → want ≤ mval X Y Z s m) := Lib.hid (fun m h1 h2 => by
      have := HR3.out (m - f).toNat (by omega) (by omega)
      rwa [show f + (((m - f).toNat : Nat) : Int) = m by omega] at this)
    go_loopg [9, 10] n (fun kx s9 s10 wr => ∃ (lo hi : Int) (e : Later hb1w), s9 = .int .i64 lo ∧ s10 = .int .i64 hi ∧ f ≤ lo ∧ lo ≤ f + (r : Int) ∧ f + (r : Int) ≤ hi ∧ hi < f + (n : Int) ∧ (hi - lo).toNat ≤ kx ∧ wr = e.w)
    case atStart => exact ⟨f, l, ⟨_, Below.refl _ _⟩, rfl, rfl, by omega, by omega, by omega, by omega, by omega, rfl⟩
    case round =>
      obtain ⟨lo, hi, e, rfl, rfl, l0, l1, l2, l3, hk, rfl⟩ := hrel
      have hes := e.h.size
      by_cases hlt : lo < hi
      · have d2 : (0 : Int) ≤ hi - lo := by omega
        have d3 : 0 ≤ (hi - lo) / 2 := by omega
        have d4 : (hi - lo) / 2 < hi - lo := by omega
        have HOM := Lib.hid (HOP.out (lo + (hi - lo) / 2))
        by_cases hp : lo + (hi - lo) / 2 < f + (r : Int)
        · have hv := HL2.out _ (show f ≤ lo + (hi - lo) / 2 by omega) hp
          generalize mval X Y Z s (lo + (hi - lo) / 2) = v at *
          go_wp2_with (first | (refine wpList_load_row rfl 31 (.tmp 3) rfl w.heap.size rfl 31 tab (0, 0) _ ((Below.block (show Below (w.alloc (.cells tab 31)).heap.size (w.alloc (.cells tab 31)) _ by (repeat' (first | (with_reducible exact Below.refl _ _) | (with_reducible assumption) | (with_reducible refine below_alloc ?_ _) | (with_reducible refine Below.drew ?_) | (with_reducible refine below_drewN ?_ _) | (with_reducible refine below_step (by assumption) ?_) | (with_reducible refine below_later ?_ _) | (with_reducible refine Below.setCell ?_ ?_ _) | go_size))) _ (by simp)).trans (heap_alloc_new _ _)) Try.underlying31 rfl HI.out ?_) | (go_at_call 18; refine (HOM.out _ (HM.out _ (by (repeat' (first | (with_reducible exact Below.refl _ _) | (with_reducible assumption) | (with_reducible refine below_alloc ?_ _) | (with_reducible refine Below.drew ?_) | (with_reducible refine below_drewN ?_ _) | (with_reducible refine below_step (by assumption) ?_) | (with_reducible refine below_later ?_ _) | (with_reducible refine Below.setCell ?_ ?_ _) | go_size)))) (HE.out _ (by (repeat' (first | (with_reducible exact Below.refl _ _) | (with_reducible assumption) | (with_reducible refine below_alloc ?_ _) | (with_reducible refine Below.drew ?_) | (with_reducible refine below_drewN ?_ _) | (with_reducible refine below_step (by assumption) ?_) | (with_reducible refine below_later ?_ _) | (with_reducible refine Below.setCell ?_ ?_ _) | go_size))))).mono ?_; rintro e hb2w ⟨rfl, hb2⟩; obtain ⟨hb2c, hb2f⟩ := bcell hb2; have hb2s := hb2.size; (try simp only [World.size_alloc] at hb2s); (try (have : w.heap.size < hb2w.heap.size := by omega)); (try (have : w.heap.size + 1 < hb2w.heap.size := by omega)); (try (have : w.heap.size + 1 + 1 < hb2w.heap.size := by omega)); (try (have : w.heap.size + 1 + 1 + 1 < hb2w.heap.size := by omega)); (try (have : bX < hb2w.heap.size := by omega)); (try (have : bY < hb2w.heap.size := by omega)); (try (have : bZ < hb2w.heap.size := by omega))))
          go_roundg (hi - (lo + (hi - lo) / 2 + 1)).toNat
          case measure => omega
          case rel => exact ⟨lo + (hi - lo) / 2 + 1, hi, ⟨hb2w, e.h.trans (hb2.mono e.h.size)⟩, rfl, rfl, by omega, by omega, by omega, by omega, by omega, rfl⟩
        · have hv := HL3.out _ (show f + (r : Int) ≤ lo + (hi - lo) / 2 by omega) (by omega)
          generalize mval X Y Z s (lo + (hi - lo) / 2) = v at *
          go_wp2_with (first | (refine wpList_load_row rfl 31 (.tmp 3) rfl w.heap.size rfl 31 tab (0, 0) _ ((Below.block (show Below (w.alloc (.cells tab 31)).heap.size (w.alloc (.cells tab 31)) _ by (repeat' (first | (with_reducible exact Below.refl _ _) | (with_reducible assumption) | (with_reducible refine below_alloc ?_ _) | (with_reducible refine Below.drew ?_) | (with_reducible refine below_drewN ?_ _) | (with_reducible refine below_step (by assumption) ?_) | (with_reducible refine below_later ?_ _) | (with_reducible refine Below.setCell ?_ ?_ _) | go_size))) _ (by simp)).trans (heap_alloc_new _ _)) Try.underlying31 rfl HI.out ?_) | (go_at_call 18; refine (HOM.out _ (HM.out _ (by (repeat' (first | (with_reducible exact Below.refl _ _) | (with_reducible assumption) | (with_reducible refine below_alloc ?_ _) | (with_reducible refine Below.drew ?_) | (with_reducible refine below_drewN ?_ _) | (with_reducible refine below_step (by assumption) ?_) | (with_reducible refine below_later ?_ _) | (with_reducible refine Below.setCell ?_ ?_ _) | go_size)))) (HE.out _ (by (repeat' (first | (with_reducible exact Below.refl _ _) | (with_reducible assumption) | (with_reducible refine below_alloc ?_ _) | (with_reducible refine Below.drew ?_) | (with_reducible refine below_drewN ?_ _) | (with_reducible refine below_step (by assumption) ?_) | (with_reducible refine below_later ?_ _) | (with_reducible refine Below.setCell ?_ ?_ _) | go_size))))).mono ?_; rintro e hb2w ⟨rfl, hb2⟩; obtain ⟨hb2c, hb2f⟩ := bcell hb2; have hb2s := hb2.size; (try simp only [World.size_alloc] at hb2s); (try (have : w.heap.size < hb2w.heap.size := by omega)); (try (have : w.heap.size + 1 < hb2w.heap.size := by omega)); (try (have : w.heap.size + 1 + 1 < hb2w.heap.size := by omega)); (try (have : w.heap.size + 1 + 1 + 1 < hb2w.heap.size := by omega)); (try (have : bX < hb2w.heap.size := by omega)); (try (have : bY < hb2w.heap.size := by omega)); (try (have : bZ < hb2w.heap.size := by omega))))
          go_roundg (lo + (hi - lo) / 2 - lo).toNat
          case measure => omega
          case rel => exact ⟨lo, lo + (hi - lo) / 2, ⟨hb2w, e.h.trans (hb2.mono e.h.size)⟩, rfl, rfl, by omega, by omega, by omega, by omega, by omega, rfl⟩
      · obtain rfl : lo = f + (r : Int) := by omega
        go_wp2
        go_ret2
        exact ⟨by rw [H.out]; first | done | rfl, by (repeat' (first | (with_reducible exact Below.refl _ _) | (with_reducible assumption) | (with_reducible refine below_alloc ?_ _) | (with_reducible refine Below.drew ?_) | (with_reducible refine below_drewN ?_ _) | (with_reducible refine below_step (by assumption) ?_) | (with_reducible refine below_later ?_ _) | (with_reducible refine Below.setCell ?_ ?_ _) | go_size))⟩

set_option maxRecDepth 100000 in
set_option maxHeartbeats 1000000 in
theorem r35late_any (tab : Array Value) (X Y : List Int) (Z : List (List Int)) (xs ys : List Int) (w : World) (hsz : tab.size = 24) (hM : MapAt w tab 6 7 8 X Y Z) (hE : CurAt w tab 18 19 xs ys) (s c want : Int) (hok : TqOk X Y Z xs ys) :
    Calls Try.prog 30 #[.agg tab, .int .i64 s, .int .i64 c, .int .i64 want] w fun e w' => e = .returned (.int .i64 ((lateN xs ys (mval X Y Z s c) want : Int) - 1)) ∧ Below w.heap.size w w' := by
  have HM : Hid (∀ w', Below w.heap.size w w' → MapAt w' tab 6 7 8 X Y Z) := Lib.hid (fun _ h => hM.later h)
  have HE : Hid (∀ w', Below w.heap.size w w' → CurAt w' tab 18 19 xs ys) := Lib.hid (fun _ h => hE.later h)
  have HI : Hid ((Try.prog.info? 31).map (·.size) = some tab.size) := Lib.hid (by rw [hsz]; kernel_rfl)
  have HSZ := Lib.hid hsz
  clear hsz
  have ⟨b1, b2⟩ := tq_bd hok s c
  obtain ⟨r1, r2, r3⟩ := lateN_spec hok (want := want) b1
  have HTQ := Lib.hid (fun l w hM hE => r35torq_any tab X Y Z xs ys w HSZ.out hM hE s c l 1 1 hok (by omega) (by omega) (by omega) (by omega))
  have HR2 : Hid (∀ t : Nat, t < lateN xs ys (mval X Y Z s c) want → want ≤ tqV (mval X Y Z s c) (cval xs ys t) 1 1) := Lib.hid (fun t ht => by have := r2 t ht; simp only [decide_eq_false_iff_not] at this; omega)
  have HR3 : Hid (∀ t : Nat, lateN xs ys (mval X Y Z s c) want ≤ t → t < 2561 → tqV (mval X Y Z s c) (cval xs ys t) 1 1 < want) := Lib.hid (fun t ht htn => by have := r3 t ht htn; simpa using this)
  clear hM hE hok r2 r3 b1 b2
  generalize lateN xs ys (mval X Y Z s c) want = r at *
  generalize mval X Y Z s c = o at *
  go_enter Try.func30, Try.ntmps30
  go_wp2
  have HL2 : Hid (∀ m : Int, 0 ≤ m → m < (r : Int) → want ≤ tqV o (cval xs ys m) 1 1) := Lib.hid (fun m h1 h2 => by
    have := HR2.out m.toNat (by omega)
    rwa [show ((m.toNat : Nat) : Int) = m by omega] at this)
  have HL3 : Hid (∀ m : Int, (r : Int) ≤ m → m < 2561 → tqV o (cval xs ys m) 1 1 < want) := Lib.hid (fun m h1 h2 => by
    have := HR3.out m.toNat (by omega) (by omega)
    rwa [show ((m.toNat : Nat) : Int) = m by omega] at this)
  go_loopg [9, 10] 2561 (fun kx s9 s10 wr => ∃ (lo hi : Int) (e : Later (w.alloc (.cells tab 31))), s9 = .int .i64 lo ∧ s10 = .int .i64 hi ∧ -1 ≤ lo ∧ lo < (r : Int) ∧ (r : Int) ≤ hi + 1 ∧ hi ≤ 2560 ∧ (hi - lo).toNat ≤ kx ∧ wr = e.w)
  case atStart => exact ⟨-1, 2560, ⟨_, Below.refl _ _⟩, rfl, rfl, by omega, by omega, by omega, by omega, by omega, rfl⟩
  case round =>
    obtain ⟨lo, hi, e, rfl, rfl, l0, l1, l2, l3, hk, rfl⟩ := hrel
    have hes := e.h.size
    simp only [World.size_alloc] at hes
    have hbo : w.heap.size < e.w.heap.size := by omega
    by_cases hlt : lo < hi
    · have d2 : (0 : Int) ≤ lo + hi + 1 := by omega
      have d3 : lo < (lo + hi + 1) / 2 := by omega
      have d4 : (lo + hi + 1) / 2 ≤ hi := by omega
      have d5 : 0 ≤ (lo + hi + 1) / 2 := by omega
      have HOM := Lib.hid (HTQ.out ((lo + hi + 1) / 2))
      by_cases hp : (lo + hi + 1) / 2 < (r : Int)
      · have hv := HL2.out _ d5 hp
        generalize tqV o (cval xs ys ((lo + hi + 1) / 2)) 1 1 = v at *
        go_wp2_with (first | (refine wpList_load_row rfl 31 (.tmp 4) rfl w.heap.size rfl 31 tab (0, 0) _ ((Below.block (show Below (w.alloc (.cells tab 31)).heap.size (w.alloc (.cells tab 31)) _ by (repeat' (first | (with_reducible exact Below.refl _ _) | (with_reducible assumption) | (with_reducible refine below_alloc ?_ _) | (with_reducible refine Below.drew ?_) | (with_reducible refine below_drewN ?_ _) | (with_reducible refine below_step (by assumption) ?_) | (with_reducible refine below_later ?_ _) | (with_reducible refine Below.setCell ?_ ?_ _) | go_size))) _ (by simp)).trans (heap_alloc_new _ _)) Try.underlying31 rfl HI.out ?_) | (go_at_call 20; refine (HOM.out _ (HM.out _ (by (repeat' (first | (with_reducible exact Below.refl _ _) | (with_reducible assumption) | (with_reducible refine below_alloc ?_ _) | (with_reducible refine Below.drew ?_) | (with_reducible refine below_drewN ?_ _) | (with_reducible refine below_step (by assumption) ?_) | (with_reducible refine below_later ?_ _) | (with_reducible refine Below.setCell ?_ ?_ _) | go_size)))) (HE.out _ (by (repeat' (first | (with_reducible exact Below.refl _ _) | (with_reducible assumption) | (with_reducible refine below_alloc ?_ _) | (with_reducible refine Below.drew ?_) | (with_reducible refine below_drewN ?_ _) | (with_reducible refine below_step (by assumption) ?_) | (with_reducible refine below_later ?_ _) | (with_reducible refine Below.setCell ?_ ?_ _) | go_size))))).mono ?_; rintro e hb2w ⟨rfl, hb2⟩; obtain ⟨hb2c, hb2f⟩ := bcell hb2; have hb2s := hb2.size; (try simp only [World.size_alloc] at hb2s); (try (have : w.heap.size < hb2w.heap.size := by omega)); (try (have : w.heap.size + 1 < hb2w.heap.size := by omega)); (try (have : w.heap.size + 1 + 1 < hb2w.heap.size := by omega)); (try (have : w.heap.size + 1 + 1 + 1 < hb2w.heap.size := by omega)); (try (have : bX < hb2w.heap.size := by omega)); (try (have : bY < hb2w.heap.size := by omega)); (try (have : bZ < hb2w.heap.size := by omega))))
        go_roundg (hi - (lo + hi + 1) / 2).toNat
        case measure => omega
        case rel => exact ⟨(lo + hi + 1) / 2, hi, ⟨hb2w, e.h.trans (hb2.mono e.h.size)⟩, rfl, rfl, by omega, by omega, by omega, by omega, by omega, rfl⟩
      · have hv := HL3.out _ (show (r : Int) ≤ (lo + hi + 1) / 2 by omega) (by omega)
        generalize tqV o (cval xs ys ((lo + hi + 1) / 2)) 1 1 = v at *
        go_wp2_with (first | (refine wpList_load_row rfl 31 (.tmp 4) rfl w.heap.size rfl 31 tab (0, 0) _ ((Below.block (show Below (w.alloc (.cells tab 31)).heap.size (w.alloc (.cells tab 31)) _ by (repeat' (first | (with_reducible exact Below.refl _ _) | (with_reducible assumption) | (with_reducible refine below_alloc ?_ _) | (with_reducible refine Below.drew ?_) | (with_reducible refine below_drewN ?_ _) | (with_reducible refine below_step (by assumption) ?_) | (with_reducible refine below_later ?_ _) | (with_reducible refine Below.setCell ?_ ?_ _) | go_size))) _ (by simp)).trans (heap_alloc_new _ _)) Try.underlying31 rfl HI.out ?_) | (go_at_call 20; refine (HOM.out _ (HM.out _ (by (repeat' (first | (with_reducible exact Below.refl _ _) | (with_reducible assumption) | (with_reducible refine below_alloc ?_ _) | (with_reducible refine Below.drew ?_) | (with_reducible refine below_drewN ?_ _) | (with_reducible refine below_step (by assumption) ?_) | (with_reducible refine below_later ?_ _) | (with_reducible refine Below.setCell ?_ ?_ _) | go_size)))) (HE.out _ (by (repeat' (first | (with_reducible exact Below.refl _ _) | (with_reducible assumption) | (with_reducible refine below_alloc ?_ _) | (with_reducible refine Below.drew ?_) | (with_reducible refine below_drewN ?_ _) | (with_reducible refine below_step (by assumption) ?_) | (with_reducible refine below_later ?_ _) | (with_reducible refine Below.setCell ?_ ?_ _) | go_size))))).mono ?_; rintro e hb2w ⟨rfl, hb2⟩; obtain ⟨hb2c, hb2f⟩ := bcell hb2; have hb2s := hb2.size; (try simp only [World.size_alloc] at hb2s); (try (have : w.heap.size < hb2w.heap.size := by omega)); (try (have : w.heap.size + 1 < hb2w.heap.size := by omega)); (try (have : w.heap.size + 1 + 1 < hb2w.heap.size := by omega)); (try (have : w.heap.size + 1 + 1 + 1 < hb2w.heap.size := by omega)); (try (have : bX < hb2w.heap.size := by omega)); (try (have : bY < hb2w.heap.size := by omega)); (try (have : bZ < hb2w.heap.size := by omega))))
        go_roundg ((lo + hi + 1) / 2 - 1 - lo).toNat
        case measure => omega
        case rel => exact ⟨lo, (lo + hi + 1) / 2 - 1, ⟨hb2w, e.h.trans (hb2.mono e.h.size)⟩, rfl, rfl, by omega, by omega, by omega, by omega, by omega, rfl⟩
    · obtain rfl : lo = (r : Int) - 1 := by omega
      go_wp2
      go_ret
      exact ⟨rfl, by (repeat' (first | (with_reducible exact Below.refl _ _) | (with_reducible assumption) | (with_reducible refine below_alloc ?_ _) | (with_reducible refine Below.drew ?_) | (with_reducible refine below_drewN ?_ _) | (with_reducible refine below_step (by assumption) ?_) | (with_reducible refine below_later ?_ _) | (with_reducible refine Below.setCell ?_ ?_ _) | go_size))⟩
end Go.Proofs.Ytpmjnpbigppllaa
