/- The law SparkUsable returns true for all tables and numbers. No conditions. Printed by a program. -/
import Derived.Test.YtohdbneaganfbaaSparkFires
import Derived.Test.YtohdbneaganfbaaRef31S
import Derived.Test.YtohdbneaganfbaaOpenTables
namespace Go.Proofs.Ytohdbneaganfbaa
set_option linter.unusedVariables false
set_option linter.unusedSimpArgs false
open Go.RowKit Go.ChangeShapes Go.WideShapes Go.ChangeAt

theorem ints1 {W : World} {b : Nat} {x : Int} (hb : b < W.heap.size) (c0 : W.cell? ⟨b, 0, none⟩ = some (.int .i64 x)) (hx : (Lit.int .i64 x).wf = true) : IsInts W (some ⟨b, 0, none⟩) 1 .i64 [x] :=
  ⟨by simp, by simp [maxLen], by simp [hx], fun _ => ⟨b, 0, rfl, hb, fun i hi => by
    match i, hi with
    | 0, _ => simpa using c0⟩⟩
theorem one_eng : EngOk [1] 0 := ⟨by simp, by simp, by omega, fun i h0 h1 => by
  simp at h1
  obtain rfl : i = 1 := by omega
  simp⟩
theorem one_fire {a d : Int} (a0 : -1280 ≤ a) (a1 : a ≤ 3840) (d0 : 500 ≤ d) (d1 : d ≤ 10000) : fireB [1] 1 a d 0 0 = true := by
  simp [fireB, inB_true.2 (show -1280 ≤ a ∧ a ≤ 3840 from ⟨a0, a1⟩), inB_true.2 (show 500 ≤ d ∧ d ≤ 10000 from ⟨d0, d1⟩), inB_true.2 (show (0 : Int) ≤ 0 ∧ (0 : Int) ≤ 23040 by omega)]
theorem one_frs {a d : Int} (a0 : -1280 ≤ a) (a1 : a ≤ 3840) (d0 : 500 ≤ d) (d1 : d ≤ 10000) : frsB [1] 0 [a] [d] [0] [0] = true :=
  frsB_true.2 ⟨one_eng, rfl, rfl, rfl, rfl, fun k hk => by
    match k, hk with
    | 0, _ => simpa using one_fire a0 a1 d0 d1⟩
theorem usable (X Y : List Int) (Z : List (List Int)) (xd yd xe ye : List Int) (s c co re m t : Int) : (∃ a e, angle2 X Y Z xd yd xe ye s c co re = (a, e) ∧ ¬ e = 0) ∨ (∃ a d e, angle2 X Y Z xd yd xe ye s c co re = (a, 0) ∧ dwell2 X Y Z xd yd xe ye m t = (d, e) ∧ ¬ e = 0) ∨
    (∃ a d, angle2 X Y Z xd yd xe ye s c co re = (a, 0) ∧ dwell2 X Y Z xd yd xe ye m t = (d, 0) ∧ -1280 ≤ a ∧ a ≤ 3840 ∧ 500 ≤ d ∧ d ≤ 10000 ∧ 4 * d ≤ 3 * t ∧ 4000 ≤ t ∧ t ≤ 1000000) := by
  obtain ⟨⟨a, e⟩, h1⟩ : ∃ x, angle2 X Y Z xd yd xe ye s c co re = x := ⟨_, rfl⟩
  by_cases he : e = 0
  · subst he
    obtain ⟨⟨d, e⟩, h2⟩ : ∃ x, dwell2 X Y Z xd yd xe ye m t = x := ⟨_, rfl⟩
    by_cases he : e = 0
    · subst he
      refine .inr (.inr ⟨a, d, h1, h2, ?_⟩)
      have ha : -1280 ≤ a ∧ a ≤ 3840 := by
        rcases base2_cases X Y Z xd yd xe ye s c with ⟨h, _⟩ | ⟨h, _⟩ | ⟨h, _⟩
        · simp [angle2, h] at h1
        · simp [angle2, h] at h1
        · unfold angle2 at h1
          rw [h, if_pos rfl] at h1
          by_cases hi : inB co (-40) 150 = true ∧ inB re 0 1280 = true
          · rw [if_pos hi, Prod.mk.injEq] at h1
            rw [← h1.1]
            unfold angV clampI
            split
            · omega
            · split <;> omega
          · rw [if_neg hi] at h1; simp at h1
      have hd : 500 ≤ d ∧ d ≤ 10000 ∧ 4 * d ≤ 3 * t ∧ 4000 ≤ t ∧ t ≤ 1000000 := by
        cases hb : spkB X Y Z xd yd xe ye with
        | false => simp [dwell2, hb] at h2
        | true =>
          unfold dwell2 at h2
          rw [if_pos hb] at h2
          by_cases hi : inB m 0 20000 = true ∧ inB t 4000 1000000 = true
          · rw [if_pos hi, Prod.mk.injEq] at h2
            have ⟨t0, t1⟩ := inB_true.1 hi.2
            have ⟨q0, q1⟩ := dwl_bd (spkB_true.1 hb) m
            have h3 := h2.1
            unfold dwV at h3
            split at h3 <;> omega
          · rw [if_neg hi] at h2; simp at h2
      omega
    · exact .inr (.inl ⟨a, d, e, h1, h2, he⟩)
  · exact .inl ⟨a, e, h1, he⟩
set_option maxRecDepth 100000 in
set_option maxHeartbeats 4000000 in
theorem suse_walk (tab : Array Value) (rX rY rZ rd rv rx ry : Option Addr) (cX cY cZ cd cv cx cy : Nat) (X Y : List Int) (Z : List (List Int)) (xd yd xe ye : List Int) (w : World) (hsz : tab.size = 24) (h3 : tab[3]? = some (.slice rX X.length cX)) (h4 : tab[4]? = some (.slice rY Y.length cY)) (h5 : tab[5]? = some (.slice rZ Z.length cZ)) (h14 : tab[14]? = some (.slice rd xd.length cd)) (h15 : tab[15]? = some (.slice rv yd.length cv)) (h18 : tab[18]? = some (.slice rx xe.length cx)) (h19 : tab[19]? = some (.slice ry ye.length cy)) (hX : IsInts w rX cX .i64 X) (hY : IsInts w rY cY .i64 Y) (hZ : IsRows w rZ cZ Z) (hd : IsInts w rd cd .i64 xd) (hv : IsInts w rv cv .i64 yd) (hx : IsInts w rx cx .i64 xe) (hy : IsInts w ry cy .i64 ye) (s c co re m t : Int) : Calls Try.prog 13 #[.agg tab, .int .i64 s, .int .i64 c, .int .i64 co, .int .i64 re, .int .i64 m, .int .i64 t] w fun e w' => e = .returned (.bool true) ∧ Below w.heap.size w w' := by
  have hM : MapAt w tab 3 4 5 X Y Z := ⟨rX, cX, rY, cY, rZ, cZ, h3, h4, h5, hX, hY, hZ⟩
  have hD : CurAt w tab 14 15 xd yd := ⟨rd, cd, rv, cv, h14, h15, hd, hv⟩
  have hE : CurAt w tab 18 19 xe ye := ⟨rx, cx, ry, cy, h18, h19, hx, hy⟩
  have HM : Hid (∀ w', Below w.heap.size w w' → MapAt w' tab 3 4 5 X Y Z) := Lib.hid (fun _ h => hM.later h)
  have HD : Hid (∀ w', Below w.heap.size w w' → CurAt w' tab 14 15 xd yd) := Lib.hid (fun _ h => hD.later h)
  have HE : Hid (∀ w', Below w.heap.size w w' → CurAt w' tab 18 19 xe ye) := Lib.hid (fun _ h => hE.later h)
  have HI : Hid ((Try.prog.info? 31).map (·.size) = some tab.size) := Lib.hid (by rw [hsz]; kernel_rfl)
  have HSZ := Lib.hid hsz
  clear hsz hM hD hE h3 h4 h5 h14 h15 h18 h19 hX hY hZ hd hv hx hy
  rcases usable X Y Z xd yd xe ye s c co re m t with ⟨a, e, h1, g1⟩ | ⟨a, d, e, h1, h2, g1⟩ | ⟨a, d, h1, h2, a0, a1, d0, d1, g1, t0, t1⟩
  · obtain ⟨⟨d, e2⟩, h2⟩ : ∃ x, dwell2 X Y Z xd yd xe ye m t = x := ⟨_, rfl⟩
    go_enter Try.func13, Try.ntmps13
    go_wp2_with (first | (with_reducible refine wpList_load_row rfl 31 (.tmp 7) rfl w.heap.size (by with_unfolding_all rfl) 31 tab (0, 0) _ ((Below.block (show Below (w.alloc (.cells tab 31)).heap.size (w.alloc (.cells tab 31)) _ by (repeat' (first | (with_reducible exact Below.refl _ _) | (with_reducible assumption) | (with_reducible refine below_alloc ?_ _) | (with_reducible refine Below.drew ?_) | (with_reducible refine below_drewN ?_ _) | (with_reducible refine below_step (by assumption) ?_) | (with_reducible refine below_later ?_ _) | (with_reducible refine Below.setCell ?_ ?_ _) | go_size))) _ (by simp)).trans (heap_alloc_new _ _)) Try.underlying31 rfl HI.out ?_) | (go_at_call 31; refine (awake31_any _).mono ?_; rintro e hb1w ⟨rfl, hb1⟩; obtain ⟨hb1c, hb1f⟩ := bcell hb1; have hb1s := hb1.size; (try simp only [World.size_alloc] at hb1s); (try (have : w.heap.size < hb1w.heap.size := by omega)); (try (have : w.heap.size + 1 < hb1w.heap.size := by omega)); (try (have : w.heap.size + 1 + 1 < hb1w.heap.size := by omega)); (try (have : w.heap.size + 1 + 1 + 1 < hb1w.heap.size := by omega)); (try (have : bX < hb1w.heap.size := by omega)); (try (have : bY < hb1w.heap.size := by omega)); (try (have : bZ < hb1w.heap.size := by omega))) | (go_at_call 33; refine (sAngle_any _ _ _ _ _ _ _ _ _ HSZ.out (HM.out _ (by (repeat' (first | (with_reducible exact Below.refl _ _) | (with_reducible assumption) | (with_reducible refine below_alloc ?_ _) | (with_reducible refine Below.drew ?_) | (with_reducible refine below_drewN ?_ _) | (with_reducible refine below_step (by assumption) ?_) | (with_reducible refine below_later ?_ _) | (with_reducible refine Below.setCell ?_ ?_ _) | go_size)))) (HD.out _ (by (repeat' (first | (with_reducible exact Below.refl _ _) | (with_reducible assumption) | (with_reducible refine below_alloc ?_ _) | (with_reducible refine Below.drew ?_) | (with_reducible refine below_drewN ?_ _) | (with_reducible refine below_step (by assumption) ?_) | (with_reducible refine below_later ?_ _) | (with_reducible refine Below.setCell ?_ ?_ _) | go_size)))) (HE.out _ (by (repeat' (first | (with_reducible exact Below.refl _ _) | (with_reducible assumption) | (with_reducible refine below_alloc ?_ _) | (with_reducible refine Below.drew ?_) | (with_reducible refine below_drewN ?_ _) | (with_reducible refine below_step (by assumption) ?_) | (with_reducible refine below_later ?_ _) | (with_reducible refine Below.setCell ?_ ?_ _) | go_size)))) _ _ _ _).mono ?_; rintro e hb2w ⟨rfl, hb2⟩; obtain ⟨hb2c, hb2f⟩ := bcell hb2; have hb2s := hb2.size; (try simp only [World.size_alloc] at hb2s); (try (have : w.heap.size < hb2w.heap.size := by omega)); (try (have : w.heap.size + 1 < hb2w.heap.size := by omega)); (try (have : w.heap.size + 1 + 1 < hb2w.heap.size := by omega)); (try (have : w.heap.size + 1 + 1 + 1 < hb2w.heap.size := by omega)); (try (have : bX < hb2w.heap.size := by omega)); (try (have : bY < hb2w.heap.size := by omega)); (try (have : bZ < hb2w.heap.size := by omega))) | (go_at_call 49; refine (sDwell_any _ _ _ _ _ _ _ _ _ HSZ.out (HM.out _ (by (repeat' (first | (with_reducible exact Below.refl _ _) | (with_reducible assumption) | (with_reducible refine below_alloc ?_ _) | (with_reducible refine Below.drew ?_) | (with_reducible refine below_drewN ?_ _) | (with_reducible refine below_step (by assumption) ?_) | (with_reducible refine below_later ?_ _) | (with_reducible refine Below.setCell ?_ ?_ _) | go_size)))) (HD.out _ (by (repeat' (first | (with_reducible exact Below.refl _ _) | (with_reducible assumption) | (with_reducible refine below_alloc ?_ _) | (with_reducible refine Below.drew ?_) | (with_reducible refine below_drewN ?_ _) | (with_reducible refine below_step (by assumption) ?_) | (with_reducible refine below_later ?_ _) | (with_reducible refine Below.setCell ?_ ?_ _) | go_size)))) (HE.out _ (by (repeat' (first | (with_reducible exact Below.refl _ _) | (with_reducible assumption) | (with_reducible refine below_alloc ?_ _) | (with_reducible refine Below.drew ?_) | (with_reducible refine below_drewN ?_ _) | (with_reducible refine below_step (by assumption) ?_) | (with_reducible refine below_later ?_ _) | (with_reducible refine Below.setCell ?_ ?_ _) | go_size)))) _ _).mono ?_; rintro e hb3w ⟨rfl, hb3⟩; obtain ⟨hb3c, hb3f⟩ := bcell hb3; have hb3s := hb3.size; (try simp only [World.size_alloc] at hb3s); (try (have : w.heap.size < hb3w.heap.size := by omega)); (try (have : w.heap.size + 1 < hb3w.heap.size := by omega)); (try (have : w.heap.size + 1 + 1 < hb3w.heap.size := by omega)); (try (have : w.heap.size + 1 + 1 + 1 < hb3w.heap.size := by omega)); (try (have : bX < hb3w.heap.size := by omega)); (try (have : bY < hb3w.heap.size := by omega)); (try (have : bZ < hb3w.heap.size := by omega))))
    go_ret
    exact ⟨by first | rfl | (simp; done) | (simp [*]; done), by (repeat' (first | (with_reducible exact Below.refl _ _) | (with_reducible assumption) | (with_reducible refine below_alloc ?_ _) | (with_reducible refine Below.drew ?_) | (with_reducible refine below_drewN ?_ _) | (with_reducible refine below_step (by assumption) ?_) | (with_reducible refine below_later ?_ _) | (with_reducible refine Below.setCell ?_ ?_ _) | go_size))⟩
  · skip
    go_enter Try.func13, Try.ntmps13
    go_wp2_with (first | (with_reducible refine wpList_load_row rfl 31 (.tmp 7) rfl w.heap.size (by with_unfolding_all rfl) 31 tab (0, 0) _ ((Below.block (show Below (w.alloc (.cells tab 31)).heap.size (w.alloc (.cells tab 31)) _ by (repeat' (first | (with_reducible exact Below.refl _ _) | (with_reducible assumption) | (with_reducible refine below_alloc ?_ _) | (with_reducible refine Below.drew ?_) | (with_reducible refine below_drewN ?_ _) | (with_reducible refine below_step (by assumption) ?_) | (with_reducible refine below_later ?_ _) | (with_reducible refine Below.setCell ?_ ?_ _) | go_size))) _ (by simp)).trans (heap_alloc_new _ _)) Try.underlying31 rfl HI.out ?_) | (go_at_call 31; refine (awake31_any _).mono ?_; rintro e hb1w ⟨rfl, hb1⟩; obtain ⟨hb1c, hb1f⟩ := bcell hb1; have hb1s := hb1.size; (try simp only [World.size_alloc] at hb1s); (try (have : w.heap.size < hb1w.heap.size := by omega)); (try (have : w.heap.size + 1 < hb1w.heap.size := by omega)); (try (have : w.heap.size + 1 + 1 < hb1w.heap.size := by omega)); (try (have : w.heap.size + 1 + 1 + 1 < hb1w.heap.size := by omega)); (try (have : bX < hb1w.heap.size := by omega)); (try (have : bY < hb1w.heap.size := by omega)); (try (have : bZ < hb1w.heap.size := by omega))) | (go_at_call 33; refine (sAngle_any _ _ _ _ _ _ _ _ _ HSZ.out (HM.out _ (by (repeat' (first | (with_reducible exact Below.refl _ _) | (with_reducible assumption) | (with_reducible refine below_alloc ?_ _) | (with_reducible refine Below.drew ?_) | (with_reducible refine below_drewN ?_ _) | (with_reducible refine below_step (by assumption) ?_) | (with_reducible refine below_later ?_ _) | (with_reducible refine Below.setCell ?_ ?_ _) | go_size)))) (HD.out _ (by (repeat' (first | (with_reducible exact Below.refl _ _) | (with_reducible assumption) | (with_reducible refine below_alloc ?_ _) | (with_reducible refine Below.drew ?_) | (with_reducible refine below_drewN ?_ _) | (with_reducible refine below_step (by assumption) ?_) | (with_reducible refine below_later ?_ _) | (with_reducible refine Below.setCell ?_ ?_ _) | go_size)))) (HE.out _ (by (repeat' (first | (with_reducible exact Below.refl _ _) | (with_reducible assumption) | (with_reducible refine below_alloc ?_ _) | (with_reducible refine Below.drew ?_) | (with_reducible refine below_drewN ?_ _) | (with_reducible refine below_step (by assumption) ?_) | (with_reducible refine below_later ?_ _) | (with_reducible refine Below.setCell ?_ ?_ _) | go_size)))) _ _ _ _).mono ?_; rintro e hb2w ⟨rfl, hb2⟩; obtain ⟨hb2c, hb2f⟩ := bcell hb2; have hb2s := hb2.size; (try simp only [World.size_alloc] at hb2s); (try (have : w.heap.size < hb2w.heap.size := by omega)); (try (have : w.heap.size + 1 < hb2w.heap.size := by omega)); (try (have : w.heap.size + 1 + 1 < hb2w.heap.size := by omega)); (try (have : w.heap.size + 1 + 1 + 1 < hb2w.heap.size := by omega)); (try (have : bX < hb2w.heap.size := by omega)); (try (have : bY < hb2w.heap.size := by omega)); (try (have : bZ < hb2w.heap.size := by omega))) | (go_at_call 49; refine (sDwell_any _ _ _ _ _ _ _ _ _ HSZ.out (HM.out _ (by (repeat' (first | (with_reducible exact Below.refl _ _) | (with_reducible assumption) | (with_reducible refine below_alloc ?_ _) | (with_reducible refine Below.drew ?_) | (with_reducible refine below_drewN ?_ _) | (with_reducible refine below_step (by assumption) ?_) | (with_reducible refine below_later ?_ _) | (with_reducible refine Below.setCell ?_ ?_ _) | go_size)))) (HD.out _ (by (repeat' (first | (with_reducible exact Below.refl _ _) | (with_reducible assumption) | (with_reducible refine below_alloc ?_ _) | (with_reducible refine Below.drew ?_) | (with_reducible refine below_drewN ?_ _) | (with_reducible refine below_step (by assumption) ?_) | (with_reducible refine below_later ?_ _) | (with_reducible refine Below.setCell ?_ ?_ _) | go_size)))) (HE.out _ (by (repeat' (first | (with_reducible exact Below.refl _ _) | (with_reducible assumption) | (with_reducible refine below_alloc ?_ _) | (with_reducible refine Below.drew ?_) | (with_reducible refine below_drewN ?_ _) | (with_reducible refine below_step (by assumption) ?_) | (with_reducible refine below_later ?_ _) | (with_reducible refine Below.setCell ?_ ?_ _) | go_size)))) _ _).mono ?_; rintro e hb3w ⟨rfl, hb3⟩; obtain ⟨hb3c, hb3f⟩ := bcell hb3; have hb3s := hb3.size; (try simp only [World.size_alloc] at hb3s); (try (have : w.heap.size < hb3w.heap.size := by omega)); (try (have : w.heap.size + 1 < hb3w.heap.size := by omega)); (try (have : w.heap.size + 1 + 1 < hb3w.heap.size := by omega)); (try (have : w.heap.size + 1 + 1 + 1 < hb3w.heap.size := by omega)); (try (have : bX < hb3w.heap.size := by omega)); (try (have : bY < hb3w.heap.size := by omega)); (try (have : bZ < hb3w.heap.size := by omega))))
    go_ret
    exact ⟨by first | rfl | (simp; done) | (simp [*]; done), by (repeat' (first | (with_reducible exact Below.refl _ _) | (with_reducible assumption) | (with_reducible refine below_alloc ?_ _) | (with_reducible refine Below.drew ?_) | (with_reducible refine below_drewN ?_ _) | (with_reducible refine below_step (by assumption) ?_) | (with_reducible refine below_later ?_ _) | (with_reducible refine Below.setCell ?_ ?_ _) | go_size))⟩
  · have HOK := Lib.hid (one_frs a0 a1 d0 d1)
    have HVF := Lib.hid (fun b w hx => evalidFire_any (some ⟨b, 0, none⟩) 1 [1] 0 1 a d 0 0 w hx)
    rw [engB_true.2 one_eng, one_fire a0 a1 d0 d1] at HVF
    have HWA : Hid ((Lit.int .i64 a).wf = true) := Lib.hid (by simp [Lit.wf, IntKind.min, IntKind.max, IntKind.bits, IntKind.signed]; omega)
    have HWD : Hid ((Lit.int .i64 d).wf = true) := Lib.hid (by simp [Lit.wf, IntKind.min, IntKind.max, IntKind.bits, IntKind.signed]; omega)
    go_enter Try.func13, Try.ntmps13
    go_wp2_with (first | (with_reducible refine wpList_load_row rfl 31 (.tmp 7) rfl w.heap.size (by with_unfolding_all rfl) 31 tab (0, 0) _ ((Below.block (show Below (w.alloc (.cells tab 31)).heap.size (w.alloc (.cells tab 31)) _ by (repeat' (first | (with_reducible exact Below.refl _ _) | (with_reducible assumption) | (with_reducible refine below_alloc ?_ _) | (with_reducible refine Below.drew ?_) | (with_reducible refine below_drewN ?_ _) | (with_reducible refine below_step (by assumption) ?_) | (with_reducible refine below_later ?_ _) | (with_reducible refine Below.setCell ?_ ?_ _) | go_size))) _ (by simp)).trans (heap_alloc_new _ _)) Try.underlying31 rfl HI.out ?_) | (go_at_call 31; refine (awake31_any _).mono ?_; rintro e hb1w ⟨rfl, hb1⟩; obtain ⟨hb1c, hb1f⟩ := bcell hb1; have hb1s := hb1.size; (try simp only [World.size_alloc] at hb1s); (try (have : w.heap.size < hb1w.heap.size := by omega)); (try (have : w.heap.size + 1 < hb1w.heap.size := by omega)); (try (have : w.heap.size + 1 + 1 < hb1w.heap.size := by omega)); (try (have : w.heap.size + 1 + 1 + 1 < hb1w.heap.size := by omega)); (try (have : bX < hb1w.heap.size := by omega)); (try (have : bY < hb1w.heap.size := by omega)); (try (have : bZ < hb1w.heap.size := by omega))) | (go_at_call 33; refine (sAngle_any _ _ _ _ _ _ _ _ _ HSZ.out (HM.out _ (by (repeat' (first | (with_reducible exact Below.refl _ _) | (with_reducible assumption) | (with_reducible refine below_alloc ?_ _) | (with_reducible refine Below.drew ?_) | (with_reducible refine below_drewN ?_ _) | (with_reducible refine below_step (by assumption) ?_) | (with_reducible refine below_later ?_ _) | (with_reducible refine Below.setCell ?_ ?_ _) | go_size)))) (HD.out _ (by (repeat' (first | (with_reducible exact Below.refl _ _) | (with_reducible assumption) | (with_reducible refine below_alloc ?_ _) | (with_reducible refine Below.drew ?_) | (with_reducible refine below_drewN ?_ _) | (with_reducible refine below_step (by assumption) ?_) | (with_reducible refine below_later ?_ _) | (with_reducible refine Below.setCell ?_ ?_ _) | go_size)))) (HE.out _ (by (repeat' (first | (with_reducible exact Below.refl _ _) | (with_reducible assumption) | (with_reducible refine below_alloc ?_ _) | (with_reducible refine Below.drew ?_) | (with_reducible refine below_drewN ?_ _) | (with_reducible refine below_step (by assumption) ?_) | (with_reducible refine below_later ?_ _) | (with_reducible refine Below.setCell ?_ ?_ _) | go_size)))) _ _ _ _).mono ?_; rintro e hb2w ⟨rfl, hb2⟩; obtain ⟨hb2c, hb2f⟩ := bcell hb2; have hb2s := hb2.size; (try simp only [World.size_alloc] at hb2s); (try (have : w.heap.size < hb2w.heap.size := by omega)); (try (have : w.heap.size + 1 < hb2w.heap.size := by omega)); (try (have : w.heap.size + 1 + 1 < hb2w.heap.size := by omega)); (try (have : w.heap.size + 1 + 1 + 1 < hb2w.heap.size := by omega)); (try (have : bX < hb2w.heap.size := by omega)); (try (have : bY < hb2w.heap.size := by omega)); (try (have : bZ < hb2w.heap.size := by omega))) | (go_at_call 49; refine (sDwell_any _ _ _ _ _ _ _ _ _ HSZ.out (HM.out _ (by (repeat' (first | (with_reducible exact Below.refl _ _) | (with_reducible assumption) | (with_reducible refine below_alloc ?_ _) | (with_reducible refine Below.drew ?_) | (with_reducible refine below_drewN ?_ _) | (with_reducible refine below_step (by assumption) ?_) | (with_reducible refine below_later ?_ _) | (with_reducible refine Below.setCell ?_ ?_ _) | go_size)))) (HD.out _ (by (repeat' (first | (with_reducible exact Below.refl _ _) | (with_reducible assumption) | (with_reducible refine below_alloc ?_ _) | (with_reducible refine Below.drew ?_) | (with_reducible refine below_drewN ?_ _) | (with_reducible refine below_step (by assumption) ?_) | (with_reducible refine below_later ?_ _) | (with_reducible refine Below.setCell ?_ ?_ _) | go_size)))) (HE.out _ (by (repeat' (first | (with_reducible exact Below.refl _ _) | (with_reducible assumption) | (with_reducible refine below_alloc ?_ _) | (with_reducible refine Below.drew ?_) | (with_reducible refine below_drewN ?_ _) | (with_reducible refine below_step (by assumption) ?_) | (with_reducible refine below_later ?_ _) | (with_reducible refine Below.setCell ?_ ?_ _) | go_size)))) _ _).mono ?_; rintro e hb3w ⟨rfl, hb3⟩; obtain ⟨hb3c, hb3f⟩ := bcell hb3; have hb3s := hb3.size; (try simp only [World.size_alloc] at hb3s); (try (have : w.heap.size < hb3w.heap.size := by omega)); (try (have : w.heap.size + 1 < hb3w.heap.size := by omega)); (try (have : w.heap.size + 1 + 1 < hb3w.heap.size := by omega)); (try (have : w.heap.size + 1 + 1 + 1 < hb3w.heap.size := by omega)); (try (have : bX < hb3w.heap.size := by omega)); (try (have : bY < hb3w.heap.size := by omega)); (try (have : bZ < hb3w.heap.size := by omega))) | (go_at_call 52; refine (sFires_good (some ⟨hb3w.heap.size, 0, none⟩) (some ⟨hb3w.heap.size + 1 + 1, 0, none⟩) (some ⟨hb3w.heap.size + 1 + 1 + 1, 0, none⟩) (some ⟨hb3w.heap.size + 1 + 1 + 1 + 1, 0, none⟩) (some ⟨hb3w.heap.size + 1 + 1 + 1 + 1 + 1, 0, none⟩) 1 1 1 1 1 [1] [a] [d] [0] [0] 0 _ (ints1 (by go_size) (by simp [go_sem]) (by decide)) (ints1 (by go_size) (by simp [go_sem]) HWA.out) (ints1 (by go_size) (by simp [go_sem]) HWD.out) (ints1 (by go_size) (by simp [go_sem]) (by decide)) (ints1 (by go_size) (by simp [go_sem]) (by decide)) HOK.out).mono ?_; rintro e hb4w ⟨r4, k4, rfl, ho4, hb4⟩; have HO4 := Lib.hid ho4; clear ho4; obtain ⟨hb4c, hb4f⟩ := bcell hb4; have hb4s := hb4.size))
    obtain ⟨g, rfl, _, hg, _, _, hcg⟩ := HO4.out.cells frC_len (by simp [frL, List.range_succ])
    have c0 := hcg 0 0 (1, a, d, 0, 0) _ rfl rfl
    have c1 := hcg 0 1 (1, a, d, 0, 0) _ rfl rfl
    have c2 := hcg 0 2 (1, a, d, 0, 0) _ rfl rfl
    have c3 := hcg 0 3 (1, a, d, 0, 0) _ rfl rfl
    have c4 := hcg 0 4 (1, a, d, 0, 0) _ rfl rfl
    have c5 := hcg 0 5 (1, a, d, 0, 0) _ rfl rfl
    have c6 := hcg 0 6 (1, a, d, 0, 0) _ rfl rfl
    simp only [Nat.zero_mul, Nat.zero_add] at c0 c1 c2 c3 c4 c5 c6
    clear hcg
    have q1 : hb3w.heap.size + 1 < hb4w.heap.size := by simp only [World.size_alloc] at hb4s; omega
    have q2 : hb3w.heap.size < hb4w.heap.size := by omega
    have HIN : Hid (IsInts hb4w (some ⟨hb3w.heap.size, 0, none⟩) 1 .i64 [1]) := Lib.hid (ints1 q2 (by simp [go_sem, *]) (by decide))
    (refine wp_region_later (by kernel_rfl) (by kernel_rfl) ?_; (repeat (go_big_quiet_step ((go_at_call 53; exact later_call (HVF.out _ _ (HIN.out.later (Later.h _))))))); refine wpQuiet_nil ?_; rintro _ ⟨e1, rfl⟩; have e1s := e1.h.size; (try simp only [World.size_alloc, World.size_drewN, World.drewN_heap] at e1s); (try (have : w.heap.size < e1.w.heap.size := by omega)); (try (have : w.heap.size + 1 < e1.w.heap.size := by omega)); (try (have : w.heap.size + 1 + 1 < e1.w.heap.size := by omega)); (try (have : w.heap.size + 1 + 1 + 1 < e1.w.heap.size := by omega)); (try (have : bX < e1.w.heap.size := by omega)); (try (have : bY < e1.w.heap.size := by omega)); (try (have : bZ < e1.w.heap.size := by omega)))
    go_wp2
    go_ret
    exact ⟨by first | rfl | (simp; done) | (simp [*]; done), by (repeat' (first | (with_reducible exact Below.refl _ _) | (with_reducible assumption) | (with_reducible refine below_alloc ?_ _) | (with_reducible refine Below.drew ?_) | (with_reducible refine below_drewN ?_ _) | (with_reducible refine below_step (by assumption) ?_) | (with_reducible refine below_later ?_ _) | (with_reducible refine Below.setCell ?_ ?_ _) | go_size))⟩

set_option maxRecDepth 100000 in
theorem suse_holds : Rows.SparkUsableSaid :=
  OpenClaim.holds_of_wide 13 Try.f13 rfl rfl rfl rfl rfl rfl rfl ⟨rfl, rfl, rfl, rfl, rfl⟩ rfl rfl rfl rfl rfl (by kernel_rfl) Try.func13 (by kernel_rfl)
    (of_decide_eq_true (by kernel_rfl)) (by unfold Func.isWrapper; first | (rw [if_pos (by decide +kernel)]; kernel_rfl) | (rw [if_neg (by decide +kernel)]; exact ⟨rfl, rfl⟩))
    (fun os started H enc _ => by
      refine law_frame started (s := Rows.sparkUsableSpec) (conds := Rows.sparkUsableRow.domain) Try.func13 (by kernel_rfl) rfl 4 rfl Try.underlying4 (by decide +kernel) (fun ds h => ?_)
        (ChangeSpec.witness6 (enc := enc) (C := Try.checked) false ⟨#[], #[.agg #[.slice none 0 0, .slice none 0 0, .slice none 0 0, .slice none 0 0, .slice none 0 0, .slice none 0 0, .slice none 0 0, .slice none 0 0, .slice none 0 0, .slice none 0 0, .slice none 0 0, .slice none 0 0, .slice none 0 0, .slice none 0 0, .slice none 0 0, .slice none 0 0, .slice none 0 0, .slice none 0 0, .slice none 0 0, .slice none 0 0, .int .i64 0, .int .i64 0, .int .i64 0, .int .i64 0], .int .i64 0, .int .i64 0, .int .i64 0, .int .i64 0, .int .i64 0, .int .i64 0], []⟩ 12 (by kernel_rfl) (by kernel_rfl) (by kernel_rfl) (by kernel_rfl)) ?_
      · match ds, h with
        | [_, _, _, _, _, _, _], _ => rfl
      · intro W base args ds p hval hA _
        rw [Try.params13] at hA hval
        obtain ⟨v0, vs0, d0, ds0, p0, q0, hargs, rfl, rfl, h0, r0⟩ := trodAll_cons hA
        obtain ⟨v1, vs1, d1, ds1, p1, q1, rfl, rfl, rfl, h1, r1⟩ := trodAll_cons r0
        obtain ⟨v2, vs2, d2, ds2, p2, q2, rfl, rfl, rfl, h2, r2⟩ := trodAll_cons r1
        obtain ⟨v3, vs3, d3, ds3, p3, q3, rfl, rfl, rfl, h3, r3⟩ := trodAll_cons r2
        obtain ⟨v4, vs4, d4, ds4, p4, q4, rfl, rfl, rfl, h4, r4⟩ := trodAll_cons r3
        obtain ⟨v5, vs5, d5, ds5, p5, q5, rfl, rfl, rfl, h5, r5⟩ := trodAll_cons r4
        obtain ⟨v6, vs6, d6, ds6, p6, q6, rfl, rfl, rfl, h6, r6⟩ := trodAll_cons r5
        obtain ⟨rfl, rfl, rfl⟩ := trodAll_nil r6
        obtain rfl : args = #[v0, v1, v2, v3, v4, v5, v6] := by cases args; simp_all
        obtain ⟨cs0, rfl, k0⟩ := arg_agg Try.underlying31 (hval 0 _ v0 rfl rfl) h0
        obtain ⟨r0_0, c0_0, a0_0, r1_0, c1_0, a1_0, r2_0, c2_0, a2_0, r3_0, c3_0, a3_0, r4_0, c4_0, a4_0, r5_0, c5_0, a5_0, r6_0, c6_0, a6_0, r7_0, c7_0, a7_0, r8_0, c8_0, a8_0, r9_0, c9_0, a9_0, r10_0, c10_0, a10_0, r11_0, c11_0, a11_0, r12_0, c12_0, a12_0, r13_0, c13_0, a13_0, r14_0, c14_0, a14_0, r15_0, c15_0, a15_0, r16_0, c16_0, a16_0, r17_0, c17_0, a17_0, r18_0, c18_0, a18_0, r19_0, c19_0, a19_0, a20_0, a21_0, a22_0, a23_0, rfl, g0_0, g1_0, g2_0, g3_0, g4_0, g5_0, g6_0, g7_0, g8_0, g9_0, g10_0, g11_0, g12_0, g13_0, g14_0, g15_0, g16_0, g17_0, g18_0, g19_0, g20_0, g21_0, g22_0, g23_0⟩ := open_Tables k0
        obtain ⟨b1, rfl, rfl, rfl, w1⟩ := open_int Try.underlying3 (hval 1 _ v1 rfl rfl) h1
        obtain ⟨b2, rfl, rfl, rfl, w2⟩ := open_int Try.underlying3 (hval 2 _ v2 rfl rfl) h2
        obtain ⟨b3, rfl, rfl, rfl, w3⟩ := open_int Try.underlying3 (hval 3 _ v3 rfl rfl) h3
        obtain ⟨b4, rfl, rfl, rfl, w4⟩ := open_int Try.underlying3 (hval 4 _ v4 rfl rfl) h4
        obtain ⟨b5, rfl, rfl, rfl, w5⟩ := open_int Try.underlying3 (hval 5 _ v5 rfl rfl) h5
        obtain ⟨b6, rfl, rfl, rfl, w6⟩ := open_int Try.underlying3 (hval 6 _ v6 rfl rfl) h6
        apply suse_walk <;> (first | assumption | rfl))
#print axioms suse_holds

end Go.Proofs.Ytohdbneaganfbaa
