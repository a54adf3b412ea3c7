/- The law AirRises returns true for all tables and numbers. No conditions. Printed by a program. -/
import Derived.Test.YtohdbneaganfbaaRises0
import Derived.Test.YtohdbneaganfbaaRises1
import Derived.Test.YtohdbneaganfbaaRises2
namespace Go.Proofs.Ytohdbneaganfbaa
set_option linter.unusedVariables false
set_option linter.unusedSimpArgs false
open Go.RowKit Go.ChangeShapes Go.WideShapes Go.ChangeAt

set_option maxRecDepth 100000 in
set_option maxHeartbeats 4000000 in
theorem rises_great (tab : Array Value) (rX rY rZ rx ry : Option Addr) (cX cY cZ cx cy : Nat) (X Y : List Int) (Z : List (List Int)) (xs ys : List Int) (w : World) (hsz : tab.size = 24) (h6 : tab[0]? = some (.slice rX X.length cX)) (h7 : tab[1]? = some (.slice rY Y.length cY)) (h8 : tab[2]? = some (.slice rZ Z.length cZ)) (h18 : tab[12]? = some (.slice rx xs.length cx)) (h19 : tab[13]? = some (.slice ry ys.length cy)) (hX : IsInts w rX cX .i64 X) (hY : IsInts w rY cY .i64 Y) (hZ : IsRows w rZ cZ Z) (hx : IsInts w rx cx .i64 xs) (hy : IsInts w ry cy .i64 ys) (s p q t c : Int) (hg : great5 X.length Y.length Z.length xs.length ys.length = true) : Calls Try.prog 4 #[.agg tab, .int .i64 s, .int .i64 p, .int .i64 q, .int .i64 t, .int .i64 c] w fun e w' => e = .returned (.bool true) ∧ Below w.heap.size w w' := by
  have hM : MapAt w tab 0 1 2 X Y Z := ⟨rX, cX, rY, cY, rZ, cZ, h6, h7, h8, hX, hY, hZ⟩
  have hE : CurAt w tab 12 13 xs ys := ⟨rx, cx, ry, cy, h18, h19, hx, hy⟩
  have HM : Hid (∀ w', Below w.heap.size w w' → MapAt w' tab 0 1 2 X Y Z) := Lib.hid (fun _ h => hM.later h)
  have HE : Hid (∀ w', Below w.heap.size w w' → CurAt w' tab 12 13 xs ys) := Lib.hid (fun _ h => hE.later h)
  have HI : Hid ((Try.prog.info? 31).map (·.size) = some tab.size) := Lib.hid (by rw [hsz]; kernel_rfl)
  have HSZ := Lib.hid hsz
  clear hsz hM hE h6 h7 h8 h18 h19 hX hY hZ hx hy
  go_enter Try.func4, Try.ntmps4
  go_wp2_with (first | (with_reducible refine wpList_load_row rfl 31 (.tmp 6) rfl w.heap.size (by with_unfolding_all rfl) 31 tab (0, 0) _ ((Below.block (show Below (w.alloc (.cells tab 31)).heap.size (w.alloc (.cells tab 31)) _ by (repeat' (first | (with_reducible exact Below.refl _ _) | (with_reducible assumption) | (with_reducible refine below_alloc ?_ _) | (with_reducible refine Below.drew ?_) | (with_reducible refine below_drewN ?_ _) | (with_reducible refine below_step (by assumption) ?_) | (with_reducible refine below_later ?_ _) | (with_reducible refine Below.setCell ?_ ?_ _) | go_size))) _ (by simp)).trans (heap_alloc_new _ _)) Try.underlying31 rfl HI.out ?_) | (go_at_call 15; refine (awake29_any _).mono ?_; rintro e hb1w ⟨rfl, hb1⟩; obtain ⟨hb1c, hb1f⟩ := bcell hb1; have hb1s := hb1.size; (try simp only [World.size_alloc] at hb1s); (try (have : w.heap.size < hb1w.heap.size := by omega)); (try (have : w.heap.size + 1 < hb1w.heap.size := by omega)); (try (have : w.heap.size + 1 + 1 < hb1w.heap.size := by omega)); (try (have : w.heap.size + 1 + 1 + 1 < hb1w.heap.size := by omega)); (try (have : bX < hb1w.heap.size := by omega)); (try (have : bY < hb1w.heap.size := by omega)); (try (have : bZ < hb1w.heap.size := by omega))) | (go_at_call 16; refine (great29_any _ _ _ _ _ _ _ HSZ.out (HM.out _ (by (repeat' (first | (with_reducible exact Below.refl _ _) | (with_reducible assumption) | (with_reducible refine below_alloc ?_ _) | (with_reducible refine Below.drew ?_) | (with_reducible refine below_drewN ?_ _) | (with_reducible refine below_step (by assumption) ?_) | (with_reducible refine below_later ?_ _) | (with_reducible refine Below.setCell ?_ ?_ _) | go_size)))) (HE.out _ (by (repeat' (first | (with_reducible exact Below.refl _ _) | (with_reducible assumption) | (with_reducible refine below_alloc ?_ _) | (with_reducible refine Below.drew ?_) | (with_reducible refine below_drewN ?_ _) | (with_reducible refine below_step (by assumption) ?_) | (with_reducible refine below_later ?_ _) | (with_reducible refine Below.setCell ?_ ?_ _) | go_size))))).mono ?_; rintro e hb2w ⟨rfl, hb2⟩; obtain ⟨hb2c, hb2f⟩ := bcell hb2; have hb2s := hb2.size; (try simp only [World.size_alloc] at hb2s); (try (have : w.heap.size < hb2w.heap.size := by omega)); (try (have : w.heap.size + 1 < hb2w.heap.size := by omega)); (try (have : w.heap.size + 1 + 1 < hb2w.heap.size := by omega)); (try (have : w.heap.size + 1 + 1 + 1 < hb2w.heap.size := by omega)); (try (have : bX < hb2w.heap.size := by omega)); (try (have : bY < hb2w.heap.size := by omega)); (try (have : bZ < hb2w.heap.size := by omega))))
  go_ret
  exact ⟨by first | rfl | (simp; done) | (simp [*]; done), by (repeat' (first | (with_reducible exact Below.refl _ _) | (with_reducible assumption) | (with_reducible refine below_alloc ?_ _) | (with_reducible refine Below.drew ?_) | (with_reducible refine below_drewN ?_ _) | (with_reducible refine below_step (by assumption) ?_) | (with_reducible refine below_later ?_ _) | (with_reducible refine Below.setCell ?_ ?_ _) | go_size))⟩

set_option maxRecDepth 100000 in
set_option maxHeartbeats 4000000 in
theorem rises_bad (tab : Array Value) (rX rY rZ rx ry : Option Addr) (cX cY cZ cx cy : Nat) (X Y : List Int) (Z : List (List Int)) (xs ys : List Int) (w : World) (hsz : tab.size = 24) (h6 : tab[0]? = some (.slice rX X.length cX)) (h7 : tab[1]? = some (.slice rY Y.length cY)) (h8 : tab[2]? = some (.slice rZ Z.length cZ)) (h18 : tab[12]? = some (.slice rx xs.length cx)) (h19 : tab[13]? = some (.slice ry ys.length cy)) (hX : IsInts w rX cX .i64 X) (hY : IsInts w rY cY .i64 Y) (hZ : IsRows w rZ cZ Z) (hx : IsInts w rx cx .i64 xs) (hy : IsInts w ry cy .i64 ys) (s p q t c : Int) (hg : great5 X.length Y.length Z.length xs.length ys.length = false) (hb : airB X Y Z xs ys = false) : Calls Try.prog 4 #[.agg tab, .int .i64 s, .int .i64 p, .int .i64 q, .int .i64 t, .int .i64 c] w fun e w' => e = .returned (.bool true) ∧ Below w.heap.size w w' := by
  have hM : MapAt w tab 0 1 2 X Y Z := ⟨rX, cX, rY, cY, rZ, cZ, h6, h7, h8, hX, hY, hZ⟩
  have hE : CurAt w tab 12 13 xs ys := ⟨rx, cx, ry, cy, h18, h19, hx, hy⟩
  have HM : Hid (∀ w', Below w.heap.size w w' → MapAt w' tab 0 1 2 X Y Z) := Lib.hid (fun _ h => hM.later h)
  have HE : Hid (∀ w', Below w.heap.size w w' → CurAt w' tab 12 13 xs ys) := Lib.hid (fun _ h => hE.later h)
  have HI : Hid ((Try.prog.info? 31).map (·.size) = some tab.size) := Lib.hid (by rw [hsz]; kernel_rfl)
  have HSZ := Lib.hid hsz
  clear hsz hM hE h6 h7 h8 h18 h19 hX hY hZ hx hy
  go_enter Try.func4, Try.ntmps4
  go_wp2_with (first | (with_reducible refine wpList_load_row rfl 31 (.tmp 6) rfl w.heap.size (by with_unfolding_all rfl) 31 tab (0, 0) _ ((Below.block (show Below (w.alloc (.cells tab 31)).heap.size (w.alloc (.cells tab 31)) _ by (repeat' (first | (with_reducible exact Below.refl _ _) | (with_reducible assumption) | (with_reducible refine below_alloc ?_ _) | (with_reducible refine Below.drew ?_) | (with_reducible refine below_drewN ?_ _) | (with_reducible refine below_step (by assumption) ?_) | (with_reducible refine below_later ?_ _) | (with_reducible refine Below.setCell ?_ ?_ _) | go_size))) _ (by simp)).trans (heap_alloc_new _ _)) Try.underlying31 rfl HI.out ?_) | (with_reducible refine wpList_load_rowG 31 (.tmp 6) rfl (by first | with_unfolding_all rfl | (simp [Region.wanted, yielded]; done) | (simp [Region.wanted, yielded, *]; done)) w.heap.size (by with_unfolding_all rfl) 31 tab (0, 0) _ ((Below.block (show Below (w.alloc (.cells tab 31)).heap.size (w.alloc (.cells tab 31)) _ by (repeat' (first | (with_reducible exact Below.refl _ _) | (with_reducible assumption) | (with_reducible refine below_alloc ?_ _) | (with_reducible refine Below.drew ?_) | (with_reducible refine below_drewN ?_ _) | (with_reducible refine below_step (by assumption) ?_) | (with_reducible refine below_later ?_ _) | (with_reducible refine Below.setCell ?_ ?_ _) | go_size))) _ (by simp)).trans (heap_alloc_new _ _)) Try.underlying31 rfl HI.out ?_) | (go_at_call 15; refine (awake29_any _).mono ?_; rintro e hb1w ⟨rfl, hb1⟩; obtain ⟨hb1c, hb1f⟩ := bcell hb1; have hb1s := hb1.size; (try simp only [World.size_alloc] at hb1s); (try (have : w.heap.size < hb1w.heap.size := by omega)); (try (have : w.heap.size + 1 < hb1w.heap.size := by omega)); (try (have : w.heap.size + 1 + 1 < hb1w.heap.size := by omega)); (try (have : w.heap.size + 1 + 1 + 1 < hb1w.heap.size := by omega)); (try (have : bX < hb1w.heap.size := by omega)); (try (have : bY < hb1w.heap.size := by omega)); (try (have : bZ < hb1w.heap.size := by omega))) | (go_at_call 16; refine (great29_any _ _ _ _ _ _ _ HSZ.out (HM.out _ (by (repeat' (first | (with_reducible exact Below.refl _ _) | (with_reducible assumption) | (with_reducible refine below_alloc ?_ _) | (with_reducible refine Below.drew ?_) | (with_reducible refine below_drewN ?_ _) | (with_reducible refine below_step (by assumption) ?_) | (with_reducible refine below_later ?_ _) | (with_reducible refine Below.setCell ?_ ?_ _) | go_size)))) (HE.out _ (by (repeat' (first | (with_reducible exact Below.refl _ _) | (with_reducible assumption) | (with_reducible refine below_alloc ?_ _) | (with_reducible refine Below.drew ?_) | (with_reducible refine below_drewN ?_ _) | (with_reducible refine below_step (by assumption) ?_) | (with_reducible refine below_later ?_ _) | (with_reducible refine Below.setCell ?_ ?_ _) | go_size))))).mono ?_; rintro e hb2w ⟨rfl, hb2⟩; obtain ⟨hb2c, hb2f⟩ := bcell hb2; have hb2s := hb2.size; (try simp only [World.size_alloc] at hb2s); (try (have : w.heap.size < hb2w.heap.size := by omega)); (try (have : w.heap.size + 1 < hb2w.heap.size := by omega)); (try (have : w.heap.size + 1 + 1 < hb2w.heap.size := by omega)); (try (have : w.heap.size + 1 + 1 + 1 < hb2w.heap.size := by omega)); (try (have : bX < hb2w.heap.size := by omega)); (try (have : bY < hb2w.heap.size := by omega)); (try (have : bZ < hb2w.heap.size := by omega))) | (go_at_call 22; refine (r29valid_any _ _ _ _ _ _ _ HSZ.out (HM.out _ (by (repeat' (first | (with_reducible exact Below.refl _ _) | (with_reducible assumption) | (with_reducible refine below_alloc ?_ _) | (with_reducible refine Below.drew ?_) | (with_reducible refine below_drewN ?_ _) | (with_reducible refine below_step (by assumption) ?_) | (with_reducible refine below_later ?_ _) | (with_reducible refine Below.setCell ?_ ?_ _) | go_size)))) (HE.out _ (by (repeat' (first | (with_reducible exact Below.refl _ _) | (with_reducible assumption) | (with_reducible refine below_alloc ?_ _) | (with_reducible refine Below.drew ?_) | (with_reducible refine below_drewN ?_ _) | (with_reducible refine below_step (by assumption) ?_) | (with_reducible refine below_later ?_ _) | (with_reducible refine Below.setCell ?_ ?_ _) | go_size))))).mono ?_; rintro e hb7w ⟨rfl, hb7⟩; obtain ⟨hb7c, hb7f⟩ := bcell hb7; have hb7s := hb7.size; (try simp only [World.size_alloc] at hb7s); (try (have : w.heap.size < hb7w.heap.size := by omega)); (try (have : w.heap.size + 1 < hb7w.heap.size := by omega)); (try (have : w.heap.size + 1 + 1 < hb7w.heap.size := by omega)); (try (have : w.heap.size + 1 + 1 + 1 < hb7w.heap.size := by omega)); (try (have : bX < hb7w.heap.size := by omega)); (try (have : bY < hb7w.heap.size := by omega)); (try (have : bZ < hb7w.heap.size := by omega))))
  go_ret
  exact ⟨by first | rfl | (simp; done) | (simp [*]; done), by (repeat' (first | (with_reducible exact Below.refl _ _) | (with_reducible assumption) | (with_reducible refine below_alloc ?_ _) | (with_reducible refine Below.drew ?_) | (with_reducible refine below_drewN ?_ _) | (with_reducible refine below_step (by assumption) ?_) | (with_reducible refine below_later ?_ _) | (with_reducible refine Below.setCell ?_ ?_ _) | go_size))⟩

set_option maxRecDepth 100000 in
set_option maxHeartbeats 4000000 in
theorem rises_walk (tab : Array Value) (rX rY rZ rx ry : Option Addr) (cX cY cZ cx cy : Nat) (X Y : List Int) (Z : List (List Int)) (xs ys : List Int) (w : World) (hsz : tab.size = 24) (h6 : tab[0]? = some (.slice rX X.length cX)) (h7 : tab[1]? = some (.slice rY Y.length cY)) (h8 : tab[2]? = some (.slice rZ Z.length cZ)) (h18 : tab[12]? = some (.slice rx xs.length cx)) (h19 : tab[13]? = some (.slice ry ys.length cy)) (hX : IsInts w rX cX .i64 X) (hY : IsInts w rY cY .i64 Y) (hZ : IsRows w rZ cZ Z) (hx : IsInts w rx cx .i64 xs) (hy : IsInts w ry cy .i64 ys) (s p q t c : Int) : Calls Try.prog 4 #[.agg tab, .int .i64 s, .int .i64 p, .int .i64 q, .int .i64 t, .int .i64 c] w fun e w' => e = .returned (.bool true) ∧ Below w.heap.size w w' := by
  cases hg : great5 X.length Y.length Z.length xs.length ys.length with
  | true => exact rises_great tab rX rY rZ rx ry cX cY cZ cx cy X Y Z xs ys w hsz h6 h7 h8 h18 h19 hX hY hZ hx hy s p q t c hg
  | false =>
    cases hb : airB X Y Z xs ys with
    | false => exact rises_bad tab rX rY rZ rx ry cX cY cZ cx cy X Y Z xs ys w hsz h6 h7 h8 h18 h19 hX hY hZ hx hy s p q t c hg hb
    | true =>
      obtain ⟨lo, hlo⟩ : ∃ x, (if q < p then q else p) = x := ⟨_, rfl⟩
      obtain ⟨hi, hhi⟩ : ∃ x, (if p < q then q else p) = x := ⟨_, rfl⟩
      have hle : lo ≤ hi := by omega
      rcases rises_press (s := s) (q := c) (t := t) (airB_true.1 hb) with ⟨g, h3, g2, g3⟩ | ⟨h3, l, h4, g2⟩ | ⟨x, h3, x0, x1, v, h4, g2, rfl | ⟨g3, d, h5, g4⟩⟩
      · rcases rises_lr (X := X) (Y := Y) (Z := Z) (xs := xs) (ys := ys) (s := s) (t := t) hle with ⟨a, e, h1, g1⟩ | ⟨a, b, f, h1, h2, g1⟩ | ⟨a, b, h1, h2, g1⟩
        · obtain ⟨⟨b, f⟩, h2⟩ : ∃ x, achg2 X Y Z xs ys s hi t = x := ⟨_, rfl⟩
          exact rises_0_0 tab rX rY rZ rx ry cX cY cZ cx cy X Y Z xs ys w hsz h6 h7 h8 h18 h19 hX hY hZ hx hy s p q t c hg hb lo hi hlo hhi a e h1 g1 b f h2 g h3 g2 g3
        · exact rises_1_0 tab rX rY rZ rx ry cX cY cZ cx cy X Y Z xs ys w hsz h6 h7 h8 h18 h19 hX hY hZ hx hy s p q t c hg hb lo hi hlo hhi a b f h1 h2 g1 g h3 g2 g3
        · exact rises_2_0 tab rX rY rZ rx ry cX cY cZ cx cy X Y Z xs ys w hsz h6 h7 h8 h18 h19 hX hY hZ hx hy s p q t c hg hb lo hi hlo hhi a b h1 h2 g1 g h3 g2 g3
      · rcases rises_lr (X := X) (Y := Y) (Z := Z) (xs := xs) (ys := ys) (s := s) (t := t) hle with ⟨a, e, h1, g1⟩ | ⟨a, b, f, h1, h2, g1⟩ | ⟨a, b, h1, h2, g1⟩
        · obtain ⟨⟨b, f⟩, h2⟩ : ∃ x, achg2 X Y Z xs ys s hi t = x := ⟨_, rfl⟩
          exact rises_0_1 tab rX rY rZ rx ry cX cY cZ cx cy X Y Z xs ys w hsz h6 h7 h8 h18 h19 hX hY hZ hx hy s p q t c hg hb lo hi hlo hhi a e h1 g1 b f h2 l h3 h4 g2
        · exact rises_1_1 tab rX rY rZ rx ry cX cY cZ cx cy X Y Z xs ys w hsz h6 h7 h8 h18 h19 hX hY hZ hx hy s p q t c hg hb lo hi hlo hhi a b f h1 h2 g1 l h3 h4 g2
        · exact rises_2_1 tab rX rY rZ rx ry cX cY cZ cx cy X Y Z xs ys w hsz h6 h7 h8 h18 h19 hX hY hZ hx hy s p q t c hg hb lo hi hlo hhi a b h1 h2 g1 l h3 h4 g2
      · rcases rises_lr (X := X) (Y := Y) (Z := Z) (xs := xs) (ys := ys) (s := s) (t := t) hle with ⟨a, e, h1, g1⟩ | ⟨a, b, f, h1, h2, g1⟩ | ⟨a, b, h1, h2, g1⟩
        · obtain ⟨⟨b, f⟩, h2⟩ : ∃ x, achg2 X Y Z xs ys s hi t = x := ⟨_, rfl⟩
          exact rises_0_2 tab rX rY rZ rx ry cX cY cZ cx cy X Y Z xs ys w hsz h6 h7 h8 h18 h19 hX hY hZ hx hy s p q t c hg hb lo hi hlo hhi a e h1 g1 b f h2 v h3 h4 g2
        · exact rises_1_2 tab rX rY rZ rx ry cX cY cZ cx cy X Y Z xs ys w hsz h6 h7 h8 h18 h19 hX hY hZ hx hy s p q t c hg hb lo hi hlo hhi a b f h1 h2 g1 v h3 h4 g2
        · exact rises_2_2 tab rX rY rZ rx ry cX cY cZ cx cy X Y Z xs ys w hsz h6 h7 h8 h18 h19 hX hY hZ hx hy s p q t c hg hb lo hi hlo hhi a b h1 h2 g1 v h3 h4 g2
      · rcases rises_lr (X := X) (Y := Y) (Z := Z) (xs := xs) (ys := ys) (s := s) (t := t) hle with ⟨a, e, h1, g1⟩ | ⟨a, b, f, h1, h2, g1⟩ | ⟨a, b, h1, h2, g1⟩
        · obtain ⟨⟨b, f⟩, h2⟩ : ∃ x, achg2 X Y Z xs ys s hi t = x := ⟨_, rfl⟩
          exact rises_0_3 tab rX rY rZ rx ry cX cY cZ cx cy X Y Z xs ys w hsz h6 h7 h8 h18 h19 hX hY hZ hx hy s p q t c hg hb lo hi hlo hhi a e h1 g1 b f h2 x v d h3 x0 x1 h4 g2 g3 h5 g4
        · exact rises_1_3 tab rX rY rZ rx ry cX cY cZ cx cy X Y Z xs ys w hsz h6 h7 h8 h18 h19 hX hY hZ hx hy s p q t c hg hb lo hi hlo hhi a b f h1 h2 g1 x v d h3 x0 x1 h4 g2 g3 h5 g4
        · exact rises_2_3 tab rX rY rZ rx ry cX cY cZ cx cy X Y Z xs ys w hsz h6 h7 h8 h18 h19 hX hY hZ hx hy s p q t c hg hb lo hi hlo hhi a b h1 h2 g1 x v d h3 x0 x1 h4 g2 g3 h5 g4

set_option maxRecDepth 100000 in
theorem rises_holds : Rows.AirRisesSaid :=
  OpenClaim.holds_of_wide 4 Try.f4 rfl rfl rfl rfl rfl rfl rfl ⟨rfl, rfl, rfl, rfl, rfl⟩ rfl rfl rfl rfl rfl (by kernel_rfl) Try.func4 (by kernel_rfl)
    (of_decide_eq_true (by kernel_rfl)) (by unfold Func.isWrapper; first | (rw [if_pos (by decide +kernel)]; kernel_rfl) | (rw [if_neg (by decide +kernel)]; exact ⟨rfl, rfl⟩))
    (fun os started H enc _ => by
      refine law_frame started (s := Rows.airRisesSpec) (conds := Rows.airRisesRow.domain) Try.func4 (by kernel_rfl) rfl 4 rfl Try.underlying4 (by decide +kernel) (fun ds h => ?_)
        (ChangeSpec.witness6 (enc := enc) (C := Try.checked) false ⟨#[], #[.agg #[.slice none 0 0, .slice none 0 0, .slice none 0 0, .slice none 0 0, .slice none 0 0, .slice none 0 0, .slice none 0 0, .slice none 0 0, .slice none 0 0, .slice none 0 0, .slice none 0 0, .slice none 0 0, .slice none 0 0, .slice none 0 0, .slice none 0 0, .slice none 0 0, .slice none 0 0, .slice none 0 0, .slice none 0 0, .slice none 0 0, .int .i64 0, .int .i64 0, .int .i64 0, .int .i64 0], .int .i64 0, .int .i64 0, .int .i64 0, .int .i64 0, .int .i64 0], []⟩ 12 (by kernel_rfl) (by kernel_rfl) (by kernel_rfl) (by kernel_rfl)) ?_
      · match ds, h with
        | [_, _, _, _, _, _], _ => rfl
      · intro W base args ds p hval hA _
        rw [Try.params4] at hA hval
        obtain ⟨v0, vs0, d0, ds0, p0, q0, hargs, rfl, rfl, h0, r0⟩ := trodAll_cons hA
        obtain ⟨v1, vs1, d1, ds1, p1, q1, rfl, rfl, rfl, h1, r1⟩ := trodAll_cons r0
        obtain ⟨v2, vs2, d2, ds2, p2, q2, rfl, rfl, rfl, h2, r2⟩ := trodAll_cons r1
        obtain ⟨v3, vs3, d3, ds3, p3, q3, rfl, rfl, rfl, h3, r3⟩ := trodAll_cons r2
        obtain ⟨v4, vs4, d4, ds4, p4, q4, rfl, rfl, rfl, h4, r4⟩ := trodAll_cons r3
        obtain ⟨v5, vs5, d5, ds5, p5, q5, rfl, rfl, rfl, h5, r5⟩ := trodAll_cons r4
        obtain ⟨rfl, rfl, rfl⟩ := trodAll_nil r5
        obtain rfl : args = #[v0, v1, v2, v3, v4, v5] := by cases args; simp_all
        obtain ⟨cs0, rfl, k0⟩ := arg_agg Try.underlying31 (hval 0 _ v0 rfl rfl) h0
        obtain ⟨r0_0, c0_0, a0_0, r1_0, c1_0, a1_0, r2_0, c2_0, a2_0, r3_0, c3_0, a3_0, r4_0, c4_0, a4_0, r5_0, c5_0, a5_0, r6_0, c6_0, a6_0, r7_0, c7_0, a7_0, r8_0, c8_0, a8_0, r9_0, c9_0, a9_0, r10_0, c10_0, a10_0, r11_0, c11_0, a11_0, r12_0, c12_0, a12_0, r13_0, c13_0, a13_0, r14_0, c14_0, a14_0, r15_0, c15_0, a15_0, r16_0, c16_0, a16_0, r17_0, c17_0, a17_0, r18_0, c18_0, a18_0, r19_0, c19_0, a19_0, a20_0, a21_0, a22_0, a23_0, rfl, g0_0, g1_0, g2_0, g3_0, g4_0, g5_0, g6_0, g7_0, g8_0, g9_0, g10_0, g11_0, g12_0, g13_0, g14_0, g15_0, g16_0, g17_0, g18_0, g19_0, g20_0, g21_0, g22_0, g23_0⟩ := open_Tables k0
        obtain ⟨b1, rfl, rfl, rfl, w1⟩ := open_int Try.underlying3 (hval 1 _ v1 rfl rfl) h1
        obtain ⟨b2, rfl, rfl, rfl, w2⟩ := open_int Try.underlying3 (hval 2 _ v2 rfl rfl) h2
        obtain ⟨b3, rfl, rfl, rfl, w3⟩ := open_int Try.underlying3 (hval 3 _ v3 rfl rfl) h3
        obtain ⟨b4, rfl, rfl, rfl, w4⟩ := open_int Try.underlying3 (hval 4 _ v4 rfl rfl) h4
        obtain ⟨b5, rfl, rfl, rfl, w5⟩ := open_int Try.underlying3 (hval 5 _ v5 rfl rfl) h5
        apply rises_walk <;> (first | assumption | rfl))
#print axioms rises_holds

end Go.Proofs.Ytohdbneaganfbaa
