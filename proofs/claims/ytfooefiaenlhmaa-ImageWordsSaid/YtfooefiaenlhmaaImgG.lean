/- The smallest program: it is valid, and its image. Printed by a program. -/
import Derived.Test.YtfooefiaenlhmaaImgH
namespace Go.Proofs.Ytfooefiaenlhmaa
set_option linter.unusedVariables false
set_option linter.unusedSimpArgs false
open Go.RowKit Go.ChangeShapes Go.WideShapes Go.ChangeAt

set_option maxRecDepth 100000 in
theorem idx0F (v : Value) (w : World) : Calls Try.prog 97 #[.slice none 0 0, v] w fun e w' => e = .returned (.int .i64 (-1)) ∧ Below w.heap.size w w' := by
  go_enter Try.func97, Try.ntmps97
  go_wp2
  go_loopg [8] 0 (fun kx s8 wr => s8 = .int .i64 0 ∧ Below w.heap.size w wr)
  case atStart => exact ⟨rfl, Below.refl _ _⟩
  case round =>
    obtain ⟨rfl, hb⟩ := hrel
    go_wp2
    go_ret
    exact ⟨rfl, hb⟩
set_option maxRecDepth 100000 in
theorem has0F (v : Value) (w : World) : Calls Try.prog 58 #[.slice none 0 0, v] w fun e w' => e = .returned (.bool false) ∧ Below w.heap.size w w' := by
  go_enter Try.func58, Try.ntmps58
  go_wp2_with (go_at_call 97; refine (idx0F _ _).mono ?_; rintro e w1 ⟨rfl, hb⟩)
  go_ret
  exact ⟨rfl, hb⟩
set_option maxRecDepth 100000 in
theorem idx0C (v : Value) (w : World) : Calls Try.prog 54 #[.slice none 0 0, v] w fun e w' => e = .returned (.int .i64 (-1)) ∧ Below w.heap.size w w' := by
  go_enter Try.func54, Try.ntmps54
  go_wp2
  go_loopg [8] 0 (fun kx s8 wr => s8 = .int .i64 0 ∧ Below w.heap.size w wr)
  case atStart => exact ⟨rfl, Below.refl _ _⟩
  case round =>
    obtain ⟨rfl, hb⟩ := hrel
    go_wp2
    go_ret
    exact ⟨rfl, hb⟩
set_option maxRecDepth 100000 in
theorem has0C (v : Value) (w : World) : Calls Try.prog 28 #[.slice none 0 0, v] w fun e w' => e = .returned (.bool false) ∧ Below w.heap.size w w' := by
  go_enter Try.func28, Try.ntmps28
  go_wp2_with (go_at_call 54; refine (idx0C _ _).mono ?_; rintro e w1 ⟨rfl, hb⟩)
  go_ret
  exact ⟨rfl, hb⟩
set_option maxRecDepth 100000 in
theorem idx0M (v : Value) (w : World) : Calls Try.prog 55 #[.slice none 0 0, v] w fun e w' => e = .returned (.int .i64 (-1)) ∧ Below w.heap.size w w' := by
  go_enter Try.func55, Try.ntmps55
  go_wp2
  go_loopg [8] 0 (fun kx s8 wr => s8 = .int .i64 0 ∧ Below w.heap.size w wr)
  case atStart => exact ⟨rfl, Below.refl _ _⟩
  case round =>
    obtain ⟨rfl, hb⟩ := hrel
    go_wp2
    go_ret
    exact ⟨rfl, hb⟩
set_option maxRecDepth 100000 in
theorem has0M (v : Value) (w : World) : Calls Try.prog 30 #[.slice none 0 0, v] w fun e w' => e = .returned (.bool false) ∧ Below w.heap.size w w' := by
  go_enter Try.func30, Try.ntmps30
  go_wp2_with (go_at_call 55; refine (idx0M _ _).mono ?_; rintro e w1 ⟨rfl, hb⟩)
  go_ret
  exact ⟨rfl, hb⟩
set_option maxRecDepth 100000 in
theorem idx0I (v : Value) (w : World) : Calls Try.prog 104 #[.slice none 0 0, v] w fun e w' => e = .returned (.int .i64 (-1)) ∧ Below w.heap.size w w' := by
  go_enter Try.func104, Try.ntmps104
  go_wp2
  go_loopg [8] 0 (fun kx s8 wr => s8 = .int .i64 0 ∧ Below w.heap.size w wr)
  case atStart => exact ⟨rfl, Below.refl _ _⟩
  case round =>
    obtain ⟨rfl, hb⟩ := hrel
    go_wp2
    go_ret
    exact ⟨rfl, hb⟩
set_option maxRecDepth 100000 in
theorem has0I (v : Value) (w : World) : Calls Try.prog 65 #[.slice none 0 0, v] w fun e w' => e = .returned (.bool false) ∧ Below w.heap.size w w' := by
  go_enter Try.func65, Try.ntmps65
  go_wp2_with (go_at_call 104; refine (idx0I _ _).mono ?_; rintro e w1 ⟨rfl, hb⟩)
  go_ret
  exact ⟨rfl, hb⟩
set_option maxRecDepth 100000 in
theorem idx0N (v : Value) (w : World) : Calls Try.prog 109 #[.slice none 0 0, v] w fun e w' => e = .returned (.int .i64 (-1)) ∧ Below w.heap.size w w' := by
  go_enter Try.func109, Try.ntmps109
  go_wp2
  go_loopg [8] 0 (fun kx s8 wr => s8 = .int .i64 0 ∧ Below w.heap.size w wr)
  case atStart => exact ⟨rfl, Below.refl _ _⟩
  case round =>
    obtain ⟨rfl, hb⟩ := hrel
    go_wp2
    go_ret
    exact ⟨rfl, hb⟩
set_option maxRecDepth 100000 in
theorem has0N (v : Value) (w : World) : Calls Try.prog 68 #[.slice none 0 0, v] w fun e w' => e = .returned (.bool false) ∧ Below w.heap.size w w' := by
  go_enter Try.func68, Try.ntmps68
  go_wp2_with (go_at_call 109; refine (idx0N _ _).mono ?_; rintro e w1 ⟨rfl, hb⟩)
  go_ret
  exact ⟨rfl, hb⟩
@[go_sem] theorem run_store_func {P : Program} {w : World} {a : Addr} {m : Mode} (f : Fn) (x y : Array Value) : (store a (.func f x y) m).run P w = stored P w a (.func f x y) m := run_store P w a _ m rfl
theorem infoBool : (Try.prog.info? 4).map (fun i => (i.zero, i.size, i.bytes)) = some (some (.bool false), 1, 1) := by kernel_rfl
theorem nilI {w : World} {k : IntKind} : IsInts w none 0 k [] := ⟨Nat.le_refl _, Nat.zero_le _, by simp, fun h => absurd rfl h⟩
def prog0 : Value := .agg #[.slice none 0 0, .slice none 0 0, .slice none 0 0, .slice none 0 0, .int .i64 0, .slice none 0 0, .slice none 0 0, .slice none 0 0, .slice none 0 0]
set_option maxRecDepth 100000 in
set_option maxHeartbeats 2000000 in
theorem valid0 (w : World) : Calls Try.prog 34 #[prog0] w fun e w' => e = .returned (.bool true) ∧ Below w.heap.size w w' := by
  unfold prog0
  go_enter Try.func34, Try.ntmps34
  go_wp2_with (first | (go_at_call 58; refine (has0F _ _).mono ?_; rintro e hb0w ⟨rfl, hb0⟩; obtain ⟨hb0c, hb0f⟩ := bcell hb0; have hb0s := hb0.size; (try simp only [World.size_alloc] at hb0s); (try (have : w.heap.size < hb0w.heap.size := by omega)); (try (have : w.heap.size + 1 < hb0w.heap.size := by omega)); (try (have : w.heap.size + 1 + 1 < hb0w.heap.size := by omega)); (try (have : w.heap.size + 1 + 1 + 1 < hb0w.heap.size := by omega)); (try (have : bX < hb0w.heap.size := by omega)); (try (have : bY < hb0w.heap.size := by omega)); (try (have : bZ < hb0w.heap.size := by omega))) | (go_at_call 28; refine (has0C _ _).mono ?_; rintro e hb1w ⟨rfl, hb1⟩; obtain ⟨hb1c, hb1f⟩ := bcell hb1; have hb1s := hb1.size; (try simp only [World.size_alloc] at hb1s); (try (have : w.heap.size < hb1w.heap.size := by omega)); (try (have : w.heap.size + 1 < hb1w.heap.size := by omega)); (try (have : w.heap.size + 1 + 1 < hb1w.heap.size := by omega)); (try (have : w.heap.size + 1 + 1 + 1 < hb1w.heap.size := by omega)); (try (have : bX < hb1w.heap.size := by omega)); (try (have : bY < hb1w.heap.size := by omega)); (try (have : bZ < hb1w.heap.size := by omega))) | (go_at_call 30; refine (has0M _ _).mono ?_; rintro e hb2w ⟨rfl, hb2⟩; obtain ⟨hb2c, hb2f⟩ := bcell hb2; have hb2s := hb2.size; (try simp only [World.size_alloc] at hb2s); (try (have : w.heap.size < hb2w.heap.size := by omega)); (try (have : w.heap.size + 1 < hb2w.heap.size := by omega)); (try (have : w.heap.size + 1 + 1 < hb2w.heap.size := by omega)); (try (have : w.heap.size + 1 + 1 + 1 < hb2w.heap.size := by omega)); (try (have : bX < hb2w.heap.size := by omega)); (try (have : bY < hb2w.heap.size := by omega)); (try (have : bZ < hb2w.heap.size := by omega))) | (go_at_call 65; refine (has0I _ _).mono ?_; rintro e hb3w ⟨rfl, hb3⟩; obtain ⟨hb3c, hb3f⟩ := bcell hb3; have hb3s := hb3.size; (try simp only [World.size_alloc] at hb3s); (try (have : w.heap.size < hb3w.heap.size := by omega)); (try (have : w.heap.size + 1 < hb3w.heap.size := by omega)); (try (have : w.heap.size + 1 + 1 < hb3w.heap.size := by omega)); (try (have : w.heap.size + 1 + 1 + 1 < hb3w.heap.size := by omega)); (try (have : bX < hb3w.heap.size := by omega)); (try (have : bY < hb3w.heap.size := by omega)); (try (have : bZ < hb3w.heap.size := by omega))))
  have hq : ∀ o, (hb3w.alloc (.cells #[.slice none 0 0, .slice none 0 0, .slice none 0 0] 26)).cell? ⟨w.heap.size, o, none⟩ = hb0w.cell? ⟨w.heap.size, o, none⟩ := fun o => by
    rw [((Below.refl hb3w.heap.size hb3w).alloc (Nat.le_refl _) _).cell (p := ⟨w.heap.size, o, none⟩) (by show w.heap.size < hb3w.heap.size; omega), hb3c _ _ (by omega), hb2c _ _ (by omega), hb1c _ _ (by omega)]
  have q4 : (hb3w.alloc (.cells #[.slice none 0 0, .slice none 0 0, .slice none 0 0] 26)).cell? ⟨w.heap.size, 4, none⟩ = some (.int .i64 0) := by rw [hq, hb0c _ _ (by simp only [World.size_alloc]; omega)]; first | go_keep | simp
  have q5 : (hb3w.alloc (.cells #[.slice none 0 0, .slice none 0 0, .slice none 0 0] 26)).cell? ⟨w.heap.size, 5, none⟩ = some (.slice none 0 0) := by rw [hq, hb0c _ _ (by simp only [World.size_alloc]; omega)]; first | go_keep | simp
  have q6 : (hb3w.alloc (.cells #[.slice none 0 0, .slice none 0 0, .slice none 0 0] 26)).cell? ⟨w.heap.size, 6, none⟩ = some (.slice none 0 0) := by rw [hq, hb0c _ _ (by simp only [World.size_alloc]; omega)]; first | go_keep | simp
  have q8 : (hb3w.alloc (.cells #[.slice none 0 0, .slice none 0 0, .slice none 0 0] 26)).cell? ⟨w.heap.size, 8, none⟩ = some (.slice none 0 0) := by rw [hq, hb0c _ _ (by simp only [World.size_alloc]; omega)]; first | go_keep | simp
  have l0 : (hb3w.alloc (.cells #[.slice none 0 0, .slice none 0 0, .slice none 0 0] 26)).cell? ⟨hb3w.heap.size, 0, none⟩ = some (.slice none 0 0) := by go_keep
  have l1 : (hb3w.alloc (.cells #[.slice none 0 0, .slice none 0 0, .slice none 0 0] 26)).cell? ⟨hb3w.heap.size, 1, none⟩ = some (.slice none 0 0) := by go_keep
  have l2 : (hb3w.alloc (.cells #[.slice none 0 0, .slice none 0 0, .slice none 0 0] 26)).cell? ⟨hb3w.heap.size, 2, none⟩ = some (.slice none 0 0) := by go_keep
  have hbW : Below w.heap.size w (hb3w.alloc (.cells #[.slice none 0 0, .slice none 0 0, .slice none 0 0] 26)) := by (repeat' (first | (with_reducible exact Below.refl _ _) | (with_reducible assumption) | (with_reducible refine below_alloc ?_ _) | (with_reducible refine Below.drew ?_) | (with_reducible refine below_drewN ?_ _) | (with_reducible refine below_step (by assumption) ?_) | (with_reducible refine below_later ?_ _) | (with_reducible refine Below.setCell ?_ ?_ _) | go_size))
  have z1 : w.heap.size < (hb3w.alloc (.cells #[.slice none 0 0, .slice none 0 0, .slice none 0 0] 26)).heap.size := by rw [World.size_alloc]; omega
  have z2 : hb3w.heap.size < (hb3w.alloc (.cells #[.slice none 0 0, .slice none 0 0, .slice none 0 0] 26)).heap.size := by rw [World.size_alloc]; omega
  generalize hb3w.alloc (.cells #[.slice none 0 0, .slice none 0 0, .slice none 0 0] 26) = W3 at *
  generalize hb3w.heap.size = bl at *
  clear hq hb0c hb1c hb2c hb3c hb0f hb1f hb2f hb3f hb0 hb1 hb2 hb3
  go_loopg [5, 78] 3 (fun kx s5 s78 wr => ∃ (k : Nat) (e : Later W3), s78 = .int .i64 k ∧ k ≤ 3 ∧ 3 - k ≤ kx ∧ wr = e.w)
  case atStart => exact ⟨0, ⟨W3, Below.refl _ _⟩, rfl, by omega, by omega, rfl⟩
  case round =>
    obtain ⟨k, e, rfl, hk, hkx, rfl⟩ := hrel
    have hes := e.h.size
    by_cases hlt : k < 3
    · obtain rfl | rfl | rfl : k = 0 ∨ k = 1 ∨ k = 2 := by omega
      · go_wp2_with (first | (go_at_call 68; refine (has0N _ _).mono ?_; rintro x w2 ⟨rfl, hb2⟩))
        go_roundg 2
        case measure => omega
        case rel => exact ⟨1, ⟨w2, e.h.trans (hb2.mono e.h.size)⟩, by go_num, by omega, by omega, rfl⟩
      · go_wp2_with (first | (go_at_call 68; refine (has0N _ _).mono ?_; rintro x w2 ⟨rfl, hb2⟩))
        go_roundg 1
        case measure => omega
        case rel => exact ⟨2, ⟨w2, e.h.trans (hb2.mono e.h.size)⟩, by go_num, by omega, by omega, rfl⟩
      · go_wp2_with (first | (go_at_call 68; refine (has0N _ _).mono ?_; rintro x w2 ⟨rfl, hb2⟩))
        go_roundg 0
        case measure => omega
        case rel => exact ⟨3, ⟨w2, e.h.trans (hb2.mono e.h.size)⟩, by go_num, by omega, by omega, rfl⟩
    · obtain rfl : k = 3 := by omega
      obtain ⟨i0, hi, hz0, hz1, hz2⟩ := info_parts infoBool
      have hbm : ∀ n : Nat, n = 0 → i0.bytes * n ≤ 281474976710656 := fun n h => by subst h; omega
      go_wp2_with (first | (at_make; refine wpList_make_full _ (by rfl) _ _ _ (by rfl) e.w.heap.size 4 i0 (.bool false) 1 Try.underlying77 hi hz0 hz1 .i64 .i64 _ _ 0 (by rfl) (by rfl) (by rfl) (by rfl) (by rw [hz2]; omega) (by unfold maxLen; omega) (Nat.le_refl _) ?_; intro w4 hown hgrow; have hb4 : Below e.w.heap.size e.w w4 := (Below.refl _ _).grown hgrow (Nat.le_refl _) (fun k hk => by cases hk); clear hown; have z4 : w.heap.size < e.w.heap.size := (by omega); have z5 : w.heap.size < w4.heap.size := Nat.lt_of_lt_of_le z4 hb4.size; have r5 : w4.cell? ⟨w.heap.size, 5, none⟩ = some (.slice none 0 0) := (by rw [hb4.cell (p := ⟨w.heap.size, 5, none⟩) z4, e.h.cell (p := ⟨w.heap.size, 5, none⟩) z1]; exact q5); have r6 : w4.cell? ⟨w.heap.size, 6, none⟩ = some (.slice none 0 0) := (by rw [hb4.cell (p := ⟨w.heap.size, 6, none⟩) z4, e.h.cell (p := ⟨w.heap.size, 6, none⟩) z1]; exact q6); have r8 : w4.cell? ⟨w.heap.size, 8, none⟩ = some (.slice none 0 0) := (by rw [hb4.cell (p := ⟨w.heap.size, 8, none⟩) z4, e.h.cell (p := ⟨w.heap.size, 8, none⟩) z1]; exact q8)) | (go_at_call 70; refine (concat2I w4.heap.size none none 0 0 [] [] _ (by rw [World.size_alloc]; omega) (by simp) (by simp) nilI nilI (by simp) (by simp)).mono ?_; rintro x w5 ⟨r5, c5, rfl, _, hb5⟩; have r8b : w5.cell? ⟨w.heap.size, 8, none⟩ = some (.slice none 0 0) := (by rw [hb5.cell (p := ⟨w.heap.size, 8, none⟩) (by rw [World.size_alloc]; show w.heap.size < w4.heap.size + 1; omega), ((Below.refl w4.heap.size w4).alloc (Nat.le_refl _) _).cell (p := ⟨w.heap.size, 8, none⟩) z5]; exact r8); have hbz : Below w.heap.size w w5 := hbW.trans ((e.h.mono (by omega)).trans ((hb4.mono (by omega)).trans ((((Below.refl w4.heap.size w4).alloc (Nat.le_refl _) _).mono (by omega)).trans (hb5.mono (by rw [World.size_alloc]; omega)))))))
      go_loopg [8, 101] 0 (fun kx s8 s101 wr => s101 = .int .i64 0 ∧ wr = w5)
      case atStart => exact ⟨rfl, rfl⟩
      case round =>
        obtain ⟨rfl, rfl⟩ := hrel
        go_wp2_with (go_at_call 68; refine (has0N _ _).mono ?_; rintro x w6 ⟨rfl, hb6⟩)
        go_ret
        exact ⟨rfl, hbz.trans (hb6.mono hbz.size)⟩
end Go.Proofs.Ytfooefiaenlhmaa
