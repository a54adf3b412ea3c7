/- Lemmas for the laws of package magnetolaw15: magnetoref13.Formed by operations. magnetoref13.Formed by operations. magnetoref13.Formed of any instruction. magnetoref02: List, Of, Valid, Combine; magnetoref04.Units. magnetoref02.Combine; magnetoref04.Units. magnetoref04.Units. magnetoref13.named: operations without types. magnetoref13.named: operations with types. -/
import Derived.Test.YtfooefiaenlhmaaGE10
namespace Go.Proofs.Ytfooefiaenlhmaa
set_option linter.unusedVariables false
set_option linter.unusedSimpArgs false
open Go.RowKit Go.ChangeShapes Go.WideShapes Go.ChangeAt

set_option maxRecDepth 100000 in
set_option maxHeartbeats 2000000 in
theorem rfo_9_0 (a b k : Int) (hk : I64 k) (n2 : 0 ≤ a) (n3 : a ≤ 15) (n4 : 0 ≤ b) (n5 : b ≤ 15) (z0 : ¬ (0 ≤ k)) (w : World) : Calls Try.prog 40 #[.agg #[.int .i64 9, .int .i64 a, .int .i64 b, .int .i64 0, .int .i64 k]] w fun e w' => e = .returned (.bool false) ∧ Below w.heap.size w w' := by
  have HFD : Hid (∀ W, Calls Try.prog 80 #[.int .i64 9] W fun e w' => e = .returned (.string (rowF 9)) ∧ w' = W) := Lib.hid (fun W => rfields_v 9 (by omega) (by omega) W)
  have HUB : Hid (∀ W, Calls Try.prog 81 #[.string (rowF 9), .int .u8 66] W fun e w' => e = .returned (.bool true) ∧ w' = W) := Lib.hid (fun W => by have := ruses_any (rowF 9) (by decide) 66 W; rwa [show holds (rowF 9) 66 = true by decide] at this)
  have HUC : Hid (∀ W, Calls Try.prog 81 #[.string (rowF 9), .int .u8 67] W fun e w' => e = .returned (.bool false) ∧ w' = W) := Lib.hid (fun W => by have := ruses_any (rowF 9) (by decide) 67 W; rwa [show holds (rowF 9) 67 = false by decide] at this)
  have HUK : Hid (∀ W, Calls Try.prog 81 #[.string (rowF 9), .int .u8 75] W fun e w' => e = .returned (.bool true) ∧ w' = W) := Lib.hid (fun W => by have := ruses_any (rowF 9) (by decide) 75 W; rwa [show holds (rowF 9) 75 = true by decide] at this)
  generalize rowF 9 = s at *
  obtain ⟨m, HM, hm⟩ := max0_run k
  have hk2 := hk
  unfold I64 at hk2
  simp [Lit.wf, IntKind.min, IntKind.max, IntKind.bits, IntKind.signed] at hk2
  have hm0 : m = 0 := by omega
  rw [hm0] at HM
  clear hm0
  have HTY := Lib.hid (fun W => rtypes_any 0 (by omega) (by first | exact hk | (exact (by rfl)) | (unfold I64; simp [Lit.wf, IntKind.min, IntKind.max, IntKind.bits, IntKind.signed]; omega)) W)
  clear hm
  go_enter Try.func40, Try.ntmps40
  go_wp2_with (first | (go_at_call 80; refine (HFD.out _).mono ?_; rintro _ _ ⟨rfl, rfl⟩) | (go_at_call 81; with_reducible (refine (HUB.out _).mono ?_); rintro _ _ ⟨rfl, rfl⟩) | (go_at_call 81; with_reducible (refine (HUC.out _).mono ?_); rintro _ _ ⟨rfl, rfl⟩) | (go_at_call 81; with_reducible (refine (HUK.out _).mono ?_); rintro _ _ ⟨rfl, rfl⟩) | (go_at_call 82; refine (HTY.out _).mono ?_; rintro _ _ ⟨rfl, rfl⟩))
  all_goals go_ret
  all_goals exact ⟨by first | rfl | (simp [*]; done), by (repeat' (first | (with_reducible exact Below.refl _ _) | (with_reducible assumption) | (with_reducible refine below_alloc ?_ _) | (with_reducible refine Below.drew ?_) | (with_reducible refine below_drewN ?_ _) | (with_reducible refine below_step (by assumption) ?_) | (with_reducible refine below_later ?_ _) | (with_reducible refine Below.setCell ?_ ?_ _) | go_size))⟩
set_option maxRecDepth 100000 in
set_option maxHeartbeats 2000000 in
theorem rfo_9_1 (a b k : Int) (hk : I64 k) (n2 : 0 ≤ a) (n3 : a ≤ 15) (n4 : 0 ≤ b) (n5 : b ≤ 15) (c0 : 0 ≤ k) (z1 : ¬ (k < 2097152)) (w : World) : Calls Try.prog 40 #[.agg #[.int .i64 9, .int .i64 a, .int .i64 b, .int .i64 0, .int .i64 k]] w fun e w' => e = .returned (.bool false) ∧ Below w.heap.size w w' := by
  have HFD : Hid (∀ W, Calls Try.prog 80 #[.int .i64 9] W fun e w' => e = .returned (.string (rowF 9)) ∧ w' = W) := Lib.hid (fun W => rfields_v 9 (by omega) (by omega) W)
  have HUB : Hid (∀ W, Calls Try.prog 81 #[.string (rowF 9), .int .u8 66] W fun e w' => e = .returned (.bool true) ∧ w' = W) := Lib.hid (fun W => by have := ruses_any (rowF 9) (by decide) 66 W; rwa [show holds (rowF 9) 66 = true by decide] at this)
  have HUC : Hid (∀ W, Calls Try.prog 81 #[.string (rowF 9), .int .u8 67] W fun e w' => e = .returned (.bool false) ∧ w' = W) := Lib.hid (fun W => by have := ruses_any (rowF 9) (by decide) 67 W; rwa [show holds (rowF 9) 67 = false by decide] at this)
  have HUK : Hid (∀ W, Calls Try.prog 81 #[.string (rowF 9), .int .u8 75] W fun e w' => e = .returned (.bool true) ∧ w' = W) := Lib.hid (fun W => by have := ruses_any (rowF 9) (by decide) 75 W; rwa [show holds (rowF 9) 75 = true by decide] at this)
  generalize rowF 9 = s at *
  obtain ⟨m, HM, hm⟩ := max0_run k
  have hk2 := hk
  unfold I64 at hk2
  simp [Lit.wf, IntKind.min, IntKind.max, IntKind.bits, IntKind.signed] at hk2
  have hm0 : m = k := by omega
  rw [hm0] at HM
  clear hm0
  have HTY := Lib.hid (fun W => rtypes_any k (by omega) (by first | exact hk | (exact (by rfl)) | (unfold I64; simp [Lit.wf, IntKind.min, IntKind.max, IntKind.bits, IntKind.signed]; omega)) W)
  clear hm
  have q1 : ¬ k / 16384 < 128 := by omega
  go_enter Try.func40, Try.ntmps40
  go_wp2_with (first | (go_at_call 80; refine (HFD.out _).mono ?_; rintro _ _ ⟨rfl, rfl⟩) | (go_at_call 81; with_reducible (refine (HUB.out _).mono ?_); rintro _ _ ⟨rfl, rfl⟩) | (go_at_call 81; with_reducible (refine (HUC.out _).mono ?_); rintro _ _ ⟨rfl, rfl⟩) | (go_at_call 81; with_reducible (refine (HUK.out _).mono ?_); rintro _ _ ⟨rfl, rfl⟩) | (go_at_call 82; refine (HTY.out _).mono ?_; rintro _ _ ⟨rfl, rfl⟩))
  all_goals go_ret
  all_goals exact ⟨by first | rfl | (simp [*]; done), by (repeat' (first | (with_reducible exact Below.refl _ _) | (with_reducible assumption) | (with_reducible refine below_alloc ?_ _) | (with_reducible refine Below.drew ?_) | (with_reducible refine below_drewN ?_ _) | (with_reducible refine below_step (by assumption) ?_) | (with_reducible refine below_later ?_ _) | (with_reducible refine Below.setCell ?_ ?_ _) | go_size))⟩
set_option maxRecDepth 100000 in
set_option maxHeartbeats 2000000 in
theorem rfo_9_2 (a b k : Int) (hk : I64 k) (n2 : 0 ≤ a) (n3 : a ≤ 15) (n4 : 0 ≤ b) (n5 : b ≤ 15) (c0 : 0 ≤ k) (c1 : k < 2097152) (z2 : ¬ (k / 128 % 128 = 0)) (w : World) : Calls Try.prog 40 #[.agg #[.int .i64 9, .int .i64 a, .int .i64 b, .int .i64 0, .int .i64 k]] w fun e w' => e = .returned (.bool false) ∧ Below w.heap.size w w' := by
  have HFD : Hid (∀ W, Calls Try.prog 80 #[.int .i64 9] W fun e w' => e = .returned (.string (rowF 9)) ∧ w' = W) := Lib.hid (fun W => rfields_v 9 (by omega) (by omega) W)
  have HUB : Hid (∀ W, Calls Try.prog 81 #[.string (rowF 9), .int .u8 66] W fun e w' => e = .returned (.bool true) ∧ w' = W) := Lib.hid (fun W => by have := ruses_any (rowF 9) (by decide) 66 W; rwa [show holds (rowF 9) 66 = true by decide] at this)
  have HUC : Hid (∀ W, Calls Try.prog 81 #[.string (rowF 9), .int .u8 67] W fun e w' => e = .returned (.bool false) ∧ w' = W) := Lib.hid (fun W => by have := ruses_any (rowF 9) (by decide) 67 W; rwa [show holds (rowF 9) 67 = false by decide] at this)
  have HUK : Hid (∀ W, Calls Try.prog 81 #[.string (rowF 9), .int .u8 75] W fun e w' => e = .returned (.bool true) ∧ w' = W) := Lib.hid (fun W => by have := ruses_any (rowF 9) (by decide) 75 W; rwa [show holds (rowF 9) 75 = true by decide] at this)
  generalize rowF 9 = s at *
  obtain ⟨m, HM, hm⟩ := max0_run k
  have hk2 := hk
  unfold I64 at hk2
  simp [Lit.wf, IntKind.min, IntKind.max, IntKind.bits, IntKind.signed] at hk2
  have hm0 : m = k := by omega
  rw [hm0] at HM
  clear hm0
  have HTY := Lib.hid (fun W => rtypes_any k (by omega) (by first | exact hk | (exact (by rfl)) | (unfold I64; simp [Lit.wf, IntKind.min, IntKind.max, IntKind.bits, IntKind.signed]; omega)) W)
  clear hm
  have q1 : k / 16384 < 128 := by omega
  have q2 : (k / 128 % 128 == 0) = false := by simp; exact z2
  go_enter Try.func40, Try.ntmps40
  go_wp2_with (first | (go_at_call 80; refine (HFD.out _).mono ?_; rintro _ _ ⟨rfl, rfl⟩) | (go_at_call 81; with_reducible (refine (HUB.out _).mono ?_); rintro _ _ ⟨rfl, rfl⟩) | (go_at_call 81; with_reducible (refine (HUC.out _).mono ?_); rintro _ _ ⟨rfl, rfl⟩) | (go_at_call 81; with_reducible (refine (HUK.out _).mono ?_); rintro _ _ ⟨rfl, rfl⟩) | (go_at_call 82; refine (HTY.out _).mono ?_; rintro _ _ ⟨rfl, rfl⟩))
  all_goals go_ret
  all_goals exact ⟨by first | rfl | (simp [*]; done), by (repeat' (first | (with_reducible exact Below.refl _ _) | (with_reducible assumption) | (with_reducible refine below_alloc ?_ _) | (with_reducible refine Below.drew ?_) | (with_reducible refine below_drewN ?_ _) | (with_reducible refine below_step (by assumption) ?_) | (with_reducible refine below_later ?_ _) | (with_reducible refine Below.setCell ?_ ?_ _) | go_size))⟩
set_option maxRecDepth 100000 in
set_option maxHeartbeats 2000000 in
theorem rfo_9_3 (a b k : Int) (hk : I64 k) (n2 : 0 ≤ a) (n3 : a ≤ 15) (n4 : 0 ≤ b) (n5 : b ≤ 15) (c0 : 0 ≤ k) (c1 : k < 2097152) (c2 : k / 128 % 128 = 0) (w : World) : Calls Try.prog 40 #[.agg #[.int .i64 9, .int .i64 a, .int .i64 b, .int .i64 0, .int .i64 k]] w fun e w' => e = .returned (.bool true) ∧ Below w.heap.size w w' := by
  have HFD : Hid (∀ W, Calls Try.prog 80 #[.int .i64 9] W fun e w' => e = .returned (.string (rowF 9)) ∧ w' = W) := Lib.hid (fun W => rfields_v 9 (by omega) (by omega) W)
  have HUB : Hid (∀ W, Calls Try.prog 81 #[.string (rowF 9), .int .u8 66] W fun e w' => e = .returned (.bool true) ∧ w' = W) := Lib.hid (fun W => by have := ruses_any (rowF 9) (by decide) 66 W; rwa [show holds (rowF 9) 66 = true by decide] at this)
  have HUC : Hid (∀ W, Calls Try.prog 81 #[.string (rowF 9), .int .u8 67] W fun e w' => e = .returned (.bool false) ∧ w' = W) := Lib.hid (fun W => by have := ruses_any (rowF 9) (by decide) 67 W; rwa [show holds (rowF 9) 67 = false by decide] at this)
  have HUK : Hid (∀ W, Calls Try.prog 81 #[.string (rowF 9), .int .u8 75] W fun e w' => e = .returned (.bool true) ∧ w' = W) := Lib.hid (fun W => by have := ruses_any (rowF 9) (by decide) 75 W; rwa [show holds (rowF 9) 75 = true by decide] at this)
  generalize rowF 9 = s at *
  obtain ⟨m, HM, hm⟩ := max0_run k
  have hk2 := hk
  unfold I64 at hk2
  simp [Lit.wf, IntKind.min, IntKind.max, IntKind.bits, IntKind.signed] at hk2
  have hm0 : m = k := by omega
  rw [hm0] at HM
  clear hm0
  have HTY := Lib.hid (fun W => rtypes_any k (by omega) (by first | exact hk | (exact (by rfl)) | (unfold I64; simp [Lit.wf, IntKind.min, IntKind.max, IntKind.bits, IntKind.signed]; omega)) W)
  clear hm
  have q1 : k / 16384 < 128 := by omega
  go_enter Try.func40, Try.ntmps40
  go_wp2_with (first | (go_at_call 80; refine (HFD.out _).mono ?_; rintro _ _ ⟨rfl, rfl⟩) | (go_at_call 81; with_reducible (refine (HUB.out _).mono ?_); rintro _ _ ⟨rfl, rfl⟩) | (go_at_call 81; with_reducible (refine (HUC.out _).mono ?_); rintro _ _ ⟨rfl, rfl⟩) | (go_at_call 81; with_reducible (refine (HUK.out _).mono ?_); rintro _ _ ⟨rfl, rfl⟩) | (go_at_call 82; refine (HTY.out _).mono ?_; rintro _ _ ⟨rfl, rfl⟩))
  all_goals go_ret
  all_goals exact ⟨by first | rfl | (simp [*]; done), by (repeat' (first | (with_reducible exact Below.refl _ _) | (with_reducible assumption) | (with_reducible refine below_alloc ?_ _) | (with_reducible refine Below.drew ?_) | (with_reducible refine below_drewN ?_ _) | (with_reducible refine below_step (by assumption) ?_) | (with_reducible refine below_later ?_ _) | (with_reducible refine Below.setCell ?_ ?_ _) | go_size))⟩
set_option maxRecDepth 100000 in
set_option maxHeartbeats 2000000 in
theorem rfo_10_0 (a b k : Int) (hk : I64 k) (n2 : 0 ≤ a) (n3 : a ≤ 15) (n4 : 0 ≤ b) (n5 : b ≤ 15) (z0 : ¬ (0 ≤ k)) (w : World) : Calls Try.prog 40 #[.agg #[.int .i64 10, .int .i64 a, .int .i64 b, .int .i64 0, .int .i64 k]] w fun e w' => e = .returned (.bool false) ∧ Below w.heap.size w w' := by
  have HFD : Hid (∀ W, Calls Try.prog 80 #[.int .i64 10] W fun e w' => e = .returned (.string (rowF 10)) ∧ w' = W) := Lib.hid (fun W => rfields_v 10 (by omega) (by omega) W)
  have HUB : Hid (∀ W, Calls Try.prog 81 #[.string (rowF 10), .int .u8 66] W fun e w' => e = .returned (.bool true) ∧ w' = W) := Lib.hid (fun W => by have := ruses_any (rowF 10) (by decide) 66 W; rwa [show holds (rowF 10) 66 = true by decide] at this)
  have HUC : Hid (∀ W, Calls Try.prog 81 #[.string (rowF 10), .int .u8 67] W fun e w' => e = .returned (.bool false) ∧ w' = W) := Lib.hid (fun W => by have := ruses_any (rowF 10) (by decide) 67 W; rwa [show holds (rowF 10) 67 = false by decide] at this)
  have HUK : Hid (∀ W, Calls Try.prog 81 #[.string (rowF 10), .int .u8 75] W fun e w' => e = .returned (.bool true) ∧ w' = W) := Lib.hid (fun W => by have := ruses_any (rowF 10) (by decide) 75 W; rwa [show holds (rowF 10) 75 = true by decide] at this)
  generalize rowF 10 = s at *
  obtain ⟨m, HM, hm⟩ := max0_run k
  have hk2 := hk
  unfold I64 at hk2
  simp [Lit.wf, IntKind.min, IntKind.max, IntKind.bits, IntKind.signed] at hk2
  have hm0 : m = 0 := by omega
  rw [hm0] at HM
  clear hm0
  have HTY := Lib.hid (fun W => rtypes_any 0 (by omega) (by first | exact hk | (exact (by rfl)) | (unfold I64; simp [Lit.wf, IntKind.min, IntKind.max, IntKind.bits, IntKind.signed]; omega)) W)
  clear hm
  go_enter Try.func40, Try.ntmps40
  go_wp2_with (first | (go_at_call 80; refine (HFD.out _).mono ?_; rintro _ _ ⟨rfl, rfl⟩) | (go_at_call 81; with_reducible (refine (HUB.out _).mono ?_); rintro _ _ ⟨rfl, rfl⟩) | (go_at_call 81; with_reducible (refine (HUC.out _).mono ?_); rintro _ _ ⟨rfl, rfl⟩) | (go_at_call 81; with_reducible (refine (HUK.out _).mono ?_); rintro _ _ ⟨rfl, rfl⟩) | (go_at_call 82; refine (HTY.out _).mono ?_; rintro _ _ ⟨rfl, rfl⟩))
  all_goals go_ret
  all_goals exact ⟨by first | rfl | (simp [*]; done), by (repeat' (first | (with_reducible exact Below.refl _ _) | (with_reducible assumption) | (with_reducible refine below_alloc ?_ _) | (with_reducible refine Below.drew ?_) | (with_reducible refine below_drewN ?_ _) | (with_reducible refine below_step (by assumption) ?_) | (with_reducible refine below_later ?_ _) | (with_reducible refine Below.setCell ?_ ?_ _) | go_size))⟩
set_option maxRecDepth 100000 in
set_option maxHeartbeats 2000000 in
theorem rfo_10_1 (a b k : Int) (hk : I64 k) (n2 : 0 ≤ a) (n3 : a ≤ 15) (n4 : 0 ≤ b) (n5 : b ≤ 15) (c0 : 0 ≤ k) (z1 : ¬ (k < 2097152)) (w : World) : Calls Try.prog 40 #[.agg #[.int .i64 10, .int .i64 a, .int .i64 b, .int .i64 0, .int .i64 k]] w fun e w' => e = .returned (.bool false) ∧ Below w.heap.size w w' := by
  have HFD : Hid (∀ W, Calls Try.prog 80 #[.int .i64 10] W fun e w' => e = .returned (.string (rowF 10)) ∧ w' = W) := Lib.hid (fun W => rfields_v 10 (by omega) (by omega) W)
  have HUB : Hid (∀ W, Calls Try.prog 81 #[.string (rowF 10), .int .u8 66] W fun e w' => e = .returned (.bool true) ∧ w' = W) := Lib.hid (fun W => by have := ruses_any (rowF 10) (by decide) 66 W; rwa [show holds (rowF 10) 66 = true by decide] at this)
  have HUC : Hid (∀ W, Calls Try.prog 81 #[.string (rowF 10), .int .u8 67] W fun e w' => e = .returned (.bool false) ∧ w' = W) := Lib.hid (fun W => by have := ruses_any (rowF 10) (by decide) 67 W; rwa [show holds (rowF 10) 67 = false by decide] at this)
  have HUK : Hid (∀ W, Calls Try.prog 81 #[.string (rowF 10), .int .u8 75] W fun e w' => e = .returned (.bool true) ∧ w' = W) := Lib.hid (fun W => by have := ruses_any (rowF 10) (by decide) 75 W; rwa [show holds (rowF 10) 75 = true by decide] at this)
  generalize rowF 10 = s at *
  obtain ⟨m, HM, hm⟩ := max0_run k
  have hk2 := hk
  unfold I64 at hk2
  simp [Lit.wf, IntKind.min, IntKind.max, IntKind.bits, IntKind.signed] at hk2
  have hm0 : m = k := by omega
  rw [hm0] at HM
  clear hm0
  have HTY := Lib.hid (fun W => rtypes_any k (by omega) (by first | exact hk | (exact (by rfl)) | (unfold I64; simp [Lit.wf, IntKind.min, IntKind.max, IntKind.bits, IntKind.signed]; omega)) W)
  clear hm
  have q1 : ¬ k / 16384 < 128 := by omega
  go_enter Try.func40, Try.ntmps40
  go_wp2_with (first | (go_at_call 80; refine (HFD.out _).mono ?_; rintro _ _ ⟨rfl, rfl⟩) | (go_at_call 81; with_reducible (refine (HUB.out _).mono ?_); rintro _ _ ⟨rfl, rfl⟩) | (go_at_call 81; with_reducible (refine (HUC.out _).mono ?_); rintro _ _ ⟨rfl, rfl⟩) | (go_at_call 81; with_reducible (refine (HUK.out _).mono ?_); rintro _ _ ⟨rfl, rfl⟩) | (go_at_call 82; refine (HTY.out _).mono ?_; rintro _ _ ⟨rfl, rfl⟩))
  all_goals go_ret
  all_goals exact ⟨by first | rfl | (simp [*]; done), by (repeat' (first | (with_reducible exact Below.refl _ _) | (with_reducible assumption) | (with_reducible refine below_alloc ?_ _) | (with_reducible refine Below.drew ?_) | (with_reducible refine below_drewN ?_ _) | (with_reducible refine below_step (by assumption) ?_) | (with_reducible refine below_later ?_ _) | (with_reducible refine Below.setCell ?_ ?_ _) | go_size))⟩
set_option maxRecDepth 100000 in
set_option maxHeartbeats 2000000 in
theorem rfo_10_2 (a b k : Int) (hk : I64 k) (n2 : 0 ≤ a) (n3 : a ≤ 15) (n4 : 0 ≤ b) (n5 : b ≤ 15) (c0 : 0 ≤ k) (c1 : k < 2097152) (z2 : ¬ (k / 128 % 128 = 0)) (w : World) : Calls Try.prog 40 #[.agg #[.int .i64 10, .int .i64 a, .int .i64 b, .int .i64 0, .int .i64 k]] w fun e w' => e = .returned (.bool false) ∧ Below w.heap.size w w' := by
  have HFD : Hid (∀ W, Calls Try.prog 80 #[.int .i64 10] W fun e w' => e = .returned (.string (rowF 10)) ∧ w' = W) := Lib.hid (fun W => rfields_v 10 (by omega) (by omega) W)
  have HUB : Hid (∀ W, Calls Try.prog 81 #[.string (rowF 10), .int .u8 66] W fun e w' => e = .returned (.bool true) ∧ w' = W) := Lib.hid (fun W => by have := ruses_any (rowF 10) (by decide) 66 W; rwa [show holds (rowF 10) 66 = true by decide] at this)
  have HUC : Hid (∀ W, Calls Try.prog 81 #[.string (rowF 10), .int .u8 67] W fun e w' => e = .returned (.bool false) ∧ w' = W) := Lib.hid (fun W => by have := ruses_any (rowF 10) (by decide) 67 W; rwa [show holds (rowF 10) 67 = false by decide] at this)
  have HUK : Hid (∀ W, Calls Try.prog 81 #[.string (rowF 10), .int .u8 75] W fun e w' => e = .returned (.bool true) ∧ w' = W) := Lib.hid (fun W => by have := ruses_any (rowF 10) (by decide) 75 W; rwa [show holds (rowF 10) 75 = true by decide] at this)
  generalize rowF 10 = s at *
  obtain ⟨m, HM, hm⟩ := max0_run k
  have hk2 := hk
  unfold I64 at hk2
  simp [Lit.wf, IntKind.min, IntKind.max, IntKind.bits, IntKind.signed] at hk2
  have hm0 : m = k := by omega
  rw [hm0] at HM
  clear hm0
  have HTY := Lib.hid (fun W => rtypes_any k (by omega) (by first | exact hk | (exact (by rfl)) | (unfold I64; simp [Lit.wf, IntKind.min, IntKind.max, IntKind.bits, IntKind.signed]; omega)) W)
  clear hm
  have q1 : k / 16384 < 128 := by omega
  have q2 : (k / 128 % 128 == 0) = false := by simp; exact z2
  go_enter Try.func40, Try.ntmps40
  go_wp2_with (first | (go_at_call 80; refine (HFD.out _).mono ?_; rintro _ _ ⟨rfl, rfl⟩) | (go_at_call 81; with_reducible (refine (HUB.out _).mono ?_); rintro _ _ ⟨rfl, rfl⟩) | (go_at_call 81; with_reducible (refine (HUC.out _).mono ?_); rintro _ _ ⟨rfl, rfl⟩) | (go_at_call 81; with_reducible (refine (HUK.out _).mono ?_); rintro _ _ ⟨rfl, rfl⟩) | (go_at_call 82; refine (HTY.out _).mono ?_; rintro _ _ ⟨rfl, rfl⟩))
  all_goals go_ret
  all_goals exact ⟨by first | rfl | (simp [*]; done), by (repeat' (first | (with_reducible exact Below.refl _ _) | (with_reducible assumption) | (with_reducible refine below_alloc ?_ _) | (with_reducible refine Below.drew ?_) | (with_reducible refine below_drewN ?_ _) | (with_reducible refine below_step (by assumption) ?_) | (with_reducible refine below_later ?_ _) | (with_reducible refine Below.setCell ?_ ?_ _) | go_size))⟩
set_option maxRecDepth 100000 in
set_option maxHeartbeats 2000000 in
theorem rfo_10_3 (a b k : Int) (hk : I64 k) (n2 : 0 ≤ a) (n3 : a ≤ 15) (n4 : 0 ≤ b) (n5 : b ≤ 15) (c0 : 0 ≤ k) (c1 : k < 2097152) (c2 : k / 128 % 128 = 0) (w : World) : Calls Try.prog 40 #[.agg #[.int .i64 10, .int .i64 a, .int .i64 b, .int .i64 0, .int .i64 k]] w fun e w' => e = .returned (.bool true) ∧ Below w.heap.size w w' := by
  have HFD : Hid (∀ W, Calls Try.prog 80 #[.int .i64 10] W fun e w' => e = .returned (.string (rowF 10)) ∧ w' = W) := Lib.hid (fun W => rfields_v 10 (by omega) (by omega) W)
  have HUB : Hid (∀ W, Calls Try.prog 81 #[.string (rowF 10), .int .u8 66] W fun e w' => e = .returned (.bool true) ∧ w' = W) := Lib.hid (fun W => by have := ruses_any (rowF 10) (by decide) 66 W; rwa [show holds (rowF 10) 66 = true by decide] at this)
  have HUC : Hid (∀ W, Calls Try.prog 81 #[.string (rowF 10), .int .u8 67] W fun e w' => e = .returned (.bool false) ∧ w' = W) := Lib.hid (fun W => by have := ruses_any (rowF 10) (by decide) 67 W; rwa [show holds (rowF 10) 67 = false by decide] at this)
  have HUK : Hid (∀ W, Calls Try.prog 81 #[.string (rowF 10), .int .u8 75] W fun e w' => e = .returned (.bool true) ∧ w' = W) := Lib.hid (fun W => by have := ruses_any (rowF 10) (by decide) 75 W; rwa [show holds (rowF 10) 75 = true by decide] at this)
  generalize rowF 10 = s at *
  obtain ⟨m, HM, hm⟩ := max0_run k
  have hk2 := hk
  unfold I64 at hk2
  simp [Lit.wf, IntKind.min, IntKind.max, IntKind.bits, IntKind.signed] at hk2
  have hm0 : m = k := by omega
  rw [hm0] at HM
  clear hm0
  have HTY := Lib.hid (fun W => rtypes_any k (by omega) (by first | exact hk | (exact (by rfl)) | (unfold I64; simp [Lit.wf, IntKind.min, IntKind.max, IntKind.bits, IntKind.signed]; omega)) W)
  clear hm
  have q1 : k / 16384 < 128 := by omega
  go_enter Try.func40, Try.ntmps40
  go_wp2_with (first | (go_at_call 80; refine (HFD.out _).mono ?_; rintro _ _ ⟨rfl, rfl⟩) | (go_at_call 81; with_reducible (refine (HUB.out _).mono ?_); rintro _ _ ⟨rfl, rfl⟩) | (go_at_call 81; with_reducible (refine (HUC.out _).mono ?_); rintro _ _ ⟨rfl, rfl⟩) | (go_at_call 81; with_reducible (refine (HUK.out _).mono ?_); rintro _ _ ⟨rfl, rfl⟩) | (go_at_call 82; refine (HTY.out _).mono ?_; rintro _ _ ⟨rfl, rfl⟩))
  all_goals go_ret
  all_goals exact ⟨by first | rfl | (simp [*]; done), by (repeat' (first | (with_reducible exact Below.refl _ _) | (with_reducible assumption) | (with_reducible refine below_alloc ?_ _) | (with_reducible refine Below.drew ?_) | (with_reducible refine below_drewN ?_ _) | (with_reducible refine below_step (by assumption) ?_) | (with_reducible refine below_later ?_ _) | (with_reducible refine Below.setCell ?_ ?_ _) | go_size))⟩
set_option maxRecDepth 100000 in
set_option maxHeartbeats 2000000 in
theorem rfo_13_0 (a b c k : Int) (hk : I64 k) (n2 : 0 ≤ a) (n3 : a ≤ 15) (n4 : 0 ≤ b) (n5 : b ≤ 15) (n6 : 0 ≤ c) (n7 : c ≤ 15) (z0 : ¬ (0 ≤ k)) (w : World) : Calls Try.prog 40 #[.agg #[.int .i64 13, .int .i64 a, .int .i64 b, .int .i64 c, .int .i64 k]] w fun e w' => e = .returned (.bool false) ∧ Below w.heap.size w w' := by
  have HFD : Hid (∀ W, Calls Try.prog 80 #[.int .i64 13] W fun e w' => e = .returned (.string (rowF 13)) ∧ w' = W) := Lib.hid (fun W => rfields_v 13 (by omega) (by omega) W)
  have HUB : Hid (∀ W, Calls Try.prog 81 #[.string (rowF 13), .int .u8 66] W fun e w' => e = .returned (.bool true) ∧ w' = W) := Lib.hid (fun W => by have := ruses_any (rowF 13) (by decide) 66 W; rwa [show holds (rowF 13) 66 = true by decide] at this)
  have HUC : Hid (∀ W, Calls Try.prog 81 #[.string (rowF 13), .int .u8 67] W fun e w' => e = .returned (.bool true) ∧ w' = W) := Lib.hid (fun W => by have := ruses_any (rowF 13) (by decide) 67 W; rwa [show holds (rowF 13) 67 = true by decide] at this)
  have HUK : Hid (∀ W, Calls Try.prog 81 #[.string (rowF 13), .int .u8 75] W fun e w' => e = .returned (.bool true) ∧ w' = W) := Lib.hid (fun W => by have := ruses_any (rowF 13) (by decide) 75 W; rwa [show holds (rowF 13) 75 = true by decide] at this)
  generalize rowF 13 = s at *
  obtain ⟨m, HM, hm⟩ := max0_run k
  have hk2 := hk
  unfold I64 at hk2
  simp [Lit.wf, IntKind.min, IntKind.max, IntKind.bits, IntKind.signed] at hk2
  have hm0 : m = 0 := by omega
  rw [hm0] at HM
  clear hm0
  have HTY := Lib.hid (fun W => rtypes_any 0 (by omega) (by first | exact hk | (exact (by rfl)) | (unfold I64; simp [Lit.wf, IntKind.min, IntKind.max, IntKind.bits, IntKind.signed]; omega)) W)
  clear hm
  go_enter Try.func40, Try.ntmps40
  go_wp2_with (first | (go_at_call 80; refine (HFD.out _).mono ?_; rintro _ _ ⟨rfl, rfl⟩) | (go_at_call 81; with_reducible (refine (HUB.out _).mono ?_); rintro _ _ ⟨rfl, rfl⟩) | (go_at_call 81; with_reducible (refine (HUC.out _).mono ?_); rintro _ _ ⟨rfl, rfl⟩) | (go_at_call 81; with_reducible (refine (HUK.out _).mono ?_); rintro _ _ ⟨rfl, rfl⟩) | (go_at_call 82; refine (HTY.out _).mono ?_; rintro _ _ ⟨rfl, rfl⟩))
  all_goals go_ret
  all_goals exact ⟨by first | rfl | (simp [*]; done), by (repeat' (first | (with_reducible exact Below.refl _ _) | (with_reducible assumption) | (with_reducible refine below_alloc ?_ _) | (with_reducible refine Below.drew ?_) | (with_reducible refine below_drewN ?_ _) | (with_reducible refine below_step (by assumption) ?_) | (with_reducible refine below_later ?_ _) | (with_reducible refine Below.setCell ?_ ?_ _) | go_size))⟩
set_option maxRecDepth 100000 in
set_option maxHeartbeats 2000000 in
theorem rfo_13_1 (a b c k : Int) (hk : I64 k) (n2 : 0 ≤ a) (n3 : a ≤ 15) (n4 : 0 ≤ b) (n5 : b ≤ 15) (n6 : 0 ≤ c) (n7 : c ≤ 15) (c0 : 0 ≤ k) (z1 : ¬ (k < 2097152)) (w : World) : Calls Try.prog 40 #[.agg #[.int .i64 13, .int .i64 a, .int .i64 b, .int .i64 c, .int .i64 k]] w fun e w' => e = .returned (.bool false) ∧ Below w.heap.size w w' := by
  have HFD : Hid (∀ W, Calls Try.prog 80 #[.int .i64 13] W fun e w' => e = .returned (.string (rowF 13)) ∧ w' = W) := Lib.hid (fun W => rfields_v 13 (by omega) (by omega) W)
  have HUB : Hid (∀ W, Calls Try.prog 81 #[.string (rowF 13), .int .u8 66] W fun e w' => e = .returned (.bool true) ∧ w' = W) := Lib.hid (fun W => by have := ruses_any (rowF 13) (by decide) 66 W; rwa [show holds (rowF 13) 66 = true by decide] at this)
  have HUC : Hid (∀ W, Calls Try.prog 81 #[.string (rowF 13), .int .u8 67] W fun e w' => e = .returned (.bool true) ∧ w' = W) := Lib.hid (fun W => by have := ruses_any (rowF 13) (by decide) 67 W; rwa [show holds (rowF 13) 67 = true by decide] at this)
  have HUK : Hid (∀ W, Calls Try.prog 81 #[.string (rowF 13), .int .u8 75] W fun e w' => e = .returned (.bool true) ∧ w' = W) := Lib.hid (fun W => by have := ruses_any (rowF 13) (by decide) 75 W; rwa [show holds (rowF 13) 75 = true by decide] at this)
  generalize rowF 13 = s at *
  obtain ⟨m, HM, hm⟩ := max0_run k
  have hk2 := hk
  unfold I64 at hk2
  simp [Lit.wf, IntKind.min, IntKind.max, IntKind.bits, IntKind.signed] at hk2
  have hm0 : m = k := by omega
  rw [hm0] at HM
  clear hm0
  have HTY := Lib.hid (fun W => rtypes_any k (by omega) (by first | exact hk | (exact (by rfl)) | (unfold I64; simp [Lit.wf, IntKind.min, IntKind.max, IntKind.bits, IntKind.signed]; omega)) W)
  clear hm
  have q1 : ¬ k / 16384 < 128 := by omega
  go_enter Try.func40, Try.ntmps40
  go_wp2_with (first | (go_at_call 80; refine (HFD.out _).mono ?_; rintro _ _ ⟨rfl, rfl⟩) | (go_at_call 81; with_reducible (refine (HUB.out _).mono ?_); rintro _ _ ⟨rfl, rfl⟩) | (go_at_call 81; with_reducible (refine (HUC.out _).mono ?_); rintro _ _ ⟨rfl, rfl⟩) | (go_at_call 81; with_reducible (refine (HUK.out _).mono ?_); rintro _ _ ⟨rfl, rfl⟩) | (go_at_call 82; refine (HTY.out _).mono ?_; rintro _ _ ⟨rfl, rfl⟩))
  all_goals go_ret
  all_goals exact ⟨by first | rfl | (simp [*]; done), by (repeat' (first | (with_reducible exact Below.refl _ _) | (with_reducible assumption) | (with_reducible refine below_alloc ?_ _) | (with_reducible refine Below.drew ?_) | (with_reducible refine below_drewN ?_ _) | (with_reducible refine below_step (by assumption) ?_) | (with_reducible refine below_later ?_ _) | (with_reducible refine Below.setCell ?_ ?_ _) | go_size))⟩
set_option maxRecDepth 100000 in
set_option maxHeartbeats 2000000 in
theorem rfo_13_2 (a b c k : Int) (hk : I64 k) (n2 : 0 ≤ a) (n3 : a ≤ 15) (n4 : 0 ≤ b) (n5 : b ≤ 15) (n6 : 0 ≤ c) (n7 : c ≤ 15) (c0 : 0 ≤ k) (c1 : k < 2097152) (z2 : ¬ (k % 128 = 0)) (w : World) : Calls Try.prog 40 #[.agg #[.int .i64 13, .int .i64 a, .int .i64 b, .int .i64 c, .int .i64 k]] w fun e w' => e = .returned (.bool false) ∧ Below w.heap.size w w' := by
  have HFD : Hid (∀ W, Calls Try.prog 80 #[.int .i64 13] W fun e w' => e = .returned (.string (rowF 13)) ∧ w' = W) := Lib.hid (fun W => rfields_v 13 (by omega) (by omega) W)
  have HUB : Hid (∀ W, Calls Try.prog 81 #[.string (rowF 13), .int .u8 66] W fun e w' => e = .returned (.bool true) ∧ w' = W) := Lib.hid (fun W => by have := ruses_any (rowF 13) (by decide) 66 W; rwa [show holds (rowF 13) 66 = true by decide] at this)
  have HUC : Hid (∀ W, Calls Try.prog 81 #[.string (rowF 13), .int .u8 67] W fun e w' => e = .returned (.bool true) ∧ w' = W) := Lib.hid (fun W => by have := ruses_any (rowF 13) (by decide) 67 W; rwa [show holds (rowF 13) 67 = true by decide] at this)
  have HUK : Hid (∀ W, Calls Try.prog 81 #[.string (rowF 13), .int .u8 75] W fun e w' => e = .returned (.bool true) ∧ w' = W) := Lib.hid (fun W => by have := ruses_any (rowF 13) (by decide) 75 W; rwa [show holds (rowF 13) 75 = true by decide] at this)
  generalize rowF 13 = s at *
  obtain ⟨m, HM, hm⟩ := max0_run k
  have hk2 := hk
  unfold I64 at hk2
  simp [Lit.wf, IntKind.min, IntKind.max, IntKind.bits, IntKind.signed] at hk2
  have hm0 : m = k := by omega
  rw [hm0] at HM
  clear hm0
  have HTY := Lib.hid (fun W => rtypes_any k (by omega) (by first | exact hk | (exact (by rfl)) | (unfold I64; simp [Lit.wf, IntKind.min, IntKind.max, IntKind.bits, IntKind.signed]; omega)) W)
  clear hm
  have q1 : k / 16384 < 128 := by omega
  have q2 : (k % 128 == 0) = false := by simp; exact z2
  go_enter Try.func40, Try.ntmps40
  go_wp2_with (first | (go_at_call 80; refine (HFD.out _).mono ?_; rintro _ _ ⟨rfl, rfl⟩) | (go_at_call 81; with_reducible (refine (HUB.out _).mono ?_); rintro _ _ ⟨rfl, rfl⟩) | (go_at_call 81; with_reducible (refine (HUC.out _).mono ?_); rintro _ _ ⟨rfl, rfl⟩) | (go_at_call 81; with_reducible (refine (HUK.out _).mono ?_); rintro _ _ ⟨rfl, rfl⟩) | (go_at_call 82; refine (HTY.out _).mono ?_; rintro _ _ ⟨rfl, rfl⟩))
  all_goals go_ret
  all_goals exact ⟨by first | rfl | (simp [*]; done), by (repeat' (first | (with_reducible exact Below.refl _ _) | (with_reducible assumption) | (with_reducible refine below_alloc ?_ _) | (with_reducible refine Below.drew ?_) | (with_reducible refine below_drewN ?_ _) | (with_reducible refine below_step (by assumption) ?_) | (with_reducible refine below_later ?_ _) | (with_reducible refine Below.setCell ?_ ?_ _) | go_size))⟩
set_option maxRecDepth 100000 in
set_option maxHeartbeats 2000000 in
theorem rfo_13_3 (a b c k : Int) (hk : I64 k) (n2 : 0 ≤ a) (n3 : a ≤ 15) (n4 : 0 ≤ b) (n5 : b ≤ 15) (n6 : 0 ≤ c) (n7 : c ≤ 15) (c0 : 0 ≤ k) (c1 : k < 2097152) (c2 : k % 128 = 0) (w : World) : Calls Try.prog 40 #[.agg #[.int .i64 13, .int .i64 a, .int .i64 b, .int .i64 c, .int .i64 k]] w fun e w' => e = .returned (.bool true) ∧ Below w.heap.size w w' := by
  have HFD : Hid (∀ W, Calls Try.prog 80 #[.int .i64 13] W fun e w' => e = .returned (.string (rowF 13)) ∧ w' = W) := Lib.hid (fun W => rfields_v 13 (by omega) (by omega) W)
  have HUB : Hid (∀ W, Calls Try.prog 81 #[.string (rowF 13), .int .u8 66] W fun e w' => e = .returned (.bool true) ∧ w' = W) := Lib.hid (fun W => by have := ruses_any (rowF 13) (by decide) 66 W; rwa [show holds (rowF 13) 66 = true by decide] at this)
  have HUC : Hid (∀ W, Calls Try.prog 81 #[.string (rowF 13), .int .u8 67] W fun e w' => e = .returned (.bool true) ∧ w' = W) := Lib.hid (fun W => by have := ruses_any (rowF 13) (by decide) 67 W; rwa [show holds (rowF 13) 67 = true by decide] at this)
  have HUK : Hid (∀ W, Calls Try.prog 81 #[.string (rowF 13), .int .u8 75] W fun e w' => e = .returned (.bool true) ∧ w' = W) := Lib.hid (fun W => by have := ruses_any (rowF 13) (by decide) 75 W; rwa [show holds (rowF 13) 75 = true by decide] at this)
  generalize rowF 13 = s at *
  obtain ⟨m, HM, hm⟩ := max0_run k
  have hk2 := hk
  unfold I64 at hk2
  simp [Lit.wf, IntKind.min, IntKind.max, IntKind.bits, IntKind.signed] at hk2
  have hm0 : m = k := by omega
  rw [hm0] at HM
  clear hm0
  have HTY := Lib.hid (fun W => rtypes_any k (by omega) (by first | exact hk | (exact (by rfl)) | (unfold I64; simp [Lit.wf, IntKind.min, IntKind.max, IntKind.bits, IntKind.signed]; omega)) W)
  clear hm
  have q1 : k / 16384 < 128 := by omega
  go_enter Try.func40, Try.ntmps40
  go_wp2_with (first | (go_at_call 80; refine (HFD.out _).mono ?_; rintro _ _ ⟨rfl, rfl⟩) | (go_at_call 81; with_reducible (refine (HUB.out _).mono ?_); rintro _ _ ⟨rfl, rfl⟩) | (go_at_call 81; with_reducible (refine (HUC.out _).mono ?_); rintro _ _ ⟨rfl, rfl⟩) | (go_at_call 81; with_reducible (refine (HUK.out _).mono ?_); rintro _ _ ⟨rfl, rfl⟩) | (go_at_call 82; refine (HTY.out _).mono ?_; rintro _ _ ⟨rfl, rfl⟩))
  all_goals go_ret
  all_goals exact ⟨by first | rfl | (simp [*]; done), by (repeat' (first | (with_reducible exact Below.refl _ _) | (with_reducible assumption) | (with_reducible refine below_alloc ?_ _) | (with_reducible refine Below.drew ?_) | (with_reducible refine below_drewN ?_ _) | (with_reducible refine below_step (by assumption) ?_) | (with_reducible refine below_later ?_ _) | (with_reducible refine Below.setCell ?_ ?_ _) | go_size))⟩
set_option maxRecDepth 100000 in
set_option maxHeartbeats 2000000 in
theorem rfo_14_0 (a b c k : Int) (hk : I64 k) (n2 : 0 ≤ a) (n3 : a ≤ 15) (n4 : 0 ≤ b) (n5 : b ≤ 15) (n6 : 0 ≤ c) (n7 : c ≤ 15) (z0 : ¬ (0 ≤ k)) (w : World) : Calls Try.prog 40 #[.agg #[.int .i64 14, .int .i64 a, .int .i64 b, .int .i64 c, .int .i64 k]] w fun e w' => e = .returned (.bool false) ∧ Below w.heap.size w w' := by
  have HFD : Hid (∀ W, Calls Try.prog 80 #[.int .i64 14] W fun e w' => e = .returned (.string (rowF 14)) ∧ w' = W) := Lib.hid (fun W => rfields_v 14 (by omega) (by omega) W)
  have HUB : Hid (∀ W, Calls Try.prog 81 #[.string (rowF 14), .int .u8 66] W fun e w' => e = .returned (.bool true) ∧ w' = W) := Lib.hid (fun W => by have := ruses_any (rowF 14) (by decide) 66 W; rwa [show holds (rowF 14) 66 = true by decide] at this)
  have HUC : Hid (∀ W, Calls Try.prog 81 #[.string (rowF 14), .int .u8 67] W fun e w' => e = .returned (.bool true) ∧ w' = W) := Lib.hid (fun W => by have := ruses_any (rowF 14) (by decide) 67 W; rwa [show holds (rowF 14) 67 = true by decide] at this)
  have HUK : Hid (∀ W, Calls Try.prog 81 #[.string (rowF 14), .int .u8 75] W fun e w' => e = .returned (.bool true) ∧ w' = W) := Lib.hid (fun W => by have := ruses_any (rowF 14) (by decide) 75 W; rwa [show holds (rowF 14) 75 = true by decide] at this)
  generalize rowF 14 = s at *
  obtain ⟨m, HM, hm⟩ := max0_run k
  have hk2 := hk
  unfold I64 at hk2
  simp [Lit.wf, IntKind.min, IntKind.max, IntKind.bits, IntKind.signed] at hk2
  have hm0 : m = 0 := by omega
  rw [hm0] at HM
  clear hm0
  have HTY := Lib.hid (fun W => rtypes_any 0 (by omega) (by first | exact hk | (exact (by rfl)) | (unfold I64; simp [Lit.wf, IntKind.min, IntKind.max, IntKind.bits, IntKind.signed]; omega)) W)
  clear hm
  go_enter Try.func40, Try.ntmps40
  go_wp2_with (first | (go_at_call 80; refine (HFD.out _).mono ?_; rintro _ _ ⟨rfl, rfl⟩) | (go_at_call 81; with_reducible (refine (HUB.out _).mono ?_); rintro _ _ ⟨rfl, rfl⟩) | (go_at_call 81; with_reducible (refine (HUC.out _).mono ?_); rintro _ _ ⟨rfl, rfl⟩) | (go_at_call 81; with_reducible (refine (HUK.out _).mono ?_); rintro _ _ ⟨rfl, rfl⟩) | (go_at_call 82; refine (HTY.out _).mono ?_; rintro _ _ ⟨rfl, rfl⟩))
  all_goals go_ret
  all_goals exact ⟨by first | rfl | (simp [*]; done), by (repeat' (first | (with_reducible exact Below.refl _ _) | (with_reducible assumption) | (with_reducible refine below_alloc ?_ _) | (with_reducible refine Below.drew ?_) | (with_reducible refine below_drewN ?_ _) | (with_reducible refine below_step (by assumption) ?_) | (with_reducible refine below_later ?_ _) | (with_reducible refine Below.setCell ?_ ?_ _) | go_size))⟩
set_option maxRecDepth 100000 in
set_option maxHeartbeats 2000000 in
theorem rfo_14_1 (a b c k : Int) (hk : I64 k) (n2 : 0 ≤ a) (n3 : a ≤ 15) (n4 : 0 ≤ b) (n5 : b ≤ 15) (n6 : 0 ≤ c) (n7 : c ≤ 15) (c0 : 0 ≤ k) (z1 : ¬ (k < 2097152)) (w : World) : Calls Try.prog 40 #[.agg #[.int .i64 14, .int .i64 a, .int .i64 b, .int .i64 c, .int .i64 k]] w fun e w' => e = .returned (.bool false) ∧ Below w.heap.size w w' := by
  have HFD : Hid (∀ W, Calls Try.prog 80 #[.int .i64 14] W fun e w' => e = .returned (.string (rowF 14)) ∧ w' = W) := Lib.hid (fun W => rfields_v 14 (by omega) (by omega) W)
  have HUB : Hid (∀ W, Calls Try.prog 81 #[.string (rowF 14), .int .u8 66] W fun e w' => e = .returned (.bool true) ∧ w' = W) := Lib.hid (fun W => by have := ruses_any (rowF 14) (by decide) 66 W; rwa [show holds (rowF 14) 66 = true by decide] at this)
  have HUC : Hid (∀ W, Calls Try.prog 81 #[.string (rowF 14), .int .u8 67] W fun e w' => e = .returned (.bool true) ∧ w' = W) := Lib.hid (fun W => by have := ruses_any (rowF 14) (by decide) 67 W; rwa [show holds (rowF 14) 67 = true by decide] at this)
  have HUK : Hid (∀ W, Calls Try.prog 81 #[.string (rowF 14), .int .u8 75] W fun e w' => e = .returned (.bool true) ∧ w' = W) := Lib.hid (fun W => by have := ruses_any (rowF 14) (by decide) 75 W; rwa [show holds (rowF 14) 75 = true by decide] at this)
  generalize rowF 14 = s at *
  obtain ⟨m, HM, hm⟩ := max0_run k
  have hk2 := hk
  unfold I64 at hk2
  simp [Lit.wf, IntKind.min, IntKind.max, IntKind.bits, IntKind.signed] at hk2
  have hm0 : m = k := by omega
  rw [hm0] at HM
  clear hm0
  have HTY := Lib.hid (fun W => rtypes_any k (by omega) (by first | exact hk | (exact (by rfl)) | (unfold I64; simp [Lit.wf, IntKind.min, IntKind.max, IntKind.bits, IntKind.signed]; omega)) W)
  clear hm
  have q1 : ¬ k / 16384 < 128 := by omega
  go_enter Try.func40, Try.ntmps40
  go_wp2_with (first | (go_at_call 80; refine (HFD.out _).mono ?_; rintro _ _ ⟨rfl, rfl⟩) | (go_at_call 81; with_reducible (refine (HUB.out _).mono ?_); rintro _ _ ⟨rfl, rfl⟩) | (go_at_call 81; with_reducible (refine (HUC.out _).mono ?_); rintro _ _ ⟨rfl, rfl⟩) | (go_at_call 81; with_reducible (refine (HUK.out _).mono ?_); rintro _ _ ⟨rfl, rfl⟩) | (go_at_call 82; refine (HTY.out _).mono ?_; rintro _ _ ⟨rfl, rfl⟩))
  all_goals go_ret
  all_goals exact ⟨by first | rfl | (simp [*]; done), by (repeat' (first | (with_reducible exact Below.refl _ _) | (with_reducible assumption) | (with_reducible refine below_alloc ?_ _) | (with_reducible refine Below.drew ?_) | (with_reducible refine below_drewN ?_ _) | (with_reducible refine below_step (by assumption) ?_) | (with_reducible refine below_later ?_ _) | (with_reducible refine Below.setCell ?_ ?_ _) | go_size))⟩
set_option maxRecDepth 100000 in
set_option maxHeartbeats 2000000 in
theorem rfo_14_2 (a b c k : Int) (hk : I64 k) (n2 : 0 ≤ a) (n3 : a ≤ 15) (n4 : 0 ≤ b) (n5 : b ≤ 15) (n6 : 0 ≤ c) (n7 : c ≤ 15) (c0 : 0 ≤ k) (c1 : k < 2097152) (z2 : ¬ (k % 128 = 0)) (w : World) : Calls Try.prog 40 #[.agg #[.int .i64 14, .int .i64 a, .int .i64 b, .int .i64 c, .int .i64 k]] w fun e w' => e = .returned (.bool false) ∧ Below w.heap.size w w' := by
  have HFD : Hid (∀ W, Calls Try.prog 80 #[.int .i64 14] W fun e w' => e = .returned (.string (rowF 14)) ∧ w' = W) := Lib.hid (fun W => rfields_v 14 (by omega) (by omega) W)
  have HUB : Hid (∀ W, Calls Try.prog 81 #[.string (rowF 14), .int .u8 66] W fun e w' => e = .returned (.bool true) ∧ w' = W) := Lib.hid (fun W => by have := ruses_any (rowF 14) (by decide) 66 W; rwa [show holds (rowF 14) 66 = true by decide] at this)
  have HUC : Hid (∀ W, Calls Try.prog 81 #[.string (rowF 14), .int .u8 67] W fun e w' => e = .returned (.bool true) ∧ w' = W) := Lib.hid (fun W => by have := ruses_any (rowF 14) (by decide) 67 W; rwa [show holds (rowF 14) 67 = true by decide] at this)
  have HUK : Hid (∀ W, Calls Try.prog 81 #[.string (rowF 14), .int .u8 75] W fun e w' => e = .returned (.bool true) ∧ w' = W) := Lib.hid (fun W => by have := ruses_any (rowF 14) (by decide) 75 W; rwa [show holds (rowF 14) 75 = true by decide] at this)
  generalize rowF 14 = s at *
  obtain ⟨m, HM, hm⟩ := max0_run k
  have hk2 := hk
  unfold I64 at hk2
  simp [Lit.wf, IntKind.min, IntKind.max, IntKind.bits, IntKind.signed] at hk2
  have hm0 : m = k := by omega
  rw [hm0] at HM
  clear hm0
  have HTY := Lib.hid (fun W => rtypes_any k (by omega) (by first | exact hk | (exact (by rfl)) | (unfold I64; simp [Lit.wf, IntKind.min, IntKind.max, IntKind.bits, IntKind.signed]; omega)) W)
  clear hm
  have q1 : k / 16384 < 128 := by omega
  have q2 : (k % 128 == 0) = false := by simp; exact z2
  go_enter Try.func40, Try.ntmps40
  go_wp2_with (first | (go_at_call 80; refine (HFD.out _).mono ?_; rintro _ _ ⟨rfl, rfl⟩) | (go_at_call 81; with_reducible (refine (HUB.out _).mono ?_); rintro _ _ ⟨rfl, rfl⟩) | (go_at_call 81; with_reducible (refine (HUC.out _).mono ?_); rintro _ _ ⟨rfl, rfl⟩) | (go_at_call 81; with_reducible (refine (HUK.out _).mono ?_); rintro _ _ ⟨rfl, rfl⟩) | (go_at_call 82; refine (HTY.out _).mono ?_; rintro _ _ ⟨rfl, rfl⟩))
  all_goals go_ret
  all_goals exact ⟨by first | rfl | (simp [*]; done), by (repeat' (first | (with_reducible exact Below.refl _ _) | (with_reducible assumption) | (with_reducible refine below_alloc ?_ _) | (with_reducible refine Below.drew ?_) | (with_reducible refine below_drewN ?_ _) | (with_reducible refine below_step (by assumption) ?_) | (with_reducible refine below_later ?_ _) | (with_reducible refine Below.setCell ?_ ?_ _) | go_size))⟩
set_option maxRecDepth 100000 in
set_option maxHeartbeats 2000000 in
theorem rfo_14_3 (a b c k : Int) (hk : I64 k) (n2 : 0 ≤ a) (n3 : a ≤ 15) (n4 : 0 ≤ b) (n5 : b ≤ 15) (n6 : 0 ≤ c) (n7 : c ≤ 15) (c0 : 0 ≤ k) (c1 : k < 2097152) (c2 : k % 128 = 0) (w : World) : Calls Try.prog 40 #[.agg #[.int .i64 14, .int .i64 a, .int .i64 b, .int .i64 c, .int .i64 k]] w fun e w' => e = .returned (.bool true) ∧ Below w.heap.size w w' := by
  have HFD : Hid (∀ W, Calls Try.prog 80 #[.int .i64 14] W fun e w' => e = .returned (.string (rowF 14)) ∧ w' = W) := Lib.hid (fun W => rfields_v 14 (by omega) (by omega) W)
  have HUB : Hid (∀ W, Calls Try.prog 81 #[.string (rowF 14), .int .u8 66] W fun e w' => e = .returned (.bool true) ∧ w' = W) := Lib.hid (fun W => by have := ruses_any (rowF 14) (by decide) 66 W; rwa [show holds (rowF 14) 66 = true by decide] at this)
  have HUC : Hid (∀ W, Calls Try.prog 81 #[.string (rowF 14), .int .u8 67] W fun e w' => e = .returned (.bool true) ∧ w' = W) := Lib.hid (fun W => by have := ruses_any (rowF 14) (by decide) 67 W; rwa [show holds (rowF 14) 67 = true by decide] at this)
  have HUK : Hid (∀ W, Calls Try.prog 81 #[.string (rowF 14), .int .u8 75] W fun e w' => e = .returned (.bool true) ∧ w' = W) := Lib.hid (fun W => by have := ruses_any (rowF 14) (by decide) 75 W; rwa [show holds (rowF 14) 75 = true by decide] at this)
  generalize rowF 14 = s at *
  obtain ⟨m, HM, hm⟩ := max0_run k
  have hk2 := hk
  unfold I64 at hk2
  simp [Lit.wf, IntKind.min, IntKind.max, IntKind.bits, IntKind.signed] at hk2
  have hm0 : m = k := by omega
  rw [hm0] at HM
  clear hm0
  have HTY := Lib.hid (fun W => rtypes_any k (by omega) (by first | exact hk | (exact (by rfl)) | (unfold I64; simp [Lit.wf, IntKind.min, IntKind.max, IntKind.bits, IntKind.signed]; omega)) W)
  clear hm
  have q1 : k / 16384 < 128 := by omega
  go_enter Try.func40, Try.ntmps40
  go_wp2_with (first | (go_at_call 80; refine (HFD.out _).mono ?_; rintro _ _ ⟨rfl, rfl⟩) | (go_at_call 81; with_reducible (refine (HUB.out _).mono ?_); rintro _ _ ⟨rfl, rfl⟩) | (go_at_call 81; with_reducible (refine (HUC.out _).mono ?_); rintro _ _ ⟨rfl, rfl⟩) | (go_at_call 81; with_reducible (refine (HUK.out _).mono ?_); rintro _ _ ⟨rfl, rfl⟩) | (go_at_call 82; refine (HTY.out _).mono ?_; rintro _ _ ⟨rfl, rfl⟩))
  all_goals go_ret
  all_goals exact ⟨by first | rfl | (simp [*]; done), by (repeat' (first | (with_reducible exact Below.refl _ _) | (with_reducible assumption) | (with_reducible refine below_alloc ?_ _) | (with_reducible refine Below.drew ?_) | (with_reducible refine below_drewN ?_ _) | (with_reducible refine below_step (by assumption) ?_) | (with_reducible refine below_later ?_ _) | (with_reducible refine Below.setCell ?_ ?_ _) | go_size))⟩
end Go.Proofs.Ytfooefiaenlhmaa
namespace Go.Proofs.Ytfooefiaenlhmaa
set_option linter.unusedVariables false
set_option linter.unusedSimpArgs false
open Go.RowKit Go.ChangeShapes Go.WideShapes Go.ChangeAt

set_option maxRecDepth 100000 in
set_option maxHeartbeats 2000000 in
theorem rfo_15_0 (a b c : Int) (n2 : 0 ≤ a) (n3 : a ≤ 15) (n4 : 0 ≤ b) (n5 : b ≤ 15) (n6 : 0 ≤ c) (n7 : c ≤ 15) (w : World) : Calls Try.prog 40 #[.agg #[.int .i64 15, .int .i64 a, .int .i64 b, .int .i64 c, .int .i64 0]] w fun e w' => e = .returned (.bool true) ∧ Below w.heap.size w w' := by
  have HFD : Hid (∀ W, Calls Try.prog 80 #[.int .i64 15] W fun e w' => e = .returned (.string (rowF 15)) ∧ w' = W) := Lib.hid (fun W => rfields_v 15 (by omega) (by omega) W)
  have HUB : Hid (∀ W, Calls Try.prog 81 #[.string (rowF 15), .int .u8 66] W fun e w' => e = .returned (.bool true) ∧ w' = W) := Lib.hid (fun W => by have := ruses_any (rowF 15) (by decide) 66 W; rwa [show holds (rowF 15) 66 = true by decide] at this)
  have HUC : Hid (∀ W, Calls Try.prog 81 #[.string (rowF 15), .int .u8 67] W fun e w' => e = .returned (.bool true) ∧ w' = W) := Lib.hid (fun W => by have := ruses_any (rowF 15) (by decide) 67 W; rwa [show holds (rowF 15) 67 = true by decide] at this)
  have HUK : Hid (∀ W, Calls Try.prog 81 #[.string (rowF 15), .int .u8 75] W fun e w' => e = .returned (.bool false) ∧ w' = W) := Lib.hid (fun W => by have := ruses_any (rowF 15) (by decide) 75 W; rwa [show holds (rowF 15) 75 = false by decide] at this)
  generalize rowF 15 = s at *
  obtain ⟨m, HM, hm⟩ := max0_run 0
  have hm0 : m = 0 := by omega
  rw [hm0] at HM
  clear hm0
  have HTY := Lib.hid (fun W => rtypes_any 0 (by omega) (by rfl) W)
  clear hm
  go_enter Try.func40, Try.ntmps40
  go_wp2_with (first | (go_at_call 80; refine (HFD.out _).mono ?_; rintro _ _ ⟨rfl, rfl⟩) | (go_at_call 81; with_reducible (refine (HUB.out _).mono ?_); rintro _ _ ⟨rfl, rfl⟩) | (go_at_call 81; with_reducible (refine (HUC.out _).mono ?_); rintro _ _ ⟨rfl, rfl⟩) | (go_at_call 81; with_reducible (refine (HUK.out _).mono ?_); rintro _ _ ⟨rfl, rfl⟩) | (go_at_call 82; refine (HTY.out _).mono ?_; rintro _ _ ⟨rfl, rfl⟩))
  all_goals go_ret
  all_goals exact ⟨by first | rfl | (simp [*]; done) | (simp; omega), by (repeat' (first | (with_reducible exact Below.refl _ _) | (with_reducible assumption) | (with_reducible refine below_alloc ?_ _) | (with_reducible refine Below.drew ?_) | (with_reducible refine below_drewN ?_ _) | (with_reducible refine below_step (by assumption) ?_) | (with_reducible refine below_later ?_ _) | (with_reducible refine Below.setCell ?_ ?_ _) | go_size))⟩
set_option maxRecDepth 100000 in
set_option maxHeartbeats 2000000 in
theorem rfo_16_0 (a b c : Int) (n2 : 0 ≤ a) (n3 : a ≤ 15) (n4 : 0 ≤ b) (n5 : b ≤ 15) (n6 : 0 ≤ c) (n7 : c ≤ 15) (w : World) : Calls Try.prog 40 #[.agg #[.int .i64 16, .int .i64 a, .int .i64 b, .int .i64 c, .int .i64 0]] w fun e w' => e = .returned (.bool true) ∧ Below w.heap.size w w' := by
  have HFD : Hid (∀ W, Calls Try.prog 80 #[.int .i64 16] W fun e w' => e = .returned (.string (rowF 16)) ∧ w' = W) := Lib.hid (fun W => rfields_v 16 (by omega) (by omega) W)
  have HUB : Hid (∀ W, Calls Try.prog 81 #[.string (rowF 16), .int .u8 66] W fun e w' => e = .returned (.bool true) ∧ w' = W) := Lib.hid (fun W => by have := ruses_any (rowF 16) (by decide) 66 W; rwa [show holds (rowF 16) 66 = true by decide] at this)
  have HUC : Hid (∀ W, Calls Try.prog 81 #[.string (rowF 16), .int .u8 67] W fun e w' => e = .returned (.bool true) ∧ w' = W) := Lib.hid (fun W => by have := ruses_any (rowF 16) (by decide) 67 W; rwa [show holds (rowF 16) 67 = true by decide] at this)
  have HUK : Hid (∀ W, Calls Try.prog 81 #[.string (rowF 16), .int .u8 75] W fun e w' => e = .returned (.bool false) ∧ w' = W) := Lib.hid (fun W => by have := ruses_any (rowF 16) (by decide) 75 W; rwa [show holds (rowF 16) 75 = false by decide] at this)
  generalize rowF 16 = s at *
  obtain ⟨m, HM, hm⟩ := max0_run 0
  have hm0 : m = 0 := by omega
  rw [hm0] at HM
  clear hm0
  have HTY := Lib.hid (fun W => rtypes_any 0 (by omega) (by rfl) W)
  clear hm
  go_enter Try.func40, Try.ntmps40
  go_wp2_with (first | (go_at_call 80; refine (HFD.out _).mono ?_; rintro _ _ ⟨rfl, rfl⟩) | (go_at_call 81; with_reducible (refine (HUB.out _).mono ?_); rintro _ _ ⟨rfl, rfl⟩) | (go_at_call 81; with_reducible (refine (HUC.out _).mono ?_); rintro _ _ ⟨rfl, rfl⟩) | (go_at_call 81; with_reducible (refine (HUK.out _).mono ?_); rintro _ _ ⟨rfl, rfl⟩) | (go_at_call 82; refine (HTY.out _).mono ?_; rintro _ _ ⟨rfl, rfl⟩))
  all_goals go_ret
  all_goals exact ⟨by first | rfl | (simp [*]; done) | (simp; omega), by (repeat' (first | (with_reducible exact Below.refl _ _) | (with_reducible assumption) | (with_reducible refine below_alloc ?_ _) | (with_reducible refine Below.drew ?_) | (with_reducible refine below_drewN ?_ _) | (with_reducible refine below_step (by assumption) ?_) | (with_reducible refine below_later ?_ _) | (with_reducible refine Below.setCell ?_ ?_ _) | go_size))⟩
set_option maxRecDepth 100000 in
set_option maxHeartbeats 2000000 in
theorem rfo_17_0 (a b c : Int) (n2 : 0 ≤ a) (n3 : a ≤ 15) (n4 : 0 ≤ b) (n5 : b ≤ 15) (n6 : 0 ≤ c) (n7 : c ≤ 15) (w : World) : Calls Try.prog 40 #[.agg #[.int .i64 17, .int .i64 a, .int .i64 b, .int .i64 c, .int .i64 0]] w fun e w' => e = .returned (.bool true) ∧ Below w.heap.size w w' := by
  have HFD : Hid (∀ W, Calls Try.prog 80 #[.int .i64 17] W fun e w' => e = .returned (.string (rowF 17)) ∧ w' = W) := Lib.hid (fun W => rfields_v 17 (by omega) (by omega) W)
  have HUB : Hid (∀ W, Calls Try.prog 81 #[.string (rowF 17), .int .u8 66] W fun e w' => e = .returned (.bool true) ∧ w' = W) := Lib.hid (fun W => by have := ruses_any (rowF 17) (by decide) 66 W; rwa [show holds (rowF 17) 66 = true by decide] at this)
  have HUC : Hid (∀ W, Calls Try.prog 81 #[.string (rowF 17), .int .u8 67] W fun e w' => e = .returned (.bool true) ∧ w' = W) := Lib.hid (fun W => by have := ruses_any (rowF 17) (by decide) 67 W; rwa [show holds (rowF 17) 67 = true by decide] at this)
  have HUK : Hid (∀ W, Calls Try.prog 81 #[.string (rowF 17), .int .u8 75] W fun e w' => e = .returned (.bool false) ∧ w' = W) := Lib.hid (fun W => by have := ruses_any (rowF 17) (by decide) 75 W; rwa [show holds (rowF 17) 75 = false by decide] at this)
  generalize rowF 17 = s at *
  obtain ⟨m, HM, hm⟩ := max0_run 0
  have hm0 : m = 0 := by omega
  rw [hm0] at HM
  clear hm0
  have HTY := Lib.hid (fun W => rtypes_any 0 (by omega) (by rfl) W)
  clear hm
  go_enter Try.func40, Try.ntmps40
  go_wp2_with (first | (go_at_call 80; refine (HFD.out _).mono ?_; rintro _ _ ⟨rfl, rfl⟩) | (go_at_call 81; with_reducible (refine (HUB.out _).mono ?_); rintro _ _ ⟨rfl, rfl⟩) | (go_at_call 81; with_reducible (refine (HUC.out _).mono ?_); rintro _ _ ⟨rfl, rfl⟩) | (go_at_call 81; with_reducible (refine (HUK.out _).mono ?_); rintro _ _ ⟨rfl, rfl⟩) | (go_at_call 82; refine (HTY.out _).mono ?_; rintro _ _ ⟨rfl, rfl⟩))
  all_goals go_ret
  all_goals exact ⟨by first | rfl | (simp [*]; done) | (simp; omega), by (repeat' (first | (with_reducible exact Below.refl _ _) | (with_reducible assumption) | (with_reducible refine below_alloc ?_ _) | (with_reducible refine Below.drew ?_) | (with_reducible refine below_drewN ?_ _) | (with_reducible refine below_step (by assumption) ?_) | (with_reducible refine below_later ?_ _) | (with_reducible refine Below.setCell ?_ ?_ _) | go_size))⟩
set_option maxRecDepth 100000 in
set_option maxHeartbeats 2000000 in
theorem rfo_18_0 (a b : Int) (n2 : 0 ≤ a) (n3 : a ≤ 15) (n4 : 0 ≤ b) (n5 : b ≤ 15) (w : World) : Calls Try.prog 40 #[.agg #[.int .i64 18, .int .i64 a, .int .i64 b, .int .i64 0, .int .i64 0]] w fun e w' => e = .returned (.bool true) ∧ Below w.heap.size w w' := by
  have HFD : Hid (∀ W, Calls Try.prog 80 #[.int .i64 18] W fun e w' => e = .returned (.string (rowF 18)) ∧ w' = W) := Lib.hid (fun W => rfields_v 18 (by omega) (by omega) W)
  have HUB : Hid (∀ W, Calls Try.prog 81 #[.string (rowF 18), .int .u8 66] W fun e w' => e = .returned (.bool true) ∧ w' = W) := Lib.hid (fun W => by have := ruses_any (rowF 18) (by decide) 66 W; rwa [show holds (rowF 18) 66 = true by decide] at this)
  have HUC : Hid (∀ W, Calls Try.prog 81 #[.string (rowF 18), .int .u8 67] W fun e w' => e = .returned (.bool false) ∧ w' = W) := Lib.hid (fun W => by have := ruses_any (rowF 18) (by decide) 67 W; rwa [show holds (rowF 18) 67 = false by decide] at this)
  have HUK : Hid (∀ W, Calls Try.prog 81 #[.string (rowF 18), .int .u8 75] W fun e w' => e = .returned (.bool false) ∧ w' = W) := Lib.hid (fun W => by have := ruses_any (rowF 18) (by decide) 75 W; rwa [show holds (rowF 18) 75 = false by decide] at this)
  generalize rowF 18 = s at *
  obtain ⟨m, HM, hm⟩ := max0_run 0
  have hm0 : m = 0 := by omega
  rw [hm0] at HM
  clear hm0
  have HTY := Lib.hid (fun W => rtypes_any 0 (by omega) (by rfl) W)
  clear hm
  go_enter Try.func40, Try.ntmps40
  go_wp2_with (first | (go_at_call 80; refine (HFD.out _).mono ?_; rintro _ _ ⟨rfl, rfl⟩) | (go_at_call 81; with_reducible (refine (HUB.out _).mono ?_); rintro _ _ ⟨rfl, rfl⟩) | (go_at_call 81; with_reducible (refine (HUC.out _).mono ?_); rintro _ _ ⟨rfl, rfl⟩) | (go_at_call 81; with_reducible (refine (HUK.out _).mono ?_); rintro _ _ ⟨rfl, rfl⟩) | (go_at_call 82; refine (HTY.out _).mono ?_; rintro _ _ ⟨rfl, rfl⟩))
  all_goals go_ret
  all_goals exact ⟨by first | rfl | (simp [*]; done) | (simp; omega), by (repeat' (first | (with_reducible exact Below.refl _ _) | (with_reducible assumption) | (with_reducible refine below_alloc ?_ _) | (with_reducible refine Below.drew ?_) | (with_reducible refine below_drewN ?_ _) | (with_reducible refine below_step (by assumption) ?_) | (with_reducible refine below_later ?_ _) | (with_reducible refine Below.setCell ?_ ?_ _) | go_size))⟩
set_option maxRecDepth 100000 in
set_option maxHeartbeats 2000000 in
theorem rfo_19_0 (a b c k : Int) (hk : I64 k) (n2 : 0 ≤ a) (n3 : a ≤ 15) (n4 : 0 ≤ b) (n5 : b ≤ 15) (n6 : 0 ≤ c) (n7 : c ≤ 15) (z0 : ¬ (0 ≤ k)) (w : World) : Calls Try.prog 40 #[.agg #[.int .i64 19, .int .i64 a, .int .i64 b, .int .i64 c, .int .i64 k]] w fun e w' => e = .returned (.bool false) ∧ Below w.heap.size w w' := by
  have HFD : Hid (∀ W, Calls Try.prog 80 #[.int .i64 19] W fun e w' => e = .returned (.string (rowF 19)) ∧ w' = W) := Lib.hid (fun W => rfields_v 19 (by omega) (by omega) W)
  have HUB : Hid (∀ W, Calls Try.prog 81 #[.string (rowF 19), .int .u8 66] W fun e w' => e = .returned (.bool true) ∧ w' = W) := Lib.hid (fun W => by have := ruses_any (rowF 19) (by decide) 66 W; rwa [show holds (rowF 19) 66 = true by decide] at this)
  have HUC : Hid (∀ W, Calls Try.prog 81 #[.string (rowF 19), .int .u8 67] W fun e w' => e = .returned (.bool true) ∧ w' = W) := Lib.hid (fun W => by have := ruses_any (rowF 19) (by decide) 67 W; rwa [show holds (rowF 19) 67 = true by decide] at this)
  have HUK : Hid (∀ W, Calls Try.prog 81 #[.string (rowF 19), .int .u8 75] W fun e w' => e = .returned (.bool true) ∧ w' = W) := Lib.hid (fun W => by have := ruses_any (rowF 19) (by decide) 75 W; rwa [show holds (rowF 19) 75 = true by decide] at this)
  generalize rowF 19 = s at *
  obtain ⟨m, HM, hm⟩ := max0_run k
  have hk2 := hk
  unfold I64 at hk2
  simp [Lit.wf, IntKind.min, IntKind.max, IntKind.bits, IntKind.signed] at hk2
  have hm0 : m = 0 := by omega
  rw [hm0] at HM
  clear hm0
  have HTY := Lib.hid (fun W => rtypes_any 0 (by omega) (by first | exact hk | (exact (by rfl)) | (unfold I64; simp [Lit.wf, IntKind.min, IntKind.max, IntKind.bits, IntKind.signed]; omega)) W)
  clear hm
  go_enter Try.func40, Try.ntmps40
  go_wp2_with (first | (go_at_call 80; refine (HFD.out _).mono ?_; rintro _ _ ⟨rfl, rfl⟩) | (go_at_call 81; with_reducible (refine (HUB.out _).mono ?_); rintro _ _ ⟨rfl, rfl⟩) | (go_at_call 81; with_reducible (refine (HUC.out _).mono ?_); rintro _ _ ⟨rfl, rfl⟩) | (go_at_call 81; with_reducible (refine (HUK.out _).mono ?_); rintro _ _ ⟨rfl, rfl⟩) | (go_at_call 82; refine (HTY.out _).mono ?_; rintro _ _ ⟨rfl, rfl⟩))
  all_goals go_ret
  all_goals exact ⟨by first | rfl | (simp [*]; done) | (simp; omega), by (repeat' (first | (with_reducible exact Below.refl _ _) | (with_reducible assumption) | (with_reducible refine below_alloc ?_ _) | (with_reducible refine Below.drew ?_) | (with_reducible refine below_drewN ?_ _) | (with_reducible refine below_step (by assumption) ?_) | (with_reducible refine below_later ?_ _) | (with_reducible refine Below.setCell ?_ ?_ _) | go_size))⟩
set_option maxRecDepth 100000 in
set_option maxHeartbeats 2000000 in
theorem rfo_19_1 (a b c k : Int) (hk : I64 k) (n2 : 0 ≤ a) (n3 : a ≤ 15) (n4 : 0 ≤ b) (n5 : b ≤ 15) (n6 : 0 ≤ c) (n7 : c ≤ 15) (c0 : 0 ≤ k) (z1 : ¬ (k < 16)) (w : World) : Calls Try.prog 40 #[.agg #[.int .i64 19, .int .i64 a, .int .i64 b, .int .i64 c, .int .i64 k]] w fun e w' => e = .returned (.bool false) ∧ Below w.heap.size w w' := by
  have HFD : Hid (∀ W, Calls Try.prog 80 #[.int .i64 19] W fun e w' => e = .returned (.string (rowF 19)) ∧ w' = W) := Lib.hid (fun W => rfields_v 19 (by omega) (by omega) W)
  have HUB : Hid (∀ W, Calls Try.prog 81 #[.string (rowF 19), .int .u8 66] W fun e w' => e = .returned (.bool true) ∧ w' = W) := Lib.hid (fun W => by have := ruses_any (rowF 19) (by decide) 66 W; rwa [show holds (rowF 19) 66 = true by decide] at this)
  have HUC : Hid (∀ W, Calls Try.prog 81 #[.string (rowF 19), .int .u8 67] W fun e w' => e = .returned (.bool true) ∧ w' = W) := Lib.hid (fun W => by have := ruses_any (rowF 19) (by decide) 67 W; rwa [show holds (rowF 19) 67 = true by decide] at this)
  have HUK : Hid (∀ W, Calls Try.prog 81 #[.string (rowF 19), .int .u8 75] W fun e w' => e = .returned (.bool true) ∧ w' = W) := Lib.hid (fun W => by have := ruses_any (rowF 19) (by decide) 75 W; rwa [show holds (rowF 19) 75 = true by decide] at this)
  generalize rowF 19 = s at *
  obtain ⟨m, HM, hm⟩ := max0_run k
  have hk2 := hk
  unfold I64 at hk2
  simp [Lit.wf, IntKind.min, IntKind.max, IntKind.bits, IntKind.signed] at hk2
  have hm0 : m = k := by omega
  rw [hm0] at HM
  clear hm0
  have HTY := Lib.hid (fun W => rtypes_any k (by omega) (by first | exact hk | (exact (by rfl)) | (unfold I64; simp [Lit.wf, IntKind.min, IntKind.max, IntKind.bits, IntKind.signed]; omega)) W)
  clear hm
  go_enter Try.func40, Try.ntmps40
  go_wp2_with (first | (go_at_call 80; refine (HFD.out _).mono ?_; rintro _ _ ⟨rfl, rfl⟩) | (go_at_call 81; with_reducible (refine (HUB.out _).mono ?_); rintro _ _ ⟨rfl, rfl⟩) | (go_at_call 81; with_reducible (refine (HUC.out _).mono ?_); rintro _ _ ⟨rfl, rfl⟩) | (go_at_call 81; with_reducible (refine (HUK.out _).mono ?_); rintro _ _ ⟨rfl, rfl⟩) | (go_at_call 82; refine (HTY.out _).mono ?_; rintro _ _ ⟨rfl, rfl⟩))
  all_goals go_ret
  all_goals exact ⟨by first | rfl | (simp [*]; done) | (simp; omega), by (repeat' (first | (with_reducible exact Below.refl _ _) | (with_reducible assumption) | (with_reducible refine below_alloc ?_ _) | (with_reducible refine Below.drew ?_) | (with_reducible refine below_drewN ?_ _) | (with_reducible refine below_step (by assumption) ?_) | (with_reducible refine below_later ?_ _) | (with_reducible refine Below.setCell ?_ ?_ _) | go_size))⟩
set_option maxRecDepth 100000 in
set_option maxHeartbeats 2000000 in
theorem rfo_19_2 (a b c k : Int) (hk : I64 k) (n2 : 0 ≤ a) (n3 : a ≤ 15) (n4 : 0 ≤ b) (n5 : b ≤ 15) (n6 : 0 ≤ c) (n7 : c ≤ 15) (c0 : 0 ≤ k) (c1 : k < 16) (w : World) : Calls Try.prog 40 #[.agg #[.int .i64 19, .int .i64 a, .int .i64 b, .int .i64 c, .int .i64 k]] w fun e w' => e = .returned (.bool true) ∧ Below w.heap.size w w' := by
  have HFD : Hid (∀ W, Calls Try.prog 80 #[.int .i64 19] W fun e w' => e = .returned (.string (rowF 19)) ∧ w' = W) := Lib.hid (fun W => rfields_v 19 (by omega) (by omega) W)
  have HUB : Hid (∀ W, Calls Try.prog 81 #[.string (rowF 19), .int .u8 66] W fun e w' => e = .returned (.bool true) ∧ w' = W) := Lib.hid (fun W => by have := ruses_any (rowF 19) (by decide) 66 W; rwa [show holds (rowF 19) 66 = true by decide] at this)
  have HUC : Hid (∀ W, Calls Try.prog 81 #[.string (rowF 19), .int .u8 67] W fun e w' => e = .returned (.bool true) ∧ w' = W) := Lib.hid (fun W => by have := ruses_any (rowF 19) (by decide) 67 W; rwa [show holds (rowF 19) 67 = true by decide] at this)
  have HUK : Hid (∀ W, Calls Try.prog 81 #[.string (rowF 19), .int .u8 75] W fun e w' => e = .returned (.bool true) ∧ w' = W) := Lib.hid (fun W => by have := ruses_any (rowF 19) (by decide) 75 W; rwa [show holds (rowF 19) 75 = true by decide] at this)
  generalize rowF 19 = s at *
  obtain ⟨m, HM, hm⟩ := max0_run k
  have hk2 := hk
  unfold I64 at hk2
  simp [Lit.wf, IntKind.min, IntKind.max, IntKind.bits, IntKind.signed] at hk2
  have hm0 : m = k := by omega
  rw [hm0] at HM
  clear hm0
  have HTY := Lib.hid (fun W => rtypes_any k (by omega) (by first | exact hk | (exact (by rfl)) | (unfold I64; simp [Lit.wf, IntKind.min, IntKind.max, IntKind.bits, IntKind.signed]; omega)) W)
  clear hm
  go_enter Try.func40, Try.ntmps40
  go_wp2_with (first | (go_at_call 80; refine (HFD.out _).mono ?_; rintro _ _ ⟨rfl, rfl⟩) | (go_at_call 81; with_reducible (refine (HUB.out _).mono ?_); rintro _ _ ⟨rfl, rfl⟩) | (go_at_call 81; with_reducible (refine (HUC.out _).mono ?_); rintro _ _ ⟨rfl, rfl⟩) | (go_at_call 81; with_reducible (refine (HUK.out _).mono ?_); rintro _ _ ⟨rfl, rfl⟩) | (go_at_call 82; refine (HTY.out _).mono ?_; rintro _ _ ⟨rfl, rfl⟩))
  all_goals go_ret
  all_goals exact ⟨by first | rfl | (simp [*]; done) | (simp; omega), by (repeat' (first | (with_reducible exact Below.refl _ _) | (with_reducible assumption) | (with_reducible refine below_alloc ?_ _) | (with_reducible refine Below.drew ?_) | (with_reducible refine below_drewN ?_ _) | (with_reducible refine below_step (by assumption) ?_) | (with_reducible refine below_later ?_ _) | (with_reducible refine Below.setCell ?_ ?_ _) | go_size))⟩
set_option maxRecDepth 100000 in
set_option maxHeartbeats 2000000 in
theorem rfo_20_0 (a b k : Int) (hk : I64 k) (n2 : 0 ≤ a) (n3 : a ≤ 15) (n4 : 0 ≤ b) (n5 : b ≤ 15) (z0 : ¬ (0 ≤ k)) (w : World) : Calls Try.prog 40 #[.agg #[.int .i64 20, .int .i64 a, .int .i64 b, .int .i64 0, .int .i64 k]] w fun e w' => e = .returned (.bool false) ∧ Below w.heap.size w w' := by
  have HFD : Hid (∀ W, Calls Try.prog 80 #[.int .i64 20] W fun e w' => e = .returned (.string (rowF 20)) ∧ w' = W) := Lib.hid (fun W => rfields_v 20 (by omega) (by omega) W)
  have HUB : Hid (∀ W, Calls Try.prog 81 #[.string (rowF 20), .int .u8 66] W fun e w' => e = .returned (.bool true) ∧ w' = W) := Lib.hid (fun W => by have := ruses_any (rowF 20) (by decide) 66 W; rwa [show holds (rowF 20) 66 = true by decide] at this)
  have HUC : Hid (∀ W, Calls Try.prog 81 #[.string (rowF 20), .int .u8 67] W fun e w' => e = .returned (.bool false) ∧ w' = W) := Lib.hid (fun W => by have := ruses_any (rowF 20) (by decide) 67 W; rwa [show holds (rowF 20) 67 = false by decide] at this)
  have HUK : Hid (∀ W, Calls Try.prog 81 #[.string (rowF 20), .int .u8 75] W fun e w' => e = .returned (.bool true) ∧ w' = W) := Lib.hid (fun W => by have := ruses_any (rowF 20) (by decide) 75 W; rwa [show holds (rowF 20) 75 = true by decide] at this)
  generalize rowF 20 = s at *
  obtain ⟨m, HM, hm⟩ := max0_run k
  have hk2 := hk
  unfold I64 at hk2
  simp [Lit.wf, IntKind.min, IntKind.max, IntKind.bits, IntKind.signed] at hk2
  have hm0 : m = 0 := by omega
  rw [hm0] at HM
  clear hm0
  have HTY := Lib.hid (fun W => rtypes_any 0 (by omega) (by first | exact hk | (exact (by rfl)) | (unfold I64; simp [Lit.wf, IntKind.min, IntKind.max, IntKind.bits, IntKind.signed]; omega)) W)
  clear hm
  go_enter Try.func40, Try.ntmps40
  go_wp2_with (first | (go_at_call 80; refine (HFD.out _).mono ?_; rintro _ _ ⟨rfl, rfl⟩) | (go_at_call 81; with_reducible (refine (HUB.out _).mono ?_); rintro _ _ ⟨rfl, rfl⟩) | (go_at_call 81; with_reducible (refine (HUC.out _).mono ?_); rintro _ _ ⟨rfl, rfl⟩) | (go_at_call 81; with_reducible (refine (HUK.out _).mono ?_); rintro _ _ ⟨rfl, rfl⟩) | (go_at_call 82; refine (HTY.out _).mono ?_; rintro _ _ ⟨rfl, rfl⟩))
  all_goals go_ret
  all_goals exact ⟨by first | rfl | (simp [*]; done) | (simp; omega), by (repeat' (first | (with_reducible exact Below.refl _ _) | (with_reducible assumption) | (with_reducible refine below_alloc ?_ _) | (with_reducible refine Below.drew ?_) | (with_reducible refine below_drewN ?_ _) | (with_reducible refine below_step (by assumption) ?_) | (with_reducible refine below_later ?_ _) | (with_reducible refine Below.setCell ?_ ?_ _) | go_size))⟩
set_option maxRecDepth 100000 in
set_option maxHeartbeats 2000000 in
theorem rfo_20_1 (a b k : Int) (hk : I64 k) (n2 : 0 ≤ a) (n3 : a ≤ 15) (n4 : 0 ≤ b) (n5 : b ≤ 15) (c0 : 0 ≤ k) (z1 : ¬ (k ≤ 32767)) (w : World) : Calls Try.prog 40 #[.agg #[.int .i64 20, .int .i64 a, .int .i64 b, .int .i64 0, .int .i64 k]] w fun e w' => e = .returned (.bool false) ∧ Below w.heap.size w w' := by
  have HFD : Hid (∀ W, Calls Try.prog 80 #[.int .i64 20] W fun e w' => e = .returned (.string (rowF 20)) ∧ w' = W) := Lib.hid (fun W => rfields_v 20 (by omega) (by omega) W)
  have HUB : Hid (∀ W, Calls Try.prog 81 #[.string (rowF 20), .int .u8 66] W fun e w' => e = .returned (.bool true) ∧ w' = W) := Lib.hid (fun W => by have := ruses_any (rowF 20) (by decide) 66 W; rwa [show holds (rowF 20) 66 = true by decide] at this)
  have HUC : Hid (∀ W, Calls Try.prog 81 #[.string (rowF 20), .int .u8 67] W fun e w' => e = .returned (.bool false) ∧ w' = W) := Lib.hid (fun W => by have := ruses_any (rowF 20) (by decide) 67 W; rwa [show holds (rowF 20) 67 = false by decide] at this)
  have HUK : Hid (∀ W, Calls Try.prog 81 #[.string (rowF 20), .int .u8 75] W fun e w' => e = .returned (.bool true) ∧ w' = W) := Lib.hid (fun W => by have := ruses_any (rowF 20) (by decide) 75 W; rwa [show holds (rowF 20) 75 = true by decide] at this)
  generalize rowF 20 = s at *
  obtain ⟨m, HM, hm⟩ := max0_run k
  have hk2 := hk
  unfold I64 at hk2
  simp [Lit.wf, IntKind.min, IntKind.max, IntKind.bits, IntKind.signed] at hk2
  have hm0 : m = k := by omega
  rw [hm0] at HM
  clear hm0
  have HTY := Lib.hid (fun W => rtypes_any k (by omega) (by first | exact hk | (exact (by rfl)) | (unfold I64; simp [Lit.wf, IntKind.min, IntKind.max, IntKind.bits, IntKind.signed]; omega)) W)
  clear hm
  go_enter Try.func40, Try.ntmps40
  go_wp2_with (first | (go_at_call 80; refine (HFD.out _).mono ?_; rintro _ _ ⟨rfl, rfl⟩) | (go_at_call 81; with_reducible (refine (HUB.out _).mono ?_); rintro _ _ ⟨rfl, rfl⟩) | (go_at_call 81; with_reducible (refine (HUC.out _).mono ?_); rintro _ _ ⟨rfl, rfl⟩) | (go_at_call 81; with_reducible (refine (HUK.out _).mono ?_); rintro _ _ ⟨rfl, rfl⟩) | (go_at_call 82; refine (HTY.out _).mono ?_; rintro _ _ ⟨rfl, rfl⟩))
  all_goals go_ret
  all_goals exact ⟨by first | rfl | (simp [*]; done) | (simp; omega), by (repeat' (first | (with_reducible exact Below.refl _ _) | (with_reducible assumption) | (with_reducible refine below_alloc ?_ _) | (with_reducible refine Below.drew ?_) | (with_reducible refine below_drewN ?_ _) | (with_reducible refine below_step (by assumption) ?_) | (with_reducible refine below_later ?_ _) | (with_reducible refine Below.setCell ?_ ?_ _) | go_size))⟩
set_option maxRecDepth 100000 in
set_option maxHeartbeats 2000000 in
theorem rfo_20_2 (a b k : Int) (hk : I64 k) (n2 : 0 ≤ a) (n3 : a ≤ 15) (n4 : 0 ≤ b) (n5 : b ≤ 15) (c0 : 0 ≤ k) (c1 : k ≤ 32767) (w : World) : Calls Try.prog 40 #[.agg #[.int .i64 20, .int .i64 a, .int .i64 b, .int .i64 0, .int .i64 k]] w fun e w' => e = .returned (.bool true) ∧ Below w.heap.size w w' := by
  have HFD : Hid (∀ W, Calls Try.prog 80 #[.int .i64 20] W fun e w' => e = .returned (.string (rowF 20)) ∧ w' = W) := Lib.hid (fun W => rfields_v 20 (by omega) (by omega) W)
  have HUB : Hid (∀ W, Calls Try.prog 81 #[.string (rowF 20), .int .u8 66] W fun e w' => e = .returned (.bool true) ∧ w' = W) := Lib.hid (fun W => by have := ruses_any (rowF 20) (by decide) 66 W; rwa [show holds (rowF 20) 66 = true by decide] at this)
  have HUC : Hid (∀ W, Calls Try.prog 81 #[.string (rowF 20), .int .u8 67] W fun e w' => e = .returned (.bool false) ∧ w' = W) := Lib.hid (fun W => by have := ruses_any (rowF 20) (by decide) 67 W; rwa [show holds (rowF 20) 67 = false by decide] at this)
  have HUK : Hid (∀ W, Calls Try.prog 81 #[.string (rowF 20), .int .u8 75] W fun e w' => e = .returned (.bool true) ∧ w' = W) := Lib.hid (fun W => by have := ruses_any (rowF 20) (by decide) 75 W; rwa [show holds (rowF 20) 75 = true by decide] at this)
  generalize rowF 20 = s at *
  obtain ⟨m, HM, hm⟩ := max0_run k
  have hk2 := hk
  unfold I64 at hk2
  simp [Lit.wf, IntKind.min, IntKind.max, IntKind.bits, IntKind.signed] at hk2
  have hm0 : m = k := by omega
  rw [hm0] at HM
  clear hm0
  have HTY := Lib.hid (fun W => rtypes_any k (by omega) (by first | exact hk | (exact (by rfl)) | (unfold I64; simp [Lit.wf, IntKind.min, IntKind.max, IntKind.bits, IntKind.signed]; omega)) W)
  clear hm
  go_enter Try.func40, Try.ntmps40
  go_wp2_with (first | (go_at_call 80; refine (HFD.out _).mono ?_; rintro _ _ ⟨rfl, rfl⟩) | (go_at_call 81; with_reducible (refine (HUB.out _).mono ?_); rintro _ _ ⟨rfl, rfl⟩) | (go_at_call 81; with_reducible (refine (HUC.out _).mono ?_); rintro _ _ ⟨rfl, rfl⟩) | (go_at_call 81; with_reducible (refine (HUK.out _).mono ?_); rintro _ _ ⟨rfl, rfl⟩) | (go_at_call 82; refine (HTY.out _).mono ?_; rintro _ _ ⟨rfl, rfl⟩))
  all_goals go_ret
  all_goals exact ⟨by first | rfl | (simp [*]; done) | (simp; omega), by (repeat' (first | (with_reducible exact Below.refl _ _) | (with_reducible assumption) | (with_reducible refine below_alloc ?_ _) | (with_reducible refine Below.drew ?_) | (with_reducible refine below_drewN ?_ _) | (with_reducible refine below_step (by assumption) ?_) | (with_reducible refine below_later ?_ _) | (with_reducible refine Below.setCell ?_ ?_ _) | go_size))⟩
set_option maxRecDepth 100000 in
set_option maxHeartbeats 2000000 in
theorem rfo_21_0 (a b c k : Int) (hk : I64 k) (n2 : 0 ≤ a) (n3 : a ≤ 15) (n4 : 0 ≤ b) (n5 : b ≤ 15) (n6 : 0 ≤ c) (n7 : c ≤ 15) (z0 : ¬ (0 ≤ k)) (w : World) : Calls Try.prog 40 #[.agg #[.int .i64 21, .int .i64 a, .int .i64 b, .int .i64 c, .int .i64 k]] w fun e w' => e = .returned (.bool false) ∧ Below w.heap.size w w' := by
  have HFD : Hid (∀ W, Calls Try.prog 80 #[.int .i64 21] W fun e w' => e = .returned (.string (rowF 21)) ∧ w' = W) := Lib.hid (fun W => rfields_v 21 (by omega) (by omega) W)
  have HUB : Hid (∀ W, Calls Try.prog 81 #[.string (rowF 21), .int .u8 66] W fun e w' => e = .returned (.bool true) ∧ w' = W) := Lib.hid (fun W => by have := ruses_any (rowF 21) (by decide) 66 W; rwa [show holds (rowF 21) 66 = true by decide] at this)
  have HUC : Hid (∀ W, Calls Try.prog 81 #[.string (rowF 21), .int .u8 67] W fun e w' => e = .returned (.bool true) ∧ w' = W) := Lib.hid (fun W => by have := ruses_any (rowF 21) (by decide) 67 W; rwa [show holds (rowF 21) 67 = true by decide] at this)
  have HUK : Hid (∀ W, Calls Try.prog 81 #[.string (rowF 21), .int .u8 75] W fun e w' => e = .returned (.bool true) ∧ w' = W) := Lib.hid (fun W => by have := ruses_any (rowF 21) (by decide) 75 W; rwa [show holds (rowF 21) 75 = true by decide] at this)
  generalize rowF 21 = s at *
  obtain ⟨m, HM, hm⟩ := max0_run k
  have hk2 := hk
  unfold I64 at hk2
  simp [Lit.wf, IntKind.min, IntKind.max, IntKind.bits, IntKind.signed] at hk2
  have hm0 : m = 0 := by omega
  rw [hm0] at HM
  clear hm0
  have HTY := Lib.hid (fun W => rtypes_any 0 (by omega) (by first | exact hk | (exact (by rfl)) | (unfold I64; simp [Lit.wf, IntKind.min, IntKind.max, IntKind.bits, IntKind.signed]; omega)) W)
  clear hm
  go_enter Try.func40, Try.ntmps40
  go_wp2_with (first | (go_at_call 80; refine (HFD.out _).mono ?_; rintro _ _ ⟨rfl, rfl⟩) | (go_at_call 81; with_reducible (refine (HUB.out _).mono ?_); rintro _ _ ⟨rfl, rfl⟩) | (go_at_call 81; with_reducible (refine (HUC.out _).mono ?_); rintro _ _ ⟨rfl, rfl⟩) | (go_at_call 81; with_reducible (refine (HUK.out _).mono ?_); rintro _ _ ⟨rfl, rfl⟩) | (go_at_call 82; refine (HTY.out _).mono ?_; rintro _ _ ⟨rfl, rfl⟩))
  all_goals go_ret
  all_goals exact ⟨by first | rfl | (simp [*]; done) | (simp; omega), by (repeat' (first | (with_reducible exact Below.refl _ _) | (with_reducible assumption) | (with_reducible refine below_alloc ?_ _) | (with_reducible refine Below.drew ?_) | (with_reducible refine below_drewN ?_ _) | (with_reducible refine below_step (by assumption) ?_) | (with_reducible refine below_later ?_ _) | (with_reducible refine Below.setCell ?_ ?_ _) | go_size))⟩
set_option maxRecDepth 100000 in
set_option maxHeartbeats 2000000 in
theorem rfo_21_1 (a b c k : Int) (hk : I64 k) (n2 : 0 ≤ a) (n3 : a ≤ 15) (n4 : 0 ≤ b) (n5 : b ≤ 15) (n6 : 0 ≤ c) (n7 : c ≤ 15) (c0 : 0 ≤ k) (z1 : ¬ (k ≤ 32767)) (w : World) : Calls Try.prog 40 #[.agg #[.int .i64 21, .int .i64 a, .int .i64 b, .int .i64 c, .int .i64 k]] w fun e w' => e = .returned (.bool false) ∧ Below w.heap.size w w' := by
  have HFD : Hid (∀ W, Calls Try.prog 80 #[.int .i64 21] W fun e w' => e = .returned (.string (rowF 21)) ∧ w' = W) := Lib.hid (fun W => rfields_v 21 (by omega) (by omega) W)
  have HUB : Hid (∀ W, Calls Try.prog 81 #[.string (rowF 21), .int .u8 66] W fun e w' => e = .returned (.bool true) ∧ w' = W) := Lib.hid (fun W => by have := ruses_any (rowF 21) (by decide) 66 W; rwa [show holds (rowF 21) 66 = true by decide] at this)
  have HUC : Hid (∀ W, Calls Try.prog 81 #[.string (rowF 21), .int .u8 67] W fun e w' => e = .returned (.bool true) ∧ w' = W) := Lib.hid (fun W => by have := ruses_any (rowF 21) (by decide) 67 W; rwa [show holds (rowF 21) 67 = true by decide] at this)
  have HUK : Hid (∀ W, Calls Try.prog 81 #[.string (rowF 21), .int .u8 75] W fun e w' => e = .returned (.bool true) ∧ w' = W) := Lib.hid (fun W => by have := ruses_any (rowF 21) (by decide) 75 W; rwa [show holds (rowF 21) 75 = true by decide] at this)
  generalize rowF 21 = s at *
  obtain ⟨m, HM, hm⟩ := max0_run k
  have hk2 := hk
  unfold I64 at hk2
  simp [Lit.wf, IntKind.min, IntKind.max, IntKind.bits, IntKind.signed] at hk2
  have hm0 : m = k := by omega
  rw [hm0] at HM
  clear hm0
  have HTY := Lib.hid (fun W => rtypes_any k (by omega) (by first | exact hk | (exact (by rfl)) | (unfold I64; simp [Lit.wf, IntKind.min, IntKind.max, IntKind.bits, IntKind.signed]; omega)) W)
  clear hm
  go_enter Try.func40, Try.ntmps40
  go_wp2_with (first | (go_at_call 80; refine (HFD.out _).mono ?_; rintro _ _ ⟨rfl, rfl⟩) | (go_at_call 81; with_reducible (refine (HUB.out _).mono ?_); rintro _ _ ⟨rfl, rfl⟩) | (go_at_call 81; with_reducible (refine (HUC.out _).mono ?_); rintro _ _ ⟨rfl, rfl⟩) | (go_at_call 81; with_reducible (refine (HUK.out _).mono ?_); rintro _ _ ⟨rfl, rfl⟩) | (go_at_call 82; refine (HTY.out _).mono ?_; rintro _ _ ⟨rfl, rfl⟩))
  all_goals go_ret
  all_goals exact ⟨by first | rfl | (simp [*]; done) | (simp; omega), by (repeat' (first | (with_reducible exact Below.refl _ _) | (with_reducible assumption) | (with_reducible refine below_alloc ?_ _) | (with_reducible refine Below.drew ?_) | (with_reducible refine below_drewN ?_ _) | (with_reducible refine below_step (by assumption) ?_) | (with_reducible refine below_later ?_ _) | (with_reducible refine Below.setCell ?_ ?_ _) | go_size))⟩
set_option maxRecDepth 100000 in
set_option maxHeartbeats 2000000 in
theorem rfo_21_2 (a b c k : Int) (hk : I64 k) (n2 : 0 ≤ a) (n3 : a ≤ 15) (n4 : 0 ≤ b) (n5 : b ≤ 15) (n6 : 0 ≤ c) (n7 : c ≤ 15) (c0 : 0 ≤ k) (c1 : k ≤ 32767) (w : World) : Calls Try.prog 40 #[.agg #[.int .i64 21, .int .i64 a, .int .i64 b, .int .i64 c, .int .i64 k]] w fun e w' => e = .returned (.bool true) ∧ Below w.heap.size w w' := by
  have HFD : Hid (∀ W, Calls Try.prog 80 #[.int .i64 21] W fun e w' => e = .returned (.string (rowF 21)) ∧ w' = W) := Lib.hid (fun W => rfields_v 21 (by omega) (by omega) W)
  have HUB : Hid (∀ W, Calls Try.prog 81 #[.string (rowF 21), .int .u8 66] W fun e w' => e = .returned (.bool true) ∧ w' = W) := Lib.hid (fun W => by have := ruses_any (rowF 21) (by decide) 66 W; rwa [show holds (rowF 21) 66 = true by decide] at this)
  have HUC : Hid (∀ W, Calls Try.prog 81 #[.string (rowF 21), .int .u8 67] W fun e w' => e = .returned (.bool true) ∧ w' = W) := Lib.hid (fun W => by have := ruses_any (rowF 21) (by decide) 67 W; rwa [show holds (rowF 21) 67 = true by decide] at this)
  have HUK : Hid (∀ W, Calls Try.prog 81 #[.string (rowF 21), .int .u8 75] W fun e w' => e = .returned (.bool true) ∧ w' = W) := Lib.hid (fun W => by have := ruses_any (rowF 21) (by decide) 75 W; rwa [show holds (rowF 21) 75 = true by decide] at this)
  generalize rowF 21 = s at *
  obtain ⟨m, HM, hm⟩ := max0_run k
  have hk2 := hk
  unfold I64 at hk2
  simp [Lit.wf, IntKind.min, IntKind.max, IntKind.bits, IntKind.signed] at hk2
  have hm0 : m = k := by omega
  rw [hm0] at HM
  clear hm0
  have HTY := Lib.hid (fun W => rtypes_any k (by omega) (by first | exact hk | (exact (by rfl)) | (unfold I64; simp [Lit.wf, IntKind.min, IntKind.max, IntKind.bits, IntKind.signed]; omega)) W)
  clear hm
  go_enter Try.func40, Try.ntmps40
  go_wp2_with (first | (go_at_call 80; refine (HFD.out _).mono ?_; rintro _ _ ⟨rfl, rfl⟩) | (go_at_call 81; with_reducible (refine (HUB.out _).mono ?_); rintro _ _ ⟨rfl, rfl⟩) | (go_at_call 81; with_reducible (refine (HUC.out _).mono ?_); rintro _ _ ⟨rfl, rfl⟩) | (go_at_call 81; with_reducible (refine (HUK.out _).mono ?_); rintro _ _ ⟨rfl, rfl⟩) | (go_at_call 82; refine (HTY.out _).mono ?_; rintro _ _ ⟨rfl, rfl⟩))
  all_goals go_ret
  all_goals exact ⟨by first | rfl | (simp [*]; done) | (simp; omega), by (repeat' (first | (with_reducible exact Below.refl _ _) | (with_reducible assumption) | (with_reducible refine below_alloc ?_ _) | (with_reducible refine Below.drew ?_) | (with_reducible refine below_drewN ?_ _) | (with_reducible refine below_step (by assumption) ?_) | (with_reducible refine below_later ?_ _) | (with_reducible refine Below.setCell ?_ ?_ _) | go_size))⟩
set_option maxRecDepth 100000 in
set_option maxHeartbeats 2000000 in
theorem rfo_22_0 (a b k : Int) (hk : I64 k) (n2 : 0 ≤ a) (n3 : a ≤ 15) (n4 : 0 ≤ b) (n5 : b ≤ 15) (z0 : ¬ (0 ≤ k)) (w : World) : Calls Try.prog 40 #[.agg #[.int .i64 22, .int .i64 a, .int .i64 b, .int .i64 0, .int .i64 k]] w fun e w' => e = .returned (.bool false) ∧ Below w.heap.size w w' := by
  have HFD : Hid (∀ W, Calls Try.prog 80 #[.int .i64 22] W fun e w' => e = .returned (.string (rowF 22)) ∧ w' = W) := Lib.hid (fun W => rfields_v 22 (by omega) (by omega) W)
  have HUB : Hid (∀ W, Calls Try.prog 81 #[.string (rowF 22), .int .u8 66] W fun e w' => e = .returned (.bool true) ∧ w' = W) := Lib.hid (fun W => by have := ruses_any (rowF 22) (by decide) 66 W; rwa [show holds (rowF 22) 66 = true by decide] at this)
  have HUC : Hid (∀ W, Calls Try.prog 81 #[.string (rowF 22), .int .u8 67] W fun e w' => e = .returned (.bool false) ∧ w' = W) := Lib.hid (fun W => by have := ruses_any (rowF 22) (by decide) 67 W; rwa [show holds (rowF 22) 67 = false by decide] at this)
  have HUK : Hid (∀ W, Calls Try.prog 81 #[.string (rowF 22), .int .u8 75] W fun e w' => e = .returned (.bool true) ∧ w' = W) := Lib.hid (fun W => by have := ruses_any (rowF 22) (by decide) 75 W; rwa [show holds (rowF 22) 75 = true by decide] at this)
  generalize rowF 22 = s at *
  obtain ⟨m, HM, hm⟩ := max0_run k
  have hk2 := hk
  unfold I64 at hk2
  simp [Lit.wf, IntKind.min, IntKind.max, IntKind.bits, IntKind.signed] at hk2
  have hm0 : m = 0 := by omega
  rw [hm0] at HM
  clear hm0
  have HTY := Lib.hid (fun W => rtypes_any 0 (by omega) (by first | exact hk | (exact (by rfl)) | (unfold I64; simp [Lit.wf, IntKind.min, IntKind.max, IntKind.bits, IntKind.signed]; omega)) W)
  clear hm
  go_enter Try.func40, Try.ntmps40
  go_wp2_with (first | (go_at_call 80; refine (HFD.out _).mono ?_; rintro _ _ ⟨rfl, rfl⟩) | (go_at_call 81; with_reducible (refine (HUB.out _).mono ?_); rintro _ _ ⟨rfl, rfl⟩) | (go_at_call 81; with_reducible (refine (HUC.out _).mono ?_); rintro _ _ ⟨rfl, rfl⟩) | (go_at_call 81; with_reducible (refine (HUK.out _).mono ?_); rintro _ _ ⟨rfl, rfl⟩) | (go_at_call 82; refine (HTY.out _).mono ?_; rintro _ _ ⟨rfl, rfl⟩))
  all_goals go_ret
  all_goals exact ⟨by first | rfl | (simp [*]; done) | (simp; omega), by (repeat' (first | (with_reducible exact Below.refl _ _) | (with_reducible assumption) | (with_reducible refine below_alloc ?_ _) | (with_reducible refine Below.drew ?_) | (with_reducible refine below_drewN ?_ _) | (with_reducible refine below_step (by assumption) ?_) | (with_reducible refine below_later ?_ _) | (with_reducible refine Below.setCell ?_ ?_ _) | go_size))⟩
set_option maxRecDepth 100000 in
set_option maxHeartbeats 2000000 in
theorem rfo_22_1 (a b k : Int) (hk : I64 k) (n2 : 0 ≤ a) (n3 : a ≤ 15) (n4 : 0 ≤ b) (n5 : b ≤ 15) (c0 : 0 ≤ k) (z1 : ¬ (k ≤ 32767)) (w : World) : Calls Try.prog 40 #[.agg #[.int .i64 22, .int .i64 a, .int .i64 b, .int .i64 0, .int .i64 k]] w fun e w' => e = .returned (.bool false) ∧ Below w.heap.size w w' := by
  have HFD : Hid (∀ W, Calls Try.prog 80 #[.int .i64 22] W fun e w' => e = .returned (.string (rowF 22)) ∧ w' = W) := Lib.hid (fun W => rfields_v 22 (by omega) (by omega) W)
  have HUB : Hid (∀ W, Calls Try.prog 81 #[.string (rowF 22), .int .u8 66] W fun e w' => e = .returned (.bool true) ∧ w' = W) := Lib.hid (fun W => by have := ruses_any (rowF 22) (by decide) 66 W; rwa [show holds (rowF 22) 66 = true by decide] at this)
  have HUC : Hid (∀ W, Calls Try.prog 81 #[.string (rowF 22), .int .u8 67] W fun e w' => e = .returned (.bool false) ∧ w' = W) := Lib.hid (fun W => by have := ruses_any (rowF 22) (by decide) 67 W; rwa [show holds (rowF 22) 67 = false by decide] at this)
  have HUK : Hid (∀ W, Calls Try.prog 81 #[.string (rowF 22), .int .u8 75] W fun e w' => e = .returned (.bool true) ∧ w' = W) := Lib.hid (fun W => by have := ruses_any (rowF 22) (by decide) 75 W; rwa [show holds (rowF 22) 75 = true by decide] at this)
  generalize rowF 22 = s at *
  obtain ⟨m, HM, hm⟩ := max0_run k
  have hk2 := hk
  unfold I64 at hk2
  simp [Lit.wf, IntKind.min, IntKind.max, IntKind.bits, IntKind.signed] at hk2
  have hm0 : m = k := by omega
  rw [hm0] at HM
  clear hm0
  have HTY := Lib.hid (fun W => rtypes_any k (by omega) (by first | exact hk | (exact (by rfl)) | (unfold I64; simp [Lit.wf, IntKind.min, IntKind.max, IntKind.bits, IntKind.signed]; omega)) W)
  clear hm
  go_enter Try.func40, Try.ntmps40
  go_wp2_with (first | (go_at_call 80; refine (HFD.out _).mono ?_; rintro _ _ ⟨rfl, rfl⟩) | (go_at_call 81; with_reducible (refine (HUB.out _).mono ?_); rintro _ _ ⟨rfl, rfl⟩) | (go_at_call 81; with_reducible (refine (HUC.out _).mono ?_); rintro _ _ ⟨rfl, rfl⟩) | (go_at_call 81; with_reducible (refine (HUK.out _).mono ?_); rintro _ _ ⟨rfl, rfl⟩) | (go_at_call 82; refine (HTY.out _).mono ?_; rintro _ _ ⟨rfl, rfl⟩))
  all_goals go_ret
  all_goals exact ⟨by first | rfl | (simp [*]; done) | (simp; omega), by (repeat' (first | (with_reducible exact Below.refl _ _) | (with_reducible assumption) | (with_reducible refine below_alloc ?_ _) | (with_reducible refine Below.drew ?_) | (with_reducible refine below_drewN ?_ _) | (with_reducible refine below_step (by assumption) ?_) | (with_reducible refine below_later ?_ _) | (with_reducible refine Below.setCell ?_ ?_ _) | go_size))⟩
set_option maxRecDepth 100000 in
set_option maxHeartbeats 2000000 in
theorem rfo_22_2 (a b k : Int) (hk : I64 k) (n2 : 0 ≤ a) (n3 : a ≤ 15) (n4 : 0 ≤ b) (n5 : b ≤ 15) (c0 : 0 ≤ k) (c1 : k ≤ 32767) (z2 : ¬ (k % 32 ≤ 20)) (w : World) : Calls Try.prog 40 #[.agg #[.int .i64 22, .int .i64 a, .int .i64 b, .int .i64 0, .int .i64 k]] w fun e w' => e = .returned (.bool false) ∧ Below w.heap.size w w' := by
  have HFD : Hid (∀ W, Calls Try.prog 80 #[.int .i64 22] W fun e w' => e = .returned (.string (rowF 22)) ∧ w' = W) := Lib.hid (fun W => rfields_v 22 (by omega) (by omega) W)
  have HUB : Hid (∀ W, Calls Try.prog 81 #[.string (rowF 22), .int .u8 66] W fun e w' => e = .returned (.bool true) ∧ w' = W) := Lib.hid (fun W => by have := ruses_any (rowF 22) (by decide) 66 W; rwa [show holds (rowF 22) 66 = true by decide] at this)
  have HUC : Hid (∀ W, Calls Try.prog 81 #[.string (rowF 22), .int .u8 67] W fun e w' => e = .returned (.bool false) ∧ w' = W) := Lib.hid (fun W => by have := ruses_any (rowF 22) (by decide) 67 W; rwa [show holds (rowF 22) 67 = false by decide] at this)
  have HUK : Hid (∀ W, Calls Try.prog 81 #[.string (rowF 22), .int .u8 75] W fun e w' => e = .returned (.bool true) ∧ w' = W) := Lib.hid (fun W => by have := ruses_any (rowF 22) (by decide) 75 W; rwa [show holds (rowF 22) 75 = true by decide] at this)
  generalize rowF 22 = s at *
  obtain ⟨m, HM, hm⟩ := max0_run k
  have hk2 := hk
  unfold I64 at hk2
  simp [Lit.wf, IntKind.min, IntKind.max, IntKind.bits, IntKind.signed] at hk2
  have hm0 : m = k := by omega
  rw [hm0] at HM
  clear hm0
  have HTY := Lib.hid (fun W => rtypes_any k (by omega) (by first | exact hk | (exact (by rfl)) | (unfold I64; simp [Lit.wf, IntKind.min, IntKind.max, IntKind.bits, IntKind.signed]; omega)) W)
  clear hm
  have q3 : k.tmod 32 = k % 32 := Int.tmod_eq_emod_of_nonneg (by omega)
  have q4 : IntKind.i64.wrap (k % 32) = k % 32 := IntWalk.i64_in _ (by omega)
  go_enter Try.func40, Try.ntmps40
  go_wp2_with (first | (go_at_call 80; refine (HFD.out _).mono ?_; rintro _ _ ⟨rfl, rfl⟩) | (go_at_call 81; with_reducible (refine (HUB.out _).mono ?_); rintro _ _ ⟨rfl, rfl⟩) | (go_at_call 81; with_reducible (refine (HUC.out _).mono ?_); rintro _ _ ⟨rfl, rfl⟩) | (go_at_call 81; with_reducible (refine (HUK.out _).mono ?_); rintro _ _ ⟨rfl, rfl⟩) | (go_at_call 82; refine (HTY.out _).mono ?_; rintro _ _ ⟨rfl, rfl⟩))
  all_goals go_ret
  all_goals exact ⟨by first | rfl | (simp [*]; done) | (simp; omega), by (repeat' (first | (with_reducible exact Below.refl _ _) | (with_reducible assumption) | (with_reducible refine below_alloc ?_ _) | (with_reducible refine Below.drew ?_) | (with_reducible refine below_drewN ?_ _) | (with_reducible refine below_step (by assumption) ?_) | (with_reducible refine below_later ?_ _) | (with_reducible refine Below.setCell ?_ ?_ _) | go_size))⟩
set_option maxRecDepth 100000 in
set_option maxHeartbeats 2000000 in
theorem rfo_22_3 (a b k : Int) (hk : I64 k) (n2 : 0 ≤ a) (n3 : a ≤ 15) (n4 : 0 ≤ b) (n5 : b ≤ 15) (c0 : 0 ≤ k) (c1 : k ≤ 32767) (c2 : k % 32 ≤ 20) (w : World) : Calls Try.prog 40 #[.agg #[.int .i64 22, .int .i64 a, .int .i64 b, .int .i64 0, .int .i64 k]] w fun e w' => e = .returned (.bool true) ∧ Below w.heap.size w w' := by
  have HFD : Hid (∀ W, Calls Try.prog 80 #[.int .i64 22] W fun e w' => e = .returned (.string (rowF 22)) ∧ w' = W) := Lib.hid (fun W => rfields_v 22 (by omega) (by omega) W)
  have HUB : Hid (∀ W, Calls Try.prog 81 #[.string (rowF 22), .int .u8 66] W fun e w' => e = .returned (.bool true) ∧ w' = W) := Lib.hid (fun W => by have := ruses_any (rowF 22) (by decide) 66 W; rwa [show holds (rowF 22) 66 = true by decide] at this)
  have HUC : Hid (∀ W, Calls Try.prog 81 #[.string (rowF 22), .int .u8 67] W fun e w' => e = .returned (.bool false) ∧ w' = W) := Lib.hid (fun W => by have := ruses_any (rowF 22) (by decide) 67 W; rwa [show holds (rowF 22) 67 = false by decide] at this)
  have HUK : Hid (∀ W, Calls Try.prog 81 #[.string (rowF 22), .int .u8 75] W fun e w' => e = .returned (.bool true) ∧ w' = W) := Lib.hid (fun W => by have := ruses_any (rowF 22) (by decide) 75 W; rwa [show holds (rowF 22) 75 = true by decide] at this)
  generalize rowF 22 = s at *
  obtain ⟨m, HM, hm⟩ := max0_run k
  have hk2 := hk
  unfold I64 at hk2
  simp [Lit.wf, IntKind.min, IntKind.max, IntKind.bits, IntKind.signed] at hk2
  have hm0 : m = k := by omega
  rw [hm0] at HM
  clear hm0
  have HTY := Lib.hid (fun W => rtypes_any k (by omega) (by first | exact hk | (exact (by rfl)) | (unfold I64; simp [Lit.wf, IntKind.min, IntKind.max, IntKind.bits, IntKind.signed]; omega)) W)
  clear hm
  have q3 : k.tmod 32 = k % 32 := Int.tmod_eq_emod_of_nonneg (by omega)
  have q4 : IntKind.i64.wrap (k % 32) = k % 32 := IntWalk.i64_in _ (by omega)
  go_enter Try.func40, Try.ntmps40
  go_wp2_with (first | (go_at_call 80; refine (HFD.out _).mono ?_; rintro _ _ ⟨rfl, rfl⟩) | (go_at_call 81; with_reducible (refine (HUB.out _).mono ?_); rintro _ _ ⟨rfl, rfl⟩) | (go_at_call 81; with_reducible (refine (HUC.out _).mono ?_); rintro _ _ ⟨rfl, rfl⟩) | (go_at_call 81; with_reducible (refine (HUK.out _).mono ?_); rintro _ _ ⟨rfl, rfl⟩) | (go_at_call 82; refine (HTY.out _).mono ?_; rintro _ _ ⟨rfl, rfl⟩))
  all_goals go_ret
  all_goals exact ⟨by first | rfl | (simp [*]; done) | (simp; omega), by (repeat' (first | (with_reducible exact Below.refl _ _) | (with_reducible assumption) | (with_reducible refine below_alloc ?_ _) | (with_reducible refine Below.drew ?_) | (with_reducible refine below_drewN ?_ _) | (with_reducible refine below_step (by assumption) ?_) | (with_reducible refine below_later ?_ _) | (with_reducible refine Below.setCell ?_ ?_ _) | go_size))⟩
end Go.Proofs.Ytfooefiaenlhmaa
namespace Go.Proofs.Ytfooefiaenlhmaa
set_option linter.unusedVariables false
set_option linter.unusedSimpArgs false
open Go.RowKit Go.ChangeShapes Go.WideShapes Go.ChangeAt

theorem rform_any (op a b c k : Int) (hk : I64 k) (w : World) : Calls Try.prog 40 #[.agg #[.int .i64 op, .int .i64 a, .int .i64 b, .int .i64 c, .int .i64 k]] w fun e w' => e = .returned (.bool (formB op a b c k)) ∧ Below w.heap.size w w' := by
  by_cases h : ¬ (1 ≤ op ∧ op ≤ 22 ∧ 0 ≤ a ∧ a ≤ 15 ∧ 0 ≤ b ∧ b ≤ 15 ∧ 0 ≤ c ∧ c ≤ 15)
  · exact rform_bad op a b c k h w
  have h' := Classical.not_not.1 h
  clear h
  obtain ⟨g0, g1, n2, n3, n4, n5, n6, n7⟩ := h'
  obtain ⟨n, rfl⟩ : ∃ n : Nat, op = n := ⟨op.toNat, by omega⟩
  have n0 : 1 ≤ n := by omega
  have n1 : n ≤ 22 := by omega
  rw [formB_eq n n0 n1]
  rw [decide_eq_true (⟨n2, n3⟩ : 0 ≤ a ∧ a ≤ 15), decide_eq_true (⟨n4, n5⟩ : 0 ≤ b ∧ b ≤ 15), decide_eq_true (⟨n6, n7⟩ : 0 ≤ c ∧ c ≤ 15)]
  simp only [Bool.true_and]
  cases hb : holds (rowF n) 66
  · by_cases zb : b = 0
    rotate_left
    · rw [decide_eq_false zb]
      exact rfo_b n n0 n1 a b c k n2 n3 n4 n5 n6 n7 hb zb w
    cases hc : holds (rowF n) 67
    · by_cases zc : c = 0
      rotate_left
      · rw [decide_eq_false zc, decide_eq_true zb]
        exact rfo_c_false n n0 n1 a b c k n2 n3 n4 n5 n6 n7 hb zb hc zc w
      rw [decide_eq_true zb, decide_eq_true zc]
      cases hkk : holds (rowF n) 75
      · by_cases zk : k = 0
        rotate_left
        · rw [decide_eq_false zk]
          exact rfo_k_false_false n n0 n1 a b c k n2 n3 n4 n5 n6 n7 hb zb hc zc hkk zk w
        rw [decide_eq_true zk]
        subst zk
        subst zb
        subst zc
        have hn : False := by
          have h22 : n = 1 ∨ n = 2 ∨ n = 3 ∨ n = 4 ∨ n = 5 ∨ n = 6 ∨ n = 7 ∨ n = 8 ∨ n = 9 ∨ n = 10 ∨ n = 11 ∨ n = 12 ∨ n = 13 ∨ n = 14 ∨ n = 15 ∨ n = 16 ∨ n = 17 ∨ n = 18 ∨ n = 19 ∨ n = 20 ∨ n = 21 ∨ n = 22 := by omega
          rcases h22 with rfl | rfl | rfl | rfl | rfl | rfl | rfl | rfl | rfl | rfl | rfl | rfl | rfl | rfl | rfl | rfl | rfl | rfl | rfl | rfl | rfl | rfl
          all_goals first | (exfalso; revert hb hc hkk; decide) | omega
        exact hn.elim
      · subst zb
        subst zc
        have hn : n = 1 ∨ n = 2 ∨ n = 3 := by
          have h22 : n = 1 ∨ n = 2 ∨ n = 3 ∨ n = 4 ∨ n = 5 ∨ n = 6 ∨ n = 7 ∨ n = 8 ∨ n = 9 ∨ n = 10 ∨ n = 11 ∨ n = 12 ∨ n = 13 ∨ n = 14 ∨ n = 15 ∨ n = 16 ∨ n = 17 ∨ n = 18 ∨ n = 19 ∨ n = 20 ∨ n = 21 ∨ n = 22 := by omega
          rcases h22 with rfl | rfl | rfl | rfl | rfl | rfl | rfl | rfl | rfl | rfl | rfl | rfl | rfl | rfl | rfl | rfl | rfl | rfl | rfl | rfl | rfl | rfl
          all_goals first | (exfalso; revert hb hc hkk; decide) | omega
        rcases hn with rfl | rfl | rfl
        · by_cases c0 : -1099511627776 ≤ k
          rotate_left
          · rw [show kOk (1 : Nat) k = false by unfold kOk; simp [*, show typB 22 = false from rfl, show typB 19 = false from rfl, show typB 1 = false from rfl]]
            exact rfo_1_0 a k hk n2 n3  c0 w
          by_cases c1 : k ≤ 1099511627776
          rotate_left
          · rw [show kOk (1 : Nat) k = false by unfold kOk; simp [*, show typB 22 = false from rfl, show typB 19 = false from rfl, show typB 1 = false from rfl]]
            exact rfo_1_1 a k hk n2 n3 c0 c1 w
          rw [show kOk (1 : Nat) k = true by unfold kOk; simp [*, show typB 22 = false from rfl, show typB 1 = false from rfl]]
          exact rfo_1_2 a k hk n2 n3 c0 c1 w
        · by_cases c0 : 0 ≤ k
          rotate_left
          · rw [show kOk (2 : Nat) k = false by unfold kOk; simp [*, show typB 22 = false from rfl, show typB 19 = false from rfl, show typB 2 = false from rfl]]
            exact rfo_2_0 a k hk n2 n3  c0 w
          by_cases c1 : k ≤ 32767
          rotate_left
          · rw [show kOk (2 : Nat) k = false by unfold kOk; simp [*, show typB 22 = false from rfl, show typB 19 = false from rfl, show typB 2 = false from rfl]]
            exact rfo_2_1 a k hk n2 n3 c0 c1 w
          rw [show kOk (2 : Nat) k = true by unfold kOk; simp [*, show typB 22 = false from rfl, show typB 2 = false from rfl]]
          exact rfo_2_2 a k hk n2 n3 c0 c1 w
        · by_cases c0 : 0 ≤ k
          rotate_left
          · rw [show kOk (3 : Nat) k = false by unfold kOk; simp [*, show typB 22 = false from rfl, show typB 19 = false from rfl, show typB 3 = false from rfl]]
            exact rfo_3_0 a k hk n2 n3  c0 w
          by_cases c1 : k ≤ 32767
          rotate_left
          · rw [show kOk (3 : Nat) k = false by unfold kOk; simp [*, show typB 22 = false from rfl, show typB 19 = false from rfl, show typB 3 = false from rfl]]
            exact rfo_3_1 a k hk n2 n3 c0 c1 w
          rw [show kOk (3 : Nat) k = true by unfold kOk; simp [*, show typB 22 = false from rfl, show typB 3 = false from rfl]]
          exact rfo_3_2 a k hk n2 n3 c0 c1 w
    · rw [decide_eq_true zb]
      cases hkk : holds (rowF n) 75
      · by_cases zk : k = 0
        rotate_left
        · rw [decide_eq_false zk]
          exact rfo_k_false_true n n0 n1 a b c k n2 n3 n4 n5 n6 n7 hb zb hc  hkk zk w
        rw [decide_eq_true zk]
        subst zk
        subst zb
        have hn : False := by
          have h22 : n = 1 ∨ n = 2 ∨ n = 3 ∨ n = 4 ∨ n = 5 ∨ n = 6 ∨ n = 7 ∨ n = 8 ∨ n = 9 ∨ n = 10 ∨ n = 11 ∨ n = 12 ∨ n = 13 ∨ n = 14 ∨ n = 15 ∨ n = 16 ∨ n = 17 ∨ n = 18 ∨ n = 19 ∨ n = 20 ∨ n = 21 ∨ n = 22 := by omega
          rcases h22 with rfl | rfl | rfl | rfl | rfl | rfl | rfl | rfl | rfl | rfl | rfl | rfl | rfl | rfl | rfl | rfl | rfl | rfl | rfl | rfl | rfl | rfl
          all_goals first | (exfalso; revert hb hc hkk; decide) | omega
        exact hn.elim
      · subst zb
        have hn : False := by
          have h22 : n = 1 ∨ n = 2 ∨ n = 3 ∨ n = 4 ∨ n = 5 ∨ n = 6 ∨ n = 7 ∨ n = 8 ∨ n = 9 ∨ n = 10 ∨ n = 11 ∨ n = 12 ∨ n = 13 ∨ n = 14 ∨ n = 15 ∨ n = 16 ∨ n = 17 ∨ n = 18 ∨ n = 19 ∨ n = 20 ∨ n = 21 ∨ n = 22 := by omega
          rcases h22 with rfl | rfl | rfl | rfl | rfl | rfl | rfl | rfl | rfl | rfl | rfl | rfl | rfl | rfl | rfl | rfl | rfl | rfl | rfl | rfl | rfl | rfl
          all_goals first | (exfalso; revert hb hc hkk; decide) | omega
        exact hn.elim
  · cases hc : holds (rowF n) 67
    · by_cases zc : c = 0
      rotate_left
      · rw [decide_eq_false zc]
        exact rfo_c_true n n0 n1 a b c k n2 n3 n4 n5 n6 n7 hb hc zc w
      rw [decide_eq_true zc]
      cases hkk : holds (rowF n) 75
      · by_cases zk : k = 0
        rotate_left
        · rw [decide_eq_false zk]
          exact rfo_k_true_false n n0 n1 a b c k n2 n3 n4 n5 n6 n7 hb  hc zc hkk zk w
        rw [decide_eq_true zk]
        subst zk
        subst zc
        have hn : n = 4 ∨ n = 18 := by
          have h22 : n = 1 ∨ n = 2 ∨ n = 3 ∨ n = 4 ∨ n = 5 ∨ n = 6 ∨ n = 7 ∨ n = 8 ∨ n = 9 ∨ n = 10 ∨ n = 11 ∨ n = 12 ∨ n = 13 ∨ n = 14 ∨ n = 15 ∨ n = 16 ∨ n = 17 ∨ n = 18 ∨ n = 19 ∨ n = 20 ∨ n = 21 ∨ n = 22 := by omega
          rcases h22 with rfl | rfl | rfl | rfl | rfl | rfl | rfl | rfl | rfl | rfl | rfl | rfl | rfl | rfl | rfl | rfl | rfl | rfl | rfl | rfl | rfl | rfl
          all_goals first | (exfalso; revert hb hc hkk; decide) | omega
        rcases hn with rfl | rfl
        · exact rfo_4_0 a b n2 n3 n4 n5 w
        · exact rfo_18_0 a b n2 n3 n4 n5 w
      · subst zc
        have hn : n = 9 ∨ n = 10 ∨ n = 20 ∨ n = 22 := by
          have h22 : n = 1 ∨ n = 2 ∨ n = 3 ∨ n = 4 ∨ n = 5 ∨ n = 6 ∨ n = 7 ∨ n = 8 ∨ n = 9 ∨ n = 10 ∨ n = 11 ∨ n = 12 ∨ n = 13 ∨ n = 14 ∨ n = 15 ∨ n = 16 ∨ n = 17 ∨ n = 18 ∨ n = 19 ∨ n = 20 ∨ n = 21 ∨ n = 22 := by omega
          rcases h22 with rfl | rfl | rfl | rfl | rfl | rfl | rfl | rfl | rfl | rfl | rfl | rfl | rfl | rfl | rfl | rfl | rfl | rfl | rfl | rfl | rfl | rfl
          all_goals first | (exfalso; revert hb hc hkk; decide) | omega
        rcases hn with rfl | rfl | rfl | rfl
        · by_cases c0 : 0 ≤ k
          rotate_left
          · rw [show kOk (9 : Nat) k = false by unfold kOk; simp [*, show typB 22 = false from rfl, show typB 19 = false from rfl, show typB 9 = true from rfl]]
            exact rfo_9_0 a b k hk n2 n3 n4 n5  c0 w
          by_cases c1 : k < 2097152
          rotate_left
          · rw [show kOk (9 : Nat) k = false by unfold kOk; simp [*, show typB 22 = false from rfl, show typB 19 = false from rfl, show typB 9 = true from rfl]]
            exact rfo_9_1 a b k hk n2 n3 n4 n5 c0 c1 w
          by_cases c2 : k / 128 % 128 = 0
          rotate_left
          · rw [show kOk (9 : Nat) k = false by unfold kOk; simp [*, show typB 22 = false from rfl, show typB 19 = false from rfl, show typB 9 = true from rfl]]
            exact rfo_9_2 a b k hk n2 n3 n4 n5 c0 c1 c2 w
          rw [show kOk (9 : Nat) k = true by unfold kOk; simp [*, show typB 22 = false from rfl, show typB 9 = true from rfl]]
          exact rfo_9_3 a b k hk n2 n3 n4 n5 c0 c1 c2 w
        · by_cases c0 : 0 ≤ k
          rotate_left
          · rw [show kOk (10 : Nat) k = false by unfold kOk; simp [*, show typB 22 = false from rfl, show typB 19 = false from rfl, show typB 10 = true from rfl]]
            exact rfo_10_0 a b k hk n2 n3 n4 n5  c0 w
          by_cases c1 : k < 2097152
          rotate_left
          · rw [show kOk (10 : Nat) k = false by unfold kOk; simp [*, show typB 22 = false from rfl, show typB 19 = false from rfl, show typB 10 = true from rfl]]
            exact rfo_10_1 a b k hk n2 n3 n4 n5 c0 c1 w
          by_cases c2 : k / 128 % 128 = 0
          rotate_left
          · rw [show kOk (10 : Nat) k = false by unfold kOk; simp [*, show typB 22 = false from rfl, show typB 19 = false from rfl, show typB 10 = true from rfl]]
            exact rfo_10_2 a b k hk n2 n3 n4 n5 c0 c1 c2 w
          rw [show kOk (10 : Nat) k = true by unfold kOk; simp [*, show typB 22 = false from rfl, show typB 10 = true from rfl]]
          exact rfo_10_3 a b k hk n2 n3 n4 n5 c0 c1 c2 w
        · by_cases c0 : 0 ≤ k
          rotate_left
          · rw [show kOk (20 : Nat) k = false by unfold kOk; simp [*, show typB 22 = false from rfl, show typB 19 = false from rfl, show typB 20 = false from rfl]]
            exact rfo_20_0 a b k hk n2 n3 n4 n5  c0 w
          by_cases c1 : k ≤ 32767
          rotate_left
          · rw [show kOk (20 : Nat) k = false by unfold kOk; simp [*, show typB 22 = false from rfl, show typB 19 = false from rfl, show typB 20 = false from rfl]]
            exact rfo_20_1 a b k hk n2 n3 n4 n5 c0 c1 w
          rw [show kOk (20 : Nat) k = true by unfold kOk; simp [*, show typB 22 = false from rfl, show typB 20 = false from rfl]]
          exact rfo_20_2 a b k hk n2 n3 n4 n5 c0 c1 w
        · by_cases c0 : 0 ≤ k
          rotate_left
          · rw [show kOk (22 : Nat) k = false by unfold kOk; simp [*, show typB 22 = false from rfl, show typB 19 = false from rfl, show typB 22 = false from rfl]]
            exact rfo_22_0 a b k hk n2 n3 n4 n5  c0 w
          by_cases c1 : k ≤ 32767
          rotate_left
          · rw [show kOk (22 : Nat) k = false by unfold kOk; simp [*, show typB 22 = false from rfl, show typB 19 = false from rfl, show typB 22 = false from rfl]]
            exact rfo_22_1 a b k hk n2 n3 n4 n5 c0 c1 w
          by_cases c2 : k % 32 ≤ 20
          rotate_left
          · rw [show kOk (22 : Nat) k = false by unfold kOk; simp [*, show typB 22 = false from rfl, show typB 19 = false from rfl, show typB 22 = false from rfl]]
            exact rfo_22_2 a b k hk n2 n3 n4 n5 c0 c1 c2 w
          rw [show kOk (22 : Nat) k = true by unfold kOk; simp [*, show typB 22 = false from rfl, show typB 22 = false from rfl]]
          exact rfo_22_3 a b k hk n2 n3 n4 n5 c0 c1 c2 w
    · skip
      cases hkk : holds (rowF n) 75
      · by_cases zk : k = 0
        rotate_left
        · rw [decide_eq_false zk]
          exact rfo_k_true_true n n0 n1 a b c k n2 n3 n4 n5 n6 n7 hb  hc  hkk zk w
        rw [decide_eq_true zk]
        subst zk
        have hn : n = 11 ∨ n = 12 ∨ n = 15 ∨ n = 16 ∨ n = 17 := by
          have h22 : n = 1 ∨ n = 2 ∨ n = 3 ∨ n = 4 ∨ n = 5 ∨ n = 6 ∨ n = 7 ∨ n = 8 ∨ n = 9 ∨ n = 10 ∨ n = 11 ∨ n = 12 ∨ n = 13 ∨ n = 14 ∨ n = 15 ∨ n = 16 ∨ n = 17 ∨ n = 18 ∨ n = 19 ∨ n = 20 ∨ n = 21 ∨ n = 22 := by omega
          rcases h22 with rfl | rfl | rfl | rfl | rfl | rfl | rfl | rfl | rfl | rfl | rfl | rfl | rfl | rfl | rfl | rfl | rfl | rfl | rfl | rfl | rfl | rfl
          all_goals first | (exfalso; revert hb hc hkk; decide) | omega
        rcases hn with rfl | rfl | rfl | rfl | rfl
        · exact rfo_11_0 a b c n2 n3 n4 n5 n6 n7 w
        · exact rfo_12_0 a b c n2 n3 n4 n5 n6 n7 w
        · exact rfo_15_0 a b c n2 n3 n4 n5 n6 n7 w
        · exact rfo_16_0 a b c n2 n3 n4 n5 n6 n7 w
        · exact rfo_17_0 a b c n2 n3 n4 n5 n6 n7 w
      · have hn : n = 5 ∨ n = 6 ∨ n = 7 ∨ n = 8 ∨ n = 13 ∨ n = 14 ∨ n = 19 ∨ n = 21 := by
          have h22 : n = 1 ∨ n = 2 ∨ n = 3 ∨ n = 4 ∨ n = 5 ∨ n = 6 ∨ n = 7 ∨ n = 8 ∨ n = 9 ∨ n = 10 ∨ n = 11 ∨ n = 12 ∨ n = 13 ∨ n = 14 ∨ n = 15 ∨ n = 16 ∨ n = 17 ∨ n = 18 ∨ n = 19 ∨ n = 20 ∨ n = 21 ∨ n = 22 := by omega
          rcases h22 with rfl | rfl | rfl | rfl | rfl | rfl | rfl | rfl | rfl | rfl | rfl | rfl | rfl | rfl | rfl | rfl | rfl | rfl | rfl | rfl | rfl | rfl
          all_goals first | (exfalso; revert hb hc hkk; decide) | omega
        rcases hn with rfl | rfl | rfl | rfl | rfl | rfl | rfl | rfl
        · by_cases c0 : 0 ≤ k
          rotate_left
          · rw [show kOk (5 : Nat) k = false by unfold kOk; simp [*, show typB 22 = false from rfl, show typB 19 = false from rfl, show typB 5 = true from rfl]]
            exact rfo_5_0 a b c k hk n2 n3 n4 n5 n6 n7  c0 w
          by_cases c1 : k < 2097152
          rotate_left
          · rw [show kOk (5 : Nat) k = false by unfold kOk; simp [*, show typB 22 = false from rfl, show typB 19 = false from rfl, show typB 5 = true from rfl]]
            exact rfo_5_1 a b c k hk n2 n3 n4 n5 n6 n7 c0 c1 w
          rw [show kOk (5 : Nat) k = true by unfold kOk; simp [*, show typB 22 = false from rfl, show typB 5 = true from rfl]]
          exact rfo_5_2 a b c k hk n2 n3 n4 n5 n6 n7 c0 c1 w
        · by_cases c0 : 0 ≤ k
          rotate_left
          · rw [show kOk (6 : Nat) k = false by unfold kOk; simp [*, show typB 22 = false from rfl, show typB 19 = false from rfl, show typB 6 = true from rfl]]
            exact rfo_6_0 a b c k hk n2 n3 n4 n5 n6 n7  c0 w
          by_cases c1 : k < 2097152
          rotate_left
          · rw [show kOk (6 : Nat) k = false by unfold kOk; simp [*, show typB 22 = false from rfl, show typB 19 = false from rfl, show typB 6 = true from rfl]]
            exact rfo_6_1 a b c k hk n2 n3 n4 n5 n6 n7 c0 c1 w
          rw [show kOk (6 : Nat) k = true by unfold kOk; simp [*, show typB 22 = false from rfl, show typB 6 = true from rfl]]
          exact rfo_6_2 a b c k hk n2 n3 n4 n5 n6 n7 c0 c1 w
        · by_cases c0 : 0 ≤ k
          rotate_left
          · rw [show kOk (7 : Nat) k = false by unfold kOk; simp [*, show typB 22 = false from rfl, show typB 19 = false from rfl, show typB 7 = true from rfl]]
            exact rfo_7_0 a b c k hk n2 n3 n4 n5 n6 n7  c0 w
          by_cases c1 : k < 2097152
          rotate_left
          · rw [show kOk (7 : Nat) k = false by unfold kOk; simp [*, show typB 22 = false from rfl, show typB 19 = false from rfl, show typB 7 = true from rfl]]
            exact rfo_7_1 a b c k hk n2 n3 n4 n5 n6 n7 c0 c1 w
          rw [show kOk (7 : Nat) k = true by unfold kOk; simp [*, show typB 22 = false from rfl, show typB 7 = true from rfl]]
          exact rfo_7_2 a b c k hk n2 n3 n4 n5 n6 n7 c0 c1 w
        · by_cases c0 : 0 ≤ k
          rotate_left
          · rw [show kOk (8 : Nat) k = false by unfold kOk; simp [*, show typB 22 = false from rfl, show typB 19 = false from rfl, show typB 8 = true from rfl]]
            exact rfo_8_0 a b c k hk n2 n3 n4 n5 n6 n7  c0 w
          by_cases c1 : k < 2097152
          rotate_left
          · rw [show kOk (8 : Nat) k = false by unfold kOk; simp [*, show typB 22 = false from rfl, show typB 19 = false from rfl, show typB 8 = true from rfl]]
            exact rfo_8_1 a b c k hk n2 n3 n4 n5 n6 n7 c0 c1 w
          rw [show kOk (8 : Nat) k = true by unfold kOk; simp [*, show typB 22 = false from rfl, show typB 8 = true from rfl]]
          exact rfo_8_2 a b c k hk n2 n3 n4 n5 n6 n7 c0 c1 w
        · by_cases c0 : 0 ≤ k
          rotate_left
          · rw [show kOk (13 : Nat) k = false by unfold kOk; simp [*, show typB 22 = false from rfl, show typB 19 = false from rfl, show typB 13 = true from rfl]]
            exact rfo_13_0 a b c k hk n2 n3 n4 n5 n6 n7  c0 w
          by_cases c1 : k < 2097152
          rotate_left
          · rw [show kOk (13 : Nat) k = false by unfold kOk; simp [*, show typB 22 = false from rfl, show typB 19 = false from rfl, show typB 13 = true from rfl]]
            exact rfo_13_1 a b c k hk n2 n3 n4 n5 n6 n7 c0 c1 w
          by_cases c2 : k % 128 = 0
          rotate_left
          · rw [show kOk (13 : Nat) k = false by unfold kOk; simp [*, show typB 22 = false from rfl, show typB 19 = false from rfl, show typB 13 = true from rfl]]
            exact rfo_13_2 a b c k hk n2 n3 n4 n5 n6 n7 c0 c1 c2 w
          rw [show kOk (13 : Nat) k = true by unfold kOk; simp [*, show typB 22 = false from rfl, show typB 13 = true from rfl]]
          exact rfo_13_3 a b c k hk n2 n3 n4 n5 n6 n7 c0 c1 c2 w
        · by_cases c0 : 0 ≤ k
          rotate_left
          · rw [show kOk (14 : Nat) k = false by unfold kOk; simp [*, show typB 22 = false from rfl, show typB 19 = false from rfl, show typB 14 = true from rfl]]
            exact rfo_14_0 a b c k hk n2 n3 n4 n5 n6 n7  c0 w
          by_cases c1 : k < 2097152
          rotate_left
          · rw [show kOk (14 : Nat) k = false by unfold kOk; simp [*, show typB 22 = false from rfl, show typB 19 = false from rfl, show typB 14 = true from rfl]]
            exact rfo_14_1 a b c k hk n2 n3 n4 n5 n6 n7 c0 c1 w
          by_cases c2 : k % 128 = 0
          rotate_left
          · rw [show kOk (14 : Nat) k = false by unfold kOk; simp [*, show typB 22 = false from rfl, show typB 19 = false from rfl, show typB 14 = true from rfl]]
            exact rfo_14_2 a b c k hk n2 n3 n4 n5 n6 n7 c0 c1 c2 w
          rw [show kOk (14 : Nat) k = true by unfold kOk; simp [*, show typB 22 = false from rfl, show typB 14 = true from rfl]]
          exact rfo_14_3 a b c k hk n2 n3 n4 n5 n6 n7 c0 c1 c2 w
        · by_cases c0 : 0 ≤ k
          rotate_left
          · rw [show kOk (19 : Nat) k = false by unfold kOk; simp [*, show typB 22 = false from rfl, show typB 19 = false from rfl, show typB 19 = false from rfl]]
            exact rfo_19_0 a b c k hk n2 n3 n4 n5 n6 n7  c0 w
          by_cases c1 : k < 16
          rotate_left
          · rw [show kOk (19 : Nat) k = false by unfold kOk; simp [*, show typB 22 = false from rfl, show typB 19 = false from rfl, show typB 19 = false from rfl]]
            exact rfo_19_1 a b c k hk n2 n3 n4 n5 n6 n7 c0 c1 w
          rw [show kOk (19 : Nat) k = true by unfold kOk; simp [*, show typB 22 = false from rfl, show typB 19 = false from rfl]]
          exact rfo_19_2 a b c k hk n2 n3 n4 n5 n6 n7 c0 c1 w
        · by_cases c0 : 0 ≤ k
          rotate_left
          · rw [show kOk (21 : Nat) k = false by unfold kOk; simp [*, show typB 22 = false from rfl, show typB 19 = false from rfl, show typB 21 = false from rfl]]
            exact rfo_21_0 a b c k hk n2 n3 n4 n5 n6 n7  c0 w
          by_cases c1 : k ≤ 32767
          rotate_left
          · rw [show kOk (21 : Nat) k = false by unfold kOk; simp [*, show typB 22 = false from rfl, show typB 19 = false from rfl, show typB 21 = false from rfl]]
            exact rfo_21_1 a b c k hk n2 n3 n4 n5 n6 n7 c0 c1 w
          rw [show kOk (21 : Nat) k = true by unfold kOk; simp [*, show typB 22 = false from rfl, show typB 21 = false from rfl]]
          exact rfo_21_2 a b c k hk n2 n3 n4 n5 n6 n7 c0 c1 w
end Go.Proofs.Ytfooefiaenlhmaa
namespace Go.Proofs.Ytfooefiaenlhmaa
set_option linter.unusedVariables false
set_option linter.unusedSimpArgs false
open Go.RowKit Go.ChangeShapes Go.WideShapes Go.ChangeAt

theorem AtL.later {W W' : World} {b : Nat} {l : List Int} (h : AtL W b l) (hB : Below W.heap.size W W') (hb : b < W.heap.size) : AtL W' b l := fun i v hi => by
  obtain ⟨h1, h2⟩ := h i v hi
  exact ⟨(hB.cell (p := ⟨b, i, none⟩) hb).trans h1, (hB.frozen (p := ⟨b, i, none⟩) hb).trans h2⟩
set_option maxRecDepth 100000 in
set_option maxHeartbeats 2000000 in
theorem r2list_any (m kg s a k : Int) (w : World) : Calls Try.prog 124 #[.agg #[.int .i64 m, .int .i64 kg, .int .i64 s, .int .i64 a, .int .i64 k]] w fun e w' => ∃ g, e = .returned (.slice (some ⟨g, 0, none⟩) 5 5) ∧ w.heap.size ≤ g ∧ g < w'.heap.size ∧ AtL w' g [m, kg, s, a, k] ∧ Below w.heap.size w w' := by
  go_enter Try.func124, Try.ntmps124
  go_wp2
  go_ret
  refine ⟨_, rfl, by omega, by simp only [World.size_alloc]; omega, ?_, by (repeat' (first | (with_reducible exact Below.refl _ _) | (with_reducible assumption) | (with_reducible refine below_alloc ?_ _) | (with_reducible refine Below.drew ?_) | (with_reducible refine below_drewN ?_ _) | (with_reducible refine below_step (by assumption) ?_) | (with_reducible refine below_later ?_ _) | (with_reducible refine Below.setCell ?_ ?_ _) | go_size))⟩
  intro i v hi
  match i, hi with
  | 0, hi | 1, hi | 2, hi | 3, hi | 4, hi => simp at hi; subst hi; exact ⟨by first | go_keep | (simp [go_sem]; done), by first | go_keep | (simp [go_sem]; done) | (simp [World.frozen?]; done)⟩
  | i + 5, hi => simp at hi
set_option maxRecDepth 100000 in
set_option maxHeartbeats 2000000 in
theorem r2of_any (g : Nat) (m kg s a k : Int) (w : World) (hg : g < w.heap.size) (hl : AtL w g [m, kg, s, a, k]) : Calls Try.prog 125 #[.slice (some ⟨g, 0, none⟩) 5 5] w fun e w' => e = .returned (.agg #[.int .i64 m, .int .i64 kg, .int .i64 s, .int .i64 a, .int .i64 k]) ∧ Below w.heap.size w w' := by
  have c0 : w.cell? ⟨g, 0, none⟩ = some (.int .i64 m) := (hl 0 _ rfl).1
  have c1 : w.cell? ⟨g, 1, none⟩ = some (.int .i64 kg) := (hl 1 _ rfl).1
  have c2 : w.cell? ⟨g, 2, none⟩ = some (.int .i64 s) := (hl 2 _ rfl).1
  have c3 : w.cell? ⟨g, 3, none⟩ = some (.int .i64 a) := (hl 3 _ rfl).1
  have c4 : w.cell? ⟨g, 4, none⟩ = some (.int .i64 k) := (hl 4 _ rfl).1
  clear hl
  go_enter Try.func125, Try.ntmps125
  go_wp2
  refine wp_still_tail 16 (by kernel_rfl) (by kernel_rfl) ?_
  intro W hW hWs
  simp only [World.size_alloc] at hWs
  have hB : Below w.heap.size w W := (((Below.refl w.heap.size w).alloc (Nat.le_refl _) _).trans (hW.mono (by simp)))
  have hgW : g < W.heap.size := by omega
  have d0 : W.cell? ⟨g, 0, none⟩ = some (.int .i64 m) := (hB.cell (p := ⟨g, 0, none⟩) hg).trans c0
  have d1 : W.cell? ⟨g, 1, none⟩ = some (.int .i64 kg) := (hB.cell (p := ⟨g, 1, none⟩) hg).trans c1
  have d2 : W.cell? ⟨g, 2, none⟩ = some (.int .i64 s) := (hB.cell (p := ⟨g, 2, none⟩) hg).trans c2
  have d3 : W.cell? ⟨g, 3, none⟩ = some (.int .i64 a) := (hB.cell (p := ⟨g, 3, none⟩) hg).trans c3
  have d4 : W.cell? ⟨g, 4, none⟩ = some (.int .i64 k) := (hB.cell (p := ⟨g, 4, none⟩) hg).trans c4
  have hrW : ∀ j : Nat, W.cell? ⟨w.heap.size, j, none⟩ = (w.alloc (.cells #[.int .i64 0, .int .i64 0, .int .i64 0, .int .i64 0, .int .i64 0] 57)).cell? ⟨w.heap.size, j, none⟩ := fun j => hW.cell (p := ⟨w.heap.size, j, none⟩) (by rw [World.size_alloc]; show w.heap.size < _; omega)
  have hrf : ∀ j : Nat, W.frozen? ⟨w.heap.size, j, none⟩ = (w.alloc (.cells #[.int .i64 0, .int .i64 0, .int .i64 0, .int .i64 0, .int .i64 0] 57)).frozen? ⟨w.heap.size, j, none⟩ := fun j => hW.frozen (p := ⟨w.heap.size, j, none⟩) (by rw [World.size_alloc]; show w.heap.size < _; omega)
  have hw0 : w.heap.size < W.heap.size := by omega
  simp only [List.take_succ_cons, List.take_zero, List.drop_succ_cons, List.drop_zero]
  repeat (first | (refine wpStill_step (fun K hK => ?_); go_simp; refine hK _ ?_; clear hK K))
  refine wpStill_nil ?_
  go_wp2
  refine bodyPost_ret (by simp [results, Try.results125, go_sem, *]; try rfl) rfl ?_
  exact ⟨rfl, by (repeat' (first | (with_reducible exact Below.refl _ _) | (with_reducible assumption) | (with_reducible refine below_alloc ?_ _) | (with_reducible refine Below.drew ?_) | (with_reducible refine below_drewN ?_ _) | (with_reducible refine below_step (by assumption) ?_) | (with_reducible refine below_later ?_ _) | (with_reducible refine Below.setCell ?_ ?_ _) | go_size))⟩
set_option maxRecDepth 100000 in
set_option maxHeartbeats 2000000 in
theorem r2valid_any (m kg s a k : Int) (w : World) : Calls Try.prog 123 #[.agg #[.int .i64 m, .int .i64 kg, .int .i64 s, .int .i64 a, .int .i64 k]] w fun e w' => e = .returned (.bool (unitB m kg s a k)) ∧ Below w.heap.size w w' := by
  have HT : Hid ((∀ j, j < 5 → in9 ([m, kg, s, a, k].getD j 0) = true) → unitB m kg s a k = true) := Lib.hid (fun h => by
    have h0 := h 0 (by omega); have h1 := h 1 (by omega); have h2 := h 2 (by omega); have h3 := h 3 (by omega); have h4 := h 4 (by omega)
    simp only [List.getD_cons_zero, List.getD_cons_succ] at h0 h1 h2 h3 h4
    unfold unitB
    rw [h0, h1, h2, h3, h4]; rfl)
  have HF : Hid (∀ j, j < 5 → in9 ([m, kg, s, a, k].getD j 0) = false → unitB m kg s a k = false) := Lib.hid (fun j hj h => by
    obtain rfl | rfl | rfl | rfl | rfl : j = 0 ∨ j = 1 ∨ j = 2 ∨ j = 3 ∨ j = 4 := by omega
    all_goals (simp only [List.getD_cons_zero, List.getD_cons_succ] at h; unfold unitB; rw [h]; simp))
  generalize unitB m kg s a k = R at *
  go_enter Try.func123, Try.ntmps123
  go_wp2_with (go_at_call 124; refine (r2list_any m kg s a k _).mono ?_; rintro _ w1 ⟨g, rfl, hg0, hg1, hA, hb1⟩)
  have HA := Lib.hid hA
  have hL : [m, kg, s, a, k].length = 5 := rfl
  generalize [m, kg, s, a, k] = l at *
  have HL := Lib.hid hL
  have hb1' : Below w.heap.size w w1 := by (repeat' (first | (with_reducible exact Below.refl _ _) | (with_reducible assumption) | (with_reducible refine below_alloc ?_ _) | (with_reducible refine Below.drew ?_) | (with_reducible refine below_drewN ?_ _) | (with_reducible refine below_step (by assumption) ?_) | (with_reducible refine below_later ?_ _) | (with_reducible refine Below.setCell ?_ ?_ _) | go_size))
  have hb1s := hb1'.size
  clear hA hL hb1
  go_loopg [4] 5 (fun kx s4 wr => ∃ (j : Nat) (e : Later w1), s4 = .int .i64 j ∧ j ≤ 5 ∧ 5 - j ≤ kx ∧ wr = e.w ∧ Hid (∀ i, i < j → in9 (l.getD i 0) = true))
  case atStart => exact ⟨0, ⟨w1, Below.refl _ _⟩, rfl, by omega, by omega, rfl, Lib.hid (fun i h => absurd h (by omega))⟩
  case round =>
    obtain ⟨j, e, rfl, hj, hjx, rfl, HG⟩ := hrel
    have hes := e.h.size
    by_cases hj5 : j < 5
    · have hj1 : (0 : Int) ≤ (j : Int) := by omega
      have hj2 : (j : Int) < 5 := by omega
      have hc : e.w.cell? ⟨g, j, none⟩ = some (.int .i64 (l.getD j 0)) := (e.h.cell (p := ⟨g, j, none⟩) hg1).trans (HA.out j _ (by rw [List.getD_eq_getElem?_getD, List.getElem?_eq_getElem (by rw [HL.out]; exact hj5)]; rfl)).1
      have HTj := Lib.hid (fun h => HF.out j hj5 h)
      have HGj : Hid (in9 (l.getD j 0) = true → ∀ i, i < j + 1 → in9 (l.getD i 0) = true) := Lib.hid (fun h i hi => by
        by_cases e : i = j
        · subst e; exact h
        · exact HG.out i (by omega))
      clear HF
      generalize l.getD j 0 = x at *
      by_cases n0 : x < -9
      · obtain rfl := HTj.out (in9_bad (.inl n0))
        clear HT HTj
        go_wp2
        go_ret
        exact ⟨rfl, hb1'.trans (e.h.mono (by omega))⟩
      · by_cases n1 : 9 < x
        · obtain rfl := HTj.out (in9_bad (.inr n1))
          clear HT HTj
          go_wp2
          go_ret
          exact ⟨rfl, hb1'.trans (e.h.mono (by omega))⟩
        · have HG2 := Lib.hid (HGj.out (in9_good n0 n1))
          clear HTj HGj
          go_wp2
          go_roundg (5 - (j + 1))
          case measure => omega
          case rel => exact ⟨j + 1, e, by go_num, by omega, by omega, rfl, HG2⟩
    · obtain rfl : j = 5 := by omega
      obtain rfl := HT.out HG.out
      clear HT HF
      go_wp2
      go_ret
      exact ⟨rfl, hb1'.trans (e.h.mono (by omega))⟩
theorem r2valid_v {m kg s a k : Int} {v : Bool} (h : unitB m kg s a k = v) (w : World) : Calls Try.prog 123 #[.agg #[.int .i64 m, .int .i64 kg, .int .i64 s, .int .i64 a, .int .i64 k]] w fun e w' => e = .returned (.bool v) ∧ Below w.heap.size w w' := by
  subst h
  exact r2valid_any m kg s a k w
end Go.Proofs.Ytfooefiaenlhmaa
namespace Go.Proofs.Ytfooefiaenlhmaa
set_option linter.unusedVariables false
set_option linter.unusedSimpArgs false
open Go.RowKit Go.ChangeShapes Go.WideShapes Go.ChangeAt

theorem cells10 {m kg s a k m2 kg2 s2 a2 k2 : Int} {w2 : World} {A : Nat} (hA : A < w2.heap.size) (hB : A + 1 < w2.heap.size) (a00 : w2.cell? ⟨A, 0, none⟩ = some (.int .i64 m)) (a01 : w2.cell? ⟨A, 1, none⟩ = some (.int .i64 kg)) (a02 : w2.cell? ⟨A, 2, none⟩ = some (.int .i64 s)) (a03 : w2.cell? ⟨A, 3, none⟩ = some (.int .i64 a)) (a04 : w2.cell? ⟨A, 4, none⟩ = some (.int .i64 k)) (a10 : w2.cell? ⟨A + 1, 0, none⟩ = some (.int .i64 m2)) (a11 : w2.cell? ⟨A + 1, 1, none⟩ = some (.int .i64 kg2)) (a12 : w2.cell? ⟨A + 1, 2, none⟩ = some (.int .i64 s2)) (a13 : w2.cell? ⟨A + 1, 3, none⟩ = some (.int .i64 a2)) (a14 : w2.cell? ⟨A + 1, 4, none⟩ = some (.int .i64 k2)) : Below w2.heap.size w2 w2.drew ∧ w2.drew.cell? ⟨A, 0, none⟩ = some (.int .i64 m) ∧ w2.drew.cell? ⟨A, 1, none⟩ = some (.int .i64 kg) ∧ w2.drew.cell? ⟨A, 2, none⟩ = some (.int .i64 s) ∧ w2.drew.cell? ⟨A, 3, none⟩ = some (.int .i64 a) ∧ w2.drew.cell? ⟨A, 4, none⟩ = some (.int .i64 k) ∧ w2.drew.cell? ⟨A + 1, 0, none⟩ = some (.int .i64 m2) ∧ w2.drew.cell? ⟨A + 1, 1, none⟩ = some (.int .i64 kg2) ∧ w2.drew.cell? ⟨A + 1, 2, none⟩ = some (.int .i64 s2) ∧ w2.drew.cell? ⟨A + 1, 3, none⟩ = some (.int .i64 a2) ∧ w2.drew.cell? ⟨A + 1, 4, none⟩ = some (.int .i64 k2) :=
  ⟨(Below.refl _ _).drew, a00, a01, a02, a03, a04, a10, a11, a12, a13, a14⟩
theorem cells10n {m kg s a k m2 kg2 s2 a2 k2 : Int} {w2 v v' : World} {A : Nat} (hA : A < w2.heap.size) (hB : A + 1 < w2.heap.size) (h : Below w2.heap.size w2 v ∧ v.cell? ⟨A, 0, none⟩ = some (.int .i64 m) ∧ v.cell? ⟨A, 1, none⟩ = some (.int .i64 kg) ∧ v.cell? ⟨A, 2, none⟩ = some (.int .i64 s) ∧ v.cell? ⟨A, 3, none⟩ = some (.int .i64 a) ∧ v.cell? ⟨A, 4, none⟩ = some (.int .i64 k) ∧ v.cell? ⟨A + 1, 0, none⟩ = some (.int .i64 m2) ∧ v.cell? ⟨A + 1, 1, none⟩ = some (.int .i64 kg2) ∧ v.cell? ⟨A + 1, 2, none⟩ = some (.int .i64 s2) ∧ v.cell? ⟨A + 1, 3, none⟩ = some (.int .i64 a2) ∧ v.cell? ⟨A + 1, 4, none⟩ = some (.int .i64 k2)) (hb : Below v.heap.size v v') : Below w2.heap.size w2 v' ∧ v'.cell? ⟨A, 0, none⟩ = some (.int .i64 m) ∧ v'.cell? ⟨A, 1, none⟩ = some (.int .i64 kg) ∧ v'.cell? ⟨A, 2, none⟩ = some (.int .i64 s) ∧ v'.cell? ⟨A, 3, none⟩ = some (.int .i64 a) ∧ v'.cell? ⟨A, 4, none⟩ = some (.int .i64 k) ∧ v'.cell? ⟨A + 1, 0, none⟩ = some (.int .i64 m2) ∧ v'.cell? ⟨A + 1, 1, none⟩ = some (.int .i64 kg2) ∧ v'.cell? ⟨A + 1, 2, none⟩ = some (.int .i64 s2) ∧ v'.cell? ⟨A + 1, 3, none⟩ = some (.int .i64 a2) ∧ v'.cell? ⟨A + 1, 4, none⟩ = some (.int .i64 k2) := by
  obtain ⟨h0, a00, a01, a02, a03, a04, a10, a11, a12, a13, a14⟩ := h
  have hs := h0.size
  refine ⟨below_step hb h0, ?_, ?_, ?_, ?_, ?_, ?_, ?_, ?_, ?_, ?_⟩
  · exact (hb.cell (p := ⟨A, 0, none⟩) (show A < _ by omega)).trans a00
  · exact (hb.cell (p := ⟨A, 1, none⟩) (show A < _ by omega)).trans a01
  · exact (hb.cell (p := ⟨A, 2, none⟩) (show A < _ by omega)).trans a02
  · exact (hb.cell (p := ⟨A, 3, none⟩) (show A < _ by omega)).trans a03
  · exact (hb.cell (p := ⟨A, 4, none⟩) (show A < _ by omega)).trans a04
  · exact (hb.cell (p := ⟨A + 1, 0, none⟩) (show A + 1 < _ by omega)).trans a10
  · exact (hb.cell (p := ⟨A + 1, 1, none⟩) (show A + 1 < _ by omega)).trans a11
  · exact (hb.cell (p := ⟨A + 1, 2, none⟩) (show A + 1 < _ by omega)).trans a12
  · exact (hb.cell (p := ⟨A + 1, 3, none⟩) (show A + 1 < _ by omega)).trans a13
  · exact (hb.cell (p := ⟨A + 1, 4, none⟩) (show A + 1 < _ by omega)).trans a14
set_option maxRecDepth 100000 in
set_option maxHeartbeats 8000000 in
theorem rcomb_any (g m kg s a k m2 kg2 s2 a2 k2 : Int) (hg : g = 1 ∨ g = -1) (w : World) : Calls Try.prog 112 #[.agg #[.int .i64 m, .int .i64 kg, .int .i64 s, .int .i64 a, .int .i64 k], .agg #[.int .i64 m2, .int .i64 kg2, .int .i64 s2, .int .i64 a2, .int .i64 k2], .int .i64 g] w fun e w' => e = .returned (.tuple #[.agg #[.int .i64 (combV g m m2 (combE g m kg s a k m2 kg2 s2 a2 k2)), .int .i64 (combV g kg kg2 (combE g m kg s a k m2 kg2 s2 a2 k2)), .int .i64 (combV g s s2 (combE g m kg s a k m2 kg2 s2 a2 k2)), .int .i64 (combV g a a2 (combE g m kg s a k m2 kg2 s2 a2 k2)), .int .i64 (combV g k k2 (combE g m kg s a k m2 kg2 s2 a2 k2))], .int .i64 (combE g m kg s a k m2 kg2 s2 a2 k2)]) ∧ Below w.heap.size w w' := by
  have HE : Hid (combE g m kg s a k m2 kg2 s2 a2 k2 = if unitB m kg s a k && unitB m2 kg2 s2 a2 k2 then (if unitB (m + g * m2) (kg + g * kg2) (s + g * s2) (a + g * a2) (k + g * k2) then 0 else 2) else 1) := Lib.hid rfl
  generalize combE g m kg s a k m2 kg2 s2 a2 k2 = E at *
  cases hu : unitB m kg s a k
  · have HU := Lib.hid hu
    obtain rfl : E = 1 := by rw [HE.out, HU.out]; rfl
    clear HE
    go_enter Try.func112, Try.ntmps112
    go_wp2_with (first | (go_at_call 123; with_reducible (refine (r2valid_v HU.out _).mono ?_); rintro _ w1 ⟨rfl, hb1⟩; obtain ⟨hb1c, hb1f⟩ := bcell hb1; have hb1s := hb1.size; (try simp only [World.size_alloc] at hb1s); have h1_0 : w.heap.size < w1.heap.size := (by omega); have h1_1 : w.heap.size + 1 < w1.heap.size := (by omega); have h1_2 : w.heap.size + 1 + 1 < w1.heap.size := (by omega)))
    refine bodyPost_ret (by simp [results, Try.results112, go_sem, *]; try rfl) rfl ?_
    exact ⟨rfl, by (repeat' (first | (with_reducible exact Below.refl _ _) | (with_reducible assumption) | (with_reducible refine below_alloc ?_ _) | (with_reducible refine Below.drew ?_) | (with_reducible refine below_drewN ?_ _) | (with_reducible refine below_step (by assumption) ?_) | (with_reducible refine below_later ?_ _) | (with_reducible refine Below.setCell ?_ ?_ _) | go_size))⟩
  have HU := Lib.hid hu
  cases hu2 : unitB m2 kg2 s2 a2 k2
  · have HU2 := Lib.hid hu2
    obtain rfl : E = 1 := by rw [HE.out, HU.out, HU2.out]; rfl
    clear HE
    have tk0 : True := trivial
    go_enter Try.func112, Try.ntmps112
    go_wp2_with (first | (have _t := tk0; go_at_call 123; with_reducible (refine (r2valid_v HU.out _).mono ?_); rintro _ w1 ⟨rfl, hb1⟩; obtain ⟨hb1c, hb1f⟩ := bcell hb1; have hb1s := hb1.size; (try simp only [World.size_alloc] at hb1s); have h1_0 : w.heap.size < w1.heap.size := (by omega); have h1_1 : w.heap.size + 1 < w1.heap.size := (by omega); have h1_2 : w.heap.size + 1 + 1 < w1.heap.size := (by omega); clear tk0 _t) | (go_at_call 123; with_reducible (refine (r2valid_v HU2.out _).mono ?_); rintro _ w2 ⟨rfl, hb2⟩; obtain ⟨hb2c, hb2f⟩ := bcell hb2; have hb2s := hb2.size; (try simp only [World.size_alloc] at hb2s); have h2_0 : w.heap.size < w2.heap.size := (by omega); have h2_1 : w.heap.size + 1 < w2.heap.size := (by omega); have h2_2 : w.heap.size + 1 + 1 < w2.heap.size := (by omega)))
    refine bodyPost_ret (by simp [results, Try.results112, go_sem, *]; try rfl) rfl ?_
    exact ⟨rfl, by (repeat' (first | (with_reducible exact Below.refl _ _) | (with_reducible assumption) | (with_reducible refine below_alloc ?_ _) | (with_reducible refine Below.drew ?_) | (with_reducible refine below_drewN ?_ _) | (with_reducible refine below_step (by assumption) ?_) | (with_reducible refine below_later ?_ _) | (with_reducible refine Below.setCell ?_ ?_ _) | go_size))⟩
  have HU2 := Lib.hid hu2
  have HBD := Lib.hid (unitB_bd hu)
  have HBD2 := Lib.hid (unitB_bd hu2)
  clear hu hu2
  have HE2 : Hid (E = if unitB (m + g * m2) (kg + g * kg2) (s + g * s2) (a + g * a2) (k + g * k2) then 0 else 2) := Lib.hid (by rw [HE.out, HU.out, HU2.out]; rfl)
  clear HE
  have tk0 : True := trivial
  go_enter Try.func112, Try.ntmps112
  go_wp2_with (first | (have _t := tk0; go_at_call 123; with_reducible (refine (r2valid_v HU.out _).mono ?_); rintro _ w1 ⟨rfl, hb1⟩; obtain ⟨hb1c, hb1f⟩ := bcell hb1; have hb1s := hb1.size; (try simp only [World.size_alloc] at hb1s); have h1_0 : w.heap.size < w1.heap.size := (by omega); have h1_1 : w.heap.size + 1 < w1.heap.size := (by omega); have h1_2 : w.heap.size + 1 + 1 < w1.heap.size := (by omega); clear tk0 _t) | (go_at_call 123; with_reducible (refine (r2valid_v HU2.out _).mono ?_); rintro _ w2 ⟨rfl, hb2⟩; obtain ⟨hb2c, hb2f⟩ := bcell hb2; have hb2s := hb2.size; (try simp only [World.size_alloc] at hb2s); have h2_0 : w.heap.size < w2.heap.size := (by omega); have h2_1 : w.heap.size + 1 < w2.heap.size := (by omega); have h2_2 : w.heap.size + 1 + 1 < w2.heap.size := (by omega)))
  have hA0 : w.heap.size < w2.heap.size := by omega
  have hB0 : w.heap.size + 1 < w2.heap.size := by omega
  have hB2 : Below w.heap.size w w2 := by (repeat' (first | (with_reducible exact Below.refl _ _) | (with_reducible assumption) | (with_reducible refine below_alloc ?_ _) | (with_reducible refine Below.drew ?_) | (with_reducible refine below_drewN ?_ _) | (with_reducible refine below_step (by assumption) ?_) | (with_reducible refine below_later ?_ _) | (with_reducible refine Below.setCell ?_ ?_ _) | go_size))
  have a00 : w2.cell? ⟨w.heap.size, 0, none⟩ = some (.int .i64 m) := by rw [hb2c _ _ (by omega), hb1c _ _ (by simp only [World.size_alloc]; omega)]; first | go_keep | simp
  have a01 : w2.cell? ⟨w.heap.size, 1, none⟩ = some (.int .i64 kg) := by rw [hb2c _ _ (by omega), hb1c _ _ (by simp only [World.size_alloc]; omega)]; first | go_keep | simp
  have a02 : w2.cell? ⟨w.heap.size, 2, none⟩ = some (.int .i64 s) := by rw [hb2c _ _ (by omega), hb1c _ _ (by simp only [World.size_alloc]; omega)]; first | go_keep | simp
  have a03 : w2.cell? ⟨w.heap.size, 3, none⟩ = some (.int .i64 a) := by rw [hb2c _ _ (by omega), hb1c _ _ (by simp only [World.size_alloc]; omega)]; first | go_keep | simp
  have a04 : w2.cell? ⟨w.heap.size, 4, none⟩ = some (.int .i64 k) := by rw [hb2c _ _ (by omega), hb1c _ _ (by simp only [World.size_alloc]; omega)]; first | go_keep | simp
  have a10 : w2.cell? ⟨w.heap.size + 1, 0, none⟩ = some (.int .i64 m2) := by rw [hb2c _ _ (by omega), hb1c _ _ (by simp only [World.size_alloc]; omega)]; first | go_keep | simp
  have a11 : w2.cell? ⟨w.heap.size + 1, 1, none⟩ = some (.int .i64 kg2) := by rw [hb2c _ _ (by omega), hb1c _ _ (by simp only [World.size_alloc]; omega)]; first | go_keep | simp
  have a12 : w2.cell? ⟨w.heap.size + 1, 2, none⟩ = some (.int .i64 s2) := by rw [hb2c _ _ (by omega), hb1c _ _ (by simp only [World.size_alloc]; omega)]; first | go_keep | simp
  have a13 : w2.cell? ⟨w.heap.size + 1, 3, none⟩ = some (.int .i64 a2) := by rw [hb2c _ _ (by omega), hb1c _ _ (by simp only [World.size_alloc]; omega)]; first | go_keep | simp
  have a14 : w2.cell? ⟨w.heap.size + 1, 4, none⟩ = some (.int .i64 k2) := by rw [hb2c _ _ (by omega), hb1c _ _ (by simp only [World.size_alloc]; omega)]; first | go_keep | simp
  have hq := cells10 (A := w.heap.size) hA0 hB0 a00 a01 a02 a03 a04 a10 a11 a12 a13 a14
  have hz2 : w.heap.size + 1 + 1 < w2.heap.size := by omega
  have hr2 : ∀ j : Nat, w2.frozen? ⟨w.heap.size + 1 + 1, j, none⟩ = false := fun j => by rw [hb2f _ _ (by omega), hb1f _ _ (by first | omega | (simp only [World.size_alloc]; omega))]; first | go_keep | (simp [go_sem]; done) | (simp [World.frozen?]; done)
  have z0 : w2.cell? ⟨w.heap.size + 1 + 1, 0, none⟩ = some (.int .i64 0) := by rw [hb2c _ _ (by omega), hb1c _ _ (by first | omega | (simp only [World.size_alloc]; omega))]; first | go_keep | (simp [go_sem]; done)
  have z1 : w2.cell? ⟨w.heap.size + 1 + 1, 1, none⟩ = some (.int .i64 0) := by rw [hb2c _ _ (by omega), hb1c _ _ (by first | omega | (simp only [World.size_alloc]; omega))]; first | go_keep | (simp [go_sem]; done)
  have z2 : w2.cell? ⟨w.heap.size + 1 + 1, 2, none⟩ = some (.int .i64 0) := by rw [hb2c _ _ (by omega), hb1c _ _ (by first | omega | (simp only [World.size_alloc]; omega))]; first | go_keep | (simp [go_sem]; done)
  have z3 : w2.cell? ⟨w.heap.size + 1 + 1, 3, none⟩ = some (.int .i64 0) := by rw [hb2c _ _ (by omega), hb1c _ _ (by first | omega | (simp only [World.size_alloc]; omega))]; first | go_keep | (simp [go_sem]; done)
  have z4 : w2.cell? ⟨w.heap.size + 1 + 1, 4, none⟩ = some (.int .i64 0) := by rw [hb2c _ _ (by omega), hb1c _ _ (by first | omega | (simp only [World.size_alloc]; omega))]; first | go_keep | (simp [go_sem]; done)
  clear hb1c hb1f hb2c hb2f a00 a01 a02 a03 a04 a10 a11 a12 a13 a14
  have tk1 : True := trivial
  go_region_held3 (fun v => Below w2.heap.size w2 v ∧ v.cell? ⟨w.heap.size, 0, none⟩ = some (.int .i64 m) ∧ v.cell? ⟨w.heap.size, 1, none⟩ = some (.int .i64 kg) ∧ v.cell? ⟨w.heap.size, 2, none⟩ = some (.int .i64 s) ∧ v.cell? ⟨w.heap.size, 3, none⟩ = some (.int .i64 a) ∧ v.cell? ⟨w.heap.size, 4, none⟩ = some (.int .i64 k) ∧ v.cell? ⟨w.heap.size + 1, 0, none⟩ = some (.int .i64 m2) ∧ v.cell? ⟨w.heap.size + 1, 1, none⟩ = some (.int .i64 kg2) ∧ v.cell? ⟨w.heap.size + 1, 2, none⟩ = some (.int .i64 s2) ∧ v.cell? ⟨w.heap.size + 1, 3, none⟩ = some (.int .i64 a2) ∧ v.cell? ⟨w.heap.size + 1, 4, none⟩ = some (.int .i64 k2)) (first | exact hq | assumption) (first | (have _t := tk1; go_at_call 124; with_reducible (refine (r2list_any m kg s a k _).mono ?_); rintro _ w3 ⟨gx, rfl, hx0, hx1, hAx, hb3⟩; have hS3 := cells10n hA0 hB0 (by assumption) hb3; have HAx := Lib.hid hAx; clear hAx tk1 _t) | (go_at_call 124; with_reducible (refine (r2list_any m2 kg2 s2 a2 k2 _).mono ?_); rintro _ w4 ⟨gy, rfl, hy0, hy1, hAy, hb4⟩; have hS4 := cells10n hA0 hB0 (by assumption) hb4; have HAy := Lib.hid hAy; clear hAy))
  have hb24 := hS4.1
  have hb24s := hb24.size
  have hx0' : w2.heap.size ≤ gx := by first | exact hx0 | (simp only [World.size_drew] at hx0; exact hx0)
  have hb3s := hb3.size
  have hb4s := hb4.size
  have hgx : gx < w4.heap.size := by omega
  have hne : gy ≠ gx := by omega
  have HAx4 : Hid (AtL w4 gx [m, kg, s, a, k]) := Lib.hid (HAx.out.later hb4 hx1)
  have hB4 : Below w.heap.size w w4 := below_step hb24 hB2
  have HZ4 : Hid (w4.cell? ⟨w.heap.size + 1 + 1, 0, none⟩ = some (.int .i64 0) ∧ w4.cell? ⟨w.heap.size + 1 + 1, 1, none⟩ = some (.int .i64 0) ∧ w4.cell? ⟨w.heap.size + 1 + 1, 2, none⟩ = some (.int .i64 0) ∧ w4.cell? ⟨w.heap.size + 1 + 1, 3, none⟩ = some (.int .i64 0) ∧ w4.cell? ⟨w.heap.size + 1 + 1, 4, none⟩ = some (.int .i64 0) ∧ ∀ j : Nat, w4.frozen? ⟨w.heap.size + 1 + 1, j, none⟩ = false) := Lib.hid ⟨(hb24.cell (p := ⟨w.heap.size + 1 + 1, 0, none⟩) hz2).trans z0, (hb24.cell (p := ⟨w.heap.size + 1 + 1, 1, none⟩) hz2).trans z1, (hb24.cell (p := ⟨w.heap.size + 1 + 1, 2, none⟩) hz2).trans z2, (hb24.cell (p := ⟨w.heap.size + 1 + 1, 3, none⟩) hz2).trans z3, (hb24.cell (p := ⟨w.heap.size + 1 + 1, 4, none⟩) hz2).trans z4, fun j => (hb24.frozen (p := ⟨w.heap.size + 1 + 1, j, none⟩) hz2).trans (hr2 j)⟩
  clear hq hS3 hS4 HAx
  have HBX : Hid (∀ j, j < 5 → -9 ≤ [m, kg, s, a, k].getD j 0 ∧ [m, kg, s, a, k].getD j 0 ≤ 9) := Lib.hid (fun j hj => by
    obtain ⟨h0, h1, h2, h3, h4⟩ := HBD.out
    obtain rfl | rfl | rfl | rfl | rfl : j = 0 ∨ j = 1 ∨ j = 2 ∨ j = 3 ∨ j = 4 := by omega
    all_goals (simp only [List.getD_cons_zero, List.getD_cons_succ]; assumption))
  have HBY : Hid (∀ j, j < 5 → -9 ≤ [m2, kg2, s2, a2, k2].getD j 0 ∧ [m2, kg2, s2, a2, k2].getD j 0 ≤ 9) := Lib.hid (fun j hj => by
    obtain ⟨h0, h1, h2, h3, h4⟩ := HBD2.out
    obtain rfl | rfl | rfl | rfl | rfl : j = 0 ∨ j = 1 ∨ j = 2 ∨ j = 3 ∨ j = 4 := by omega
    all_goals (simp only [List.getD_cons_zero, List.getD_cons_succ]; assumption))
  have HEX : Hid (∀ lx : List Int, lx.length = 5 → (∀ i, i < 5 → lx.getD i 0 = if i < 5 then [m, kg, s, a, k].getD i 0 + g * [m2, kg2, s2, a2, k2].getD i 0 else [m, kg, s, a, k].getD i 0) → lx = [m + g * m2, kg + g * kg2, s + g * s2, a + g * a2, k + g * k2]) := Lib.hid (fun lx hl h => getD_ext (by rw [hl]; rfl) (fun t ht => by
    rw [hl] at ht
    rw [h t ht, if_pos ht]
    obtain rfl | rfl | rfl | rfl | rfl : t = 0 ∨ t = 1 ∨ t = 2 ∨ t = 3 ∨ t = 4 := by omega
    all_goals rfl))
  have hXl : [m, kg, s, a, k].length = 5 := rfl
  have hYl : [m2, kg2, s2, a2, k2].length = 5 := rfl
  have HXL := Lib.hid hXl
  have HYL := Lib.hid hYl
  clear hXl hYl
  generalize [m, kg, s, a, k] = X at *
  generalize [m2, kg2, s2, a2, k2] = Y at *
  go_wp2
  go_loopg [10] 5 (fun kx s10 wr => ∃ (j : Nat) (lx : List Int), s10 = .int .i64 j ∧ j ≤ 5 ∧ 5 - j ≤ kx ∧ w4.heap.size ≤ wr.heap.size ∧ Below w.heap.size w wr ∧ KeepB w4.heap.size gx w4 wr ∧ Hid (AtL wr gx lx) ∧ Hid (lx.length = 5 ∧ ∀ i, i < 5 → lx.getD i 0 = if i < j then X.getD i 0 + g * Y.getD i 0 else X.getD i 0))
  case atStart => exact ⟨0, X, rfl, by omega, by omega, Nat.le_refl _, hB4, KeepB.refl _ _ _, HAx4, Lib.hid ⟨HXL.out, fun i _ => by rw [if_neg (by omega)]⟩⟩
  case round =>
    clear HAx4
    obtain ⟨j, lx, rfl, hj, hjx, hsr, hBw, hKB, HA, HL⟩ := hrel
    by_cases hj5 : j < 5
    · have hj1 : (0 : Int) ≤ (j : Int) := by omega
      have hj2 : (j : Int) < 5 := by omega
      have hxj : lx.getD j 0 = X.getD j 0 := by rw [HL.out.2 j hj5, if_neg (by omega)]
      obtain ⟨ca, cf⟩ := HA.out j (X.getD j 0) (by rw [← hxj, List.getD_eq_getElem?_getD, List.getElem?_eq_getElem (by rw [HL.out.1]; exact hj5)]; rfl)
      have cb : wr.cell? ⟨gy, j, none⟩ = some (.int .i64 (Y.getD j 0)) := (hKB.cell hy1 hne).trans (HAy.out j _ (by rw [List.getD_eq_getElem?_getD, List.getElem?_eq_getElem (by rw [HYL.out]; exact hj5)]; rfl)).1
      have bx := HBX.out j hj5
      have hby := HBY.out j hj5
      have HLn : Hid ((lx.set j (X.getD j 0 + g * Y.getD j 0)).length = 5 ∧ ∀ i, i < 5 → (lx.set j (X.getD j 0 + g * Y.getD j 0)).getD i 0 = if i < j + 1 then X.getD i 0 + g * Y.getD i 0 else X.getD i 0) := Lib.hid ⟨by rw [List.length_set]; exact HL.out.1, fun i hi => by
        rw [getD_set' _ _ _ _ (by rw [HL.out.1]; exact hj5)]
        by_cases e : i = j
        · subst e; rw [if_pos rfl, if_pos (by omega)]
        · rw [if_neg e, HL.out.2 i hi]
          by_cases h : i < j
          · rw [if_pos h, if_pos (by omega)]
          · rw [if_neg h, if_neg (by omega)]⟩
      have HLL := Lib.hid HL.out.1
      clear hxj
      generalize X.getD j 0 = x at *
      generalize Y.getD j 0 = y at *
      have wm : IntKind.i64.wrap (g * y) = g * y := IntWalk.i64_in _ (by rcases hg with rfl | rfl <;> omega)
      have wa : IntKind.i64.wrap (x + g * y) = x + g * y := IntWalk.i64_in _ (by rcases hg with rfl | rfl <;> omega)
      have szr : gx < wr.heap.size := by omega
      have szy : gy < wr.heap.size := by omega
      go_wp2
      refine wp_still_tail 14 (by kernel_rfl) (by kernel_rfl) ?_
      intro W hW hWs
      have cW1 : W.cell? ⟨gx, j, none⟩ = some (.int .i64 x) := (hW.cell (p := ⟨gx, j, none⟩) szr).trans ca
      have cW2 : W.frozen? ⟨gx, j, none⟩ = false := (hW.frozen (p := ⟨gx, j, none⟩) szr).trans cf
      have bW : W.cell? ⟨gy, j, none⟩ = some (.int .i64 y) := (hW.cell (p := ⟨gy, j, none⟩) szy).trans cb
      have HAW : Hid (AtL W gx lx) := Lib.hid (HA.out.later hW szr)
      simp only [List.take_succ_cons, List.take_zero, List.drop_succ_cons, List.drop_zero]
      repeat (first | (refine wpStill_step (fun K hK => ?_); go_simp; refine hK _ ?_; clear hK K))
      refine wpStill_nil ?_
      go_wp2
      go_roundg (5 - (j + 1))
      case measure => omega
      case rel => exact ⟨j + 1, lx.set j (x + g * y), by go_num, by omega, by omega, by rw [World.size_setCell]; omega, hBw.trans ((hW.mono (show w.heap.size ≤ wr.heap.size by omega)).setCell (p := ⟨gx, j, none⟩) (show w.heap.size ≤ gx by omega) _), hKB.trans (KeepB.trans ⟨hW.mono (Nat.zero_le _), fun q hq _ => hW.block q (by omega)⟩ (KeepB.setC W j _)), Lib.hid (HAW.out.set (by rw [HLL.out]; exact hj5) _), HLn⟩
    · obtain rfl : j = 5 := by omega
      have hlx := HEX.out lx HL.out.1 HL.out.2
      subst hlx
      clear HEX HL HBX HBY
      have hgw : gx < wr.heap.size := by omega
      have hww : w.heap.size + 1 + 1 < w4.heap.size := by omega
      have hwr : w.heap.size + 1 + 1 < wr.heap.size := by omega
      have z0w : wr.cell? ⟨w.heap.size + 1 + 1, 0, none⟩ = some (.int .i64 0) := (hKB.cell hww (by omega)).trans HZ4.out.1
      have z1w : wr.cell? ⟨w.heap.size + 1 + 1, 1, none⟩ = some (.int .i64 0) := (hKB.cell hww (by omega)).trans HZ4.out.2.1
      have z2w : wr.cell? ⟨w.heap.size + 1 + 1, 2, none⟩ = some (.int .i64 0) := (hKB.cell hww (by omega)).trans HZ4.out.2.2.1
      have z3w : wr.cell? ⟨w.heap.size + 1 + 1, 3, none⟩ = some (.int .i64 0) := (hKB.cell hww (by omega)).trans HZ4.out.2.2.2.1
      have z4w : wr.cell? ⟨w.heap.size + 1 + 1, 4, none⟩ = some (.int .i64 0) := (hKB.cell hww (by omega)).trans HZ4.out.2.2.2.2.1
      have zf : ∀ j : Nat, wr.frozen? ⟨w.heap.size + 1 + 1, j, none⟩ = false := fun j => (hKB.frozen hww (by omega)).trans (HZ4.out.2.2.2.2.2 j)
      clear HZ4
      cases hu3 : unitB (m + g * m2) (kg + g * kg2) (s + g * s2) (a + g * a2) (k + g * k2)
      · have HU3 := Lib.hid hu3
        obtain rfl : E = 2 := by rw [HE2.out, HU3.out]; rfl
        clear HE2 hu3
        have HOF := Lib.hid (fun W (h : Below wr.heap.size wr W) => r2of_any gx (m + g * m2) (kg + g * kg2) (s + g * s2) (a + g * a2) (k + g * k2) W (Nat.lt_of_lt_of_le hgw h.size) (HA.out.later h hgw))
        go_wp2_with (first | (go_at_call 125; refine (HOF.out _ (Below.refl _ _)).mono ?_; rintro _ w5 ⟨rfl, hb5⟩; obtain ⟨hb5c, hb5f⟩ := bcell hb5; have hb5s := hb5.size; have hh5 : w.heap.size + 1 + 1 < w5.heap.size := (by omega); have hh8 : w.heap.size + 1 + 1 < w5.heap.size + 1 := (by omega); have hh9 : ¬ w.heap.size + 1 + 1 = w5.heap.size := (by omega); have hh10 : ¬ w5.heap.size = w.heap.size + 1 + 1 := (by omega)) | (go_at_call 123; with_reducible (refine (r2valid_v HU3.out _).mono ?_); rintro _ w6 ⟨rfl, hb6⟩; obtain ⟨hb6c, hb6f⟩ := bcell hb6; have hb6s := hb6.size; (try simp only [World.size_alloc] at hb6s); have hh6 : w.heap.size + 1 + 1 < w6.heap.size := (by omega); have hh7 : w5.heap.size < w6.heap.size := (by omega)))
        refine bodyPost_ret (by simp [results, Try.results112, go_sem, combV, *]; try rfl) rfl ?_
        exact ⟨rfl, by (repeat' (first | (with_reducible exact Below.refl _ _) | (with_reducible assumption) | (with_reducible refine below_alloc ?_ _) | (with_reducible refine Below.drew ?_) | (with_reducible refine below_drewN ?_ _) | (with_reducible refine below_step (by assumption) ?_) | (with_reducible refine below_later ?_ _) | (with_reducible refine Below.setCell ?_ ?_ _) | go_size))⟩
      · have HU3 := Lib.hid hu3
        obtain rfl : E = 0 := by rw [HE2.out, HU3.out]; rfl
        clear HE2 hu3
        have HOF := Lib.hid (fun W (h : Below wr.heap.size wr W) => r2of_any gx (m + g * m2) (kg + g * kg2) (s + g * s2) (a + g * a2) (k + g * k2) W (Nat.lt_of_lt_of_le hgw h.size) (HA.out.later h hgw))
        go_wp2_with (first | (go_at_call 125; refine (HOF.out _ (Below.refl _ _)).mono ?_; rintro _ w5 ⟨rfl, hb5⟩; obtain ⟨hb5c, hb5f⟩ := bcell hb5; have hb5s := hb5.size; have hh5 : w.heap.size + 1 + 1 < w5.heap.size := (by omega); have hh8 : w.heap.size + 1 + 1 < w5.heap.size + 1 := (by omega); have hh9 : ¬ w.heap.size + 1 + 1 = w5.heap.size := (by omega); have hh10 : ¬ w5.heap.size = w.heap.size + 1 + 1 := (by omega)) | (go_at_call 123; with_reducible (refine (r2valid_v HU3.out _).mono ?_); rintro _ w6 ⟨rfl, hb6⟩; obtain ⟨hb6c, hb6f⟩ := bcell hb6; have hb6s := hb6.size; (try simp only [World.size_alloc] at hb6s); have hh6 : w.heap.size + 1 + 1 < w6.heap.size := (by omega); have hh7 : w5.heap.size < w6.heap.size := (by omega)))
        refine bodyPost_ret (by simp [results, Try.results112, go_sem, combV, *]; try rfl) rfl ?_
        exact ⟨rfl, by (repeat' (first | (with_reducible exact Below.refl _ _) | (with_reducible assumption) | (with_reducible refine below_alloc ?_ _) | (with_reducible refine Below.drew ?_) | (with_reducible refine below_drewN ?_ _) | (with_reducible refine below_step (by assumption) ?_) | (with_reducible refine below_later ?_ _) | (with_reducible refine Below.setCell ?_ ?_ _) | go_size))⟩
end Go.Proofs.Ytfooefiaenlhmaa
namespace Go.Proofs.Ytfooefiaenlhmaa
set_option linter.unusedVariables false
set_option linter.unusedSimpArgs false
open Go.RowKit Go.ChangeShapes Go.WideShapes Go.ChangeAt

set_option maxRecDepth 100000 in
set_option maxHeartbeats 4000000 in
theorem un4_o (op m kg s a k m2 kg2 s2 a2 k2 : Int) (h3 : ¬ op = 3) (h4 : ¬ op = 4) (w : World) : Calls Try.prog 83 #[.int .i64 op, .agg #[.int .i64 m, .int .i64 kg, .int .i64 s, .int .i64 a, .int .i64 k], .agg #[.int .i64 m2, .int .i64 kg2, .int .i64 s2, .int .i64 a2, .int .i64 k2]] w fun e w' => e = .returned (.tuple #[.agg #[.int .i64 m, .int .i64 kg, .int .i64 s, .int .i64 a, .int .i64 k], .bool (ueq m kg s a k m2 kg2 s2 a2 k2)]) ∧ Below w.heap.size w w' := by
  have HEQ := eql_unit m kg s a k m2 kg2 s2 a2 k2
  have e3 : (op == 3) = false := by simp [h3]
  have e4 : (op == 4) = false := by simp [h4]
  generalize ueq m kg s a k m2 kg2 s2 a2 k2 = R at *
  go_enter Try.func83, Try.ntmps83
  go_wp2
  refine cap_world2 (P := fun W => Code.wp _ _ _ _ W) _ ?_
  intro W9 hW9
  have c00 : W9.cell? ⟨w.heap.size, 0, none⟩ = some (.int .i64 m) := by rw [hW9]; first | go_keep | (simp [go_sem]; done)
  have c01 : W9.cell? ⟨w.heap.size, 1, none⟩ = some (.int .i64 kg) := by rw [hW9]; first | go_keep | (simp [go_sem]; done)
  have c02 : W9.cell? ⟨w.heap.size, 2, none⟩ = some (.int .i64 s) := by rw [hW9]; first | go_keep | (simp [go_sem]; done)
  have c03 : W9.cell? ⟨w.heap.size, 3, none⟩ = some (.int .i64 a) := by rw [hW9]; first | go_keep | (simp [go_sem]; done)
  have c04 : W9.cell? ⟨w.heap.size, 4, none⟩ = some (.int .i64 k) := by rw [hW9]; first | go_keep | (simp [go_sem]; done)
  have c10 : W9.cell? ⟨w.heap.size + 1, 0, none⟩ = some (.int .i64 m2) := by rw [hW9]; first | go_keep | (simp [go_sem]; done)
  have c11 : W9.cell? ⟨w.heap.size + 1, 1, none⟩ = some (.int .i64 kg2) := by rw [hW9]; first | go_keep | (simp [go_sem]; done)
  have c12 : W9.cell? ⟨w.heap.size + 1, 2, none⟩ = some (.int .i64 s2) := by rw [hW9]; first | go_keep | (simp [go_sem]; done)
  have c13 : W9.cell? ⟨w.heap.size + 1, 3, none⟩ = some (.int .i64 a2) := by rw [hW9]; first | go_keep | (simp [go_sem]; done)
  have c14 : W9.cell? ⟨w.heap.size + 1, 4, none⟩ = some (.int .i64 k2) := by rw [hW9]; first | go_keep | (simp [go_sem]; done)
  have c20 : W9.cell? ⟨w.heap.size + 1 + 1, 0, none⟩ = some (.int .i64 0) := by rw [hW9]; first | go_keep | (simp [go_sem]; done)
  have c21 : W9.cell? ⟨w.heap.size + 1 + 1, 1, none⟩ = some (.int .i64 0) := by rw [hW9]; first | go_keep | (simp [go_sem]; done)
  have c22 : W9.cell? ⟨w.heap.size + 1 + 1, 2, none⟩ = some (.int .i64 0) := by rw [hW9]; first | go_keep | (simp [go_sem]; done)
  have c23 : W9.cell? ⟨w.heap.size + 1 + 1, 3, none⟩ = some (.int .i64 0) := by rw [hW9]; first | go_keep | (simp [go_sem]; done)
  have c24 : W9.cell? ⟨w.heap.size + 1 + 1, 4, none⟩ = some (.int .i64 0) := by rw [hW9]; first | go_keep | (simp [go_sem]; done)
  have f9 : ∀ j, W9.frozen? ⟨w.heap.size + 1 + 1, j, none⟩ = false := fun j => by rw [hW9]; first | go_keep | (simp [go_sem]; done) | (simp [World.frozen?]; done)
  have s9 : w.heap.size + 1 + 1 < W9.heap.size := by rw [hW9]; simp only [World.size_alloc]; omega
  have s8 : w.heap.size + 1 < W9.heap.size := by omega
  have s7 : w.heap.size < W9.heap.size := by omega
  have hB9 : Below w.heap.size w W9 := by rw [hW9]; (repeat' (first | (with_reducible exact Below.refl _ _) | (with_reducible assumption) | (with_reducible refine below_alloc ?_ _) | (with_reducible refine Below.drew ?_) | (with_reducible refine below_drewN ?_ _) | (with_reducible refine below_step (by assumption) ?_) | (with_reducible refine below_later ?_ _) | (with_reducible refine Below.setCell ?_ ?_ _) | go_size))
  clear hW9
  go_region_with (fail)
  all_goals go_wp2
  all_goals refine bodyPost_ret (by simp [results, Try.results83, go_sem, *]; try rfl) rfl ?_
  all_goals exact ⟨rfl, by first | (repeat' (first | (with_reducible exact Below.refl _ _) | (with_reducible assumption) | (with_reducible refine below_alloc ?_ _) | (with_reducible refine Below.drew ?_) | (with_reducible refine below_drewN ?_ _) | (with_reducible refine below_step (by assumption) ?_) | (with_reducible refine below_later ?_ _) | (with_reducible refine Below.setCell ?_ ?_ _) | go_size)) | (repeat (refine Below.setCell ?_ (by simp) _); exact hB9.drew)⟩
set_option maxRecDepth 100000 in
set_option maxHeartbeats 4000000 in
theorem un4_3 (m kg s a k m2 kg2 s2 a2 k2 : Int) (w : World) : Calls Try.prog 83 #[.int .i64 3, .agg #[.int .i64 m, .int .i64 kg, .int .i64 s, .int .i64 a, .int .i64 k], .agg #[.int .i64 m2, .int .i64 kg2, .int .i64 s2, .int .i64 a2, .int .i64 k2]] w fun e w' => e = .returned (.tuple #[.agg #[.int .i64 (combV (1) m m2 (combE (1) m kg s a k m2 kg2 s2 a2 k2)), .int .i64 (combV (1) kg kg2 (combE (1) m kg s a k m2 kg2 s2 a2 k2)), .int .i64 (combV (1) s s2 (combE (1) m kg s a k m2 kg2 s2 a2 k2)), .int .i64 (combV (1) a a2 (combE (1) m kg s a k m2 kg2 s2 a2 k2)), .int .i64 (combV (1) k k2 (combE (1) m kg s a k m2 kg2 s2 a2 k2))], .bool (decide (combE (1) m kg s a k m2 kg2 s2 a2 k2 = 0))]) ∧ Below w.heap.size w w' := by
  have HC := Lib.hid (fun w => rcomb_any (1) m kg s a k m2 kg2 s2 a2 k2 (by omega) w)
  generalize combE (1) m kg s a k m2 kg2 s2 a2 k2 = E at *
  generalize combV (1) m m2 E = v0 at *
  generalize combV (1) kg kg2 E = v1 at *
  generalize combV (1) s s2 E = v2 at *
  generalize combV (1) a a2 E = v3 at *
  generalize combV (1) k k2 E = v4 at *
  go_enter Try.func83, Try.ntmps83
  go_wp2_with (first | (go_at_call 112; refine (HC.out _).mono ?_; rintro _ w1 ⟨rfl, hb1⟩; obtain ⟨hb1c, hb1f⟩ := bcell hb1; have hb1s := hb1.size; (try simp only [World.size_alloc] at hb1s); have hx2 : w.heap.size + 1 + 1 < w1.heap.size := (by omega); have hx3 : w.heap.size + 1 + 1 < w1.heap.size + 1 := (by omega); have hx4 : ¬ w.heap.size + 1 + 1 = w1.heap.size := (by omega); have hx5 : ¬ w1.heap.size = w.heap.size + 1 + 1 := (by omega)))
  refine bodyPost_ret (by simp [results, Try.results83, go_sem, *]; try rfl) rfl ?_
  exact ⟨by first | rfl | (simp; done), by (repeat' (first | (with_reducible exact Below.refl _ _) | (with_reducible assumption) | (with_reducible refine below_alloc ?_ _) | (with_reducible refine Below.drew ?_) | (with_reducible refine below_drewN ?_ _) | (with_reducible refine below_step (by assumption) ?_) | (with_reducible refine below_later ?_ _) | (with_reducible refine Below.setCell ?_ ?_ _) | go_size))⟩
set_option maxRecDepth 100000 in
set_option maxHeartbeats 4000000 in
theorem un4_4 (m kg s a k m2 kg2 s2 a2 k2 : Int) (w : World) : Calls Try.prog 83 #[.int .i64 4, .agg #[.int .i64 m, .int .i64 kg, .int .i64 s, .int .i64 a, .int .i64 k], .agg #[.int .i64 m2, .int .i64 kg2, .int .i64 s2, .int .i64 a2, .int .i64 k2]] w fun e w' => e = .returned (.tuple #[.agg #[.int .i64 (combV (-1) m m2 (combE (-1) m kg s a k m2 kg2 s2 a2 k2)), .int .i64 (combV (-1) kg kg2 (combE (-1) m kg s a k m2 kg2 s2 a2 k2)), .int .i64 (combV (-1) s s2 (combE (-1) m kg s a k m2 kg2 s2 a2 k2)), .int .i64 (combV (-1) a a2 (combE (-1) m kg s a k m2 kg2 s2 a2 k2)), .int .i64 (combV (-1) k k2 (combE (-1) m kg s a k m2 kg2 s2 a2 k2))], .bool (decide (combE (-1) m kg s a k m2 kg2 s2 a2 k2 = 0))]) ∧ Below w.heap.size w w' := by
  have HC := Lib.hid (fun w => rcomb_any (-1) m kg s a k m2 kg2 s2 a2 k2 (by omega) w)
  generalize combE (-1) m kg s a k m2 kg2 s2 a2 k2 = E at *
  generalize combV (-1) m m2 E = v0 at *
  generalize combV (-1) kg kg2 E = v1 at *
  generalize combV (-1) s s2 E = v2 at *
  generalize combV (-1) a a2 E = v3 at *
  generalize combV (-1) k k2 E = v4 at *
  go_enter Try.func83, Try.ntmps83
  go_wp2_with (first | (go_at_call 112; refine (HC.out _).mono ?_; rintro _ w1 ⟨rfl, hb1⟩; obtain ⟨hb1c, hb1f⟩ := bcell hb1; have hb1s := hb1.size; (try simp only [World.size_alloc] at hb1s); have hx2 : w.heap.size + 1 + 1 < w1.heap.size := (by omega); have hx3 : w.heap.size + 1 + 1 < w1.heap.size + 1 := (by omega); have hx4 : ¬ w.heap.size + 1 + 1 = w1.heap.size := (by omega); have hx5 : ¬ w1.heap.size = w.heap.size + 1 + 1 := (by omega)))
  refine bodyPost_ret (by simp [results, Try.results83, go_sem, *]; try rfl) rfl ?_
  exact ⟨by first | rfl | (simp; done), by (repeat' (first | (with_reducible exact Below.refl _ _) | (with_reducible assumption) | (with_reducible refine below_alloc ?_ _) | (with_reducible refine Below.drew ?_) | (with_reducible refine below_drewN ?_ _) | (with_reducible refine below_step (by assumption) ?_) | (with_reducible refine below_later ?_ _) | (with_reducible refine Below.setCell ?_ ?_ _) | go_size))⟩
end Go.Proofs.Ytfooefiaenlhmaa
namespace Go.Proofs.Ytfooefiaenlhmaa
set_option linter.unusedVariables false
set_option linter.unusedSimpArgs false
open Go.RowKit Go.ChangeShapes Go.WideShapes Go.ChangeAt

/-- What an instruction names exists. -/
def nameB (cells : Int) (nv nm : Nat) (types : List Fx) (i : Ins) : Bool :=
  if i.op = 2 ∨ i.op = 3 then decide (i.k < cells)
  else if i.op = 20 then decide (i.k < nv)
  else if i.op = 21 then decide (i.k < nm)
  else if i.op = 22 then decide (i.k / 32 + 1 < cells)
  else if typB i.op = true then okT types.length i.op i.k && unitsB i.op (types.getD (tA i.k) default) (tyB types i.op i.k) (tyT types i.op i.k)
  else true
set_option maxRecDepth 100000 in
set_option maxHeartbeats 8000000 in
theorem na_2 (rc : Option Addr) (lc cc : Nat) (rt : Option Addr) (ct : Nat) (types : List Fx) (rv : Option Addr) (lv cv : Nat) (rm : Option Addr) (lm cm : Nat) (cells : Int) (ri : Option Addr) (li ci : Nat) (rs : Option Addr) (ls cs : Nat) (ro : Option Addr) (lo co : Nat) (rn : Option Addr) (ln cn : Nat) (a b c k : Int) (hk : I64 k) (h0 : 0 ≤ k) (w : World) : Calls Try.prog 41 #[.agg #[.slice rc lc cc, .slice rt types.length ct, .slice rv lv cv, .slice rm lm cm, .int .i64 cells, .slice ri li ci, .slice rs ls cs, .slice ro lo co, .slice rn ln cn], .agg #[.int .i64 2, .int .i64 a, .int .i64 b, .int .i64 c, .int .i64 k]] w fun e w' => e = .returned (.bool (decide (k < cells))) ∧ Below w.heap.size w w' := by
  obtain ⟨m, HM, hm⟩ := max0_run k
  have hk2 := hk
  unfold I64 at hk2
  simp [Lit.wf, IntKind.min, IntKind.max, IntKind.bits, IntKind.signed] at hk2
  have hm0 : m = k := by omega
  rw [hm0] at HM
  clear hm0 hm
  have HTY := Lib.hid (fun W => rtypes_any k (by omega) hk W)
  go_enter Try.func41, Try.ntmps41
  go_wp2_with (first | (go_at_call 82; refine (HTY.out _).mono ?_; rintro _ _ ⟨rfl, rfl⟩))
  all_goals go_ret
  all_goals exact ⟨by first | rfl | (simp [*]; done), by (repeat' (first | (with_reducible exact Below.refl _ _) | (with_reducible assumption) | (with_reducible refine below_alloc ?_ _) | (with_reducible refine Below.drew ?_) | (with_reducible refine below_drewN ?_ _) | (with_reducible refine below_step (by assumption) ?_) | (with_reducible refine below_later ?_ _) | (with_reducible refine Below.setCell ?_ ?_ _) | go_size))⟩
set_option maxRecDepth 100000 in
set_option maxHeartbeats 8000000 in
theorem na_3 (rc : Option Addr) (lc cc : Nat) (rt : Option Addr) (ct : Nat) (types : List Fx) (rv : Option Addr) (lv cv : Nat) (rm : Option Addr) (lm cm : Nat) (cells : Int) (ri : Option Addr) (li ci : Nat) (rs : Option Addr) (ls cs : Nat) (ro : Option Addr) (lo co : Nat) (rn : Option Addr) (ln cn : Nat) (a b c k : Int) (hk : I64 k) (h0 : 0 ≤ k) (w : World) : Calls Try.prog 41 #[.agg #[.slice rc lc cc, .slice rt types.length ct, .slice rv lv cv, .slice rm lm cm, .int .i64 cells, .slice ri li ci, .slice rs ls cs, .slice ro lo co, .slice rn ln cn], .agg #[.int .i64 3, .int .i64 a, .int .i64 b, .int .i64 c, .int .i64 k]] w fun e w' => e = .returned (.bool (decide (k < cells))) ∧ Below w.heap.size w w' := by
  obtain ⟨m, HM, hm⟩ := max0_run k
  have hk2 := hk
  unfold I64 at hk2
  simp [Lit.wf, IntKind.min, IntKind.max, IntKind.bits, IntKind.signed] at hk2
  have hm0 : m = k := by omega
  rw [hm0] at HM
  clear hm0 hm
  have HTY := Lib.hid (fun W => rtypes_any k (by omega) hk W)
  go_enter Try.func41, Try.ntmps41
  go_wp2_with (first | (go_at_call 82; refine (HTY.out _).mono ?_; rintro _ _ ⟨rfl, rfl⟩))
  all_goals go_ret
  all_goals exact ⟨by first | rfl | (simp [*]; done), by (repeat' (first | (with_reducible exact Below.refl _ _) | (with_reducible assumption) | (with_reducible refine below_alloc ?_ _) | (with_reducible refine Below.drew ?_) | (with_reducible refine below_drewN ?_ _) | (with_reducible refine below_step (by assumption) ?_) | (with_reducible refine below_later ?_ _) | (with_reducible refine Below.setCell ?_ ?_ _) | go_size))⟩
set_option maxRecDepth 100000 in
set_option maxHeartbeats 8000000 in
theorem na_20 (rc : Option Addr) (lc cc : Nat) (rt : Option Addr) (ct : Nat) (types : List Fx) (rv : Option Addr) (lv cv : Nat) (rm : Option Addr) (lm cm : Nat) (cells : Int) (ri : Option Addr) (li ci : Nat) (rs : Option Addr) (ls cs : Nat) (ro : Option Addr) (lo co : Nat) (rn : Option Addr) (ln cn : Nat) (a b c k : Int) (hk : I64 k) (h0 : 0 ≤ k) (w : World) : Calls Try.prog 41 #[.agg #[.slice rc lc cc, .slice rt types.length ct, .slice rv lv cv, .slice rm lm cm, .int .i64 cells, .slice ri li ci, .slice rs ls cs, .slice ro lo co, .slice rn ln cn], .agg #[.int .i64 20, .int .i64 a, .int .i64 b, .int .i64 c, .int .i64 k]] w fun e w' => e = .returned (.bool (decide (k < (lv : Int)))) ∧ Below w.heap.size w w' := by
  obtain ⟨m, HM, hm⟩ := max0_run k
  have hk2 := hk
  unfold I64 at hk2
  simp [Lit.wf, IntKind.min, IntKind.max, IntKind.bits, IntKind.signed] at hk2
  have hm0 : m = k := by omega
  rw [hm0] at HM
  clear hm0 hm
  have HTY := Lib.hid (fun W => rtypes_any k (by omega) hk W)
  go_enter Try.func41, Try.ntmps41
  go_wp2_with (first | (go_at_call 82; refine (HTY.out _).mono ?_; rintro _ _ ⟨rfl, rfl⟩))
  all_goals go_ret
  all_goals exact ⟨by first | rfl | (simp [*]; done), by (repeat' (first | (with_reducible exact Below.refl _ _) | (with_reducible assumption) | (with_reducible refine below_alloc ?_ _) | (with_reducible refine Below.drew ?_) | (with_reducible refine below_drewN ?_ _) | (with_reducible refine below_step (by assumption) ?_) | (with_reducible refine below_later ?_ _) | (with_reducible refine Below.setCell ?_ ?_ _) | go_size))⟩
set_option maxRecDepth 100000 in
set_option maxHeartbeats 8000000 in
theorem na_21 (rc : Option Addr) (lc cc : Nat) (rt : Option Addr) (ct : Nat) (types : List Fx) (rv : Option Addr) (lv cv : Nat) (rm : Option Addr) (lm cm : Nat) (cells : Int) (ri : Option Addr) (li ci : Nat) (rs : Option Addr) (ls cs : Nat) (ro : Option Addr) (lo co : Nat) (rn : Option Addr) (ln cn : Nat) (a b c k : Int) (hk : I64 k) (h0 : 0 ≤ k) (w : World) : Calls Try.prog 41 #[.agg #[.slice rc lc cc, .slice rt types.length ct, .slice rv lv cv, .slice rm lm cm, .int .i64 cells, .slice ri li ci, .slice rs ls cs, .slice ro lo co, .slice rn ln cn], .agg #[.int .i64 21, .int .i64 a, .int .i64 b, .int .i64 c, .int .i64 k]] w fun e w' => e = .returned (.bool (decide (k < (lm : Int)))) ∧ Below w.heap.size w w' := by
  obtain ⟨m, HM, hm⟩ := max0_run k
  have hk2 := hk
  unfold I64 at hk2
  simp [Lit.wf, IntKind.min, IntKind.max, IntKind.bits, IntKind.signed] at hk2
  have hm0 : m = k := by omega
  rw [hm0] at HM
  clear hm0 hm
  have HTY := Lib.hid (fun W => rtypes_any k (by omega) hk W)
  go_enter Try.func41, Try.ntmps41
  go_wp2_with (first | (go_at_call 82; refine (HTY.out _).mono ?_; rintro _ _ ⟨rfl, rfl⟩))
  all_goals go_ret
  all_goals exact ⟨by first | rfl | (simp [*]; done), by (repeat' (first | (with_reducible exact Below.refl _ _) | (with_reducible assumption) | (with_reducible refine below_alloc ?_ _) | (with_reducible refine Below.drew ?_) | (with_reducible refine below_drewN ?_ _) | (with_reducible refine below_step (by assumption) ?_) | (with_reducible refine below_later ?_ _) | (with_reducible refine Below.setCell ?_ ?_ _) | go_size))⟩
set_option maxRecDepth 100000 in
set_option maxHeartbeats 8000000 in
theorem na_22 (rc : Option Addr) (lc cc : Nat) (rt : Option Addr) (ct : Nat) (types : List Fx) (rv : Option Addr) (lv cv : Nat) (rm : Option Addr) (lm cm : Nat) (cells : Int) (ri : Option Addr) (li ci : Nat) (rs : Option Addr) (ls cs : Nat) (ro : Option Addr) (lo co : Nat) (rn : Option Addr) (ln cn : Nat) (a b c k : Int) (hk : I64 k) (h0 : 0 ≤ k) (w : World) : Calls Try.prog 41 #[.agg #[.slice rc lc cc, .slice rt types.length ct, .slice rv lv cv, .slice rm lm cm, .int .i64 cells, .slice ri li ci, .slice rs ls cs, .slice ro lo co, .slice rn ln cn], .agg #[.int .i64 22, .int .i64 a, .int .i64 b, .int .i64 c, .int .i64 k]] w fun e w' => e = .returned (.bool (decide (k / 32 + 1 < cells))) ∧ Below w.heap.size w w' := by
  obtain ⟨m, HM, hm⟩ := max0_run k
  have hk2 := hk
  unfold I64 at hk2
  simp [Lit.wf, IntKind.min, IntKind.max, IntKind.bits, IntKind.signed] at hk2
  have hm0 : m = k := by omega
  rw [hm0] at HM
  clear hm0 hm
  have HTY := Lib.hid (fun W => rtypes_any k (by omega) hk W)
  have q3 : k.tdiv 32 = k / 32 := Int.tdiv_eq_ediv_of_nonneg h0
  have q4 : IntKind.i64.wrap (k / 32) = k / 32 := IntWalk.i64_in _ (by omega)
  have q5 : IntKind.i64.wrap (k / 32 + 1) = k / 32 + 1 := IntWalk.i64_in _ (by omega)
  go_enter Try.func41, Try.ntmps41
  go_wp2_with (first | (go_at_call 82; refine (HTY.out _).mono ?_; rintro _ _ ⟨rfl, rfl⟩))
  all_goals go_ret
  all_goals exact ⟨by first | rfl | (simp [*]; done), by (repeat' (first | (with_reducible exact Below.refl _ _) | (with_reducible assumption) | (with_reducible refine below_alloc ?_ _) | (with_reducible refine Below.drew ?_) | (with_reducible refine below_drewN ?_ _) | (with_reducible refine below_step (by assumption) ?_) | (with_reducible refine below_later ?_ _) | (with_reducible refine Below.setCell ?_ ?_ _) | go_size))⟩
set_option maxRecDepth 100000 in
set_option maxHeartbeats 8000000 in
theorem na_o (rc : Option Addr) (lc cc : Nat) (rt : Option Addr) (ct : Nat) (types : List Fx) (rv : Option Addr) (lv cv : Nat) (rm : Option Addr) (lm cm : Nat) (cells : Int) (ri : Option Addr) (li ci : Nat) (rs : Option Addr) (ls cs : Nat) (ro : Option Addr) (lo co : Nat) (rn : Option Addr) (ln cn : Nat) (op a b c k : Int) (hk : I64 k) (o2 : ¬ op = 2) (o3 : ¬ op = 3) (o5 : ¬ op = 5) (o6 : ¬ op = 6) (o7 : ¬ op = 7) (o8 : ¬ op = 8) (o9 : ¬ op = 9) (o10 : ¬ op = 10) (o13 : ¬ op = 13) (o14 : ¬ op = 14) (o20 : ¬ op = 20) (o21 : ¬ op = 21) (o22 : ¬ op = 22) (w : World) : Calls Try.prog 41 #[.agg #[.slice rc lc cc, .slice rt types.length ct, .slice rv lv cv, .slice rm lm cm, .int .i64 cells, .slice ri li ci, .slice rs ls cs, .slice ro lo co, .slice rn ln cn], .agg #[.int .i64 op, .int .i64 a, .int .i64 b, .int .i64 c, .int .i64 k]] w fun e w' => e = .returned (.bool (true)) ∧ Below w.heap.size w w' := by
  obtain ⟨m, HM, hm⟩ := max0_run k
  have hk2 := hk
  unfold I64 at hk2
  simp [Lit.wf, IntKind.min, IntKind.max, IntKind.bits, IntKind.signed] at hk2
  have HTY := Lib.hid (fun W => rtypes_any m (by omega) (by unfold I64; simp [Lit.wf, IntKind.min, IntKind.max, IntKind.bits, IntKind.signed]; omega) W)
  clear hm
  have e2 : (op == 2) = false := by simp [o2]
  have e3 : (op == 3) = false := by simp [o3]
  have e5 : (op == 5) = false := by simp [o5]
  have e6 : (op == 6) = false := by simp [o6]
  have e7 : (op == 7) = false := by simp [o7]
  have e8 : (op == 8) = false := by simp [o8]
  have e9 : (op == 9) = false := by simp [o9]
  have e10 : (op == 10) = false := by simp [o10]
  have e13 : (op == 13) = false := by simp [o13]
  have e14 : (op == 14) = false := by simp [o14]
  have e20 : (op == 20) = false := by simp [o20]
  have e21 : (op == 21) = false := by simp [o21]
  have e22 : (op == 22) = false := by simp [o22]
  go_enter Try.func41, Try.ntmps41
  go_wp2_with (first | (go_at_call 82; refine (HTY.out _).mono ?_; rintro _ _ ⟨rfl, rfl⟩))
  all_goals go_ret
  all_goals exact ⟨by first | rfl | (simp [*]; done), by (repeat' (first | (with_reducible exact Below.refl _ _) | (with_reducible assumption) | (with_reducible refine below_alloc ?_ _) | (with_reducible refine Below.drew ?_) | (with_reducible refine below_drewN ?_ _) | (with_reducible refine below_step (by assumption) ?_) | (with_reducible refine below_later ?_ _) | (with_reducible refine Below.setCell ?_ ?_ _) | go_size))⟩
end Go.Proofs.Ytfooefiaenlhmaa
namespace Go.Proofs.Ytfooefiaenlhmaa
set_option linter.unusedVariables false
set_option linter.unusedSimpArgs false
open Go.RowKit Go.ChangeShapes Go.WideShapes Go.ChangeAt

set_option maxRecDepth 100000 in
set_option maxHeartbeats 8000000 in
theorem na_5_a (rc : Option Addr) (lc cc : Nat) (rt : Option Addr) (ct : Nat) (types : List Fx) (rv : Option Addr) (lv cv : Nat) (rm : Option Addr) (lm cm : Nat) (cells : Int) (ri : Option Addr) (li ci : Nat) (rs : Option Addr) (ls cs : Nat) (ro : Option Addr) (lo co : Nat) (rn : Option Addr) (ln cn : Nat) (a b c k : Int) (hk : I64 k) (h0 : 0 ≤ k) (na nb nt : Nat) (hna : k / 16384 = (na : Int)) (hnb : k / 128 % 128 = (nb : Int)) (hnt : k % 128 = (nt : Int)) (za : types.length ≤ na) (w : World) (hS : IsS 10 Fx.enc w rt ct types) : Calls Try.prog 41 #[.agg #[.slice rc lc cc, .slice rt types.length ct, .slice rv lv cv, .slice rm lm cm, .int .i64 cells, .slice ri li ci, .slice rs ls cs, .slice ro lo co, .slice rn ln cn], .agg #[.int .i64 5, .int .i64 a, .int .i64 b, .int .i64 c, .int .i64 k]] w fun e w' => e = .returned (.bool (false)) ∧ Below w.heap.size w w' := by
  obtain ⟨m, HM, hm⟩ := max0_run k
  have hk2 := hk
  unfold I64 at hk2
  simp [Lit.wf, IntKind.min, IntKind.max, IntKind.bits, IntKind.signed] at hk2
  have hm0 : m = k := by omega
  rw [hm0] at HM
  clear hm0 hm
  have HTY := Lib.hid (fun W => rtypes_any k (by omega) hk W)
  have hmx := Nat.le_trans hS.le hS.max
  unfold maxLen at hmx
  have ia : (types.length : Int) ≤ (na : Int) := by omega
  have ml : (types.length : Int) ≤ 9223372036854775807 := by omega
  rw [hna, hnb, hnt] at HTY
  clear hS
  go_enter Try.func41, Try.ntmps41
  go_wp2_with (first | (go_at_call 82; refine (HTY.out _).mono ?_; rintro _ _ ⟨rfl, rfl⟩))
  all_goals go_ret
  all_goals exact ⟨by first | rfl | (simp [*]; done), by (repeat' (first | (with_reducible exact Below.refl _ _) | (with_reducible assumption) | (with_reducible refine below_alloc ?_ _) | (with_reducible refine Below.drew ?_) | (with_reducible refine below_drewN ?_ _) | (with_reducible refine below_step (by assumption) ?_) | (with_reducible refine below_later ?_ _) | (with_reducible refine Below.setCell ?_ ?_ _) | go_size))⟩
set_option maxRecDepth 100000 in
set_option maxHeartbeats 8000000 in
theorem na_5_b (rc : Option Addr) (lc cc : Nat) (rt : Option Addr) (ct : Nat) (types : List Fx) (rv : Option Addr) (lv cv : Nat) (rm : Option Addr) (lm cm : Nat) (cells : Int) (ri : Option Addr) (li ci : Nat) (rs : Option Addr) (ls cs : Nat) (ro : Option Addr) (lo co : Nat) (rn : Option Addr) (ln cn : Nat) (a b c k : Int) (hk : I64 k) (h0 : 0 ≤ k) (na nb nt : Nat) (hna : k / 16384 = (na : Int)) (hnb : k / 128 % 128 = (nb : Int)) (hnt : k % 128 = (nt : Int)) (ha : na < types.length) (zb : types.length ≤ nb) (w : World) (hS : IsS 10 Fx.enc w rt ct types) : Calls Try.prog 41 #[.agg #[.slice rc lc cc, .slice rt types.length ct, .slice rv lv cv, .slice rm lm cm, .int .i64 cells, .slice ri li ci, .slice rs ls cs, .slice ro lo co, .slice rn ln cn], .agg #[.int .i64 5, .int .i64 a, .int .i64 b, .int .i64 c, .int .i64 k]] w fun e w' => e = .returned (.bool (false)) ∧ Below w.heap.size w w' := by
  obtain ⟨m, HM, hm⟩ := max0_run k
  have hk2 := hk
  unfold I64 at hk2
  simp [Lit.wf, IntKind.min, IntKind.max, IntKind.bits, IntKind.signed] at hk2
  have hm0 : m = k := by omega
  rw [hm0] at HM
  clear hm0 hm
  have HTY := Lib.hid (fun W => rtypes_any k (by omega) hk W)
  have hmx := Nat.le_trans hS.le hS.max
  unfold maxLen at hmx
  have ia : (na : Int) < (types.length : Int) := by omega
  have ja : (0 : Int) ≤ (na : Int) := by omega
  have ib : (types.length : Int) ≤ (nb : Int) := by omega
  have ml : (types.length : Int) ≤ 9223372036854775807 := by omega
  rw [hna, hnb, hnt] at HTY
  clear hS
  go_enter Try.func41, Try.ntmps41
  go_wp2_with (first | (go_at_call 82; refine (HTY.out _).mono ?_; rintro _ _ ⟨rfl, rfl⟩))
  all_goals go_ret
  all_goals exact ⟨by first | rfl | (simp [*]; done), by (repeat' (first | (with_reducible exact Below.refl _ _) | (with_reducible assumption) | (with_reducible refine below_alloc ?_ _) | (with_reducible refine Below.drew ?_) | (with_reducible refine below_drewN ?_ _) | (with_reducible refine below_step (by assumption) ?_) | (with_reducible refine below_later ?_ _) | (with_reducible refine Below.setCell ?_ ?_ _) | go_size))⟩
set_option maxRecDepth 100000 in
set_option maxHeartbeats 8000000 in
theorem na_5_t (rc : Option Addr) (lc cc : Nat) (rt : Option Addr) (ct : Nat) (types : List Fx) (rv : Option Addr) (lv cv : Nat) (rm : Option Addr) (lm cm : Nat) (cells : Int) (ri : Option Addr) (li ci : Nat) (rs : Option Addr) (ls cs : Nat) (ro : Option Addr) (lo co : Nat) (rn : Option Addr) (ln cn : Nat) (a b c k : Int) (hk : I64 k) (h0 : 0 ≤ k) (na nb nt : Nat) (hna : k / 16384 = (na : Int)) (hnb : k / 128 % 128 = (nb : Int)) (hnt : k % 128 = (nt : Int)) (ha : na < types.length) (hb : nb < types.length) (zt : types.length ≤ nt) (w : World) (hS : IsS 10 Fx.enc w rt ct types) : Calls Try.prog 41 #[.agg #[.slice rc lc cc, .slice rt types.length ct, .slice rv lv cv, .slice rm lm cm, .int .i64 cells, .slice ri li ci, .slice rs ls cs, .slice ro lo co, .slice rn ln cn], .agg #[.int .i64 5, .int .i64 a, .int .i64 b, .int .i64 c, .int .i64 k]] w fun e w' => e = .returned (.bool (false)) ∧ Below w.heap.size w w' := by
  obtain ⟨m, HM, hm⟩ := max0_run k
  have hk2 := hk
  unfold I64 at hk2
  simp [Lit.wf, IntKind.min, IntKind.max, IntKind.bits, IntKind.signed] at hk2
  have hm0 : m = k := by omega
  rw [hm0] at HM
  clear hm0 hm
  have HTY := Lib.hid (fun W => rtypes_any k (by omega) hk W)
  have hmx := Nat.le_trans hS.le hS.max
  unfold maxLen at hmx
  have ia : (na : Int) < (types.length : Int) := by omega
  have ja : (0 : Int) ≤ (na : Int) := by omega
  have ib : (nb : Int) < (types.length : Int) := by omega
  have jb : (0 : Int) ≤ (nb : Int) := by omega
  have it : (types.length : Int) ≤ (nt : Int) := by omega
  have ml : (types.length : Int) ≤ 9223372036854775807 := by omega
  rw [hna, hnb, hnt] at HTY
  clear hS
  go_enter Try.func41, Try.ntmps41
  go_wp2_with (first | (go_at_call 82; refine (HTY.out _).mono ?_; rintro _ _ ⟨rfl, rfl⟩))
  all_goals go_ret
  all_goals exact ⟨by first | rfl | (simp [*]; done), by (repeat' (first | (with_reducible exact Below.refl _ _) | (with_reducible assumption) | (with_reducible refine below_alloc ?_ _) | (with_reducible refine Below.drew ?_) | (with_reducible refine below_drewN ?_ _) | (with_reducible refine below_step (by assumption) ?_) | (with_reducible refine below_later ?_ _) | (with_reducible refine Below.setCell ?_ ?_ _) | go_size))⟩
set_option maxRecDepth 100000 in
set_option maxHeartbeats 8000000 in
theorem na_5_ok (rc : Option Addr) (lc cc : Nat) (rt : Option Addr) (ct : Nat) (types : List Fx) (rv : Option Addr) (lv cv : Nat) (rm : Option Addr) (lm cm : Nat) (cells : Int) (ri : Option Addr) (li ci : Nat) (rs : Option Addr) (ls cs : Nat) (ro : Option Addr) (lo co : Nat) (rn : Option Addr) (ln cn : Nat) (a b c k : Int) (hk : I64 k) (h0 : 0 ≤ k) (na nb nt : Nat) (hna : k / 16384 = (na : Int)) (hnb : k / 128 % 128 = (nb : Int)) (hnt : k % 128 = (nt : Int)) (ha : na < types.length) (hb : nb < types.length) (ht : nt < types.length) (w : World) (hS : IsS 10 Fx.enc w rt ct types) : Calls Try.prog 41 #[.agg #[.slice rc lc cc, .slice rt types.length ct, .slice rv lv cv, .slice rm lm cm, .int .i64 cells, .slice ri li ci, .slice rs ls cs, .slice ro lo co, .slice rn ln cn], .agg #[.int .i64 5, .int .i64 a, .int .i64 b, .int .i64 c, .int .i64 k]] w fun e w' => e = .returned (.bool (unitsB 5 (types.getD na default) (types.getD nb default) (types.getD nt default))) ∧ Below w.heap.size w w' := by
  obtain ⟨m, HM, hm⟩ := max0_run k
  have hk2 := hk
  unfold I64 at hk2
  simp [Lit.wf, IntKind.min, IntKind.max, IntKind.bits, IntKind.signed] at hk2
  have hm0 : m = k := by omega
  rw [hm0] at HM
  clear hm0 hm
  have HTY := Lib.hid (fun W => rtypes_any k (by omega) hk W)
  have hmx := Nat.le_trans hS.le hS.max
  unfold maxLen at hmx
  have ia : (na : Int) < (types.length : Int) := by omega
  have ja : (0 : Int) ≤ (na : Int) := by omega
  have ib : (nb : Int) < (types.length : Int) := by omega
  have jb : (0 : Int) ≤ (nb : Int) := by omega
  have it : (nt : Int) < (types.length : Int) := by omega
  have jt : (0 : Int) ≤ (nt : Int) := by omega
  have ml : (types.length : Int) ≤ 9223372036854775807 := by omega
  rw [hna, hnb, hnt] at HTY
  obtain ⟨bXa, offa, hra, hba, hca⟩ := hS.at_ ha
  subst hra
  have ha0 : w.cell? ⟨bXa, offa + na * 10 + 5, none⟩ = some (.int .i64 (types.getD na default).m) := hca 5 _ rfl
  have ha1 : w.cell? ⟨bXa, offa + na * 10 + 6, none⟩ = some (.int .i64 (types.getD na default).kg) := hca 6 _ rfl
  have ha2 : w.cell? ⟨bXa, offa + na * 10 + 7, none⟩ = some (.int .i64 (types.getD na default).s) := hca 7 _ rfl
  have ha3 : w.cell? ⟨bXa, offa + na * 10 + 8, none⟩ = some (.int .i64 (types.getD na default).a) := hca 8 _ rfl
  have ha4 : w.cell? ⟨bXa, offa + na * 10 + 9, none⟩ = some (.int .i64 (types.getD na default).k) := hca 9 _ rfl
  clear hca
  obtain ⟨bXb, offb, hrb, hbb, hcb⟩ := hS.at_ hb
  simp only [Option.some.injEq, Addr.mk.injEq, and_true] at hrb
  obtain ⟨rfl, rfl⟩ := hrb
  have hb0 : w.cell? ⟨bXa, offa + nb * 10 + 5, none⟩ = some (.int .i64 (types.getD nb default).m) := hcb 5 _ rfl
  have hb1 : w.cell? ⟨bXa, offa + nb * 10 + 6, none⟩ = some (.int .i64 (types.getD nb default).kg) := hcb 6 _ rfl
  have hb2 : w.cell? ⟨bXa, offa + nb * 10 + 7, none⟩ = some (.int .i64 (types.getD nb default).s) := hcb 7 _ rfl
  have hb3 : w.cell? ⟨bXa, offa + nb * 10 + 8, none⟩ = some (.int .i64 (types.getD nb default).a) := hcb 8 _ rfl
  have hb4 : w.cell? ⟨bXa, offa + nb * 10 + 9, none⟩ = some (.int .i64 (types.getD nb default).k) := hcb 9 _ rfl
  clear hcb
  obtain ⟨bXt, offt, hrt, hbt, hct⟩ := hS.at_ ht
  simp only [Option.some.injEq, Addr.mk.injEq, and_true] at hrt
  obtain ⟨rfl, rfl⟩ := hrt
  have ht0 : w.cell? ⟨bXa, offa + nt * 10 + 5, none⟩ = some (.int .i64 (types.getD nt default).m) := hct 5 _ rfl
  have ht1 : w.cell? ⟨bXa, offa + nt * 10 + 6, none⟩ = some (.int .i64 (types.getD nt default).kg) := hct 6 _ rfl
  have ht2 : w.cell? ⟨bXa, offa + nt * 10 + 7, none⟩ = some (.int .i64 (types.getD nt default).s) := hct 7 _ rfl
  have ht3 : w.cell? ⟨bXa, offa + nt * 10 + 8, none⟩ = some (.int .i64 (types.getD nt default).a) := hct 8 _ rfl
  have ht4 : w.cell? ⟨bXa, offa + nt * 10 + 9, none⟩ = some (.int .i64 (types.getD nt default).k) := hct 9 _ rfl
  clear hct
  clear hS
  have HUB : Hid (unitsB 5 (types.getD na default) (types.getD nb default) (types.getD nt default) = (ueq (types.getD na default).m (types.getD na default).kg (types.getD na default).s (types.getD na default).a (types.getD na default).k (types.getD nb default).m (types.getD nb default).kg (types.getD nb default).s (types.getD nb default).a (types.getD nb default).k && ueq (types.getD na default).m (types.getD na default).kg (types.getD na default).s (types.getD na default).a (types.getD na default).k (types.getD nt default).m (types.getD nt default).kg (types.getD nt default).s (types.getD nt default).a (types.getD nt default).k)) := Lib.hid (by unfold unitsB; simp)
  rw [HUB.out]
  clear HUB
  generalize (types.getD na default) = Ta at *
  obtain ⟨va0, va1, va2, va3, va4, va5, va6, va7, va8, va9⟩ := Ta
  generalize (types.getD nb default) = Tb at *
  obtain ⟨vb0, vb1, vb2, vb3, vb4, vb5, vb6, vb7, vb8, vb9⟩ := Tb
  generalize (types.getD nt default) = Tt at *
  obtain ⟨vt0, vt1, vt2, vt3, vt4, vt5, vt6, vt7, vt8, vt9⟩ := Tt
  simp only at ha0 ha1 ha2 ha3 ha4 hb0 hb1 hb2 hb3 hb4 ht0 ht1 ht2 ht3 ht4 ⊢
  have qz1 : bXa < w.heap.size + 1 := by omega
  have qz2 : bXa < w.heap.size + 1 + 1 := by omega
  have HUN := Lib.hid (fun W => un4_o 1 va5 va6 va7 va8 va9 vb5 vb6 vb7 vb8 vb9 (by omega) (by omega) W)
  have HE2 := eql_unit va5 va6 va7 va8 va9 vt5 vt6 vt7 vt8 vt9
  generalize ueq va5 va6 va7 va8 va9 vb5 vb6 vb7 vb8 vb9 = R1 at *
  generalize ueq va5 va6 va7 va8 va9 vt5 vt6 vt7 vt8 vt9 = R2 at *
  go_enter Try.func41, Try.ntmps41
  go_wp2_with (first | (go_at_call 82; refine (HTY.out _).mono ?_; rintro _ _ ⟨rfl, rfl⟩))
  refine cap_world2 (P := fun W => Code.wp _ _ _ _ W) _ ?_
  intro W9 hW9
  have p1 : W9.cell? ⟨w.heap.size, 1, none⟩ = some (.slice (some ⟨bXa, offa, none⟩) types.length ct) := by rw [hW9]; first | go_keep | (simp [go_sem]; done)
  have p2 : W9.cell? ⟨w.heap.size + 1, 0, none⟩ = some (.int .i64 5) := by rw [hW9]; first | go_keep | (simp [go_sem]; done)
  have ga0 : W9.cell? ⟨bXa, offa + na * 10 + 5, none⟩ = some (.int .i64 va5) := by rw [hW9]; first | go_keep | (simp [go_sem, *]; done)
  have ga1 : W9.cell? ⟨bXa, offa + na * 10 + 6, none⟩ = some (.int .i64 va6) := by rw [hW9]; first | go_keep | (simp [go_sem, *]; done)
  have ga2 : W9.cell? ⟨bXa, offa + na * 10 + 7, none⟩ = some (.int .i64 va7) := by rw [hW9]; first | go_keep | (simp [go_sem, *]; done)
  have ga3 : W9.cell? ⟨bXa, offa + na * 10 + 8, none⟩ = some (.int .i64 va8) := by rw [hW9]; first | go_keep | (simp [go_sem, *]; done)
  have ga4 : W9.cell? ⟨bXa, offa + na * 10 + 9, none⟩ = some (.int .i64 va9) := by rw [hW9]; first | go_keep | (simp [go_sem, *]; done)
  have gb0 : W9.cell? ⟨bXa, offa + nb * 10 + 5, none⟩ = some (.int .i64 vb5) := by rw [hW9]; first | go_keep | (simp [go_sem, *]; done)
  have gb1 : W9.cell? ⟨bXa, offa + nb * 10 + 6, none⟩ = some (.int .i64 vb6) := by rw [hW9]; first | go_keep | (simp [go_sem, *]; done)
  have gb2 : W9.cell? ⟨bXa, offa + nb * 10 + 7, none⟩ = some (.int .i64 vb7) := by rw [hW9]; first | go_keep | (simp [go_sem, *]; done)
  have gb3 : W9.cell? ⟨bXa, offa + nb * 10 + 8, none⟩ = some (.int .i64 vb8) := by rw [hW9]; first | go_keep | (simp [go_sem, *]; done)
  have gb4 : W9.cell? ⟨bXa, offa + nb * 10 + 9, none⟩ = some (.int .i64 vb9) := by rw [hW9]; first | go_keep | (simp [go_sem, *]; done)
  have gt0 : W9.cell? ⟨bXa, offa + nt * 10 + 5, none⟩ = some (.int .i64 vt5) := by rw [hW9]; first | go_keep | (simp [go_sem, *]; done)
  have gt1 : W9.cell? ⟨bXa, offa + nt * 10 + 6, none⟩ = some (.int .i64 vt6) := by rw [hW9]; first | go_keep | (simp [go_sem, *]; done)
  have gt2 : W9.cell? ⟨bXa, offa + nt * 10 + 7, none⟩ = some (.int .i64 vt7) := by rw [hW9]; first | go_keep | (simp [go_sem, *]; done)
  have gt3 : W9.cell? ⟨bXa, offa + nt * 10 + 8, none⟩ = some (.int .i64 vt8) := by rw [hW9]; first | go_keep | (simp [go_sem, *]; done)
  have gt4 : W9.cell? ⟨bXa, offa + nt * 10 + 9, none⟩ = some (.int .i64 vt9) := by rw [hW9]; first | go_keep | (simp [go_sem, *]; done)
  have s0 : w.heap.size < W9.heap.size := by rw [hW9]; simp only [World.size_alloc]; omega
  have s1 : w.heap.size + 1 < W9.heap.size := by rw [hW9]; simp only [World.size_alloc]; omega
  have sX : bXa < W9.heap.size := by omega
  have hB9 : Below w.heap.size w W9 := by rw [hW9]; (repeat' (first | (with_reducible exact Below.refl _ _) | (with_reducible assumption) | (with_reducible refine below_alloc ?_ _) | (with_reducible refine Below.drew ?_) | (with_reducible refine below_drewN ?_ _) | (with_reducible refine below_step (by assumption) ?_) | (with_reducible refine below_later ?_ _) | (with_reducible refine Below.setCell ?_ ?_ _) | go_size))
  clear hW9 ha0 ha1 ha2 ha3 ha4 hb0 hb1 hb2 hb3 hb4 ht0 ht1 ht2 ht3 ht4
  have HS : ∀ V, Below W9.heap.size W9 V → V.cell? ⟨w.heap.size, 1, none⟩ = some (.slice (some ⟨bXa, offa, none⟩) types.length ct) ∧ V.cell? ⟨w.heap.size + 1, 0, none⟩ = some (.int .i64 5) ∧ V.cell? ⟨bXa, offa + na * 10 + 5, none⟩ = some (.int .i64 va5) ∧ V.cell? ⟨bXa, offa + na * 10 + 6, none⟩ = some (.int .i64 va6) ∧ V.cell? ⟨bXa, offa + na * 10 + 7, none⟩ = some (.int .i64 va7) ∧ V.cell? ⟨bXa, offa + na * 10 + 8, none⟩ = some (.int .i64 va8) ∧ V.cell? ⟨bXa, offa + na * 10 + 9, none⟩ = some (.int .i64 va9) ∧ V.cell? ⟨bXa, offa + nb * 10 + 5, none⟩ = some (.int .i64 vb5) ∧ V.cell? ⟨bXa, offa + nb * 10 + 6, none⟩ = some (.int .i64 vb6) ∧ V.cell? ⟨bXa, offa + nb * 10 + 7, none⟩ = some (.int .i64 vb7) ∧ V.cell? ⟨bXa, offa + nb * 10 + 8, none⟩ = some (.int .i64 vb8) ∧ V.cell? ⟨bXa, offa + nb * 10 + 9, none⟩ = some (.int .i64 vb9) ∧ V.cell? ⟨bXa, offa + nt * 10 + 5, none⟩ = some (.int .i64 vt5) ∧ V.cell? ⟨bXa, offa + nt * 10 + 6, none⟩ = some (.int .i64 vt6) ∧ V.cell? ⟨bXa, offa + nt * 10 + 7, none⟩ = some (.int .i64 vt7) ∧ V.cell? ⟨bXa, offa + nt * 10 + 8, none⟩ = some (.int .i64 vt8) ∧ V.cell? ⟨bXa, offa + nt * 10 + 9, none⟩ = some (.int .i64 vt9) := fun V hV => ⟨(hV.cell (p := ⟨w.heap.size, 1, none⟩) s0).trans p1, (hV.cell (p := ⟨w.heap.size + 1, 0, none⟩) s1).trans p2, (hV.cell (p := ⟨bXa, offa + na * 10 + 5, none⟩) sX).trans ga0, (hV.cell (p := ⟨bXa, offa + na * 10 + 6, none⟩) sX).trans ga1, (hV.cell (p := ⟨bXa, offa + na * 10 + 7, none⟩) sX).trans ga2, (hV.cell (p := ⟨bXa, offa + na * 10 + 8, none⟩) sX).trans ga3, (hV.cell (p := ⟨bXa, offa + na * 10 + 9, none⟩) sX).trans ga4, (hV.cell (p := ⟨bXa, offa + nb * 10 + 5, none⟩) sX).trans gb0, (hV.cell (p := ⟨bXa, offa + nb * 10 + 6, none⟩) sX).trans gb1, (hV.cell (p := ⟨bXa, offa + nb * 10 + 7, none⟩) sX).trans gb2, (hV.cell (p := ⟨bXa, offa + nb * 10 + 8, none⟩) sX).trans gb3, (hV.cell (p := ⟨bXa, offa + nb * 10 + 9, none⟩) sX).trans gb4, (hV.cell (p := ⟨bXa, offa + nt * 10 + 5, none⟩) sX).trans gt0, (hV.cell (p := ⟨bXa, offa + nt * 10 + 6, none⟩) sX).trans gt1, (hV.cell (p := ⟨bXa, offa + nt * 10 + 7, none⟩) sX).trans gt2, (hV.cell (p := ⟨bXa, offa + nt * 10 + 8, none⟩) sX).trans gt3, (hV.cell (p := ⟨bXa, offa + nt * 10 + 9, none⟩) sX).trans gt4⟩
  go_region_held3 (fun v => v.cell? ⟨w.heap.size, 1, none⟩ = some (.slice (some ⟨bXa, offa, none⟩) types.length ct) ∧ v.cell? ⟨w.heap.size + 1, 0, none⟩ = some (.int .i64 5) ∧ v.cell? ⟨bXa, offa + na * 10 + 5, none⟩ = some (.int .i64 va5) ∧ v.cell? ⟨bXa, offa + na * 10 + 6, none⟩ = some (.int .i64 va6) ∧ v.cell? ⟨bXa, offa + na * 10 + 7, none⟩ = some (.int .i64 va7) ∧ v.cell? ⟨bXa, offa + na * 10 + 8, none⟩ = some (.int .i64 va8) ∧ v.cell? ⟨bXa, offa + na * 10 + 9, none⟩ = some (.int .i64 va9) ∧ v.cell? ⟨bXa, offa + nb * 10 + 5, none⟩ = some (.int .i64 vb5) ∧ v.cell? ⟨bXa, offa + nb * 10 + 6, none⟩ = some (.int .i64 vb6) ∧ v.cell? ⟨bXa, offa + nb * 10 + 7, none⟩ = some (.int .i64 vb7) ∧ v.cell? ⟨bXa, offa + nb * 10 + 8, none⟩ = some (.int .i64 vb8) ∧ v.cell? ⟨bXa, offa + nb * 10 + 9, none⟩ = some (.int .i64 vb9) ∧ v.cell? ⟨bXa, offa + nt * 10 + 5, none⟩ = some (.int .i64 vt5) ∧ v.cell? ⟨bXa, offa + nt * 10 + 6, none⟩ = some (.int .i64 vt6) ∧ v.cell? ⟨bXa, offa + nt * 10 + 7, none⟩ = some (.int .i64 vt7) ∧ v.cell? ⟨bXa, offa + nt * 10 + 8, none⟩ = some (.int .i64 vt8) ∧ v.cell? ⟨bXa, offa + nt * 10 + 9, none⟩ = some (.int .i64 vt9)) (exact HS _ (by (repeat' (first | (with_reducible exact Below.refl _ _) | (with_reducible assumption) | (with_reducible refine below_alloc ?_ _) | (with_reducible refine Below.drew ?_) | (with_reducible refine below_drewN ?_ _) | (with_reducible refine below_step (by assumption) ?_) | (with_reducible refine below_later ?_ _) | (with_reducible refine Below.setCell ?_ ?_ _) | go_size)))) (first | (go_at_call 83; rw [show IntKind.i64.wrap 1 = 1 from rfl]; with_reducible (refine (HUN.out _).mono ?_); rintro _ w1 ⟨rfl, hb1⟩; obtain ⟨hb1c, hb1f⟩ := bcell hb1; have hb1s := hb1.size; (try simp only [World.size_alloc, World.size_drew] at hb1s); have x0 : w.heap.size < w1.heap.size := (by omega); have xX : bXa < w1.heap.size := (by omega); have y0 : w.heap.size < w1.heap.size + 1 := (by omega); have yX : bXa < w1.heap.size + 1 := (by omega); have v0 : ¬ w.heap.size = w1.heap.size := (by omega); have vX : ¬ bXa = w1.heap.size := (by omega); have v1 : ¬ w1.heap.size = w.heap.size := (by omega); have vY : ¬ w1.heap.size = bXa := (by omega)))
  all_goals cases R1
  all_goals go_wp2
  all_goals go_quiet (fail)
  all_goals go_wp2
  all_goals go_ret
  all_goals exact ⟨by first | rfl | (simp [*]; done), by (repeat' (first | (with_reducible exact Below.refl _ _) | (with_reducible assumption) | (with_reducible refine below_alloc ?_ _) | (with_reducible refine Below.drew ?_) | (with_reducible refine below_drewN ?_ _) | (with_reducible refine below_step (by assumption) ?_) | (with_reducible refine below_later ?_ _) | (with_reducible refine Below.setCell ?_ ?_ _) | go_size))⟩
end Go.Proofs.Ytfooefiaenlhmaa
