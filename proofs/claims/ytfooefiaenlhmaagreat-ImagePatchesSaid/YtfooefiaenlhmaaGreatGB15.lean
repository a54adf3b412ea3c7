/- Lemmas for the laws of package magnetolaw15: what its functions return, for any arguments that the lemmas name. -/
import Derived.Test.YtfooefiaenlhmaaGreatGB11
set_option maxRecDepth 100000
namespace Go.Proofs.YtfooefiaenlhmaaGreat
set_option linter.all false
set_option maxHeartbeats 16000000
open Go.RowKit Go.ChangeShapes Go.WideShapes Go.ChangeAt
theorem rfo_9_0 (a b k : Int) (hk : I64 k) (n2 : 0 ≤ a) (n3 : a ≤ 15) (n4 : 0 ≤ b) (n5 : b ≤ 15) (z0 : ¬ (0 ≤ k)) (w : World) : Calls Tryz.prog 32 #[.agg #[.int .i64 9, .int .i64 a, .int .i64 b, .int .i64 0, .int .i64 k]] w fun e w' => e = .returned (.bool false) ∧ Below w.heap.size w w' := by
 have HFD : Hid (∀ W, Calls Tryz.prog 75 #[.int .i64 9] W fun e w' => e = .returned (.string (rowF 9)) ∧ w' = W) := H! (fun W => yaf 9 (by omega) (by omega) W)
 have HUB : Hid (∀ W, Calls Tryz.prog 76 #[.string (rowF 9), .int .u8 66] W fun e w' => e = .returned (.bool true) ∧ w' = W) := H! (fun W => by have := yab (rowF 9) (by decide) 66 W; rwa [show holds (rowF 9) 66 = true by decide] at this)
 have HUC : Hid (∀ W, Calls Tryz.prog 76 #[.string (rowF 9), .int .u8 67] W fun e w' => e = .returned (.bool false) ∧ w' = W) := H! (fun W => by have := yab (rowF 9) (by decide) 67 W; rwa [show holds (rowF 9) 67 = false by decide] at this)
 have HUK : Hid (∀ W, Calls Tryz.prog 76 #[.string (rowF 9), .int .u8 75] W fun e w' => e = .returned (.bool true) ∧ w' = W) := H! (fun W => by have := yab (rowF 9) (by decide) 75 W; rwa [show holds (rowF 9) 75 = true by decide] at this)
 generalize rowF 9 = s at *
 obtain ⟨m, HM, hm⟩ := yae k
 have hk2 := hk
 unfold I64 at hk2
 simp [Lit.wf, IntKind.min, IntKind.max, IntKind.bits, IntKind.signed] at hk2
 have hm0 : m = 0 := by omega
 rw [hm0] at HM
 clear hm0
 have HTY := H! (fun W => yac 0 (by omega) (by first | exact hk | (exact (by rfl)) | (unfold I64; simp [Lit.wf, IntKind.min, IntKind.max, IntKind.bits, IntKind.signed]; omega)) W)
 clear hm
 go_enter Tryz.func32, Tryz.ntmps32
 go_wp2_with (first | (go_at_call 75; refine (HFD.out _).mono ?_; rintro _ _ ⟨rfl, rfl⟩) | (go_at_call 76; with_reducible (refine (HUB.out _).mono ?_); rintro _ _ ⟨rfl, rfl⟩) | (go_at_call 76; with_reducible (refine (HUC.out _).mono ?_); rintro _ _ ⟨rfl, rfl⟩) | (go_at_call 76; with_reducible (refine (HUK.out _).mono ?_); rintro _ _ ⟨rfl, rfl⟩) | (go_at_call 77; refine (HTY.out _).mono ?_; rintro _ _ ⟨rfl, rfl⟩))
 all_goals go_ret
 all_goals exact ⟨by first | rfl | (simp [*]; done) | (simp; omega), bw⟩
theorem rfo_9_1 (a b k : Int) (hk : I64 k) (n2 : 0 ≤ a) (n3 : a ≤ 15) (n4 : 0 ≤ b) (n5 : b ≤ 15) (c0 : 0 ≤ k) (z1 : ¬ (k < 2097152)) (w : World) : Calls Tryz.prog 32 #[.agg #[.int .i64 9, .int .i64 a, .int .i64 b, .int .i64 0, .int .i64 k]] w fun e w' => e = .returned (.bool false) ∧ Below w.heap.size w w' := by
 have HFD : Hid (∀ W, Calls Tryz.prog 75 #[.int .i64 9] W fun e w' => e = .returned (.string (rowF 9)) ∧ w' = W) := H! (fun W => yaf 9 (by omega) (by omega) W)
 have HUB : Hid (∀ W, Calls Tryz.prog 76 #[.string (rowF 9), .int .u8 66] W fun e w' => e = .returned (.bool true) ∧ w' = W) := H! (fun W => by have := yab (rowF 9) (by decide) 66 W; rwa [show holds (rowF 9) 66 = true by decide] at this)
 have HUC : Hid (∀ W, Calls Tryz.prog 76 #[.string (rowF 9), .int .u8 67] W fun e w' => e = .returned (.bool false) ∧ w' = W) := H! (fun W => by have := yab (rowF 9) (by decide) 67 W; rwa [show holds (rowF 9) 67 = false by decide] at this)
 have HUK : Hid (∀ W, Calls Tryz.prog 76 #[.string (rowF 9), .int .u8 75] W fun e w' => e = .returned (.bool true) ∧ w' = W) := H! (fun W => by have := yab (rowF 9) (by decide) 75 W; rwa [show holds (rowF 9) 75 = true by decide] at this)
 generalize rowF 9 = s at *
 obtain ⟨m, HM, hm⟩ := yae k
 have hk2 := hk
 unfold I64 at hk2
 simp [Lit.wf, IntKind.min, IntKind.max, IntKind.bits, IntKind.signed] at hk2
 have hm0 : m = k := by omega
 rw [hm0] at HM
 clear hm0
 have HTY := H! (fun W => yac k (by omega) (by first | exact hk | (exact (by rfl)) | (unfold I64; simp [Lit.wf, IntKind.min, IntKind.max, IntKind.bits, IntKind.signed]; omega)) W)
 clear hm
 have q1 : ¬ k / 16384 < 128 := by omega
 go_enter Tryz.func32, Tryz.ntmps32
 go_wp2_with (first | (go_at_call 75; refine (HFD.out _).mono ?_; rintro _ _ ⟨rfl, rfl⟩) | (go_at_call 76; with_reducible (refine (HUB.out _).mono ?_); rintro _ _ ⟨rfl, rfl⟩) | (go_at_call 76; with_reducible (refine (HUC.out _).mono ?_); rintro _ _ ⟨rfl, rfl⟩) | (go_at_call 76; with_reducible (refine (HUK.out _).mono ?_); rintro _ _ ⟨rfl, rfl⟩) | (go_at_call 77; refine (HTY.out _).mono ?_; rintro _ _ ⟨rfl, rfl⟩))
 all_goals go_ret
 all_goals exact ⟨by first | rfl | (simp [*]; done) | (simp; omega), bw⟩
theorem rfo_9_2 (a b k : Int) (hk : I64 k) (n2 : 0 ≤ a) (n3 : a ≤ 15) (n4 : 0 ≤ b) (n5 : b ≤ 15) (c0 : 0 ≤ k) (c1 : k < 2097152) (z2 : ¬ (k / 128 % 128 = 0)) (w : World) : Calls Tryz.prog 32 #[.agg #[.int .i64 9, .int .i64 a, .int .i64 b, .int .i64 0, .int .i64 k]] w fun e w' => e = .returned (.bool false) ∧ Below w.heap.size w w' := by
 have HFD : Hid (∀ W, Calls Tryz.prog 75 #[.int .i64 9] W fun e w' => e = .returned (.string (rowF 9)) ∧ w' = W) := H! (fun W => yaf 9 (by omega) (by omega) W)
 have HUB : Hid (∀ W, Calls Tryz.prog 76 #[.string (rowF 9), .int .u8 66] W fun e w' => e = .returned (.bool true) ∧ w' = W) := H! (fun W => by have := yab (rowF 9) (by decide) 66 W; rwa [show holds (rowF 9) 66 = true by decide] at this)
 have HUC : Hid (∀ W, Calls Tryz.prog 76 #[.string (rowF 9), .int .u8 67] W fun e w' => e = .returned (.bool false) ∧ w' = W) := H! (fun W => by have := yab (rowF 9) (by decide) 67 W; rwa [show holds (rowF 9) 67 = false by decide] at this)
 have HUK : Hid (∀ W, Calls Tryz.prog 76 #[.string (rowF 9), .int .u8 75] W fun e w' => e = .returned (.bool true) ∧ w' = W) := H! (fun W => by have := yab (rowF 9) (by decide) 75 W; rwa [show holds (rowF 9) 75 = true by decide] at this)
 generalize rowF 9 = s at *
 obtain ⟨m, HM, hm⟩ := yae k
 have hk2 := hk
 unfold I64 at hk2
 simp [Lit.wf, IntKind.min, IntKind.max, IntKind.bits, IntKind.signed] at hk2
 have hm0 : m = k := by omega
 rw [hm0] at HM
 clear hm0
 have HTY := H! (fun W => yac k (by omega) (by first | exact hk | (exact (by rfl)) | (unfold I64; simp [Lit.wf, IntKind.min, IntKind.max, IntKind.bits, IntKind.signed]; omega)) W)
 clear hm
 have q1 : k / 16384 < 128 := by omega
 have q2 : (k / 128 % 128 == 0) = false := by simp; exact z2
 go_enter Tryz.func32, Tryz.ntmps32
 go_wp2_with (first | (go_at_call 75; refine (HFD.out _).mono ?_; rintro _ _ ⟨rfl, rfl⟩) | (go_at_call 76; with_reducible (refine (HUB.out _).mono ?_); rintro _ _ ⟨rfl, rfl⟩) | (go_at_call 76; with_reducible (refine (HUC.out _).mono ?_); rintro _ _ ⟨rfl, rfl⟩) | (go_at_call 76; with_reducible (refine (HUK.out _).mono ?_); rintro _ _ ⟨rfl, rfl⟩) | (go_at_call 77; refine (HTY.out _).mono ?_; rintro _ _ ⟨rfl, rfl⟩))
 all_goals go_ret
 all_goals exact ⟨by first | rfl | (simp [*]; done) | (simp; omega), bw⟩
theorem rfo_9_3 (a b k : Int) (hk : I64 k) (n2 : 0 ≤ a) (n3 : a ≤ 15) (n4 : 0 ≤ b) (n5 : b ≤ 15) (c0 : 0 ≤ k) (c1 : k < 2097152) (c2 : k / 128 % 128 = 0) (w : World) : Calls Tryz.prog 32 #[.agg #[.int .i64 9, .int .i64 a, .int .i64 b, .int .i64 0, .int .i64 k]] w fun e w' => e = .returned (.bool true) ∧ Below w.heap.size w w' := by
 have HFD : Hid (∀ W, Calls Tryz.prog 75 #[.int .i64 9] W fun e w' => e = .returned (.string (rowF 9)) ∧ w' = W) := H! (fun W => yaf 9 (by omega) (by omega) W)
 have HUB : Hid (∀ W, Calls Tryz.prog 76 #[.string (rowF 9), .int .u8 66] W fun e w' => e = .returned (.bool true) ∧ w' = W) := H! (fun W => by have := yab (rowF 9) (by decide) 66 W; rwa [show holds (rowF 9) 66 = true by decide] at this)
 have HUC : Hid (∀ W, Calls Tryz.prog 76 #[.string (rowF 9), .int .u8 67] W fun e w' => e = .returned (.bool false) ∧ w' = W) := H! (fun W => by have := yab (rowF 9) (by decide) 67 W; rwa [show holds (rowF 9) 67 = false by decide] at this)
 have HUK : Hid (∀ W, Calls Tryz.prog 76 #[.string (rowF 9), .int .u8 75] W fun e w' => e = .returned (.bool true) ∧ w' = W) := H! (fun W => by have := yab (rowF 9) (by decide) 75 W; rwa [show holds (rowF 9) 75 = true by decide] at this)
 generalize rowF 9 = s at *
 obtain ⟨m, HM, hm⟩ := yae k
 have hk2 := hk
 unfold I64 at hk2
 simp [Lit.wf, IntKind.min, IntKind.max, IntKind.bits, IntKind.signed] at hk2
 have hm0 : m = k := by omega
 rw [hm0] at HM
 clear hm0
 have HTY := H! (fun W => yac k (by omega) (by first | exact hk | (exact (by rfl)) | (unfold I64; simp [Lit.wf, IntKind.min, IntKind.max, IntKind.bits, IntKind.signed]; omega)) W)
 clear hm
 have q1 : k / 16384 < 128 := by omega
 go_enter Tryz.func32, Tryz.ntmps32
 go_wp2_with (first | (go_at_call 75; refine (HFD.out _).mono ?_; rintro _ _ ⟨rfl, rfl⟩) | (go_at_call 76; with_reducible (refine (HUB.out _).mono ?_); rintro _ _ ⟨rfl, rfl⟩) | (go_at_call 76; with_reducible (refine (HUC.out _).mono ?_); rintro _ _ ⟨rfl, rfl⟩) | (go_at_call 76; with_reducible (refine (HUK.out _).mono ?_); rintro _ _ ⟨rfl, rfl⟩) | (go_at_call 77; refine (HTY.out _).mono ?_; rintro _ _ ⟨rfl, rfl⟩))
 all_goals go_ret
 all_goals exact ⟨by first | rfl | (simp [*]; done) | (simp; omega), bw⟩
theorem rfo_10_0 (a b k : Int) (hk : I64 k) (n2 : 0 ≤ a) (n3 : a ≤ 15) (n4 : 0 ≤ b) (n5 : b ≤ 15) (z0 : ¬ (0 ≤ k)) (w : World) : Calls Tryz.prog 32 #[.agg #[.int .i64 10, .int .i64 a, .int .i64 b, .int .i64 0, .int .i64 k]] w fun e w' => e = .returned (.bool false) ∧ Below w.heap.size w w' := by
 have HFD : Hid (∀ W, Calls Tryz.prog 75 #[.int .i64 10] W fun e w' => e = .returned (.string (rowF 10)) ∧ w' = W) := H! (fun W => yaf 10 (by omega) (by omega) W)
 have HUB : Hid (∀ W, Calls Tryz.prog 76 #[.string (rowF 10), .int .u8 66] W fun e w' => e = .returned (.bool true) ∧ w' = W) := H! (fun W => by have := yab (rowF 10) (by decide) 66 W; rwa [show holds (rowF 10) 66 = true by decide] at this)
 have HUC : Hid (∀ W, Calls Tryz.prog 76 #[.string (rowF 10), .int .u8 67] W fun e w' => e = .returned (.bool false) ∧ w' = W) := H! (fun W => by have := yab (rowF 10) (by decide) 67 W; rwa [show holds (rowF 10) 67 = false by decide] at this)
 have HUK : Hid (∀ W, Calls Tryz.prog 76 #[.string (rowF 10), .int .u8 75] W fun e w' => e = .returned (.bool true) ∧ w' = W) := H! (fun W => by have := yab (rowF 10) (by decide) 75 W; rwa [show holds (rowF 10) 75 = true by decide] at this)
 generalize rowF 10 = s at *
 obtain ⟨m, HM, hm⟩ := yae k
 have hk2 := hk
 unfold I64 at hk2
 simp [Lit.wf, IntKind.min, IntKind.max, IntKind.bits, IntKind.signed] at hk2
 have hm0 : m = 0 := by omega
 rw [hm0] at HM
 clear hm0
 have HTY := H! (fun W => yac 0 (by omega) (by first | exact hk | (exact (by rfl)) | (unfold I64; simp [Lit.wf, IntKind.min, IntKind.max, IntKind.bits, IntKind.signed]; omega)) W)
 clear hm
 go_enter Tryz.func32, Tryz.ntmps32
 go_wp2_with (first | (go_at_call 75; refine (HFD.out _).mono ?_; rintro _ _ ⟨rfl, rfl⟩) | (go_at_call 76; with_reducible (refine (HUB.out _).mono ?_); rintro _ _ ⟨rfl, rfl⟩) | (go_at_call 76; with_reducible (refine (HUC.out _).mono ?_); rintro _ _ ⟨rfl, rfl⟩) | (go_at_call 76; with_reducible (refine (HUK.out _).mono ?_); rintro _ _ ⟨rfl, rfl⟩) | (go_at_call 77; refine (HTY.out _).mono ?_; rintro _ _ ⟨rfl, rfl⟩))
 all_goals go_ret
 all_goals exact ⟨by first | rfl | (simp [*]; done) | (simp; omega), bw⟩
theorem rfo_10_1 (a b k : Int) (hk : I64 k) (n2 : 0 ≤ a) (n3 : a ≤ 15) (n4 : 0 ≤ b) (n5 : b ≤ 15) (c0 : 0 ≤ k) (z1 : ¬ (k < 2097152)) (w : World) : Calls Tryz.prog 32 #[.agg #[.int .i64 10, .int .i64 a, .int .i64 b, .int .i64 0, .int .i64 k]] w fun e w' => e = .returned (.bool false) ∧ Below w.heap.size w w' := by
 have HFD : Hid (∀ W, Calls Tryz.prog 75 #[.int .i64 10] W fun e w' => e = .returned (.string (rowF 10)) ∧ w' = W) := H! (fun W => yaf 10 (by omega) (by omega) W)
 have HUB : Hid (∀ W, Calls Tryz.prog 76 #[.string (rowF 10), .int .u8 66] W fun e w' => e = .returned (.bool true) ∧ w' = W) := H! (fun W => by have := yab (rowF 10) (by decide) 66 W; rwa [show holds (rowF 10) 66 = true by decide] at this)
 have HUC : Hid (∀ W, Calls Tryz.prog 76 #[.string (rowF 10), .int .u8 67] W fun e w' => e = .returned (.bool false) ∧ w' = W) := H! (fun W => by have := yab (rowF 10) (by decide) 67 W; rwa [show holds (rowF 10) 67 = false by decide] at this)
 have HUK : Hid (∀ W, Calls Tryz.prog 76 #[.string (rowF 10), .int .u8 75] W fun e w' => e = .returned (.bool true) ∧ w' = W) := H! (fun W => by have := yab (rowF 10) (by decide) 75 W; rwa [show holds (rowF 10) 75 = true by decide] at this)
 generalize rowF 10 = s at *
 obtain ⟨m, HM, hm⟩ := yae k
 have hk2 := hk
 unfold I64 at hk2
 simp [Lit.wf, IntKind.min, IntKind.max, IntKind.bits, IntKind.signed] at hk2
 have hm0 : m = k := by omega
 rw [hm0] at HM
 clear hm0
 have HTY := H! (fun W => yac k (by omega) (by first | exact hk | (exact (by rfl)) | (unfold I64; simp [Lit.wf, IntKind.min, IntKind.max, IntKind.bits, IntKind.signed]; omega)) W)
 clear hm
 have q1 : ¬ k / 16384 < 128 := by omega
 go_enter Tryz.func32, Tryz.ntmps32
 go_wp2_with (first | (go_at_call 75; refine (HFD.out _).mono ?_; rintro _ _ ⟨rfl, rfl⟩) | (go_at_call 76; with_reducible (refine (HUB.out _).mono ?_); rintro _ _ ⟨rfl, rfl⟩) | (go_at_call 76; with_reducible (refine (HUC.out _).mono ?_); rintro _ _ ⟨rfl, rfl⟩) | (go_at_call 76; with_reducible (refine (HUK.out _).mono ?_); rintro _ _ ⟨rfl, rfl⟩) | (go_at_call 77; refine (HTY.out _).mono ?_; rintro _ _ ⟨rfl, rfl⟩))
 all_goals go_ret
 all_goals exact ⟨by first | rfl | (simp [*]; done) | (simp; omega), bw⟩
theorem rfo_10_2 (a b k : Int) (hk : I64 k) (n2 : 0 ≤ a) (n3 : a ≤ 15) (n4 : 0 ≤ b) (n5 : b ≤ 15) (c0 : 0 ≤ k) (c1 : k < 2097152) (z2 : ¬ (k / 128 % 128 = 0)) (w : World) : Calls Tryz.prog 32 #[.agg #[.int .i64 10, .int .i64 a, .int .i64 b, .int .i64 0, .int .i64 k]] w fun e w' => e = .returned (.bool false) ∧ Below w.heap.size w w' := by
 have HFD : Hid (∀ W, Calls Tryz.prog 75 #[.int .i64 10] W fun e w' => e = .returned (.string (rowF 10)) ∧ w' = W) := H! (fun W => yaf 10 (by omega) (by omega) W)
 have HUB : Hid (∀ W, Calls Tryz.prog 76 #[.string (rowF 10), .int .u8 66] W fun e w' => e = .returned (.bool true) ∧ w' = W) := H! (fun W => by have := yab (rowF 10) (by decide) 66 W; rwa [show holds (rowF 10) 66 = true by decide] at this)
 have HUC : Hid (∀ W, Calls Tryz.prog 76 #[.string (rowF 10), .int .u8 67] W fun e w' => e = .returned (.bool false) ∧ w' = W) := H! (fun W => by have := yab (rowF 10) (by decide) 67 W; rwa [show holds (rowF 10) 67 = false by decide] at this)
 have HUK : Hid (∀ W, Calls Tryz.prog 76 #[.string (rowF 10), .int .u8 75] W fun e w' => e = .returned (.bool true) ∧ w' = W) := H! (fun W => by have := yab (rowF 10) (by decide) 75 W; rwa [show holds (rowF 10) 75 = true by decide] at this)
 generalize rowF 10 = s at *
 obtain ⟨m, HM, hm⟩ := yae k
 have hk2 := hk
 unfold I64 at hk2
 simp [Lit.wf, IntKind.min, IntKind.max, IntKind.bits, IntKind.signed] at hk2
 have hm0 : m = k := by omega
 rw [hm0] at HM
 clear hm0
 have HTY := H! (fun W => yac k (by omega) (by first | exact hk | (exact (by rfl)) | (unfold I64; simp [Lit.wf, IntKind.min, IntKind.max, IntKind.bits, IntKind.signed]; omega)) W)
 clear hm
 have q1 : k / 16384 < 128 := by omega
 have q2 : (k / 128 % 128 == 0) = false := by simp; exact z2
 go_enter Tryz.func32, Tryz.ntmps32
 go_wp2_with (first | (go_at_call 75; refine (HFD.out _).mono ?_; rintro _ _ ⟨rfl, rfl⟩) | (go_at_call 76; with_reducible (refine (HUB.out _).mono ?_); rintro _ _ ⟨rfl, rfl⟩) | (go_at_call 76; with_reducible (refine (HUC.out _).mono ?_); rintro _ _ ⟨rfl, rfl⟩) | (go_at_call 76; with_reducible (refine (HUK.out _).mono ?_); rintro _ _ ⟨rfl, rfl⟩) | (go_at_call 77; refine (HTY.out _).mono ?_; rintro _ _ ⟨rfl, rfl⟩))
 all_goals go_ret
 all_goals exact ⟨by first | rfl | (simp [*]; done) | (simp; omega), bw⟩
theorem rfo_10_3 (a b k : Int) (hk : I64 k) (n2 : 0 ≤ a) (n3 : a ≤ 15) (n4 : 0 ≤ b) (n5 : b ≤ 15) (c0 : 0 ≤ k) (c1 : k < 2097152) (c2 : k / 128 % 128 = 0) (w : World) : Calls Tryz.prog 32 #[.agg #[.int .i64 10, .int .i64 a, .int .i64 b, .int .i64 0, .int .i64 k]] w fun e w' => e = .returned (.bool true) ∧ Below w.heap.size w w' := by
 have HFD : Hid (∀ W, Calls Tryz.prog 75 #[.int .i64 10] W fun e w' => e = .returned (.string (rowF 10)) ∧ w' = W) := H! (fun W => yaf 10 (by omega) (by omega) W)
 have HUB : Hid (∀ W, Calls Tryz.prog 76 #[.string (rowF 10), .int .u8 66] W fun e w' => e = .returned (.bool true) ∧ w' = W) := H! (fun W => by have := yab (rowF 10) (by decide) 66 W; rwa [show holds (rowF 10) 66 = true by decide] at this)
 have HUC : Hid (∀ W, Calls Tryz.prog 76 #[.string (rowF 10), .int .u8 67] W fun e w' => e = .returned (.bool false) ∧ w' = W) := H! (fun W => by have := yab (rowF 10) (by decide) 67 W; rwa [show holds (rowF 10) 67 = false by decide] at this)
 have HUK : Hid (∀ W, Calls Tryz.prog 76 #[.string (rowF 10), .int .u8 75] W fun e w' => e = .returned (.bool true) ∧ w' = W) := H! (fun W => by have := yab (rowF 10) (by decide) 75 W; rwa [show holds (rowF 10) 75 = true by decide] at this)
 generalize rowF 10 = s at *
 obtain ⟨m, HM, hm⟩ := yae k
 have hk2 := hk
 unfold I64 at hk2
 simp [Lit.wf, IntKind.min, IntKind.max, IntKind.bits, IntKind.signed] at hk2
 have hm0 : m = k := by omega
 rw [hm0] at HM
 clear hm0
 have HTY := H! (fun W => yac k (by omega) (by first | exact hk | (exact (by rfl)) | (unfold I64; simp [Lit.wf, IntKind.min, IntKind.max, IntKind.bits, IntKind.signed]; omega)) W)
 clear hm
 have q1 : k / 16384 < 128 := by omega
 go_enter Tryz.func32, Tryz.ntmps32
 go_wp2_with (first | (go_at_call 75; refine (HFD.out _).mono ?_; rintro _ _ ⟨rfl, rfl⟩) | (go_at_call 76; with_reducible (refine (HUB.out _).mono ?_); rintro _ _ ⟨rfl, rfl⟩) | (go_at_call 76; with_reducible (refine (HUC.out _).mono ?_); rintro _ _ ⟨rfl, rfl⟩) | (go_at_call 76; with_reducible (refine (HUK.out _).mono ?_); rintro _ _ ⟨rfl, rfl⟩) | (go_at_call 77; refine (HTY.out _).mono ?_; rintro _ _ ⟨rfl, rfl⟩))
 all_goals go_ret
 all_goals exact ⟨by first | rfl | (simp [*]; done) | (simp; omega), bw⟩
theorem rfo_13_0 (a b c k : Int) (hk : I64 k) (n2 : 0 ≤ a) (n3 : a ≤ 15) (n4 : 0 ≤ b) (n5 : b ≤ 15) (n6 : 0 ≤ c) (n7 : c ≤ 15) (z0 : ¬ (0 ≤ k)) (w : World) : Calls Tryz.prog 32 #[.agg #[.int .i64 13, .int .i64 a, .int .i64 b, .int .i64 c, .int .i64 k]] w fun e w' => e = .returned (.bool false) ∧ Below w.heap.size w w' := by
 have HFD : Hid (∀ W, Calls Tryz.prog 75 #[.int .i64 13] W fun e w' => e = .returned (.string (rowF 13)) ∧ w' = W) := H! (fun W => yaf 13 (by omega) (by omega) W)
 have HUB : Hid (∀ W, Calls Tryz.prog 76 #[.string (rowF 13), .int .u8 66] W fun e w' => e = .returned (.bool true) ∧ w' = W) := H! (fun W => by have := yab (rowF 13) (by decide) 66 W; rwa [show holds (rowF 13) 66 = true by decide] at this)
 have HUC : Hid (∀ W, Calls Tryz.prog 76 #[.string (rowF 13), .int .u8 67] W fun e w' => e = .returned (.bool true) ∧ w' = W) := H! (fun W => by have := yab (rowF 13) (by decide) 67 W; rwa [show holds (rowF 13) 67 = true by decide] at this)
 have HUK : Hid (∀ W, Calls Tryz.prog 76 #[.string (rowF 13), .int .u8 75] W fun e w' => e = .returned (.bool true) ∧ w' = W) := H! (fun W => by have := yab (rowF 13) (by decide) 75 W; rwa [show holds (rowF 13) 75 = true by decide] at this)
 generalize rowF 13 = s at *
 obtain ⟨m, HM, hm⟩ := yae k
 have hk2 := hk
 unfold I64 at hk2
 simp [Lit.wf, IntKind.min, IntKind.max, IntKind.bits, IntKind.signed] at hk2
 have hm0 : m = 0 := by omega
 rw [hm0] at HM
 clear hm0
 have HTY := H! (fun W => yac 0 (by omega) (by first | exact hk | (exact (by rfl)) | (unfold I64; simp [Lit.wf, IntKind.min, IntKind.max, IntKind.bits, IntKind.signed]; omega)) W)
 clear hm
 go_enter Tryz.func32, Tryz.ntmps32
 go_wp2_with (first | (go_at_call 75; refine (HFD.out _).mono ?_; rintro _ _ ⟨rfl, rfl⟩) | (go_at_call 76; with_reducible (refine (HUB.out _).mono ?_); rintro _ _ ⟨rfl, rfl⟩) | (go_at_call 76; with_reducible (refine (HUC.out _).mono ?_); rintro _ _ ⟨rfl, rfl⟩) | (go_at_call 76; with_reducible (refine (HUK.out _).mono ?_); rintro _ _ ⟨rfl, rfl⟩) | (go_at_call 77; refine (HTY.out _).mono ?_; rintro _ _ ⟨rfl, rfl⟩))
 all_goals go_ret
 all_goals exact ⟨by first | rfl | (simp [*]; done) | (simp; omega), bw⟩
theorem rfo_13_1 (a b c k : Int) (hk : I64 k) (n2 : 0 ≤ a) (n3 : a ≤ 15) (n4 : 0 ≤ b) (n5 : b ≤ 15) (n6 : 0 ≤ c) (n7 : c ≤ 15) (c0 : 0 ≤ k) (z1 : ¬ (k < 2097152)) (w : World) : Calls Tryz.prog 32 #[.agg #[.int .i64 13, .int .i64 a, .int .i64 b, .int .i64 c, .int .i64 k]] w fun e w' => e = .returned (.bool false) ∧ Below w.heap.size w w' := by
 have HFD : Hid (∀ W, Calls Tryz.prog 75 #[.int .i64 13] W fun e w' => e = .returned (.string (rowF 13)) ∧ w' = W) := H! (fun W => yaf 13 (by omega) (by omega) W)
 have HUB : Hid (∀ W, Calls Tryz.prog 76 #[.string (rowF 13), .int .u8 66] W fun e w' => e = .returned (.bool true) ∧ w' = W) := H! (fun W => by have := yab (rowF 13) (by decide) 66 W; rwa [show holds (rowF 13) 66 = true by decide] at this)
 have HUC : Hid (∀ W, Calls Tryz.prog 76 #[.string (rowF 13), .int .u8 67] W fun e w' => e = .returned (.bool true) ∧ w' = W) := H! (fun W => by have := yab (rowF 13) (by decide) 67 W; rwa [show holds (rowF 13) 67 = true by decide] at this)
 have HUK : Hid (∀ W, Calls Tryz.prog 76 #[.string (rowF 13), .int .u8 75] W fun e w' => e = .returned (.bool true) ∧ w' = W) := H! (fun W => by have := yab (rowF 13) (by decide) 75 W; rwa [show holds (rowF 13) 75 = true by decide] at this)
 generalize rowF 13 = s at *
 obtain ⟨m, HM, hm⟩ := yae k
 have hk2 := hk
 unfold I64 at hk2
 simp [Lit.wf, IntKind.min, IntKind.max, IntKind.bits, IntKind.signed] at hk2
 have hm0 : m = k := by omega
 rw [hm0] at HM
 clear hm0
 have HTY := H! (fun W => yac k (by omega) (by first | exact hk | (exact (by rfl)) | (unfold I64; simp [Lit.wf, IntKind.min, IntKind.max, IntKind.bits, IntKind.signed]; omega)) W)
 clear hm
 have q1 : ¬ k / 16384 < 128 := by omega
 go_enter Tryz.func32, Tryz.ntmps32
 go_wp2_with (first | (go_at_call 75; refine (HFD.out _).mono ?_; rintro _ _ ⟨rfl, rfl⟩) | (go_at_call 76; with_reducible (refine (HUB.out _).mono ?_); rintro _ _ ⟨rfl, rfl⟩) | (go_at_call 76; with_reducible (refine (HUC.out _).mono ?_); rintro _ _ ⟨rfl, rfl⟩) | (go_at_call 76; with_reducible (refine (HUK.out _).mono ?_); rintro _ _ ⟨rfl, rfl⟩) | (go_at_call 77; refine (HTY.out _).mono ?_; rintro _ _ ⟨rfl, rfl⟩))
 all_goals go_ret
 all_goals exact ⟨by first | rfl | (simp [*]; done) | (simp; omega), bw⟩
theorem rfo_13_2 (a b c k : Int) (hk : I64 k) (n2 : 0 ≤ a) (n3 : a ≤ 15) (n4 : 0 ≤ b) (n5 : b ≤ 15) (n6 : 0 ≤ c) (n7 : c ≤ 15) (c0 : 0 ≤ k) (c1 : k < 2097152) (z2 : ¬ (k % 128 = 0)) (w : World) : Calls Tryz.prog 32 #[.agg #[.int .i64 13, .int .i64 a, .int .i64 b, .int .i64 c, .int .i64 k]] w fun e w' => e = .returned (.bool false) ∧ Below w.heap.size w w' := by
 have HFD : Hid (∀ W, Calls Tryz.prog 75 #[.int .i64 13] W fun e w' => e = .returned (.string (rowF 13)) ∧ w' = W) := H! (fun W => yaf 13 (by omega) (by omega) W)
 have HUB : Hid (∀ W, Calls Tryz.prog 76 #[.string (rowF 13), .int .u8 66] W fun e w' => e = .returned (.bool true) ∧ w' = W) := H! (fun W => by have := yab (rowF 13) (by decide) 66 W; rwa [show holds (rowF 13) 66 = true by decide] at this)
 have HUC : Hid (∀ W, Calls Tryz.prog 76 #[.string (rowF 13), .int .u8 67] W fun e w' => e = .returned (.bool true) ∧ w' = W) := H! (fun W => by have := yab (rowF 13) (by decide) 67 W; rwa [show holds (rowF 13) 67 = true by decide] at this)
 have HUK : Hid (∀ W, Calls Tryz.prog 76 #[.string (rowF 13), .int .u8 75] W fun e w' => e = .returned (.bool true) ∧ w' = W) := H! (fun W => by have := yab (rowF 13) (by decide) 75 W; rwa [show holds (rowF 13) 75 = true by decide] at this)
 generalize rowF 13 = s at *
 obtain ⟨m, HM, hm⟩ := yae k
 have hk2 := hk
 unfold I64 at hk2
 simp [Lit.wf, IntKind.min, IntKind.max, IntKind.bits, IntKind.signed] at hk2
 have hm0 : m = k := by omega
 rw [hm0] at HM
 clear hm0
 have HTY := H! (fun W => yac k (by omega) (by first | exact hk | (exact (by rfl)) | (unfold I64; simp [Lit.wf, IntKind.min, IntKind.max, IntKind.bits, IntKind.signed]; omega)) W)
 clear hm
 have q1 : k / 16384 < 128 := by omega
 have q2 : (k % 128 == 0) = false := by simp; exact z2
 go_enter Tryz.func32, Tryz.ntmps32
 go_wp2_with (first | (go_at_call 75; refine (HFD.out _).mono ?_; rintro _ _ ⟨rfl, rfl⟩) | (go_at_call 76; with_reducible (refine (HUB.out _).mono ?_); rintro _ _ ⟨rfl, rfl⟩) | (go_at_call 76; with_reducible (refine (HUC.out _).mono ?_); rintro _ _ ⟨rfl, rfl⟩) | (go_at_call 76; with_reducible (refine (HUK.out _).mono ?_); rintro _ _ ⟨rfl, rfl⟩) | (go_at_call 77; refine (HTY.out _).mono ?_; rintro _ _ ⟨rfl, rfl⟩))
 all_goals go_ret
 all_goals exact ⟨by first | rfl | (simp [*]; done) | (simp; omega), bw⟩
theorem rfo_13_3 (a b c k : Int) (hk : I64 k) (n2 : 0 ≤ a) (n3 : a ≤ 15) (n4 : 0 ≤ b) (n5 : b ≤ 15) (n6 : 0 ≤ c) (n7 : c ≤ 15) (c0 : 0 ≤ k) (c1 : k < 2097152) (c2 : k % 128 = 0) (w : World) : Calls Tryz.prog 32 #[.agg #[.int .i64 13, .int .i64 a, .int .i64 b, .int .i64 c, .int .i64 k]] w fun e w' => e = .returned (.bool true) ∧ Below w.heap.size w w' := by
 have HFD : Hid (∀ W, Calls Tryz.prog 75 #[.int .i64 13] W fun e w' => e = .returned (.string (rowF 13)) ∧ w' = W) := H! (fun W => yaf 13 (by omega) (by omega) W)
 have HUB : Hid (∀ W, Calls Tryz.prog 76 #[.string (rowF 13), .int .u8 66] W fun e w' => e = .returned (.bool true) ∧ w' = W) := H! (fun W => by have := yab (rowF 13) (by decide) 66 W; rwa [show holds (rowF 13) 66 = true by decide] at this)
 have HUC : Hid (∀ W, Calls Tryz.prog 76 #[.string (rowF 13), .int .u8 67] W fun e w' => e = .returned (.bool true) ∧ w' = W) := H! (fun W => by have := yab (rowF 13) (by decide) 67 W; rwa [show holds (rowF 13) 67 = true by decide] at this)
 have HUK : Hid (∀ W, Calls Tryz.prog 76 #[.string (rowF 13), .int .u8 75] W fun e w' => e = .returned (.bool true) ∧ w' = W) := H! (fun W => by have := yab (rowF 13) (by decide) 75 W; rwa [show holds (rowF 13) 75 = true by decide] at this)
 generalize rowF 13 = s at *
 obtain ⟨m, HM, hm⟩ := yae k
 have hk2 := hk
 unfold I64 at hk2
 simp [Lit.wf, IntKind.min, IntKind.max, IntKind.bits, IntKind.signed] at hk2
 have hm0 : m = k := by omega
 rw [hm0] at HM
 clear hm0
 have HTY := H! (fun W => yac k (by omega) (by first | exact hk | (exact (by rfl)) | (unfold I64; simp [Lit.wf, IntKind.min, IntKind.max, IntKind.bits, IntKind.signed]; omega)) W)
 clear hm
 have q1 : k / 16384 < 128 := by omega
 go_enter Tryz.func32, Tryz.ntmps32
 go_wp2_with (first | (go_at_call 75; refine (HFD.out _).mono ?_; rintro _ _ ⟨rfl, rfl⟩) | (go_at_call 76; with_reducible (refine (HUB.out _).mono ?_); rintro _ _ ⟨rfl, rfl⟩) | (go_at_call 76; with_reducible (refine (HUC.out _).mono ?_); rintro _ _ ⟨rfl, rfl⟩) | (go_at_call 76; with_reducible (refine (HUK.out _).mono ?_); rintro _ _ ⟨rfl, rfl⟩) | (go_at_call 77; refine (HTY.out _).mono ?_; rintro _ _ ⟨rfl, rfl⟩))
 all_goals go_ret
 all_goals exact ⟨by first | rfl | (simp [*]; done) | (simp; omega), bw⟩
theorem rfo_14_0 (a b c k : Int) (hk : I64 k) (n2 : 0 ≤ a) (n3 : a ≤ 15) (n4 : 0 ≤ b) (n5 : b ≤ 15) (n6 : 0 ≤ c) (n7 : c ≤ 15) (z0 : ¬ (0 ≤ k)) (w : World) : Calls Tryz.prog 32 #[.agg #[.int .i64 14, .int .i64 a, .int .i64 b, .int .i64 c, .int .i64 k]] w fun e w' => e = .returned (.bool false) ∧ Below w.heap.size w w' := by
 have HFD : Hid (∀ W, Calls Tryz.prog 75 #[.int .i64 14] W fun e w' => e = .returned (.string (rowF 14)) ∧ w' = W) := H! (fun W => yaf 14 (by omega) (by omega) W)
 have HUB : Hid (∀ W, Calls Tryz.prog 76 #[.string (rowF 14), .int .u8 66] W fun e w' => e = .returned (.bool true) ∧ w' = W) := H! (fun W => by have := yab (rowF 14) (by decide) 66 W; rwa [show holds (rowF 14) 66 = true by decide] at this)
 have HUC : Hid (∀ W, Calls Tryz.prog 76 #[.string (rowF 14), .int .u8 67] W fun e w' => e = .returned (.bool true) ∧ w' = W) := H! (fun W => by have := yab (rowF 14) (by decide) 67 W; rwa [show holds (rowF 14) 67 = true by decide] at this)
 have HUK : Hid (∀ W, Calls Tryz.prog 76 #[.string (rowF 14), .int .u8 75] W fun e w' => e = .returned (.bool true) ∧ w' = W) := H! (fun W => by have := yab (rowF 14) (by decide) 75 W; rwa [show holds (rowF 14) 75 = true by decide] at this)
 generalize rowF 14 = s at *
 obtain ⟨m, HM, hm⟩ := yae k
 have hk2 := hk
 unfold I64 at hk2
 simp [Lit.wf, IntKind.min, IntKind.max, IntKind.bits, IntKind.signed] at hk2
 have hm0 : m = 0 := by omega
 rw [hm0] at HM
 clear hm0
 have HTY := H! (fun W => yac 0 (by omega) (by first | exact hk | (exact (by rfl)) | (unfold I64; simp [Lit.wf, IntKind.min, IntKind.max, IntKind.bits, IntKind.signed]; omega)) W)
 clear hm
 go_enter Tryz.func32, Tryz.ntmps32
 go_wp2_with (first | (go_at_call 75; refine (HFD.out _).mono ?_; rintro _ _ ⟨rfl, rfl⟩) | (go_at_call 76; with_reducible (refine (HUB.out _).mono ?_); rintro _ _ ⟨rfl, rfl⟩) | (go_at_call 76; with_reducible (refine (HUC.out _).mono ?_); rintro _ _ ⟨rfl, rfl⟩) | (go_at_call 76; with_reducible (refine (HUK.out _).mono ?_); rintro _ _ ⟨rfl, rfl⟩) | (go_at_call 77; refine (HTY.out _).mono ?_; rintro _ _ ⟨rfl, rfl⟩))
 all_goals go_ret
 all_goals exact ⟨by first | rfl | (simp [*]; done) | (simp; omega), bw⟩
theorem rfo_14_1 (a b c k : Int) (hk : I64 k) (n2 : 0 ≤ a) (n3 : a ≤ 15) (n4 : 0 ≤ b) (n5 : b ≤ 15) (n6 : 0 ≤ c) (n7 : c ≤ 15) (c0 : 0 ≤ k) (z1 : ¬ (k < 2097152)) (w : World) : Calls Tryz.prog 32 #[.agg #[.int .i64 14, .int .i64 a, .int .i64 b, .int .i64 c, .int .i64 k]] w fun e w' => e = .returned (.bool false) ∧ Below w.heap.size w w' := by
 have HFD : Hid (∀ W, Calls Tryz.prog 75 #[.int .i64 14] W fun e w' => e = .returned (.string (rowF 14)) ∧ w' = W) := H! (fun W => yaf 14 (by omega) (by omega) W)
 have HUB : Hid (∀ W, Calls Tryz.prog 76 #[.string (rowF 14), .int .u8 66] W fun e w' => e = .returned (.bool true) ∧ w' = W) := H! (fun W => by have := yab (rowF 14) (by decide) 66 W; rwa [show holds (rowF 14) 66 = true by decide] at this)
 have HUC : Hid (∀ W, Calls Tryz.prog 76 #[.string (rowF 14), .int .u8 67] W fun e w' => e = .returned (.bool true) ∧ w' = W) := H! (fun W => by have := yab (rowF 14) (by decide) 67 W; rwa [show holds (rowF 14) 67 = true by decide] at this)
 have HUK : Hid (∀ W, Calls Tryz.prog 76 #[.string (rowF 14), .int .u8 75] W fun e w' => e = .returned (.bool true) ∧ w' = W) := H! (fun W => by have := yab (rowF 14) (by decide) 75 W; rwa [show holds (rowF 14) 75 = true by decide] at this)
 generalize rowF 14 = s at *
 obtain ⟨m, HM, hm⟩ := yae k
 have hk2 := hk
 unfold I64 at hk2
 simp [Lit.wf, IntKind.min, IntKind.max, IntKind.bits, IntKind.signed] at hk2
 have hm0 : m = k := by omega
 rw [hm0] at HM
 clear hm0
 have HTY := H! (fun W => yac k (by omega) (by first | exact hk | (exact (by rfl)) | (unfold I64; simp [Lit.wf, IntKind.min, IntKind.max, IntKind.bits, IntKind.signed]; omega)) W)
 clear hm
 have q1 : ¬ k / 16384 < 128 := by omega
 go_enter Tryz.func32, Tryz.ntmps32
 go_wp2_with (first | (go_at_call 75; refine (HFD.out _).mono ?_; rintro _ _ ⟨rfl, rfl⟩) | (go_at_call 76; with_reducible (refine (HUB.out _).mono ?_); rintro _ _ ⟨rfl, rfl⟩) | (go_at_call 76; with_reducible (refine (HUC.out _).mono ?_); rintro _ _ ⟨rfl, rfl⟩) | (go_at_call 76; with_reducible (refine (HUK.out _).mono ?_); rintro _ _ ⟨rfl, rfl⟩) | (go_at_call 77; refine (HTY.out _).mono ?_; rintro _ _ ⟨rfl, rfl⟩))
 all_goals go_ret
 all_goals exact ⟨by first | rfl | (simp [*]; done) | (simp; omega), bw⟩
theorem rfo_14_2 (a b c k : Int) (hk : I64 k) (n2 : 0 ≤ a) (n3 : a ≤ 15) (n4 : 0 ≤ b) (n5 : b ≤ 15) (n6 : 0 ≤ c) (n7 : c ≤ 15) (c0 : 0 ≤ k) (c1 : k < 2097152) (z2 : ¬ (k % 128 = 0)) (w : World) : Calls Tryz.prog 32 #[.agg #[.int .i64 14, .int .i64 a, .int .i64 b, .int .i64 c, .int .i64 k]] w fun e w' => e = .returned (.bool false) ∧ Below w.heap.size w w' := by
 have HFD : Hid (∀ W, Calls Tryz.prog 75 #[.int .i64 14] W fun e w' => e = .returned (.string (rowF 14)) ∧ w' = W) := H! (fun W => yaf 14 (by omega) (by omega) W)
 have HUB : Hid (∀ W, Calls Tryz.prog 76 #[.string (rowF 14), .int .u8 66] W fun e w' => e = .returned (.bool true) ∧ w' = W) := H! (fun W => by have := yab (rowF 14) (by decide) 66 W; rwa [show holds (rowF 14) 66 = true by decide] at this)
 have HUC : Hid (∀ W, Calls Tryz.prog 76 #[.string (rowF 14), .int .u8 67] W fun e w' => e = .returned (.bool true) ∧ w' = W) := H! (fun W => by have := yab (rowF 14) (by decide) 67 W; rwa [show holds (rowF 14) 67 = true by decide] at this)
 have HUK : Hid (∀ W, Calls Tryz.prog 76 #[.string (rowF 14), .int .u8 75] W fun e w' => e = .returned (.bool true) ∧ w' = W) := H! (fun W => by have := yab (rowF 14) (by decide) 75 W; rwa [show holds (rowF 14) 75 = true by decide] at this)
 generalize rowF 14 = s at *
 obtain ⟨m, HM, hm⟩ := yae k
 have hk2 := hk
 unfold I64 at hk2
 simp [Lit.wf, IntKind.min, IntKind.max, IntKind.bits, IntKind.signed] at hk2
 have hm0 : m = k := by omega
 rw [hm0] at HM
 clear hm0
 have HTY := H! (fun W => yac k (by omega) (by first | exact hk | (exact (by rfl)) | (unfold I64; simp [Lit.wf, IntKind.min, IntKind.max, IntKind.bits, IntKind.signed]; omega)) W)
 clear hm
 have q1 : k / 16384 < 128 := by omega
 have q2 : (k % 128 == 0) = false := by simp; exact z2
 go_enter Tryz.func32, Tryz.ntmps32
 go_wp2_with (first | (go_at_call 75; refine (HFD.out _).mono ?_; rintro _ _ ⟨rfl, rfl⟩) | (go_at_call 76; with_reducible (refine (HUB.out _).mono ?_); rintro _ _ ⟨rfl, rfl⟩) | (go_at_call 76; with_reducible (refine (HUC.out _).mono ?_); rintro _ _ ⟨rfl, rfl⟩) | (go_at_call 76; with_reducible (refine (HUK.out _).mono ?_); rintro _ _ ⟨rfl, rfl⟩) | (go_at_call 77; refine (HTY.out _).mono ?_; rintro _ _ ⟨rfl, rfl⟩))
 all_goals go_ret
 all_goals exact ⟨by first | rfl | (simp [*]; done) | (simp; omega), bw⟩
theorem rfo_14_3 (a b c k : Int) (hk : I64 k) (n2 : 0 ≤ a) (n3 : a ≤ 15) (n4 : 0 ≤ b) (n5 : b ≤ 15) (n6 : 0 ≤ c) (n7 : c ≤ 15) (c0 : 0 ≤ k) (c1 : k < 2097152) (c2 : k % 128 = 0) (w : World) : Calls Tryz.prog 32 #[.agg #[.int .i64 14, .int .i64 a, .int .i64 b, .int .i64 c, .int .i64 k]] w fun e w' => e = .returned (.bool true) ∧ Below w.heap.size w w' := by
 have HFD : Hid (∀ W, Calls Tryz.prog 75 #[.int .i64 14] W fun e w' => e = .returned (.string (rowF 14)) ∧ w' = W) := H! (fun W => yaf 14 (by omega) (by omega) W)
 have HUB : Hid (∀ W, Calls Tryz.prog 76 #[.string (rowF 14), .int .u8 66] W fun e w' => e = .returned (.bool true) ∧ w' = W) := H! (fun W => by have := yab (rowF 14) (by decide) 66 W; rwa [show holds (rowF 14) 66 = true by decide] at this)
 have HUC : Hid (∀ W, Calls Tryz.prog 76 #[.string (rowF 14), .int .u8 67] W fun e w' => e = .returned (.bool true) ∧ w' = W) := H! (fun W => by have := yab (rowF 14) (by decide) 67 W; rwa [show holds (rowF 14) 67 = true by decide] at this)
 have HUK : Hid (∀ W, Calls Tryz.prog 76 #[.string (rowF 14), .int .u8 75] W fun e w' => e = .returned (.bool true) ∧ w' = W) := H! (fun W => by have := yab (rowF 14) (by decide) 75 W; rwa [show holds (rowF 14) 75 = true by decide] at this)
 generalize rowF 14 = s at *
 obtain ⟨m, HM, hm⟩ := yae k
 have hk2 := hk
 unfold I64 at hk2
 simp [Lit.wf, IntKind.min, IntKind.max, IntKind.bits, IntKind.signed] at hk2
 have hm0 : m = k := by omega
 rw [hm0] at HM
 clear hm0
 have HTY := H! (fun W => yac k (by omega) (by first | exact hk | (exact (by rfl)) | (unfold I64; simp [Lit.wf, IntKind.min, IntKind.max, IntKind.bits, IntKind.signed]; omega)) W)
 clear hm
 have q1 : k / 16384 < 128 := by omega
 go_enter Tryz.func32, Tryz.ntmps32
 go_wp2_with (first | (go_at_call 75; refine (HFD.out _).mono ?_; rintro _ _ ⟨rfl, rfl⟩) | (go_at_call 76; with_reducible (refine (HUB.out _).mono ?_); rintro _ _ ⟨rfl, rfl⟩) | (go_at_call 76; with_reducible (refine (HUC.out _).mono ?_); rintro _ _ ⟨rfl, rfl⟩) | (go_at_call 76; with_reducible (refine (HUK.out _).mono ?_); rintro _ _ ⟨rfl, rfl⟩) | (go_at_call 77; refine (HTY.out _).mono ?_; rintro _ _ ⟨rfl, rfl⟩))
 all_goals go_ret
 all_goals exact ⟨by first | rfl | (simp [*]; done) | (simp; omega), bw⟩
end Go.Proofs.YtfooefiaenlhmaaGreat
