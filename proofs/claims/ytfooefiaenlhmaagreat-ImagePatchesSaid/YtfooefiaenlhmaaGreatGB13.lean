/- Lemmas for the laws of package magnetolaw15: what its functions return, for any arguments that the lemmas name. -/
import Derived.Test.YtfooefiaenlhmaaGreatGB11
set_option maxRecDepth 100000
namespace Go.Proofs.YtfooefiaenlhmaaGreat
set_option linter.all false
set_option maxHeartbeats 16000000
open Go.RowKit Go.ChangeShapes Go.WideShapes Go.ChangeAt
theorem rfo_1_0 (a k : Int) (hk : I64 k) (n2 : 0 ≤ a) (n3 : a ≤ 15) (z0 : ¬ (-1099511627776 ≤ k)) (w : World) : Calls Tryz.prog 32 #[.agg #[.int .i64 1, .int .i64 a, .int .i64 0, .int .i64 0, .int .i64 k]] w fun e w' => e = .returned (.bool false) ∧ Below w.heap.size w w' := by
 have HFD : Hid (∀ W, Calls Tryz.prog 75 #[.int .i64 1] W fun e w' => e = .returned (.string (rowF 1)) ∧ w' = W) := H! (fun W => yaf 1 (by omega) (by omega) W)
 have HUB : Hid (∀ W, Calls Tryz.prog 76 #[.string (rowF 1), .int .u8 66] W fun e w' => e = .returned (.bool false) ∧ w' = W) := H! (fun W => by have := yab (rowF 1) (by decide) 66 W; rwa [show holds (rowF 1) 66 = false by decide] at this)
 have HUC : Hid (∀ W, Calls Tryz.prog 76 #[.string (rowF 1), .int .u8 67] W fun e w' => e = .returned (.bool false) ∧ w' = W) := H! (fun W => by have := yab (rowF 1) (by decide) 67 W; rwa [show holds (rowF 1) 67 = false by decide] at this)
 have HUK : Hid (∀ W, Calls Tryz.prog 76 #[.string (rowF 1), .int .u8 75] W fun e w' => e = .returned (.bool true) ∧ w' = W) := H! (fun W => by have := yab (rowF 1) (by decide) 75 W; rwa [show holds (rowF 1) 75 = true by decide] at this)
 generalize rowF 1 = s at *
 obtain ⟨m, HM, hm⟩ := yae k
 have hk2 := hk
 unfold I64 at hk2
 simp [Lit.wf, IntKind.min, IntKind.max, IntKind.bits, IntKind.signed] at hk2
 have HTY := H! (fun W => yac m (by omega) (by first | exact hk | (exact (by rfl)) | (unfold I64; simp [Lit.wf, IntKind.min, IntKind.max, IntKind.bits, IntKind.signed]; omega)) W)
 clear hm
 go_enter Tryz.func32, Tryz.ntmps32
 go_wp2_with (first | (go_at_call 75; refine (HFD.out _).mono ?_; rintro _ _ ⟨rfl, rfl⟩) | (go_at_call 76; with_reducible (refine (HUB.out _).mono ?_); rintro _ _ ⟨rfl, rfl⟩) | (go_at_call 76; with_reducible (refine (HUC.out _).mono ?_); rintro _ _ ⟨rfl, rfl⟩) | (go_at_call 76; with_reducible (refine (HUK.out _).mono ?_); rintro _ _ ⟨rfl, rfl⟩) | (go_at_call 77; refine (HTY.out _).mono ?_; rintro _ _ ⟨rfl, rfl⟩))
 all_goals go_ret
 all_goals exact ⟨by first | rfl | (simp [*]; done) | (simp; omega), bw⟩
theorem rfo_1_1 (a k : Int) (hk : I64 k) (n2 : 0 ≤ a) (n3 : a ≤ 15) (c0 : -1099511627776 ≤ k) (z1 : ¬ (k ≤ 1099511627776)) (w : World) : Calls Tryz.prog 32 #[.agg #[.int .i64 1, .int .i64 a, .int .i64 0, .int .i64 0, .int .i64 k]] w fun e w' => e = .returned (.bool false) ∧ Below w.heap.size w w' := by
 have HFD : Hid (∀ W, Calls Tryz.prog 75 #[.int .i64 1] W fun e w' => e = .returned (.string (rowF 1)) ∧ w' = W) := H! (fun W => yaf 1 (by omega) (by omega) W)
 have HUB : Hid (∀ W, Calls Tryz.prog 76 #[.string (rowF 1), .int .u8 66] W fun e w' => e = .returned (.bool false) ∧ w' = W) := H! (fun W => by have := yab (rowF 1) (by decide) 66 W; rwa [show holds (rowF 1) 66 = false by decide] at this)
 have HUC : Hid (∀ W, Calls Tryz.prog 76 #[.string (rowF 1), .int .u8 67] W fun e w' => e = .returned (.bool false) ∧ w' = W) := H! (fun W => by have := yab (rowF 1) (by decide) 67 W; rwa [show holds (rowF 1) 67 = false by decide] at this)
 have HUK : Hid (∀ W, Calls Tryz.prog 76 #[.string (rowF 1), .int .u8 75] W fun e w' => e = .returned (.bool true) ∧ w' = W) := H! (fun W => by have := yab (rowF 1) (by decide) 75 W; rwa [show holds (rowF 1) 75 = true by decide] at this)
 generalize rowF 1 = s at *
 obtain ⟨m, HM, hm⟩ := yae k
 have hk2 := hk
 unfold I64 at hk2
 simp [Lit.wf, IntKind.min, IntKind.max, IntKind.bits, IntKind.signed] at hk2
 have HTY := H! (fun W => yac m (by omega) (by first | exact hk | (exact (by rfl)) | (unfold I64; simp [Lit.wf, IntKind.min, IntKind.max, IntKind.bits, IntKind.signed]; omega)) W)
 clear hm
 go_enter Tryz.func32, Tryz.ntmps32
 go_wp2_with (first | (go_at_call 75; refine (HFD.out _).mono ?_; rintro _ _ ⟨rfl, rfl⟩) | (go_at_call 76; with_reducible (refine (HUB.out _).mono ?_); rintro _ _ ⟨rfl, rfl⟩) | (go_at_call 76; with_reducible (refine (HUC.out _).mono ?_); rintro _ _ ⟨rfl, rfl⟩) | (go_at_call 76; with_reducible (refine (HUK.out _).mono ?_); rintro _ _ ⟨rfl, rfl⟩) | (go_at_call 77; refine (HTY.out _).mono ?_; rintro _ _ ⟨rfl, rfl⟩))
 all_goals go_ret
 all_goals exact ⟨by first | rfl | (simp [*]; done) | (simp; omega), bw⟩
theorem rfo_1_2 (a k : Int) (hk : I64 k) (n2 : 0 ≤ a) (n3 : a ≤ 15) (c0 : -1099511627776 ≤ k) (c1 : k ≤ 1099511627776) (w : World) : Calls Tryz.prog 32 #[.agg #[.int .i64 1, .int .i64 a, .int .i64 0, .int .i64 0, .int .i64 k]] w fun e w' => e = .returned (.bool true) ∧ Below w.heap.size w w' := by
 have HFD : Hid (∀ W, Calls Tryz.prog 75 #[.int .i64 1] W fun e w' => e = .returned (.string (rowF 1)) ∧ w' = W) := H! (fun W => yaf 1 (by omega) (by omega) W)
 have HUB : Hid (∀ W, Calls Tryz.prog 76 #[.string (rowF 1), .int .u8 66] W fun e w' => e = .returned (.bool false) ∧ w' = W) := H! (fun W => by have := yab (rowF 1) (by decide) 66 W; rwa [show holds (rowF 1) 66 = false by decide] at this)
 have HUC : Hid (∀ W, Calls Tryz.prog 76 #[.string (rowF 1), .int .u8 67] W fun e w' => e = .returned (.bool false) ∧ w' = W) := H! (fun W => by have := yab (rowF 1) (by decide) 67 W; rwa [show holds (rowF 1) 67 = false by decide] at this)
 have HUK : Hid (∀ W, Calls Tryz.prog 76 #[.string (rowF 1), .int .u8 75] W fun e w' => e = .returned (.bool true) ∧ w' = W) := H! (fun W => by have := yab (rowF 1) (by decide) 75 W; rwa [show holds (rowF 1) 75 = true by decide] at this)
 generalize rowF 1 = s at *
 obtain ⟨m, HM, hm⟩ := yae k
 have hk2 := hk
 unfold I64 at hk2
 simp [Lit.wf, IntKind.min, IntKind.max, IntKind.bits, IntKind.signed] at hk2
 have HTY := H! (fun W => yac m (by omega) (by first | exact hk | (exact (by rfl)) | (unfold I64; simp [Lit.wf, IntKind.min, IntKind.max, IntKind.bits, IntKind.signed]; omega)) W)
 clear hm
 go_enter Tryz.func32, Tryz.ntmps32
 go_wp2_with (first | (go_at_call 75; refine (HFD.out _).mono ?_; rintro _ _ ⟨rfl, rfl⟩) | (go_at_call 76; with_reducible (refine (HUB.out _).mono ?_); rintro _ _ ⟨rfl, rfl⟩) | (go_at_call 76; with_reducible (refine (HUC.out _).mono ?_); rintro _ _ ⟨rfl, rfl⟩) | (go_at_call 76; with_reducible (refine (HUK.out _).mono ?_); rintro _ _ ⟨rfl, rfl⟩) | (go_at_call 77; refine (HTY.out _).mono ?_; rintro _ _ ⟨rfl, rfl⟩))
 all_goals go_ret
 all_goals exact ⟨by first | rfl | (simp [*]; done) | (simp; omega), bw⟩
theorem rfo_2_0 (a k : Int) (hk : I64 k) (n2 : 0 ≤ a) (n3 : a ≤ 15) (z0 : ¬ (0 ≤ k)) (w : World) : Calls Tryz.prog 32 #[.agg #[.int .i64 2, .int .i64 a, .int .i64 0, .int .i64 0, .int .i64 k]] w fun e w' => e = .returned (.bool false) ∧ Below w.heap.size w w' := by
 have HFD : Hid (∀ W, Calls Tryz.prog 75 #[.int .i64 2] W fun e w' => e = .returned (.string (rowF 2)) ∧ w' = W) := H! (fun W => yaf 2 (by omega) (by omega) W)
 have HUB : Hid (∀ W, Calls Tryz.prog 76 #[.string (rowF 2), .int .u8 66] W fun e w' => e = .returned (.bool false) ∧ w' = W) := H! (fun W => by have := yab (rowF 2) (by decide) 66 W; rwa [show holds (rowF 2) 66 = false by decide] at this)
 have HUC : Hid (∀ W, Calls Tryz.prog 76 #[.string (rowF 2), .int .u8 67] W fun e w' => e = .returned (.bool false) ∧ w' = W) := H! (fun W => by have := yab (rowF 2) (by decide) 67 W; rwa [show holds (rowF 2) 67 = false by decide] at this)
 have HUK : Hid (∀ W, Calls Tryz.prog 76 #[.string (rowF 2), .int .u8 75] W fun e w' => e = .returned (.bool true) ∧ w' = W) := H! (fun W => by have := yab (rowF 2) (by decide) 75 W; rwa [show holds (rowF 2) 75 = true by decide] at this)
 generalize rowF 2 = s at *
 obtain ⟨m, HM, hm⟩ := yae k
 have hk2 := hk
 unfold I64 at hk2
 simp [Lit.wf, IntKind.min, IntKind.max, IntKind.bits, IntKind.signed] at hk2
 have hm0 : m = 0 := by omega
 rw [hm0] at HM
 clear hm0
 have HTY := H! (fun W => yac 0 (by omega) (by first | exact hk | (exact (by rfl)) | (unfold I64; simp [Lit.wf, IntKind.min, IntKind.max, IntKind.bits, IntKind.signed]; omega)) W)
 clear hm
 go_enter Tryz.func32, Tryz.ntmps32
 go_wp2_with (first | (go_at_call 75; refine (HFD.out _).mono ?_; rintro _ _ ⟨rfl, rfl⟩) | (go_at_call 76; with_reducible (refine (HUB.out _).mono ?_); rintro _ _ ⟨rfl, rfl⟩) | (go_at_call 76; with_reducible (refine (HUC.out _).mono ?_); rintro _ _ ⟨rfl, rfl⟩) | (go_at_call 76; with_reducible (refine (HUK.out _).mono ?_); rintro _ _ ⟨rfl, rfl⟩) | (go_at_call 77; refine (HTY.out _).mono ?_; rintro _ _ ⟨rfl, rfl⟩))
 all_goals go_ret
 all_goals exact ⟨by first | rfl | (simp [*]; done) | (simp; omega), bw⟩
theorem rfo_2_1 (a k : Int) (hk : I64 k) (n2 : 0 ≤ a) (n3 : a ≤ 15) (c0 : 0 ≤ k) (z1 : ¬ (k ≤ 32767)) (w : World) : Calls Tryz.prog 32 #[.agg #[.int .i64 2, .int .i64 a, .int .i64 0, .int .i64 0, .int .i64 k]] w fun e w' => e = .returned (.bool false) ∧ Below w.heap.size w w' := by
 have HFD : Hid (∀ W, Calls Tryz.prog 75 #[.int .i64 2] W fun e w' => e = .returned (.string (rowF 2)) ∧ w' = W) := H! (fun W => yaf 2 (by omega) (by omega) W)
 have HUB : Hid (∀ W, Calls Tryz.prog 76 #[.string (rowF 2), .int .u8 66] W fun e w' => e = .returned (.bool false) ∧ w' = W) := H! (fun W => by have := yab (rowF 2) (by decide) 66 W; rwa [show holds (rowF 2) 66 = false by decide] at this)
 have HUC : Hid (∀ W, Calls Tryz.prog 76 #[.string (rowF 2), .int .u8 67] W fun e w' => e = .returned (.bool false) ∧ w' = W) := H! (fun W => by have := yab (rowF 2) (by decide) 67 W; rwa [show holds (rowF 2) 67 = false by decide] at this)
 have HUK : Hid (∀ W, Calls Tryz.prog 76 #[.string (rowF 2), .int .u8 75] W fun e w' => e = .returned (.bool true) ∧ w' = W) := H! (fun W => by have := yab (rowF 2) (by decide) 75 W; rwa [show holds (rowF 2) 75 = true by decide] at this)
 generalize rowF 2 = s at *
 obtain ⟨m, HM, hm⟩ := yae k
 have hk2 := hk
 unfold I64 at hk2
 simp [Lit.wf, IntKind.min, IntKind.max, IntKind.bits, IntKind.signed] at hk2
 have hm0 : m = k := by omega
 rw [hm0] at HM
 clear hm0
 have HTY := H! (fun W => yac k (by omega) (by first | exact hk | (exact (by rfl)) | (unfold I64; simp [Lit.wf, IntKind.min, IntKind.max, IntKind.bits, IntKind.signed]; omega)) W)
 clear hm
 go_enter Tryz.func32, Tryz.ntmps32
 go_wp2_with (first | (go_at_call 75; refine (HFD.out _).mono ?_; rintro _ _ ⟨rfl, rfl⟩) | (go_at_call 76; with_reducible (refine (HUB.out _).mono ?_); rintro _ _ ⟨rfl, rfl⟩) | (go_at_call 76; with_reducible (refine (HUC.out _).mono ?_); rintro _ _ ⟨rfl, rfl⟩) | (go_at_call 76; with_reducible (refine (HUK.out _).mono ?_); rintro _ _ ⟨rfl, rfl⟩) | (go_at_call 77; refine (HTY.out _).mono ?_; rintro _ _ ⟨rfl, rfl⟩))
 all_goals go_ret
 all_goals exact ⟨by first | rfl | (simp [*]; done) | (simp; omega), bw⟩
theorem rfo_2_2 (a k : Int) (hk : I64 k) (n2 : 0 ≤ a) (n3 : a ≤ 15) (c0 : 0 ≤ k) (c1 : k ≤ 32767) (w : World) : Calls Tryz.prog 32 #[.agg #[.int .i64 2, .int .i64 a, .int .i64 0, .int .i64 0, .int .i64 k]] w fun e w' => e = .returned (.bool true) ∧ Below w.heap.size w w' := by
 have HFD : Hid (∀ W, Calls Tryz.prog 75 #[.int .i64 2] W fun e w' => e = .returned (.string (rowF 2)) ∧ w' = W) := H! (fun W => yaf 2 (by omega) (by omega) W)
 have HUB : Hid (∀ W, Calls Tryz.prog 76 #[.string (rowF 2), .int .u8 66] W fun e w' => e = .returned (.bool false) ∧ w' = W) := H! (fun W => by have := yab (rowF 2) (by decide) 66 W; rwa [show holds (rowF 2) 66 = false by decide] at this)
 have HUC : Hid (∀ W, Calls Tryz.prog 76 #[.string (rowF 2), .int .u8 67] W fun e w' => e = .returned (.bool false) ∧ w' = W) := H! (fun W => by have := yab (rowF 2) (by decide) 67 W; rwa [show holds (rowF 2) 67 = false by decide] at this)
 have HUK : Hid (∀ W, Calls Tryz.prog 76 #[.string (rowF 2), .int .u8 75] W fun e w' => e = .returned (.bool true) ∧ w' = W) := H! (fun W => by have := yab (rowF 2) (by decide) 75 W; rwa [show holds (rowF 2) 75 = true by decide] at this)
 generalize rowF 2 = s at *
 obtain ⟨m, HM, hm⟩ := yae k
 have hk2 := hk
 unfold I64 at hk2
 simp [Lit.wf, IntKind.min, IntKind.max, IntKind.bits, IntKind.signed] at hk2
 have hm0 : m = k := by omega
 rw [hm0] at HM
 clear hm0
 have HTY := H! (fun W => yac k (by omega) (by first | exact hk | (exact (by rfl)) | (unfold I64; simp [Lit.wf, IntKind.min, IntKind.max, IntKind.bits, IntKind.signed]; omega)) W)
 clear hm
 go_enter Tryz.func32, Tryz.ntmps32
 go_wp2_with (first | (go_at_call 75; refine (HFD.out _).mono ?_; rintro _ _ ⟨rfl, rfl⟩) | (go_at_call 76; with_reducible (refine (HUB.out _).mono ?_); rintro _ _ ⟨rfl, rfl⟩) | (go_at_call 76; with_reducible (refine (HUC.out _).mono ?_); rintro _ _ ⟨rfl, rfl⟩) | (go_at_call 76; with_reducible (refine (HUK.out _).mono ?_); rintro _ _ ⟨rfl, rfl⟩) | (go_at_call 77; refine (HTY.out _).mono ?_; rintro _ _ ⟨rfl, rfl⟩))
 all_goals go_ret
 all_goals exact ⟨by first | rfl | (simp [*]; done) | (simp; omega), bw⟩
theorem rfo_3_0 (a k : Int) (hk : I64 k) (n2 : 0 ≤ a) (n3 : a ≤ 15) (z0 : ¬ (0 ≤ k)) (w : World) : Calls Tryz.prog 32 #[.agg #[.int .i64 3, .int .i64 a, .int .i64 0, .int .i64 0, .int .i64 k]] w fun e w' => e = .returned (.bool false) ∧ Below w.heap.size w w' := by
 have HFD : Hid (∀ W, Calls Tryz.prog 75 #[.int .i64 3] W fun e w' => e = .returned (.string (rowF 3)) ∧ w' = W) := H! (fun W => yaf 3 (by omega) (by omega) W)
 have HUB : Hid (∀ W, Calls Tryz.prog 76 #[.string (rowF 3), .int .u8 66] W fun e w' => e = .returned (.bool false) ∧ w' = W) := H! (fun W => by have := yab (rowF 3) (by decide) 66 W; rwa [show holds (rowF 3) 66 = false by decide] at this)
 have HUC : Hid (∀ W, Calls Tryz.prog 76 #[.string (rowF 3), .int .u8 67] W fun e w' => e = .returned (.bool false) ∧ w' = W) := H! (fun W => by have := yab (rowF 3) (by decide) 67 W; rwa [show holds (rowF 3) 67 = false by decide] at this)
 have HUK : Hid (∀ W, Calls Tryz.prog 76 #[.string (rowF 3), .int .u8 75] W fun e w' => e = .returned (.bool true) ∧ w' = W) := H! (fun W => by have := yab (rowF 3) (by decide) 75 W; rwa [show holds (rowF 3) 75 = true by decide] at this)
 generalize rowF 3 = s at *
 obtain ⟨m, HM, hm⟩ := yae k
 have hk2 := hk
 unfold I64 at hk2
 simp [Lit.wf, IntKind.min, IntKind.max, IntKind.bits, IntKind.signed] at hk2
 have hm0 : m = 0 := by omega
 rw [hm0] at HM
 clear hm0
 have HTY := H! (fun W => yac 0 (by omega) (by first | exact hk | (exact (by rfl)) | (unfold I64; simp [Lit.wf, IntKind.min, IntKind.max, IntKind.bits, IntKind.signed]; omega)) W)
 clear hm
 go_enter Tryz.func32, Tryz.ntmps32
 go_wp2_with (first | (go_at_call 75; refine (HFD.out _).mono ?_; rintro _ _ ⟨rfl, rfl⟩) | (go_at_call 76; with_reducible (refine (HUB.out _).mono ?_); rintro _ _ ⟨rfl, rfl⟩) | (go_at_call 76; with_reducible (refine (HUC.out _).mono ?_); rintro _ _ ⟨rfl, rfl⟩) | (go_at_call 76; with_reducible (refine (HUK.out _).mono ?_); rintro _ _ ⟨rfl, rfl⟩) | (go_at_call 77; refine (HTY.out _).mono ?_; rintro _ _ ⟨rfl, rfl⟩))
 all_goals go_ret
 all_goals exact ⟨by first | rfl | (simp [*]; done) | (simp; omega), bw⟩
theorem rfo_3_1 (a k : Int) (hk : I64 k) (n2 : 0 ≤ a) (n3 : a ≤ 15) (c0 : 0 ≤ k) (z1 : ¬ (k ≤ 32767)) (w : World) : Calls Tryz.prog 32 #[.agg #[.int .i64 3, .int .i64 a, .int .i64 0, .int .i64 0, .int .i64 k]] w fun e w' => e = .returned (.bool false) ∧ Below w.heap.size w w' := by
 have HFD : Hid (∀ W, Calls Tryz.prog 75 #[.int .i64 3] W fun e w' => e = .returned (.string (rowF 3)) ∧ w' = W) := H! (fun W => yaf 3 (by omega) (by omega) W)
 have HUB : Hid (∀ W, Calls Tryz.prog 76 #[.string (rowF 3), .int .u8 66] W fun e w' => e = .returned (.bool false) ∧ w' = W) := H! (fun W => by have := yab (rowF 3) (by decide) 66 W; rwa [show holds (rowF 3) 66 = false by decide] at this)
 have HUC : Hid (∀ W, Calls Tryz.prog 76 #[.string (rowF 3), .int .u8 67] W fun e w' => e = .returned (.bool false) ∧ w' = W) := H! (fun W => by have := yab (rowF 3) (by decide) 67 W; rwa [show holds (rowF 3) 67 = false by decide] at this)
 have HUK : Hid (∀ W, Calls Tryz.prog 76 #[.string (rowF 3), .int .u8 75] W fun e w' => e = .returned (.bool true) ∧ w' = W) := H! (fun W => by have := yab (rowF 3) (by decide) 75 W; rwa [show holds (rowF 3) 75 = true by decide] at this)
 generalize rowF 3 = s at *
 obtain ⟨m, HM, hm⟩ := yae k
 have hk2 := hk
 unfold I64 at hk2
 simp [Lit.wf, IntKind.min, IntKind.max, IntKind.bits, IntKind.signed] at hk2
 have hm0 : m = k := by omega
 rw [hm0] at HM
 clear hm0
 have HTY := H! (fun W => yac k (by omega) (by first | exact hk | (exact (by rfl)) | (unfold I64; simp [Lit.wf, IntKind.min, IntKind.max, IntKind.bits, IntKind.signed]; omega)) W)
 clear hm
 go_enter Tryz.func32, Tryz.ntmps32
 go_wp2_with (first | (go_at_call 75; refine (HFD.out _).mono ?_; rintro _ _ ⟨rfl, rfl⟩) | (go_at_call 76; with_reducible (refine (HUB.out _).mono ?_); rintro _ _ ⟨rfl, rfl⟩) | (go_at_call 76; with_reducible (refine (HUC.out _).mono ?_); rintro _ _ ⟨rfl, rfl⟩) | (go_at_call 76; with_reducible (refine (HUK.out _).mono ?_); rintro _ _ ⟨rfl, rfl⟩) | (go_at_call 77; refine (HTY.out _).mono ?_; rintro _ _ ⟨rfl, rfl⟩))
 all_goals go_ret
 all_goals exact ⟨by first | rfl | (simp [*]; done) | (simp; omega), bw⟩
theorem rfo_3_2 (a k : Int) (hk : I64 k) (n2 : 0 ≤ a) (n3 : a ≤ 15) (c0 : 0 ≤ k) (c1 : k ≤ 32767) (w : World) : Calls Tryz.prog 32 #[.agg #[.int .i64 3, .int .i64 a, .int .i64 0, .int .i64 0, .int .i64 k]] w fun e w' => e = .returned (.bool true) ∧ Below w.heap.size w w' := by
 have HFD : Hid (∀ W, Calls Tryz.prog 75 #[.int .i64 3] W fun e w' => e = .returned (.string (rowF 3)) ∧ w' = W) := H! (fun W => yaf 3 (by omega) (by omega) W)
 have HUB : Hid (∀ W, Calls Tryz.prog 76 #[.string (rowF 3), .int .u8 66] W fun e w' => e = .returned (.bool false) ∧ w' = W) := H! (fun W => by have := yab (rowF 3) (by decide) 66 W; rwa [show holds (rowF 3) 66 = false by decide] at this)
 have HUC : Hid (∀ W, Calls Tryz.prog 76 #[.string (rowF 3), .int .u8 67] W fun e w' => e = .returned (.bool false) ∧ w' = W) := H! (fun W => by have := yab (rowF 3) (by decide) 67 W; rwa [show holds (rowF 3) 67 = false by decide] at this)
 have HUK : Hid (∀ W, Calls Tryz.prog 76 #[.string (rowF 3), .int .u8 75] W fun e w' => e = .returned (.bool true) ∧ w' = W) := H! (fun W => by have := yab (rowF 3) (by decide) 75 W; rwa [show holds (rowF 3) 75 = true by decide] at this)
 generalize rowF 3 = s at *
 obtain ⟨m, HM, hm⟩ := yae k
 have hk2 := hk
 unfold I64 at hk2
 simp [Lit.wf, IntKind.min, IntKind.max, IntKind.bits, IntKind.signed] at hk2
 have hm0 : m = k := by omega
 rw [hm0] at HM
 clear hm0
 have HTY := H! (fun W => yac k (by omega) (by first | exact hk | (exact (by rfl)) | (unfold I64; simp [Lit.wf, IntKind.min, IntKind.max, IntKind.bits, IntKind.signed]; omega)) W)
 clear hm
 go_enter Tryz.func32, Tryz.ntmps32
 go_wp2_with (first | (go_at_call 75; refine (HFD.out _).mono ?_; rintro _ _ ⟨rfl, rfl⟩) | (go_at_call 76; with_reducible (refine (HUB.out _).mono ?_); rintro _ _ ⟨rfl, rfl⟩) | (go_at_call 76; with_reducible (refine (HUC.out _).mono ?_); rintro _ _ ⟨rfl, rfl⟩) | (go_at_call 76; with_reducible (refine (HUK.out _).mono ?_); rintro _ _ ⟨rfl, rfl⟩) | (go_at_call 77; refine (HTY.out _).mono ?_; rintro _ _ ⟨rfl, rfl⟩))
 all_goals go_ret
 all_goals exact ⟨by first | rfl | (simp [*]; done) | (simp; omega), bw⟩
theorem rfo_4_0 (a b : Int) (n2 : 0 ≤ a) (n3 : a ≤ 15) (n4 : 0 ≤ b) (n5 : b ≤ 15) (w : World) : Calls Tryz.prog 32 #[.agg #[.int .i64 4, .int .i64 a, .int .i64 b, .int .i64 0, .int .i64 0]] w fun e w' => e = .returned (.bool true) ∧ Below w.heap.size w w' := by
 have HFD : Hid (∀ W, Calls Tryz.prog 75 #[.int .i64 4] W fun e w' => e = .returned (.string (rowF 4)) ∧ w' = W) := H! (fun W => yaf 4 (by omega) (by omega) W)
 have HUB : Hid (∀ W, Calls Tryz.prog 76 #[.string (rowF 4), .int .u8 66] W fun e w' => e = .returned (.bool true) ∧ w' = W) := H! (fun W => by have := yab (rowF 4) (by decide) 66 W; rwa [show holds (rowF 4) 66 = true by decide] at this)
 have HUC : Hid (∀ W, Calls Tryz.prog 76 #[.string (rowF 4), .int .u8 67] W fun e w' => e = .returned (.bool false) ∧ w' = W) := H! (fun W => by have := yab (rowF 4) (by decide) 67 W; rwa [show holds (rowF 4) 67 = false by decide] at this)
 have HUK : Hid (∀ W, Calls Tryz.prog 76 #[.string (rowF 4), .int .u8 75] W fun e w' => e = .returned (.bool false) ∧ w' = W) := H! (fun W => by have := yab (rowF 4) (by decide) 75 W; rwa [show holds (rowF 4) 75 = false by decide] at this)
 generalize rowF 4 = s at *
 obtain ⟨m, HM, hm⟩ := yae 0
 have hm0 : m = 0 := by omega
 rw [hm0] at HM
 clear hm0
 have HTY := H! (fun W => yac 0 (by omega) (by rfl) W)
 clear hm
 go_enter Tryz.func32, Tryz.ntmps32
 go_wp2_with (first | (go_at_call 75; refine (HFD.out _).mono ?_; rintro _ _ ⟨rfl, rfl⟩) | (go_at_call 76; with_reducible (refine (HUB.out _).mono ?_); rintro _ _ ⟨rfl, rfl⟩) | (go_at_call 76; with_reducible (refine (HUC.out _).mono ?_); rintro _ _ ⟨rfl, rfl⟩) | (go_at_call 76; with_reducible (refine (HUK.out _).mono ?_); rintro _ _ ⟨rfl, rfl⟩) | (go_at_call 77; refine (HTY.out _).mono ?_; rintro _ _ ⟨rfl, rfl⟩))
 all_goals go_ret
 all_goals exact ⟨by first | rfl | (simp [*]; done) | (simp; omega), bw⟩
theorem rfo_11_0 (a b c : Int) (n2 : 0 ≤ a) (n3 : a ≤ 15) (n4 : 0 ≤ b) (n5 : b ≤ 15) (n6 : 0 ≤ c) (n7 : c ≤ 15) (w : World) : Calls Tryz.prog 32 #[.agg #[.int .i64 11, .int .i64 a, .int .i64 b, .int .i64 c, .int .i64 0]] w fun e w' => e = .returned (.bool true) ∧ Below w.heap.size w w' := by
 have HFD : Hid (∀ W, Calls Tryz.prog 75 #[.int .i64 11] W fun e w' => e = .returned (.string (rowF 11)) ∧ w' = W) := H! (fun W => yaf 11 (by omega) (by omega) W)
 have HUB : Hid (∀ W, Calls Tryz.prog 76 #[.string (rowF 11), .int .u8 66] W fun e w' => e = .returned (.bool true) ∧ w' = W) := H! (fun W => by have := yab (rowF 11) (by decide) 66 W; rwa [show holds (rowF 11) 66 = true by decide] at this)
 have HUC : Hid (∀ W, Calls Tryz.prog 76 #[.string (rowF 11), .int .u8 67] W fun e w' => e = .returned (.bool true) ∧ w' = W) := H! (fun W => by have := yab (rowF 11) (by decide) 67 W; rwa [show holds (rowF 11) 67 = true by decide] at this)
 have HUK : Hid (∀ W, Calls Tryz.prog 76 #[.string (rowF 11), .int .u8 75] W fun e w' => e = .returned (.bool false) ∧ w' = W) := H! (fun W => by have := yab (rowF 11) (by decide) 75 W; rwa [show holds (rowF 11) 75 = false by decide] at this)
 generalize rowF 11 = s at *
 obtain ⟨m, HM, hm⟩ := yae 0
 have hm0 : m = 0 := by omega
 rw [hm0] at HM
 clear hm0
 have HTY := H! (fun W => yac 0 (by omega) (by rfl) W)
 clear hm
 go_enter Tryz.func32, Tryz.ntmps32
 go_wp2_with (first | (go_at_call 75; refine (HFD.out _).mono ?_; rintro _ _ ⟨rfl, rfl⟩) | (go_at_call 76; with_reducible (refine (HUB.out _).mono ?_); rintro _ _ ⟨rfl, rfl⟩) | (go_at_call 76; with_reducible (refine (HUC.out _).mono ?_); rintro _ _ ⟨rfl, rfl⟩) | (go_at_call 76; with_reducible (refine (HUK.out _).mono ?_); rintro _ _ ⟨rfl, rfl⟩) | (go_at_call 77; refine (HTY.out _).mono ?_; rintro _ _ ⟨rfl, rfl⟩))
 all_goals go_ret
 all_goals exact ⟨by first | rfl | (simp [*]; done) | (simp; omega), bw⟩
theorem rfo_12_0 (a b c : Int) (n2 : 0 ≤ a) (n3 : a ≤ 15) (n4 : 0 ≤ b) (n5 : b ≤ 15) (n6 : 0 ≤ c) (n7 : c ≤ 15) (w : World) : Calls Tryz.prog 32 #[.agg #[.int .i64 12, .int .i64 a, .int .i64 b, .int .i64 c, .int .i64 0]] w fun e w' => e = .returned (.bool true) ∧ Below w.heap.size w w' := by
 have HFD : Hid (∀ W, Calls Tryz.prog 75 #[.int .i64 12] W fun e w' => e = .returned (.string (rowF 12)) ∧ w' = W) := H! (fun W => yaf 12 (by omega) (by omega) W)
 have HUB : Hid (∀ W, Calls Tryz.prog 76 #[.string (rowF 12), .int .u8 66] W fun e w' => e = .returned (.bool true) ∧ w' = W) := H! (fun W => by have := yab (rowF 12) (by decide) 66 W; rwa [show holds (rowF 12) 66 = true by decide] at this)
 have HUC : Hid (∀ W, Calls Tryz.prog 76 #[.string (rowF 12), .int .u8 67] W fun e w' => e = .returned (.bool true) ∧ w' = W) := H! (fun W => by have := yab (rowF 12) (by decide) 67 W; rwa [show holds (rowF 12) 67 = true by decide] at this)
 have HUK : Hid (∀ W, Calls Tryz.prog 76 #[.string (rowF 12), .int .u8 75] W fun e w' => e = .returned (.bool false) ∧ w' = W) := H! (fun W => by have := yab (rowF 12) (by decide) 75 W; rwa [show holds (rowF 12) 75 = false by decide] at this)
 generalize rowF 12 = s at *
 obtain ⟨m, HM, hm⟩ := yae 0
 have hm0 : m = 0 := by omega
 rw [hm0] at HM
 clear hm0
 have HTY := H! (fun W => yac 0 (by omega) (by rfl) W)
 clear hm
 go_enter Tryz.func32, Tryz.ntmps32
 go_wp2_with (first | (go_at_call 75; refine (HFD.out _).mono ?_; rintro _ _ ⟨rfl, rfl⟩) | (go_at_call 76; with_reducible (refine (HUB.out _).mono ?_); rintro _ _ ⟨rfl, rfl⟩) | (go_at_call 76; with_reducible (refine (HUC.out _).mono ?_); rintro _ _ ⟨rfl, rfl⟩) | (go_at_call 76; with_reducible (refine (HUK.out _).mono ?_); rintro _ _ ⟨rfl, rfl⟩) | (go_at_call 77; refine (HTY.out _).mono ?_; rintro _ _ ⟨rfl, rfl⟩))
 all_goals go_ret
 all_goals exact ⟨by first | rfl | (simp [*]; done) | (simp; omega), bw⟩
end Go.Proofs.YtfooefiaenlhmaaGreat
