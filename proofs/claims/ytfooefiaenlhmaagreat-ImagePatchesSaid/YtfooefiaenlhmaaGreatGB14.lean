/- Lemmas for the laws of package magnetolaw15: what its functions return, for any arguments that the lemmas name. -/
import Derived.Test.YtfooefiaenlhmaaGreatGB11
set_option maxRecDepth 100000
namespace Go.Proofs.YtfooefiaenlhmaaGreat
set_option linter.all false
set_option maxHeartbeats 16000000
open Go.RowKit Go.ChangeShapes Go.WideShapes Go.ChangeAt
theorem rfo_5_0 (a b c k : Int) (hk : I64 k) (n2 : 0 ≤ a) (n3 : a ≤ 15) (n4 : 0 ≤ b) (n5 : b ≤ 15) (n6 : 0 ≤ c) (n7 : c ≤ 15) (z0 : ¬ (0 ≤ k)) (w : World) : Calls Tryz.prog 32 #[.agg #[.int .i64 5, .int .i64 a, .int .i64 b, .int .i64 c, .int .i64 k]] w fun e w' => e = .returned (.bool false) ∧ Below w.heap.size w w' := by
 have HFD : Hid (∀ W, Calls Tryz.prog 75 #[.int .i64 5] W fun e w' => e = .returned (.string (rowF 5)) ∧ w' = W) := H! (fun W => yaf 5 (by omega) (by omega) W)
 have HUB : Hid (∀ W, Calls Tryz.prog 76 #[.string (rowF 5), .int .u8 66] W fun e w' => e = .returned (.bool true) ∧ w' = W) := H! (fun W => by have := yab (rowF 5) (by decide) 66 W; rwa [show holds (rowF 5) 66 = true by decide] at this)
 have HUC : Hid (∀ W, Calls Tryz.prog 76 #[.string (rowF 5), .int .u8 67] W fun e w' => e = .returned (.bool true) ∧ w' = W) := H! (fun W => by have := yab (rowF 5) (by decide) 67 W; rwa [show holds (rowF 5) 67 = true by decide] at this)
 have HUK : Hid (∀ W, Calls Tryz.prog 76 #[.string (rowF 5), .int .u8 75] W fun e w' => e = .returned (.bool true) ∧ w' = W) := H! (fun W => by have := yab (rowF 5) (by decide) 75 W; rwa [show holds (rowF 5) 75 = true by decide] at this)
 generalize rowF 5 = s at *
 obtain ⟨m, HM, hm⟩ := yae k
 have hk2 := hk
 unfold I64 at hk2
 simp [Lit.wf, IntKind.min, IntKind.max, IntKind.bits, IntKind.signed] at hk2
 have hm0 : m = 0 := by omega
 rw [hm0] at HM
 clear hm0
 have HTY := H! (fun W => yac 0 (by omega) (by first | exact hk | (exact (by rfl)) | (unfold I64; simp [Lit.wf, IntKind.min, IntKind.max, IntKind.bits, IntKind.signed]; omega)) W)
 clear hm
 go_enter Tryz.func32, Tryz.ntmps32
 go_wp2_with (first | (go_at_call 75; refine (HFD.out _).mono ?_; rintro _ _ ⟨rfl, rfl⟩) | (go_at_call 76; with_reducible (refine (HUB.out _).mono ?_); rintro _ _ ⟨rfl, rfl⟩) | (go_at_call 76; with_reducible (refine (HUC.out _).mono ?_); rintro _ _ ⟨rfl, rfl⟩) | (go_at_call 76; with_reducible (refine (HUK.out _).mono ?_); rintro _ _ ⟨rfl, rfl⟩) | (go_at_call 77; refine (HTY.out _).mono ?_; rintro _ _ ⟨rfl, rfl⟩))
 all_goals go_ret
 all_goals exact ⟨by first | rfl | (simp [*]; done) | (simp; omega), bw⟩
theorem rfo_5_1 (a b c k : Int) (hk : I64 k) (n2 : 0 ≤ a) (n3 : a ≤ 15) (n4 : 0 ≤ b) (n5 : b ≤ 15) (n6 : 0 ≤ c) (n7 : c ≤ 15) (c0 : 0 ≤ k) (z1 : ¬ (k < 2097152)) (w : World) : Calls Tryz.prog 32 #[.agg #[.int .i64 5, .int .i64 a, .int .i64 b, .int .i64 c, .int .i64 k]] w fun e w' => e = .returned (.bool false) ∧ Below w.heap.size w w' := by
 have HFD : Hid (∀ W, Calls Tryz.prog 75 #[.int .i64 5] W fun e w' => e = .returned (.string (rowF 5)) ∧ w' = W) := H! (fun W => yaf 5 (by omega) (by omega) W)
 have HUB : Hid (∀ W, Calls Tryz.prog 76 #[.string (rowF 5), .int .u8 66] W fun e w' => e = .returned (.bool true) ∧ w' = W) := H! (fun W => by have := yab (rowF 5) (by decide) 66 W; rwa [show holds (rowF 5) 66 = true by decide] at this)
 have HUC : Hid (∀ W, Calls Tryz.prog 76 #[.string (rowF 5), .int .u8 67] W fun e w' => e = .returned (.bool true) ∧ w' = W) := H! (fun W => by have := yab (rowF 5) (by decide) 67 W; rwa [show holds (rowF 5) 67 = true by decide] at this)
 have HUK : Hid (∀ W, Calls Tryz.prog 76 #[.string (rowF 5), .int .u8 75] W fun e w' => e = .returned (.bool true) ∧ w' = W) := H! (fun W => by have := yab (rowF 5) (by decide) 75 W; rwa [show holds (rowF 5) 75 = true by decide] at this)
 generalize rowF 5 = s at *
 obtain ⟨m, HM, hm⟩ := yae k
 have hk2 := hk
 unfold I64 at hk2
 simp [Lit.wf, IntKind.min, IntKind.max, IntKind.bits, IntKind.signed] at hk2
 have hm0 : m = k := by omega
 rw [hm0] at HM
 clear hm0
 have HTY := H! (fun W => yac k (by omega) (by first | exact hk | (exact (by rfl)) | (unfold I64; simp [Lit.wf, IntKind.min, IntKind.max, IntKind.bits, IntKind.signed]; omega)) W)
 clear hm
 have q1 : ¬ k / 16384 < 128 := by omega
 go_enter Tryz.func32, Tryz.ntmps32
 go_wp2_with (first | (go_at_call 75; refine (HFD.out _).mono ?_; rintro _ _ ⟨rfl, rfl⟩) | (go_at_call 76; with_reducible (refine (HUB.out _).mono ?_); rintro _ _ ⟨rfl, rfl⟩) | (go_at_call 76; with_reducible (refine (HUC.out _).mono ?_); rintro _ _ ⟨rfl, rfl⟩) | (go_at_call 76; with_reducible (refine (HUK.out _).mono ?_); rintro _ _ ⟨rfl, rfl⟩) | (go_at_call 77; refine (HTY.out _).mono ?_; rintro _ _ ⟨rfl, rfl⟩))
 all_goals go_ret
 all_goals exact ⟨by first | rfl | (simp [*]; done) | (simp; omega), bw⟩
theorem rfo_5_2 (a b c k : Int) (hk : I64 k) (n2 : 0 ≤ a) (n3 : a ≤ 15) (n4 : 0 ≤ b) (n5 : b ≤ 15) (n6 : 0 ≤ c) (n7 : c ≤ 15) (c0 : 0 ≤ k) (c1 : k < 2097152) (w : World) : Calls Tryz.prog 32 #[.agg #[.int .i64 5, .int .i64 a, .int .i64 b, .int .i64 c, .int .i64 k]] w fun e w' => e = .returned (.bool true) ∧ Below w.heap.size w w' := by
 have HFD : Hid (∀ W, Calls Tryz.prog 75 #[.int .i64 5] W fun e w' => e = .returned (.string (rowF 5)) ∧ w' = W) := H! (fun W => yaf 5 (by omega) (by omega) W)
 have HUB : Hid (∀ W, Calls Tryz.prog 76 #[.string (rowF 5), .int .u8 66] W fun e w' => e = .returned (.bool true) ∧ w' = W) := H! (fun W => by have := yab (rowF 5) (by decide) 66 W; rwa [show holds (rowF 5) 66 = true by decide] at this)
 have HUC : Hid (∀ W, Calls Tryz.prog 76 #[.string (rowF 5), .int .u8 67] W fun e w' => e = .returned (.bool true) ∧ w' = W) := H! (fun W => by have := yab (rowF 5) (by decide) 67 W; rwa [show holds (rowF 5) 67 = true by decide] at this)
 have HUK : Hid (∀ W, Calls Tryz.prog 76 #[.string (rowF 5), .int .u8 75] W fun e w' => e = .returned (.bool true) ∧ w' = W) := H! (fun W => by have := yab (rowF 5) (by decide) 75 W; rwa [show holds (rowF 5) 75 = true by decide] at this)
 generalize rowF 5 = s at *
 obtain ⟨m, HM, hm⟩ := yae k
 have hk2 := hk
 unfold I64 at hk2
 simp [Lit.wf, IntKind.min, IntKind.max, IntKind.bits, IntKind.signed] at hk2
 have hm0 : m = k := by omega
 rw [hm0] at HM
 clear hm0
 have HTY := H! (fun W => yac k (by omega) (by first | exact hk | (exact (by rfl)) | (unfold I64; simp [Lit.wf, IntKind.min, IntKind.max, IntKind.bits, IntKind.signed]; omega)) W)
 clear hm
 have q1 : k / 16384 < 128 := by omega
 go_enter Tryz.func32, Tryz.ntmps32
 go_wp2_with (first | (go_at_call 75; refine (HFD.out _).mono ?_; rintro _ _ ⟨rfl, rfl⟩) | (go_at_call 76; with_reducible (refine (HUB.out _).mono ?_); rintro _ _ ⟨rfl, rfl⟩) | (go_at_call 76; with_reducible (refine (HUC.out _).mono ?_); rintro _ _ ⟨rfl, rfl⟩) | (go_at_call 76; with_reducible (refine (HUK.out _).mono ?_); rintro _ _ ⟨rfl, rfl⟩) | (go_at_call 77; refine (HTY.out _).mono ?_; rintro _ _ ⟨rfl, rfl⟩))
 all_goals go_ret
 all_goals exact ⟨by first | rfl | (simp [*]; done) | (simp; omega), bw⟩
theorem rfo_6_0 (a b c k : Int) (hk : I64 k) (n2 : 0 ≤ a) (n3 : a ≤ 15) (n4 : 0 ≤ b) (n5 : b ≤ 15) (n6 : 0 ≤ c) (n7 : c ≤ 15) (z0 : ¬ (0 ≤ k)) (w : World) : Calls Tryz.prog 32 #[.agg #[.int .i64 6, .int .i64 a, .int .i64 b, .int .i64 c, .int .i64 k]] w fun e w' => e = .returned (.bool false) ∧ Below w.heap.size w w' := by
 have HFD : Hid (∀ W, Calls Tryz.prog 75 #[.int .i64 6] W fun e w' => e = .returned (.string (rowF 6)) ∧ w' = W) := H! (fun W => yaf 6 (by omega) (by omega) W)
 have HUB : Hid (∀ W, Calls Tryz.prog 76 #[.string (rowF 6), .int .u8 66] W fun e w' => e = .returned (.bool true) ∧ w' = W) := H! (fun W => by have := yab (rowF 6) (by decide) 66 W; rwa [show holds (rowF 6) 66 = true by decide] at this)
 have HUC : Hid (∀ W, Calls Tryz.prog 76 #[.string (rowF 6), .int .u8 67] W fun e w' => e = .returned (.bool true) ∧ w' = W) := H! (fun W => by have := yab (rowF 6) (by decide) 67 W; rwa [show holds (rowF 6) 67 = true by decide] at this)
 have HUK : Hid (∀ W, Calls Tryz.prog 76 #[.string (rowF 6), .int .u8 75] W fun e w' => e = .returned (.bool true) ∧ w' = W) := H! (fun W => by have := yab (rowF 6) (by decide) 75 W; rwa [show holds (rowF 6) 75 = true by decide] at this)
 generalize rowF 6 = s at *
 obtain ⟨m, HM, hm⟩ := yae k
 have hk2 := hk
 unfold I64 at hk2
 simp [Lit.wf, IntKind.min, IntKind.max, IntKind.bits, IntKind.signed] at hk2
 have hm0 : m = 0 := by omega
 rw [hm0] at HM
 clear hm0
 have HTY := H! (fun W => yac 0 (by omega) (by first | exact hk | (exact (by rfl)) | (unfold I64; simp [Lit.wf, IntKind.min, IntKind.max, IntKind.bits, IntKind.signed]; omega)) W)
 clear hm
 go_enter Tryz.func32, Tryz.ntmps32
 go_wp2_with (first | (go_at_call 75; refine (HFD.out _).mono ?_; rintro _ _ ⟨rfl, rfl⟩) | (go_at_call 76; with_reducible (refine (HUB.out _).mono ?_); rintro _ _ ⟨rfl, rfl⟩) | (go_at_call 76; with_reducible (refine (HUC.out _).mono ?_); rintro _ _ ⟨rfl, rfl⟩) | (go_at_call 76; with_reducible (refine (HUK.out _).mono ?_); rintro _ _ ⟨rfl, rfl⟩) | (go_at_call 77; refine (HTY.out _).mono ?_; rintro _ _ ⟨rfl, rfl⟩))
 all_goals go_ret
 all_goals exact ⟨by first | rfl | (simp [*]; done) | (simp; omega), bw⟩
theorem rfo_6_1 (a b c k : Int) (hk : I64 k) (n2 : 0 ≤ a) (n3 : a ≤ 15) (n4 : 0 ≤ b) (n5 : b ≤ 15) (n6 : 0 ≤ c) (n7 : c ≤ 15) (c0 : 0 ≤ k) (z1 : ¬ (k < 2097152)) (w : World) : Calls Tryz.prog 32 #[.agg #[.int .i64 6, .int .i64 a, .int .i64 b, .int .i64 c, .int .i64 k]] w fun e w' => e = .returned (.bool false) ∧ Below w.heap.size w w' := by
 have HFD : Hid (∀ W, Calls Tryz.prog 75 #[.int .i64 6] W fun e w' => e = .returned (.string (rowF 6)) ∧ w' = W) := H! (fun W => yaf 6 (by omega) (by omega) W)
 have HUB : Hid (∀ W, Calls Tryz.prog 76 #[.string (rowF 6), .int .u8 66] W fun e w' => e = .returned (.bool true) ∧ w' = W) := H! (fun W => by have := yab (rowF 6) (by decide) 66 W; rwa [show holds (rowF 6) 66 = true by decide] at this)
 have HUC : Hid (∀ W, Calls Tryz.prog 76 #[.string (rowF 6), .int .u8 67] W fun e w' => e = .returned (.bool true) ∧ w' = W) := H! (fun W => by have := yab (rowF 6) (by decide) 67 W; rwa [show holds (rowF 6) 67 = true by decide] at this)
 have HUK : Hid (∀ W, Calls Tryz.prog 76 #[.string (rowF 6), .int .u8 75] W fun e w' => e = .returned (.bool true) ∧ w' = W) := H! (fun W => by have := yab (rowF 6) (by decide) 75 W; rwa [show holds (rowF 6) 75 = true by decide] at this)
 generalize rowF 6 = s at *
 obtain ⟨m, HM, hm⟩ := yae k
 have hk2 := hk
 unfold I64 at hk2
 simp [Lit.wf, IntKind.min, IntKind.max, IntKind.bits, IntKind.signed] at hk2
 have hm0 : m = k := by omega
 rw [hm0] at HM
 clear hm0
 have HTY := H! (fun W => yac k (by omega) (by first | exact hk | (exact (by rfl)) | (unfold I64; simp [Lit.wf, IntKind.min, IntKind.max, IntKind.bits, IntKind.signed]; omega)) W)
 clear hm
 have q1 : ¬ k / 16384 < 128 := by omega
 go_enter Tryz.func32, Tryz.ntmps32
 go_wp2_with (first | (go_at_call 75; refine (HFD.out _).mono ?_; rintro _ _ ⟨rfl, rfl⟩) | (go_at_call 76; with_reducible (refine (HUB.out _).mono ?_); rintro _ _ ⟨rfl, rfl⟩) | (go_at_call 76; with_reducible (refine (HUC.out _).mono ?_); rintro _ _ ⟨rfl, rfl⟩) | (go_at_call 76; with_reducible (refine (HUK.out _).mono ?_); rintro _ _ ⟨rfl, rfl⟩) | (go_at_call 77; refine (HTY.out _).mono ?_; rintro _ _ ⟨rfl, rfl⟩))
 all_goals go_ret
 all_goals exact ⟨by first | rfl | (simp [*]; done) | (simp; omega), bw⟩
theorem rfo_6_2 (a b c k : Int) (hk : I64 k) (n2 : 0 ≤ a) (n3 : a ≤ 15) (n4 : 0 ≤ b) (n5 : b ≤ 15) (n6 : 0 ≤ c) (n7 : c ≤ 15) (c0 : 0 ≤ k) (c1 : k < 2097152) (w : World) : Calls Tryz.prog 32 #[.agg #[.int .i64 6, .int .i64 a, .int .i64 b, .int .i64 c, .int .i64 k]] w fun e w' => e = .returned (.bool true) ∧ Below w.heap.size w w' := by
 have HFD : Hid (∀ W, Calls Tryz.prog 75 #[.int .i64 6] W fun e w' => e = .returned (.string (rowF 6)) ∧ w' = W) := H! (fun W => yaf 6 (by omega) (by omega) W)
 have HUB : Hid (∀ W, Calls Tryz.prog 76 #[.string (rowF 6), .int .u8 66] W fun e w' => e = .returned (.bool true) ∧ w' = W) := H! (fun W => by have := yab (rowF 6) (by decide) 66 W; rwa [show holds (rowF 6) 66 = true by decide] at this)
 have HUC : Hid (∀ W, Calls Tryz.prog 76 #[.string (rowF 6), .int .u8 67] W fun e w' => e = .returned (.bool true) ∧ w' = W) := H! (fun W => by have := yab (rowF 6) (by decide) 67 W; rwa [show holds (rowF 6) 67 = true by decide] at this)
 have HUK : Hid (∀ W, Calls Tryz.prog 76 #[.string (rowF 6), .int .u8 75] W fun e w' => e = .returned (.bool true) ∧ w' = W) := H! (fun W => by have := yab (rowF 6) (by decide) 75 W; rwa [show holds (rowF 6) 75 = true by decide] at this)
 generalize rowF 6 = s at *
 obtain ⟨m, HM, hm⟩ := yae k
 have hk2 := hk
 unfold I64 at hk2
 simp [Lit.wf, IntKind.min, IntKind.max, IntKind.bits, IntKind.signed] at hk2
 have hm0 : m = k := by omega
 rw [hm0] at HM
 clear hm0
 have HTY := H! (fun W => yac k (by omega) (by first | exact hk | (exact (by rfl)) | (unfold I64; simp [Lit.wf, IntKind.min, IntKind.max, IntKind.bits, IntKind.signed]; omega)) W)
 clear hm
 have q1 : k / 16384 < 128 := by omega
 go_enter Tryz.func32, Tryz.ntmps32
 go_wp2_with (first | (go_at_call 75; refine (HFD.out _).mono ?_; rintro _ _ ⟨rfl, rfl⟩) | (go_at_call 76; with_reducible (refine (HUB.out _).mono ?_); rintro _ _ ⟨rfl, rfl⟩) | (go_at_call 76; with_reducible (refine (HUC.out _).mono ?_); rintro _ _ ⟨rfl, rfl⟩) | (go_at_call 76; with_reducible (refine (HUK.out _).mono ?_); rintro _ _ ⟨rfl, rfl⟩) | (go_at_call 77; refine (HTY.out _).mono ?_; rintro _ _ ⟨rfl, rfl⟩))
 all_goals go_ret
 all_goals exact ⟨by first | rfl | (simp [*]; done) | (simp; omega), bw⟩
theorem rfo_7_0 (a b c k : Int) (hk : I64 k) (n2 : 0 ≤ a) (n3 : a ≤ 15) (n4 : 0 ≤ b) (n5 : b ≤ 15) (n6 : 0 ≤ c) (n7 : c ≤ 15) (z0 : ¬ (0 ≤ k)) (w : World) : Calls Tryz.prog 32 #[.agg #[.int .i64 7, .int .i64 a, .int .i64 b, .int .i64 c, .int .i64 k]] w fun e w' => e = .returned (.bool false) ∧ Below w.heap.size w w' := by
 have HFD : Hid (∀ W, Calls Tryz.prog 75 #[.int .i64 7] W fun e w' => e = .returned (.string (rowF 7)) ∧ w' = W) := H! (fun W => yaf 7 (by omega) (by omega) W)
 have HUB : Hid (∀ W, Calls Tryz.prog 76 #[.string (rowF 7), .int .u8 66] W fun e w' => e = .returned (.bool true) ∧ w' = W) := H! (fun W => by have := yab (rowF 7) (by decide) 66 W; rwa [show holds (rowF 7) 66 = true by decide] at this)
 have HUC : Hid (∀ W, Calls Tryz.prog 76 #[.string (rowF 7), .int .u8 67] W fun e w' => e = .returned (.bool true) ∧ w' = W) := H! (fun W => by have := yab (rowF 7) (by decide) 67 W; rwa [show holds (rowF 7) 67 = true by decide] at this)
 have HUK : Hid (∀ W, Calls Tryz.prog 76 #[.string (rowF 7), .int .u8 75] W fun e w' => e = .returned (.bool true) ∧ w' = W) := H! (fun W => by have := yab (rowF 7) (by decide) 75 W; rwa [show holds (rowF 7) 75 = true by decide] at this)
 generalize rowF 7 = s at *
 obtain ⟨m, HM, hm⟩ := yae k
 have hk2 := hk
 unfold I64 at hk2
 simp [Lit.wf, IntKind.min, IntKind.max, IntKind.bits, IntKind.signed] at hk2
 have hm0 : m = 0 := by omega
 rw [hm0] at HM
 clear hm0
 have HTY := H! (fun W => yac 0 (by omega) (by first | exact hk | (exact (by rfl)) | (unfold I64; simp [Lit.wf, IntKind.min, IntKind.max, IntKind.bits, IntKind.signed]; omega)) W)
 clear hm
 go_enter Tryz.func32, Tryz.ntmps32
 go_wp2_with (first | (go_at_call 75; refine (HFD.out _).mono ?_; rintro _ _ ⟨rfl, rfl⟩) | (go_at_call 76; with_reducible (refine (HUB.out _).mono ?_); rintro _ _ ⟨rfl, rfl⟩) | (go_at_call 76; with_reducible (refine (HUC.out _).mono ?_); rintro _ _ ⟨rfl, rfl⟩) | (go_at_call 76; with_reducible (refine (HUK.out _).mono ?_); rintro _ _ ⟨rfl, rfl⟩) | (go_at_call 77; refine (HTY.out _).mono ?_; rintro _ _ ⟨rfl, rfl⟩))
 all_goals go_ret
 all_goals exact ⟨by first | rfl | (simp [*]; done) | (simp; omega), bw⟩
theorem rfo_7_1 (a b c k : Int) (hk : I64 k) (n2 : 0 ≤ a) (n3 : a ≤ 15) (n4 : 0 ≤ b) (n5 : b ≤ 15) (n6 : 0 ≤ c) (n7 : c ≤ 15) (c0 : 0 ≤ k) (z1 : ¬ (k < 2097152)) (w : World) : Calls Tryz.prog 32 #[.agg #[.int .i64 7, .int .i64 a, .int .i64 b, .int .i64 c, .int .i64 k]] w fun e w' => e = .returned (.bool false) ∧ Below w.heap.size w w' := by
 have HFD : Hid (∀ W, Calls Tryz.prog 75 #[.int .i64 7] W fun e w' => e = .returned (.string (rowF 7)) ∧ w' = W) := H! (fun W => yaf 7 (by omega) (by omega) W)
 have HUB : Hid (∀ W, Calls Tryz.prog 76 #[.string (rowF 7), .int .u8 66] W fun e w' => e = .returned (.bool true) ∧ w' = W) := H! (fun W => by have := yab (rowF 7) (by decide) 66 W; rwa [show holds (rowF 7) 66 = true by decide] at this)
 have HUC : Hid (∀ W, Calls Tryz.prog 76 #[.string (rowF 7), .int .u8 67] W fun e w' => e = .returned (.bool true) ∧ w' = W) := H! (fun W => by have := yab (rowF 7) (by decide) 67 W; rwa [show holds (rowF 7) 67 = true by decide] at this)
 have HUK : Hid (∀ W, Calls Tryz.prog 76 #[.string (rowF 7), .int .u8 75] W fun e w' => e = .returned (.bool true) ∧ w' = W) := H! (fun W => by have := yab (rowF 7) (by decide) 75 W; rwa [show holds (rowF 7) 75 = true by decide] at this)
 generalize rowF 7 = s at *
 obtain ⟨m, HM, hm⟩ := yae k
 have hk2 := hk
 unfold I64 at hk2
 simp [Lit.wf, IntKind.min, IntKind.max, IntKind.bits, IntKind.signed] at hk2
 have hm0 : m = k := by omega
 rw [hm0] at HM
 clear hm0
 have HTY := H! (fun W => yac k (by omega) (by first | exact hk | (exact (by rfl)) | (unfold I64; simp [Lit.wf, IntKind.min, IntKind.max, IntKind.bits, IntKind.signed]; omega)) W)
 clear hm
 have q1 : ¬ k / 16384 < 128 := by omega
 go_enter Tryz.func32, Tryz.ntmps32
 go_wp2_with (first | (go_at_call 75; refine (HFD.out _).mono ?_; rintro _ _ ⟨rfl, rfl⟩) | (go_at_call 76; with_reducible (refine (HUB.out _).mono ?_); rintro _ _ ⟨rfl, rfl⟩) | (go_at_call 76; with_reducible (refine (HUC.out _).mono ?_); rintro _ _ ⟨rfl, rfl⟩) | (go_at_call 76; with_reducible (refine (HUK.out _).mono ?_); rintro _ _ ⟨rfl, rfl⟩) | (go_at_call 77; refine (HTY.out _).mono ?_; rintro _ _ ⟨rfl, rfl⟩))
 all_goals go_ret
 all_goals exact ⟨by first | rfl | (simp [*]; done) | (simp; omega), bw⟩
theorem rfo_7_2 (a b c k : Int) (hk : I64 k) (n2 : 0 ≤ a) (n3 : a ≤ 15) (n4 : 0 ≤ b) (n5 : b ≤ 15) (n6 : 0 ≤ c) (n7 : c ≤ 15) (c0 : 0 ≤ k) (c1 : k < 2097152) (w : World) : Calls Tryz.prog 32 #[.agg #[.int .i64 7, .int .i64 a, .int .i64 b, .int .i64 c, .int .i64 k]] w fun e w' => e = .returned (.bool true) ∧ Below w.heap.size w w' := by
 have HFD : Hid (∀ W, Calls Tryz.prog 75 #[.int .i64 7] W fun e w' => e = .returned (.string (rowF 7)) ∧ w' = W) := H! (fun W => yaf 7 (by omega) (by omega) W)
 have HUB : Hid (∀ W, Calls Tryz.prog 76 #[.string (rowF 7), .int .u8 66] W fun e w' => e = .returned (.bool true) ∧ w' = W) := H! (fun W => by have := yab (rowF 7) (by decide) 66 W; rwa [show holds (rowF 7) 66 = true by decide] at this)
 have HUC : Hid (∀ W, Calls Tryz.prog 76 #[.string (rowF 7), .int .u8 67] W fun e w' => e = .returned (.bool true) ∧ w' = W) := H! (fun W => by have := yab (rowF 7) (by decide) 67 W; rwa [show holds (rowF 7) 67 = true by decide] at this)
 have HUK : Hid (∀ W, Calls Tryz.prog 76 #[.string (rowF 7), .int .u8 75] W fun e w' => e = .returned (.bool true) ∧ w' = W) := H! (fun W => by have := yab (rowF 7) (by decide) 75 W; rwa [show holds (rowF 7) 75 = true by decide] at this)
 generalize rowF 7 = s at *
 obtain ⟨m, HM, hm⟩ := yae k
 have hk2 := hk
 unfold I64 at hk2
 simp [Lit.wf, IntKind.min, IntKind.max, IntKind.bits, IntKind.signed] at hk2
 have hm0 : m = k := by omega
 rw [hm0] at HM
 clear hm0
 have HTY := H! (fun W => yac k (by omega) (by first | exact hk | (exact (by rfl)) | (unfold I64; simp [Lit.wf, IntKind.min, IntKind.max, IntKind.bits, IntKind.signed]; omega)) W)
 clear hm
 have q1 : k / 16384 < 128 := by omega
 go_enter Tryz.func32, Tryz.ntmps32
 go_wp2_with (first | (go_at_call 75; refine (HFD.out _).mono ?_; rintro _ _ ⟨rfl, rfl⟩) | (go_at_call 76; with_reducible (refine (HUB.out _).mono ?_); rintro _ _ ⟨rfl, rfl⟩) | (go_at_call 76; with_reducible (refine (HUC.out _).mono ?_); rintro _ _ ⟨rfl, rfl⟩) | (go_at_call 76; with_reducible (refine (HUK.out _).mono ?_); rintro _ _ ⟨rfl, rfl⟩) | (go_at_call 77; refine (HTY.out _).mono ?_; rintro _ _ ⟨rfl, rfl⟩))
 all_goals go_ret
 all_goals exact ⟨by first | rfl | (simp [*]; done) | (simp; omega), bw⟩
theorem rfo_8_0 (a b c k : Int) (hk : I64 k) (n2 : 0 ≤ a) (n3 : a ≤ 15) (n4 : 0 ≤ b) (n5 : b ≤ 15) (n6 : 0 ≤ c) (n7 : c ≤ 15) (z0 : ¬ (0 ≤ k)) (w : World) : Calls Tryz.prog 32 #[.agg #[.int .i64 8, .int .i64 a, .int .i64 b, .int .i64 c, .int .i64 k]] w fun e w' => e = .returned (.bool false) ∧ Below w.heap.size w w' := by
 have HFD : Hid (∀ W, Calls Tryz.prog 75 #[.int .i64 8] W fun e w' => e = .returned (.string (rowF 8)) ∧ w' = W) := H! (fun W => yaf 8 (by omega) (by omega) W)
 have HUB : Hid (∀ W, Calls Tryz.prog 76 #[.string (rowF 8), .int .u8 66] W fun e w' => e = .returned (.bool true) ∧ w' = W) := H! (fun W => by have := yab (rowF 8) (by decide) 66 W; rwa [show holds (rowF 8) 66 = true by decide] at this)
 have HUC : Hid (∀ W, Calls Tryz.prog 76 #[.string (rowF 8), .int .u8 67] W fun e w' => e = .returned (.bool true) ∧ w' = W) := H! (fun W => by have := yab (rowF 8) (by decide) 67 W; rwa [show holds (rowF 8) 67 = true by decide] at this)
 have HUK : Hid (∀ W, Calls Tryz.prog 76 #[.string (rowF 8), .int .u8 75] W fun e w' => e = .returned (.bool true) ∧ w' = W) := H! (fun W => by have := yab (rowF 8) (by decide) 75 W; rwa [show holds (rowF 8) 75 = true by decide] at this)
 generalize rowF 8 = s at *
 obtain ⟨m, HM, hm⟩ := yae k
 have hk2 := hk
 unfold I64 at hk2
 simp [Lit.wf, IntKind.min, IntKind.max, IntKind.bits, IntKind.signed] at hk2
 have hm0 : m = 0 := by omega
 rw [hm0] at HM
 clear hm0
 have HTY := H! (fun W => yac 0 (by omega) (by first | exact hk | (exact (by rfl)) | (unfold I64; simp [Lit.wf, IntKind.min, IntKind.max, IntKind.bits, IntKind.signed]; omega)) W)
 clear hm
 go_enter Tryz.func32, Tryz.ntmps32
 go_wp2_with (first | (go_at_call 75; refine (HFD.out _).mono ?_; rintro _ _ ⟨rfl, rfl⟩) | (go_at_call 76; with_reducible (refine (HUB.out _).mono ?_); rintro _ _ ⟨rfl, rfl⟩) | (go_at_call 76; with_reducible (refine (HUC.out _).mono ?_); rintro _ _ ⟨rfl, rfl⟩) | (go_at_call 76; with_reducible (refine (HUK.out _).mono ?_); rintro _ _ ⟨rfl, rfl⟩) | (go_at_call 77; refine (HTY.out _).mono ?_; rintro _ _ ⟨rfl, rfl⟩))
 all_goals go_ret
 all_goals exact ⟨by first | rfl | (simp [*]; done) | (simp; omega), bw⟩
theorem rfo_8_1 (a b c k : Int) (hk : I64 k) (n2 : 0 ≤ a) (n3 : a ≤ 15) (n4 : 0 ≤ b) (n5 : b ≤ 15) (n6 : 0 ≤ c) (n7 : c ≤ 15) (c0 : 0 ≤ k) (z1 : ¬ (k < 2097152)) (w : World) : Calls Tryz.prog 32 #[.agg #[.int .i64 8, .int .i64 a, .int .i64 b, .int .i64 c, .int .i64 k]] w fun e w' => e = .returned (.bool false) ∧ Below w.heap.size w w' := by
 have HFD : Hid (∀ W, Calls Tryz.prog 75 #[.int .i64 8] W fun e w' => e = .returned (.string (rowF 8)) ∧ w' = W) := H! (fun W => yaf 8 (by omega) (by omega) W)
 have HUB : Hid (∀ W, Calls Tryz.prog 76 #[.string (rowF 8), .int .u8 66] W fun e w' => e = .returned (.bool true) ∧ w' = W) := H! (fun W => by have := yab (rowF 8) (by decide) 66 W; rwa [show holds (rowF 8) 66 = true by decide] at this)
 have HUC : Hid (∀ W, Calls Tryz.prog 76 #[.string (rowF 8), .int .u8 67] W fun e w' => e = .returned (.bool true) ∧ w' = W) := H! (fun W => by have := yab (rowF 8) (by decide) 67 W; rwa [show holds (rowF 8) 67 = true by decide] at this)
 have HUK : Hid (∀ W, Calls Tryz.prog 76 #[.string (rowF 8), .int .u8 75] W fun e w' => e = .returned (.bool true) ∧ w' = W) := H! (fun W => by have := yab (rowF 8) (by decide) 75 W; rwa [show holds (rowF 8) 75 = true by decide] at this)
 generalize rowF 8 = s at *
 obtain ⟨m, HM, hm⟩ := yae k
 have hk2 := hk
 unfold I64 at hk2
 simp [Lit.wf, IntKind.min, IntKind.max, IntKind.bits, IntKind.signed] at hk2
 have hm0 : m = k := by omega
 rw [hm0] at HM
 clear hm0
 have HTY := H! (fun W => yac k (by omega) (by first | exact hk | (exact (by rfl)) | (unfold I64; simp [Lit.wf, IntKind.min, IntKind.max, IntKind.bits, IntKind.signed]; omega)) W)
 clear hm
 have q1 : ¬ k / 16384 < 128 := by omega
 go_enter Tryz.func32, Tryz.ntmps32
 go_wp2_with (first | (go_at_call 75; refine (HFD.out _).mono ?_; rintro _ _ ⟨rfl, rfl⟩) | (go_at_call 76; with_reducible (refine (HUB.out _).mono ?_); rintro _ _ ⟨rfl, rfl⟩) | (go_at_call 76; with_reducible (refine (HUC.out _).mono ?_); rintro _ _ ⟨rfl, rfl⟩) | (go_at_call 76; with_reducible (refine (HUK.out _).mono ?_); rintro _ _ ⟨rfl, rfl⟩) | (go_at_call 77; refine (HTY.out _).mono ?_; rintro _ _ ⟨rfl, rfl⟩))
 all_goals go_ret
 all_goals exact ⟨by first | rfl | (simp [*]; done) | (simp; omega), bw⟩
theorem rfo_8_2 (a b c k : Int) (hk : I64 k) (n2 : 0 ≤ a) (n3 : a ≤ 15) (n4 : 0 ≤ b) (n5 : b ≤ 15) (n6 : 0 ≤ c) (n7 : c ≤ 15) (c0 : 0 ≤ k) (c1 : k < 2097152) (w : World) : Calls Tryz.prog 32 #[.agg #[.int .i64 8, .int .i64 a, .int .i64 b, .int .i64 c, .int .i64 k]] w fun e w' => e = .returned (.bool true) ∧ Below w.heap.size w w' := by
 have HFD : Hid (∀ W, Calls Tryz.prog 75 #[.int .i64 8] W fun e w' => e = .returned (.string (rowF 8)) ∧ w' = W) := H! (fun W => yaf 8 (by omega) (by omega) W)
 have HUB : Hid (∀ W, Calls Tryz.prog 76 #[.string (rowF 8), .int .u8 66] W fun e w' => e = .returned (.bool true) ∧ w' = W) := H! (fun W => by have := yab (rowF 8) (by decide) 66 W; rwa [show holds (rowF 8) 66 = true by decide] at this)
 have HUC : Hid (∀ W, Calls Tryz.prog 76 #[.string (rowF 8), .int .u8 67] W fun e w' => e = .returned (.bool true) ∧ w' = W) := H! (fun W => by have := yab (rowF 8) (by decide) 67 W; rwa [show holds (rowF 8) 67 = true by decide] at this)
 have HUK : Hid (∀ W, Calls Tryz.prog 76 #[.string (rowF 8), .int .u8 75] W fun e w' => e = .returned (.bool true) ∧ w' = W) := H! (fun W => by have := yab (rowF 8) (by decide) 75 W; rwa [show holds (rowF 8) 75 = true by decide] at this)
 generalize rowF 8 = s at *
 obtain ⟨m, HM, hm⟩ := yae k
 have hk2 := hk
 unfold I64 at hk2
 simp [Lit.wf, IntKind.min, IntKind.max, IntKind.bits, IntKind.signed] at hk2
 have hm0 : m = k := by omega
 rw [hm0] at HM
 clear hm0
 have HTY := H! (fun W => yac k (by omega) (by first | exact hk | (exact (by rfl)) | (unfold I64; simp [Lit.wf, IntKind.min, IntKind.max, IntKind.bits, IntKind.signed]; omega)) W)
 clear hm
 have q1 : k / 16384 < 128 := by omega
 go_enter Tryz.func32, Tryz.ntmps32
 go_wp2_with (first | (go_at_call 75; refine (HFD.out _).mono ?_; rintro _ _ ⟨rfl, rfl⟩) | (go_at_call 76; with_reducible (refine (HUB.out _).mono ?_); rintro _ _ ⟨rfl, rfl⟩) | (go_at_call 76; with_reducible (refine (HUC.out _).mono ?_); rintro _ _ ⟨rfl, rfl⟩) | (go_at_call 76; with_reducible (refine (HUK.out _).mono ?_); rintro _ _ ⟨rfl, rfl⟩) | (go_at_call 77; refine (HTY.out _).mono ?_; rintro _ _ ⟨rfl, rfl⟩))
 all_goals go_ret
 all_goals exact ⟨by first | rfl | (simp [*]; done) | (simp; omega), bw⟩
end Go.Proofs.YtfooefiaenlhmaaGreat
