/- Lemmas for the laws of package magnetolaw15: what its functions return, for any arguments that the lemmas name. -/
import Derived.Test.YtfooefiaenlhmaaGreatGB11
set_option maxRecDepth 100000
namespace Go.Proofs.YtfooefiaenlhmaaGreat
set_option linter.all false
set_option maxHeartbeats 16000000
open Go.RowKit Go.ChangeShapes Go.WideShapes Go.ChangeAt
theorem rfo_15_0 (a b c : Int) (n2 : 0 ≤ a) (n3 : a ≤ 15) (n4 : 0 ≤ b) (n5 : b ≤ 15) (n6 : 0 ≤ c) (n7 : c ≤ 15) (w : World) : Calls Tryz.prog 32 #[.agg #[.int .i64 15, .int .i64 a, .int .i64 b, .int .i64 c, .int .i64 0]] w fun e w' => e = .returned (.bool true) ∧ Below w.heap.size w w' := by
 have HFD : Hid (∀ W, Calls Tryz.prog 75 #[.int .i64 15] W fun e w' => e = .returned (.string (rowF 15)) ∧ w' = W) := H! (fun W => yaf 15 (by omega) (by omega) W)
 have HUB : Hid (∀ W, Calls Tryz.prog 76 #[.string (rowF 15), .int .u8 66] W fun e w' => e = .returned (.bool true) ∧ w' = W) := H! (fun W => by have := yab (rowF 15) (by decide) 66 W; rwa [show holds (rowF 15) 66 = true by decide] at this)
 have HUC : Hid (∀ W, Calls Tryz.prog 76 #[.string (rowF 15), .int .u8 67] W fun e w' => e = .returned (.bool true) ∧ w' = W) := H! (fun W => by have := yab (rowF 15) (by decide) 67 W; rwa [show holds (rowF 15) 67 = true by decide] at this)
 have HUK : Hid (∀ W, Calls Tryz.prog 76 #[.string (rowF 15), .int .u8 75] W fun e w' => e = .returned (.bool false) ∧ w' = W) := H! (fun W => by have := yab (rowF 15) (by decide) 75 W; rwa [show holds (rowF 15) 75 = false by decide] at this)
 generalize rowF 15 = s at *
 obtain ⟨m, HM, hm⟩ := yae 0
 have hm0 : m = 0 := by omega
 rw [hm0] at HM
 clear hm0
 have HTY := H! (fun W => yac 0 (by omega) (by rfl) W)
 clear hm
 go_enter Tryz.func32, Tryz.ntmps32
 go_wp2_with (first | (go_at_call 75; refine (HFD.out _).mono ?_; rintro _ _ ⟨rfl, rfl⟩) | (go_at_call 76; with_reducible (refine (HUB.out _).mono ?_); rintro _ _ ⟨rfl, rfl⟩) | (go_at_call 76; with_reducible (refine (HUC.out _).mono ?_); rintro _ _ ⟨rfl, rfl⟩) | (go_at_call 76; with_reducible (refine (HUK.out _).mono ?_); rintro _ _ ⟨rfl, rfl⟩) | (go_at_call 77; refine (HTY.out _).mono ?_; rintro _ _ ⟨rfl, rfl⟩))
 all_goals go_ret
 all_goals exact ⟨by first | rfl | (simp [*]; done) | (simp; omega), bw⟩
theorem rfo_16_0 (a b c : Int) (n2 : 0 ≤ a) (n3 : a ≤ 15) (n4 : 0 ≤ b) (n5 : b ≤ 15) (n6 : 0 ≤ c) (n7 : c ≤ 15) (w : World) : Calls Tryz.prog 32 #[.agg #[.int .i64 16, .int .i64 a, .int .i64 b, .int .i64 c, .int .i64 0]] w fun e w' => e = .returned (.bool true) ∧ Below w.heap.size w w' := by
 have HFD : Hid (∀ W, Calls Tryz.prog 75 #[.int .i64 16] W fun e w' => e = .returned (.string (rowF 16)) ∧ w' = W) := H! (fun W => yaf 16 (by omega) (by omega) W)
 have HUB : Hid (∀ W, Calls Tryz.prog 76 #[.string (rowF 16), .int .u8 66] W fun e w' => e = .returned (.bool true) ∧ w' = W) := H! (fun W => by have := yab (rowF 16) (by decide) 66 W; rwa [show holds (rowF 16) 66 = true by decide] at this)
 have HUC : Hid (∀ W, Calls Tryz.prog 76 #[.string (rowF 16), .int .u8 67] W fun e w' => e = .returned (.bool true) ∧ w' = W) := H! (fun W => by have := yab (rowF 16) (by decide) 67 W; rwa [show holds (rowF 16) 67 = true by decide] at this)
 have HUK : Hid (∀ W, Calls Tryz.prog 76 #[.string (rowF 16), .int .u8 75] W fun e w' => e = .returned (.bool false) ∧ w' = W) := H! (fun W => by have := yab (rowF 16) (by decide) 75 W; rwa [show holds (rowF 16) 75 = false by decide] at this)
 generalize rowF 16 = s at *
 obtain ⟨m, HM, hm⟩ := yae 0
 have hm0 : m = 0 := by omega
 rw [hm0] at HM
 clear hm0
 have HTY := H! (fun W => yac 0 (by omega) (by rfl) W)
 clear hm
 go_enter Tryz.func32, Tryz.ntmps32
 go_wp2_with (first | (go_at_call 75; refine (HFD.out _).mono ?_; rintro _ _ ⟨rfl, rfl⟩) | (go_at_call 76; with_reducible (refine (HUB.out _).mono ?_); rintro _ _ ⟨rfl, rfl⟩) | (go_at_call 76; with_reducible (refine (HUC.out _).mono ?_); rintro _ _ ⟨rfl, rfl⟩) | (go_at_call 76; with_reducible (refine (HUK.out _).mono ?_); rintro _ _ ⟨rfl, rfl⟩) | (go_at_call 77; refine (HTY.out _).mono ?_; rintro _ _ ⟨rfl, rfl⟩))
 all_goals go_ret
 all_goals exact ⟨by first | rfl | (simp [*]; done) | (simp; omega), bw⟩
theorem rfo_17_0 (a b c : Int) (n2 : 0 ≤ a) (n3 : a ≤ 15) (n4 : 0 ≤ b) (n5 : b ≤ 15) (n6 : 0 ≤ c) (n7 : c ≤ 15) (w : World) : Calls Tryz.prog 32 #[.agg #[.int .i64 17, .int .i64 a, .int .i64 b, .int .i64 c, .int .i64 0]] w fun e w' => e = .returned (.bool true) ∧ Below w.heap.size w w' := by
 have HFD : Hid (∀ W, Calls Tryz.prog 75 #[.int .i64 17] W fun e w' => e = .returned (.string (rowF 17)) ∧ w' = W) := H! (fun W => yaf 17 (by omega) (by omega) W)
 have HUB : Hid (∀ W, Calls Tryz.prog 76 #[.string (rowF 17), .int .u8 66] W fun e w' => e = .returned (.bool true) ∧ w' = W) := H! (fun W => by have := yab (rowF 17) (by decide) 66 W; rwa [show holds (rowF 17) 66 = true by decide] at this)
 have HUC : Hid (∀ W, Calls Tryz.prog 76 #[.string (rowF 17), .int .u8 67] W fun e w' => e = .returned (.bool true) ∧ w' = W) := H! (fun W => by have := yab (rowF 17) (by decide) 67 W; rwa [show holds (rowF 17) 67 = true by decide] at this)
 have HUK : Hid (∀ W, Calls Tryz.prog 76 #[.string (rowF 17), .int .u8 75] W fun e w' => e = .returned (.bool false) ∧ w' = W) := H! (fun W => by have := yab (rowF 17) (by decide) 75 W; rwa [show holds (rowF 17) 75 = false by decide] at this)
 generalize rowF 17 = s at *
 obtain ⟨m, HM, hm⟩ := yae 0
 have hm0 : m = 0 := by omega
 rw [hm0] at HM
 clear hm0
 have HTY := H! (fun W => yac 0 (by omega) (by rfl) W)
 clear hm
 go_enter Tryz.func32, Tryz.ntmps32
 go_wp2_with (first | (go_at_call 75; refine (HFD.out _).mono ?_; rintro _ _ ⟨rfl, rfl⟩) | (go_at_call 76; with_reducible (refine (HUB.out _).mono ?_); rintro _ _ ⟨rfl, rfl⟩) | (go_at_call 76; with_reducible (refine (HUC.out _).mono ?_); rintro _ _ ⟨rfl, rfl⟩) | (go_at_call 76; with_reducible (refine (HUK.out _).mono ?_); rintro _ _ ⟨rfl, rfl⟩) | (go_at_call 77; refine (HTY.out _).mono ?_; rintro _ _ ⟨rfl, rfl⟩))
 all_goals go_ret
 all_goals exact ⟨by first | rfl | (simp [*]; done) | (simp; omega), bw⟩
theorem rfo_18_0 (a b : Int) (n2 : 0 ≤ a) (n3 : a ≤ 15) (n4 : 0 ≤ b) (n5 : b ≤ 15) (w : World) : Calls Tryz.prog 32 #[.agg #[.int .i64 18, .int .i64 a, .int .i64 b, .int .i64 0, .int .i64 0]] w fun e w' => e = .returned (.bool true) ∧ Below w.heap.size w w' := by
 have HFD : Hid (∀ W, Calls Tryz.prog 75 #[.int .i64 18] W fun e w' => e = .returned (.string (rowF 18)) ∧ w' = W) := H! (fun W => yaf 18 (by omega) (by omega) W)
 have HUB : Hid (∀ W, Calls Tryz.prog 76 #[.string (rowF 18), .int .u8 66] W fun e w' => e = .returned (.bool true) ∧ w' = W) := H! (fun W => by have := yab (rowF 18) (by decide) 66 W; rwa [show holds (rowF 18) 66 = true by decide] at this)
 have HUC : Hid (∀ W, Calls Tryz.prog 76 #[.string (rowF 18), .int .u8 67] W fun e w' => e = .returned (.bool false) ∧ w' = W) := H! (fun W => by have := yab (rowF 18) (by decide) 67 W; rwa [show holds (rowF 18) 67 = false by decide] at this)
 have HUK : Hid (∀ W, Calls Tryz.prog 76 #[.string (rowF 18), .int .u8 75] W fun e w' => e = .returned (.bool false) ∧ w' = W) := H! (fun W => by have := yab (rowF 18) (by decide) 75 W; rwa [show holds (rowF 18) 75 = false by decide] at this)
 generalize rowF 18 = s at *
 obtain ⟨m, HM, hm⟩ := yae 0
 have hm0 : m = 0 := by omega
 rw [hm0] at HM
 clear hm0
 have HTY := H! (fun W => yac 0 (by omega) (by rfl) W)
 clear hm
 go_enter Tryz.func32, Tryz.ntmps32
 go_wp2_with (first | (go_at_call 75; refine (HFD.out _).mono ?_; rintro _ _ ⟨rfl, rfl⟩) | (go_at_call 76; with_reducible (refine (HUB.out _).mono ?_); rintro _ _ ⟨rfl, rfl⟩) | (go_at_call 76; with_reducible (refine (HUC.out _).mono ?_); rintro _ _ ⟨rfl, rfl⟩) | (go_at_call 76; with_reducible (refine (HUK.out _).mono ?_); rintro _ _ ⟨rfl, rfl⟩) | (go_at_call 77; refine (HTY.out _).mono ?_; rintro _ _ ⟨rfl, rfl⟩))
 all_goals go_ret
 all_goals exact ⟨by first | rfl | (simp [*]; done) | (simp; omega), bw⟩
theorem rfo_19_0 (a b c k : Int) (hk : I64 k) (n2 : 0 ≤ a) (n3 : a ≤ 15) (n4 : 0 ≤ b) (n5 : b ≤ 15) (n6 : 0 ≤ c) (n7 : c ≤ 15) (z0 : ¬ (0 ≤ k)) (w : World) : Calls Tryz.prog 32 #[.agg #[.int .i64 19, .int .i64 a, .int .i64 b, .int .i64 c, .int .i64 k]] w fun e w' => e = .returned (.bool false) ∧ Below w.heap.size w w' := by
 have HFD : Hid (∀ W, Calls Tryz.prog 75 #[.int .i64 19] W fun e w' => e = .returned (.string (rowF 19)) ∧ w' = W) := H! (fun W => yaf 19 (by omega) (by omega) W)
 have HUB : Hid (∀ W, Calls Tryz.prog 76 #[.string (rowF 19), .int .u8 66] W fun e w' => e = .returned (.bool true) ∧ w' = W) := H! (fun W => by have := yab (rowF 19) (by decide) 66 W; rwa [show holds (rowF 19) 66 = true by decide] at this)
 have HUC : Hid (∀ W, Calls Tryz.prog 76 #[.string (rowF 19), .int .u8 67] W fun e w' => e = .returned (.bool true) ∧ w' = W) := H! (fun W => by have := yab (rowF 19) (by decide) 67 W; rwa [show holds (rowF 19) 67 = true by decide] at this)
 have HUK : Hid (∀ W, Calls Tryz.prog 76 #[.string (rowF 19), .int .u8 75] W fun e w' => e = .returned (.bool true) ∧ w' = W) := H! (fun W => by have := yab (rowF 19) (by decide) 75 W; rwa [show holds (rowF 19) 75 = true by decide] at this)
 generalize rowF 19 = s at *
 obtain ⟨m, HM, hm⟩ := yae k
 have hk2 := hk
 unfold I64 at hk2
 simp [Lit.wf, IntKind.min, IntKind.max, IntKind.bits, IntKind.signed] at hk2
 have hm0 : m = 0 := by omega
 rw [hm0] at HM
 clear hm0
 have HTY := H! (fun W => yac 0 (by omega) (by first | exact hk | (exact (by rfl)) | (unfold I64; simp [Lit.wf, IntKind.min, IntKind.max, IntKind.bits, IntKind.signed]; omega)) W)
 clear hm
 go_enter Tryz.func32, Tryz.ntmps32
 go_wp2_with (first | (go_at_call 75; refine (HFD.out _).mono ?_; rintro _ _ ⟨rfl, rfl⟩) | (go_at_call 76; with_reducible (refine (HUB.out _).mono ?_); rintro _ _ ⟨rfl, rfl⟩) | (go_at_call 76; with_reducible (refine (HUC.out _).mono ?_); rintro _ _ ⟨rfl, rfl⟩) | (go_at_call 76; with_reducible (refine (HUK.out _).mono ?_); rintro _ _ ⟨rfl, rfl⟩) | (go_at_call 77; refine (HTY.out _).mono ?_; rintro _ _ ⟨rfl, rfl⟩))
 all_goals go_ret
 all_goals exact ⟨by first | rfl | (simp [*]; done) | (simp; omega), bw⟩
theorem rfo_19_1 (a b c k : Int) (hk : I64 k) (n2 : 0 ≤ a) (n3 : a ≤ 15) (n4 : 0 ≤ b) (n5 : b ≤ 15) (n6 : 0 ≤ c) (n7 : c ≤ 15) (c0 : 0 ≤ k) (z1 : ¬ (k < 16)) (w : World) : Calls Tryz.prog 32 #[.agg #[.int .i64 19, .int .i64 a, .int .i64 b, .int .i64 c, .int .i64 k]] w fun e w' => e = .returned (.bool false) ∧ Below w.heap.size w w' := by
 have HFD : Hid (∀ W, Calls Tryz.prog 75 #[.int .i64 19] W fun e w' => e = .returned (.string (rowF 19)) ∧ w' = W) := H! (fun W => yaf 19 (by omega) (by omega) W)
 have HUB : Hid (∀ W, Calls Tryz.prog 76 #[.string (rowF 19), .int .u8 66] W fun e w' => e = .returned (.bool true) ∧ w' = W) := H! (fun W => by have := yab (rowF 19) (by decide) 66 W; rwa [show holds (rowF 19) 66 = true by decide] at this)
 have HUC : Hid (∀ W, Calls Tryz.prog 76 #[.string (rowF 19), .int .u8 67] W fun e w' => e = .returned (.bool true) ∧ w' = W) := H! (fun W => by have := yab (rowF 19) (by decide) 67 W; rwa [show holds (rowF 19) 67 = true by decide] at this)
 have HUK : Hid (∀ W, Calls Tryz.prog 76 #[.string (rowF 19), .int .u8 75] W fun e w' => e = .returned (.bool true) ∧ w' = W) := H! (fun W => by have := yab (rowF 19) (by decide) 75 W; rwa [show holds (rowF 19) 75 = true by decide] at this)
 generalize rowF 19 = s at *
 obtain ⟨m, HM, hm⟩ := yae k
 have hk2 := hk
 unfold I64 at hk2
 simp [Lit.wf, IntKind.min, IntKind.max, IntKind.bits, IntKind.signed] at hk2
 have hm0 : m = k := by omega
 rw [hm0] at HM
 clear hm0
 have HTY := H! (fun W => yac k (by omega) (by first | exact hk | (exact (by rfl)) | (unfold I64; simp [Lit.wf, IntKind.min, IntKind.max, IntKind.bits, IntKind.signed]; omega)) W)
 clear hm
 go_enter Tryz.func32, Tryz.ntmps32
 go_wp2_with (first | (go_at_call 75; refine (HFD.out _).mono ?_; rintro _ _ ⟨rfl, rfl⟩) | (go_at_call 76; with_reducible (refine (HUB.out _).mono ?_); rintro _ _ ⟨rfl, rfl⟩) | (go_at_call 76; with_reducible (refine (HUC.out _).mono ?_); rintro _ _ ⟨rfl, rfl⟩) | (go_at_call 76; with_reducible (refine (HUK.out _).mono ?_); rintro _ _ ⟨rfl, rfl⟩) | (go_at_call 77; refine (HTY.out _).mono ?_; rintro _ _ ⟨rfl, rfl⟩))
 all_goals go_ret
 all_goals exact ⟨by first | rfl | (simp [*]; done) | (simp; omega), bw⟩
theorem rfo_19_2 (a b c k : Int) (hk : I64 k) (n2 : 0 ≤ a) (n3 : a ≤ 15) (n4 : 0 ≤ b) (n5 : b ≤ 15) (n6 : 0 ≤ c) (n7 : c ≤ 15) (c0 : 0 ≤ k) (c1 : k < 16) (w : World) : Calls Tryz.prog 32 #[.agg #[.int .i64 19, .int .i64 a, .int .i64 b, .int .i64 c, .int .i64 k]] w fun e w' => e = .returned (.bool true) ∧ Below w.heap.size w w' := by
 have HFD : Hid (∀ W, Calls Tryz.prog 75 #[.int .i64 19] W fun e w' => e = .returned (.string (rowF 19)) ∧ w' = W) := H! (fun W => yaf 19 (by omega) (by omega) W)
 have HUB : Hid (∀ W, Calls Tryz.prog 76 #[.string (rowF 19), .int .u8 66] W fun e w' => e = .returned (.bool true) ∧ w' = W) := H! (fun W => by have := yab (rowF 19) (by decide) 66 W; rwa [show holds (rowF 19) 66 = true by decide] at this)
 have HUC : Hid (∀ W, Calls Tryz.prog 76 #[.string (rowF 19), .int .u8 67] W fun e w' => e = .returned (.bool true) ∧ w' = W) := H! (fun W => by have := yab (rowF 19) (by decide) 67 W; rwa [show holds (rowF 19) 67 = true by decide] at this)
 have HUK : Hid (∀ W, Calls Tryz.prog 76 #[.string (rowF 19), .int .u8 75] W fun e w' => e = .returned (.bool true) ∧ w' = W) := H! (fun W => by have := yab (rowF 19) (by decide) 75 W; rwa [show holds (rowF 19) 75 = true by decide] at this)
 generalize rowF 19 = s at *
 obtain ⟨m, HM, hm⟩ := yae k
 have hk2 := hk
 unfold I64 at hk2
 simp [Lit.wf, IntKind.min, IntKind.max, IntKind.bits, IntKind.signed] at hk2
 have hm0 : m = k := by omega
 rw [hm0] at HM
 clear hm0
 have HTY := H! (fun W => yac k (by omega) (by first | exact hk | (exact (by rfl)) | (unfold I64; simp [Lit.wf, IntKind.min, IntKind.max, IntKind.bits, IntKind.signed]; omega)) W)
 clear hm
 go_enter Tryz.func32, Tryz.ntmps32
 go_wp2_with (first | (go_at_call 75; refine (HFD.out _).mono ?_; rintro _ _ ⟨rfl, rfl⟩) | (go_at_call 76; with_reducible (refine (HUB.out _).mono ?_); rintro _ _ ⟨rfl, rfl⟩) | (go_at_call 76; with_reducible (refine (HUC.out _).mono ?_); rintro _ _ ⟨rfl, rfl⟩) | (go_at_call 76; with_reducible (refine (HUK.out _).mono ?_); rintro _ _ ⟨rfl, rfl⟩) | (go_at_call 77; refine (HTY.out _).mono ?_; rintro _ _ ⟨rfl, rfl⟩))
 all_goals go_ret
 all_goals exact ⟨by first | rfl | (simp [*]; done) | (simp; omega), bw⟩
theorem rfo_20_0 (a b k : Int) (hk : I64 k) (n2 : 0 ≤ a) (n3 : a ≤ 15) (n4 : 0 ≤ b) (n5 : b ≤ 15) (z0 : ¬ (0 ≤ k)) (w : World) : Calls Tryz.prog 32 #[.agg #[.int .i64 20, .int .i64 a, .int .i64 b, .int .i64 0, .int .i64 k]] w fun e w' => e = .returned (.bool false) ∧ Below w.heap.size w w' := by
 have HFD : Hid (∀ W, Calls Tryz.prog 75 #[.int .i64 20] W fun e w' => e = .returned (.string (rowF 20)) ∧ w' = W) := H! (fun W => yaf 20 (by omega) (by omega) W)
 have HUB : Hid (∀ W, Calls Tryz.prog 76 #[.string (rowF 20), .int .u8 66] W fun e w' => e = .returned (.bool true) ∧ w' = W) := H! (fun W => by have := yab (rowF 20) (by decide) 66 W; rwa [show holds (rowF 20) 66 = true by decide] at this)
 have HUC : Hid (∀ W, Calls Tryz.prog 76 #[.string (rowF 20), .int .u8 67] W fun e w' => e = .returned (.bool false) ∧ w' = W) := H! (fun W => by have := yab (rowF 20) (by decide) 67 W; rwa [show holds (rowF 20) 67 = false by decide] at this)
 have HUK : Hid (∀ W, Calls Tryz.prog 76 #[.string (rowF 20), .int .u8 75] W fun e w' => e = .returned (.bool true) ∧ w' = W) := H! (fun W => by have := yab (rowF 20) (by decide) 75 W; rwa [show holds (rowF 20) 75 = true by decide] at this)
 generalize rowF 20 = s at *
 obtain ⟨m, HM, hm⟩ := yae k
 have hk2 := hk
 unfold I64 at hk2
 simp [Lit.wf, IntKind.min, IntKind.max, IntKind.bits, IntKind.signed] at hk2
 have hm0 : m = 0 := by omega
 rw [hm0] at HM
 clear hm0
 have HTY := H! (fun W => yac 0 (by omega) (by first | exact hk | (exact (by rfl)) | (unfold I64; simp [Lit.wf, IntKind.min, IntKind.max, IntKind.bits, IntKind.signed]; omega)) W)
 clear hm
 go_enter Tryz.func32, Tryz.ntmps32
 go_wp2_with (first | (go_at_call 75; refine (HFD.out _).mono ?_; rintro _ _ ⟨rfl, rfl⟩) | (go_at_call 76; with_reducible (refine (HUB.out _).mono ?_); rintro _ _ ⟨rfl, rfl⟩) | (go_at_call 76; with_reducible (refine (HUC.out _).mono ?_); rintro _ _ ⟨rfl, rfl⟩) | (go_at_call 76; with_reducible (refine (HUK.out _).mono ?_); rintro _ _ ⟨rfl, rfl⟩) | (go_at_call 77; refine (HTY.out _).mono ?_; rintro _ _ ⟨rfl, rfl⟩))
 all_goals go_ret
 all_goals exact ⟨by first | rfl | (simp [*]; done) | (simp; omega), bw⟩
theorem rfo_20_1 (a b k : Int) (hk : I64 k) (n2 : 0 ≤ a) (n3 : a ≤ 15) (n4 : 0 ≤ b) (n5 : b ≤ 15) (c0 : 0 ≤ k) (z1 : ¬ (k ≤ 32767)) (w : World) : Calls Tryz.prog 32 #[.agg #[.int .i64 20, .int .i64 a, .int .i64 b, .int .i64 0, .int .i64 k]] w fun e w' => e = .returned (.bool false) ∧ Below w.heap.size w w' := by
 have HFD : Hid (∀ W, Calls Tryz.prog 75 #[.int .i64 20] W fun e w' => e = .returned (.string (rowF 20)) ∧ w' = W) := H! (fun W => yaf 20 (by omega) (by omega) W)
 have HUB : Hid (∀ W, Calls Tryz.prog 76 #[.string (rowF 20), .int .u8 66] W fun e w' => e = .returned (.bool true) ∧ w' = W) := H! (fun W => by have := yab (rowF 20) (by decide) 66 W; rwa [show holds (rowF 20) 66 = true by decide] at this)
 have HUC : Hid (∀ W, Calls Tryz.prog 76 #[.string (rowF 20), .int .u8 67] W fun e w' => e = .returned (.bool false) ∧ w' = W) := H! (fun W => by have := yab (rowF 20) (by decide) 67 W; rwa [show holds (rowF 20) 67 = false by decide] at this)
 have HUK : Hid (∀ W, Calls Tryz.prog 76 #[.string (rowF 20), .int .u8 75] W fun e w' => e = .returned (.bool true) ∧ w' = W) := H! (fun W => by have := yab (rowF 20) (by decide) 75 W; rwa [show holds (rowF 20) 75 = true by decide] at this)
 generalize rowF 20 = s at *
 obtain ⟨m, HM, hm⟩ := yae k
 have hk2 := hk
 unfold I64 at hk2
 simp [Lit.wf, IntKind.min, IntKind.max, IntKind.bits, IntKind.signed] at hk2
 have hm0 : m = k := by omega
 rw [hm0] at HM
 clear hm0
 have HTY := H! (fun W => yac k (by omega) (by first | exact hk | (exact (by rfl)) | (unfold I64; simp [Lit.wf, IntKind.min, IntKind.max, IntKind.bits, IntKind.signed]; omega)) W)
 clear hm
 go_enter Tryz.func32, Tryz.ntmps32
 go_wp2_with (first | (go_at_call 75; refine (HFD.out _).mono ?_; rintro _ _ ⟨rfl, rfl⟩) | (go_at_call 76; with_reducible (refine (HUB.out _).mono ?_); rintro _ _ ⟨rfl, rfl⟩) | (go_at_call 76; with_reducible (refine (HUC.out _).mono ?_); rintro _ _ ⟨rfl, rfl⟩) | (go_at_call 76; with_reducible (refine (HUK.out _).mono ?_); rintro _ _ ⟨rfl, rfl⟩) | (go_at_call 77; refine (HTY.out _).mono ?_; rintro _ _ ⟨rfl, rfl⟩))
 all_goals go_ret
 all_goals exact ⟨by first | rfl | (simp [*]; done) | (simp; omega), bw⟩
theorem rfo_20_2 (a b k : Int) (hk : I64 k) (n2 : 0 ≤ a) (n3 : a ≤ 15) (n4 : 0 ≤ b) (n5 : b ≤ 15) (c0 : 0 ≤ k) (c1 : k ≤ 32767) (w : World) : Calls Tryz.prog 32 #[.agg #[.int .i64 20, .int .i64 a, .int .i64 b, .int .i64 0, .int .i64 k]] w fun e w' => e = .returned (.bool true) ∧ Below w.heap.size w w' := by
 have HFD : Hid (∀ W, Calls Tryz.prog 75 #[.int .i64 20] W fun e w' => e = .returned (.string (rowF 20)) ∧ w' = W) := H! (fun W => yaf 20 (by omega) (by omega) W)
 have HUB : Hid (∀ W, Calls Tryz.prog 76 #[.string (rowF 20), .int .u8 66] W fun e w' => e = .returned (.bool true) ∧ w' = W) := H! (fun W => by have := yab (rowF 20) (by decide) 66 W; rwa [show holds (rowF 20) 66 = true by decide] at this)
 have HUC : Hid (∀ W, Calls Tryz.prog 76 #[.string (rowF 20), .int .u8 67] W fun e w' => e = .returned (.bool false) ∧ w' = W) := H! (fun W => by have := yab (rowF 20) (by decide) 67 W; rwa [show holds (rowF 20) 67 = false by decide] at this)
 have HUK : Hid (∀ W, Calls Tryz.prog 76 #[.string (rowF 20), .int .u8 75] W fun e w' => e = .returned (.bool true) ∧ w' = W) := H! (fun W => by have := yab (rowF 20) (by decide) 75 W; rwa [show holds (rowF 20) 75 = true by decide] at this)
 generalize rowF 20 = s at *
 obtain ⟨m, HM, hm⟩ := yae k
 have hk2 := hk
 unfold I64 at hk2
 simp [Lit.wf, IntKind.min, IntKind.max, IntKind.bits, IntKind.signed] at hk2
 have hm0 : m = k := by omega
 rw [hm0] at HM
 clear hm0
 have HTY := H! (fun W => yac k (by omega) (by first | exact hk | (exact (by rfl)) | (unfold I64; simp [Lit.wf, IntKind.min, IntKind.max, IntKind.bits, IntKind.signed]; omega)) W)
 clear hm
 go_enter Tryz.func32, Tryz.ntmps32
 go_wp2_with (first | (go_at_call 75; refine (HFD.out _).mono ?_; rintro _ _ ⟨rfl, rfl⟩) | (go_at_call 76; with_reducible (refine (HUB.out _).mono ?_); rintro _ _ ⟨rfl, rfl⟩) | (go_at_call 76; with_reducible (refine (HUC.out _).mono ?_); rintro _ _ ⟨rfl, rfl⟩) | (go_at_call 76; with_reducible (refine (HUK.out _).mono ?_); rintro _ _ ⟨rfl, rfl⟩) | (go_at_call 77; refine (HTY.out _).mono ?_; rintro _ _ ⟨rfl, rfl⟩))
 all_goals go_ret
 all_goals exact ⟨by first | rfl | (simp [*]; done) | (simp; omega), bw⟩
theorem rfo_21_0 (a b c k : Int) (hk : I64 k) (n2 : 0 ≤ a) (n3 : a ≤ 15) (n4 : 0 ≤ b) (n5 : b ≤ 15) (n6 : 0 ≤ c) (n7 : c ≤ 15) (z0 : ¬ (0 ≤ k)) (w : World) : Calls Tryz.prog 32 #[.agg #[.int .i64 21, .int .i64 a, .int .i64 b, .int .i64 c, .int .i64 k]] w fun e w' => e = .returned (.bool false) ∧ Below w.heap.size w w' := by
 have HFD : Hid (∀ W, Calls Tryz.prog 75 #[.int .i64 21] W fun e w' => e = .returned (.string (rowF 21)) ∧ w' = W) := H! (fun W => yaf 21 (by omega) (by omega) W)
 have HUB : Hid (∀ W, Calls Tryz.prog 76 #[.string (rowF 21), .int .u8 66] W fun e w' => e = .returned (.bool true) ∧ w' = W) := H! (fun W => by have := yab (rowF 21) (by decide) 66 W; rwa [show holds (rowF 21) 66 = true by decide] at this)
 have HUC : Hid (∀ W, Calls Tryz.prog 76 #[.string (rowF 21), .int .u8 67] W fun e w' => e = .returned (.bool true) ∧ w' = W) := H! (fun W => by have := yab (rowF 21) (by decide) 67 W; rwa [show holds (rowF 21) 67 = true by decide] at this)
 have HUK : Hid (∀ W, Calls Tryz.prog 76 #[.string (rowF 21), .int .u8 75] W fun e w' => e = .returned (.bool true) ∧ w' = W) := H! (fun W => by have := yab (rowF 21) (by decide) 75 W; rwa [show holds (rowF 21) 75 = true by decide] at this)
 generalize rowF 21 = s at *
 obtain ⟨m, HM, hm⟩ := yae k
 have hk2 := hk
 unfold I64 at hk2
 simp [Lit.wf, IntKind.min, IntKind.max, IntKind.bits, IntKind.signed] at hk2
 have hm0 : m = 0 := by omega
 rw [hm0] at HM
 clear hm0
 have HTY := H! (fun W => yac 0 (by omega) (by first | exact hk | (exact (by rfl)) | (unfold I64; simp [Lit.wf, IntKind.min, IntKind.max, IntKind.bits, IntKind.signed]; omega)) W)
 clear hm
 go_enter Tryz.func32, Tryz.ntmps32
 go_wp2_with (first | (go_at_call 75; refine (HFD.out _).mono ?_; rintro _ _ ⟨rfl, rfl⟩) | (go_at_call 76; with_reducible (refine (HUB.out _).mono ?_); rintro _ _ ⟨rfl, rfl⟩) | (go_at_call 76; with_reducible (refine (HUC.out _).mono ?_); rintro _ _ ⟨rfl, rfl⟩) | (go_at_call 76; with_reducible (refine (HUK.out _).mono ?_); rintro _ _ ⟨rfl, rfl⟩) | (go_at_call 77; refine (HTY.out _).mono ?_; rintro _ _ ⟨rfl, rfl⟩))
 all_goals go_ret
 all_goals exact ⟨by first | rfl | (simp [*]; done) | (simp; omega), bw⟩
theorem rfo_21_1 (a b c k : Int) (hk : I64 k) (n2 : 0 ≤ a) (n3 : a ≤ 15) (n4 : 0 ≤ b) (n5 : b ≤ 15) (n6 : 0 ≤ c) (n7 : c ≤ 15) (c0 : 0 ≤ k) (z1 : ¬ (k ≤ 32767)) (w : World) : Calls Tryz.prog 32 #[.agg #[.int .i64 21, .int .i64 a, .int .i64 b, .int .i64 c, .int .i64 k]] w fun e w' => e = .returned (.bool false) ∧ Below w.heap.size w w' := by
 have HFD : Hid (∀ W, Calls Tryz.prog 75 #[.int .i64 21] W fun e w' => e = .returned (.string (rowF 21)) ∧ w' = W) := H! (fun W => yaf 21 (by omega) (by omega) W)
 have HUB : Hid (∀ W, Calls Tryz.prog 76 #[.string (rowF 21), .int .u8 66] W fun e w' => e = .returned (.bool true) ∧ w' = W) := H! (fun W => by have := yab (rowF 21) (by decide) 66 W; rwa [show holds (rowF 21) 66 = true by decide] at this)
 have HUC : Hid (∀ W, Calls Tryz.prog 76 #[.string (rowF 21), .int .u8 67] W fun e w' => e = .returned (.bool true) ∧ w' = W) := H! (fun W => by have := yab (rowF 21) (by decide) 67 W; rwa [show holds (rowF 21) 67 = true by decide] at this)
 have HUK : Hid (∀ W, Calls Tryz.prog 76 #[.string (rowF 21), .int .u8 75] W fun e w' => e = .returned (.bool true) ∧ w' = W) := H! (fun W => by have := yab (rowF 21) (by decide) 75 W; rwa [show holds (rowF 21) 75 = true by decide] at this)
 generalize rowF 21 = s at *
 obtain ⟨m, HM, hm⟩ := yae k
 have hk2 := hk
 unfold I64 at hk2
 simp [Lit.wf, IntKind.min, IntKind.max, IntKind.bits, IntKind.signed] at hk2
 have hm0 : m = k := by omega
 rw [hm0] at HM
 clear hm0
 have HTY := H! (fun W => yac k (by omega) (by first | exact hk | (exact (by rfl)) | (unfold I64; simp [Lit.wf, IntKind.min, IntKind.max, IntKind.bits, IntKind.signed]; omega)) W)
 clear hm
 go_enter Tryz.func32, Tryz.ntmps32
 go_wp2_with (first | (go_at_call 75; refine (HFD.out _).mono ?_; rintro _ _ ⟨rfl, rfl⟩) | (go_at_call 76; with_reducible (refine (HUB.out _).mono ?_); rintro _ _ ⟨rfl, rfl⟩) | (go_at_call 76; with_reducible (refine (HUC.out _).mono ?_); rintro _ _ ⟨rfl, rfl⟩) | (go_at_call 76; with_reducible (refine (HUK.out _).mono ?_); rintro _ _ ⟨rfl, rfl⟩) | (go_at_call 77; refine (HTY.out _).mono ?_; rintro _ _ ⟨rfl, rfl⟩))
 all_goals go_ret
 all_goals exact ⟨by first | rfl | (simp [*]; done) | (simp; omega), bw⟩
theorem rfo_21_2 (a b c k : Int) (hk : I64 k) (n2 : 0 ≤ a) (n3 : a ≤ 15) (n4 : 0 ≤ b) (n5 : b ≤ 15) (n6 : 0 ≤ c) (n7 : c ≤ 15) (c0 : 0 ≤ k) (c1 : k ≤ 32767) (w : World) : Calls Tryz.prog 32 #[.agg #[.int .i64 21, .int .i64 a, .int .i64 b, .int .i64 c, .int .i64 k]] w fun e w' => e = .returned (.bool true) ∧ Below w.heap.size w w' := by
 have HFD : Hid (∀ W, Calls Tryz.prog 75 #[.int .i64 21] W fun e w' => e = .returned (.string (rowF 21)) ∧ w' = W) := H! (fun W => yaf 21 (by omega) (by omega) W)
 have HUB : Hid (∀ W, Calls Tryz.prog 76 #[.string (rowF 21), .int .u8 66] W fun e w' => e = .returned (.bool true) ∧ w' = W) := H! (fun W => by have := yab (rowF 21) (by decide) 66 W; rwa [show holds (rowF 21) 66 = true by decide] at this)
 have HUC : Hid (∀ W, Calls Tryz.prog 76 #[.string (rowF 21), .int .u8 67] W fun e w' => e = .returned (.bool true) ∧ w' = W) := H! (fun W => by have := yab (rowF 21) (by decide) 67 W; rwa [show holds (rowF 21) 67 = true by decide] at this)
 have HUK : Hid (∀ W, Calls Tryz.prog 76 #[.string (rowF 21), .int .u8 75] W fun e w' => e = .returned (.bool true) ∧ w' = W) := H! (fun W => by have := yab (rowF 21) (by decide) 75 W; rwa [show holds (rowF 21) 75 = true by decide] at this)
 generalize rowF 21 = s at *
 obtain ⟨m, HM, hm⟩ := yae k
 have hk2 := hk
 unfold I64 at hk2
 simp [Lit.wf, IntKind.min, IntKind.max, IntKind.bits, IntKind.signed] at hk2
 have hm0 : m = k := by omega
 rw [hm0] at HM
 clear hm0
 have HTY := H! (fun W => yac k (by omega) (by first | exact hk | (exact (by rfl)) | (unfold I64; simp [Lit.wf, IntKind.min, IntKind.max, IntKind.bits, IntKind.signed]; omega)) W)
 clear hm
 go_enter Tryz.func32, Tryz.ntmps32
 go_wp2_with (first | (go_at_call 75; refine (HFD.out _).mono ?_; rintro _ _ ⟨rfl, rfl⟩) | (go_at_call 76; with_reducible (refine (HUB.out _).mono ?_); rintro _ _ ⟨rfl, rfl⟩) | (go_at_call 76; with_reducible (refine (HUC.out _).mono ?_); rintro _ _ ⟨rfl, rfl⟩) | (go_at_call 76; with_reducible (refine (HUK.out _).mono ?_); rintro _ _ ⟨rfl, rfl⟩) | (go_at_call 77; refine (HTY.out _).mono ?_; rintro _ _ ⟨rfl, rfl⟩))
 all_goals go_ret
 all_goals exact ⟨by first | rfl | (simp [*]; done) | (simp; omega), bw⟩
theorem rfo_22_0 (a b k : Int) (hk : I64 k) (n2 : 0 ≤ a) (n3 : a ≤ 15) (n4 : 0 ≤ b) (n5 : b ≤ 15) (z0 : ¬ (0 ≤ k)) (w : World) : Calls Tryz.prog 32 #[.agg #[.int .i64 22, .int .i64 a, .int .i64 b, .int .i64 0, .int .i64 k]] w fun e w' => e = .returned (.bool false) ∧ Below w.heap.size w w' := by
 have HFD : Hid (∀ W, Calls Tryz.prog 75 #[.int .i64 22] W fun e w' => e = .returned (.string (rowF 22)) ∧ w' = W) := H! (fun W => yaf 22 (by omega) (by omega) W)
 have HUB : Hid (∀ W, Calls Tryz.prog 76 #[.string (rowF 22), .int .u8 66] W fun e w' => e = .returned (.bool true) ∧ w' = W) := H! (fun W => by have := yab (rowF 22) (by decide) 66 W; rwa [show holds (rowF 22) 66 = true by decide] at this)
 have HUC : Hid (∀ W, Calls Tryz.prog 76 #[.string (rowF 22), .int .u8 67] W fun e w' => e = .returned (.bool false) ∧ w' = W) := H! (fun W => by have := yab (rowF 22) (by decide) 67 W; rwa [show holds (rowF 22) 67 = false by decide] at this)
 have HUK : Hid (∀ W, Calls Tryz.prog 76 #[.string (rowF 22), .int .u8 75] W fun e w' => e = .returned (.bool true) ∧ w' = W) := H! (fun W => by have := yab (rowF 22) (by decide) 75 W; rwa [show holds (rowF 22) 75 = true by decide] at this)
 generalize rowF 22 = s at *
 obtain ⟨m, HM, hm⟩ := yae k
 have hk2 := hk
 unfold I64 at hk2
 simp [Lit.wf, IntKind.min, IntKind.max, IntKind.bits, IntKind.signed] at hk2
 have hm0 : m = 0 := by omega
 rw [hm0] at HM
 clear hm0
 have HTY := H! (fun W => yac 0 (by omega) (by first | exact hk | (exact (by rfl)) | (unfold I64; simp [Lit.wf, IntKind.min, IntKind.max, IntKind.bits, IntKind.signed]; omega)) W)
 clear hm
 go_enter Tryz.func32, Tryz.ntmps32
 go_wp2_with (first | (go_at_call 75; refine (HFD.out _).mono ?_; rintro _ _ ⟨rfl, rfl⟩) | (go_at_call 76; with_reducible (refine (HUB.out _).mono ?_); rintro _ _ ⟨rfl, rfl⟩) | (go_at_call 76; with_reducible (refine (HUC.out _).mono ?_); rintro _ _ ⟨rfl, rfl⟩) | (go_at_call 76; with_reducible (refine (HUK.out _).mono ?_); rintro _ _ ⟨rfl, rfl⟩) | (go_at_call 77; refine (HTY.out _).mono ?_; rintro _ _ ⟨rfl, rfl⟩))
 all_goals go_ret
 all_goals exact ⟨by first | rfl | (simp [*]; done) | (simp; omega), bw⟩
theorem rfo_22_1 (a b k : Int) (hk : I64 k) (n2 : 0 ≤ a) (n3 : a ≤ 15) (n4 : 0 ≤ b) (n5 : b ≤ 15) (c0 : 0 ≤ k) (z1 : ¬ (k ≤ 32767)) (w : World) : Calls Tryz.prog 32 #[.agg #[.int .i64 22, .int .i64 a, .int .i64 b, .int .i64 0, .int .i64 k]] w fun e w' => e = .returned (.bool false) ∧ Below w.heap.size w w' := by
 have HFD : Hid (∀ W, Calls Tryz.prog 75 #[.int .i64 22] W fun e w' => e = .returned (.string (rowF 22)) ∧ w' = W) := H! (fun W => yaf 22 (by omega) (by omega) W)
 have HUB : Hid (∀ W, Calls Tryz.prog 76 #[.string (rowF 22), .int .u8 66] W fun e w' => e = .returned (.bool true) ∧ w' = W) := H! (fun W => by have := yab (rowF 22) (by decide) 66 W; rwa [show holds (rowF 22) 66 = true by decide] at this)
 have HUC : Hid (∀ W, Calls Tryz.prog 76 #[.string (rowF 22), .int .u8 67] W fun e w' => e = .returned (.bool false) ∧ w' = W) := H! (fun W => by have := yab (rowF 22) (by decide) 67 W; rwa [show holds (rowF 22) 67 = false by decide] at this)
 have HUK : Hid (∀ W, Calls Tryz.prog 76 #[.string (rowF 22), .int .u8 75] W fun e w' => e = .returned (.bool true) ∧ w' = W) := H! (fun W => by have := yab (rowF 22) (by decide) 75 W; rwa [show holds (rowF 22) 75 = true by decide] at this)
 generalize rowF 22 = s at *
 obtain ⟨m, HM, hm⟩ := yae k
 have hk2 := hk
 unfold I64 at hk2
 simp [Lit.wf, IntKind.min, IntKind.max, IntKind.bits, IntKind.signed] at hk2
 have hm0 : m = k := by omega
 rw [hm0] at HM
 clear hm0
 have HTY := H! (fun W => yac k (by omega) (by first | exact hk | (exact (by rfl)) | (unfold I64; simp [Lit.wf, IntKind.min, IntKind.max, IntKind.bits, IntKind.signed]; omega)) W)
 clear hm
 go_enter Tryz.func32, Tryz.ntmps32
 go_wp2_with (first | (go_at_call 75; refine (HFD.out _).mono ?_; rintro _ _ ⟨rfl, rfl⟩) | (go_at_call 76; with_reducible (refine (HUB.out _).mono ?_); rintro _ _ ⟨rfl, rfl⟩) | (go_at_call 76; with_reducible (refine (HUC.out _).mono ?_); rintro _ _ ⟨rfl, rfl⟩) | (go_at_call 76; with_reducible (refine (HUK.out _).mono ?_); rintro _ _ ⟨rfl, rfl⟩) | (go_at_call 77; refine (HTY.out _).mono ?_; rintro _ _ ⟨rfl, rfl⟩))
 all_goals go_ret
 all_goals exact ⟨by first | rfl | (simp [*]; done) | (simp; omega), bw⟩
theorem rfo_22_2 (a b k : Int) (hk : I64 k) (n2 : 0 ≤ a) (n3 : a ≤ 15) (n4 : 0 ≤ b) (n5 : b ≤ 15) (c0 : 0 ≤ k) (c1 : k ≤ 32767) (z2 : ¬ (k % 32 ≤ 20)) (w : World) : Calls Tryz.prog 32 #[.agg #[.int .i64 22, .int .i64 a, .int .i64 b, .int .i64 0, .int .i64 k]] w fun e w' => e = .returned (.bool false) ∧ Below w.heap.size w w' := by
 have HFD : Hid (∀ W, Calls Tryz.prog 75 #[.int .i64 22] W fun e w' => e = .returned (.string (rowF 22)) ∧ w' = W) := H! (fun W => yaf 22 (by omega) (by omega) W)
 have HUB : Hid (∀ W, Calls Tryz.prog 76 #[.string (rowF 22), .int .u8 66] W fun e w' => e = .returned (.bool true) ∧ w' = W) := H! (fun W => by have := yab (rowF 22) (by decide) 66 W; rwa [show holds (rowF 22) 66 = true by decide] at this)
 have HUC : Hid (∀ W, Calls Tryz.prog 76 #[.string (rowF 22), .int .u8 67] W fun e w' => e = .returned (.bool false) ∧ w' = W) := H! (fun W => by have := yab (rowF 22) (by decide) 67 W; rwa [show holds (rowF 22) 67 = false by decide] at this)
 have HUK : Hid (∀ W, Calls Tryz.prog 76 #[.string (rowF 22), .int .u8 75] W fun e w' => e = .returned (.bool true) ∧ w' = W) := H! (fun W => by have := yab (rowF 22) (by decide) 75 W; rwa [show holds (rowF 22) 75 = true by decide] at this)
 generalize rowF 22 = s at *
 obtain ⟨m, HM, hm⟩ := yae k
 have hk2 := hk
 unfold I64 at hk2
 simp [Lit.wf, IntKind.min, IntKind.max, IntKind.bits, IntKind.signed] at hk2
 have hm0 : m = k := by omega
 rw [hm0] at HM
 clear hm0
 have HTY := H! (fun W => yac k (by omega) (by first | exact hk | (exact (by rfl)) | (unfold I64; simp [Lit.wf, IntKind.min, IntKind.max, IntKind.bits, IntKind.signed]; omega)) W)
 clear hm
 have q3 : k.tmod 32 = k % 32 := Int.tmod_eq_emod_of_nonneg (by omega)
 have q4 : IntKind.i64.wrap (k % 32) = k % 32 := IntWalk.i64_in _ (by omega)
 go_enter Tryz.func32, Tryz.ntmps32
 go_wp2_with (first | (go_at_call 75; refine (HFD.out _).mono ?_; rintro _ _ ⟨rfl, rfl⟩) | (go_at_call 76; with_reducible (refine (HUB.out _).mono ?_); rintro _ _ ⟨rfl, rfl⟩) | (go_at_call 76; with_reducible (refine (HUC.out _).mono ?_); rintro _ _ ⟨rfl, rfl⟩) | (go_at_call 76; with_reducible (refine (HUK.out _).mono ?_); rintro _ _ ⟨rfl, rfl⟩) | (go_at_call 77; refine (HTY.out _).mono ?_; rintro _ _ ⟨rfl, rfl⟩))
 all_goals go_ret
 all_goals exact ⟨by first | rfl | (simp [*]; done) | (simp; omega), bw⟩
theorem rfo_22_3 (a b k : Int) (hk : I64 k) (n2 : 0 ≤ a) (n3 : a ≤ 15) (n4 : 0 ≤ b) (n5 : b ≤ 15) (c0 : 0 ≤ k) (c1 : k ≤ 32767) (c2 : k % 32 ≤ 20) (w : World) : Calls Tryz.prog 32 #[.agg #[.int .i64 22, .int .i64 a, .int .i64 b, .int .i64 0, .int .i64 k]] w fun e w' => e = .returned (.bool true) ∧ Below w.heap.size w w' := by
 have HFD : Hid (∀ W, Calls Tryz.prog 75 #[.int .i64 22] W fun e w' => e = .returned (.string (rowF 22)) ∧ w' = W) := H! (fun W => yaf 22 (by omega) (by omega) W)
 have HUB : Hid (∀ W, Calls Tryz.prog 76 #[.string (rowF 22), .int .u8 66] W fun e w' => e = .returned (.bool true) ∧ w' = W) := H! (fun W => by have := yab (rowF 22) (by decide) 66 W; rwa [show holds (rowF 22) 66 = true by decide] at this)
 have HUC : Hid (∀ W, Calls Tryz.prog 76 #[.string (rowF 22), .int .u8 67] W fun e w' => e = .returned (.bool false) ∧ w' = W) := H! (fun W => by have := yab (rowF 22) (by decide) 67 W; rwa [show holds (rowF 22) 67 = false by decide] at this)
 have HUK : Hid (∀ W, Calls Tryz.prog 76 #[.string (rowF 22), .int .u8 75] W fun e w' => e = .returned (.bool true) ∧ w' = W) := H! (fun W => by have := yab (rowF 22) (by decide) 75 W; rwa [show holds (rowF 22) 75 = true by decide] at this)
 generalize rowF 22 = s at *
 obtain ⟨m, HM, hm⟩ := yae k
 have hk2 := hk
 unfold I64 at hk2
 simp [Lit.wf, IntKind.min, IntKind.max, IntKind.bits, IntKind.signed] at hk2
 have hm0 : m = k := by omega
 rw [hm0] at HM
 clear hm0
 have HTY := H! (fun W => yac k (by omega) (by first | exact hk | (exact (by rfl)) | (unfold I64; simp [Lit.wf, IntKind.min, IntKind.max, IntKind.bits, IntKind.signed]; omega)) W)
 clear hm
 have q3 : k.tmod 32 = k % 32 := Int.tmod_eq_emod_of_nonneg (by omega)
 have q4 : IntKind.i64.wrap (k % 32) = k % 32 := IntWalk.i64_in _ (by omega)
 go_enter Tryz.func32, Tryz.ntmps32
 go_wp2_with (first | (go_at_call 75; refine (HFD.out _).mono ?_; rintro _ _ ⟨rfl, rfl⟩) | (go_at_call 76; with_reducible (refine (HUB.out _).mono ?_); rintro _ _ ⟨rfl, rfl⟩) | (go_at_call 76; with_reducible (refine (HUC.out _).mono ?_); rintro _ _ ⟨rfl, rfl⟩) | (go_at_call 76; with_reducible (refine (HUK.out _).mono ?_); rintro _ _ ⟨rfl, rfl⟩) | (go_at_call 77; refine (HTY.out _).mono ?_; rintro _ _ ⟨rfl, rfl⟩))
 all_goals go_ret
 all_goals exact ⟨by first | rfl | (simp [*]; done) | (simp; omega), bw⟩
end Go.Proofs.YtfooefiaenlhmaaGreat
