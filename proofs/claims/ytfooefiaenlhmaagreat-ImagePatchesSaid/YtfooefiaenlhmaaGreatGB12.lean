/- Lemmas for the laws of package magnetolaw15: what its functions return, for any arguments that the lemmas name. -/
import Derived.Test.YtfooefiaenlhmaaGreatGB11
set_option maxRecDepth 100000
namespace Go.Proofs.YtfooefiaenlhmaaGreat
set_option linter.all false
set_option maxHeartbeats 16000000
open Go.RowKit Go.ChangeShapes Go.WideShapes Go.ChangeAt
theorem rfo_b (n : Nat) (n0 : 1 ≤ n) (n1 : n ≤ 22) (a b c k : Int) (n2 : 0 ≤ a) (n3 : a ≤ 15) (n4 : 0 ≤ b) (n5 : b ≤ 15) (n6 : 0 ≤ c) (n7 : c ≤ 15) (hb : holds (rowF n) 66 = false) (zb : ¬ b = 0) (w : World) : Calls Tryz.prog 32 #[.agg #[.int .i64 n, .int .i64 a, .int .i64 b, .int .i64 c, .int .i64 k]] w fun e w' => e = .returned (.bool false) ∧ Below w.heap.size w w' := by
 have hsz := (ycn n n0 n1).2.2.2.2
 have HFD : Hid (∀ W, Calls Tryz.prog 75 #[.int .i64 n] W fun e w' => e = .returned (.string (rowF n)) ∧ w' = W) := H! (fun W => yaf n n0 n1 W)
 have HUB : Hid (∀ W, Calls Tryz.prog 76 #[.string (rowF n), .int .u8 66] W fun e w' => e = .returned (.bool false) ∧ w' = W) := H! (fun W => by have := yab (rowF n) hsz 66 W; rwa [hb] at this)
 generalize rowF n = s at *
 clear hb hsz
 go_enter Tryz.func32, Tryz.ntmps32
 go_wp2_with (first | (go_at_call 75; refine (HFD.out _).mono ?_; rintro _ _ ⟨rfl, rfl⟩) | (go_at_call 76; with_reducible (refine (HUB.out _).mono ?_); rintro _ _ ⟨rfl, rfl⟩))
 go_ret
 exact ⟨rfl, bw⟩
theorem ylh (n : Nat) (n0 : 1 ≤ n) (n1 : n ≤ 22) (a b c k : Int) (n2 : 0 ≤ a) (n3 : a ≤ 15) (n4 : 0 ≤ b) (n5 : b ≤ 15) (n6 : 0 ≤ c) (n7 : c ≤ 15) (hb : holds (rowF n) 66 = true) (hc : holds (rowF n) 67 = false) (zc : ¬ c = 0) (w : World) : Calls Tryz.prog 32 #[.agg #[.int .i64 n, .int .i64 a, .int .i64 b, .int .i64 c, .int .i64 k]] w fun e w' => e = .returned (.bool false) ∧ Below w.heap.size w w' := by
 have hsz := (ycn n n0 n1).2.2.2.2
 have HFD : Hid (∀ W, Calls Tryz.prog 75 #[.int .i64 n] W fun e w' => e = .returned (.string (rowF n)) ∧ w' = W) := H! (fun W => yaf n n0 n1 W)
 have HUB : Hid (∀ W, Calls Tryz.prog 76 #[.string (rowF n), .int .u8 66] W fun e w' => e = .returned (.bool true) ∧ w' = W) := H! (fun W => by have := yab (rowF n) hsz 66 W; rwa [hb] at this)
 have HUC : Hid (∀ W, Calls Tryz.prog 76 #[.string (rowF n), .int .u8 67] W fun e w' => e = .returned (.bool false) ∧ w' = W) := H! (fun W => by have := yab (rowF n) hsz 67 W; rwa [hc] at this)
 generalize rowF n = s at *
 clear hb hc hsz
 go_enter Tryz.func32, Tryz.ntmps32
 go_wp2_with (first | (go_at_call 75; refine (HFD.out _).mono ?_; rintro _ _ ⟨rfl, rfl⟩) | (go_at_call 76; with_reducible (refine (HUB.out _).mono ?_); rintro _ _ ⟨rfl, rfl⟩) | (go_at_call 76; with_reducible (refine (HUC.out _).mono ?_); rintro _ _ ⟨rfl, rfl⟩))
 go_ret
 exact ⟨rfl, bw⟩
theorem yjr (n : Nat) (n0 : 1 ≤ n) (n1 : n ≤ 22) (a b c k : Int) (n2 : 0 ≤ a) (n3 : a ≤ 15) (n4 : 0 ≤ b) (n5 : b ≤ 15) (n6 : 0 ≤ c) (n7 : c ≤ 15) (hb : holds (rowF n) 66 = false) (zb : b = 0) (hc : holds (rowF n) 67 = false) (zc : ¬ c = 0) (w : World) : Calls Tryz.prog 32 #[.agg #[.int .i64 n, .int .i64 a, .int .i64 b, .int .i64 c, .int .i64 k]] w fun e w' => e = .returned (.bool false) ∧ Below w.heap.size w w' := by
 have hsz := (ycn n n0 n1).2.2.2.2
 have HFD : Hid (∀ W, Calls Tryz.prog 75 #[.int .i64 n] W fun e w' => e = .returned (.string (rowF n)) ∧ w' = W) := H! (fun W => yaf n n0 n1 W)
 have HUB : Hid (∀ W, Calls Tryz.prog 76 #[.string (rowF n), .int .u8 66] W fun e w' => e = .returned (.bool false) ∧ w' = W) := H! (fun W => by have := yab (rowF n) hsz 66 W; rwa [hb] at this)
 have HUC : Hid (∀ W, Calls Tryz.prog 76 #[.string (rowF n), .int .u8 67] W fun e w' => e = .returned (.bool false) ∧ w' = W) := H! (fun W => by have := yab (rowF n) hsz 67 W; rwa [hc] at this)
 generalize rowF n = s at *
 clear hb hc hsz
 subst zb
 go_enter Tryz.func32, Tryz.ntmps32
 go_wp2_with (first | (go_at_call 75; refine (HFD.out _).mono ?_; rintro _ _ ⟨rfl, rfl⟩) | (go_at_call 76; with_reducible (refine (HUB.out _).mono ?_); rintro _ _ ⟨rfl, rfl⟩) | (go_at_call 76; with_reducible (refine (HUC.out _).mono ?_); rintro _ _ ⟨rfl, rfl⟩))
 go_ret
 exact ⟨rfl, bw⟩
theorem ygt (n : Nat) (n0 : 1 ≤ n) (n1 : n ≤ 22) (a b c k : Int) (n2 : 0 ≤ a) (n3 : a ≤ 15) (n4 : 0 ≤ b) (n5 : b ≤ 15) (n6 : 0 ≤ c) (n7 : c ≤ 15) (hb : holds (rowF n) 66 = true) (hc : holds (rowF n) 67 = true) (hk : holds (rowF n) 75 = false) (zk : ¬ k = 0) (w : World) : Calls Tryz.prog 32 #[.agg #[.int .i64 n, .int .i64 a, .int .i64 b, .int .i64 c, .int .i64 k]] w fun e w' => e = .returned (.bool false) ∧ Below w.heap.size w w' := by
 have hsz := (ycn n n0 n1).2.2.2.2
 have HFD : Hid (∀ W, Calls Tryz.prog 75 #[.int .i64 n] W fun e w' => e = .returned (.string (rowF n)) ∧ w' = W) := H! (fun W => yaf n n0 n1 W)
 have HUB : Hid (∀ W, Calls Tryz.prog 76 #[.string (rowF n), .int .u8 66] W fun e w' => e = .returned (.bool true) ∧ w' = W) := H! (fun W => by have := yab (rowF n) hsz 66 W; rwa [hb] at this)
 have HUC : Hid (∀ W, Calls Tryz.prog 76 #[.string (rowF n), .int .u8 67] W fun e w' => e = .returned (.bool true) ∧ w' = W) := H! (fun W => by have := yab (rowF n) hsz 67 W; rwa [hc] at this)
 have HUK : Hid (∀ W, Calls Tryz.prog 76 #[.string (rowF n), .int .u8 75] W fun e w' => e = .returned (.bool false) ∧ w' = W) := H! (fun W => by have := yab (rowF n) hsz 75 W; rwa [hk] at this)
 generalize rowF n = s at *
 clear hb hc hk hsz
 go_enter Tryz.func32, Tryz.ntmps32
 go_wp2_with (first | (go_at_call 75; refine (HFD.out _).mono ?_; rintro _ _ ⟨rfl, rfl⟩) | (go_at_call 76; with_reducible (refine (HUB.out _).mono ?_); rintro _ _ ⟨rfl, rfl⟩) | (go_at_call 76; with_reducible (refine (HUC.out _).mono ?_); rintro _ _ ⟨rfl, rfl⟩) | (go_at_call 76; with_reducible (refine (HUK.out _).mono ?_); rintro _ _ ⟨rfl, rfl⟩))
 go_ret
 exact ⟨rfl, bw⟩
theorem yfz (n : Nat) (n0 : 1 ≤ n) (n1 : n ≤ 22) (a b c k : Int) (n2 : 0 ≤ a) (n3 : a ≤ 15) (n4 : 0 ≤ b) (n5 : b ≤ 15) (n6 : 0 ≤ c) (n7 : c ≤ 15) (hb : holds (rowF n) 66 = true) (hc : holds (rowF n) 67 = false) (zc : c = 0) (hk : holds (rowF n) 75 = false) (zk : ¬ k = 0) (w : World) : Calls Tryz.prog 32 #[.agg #[.int .i64 n, .int .i64 a, .int .i64 b, .int .i64 c, .int .i64 k]] w fun e w' => e = .returned (.bool false) ∧ Below w.heap.size w w' := by
 have hsz := (ycn n n0 n1).2.2.2.2
 have HFD : Hid (∀ W, Calls Tryz.prog 75 #[.int .i64 n] W fun e w' => e = .returned (.string (rowF n)) ∧ w' = W) := H! (fun W => yaf n n0 n1 W)
 have HUB : Hid (∀ W, Calls Tryz.prog 76 #[.string (rowF n), .int .u8 66] W fun e w' => e = .returned (.bool true) ∧ w' = W) := H! (fun W => by have := yab (rowF n) hsz 66 W; rwa [hb] at this)
 have HUC : Hid (∀ W, Calls Tryz.prog 76 #[.string (rowF n), .int .u8 67] W fun e w' => e = .returned (.bool false) ∧ w' = W) := H! (fun W => by have := yab (rowF n) hsz 67 W; rwa [hc] at this)
 have HUK : Hid (∀ W, Calls Tryz.prog 76 #[.string (rowF n), .int .u8 75] W fun e w' => e = .returned (.bool false) ∧ w' = W) := H! (fun W => by have := yab (rowF n) hsz 75 W; rwa [hk] at this)
 generalize rowF n = s at *
 clear hb hc hk hsz
 subst zc
 go_enter Tryz.func32, Tryz.ntmps32
 go_wp2_with (first | (go_at_call 75; refine (HFD.out _).mono ?_; rintro _ _ ⟨rfl, rfl⟩) | (go_at_call 76; with_reducible (refine (HUB.out _).mono ?_); rintro _ _ ⟨rfl, rfl⟩) | (go_at_call 76; with_reducible (refine (HUC.out _).mono ?_); rintro _ _ ⟨rfl, rfl⟩) | (go_at_call 76; with_reducible (refine (HUK.out _).mono ?_); rintro _ _ ⟨rfl, rfl⟩))
 go_ret
 exact ⟨rfl, bw⟩
theorem yga (n : Nat) (n0 : 1 ≤ n) (n1 : n ≤ 22) (a b c k : Int) (n2 : 0 ≤ a) (n3 : a ≤ 15) (n4 : 0 ≤ b) (n5 : b ≤ 15) (n6 : 0 ≤ c) (n7 : c ≤ 15) (hb : holds (rowF n) 66 = false) (zb : b = 0) (hc : holds (rowF n) 67 = true) (hk : holds (rowF n) 75 = false) (zk : ¬ k = 0) (w : World) : Calls Tryz.prog 32 #[.agg #[.int .i64 n, .int .i64 a, .int .i64 b, .int .i64 c, .int .i64 k]] w fun e w' => e = .returned (.bool false) ∧ Below w.heap.size w w' := by
 have hsz := (ycn n n0 n1).2.2.2.2
 have HFD : Hid (∀ W, Calls Tryz.prog 75 #[.int .i64 n] W fun e w' => e = .returned (.string (rowF n)) ∧ w' = W) := H! (fun W => yaf n n0 n1 W)
 have HUB : Hid (∀ W, Calls Tryz.prog 76 #[.string (rowF n), .int .u8 66] W fun e w' => e = .returned (.bool false) ∧ w' = W) := H! (fun W => by have := yab (rowF n) hsz 66 W; rwa [hb] at this)
 have HUC : Hid (∀ W, Calls Tryz.prog 76 #[.string (rowF n), .int .u8 67] W fun e w' => e = .returned (.bool true) ∧ w' = W) := H! (fun W => by have := yab (rowF n) hsz 67 W; rwa [hc] at this)
 have HUK : Hid (∀ W, Calls Tryz.prog 76 #[.string (rowF n), .int .u8 75] W fun e w' => e = .returned (.bool false) ∧ w' = W) := H! (fun W => by have := yab (rowF n) hsz 75 W; rwa [hk] at this)
 generalize rowF n = s at *
 clear hb hc hk hsz
 subst zb
 go_enter Tryz.func32, Tryz.ntmps32
 go_wp2_with (first | (go_at_call 75; refine (HFD.out _).mono ?_; rintro _ _ ⟨rfl, rfl⟩) | (go_at_call 76; with_reducible (refine (HUB.out _).mono ?_); rintro _ _ ⟨rfl, rfl⟩) | (go_at_call 76; with_reducible (refine (HUC.out _).mono ?_); rintro _ _ ⟨rfl, rfl⟩) | (go_at_call 76; with_reducible (refine (HUK.out _).mono ?_); rintro _ _ ⟨rfl, rfl⟩))
 go_ret
 exact ⟨rfl, bw⟩
theorem yfp (n : Nat) (n0 : 1 ≤ n) (n1 : n ≤ 22) (a b c k : Int) (n2 : 0 ≤ a) (n3 : a ≤ 15) (n4 : 0 ≤ b) (n5 : b ≤ 15) (n6 : 0 ≤ c) (n7 : c ≤ 15) (hb : holds (rowF n) 66 = false) (zb : b = 0) (hc : holds (rowF n) 67 = false) (zc : c = 0) (hk : holds (rowF n) 75 = false) (zk : ¬ k = 0) (w : World) : Calls Tryz.prog 32 #[.agg #[.int .i64 n, .int .i64 a, .int .i64 b, .int .i64 c, .int .i64 k]] w fun e w' => e = .returned (.bool false) ∧ Below w.heap.size w w' := by
 have hsz := (ycn n n0 n1).2.2.2.2
 have HFD : Hid (∀ W, Calls Tryz.prog 75 #[.int .i64 n] W fun e w' => e = .returned (.string (rowF n)) ∧ w' = W) := H! (fun W => yaf n n0 n1 W)
 have HUB : Hid (∀ W, Calls Tryz.prog 76 #[.string (rowF n), .int .u8 66] W fun e w' => e = .returned (.bool false) ∧ w' = W) := H! (fun W => by have := yab (rowF n) hsz 66 W; rwa [hb] at this)
 have HUC : Hid (∀ W, Calls Tryz.prog 76 #[.string (rowF n), .int .u8 67] W fun e w' => e = .returned (.bool false) ∧ w' = W) := H! (fun W => by have := yab (rowF n) hsz 67 W; rwa [hc] at this)
 have HUK : Hid (∀ W, Calls Tryz.prog 76 #[.string (rowF n), .int .u8 75] W fun e w' => e = .returned (.bool false) ∧ w' = W) := H! (fun W => by have := yab (rowF n) hsz 75 W; rwa [hk] at this)
 generalize rowF n = s at *
 clear hb hc hk hsz
 subst zb
 subst zc
 go_enter Tryz.func32, Tryz.ntmps32
 go_wp2_with (first | (go_at_call 75; refine (HFD.out _).mono ?_; rintro _ _ ⟨rfl, rfl⟩) | (go_at_call 76; with_reducible (refine (HUB.out _).mono ?_); rintro _ _ ⟨rfl, rfl⟩) | (go_at_call 76; with_reducible (refine (HUC.out _).mono ?_); rintro _ _ ⟨rfl, rfl⟩) | (go_at_call 76; with_reducible (refine (HUK.out _).mono ?_); rintro _ _ ⟨rfl, rfl⟩))
 go_ret
 exact ⟨rfl, bw⟩
end Go.Proofs.YtfooefiaenlhmaaGreat
