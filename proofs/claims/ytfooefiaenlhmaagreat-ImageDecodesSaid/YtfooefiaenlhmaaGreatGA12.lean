/- Lemmas for the laws of package magnetolaw15: what its functions return, for any arguments that the lemmas name. -/
import Derived.Test.YtfooefiaenlhmaaGreatGA11
namespace Go.Proofs.YtfooefiaenlhmaaGreat
set_option linter.unusedVariables false
set_option linter.unusedSimpArgs false
set_option maxHeartbeats 16000000
open Go.RowKit Go.ChangeShapes Go.WideShapes Go.ChangeAt
theorem max0_run (k : Int) : ∃ m : Int, (∀ w, (Builtin.max_ #[3, 3] 3 #[.int .i64 k, .int .i64 0]).run Tryz.prog w = .ok (.int .i64 m) w) ∧ m = max k 0 := by
 refine ⟨_, fun _ => rfl, ?_⟩
 split <;> omega
set_option maxRecDepth 100000 in
theorem rtypes_any (q : Int) (h0 : 0 ≤ q) (hk : I64 q) (w : World) : Calls Tryz.prog 77 #[.int .i64 q] w fun e w' => e = .returned (.tuple #[.int .i64 (q / 16384), .int .i64 (q / 128 % 128), .int .i64 (q % 128)]) ∧ w' = w := by
 unfold I64 at hk
 simp [Lit.wf, IntKind.min, IntKind.max, IntKind.bits, IntKind.signed] at hk
 have d1 : q.tdiv 16384 = q / 16384 := Int.tdiv_eq_ediv_of_nonneg h0
 have d2 : q.tdiv 128 = q / 128 := Int.tdiv_eq_ediv_of_nonneg h0
 have d3 : (q / 128).tmod 128 = q / 128 % 128 := Int.tmod_eq_emod_of_nonneg (by omega)
 have d4 : q.tmod 128 = q % 128 := Int.tmod_eq_emod_of_nonneg h0
 have v1 : IntKind.i64.wrap (q / 16384) = q / 16384 := IntWalk.i64_in _ (by omega)
 have v2 : IntKind.i64.wrap (q / 128) = q / 128 := IntWalk.i64_in _ (by omega)
 have v3 : IntKind.i64.wrap (q / 128 % 128) = q / 128 % 128 := IntWalk.i64_in _ (by omega)
 have v4 : IntKind.i64.wrap (q % 128) = q % 128 := IntWalk.i64_in _ (by omega)
 go_enter Tryz.func77, Tryz.ntmps77
 go_wp2
 go_ret3
 exact ⟨by first | rfl | (simp [*]; done), rfl⟩
theorem formB_bad (op a b c k : Int) (h : ¬ (1 ≤ op ∧ op ≤ 22 ∧ 0 ≤ a ∧ a ≤ 15 ∧ 0 ≤ b ∧ b ≤ 15 ∧ 0 ≤ c ∧ c ≤ 15)) : formB op a b c k = false := by
 unfold formB opB regB
 cases hq : (if hasK op.toNat = true then kOk op k else decide (k = 0))
 ·
  simp
 ·
  rw [Bool.eq_false_iff]
  intro hh
  simp only [Bool.and_eq_true, decide_eq_true_eq, and_true] at hh
  omega
set_option maxRecDepth 100000 in
theorem rform_bad (op a b c k : Int) (h : ¬ (1 ≤ op ∧ op ≤ 22 ∧ 0 ≤ a ∧ a ≤ 15 ∧ 0 ≤ b ∧ b ≤ 15 ∧ 0 ≤ c ∧ c ≤ 15)) (w : World) : Calls Tryz.prog 32 #[.agg #[.int .i64 op, .int .i64 a, .int .i64 b, .int .i64 c, .int .i64 k]] w fun e w' => e = .returned (.bool (formB op a b c k)) ∧ Below w.heap.size w w' := by
 rw [formB_bad op a b c k h]
 by_cases n0 : 1 ≤ op
 rotate_left
 ·
  clear h
  go_enter Tryz.func32, Tryz.ntmps32
  go_wp2
  go_ret
  exact ⟨rfl, bw⟩
 by_cases n1 : op ≤ 22
 rotate_left
 ·
  clear h
  go_enter Tryz.func32, Tryz.ntmps32
  go_wp2
  go_ret
  exact ⟨rfl, bw⟩
 by_cases n2 : 0 ≤ a
 rotate_left
 ·
  clear h
  go_enter Tryz.func32, Tryz.ntmps32
  go_wp2
  go_ret
  exact ⟨rfl, bw⟩
 by_cases n3 : a ≤ 15
 rotate_left
 ·
  clear h
  go_enter Tryz.func32, Tryz.ntmps32
  go_wp2
  go_ret
  exact ⟨rfl, bw⟩
 by_cases n4 : 0 ≤ b
 rotate_left
 ·
  clear h
  go_enter Tryz.func32, Tryz.ntmps32
  go_wp2
  go_ret
  exact ⟨rfl, bw⟩
 by_cases n5 : b ≤ 15
 rotate_left
 ·
  clear h
  go_enter Tryz.func32, Tryz.ntmps32
  go_wp2
  go_ret
  exact ⟨rfl, bw⟩
 by_cases n6 : 0 ≤ c
 rotate_left
 ·
  clear h
  go_enter Tryz.func32, Tryz.ntmps32
  go_wp2
  go_ret
  exact ⟨rfl, bw⟩
 by_cases n7 : c ≤ 15
 rotate_left
 ·
  clear h
  go_enter Tryz.func32, Tryz.ntmps32
  go_wp2
  go_ret
  exact ⟨rfl, bw⟩
 exact absurd ⟨n0, n1, n2, n3, n4, n5, n6, n7⟩ h
set_option maxRecDepth 100000 in
theorem rfo_b (n : Nat) (n0 : 1 ≤ n) (n1 : n ≤ 22) (a b c k : Int) (n2 : 0 ≤ a) (n3 : a ≤ 15) (n4 : 0 ≤ b) (n5 : b ≤ 15) (n6 : 0 ≤ c) (n7 : c ≤ 15) (hb : holds (rowF n) 66 = false) (zb : ¬ b = 0) (w : World) : Calls Tryz.prog 32 #[.agg #[.int .i64 n, .int .i64 a, .int .i64 b, .int .i64 c, .int .i64 k]] w fun e w' => e = .returned (.bool false) ∧ Below w.heap.size w w' := by
 have hsz := (holds_row n n0 n1).2.2.2.2
 have HFD : Hid (∀ W, Calls Tryz.prog 75 #[.int .i64 n] W fun e w' => e = .returned (.string (rowF n)) ∧ w' = W) := H! (fun W => rfields_v n n0 n1 W)
 have HUB : Hid (∀ W, Calls Tryz.prog 76 #[.string (rowF n), .int .u8 66] W fun e w' => e = .returned (.bool false) ∧ w' = W) := H! (fun W => by have := ruses_any (rowF n) hsz 66 W; rwa [hb] at this)
 generalize rowF n = s at *
 clear hb hsz
 go_enter Tryz.func32, Tryz.ntmps32
 go_wp2_with (first | (go_at_call 75; refine (HFD.out _).mono ?_; rintro _ _ ⟨rfl, rfl⟩) | (go_at_call 76; with_reducible (refine (HUB.out _).mono ?_); rintro _ _ ⟨rfl, rfl⟩))
 go_ret
 exact ⟨rfl, bw⟩
set_option maxRecDepth 100000 in
theorem rfo_c_true (n : Nat) (n0 : 1 ≤ n) (n1 : n ≤ 22) (a b c k : Int) (n2 : 0 ≤ a) (n3 : a ≤ 15) (n4 : 0 ≤ b) (n5 : b ≤ 15) (n6 : 0 ≤ c) (n7 : c ≤ 15) (hb : holds (rowF n) 66 = true) (hc : holds (rowF n) 67 = false) (zc : ¬ c = 0) (w : World) : Calls Tryz.prog 32 #[.agg #[.int .i64 n, .int .i64 a, .int .i64 b, .int .i64 c, .int .i64 k]] w fun e w' => e = .returned (.bool false) ∧ Below w.heap.size w w' := by
 have hsz := (holds_row n n0 n1).2.2.2.2
 have HFD : Hid (∀ W, Calls Tryz.prog 75 #[.int .i64 n] W fun e w' => e = .returned (.string (rowF n)) ∧ w' = W) := H! (fun W => rfields_v n n0 n1 W)
 have HUB : Hid (∀ W, Calls Tryz.prog 76 #[.string (rowF n), .int .u8 66] W fun e w' => e = .returned (.bool true) ∧ w' = W) := H! (fun W => by have := ruses_any (rowF n) hsz 66 W; rwa [hb] at this)
 have HUC : Hid (∀ W, Calls Tryz.prog 76 #[.string (rowF n), .int .u8 67] W fun e w' => e = .returned (.bool false) ∧ w' = W) := H! (fun W => by have := ruses_any (rowF n) hsz 67 W; rwa [hc] at this)
 generalize rowF n = s at *
 clear hb hc hsz
 go_enter Tryz.func32, Tryz.ntmps32
 go_wp2_with (first | (go_at_call 75; refine (HFD.out _).mono ?_; rintro _ _ ⟨rfl, rfl⟩) | (go_at_call 76; with_reducible (refine (HUB.out _).mono ?_); rintro _ _ ⟨rfl, rfl⟩) | (go_at_call 76; with_reducible (refine (HUC.out _).mono ?_); rintro _ _ ⟨rfl, rfl⟩))
 go_ret
 exact ⟨rfl, bw⟩
set_option maxRecDepth 100000 in
theorem rfo_c_false (n : Nat) (n0 : 1 ≤ n) (n1 : n ≤ 22) (a b c k : Int) (n2 : 0 ≤ a) (n3 : a ≤ 15) (n4 : 0 ≤ b) (n5 : b ≤ 15) (n6 : 0 ≤ c) (n7 : c ≤ 15) (hb : holds (rowF n) 66 = false) (zb : b = 0) (hc : holds (rowF n) 67 = false) (zc : ¬ c = 0) (w : World) : Calls Tryz.prog 32 #[.agg #[.int .i64 n, .int .i64 a, .int .i64 b, .int .i64 c, .int .i64 k]] w fun e w' => e = .returned (.bool false) ∧ Below w.heap.size w w' := by
 have hsz := (holds_row n n0 n1).2.2.2.2
 have HFD : Hid (∀ W, Calls Tryz.prog 75 #[.int .i64 n] W fun e w' => e = .returned (.string (rowF n)) ∧ w' = W) := H! (fun W => rfields_v n n0 n1 W)
 have HUB : Hid (∀ W, Calls Tryz.prog 76 #[.string (rowF n), .int .u8 66] W fun e w' => e = .returned (.bool false) ∧ w' = W) := H! (fun W => by have := ruses_any (rowF n) hsz 66 W; rwa [hb] at this)
 have HUC : Hid (∀ W, Calls Tryz.prog 76 #[.string (rowF n), .int .u8 67] W fun e w' => e = .returned (.bool false) ∧ w' = W) := H! (fun W => by have := ruses_any (rowF n) hsz 67 W; rwa [hc] at this)
 generalize rowF n = s at *
 clear hb hc hsz
 subst zb
 go_enter Tryz.func32, Tryz.ntmps32
 go_wp2_with (first | (go_at_call 75; refine (HFD.out _).mono ?_; rintro _ _ ⟨rfl, rfl⟩) | (go_at_call 76; with_reducible (refine (HUB.out _).mono ?_); rintro _ _ ⟨rfl, rfl⟩) | (go_at_call 76; with_reducible (refine (HUC.out _).mono ?_); rintro _ _ ⟨rfl, rfl⟩))
 go_ret
 exact ⟨rfl, bw⟩
set_option maxRecDepth 100000 in
theorem rfo_k_true_true (n : Nat) (n0 : 1 ≤ n) (n1 : n ≤ 22) (a b c k : Int) (n2 : 0 ≤ a) (n3 : a ≤ 15) (n4 : 0 ≤ b) (n5 : b ≤ 15) (n6 : 0 ≤ c) (n7 : c ≤ 15) (hb : holds (rowF n) 66 = true) (hc : holds (rowF n) 67 = true) (hk : holds (rowF n) 75 = false) (zk : ¬ k = 0) (w : World) : Calls Tryz.prog 32 #[.agg #[.int .i64 n, .int .i64 a, .int .i64 b, .int .i64 c, .int .i64 k]] w fun e w' => e = .returned (.bool false) ∧ Below w.heap.size w w' := by
 have hsz := (holds_row n n0 n1).2.2.2.2
 have HFD : Hid (∀ W, Calls Tryz.prog 75 #[.int .i64 n] W fun e w' => e = .returned (.string (rowF n)) ∧ w' = W) := H! (fun W => rfields_v n n0 n1 W)
 have HUB : Hid (∀ W, Calls Tryz.prog 76 #[.string (rowF n), .int .u8 66] W fun e w' => e = .returned (.bool true) ∧ w' = W) := H! (fun W => by have := ruses_any (rowF n) hsz 66 W; rwa [hb] at this)
 have HUC : Hid (∀ W, Calls Tryz.prog 76 #[.string (rowF n), .int .u8 67] W fun e w' => e = .returned (.bool true) ∧ w' = W) := H! (fun W => by have := ruses_any (rowF n) hsz 67 W; rwa [hc] at this)
 have HUK : Hid (∀ W, Calls Tryz.prog 76 #[.string (rowF n), .int .u8 75] W fun e w' => e = .returned (.bool false) ∧ w' = W) := H! (fun W => by have := ruses_any (rowF n) hsz 75 W; rwa [hk] at this)
 generalize rowF n = s at *
 clear hb hc hk hsz
 go_enter Tryz.func32, Tryz.ntmps32
 go_wp2_with (first | (go_at_call 75; refine (HFD.out _).mono ?_; rintro _ _ ⟨rfl, rfl⟩) | (go_at_call 76; with_reducible (refine (HUB.out _).mono ?_); rintro _ _ ⟨rfl, rfl⟩) | (go_at_call 76; with_reducible (refine (HUC.out _).mono ?_); rintro _ _ ⟨rfl, rfl⟩) | (go_at_call 76; with_reducible (refine (HUK.out _).mono ?_); rintro _ _ ⟨rfl, rfl⟩))
 go_ret
 exact ⟨rfl, bw⟩
set_option maxRecDepth 100000 in
theorem rfo_k_true_false (n : Nat) (n0 : 1 ≤ n) (n1 : n ≤ 22) (a b c k : Int) (n2 : 0 ≤ a) (n3 : a ≤ 15) (n4 : 0 ≤ b) (n5 : b ≤ 15) (n6 : 0 ≤ c) (n7 : c ≤ 15) (hb : holds (rowF n) 66 = true) (hc : holds (rowF n) 67 = false) (zc : c = 0) (hk : holds (rowF n) 75 = false) (zk : ¬ k = 0) (w : World) : Calls Tryz.prog 32 #[.agg #[.int .i64 n, .int .i64 a, .int .i64 b, .int .i64 c, .int .i64 k]] w fun e w' => e = .returned (.bool false) ∧ Below w.heap.size w w' := by
 have hsz := (holds_row n n0 n1).2.2.2.2
 have HFD : Hid (∀ W, Calls Tryz.prog 75 #[.int .i64 n] W fun e w' => e = .returned (.string (rowF n)) ∧ w' = W) := H! (fun W => rfields_v n n0 n1 W)
 have HUB : Hid (∀ W, Calls Tryz.prog 76 #[.string (rowF n), .int .u8 66] W fun e w' => e = .returned (.bool true) ∧ w' = W) := H! (fun W => by have := ruses_any (rowF n) hsz 66 W; rwa [hb] at this)
 have HUC : Hid (∀ W, Calls Tryz.prog 76 #[.string (rowF n), .int .u8 67] W fun e w' => e = .returned (.bool false) ∧ w' = W) := H! (fun W => by have := ruses_any (rowF n) hsz 67 W; rwa [hc] at this)
 have HUK : Hid (∀ W, Calls Tryz.prog 76 #[.string (rowF n), .int .u8 75] W fun e w' => e = .returned (.bool false) ∧ w' = W) := H! (fun W => by have := ruses_any (rowF n) hsz 75 W; rwa [hk] at this)
 generalize rowF n = s at *
 clear hb hc hk hsz
 subst zc
 go_enter Tryz.func32, Tryz.ntmps32
 go_wp2_with (first | (go_at_call 75; refine (HFD.out _).mono ?_; rintro _ _ ⟨rfl, rfl⟩) | (go_at_call 76; with_reducible (refine (HUB.out _).mono ?_); rintro _ _ ⟨rfl, rfl⟩) | (go_at_call 76; with_reducible (refine (HUC.out _).mono ?_); rintro _ _ ⟨rfl, rfl⟩) | (go_at_call 76; with_reducible (refine (HUK.out _).mono ?_); rintro _ _ ⟨rfl, rfl⟩))
 go_ret
 exact ⟨rfl, bw⟩
set_option maxRecDepth 100000 in
theorem rfo_k_false_true (n : Nat) (n0 : 1 ≤ n) (n1 : n ≤ 22) (a b c k : Int) (n2 : 0 ≤ a) (n3 : a ≤ 15) (n4 : 0 ≤ b) (n5 : b ≤ 15) (n6 : 0 ≤ c) (n7 : c ≤ 15) (hb : holds (rowF n) 66 = false) (zb : b = 0) (hc : holds (rowF n) 67 = true) (hk : holds (rowF n) 75 = false) (zk : ¬ k = 0) (w : World) : Calls Tryz.prog 32 #[.agg #[.int .i64 n, .int .i64 a, .int .i64 b, .int .i64 c, .int .i64 k]] w fun e w' => e = .returned (.bool false) ∧ Below w.heap.size w w' := by
 have hsz := (holds_row n n0 n1).2.2.2.2
 have HFD : Hid (∀ W, Calls Tryz.prog 75 #[.int .i64 n] W fun e w' => e = .returned (.string (rowF n)) ∧ w' = W) := H! (fun W => rfields_v n n0 n1 W)
 have HUB : Hid (∀ W, Calls Tryz.prog 76 #[.string (rowF n), .int .u8 66] W fun e w' => e = .returned (.bool false) ∧ w' = W) := H! (fun W => by have := ruses_any (rowF n) hsz 66 W; rwa [hb] at this)
 have HUC : Hid (∀ W, Calls Tryz.prog 76 #[.string (rowF n), .int .u8 67] W fun e w' => e = .returned (.bool true) ∧ w' = W) := H! (fun W => by have := ruses_any (rowF n) hsz 67 W; rwa [hc] at this)
 have HUK : Hid (∀ W, Calls Tryz.prog 76 #[.string (rowF n), .int .u8 75] W fun e w' => e = .returned (.bool false) ∧ w' = W) := H! (fun W => by have := ruses_any (rowF n) hsz 75 W; rwa [hk] at this)
 generalize rowF n = s at *
 clear hb hc hk hsz
 subst zb
 go_enter Tryz.func32, Tryz.ntmps32
 go_wp2_with (first | (go_at_call 75; refine (HFD.out _).mono ?_; rintro _ _ ⟨rfl, rfl⟩) | (go_at_call 76; with_reducible (refine (HUB.out _).mono ?_); rintro _ _ ⟨rfl, rfl⟩) | (go_at_call 76; with_reducible (refine (HUC.out _).mono ?_); rintro _ _ ⟨rfl, rfl⟩) | (go_at_call 76; with_reducible (refine (HUK.out _).mono ?_); rintro _ _ ⟨rfl, rfl⟩))
 go_ret
 exact ⟨rfl, bw⟩
set_option maxRecDepth 100000 in
theorem rfo_k_false_false (n : Nat) (n0 : 1 ≤ n) (n1 : n ≤ 22) (a b c k : Int) (n2 : 0 ≤ a) (n3 : a ≤ 15) (n4 : 0 ≤ b) (n5 : b ≤ 15) (n6 : 0 ≤ c) (n7 : c ≤ 15) (hb : holds (rowF n) 66 = false) (zb : b = 0) (hc : holds (rowF n) 67 = false) (zc : c = 0) (hk : holds (rowF n) 75 = false) (zk : ¬ k = 0) (w : World) : Calls Tryz.prog 32 #[.agg #[.int .i64 n, .int .i64 a, .int .i64 b, .int .i64 c, .int .i64 k]] w fun e w' => e = .returned (.bool false) ∧ Below w.heap.size w w' := by
 have hsz := (holds_row n n0 n1).2.2.2.2
 have HFD : Hid (∀ W, Calls Tryz.prog 75 #[.int .i64 n] W fun e w' => e = .returned (.string (rowF n)) ∧ w' = W) := H! (fun W => rfields_v n n0 n1 W)
 have HUB : Hid (∀ W, Calls Tryz.prog 76 #[.string (rowF n), .int .u8 66] W fun e w' => e = .returned (.bool false) ∧ w' = W) := H! (fun W => by have := ruses_any (rowF n) hsz 66 W; rwa [hb] at this)
 have HUC : Hid (∀ W, Calls Tryz.prog 76 #[.string (rowF n), .int .u8 67] W fun e w' => e = .returned (.bool false) ∧ w' = W) := H! (fun W => by have := ruses_any (rowF n) hsz 67 W; rwa [hc] at this)
 have HUK : Hid (∀ W, Calls Tryz.prog 76 #[.string (rowF n), .int .u8 75] W fun e w' => e = .returned (.bool false) ∧ w' = W) := H! (fun W => by have := ruses_any (rowF n) hsz 75 W; rwa [hk] at this)
 generalize rowF n = s at *
 clear hb hc hk hsz
 subst zb
 subst zc
 go_enter Tryz.func32, Tryz.ntmps32
 go_wp2_with (first | (go_at_call 75; refine (HFD.out _).mono ?_; rintro _ _ ⟨rfl, rfl⟩) | (go_at_call 76; with_reducible (refine (HUB.out _).mono ?_); rintro _ _ ⟨rfl, rfl⟩) | (go_at_call 76; with_reducible (refine (HUC.out _).mono ?_); rintro _ _ ⟨rfl, rfl⟩) | (go_at_call 76; with_reducible (refine (HUK.out _).mono ?_); rintro _ _ ⟨rfl, rfl⟩))
 go_ret
 exact ⟨rfl, bw⟩
end Go.Proofs.YtfooefiaenlhmaaGreat
