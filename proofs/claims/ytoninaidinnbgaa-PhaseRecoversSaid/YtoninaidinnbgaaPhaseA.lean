/- Contracts of package phase: valid, Valid, New, Lose, Cam, Turn, and of the reference's Plain, Edge. -/
import Derived.Test.YtoninaidinnbgaaPhaseP
import Derived.Test.YtoninaidinnbgaaCamB
namespace Go.Proofs.Ytoninaidinnbgaa
set_option linter.unusedVariables false
set_option linter.unusedSimpArgs false
open Go.RowKit Go.ChangeShapes Go.WideShapes Go.ChangeAt

def phB (p : Ph) : Bool := decide (0 ≤ p.count ∧ p.count ≤ 16 ∧ 0 ≤ p.half ∧ p.half ≤ 1 ∧ (p.seen = false → p.count = 0 ∧ p.known = false) ∧ (p.known = false → p.half = 0))
theorem phB_true {p : Ph} : phB p = true ↔ p.Ok := by
  unfold phB
  rw [decide_eq_true_eq]
  constructor
  · rintro ⟨h1, h2, h3, h4, h5, h6⟩
    exact ⟨⟨h1, h2⟩, by omega, h5, h6⟩
  · rintro ⟨⟨h1, h2⟩, h3, h5, h6⟩
    exact ⟨h1, h2, by omega, by omega, h5, h6⟩
@[go_sem] def phV (p : Ph) : Value := .agg #[.bool p.known, .int .i64 p.half, .int .i64 p.count, .bool p.seen]
theorem pvalid_any (k s : Bool) (h c : Int) (w : World) : Calls Try.prog 34 #[.agg #[.bool k, .int .i64 h, .int .i64 c, .bool s]] w fun e w' => e = .returned (.bool (phB ⟨k, h, c, s⟩)) ∧ Below w.heap.size w w' := by
  cases k <;> cases s
  all_goals go_enter Try.func34, Try.ntmps34
  all_goals go_wp2
  all_goals go_ret
  all_goals exact ⟨ret_bool (by grind [phB]), by (repeat' (first | (with_reducible exact Below.refl _ _) | (with_reducible assumption) | (with_reducible refine below_alloc ?_ _) | (with_reducible refine Below.drew ?_) | (with_reducible refine below_drewN ?_ _) | (with_reducible refine below_step (by assumption) ?_) | (with_reducible refine below_later ?_ _) | (with_reducible refine Below.setCell ?_ ?_ _) | go_size))⟩
theorem rplain_any (k s : Bool) (h c : Int) (w : World) : Calls Try.prog 30 #[.agg #[.bool k, .int .i64 h, .int .i64 c, .bool s]] w fun e w' => e = .returned (.bool (phB ⟨k, h, c, s⟩)) ∧ Below w.heap.size w w' := by
  cases k <;> cases s
  all_goals go_enter Try.func30, Try.ntmps30
  all_goals go_wp2
  all_goals go_ret
  all_goals exact ⟨ret_bool (by grind [phB]), by (repeat' (first | (with_reducible exact Below.refl _ _) | (with_reducible assumption) | (with_reducible refine below_alloc ?_ _) | (with_reducible refine Below.drew ?_) | (with_reducible refine below_drewN ?_ _) | (with_reducible refine below_step (by assumption) ?_) | (with_reducible refine below_later ?_ _) | (with_reducible refine Below.setCell ?_ ?_ _) | go_size))⟩
noncomputable def cphB (xs : List Int) (p : Ph) : Bool := camB xs && phB p
theorem pValid_any (r : Option Addr) (cap : Nat) (xs : List Int) (k s : Bool) (h c : Int) (w : World) (hx : IsInts w r cap .i64 xs) : Calls Try.prog 13 #[.agg #[.slice r xs.length cap], .agg #[.bool k, .int .i64 h, .int .i64 c, .bool s]] w fun e w' => e = .returned (.bool (cphB xs ⟨k, h, c, s⟩)) ∧ Below w.heap.size w w' := by
  have HX : Hid (∀ w', Below w.heap.size w w' → IsInts w' r cap .i64 xs) := Lib.hid (fun _ h => hx.later h)
  have HC := Lib.hid (fun w hx => cam_any r cap xs w hx)
  have HV := Lib.hid (fun w => pvalid_any k s h c w)
  have H : Hid (cphB xs ⟨k, h, c, s⟩ = (camB xs && phB ⟨k, h, c, s⟩)) := Lib.hid rfl
  clear hx
  generalize cphB xs ⟨k, h, c, s⟩ = res at *
  generalize phB ⟨k, h, c, s⟩ = b at *
  generalize camB xs = a at *
  cases a
  all_goals go_enter Try.func13, Try.ntmps13
  all_goals go_wp2_with (first | (go_at_call 32; refine (HC.out _ (HX.out _ (by (repeat' (first | (with_reducible exact Below.refl _ _) | (with_reducible assumption) | (with_reducible refine below_alloc ?_ _) | (with_reducible refine Below.drew ?_) | (with_reducible refine below_drewN ?_ _) | (with_reducible refine below_step (by assumption) ?_) | (with_reducible refine below_later ?_ _) | (with_reducible refine Below.setCell ?_ ?_ _) | go_size))))).mono ?_; rintro e hb1w ⟨rfl, hb1⟩; obtain ⟨hb1c, hb1f⟩ := bcell hb1; have hb1s := hb1.size; (try simp only [World.size_alloc] at hb1s); (try (have : w.heap.size < hb1w.heap.size := by omega)); (try (have : w.heap.size + 1 < hb1w.heap.size := by omega)); (try (have : w.heap.size + 1 + 1 < hb1w.heap.size := by omega)); (try (have : w.heap.size + 1 + 1 + 1 < hb1w.heap.size := by omega)); (try (have : bX < hb1w.heap.size := by omega)); (try (have : bY < hb1w.heap.size := by omega)); (try (have : bZ < hb1w.heap.size := by omega))) | (go_at_call 34; refine (HV.out _).mono ?_; rintro e hb2w ⟨rfl, hb2⟩; obtain ⟨hb2c, hb2f⟩ := bcell hb2; have hb2s := hb2.size; (try simp only [World.size_alloc] at hb2s); (try (have : w.heap.size < hb2w.heap.size := by omega)); (try (have : w.heap.size + 1 < hb2w.heap.size := by omega)); (try (have : w.heap.size + 1 + 1 < hb2w.heap.size := by omega)); (try (have : w.heap.size + 1 + 1 + 1 < hb2w.heap.size := by omega)); (try (have : bX < hb2w.heap.size := by omega)); (try (have : bY < hb2w.heap.size := by omega)); (try (have : bZ < hb2w.heap.size := by omega))))
  all_goals go_ret
  all_goals exact ⟨ret_bool (by rw [H.out]; simp), by (repeat' (first | (with_reducible exact Below.refl _ _) | (with_reducible assumption) | (with_reducible refine below_alloc ?_ _) | (with_reducible refine Below.drew ?_) | (with_reducible refine below_drewN ?_ _) | (with_reducible refine below_step (by assumption) ?_) | (with_reducible refine below_later ?_ _) | (with_reducible refine Below.setCell ?_ ?_ _) | go_size))⟩
theorem new_any (w : World) : Calls Try.prog 16 #[] w fun e w' => e = .returned (phV phZero) ∧ Below w.heap.size w w' := by
  have H : Hid (phV phZero = .agg #[.bool false, .int .i64 0, .int .i64 0, .bool false]) := Lib.hid rfl
  rw [H.out]
  go_enter Try.func16, Try.ntmps16
  go_wp2
  refine bodyPost_ret (by simp [results, Try.results16, go_sem, *]; try rfl) rfl ?_
  exact ⟨rfl, by (repeat' (first | (with_reducible exact Below.refl _ _) | (with_reducible assumption) | (with_reducible refine below_alloc ?_ _) | (with_reducible refine Below.drew ?_) | (with_reducible refine below_drewN ?_ _) | (with_reducible refine below_step (by assumption) ?_) | (with_reducible refine below_later ?_ _) | (with_reducible refine Below.setCell ?_ ?_ _) | go_size))⟩
theorem lose_any (k s : Bool) (h c : Int) (w : World) : Calls Try.prog 17 #[.agg #[.bool k, .int .i64 h, .int .i64 c, .bool s]] w fun e w' => e = .returned (phV phZero) ∧ Below w.heap.size w w' := by
  have HN : Hid (∀ w, Calls Try.prog 16 #[] w fun e w' => e = .returned (.agg #[.bool false, .int .i64 0, .int .i64 0, .bool false]) ∧ Below w.heap.size w w') := Lib.hid (fun w => new_any w)
  have H : Hid (phV phZero = .agg #[.bool false, .int .i64 0, .int .i64 0, .bool false]) := Lib.hid rfl
  rw [H.out]
  go_enter Try.func17, Try.ntmps17
  go_wp2_with ((go_at_call 16; refine (HN.out _).mono ?_; rintro e hb1w ⟨rfl, hb1⟩; obtain ⟨hb1c, hb1f⟩ := bcell hb1; have hb1s := hb1.size; (try simp only [World.size_alloc] at hb1s); (try (have : w.heap.size < hb1w.heap.size := by omega)); (try (have : w.heap.size + 1 < hb1w.heap.size := by omega)); (try (have : w.heap.size + 1 + 1 < hb1w.heap.size := by omega)); (try (have : w.heap.size + 1 + 1 + 1 < hb1w.heap.size := by omega)); (try (have : bX < hb1w.heap.size := by omega)); (try (have : bY < hb1w.heap.size := by omega)); (try (have : bZ < hb1w.heap.size := by omega))))
  refine bodyPost_ret (by simp [results, Try.results17, go_sem, *]; try rfl) rfl ?_
  exact ⟨rfl, by (repeat' (first | (with_reducible exact Below.refl _ _) | (with_reducible assumption) | (with_reducible refine below_alloc ?_ _) | (with_reducible refine Below.drew ?_) | (with_reducible refine below_drewN ?_ _) | (with_reducible refine below_step (by assumption) ?_) | (with_reducible refine below_later ?_ _) | (with_reducible refine Below.setCell ?_ ?_ _) | go_size))⟩
theorem edgeR_any (k s : Bool) (h c : Int) (k' s' : Bool) (h' c' : Int) (w : World) (hc : 0 ≤ c ∧ c ≤ 16) (he : (Ph.mk k h c s).edge = ⟨k', h', c', s'⟩) : Calls Try.prog 19 #[.agg #[.bool k, .int .i64 h, .int .i64 c, .bool s]] w fun e w' => e = .returned (.agg #[.bool k', .int .i64 h', .int .i64 c', .bool s']) ∧ Below w.heap.size w w' := by
  obtain ⟨c0, c1⟩ := hc
  have HE := Lib.hid he
  clear he
  cases s
  · have e := HE.out
    simp only [Ph.edge, Ph.mk.injEq, if_neg Bool.false_ne_true] at e
    obtain ⟨rfl, rfl, rfl, rfl⟩ := e
    go_enter Try.func19, Try.ntmps19
    go_wp2
    refine bodyPost_ret (by simp [results, Try.results19, go_sem, *]; try rfl) rfl ?_
    exact ⟨rfl, by (repeat' (first | (with_reducible exact Below.refl _ _) | (with_reducible assumption) | (with_reducible refine below_alloc ?_ _) | (with_reducible refine Below.drew ?_) | (with_reducible refine below_drewN ?_ _) | (with_reducible refine below_step (by assumption) ?_) | (with_reducible refine below_later ?_ _) | (with_reducible refine Below.setCell ?_ ?_ _) | go_size))⟩
  · have e := HE.out
    simp only [Ph.edge, Ph.mk.injEq, if_true] at e
    obtain ⟨rfl, rfl, e2, rfl⟩ := e
    by_cases h3 : c < 16
    · obtain rfl : c + 1 = c' := by omega
      have h4 : ¬ 16 < c + 1 := by omega
      have h5 : c + 1 ≤ 16 := by omega
      clear e2
      go_enter Try.func19, Try.ntmps19
      go_wp2
      all_goals refine bodyPost_ret (by simp [results, Try.results19, go_sem, *]; try rfl) rfl ?_
      all_goals exact ⟨by first | rfl | (congr; omega), by (repeat' (first | (with_reducible exact Below.refl _ _) | (with_reducible assumption) | (with_reducible refine below_alloc ?_ _) | (with_reducible refine Below.drew ?_) | (with_reducible refine below_drewN ?_ _) | (with_reducible refine below_step (by assumption) ?_) | (with_reducible refine below_later ?_ _) | (with_reducible refine Below.setCell ?_ ?_ _) | go_size))⟩
    · obtain rfl : c = 16 := by omega
      obtain rfl : c' = 16 := by omega
      clear e2
      go_enter Try.func19, Try.ntmps19
      go_wp2
      all_goals refine bodyPost_ret (by simp [results, Try.results19, go_sem, *]; try rfl) rfl ?_
      all_goals exact ⟨by first | rfl | (congr; omega), by (repeat' (first | (with_reducible exact Below.refl _ _) | (with_reducible assumption) | (with_reducible refine below_alloc ?_ _) | (with_reducible refine Below.drew ?_) | (with_reducible refine below_drewN ?_ _) | (with_reducible refine below_step (by assumption) ?_) | (with_reducible refine below_later ?_ _) | (with_reducible refine Below.setCell ?_ ?_ _) | go_size))⟩
end Go.Proofs.Ytoninaidinnbgaa
