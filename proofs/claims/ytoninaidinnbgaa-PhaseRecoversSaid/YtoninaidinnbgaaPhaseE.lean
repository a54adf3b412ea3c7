/- Equality of phases; awake of the laws of phases returns true; great; the contract of Angle. -/
import Derived.Test.YtoninaidinnbgaaPhaseD
import Derived.Test.YtoninaidinnbgaaWheelA
import Derived.DeepKeys
namespace Go.Proofs.Ytoninaidinnbgaa
set_option linter.unusedVariables false
set_option linter.unusedSimpArgs false
open Go.RowKit Go.ChangeShapes Go.WideShapes Go.ChangeAt

theorem ints3 {W : World} {b : Nat} {x y z : Int} (hb : b < W.heap.size) (c0 : W.cell? ⟨b, 0, none⟩ = some (.int .i64 x)) (c1 : W.cell? ⟨b, 1, none⟩ = some (.int .i64 y)) (c2 : W.cell? ⟨b, 2, none⟩ = some (.int .i64 z))
    (hx : (Lit.int .i64 x).wf = true) (hy : (Lit.int .i64 y).wf = true) (hz : (Lit.int .i64 z).wf = true) : IsInts W (some ⟨b, 0, none⟩) 3 .i64 [x, y, z] :=
  ⟨by simp, by simp [maxLen], by simp [hx, hy, hz], fun _ => ⟨b, 0, rfl, hb, fun i hi => by
    match i, hi with
    | 0, _ => simpa using c0
    | 1, _ => simpa using c1
    | 2, _ => simpa using c2⟩⟩
theorem eql_ph (k s : Bool) {h c : Int} (hh : (Lit.int .i64 h).wf = true) (hc : (Lit.int .i64 c).wf = true) (w : World) : (binOp .eql 34 (.agg #[.bool k, .int .i64 h, .int .i64 c, .bool s]) (.agg #[.bool k, .int .i64 h, .int .i64 c, .bool s])).run Try.prog w = .ok (.bool true) w := by
  have hx : ∃ lx, keyOf Try.prog 34 (.agg #[.bool k, .int .i64 h, .int .i64 c, .bool s]) = some lx := by
    have hk : Try.prog.keyType 34 = true := by kernel_rfl
    have hf : Value.formed Try.prog 34 (.agg #[.bool k, .int .i64 h, .int .i64 c, .bool s]) = true := by kernel_rfl
    have c1 : Try.prog.cellsOf 34 = 4 := by kernel_rfl
    have c2 : Try.prog.cellsOf 3 = 1 := by kernel_rfl
    have c3 : Try.prog.cellsOf 4 = 1 := by kernel_rfl
    have hts : ∃ m, Try.prog.types.size + 1 = m + 2 := ⟨Try.prog.types.size - 1, by kernel_rfl⟩
    obtain ⟨m, hm⟩ := hts
    have hl : ∃ L, Try.prog.keyLits (Try.prog.types.size + 1) 34 [.bool k, .int .i64 h, .int .i64 c, .bool s] = some L := by
      rw [hm]
      refine ⟨[.bool k, .int .i64 h, .int .i64 c, .bool s], ?_⟩
      simp [Program.keyLits, Try.underlying34, Try.underlying3, Try.underlying4, c1, c2, c3, hh, hc, show ∀ b, (Lit.bool b).wf = true from fun _ => rfl]
    obtain ⟨L, hL⟩ := hl
    refine ⟨.string (keyBytes L), ?_⟩
    simp only [keyOf, Try.underlying34, hk, hf, Bool.and_self, if_true]
    have e : (Value.agg #[Value.bool k, .int .i64 h, .int .i64 c, .bool s]).cells.toList = [.bool k, .int .i64 h, .int .i64 c, .bool s] := rfl
    rw [e, hL]
    rfl
  obtain ⟨lx, hx⟩ := hx
  obtain ⟨r, hr, hiff⟩ := run_equal_deep w (m := 4) (by omega) (k := 34) (by kernel_rfl) (by kernel_rfl) hx hx
  have hr1 : r = true := hiff.2 rfl
  subst hr1
  simp only [binOp]
  simp [Sem.run_bind, hr]
theorem neq_ph (k s : Bool) {h c : Int} (hh : (Lit.int .i64 h).wf = true) (hc : (Lit.int .i64 c).wf = true) (w : World) : (binOp .neq 34 (.agg #[.bool k, .int .i64 h, .int .i64 c, .bool s]) (.agg #[.bool k, .int .i64 h, .int .i64 c, .bool s])).run Try.prog w = .ok (.bool false) w := by
  have h1 := eql_ph k s hh hc w
  simp only [binOp] at h1 ⊢
  simp only [Sem.run_bind] at h1 ⊢
  cases hq : (Op.equal 34 (.agg #[.bool k, .int .i64 h, .int .i64 c, .bool s]) (.agg #[.bool k, .int .i64 h, .int .i64 c, .bool s])).run Try.prog w <;> simp_all [Result.andThen]
theorem great_any (r : Option Addr) (cap n : Nat) (w : World) : Calls Try.prog 9 #[.agg #[.slice r n cap]] w fun e w' => e = .returned (.bool (decide ((20 : Int) < n))) ∧ Below w.heap.size w w' := by
  go_enter Try.func9, Try.ntmps9
  go_wp2
  go_ret
  exact ⟨by simp, by (repeat' (first | (with_reducible exact Below.refl _ _) | (with_reducible assumption) | (with_reducible refine below_alloc ?_ _) | (with_reducible refine Below.drew ?_) | (with_reducible refine below_drewN ?_ _) | (with_reducible refine below_step (by assumption) ?_) | (with_reducible refine below_later ?_ _) | (with_reducible refine Below.setCell ?_ ?_ _) | go_size))⟩
theorem cam_ex : CamOk [5000, 10000, 30000] :=
  ⟨by simp, by simp, fun t ht => by
    match t, ht with
    | 0, _ => unfold EdgeOk; decide
    | 1, _ => unfold EdgeOk; decide
    | 2, _ => unfold EdgeOk; decide, fun t ht => by
    match t, ht with
    | 0, _ => decide
    | 1, _ => decide
    | t + 2, h => simp at h; omega, by decide⟩
theorem run_ex : phRun (halfI [5000, 10000, 30000]).1 (halfI [5000, 10000, 30000]).2 phZero [23040, 46080, 69120] [30000, 51080, 56080] = [⟨false, 0, 0, true⟩, ⟨true, 0, 0, true⟩, ⟨true, 1, 0, true⟩] := by decide
theorem asc_ex {x y z : Int} (h1 : x < y) (h2 : y < z) : ascB [x, y, z] = true := ascB_true.2 (fun t ht => by
    match t, ht with
    | 0, _ => simpa using h1
    | 1, _ => simpa using h2
    | t + 2, h => simp at h; omega)
theorem three_any (w : World) : Calls Try.prog 31 #[] w fun e w' => e = .returned (.agg #[.slice (some ⟨w.heap.size + 1, 0, none⟩) 3 3]) ∧ IsInts w' (some ⟨w.heap.size + 1, 0, none⟩) 3 .i64 [5000, 10000, 30000] ∧ Below w.heap.size w w' := by
  go_enter Try.func31, Try.ntmps31
  go_wp2
  refine bodyPost_ret (by simp [results, Try.results31, go_sem, *]; try rfl) rfl ?_
  exact ⟨rfl, ints3 (by go_size) (by simp [go_sem]) (by simp [go_sem]) (by simp [go_sem]) (by decide) (by decide) (by decide), by (repeat' (first | (with_reducible exact Below.refl _ _) | (with_reducible assumption) | (with_reducible refine below_alloc ?_ _) | (with_reducible refine Below.drew ?_) | (with_reducible refine below_drewN ?_ _) | (with_reducible refine below_step (by assumption) ?_) | (with_reducible refine below_later ?_ _) | (with_reducible refine Below.setCell ?_ ?_ _) | go_size))⟩
set_option maxRecDepth 100000 in
set_option maxHeartbeats 1000000 in
theorem awake_any (w : World) : Calls Try.prog 8 #[] w fun e w' => e = .returned (.bool true) ∧ Below w.heap.size w w' := by
  have HR : Hid (∀ (r r1 r2 : Option Addr) (w : World), IsInts w r 3 .i64 [5000, 10000, 30000] → IsInts w r1 3 .i64 [23040, 46080, 69120] → IsInts w r2 3 .i64 [30000, 51080, 56080] → Calls Try.prog 12 #[.agg #[.slice r 3 3], .slice r1 3 3, .slice r2 3 3] w fun e w' => ∃ g c, e = .returned (.tuple #[.slice (some ⟨g, 0, none⟩) 3 c, .int .i64 0]) ∧ g < w'.heap.size ∧ w'.cell? ⟨g, 0, none⟩ = some (.bool false) ∧ w'.cell? ⟨g, 4, none⟩ = some (.bool true) ∧ w'.cell? ⟨g, 5, none⟩ = some (.int .i64 0) ∧ w'.cell? ⟨g, 8, none⟩ = some (.bool true) ∧ w'.cell? ⟨g, 9, none⟩ = some (.int .i64 1) ∧ Below w.heap.size w w') :=
    Lib.hid (fun r r1 r2 w hx h1 h2 => (run_ok r r1 r2 3 3 3 [5000, 10000, 30000] [23040, 46080, 69120] [30000, 51080, 56080] w hx h1 h2 (camB_true.2 cam_ex) (asc_ex (by decide) (by decide)) (asc_ex (by decide) (by decide)) (by simp) (by simp)).mono fun e w' ⟨ro, co, he, ho, hb⟩ => by
      rw [run_ex] at ho
      obtain ⟨g, rfl, _, hg, _, _, hcl⟩ := ho.cells phC_len (by simp)
      refine ⟨g, co, he, hg, ?_, ?_, ?_, ?_, ?_, hb⟩
      · simpa using hcl 0 0 _ _ rfl rfl
      · simpa using hcl 1 0 _ _ rfl rfl
      · simpa using hcl 1 1 _ _ rfl rfl
      · simpa using hcl 2 0 _ _ rfl rfl
      · simpa using hcl 2 1 _ _ rfl rfl)
  go_enter Try.func8, Try.ntmps8
  go_wp2_with (first | (go_at_call 31; refine (three_any _).mono ?_; rintro e hb1w ⟨rfl, hi1, hb1⟩; have HI1 : Hid (∀ w', Below hb1w.heap.size hb1w w' → IsInts w' (some ⟨w.heap.size + 1, 0, none⟩) 3 .i64 [5000, 10000, 30000]) := Lib.hid (fun _ h => hi1.later h); clear hi1; have hb1s := hb1.size) | (go_at_call 12; refine (HR.out _ _ _ _ (HI1.out _ (by (repeat' (first | (with_reducible exact Below.refl _ _) | (with_reducible assumption) | (with_reducible refine below_alloc ?_ _) | (with_reducible refine Below.drew ?_) | (with_reducible refine below_drewN ?_ _) | (with_reducible refine below_step (by assumption) ?_) | (with_reducible refine below_later ?_ _) | (with_reducible refine Below.setCell ?_ ?_ _) | go_size)))) (ints3 (by go_size) (by simp [go_sem]) (by simp [go_sem]) (by simp [go_sem]) (by decide) (by decide) (by decide)) (ints3 (by go_size) (by simp [go_sem]) (by simp [go_sem]) (by simp [go_sem]) (by decide) (by decide) (by decide))).mono ?_; rintro e hb2w ⟨g, c, rfl, hg, d0, d4, d5, d8, d9, hb2⟩))
  go_ret
  exact ⟨by simp, by (repeat' (first | (with_reducible exact Below.refl _ _) | (with_reducible assumption) | (with_reducible refine below_alloc ?_ _) | (with_reducible refine Below.drew ?_) | (with_reducible refine below_drewN ?_ _) | (with_reducible refine below_step (by assumption) ?_) | (with_reducible refine below_later ?_ _) | (with_reducible refine Below.setCell ?_ ?_ _) | go_size))⟩
/-- The angle in the cycle. -/
def pangV (T M : Int) (k s : Bool) (h c i : Int) : Int × Int :=
  if wheelB T M = true ∧ phB ⟨k, h, c, s⟩ = true then (if 0 ≤ i ∧ i < T - M then (if k = true then (h * 23040 + i * spI T, 0) else (0, 6)) else (0, 2)) else (0, 1)
end Go.Proofs.Ytoninaidinnbgaa
