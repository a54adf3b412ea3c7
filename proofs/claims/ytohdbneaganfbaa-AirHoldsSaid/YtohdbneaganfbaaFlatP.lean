/- The example's tables of air, in plain terms. -/
import Derived.Test.YtohdbneaganfbaaAirB
namespace Go.Proofs.Ytohdbneaganfbaa
set_option linter.unusedVariables false
set_option linter.unusedSimpArgs false

theorem fax2 {a b : Int} (h : a < b) (ha : -1073741824 ≤ a) (hb : b ≤ 1073741824) : AxisOk [a, b] :=
  ⟨by simp, by simp, any_far_of (fun t ht => by
    match t, ht with
    | 0, _ => simp; omega
    | 1, _ => simp; omega), fun t ht => by
    match t, ht with
    | 0, _ => simpa using h⟩
theorem fcv2 {a b c d : Int} (h : a < b) (ha : -1073741824 ≤ a) (hb : b ≤ 1073741824) (hc : -1073741824 ≤ c ∧ c ≤ 1073741824) (hd : -1073741824 ≤ d ∧ d ≤ 1073741824) : CurveOk [a, b] [c, d] :=
  ⟨by simp, fax2 h ha hb, any_far_of (fun t ht => by
    match t, ht with
    | 0, _ => simpa using hc
    | 1, _ => simpa using hd)⟩
theorem flat_map : MapOk [0, 7000] [50, 1050] [[0, 100000], [0, 100000]] :=
  ⟨fax2 (by omega) (by omega) (by omega), fax2 (by omega) (by omega) (by omega), by simp, fun t ht => by
    match t, ht with
    | 0, _ => exact ⟨by simp, by decide⟩
    | 1, _ => exact ⟨by simp, by decide⟩⟩
theorem flat_row : airRow [0, 100000] = false :=
  airRow_ok (by simp) (upB_true.2 (fun t ht => by
    match t, ht with
    | 0, _ => simp)) (by decide) (by decide)
theorem flat_ok : AirOk [0, 7000] [50, 1050] [[0, 100000], [0, 100000]] [0, 100] [1000, 1000] where
  map := flat_map
  cur := fcv2 (by omega) (by omega) (by omega) (by omega) (by omega)
  bd := by decide
  rows := fun t ht => by
    match t, ht with
    | 0, _ => exact flat_row
    | 1, _ => exact flat_row
theorem flat_const {xs : List Int} {c : Int} (h : CurveOk xs [c, c]) (x : Int) : cval xs [c, c] x = c := by
  have := cval_bd h (lo := c) (hi := c) (fun t ht => by
    match t, ht with
    | 0, _ => simp
    | 1, _ => simp) x
  omega
theorem flat_col0 (s : Int) : cval [0, 7000] (colZ [[0, 100000], [0, 100000]] 0) s = 0 := by
  rw [show colZ [[0, 100000], [0, 100000]] 0 = [0, 0] from rfl]
  exact flat_const (fcv2 (by omega) (by omega) (by omega) (by omega) (by omega)) s
theorem flat_col1 (s : Int) : cval [0, 7000] (colZ [[0, 100000], [0, 100000]] 1) s = 100000 := by
  rw [show colZ [[0, 100000], [0, 100000]] 1 = [100000, 100000] from rfl]
  exact flat_const (fcv2 (by omega) (by omega) (by omega) (by omega) (by omega)) s
theorem flat_m (s p : Int) (h0 : 50 ≤ p) (h1 : p < 1050) : mval [0, 7000] [50, 1050] [[0, 100000], [0, 100000]] s p = (p - 50) * 100 := by
  have e : colV [0, 7000] [[0, 100000], [0, 100000]] s [(50 : Int), 1050].length = [0, 100000] := by
    show [cval [0, 7000] (colZ [[0, 100000], [0, 100000]] 0) s, cval [0, 7000] (colZ [[0, 100000], [0, 100000]] 1) s] = [0, 100000]
    rw [flat_col0, flat_col1]
  unfold mval
  rw [e]
  by_cases h : p = 50
  · subst h
    unfold cval
    rw [if_pos (by simp)]
    rfl
  · have hs : segI [50, 1050] p = 0 := seg_eq (fax2 (by omega) (by omega) (by omega)) (i := 0) (by simp) (by simp; omega) (by simp; omega) (by simp; omega) (by simp; omega)
    unfold cval
    rw [if_neg (by simp; omega), if_neg (by simp; omega), hs]
    simp only [List.getD_cons_zero, List.getD_cons_succ, Nat.zero_add]
    omega
theorem flat_v (s p t : Int) (h0 : 50 ≤ p) (h1 : p < 1050) : airV [0, 7000] [50, 1050] [[0, 100000], [0, 100000]] [0, 100] [1000, 1000] s p t = (p - 50) * 100 := by
  unfold airV airN
  rw [flat_m s p h0 h1, flat_const (fcv2 (by omega) (by omega) (by omega) (by omega) (by omega)) t, if_pos (by omega)]
  omega
theorem flat_prs {s want t : Int} {r : Nat} (hs : inB s 0 12000 = true) (hw : inB want 0 1048576 = true) (ht : inB t (-40) 150 = true) (hr : r < 1000) (h0 : (r : Int) * 100 ≥ want) (h1 : ((r : Int) - 1) * 100 < want) :
    aprs2 [0, 7000] [50, 1050] [[0, 100000], [0, 100000]] [0, 100] [1000, 1000] s want t = (50 + (r : Int), 0) := by
  have e : prsN [0, 7000] [50, 1050] [[0, 100000], [0, 100000]] [0, 100] [1000, 1000] s t want = r := by
    unfold prsN
    refine least_eq (by omega) (fun i hi => ?_) (fun _ => ?_)
    · rw [decide_eq_false_iff_not, flat_v s _ t (by omega) (by omega)]
      omega
    · rw [decide_eq_true_eq, flat_v s _ t (by omega) (by omega)]
      omega
  rw [aprs2_in (airB_true.2 flat_ok) ⟨hs, hw, ht⟩, e, if_neg (by omega)]
theorem flat_chg {s p t : Int} (hs : inB s 0 12000 = true) (hp : inB p 50 3000 = true) (ht : inB t (-40) 150 = true) (h0 : 50 ≤ p) (h1 : p < 1050) :
    achg2 [0, 7000] [50, 1050] [[0, 100000], [0, 100000]] [0, 100] [1000, 1000] s p t = ((p - 50) * 100, 0) := by
  rw [achg2_in (airB_true.2 flat_ok) ⟨hs, hp, ht⟩, flat_v s p t h0 h1]
end Go.Proofs.Ytohdbneaganfbaa
