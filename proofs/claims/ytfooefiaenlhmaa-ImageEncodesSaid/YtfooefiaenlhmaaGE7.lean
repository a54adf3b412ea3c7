/- Lemmas for the laws of package magnetolaw15: Whether everything that an instruction names exists. Whether an instruction fits a program. slices.IndexFunc and slices.ContainsFunc of structs. The least number below a bound with a property. Curves in plain terms: what a valid curve is, and its value. Contracts of sort.Search, slices.IndexFunc and slices.ContainsFunc over slices of integers. Contracts of curve's Valid, segment, value and At. Maps in plain terms: what a valid map is, its value, bounds and order of values. Contracts of surface's axis, Valid, between and segment. The function values of machine.Valid. machine.Valid: what it says; sizes. -/
import Derived.Test.YtfooefiaenlhmaaGE6
import Derived.Deep.LoopGhost
import Derived.Shelf.Abstract
import Derived.Shelf.Bits.Mul64
import Derived.StillTailTactics
namespace Go.Proofs.Ytfooefiaenlhmaa
set_option linter.unusedVariables false
set_option linter.unusedSimpArgs false
open Go.RowKit Go.ChangeShapes Go.WideShapes Go.ChangeAt

def tA (k : Int) : Nat := (k / 16384).toNat
def tB (k : Int) : Nat := (k / 128 % 128).toNat
def tT (k : Int) : Nat := (k % 128).toNat
/-- The types that an instruction names exist. -/
def okT (n : Nat) (op k : Int) : Bool := decide (tA k < n) && ((decide (op = 9 ∨ op = 10) || decide (tB k < n)) && (decide (op = 13 ∨ op = 14) || decide (tT k < n)))
def tyB (types : List Fx) (op k : Int) : Fx := if op = 9 ∨ op = 10 then default else types.getD (tB k) default
def tyT (types : List Fx) (op k : Int) : Fx := if op = 13 ∨ op = 14 then default else types.getD (tT k) default
def fitB (cells : Int) (nv nm : Nat) (types : List Fx) (i : Ins) : Bool :=
  formB i.op i.a i.b i.c i.k && (
    if i.op = 2 ∨ i.op = 3 then decide (i.k < cells)
    else if i.op = 20 then decide (i.k < nv)
    else if i.op = 21 then decide (i.k < nm)
    else if i.op = 22 then decide (i.k / 32 + 1 < cells)
    else if typB i.op = true then okT types.length i.op i.k && unitsB i.op (types.getD (tA i.k) default) (tyB types i.op i.k) (tyT types i.op i.k)
    else true)
theorem tAs {k : Int} (h : 0 ≤ k) : k / 16384 = (tA k : Int) ∧ k / 128 % 128 = (tB k : Int) ∧ k % 128 = (tT k : Int) := by
  unfold tA tB tT
  omega
theorem ty_bad (rc : Option Addr) (lc cc : Nat) (rt : Option Addr) (ct : Nat) (types : List Fx) (rv : Option Addr) (lv cv : Nat) (rm : Option Addr) (lm cm : Nat) (cells : Int) (ri : Option Addr) (li ci : Nat) (rs : Option Addr) (ls cs : Nat) (ro : Option Addr) (lo co : Nat) (rn : Option Addr) (ln cn : Nat) (op a b c k : Int) (hk : I64 k) (h0 : 0 ≤ k) (hok : okT types.length op k = false) (w : World) (hS : IsS 10 Fx.enc w rt ct types) : Calls Try.prog 107 #[.agg #[.slice rc lc cc, .slice rt types.length ct, .slice rv lv cv, .slice rm lm cm, .int .i64 cells, .slice ri li ci, .slice rs ls cs, .slice ro lo co, .slice rn ln cn], .agg #[.int .i64 op, .int .i64 a, .int .i64 b, .int .i64 c, .int .i64 k]] w fun e w' => e = .returned (.tuple #[.agg #[.int .i64 0, .bool false, .int .i64 0, .int .i64 0, .int .i64 0, .int .i64 0, .int .i64 0, .int .i64 0, .int .i64 0, .int .i64 0], .agg #[.int .i64 0, .bool false, .int .i64 0, .int .i64 0, .int .i64 0, .int .i64 0, .int .i64 0, .int .i64 0, .int .i64 0, .int .i64 0], .agg #[.int .i64 0, .bool false, .int .i64 0, .int .i64 0, .int .i64 0, .int .i64 0, .int .i64 0, .int .i64 0, .int .i64 0, .int .i64 0], .bool false]) ∧ Below w.heap.size w w' := by
  obtain ⟨e1, e2, e3⟩ := tAs h0
  by_cases ha : tA k < types.length
  · by_cases o9 : op = 9
    · subst o9
      exact ty_9_t rc lc cc rt ct types rv lv cv rm lm cm cells ri li ci rs ls cs ro lo co rn ln cn a b c k (tA k) (tB k) (tT k) hk e1 e2 e3 ha (by unfold okT at hok; simp at hok; omega) w hS
    by_cases o10 : op = 10
    · subst o10
      exact ty_10_t rc lc cc rt ct types rv lv cv rm lm cm cells ri li ci rs ls cs ro lo co rn ln cn a b c k (tA k) (tB k) (tT k) hk e1 e2 e3 ha (by unfold okT at hok; simp at hok; omega) w hS
    by_cases o13 : op = 13
    · subst o13
      by_cases hb : tB k < types.length
      · exfalso
        have hh := hok
        unfold okT at hh
        simp at hh
        omega
      exact ty_13_b rc lc cc rt ct types rv lv cv rm lm cm cells ri li ci rs ls cs ro lo co rn ln cn a b c k (tA k) (tB k) (tT k) hk e1 e2 e3 ha (by omega) w hS
    by_cases o14 : op = 14
    · subst o14
      by_cases hb : tB k < types.length
      · exfalso
        have hh := hok
        unfold okT at hh
        simp at hh
        omega
      exact ty_14_b rc lc cc rt ct types rv lv cv rm lm cm cells ri li ci rs ls cs ro lo co rn ln cn a b c k (tA k) (tB k) (tT k) hk e1 e2 e3 ha (by omega) w hS
    by_cases hb : tB k < types.length
    · exact ty_n_t rc lc cc rt ct types rv lv cv rm lm cm cells ri li ci rs ls cs ro lo co rn ln cn op a b c k (tA k) (tB k) (tT k) hk e1 e2 e3 o9 o10 o13 o14 ha hb (by unfold okT at hok; simp at hok; omega) w hS
    exact ty_n_b rc lc cc rt ct types rv lv cv rm lm cm cells ri li ci rs ls cs ro lo co rn ln cn op a b c k (tA k) (tB k) (tT k) hk e1 e2 e3 o9 o10 o13 o14 ha (by omega) w hS
  by_cases o9 : op = 9
  · subst o9
    exact ty_9_a rc lc cc rt ct types rv lv cv rm lm cm cells ri li ci rs ls cs ro lo co rn ln cn a b c k (tA k) (tB k) (tT k) hk e1 e2 e3 (by omega) w hS
  by_cases o10 : op = 10
  · subst o10
    exact ty_10_a rc lc cc rt ct types rv lv cv rm lm cm cells ri li ci rs ls cs ro lo co rn ln cn a b c k (tA k) (tB k) (tT k) hk e1 e2 e3 (by omega) w hS
  by_cases o13 : op = 13
  · subst o13
    exact ty_13_a rc lc cc rt ct types rv lv cv rm lm cm cells ri li ci rs ls cs ro lo co rn ln cn a b c k (tA k) (tB k) (tT k) hk e1 e2 e3 (by omega) w hS
  by_cases o14 : op = 14
  · subst o14
    exact ty_14_a rc lc cc rt ct types rv lv cv rm lm cm cells ri li ci rs ls cs ro lo co rn ln cn a b c k (tA k) (tB k) (tT k) hk e1 e2 e3 (by omega) w hS
  exact ty_n_a rc lc cc rt ct types rv lv cv rm lm cm cells ri li ci rs ls cs ro lo co rn ln cn op a b c k (tA k) (tB k) (tT k) hk e1 e2 e3 o9 o10 o13 o14 (by omega) w hS
theorem ty_ok (rc : Option Addr) (lc cc : Nat) (rt : Option Addr) (ct : Nat) (types : List Fx) (rv : Option Addr) (lv cv : Nat) (rm : Option Addr) (lm cm : Nat) (cells : Int) (ri : Option Addr) (li ci : Nat) (rs : Option Addr) (ls cs : Nat) (ro : Option Addr) (lo co : Nat) (rn : Option Addr) (ln cn : Nat) (op a b c k : Int) (hk : I64 k) (h0 : 0 ≤ k) (hok : okT types.length op k = true) (w : World) (hS : IsS 10 Fx.enc w rt ct types) : Calls Try.prog 107 #[.agg #[.slice rc lc cc, .slice rt types.length ct, .slice rv lv cv, .slice rm lm cm, .int .i64 cells, .slice ri li ci, .slice rs ls cs, .slice ro lo co, .slice rn ln cn], .agg #[.int .i64 op, .int .i64 a, .int .i64 b, .int .i64 c, .int .i64 k]] w fun e w' => e = .returned (.tuple #[.agg #[.int .i64 (types.getD (tA k) default).bits, .bool (types.getD (tA k) default).sg, .int .i64 (types.getD (tA k) default).num, .int .i64 (types.getD (tA k) default).off, .int .i64 (types.getD (tA k) default).den, .int .i64 (types.getD (tA k) default).m, .int .i64 (types.getD (tA k) default).kg, .int .i64 (types.getD (tA k) default).s, .int .i64 (types.getD (tA k) default).a, .int .i64 (types.getD (tA k) default).k], .agg #[.int .i64 (tyB types op k).bits, .bool (tyB types op k).sg, .int .i64 (tyB types op k).num, .int .i64 (tyB types op k).off, .int .i64 (tyB types op k).den, .int .i64 (tyB types op k).m, .int .i64 (tyB types op k).kg, .int .i64 (tyB types op k).s, .int .i64 (tyB types op k).a, .int .i64 (tyB types op k).k], .agg #[.int .i64 (tyT types op k).bits, .bool (tyT types op k).sg, .int .i64 (tyT types op k).num, .int .i64 (tyT types op k).off, .int .i64 (tyT types op k).den, .int .i64 (tyT types op k).m, .int .i64 (tyT types op k).kg, .int .i64 (tyT types op k).s, .int .i64 (tyT types op k).a, .int .i64 (tyT types op k).k], .bool true]) ∧ Below w.heap.size w w' := by
  obtain ⟨e1, e2, e3⟩ := tAs h0
  have ha : tA k < types.length := by unfold okT at hok; simp at hok; omega
  by_cases o9 : op = 9
  · subst o9
    have ht : tT k < types.length := by unfold okT at hok; simp at hok; omega
    have h := ty_9_ok rc lc cc rt ct types rv lv cv rm lm cm cells ri li ci rs ls cs ro lo co rn ln cn a b c k (tA k) (tB k) (tT k) hk e1 e2 e3 ha ht w hS
    rw [show tyB types 9 k = default by unfold tyB; simp, show tyT types 9 k = types.getD (tT k) default by unfold tyT; simp]
    exact h
  by_cases o10 : op = 10
  · subst o10
    have ht : tT k < types.length := by unfold okT at hok; simp at hok; omega
    have h := ty_10_ok rc lc cc rt ct types rv lv cv rm lm cm cells ri li ci rs ls cs ro lo co rn ln cn a b c k (tA k) (tB k) (tT k) hk e1 e2 e3 ha ht w hS
    rw [show tyB types 10 k = default by unfold tyB; simp, show tyT types 10 k = types.getD (tT k) default by unfold tyT; simp]
    exact h
  by_cases o13 : op = 13
  · subst o13
    have hb : tB k < types.length := by unfold okT at hok; simp at hok; omega
    have h := ty_13_ok rc lc cc rt ct types rv lv cv rm lm cm cells ri li ci rs ls cs ro lo co rn ln cn a b c k (tA k) (tB k) (tT k) hk e1 e2 e3 ha hb w hS
    rw [show tyB types 13 k = types.getD (tB k) default by unfold tyB; simp, show tyT types 13 k = default by unfold tyT; simp]
    exact h
  by_cases o14 : op = 14
  · subst o14
    have hb : tB k < types.length := by unfold okT at hok; simp at hok; omega
    have h := ty_14_ok rc lc cc rt ct types rv lv cv rm lm cm cells ri li ci rs ls cs ro lo co rn ln cn a b c k (tA k) (tB k) (tT k) hk e1 e2 e3 ha hb w hS
    rw [show tyB types 14 k = types.getD (tB k) default by unfold tyB; simp, show tyT types 14 k = default by unfold tyT; simp]
    exact h
  have hb : tB k < types.length := by unfold okT at hok; simp at hok; omega
  have ht : tT k < types.length := by unfold okT at hok; simp at hok; omega
  have h := ty_n_ok rc lc cc rt ct types rv lv cv rm lm cm cells ri li ci rs ls cs ro lo co rn ln cn op a b c k (tA k) (tB k) (tT k) hk e1 e2 e3 o9 o10 o13 o14 ha hb ht w hS
  rw [show tyB types op k = types.getD (tB k) default by unfold tyB; simp [o9, o10], show tyT types op k = types.getD (tT k) default by unfold tyT; simp [o13, o14]]
  exact h
end Go.Proofs.Ytfooefiaenlhmaa
namespace Go.Proofs.Ytfooefiaenlhmaa
set_option linter.unusedVariables false
set_option linter.unusedSimpArgs false
open Go.RowKit Go.ChangeShapes Go.WideShapes Go.ChangeAt

theorem formed_v {op a b c k : Int} {v : Bool} (hk : I64 k) (h : formB op a b c k = v) (w : World) : Calls Try.prog 105 #[.agg #[.int .i64 op, .int .i64 a, .int .i64 b, .int .i64 c, .int .i64 k]] w fun e w' => e = .returned (.bool v) ∧ Below w.heap.size w w' := by
  subst h
  exact formed_any op a b c k hk w
theorem form_k {op a b c k : Int} (h : formB op a b c k = true) (ht : typB op = true) : 0 ≤ k := by
  unfold formB at h
  simp only [Bool.and_eq_true] at h
  obtain ⟨_, _, _, _, h⟩ := h
  split at h
  · unfold kOk at h
    have h5 := ht
    unfold typB at h5
    simp at h5
    repeat' split at h
    all_goals first | omega | (simp at h; omega)
  · simp at h; omega
set_option maxRecDepth 100000 in
set_option maxHeartbeats 4000000 in
theorem fi_bad (rc : Option Addr) (lc cc : Nat) (rt : Option Addr) (ct : Nat) (types : List Fx) (rv : Option Addr) (lv cv : Nat) (rm : Option Addr) (lm cm : Nat) (cells : Int) (ri : Option Addr) (li ci : Nat) (rs : Option Addr) (ls cs : Nat) (ro : Option Addr) (lo co : Nat) (rn : Option Addr) (ln cn : Nat) (op a b c k : Int) (hk : I64 k) (hf : formB op a b c k = false) (w : World) (hS : IsS 10 Fx.enc w rt ct types) : Calls Try.prog 67 #[.agg #[.slice rc lc cc, .slice rt types.length ct, .slice rv lv cv, .slice rm lm cm, .int .i64 cells, .slice ri li ci, .slice rs ls cs, .slice ro lo co, .slice rn ln cn], .agg #[.int .i64 op, .int .i64 a, .int .i64 b, .int .i64 c, .int .i64 k]] w fun e w' => e = .returned (.bool (false)) ∧ Below w.heap.size w w' := by
  have HF : Hid (formB op a b c k = false) := Lib.hid hf
  clear hf
  go_enter Try.func67, Try.ntmps67
  go_wp2_with (first | (go_at_call 105; refine (formed_v hk HF.out _).mono ?_; rintro _ w1 ⟨rfl, hb1⟩; obtain ⟨hb1c, hb1f⟩ := bcell hb1; have hb1s := hb1.size; (try simp only [World.size_alloc] at hb1s); have hx0 : w.heap.size < w1.heap.size := (by omega); have hx1 : w.heap.size + 1 < w1.heap.size := (by omega)))
  all_goals go_ret
  all_goals exact ⟨by first | rfl | (simp [*]; done), by (repeat' (first | (with_reducible exact Below.refl _ _) | (with_reducible assumption) | (with_reducible refine below_alloc ?_ _) | (with_reducible refine Below.drew ?_) | (with_reducible refine below_drewN ?_ _) | (with_reducible refine below_step (by assumption) ?_) | (with_reducible refine below_later ?_ _) | (with_reducible refine Below.setCell ?_ ?_ _) | go_size))⟩
set_option maxRecDepth 100000 in
set_option maxHeartbeats 4000000 in
theorem fi_2 (rc : Option Addr) (lc cc : Nat) (rt : Option Addr) (ct : Nat) (types : List Fx) (rv : Option Addr) (lv cv : Nat) (rm : Option Addr) (lm cm : Nat) (cells : Int) (ri : Option Addr) (li ci : Nat) (rs : Option Addr) (ls cs : Nat) (ro : Option Addr) (lo co : Nat) (rn : Option Addr) (ln cn : Nat) (a b c k : Int) (hk : I64 k) (hf : formB 2 a b c k = true) (w : World) (hS : IsS 10 Fx.enc w rt ct types) : Calls Try.prog 67 #[.agg #[.slice rc lc cc, .slice rt types.length ct, .slice rv lv cv, .slice rm lm cm, .int .i64 cells, .slice ri li ci, .slice rs ls cs, .slice ro lo co, .slice rn ln cn], .agg #[.int .i64 2, .int .i64 a, .int .i64 b, .int .i64 c, .int .i64 k]] w fun e w' => e = .returned (.bool (decide (k < cells))) ∧ Below w.heap.size w w' := by
  have HF : Hid (formB 2 a b c k = true) := Lib.hid hf
  clear hf
  go_enter Try.func67, Try.ntmps67
  go_wp2_with (first | (go_at_call 105; refine (formed_v hk HF.out _).mono ?_; rintro _ w1 ⟨rfl, hb1⟩; obtain ⟨hb1c, hb1f⟩ := bcell hb1; have hb1s := hb1.size; (try simp only [World.size_alloc] at hb1s); have hx0 : w.heap.size < w1.heap.size := (by omega); have hx1 : w.heap.size + 1 < w1.heap.size := (by omega)))
  all_goals go_ret
  all_goals exact ⟨by first | rfl | (simp [*]; done), by (repeat' (first | (with_reducible exact Below.refl _ _) | (with_reducible assumption) | (with_reducible refine below_alloc ?_ _) | (with_reducible refine Below.drew ?_) | (with_reducible refine below_drewN ?_ _) | (with_reducible refine below_step (by assumption) ?_) | (with_reducible refine below_later ?_ _) | (with_reducible refine Below.setCell ?_ ?_ _) | go_size))⟩
set_option maxRecDepth 100000 in
set_option maxHeartbeats 4000000 in
theorem fi_3 (rc : Option Addr) (lc cc : Nat) (rt : Option Addr) (ct : Nat) (types : List Fx) (rv : Option Addr) (lv cv : Nat) (rm : Option Addr) (lm cm : Nat) (cells : Int) (ri : Option Addr) (li ci : Nat) (rs : Option Addr) (ls cs : Nat) (ro : Option Addr) (lo co : Nat) (rn : Option Addr) (ln cn : Nat) (a b c k : Int) (hk : I64 k) (hf : formB 3 a b c k = true) (w : World) (hS : IsS 10 Fx.enc w rt ct types) : Calls Try.prog 67 #[.agg #[.slice rc lc cc, .slice rt types.length ct, .slice rv lv cv, .slice rm lm cm, .int .i64 cells, .slice ri li ci, .slice rs ls cs, .slice ro lo co, .slice rn ln cn], .agg #[.int .i64 3, .int .i64 a, .int .i64 b, .int .i64 c, .int .i64 k]] w fun e w' => e = .returned (.bool (decide (k < cells))) ∧ Below w.heap.size w w' := by
  have HF : Hid (formB 3 a b c k = true) := Lib.hid hf
  clear hf
  go_enter Try.func67, Try.ntmps67
  go_wp2_with (first | (go_at_call 105; refine (formed_v hk HF.out _).mono ?_; rintro _ w1 ⟨rfl, hb1⟩; obtain ⟨hb1c, hb1f⟩ := bcell hb1; have hb1s := hb1.size; (try simp only [World.size_alloc] at hb1s); have hx0 : w.heap.size < w1.heap.size := (by omega); have hx1 : w.heap.size + 1 < w1.heap.size := (by omega)))
  all_goals go_ret
  all_goals exact ⟨by first | rfl | (simp [*]; done), by (repeat' (first | (with_reducible exact Below.refl _ _) | (with_reducible assumption) | (with_reducible refine below_alloc ?_ _) | (with_reducible refine Below.drew ?_) | (with_reducible refine below_drewN ?_ _) | (with_reducible refine below_step (by assumption) ?_) | (with_reducible refine below_later ?_ _) | (with_reducible refine Below.setCell ?_ ?_ _) | go_size))⟩
set_option maxRecDepth 100000 in
set_option maxHeartbeats 4000000 in
theorem fi_20 (rc : Option Addr) (lc cc : Nat) (rt : Option Addr) (ct : Nat) (types : List Fx) (rv : Option Addr) (lv cv : Nat) (rm : Option Addr) (lm cm : Nat) (cells : Int) (ri : Option Addr) (li ci : Nat) (rs : Option Addr) (ls cs : Nat) (ro : Option Addr) (lo co : Nat) (rn : Option Addr) (ln cn : Nat) (a b c k : Int) (hk : I64 k) (hf : formB 20 a b c k = true) (w : World) (hS : IsS 10 Fx.enc w rt ct types) : Calls Try.prog 67 #[.agg #[.slice rc lc cc, .slice rt types.length ct, .slice rv lv cv, .slice rm lm cm, .int .i64 cells, .slice ri li ci, .slice rs ls cs, .slice ro lo co, .slice rn ln cn], .agg #[.int .i64 20, .int .i64 a, .int .i64 b, .int .i64 c, .int .i64 k]] w fun e w' => e = .returned (.bool (decide (k < lv))) ∧ Below w.heap.size w w' := by
  have HF : Hid (formB 20 a b c k = true) := Lib.hid hf
  clear hf
  go_enter Try.func67, Try.ntmps67
  go_wp2_with (first | (go_at_call 105; refine (formed_v hk HF.out _).mono ?_; rintro _ w1 ⟨rfl, hb1⟩; obtain ⟨hb1c, hb1f⟩ := bcell hb1; have hb1s := hb1.size; (try simp only [World.size_alloc] at hb1s); have hx0 : w.heap.size < w1.heap.size := (by omega); have hx1 : w.heap.size + 1 < w1.heap.size := (by omega)))
  all_goals go_ret
  all_goals exact ⟨by first | rfl | (simp [*]; done), by (repeat' (first | (with_reducible exact Below.refl _ _) | (with_reducible assumption) | (with_reducible refine below_alloc ?_ _) | (with_reducible refine Below.drew ?_) | (with_reducible refine below_drewN ?_ _) | (with_reducible refine below_step (by assumption) ?_) | (with_reducible refine below_later ?_ _) | (with_reducible refine Below.setCell ?_ ?_ _) | go_size))⟩
set_option maxRecDepth 100000 in
set_option maxHeartbeats 4000000 in
theorem fi_21 (rc : Option Addr) (lc cc : Nat) (rt : Option Addr) (ct : Nat) (types : List Fx) (rv : Option Addr) (lv cv : Nat) (rm : Option Addr) (lm cm : Nat) (cells : Int) (ri : Option Addr) (li ci : Nat) (rs : Option Addr) (ls cs : Nat) (ro : Option Addr) (lo co : Nat) (rn : Option Addr) (ln cn : Nat) (a b c k : Int) (hk : I64 k) (hf : formB 21 a b c k = true) (w : World) (hS : IsS 10 Fx.enc w rt ct types) : Calls Try.prog 67 #[.agg #[.slice rc lc cc, .slice rt types.length ct, .slice rv lv cv, .slice rm lm cm, .int .i64 cells, .slice ri li ci, .slice rs ls cs, .slice ro lo co, .slice rn ln cn], .agg #[.int .i64 21, .int .i64 a, .int .i64 b, .int .i64 c, .int .i64 k]] w fun e w' => e = .returned (.bool (decide (k < lm))) ∧ Below w.heap.size w w' := by
  have HF : Hid (formB 21 a b c k = true) := Lib.hid hf
  clear hf
  go_enter Try.func67, Try.ntmps67
  go_wp2_with (first | (go_at_call 105; refine (formed_v hk HF.out _).mono ?_; rintro _ w1 ⟨rfl, hb1⟩; obtain ⟨hb1c, hb1f⟩ := bcell hb1; have hb1s := hb1.size; (try simp only [World.size_alloc] at hb1s); have hx0 : w.heap.size < w1.heap.size := (by omega); have hx1 : w.heap.size + 1 < w1.heap.size := (by omega)))
  all_goals go_ret
  all_goals exact ⟨by first | rfl | (simp [*]; done), by (repeat' (first | (with_reducible exact Below.refl _ _) | (with_reducible assumption) | (with_reducible refine below_alloc ?_ _) | (with_reducible refine Below.drew ?_) | (with_reducible refine below_drewN ?_ _) | (with_reducible refine below_step (by assumption) ?_) | (with_reducible refine below_later ?_ _) | (with_reducible refine Below.setCell ?_ ?_ _) | go_size))⟩
set_option maxRecDepth 100000 in
set_option maxHeartbeats 4000000 in
theorem fi_22 (rc : Option Addr) (lc cc : Nat) (rt : Option Addr) (ct : Nat) (types : List Fx) (rv : Option Addr) (lv cv : Nat) (rm : Option Addr) (lm cm : Nat) (cells : Int) (ri : Option Addr) (li ci : Nat) (rs : Option Addr) (ls cs : Nat) (ro : Option Addr) (lo co : Nat) (rn : Option Addr) (ln cn : Nat) (a b c k : Int) (hk : I64 k) (hf : formB 22 a b c k = true) (w : World) (hS : IsS 10 Fx.enc w rt ct types) : Calls Try.prog 67 #[.agg #[.slice rc lc cc, .slice rt types.length ct, .slice rv lv cv, .slice rm lm cm, .int .i64 cells, .slice ri li ci, .slice rs ls cs, .slice ro lo co, .slice rn ln cn], .agg #[.int .i64 22, .int .i64 a, .int .i64 b, .int .i64 c, .int .i64 k]] w fun e w' => e = .returned (.bool (decide (k / 32 + 1 < cells))) ∧ Below w.heap.size w w' := by
  have hw : IntKind.i64.wrap (k / 32 + 1) = k / 32 + 1 := IntWalk.i64_in _ (by have := I64.bd hk; omega)
  have HF : Hid (formB 22 a b c k = true) := Lib.hid hf
  clear hf
  go_enter Try.func67, Try.ntmps67
  go_wp2_with (first | (go_at_call 105; refine (formed_v hk HF.out _).mono ?_; rintro _ w1 ⟨rfl, hb1⟩; obtain ⟨hb1c, hb1f⟩ := bcell hb1; have hb1s := hb1.size; (try simp only [World.size_alloc] at hb1s); have hx0 : w.heap.size < w1.heap.size := (by omega); have hx1 : w.heap.size + 1 < w1.heap.size := (by omega)))
  all_goals go_ret
  all_goals exact ⟨by first | rfl | (simp [*]; done), by (repeat' (first | (with_reducible exact Below.refl _ _) | (with_reducible assumption) | (with_reducible refine below_alloc ?_ _) | (with_reducible refine Below.drew ?_) | (with_reducible refine below_drewN ?_ _) | (with_reducible refine below_step (by assumption) ?_) | (with_reducible refine below_later ?_ _) | (with_reducible refine Below.setCell ?_ ?_ _) | go_size))⟩
set_option maxRecDepth 100000 in
set_option maxHeartbeats 4000000 in
theorem fi_o (rc : Option Addr) (lc cc : Nat) (rt : Option Addr) (ct : Nat) (types : List Fx) (rv : Option Addr) (lv cv : Nat) (rm : Option Addr) (lm cm : Nat) (cells : Int) (ri : Option Addr) (li ci : Nat) (rs : Option Addr) (ls cs : Nat) (ro : Option Addr) (lo co : Nat) (rn : Option Addr) (ln cn : Nat) (op a b c k : Int) (hk : I64 k) (n2 : ¬ op = 2) (n3 : ¬ op = 3) (n20 : ¬ op = 20) (n21 : ¬ op = 21) (n22 : ¬ op = 22) (ht : typB op = false) (hf : formB op a b c k = true) (w : World) (hS : IsS 10 Fx.enc w rt ct types) : Calls Try.prog 67 #[.agg #[.slice rc lc cc, .slice rt types.length ct, .slice rv lv cv, .slice rm lm cm, .int .i64 cells, .slice ri li ci, .slice rs ls cs, .slice ro lo co, .slice rn ln cn], .agg #[.int .i64 op, .int .i64 a, .int .i64 b, .int .i64 c, .int .i64 k]] w fun e w' => e = .returned (.bool (true)) ∧ Below w.heap.size w w' := by
  have e2 : (op == 2) = false := by simp [n2]
  have e3 : (op == 3) = false := by simp [n3]
  have e20 : (op == 20) = false := by simp [n20]
  have e21 : (op == 21) = false := by simp [n21]
  have e22 : (op == 22) = false := by simp [n22]
  have HT := Lib.hid ht
  clear ht
  have HF : Hid (formB op a b c k = true) := Lib.hid hf
  clear hf
  go_enter Try.func67, Try.ntmps67
  go_wp2_with (first | (go_at_call 105; refine (formed_v hk HF.out _).mono ?_; rintro _ w1 ⟨rfl, hb1⟩; obtain ⟨hb1c, hb1f⟩ := bcell hb1; have hb1s := hb1.size; (try simp only [World.size_alloc] at hb1s); have hx0 : w.heap.size < w1.heap.size := (by omega); have hx1 : w.heap.size + 1 < w1.heap.size := (by omega)) | (go_at_call 106; refine (typed_v HT.out _).mono ?_; rintro e w' ⟨rfl, rfl⟩))
  all_goals go_ret
  all_goals exact ⟨by first | rfl | (simp [*]; done), by (repeat' (first | (with_reducible exact Below.refl _ _) | (with_reducible assumption) | (with_reducible refine below_alloc ?_ _) | (with_reducible refine Below.drew ?_) | (with_reducible refine below_drewN ?_ _) | (with_reducible refine below_step (by assumption) ?_) | (with_reducible refine below_later ?_ _) | (with_reducible refine Below.setCell ?_ ?_ _) | go_size))⟩
set_option maxRecDepth 100000 in
set_option maxHeartbeats 4000000 in
theorem fi_tb (rc : Option Addr) (lc cc : Nat) (rt : Option Addr) (ct : Nat) (types : List Fx) (rv : Option Addr) (lv cv : Nat) (rm : Option Addr) (lm cm : Nat) (cells : Int) (ri : Option Addr) (li ci : Nat) (rs : Option Addr) (ls cs : Nat) (ro : Option Addr) (lo co : Nat) (rn : Option Addr) (ln cn : Nat) (op a b c k : Int) (hk : I64 k) (n2 : ¬ op = 2) (n3 : ¬ op = 3) (n20 : ¬ op = 20) (n21 : ¬ op = 21) (n22 : ¬ op = 22) (ht : typB op = true) (h0 : 0 ≤ k) (hf : formB op a b c k = true) (hok : okT types.length op k = false) (w : World) (hS : IsS 10 Fx.enc w rt ct types) : Calls Try.prog 67 #[.agg #[.slice rc lc cc, .slice rt types.length ct, .slice rv lv cv, .slice rm lm cm, .int .i64 cells, .slice ri li ci, .slice rs ls cs, .slice ro lo co, .slice rn ln cn], .agg #[.int .i64 op, .int .i64 a, .int .i64 b, .int .i64 c, .int .i64 k]] w fun e w' => e = .returned (.bool (false)) ∧ Below w.heap.size w w' := by
  have e2 : (op == 2) = false := by simp [n2]
  have e3 : (op == 3) = false := by simp [n3]
  have e20 : (op == 20) = false := by simp [n20]
  have e21 : (op == 21) = false := by simp [n21]
  have e22 : (op == 22) = false := by simp [n22]
  have HT := Lib.hid ht
  have HTY : Hid (∀ W, Below w.heap.size w W → Calls Try.prog 107 #[.agg #[.slice rc lc cc, .slice rt types.length ct, .slice rv lv cv, .slice rm lm cm, .int .i64 cells, .slice ri li ci, .slice rs ls cs, .slice ro lo co, .slice rn ln cn], .agg #[.int .i64 op, .int .i64 a, .int .i64 b, .int .i64 c, .int .i64 k]] W fun e w' => e = .returned (.tuple #[.agg #[.int .i64 0, .bool false, .int .i64 0, .int .i64 0, .int .i64 0, .int .i64 0, .int .i64 0, .int .i64 0, .int .i64 0, .int .i64 0], .agg #[.int .i64 0, .bool false, .int .i64 0, .int .i64 0, .int .i64 0, .int .i64 0, .int .i64 0, .int .i64 0, .int .i64 0, .int .i64 0], .agg #[.int .i64 0, .bool false, .int .i64 0, .int .i64 0, .int .i64 0, .int .i64 0, .int .i64 0, .int .i64 0, .int .i64 0, .int .i64 0], .bool false]) ∧ Below W.heap.size W w') := Lib.hid (fun W hW => ty_bad rc lc cc rt ct types rv lv cv rm lm cm cells ri li ci rs ls cs ro lo co rn ln cn op a b c k hk h0 hok W (hS.later hW))
  clear ht hS
  have HF : Hid (formB op a b c k = true) := Lib.hid hf
  clear hf
  go_enter Try.func67, Try.ntmps67
  go_wp2_with (first | (go_at_call 105; refine (formed_v hk HF.out _).mono ?_; rintro _ w1 ⟨rfl, hb1⟩; obtain ⟨hb1c, hb1f⟩ := bcell hb1; have hb1s := hb1.size; (try simp only [World.size_alloc] at hb1s); have hx0 : w.heap.size < w1.heap.size := (by omega); have hx1 : w.heap.size + 1 < w1.heap.size := (by omega)) | (go_at_call 106; refine (typed_v HT.out _).mono ?_; rintro e w' ⟨rfl, rfl⟩) | (go_at_call 107; refine (HTY.out _ (by (repeat' (first | (with_reducible exact Below.refl _ _) | (with_reducible assumption) | (with_reducible refine below_alloc ?_ _) | (with_reducible refine Below.drew ?_) | (with_reducible refine below_drewN ?_ _) | (with_reducible refine below_step (by assumption) ?_) | (with_reducible refine below_later ?_ _) | (with_reducible refine Below.setCell ?_ ?_ _) | go_size)))).mono ?_; rintro _ w2 ⟨rfl, hb2⟩; obtain ⟨hb2c, hb2f⟩ := bcell hb2; have hb2s := hb2.size; have hy0 : w.heap.size < w2.heap.size := (by omega); have hy1 : w.heap.size + 1 < w2.heap.size := (by omega)))
  all_goals go_ret
  all_goals exact ⟨by first | rfl | (simp [*]; done), by (repeat' (first | (with_reducible exact Below.refl _ _) | (with_reducible assumption) | (with_reducible refine below_alloc ?_ _) | (with_reducible refine Below.drew ?_) | (with_reducible refine below_drewN ?_ _) | (with_reducible refine below_step (by assumption) ?_) | (with_reducible refine below_later ?_ _) | (with_reducible refine Below.setCell ?_ ?_ _) | go_size))⟩
set_option maxRecDepth 100000 in
set_option maxHeartbeats 4000000 in
theorem fi_tk (rc : Option Addr) (lc cc : Nat) (rt : Option Addr) (ct : Nat) (types : List Fx) (rv : Option Addr) (lv cv : Nat) (rm : Option Addr) (lm cm : Nat) (cells : Int) (ri : Option Addr) (li ci : Nat) (rs : Option Addr) (ls cs : Nat) (ro : Option Addr) (lo co : Nat) (rn : Option Addr) (ln cn : Nat) (op a b c k : Int) (hk : I64 k) (n2 : ¬ op = 2) (n3 : ¬ op = 3) (n20 : ¬ op = 20) (n21 : ¬ op = 21) (n22 : ¬ op = 22) (ht : typB op = true) (h0 : 0 ≤ k) (hf : formB op a b c k = true) (hok : okT types.length op k = true) (w : World) (hS : IsS 10 Fx.enc w rt ct types) : Calls Try.prog 67 #[.agg #[.slice rc lc cc, .slice rt types.length ct, .slice rv lv cv, .slice rm lm cm, .int .i64 cells, .slice ri li ci, .slice rs ls cs, .slice ro lo co, .slice rn ln cn], .agg #[.int .i64 op, .int .i64 a, .int .i64 b, .int .i64 c, .int .i64 k]] w fun e w' => e = .returned (.bool (unitsB op (types.getD (tA k) default) (tyB types op k) (tyT types op k))) ∧ Below w.heap.size w w' := by
  have e2 : (op == 2) = false := by simp [n2]
  have e3 : (op == 3) = false := by simp [n3]
  have e20 : (op == 20) = false := by simp [n20]
  have e21 : (op == 21) = false := by simp [n21]
  have e22 : (op == 22) = false := by simp [n22]
  have HT := Lib.hid ht
  have HTY : Hid (∀ W, Below w.heap.size w W → Calls Try.prog 107 #[.agg #[.slice rc lc cc, .slice rt types.length ct, .slice rv lv cv, .slice rm lm cm, .int .i64 cells, .slice ri li ci, .slice rs ls cs, .slice ro lo co, .slice rn ln cn], .agg #[.int .i64 op, .int .i64 a, .int .i64 b, .int .i64 c, .int .i64 k]] W fun e w' => e = .returned (.tuple #[.agg #[.int .i64 (types.getD (tA k) default).bits, .bool (types.getD (tA k) default).sg, .int .i64 (types.getD (tA k) default).num, .int .i64 (types.getD (tA k) default).off, .int .i64 (types.getD (tA k) default).den, .int .i64 (types.getD (tA k) default).m, .int .i64 (types.getD (tA k) default).kg, .int .i64 (types.getD (tA k) default).s, .int .i64 (types.getD (tA k) default).a, .int .i64 (types.getD (tA k) default).k], .agg #[.int .i64 (tyB types op k).bits, .bool (tyB types op k).sg, .int .i64 (tyB types op k).num, .int .i64 (tyB types op k).off, .int .i64 (tyB types op k).den, .int .i64 (tyB types op k).m, .int .i64 (tyB types op k).kg, .int .i64 (tyB types op k).s, .int .i64 (tyB types op k).a, .int .i64 (tyB types op k).k], .agg #[.int .i64 (tyT types op k).bits, .bool (tyT types op k).sg, .int .i64 (tyT types op k).num, .int .i64 (tyT types op k).off, .int .i64 (tyT types op k).den, .int .i64 (tyT types op k).m, .int .i64 (tyT types op k).kg, .int .i64 (tyT types op k).s, .int .i64 (tyT types op k).a, .int .i64 (tyT types op k).k], .bool true]) ∧ Below W.heap.size W w') := Lib.hid (fun W hW => ty_ok rc lc cc rt ct types rv lv cv rm lm cm cells ri li ci rs ls cs ro lo co rn ln cn op a b c k hk h0 hok W (hS.later hW))
  clear ht hS
  have HF : Hid (formB op a b c k = true) := Lib.hid hf
  clear hf
  generalize types.getD (tA k) default = X at *
  generalize tyB types op k = Y at *
  generalize tyT types op k = T at *
  obtain ⟨X0, X1, X2, X3, X4, X5, X6, X7, X8, X9⟩ := X
  obtain ⟨Y0, Y1, Y2, Y3, Y4, Y5, Y6, Y7, Y8, Y9⟩ := Y
  obtain ⟨T0, T1, T2, T3, T4, T5, T6, T7, T8, T9⟩ := T
  have HUN := Lib.hid (fun W => units_any op a b c k ⟨X0, X1, X2, X3, X4, X5, X6, X7, X8, X9⟩ ⟨Y0, Y1, Y2, Y3, Y4, Y5, Y6, Y7, Y8, Y9⟩ ⟨T0, T1, T2, T3, T4, T5, T6, T7, T8, T9⟩ W)
  generalize unitsB op ⟨X0, X1, X2, X3, X4, X5, X6, X7, X8, X9⟩ ⟨Y0, Y1, Y2, Y3, Y4, Y5, Y6, Y7, Y8, Y9⟩ ⟨T0, T1, T2, T3, T4, T5, T6, T7, T8, T9⟩ = R at *
  simp only at HTY HUN
  go_enter Try.func67, Try.ntmps67
  go_wp2_with (first | (go_at_call 105; refine (formed_v hk HF.out _).mono ?_; rintro _ w1 ⟨rfl, hb1⟩; obtain ⟨hb1c, hb1f⟩ := bcell hb1; have hb1s := hb1.size; (try simp only [World.size_alloc] at hb1s); have hx0 : w.heap.size < w1.heap.size := (by omega); have hx1 : w.heap.size + 1 < w1.heap.size := (by omega)) | (go_at_call 106; refine (typed_v HT.out _).mono ?_; rintro e w' ⟨rfl, rfl⟩) | (go_at_call 107; refine (HTY.out _ (by (repeat' (first | (with_reducible exact Below.refl _ _) | (with_reducible assumption) | (with_reducible refine below_alloc ?_ _) | (with_reducible refine Below.drew ?_) | (with_reducible refine below_drewN ?_ _) | (with_reducible refine below_step (by assumption) ?_) | (with_reducible refine below_later ?_ _) | (with_reducible refine Below.setCell ?_ ?_ _) | go_size)))).mono ?_; rintro _ w2 ⟨rfl, hb2⟩; obtain ⟨hb2c, hb2f⟩ := bcell hb2; have hb2s := hb2.size; have hy0 : w.heap.size < w2.heap.size := (by omega); have hy1 : w.heap.size + 1 < w2.heap.size := (by omega)) | (go_at_call 108; refine (HUN.out _).mono ?_; rintro _ w3 ⟨rfl, hb3⟩))
  all_goals go_ret
  all_goals exact ⟨by first | rfl | (simp [*]; done), by (repeat' (first | (with_reducible exact Below.refl _ _) | (with_reducible assumption) | (with_reducible refine below_alloc ?_ _) | (with_reducible refine Below.drew ?_) | (with_reducible refine below_drewN ?_ _) | (with_reducible refine below_step (by assumption) ?_) | (with_reducible refine below_later ?_ _) | (with_reducible refine Below.setCell ?_ ?_ _) | go_size))⟩
theorem fits_any (rc : Option Addr) (lc cc : Nat) (rt : Option Addr) (ct : Nat) (types : List Fx) (rv : Option Addr) (lv cv : Nat) (rm : Option Addr) (lm cm : Nat) (cells : Int) (ri : Option Addr) (li ci : Nat) (rs : Option Addr) (ls cs : Nat) (ro : Option Addr) (lo co : Nat) (rn : Option Addr) (ln cn : Nat) (op a b c k : Int) (hk : I64 k) (w : World) (hS : IsS 10 Fx.enc w rt ct types) : Calls Try.prog 67 #[.agg #[.slice rc lc cc, .slice rt types.length ct, .slice rv lv cv, .slice rm lm cm, .int .i64 cells, .slice ri li ci, .slice rs ls cs, .slice ro lo co, .slice rn ln cn], .agg #[.int .i64 op, .int .i64 a, .int .i64 b, .int .i64 c, .int .i64 k]] w fun e w' => e = .returned (.bool (fitB cells lv lm types ⟨op, a, b, c, k⟩)) ∧ Below w.heap.size w w' := by
  cases hf : formB op a b c k
  · rw [show fitB cells lv lm types ⟨op, a, b, c, k⟩ = false by unfold fitB; simp [hf]]
    exact fi_bad rc lc cc rt ct types rv lv cv rm lm cm cells ri li ci rs ls cs ro lo co rn ln cn op a b c k hk hf w hS
  by_cases n2 : op = 2
  · subst n2
    rw [show fitB cells lv lm types ⟨2, a, b, c, k⟩ = decide (k < cells) by unfold fitB; simp [hf]]
    exact fi_2 rc lc cc rt ct types rv lv cv rm lm cm cells ri li ci rs ls cs ro lo co rn ln cn a b c k hk hf w hS
  by_cases n3 : op = 3
  · subst n3
    rw [show fitB cells lv lm types ⟨3, a, b, c, k⟩ = decide (k < cells) by unfold fitB; simp [hf]]
    exact fi_3 rc lc cc rt ct types rv lv cv rm lm cm cells ri li ci rs ls cs ro lo co rn ln cn a b c k hk hf w hS
  by_cases n20 : op = 20
  · subst n20
    rw [show fitB cells lv lm types ⟨20, a, b, c, k⟩ = decide (k < (lv : Int)) by unfold fitB; simp [hf]]
    exact fi_20 rc lc cc rt ct types rv lv cv rm lm cm cells ri li ci rs ls cs ro lo co rn ln cn a b c k hk hf w hS
  by_cases n21 : op = 21
  · subst n21
    rw [show fitB cells lv lm types ⟨21, a, b, c, k⟩ = decide (k < (lm : Int)) by unfold fitB; simp [hf]]
    exact fi_21 rc lc cc rt ct types rv lv cv rm lm cm cells ri li ci rs ls cs ro lo co rn ln cn a b c k hk hf w hS
  by_cases n22 : op = 22
  · subst n22
    rw [show fitB cells lv lm types ⟨22, a, b, c, k⟩ = decide (k / 32 + 1 < cells) by unfold fitB; simp [hf]]
    exact fi_22 rc lc cc rt ct types rv lv cv rm lm cm cells ri li ci rs ls cs ro lo co rn ln cn a b c k hk hf w hS
  cases ht : typB op
  · rw [show fitB cells lv lm types ⟨op, a, b, c, k⟩ = true by unfold fitB; simp [hf, n2, n3, n20, n21, n22, ht]]
    exact fi_o rc lc cc rt ct types rv lv cv rm lm cm cells ri li ci rs ls cs ro lo co rn ln cn op a b c k hk n2 n3 n20 n21 n22 ht hf w hS
  cases hok : okT types.length op k
  · rw [show fitB cells lv lm types ⟨op, a, b, c, k⟩ = false by unfold fitB; simp [hf, n2, n3, n20, n21, n22, ht, hok]]
    exact fi_tb rc lc cc rt ct types rv lv cv rm lm cm cells ri li ci rs ls cs ro lo co rn ln cn op a b c k hk n2 n3 n20 n21 n22 ht (form_k hf ht) hf hok w hS
  rw [show fitB cells lv lm types ⟨op, a, b, c, k⟩ = unitsB op (types.getD (tA k) default) (tyB types op k) (tyT types op k) by unfold fitB; simp [hf, n2, n3, n20, n21, n22, ht, hok]]
  exact fi_tk rc lc cc rt ct types rv lv cv rm lm cm cells ri li ci rs ls cs ro lo co rn ln cn op a b c k hk n2 n3 n20 n21 n22 ht (form_k hf ht) hf hok w hS
end Go.Proofs.Ytfooefiaenlhmaa
namespace Go.Proofs.Ytfooefiaenlhmaa
set_option linter.unusedVariables false
set_option linter.unusedSimpArgs false
open Go.RowKit Go.ChangeShapes Go.WideShapes Go.ChangeAt

def idxG {α : Type} (p : α → Bool) (xs : List α) : Int := if xs.any p = true then (xs.findIdx p : Nat) else -1
theorem idxG_hit {α : Type} [Inhabited α] {p : α → Bool} {xs : List α} {k : Nat} (hk : k < xs.length) (h0 : ∀ t, t < k → p (xs.getD t default) = false) (h1 : p (xs.getD k default) = true) : idxG p xs = k := by
  have ha : xs.any p = true := List.any_eq_true.2 ⟨_, getD_mem_of hk, h1⟩
  unfold idxG
  rw [if_pos ha]
  congr 1
  rw [List.findIdx_eq hk]
  refine ⟨by simpa [List.getD, List.getElem?_eq_getElem hk] using h1, fun j hj => ?_⟩
  have := h0 j hj
  simpa [List.getD, List.getElem?_eq_getElem (show j < xs.length by omega)] using this
theorem idxG_miss {α : Type} [Inhabited α] {p : α → Bool} {xs : List α} (h0 : ∀ t, t < xs.length → p (xs.getD t default) = false) : idxG p xs = -1 := by
  have ha : ¬ xs.any p = true := fun h => by
    obtain ⟨x, hx, hp⟩ := List.any_eq_true.1 h
    obtain ⟨i, hi, rfl⟩ := List.getElem_of_mem hx
    have := h0 i hi
    simp [List.getD, List.getElem?_eq_getElem hi] at this
    rw [this] at hp
    cases hp
  unfold idxG
  rw [if_neg ha]
theorem idxG_any {α : Type} (p : α → Bool) (xs : List α) : decide (0 ≤ idxG p xs) = xs.any p := by
  unfold idxG
  split
  · rename_i h; rw [h]; simp
  · rename_i h; simp at h ⊢; simpa using h

set_option maxRecDepth 100000 in
set_option maxHeartbeats 2000000 in
theorem idx_Fixed (g : Nat) (cb : Array Value) (r : Option Addr) (cap : Nat) (xs : List Fx) (p : Fx → Bool) (w : World) (eg : ∀ args w, (callFunc g args).run Try.prog w = .ok (.enter g args) w) (hxs : IsS 10 Fx.enc w r cap xs)
    (hf : ∀ (e : Later w) (x : Fx), x ∈ xs → Calls Try.prog g (#[.agg #[.int .i64 x.bits, .bool x.sg, .int .i64 x.num, .int .i64 x.off, .int .i64 x.den, .int .i64 x.m, .int .i64 x.kg, .int .i64 x.s, .int .i64 x.a, .int .i64 x.k]] ++ cb) e.w fun a w' => a = .returned (.bool (p x)) ∧ Below e.w.heap.size e.w w') :
    Calls Try.prog 97 #[.slice r xs.length cap, .func (.func g) #[] cb] w fun e w' => e = .returned (.int .i64 (idxG p xs)) ∧ Below w.heap.size w w' := by
  have HF := Lib.hid hf
  have hmax := hxs.max
  have hle := hxs.le
  unfold maxLen at hmax
  clear hf
  have HS := Lib.hid hxs
  clear hxs
  generalize hn : xs.length = n at *
  have HN := Lib.hid hn
  clear hn
  go_enter Try.func97, Try.ntmps97
  go_wp2
  go_loopg [8] n (fun kx s8 wr => ∃ (k : Nat) (e : Later w), s8 = .int .i64 k ∧ k ≤ n ∧ n - k ≤ kx ∧ wr = e.w ∧ Hid (∀ t, t < k → p (xs.getD t default) = false))
  case atStart => exact ⟨0, ⟨w, Below.refl _ _⟩, rfl, Nat.zero_le _, by omega, rfl, Lib.hid (fun t h => absurd h (Nat.not_lt_zero _))⟩
  case round =>
    obtain ⟨k, e, rfl, hk, hkx, rfl, HP⟩ := hrel
    by_cases hlt : k < n
    · have hkl : k < xs.length := by have := HN.out; omega
      obtain ⟨b, off, rfl, hb, hc⟩ := HS.out.at_ hkl
      have hk1 : (0 : Int) ≤ (k : Int) := by omega
      have hk2 : (k : Int) < n := by omega
      have hc0 : e.w.cell? ⟨b, off + k * 10, none⟩ = some (.int .i64 (xs.getD k default).bits) := (e.h.cell (p := ⟨b, off + k * 10, none⟩) hb).trans (hc 0 _ rfl)
      have hc1 : e.w.cell? ⟨b, off + k * 10 + 1, none⟩ = some (.bool (xs.getD k default).sg) := (e.h.cell (p := ⟨b, off + k * 10 + 1, none⟩) hb).trans (hc 1 _ rfl)
      have hc2 : e.w.cell? ⟨b, off + k * 10 + 2, none⟩ = some (.int .i64 (xs.getD k default).num) := (e.h.cell (p := ⟨b, off + k * 10 + 2, none⟩) hb).trans (hc 2 _ rfl)
      have hc3 : e.w.cell? ⟨b, off + k * 10 + 3, none⟩ = some (.int .i64 (xs.getD k default).off) := (e.h.cell (p := ⟨b, off + k * 10 + 3, none⟩) hb).trans (hc 3 _ rfl)
      have hc4 : e.w.cell? ⟨b, off + k * 10 + 4, none⟩ = some (.int .i64 (xs.getD k default).den) := (e.h.cell (p := ⟨b, off + k * 10 + 4, none⟩) hb).trans (hc 4 _ rfl)
      have hc5 : e.w.cell? ⟨b, off + k * 10 + 5, none⟩ = some (.int .i64 (xs.getD k default).m) := (e.h.cell (p := ⟨b, off + k * 10 + 5, none⟩) hb).trans (hc 5 _ rfl)
      have hc6 : e.w.cell? ⟨b, off + k * 10 + 6, none⟩ = some (.int .i64 (xs.getD k default).kg) := (e.h.cell (p := ⟨b, off + k * 10 + 6, none⟩) hb).trans (hc 6 _ rfl)
      have hc7 : e.w.cell? ⟨b, off + k * 10 + 7, none⟩ = some (.int .i64 (xs.getD k default).s) := (e.h.cell (p := ⟨b, off + k * 10 + 7, none⟩) hb).trans (hc 7 _ rfl)
      have hc8 : e.w.cell? ⟨b, off + k * 10 + 8, none⟩ = some (.int .i64 (xs.getD k default).a) := (e.h.cell (p := ⟨b, off + k * 10 + 8, none⟩) hb).trans (hc 8 _ rfl)
      have hc9 : e.w.cell? ⟨b, off + k * 10 + 9, none⟩ = some (.int .i64 (xs.getD k default).k) := (e.h.cell (p := ⟨b, off + k * 10 + 9, none⟩) hb).trans (hc 9 _ rfl)
      clear hc
      have hcall := HF.out e _ (getD_mem_of hkl)
      have HK := Lib.hid hkl
      clear hkl
      generalize hx : xs.getD k default = x at *
      have HE := Lib.hid hx
      clear hx
      obtain ⟨x0, x1, x2, x3, x4, x5, x6, x7, x8, x9⟩ := x
      simp only at hc0 hc1 hc2 hc3 hc4 hc5 hc6 hc7 hc8 hc9 hcall
      cases hp : p ⟨x0, x1, x2, x3, x4, x5, x6, x7, x8, x9⟩ <;> rw [hp] at hcall <;> have HQ := Lib.hid hp <;> clear hp
      · go_wp2_with (go_at_fn g; refine hcall.mono ?_; rintro a w' ⟨rfl, hb2⟩)
        go_roundg (n - (k + 1))
        case measure => omega
        case rel =>
          obtain ⟨e', rfl⟩ := e.next hb2
          refine ⟨k + 1, e', by go_num, by omega, Nat.le_refl _, rfl, Lib.hid (fun t ht => ?_)⟩
          by_cases h : t < k
          · exact HP.out t h
          · obtain rfl : t = k := by omega
            rw [HE.out]
            exact HQ.out
      · go_wp2_with (go_at_fn g; refine hcall.mono ?_; rintro a w' ⟨rfl, hb2⟩)
        go_ret
        refine ⟨ret_int ?_, by obtain ⟨e', rfl⟩ := e.next hb2; exact e'.h⟩
        exact (idxG_hit HK.out HP.out (by rw [HE.out]; exact HQ.out)).symm
    · obtain rfl : k = n := by omega
      go_wp2
      go_ret
      refine ⟨ret_int ?_, e.h⟩
      exact (idxG_miss (fun t ht => HP.out t (by have := HN.out; omega))).symm
theorem has_Fixed (g : Nat) (cb : Array Value) (r : Option Addr) (cap : Nat) (xs : List Fx) (p : Fx → Bool) (w : World) (eg : ∀ args w, (callFunc g args).run Try.prog w = .ok (.enter g args) w) (hxs : IsS 10 Fx.enc w r cap xs)
    (hf : ∀ (e : Later w) (x : Fx), x ∈ xs → Calls Try.prog g (#[.agg #[.int .i64 x.bits, .bool x.sg, .int .i64 x.num, .int .i64 x.off, .int .i64 x.den, .int .i64 x.m, .int .i64 x.kg, .int .i64 x.s, .int .i64 x.a, .int .i64 x.k]] ++ cb) e.w fun a w' => a = .returned (.bool (p x)) ∧ Below e.w.heap.size e.w w') :
    Calls Try.prog 58 #[.slice r xs.length cap, .func (.func g) #[] cb] w fun e w' => e = .returned (.bool (xs.any p)) ∧ Below w.heap.size w w' := by
  have HI := Lib.hid (idx_Fixed g cb r cap xs p w eg hxs hf)
  clear hf hxs
  go_enter Try.func58, Try.ntmps58
  go_wp2_with ((go_at_call 97; refine (HI.out).mono ?_; rintro e hb1w ⟨rfl, hb1⟩; obtain ⟨hb1c, hb1f⟩ := bcell hb1; have hb1s := hb1.size; (try simp only [World.size_alloc] at hb1s); (try (have : w.heap.size < hb1w.heap.size := by omega)); (try (have : w.heap.size + 1 < hb1w.heap.size := by omega)); (try (have : w.heap.size + 1 + 1 < hb1w.heap.size := by omega)); (try (have : w.heap.size + 1 + 1 + 1 < hb1w.heap.size := by omega)); (try (have : bX < hb1w.heap.size := by omega)); (try (have : bY < hb1w.heap.size := by omega)); (try (have : bZ < hb1w.heap.size := by omega))))
  go_ret
  exact ⟨ret_bool (idxG_any p xs), by (repeat' (first | (with_reducible exact Below.refl _ _) | (with_reducible assumption) | (with_reducible refine below_alloc ?_ _) | (with_reducible refine Below.drew ?_) | (with_reducible refine below_drewN ?_ _) | (with_reducible refine below_step (by assumption) ?_) | (with_reducible refine below_later ?_ _) | (with_reducible refine Below.setCell ?_ ?_ _) | go_size))⟩
set_option maxRecDepth 100000 in
set_option maxHeartbeats 2000000 in
theorem idx_Instr (g : Nat) (cb : Array Value) (r : Option Addr) (cap : Nat) (xs : List Ins) (p : Ins → Bool) (w : World) (eg : ∀ args w, (callFunc g args).run Try.prog w = .ok (.enter g args) w) (hxs : IsS 5 Ins.enc w r cap xs)
    (hf : ∀ (e : Later w) (x : Ins), x ∈ xs → Calls Try.prog g (#[.agg #[.int .i64 x.op, .int .i64 x.a, .int .i64 x.b, .int .i64 x.c, .int .i64 x.k]] ++ cb) e.w fun a w' => a = .returned (.bool (p x)) ∧ Below e.w.heap.size e.w w') :
    Calls Try.prog 104 #[.slice r xs.length cap, .func (.func g) #[] cb] w fun e w' => e = .returned (.int .i64 (idxG p xs)) ∧ Below w.heap.size w w' := by
  have HF := Lib.hid hf
  have hmax := hxs.max
  have hle := hxs.le
  unfold maxLen at hmax
  clear hf
  have HS := Lib.hid hxs
  clear hxs
  generalize hn : xs.length = n at *
  have HN := Lib.hid hn
  clear hn
  go_enter Try.func104, Try.ntmps104
  go_wp2
  go_loopg [8] n (fun kx s8 wr => ∃ (k : Nat) (e : Later w), s8 = .int .i64 k ∧ k ≤ n ∧ n - k ≤ kx ∧ wr = e.w ∧ Hid (∀ t, t < k → p (xs.getD t default) = false))
  case atStart => exact ⟨0, ⟨w, Below.refl _ _⟩, rfl, Nat.zero_le _, by omega, rfl, Lib.hid (fun t h => absurd h (Nat.not_lt_zero _))⟩
  case round =>
    obtain ⟨k, e, rfl, hk, hkx, rfl, HP⟩ := hrel
    by_cases hlt : k < n
    · have hkl : k < xs.length := by have := HN.out; omega
      obtain ⟨b, off, rfl, hb, hc⟩ := HS.out.at_ hkl
      have hk1 : (0 : Int) ≤ (k : Int) := by omega
      have hk2 : (k : Int) < n := by omega
      have hc0 : e.w.cell? ⟨b, off + k * 5, none⟩ = some (.int .i64 (xs.getD k default).op) := (e.h.cell (p := ⟨b, off + k * 5, none⟩) hb).trans (hc 0 _ rfl)
      have hc1 : e.w.cell? ⟨b, off + k * 5 + 1, none⟩ = some (.int .i64 (xs.getD k default).a) := (e.h.cell (p := ⟨b, off + k * 5 + 1, none⟩) hb).trans (hc 1 _ rfl)
      have hc2 : e.w.cell? ⟨b, off + k * 5 + 2, none⟩ = some (.int .i64 (xs.getD k default).b) := (e.h.cell (p := ⟨b, off + k * 5 + 2, none⟩) hb).trans (hc 2 _ rfl)
      have hc3 : e.w.cell? ⟨b, off + k * 5 + 3, none⟩ = some (.int .i64 (xs.getD k default).c) := (e.h.cell (p := ⟨b, off + k * 5 + 3, none⟩) hb).trans (hc 3 _ rfl)
      have hc4 : e.w.cell? ⟨b, off + k * 5 + 4, none⟩ = some (.int .i64 (xs.getD k default).k) := (e.h.cell (p := ⟨b, off + k * 5 + 4, none⟩) hb).trans (hc 4 _ rfl)
      clear hc
      have hcall := HF.out e _ (getD_mem_of hkl)
      have HK := Lib.hid hkl
      clear hkl
      generalize hx : xs.getD k default = x at *
      have HE := Lib.hid hx
      clear hx
      obtain ⟨x0, x1, x2, x3, x4⟩ := x
      simp only at hc0 hc1 hc2 hc3 hc4 hcall
      cases hp : p ⟨x0, x1, x2, x3, x4⟩ <;> rw [hp] at hcall <;> have HQ := Lib.hid hp <;> clear hp
      · go_wp2_with (go_at_fn g; refine hcall.mono ?_; rintro a w' ⟨rfl, hb2⟩)
        go_roundg (n - (k + 1))
        case measure => omega
        case rel =>
          obtain ⟨e', rfl⟩ := e.next hb2
          refine ⟨k + 1, e', by go_num, by omega, Nat.le_refl _, rfl, Lib.hid (fun t ht => ?_)⟩
          by_cases h : t < k
          · exact HP.out t h
          · obtain rfl : t = k := by omega
            rw [HE.out]
            exact HQ.out
      · go_wp2_with (go_at_fn g; refine hcall.mono ?_; rintro a w' ⟨rfl, hb2⟩)
        go_ret
        refine ⟨ret_int ?_, by obtain ⟨e', rfl⟩ := e.next hb2; exact e'.h⟩
        exact (idxG_hit HK.out HP.out (by rw [HE.out]; exact HQ.out)).symm
    · obtain rfl : k = n := by omega
      go_wp2
      go_ret
      refine ⟨ret_int ?_, e.h⟩
      exact (idxG_miss (fun t ht => HP.out t (by have := HN.out; omega))).symm
theorem has_Instr (g : Nat) (cb : Array Value) (r : Option Addr) (cap : Nat) (xs : List Ins) (p : Ins → Bool) (w : World) (eg : ∀ args w, (callFunc g args).run Try.prog w = .ok (.enter g args) w) (hxs : IsS 5 Ins.enc w r cap xs)
    (hf : ∀ (e : Later w) (x : Ins), x ∈ xs → Calls Try.prog g (#[.agg #[.int .i64 x.op, .int .i64 x.a, .int .i64 x.b, .int .i64 x.c, .int .i64 x.k]] ++ cb) e.w fun a w' => a = .returned (.bool (p x)) ∧ Below e.w.heap.size e.w w') :
    Calls Try.prog 65 #[.slice r xs.length cap, .func (.func g) #[] cb] w fun e w' => e = .returned (.bool (xs.any p)) ∧ Below w.heap.size w w' := by
  have HI := Lib.hid (idx_Instr g cb r cap xs p w eg hxs hf)
  clear hf hxs
  go_enter Try.func65, Try.ntmps65
  go_wp2_with ((go_at_call 104; refine (HI.out).mono ?_; rintro e hb1w ⟨rfl, hb1⟩; obtain ⟨hb1c, hb1f⟩ := bcell hb1; have hb1s := hb1.size; (try simp only [World.size_alloc] at hb1s); (try (have : w.heap.size < hb1w.heap.size := by omega)); (try (have : w.heap.size + 1 < hb1w.heap.size := by omega)); (try (have : w.heap.size + 1 + 1 < hb1w.heap.size := by omega)); (try (have : w.heap.size + 1 + 1 + 1 < hb1w.heap.size := by omega)); (try (have : bX < hb1w.heap.size := by omega)); (try (have : bY < hb1w.heap.size := by omega)); (try (have : bZ < hb1w.heap.size := by omega))))
  go_ret
  exact ⟨ret_bool (idxG_any p xs), by (repeat' (first | (with_reducible exact Below.refl _ _) | (with_reducible assumption) | (with_reducible refine below_alloc ?_ _) | (with_reducible refine Below.drew ?_) | (with_reducible refine below_drewN ?_ _) | (with_reducible refine below_step (by assumption) ?_) | (with_reducible refine below_later ?_ _) | (with_reducible refine Below.setCell ?_ ?_ _) | go_size))⟩
set_option maxRecDepth 100000 in
set_option maxHeartbeats 2000000 in
theorem idx_Curve (g : Nat) (cb : Array Value) (r : Option Addr) (cap : Nat) (xs : List Cv) (p : Cv → Bool) (w : World) (eg : ∀ args w, (callFunc g args).run Try.prog w = .ok (.enter g args) w) (hxs : IsS 2 Cv.enc w r cap xs)
    (hf : ∀ (e : Later w) (x : Cv), x ∈ xs → Calls Try.prog g (#[.agg #[.slice x.rx x.X.length x.cx, .slice x.ry x.Y.length x.cy]] ++ cb) e.w fun a w' => a = .returned (.bool (p x)) ∧ Below e.w.heap.size e.w w') :
    Calls Try.prog 54 #[.slice r xs.length cap, .func (.func g) #[] cb] w fun e w' => e = .returned (.int .i64 (idxG p xs)) ∧ Below w.heap.size w w' := by
  have HF := Lib.hid hf
  have hmax := hxs.max
  have hle := hxs.le
  unfold maxLen at hmax
  clear hf
  have HS := Lib.hid hxs
  clear hxs
  generalize hn : xs.length = n at *
  have HN := Lib.hid hn
  clear hn
  go_enter Try.func54, Try.ntmps54
  go_wp2
  go_loopg [8] n (fun kx s8 wr => ∃ (k : Nat) (e : Later w), s8 = .int .i64 k ∧ k ≤ n ∧ n - k ≤ kx ∧ wr = e.w ∧ Hid (∀ t, t < k → p (xs.getD t default) = false))
  case atStart => exact ⟨0, ⟨w, Below.refl _ _⟩, rfl, Nat.zero_le _, by omega, rfl, Lib.hid (fun t h => absurd h (Nat.not_lt_zero _))⟩
  case round =>
    obtain ⟨k, e, rfl, hk, hkx, rfl, HP⟩ := hrel
    by_cases hlt : k < n
    · have hkl : k < xs.length := by have := HN.out; omega
      obtain ⟨b, off, rfl, hb, hc⟩ := HS.out.at_ hkl
      have hk1 : (0 : Int) ≤ (k : Int) := by omega
      have hk2 : (k : Int) < n := by omega
      have hc0 : e.w.cell? ⟨b, off + k * 2, none⟩ = some (.slice (xs.getD k default).rx (xs.getD k default).X.length (xs.getD k default).cx) := (e.h.cell (p := ⟨b, off + k * 2, none⟩) hb).trans (hc 0 _ rfl)
      have hc1 : e.w.cell? ⟨b, off + k * 2 + 1, none⟩ = some (.slice (xs.getD k default).ry (xs.getD k default).Y.length (xs.getD k default).cy) := (e.h.cell (p := ⟨b, off + k * 2 + 1, none⟩) hb).trans (hc 1 _ rfl)
      clear hc
      have hcall := HF.out e _ (getD_mem_of hkl)
      have HK := Lib.hid hkl
      clear hkl
      generalize hx : xs.getD k default = x at *
      have HE := Lib.hid hx
      clear hx
      obtain ⟨r0, c0, X0, r1, c1, X1⟩ := x
      simp only at hc0 hc1 hcall
      cases hp : p ⟨r0, c0, X0, r1, c1, X1⟩ <;> rw [hp] at hcall <;> have HQ := Lib.hid hp <;> clear hp
      · go_wp2_with (go_at_fn g; refine hcall.mono ?_; rintro a w' ⟨rfl, hb2⟩)
        go_roundg (n - (k + 1))
        case measure => omega
        case rel =>
          obtain ⟨e', rfl⟩ := e.next hb2
          refine ⟨k + 1, e', by go_num, by omega, Nat.le_refl _, rfl, Lib.hid (fun t ht => ?_)⟩
          by_cases h : t < k
          · exact HP.out t h
          · obtain rfl : t = k := by omega
            rw [HE.out]
            exact HQ.out
      · go_wp2_with (go_at_fn g; refine hcall.mono ?_; rintro a w' ⟨rfl, hb2⟩)
        go_ret
        refine ⟨ret_int ?_, by obtain ⟨e', rfl⟩ := e.next hb2; exact e'.h⟩
        exact (idxG_hit HK.out HP.out (by rw [HE.out]; exact HQ.out)).symm
    · obtain rfl : k = n := by omega
      go_wp2
      go_ret
      refine ⟨ret_int ?_, e.h⟩
      exact (idxG_miss (fun t ht => HP.out t (by have := HN.out; omega))).symm
theorem has_Curve (g : Nat) (cb : Array Value) (r : Option Addr) (cap : Nat) (xs : List Cv) (p : Cv → Bool) (w : World) (eg : ∀ args w, (callFunc g args).run Try.prog w = .ok (.enter g args) w) (hxs : IsS 2 Cv.enc w r cap xs)
    (hf : ∀ (e : Later w) (x : Cv), x ∈ xs → Calls Try.prog g (#[.agg #[.slice x.rx x.X.length x.cx, .slice x.ry x.Y.length x.cy]] ++ cb) e.w fun a w' => a = .returned (.bool (p x)) ∧ Below e.w.heap.size e.w w') :
    Calls Try.prog 28 #[.slice r xs.length cap, .func (.func g) #[] cb] w fun e w' => e = .returned (.bool (xs.any p)) ∧ Below w.heap.size w w' := by
  have HI := Lib.hid (idx_Curve g cb r cap xs p w eg hxs hf)
  clear hf hxs
  go_enter Try.func28, Try.ntmps28
  go_wp2_with ((go_at_call 54; refine (HI.out).mono ?_; rintro e hb1w ⟨rfl, hb1⟩; obtain ⟨hb1c, hb1f⟩ := bcell hb1; have hb1s := hb1.size; (try simp only [World.size_alloc] at hb1s); (try (have : w.heap.size < hb1w.heap.size := by omega)); (try (have : w.heap.size + 1 < hb1w.heap.size := by omega)); (try (have : w.heap.size + 1 + 1 < hb1w.heap.size := by omega)); (try (have : w.heap.size + 1 + 1 + 1 < hb1w.heap.size := by omega)); (try (have : bX < hb1w.heap.size := by omega)); (try (have : bY < hb1w.heap.size := by omega)); (try (have : bZ < hb1w.heap.size := by omega))))
  go_ret
  exact ⟨ret_bool (idxG_any p xs), by (repeat' (first | (with_reducible exact Below.refl _ _) | (with_reducible assumption) | (with_reducible refine below_alloc ?_ _) | (with_reducible refine Below.drew ?_) | (with_reducible refine below_drewN ?_ _) | (with_reducible refine below_step (by assumption) ?_) | (with_reducible refine below_later ?_ _) | (with_reducible refine Below.setCell ?_ ?_ _) | go_size))⟩
set_option maxRecDepth 100000 in
set_option maxHeartbeats 2000000 in
theorem idx_Map (g : Nat) (cb : Array Value) (r : Option Addr) (cap : Nat) (xs : List Mp) (p : Mp → Bool) (w : World) (eg : ∀ args w, (callFunc g args).run Try.prog w = .ok (.enter g args) w) (hxs : IsS 3 Mp.enc w r cap xs)
    (hf : ∀ (e : Later w) (x : Mp), x ∈ xs → Calls Try.prog g (#[.agg #[.slice x.rx x.X.length x.cx, .slice x.ry x.Y.length x.cy, .slice x.rz x.Z.length x.cz]] ++ cb) e.w fun a w' => a = .returned (.bool (p x)) ∧ Below e.w.heap.size e.w w') :
    Calls Try.prog 55 #[.slice r xs.length cap, .func (.func g) #[] cb] w fun e w' => e = .returned (.int .i64 (idxG p xs)) ∧ Below w.heap.size w w' := by
  have HF := Lib.hid hf
  have hmax := hxs.max
  have hle := hxs.le
  unfold maxLen at hmax
  clear hf
  have HS := Lib.hid hxs
  clear hxs
  generalize hn : xs.length = n at *
  have HN := Lib.hid hn
  clear hn
  go_enter Try.func55, Try.ntmps55
  go_wp2
  go_loopg [8] n (fun kx s8 wr => ∃ (k : Nat) (e : Later w), s8 = .int .i64 k ∧ k ≤ n ∧ n - k ≤ kx ∧ wr = e.w ∧ Hid (∀ t, t < k → p (xs.getD t default) = false))
  case atStart => exact ⟨0, ⟨w, Below.refl _ _⟩, rfl, Nat.zero_le _, by omega, rfl, Lib.hid (fun t h => absurd h (Nat.not_lt_zero _))⟩
  case round =>
    obtain ⟨k, e, rfl, hk, hkx, rfl, HP⟩ := hrel
    by_cases hlt : k < n
    · have hkl : k < xs.length := by have := HN.out; omega
      obtain ⟨b, off, rfl, hb, hc⟩ := HS.out.at_ hkl
      have hk1 : (0 : Int) ≤ (k : Int) := by omega
      have hk2 : (k : Int) < n := by omega
      have hc0 : e.w.cell? ⟨b, off + k * 3, none⟩ = some (.slice (xs.getD k default).rx (xs.getD k default).X.length (xs.getD k default).cx) := (e.h.cell (p := ⟨b, off + k * 3, none⟩) hb).trans (hc 0 _ rfl)
      have hc1 : e.w.cell? ⟨b, off + k * 3 + 1, none⟩ = some (.slice (xs.getD k default).ry (xs.getD k default).Y.length (xs.getD k default).cy) := (e.h.cell (p := ⟨b, off + k * 3 + 1, none⟩) hb).trans (hc 1 _ rfl)
      have hc2 : e.w.cell? ⟨b, off + k * 3 + 2, none⟩ = some (.slice (xs.getD k default).rz (xs.getD k default).Z.length (xs.getD k default).cz) := (e.h.cell (p := ⟨b, off + k * 3 + 2, none⟩) hb).trans (hc 2 _ rfl)
      clear hc
      have hcall := HF.out e _ (getD_mem_of hkl)
      have HK := Lib.hid hkl
      clear hkl
      generalize hx : xs.getD k default = x at *
      have HE := Lib.hid hx
      clear hx
      obtain ⟨r0, c0, X0, r1, c1, X1, r2, c2, X2⟩ := x
      simp only at hc0 hc1 hc2 hcall
      cases hp : p ⟨r0, c0, X0, r1, c1, X1, r2, c2, X2⟩ <;> rw [hp] at hcall <;> have HQ := Lib.hid hp <;> clear hp
      · go_wp2_with (go_at_fn g; refine hcall.mono ?_; rintro a w' ⟨rfl, hb2⟩)
        go_roundg (n - (k + 1))
        case measure => omega
        case rel =>
          obtain ⟨e', rfl⟩ := e.next hb2
          refine ⟨k + 1, e', by go_num, by omega, Nat.le_refl _, rfl, Lib.hid (fun t ht => ?_)⟩
          by_cases h : t < k
          · exact HP.out t h
          · obtain rfl : t = k := by omega
            rw [HE.out]
            exact HQ.out
      · go_wp2_with (go_at_fn g; refine hcall.mono ?_; rintro a w' ⟨rfl, hb2⟩)
        go_ret
        refine ⟨ret_int ?_, by obtain ⟨e', rfl⟩ := e.next hb2; exact e'.h⟩
        exact (idxG_hit HK.out HP.out (by rw [HE.out]; exact HQ.out)).symm
    · obtain rfl : k = n := by omega
      go_wp2
      go_ret
      refine ⟨ret_int ?_, e.h⟩
      exact (idxG_miss (fun t ht => HP.out t (by have := HN.out; omega))).symm
theorem has_Map (g : Nat) (cb : Array Value) (r : Option Addr) (cap : Nat) (xs : List Mp) (p : Mp → Bool) (w : World) (eg : ∀ args w, (callFunc g args).run Try.prog w = .ok (.enter g args) w) (hxs : IsS 3 Mp.enc w r cap xs)
    (hf : ∀ (e : Later w) (x : Mp), x ∈ xs → Calls Try.prog g (#[.agg #[.slice x.rx x.X.length x.cx, .slice x.ry x.Y.length x.cy, .slice x.rz x.Z.length x.cz]] ++ cb) e.w fun a w' => a = .returned (.bool (p x)) ∧ Below e.w.heap.size e.w w') :
    Calls Try.prog 30 #[.slice r xs.length cap, .func (.func g) #[] cb] w fun e w' => e = .returned (.bool (xs.any p)) ∧ Below w.heap.size w w' := by
  have HI := Lib.hid (idx_Map g cb r cap xs p w eg hxs hf)
  clear hf hxs
  go_enter Try.func30, Try.ntmps30
  go_wp2_with ((go_at_call 55; refine (HI.out).mono ?_; rintro e hb1w ⟨rfl, hb1⟩; obtain ⟨hb1c, hb1f⟩ := bcell hb1; have hb1s := hb1.size; (try simp only [World.size_alloc] at hb1s); (try (have : w.heap.size < hb1w.heap.size := by omega)); (try (have : w.heap.size + 1 < hb1w.heap.size := by omega)); (try (have : w.heap.size + 1 + 1 < hb1w.heap.size := by omega)); (try (have : w.heap.size + 1 + 1 + 1 < hb1w.heap.size := by omega)); (try (have : bX < hb1w.heap.size := by omega)); (try (have : bY < hb1w.heap.size := by omega)); (try (have : bZ < hb1w.heap.size := by omega))))
  go_ret
  exact ⟨ret_bool (idxG_any p xs), by (repeat' (first | (with_reducible exact Below.refl _ _) | (with_reducible assumption) | (with_reducible refine below_alloc ?_ _) | (with_reducible refine Below.drew ?_) | (with_reducible refine below_drewN ?_ _) | (with_reducible refine below_step (by assumption) ?_) | (with_reducible refine below_later ?_ _) | (with_reducible refine Below.setCell ?_ ?_ _) | go_size))⟩
end Go.Proofs.Ytfooefiaenlhmaa
namespace Go.Proofs.Ytfooefiaenlhmaa
set_option linter.unusedVariables false
set_option linter.unusedSimpArgs false

/-- The least t below n with p, or n. -/
def least (p : Nat → Bool) : Nat → Nat
  | 0 => 0
  | n + 1 => if least p n < n then least p n else if p n then n else n + 1

end Go.Proofs.Ytfooefiaenlhmaa
namespace Go.Proofs.Ytfooefiaenlhmaa
set_option linter.unusedVariables false
set_option linter.unusedSimpArgs false

def farB (n : Int) : Bool := decide (n < -1073741824 ∨ 1073741824 < n)
/-- The numbers of an axis. -/
def AxisOk (xs : List Int) : Prop := 2 ≤ xs.length ∧ xs.length ≤ 32 ∧ xs.any farB = false ∧ ∀ t, t + 1 < xs.length → xs.getD t 0 < xs.getD (t + 1) 0
def CurveOk (xs ys : List Int) : Prop := xs.length = ys.length ∧ AxisOk xs ∧ ys.any farB = false
open Classical in
noncomputable def axisB (xs : List Int) : Bool := decide (AxisOk xs)
open Classical in
noncomputable def curveB (xs ys : List Int) : Bool := decide (CurveOk xs ys)
theorem axisB_true {xs : List Int} : axisB xs = true ↔ AxisOk xs := by simp [axisB]
theorem axisB_false {xs : List Int} : axisB xs = false ↔ ¬ AxisOk xs := by simp [axisB]
theorem curveB_true {xs ys : List Int} : curveB xs ys = true ↔ CurveOk xs ys := by simp [curveB]
theorem curveB_false {xs ys : List Int} : curveB xs ys = false ↔ ¬ CurveOk xs ys := by simp [curveB]

theorem getD_mem {xs : List Int} {t : Nat} (h : t < xs.length) : xs.getD t 0 ∈ xs := by
  rw [List.getD, List.getElem?_eq_getElem h]
  exact List.getElem_mem _
theorem far_all {xs : List Int} (h : ∀ t, t < xs.length → farB (xs.getD t 0) = false) : xs.any farB = false := by
  rw [List.any_eq_false]
  intro x hx
  obtain ⟨t, ht, rfl⟩ := List.getElem_of_mem hx
  have := h t ht
  simpa [List.getD, List.getElem?_eq_getElem ht] using this
theorem far_hit {xs : List Int} {t : Nat} (ht : t < xs.length) (h : farB (xs.getD t 0) = true) : xs.any farB = true :=
  List.any_eq_true.2 ⟨_, getD_mem ht, h⟩
end Go.Proofs.Ytfooefiaenlhmaa
namespace Go.Proofs.Ytfooefiaenlhmaa
set_option linter.unusedVariables false
set_option linter.unusedSimpArgs false
open Go.RowKit Go.ChangeShapes Go.WideShapes Go.ChangeAt

def idxI (p : Int → Bool) (xs : List Int) : Int := if xs.any p = true then (xs.findIdx p : Nat) else -1
theorem idxI_hit {p : Int → Bool} {xs : List Int} {k : Nat} (hk : k < xs.length) (h0 : ∀ t, t < k → p (xs.getD t 0) = false) (h1 : p (xs.getD k 0) = true) : idxI p xs = k := by
  have hg : ∀ t (h : t < xs.length), xs.getD t 0 = xs[t] := fun t h => by simp [List.getD, List.getElem?_eq_getElem h]
  have hf : xs.findIdx p = k := by
    rw [List.findIdx_eq hk]
    refine ⟨by rw [← hg k hk]; exact h1, fun j hj => ?_⟩
    rw [← hg j (by omega)]
    exact h0 j hj
  have ha : xs.any p = true := List.any_eq_true.2 ⟨xs[k], List.getElem_mem hk, by rw [← hg k hk]; exact h1⟩
  simp [idxI, ha, hf]
theorem idxI_miss {p : Int → Bool} {xs : List Int} (h0 : ∀ t, t < xs.length → p (xs.getD t 0) = false) : idxI p xs = -1 := by
  have ha : xs.any p = false := by
    rw [List.any_eq_false]
    intro x hx
    obtain ⟨t, ht, rfl⟩ := List.getElem_of_mem hx
    have := h0 t ht
    simpa [List.getD, List.getElem?_eq_getElem ht] using this
  simp [idxI, ha]
theorem idxI_any (p : Int → Bool) (xs : List Int) : decide (0 ≤ idxI p xs) = xs.any p := by
  unfold idxI
  split
  · rename_i h; rw [h]; simp
  · rename_i h; simp at h ⊢; simpa using h

set_option maxHeartbeats 1000000 in
theorem indexFunc_any (g : Nat) (cb : Array Value) (r : Option Addr) (cap : Nat) (xs : List Int) (p : Int → Bool) (w : World) (eg : ∀ args w, (callFunc g args).run Try.prog w = .ok (.enter g args) w) (hxs : IsInts w r cap .i64 xs)
    (hf : ∀ (e : Later w) (x : Int), x ∈ xs → Calls Try.prog g (#[.int .i64 x] ++ cb) e.w fun a w' => a = .returned (.bool (p x)) ∧ Below e.w.heap.size e.w w') :
    Calls Try.prog 109 #[.slice r xs.length cap, .func (.func g) #[] cb] w fun e w' => e = .returned (.int .i64 (idxI p xs)) ∧ Below w.heap.size w w' := by
  have HF := Lib.hid hf
  have hmax := hxs.max
  have hle := hxs.le
  unfold maxLen at hmax
  clear hf
  by_cases hne : xs = []
  · subst hne
    go_enter Try.func109, Try.ntmps109
    go_wp2
    go_rounds 1
    go_ret
    exact ⟨rfl, Below.refl _ _⟩
  · obtain ⟨b, off, rfl, hb, hc⟩ := hxs.cells hne
    have HC := Lib.hid hc
    clear hc
    generalize hn : xs.length = n at *
    have HN := Lib.hid hn
    clear hn
    go_enter Try.func109, Try.ntmps109
    go_wp2
    go_loopg [8] n (fun kx s8 wr => ∃ (k : Nat) (e : Later w), s8 = .int .i64 k ∧ k ≤ n ∧ n - k ≤ kx ∧ wr = e.w ∧ Hid (∀ t, t < k → p (xs.getD t 0) = false))
    case atStart => exact ⟨0, ⟨w, Below.refl _ _⟩, rfl, Nat.zero_le _, by omega, rfl, Lib.hid (fun t h => absurd h (Nat.not_lt_zero _))⟩
    case round =>
      obtain ⟨k, e, rfl, hk, hkx, rfl, HP⟩ := hrel
      by_cases hlt : k < n
      · have hlen := HN.out
        have hcell : e.w.cell? ⟨b, off + k, none⟩ = some (.int .i64 (xs.getD k 0)) := by
          rw [Later.cell e hb]
          exact HC.out k (by omega)
        have hmem : xs.getD k 0 ∈ xs := by
          rw [List.getD, List.getElem?_eq_getElem (show k < xs.length by omega)]
          exact List.getElem_mem _
        have hcall := HF.out e _ hmem
        have HK : Hid (k < xs.length) := Lib.hid (by omega)
        have HX : Hid (∀ b, p (xs.getD k 0) = b → p (xs.getD k 0) = b) := Lib.hid (fun _ h => h)
        generalize hx : xs.getD k 0 = x at hcell hcall
        have HE := Lib.hid hx
        clear hx hlen hmem
        cases hp : p x <;> rw [hp] at hcall <;> have HQ := Lib.hid hp <;> clear hp
        · go_wp2_with (go_at_fn g; refine hcall.mono ?_; rintro a w' ⟨rfl, hb2⟩)
          go_roundg (n - (k + 1))
          case measure => omega
          case rel =>
            obtain ⟨e', rfl⟩ := e.next hb2
            refine ⟨k + 1, e', by go_num, by omega, Nat.le_refl _, rfl, Lib.hid (fun t ht => ?_)⟩
            by_cases h : t < k
            · exact HP.out t h
            · obtain rfl : t = k := by omega
              rw [HE.out]
              exact HQ.out
        · go_wp2_with (go_at_fn g; refine hcall.mono ?_; rintro a w' ⟨rfl, hb2⟩)
          go_ret
          refine ⟨ret_int ?_, by obtain ⟨e', rfl⟩ := e.next hb2; exact e'.h⟩
          exact (idxI_hit HK.out HP.out (by rw [HE.out]; exact HQ.out)).symm
      · obtain rfl : k = n := by omega
        go_wp2
        go_ret
        refine ⟨ret_int ?_, e.h⟩
        exact (idxI_miss (fun t ht => HP.out t (by have := HN.out; omega))).symm

theorem containsFunc_any (g : Nat) (cb : Array Value) (r : Option Addr) (cap : Nat) (xs : List Int) (p : Int → Bool) (w : World) (eg : ∀ args w, (callFunc g args).run Try.prog w = .ok (.enter g args) w) (hxs : IsInts w r cap .i64 xs)
    (hf : ∀ (e : Later w) (x : Int), x ∈ xs → Calls Try.prog g (#[.int .i64 x] ++ cb) e.w fun a w' => a = .returned (.bool (p x)) ∧ Below e.w.heap.size e.w w') :
    Calls Try.prog 68 #[.slice r xs.length cap, .func (.func g) #[] cb] w fun e w' => e = .returned (.bool (xs.any p)) ∧ Below w.heap.size w w' := by
  have HI := Lib.hid (indexFunc_any g cb r cap xs p w eg hxs hf)
  clear hf hxs
  go_enter Try.func68, Try.ntmps68
  go_wp2_with ((go_at_call 109; refine (HI.out).mono ?_; rintro e hb1w ⟨rfl, hb1⟩; obtain ⟨hb1c, hb1f⟩ := bcell hb1; have hb1s := hb1.size; (try simp only [World.size_alloc] at hb1s); (try (have : w.heap.size < hb1w.heap.size := by omega)); (try (have : w.heap.size + 1 < hb1w.heap.size := by omega)); (try (have : w.heap.size + 1 + 1 < hb1w.heap.size := by omega)); (try (have : w.heap.size + 1 + 1 + 1 < hb1w.heap.size := by omega)); (try (have : bX < hb1w.heap.size := by omega)); (try (have : bY < hb1w.heap.size := by omega)); (try (have : bZ < hb1w.heap.size := by omega))))
  go_ret
  exact ⟨ret_bool (idxI_any p xs), by (repeat' (first | (with_reducible exact Below.refl _ _) | (with_reducible assumption) | (with_reducible refine below_alloc ?_ _) | (with_reducible refine Below.drew ?_) | (with_reducible refine below_drewN ?_ _) | (with_reducible refine below_step (by assumption) ?_) | (with_reducible refine below_later ?_ _) | (with_reducible refine Below.setCell ?_ ?_ _) | go_size))⟩

end Go.Proofs.Ytfooefiaenlhmaa
namespace Go.Proofs.Ytfooefiaenlhmaa
set_option linter.unusedVariables false
set_option linter.unusedSimpArgs false
open Go.RowKit Go.ChangeShapes Go.WideShapes Go.ChangeAt

theorem far_any (x : Int) (w : World) : Calls Try.prog 100 #[.int .i64 x] w fun e w' => e = .returned (.bool (farB x)) ∧ w = w' := by
  go_enter Try.func100, Try.ntmps100
  go_wp2
  all_goals go_ret
  all_goals exact ⟨ret_bool (by grind [farB]), rfl⟩
theorem below_same {P : Program} {f : FuncId} {args : Array Value} {w : World} {v : Value} (h : Calls P f args w fun e w' => e = .returned v ∧ w = w') : Calls P f args w fun e w' => e = .returned v ∧ Below w.heap.size w w' :=
  h.mono fun _ _ ⟨he, hw⟩ => ⟨he, by subst hw; exact Below.refl _ _⟩

theorem farAny_any (r : Option Addr) (cap : Nat) (xs : List Int) (w : World) (hxs : IsInts w r cap .i64 xs) :
    Calls Try.prog 68 #[.slice r xs.length cap, .func (.func 100) #[] #[]] w fun e w' => e = .returned (.bool (xs.any farB)) ∧ Below w.heap.size w w' :=
  containsFunc_any 100 #[] r cap xs farB w (enters_of Try.func100 (by kernel_rfl) rfl) hxs (fun e x _ => below_same (far_any x e.w))

set_option maxHeartbeats 1000000 in
theorem axis_any (r : Option Addr) (cap : Nat) (xs : List Int) (w : World) (hxs : IsInts w r cap .i64 xs) :
    Calls Try.prog 99 #[.slice r xs.length cap] w fun e w' => e = .returned (.bool (axisB xs)) ∧ Below w.heap.size w w' := by
  have HX := Lib.hid hxs
  by_cases h2 : xs.length < 2
  · have H := Lib.hid (axisB_false.2 (fun h : AxisOk xs => by have := h.1; omega))
    have h2' : (xs.length : Int) < 2 := by omega
    clear hxs h2
    go_enter Try.func99, Try.ntmps99
    go_wp2
    go_ret
    exact ⟨by rw [H.out]; first | done | rfl, by (repeat' (first | (with_reducible exact Below.refl _ _) | (with_reducible assumption) | (with_reducible refine below_alloc ?_ _) | (with_reducible refine Below.drew ?_) | (with_reducible refine below_drewN ?_ _) | (with_reducible refine below_step (by assumption) ?_) | (with_reducible refine below_later ?_ _) | (with_reducible refine Below.setCell ?_ ?_ _) | go_size))⟩
  · by_cases h3 : 32 < xs.length
    · have H := Lib.hid (axisB_false.2 (fun h : AxisOk xs => by have := h.2.1; omega))
      have h2' : ¬ (xs.length : Int) < 2 := by omega
      have h3' : (32 : Int) < xs.length := by omega
      clear hxs h2 h3
      go_enter Try.func99, Try.ntmps99
      go_wp2
      go_ret
      exact ⟨by rw [H.out]; first | done | rfl, by (repeat' (first | (with_reducible exact Below.refl _ _) | (with_reducible assumption) | (with_reducible refine below_alloc ?_ _) | (with_reducible refine Below.drew ?_) | (with_reducible refine below_drewN ?_ _) | (with_reducible refine below_step (by assumption) ?_) | (with_reducible refine below_later ?_ _) | (with_reducible refine Below.setCell ?_ ?_ _) | go_size))⟩
    · have h2' : ¬ (xs.length : Int) < 2 := by omega
      have h3' : ¬ (32 : Int) < xs.length := by omega
      cases hf : xs.any farB with
      | true =>
        have H := Lib.hid (axisB_false.2 (fun h : AxisOk xs => by have := h.2.2.1; rw [hf] at this; cases this))
        clear hxs
        go_enter Try.func99, Try.ntmps99
        go_wp2_with ((go_at_call 68; refine (farAny_any _ _ _ _ HX.out).mono ?_; rintro e hb1w ⟨rfl, hb1⟩; obtain ⟨hb1c, hb1f⟩ := bcell hb1; have hb1s := hb1.size; (try simp only [World.size_alloc] at hb1s); (try (have : w.heap.size < hb1w.heap.size := by omega)); (try (have : w.heap.size + 1 < hb1w.heap.size := by omega)); (try (have : w.heap.size + 1 + 1 < hb1w.heap.size := by omega)); (try (have : w.heap.size + 1 + 1 + 1 < hb1w.heap.size := by omega)); (try (have : bX < hb1w.heap.size := by omega)); (try (have : bY < hb1w.heap.size := by omega)); (try (have : bZ < hb1w.heap.size := by omega))))
        go_ret
        exact ⟨by rw [H.out]; first | done | rfl, by (repeat' (first | (with_reducible exact Below.refl _ _) | (with_reducible assumption) | (with_reducible refine below_alloc ?_ _) | (with_reducible refine Below.drew ?_) | (with_reducible refine below_drewN ?_ _) | (with_reducible refine below_step (by assumption) ?_) | (with_reducible refine below_later ?_ _) | (with_reducible refine Below.setCell ?_ ?_ _) | go_size))⟩
      | false =>
        obtain ⟨bX, off, rfl, hb, hc⟩ := hxs.cells (fun e => by subst e; simp at h2)
        have HC := Lib.hid hc
        clear hc hxs
        have HAX : Hid (∀ h : (∀ t, t + 1 < xs.length → xs.getD t 0 < xs.getD (t + 1) 0), AxisOk xs) := Lib.hid (fun h => ⟨by omega, by omega, hf, h⟩)
        generalize hn : xs.length = n at *
        have HN := Lib.hid hn
        clear hn
        go_enter Try.func99, Try.ntmps99
        go_wp2_with (go_at_call 68; (have hcl := farAny_any _ _ _ w HX.out); rw [HN.out] at hcl; refine hcl.mono ?_; clear hcl; rintro e hb1w ⟨rfl, hb1⟩)
        go_loopg [19] n (fun kx s19 wr => ∃ (k : Nat) (e : Later w), s19 = .int .i64 k ∧ k + 1 ≤ n ∧ n - k ≤ kx ∧ wr = e.w ∧ Hid (∀ t, t < k → xs.getD t 0 < xs.getD (t + 1) 0))
        case atStart => exact ⟨0, ⟨hb1w, hb1⟩, rfl, by omega, by omega, rfl, Lib.hid (fun t h => absurd h (Nat.not_lt_zero _))⟩
        case round =>
          obtain ⟨k, e, rfl, hk, hkx, rfl, HP⟩ := hrel
          by_cases hlt : k + 1 < n
          · have hlt' : (k : Int) < (n : Int) - 1 := by omega
            have hk1 : (0 : Int) ≤ (k : Int) := by omega
            have hk2 : (k : Int) < n := by omega
            have hk3 : (k : Int) + 1 < n := by omega
            have hw1 : IntKind.i64.wrap ((k : Int) + 1) = (k : Int) + 1 := IntWalk.i64_in _ (by omega)
            have hc1 : e.w.cell? ⟨bX, off + k, none⟩ = some (.int .i64 (xs.getD k 0)) := by
              rw [Later.cell e hb]
              exact HC.out k (by omega)
            have hc2 : e.w.cell? ⟨bX, off + (k + 1), none⟩ = some (.int .i64 (xs.getD (k + 1) 0)) := by
              rw [Later.cell e hb]
              exact HC.out (k + 1) (by omega)
            have HV : Hid (∀ a b, xs.getD k 0 = a → xs.getD (k + 1) 0 = b → xs.getD k 0 = a ∧ xs.getD (k + 1) 0 = b) := Lib.hid (fun _ _ h h' => ⟨h, h'⟩)
            generalize hx : xs.getD k 0 = x at hc1
            generalize hy : xs.getD (k + 1) 0 = y at hc2
            have HXY := Lib.hid (And.intro hx hy)
            clear hx hy
            by_cases hxy : x < y
            · go_wp2
              go_quiet (fail)
              go_wp2
              go_roundg (n - (k + 1))
              case measure => omega
              case rel =>
                refine ⟨k + 1, ⟨_, below_drewN e.h _⟩, by go_num, by omega, Nat.le_refl _, rfl, Lib.hid (fun t ht => ?_)⟩
                by_cases h : t < k
                · exact HP.out t h
                · obtain rfl : t = k := by omega
                  rw [HXY.out.1, HXY.out.2]
                  assumption
            · have H : Hid (axisB xs = false) := Lib.hid (axisB_false.2 (fun h => by have := h.2.2.2 k (by have := HN.out; omega); rw [HXY.out.1, HXY.out.2] at this; exact hxy this))
              have hxy2 : y ≤ x := by omega
              go_wp2
              go_quiet (fail)
              go_wp2
              go_ret
              exact ⟨by rw [H.out]; first | done | rfl, below_drewN e.h _⟩
          · obtain rfl : n = k + 1 := by omega
            go_wp2
            go_ret
            refine ⟨ret_bool ?_, e.h⟩
            exact (axisB_true.2 (HAX.out (fun t ht => HP.out t (by have := HN.out; omega)))).symm

theorem curveValid_any (rx ry : Option Addr) (cx cy : Nat) (xs ys : List Int) (w : World) (hx : IsInts w rx cx .i64 xs) (hy : IsInts w ry cy .i64 ys) :
    Calls Try.prog 62 #[.agg #[.slice rx xs.length cx, .slice ry ys.length cy]] w fun e w' => e = .returned (.bool (curveB xs ys)) ∧ Below w.heap.size w w' := by
  have HX : Hid (∀ w', Below w.heap.size w w' → IsInts w' rx cx .i64 xs) := Lib.hid (fun _ h => hx.later h)
  have HY : Hid (∀ w', Below w.heap.size w w' → IsInts w' ry cy .i64 ys) := Lib.hid (fun _ h => hy.later h)
  clear hx hy
  by_cases hl : xs.length = ys.length
  · have hl' : ((xs.length : Int) == (ys.length : Int)) = true := by simp [hl]
    cases ha : axisB xs with
    | false =>
      have H : Hid (curveB xs ys = false) := Lib.hid (curveB_false.2 (fun h => axisB_false.1 ha h.2.1))
      clear hl
      go_enter Try.func62, Try.ntmps62
      go_wp2_with (first | (go_at_call 99; refine (axis_any _ _ _ _ (HX.out _ (by (repeat' (first | (with_reducible exact Below.refl _ _) | (with_reducible assumption) | (with_reducible refine below_alloc ?_ _) | (with_reducible refine Below.drew ?_) | (with_reducible refine below_drewN ?_ _) | (with_reducible refine below_step (by assumption) ?_) | (with_reducible refine below_later ?_ _) | (with_reducible refine Below.setCell ?_ ?_ _) | go_size))))).mono ?_; rintro e hb1w ⟨rfl, hb1⟩; obtain ⟨hb1c, hb1f⟩ := bcell hb1; have hb1s := hb1.size; (try simp only [World.size_alloc] at hb1s); (try (have : w.heap.size < hb1w.heap.size := by omega)); (try (have : w.heap.size + 1 < hb1w.heap.size := by omega)); (try (have : w.heap.size + 1 + 1 < hb1w.heap.size := by omega)); (try (have : w.heap.size + 1 + 1 + 1 < hb1w.heap.size := by omega)); (try (have : bX < hb1w.heap.size := by omega)); (try (have : bY < hb1w.heap.size := by omega)); (try (have : bZ < hb1w.heap.size := by omega))) | (go_at_call 68; refine (farAny_any _ _ _ _ (HY.out _ (by (repeat' (first | (with_reducible exact Below.refl _ _) | (with_reducible assumption) | (with_reducible refine below_alloc ?_ _) | (with_reducible refine Below.drew ?_) | (with_reducible refine below_drewN ?_ _) | (with_reducible refine below_step (by assumption) ?_) | (with_reducible refine below_later ?_ _) | (with_reducible refine Below.setCell ?_ ?_ _) | go_size))))).mono ?_; rintro e hb2w ⟨rfl, hb2⟩; obtain ⟨hb2c, hb2f⟩ := bcell hb2; have hb2s := hb2.size; (try simp only [World.size_alloc] at hb2s); (try (have : w.heap.size < hb2w.heap.size := by omega)); (try (have : w.heap.size + 1 < hb2w.heap.size := by omega)); (try (have : w.heap.size + 1 + 1 < hb2w.heap.size := by omega)); (try (have : w.heap.size + 1 + 1 + 1 < hb2w.heap.size := by omega)); (try (have : bX < hb2w.heap.size := by omega)); (try (have : bY < hb2w.heap.size := by omega)); (try (have : bZ < hb2w.heap.size := by omega))))
      go_ret
      exact ⟨by rw [H.out]; first | done | rfl, by (repeat' (first | (with_reducible exact Below.refl _ _) | (with_reducible assumption) | (with_reducible refine below_alloc ?_ _) | (with_reducible refine Below.drew ?_) | (with_reducible refine below_drewN ?_ _) | (with_reducible refine below_step (by assumption) ?_) | (with_reducible refine below_later ?_ _) | (with_reducible refine Below.setCell ?_ ?_ _) | go_size))⟩
    | true =>
      cases hf : ys.any farB with
      | true =>
        have H : Hid (curveB xs ys = false) := Lib.hid (curveB_false.2 (fun h => by have := h.2.2; rw [hf] at this; cases this))
        clear hl
        go_enter Try.func62, Try.ntmps62
        go_wp2_with (first | (go_at_call 99; refine (axis_any _ _ _ _ (HX.out _ (by (repeat' (first | (with_reducible exact Below.refl _ _) | (with_reducible assumption) | (with_reducible refine below_alloc ?_ _) | (with_reducible refine Below.drew ?_) | (with_reducible refine below_drewN ?_ _) | (with_reducible refine below_step (by assumption) ?_) | (with_reducible refine below_later ?_ _) | (with_reducible refine Below.setCell ?_ ?_ _) | go_size))))).mono ?_; rintro e hb1w ⟨rfl, hb1⟩; obtain ⟨hb1c, hb1f⟩ := bcell hb1; have hb1s := hb1.size; (try simp only [World.size_alloc] at hb1s); (try (have : w.heap.size < hb1w.heap.size := by omega)); (try (have : w.heap.size + 1 < hb1w.heap.size := by omega)); (try (have : w.heap.size + 1 + 1 < hb1w.heap.size := by omega)); (try (have : w.heap.size + 1 + 1 + 1 < hb1w.heap.size := by omega)); (try (have : bX < hb1w.heap.size := by omega)); (try (have : bY < hb1w.heap.size := by omega)); (try (have : bZ < hb1w.heap.size := by omega))) | (go_at_call 68; refine (farAny_any _ _ _ _ (HY.out _ (by (repeat' (first | (with_reducible exact Below.refl _ _) | (with_reducible assumption) | (with_reducible refine below_alloc ?_ _) | (with_reducible refine Below.drew ?_) | (with_reducible refine below_drewN ?_ _) | (with_reducible refine below_step (by assumption) ?_) | (with_reducible refine below_later ?_ _) | (with_reducible refine Below.setCell ?_ ?_ _) | go_size))))).mono ?_; rintro e hb2w ⟨rfl, hb2⟩; obtain ⟨hb2c, hb2f⟩ := bcell hb2; have hb2s := hb2.size; (try simp only [World.size_alloc] at hb2s); (try (have : w.heap.size < hb2w.heap.size := by omega)); (try (have : w.heap.size + 1 < hb2w.heap.size := by omega)); (try (have : w.heap.size + 1 + 1 < hb2w.heap.size := by omega)); (try (have : w.heap.size + 1 + 1 + 1 < hb2w.heap.size := by omega)); (try (have : bX < hb2w.heap.size := by omega)); (try (have : bY < hb2w.heap.size := by omega)); (try (have : bZ < hb2w.heap.size := by omega))))
        go_ret
        exact ⟨by rw [H.out]; first | done | rfl, by (repeat' (first | (with_reducible exact Below.refl _ _) | (with_reducible assumption) | (with_reducible refine below_alloc ?_ _) | (with_reducible refine Below.drew ?_) | (with_reducible refine below_drewN ?_ _) | (with_reducible refine below_step (by assumption) ?_) | (with_reducible refine below_later ?_ _) | (with_reducible refine Below.setCell ?_ ?_ _) | go_size))⟩
      | false =>
        have H : Hid (curveB xs ys = true) := Lib.hid (curveB_true.2 ⟨hl, axisB_true.1 ha, hf⟩)
        clear hl
        go_enter Try.func62, Try.ntmps62
        go_wp2_with (first | (go_at_call 99; refine (axis_any _ _ _ _ (HX.out _ (by (repeat' (first | (with_reducible exact Below.refl _ _) | (with_reducible assumption) | (with_reducible refine below_alloc ?_ _) | (with_reducible refine Below.drew ?_) | (with_reducible refine below_drewN ?_ _) | (with_reducible refine below_step (by assumption) ?_) | (with_reducible refine below_later ?_ _) | (with_reducible refine Below.setCell ?_ ?_ _) | go_size))))).mono ?_; rintro e hb1w ⟨rfl, hb1⟩; obtain ⟨hb1c, hb1f⟩ := bcell hb1; have hb1s := hb1.size; (try simp only [World.size_alloc] at hb1s); (try (have : w.heap.size < hb1w.heap.size := by omega)); (try (have : w.heap.size + 1 < hb1w.heap.size := by omega)); (try (have : w.heap.size + 1 + 1 < hb1w.heap.size := by omega)); (try (have : w.heap.size + 1 + 1 + 1 < hb1w.heap.size := by omega)); (try (have : bX < hb1w.heap.size := by omega)); (try (have : bY < hb1w.heap.size := by omega)); (try (have : bZ < hb1w.heap.size := by omega))) | (go_at_call 68; refine (farAny_any _ _ _ _ (HY.out _ (by (repeat' (first | (with_reducible exact Below.refl _ _) | (with_reducible assumption) | (with_reducible refine below_alloc ?_ _) | (with_reducible refine Below.drew ?_) | (with_reducible refine below_drewN ?_ _) | (with_reducible refine below_step (by assumption) ?_) | (with_reducible refine below_later ?_ _) | (with_reducible refine Below.setCell ?_ ?_ _) | go_size))))).mono ?_; rintro e hb2w ⟨rfl, hb2⟩; obtain ⟨hb2c, hb2f⟩ := bcell hb2; have hb2s := hb2.size; (try simp only [World.size_alloc] at hb2s); (try (have : w.heap.size < hb2w.heap.size := by omega)); (try (have : w.heap.size + 1 < hb2w.heap.size := by omega)); (try (have : w.heap.size + 1 + 1 < hb2w.heap.size := by omega)); (try (have : w.heap.size + 1 + 1 + 1 < hb2w.heap.size := by omega)); (try (have : bX < hb2w.heap.size := by omega)); (try (have : bY < hb2w.heap.size := by omega)); (try (have : bZ < hb2w.heap.size := by omega))))
        go_ret
        exact ⟨by rw [H.out]; first | done | rfl, by (repeat' (first | (with_reducible exact Below.refl _ _) | (with_reducible assumption) | (with_reducible refine below_alloc ?_ _) | (with_reducible refine Below.drew ?_) | (with_reducible refine below_drewN ?_ _) | (with_reducible refine below_step (by assumption) ?_) | (with_reducible refine below_later ?_ _) | (with_reducible refine Below.setCell ?_ ?_ _) | go_size))⟩
  · have hl' : ((xs.length : Int) == (ys.length : Int)) = false := by simp; omega
    have H : Hid (curveB xs ys = false) := Lib.hid (curveB_false.2 (fun h => hl h.1))
    clear hl
    go_enter Try.func62, Try.ntmps62
    go_wp2
    go_ret
    exact ⟨by rw [H.out]; first | done | rfl, by (repeat' (first | (with_reducible exact Below.refl _ _) | (with_reducible assumption) | (with_reducible refine below_alloc ?_ _) | (with_reducible refine Below.drew ?_) | (with_reducible refine below_drewN ?_ _) | (with_reducible refine below_step (by assumption) ?_) | (with_reducible refine below_later ?_ _) | (with_reducible refine Below.setCell ?_ ?_ _) | go_size))⟩

end Go.Proofs.Ytfooefiaenlhmaa
namespace Go.Proofs.Ytfooefiaenlhmaa
set_option linter.unusedVariables false
set_option linter.unusedSimpArgs false

def RowsOk (n : Nat) (Z : List (List Int)) : Prop := ∀ t, t < Z.length → (Z.getD t []).length = n ∧ (Z.getD t []).any farB = false
def MapOk (X Y : List Int) (Z : List (List Int)) : Prop := AxisOk X ∧ AxisOk Y ∧ Z.length = X.length ∧ RowsOk Y.length Z
open Classical in
noncomputable def mapB (X Y : List Int) (Z : List (List Int)) : Bool := decide (MapOk X Y Z)
theorem mapB_true {X Y : List Int} {Z : List (List Int)} : mapB X Y Z = true ↔ MapOk X Y Z := by simp [mapB]
theorem mapB_false {X Y : List Int} {Z : List (List Int)} : mapB X Y Z = false ↔ ¬ MapOk X Y Z := by simp [mapB]

end Go.Proofs.Ytfooefiaenlhmaa
namespace Go.Proofs.Ytfooefiaenlhmaa
set_option linter.unusedVariables false
set_option linter.unusedSimpArgs false
open Go.RowKit Go.ChangeShapes Go.WideShapes Go.ChangeAt

theorem element_any (x : Int) (w : World) : Calls Try.prog 103 #[.int .i64 x] w fun e w' => e = .returned (.bool (!farB x)) ∧ w = w' := by
  go_enter Try.func103, Try.ntmps103
  go_wp2
  all_goals go_ret
  all_goals exact ⟨ret_bool (by grind [farB]), rfl⟩
theorem elementCl_any (x : Int) (w : World) : Calls Try.prog 102 #[.int .i64 x] w fun e w' => e = .returned (.bool (farB x)) ∧ w = w' := by
  go_enter Try.func102, Try.ntmps102
  go_wp2_with ((go_at_call 103; refine (element_any _ _).mono ?_; rintro e w' ⟨rfl, rfl⟩))
  go_ret
  exact ⟨by simp, rfl⟩
theorem sfar_any (r : Option Addr) (cap : Nat) (xs : List Int) (w : World) (hxs : IsInts w r cap .i64 xs) :
    Calls Try.prog 68 #[.slice r xs.length cap, .func (.func 102) #[] #[]] w fun e w' => e = .returned (.bool (xs.any farB)) ∧ Below w.heap.size w w' :=
  containsFunc_any 102 #[] r cap xs farB w (enters_of Try.func102 (by kernel_rfl) rfl) hxs (fun e x _ => below_same (elementCl_any x e.w))
set_option maxHeartbeats 1000000 in
theorem saxis_any (r : Option Addr) (cap : Nat) (xs : List Int) (w : World) (hxs : IsInts w r cap .i64 xs) :
    Calls Try.prog 101 #[.slice r xs.length cap] w fun e w' => e = .returned (.bool (axisB xs)) ∧ Below w.heap.size w w' := by
  by_cases h2 : xs.length < 2
  · have H := Lib.hid (axisB_false.2 (fun h : AxisOk xs => by have := h.1; omega))
    have h2' : (xs.length : Int) < 2 := by omega
    clear hxs h2
    go_enter Try.func101, Try.ntmps101
    go_wp2
    go_ret
    exact ⟨by rw [H.out]; first | done | rfl, by (repeat' (first | (with_reducible exact Below.refl _ _) | (with_reducible assumption) | (with_reducible refine below_alloc ?_ _) | (with_reducible refine Below.drew ?_) | (with_reducible refine below_drewN ?_ _) | (with_reducible refine below_step (by assumption) ?_) | (with_reducible refine below_later ?_ _) | (with_reducible refine Below.setCell ?_ ?_ _) | go_size))⟩
  · by_cases h3 : 32 < xs.length
    · have H := Lib.hid (axisB_false.2 (fun h : AxisOk xs => by have := h.2.1; omega))
      have h2' : ¬ (xs.length : Int) < 2 := by omega
      have h3' : (32 : Int) < xs.length := by omega
      clear hxs h2 h3
      go_enter Try.func101, Try.ntmps101
      go_wp2
      go_ret
      exact ⟨by rw [H.out]; first | done | rfl, by (repeat' (first | (with_reducible exact Below.refl _ _) | (with_reducible assumption) | (with_reducible refine below_alloc ?_ _) | (with_reducible refine Below.drew ?_) | (with_reducible refine below_drewN ?_ _) | (with_reducible refine below_step (by assumption) ?_) | (with_reducible refine below_later ?_ _) | (with_reducible refine Below.setCell ?_ ?_ _) | go_size))⟩
    · have h2' : ¬ (xs.length : Int) < 2 := by omega
      have h3' : ¬ (32 : Int) < xs.length := by omega
      obtain ⟨bX, off, rfl, hb, hc⟩ := hxs.cells (fun e => by subst e; simp at h2)
      have HC := Lib.hid hc
      have HAX : Hid ((∀ t, t < xs.length → farB (xs.getD t 0) = false) → (∀ t, t + 1 < xs.length → xs.getD t 0 < xs.getD (t + 1) 0) → AxisOk xs) := Lib.hid (fun g h => ⟨by omega, by omega, far_all g, h⟩)
      clear hc hxs
      generalize hn : xs.length = n at *
      have HN := Lib.hid hn
      clear hn
      go_enter Try.func101, Try.ntmps101
      go_wp2
      go_loopg [15] n (fun kx s15 wr => ∃ (k : Nat) (e : Later w), s15 = .int .i64 k ∧ k ≤ n ∧ n - k ≤ kx ∧ wr = e.w ∧ Hid (∀ t, t < k → farB (xs.getD t 0) = false) ∧ Hid (∀ t, t + 1 < k → xs.getD t 0 < xs.getD (t + 1) 0))
      case atStart => exact ⟨0, ⟨w, Below.refl _ _⟩, rfl, by omega, by omega, rfl, Lib.hid (fun t h => absurd h (Nat.not_lt_zero _)), Lib.hid (fun t h => absurd h (Nat.not_lt_zero _))⟩
      case round =>
        obtain ⟨k, e, rfl, hk, hkx, rfl, HP, HQ⟩ := hrel
        have hes := e.h.size
        have hbe : bX < e.w.heap.size := by omega
        by_cases hlt : k < n
        · have hk1 : (0 : Int) ≤ (k : Int) := by omega
          have hk2 : (k : Int) < n := by omega
          have hc1 : e.w.cell? ⟨bX, off + k, none⟩ = some (.int .i64 (xs.getD k 0)) := by
            rw [Later.cell e hb]
            exact HC.out k (by have := HN.out; omega)
          have HF : Hid (farB (xs.getD k 0) = true → axisB xs = false) := Lib.hid (fun h => axisB_false.2 (fun hh => by have := far_hit (show k < xs.length by have := HN.out; omega) h; rw [hh.2.2.1] at this; cases this))
          cases hf : farB (xs.getD k 0) with
          | true =>
            have H := Lib.hid (HF.out hf)
            clear HF
            generalize xs.getD k 0 = x at hc1 hf
            go_wp2_with ((go_at_call 103; refine (element_any _ _).mono ?_; rintro e w' ⟨rfl, rfl⟩))
            go_ret
            exact ⟨by rw [H.out]; first | done | rfl, e.h⟩
          | false =>
            have HFK := Lib.hid hf
            clear HF
            by_cases hk0 : k = 0
            · have hkd : decide ((0 : Int) < (k : Int)) = false := by simp; omega
              have hkd2 : decide (0 < k) = false := by simp; omega
              have HK := Lib.hid hk0
              clear hk0
              generalize hx : xs.getD k 0 = x at hc1 hf
              have HX := Lib.hid hx
              clear hx
              go_wp2_with ((go_at_call 103; refine (element_any _ _).mono ?_; rintro e w' ⟨rfl, rfl⟩))
              go_roundg (n - (k + 1))
              case measure => omega
              case rel =>
                have hkk := HK.out
                refine ⟨k + 1, e, by go_num, by omega, Nat.le_refl _, rfl, Lib.hid (fun t ht => ?_), Lib.hid (fun t ht => by omega)⟩
                obtain rfl : t = k := by omega
                exact HFK.out
            · have hk3 : (0 : Int) < (k : Int) := by omega
              have hk6 : 0 < k := by omega
              have hw1 : IntKind.i64.wrap ((k : Int) - 1) = (k : Int) - 1 := IntWalk.i64_in _ (by omega)
              have hk4 : (0 : Int) ≤ (k : Int) - 1 := by omega
              have hk5 : (k : Int) - 1 < n := by omega
              have hc2 : e.w.cell? ⟨bX, off + (k - 1), none⟩ = some (.int .i64 (xs.getD (k - 1) 0)) := by
                rw [Later.cell e hb]
                exact HC.out (k - 1) (by have := HN.out; omega)
              have HV : Hid (∀ x y, xs.getD k 0 = x → xs.getD (k - 1) 0 = y → x ≤ y → axisB xs = false) := Lib.hid (fun x y h1 h2 h => axisB_false.2 (fun hh => by
                have := hh.2.2.2 (k - 1) (by have := HN.out; omega)
                rw [show k - 1 + 1 = k by omega, h1, h2] at this
                omega))
              generalize hx : xs.getD k 0 = x at hc1 hf
              generalize hy : xs.getD (k - 1) 0 = y at hc2
              have HXY := Lib.hid (And.intro hx hy)
              clear hx hy
              by_cases hxy : x ≤ y
              · have H := Lib.hid (HV.out x y HXY.out.1 HXY.out.2 hxy)
                go_wp2_with ((go_at_call 103; refine (element_any _ _).mono ?_; rintro e w' ⟨rfl, rfl⟩))
                go_ret
                exact ⟨by rw [H.out]; first | done | rfl, e.h⟩
              · have hxy2 : y < x := by omega
                have HLT := Lib.hid hxy2
                go_wp2_with ((go_at_call 103; refine (element_any _ _).mono ?_; rintro e w' ⟨rfl, rfl⟩))
                go_roundg (n - (k + 1))
                case measure => omega
                case rel =>
                  refine ⟨k + 1, e, by go_num, by omega, Nat.le_refl _, rfl, Lib.hid (fun t ht => ?_), Lib.hid (fun t ht => ?_)⟩
                  · by_cases h : t < k
                    · exact HP.out t h
                    · obtain rfl : t = k := by omega
                      exact HFK.out
                  · by_cases h : t + 1 < k
                    · exact HQ.out t h
                    · obtain rfl : t = k - 1 := by omega
                      rw [show k - 1 + 1 = k by omega, HXY.out.1, HXY.out.2]
                      exact HLT.out
        · obtain rfl : k = n := by omega
          go_wp2
          go_ret
          refine ⟨ret_bool ?_, e.h⟩
          exact (axisB_true.2 (HAX.out HP.out HQ.out)).symm


set_option maxHeartbeats 1000000 in
theorem svalid_any (rX rY rZ : Option Addr) (cX cY cZ : Nat) (X Y : List Int) (Z : List (List Int)) (w : World) (hX : IsInts w rX cX .i64 X) (hY : IsInts w rY cY .i64 Y) (hZ : IsRows w rZ cZ Z) :
    Calls Try.prog 64 #[.agg #[.slice rX X.length cX, .slice rY Y.length cY, .slice rZ Z.length cZ]] w fun e w' => e = .returned (.bool (mapB X Y Z)) ∧ Below w.heap.size w w' := by
  have HX : Hid (∀ w', Below w.heap.size w w' → IsInts w' rX cX .i64 X) := Lib.hid (fun _ h => hX.later h)
  have HY : Hid (∀ w', Below w.heap.size w w' → IsInts w' rY cY .i64 Y) := Lib.hid (fun _ h => hY.later h)
  have HZ : Hid (∀ w', Below w.heap.size w w' → IsRows w' rZ cZ Z) := Lib.hid (fun _ h => hZ.later h)
  have hmax := hZ.max
  have hle := hZ.le
  unfold maxLen at hmax
  cases ax : axisB X with
  | false =>
    have H := Lib.hid (mapB_false.2 (fun h : MapOk X Y Z => axisB_false.1 ax h.1))
    clear hX hY hZ
    go_enter Try.func64, Try.ntmps64
    go_wp2_with ((go_at_call 101; refine (saxis_any _ _ X _ (HX.out _ (by (repeat' (first | (with_reducible exact Below.refl _ _) | (with_reducible assumption) | (with_reducible refine below_alloc ?_ _) | (with_reducible refine Below.drew ?_) | (with_reducible refine below_drewN ?_ _) | (with_reducible refine below_step (by assumption) ?_) | (with_reducible refine below_later ?_ _) | (with_reducible refine Below.setCell ?_ ?_ _) | go_size))))).mono ?_; rintro e hb1w ⟨rfl, hb1⟩; obtain ⟨hb1c, hb1f⟩ := bcell hb1; have hb1s := hb1.size; (try simp only [World.size_alloc] at hb1s); (try (have : w.heap.size < hb1w.heap.size := by omega)); (try (have : w.heap.size + 1 < hb1w.heap.size := by omega)); (try (have : w.heap.size + 1 + 1 < hb1w.heap.size := by omega)); (try (have : w.heap.size + 1 + 1 + 1 < hb1w.heap.size := by omega)); (try (have : bX < hb1w.heap.size := by omega)); (try (have : bY < hb1w.heap.size := by omega)); (try (have : bZ < hb1w.heap.size := by omega))))
    go_ret
    exact ⟨by rw [H.out]; first | done | rfl, by (repeat' (first | (with_reducible exact Below.refl _ _) | (with_reducible assumption) | (with_reducible refine below_alloc ?_ _) | (with_reducible refine Below.drew ?_) | (with_reducible refine below_drewN ?_ _) | (with_reducible refine below_step (by assumption) ?_) | (with_reducible refine below_later ?_ _) | (with_reducible refine Below.setCell ?_ ?_ _) | go_size))⟩
  | true =>
    cases ay : axisB Y with
    | false =>
      have H := Lib.hid (mapB_false.2 (fun h : MapOk X Y Z => axisB_false.1 ay h.2.1))
      clear hX hY hZ
      go_enter Try.func64, Try.ntmps64
      go_wp2_with ((go_at_call 101; refine (saxis_any _ _ _ _ (by first | exact HX.out _ (by (repeat' (first | (with_reducible exact Below.refl _ _) | (with_reducible assumption) | (with_reducible refine below_alloc ?_ _) | (with_reducible refine Below.drew ?_) | (with_reducible refine below_drewN ?_ _) | (with_reducible refine below_step (by assumption) ?_) | (with_reducible refine below_later ?_ _) | (with_reducible refine Below.setCell ?_ ?_ _) | go_size))) | exact HY.out _ (by (repeat' (first | (with_reducible exact Below.refl _ _) | (with_reducible assumption) | (with_reducible refine below_alloc ?_ _) | (with_reducible refine Below.drew ?_) | (with_reducible refine below_drewN ?_ _) | (with_reducible refine below_step (by assumption) ?_) | (with_reducible refine below_later ?_ _) | (with_reducible refine Below.setCell ?_ ?_ _) | go_size))))).mono ?_; rintro e hb1w ⟨rfl, hb1⟩; obtain ⟨hb1c, hb1f⟩ := bcell hb1; have hb1s := hb1.size; (try simp only [World.size_alloc] at hb1s); (try (have : w.heap.size < hb1w.heap.size := by omega)); (try (have : w.heap.size + 1 < hb1w.heap.size := by omega)); (try (have : w.heap.size + 1 + 1 < hb1w.heap.size := by omega)); (try (have : w.heap.size + 1 + 1 + 1 < hb1w.heap.size := by omega)); (try (have : bX < hb1w.heap.size := by omega)); (try (have : bY < hb1w.heap.size := by omega)); (try (have : bZ < hb1w.heap.size := by omega))))
      go_ret
      exact ⟨by rw [H.out]; first | done | rfl, by (repeat' (first | (with_reducible exact Below.refl _ _) | (with_reducible assumption) | (with_reducible refine below_alloc ?_ _) | (with_reducible refine Below.drew ?_) | (with_reducible refine below_drewN ?_ _) | (with_reducible refine below_step (by assumption) ?_) | (with_reducible refine below_later ?_ _) | (with_reducible refine Below.setCell ?_ ?_ _) | go_size))⟩
    | true =>
      by_cases hl : Z.length = X.length
      · have hl' : ((Z.length : Int) == (X.length : Int)) = true := by simp [hl]
        have hl2 : (Z.length : Int) = (X.length : Int) := by omega
        have h2 := (axisB_true.1 ax).1
        obtain ⟨bZ, oZ, rfl, hbZ, hcZ⟩ := hZ.cells (fun e => by rw [e] at hl; simp at hl; omega)
        have HC := Lib.hid hcZ
        have HT : Hid (RowsOk Y.length Z → mapB X Y Z = true) := Lib.hid (fun h => mapB_true.2 ⟨axisB_true.1 ax, axisB_true.1 ay, hl, h⟩)
        have HF : Hid (∀ t, t < Z.length → ¬ ((Z.getD t []).length = Y.length ∧ (Z.getD t []).any farB = false) → mapB X Y Z = false) := Lib.hid (fun t ht h => mapB_false.2 (fun hh => h (hh.2.2.2 t ht)))
        clear hX hY hZ hcZ
        generalize hn : Z.length = n at *
        have HN := Lib.hid hn
        clear hn
        go_enter Try.func64, Try.ntmps64
        go_wp2_with ((go_at_call 101; refine (saxis_any _ _ _ _ (by first | exact HX.out _ (by (repeat' (first | (with_reducible exact Below.refl _ _) | (with_reducible assumption) | (with_reducible refine below_alloc ?_ _) | (with_reducible refine Below.drew ?_) | (with_reducible refine below_drewN ?_ _) | (with_reducible refine below_step (by assumption) ?_) | (with_reducible refine below_later ?_ _) | (with_reducible refine Below.setCell ?_ ?_ _) | go_size))) | exact HY.out _ (by (repeat' (first | (with_reducible exact Below.refl _ _) | (with_reducible assumption) | (with_reducible refine below_alloc ?_ _) | (with_reducible refine Below.drew ?_) | (with_reducible refine below_drewN ?_ _) | (with_reducible refine below_step (by assumption) ?_) | (with_reducible refine below_later ?_ _) | (with_reducible refine Below.setCell ?_ ?_ _) | go_size))))).mono ?_; rintro e hb1w ⟨rfl, hb1⟩; obtain ⟨hb1c, hb1f⟩ := bcell hb1; have hb1s := hb1.size; (try simp only [World.size_alloc] at hb1s); (try (have : w.heap.size < hb1w.heap.size := by omega)); (try (have : w.heap.size + 1 < hb1w.heap.size := by omega)); (try (have : w.heap.size + 1 + 1 < hb1w.heap.size := by omega)); (try (have : w.heap.size + 1 + 1 + 1 < hb1w.heap.size := by omega)); (try (have : bX < hb1w.heap.size := by omega)); (try (have : bY < hb1w.heap.size := by omega)); (try (have : bZ < hb1w.heap.size := by omega))))
        go_loopg [27] n (fun kx s27 wr => ∃ (k : Nat) (e : Later hb1w), s27 = .int .i64 k ∧ k ≤ n ∧ n - k ≤ kx ∧ wr = e.w ∧ Hid (∀ t, t < k → (Z.getD t []).length = Y.length ∧ (Z.getD t []).any farB = false))
        case atStart => exact ⟨0, ⟨_, Below.refl _ _⟩, rfl, by omega, by omega, rfl, Lib.hid (fun t h => absurd h (Nat.not_lt_zero _))⟩
        case round =>
          obtain ⟨k, e, rfl, hk, hkx, rfl, HP⟩ := hrel
          have hes := e.h.size
          have hbo : w.heap.size < e.w.heap.size := by omega
          by_cases hlt : k < n
          · have hbw : Below w.heap.size w e.w := by (repeat' (first | (with_reducible exact Below.refl _ _) | (with_reducible assumption) | (with_reducible refine below_alloc ?_ _) | (with_reducible refine Below.drew ?_) | (with_reducible refine below_drewN ?_ _) | (with_reducible refine below_step (by assumption) ?_) | (with_reducible refine below_later ?_ _) | (with_reducible refine Below.setCell ?_ ?_ _) | go_size))
            have hkZ : k < Z.length := by have := HN.out; omega
            obtain ⟨ri, ci, g1, g2⟩ := HC.out k (by omega)
            have hc1 : e.w.cell? ⟨bZ, oZ + k, none⟩ = some (.slice ri (Z.getD k []).length ci) := by
              rw [hbw.cell (p := ⟨bZ, oZ + k, none⟩) hbZ]; exact g1
            have HR : Hid (∀ w', Below w.heap.size w w' → IsInts w' ri ci .i64 (Z.getD k [])) := Lib.hid (fun _ h => g2.later h)
            have hk1 : (0 : Int) ≤ (k : Int) := by omega
            have hk2 : (k : Int) < n := by omega
            have HB := Lib.hid (HF.out k hlt)
            have HG : Hid ((Z.getD k []).length = Y.length ∧ (Z.getD k []).any farB = false → ∀ t, t < k + 1 → (Z.getD t []).length = Y.length ∧ (Z.getD t []).any farB = false) := Lib.hid (fun h t ht => by
              by_cases e : t = k
              · subst e; exact h
              · exact HP.out t (by omega))
            clear g1 g2 hbw
            generalize Z.getD k [] = row at *
            by_cases hrl : row.length = Y.length
            · have hr' : ((row.length : Int) == (Y.length : Int)) = true := by simp [hrl]
              have hr2 : (row.length : Int) = (Y.length : Int) := by omega
              cases hf : row.any farB with
              | true =>
                have H := Lib.hid (HB.out (fun h => by rw [hf] at h; cases h.2))
                clear hrl
                go_wp2_with ((go_at_call 68; refine (sfar_any _ _ _ _ (HR.out _ (by (repeat' (first | (with_reducible exact Below.refl _ _) | (with_reducible assumption) | (with_reducible refine below_alloc ?_ _) | (with_reducible refine Below.drew ?_) | (with_reducible refine below_drewN ?_ _) | (with_reducible refine below_step (by assumption) ?_) | (with_reducible refine below_later ?_ _) | (with_reducible refine Below.setCell ?_ ?_ _) | go_size))))).mono ?_; rintro e hb3w ⟨rfl, hb3⟩; obtain ⟨hb3c, hb3f⟩ := bcell hb3; have hb3s := hb3.size; (try simp only [World.size_alloc] at hb3s); (try (have : w.heap.size < hb3w.heap.size := by omega)); (try (have : w.heap.size + 1 < hb3w.heap.size := by omega)); (try (have : w.heap.size + 1 + 1 < hb3w.heap.size := by omega)); (try (have : w.heap.size + 1 + 1 + 1 < hb3w.heap.size := by omega)); (try (have : bX < hb3w.heap.size := by omega)); (try (have : bY < hb3w.heap.size := by omega)); (try (have : bZ < hb3w.heap.size := by omega))))
                go_ret
                exact ⟨by rw [H.out]; first | done | rfl, by (repeat' (first | (with_reducible exact Below.refl _ _) | (with_reducible assumption) | (with_reducible refine below_alloc ?_ _) | (with_reducible refine Below.drew ?_) | (with_reducible refine below_drewN ?_ _) | (with_reducible refine below_step (by assumption) ?_) | (with_reducible refine below_later ?_ _) | (with_reducible refine Below.setCell ?_ ?_ _) | go_size))⟩
              | false =>
                have HG2 := Lib.hid (HG.out ⟨hrl, hf⟩)
                clear hrl
                go_wp2_with ((go_at_call 68; refine (sfar_any _ _ _ _ (HR.out _ (by (repeat' (first | (with_reducible exact Below.refl _ _) | (with_reducible assumption) | (with_reducible refine below_alloc ?_ _) | (with_reducible refine Below.drew ?_) | (with_reducible refine below_drewN ?_ _) | (with_reducible refine below_step (by assumption) ?_) | (with_reducible refine below_later ?_ _) | (with_reducible refine Below.setCell ?_ ?_ _) | go_size))))).mono ?_; rintro e hb3w ⟨rfl, hb3⟩; obtain ⟨hb3c, hb3f⟩ := bcell hb3; have hb3s := hb3.size; (try simp only [World.size_alloc] at hb3s); (try (have : w.heap.size < hb3w.heap.size := by omega)); (try (have : w.heap.size + 1 < hb3w.heap.size := by omega)); (try (have : w.heap.size + 1 + 1 < hb3w.heap.size := by omega)); (try (have : w.heap.size + 1 + 1 + 1 < hb3w.heap.size := by omega)); (try (have : bX < hb3w.heap.size := by omega)); (try (have : bY < hb3w.heap.size := by omega)); (try (have : bZ < hb3w.heap.size := by omega))))
                go_roundg (n - (k + 1))
                case measure => omega
                case rel => exact ⟨k + 1, ⟨hb3w, by (repeat' (first | (with_reducible exact Below.refl _ _) | (with_reducible assumption) | (with_reducible refine below_alloc ?_ _) | (with_reducible refine Below.drew ?_) | (with_reducible refine below_drewN ?_ _) | (with_reducible refine below_step (by assumption) ?_) | (with_reducible refine below_later ?_ _) | (with_reducible refine Below.setCell ?_ ?_ _) | go_size))⟩, by go_num, by omega, by omega, rfl, HG2⟩
            · have hr' : ((row.length : Int) == (Y.length : Int)) = false := by simp; omega
              have hr2 : ¬ (row.length : Int) = (Y.length : Int) := by omega
              have H := Lib.hid (HB.out (fun h => hrl h.1))
              clear hrl
              go_wp2
              go_ret
              exact ⟨by rw [H.out]; first | done | rfl, by (repeat' (first | (with_reducible exact Below.refl _ _) | (with_reducible assumption) | (with_reducible refine below_alloc ?_ _) | (with_reducible refine Below.drew ?_) | (with_reducible refine below_drewN ?_ _) | (with_reducible refine below_step (by assumption) ?_) | (with_reducible refine below_later ?_ _) | (with_reducible refine Below.setCell ?_ ?_ _) | go_size))⟩
          · obtain rfl : k = n := by omega
            have H := Lib.hid (HT.out (fun t ht => HP.out t (by have := HN.out; omega)))
            go_wp2
            go_ret
            exact ⟨by rw [H.out]; first | done | rfl, by (repeat' (first | (with_reducible exact Below.refl _ _) | (with_reducible assumption) | (with_reducible refine below_alloc ?_ _) | (with_reducible refine Below.drew ?_) | (with_reducible refine below_drewN ?_ _) | (with_reducible refine below_step (by assumption) ?_) | (with_reducible refine below_later ?_ _) | (with_reducible refine Below.setCell ?_ ?_ _) | go_size))⟩
      · have hl' : ((Z.length : Int) == (X.length : Int)) = false := by simp; omega
        have hl2 : ¬ (Z.length : Int) = (X.length : Int) := by omega
        have H := Lib.hid (mapB_false.2 (fun h : MapOk X Y Z => hl h.2.2.1))
        clear hX hY hZ hl
        go_enter Try.func64, Try.ntmps64
        go_wp2_with ((go_at_call 101; refine (saxis_any _ _ _ _ (by first | exact HX.out _ (by (repeat' (first | (with_reducible exact Below.refl _ _) | (with_reducible assumption) | (with_reducible refine below_alloc ?_ _) | (with_reducible refine Below.drew ?_) | (with_reducible refine below_drewN ?_ _) | (with_reducible refine below_step (by assumption) ?_) | (with_reducible refine below_later ?_ _) | (with_reducible refine Below.setCell ?_ ?_ _) | go_size))) | exact HY.out _ (by (repeat' (first | (with_reducible exact Below.refl _ _) | (with_reducible assumption) | (with_reducible refine below_alloc ?_ _) | (with_reducible refine Below.drew ?_) | (with_reducible refine below_drewN ?_ _) | (with_reducible refine below_step (by assumption) ?_) | (with_reducible refine below_later ?_ _) | (with_reducible refine Below.setCell ?_ ?_ _) | go_size))))).mono ?_; rintro e hb1w ⟨rfl, hb1⟩; obtain ⟨hb1c, hb1f⟩ := bcell hb1; have hb1s := hb1.size; (try simp only [World.size_alloc] at hb1s); (try (have : w.heap.size < hb1w.heap.size := by omega)); (try (have : w.heap.size + 1 < hb1w.heap.size := by omega)); (try (have : w.heap.size + 1 + 1 < hb1w.heap.size := by omega)); (try (have : w.heap.size + 1 + 1 + 1 < hb1w.heap.size := by omega)); (try (have : bX < hb1w.heap.size := by omega)); (try (have : bY < hb1w.heap.size := by omega)); (try (have : bZ < hb1w.heap.size := by omega))))
        go_ret
        exact ⟨by rw [H.out]; first | done | rfl, by (repeat' (first | (with_reducible exact Below.refl _ _) | (with_reducible assumption) | (with_reducible refine below_alloc ?_ _) | (with_reducible refine Below.drew ?_) | (with_reducible refine below_drewN ?_ _) | (with_reducible refine below_step (by assumption) ?_) | (with_reducible refine below_later ?_ _) | (with_reducible refine Below.setCell ?_ ?_ _) | go_size))⟩
end Go.Proofs.Ytfooefiaenlhmaa
namespace Go.Proofs.Ytfooefiaenlhmaa
set_option linter.unusedVariables false
set_option linter.unusedSimpArgs false
open Go.RowKit Go.ChangeShapes Go.WideShapes Go.ChangeAt

theorem v1_any (b : Bool) (w : World) : Calls Try.prog 57 #[.bool b] w fun e w' => e = .returned (.bool (!b)) ∧ w' = w := by
  go_enter Try.func57, Try.ntmps57
  go_wp2
  go_ret
  exact ⟨rfl, rfl⟩
set_option maxRecDepth 100000 in
set_option maxHeartbeats 2000000 in
theorem v2_any (X : Nat) (t : Fx) (w : World) (hX : X < w.heap.size) (hc : w.cell? ⟨X, 0, none⟩ = some (.func (.func 57) #[] #[])) : Calls Try.prog 59 #[.agg #[.int .i64 t.bits, .bool t.sg, .int .i64 t.num, .int .i64 t.off, .int .i64 t.den, .int .i64 t.m, .int .i64 t.kg, .int .i64 t.s, .int .i64 t.a, .int .i64 t.k], .pointer (some ⟨X, 0, none⟩)] w fun e w' => e = .returned (.bool (!fxB t)) ∧ Below w.heap.size w w' := by
  obtain ⟨x0, x1, x2, x3, x4, x5, x6, x7, x8, x9⟩ := t
  have HV := Lib.hid (fun W => fvalid_any ⟨x0, x1, x2, x3, x4, x5, x6, x7, x8, x9⟩ W)
  generalize fxB ⟨x0, x1, x2, x3, x4, x5, x6, x7, x8, x9⟩ = R at *
  simp only at HV ⊢
  have hX1 : X < w.heap.size + 1 := by omega
  go_enter Try.func59, Try.ntmps59
  go_wp2
  go_region_with (first | (go_at_call 60; refine (HV.out _).mono ?_; rintro e w2 ⟨rfl, hb2⟩; obtain ⟨hb2c, hb2f⟩ := bcell hb2; have hb2s := hb2.size; (try simp only [World.size_alloc, World.size_drew] at hb2s); have hx2 : X < w2.heap.size := (by omega)) | (go_at_call 57; refine (v1_any _ _).mono ?_; rintro e w3 ⟨rfl, rfl⟩))
  all_goals go_wp2
  all_goals go_ret
  all_goals exact ⟨rfl, by (repeat' (first | (with_reducible exact Below.refl _ _) | (with_reducible assumption) | (with_reducible refine below_alloc ?_ _) | (with_reducible refine Below.drew ?_) | (with_reducible refine below_drewN ?_ _) | (with_reducible refine below_step (by assumption) ?_) | (with_reducible refine below_later ?_ _) | (with_reducible refine Below.setCell ?_ ?_ _) | go_size))⟩
noncomputable def cvB (c : Cv) : Bool := curveB c.X c.Y
noncomputable def mpB (m : Mp) : Bool := mapB m.X m.Y m.Z
set_option maxRecDepth 100000 in
set_option maxHeartbeats 2000000 in
theorem v3_any (X : Nat) (t : Cv) (w : World) (ht : t.ok w) (hX : X < w.heap.size) (hc : w.cell? ⟨X, 0, none⟩ = some (.func (.func 57) #[] #[])) : Calls Try.prog 61 #[.agg #[.slice t.rx t.X.length t.cx, .slice t.ry t.Y.length t.cy], .pointer (some ⟨X, 0, none⟩)] w fun e w' => e = .returned (.bool (!cvB t)) ∧ Below w.heap.size w w' := by
  obtain ⟨rx, cx, A, ry, cy, B⟩ := t
  obtain ⟨hA, hB⟩ := ht
  simp only at hA hB
  have HV := Lib.hid (fun W (h : Below w.heap.size w W) => curveValid_any rx ry cx cy A B W (hA.later h) (hB.later h))
  have HR : cvB ⟨rx, cx, A, ry, cy, B⟩ = curveB A B := rfl
  rw [HR]
  clear hA hB HR
  generalize curveB A B = R at *
  simp only at HV ⊢
  have hX1 : X < w.heap.size + 1 := by omega
  go_enter Try.func61, Try.ntmps61
  go_wp2
  go_region_with (first | (go_at_call 62; refine (HV.out _ (by (repeat' (first | (with_reducible exact Below.refl _ _) | (with_reducible assumption) | (with_reducible refine below_alloc ?_ _) | (with_reducible refine Below.drew ?_) | (with_reducible refine below_drewN ?_ _) | (with_reducible refine below_step (by assumption) ?_) | (with_reducible refine below_later ?_ _) | (with_reducible refine Below.setCell ?_ ?_ _) | go_size)))).mono ?_; rintro e w2 ⟨rfl, hb2⟩; obtain ⟨hb2c, hb2f⟩ := bcell hb2; have hb2s := hb2.size; (try simp only [World.size_alloc, World.size_drew] at hb2s); have hx2 : X < w2.heap.size := (by omega)) | (go_at_call 57; refine (v1_any _ _).mono ?_; rintro e w3 ⟨rfl, rfl⟩))
  all_goals go_wp2
  all_goals go_ret
  all_goals exact ⟨rfl, by (repeat' (first | (with_reducible exact Below.refl _ _) | (with_reducible assumption) | (with_reducible refine below_alloc ?_ _) | (with_reducible refine Below.drew ?_) | (with_reducible refine below_drewN ?_ _) | (with_reducible refine below_step (by assumption) ?_) | (with_reducible refine below_later ?_ _) | (with_reducible refine Below.setCell ?_ ?_ _) | go_size))⟩
set_option maxRecDepth 100000 in
set_option maxHeartbeats 2000000 in
theorem v4_any (X : Nat) (t : Mp) (w : World) (ht : t.ok w) (hX : X < w.heap.size) (hc : w.cell? ⟨X, 0, none⟩ = some (.func (.func 57) #[] #[])) : Calls Try.prog 63 #[.agg #[.slice t.rx t.X.length t.cx, .slice t.ry t.Y.length t.cy, .slice t.rz t.Z.length t.cz], .pointer (some ⟨X, 0, none⟩)] w fun e w' => e = .returned (.bool (!mpB t)) ∧ Below w.heap.size w w' := by
  obtain ⟨rx, cx, A, ry, cy, B, rz, cz, Z⟩ := t
  obtain ⟨hA, hB, hZ⟩ := ht
  simp only at hA hB hZ
  have HV := Lib.hid (fun W (h : Below w.heap.size w W) => svalid_any rx ry rz cx cy cz A B Z W (hA.later h) (hB.later h) (hZ.later h))
  have HR : mpB ⟨rx, cx, A, ry, cy, B, rz, cz, Z⟩ = mapB A B Z := rfl
  rw [HR]
  clear hA hB hZ HR
  generalize mapB A B Z = R at *
  simp only at HV ⊢
  have hX1 : X < w.heap.size + 1 := by omega
  go_enter Try.func63, Try.ntmps63
  go_wp2
  go_region_with (first | (go_at_call 64; refine (HV.out _ (by (repeat' (first | (with_reducible exact Below.refl _ _) | (with_reducible assumption) | (with_reducible refine below_alloc ?_ _) | (with_reducible refine Below.drew ?_) | (with_reducible refine below_drewN ?_ _) | (with_reducible refine below_step (by assumption) ?_) | (with_reducible refine below_later ?_ _) | (with_reducible refine Below.setCell ?_ ?_ _) | go_size)))).mono ?_; rintro e w2 ⟨rfl, hb2⟩; obtain ⟨hb2c, hb2f⟩ := bcell hb2; have hb2s := hb2.size; (try simp only [World.size_alloc, World.size_drew] at hb2s); have hx2 : X < w2.heap.size := (by omega)) | (go_at_call 57; refine (v1_any _ _).mono ?_; rintro e w3 ⟨rfl, rfl⟩))
  all_goals go_wp2
  all_goals go_ret
  all_goals exact ⟨rfl, by (repeat' (first | (with_reducible exact Below.refl _ _) | (with_reducible assumption) | (with_reducible refine below_alloc ?_ _) | (with_reducible refine Below.drew ?_) | (with_reducible refine below_drewN ?_ _) | (with_reducible refine below_step (by assumption) ?_) | (with_reducible refine below_later ?_ _) | (with_reducible refine Below.setCell ?_ ?_ _) | go_size))⟩
set_option maxRecDepth 100000 in
set_option maxHeartbeats 4000000 in
theorem v5_any (X B : Nat) (p : PV) (t : Ins) (w : World) (ht : t.ok) (hS : IsS 10 Fx.enc w p.rt p.ct p.types) (hX : X < w.heap.size) (hBs : B < w.heap.size) (hc : w.cell? ⟨X, 0, none⟩ = some (.func (.func 57) #[] #[]))
    (q0 : w.cell? ⟨B, 0, none⟩ = some (.slice p.rc p.code.length p.cc)) (q1 : w.cell? ⟨B, 1, none⟩ = some (.slice p.rt p.types.length p.ct)) (q2 : w.cell? ⟨B, 2, none⟩ = some (.slice p.rv p.curves.length p.cv)) (q3 : w.cell? ⟨B, 3, none⟩ = some (.slice p.rm p.maps.length p.cm)) (q4 : w.cell? ⟨B, 4, none⟩ = some (.int .i64 p.cells))
    (q5 : w.cell? ⟨B, 5, none⟩ = some (.slice p.ri p.inputs.length p.ci)) (q6 : w.cell? ⟨B, 6, none⟩ = some (.slice p.rs p.states.length p.cs)) (q7 : w.cell? ⟨B, 7, none⟩ = some (.slice p.ro p.outputs.length p.co)) (q8 : w.cell? ⟨B, 8, none⟩ = some (.slice p.rn p.initial.length p.cn)) :
    Calls Try.prog 66 #[.agg #[.int .i64 t.op, .int .i64 t.a, .int .i64 t.b, .int .i64 t.c, .int .i64 t.k], .pointer (some ⟨X, 0, none⟩), .pointer (some ⟨B, 0, none⟩)] w fun e w' => e = .returned (.bool (!fitB p.cells p.curves.length p.maps.length p.types t)) ∧ Below w.heap.size w w' := by
  obtain ⟨rc, cc, code, rt, ct, types, rv, cv, curves, rm, cm, maps, cells, ri, ci, inputs, rs, cs, states, ro, co, outputs, rn, cn, initial⟩ := p
  obtain ⟨op, a, b, c, k⟩ := t
  simp only at hS q0 q1 q2 q3 q4 q5 q6 q7 q8 ⊢
  have hk : I64 k := ht.2.2.2.2
  have HV := Lib.hid (fun W (h : Below w.heap.size w W) => fits_any rc code.length cc rt ct types rv curves.length cv rm maps.length cm cells ri inputs.length ci rs states.length cs ro outputs.length co rn initial.length cn op a b c k hk W (hS.later h))
  clear hS ht hk
  generalize fitB cells curves.length maps.length types ⟨op, a, b, c, k⟩ = R at *
  have hX1 : X < w.heap.size + 1 := by omega
  have hB1 : B < w.heap.size + 1 := by omega
  go_enter Try.func66, Try.ntmps66
  go_wp2
  go_region_with (first | (go_at_call 67; refine (HV.out _ (by (repeat' (first | (with_reducible exact Below.refl _ _) | (with_reducible assumption) | (with_reducible refine below_alloc ?_ _) | (with_reducible refine Below.drew ?_) | (with_reducible refine below_drewN ?_ _) | (with_reducible refine below_step (by assumption) ?_) | (with_reducible refine below_later ?_ _) | (with_reducible refine Below.setCell ?_ ?_ _) | go_size)))).mono ?_; rintro e w2 ⟨rfl, hb2⟩; obtain ⟨hb2c, hb2f⟩ := bcell hb2; have hb2s := hb2.size; (try simp only [World.size_alloc, World.size_drew] at hb2s); have hx2 : X < w2.heap.size := (by omega)) | (go_at_call 57; refine (v1_any _ _).mono ?_; rintro e w3 ⟨rfl, rfl⟩))
  all_goals go_wp2
  all_goals go_ret
  all_goals exact ⟨rfl, by (repeat' (first | (with_reducible exact Below.refl _ _) | (with_reducible assumption) | (with_reducible refine below_alloc ?_ _) | (with_reducible refine Below.drew ?_) | (with_reducible refine below_drewN ?_ _) | (with_reducible refine below_step (by assumption) ?_) | (with_reducible refine below_later ?_ _) | (with_reducible refine Below.setCell ?_ ?_ _) | go_size))⟩
def badC (cells c : Int) : Bool := decide (c < 0 ∨ cells ≤ c)
def badN (n : Int) : Bool := decide (n < -1099511627776 ∨ 1099511627776 < n)
set_option maxRecDepth 100000 in
theorem v6_any (B : Nat) (c cells : Int) (w : World) (q4 : w.cell? ⟨B, 4, none⟩ = some (.int .i64 cells)) : Calls Try.prog 69 #[.int .i64 c, .pointer (some ⟨B, 0, none⟩)] w fun e w' => e = .returned (.bool (badC cells c)) ∧ Below w.heap.size w w' := by
  by_cases h0 : c < 0
  · have H : Hid (badC cells c = true) := Lib.hid (by unfold badC; simp [h0])
    go_enter Try.func69, Try.ntmps69
    go_wp2
    go_ret
    exact ⟨by rw [H.out]; simp [h0], Below.refl _ _⟩
  · by_cases h1 : cells ≤ c
    · have H : Hid (badC cells c = true) := Lib.hid (by unfold badC; simp [h1])
      go_enter Try.func69, Try.ntmps69
      go_wp2
      go_ret
      exact ⟨by rw [H.out]; simp [h0, h1], Below.refl _ _⟩
    · have H : Hid (badC cells c = false) := Lib.hid (by unfold badC; simp [h0, h1])
      go_enter Try.func69, Try.ntmps69
      go_wp2
      go_ret
      exact ⟨by rw [H.out]; simp [h0, h1], Below.refl _ _⟩
set_option maxRecDepth 100000 in
theorem v7_any (n : Int) (w : World) : Calls Try.prog 71 #[.int .i64 n] w fun e w' => e = .returned (.bool (badN n)) ∧ Below w.heap.size w w' := by
  by_cases h0 : n < -1099511627776
  · have H : Hid (badN n = true) := Lib.hid (by unfold badN; simp [h0])
    go_enter Try.func71, Try.ntmps71
    go_wp2
    go_ret
    exact ⟨by rw [H.out]; simp [h0], Below.refl _ _⟩
  · by_cases h1 : 1099511627776 < n
    · have H : Hid (badN n = true) := Lib.hid (by unfold badN; simp [h1])
      go_enter Try.func71, Try.ntmps71
      go_wp2
      go_ret
      exact ⟨by rw [H.out]; simp [h0, h1], Below.refl _ _⟩
    · have H : Hid (badN n = false) := Lib.hid (by unfold badN; simp [h0, h1])
      go_enter Try.func71, Try.ntmps71
      go_wp2
      go_ret
      exact ⟨by rw [H.out]; simp [h0, h1], Below.refl _ _⟩
end Go.Proofs.Ytfooefiaenlhmaa
namespace Go.Proofs.Ytfooefiaenlhmaa
set_option linter.unusedVariables false
set_option linter.unusedSimpArgs false
open Go.RowKit Go.ChangeShapes Go.WideShapes Go.ChangeAt

def inL (cells : Int) (l : List Int) : Bool := decide (l.length ≤ 1000) && !(l.any (badC cells))
def szP (p : PV) : Prop := p.code.length ≤ 4000 ∧ p.types.length ≤ 100 ∧ p.curves.length ≤ 100 ∧ p.maps.length ≤ 100 ∧ 0 ≤ p.cells ∧ p.cells ≤ 1000 ∧ p.initial.length = p.states.length
instance (p : PV) : Decidable (szP p) := by unfold szP; infer_instance
/-- What machine.Valid says. -/
noncomputable def validB (p : PV) : Bool :=
  decide (szP p) && (!(p.types.any fun t => !fxB t) && (!(p.curves.any fun c => !cvB c) && (!(p.maps.any fun m => !mpB m) && (!(p.code.any fun i => !fitB p.cells p.curves.length p.maps.length p.types i) &&
    (inL p.cells p.inputs && (inL p.cells p.outputs && (inL p.cells p.states && (decide (p.inputs ++ p.states).Nodup && !(p.initial.any badN)))))))))
set_option maxRecDepth 100000 in
set_option maxHeartbeats 2000000 in
theorem mv_sz0 (rc : Option Addr) (cc : Nat) (code : List Ins) (rt : Option Addr) (ct : Nat) (types : List Fx) (rv : Option Addr) (cv : Nat) (curves : List Cv) (rm : Option Addr) (cm : Nat) (maps : List Mp) (cells : Int) (ri : Option Addr) (ci : Nat) (inputs : List Int) (rs : Option Addr) (cs : Nat) (states : List Int) (ro : Option Addr) (co : Nat) (outputs : List Int) (rn : Option Addr) (cn : Nat) (initial : List Int) (n0 : ¬ code.length ≤ 4000) (m0 : code.length ≤ 9223372036854775807 ∧ types.length ≤ 9223372036854775807 ∧ curves.length ≤ 9223372036854775807 ∧ maps.length ≤ 9223372036854775807 ∧ states.length ≤ 9223372036854775807 ∧ initial.length ≤ 9223372036854775807) (w : World) : Calls Try.prog 34 #[.agg #[.slice rc code.length cc, .slice rt types.length ct, .slice rv curves.length cv, .slice rm maps.length cm, .int .i64 cells, .slice ri inputs.length ci, .slice rs states.length cs, .slice ro outputs.length co, .slice rn initial.length cn]] w fun e w' => e = .returned (.bool false) ∧ Below w.heap.size w w' := by
  obtain ⟨m0, m1, m2, m3, m4, m5⟩ := m0
  have f0 : ((4000 : Int) < code.length) := by omega
  go_enter Try.func34, Try.ntmps34
  go_wp2
  go_ret
  exact ⟨rfl, by (repeat' (first | (with_reducible exact Below.refl _ _) | (with_reducible assumption) | (with_reducible refine below_alloc ?_ _) | (with_reducible refine Below.drew ?_) | (with_reducible refine below_drewN ?_ _) | (with_reducible refine below_step (by assumption) ?_) | (with_reducible refine below_later ?_ _) | (with_reducible refine Below.setCell ?_ ?_ _) | go_size))⟩
set_option maxRecDepth 100000 in
set_option maxHeartbeats 2000000 in
theorem mv_sz1 (rc : Option Addr) (cc : Nat) (code : List Ins) (rt : Option Addr) (ct : Nat) (types : List Fx) (rv : Option Addr) (cv : Nat) (curves : List Cv) (rm : Option Addr) (cm : Nat) (maps : List Mp) (cells : Int) (ri : Option Addr) (ci : Nat) (inputs : List Int) (rs : Option Addr) (cs : Nat) (states : List Int) (ro : Option Addr) (co : Nat) (outputs : List Int) (rn : Option Addr) (cn : Nat) (initial : List Int) (h0 : code.length ≤ 4000) (n1 : ¬ types.length ≤ 100) (m0 : code.length ≤ 9223372036854775807 ∧ types.length ≤ 9223372036854775807 ∧ curves.length ≤ 9223372036854775807 ∧ maps.length ≤ 9223372036854775807 ∧ states.length ≤ 9223372036854775807 ∧ initial.length ≤ 9223372036854775807) (w : World) : Calls Try.prog 34 #[.agg #[.slice rc code.length cc, .slice rt types.length ct, .slice rv curves.length cv, .slice rm maps.length cm, .int .i64 cells, .slice ri inputs.length ci, .slice rs states.length cs, .slice ro outputs.length co, .slice rn initial.length cn]] w fun e w' => e = .returned (.bool false) ∧ Below w.heap.size w w' := by
  obtain ⟨m0, m1, m2, m3, m4, m5⟩ := m0
  have f0 : ¬ ((4000 : Int) < code.length) := by omega
  have f1 : ((100 : Int) < types.length) := by omega
  go_enter Try.func34, Try.ntmps34
  go_wp2
  go_ret
  exact ⟨rfl, by (repeat' (first | (with_reducible exact Below.refl _ _) | (with_reducible assumption) | (with_reducible refine below_alloc ?_ _) | (with_reducible refine Below.drew ?_) | (with_reducible refine below_drewN ?_ _) | (with_reducible refine below_step (by assumption) ?_) | (with_reducible refine below_later ?_ _) | (with_reducible refine Below.setCell ?_ ?_ _) | go_size))⟩
set_option maxRecDepth 100000 in
set_option maxHeartbeats 2000000 in
theorem mv_sz2 (rc : Option Addr) (cc : Nat) (code : List Ins) (rt : Option Addr) (ct : Nat) (types : List Fx) (rv : Option Addr) (cv : Nat) (curves : List Cv) (rm : Option Addr) (cm : Nat) (maps : List Mp) (cells : Int) (ri : Option Addr) (ci : Nat) (inputs : List Int) (rs : Option Addr) (cs : Nat) (states : List Int) (ro : Option Addr) (co : Nat) (outputs : List Int) (rn : Option Addr) (cn : Nat) (initial : List Int) (h0 : code.length ≤ 4000) (h1 : types.length ≤ 100) (n2 : ¬ curves.length ≤ 100) (m0 : code.length ≤ 9223372036854775807 ∧ types.length ≤ 9223372036854775807 ∧ curves.length ≤ 9223372036854775807 ∧ maps.length ≤ 9223372036854775807 ∧ states.length ≤ 9223372036854775807 ∧ initial.length ≤ 9223372036854775807) (w : World) : Calls Try.prog 34 #[.agg #[.slice rc code.length cc, .slice rt types.length ct, .slice rv curves.length cv, .slice rm maps.length cm, .int .i64 cells, .slice ri inputs.length ci, .slice rs states.length cs, .slice ro outputs.length co, .slice rn initial.length cn]] w fun e w' => e = .returned (.bool false) ∧ Below w.heap.size w w' := by
  obtain ⟨m0, m1, m2, m3, m4, m5⟩ := m0
  have f0 : ¬ ((4000 : Int) < code.length) := by omega
  have f1 : ¬ ((100 : Int) < types.length) := by omega
  have f2 : ((100 : Int) < curves.length) := by omega
  go_enter Try.func34, Try.ntmps34
  go_wp2
  go_ret
  exact ⟨rfl, by (repeat' (first | (with_reducible exact Below.refl _ _) | (with_reducible assumption) | (with_reducible refine below_alloc ?_ _) | (with_reducible refine Below.drew ?_) | (with_reducible refine below_drewN ?_ _) | (with_reducible refine below_step (by assumption) ?_) | (with_reducible refine below_later ?_ _) | (with_reducible refine Below.setCell ?_ ?_ _) | go_size))⟩
set_option maxRecDepth 100000 in
set_option maxHeartbeats 2000000 in
theorem mv_sz3 (rc : Option Addr) (cc : Nat) (code : List Ins) (rt : Option Addr) (ct : Nat) (types : List Fx) (rv : Option Addr) (cv : Nat) (curves : List Cv) (rm : Option Addr) (cm : Nat) (maps : List Mp) (cells : Int) (ri : Option Addr) (ci : Nat) (inputs : List Int) (rs : Option Addr) (cs : Nat) (states : List Int) (ro : Option Addr) (co : Nat) (outputs : List Int) (rn : Option Addr) (cn : Nat) (initial : List Int) (h0 : code.length ≤ 4000) (h1 : types.length ≤ 100) (h2 : curves.length ≤ 100) (n3 : ¬ maps.length ≤ 100) (m0 : code.length ≤ 9223372036854775807 ∧ types.length ≤ 9223372036854775807 ∧ curves.length ≤ 9223372036854775807 ∧ maps.length ≤ 9223372036854775807 ∧ states.length ≤ 9223372036854775807 ∧ initial.length ≤ 9223372036854775807) (w : World) : Calls Try.prog 34 #[.agg #[.slice rc code.length cc, .slice rt types.length ct, .slice rv curves.length cv, .slice rm maps.length cm, .int .i64 cells, .slice ri inputs.length ci, .slice rs states.length cs, .slice ro outputs.length co, .slice rn initial.length cn]] w fun e w' => e = .returned (.bool false) ∧ Below w.heap.size w w' := by
  obtain ⟨m0, m1, m2, m3, m4, m5⟩ := m0
  have f0 : ¬ ((4000 : Int) < code.length) := by omega
  have f1 : ¬ ((100 : Int) < types.length) := by omega
  have f2 : ¬ ((100 : Int) < curves.length) := by omega
  have f3 : ((100 : Int) < maps.length) := by omega
  go_enter Try.func34, Try.ntmps34
  go_wp2
  go_ret
  exact ⟨rfl, by (repeat' (first | (with_reducible exact Below.refl _ _) | (with_reducible assumption) | (with_reducible refine below_alloc ?_ _) | (with_reducible refine Below.drew ?_) | (with_reducible refine below_drewN ?_ _) | (with_reducible refine below_step (by assumption) ?_) | (with_reducible refine below_later ?_ _) | (with_reducible refine Below.setCell ?_ ?_ _) | go_size))⟩
set_option maxRecDepth 100000 in
set_option maxHeartbeats 2000000 in
theorem mv_sz4 (rc : Option Addr) (cc : Nat) (code : List Ins) (rt : Option Addr) (ct : Nat) (types : List Fx) (rv : Option Addr) (cv : Nat) (curves : List Cv) (rm : Option Addr) (cm : Nat) (maps : List Mp) (cells : Int) (ri : Option Addr) (ci : Nat) (inputs : List Int) (rs : Option Addr) (cs : Nat) (states : List Int) (ro : Option Addr) (co : Nat) (outputs : List Int) (rn : Option Addr) (cn : Nat) (initial : List Int) (h0 : code.length ≤ 4000) (h1 : types.length ≤ 100) (h2 : curves.length ≤ 100) (h3 : maps.length ≤ 100) (n4 : ¬ 0 ≤ cells) (m0 : code.length ≤ 9223372036854775807 ∧ types.length ≤ 9223372036854775807 ∧ curves.length ≤ 9223372036854775807 ∧ maps.length ≤ 9223372036854775807 ∧ states.length ≤ 9223372036854775807 ∧ initial.length ≤ 9223372036854775807) (w : World) : Calls Try.prog 34 #[.agg #[.slice rc code.length cc, .slice rt types.length ct, .slice rv curves.length cv, .slice rm maps.length cm, .int .i64 cells, .slice ri inputs.length ci, .slice rs states.length cs, .slice ro outputs.length co, .slice rn initial.length cn]] w fun e w' => e = .returned (.bool false) ∧ Below w.heap.size w w' := by
  obtain ⟨m0, m1, m2, m3, m4, m5⟩ := m0
  have f0 : ¬ ((4000 : Int) < code.length) := by omega
  have f1 : ¬ ((100 : Int) < types.length) := by omega
  have f2 : ¬ ((100 : Int) < curves.length) := by omega
  have f3 : ¬ ((100 : Int) < maps.length) := by omega
  have f4 : cells < 0 := by omega
  go_enter Try.func34, Try.ntmps34
  go_wp2
  go_ret
  exact ⟨rfl, by (repeat' (first | (with_reducible exact Below.refl _ _) | (with_reducible assumption) | (with_reducible refine below_alloc ?_ _) | (with_reducible refine Below.drew ?_) | (with_reducible refine below_drewN ?_ _) | (with_reducible refine below_step (by assumption) ?_) | (with_reducible refine below_later ?_ _) | (with_reducible refine Below.setCell ?_ ?_ _) | go_size))⟩
set_option maxRecDepth 100000 in
set_option maxHeartbeats 2000000 in
theorem mv_sz5 (rc : Option Addr) (cc : Nat) (code : List Ins) (rt : Option Addr) (ct : Nat) (types : List Fx) (rv : Option Addr) (cv : Nat) (curves : List Cv) (rm : Option Addr) (cm : Nat) (maps : List Mp) (cells : Int) (ri : Option Addr) (ci : Nat) (inputs : List Int) (rs : Option Addr) (cs : Nat) (states : List Int) (ro : Option Addr) (co : Nat) (outputs : List Int) (rn : Option Addr) (cn : Nat) (initial : List Int) (h0 : code.length ≤ 4000) (h1 : types.length ≤ 100) (h2 : curves.length ≤ 100) (h3 : maps.length ≤ 100) (h4 : 0 ≤ cells) (n5 : ¬ cells ≤ 1000) (m0 : code.length ≤ 9223372036854775807 ∧ types.length ≤ 9223372036854775807 ∧ curves.length ≤ 9223372036854775807 ∧ maps.length ≤ 9223372036854775807 ∧ states.length ≤ 9223372036854775807 ∧ initial.length ≤ 9223372036854775807) (w : World) : Calls Try.prog 34 #[.agg #[.slice rc code.length cc, .slice rt types.length ct, .slice rv curves.length cv, .slice rm maps.length cm, .int .i64 cells, .slice ri inputs.length ci, .slice rs states.length cs, .slice ro outputs.length co, .slice rn initial.length cn]] w fun e w' => e = .returned (.bool false) ∧ Below w.heap.size w w' := by
  obtain ⟨m0, m1, m2, m3, m4, m5⟩ := m0
  have f0 : ¬ ((4000 : Int) < code.length) := by omega
  have f1 : ¬ ((100 : Int) < types.length) := by omega
  have f2 : ¬ ((100 : Int) < curves.length) := by omega
  have f3 : ¬ ((100 : Int) < maps.length) := by omega
  have f4 : ¬ cells < 0 := by omega
  have f5 : 1000 < cells := by omega
  go_enter Try.func34, Try.ntmps34
  go_wp2
  go_ret
  exact ⟨rfl, by (repeat' (first | (with_reducible exact Below.refl _ _) | (with_reducible assumption) | (with_reducible refine below_alloc ?_ _) | (with_reducible refine Below.drew ?_) | (with_reducible refine below_drewN ?_ _) | (with_reducible refine below_step (by assumption) ?_) | (with_reducible refine below_later ?_ _) | (with_reducible refine Below.setCell ?_ ?_ _) | go_size))⟩
set_option maxRecDepth 100000 in
set_option maxHeartbeats 2000000 in
theorem mv_sz6 (rc : Option Addr) (cc : Nat) (code : List Ins) (rt : Option Addr) (ct : Nat) (types : List Fx) (rv : Option Addr) (cv : Nat) (curves : List Cv) (rm : Option Addr) (cm : Nat) (maps : List Mp) (cells : Int) (ri : Option Addr) (ci : Nat) (inputs : List Int) (rs : Option Addr) (cs : Nat) (states : List Int) (ro : Option Addr) (co : Nat) (outputs : List Int) (rn : Option Addr) (cn : Nat) (initial : List Int) (h0 : code.length ≤ 4000) (h1 : types.length ≤ 100) (h2 : curves.length ≤ 100) (h3 : maps.length ≤ 100) (h4 : 0 ≤ cells) (h5 : cells ≤ 1000) (n6 : ¬ initial.length = states.length) (m0 : code.length ≤ 9223372036854775807 ∧ types.length ≤ 9223372036854775807 ∧ curves.length ≤ 9223372036854775807 ∧ maps.length ≤ 9223372036854775807 ∧ states.length ≤ 9223372036854775807 ∧ initial.length ≤ 9223372036854775807) (w : World) : Calls Try.prog 34 #[.agg #[.slice rc code.length cc, .slice rt types.length ct, .slice rv curves.length cv, .slice rm maps.length cm, .int .i64 cells, .slice ri inputs.length ci, .slice rs states.length cs, .slice ro outputs.length co, .slice rn initial.length cn]] w fun e w' => e = .returned (.bool false) ∧ Below w.heap.size w w' := by
  obtain ⟨m0, m1, m2, m3, m4, m5⟩ := m0
  have f0 : ¬ ((4000 : Int) < code.length) := by omega
  have f1 : ¬ ((100 : Int) < types.length) := by omega
  have f2 : ¬ ((100 : Int) < curves.length) := by omega
  have f3 : ¬ ((100 : Int) < maps.length) := by omega
  have f4 : ¬ cells < 0 := by omega
  have f5 : ¬ 1000 < cells := by omega
  have f6 : ¬ (initial.length : Int) = (states.length : Int) := by omega
  go_enter Try.func34, Try.ntmps34
  go_wp2
  go_ret
  exact ⟨rfl, by (repeat' (first | (with_reducible exact Below.refl _ _) | (with_reducible assumption) | (with_reducible refine below_alloc ?_ _) | (with_reducible refine Below.drew ?_) | (with_reducible refine below_drewN ?_ _) | (with_reducible refine below_step (by assumption) ?_) | (with_reducible refine below_later ?_ _) | (with_reducible refine Below.setCell ?_ ?_ _) | go_size))⟩
theorem mv_sz (p : PV) (w : World) (hp : IsP w p) (h : ¬ szP p) : Calls Try.prog 34 #[p.val] w fun e w' => e = .returned (.bool false) ∧ Below w.heap.size w w' := by
  have m0 := Nat.le_trans hp.code.le hp.code.max
  have m1 := Nat.le_trans hp.types.le hp.types.max
  have m2 := Nat.le_trans hp.curves.le hp.curves.max
  have m3 := Nat.le_trans hp.maps.le hp.maps.max
  have m4 := Nat.le_trans hp.states.le hp.states.max
  have m5 := Nat.le_trans hp.initial.le hp.initial.max
  unfold maxLen at m0 m1 m2 m3 m4 m5
  obtain ⟨rc, cc, code, rt, ct, types, rv, cv, curves, rm, cm, maps, cells, ri, ci, inputs, rs, cs, states, ro, co, outputs, rn, cn, initial⟩ := p
  simp only [szP] at h
  simp only at m0 m1 m2 m3 m4 m5
  have m : code.length ≤ 9223372036854775807 ∧ types.length ≤ 9223372036854775807 ∧ curves.length ≤ 9223372036854775807 ∧ maps.length ≤ 9223372036854775807 ∧ states.length ≤ 9223372036854775807 ∧ initial.length ≤ 9223372036854775807 := ⟨by omega, by omega, by omega, by omega, by omega, by omega⟩
  simp only [PV.val]
  by_cases h0 : code.length ≤ 4000
  rotate_left
  · exact mv_sz0 rc cc code rt ct types rv cv curves rm cm maps cells ri ci inputs rs cs states ro co outputs rn cn initial  h0 m w
  by_cases h1 : types.length ≤ 100
  rotate_left
  · exact mv_sz1 rc cc code rt ct types rv cv curves rm cm maps cells ri ci inputs rs cs states ro co outputs rn cn initial h0 h1 m w
  by_cases h2 : curves.length ≤ 100
  rotate_left
  · exact mv_sz2 rc cc code rt ct types rv cv curves rm cm maps cells ri ci inputs rs cs states ro co outputs rn cn initial h0 h1 h2 m w
  by_cases h3 : maps.length ≤ 100
  rotate_left
  · exact mv_sz3 rc cc code rt ct types rv cv curves rm cm maps cells ri ci inputs rs cs states ro co outputs rn cn initial h0 h1 h2 h3 m w
  by_cases h4 : 0 ≤ cells
  rotate_left
  · exact mv_sz4 rc cc code rt ct types rv cv curves rm cm maps cells ri ci inputs rs cs states ro co outputs rn cn initial h0 h1 h2 h3 h4 m w
  by_cases h5 : cells ≤ 1000
  rotate_left
  · exact mv_sz5 rc cc code rt ct types rv cv curves rm cm maps cells ri ci inputs rs cs states ro co outputs rn cn initial h0 h1 h2 h3 h4 h5 m w
  exact mv_sz6 rc cc code rt ct types rv cv curves rm cm maps cells ri ci inputs rs cs states ro co outputs rn cn initial h0 h1 h2 h3 h4 h5 (fun h6 => h ⟨h0, h1, h2, h3, h4, h5, h6⟩) m w
end Go.Proofs.Ytfooefiaenlhmaa
