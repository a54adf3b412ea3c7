/- Lemmas for the laws of package magnetolaw15: Whether everything that an instruction names exists. Whether an instruction fits a program. The reader of package image: take, int, count. The reference's body of any program. The reader of package image: list; machine.Decode. A slice of integers that a call made itself: what it owns, and append's step. No statement about the program. A slice of structs that a call made itself: what it owns, and append's step. No statement about the program. Slices of structs that a call made itself: append, and what stays; lists that lie beside a growing slice. No statement about the program. -/
import Derived.Test.YtfooefiaenlhmaaGX1
import Derived.Test.YtfooefiaenlhmaaGX2
import Derived.Test.YtfooefiaenlhmaaGX4
import Derived.Test.YtfooefiaenlhmaaGX5
import Derived.Test.YtfooefiaenlhmaaGX6
import Derived.Test.YtfooefiaenlhmaaGX7
import Derived.Deep.RegionHeld3
import Derived.Deep.AppendLies
import Derived.OwnWalk
namespace Go.Proofs.Ytfooefiaenlhmaa
set_option linter.unusedVariables false
set_option linter.unusedSimpArgs false
open Go.RowKit Go.ChangeShapes Go.WideShapes Go.ChangeAt

def tA (k : Int) : Nat := (k / 16384).toNat
def tB (k : Int) : Nat := (k / 128 % 128).toNat
def tT (k : Int) : Nat := (k % 128).toNat
/-- The types that an instruction names exist. -/
def okT (n : Nat) (op k : Int) : Bool := decide (tA k < n) && ((decide (op = 9 ∨ op = 10) || decide (tB k < n)) && (decide (op = 13 ∨ op = 14) || decide (tT k < n)))
def tyB (types : List Fx) (op k : Int) : Fx := if op = 9 ∨ op = 10 then default else types.getD (tB k) default
def tyT (types : List Fx) (op k : Int) : Fx := if op = 13 ∨ op = 14 then default else types.getD (tT k) default
def fitB (cells : Int) (nv nm : Nat) (types : List Fx) (i : Ins) : Bool :=
  formB i.op i.a i.b i.c i.k && (
    if i.op = 2 ∨ i.op = 3 then decide (i.k < cells)
    else if i.op = 20 then decide (i.k < nv)
    else if i.op = 21 then decide (i.k < nm)
    else if i.op = 22 then decide (i.k / 32 + 1 < cells)
    else if typB i.op = true then okT types.length i.op i.k && unitsB i.op (types.getD (tA i.k) default) (tyB types i.op i.k) (tyT types i.op i.k)
    else true)
theorem tAs {k : Int} (h : 0 ≤ k) : k / 16384 = (tA k : Int) ∧ k / 128 % 128 = (tB k : Int) ∧ k % 128 = (tT k : Int) := by
  unfold tA tB tT
  omega
theorem ty_bad (rc : Option Addr) (lc cc : Nat) (rt : Option Addr) (ct : Nat) (types : List Fx) (rv : Option Addr) (lv cv : Nat) (rm : Option Addr) (lm cm : Nat) (cells : Int) (ri : Option Addr) (li ci : Nat) (rs : Option Addr) (ls cs : Nat) (ro : Option Addr) (lo co : Nat) (rn : Option Addr) (ln cn : Nat) (op a b c k : Int) (hk : I64 k) (h0 : 0 ≤ k) (hok : okT types.length op k = false) (w : World) (hS : IsS 10 Fx.enc w rt ct types) : Calls Try.prog 107 #[.agg #[.slice rc lc cc, .slice rt types.length ct, .slice rv lv cv, .slice rm lm cm, .int .i64 cells, .slice ri li ci, .slice rs ls cs, .slice ro lo co, .slice rn ln cn], .agg #[.int .i64 op, .int .i64 a, .int .i64 b, .int .i64 c, .int .i64 k]] w fun e w' => e = .returned (.tuple #[.agg #[.int .i64 0, .bool false, .int .i64 0, .int .i64 0, .int .i64 0, .int .i64 0, .int .i64 0, .int .i64 0, .int .i64 0, .int .i64 0], .agg #[.int .i64 0, .bool false, .int .i64 0, .int .i64 0, .int .i64 0, .int .i64 0, .int .i64 0, .int .i64 0, .int .i64 0, .int .i64 0], .agg #[.int .i64 0, .bool false, .int .i64 0, .int .i64 0, .int .i64 0, .int .i64 0, .int .i64 0, .int .i64 0, .int .i64 0, .int .i64 0], .bool false]) ∧ Below w.heap.size w w' := by
  obtain ⟨e1, e2, e3⟩ := tAs h0
  by_cases ha : tA k < types.length
  · by_cases o9 : op = 9
    · subst o9
      exact ty_9_t rc lc cc rt ct types rv lv cv rm lm cm cells ri li ci rs ls cs ro lo co rn ln cn a b c k (tA k) (tB k) (tT k) hk e1 e2 e3 ha (by unfold okT at hok; simp at hok; omega) w hS
    by_cases o10 : op = 10
    · subst o10
      exact ty_10_t rc lc cc rt ct types rv lv cv rm lm cm cells ri li ci rs ls cs ro lo co rn ln cn a b c k (tA k) (tB k) (tT k) hk e1 e2 e3 ha (by unfold okT at hok; simp at hok; omega) w hS
    by_cases o13 : op = 13
    · subst o13
      by_cases hb : tB k < types.length
      · exfalso
        have hh := hok
        unfold okT at hh
        simp at hh
        omega
      exact ty_13_b rc lc cc rt ct types rv lv cv rm lm cm cells ri li ci rs ls cs ro lo co rn ln cn a b c k (tA k) (tB k) (tT k) hk e1 e2 e3 ha (by omega) w hS
    by_cases o14 : op = 14
    · subst o14
      by_cases hb : tB k < types.length
      · exfalso
        have hh := hok
        unfold okT at hh
        simp at hh
        omega
      exact ty_14_b rc lc cc rt ct types rv lv cv rm lm cm cells ri li ci rs ls cs ro lo co rn ln cn a b c k (tA k) (tB k) (tT k) hk e1 e2 e3 ha (by omega) w hS
    by_cases hb : tB k < types.length
    · exact ty_n_t rc lc cc rt ct types rv lv cv rm lm cm cells ri li ci rs ls cs ro lo co rn ln cn op a b c k (tA k) (tB k) (tT k) hk e1 e2 e3 o9 o10 o13 o14 ha hb (by unfold okT at hok; simp at hok; omega) w hS
    exact ty_n_b rc lc cc rt ct types rv lv cv rm lm cm cells ri li ci rs ls cs ro lo co rn ln cn op a b c k (tA k) (tB k) (tT k) hk e1 e2 e3 o9 o10 o13 o14 ha (by omega) w hS
  by_cases o9 : op = 9
  · subst o9
    exact ty_9_a rc lc cc rt ct types rv lv cv rm lm cm cells ri li ci rs ls cs ro lo co rn ln cn a b c k (tA k) (tB k) (tT k) hk e1 e2 e3 (by omega) w hS
  by_cases o10 : op = 10
  · subst o10
    exact ty_10_a rc lc cc rt ct types rv lv cv rm lm cm cells ri li ci rs ls cs ro lo co rn ln cn a b c k (tA k) (tB k) (tT k) hk e1 e2 e3 (by omega) w hS
  by_cases o13 : op = 13
  · subst o13
    exact ty_13_a rc lc cc rt ct types rv lv cv rm lm cm cells ri li ci rs ls cs ro lo co rn ln cn a b c k (tA k) (tB k) (tT k) hk e1 e2 e3 (by omega) w hS
  by_cases o14 : op = 14
  · subst o14
    exact ty_14_a rc lc cc rt ct types rv lv cv rm lm cm cells ri li ci rs ls cs ro lo co rn ln cn a b c k (tA k) (tB k) (tT k) hk e1 e2 e3 (by omega) w hS
  exact ty_n_a rc lc cc rt ct types rv lv cv rm lm cm cells ri li ci rs ls cs ro lo co rn ln cn op a b c k (tA k) (tB k) (tT k) hk e1 e2 e3 o9 o10 o13 o14 (by omega) w hS
theorem ty_ok (rc : Option Addr) (lc cc : Nat) (rt : Option Addr) (ct : Nat) (types : List Fx) (rv : Option Addr) (lv cv : Nat) (rm : Option Addr) (lm cm : Nat) (cells : Int) (ri : Option Addr) (li ci : Nat) (rs : Option Addr) (ls cs : Nat) (ro : Option Addr) (lo co : Nat) (rn : Option Addr) (ln cn : Nat) (op a b c k : Int) (hk : I64 k) (h0 : 0 ≤ k) (hok : okT types.length op k = true) (w : World) (hS : IsS 10 Fx.enc w rt ct types) : Calls Try.prog 107 #[.agg #[.slice rc lc cc, .slice rt types.length ct, .slice rv lv cv, .slice rm lm cm, .int .i64 cells, .slice ri li ci, .slice rs ls cs, .slice ro lo co, .slice rn ln cn], .agg #[.int .i64 op, .int .i64 a, .int .i64 b, .int .i64 c, .int .i64 k]] w fun e w' => e = .returned (.tuple #[.agg #[.int .i64 (types.getD (tA k) default).bits, .bool (types.getD (tA k) default).sg, .int .i64 (types.getD (tA k) default).num, .int .i64 (types.getD (tA k) default).off, .int .i64 (types.getD (tA k) default).den, .int .i64 (types.getD (tA k) default).m, .int .i64 (types.getD (tA k) default).kg, .int .i64 (types.getD (tA k) default).s, .int .i64 (types.getD (tA k) default).a, .int .i64 (types.getD (tA k) default).k], .agg #[.int .i64 (tyB types op k).bits, .bool (tyB types op k).sg, .int .i64 (tyB types op k).num, .int .i64 (tyB types op k).off, .int .i64 (tyB types op k).den, .int .i64 (tyB types op k).m, .int .i64 (tyB types op k).kg, .int .i64 (tyB types op k).s, .int .i64 (tyB types op k).a, .int .i64 (tyB types op k).k], .agg #[.int .i64 (tyT types op k).bits, .bool (tyT types op k).sg, .int .i64 (tyT types op k).num, .int .i64 (tyT types op k).off, .int .i64 (tyT types op k).den, .int .i64 (tyT types op k).m, .int .i64 (tyT types op k).kg, .int .i64 (tyT types op k).s, .int .i64 (tyT types op k).a, .int .i64 (tyT types op k).k], .bool true]) ∧ Below w.heap.size w w' := by
  obtain ⟨e1, e2, e3⟩ := tAs h0
  have ha : tA k < types.length := by unfold okT at hok; simp at hok; omega
  by_cases o9 : op = 9
  · subst o9
    have ht : tT k < types.length := by unfold okT at hok; simp at hok; omega
    have h := ty_9_ok rc lc cc rt ct types rv lv cv rm lm cm cells ri li ci rs ls cs ro lo co rn ln cn a b c k (tA k) (tB k) (tT k) hk e1 e2 e3 ha ht w hS
    rw [show tyB types 9 k = default by unfold tyB; simp, show tyT types 9 k = types.getD (tT k) default by unfold tyT; simp]
    exact h
  by_cases o10 : op = 10
  · subst o10
    have ht : tT k < types.length := by unfold okT at hok; simp at hok; omega
    have h := ty_10_ok rc lc cc rt ct types rv lv cv rm lm cm cells ri li ci rs ls cs ro lo co rn ln cn a b c k (tA k) (tB k) (tT k) hk e1 e2 e3 ha ht w hS
    rw [show tyB types 10 k = default by unfold tyB; simp, show tyT types 10 k = types.getD (tT k) default by unfold tyT; simp]
    exact h
  by_cases o13 : op = 13
  · subst o13
    have hb : tB k < types.length := by unfold okT at hok; simp at hok; omega
    have h := ty_13_ok rc lc cc rt ct types rv lv cv rm lm cm cells ri li ci rs ls cs ro lo co rn ln cn a b c k (tA k) (tB k) (tT k) hk e1 e2 e3 ha hb w hS
    rw [show tyB types 13 k = types.getD (tB k) default by unfold tyB; simp, show tyT types 13 k = default by unfold tyT; simp]
    exact h
  by_cases o14 : op = 14
  · subst o14
    have hb : tB k < types.length := by unfold okT at hok; simp at hok; omega
    have h := ty_14_ok rc lc cc rt ct types rv lv cv rm lm cm cells ri li ci rs ls cs ro lo co rn ln cn a b c k (tA k) (tB k) (tT k) hk e1 e2 e3 ha hb w hS
    rw [show tyB types 14 k = types.getD (tB k) default by unfold tyB; simp, show tyT types 14 k = default by unfold tyT; simp]
    exact h
  have hb : tB k < types.length := by unfold okT at hok; simp at hok; omega
  have ht : tT k < types.length := by unfold okT at hok; simp at hok; omega
  have h := ty_n_ok rc lc cc rt ct types rv lv cv rm lm cm cells ri li ci rs ls cs ro lo co rn ln cn op a b c k (tA k) (tB k) (tT k) hk e1 e2 e3 o9 o10 o13 o14 ha hb ht w hS
  rw [show tyB types op k = types.getD (tB k) default by unfold tyB; simp [o9, o10], show tyT types op k = types.getD (tT k) default by unfold tyT; simp [o13, o14]]
  exact h
end Go.Proofs.Ytfooefiaenlhmaa
namespace Go.Proofs.Ytfooefiaenlhmaa
set_option linter.unusedVariables false
set_option linter.unusedSimpArgs false
open Go.RowKit Go.ChangeShapes Go.WideShapes Go.ChangeAt

theorem formed_v {op a b c k : Int} {v : Bool} (hk : I64 k) (h : formB op a b c k = v) (w : World) : Calls Try.prog 105 #[.agg #[.int .i64 op, .int .i64 a, .int .i64 b, .int .i64 c, .int .i64 k]] w fun e w' => e = .returned (.bool v) ∧ Below w.heap.size w w' := by
  subst h
  exact formed_any op a b c k hk w
theorem form_k {op a b c k : Int} (h : formB op a b c k = true) (ht : typB op = true) : 0 ≤ k := by
  unfold formB at h
  simp only [Bool.and_eq_true] at h
  obtain ⟨_, _, _, _, h⟩ := h
  split at h
  · unfold kOk at h
    have h5 := ht
    unfold typB at h5
    simp at h5
    repeat' split at h
    all_goals first | omega | (simp at h; omega)
  · simp at h; omega
set_option maxRecDepth 100000 in
set_option maxHeartbeats 4000000 in
theorem fi_bad (rc : Option Addr) (lc cc : Nat) (rt : Option Addr) (ct : Nat) (types : List Fx) (rv : Option Addr) (lv cv : Nat) (rm : Option Addr) (lm cm : Nat) (cells : Int) (ri : Option Addr) (li ci : Nat) (rs : Option Addr) (ls cs : Nat) (ro : Option Addr) (lo co : Nat) (rn : Option Addr) (ln cn : Nat) (op a b c k : Int) (hk : I64 k) (hf : formB op a b c k = false) (w : World) (hS : IsS 10 Fx.enc w rt ct types) : Calls Try.prog 67 #[.agg #[.slice rc lc cc, .slice rt types.length ct, .slice rv lv cv, .slice rm lm cm, .int .i64 cells, .slice ri li ci, .slice rs ls cs, .slice ro lo co, .slice rn ln cn], .agg #[.int .i64 op, .int .i64 a, .int .i64 b, .int .i64 c, .int .i64 k]] w fun e w' => e = .returned (.bool (false)) ∧ Below w.heap.size w w' := by
  have HF : Hid (formB op a b c k = false) := Lib.hid hf
  clear hf
  go_enter Try.func67, Try.ntmps67
  go_wp2_with (first | (go_at_call 105; refine (formed_v hk HF.out _).mono ?_; rintro _ w1 ⟨rfl, hb1⟩; obtain ⟨hb1c, hb1f⟩ := bcell hb1; have hb1s := hb1.size; (try simp only [World.size_alloc] at hb1s); have hx0 : w.heap.size < w1.heap.size := (by omega); have hx1 : w.heap.size + 1 < w1.heap.size := (by omega)))
  all_goals go_ret
  all_goals exact ⟨by first | rfl | (simp [*]; done), by (repeat' (first | (with_reducible exact Below.refl _ _) | (with_reducible assumption) | (with_reducible refine below_alloc ?_ _) | (with_reducible refine Below.drew ?_) | (with_reducible refine below_drewN ?_ _) | (with_reducible refine below_step (by assumption) ?_) | (with_reducible refine below_later ?_ _) | (with_reducible refine Below.setCell ?_ ?_ _) | go_size))⟩
set_option maxRecDepth 100000 in
set_option maxHeartbeats 4000000 in
theorem fi_2 (rc : Option Addr) (lc cc : Nat) (rt : Option Addr) (ct : Nat) (types : List Fx) (rv : Option Addr) (lv cv : Nat) (rm : Option Addr) (lm cm : Nat) (cells : Int) (ri : Option Addr) (li ci : Nat) (rs : Option Addr) (ls cs : Nat) (ro : Option Addr) (lo co : Nat) (rn : Option Addr) (ln cn : Nat) (a b c k : Int) (hk : I64 k) (hf : formB 2 a b c k = true) (w : World) (hS : IsS 10 Fx.enc w rt ct types) : Calls Try.prog 67 #[.agg #[.slice rc lc cc, .slice rt types.length ct, .slice rv lv cv, .slice rm lm cm, .int .i64 cells, .slice ri li ci, .slice rs ls cs, .slice ro lo co, .slice rn ln cn], .agg #[.int .i64 2, .int .i64 a, .int .i64 b, .int .i64 c, .int .i64 k]] w fun e w' => e = .returned (.bool (decide (k < cells))) ∧ Below w.heap.size w w' := by
  have HF : Hid (formB 2 a b c k = true) := Lib.hid hf
  clear hf
  go_enter Try.func67, Try.ntmps67
  go_wp2_with (first | (go_at_call 105; refine (formed_v hk HF.out _).mono ?_; rintro _ w1 ⟨rfl, hb1⟩; obtain ⟨hb1c, hb1f⟩ := bcell hb1; have hb1s := hb1.size; (try simp only [World.size_alloc] at hb1s); have hx0 : w.heap.size < w1.heap.size := (by omega); have hx1 : w.heap.size + 1 < w1.heap.size := (by omega)))
  all_goals go_ret
  all_goals exact ⟨by first | rfl | (simp [*]; done), by (repeat' (first | (with_reducible exact Below.refl _ _) | (with_reducible assumption) | (with_reducible refine below_alloc ?_ _) | (with_reducible refine Below.drew ?_) | (with_reducible refine below_drewN ?_ _) | (with_reducible refine below_step (by assumption) ?_) | (with_reducible refine below_later ?_ _) | (with_reducible refine Below.setCell ?_ ?_ _) | go_size))⟩
set_option maxRecDepth 100000 in
set_option maxHeartbeats 4000000 in
theorem fi_3 (rc : Option Addr) (lc cc : Nat) (rt : Option Addr) (ct : Nat) (types : List Fx) (rv : Option Addr) (lv cv : Nat) (rm : Option Addr) (lm cm : Nat) (cells : Int) (ri : Option Addr) (li ci : Nat) (rs : Option Addr) (ls cs : Nat) (ro : Option Addr) (lo co : Nat) (rn : Option Addr) (ln cn : Nat) (a b c k : Int) (hk : I64 k) (hf : formB 3 a b c k = true) (w : World) (hS : IsS 10 Fx.enc w rt ct types) : Calls Try.prog 67 #[.agg #[.slice rc lc cc, .slice rt types.length ct, .slice rv lv cv, .slice rm lm cm, .int .i64 cells, .slice ri li ci, .slice rs ls cs, .slice ro lo co, .slice rn ln cn], .agg #[.int .i64 3, .int .i64 a, .int .i64 b, .int .i64 c, .int .i64 k]] w fun e w' => e = .returned (.bool (decide (k < cells))) ∧ Below w.heap.size w w' := by
  have HF : Hid (formB 3 a b c k = true) := Lib.hid hf
  clear hf
  go_enter Try.func67, Try.ntmps67
  go_wp2_with (first | (go_at_call 105; refine (formed_v hk HF.out _).mono ?_; rintro _ w1 ⟨rfl, hb1⟩; obtain ⟨hb1c, hb1f⟩ := bcell hb1; have hb1s := hb1.size; (try simp only [World.size_alloc] at hb1s); have hx0 : w.heap.size < w1.heap.size := (by omega); have hx1 : w.heap.size + 1 < w1.heap.size := (by omega)))
  all_goals go_ret
  all_goals exact ⟨by first | rfl | (simp [*]; done), by (repeat' (first | (with_reducible exact Below.refl _ _) | (with_reducible assumption) | (with_reducible refine below_alloc ?_ _) | (with_reducible refine Below.drew ?_) | (with_reducible refine below_drewN ?_ _) | (with_reducible refine below_step (by assumption) ?_) | (with_reducible refine below_later ?_ _) | (with_reducible refine Below.setCell ?_ ?_ _) | go_size))⟩
set_option maxRecDepth 100000 in
set_option maxHeartbeats 4000000 in
theorem fi_20 (rc : Option Addr) (lc cc : Nat) (rt : Option Addr) (ct : Nat) (types : List Fx) (rv : Option Addr) (lv cv : Nat) (rm : Option Addr) (lm cm : Nat) (cells : Int) (ri : Option Addr) (li ci : Nat) (rs : Option Addr) (ls cs : Nat) (ro : Option Addr) (lo co : Nat) (rn : Option Addr) (ln cn : Nat) (a b c k : Int) (hk : I64 k) (hf : formB 20 a b c k = true) (w : World) (hS : IsS 10 Fx.enc w rt ct types) : Calls Try.prog 67 #[.agg #[.slice rc lc cc, .slice rt types.length ct, .slice rv lv cv, .slice rm lm cm, .int .i64 cells, .slice ri li ci, .slice rs ls cs, .slice ro lo co, .slice rn ln cn], .agg #[.int .i64 20, .int .i64 a, .int .i64 b, .int .i64 c, .int .i64 k]] w fun e w' => e = .returned (.bool (decide (k < lv))) ∧ Below w.heap.size w w' := by
  have HF : Hid (formB 20 a b c k = true) := Lib.hid hf
  clear hf
  go_enter Try.func67, Try.ntmps67
  go_wp2_with (first | (go_at_call 105; refine (formed_v hk HF.out _).mono ?_; rintro _ w1 ⟨rfl, hb1⟩; obtain ⟨hb1c, hb1f⟩ := bcell hb1; have hb1s := hb1.size; (try simp only [World.size_alloc] at hb1s); have hx0 : w.heap.size < w1.heap.size := (by omega); have hx1 : w.heap.size + 1 < w1.heap.size := (by omega)))
  all_goals go_ret
  all_goals exact ⟨by first | rfl | (simp [*]; done), by (repeat' (first | (with_reducible exact Below.refl _ _) | (with_reducible assumption) | (with_reducible refine below_alloc ?_ _) | (with_reducible refine Below.drew ?_) | (with_reducible refine below_drewN ?_ _) | (with_reducible refine below_step (by assumption) ?_) | (with_reducible refine below_later ?_ _) | (with_reducible refine Below.setCell ?_ ?_ _) | go_size))⟩
set_option maxRecDepth 100000 in
set_option maxHeartbeats 4000000 in
theorem fi_21 (rc : Option Addr) (lc cc : Nat) (rt : Option Addr) (ct : Nat) (types : List Fx) (rv : Option Addr) (lv cv : Nat) (rm : Option Addr) (lm cm : Nat) (cells : Int) (ri : Option Addr) (li ci : Nat) (rs : Option Addr) (ls cs : Nat) (ro : Option Addr) (lo co : Nat) (rn : Option Addr) (ln cn : Nat) (a b c k : Int) (hk : I64 k) (hf : formB 21 a b c k = true) (w : World) (hS : IsS 10 Fx.enc w rt ct types) : Calls Try.prog 67 #[.agg #[.slice rc lc cc, .slice rt types.length ct, .slice rv lv cv, .slice rm lm cm, .int .i64 cells, .slice ri li ci, .slice rs ls cs, .slice ro lo co, .slice rn ln cn], .agg #[.int .i64 21, .int .i64 a, .int .i64 b, .int .i64 c, .int .i64 k]] w fun e w' => e = .returned (.bool (decide (k < lm))) ∧ Below w.heap.size w w' := by
  have HF : Hid (formB 21 a b c k = true) := Lib.hid hf
  clear hf
  go_enter Try.func67, Try.ntmps67
  go_wp2_with (first | (go_at_call 105; refine (formed_v hk HF.out _).mono ?_; rintro _ w1 ⟨rfl, hb1⟩; obtain ⟨hb1c, hb1f⟩ := bcell hb1; have hb1s := hb1.size; (try simp only [World.size_alloc] at hb1s); have hx0 : w.heap.size < w1.heap.size := (by omega); have hx1 : w.heap.size + 1 < w1.heap.size := (by omega)))
  all_goals go_ret
  all_goals exact ⟨by first | rfl | (simp [*]; done), by (repeat' (first | (with_reducible exact Below.refl _ _) | (with_reducible assumption) | (with_reducible refine below_alloc ?_ _) | (with_reducible refine Below.drew ?_) | (with_reducible refine below_drewN ?_ _) | (with_reducible refine below_step (by assumption) ?_) | (with_reducible refine below_later ?_ _) | (with_reducible refine Below.setCell ?_ ?_ _) | go_size))⟩
set_option maxRecDepth 100000 in
set_option maxHeartbeats 4000000 in
theorem fi_22 (rc : Option Addr) (lc cc : Nat) (rt : Option Addr) (ct : Nat) (types : List Fx) (rv : Option Addr) (lv cv : Nat) (rm : Option Addr) (lm cm : Nat) (cells : Int) (ri : Option Addr) (li ci : Nat) (rs : Option Addr) (ls cs : Nat) (ro : Option Addr) (lo co : Nat) (rn : Option Addr) (ln cn : Nat) (a b c k : Int) (hk : I64 k) (hf : formB 22 a b c k = true) (w : World) (hS : IsS 10 Fx.enc w rt ct types) : Calls Try.prog 67 #[.agg #[.slice rc lc cc, .slice rt types.length ct, .slice rv lv cv, .slice rm lm cm, .int .i64 cells, .slice ri li ci, .slice rs ls cs, .slice ro lo co, .slice rn ln cn], .agg #[.int .i64 22, .int .i64 a, .int .i64 b, .int .i64 c, .int .i64 k]] w fun e w' => e = .returned (.bool (decide (k / 32 + 1 < cells))) ∧ Below w.heap.size w w' := by
  have hw : IntKind.i64.wrap (k / 32 + 1) = k / 32 + 1 := IntWalk.i64_in _ (by have := I64.bd hk; omega)
  have HF : Hid (formB 22 a b c k = true) := Lib.hid hf
  clear hf
  go_enter Try.func67, Try.ntmps67
  go_wp2_with (first | (go_at_call 105; refine (formed_v hk HF.out _).mono ?_; rintro _ w1 ⟨rfl, hb1⟩; obtain ⟨hb1c, hb1f⟩ := bcell hb1; have hb1s := hb1.size; (try simp only [World.size_alloc] at hb1s); have hx0 : w.heap.size < w1.heap.size := (by omega); have hx1 : w.heap.size + 1 < w1.heap.size := (by omega)))
  all_goals go_ret
  all_goals exact ⟨by first | rfl | (simp [*]; done), by (repeat' (first | (with_reducible exact Below.refl _ _) | (with_reducible assumption) | (with_reducible refine below_alloc ?_ _) | (with_reducible refine Below.drew ?_) | (with_reducible refine below_drewN ?_ _) | (with_reducible refine below_step (by assumption) ?_) | (with_reducible refine below_later ?_ _) | (with_reducible refine Below.setCell ?_ ?_ _) | go_size))⟩
set_option maxRecDepth 100000 in
set_option maxHeartbeats 4000000 in
theorem fi_o (rc : Option Addr) (lc cc : Nat) (rt : Option Addr) (ct : Nat) (types : List Fx) (rv : Option Addr) (lv cv : Nat) (rm : Option Addr) (lm cm : Nat) (cells : Int) (ri : Option Addr) (li ci : Nat) (rs : Option Addr) (ls cs : Nat) (ro : Option Addr) (lo co : Nat) (rn : Option Addr) (ln cn : Nat) (op a b c k : Int) (hk : I64 k) (n2 : ¬ op = 2) (n3 : ¬ op = 3) (n20 : ¬ op = 20) (n21 : ¬ op = 21) (n22 : ¬ op = 22) (ht : typB op = false) (hf : formB op a b c k = true) (w : World) (hS : IsS 10 Fx.enc w rt ct types) : Calls Try.prog 67 #[.agg #[.slice rc lc cc, .slice rt types.length ct, .slice rv lv cv, .slice rm lm cm, .int .i64 cells, .slice ri li ci, .slice rs ls cs, .slice ro lo co, .slice rn ln cn], .agg #[.int .i64 op, .int .i64 a, .int .i64 b, .int .i64 c, .int .i64 k]] w fun e w' => e = .returned (.bool (true)) ∧ Below w.heap.size w w' := by
  have e2 : (op == 2) = false := by simp [n2]
  have e3 : (op == 3) = false := by simp [n3]
  have e20 : (op == 20) = false := by simp [n20]
  have e21 : (op == 21) = false := by simp [n21]
  have e22 : (op == 22) = false := by simp [n22]
  have HT := Lib.hid ht
  clear ht
  have HF : Hid (formB op a b c k = true) := Lib.hid hf
  clear hf
  go_enter Try.func67, Try.ntmps67
  go_wp2_with (first | (go_at_call 105; refine (formed_v hk HF.out _).mono ?_; rintro _ w1 ⟨rfl, hb1⟩; obtain ⟨hb1c, hb1f⟩ := bcell hb1; have hb1s := hb1.size; (try simp only [World.size_alloc] at hb1s); have hx0 : w.heap.size < w1.heap.size := (by omega); have hx1 : w.heap.size + 1 < w1.heap.size := (by omega)) | (go_at_call 106; refine (typed_v HT.out _).mono ?_; rintro e w' ⟨rfl, rfl⟩))
  all_goals go_ret
  all_goals exact ⟨by first | rfl | (simp [*]; done), by (repeat' (first | (with_reducible exact Below.refl _ _) | (with_reducible assumption) | (with_reducible refine below_alloc ?_ _) | (with_reducible refine Below.drew ?_) | (with_reducible refine below_drewN ?_ _) | (with_reducible refine below_step (by assumption) ?_) | (with_reducible refine below_later ?_ _) | (with_reducible refine Below.setCell ?_ ?_ _) | go_size))⟩
set_option maxRecDepth 100000 in
set_option maxHeartbeats 4000000 in
theorem fi_tb (rc : Option Addr) (lc cc : Nat) (rt : Option Addr) (ct : Nat) (types : List Fx) (rv : Option Addr) (lv cv : Nat) (rm : Option Addr) (lm cm : Nat) (cells : Int) (ri : Option Addr) (li ci : Nat) (rs : Option Addr) (ls cs : Nat) (ro : Option Addr) (lo co : Nat) (rn : Option Addr) (ln cn : Nat) (op a b c k : Int) (hk : I64 k) (n2 : ¬ op = 2) (n3 : ¬ op = 3) (n20 : ¬ op = 20) (n21 : ¬ op = 21) (n22 : ¬ op = 22) (ht : typB op = true) (h0 : 0 ≤ k) (hf : formB op a b c k = true) (hok : okT types.length op k = false) (w : World) (hS : IsS 10 Fx.enc w rt ct types) : Calls Try.prog 67 #[.agg #[.slice rc lc cc, .slice rt types.length ct, .slice rv lv cv, .slice rm lm cm, .int .i64 cells, .slice ri li ci, .slice rs ls cs, .slice ro lo co, .slice rn ln cn], .agg #[.int .i64 op, .int .i64 a, .int .i64 b, .int .i64 c, .int .i64 k]] w fun e w' => e = .returned (.bool (false)) ∧ Below w.heap.size w w' := by
  have e2 : (op == 2) = false := by simp [n2]
  have e3 : (op == 3) = false := by simp [n3]
  have e20 : (op == 20) = false := by simp [n20]
  have e21 : (op == 21) = false := by simp [n21]
  have e22 : (op == 22) = false := by simp [n22]
  have HT := Lib.hid ht
  have HTY : Hid (∀ W, Below w.heap.size w W → Calls Try.prog 107 #[.agg #[.slice rc lc cc, .slice rt types.length ct, .slice rv lv cv, .slice rm lm cm, .int .i64 cells, .slice ri li ci, .slice rs ls cs, .slice ro lo co, .slice rn ln cn], .agg #[.int .i64 op, .int .i64 a, .int .i64 b, .int .i64 c, .int .i64 k]] W fun e w' => e = .returned (.tuple #[.agg #[.int .i64 0, .bool false, .int .i64 0, .int .i64 0, .int .i64 0, .int .i64 0, .int .i64 0, .int .i64 0, .int .i64 0, .int .i64 0], .agg #[.int .i64 0, .bool false, .int .i64 0, .int .i64 0, .int .i64 0, .int .i64 0, .int .i64 0, .int .i64 0, .int .i64 0, .int .i64 0], .agg #[.int .i64 0, .bool false, .int .i64 0, .int .i64 0, .int .i64 0, .int .i64 0, .int .i64 0, .int .i64 0, .int .i64 0, .int .i64 0], .bool false]) ∧ Below W.heap.size W w') := Lib.hid (fun W hW => ty_bad rc lc cc rt ct types rv lv cv rm lm cm cells ri li ci rs ls cs ro lo co rn ln cn op a b c k hk h0 hok W (hS.later hW))
  clear ht hS
  have HF : Hid (formB op a b c k = true) := Lib.hid hf
  clear hf
  go_enter Try.func67, Try.ntmps67
  go_wp2_with (first | (go_at_call 105; refine (formed_v hk HF.out _).mono ?_; rintro _ w1 ⟨rfl, hb1⟩; obtain ⟨hb1c, hb1f⟩ := bcell hb1; have hb1s := hb1.size; (try simp only [World.size_alloc] at hb1s); have hx0 : w.heap.size < w1.heap.size := (by omega); have hx1 : w.heap.size + 1 < w1.heap.size := (by omega)) | (go_at_call 106; refine (typed_v HT.out _).mono ?_; rintro e w' ⟨rfl, rfl⟩) | (go_at_call 107; refine (HTY.out _ (by (repeat' (first | (with_reducible exact Below.refl _ _) | (with_reducible assumption) | (with_reducible refine below_alloc ?_ _) | (with_reducible refine Below.drew ?_) | (with_reducible refine below_drewN ?_ _) | (with_reducible refine below_step (by assumption) ?_) | (with_reducible refine below_later ?_ _) | (with_reducible refine Below.setCell ?_ ?_ _) | go_size)))).mono ?_; rintro _ w2 ⟨rfl, hb2⟩; obtain ⟨hb2c, hb2f⟩ := bcell hb2; have hb2s := hb2.size; have hy0 : w.heap.size < w2.heap.size := (by omega); have hy1 : w.heap.size + 1 < w2.heap.size := (by omega)))
  all_goals go_ret
  all_goals exact ⟨by first | rfl | (simp [*]; done), by (repeat' (first | (with_reducible exact Below.refl _ _) | (with_reducible assumption) | (with_reducible refine below_alloc ?_ _) | (with_reducible refine Below.drew ?_) | (with_reducible refine below_drewN ?_ _) | (with_reducible refine below_step (by assumption) ?_) | (with_reducible refine below_later ?_ _) | (with_reducible refine Below.setCell ?_ ?_ _) | go_size))⟩
set_option maxRecDepth 100000 in
set_option maxHeartbeats 4000000 in
theorem fi_tk (rc : Option Addr) (lc cc : Nat) (rt : Option Addr) (ct : Nat) (types : List Fx) (rv : Option Addr) (lv cv : Nat) (rm : Option Addr) (lm cm : Nat) (cells : Int) (ri : Option Addr) (li ci : Nat) (rs : Option Addr) (ls cs : Nat) (ro : Option Addr) (lo co : Nat) (rn : Option Addr) (ln cn : Nat) (op a b c k : Int) (hk : I64 k) (n2 : ¬ op = 2) (n3 : ¬ op = 3) (n20 : ¬ op = 20) (n21 : ¬ op = 21) (n22 : ¬ op = 22) (ht : typB op = true) (h0 : 0 ≤ k) (hf : formB op a b c k = true) (hok : okT types.length op k = true) (w : World) (hS : IsS 10 Fx.enc w rt ct types) : Calls Try.prog 67 #[.agg #[.slice rc lc cc, .slice rt types.length ct, .slice rv lv cv, .slice rm lm cm, .int .i64 cells, .slice ri li ci, .slice rs ls cs, .slice ro lo co, .slice rn ln cn], .agg #[.int .i64 op, .int .i64 a, .int .i64 b, .int .i64 c, .int .i64 k]] w fun e w' => e = .returned (.bool (unitsB op (types.getD (tA k) default) (tyB types op k) (tyT types op k))) ∧ Below w.heap.size w w' := by
  have e2 : (op == 2) = false := by simp [n2]
  have e3 : (op == 3) = false := by simp [n3]
  have e20 : (op == 20) = false := by simp [n20]
  have e21 : (op == 21) = false := by simp [n21]
  have e22 : (op == 22) = false := by simp [n22]
  have HT := Lib.hid ht
  have HTY : Hid (∀ W, Below w.heap.size w W → Calls Try.prog 107 #[.agg #[.slice rc lc cc, .slice rt types.length ct, .slice rv lv cv, .slice rm lm cm, .int .i64 cells, .slice ri li ci, .slice rs ls cs, .slice ro lo co, .slice rn ln cn], .agg #[.int .i64 op, .int .i64 a, .int .i64 b, .int .i64 c, .int .i64 k]] W fun e w' => e = .returned (.tuple #[.agg #[.int .i64 (types.getD (tA k) default).bits, .bool (types.getD (tA k) default).sg, .int .i64 (types.getD (tA k) default).num, .int .i64 (types.getD (tA k) default).off, .int .i64 (types.getD (tA k) default).den, .int .i64 (types.getD (tA k) default).m, .int .i64 (types.getD (tA k) default).kg, .int .i64 (types.getD (tA k) default).s, .int .i64 (types.getD (tA k) default).a, .int .i64 (types.getD (tA k) default).k], .agg #[.int .i64 (tyB types op k).bits, .bool (tyB types op k).sg, .int .i64 (tyB types op k).num, .int .i64 (tyB types op k).off, .int .i64 (tyB types op k).den, .int .i64 (tyB types op k).m, .int .i64 (tyB types op k).kg, .int .i64 (tyB types op k).s, .int .i64 (tyB types op k).a, .int .i64 (tyB types op k).k], .agg #[.int .i64 (tyT types op k).bits, .bool (tyT types op k).sg, .int .i64 (tyT types op k).num, .int .i64 (tyT types op k).off, .int .i64 (tyT types op k).den, .int .i64 (tyT types op k).m, .int .i64 (tyT types op k).kg, .int .i64 (tyT types op k).s, .int .i64 (tyT types op k).a, .int .i64 (tyT types op k).k], .bool true]) ∧ Below W.heap.size W w') := Lib.hid (fun W hW => ty_ok rc lc cc rt ct types rv lv cv rm lm cm cells ri li ci rs ls cs ro lo co rn ln cn op a b c k hk h0 hok W (hS.later hW))
  clear ht hS
  have HF : Hid (formB op a b c k = true) := Lib.hid hf
  clear hf
  generalize types.getD (tA k) default = X at *
  generalize tyB types op k = Y at *
  generalize tyT types op k = T at *
  obtain ⟨X0, X1, X2, X3, X4, X5, X6, X7, X8, X9⟩ := X
  obtain ⟨Y0, Y1, Y2, Y3, Y4, Y5, Y6, Y7, Y8, Y9⟩ := Y
  obtain ⟨T0, T1, T2, T3, T4, T5, T6, T7, T8, T9⟩ := T
  have HUN := Lib.hid (fun W => units_any op a b c k ⟨X0, X1, X2, X3, X4, X5, X6, X7, X8, X9⟩ ⟨Y0, Y1, Y2, Y3, Y4, Y5, Y6, Y7, Y8, Y9⟩ ⟨T0, T1, T2, T3, T4, T5, T6, T7, T8, T9⟩ W)
  generalize unitsB op ⟨X0, X1, X2, X3, X4, X5, X6, X7, X8, X9⟩ ⟨Y0, Y1, Y2, Y3, Y4, Y5, Y6, Y7, Y8, Y9⟩ ⟨T0, T1, T2, T3, T4, T5, T6, T7, T8, T9⟩ = R at *
  simp only at HTY HUN
  go_enter Try.func67, Try.ntmps67
  go_wp2_with (first | (go_at_call 105; refine (formed_v hk HF.out _).mono ?_; rintro _ w1 ⟨rfl, hb1⟩; obtain ⟨hb1c, hb1f⟩ := bcell hb1; have hb1s := hb1.size; (try simp only [World.size_alloc] at hb1s); have hx0 : w.heap.size < w1.heap.size := (by omega); have hx1 : w.heap.size + 1 < w1.heap.size := (by omega)) | (go_at_call 106; refine (typed_v HT.out _).mono ?_; rintro e w' ⟨rfl, rfl⟩) | (go_at_call 107; refine (HTY.out _ (by (repeat' (first | (with_reducible exact Below.refl _ _) | (with_reducible assumption) | (with_reducible refine below_alloc ?_ _) | (with_reducible refine Below.drew ?_) | (with_reducible refine below_drewN ?_ _) | (with_reducible refine below_step (by assumption) ?_) | (with_reducible refine below_later ?_ _) | (with_reducible refine Below.setCell ?_ ?_ _) | go_size)))).mono ?_; rintro _ w2 ⟨rfl, hb2⟩; obtain ⟨hb2c, hb2f⟩ := bcell hb2; have hb2s := hb2.size; have hy0 : w.heap.size < w2.heap.size := (by omega); have hy1 : w.heap.size + 1 < w2.heap.size := (by omega)) | (go_at_call 108; refine (HUN.out _).mono ?_; rintro _ w3 ⟨rfl, hb3⟩))
  all_goals go_ret
  all_goals exact ⟨by first | rfl | (simp [*]; done), by (repeat' (first | (with_reducible exact Below.refl _ _) | (with_reducible assumption) | (with_reducible refine below_alloc ?_ _) | (with_reducible refine Below.drew ?_) | (with_reducible refine below_drewN ?_ _) | (with_reducible refine below_step (by assumption) ?_) | (with_reducible refine below_later ?_ _) | (with_reducible refine Below.setCell ?_ ?_ _) | go_size))⟩
theorem fits_any (rc : Option Addr) (lc cc : Nat) (rt : Option Addr) (ct : Nat) (types : List Fx) (rv : Option Addr) (lv cv : Nat) (rm : Option Addr) (lm cm : Nat) (cells : Int) (ri : Option Addr) (li ci : Nat) (rs : Option Addr) (ls cs : Nat) (ro : Option Addr) (lo co : Nat) (rn : Option Addr) (ln cn : Nat) (op a b c k : Int) (hk : I64 k) (w : World) (hS : IsS 10 Fx.enc w rt ct types) : Calls Try.prog 67 #[.agg #[.slice rc lc cc, .slice rt types.length ct, .slice rv lv cv, .slice rm lm cm, .int .i64 cells, .slice ri li ci, .slice rs ls cs, .slice ro lo co, .slice rn ln cn], .agg #[.int .i64 op, .int .i64 a, .int .i64 b, .int .i64 c, .int .i64 k]] w fun e w' => e = .returned (.bool (fitB cells lv lm types ⟨op, a, b, c, k⟩)) ∧ Below w.heap.size w w' := by
  cases hf : formB op a b c k
  · rw [show fitB cells lv lm types ⟨op, a, b, c, k⟩ = false by unfold fitB; simp [hf]]
    exact fi_bad rc lc cc rt ct types rv lv cv rm lm cm cells ri li ci rs ls cs ro lo co rn ln cn op a b c k hk hf w hS
  by_cases n2 : op = 2
  · subst n2
    rw [show fitB cells lv lm types ⟨2, a, b, c, k⟩ = decide (k < cells) by unfold fitB; simp [hf]]
    exact fi_2 rc lc cc rt ct types rv lv cv rm lm cm cells ri li ci rs ls cs ro lo co rn ln cn a b c k hk hf w hS
  by_cases n3 : op = 3
  · subst n3
    rw [show fitB cells lv lm types ⟨3, a, b, c, k⟩ = decide (k < cells) by unfold fitB; simp [hf]]
    exact fi_3 rc lc cc rt ct types rv lv cv rm lm cm cells ri li ci rs ls cs ro lo co rn ln cn a b c k hk hf w hS
  by_cases n20 : op = 20
  · subst n20
    rw [show fitB cells lv lm types ⟨20, a, b, c, k⟩ = decide (k < (lv : Int)) by unfold fitB; simp [hf]]
    exact fi_20 rc lc cc rt ct types rv lv cv rm lm cm cells ri li ci rs ls cs ro lo co rn ln cn a b c k hk hf w hS
  by_cases n21 : op = 21
  · subst n21
    rw [show fitB cells lv lm types ⟨21, a, b, c, k⟩ = decide (k < (lm : Int)) by unfold fitB; simp [hf]]
    exact fi_21 rc lc cc rt ct types rv lv cv rm lm cm cells ri li ci rs ls cs ro lo co rn ln cn a b c k hk hf w hS
  by_cases n22 : op = 22
  · subst n22
    rw [show fitB cells lv lm types ⟨22, a, b, c, k⟩ = decide (k / 32 + 1 < cells) by unfold fitB; simp [hf]]
    exact fi_22 rc lc cc rt ct types rv lv cv rm lm cm cells ri li ci rs ls cs ro lo co rn ln cn a b c k hk hf w hS
  cases ht : typB op
  · rw [show fitB cells lv lm types ⟨op, a, b, c, k⟩ = true by unfold fitB; simp [hf, n2, n3, n20, n21, n22, ht]]
    exact fi_o rc lc cc rt ct types rv lv cv rm lm cm cells ri li ci rs ls cs ro lo co rn ln cn op a b c k hk n2 n3 n20 n21 n22 ht hf w hS
  cases hok : okT types.length op k
  · rw [show fitB cells lv lm types ⟨op, a, b, c, k⟩ = false by unfold fitB; simp [hf, n2, n3, n20, n21, n22, ht, hok]]
    exact fi_tb rc lc cc rt ct types rv lv cv rm lm cm cells ri li ci rs ls cs ro lo co rn ln cn op a b c k hk n2 n3 n20 n21 n22 ht (form_k hf ht) hf hok w hS
  rw [show fitB cells lv lm types ⟨op, a, b, c, k⟩ = unitsB op (types.getD (tA k) default) (tyB types op k) (tyT types op k) by unfold fitB; simp [hf, n2, n3, n20, n21, n22, ht, hok]]
  exact fi_tk rc lc cc rt ct types rv lv cv rm lm cm cells ri li ci rs ls cs ro lo co rn ln cn op a b c k hk n2 n3 n20 n21 n22 ht (form_k hf ht) hf hok w hS
end Go.Proofs.Ytfooefiaenlhmaa
namespace Go.Proofs.Ytfooefiaenlhmaa
set_option linter.unusedVariables false
set_option linter.unusedSimpArgs false
open Go.RowKit Go.ChangeShapes Go.WideShapes Go.ChangeAt

def pTake (n : Nat) : Sx → List Int × Sx
  | none => ([], none)
  | some bs => if n ≤ bs.length then (bs.take n, some (bs.drop n)) else ([], none)
theorem pInt_take (s : Sx) : pInt s = (valB (pTake 8 s).1, (pTake 8 s).2) := by
  have h0 : valB [] = 0 := by simp [valB, rawB, IntKind.wrap_i64]
  cases s with
  | none => simp only [pInt, pTake, h0]
  | some bs =>
    simp only [pInt, pTake]
    by_cases h : 8 ≤ bs.length
    · rw [if_pos h, if_pos h]
    · rw [if_neg h, if_neg h, h0]
def SxB (s : Sx) : Prop := ∀ bs, s = some bs → ByteL bs
theorem IsInts.take {W : World} {b off cap : Nat} {k : IntKind} {xs : List Int} (h : IsInts W (some ⟨b, off, none⟩) cap k xs) (n : Nat) : IsInts W (some ⟨b, off, none⟩) cap k (xs.take n) :=
  ⟨by rw [List.length_take]; exact Nat.le_trans (Nat.min_le_right _ _) h.le, h.max, fun x hx => h.wf x (List.mem_of_mem_take hx), fun hne => by
    have hne2 : xs ≠ [] := fun e => hne (by rw [e]; simp)
    obtain ⟨b', off', h1, h2, h3⟩ := h.cells hne2
    simp only [Option.some.injEq, Addr.mk.injEq, and_true] at h1
    obtain ⟨rfl, rfl⟩ := h1
    refine ⟨b, off, rfl, h2, fun i hi => ?_⟩
    rw [List.length_take] at hi
    rw [h3 i (by omega)]
    simp [List.getD, List.getElem?_take, show i < n by omega]⟩
theorem IsInts.drop {W : World} {b off cap : Nat} {k : IntKind} {xs : List Int} (h : IsInts W (some ⟨b, off, none⟩) cap k xs) {n : Nat} (hn : n ≤ xs.length) : IsInts W (some ⟨b, off + n, none⟩) (cap - n) k (xs.drop n) :=
  ⟨by rw [List.length_drop]; have := h.le; omega, Nat.le_trans (Nat.sub_le _ _) h.max, fun x hx => h.wf x (List.mem_of_mem_drop hx), fun hne => by
    have hne2 : xs ≠ [] := fun e => hne (by rw [e]; simp)
    obtain ⟨b', off', h1, h2, h3⟩ := h.cells hne2
    simp only [Option.some.injEq, Addr.mk.injEq, and_true] at h1
    obtain ⟨rfl, rfl⟩ := h1
    refine ⟨b, off + n, rfl, h2, fun i hi => ?_⟩
    rw [List.length_drop] at hi
    rw [Nat.add_assoc, h3 (n + i) (by omega)]
    simp [List.getD, List.getElem?_drop]⟩
/-- The reader in block b; its bytes lie in W0. -/
structure Rdr (W0 w : World) (b : Nat) (s : Sx) : Prop where
  lt : b < w.heap.size
  f0 : w.frozen? ⟨b, 0, none⟩ = false
  f1 : w.frozen? ⟨b, 1, none⟩ = false
  at_ : ∃ ra ca bs bad, w.cell? ⟨b, 0, none⟩ = some (.slice ra bs.length ca) ∧ w.cell? ⟨b, 1, none⟩ = some (.bool bad) ∧ IsInts W0 ra ca .u8 bs ∧ bs.length ≤ 100000 ∧ s = if bad = true then none else some bs
theorem KeepB.set1 {b : Nat} {w w' : World} (h : KeepB w.heap.size b w w') (j : Nat) (v : Value) : KeepB w.heap.size b w (w'.setCell ⟨b, j, none⟩ v) :=
  ⟨h.1.trans ((Below.refl 0 w').setCell (p := ⟨b, j, none⟩) (Nat.zero_le _) v), fun q hq hn => (Below.heap_setCell _ _ _ _ hn).trans (h.2 q hq hn)⟩
set_option maxRecDepth 100000 in
set_option maxHeartbeats 2000000 in
theorem take_bad (b n : Nat) (W0 w : World) (ra : Option Addr) (ca : Nat) (bs : List Int) (bad : Bool) (hn : n ≤ 100) (hlt : b < w.heap.size) (f1 : w.frozen? ⟨b, 1, none⟩ = false) (c0 : w.cell? ⟨b, 0, none⟩ = some (.slice ra bs.length ca)) (c1 : w.cell? ⟨b, 1, none⟩ = some (.bool bad)) (hbad : bad = true ∨ bs.length < n) :
    Calls Try.prog 94 #[.pointer (some ⟨b, 0, none⟩), .int .i64 n] w fun e w' => e = .returned (.slice none 0 0) ∧ w' = w.setCell ⟨b, 1, none⟩ (.bool true) := by
  cases bad
  · have h1 : (bs.length : Int) < n := by rcases hbad with h | h; · cases h
                                          · omega
    clear hbad
    go_enter Try.func94, Try.ntmps94
    go_wp2
    go_ret
    exact ⟨rfl, rfl⟩
  · clear hbad
    go_enter Try.func94, Try.ntmps94
    go_wp2
    go_ret
    exact ⟨rfl, rfl⟩
set_option maxRecDepth 100000 in
set_option maxHeartbeats 2000000 in
theorem take_ok (b n B off : Nat) (w : World) (ca : Nat) (bs : List Int) (hn : n ≤ bs.length) (hca : bs.length ≤ ca) (hm : ca ≤ 9223372036854775807) (hlt : b < w.heap.size) (f0 : w.frozen? ⟨b, 0, none⟩ = false) (c0 : w.cell? ⟨b, 0, none⟩ = some (.slice (some ⟨B, off, none⟩) bs.length ca)) (c1 : w.cell? ⟨b, 1, none⟩ = some (.bool false)) :
    Calls Try.prog 94 #[.pointer (some ⟨b, 0, none⟩), .int .i64 n] w fun e w' => e = .returned (.slice (some ⟨B, off, none⟩) n ca) ∧ ∃ o2, (ca ≠ n → o2 = off + n) ∧ w' = w.setCell ⟨b, 0, none⟩ (.slice (some ⟨B, o2, none⟩) (bs.length - n) (ca - n)) := by
  have h1 : ¬ (bs.length : Int) < n := by omega
  have h2 : (0 : Int) ≤ n := by omega
  have h3 : (n : Int) ≤ ca := by omega
  have h4 : (n : Int) ≤ bs.length := by omega
  have h5 : (bs.length : Int) ≤ ca := by omega
  go_enter Try.func94, Try.ntmps94
  go_wp2
  all_goals go_ret
  all_goals refine ⟨by first | rfl | (simp; done), ?_⟩
  · exact ⟨_, rfl⟩
  · rfl
theorem Rdr.below {W0 w w' : World} {b B : Nat} {s : Sx} (h : Rdr W0 w b s) (hb : Below B w w') (hB : b < B) : Rdr W0 w' b s := by
  obtain ⟨h1, h2, h3, ra, ca, bs, bad, h4, h5, h6⟩ := h
  exact ⟨Nat.lt_of_lt_of_le h1 hb.size, (hb.frozen (p := ⟨b, 0, none⟩) hB).trans h2, (hb.frozen (p := ⟨b, 1, none⟩) hB).trans h3, ra, ca, bs, bad, (hb.cell (p := ⟨b, 0, none⟩) hB).trans h4, (hb.cell (p := ⟨b, 1, none⟩) hB).trans h5, h6⟩
theorem take_any (b n : Nat) (W0 w : World) (s : Sx) (h : Rdr W0 w b s) (hn0 : 0 < n) (hn : n ≤ 100) : Calls Try.prog 94 #[.pointer (some ⟨b, 0, none⟩), .int .i64 n] w fun e w' => ∃ r c, e = .returned (.slice r (pTake n s).1.length c) ∧ IsInts W0 r c .u8 (pTake n s).1 ∧ Rdr W0 w' b (pTake n s).2 ∧ KeepB w.heap.size b w w' := by
  obtain ⟨hlt, f0, f1, ra, ca, bs, bad, c0, c1, hx, hl, rfl⟩ := h
  have hbadcase : bad = true ∨ bs.length < n → Calls Try.prog 94 #[.pointer (some ⟨b, 0, none⟩), .int .i64 n] w fun e w' => ∃ r c, e = .returned (.slice r (([] : List Int)).length c) ∧ IsInts W0 r c .u8 [] ∧ Rdr W0 w' b none ∧ KeepB w.heap.size b w w' := fun hb => by
    refine (take_bad b n W0 w ra ca bs bad hn hlt f1 c0 c1 hb).mono ?_
    rintro e w' ⟨rfl, rfl⟩
    refine ⟨none, 0, rfl, ⟨Nat.le_refl _, Nat.zero_le _, by simp, fun h => absurd rfl h⟩, ⟨?_, ?_, ?_, ra, ca, bs, true, ?_, ?_, hx, hl, rfl⟩, (KeepB.refl _ _ _).set1 _ _⟩
    · rw [World.size_setCell]; exact hlt
    · rw [World.frozen?_setCell]; exact f0
    · rw [World.frozen?_setCell]; exact f1
    · rw [World.cell?_setCell_other (h := fun h => by cases h)]; exact c0
    · rw [World.cell?_setCell_same' _ _ _ (by rw [c1]; rfl)]
  cases bad
  · by_cases hlen : n ≤ bs.length
    · have hne : bs ≠ [] := fun e => by rw [e] at hlen; simp at hlen; omega
      obtain ⟨B, off, rfl, hB, _⟩ := hx.cells hne
      have hm := hx.max
      unfold maxLen at hm
      refine (take_ok b n B off w ca bs hlen hx.le (by omega) hlt f0 c0 c1).mono ?_
      rintro e w' ⟨rfl, o2, ho2, rfl⟩
      have e1 : (pTake n (if false = true then none else some bs)) = (bs.take n, some (bs.drop n)) := by
        show (if n ≤ bs.length then _ else _) = _
        rw [if_pos hlen]
      rw [e1]
      refine ⟨some ⟨B, off, none⟩, ca, by rw [List.length_take, Nat.min_eq_left hlen], hx.take n, ⟨?_, ?_, ?_, some ⟨B, o2, none⟩, ca - n, bs.drop n, false, ?_, ?_, ?_, ?_, rfl⟩, (KeepB.refl _ _ _).set1 _ _⟩
      · rw [World.size_setCell]; exact hlt
      · rw [World.frozen?_setCell]; exact f0
      · rw [World.frozen?_setCell]; exact f1
      · rw [World.cell?_setCell_same' _ _ _ (by rw [c0]; rfl), List.length_drop]
      · rw [World.cell?_setCell_other (h := fun h => by cases h)]; exact c1
      · by_cases hc : ca = n
        · have hle := hx.le
          have hd : bs.drop n = [] := List.drop_eq_nil_of_le (by omega)
          rw [hd]
          exact ⟨Nat.zero_le _, Nat.le_trans (Nat.sub_le _ _) hx.max, by simp, fun h => absurd rfl h⟩
        · rw [ho2 hc]; exact hx.drop hlen
      · rw [List.length_drop]; omega
    · have e1 : (pTake n (if false = true then none else some bs)) = ([], none) := by
        show (if n ≤ bs.length then _ else _) = _
        rw [if_neg hlen]
      rw [e1]
      exact hbadcase (.inr (by omega))
  · exact hbadcase (.inl rfl)
theorem or_low64 {a b : Int} (h0 : 0 ≤ a) (h1 : a < 72057594037927936) (b0 : 0 ≤ b) (b1 : b ≤ 255) : bits .or .u64 (a * 256) b = a * 256 + b := by
  obtain ⟨n, rfl⟩ : ∃ n : Nat, a = n := ⟨a.toNat, by omega⟩
  obtain ⟨m, rfl⟩ : ∃ m : Nat, b = m := ⟨b.toNat, by omega⟩
  have hn : n < 72057594037927936 := by omega
  have hm : m < 256 := by omega
  have hk : n * 2 ^ 8 ||| m = n * 2 ^ 8 + m := by rw [← Nat.shiftLeft_eq, Nat.shiftLeft_add_eq_or_of_lt hm]
  have e1 : (BitVec.ofInt 64 ((n : Int) * 256)).toNat = n * 256 := by rw [BitVec.toNat_ofInt]; omega
  have e2 : (BitVec.ofInt 64 (m : Int)).toNat = m := by rw [BitVec.toNat_ofInt]; omega
  show IntKind.u64.wrap ((BitVec.ofInt 64 ((n : Int) * 256) ||| BitVec.ofInt 64 (m : Int)).toNat : Nat) = _
  rw [BitVec.toNat_or, e1, e2]
  rw [show (256 : Nat) = 2 ^ 8 from rfl, hk]
  simp [IntKind.wrap, IntKind.signed, IntKind.bits]
  omega
theorem rawB_lt56 {bs : List Int} (h : ByteL bs) {k : Nat} (hk : k < 8) : 0 ≤ rawB (bs.take k) ∧ rawB (bs.take k) < 72057594037927936 := by
  obtain ⟨h1, h2⟩ := rawB_bd h k
  refine ⟨h1, Int.lt_of_lt_of_le h2 ?_⟩
  obtain rfl | rfl | rfl | rfl | rfl | rfl | rfl | rfl : k = 0 ∨ k = 1 ∨ k = 2 ∨ k = 3 ∨ k = 4 ∨ k = 5 ∨ k = 6 ∨ k = 7 := by omega
  all_goals decide
set_option maxRecDepth 100000 in
set_option maxHeartbeats 2000000 in
theorem rint_any (b : Nat) (W0 w : World) (s : Sx) (h : Rdr W0 w b s) (hB : W0.heap.size ≤ b) (hb0 : Below W0.heap.size W0 w) : Calls Try.prog 95 #[.pointer (some ⟨b, 0, none⟩)] w fun e w' => e = .returned (.int .i64 (pInt s).1) ∧ Rdr W0 w' b (pInt s).2 ∧ KeepB w.heap.size b w w' := by
  rw [pInt_take]
  have HT := Lib.hid (take_any b 8 W0 w s h (by omega) (by omega))
  have hbw := h.lt
  have HL : Hid ((pTake 8 s).1.length ≤ 8) := Lib.hid (by
    cases s with
    | none => simp [pTake]
    | some bs =>
      simp only [pTake]
      split
      · rw [List.length_take]; omega
      · simp)
  generalize (pTake 8 s).2 = s2 at *
  generalize (pTake 8 s).1 = out at *
  clear h
  go_enter Try.func95, Try.ntmps95
  go_wp2_with (first | (go_at_call 94; refine HT.out.mono ?_; rintro _ w1 ⟨r, c, rfl, hx, hr, hk⟩))
  have HX := Lib.hid hx
  have HR := Lib.hid hr
  have HK := Lib.hid hk
  have hb1 : Below W0.heap.size W0 w1 := hb0.trans (hk.below (by have := hb0.size; omega) hB)
  clear hx hr hk HT
  have hby : ByteL out := fun x h => wf_u8 (HX.out.wf x h)
  have HBY := Lib.hid hby
  have HRT : Hid (∀ k, k < out.length → rawB (out.take (k + 1)) = rawB (out.take k) * 256 + out.getD k 0) := Lib.hid (fun k hk => rawB_take hk)
  have HRB : Hid (∀ k, k < 8 → 0 ≤ rawB (out.take k) ∧ rawB (out.take k) < 72057594037927936) := Lib.hid (fun k hk => rawB_lt56 hby hk)
  have HVB : Hid (valB out = IntKind.i64.wrap (rawB out)) := Lib.hid rfl
  clear hby
  generalize hn : out.length = n at *
  have HN := Lib.hid hn
  clear hn
  have hn8 : n ≤ 8 := HL.out
  go_loopg [3, 9] n (fun kx s3 s9 wr => ∃ (k : Nat) (a : Int), s3 = .int .u64 a ∧ s9 = .int .i64 k ∧ k ≤ n ∧ n - k ≤ kx ∧ wr = w1 ∧ Hid (a = rawB (out.take k)))
  case atStart => exact ⟨0, 0, rfl, rfl, by omega, by omega, rfl, Lib.hid (by simp [rawB])⟩
  case round =>
    obtain ⟨k, a, rfl, rfl, hk, hkx, hw, HA⟩ := hrel
    subst hw
    by_cases hlt : k < n
    · have hk1 : (0 : Int) ≤ (k : Int) := by omega
      have hk2 : (k : Int) < n := by omega
      obtain ⟨bX, off, rfl, hb, hc⟩ := HX.out.cells (fun e => by have := HN.out; rw [e] at this; simp at this; omega)
      have hc1 : wr.cell? ⟨bX, off + k, none⟩ = some (.int .u8 (out.getD k 0)) := (hb1.cell (p := ⟨bX, off + k, none⟩) hb).trans (hc k (by first | exact hlt | (rw [HN.out]; exact hlt)))
      have hxb := HBY.out _ (getD_mem' (xs := out) (k := k) (by have := HN.out; omega))
      have hab := HRB.out k (by have := HL.out; omega)
      rw [← HA.out] at hab
      have HA2 := HRT.out k (by first | exact hlt | (rw [HN.out]; exact hlt))
      rw [← HA.out] at HA2
      have HA3 := Lib.hid HA2
      clear hc HA2
      generalize out.getD k 0 = x at *
      have e1 : IntKind.u64.wrap (a * 256) = a * 256 := by simp [IntKind.wrap, IntKind.signed, IntKind.bits]; omega
      have e2 : IntKind.u64.wrap x = x := by simp [IntKind.wrap, IntKind.signed, IntKind.bits]; omega
      have e3 := or_low64 hab.1 hab.2 hxb.1 hxb.2
      go_wp2
      go_roundg (n - (k + 1))
      case measure => omega
      case rel => exact ⟨k + 1, a * 256 + x, rfl, by go_num, by omega, by omega, rfl, Lib.hid HA3.out.symm⟩
    · obtain rfl : k = n := by omega
      have HE : Hid (a = rawB out) := Lib.hid (by rw [HA.out, ← HN.out, List.take_length])
      go_wp2
      go_ret
      refine ⟨?_, HR.out, HK.out⟩
      have hv := HVB.out
      rw [← HE.out, IntKind.wrap_i64] at hv
      rw [hv]
      first | rfl | (simp [wrap64]; done)
theorem pCount_eq (size : Nat) (s : Sx) : pCount size s = match (pInt s).2 with | none => (0, none) | some bs => if 0 ≤ (pInt s).1 ∧ (pInt s).1 ≤ ((bs.length / size : Nat) : Int) then ((pInt s).1.toNat, some bs) else (0, none) := by
  unfold pCount
  cases h : pInt s with
  | mk n t => cases t <;> rfl
theorem pInt_none {s : Sx} (h : (pInt s).2 = none) : (pInt s).1 = 0 := by
  cases s with
  | none => rfl
  | some bs =>
    unfold pInt at h ⊢
    simp only at h ⊢
    split at h
    · cases h
    · rename_i h2; rw [if_neg h2]
set_option maxRecDepth 100000 in
set_option maxHeartbeats 2000000 in
theorem rcount_any (b size : Nat) (W0 w : World) (s : Sx) (h : Rdr W0 w b s) (hB : W0.heap.size ≤ b) (hb0 : Below W0.heap.size W0 w) (hs0 : 0 < size) (hs1 : size ≤ 100) : Calls Try.prog 92 #[.pointer (some ⟨b, 0, none⟩), .int .i64 size] w fun e w' => e = .returned (.int .i64 (pCount size s).1) ∧ Rdr W0 w' b (pCount size s).2 ∧ KeepB w.heap.size b w w' := by
  have HI := Lib.hid (rint_any b W0 w s h hB hb0)
  have HC := Lib.hid (pCount_eq size s)
  have HZ := Lib.hid (@pInt_none s)
  generalize pCount size s = C at *
  generalize (pInt s).1 = n at *
  generalize (pInt s).2 = t at *
  clear h
  have hs2 : ¬ (size : Int) = 0 := by omega
  have hs3 : ((size : Int) == 0) = false := by simp; omega
  by_cases hneg : n < 0
  · go_enter Try.func92, Try.ntmps92
    go_wp2_with (first | (go_at_call 95; refine HI.out.mono ?_; rintro _ w1 ⟨rfl, hr, hk⟩; have HR := Lib.hid hr; have HK := Lib.hid hk; clear hr hk; obtain ⟨hlt, f0, f1, ra, ca, bs, bad, c0, c1, hx, hl, ht⟩ := HR.out))
    have hC : C = (0, none) := by
      rw [HC.out, ht]
      cases bad
      · show (if _ then _ else _) = _
        rw [if_neg (by omega)]
      · rfl
    go_ret
    refine ⟨by rw [hC]; first | rfl | (simp; done), ?_, HK.out.set1 _ _⟩
    rw [hC]
    refine ⟨?_, ?_, ?_, ra, ca, bs, true, ?_, ?_, hx, hl, rfl⟩
    · rw [World.size_setCell]; exact hlt
    · rw [World.frozen?_setCell]; exact f0
    · rw [World.frozen?_setCell]; exact f1
    · rw [World.cell?_setCell_other (h := fun h => by cases h)]; exact c0
    · rw [World.cell?_setCell_same' _ _ _ (by rw [c1]; rfl)]
  go_enter Try.func92, Try.ntmps92
  go_wp2_with (first | (go_at_call 95; refine HI.out.mono ?_; rintro _ w1 ⟨rfl, hr, hk⟩; have HR := Lib.hid hr; have HK := Lib.hid hk; clear hr hk; obtain ⟨hlt, f0, f1, ra, ca, bs, bad, c0, c1, hx, hl, ht⟩ := HR.out))
  · rename_i hcond
    have hdv : wrap64 ((bs.length : Int) / (size : Int)) = ((bs.length / size : Nat) : Int) := by
      have h1 : bs.length / size ≤ bs.length := Nat.div_le_self _ _
      have h2 : ((bs.length / size : Nat) : Int) = (bs.length : Int) / (size : Int) := by simp
      rw [← h2]
      generalize bs.length / size = q at *
      unfold wrap64
      omega
    rw [hdv] at hcond
    have hC : C = (0, none) := by
      rw [HC.out, ht]
      cases bad
      · show (if _ then _ else _) = _
        rw [if_neg]
        generalize bs.length / size = q at *
        omega
      · rfl
    go_ret
    refine ⟨by rw [hC]; first | rfl | (simp; done), ?_, HK.out.set1 _ _⟩
    rw [hC]
    refine ⟨?_, ?_, ?_, ra, ca, bs, true, ?_, ?_, hx, hl, rfl⟩
    · rw [World.size_setCell]; exact hlt
    · rw [World.frozen?_setCell]; exact f0
    · rw [World.frozen?_setCell]; exact f1
    · rw [World.cell?_setCell_other (h := fun h => by cases h)]; exact c0
    · rw [World.cell?_setCell_same' _ _ _ (by rw [c1]; rfl)]
  · rename_i hcond
    have hdv : wrap64 ((bs.length : Int) / (size : Int)) = ((bs.length / size : Nat) : Int) := by
      have h1 : bs.length / size ≤ bs.length := Nat.div_le_self _ _
      have h2 : ((bs.length / size : Nat) : Int) = (bs.length : Int) / (size : Int) := by simp
      rw [← h2]
      generalize bs.length / size = q at *
      unfold wrap64
      omega
    rw [hdv] at hcond
    have hC : ((C.1 : Nat) : Int) = n ∧ C.2 = t := by
      rw [HC.out, ht]
      cases bad
      · show ((((if _ then _ else _) : Nat × Sx).1 : Nat) : Int) = n ∧ ((if _ then _ else _) : Nat × Sx).2 = _
        generalize bs.length / size = q at *
        rw [if_pos ⟨by omega, by omega⟩]
        exact ⟨by simp only; omega, rfl⟩
      · have hn : n = 0 := HZ.out (by rw [ht]; rfl)
        rw [hn]
        exact ⟨rfl, rfl⟩
    go_ret
    rw [hC.2]
    exact ⟨by rw [hC.1]; first | rfl | (simp; done), HR.out, HK.out⟩
end Go.Proofs.Ytfooefiaenlhmaa
namespace Go.Proofs.Ytfooefiaenlhmaa
set_option linter.unusedVariables false
set_option linter.unusedSimpArgs false
open Go.RowKit Go.ChangeShapes Go.WideShapes Go.ChangeAt

theorem i64_nat {n : Nat} (h : n ≤ 9223372036854775807) : I64 (n : Int) := by unfold I64; simp [Lit.wf, IntKind.min, IntKind.max, IntKind.bits, IntKind.signed]; omega
theorem ints_b {W : World} {base : Nat} {r : Option Addr} {c : Nat} {xs : List Int} (h : OwnK .u8 5 W base r c xs) (hb : ByteL xs) : IsInts W r c .u8 xs := h.ints (fun x hx => u8_wf (hb x hx).1 (hb x hx).2)
theorem bit_any (b : Bool) (v : Int) (hv : (if b then 1 else 0) = v) (w : World) : Calls Try.prog 48 #[.bool b] w fun e w' => e = .returned (.int .i64 v) ∧ w' = w := by
  subst hv
  cases b
  · go_enter Try.func48, Try.ntmps48
    go_wp2
    go_ret
    exact ⟨rfl, rfl⟩
  · go_enter Try.func48, Try.ntmps48
    go_wp2
    go_ret
    exact ⟨rfl, rfl⟩
set_option maxRecDepth 100000 in
set_option maxHeartbeats 8000000 in
theorem rbody_any (p : PV) (w : World) (hp : IsP w p) (hl : p.p.body.length ≤ 10000000000) : Calls Try.prog 22 #[p.val] w fun e w' => ∃ r c, e = .returned (.slice r p.p.body.length c) ∧ OwnK .u8 5 w' w.heap.size r c p.p.body ∧ Below w.heap.size w w' := by
  obtain ⟨rc, cc, code, rt, ct, types, rv, cv, curves, rm, cm, maps, cells, ri, ci, inputs, rs, cs, states, ro, co, outputs, rn, cn, initial⟩ := p
  have HE : Hid (PP.body (PV.p ⟨rc, cc, code, rt, ct, types, rv, cv, curves, rm, cm, maps, cells, ri, ci, inputs, rs, cs, states, ro, co, outputs, rn, cn, initial⟩) = num8 code.length ++ code.flatMap Ins.by8 ++ num8 types.length ++ types.flatMap Fx.by8 ++ num8 curves.length ++ curves.flatMap (fun c => curveB8 c.p) ++ num8 maps.length ++ maps.flatMap (fun m => mapB8 m.p) ++ num8 cells ++ list8 inputs ++ list8 states ++ list8 outputs ++ list8 initial) := Lib.hid (by unfold PP.body PV.p; simp only [List.length_map]; rw [flat_curves, flat_maps])
  have hs1 := hp.code
  have hg1 := hp.codeG
  have hs2 := hp.types
  have hg2 := hp.typesG
  have hs3 := hp.curves
  have hg3 := hp.curvesG
  have hs4 := hp.maps
  have hg4 := hp.mapsG
  have hcl := hp.cells
  have hi1 := hp.inputs
  have hi2 := hp.states
  have hi3 := hp.outputs
  have hi4 := hp.initial
  simp only at hs1 hg1 hs2 hg2 hs3 hg3 hs4 hg4 hcl hi1 hi2 hi3 hi4
  have hl2 := hl
  rw [HE.out] at hl2
  simp only [List.length_append, num8_len, list8_len] at hl2
  have hB1 : Below w.heap.size w (w.alloc (.cells #[.slice rc code.length cc, .slice rt types.length ct, .slice rv curves.length cv, .slice rm maps.length cm, .int .i64 cells, .slice ri inputs.length ci, .slice rs states.length cs, .slice ro outputs.length co, .slice rn initial.length cn] 28)) := (Below.refl _ _).alloc (Nat.le_refl _) _
  have HS1 := Lib.hid (hs1.later hB1)
  have HS2 := Lib.hid (hs2.later hB1)
  have HS3 := Lib.hid (hs3.later hB1)
  have HS4 := Lib.hid (hs4.later hB1)
  have HG1 := Lib.hid hg1
  have HG2 := Lib.hid hg2
  have HG3 := Lib.hid (fun x hx => (hg3 x hx).later hB1)
  have HG4 := Lib.hid (fun x hx => (hg4 x hx).later hB1)
  have HI1 := Lib.hid (hi1.later hB1)
  have HI2 := Lib.hid (hi2.later hB1)
  have HI3 := Lib.hid (hi3.later hB1)
  have HI4 := Lib.hid (hi4.later hB1)
  clear hs1 hs2 hs3 hs4 hg1 hg2 hg3 hg4 hi1 hi2 hi3 hi4 hp hl
  generalize hres : PP.body (PV.p ⟨rc, cc, code, rt, ct, types, rv, cv, curves, rm, cm, maps, cells, ri, ci, inputs, rs, cs, states, ro, co, outputs, rn, cn, initial⟩) = res at *
  clear hres
  have hm1 := HS1.out.max
  unfold maxLen at hm1
  have hmc1 := HS1.out.le
  have hmc2 := Nat.le_trans HS2.out.le HS2.out.max
  have hmc3 := Nat.le_trans HS3.out.le HS3.out.max
  have hmc4 := Nat.le_trans HS4.out.le HS4.out.max
  unfold maxLen at hmc2 hmc3 hmc4
  have hn1 : I64 (code.length : Int) := i64_nat (by omega)
  have hn2 : I64 (types.length : Int) := i64_nat (by omega)
  have hn3 : I64 (curves.length : Int) := i64_nat (by omega)
  have hn4 : I64 (maps.length : Int) := i64_nat (by omega)
  simp only [PV.val]
  go_enter Try.func22, Try.ntmps22
  go_wp2_with (go_at_call 46; refine (rnum_any _ hn1 _).mono ?_; rintro e w1 ⟨r1, c1, rfl, ho1, hb1⟩)
  have q0 : (w.alloc (.cells #[.slice rc code.length cc, .slice rt types.length ct, .slice rv curves.length cv, .slice rm maps.length cm, .int .i64 cells, .slice ri inputs.length ci, .slice rs states.length cs, .slice ro outputs.length co, .slice rn initial.length cn] 28)).cell? ⟨w.heap.size, 0, none⟩ = some (.slice rc code.length cc) := by simp
  have q1 : (w.alloc (.cells #[.slice rc code.length cc, .slice rt types.length ct, .slice rv curves.length cv, .slice rm maps.length cm, .int .i64 cells, .slice ri inputs.length ci, .slice rs states.length cs, .slice ro outputs.length co, .slice rn initial.length cn] 28)).cell? ⟨w.heap.size, 1, none⟩ = some (.slice rt types.length ct) := by simp
  have q2 : (w.alloc (.cells #[.slice rc code.length cc, .slice rt types.length ct, .slice rv curves.length cv, .slice rm maps.length cm, .int .i64 cells, .slice ri inputs.length ci, .slice rs states.length cs, .slice ro outputs.length co, .slice rn initial.length cn] 28)).cell? ⟨w.heap.size, 2, none⟩ = some (.slice rv curves.length cv) := by simp
  have q3 : (w.alloc (.cells #[.slice rc code.length cc, .slice rt types.length ct, .slice rv curves.length cv, .slice rm maps.length cm, .int .i64 cells, .slice ri inputs.length ci, .slice rs states.length cs, .slice ro outputs.length co, .slice rn initial.length cn] 28)).cell? ⟨w.heap.size, 3, none⟩ = some (.slice rm maps.length cm) := by simp
  have q4 : (w.alloc (.cells #[.slice rc code.length cc, .slice rt types.length ct, .slice rv curves.length cv, .slice rm maps.length cm, .int .i64 cells, .slice ri inputs.length ci, .slice rs states.length cs, .slice ro outputs.length co, .slice rn initial.length cn] 28)).cell? ⟨w.heap.size, 4, none⟩ = some (.int .i64 cells) := by simp
  have q5 : (w.alloc (.cells #[.slice rc code.length cc, .slice rt types.length ct, .slice rv curves.length cv, .slice rm maps.length cm, .int .i64 cells, .slice ri inputs.length ci, .slice rs states.length cs, .slice ro outputs.length co, .slice rn initial.length cn] 28)).cell? ⟨w.heap.size, 5, none⟩ = some (.slice ri inputs.length ci) := by simp
  have q6 : (w.alloc (.cells #[.slice rc code.length cc, .slice rt types.length ct, .slice rv curves.length cv, .slice rm maps.length cm, .int .i64 cells, .slice ri inputs.length ci, .slice rs states.length cs, .slice ro outputs.length co, .slice rn initial.length cn] 28)).cell? ⟨w.heap.size, 6, none⟩ = some (.slice rs states.length cs) := by simp
  have q7 : (w.alloc (.cells #[.slice rc code.length cc, .slice rt types.length ct, .slice rv curves.length cv, .slice rm maps.length cm, .int .i64 cells, .slice ri inputs.length ci, .slice rs states.length cs, .slice ro outputs.length co, .slice rn initial.length cn] 28)).cell? ⟨w.heap.size, 7, none⟩ = some (.slice ro outputs.length co) := by simp
  have q8 : (w.alloc (.cells #[.slice rc code.length cc, .slice rt types.length ct, .slice rv curves.length cv, .slice rm maps.length cm, .int .i64 cells, .slice ri inputs.length ci, .slice rs states.length cs, .slice ro outputs.length co, .slice rn initial.length cn] 28)).cell? ⟨w.heap.size, 8, none⟩ = some (.slice rn initial.length cn) := by simp
  have hz : w.heap.size < (w.alloc (.cells #[.slice rc code.length cc, .slice rt types.length ct, .slice rv curves.length cv, .slice rm maps.length cm, .int .i64 cells, .slice ri inputs.length ci, .slice rs states.length cs, .slice ro outputs.length co, .slice rn initial.length cn] 28)).heap.size := by rw [World.size_alloc]; omega
  generalize w.alloc (.cells #[.slice rc code.length cc, .slice rt types.length ct, .slice rv curves.length cv, .slice rm maps.length cm, .int .i64 cells, .slice ri inputs.length ci, .slice rs states.length cs, .slice ro outputs.length co, .slice rn initial.length cn] 28) = W1 at *
  have HO1 := Lib.hid ho1
  clear ho1
  have hb1s := hb1.size
  have HLB0 : Hid (∀ k, (num8 code.length ++ (code.take k).flatMap Ins.by8).length ≤ 10000000000) := Lib.hid (fun k => by have := flat_le Ins.by8 code k; simp only [List.length_append, num8_len]; omega)
  go_loopg [3, 4] code.length (fun kx s3 s4 wr => ∃ (k : Nat) (e : Later W1) (r : Option Addr) (c : Nat) (out : List Int), s3 = .slice r out.length c ∧ s4 = .int .i64 k ∧ k ≤ code.length ∧ code.length - k ≤ kx ∧ wr = e.w ∧ out.length ≤ 10000000000 ∧ Hid (OwnK .u8 5 e.w W1.heap.size r c out) ∧ Hid (out = num8 code.length ++ (code.take k).flatMap Ins.by8))
  case atStart => exact ⟨0, ⟨w1, hb1⟩, r1, c1, num8 code.length, rfl, rfl, by omega, by omega, rfl, by rw [num8_len]; omega, HO1, Lib.hid (by simp)⟩
  case round =>
    clear HO1
    obtain ⟨k, e, r, c, out, rfl, rfl, hk, hkx, rfl, hol, HO, HQ⟩ := hrel
    have hes := e.h.size
    by_cases hlt : k < code.length
    · have hk1 : (0 : Int) ≤ (k : Int) := by omega
      have hk2 : (k : Int) < code.length := by omega
      have HQ2 : Hid (out ++ Ins.by8 (code.getD k default) = num8 code.length ++ (code.take (k + 1)).flatMap Ins.by8) := Lib.hid (by rw [HQ.out, flat_take Ins.by8 hlt, List.append_assoc])
      have hbd : out.length + (Ins.by8 (code.getD k default)).length ≤ 10000000000 := by rw [← List.length_append, HQ2.out]; exact HLB0.out _
      obtain ⟨bX, off, rfl, hb, hc⟩ := HS1.out.at_ hlt
      have hc0 : e.w.cell? ⟨bX, off + k * 5, none⟩ = some (.int .i64 (code.getD k default).op) := (e.h.cell (p := ⟨bX, off + k * 5, none⟩) hb).trans (hc 0 _ rfl)
      have hc1 : e.w.cell? ⟨bX, off + k * 5 + 1, none⟩ = some (.int .i64 (code.getD k default).a) := (e.h.cell (p := ⟨bX, off + k * 5 + 1, none⟩) hb).trans (hc 1 _ rfl)
      have hc2 : e.w.cell? ⟨bX, off + k * 5 + 2, none⟩ = some (.int .i64 (code.getD k default).b) := (e.h.cell (p := ⟨bX, off + k * 5 + 2, none⟩) hb).trans (hc 2 _ rfl)
      have hc3 : e.w.cell? ⟨bX, off + k * 5 + 3, none⟩ = some (.int .i64 (code.getD k default).c) := (e.h.cell (p := ⟨bX, off + k * 5 + 3, none⟩) hb).trans (hc 3 _ rfl)
      have hc4 : e.w.cell? ⟨bX, off + k * 5 + 4, none⟩ = some (.int .i64 (code.getD k default).k) := (e.h.cell (p := ⟨bX, off + k * 5 + 4, none⟩) hb).trans (hc 4 _ rfl)
      clear hc
      generalize code.getD k default = x at *
      obtain ⟨xo, xa, xb, xc, xk⟩ := x
      simp only at hc0 hc1 hc2 hc3 hc4
      have hbd2 : out.length + 12 ≤ 10000000000 := hbd
      go_wp2_with (first | (go_at_call 47; refine (renc_any xo xa xb xc xk _).mono ?_; rintro _ w2 ⟨r2, c2, rfl, ho2, hb2⟩; have HO2 := Lib.hid (ints_b ho2 (encI_byte _ _ _ _ _)); clear ho2; have hb2s := hb2.size) | (at_builtin; refine wpList_append_ks Try.underlying29 infoU8 rfl (by omega) (by rfl) _ _ (by rfl) W1.heap.size r r2 c c2 out (encI xo xa xb xc xk) (by rfl) (by rfl) (HO.out.below hb2 (Nat.le_refl _)) HO2.out (by rw [encI_len]; omega) (by omega) ?_; intro r' c' w3 hown3 hbw3))
      have HO3 := Lib.hid hown3
      clear hown3
      go_roundg (code.length - (k + 1))
      case measure => omega
      case rel => exact ⟨k + 1, ⟨w3, (e.h.trans (hb2.mono hes)).trans hbw3⟩, r', c', out ++ encI xo xa xb xc xk, by first | rfl | (simp [encI_len]; done), by go_num, by omega, by omega, rfl, by rw [List.length_append, encI_len]; omega, HO3, HQ2⟩
    · obtain rfl : k = code.length := by omega
      have HQ1 : Hid (out = num8 code.length ++ code.flatMap Ins.by8) := Lib.hid (by rw [HQ.out, List.take_length])
      clear HQ hkx hlt hk HLB0
      go_wp2_with (first | (go_at_call 46; refine (rnum_any _ hn2 _).mono ?_; rintro _ w2 ⟨r2, c2, rfl, ho2, hb2⟩; have HO2 := Lib.hid (ints8 ho2); clear ho2; have hb2s := hb2.size) | (at_builtin; refine wpList_append_ks Try.underlying29 infoU8 rfl (by omega) (by rfl) _ _ (by rfl) W1.heap.size r r2 c c2 out (num8 types.length) (by rfl) (by rfl) (HO.out.below hb2 (Nat.le_refl _)) HO2.out (by rw [num8_len]; omega) (by omega) ?_; intro r3 c3 w3 hown3 hbw3))
      have HO3 := Lib.hid hown3
      have hbe3 := (e.h.trans (hb2.mono hes)).trans hbw3
      have hb3s := hbe3.size
      clear hown3
      have HLB1 : Hid (∀ k, (num8 code.length ++ code.flatMap Ins.by8 ++ num8 types.length ++ (types.take k).flatMap Fx.by8).length ≤ 10000000000) := Lib.hid (fun k => by have := flat_le Fx.by8 types k; simp only [List.length_append, num8_len]; omega)
      go_loopg [3, 5] types.length (fun kx s3 s5 wr => ∃ (k : Nat) (e : Later W1) (r : Option Addr) (c : Nat) (out : List Int), s3 = .slice r out.length c ∧ s5 = .int .i64 k ∧ k ≤ types.length ∧ types.length - k ≤ kx ∧ wr = e.w ∧ out.length ≤ 10000000000 ∧ Hid (OwnK .u8 5 e.w W1.heap.size r c out) ∧ Hid (out = num8 code.length ++ code.flatMap Ins.by8 ++ num8 types.length ++ (types.take k).flatMap Fx.by8))
      case atStart => exact ⟨0, ⟨w3, hbe3⟩, r3, c3, out ++ num8 types.length, by first | rfl | (simp [num8_len]; done), by first | rfl | go_num, by omega, by omega, rfl, by have h := HLB1.out 0; rw [List.take_zero, List.flatMap_nil, List.append_nil, ← HQ1.out] at h; exact h, HO3, Lib.hid (by rw [HQ1.out]; simp)⟩
      case round =>
        clear HO3
        obtain ⟨k, e, r, c, out, rfl, rfl, hk, hkx, rfl, hol, HO, HQ⟩ := hrel
        have hes := e.h.size
        by_cases hlt : k < types.length
        · have hk1 : (0 : Int) ≤ (k : Int) := by omega
          have hk2 : (k : Int) < types.length := by omega
          have HQ2 : Hid (out ++ Fx.by8 (types.getD k default) = num8 code.length ++ code.flatMap Ins.by8 ++ num8 types.length ++ (types.take (k + 1)).flatMap Fx.by8) := Lib.hid (by rw [HQ.out, flat_take Fx.by8 hlt, List.append_assoc])
          have hbd : out.length + (Fx.by8 (types.getD k default)).length ≤ 10000000000 := by rw [← List.length_append, HQ2.out]; exact HLB1.out _
          obtain ⟨bX, off, rfl, hb, hc⟩ := HS2.out.at_ hlt
          have hc0 : e.w.cell? ⟨bX, off + k * 10, none⟩ = some (.int .i64 (types.getD k default).bits) := (e.h.cell (p := ⟨bX, off + k * 10, none⟩) hb).trans (hc 0 _ rfl)
          have hc1 : e.w.cell? ⟨bX, off + k * 10 + 1, none⟩ = some (.bool (types.getD k default).sg) := (e.h.cell (p := ⟨bX, off + k * 10 + 1, none⟩) hb).trans (hc 1 _ rfl)
          have hc2 : e.w.cell? ⟨bX, off + k * 10 + 2, none⟩ = some (.int .i64 (types.getD k default).num) := (e.h.cell (p := ⟨bX, off + k * 10 + 2, none⟩) hb).trans (hc 2 _ rfl)
          have hc3 : e.w.cell? ⟨bX, off + k * 10 + 3, none⟩ = some (.int .i64 (types.getD k default).off) := (e.h.cell (p := ⟨bX, off + k * 10 + 3, none⟩) hb).trans (hc 3 _ rfl)
          have hc4 : e.w.cell? ⟨bX, off + k * 10 + 4, none⟩ = some (.int .i64 (types.getD k default).den) := (e.h.cell (p := ⟨bX, off + k * 10 + 4, none⟩) hb).trans (hc 4 _ rfl)
          have hc5 : e.w.cell? ⟨bX, off + k * 10 + 5, none⟩ = some (.int .i64 (types.getD k default).m) := (e.h.cell (p := ⟨bX, off + k * 10 + 5, none⟩) hb).trans (hc 5 _ rfl)
          have hc6 : e.w.cell? ⟨bX, off + k * 10 + 6, none⟩ = some (.int .i64 (types.getD k default).kg) := (e.h.cell (p := ⟨bX, off + k * 10 + 6, none⟩) hb).trans (hc 6 _ rfl)
          have hc7 : e.w.cell? ⟨bX, off + k * 10 + 7, none⟩ = some (.int .i64 (types.getD k default).s) := (e.h.cell (p := ⟨bX, off + k * 10 + 7, none⟩) hb).trans (hc 7 _ rfl)
          have hc8 : e.w.cell? ⟨bX, off + k * 10 + 8, none⟩ = some (.int .i64 (types.getD k default).a) := (e.h.cell (p := ⟨bX, off + k * 10 + 8, none⟩) hb).trans (hc 8 _ rfl)
          have hc9 : e.w.cell? ⟨bX, off + k * 10 + 9, none⟩ = some (.int .i64 (types.getD k default).k) := (e.h.cell (p := ⟨bX, off + k * 10 + 9, none⟩) hb).trans (hc 9 _ rfl)
          clear hc
          have hok := HG2.out _ (getD_mem_of hlt)
          generalize types.getD k default = x at *
          obtain ⟨x0, x1, x2, x3, x4, x5, x6, x7, x8, x9⟩ := x
          simp only at hc0 hc1 hc2 hc3 hc4 hc5 hc6 hc7 hc8 hc9
          obtain ⟨bv, hbv⟩ : ∃ v : Int, (if x1 then 1 else 0) = v := ⟨_, rfl⟩
          have HBIT := Lib.hid (bit_any x1 bv hbv)
          have HOK : Hid (∀ y ∈ [x0, bv, x2, x3, x4, x5, x6, x7, x8, x9], I64 y) := Lib.hid (by
            obtain ⟨o0, o2, o3, o4, o5, o6, o7, o8, o9⟩ := hok
            simp only at o0 o2 o3 o4 o5 o6 o7 o8 o9
            have ob : I64 bv := by rw [← hbv]; cases x1 <;> exact (by rfl)
            intro y hy
            simp only [List.mem_cons, List.not_mem_nil, or_false] at hy
            rcases hy with rfl | rfl | rfl | rfl | rfl | rfl | rfl | rfl | rfl | rfl <;> assumption)
          have HFB : Hid (Fx.by8 ⟨x0, x1, x2, x3, x4, x5, x6, x7, x8, x9⟩ = nums8 [x0, bv, x2, x3, x4, x5, x6, x7, x8, x9]) := Lib.hid (by unfold Fx.by8 Fx.nums; rw [← hbv])
          rw [HFB.out] at HQ2 hbd
          rw [nums8_len] at hbd
          simp only [List.length_cons, List.length_nil] at hbd
          clear hok hbv
          go_wp2
          have d : ∀ j : Nat, (e.w.alloc (.cells #[.int .i64 x0, .bool x1, .int .i64 x2, .int .i64 x3, .int .i64 x4, .int .i64 x5, .int .i64 x6, .int .i64 x7, .int .i64 x8, .int .i64 x9] 59)).cell? ⟨e.w.heap.size, j, none⟩ = (#[.int .i64 x0, .bool x1, .int .i64 x2, .int .i64 x3, .int .i64 x4, .int .i64 x5, .int .i64 x6, .int .i64 x7, .int .i64 x8, .int .i64 x9] : Array Value)[j]? := fun j => World.cell?_alloc_new _ _ _ _
          have hBx : Below W1.heap.size W1 (e.w.alloc (.cells #[.int .i64 x0, .bool x1, .int .i64 x2, .int .i64 x3, .int .i64 x4, .int .i64 x5, .int .i64 x6, .int .i64 x7, .int .i64 x8, .int .i64 x9] 59)) := e.h.alloc hes _
          have hzx : (e.w.alloc (.cells #[.int .i64 x0, .bool x1, .int .i64 x2, .int .i64 x3, .int .i64 x4, .int .i64 x5, .int .i64 x6, .int .i64 x7, .int .i64 x8, .int .i64 x9] 59)).heap.size = e.w.heap.size + 1 := World.size_alloc _ _
          have HOx := Lib.hid (HO.out.below ((Below.refl e.w.heap.size e.w).alloc (Nat.le_refl _) (.cells #[.int .i64 x0, .bool x1, .int .i64 x2, .int .i64 x3, .int .i64 x4, .int .i64 x5, .int .i64 x6, .int .i64 x7, .int .i64 x8, .int .i64 x9] 59)) (Nat.le_refl _))
          generalize e.w.alloc (.cells #[.int .i64 x0, .bool x1, .int .i64 x2, .int .i64 x3, .int .i64 x4, .int .i64 x5, .int .i64 x6, .int .i64 x7, .int .i64 x8, .int .i64 x9] 59) = Wx at *
          refine wp_still_tail 26 (by kernel_rfl) (by kernel_rfl) ?_
          intro W hW hWs
          have hlx : e.w.heap.size < Wx.heap.size := by omega
          have d0 : W.cell? ⟨e.w.heap.size, 0, none⟩ = some (.int .i64 x0) := (hW.cell (p := ⟨e.w.heap.size, 0, none⟩) hlx).trans (d 0)
          have d1 : W.cell? ⟨e.w.heap.size, 1, none⟩ = some (.bool x1) := (hW.cell (p := ⟨e.w.heap.size, 1, none⟩) hlx).trans (d 1)
          have d2 : W.cell? ⟨e.w.heap.size, 2, none⟩ = some (.int .i64 x2) := (hW.cell (p := ⟨e.w.heap.size, 2, none⟩) hlx).trans (d 2)
          have d3 : W.cell? ⟨e.w.heap.size, 3, none⟩ = some (.int .i64 x3) := (hW.cell (p := ⟨e.w.heap.size, 3, none⟩) hlx).trans (d 3)
          have d4 : W.cell? ⟨e.w.heap.size, 4, none⟩ = some (.int .i64 x4) := (hW.cell (p := ⟨e.w.heap.size, 4, none⟩) hlx).trans (d 4)
          have d5 : W.cell? ⟨e.w.heap.size, 5, none⟩ = some (.int .i64 x5) := (hW.cell (p := ⟨e.w.heap.size, 5, none⟩) hlx).trans (d 5)
          have d6 : W.cell? ⟨e.w.heap.size, 6, none⟩ = some (.int .i64 x6) := (hW.cell (p := ⟨e.w.heap.size, 6, none⟩) hlx).trans (d 6)
          have d7 : W.cell? ⟨e.w.heap.size, 7, none⟩ = some (.int .i64 x7) := (hW.cell (p := ⟨e.w.heap.size, 7, none⟩) hlx).trans (d 7)
          have d8 : W.cell? ⟨e.w.heap.size, 8, none⟩ = some (.int .i64 x8) := (hW.cell (p := ⟨e.w.heap.size, 8, none⟩) hlx).trans (d 8)
          have d9 : W.cell? ⟨e.w.heap.size, 9, none⟩ = some (.int .i64 x9) := (hW.cell (p := ⟨e.w.heap.size, 9, none⟩) hlx).trans (d 9)
          clear d
          simp only [List.take_succ_cons, List.take_zero, List.drop_succ_cons, List.drop_zero]
          repeat (first | (refine wpStill_step (fun K hK => ?_); go_simp; refine hK _ ?_; clear hK K) | (refine wpStill_step (fun K hK => ?_); go_simp; refine ⟨_, HBIT.out _, hK _ ?_⟩; clear hK K))
          refine wpStill_nil ?_
          go_wp2
          have HL10 := Lib.hid ((own_built .i64 3 W W.heap.size [x0, bv, x2, x3, x4, x5, x6, x7, x8, x9] (Nat.le_refl _) (by simp [maxLen])).ints HOK.out)
          have HOy := Lib.hid (HOx.out.below (hW.trans ((Below.refl Wx.heap.size W).alloc hW.size (.cells #[.int .i64 x0, .int .i64 bv, .int .i64 x2, .int .i64 x3, .int .i64 x4, .int .i64 x5, .int .i64 x6, .int .i64 x7, .int .i64 x8, .int .i64 x9] 3))) (Nat.le_refl _))
          have hBy : Below W1.heap.size W1 (W.alloc (.cells #[.int .i64 x0, .int .i64 bv, .int .i64 x2, .int .i64 x3, .int .i64 x4, .int .i64 x5, .int .i64 x6, .int .i64 x7, .int .i64 x8, .int .i64 x9] 3)) := (hBx.trans (hW.mono hBx.size)).alloc (by omega) _
          have hzy : W.heap.size < (W.alloc (.cells #[.int .i64 x0, .int .i64 bv, .int .i64 x2, .int .i64 x3, .int .i64 x4, .int .i64 x5, .int .i64 x6, .int .i64 x7, .int .i64 x8, .int .i64 x9] 3)).heap.size := by rw [World.size_alloc]; omega
          have HL10b : Hid (IsInts (W.alloc (.cells #[.int .i64 x0, .int .i64 bv, .int .i64 x2, .int .i64 x3, .int .i64 x4, .int .i64 x5, .int .i64 x6, .int .i64 x7, .int .i64 x8, .int .i64 x9] 3)) (some ⟨W.heap.size, 0, none⟩) 10 .i64 [x0, bv, x2, x3, x4, x5, x6, x7, x8, x9]) := HL10
          clear HL10 HOx
          generalize W.alloc (.cells #[.int .i64 x0, .int .i64 bv, .int .i64 x2, .int .i64 x3, .int .i64 x4, .int .i64 x5, .int .i64 x6, .int .i64 x7, .int .i64 x8, .int .i64 x9] 3) = W3 at *
          have hL : [x0, bv, x2, x3, x4, x5, x6, x7, x8, x9].length = 10 := rfl
          generalize [x0, bv, x2, x3, x4, x5, x6, x7, x8, x9] = L at *
          clear d0 d1 d2 d3 d4 d5 d6 d7 d8 d9 hc0 hc1 hc2 hc3 hc4 hc5 hc6 hc7 hc8 hc9 HBIT
          have HLL := Lib.hid hL
          clear hL
          have hA3 : W.heap.size = e.w.heap.size + 1 := by omega
          have HNA : Hid (∀ a, r = some a → a.block ≠ W.heap.size) := Lib.hid (fun a ha => by have := (HO.out.lt a ha).2; omega)
          go_loopg [3, 8] 10 (fun kx s3 s8 wr => ∃ (j : Nat) (r : Option Addr) (c : Nat) (out2 : List Int), s3 = .slice r out2.length c ∧ s8 = .int .i64 j ∧ j ≤ 10 ∧ 10 - j ≤ kx ∧ Below W1.heap.size W1 wr ∧ W3.heap.size ≤ wr.heap.size ∧ Hid (wr.heap[W.heap.size]? = W3.heap[W.heap.size]?) ∧ Hid (∀ a, r = some a → a.block ≠ W.heap.size) ∧ out2.length ≤ 10000000000 ∧ Hid (OwnK .u8 5 wr W1.heap.size r c out2) ∧ Hid (out2 = out ++ nums8 (L.take j)) ∧ Hid (out2.length = out.length + 8 * j))
          case atStart => exact ⟨0, r, c, out, rfl, rfl, by omega, by omega, hBy, Nat.le_refl _, Lib.hid rfl, HNA, hol, HOy, Lib.hid (by simp [nums8]), Lib.hid (by omega)⟩
          case round =>
            clear HOy HNA
            obtain ⟨j, r, c, out2, rfl, rfl, hj, hjx, hBr, hrs, HKA, HNA, hol2, HO2, HQj, HLj⟩ := hrel
            have hBrs := hBr.size
            have hByS := hBy.size
            by_cases hjl : j < 10
            · have hj1 : (0 : Int) ≤ (j : Int) := by omega
              have hj2 : (j : Int) < 10 := by omega
              obtain ⟨bL, ofL, hre, hbL, hcL⟩ := HL10b.out.cells (fun e => by have := HLL.out; rw [e] at this; simp at this)
              simp only [Option.some.injEq, Addr.mk.injEq, and_true] at hre
              obtain ⟨rfl, rfl⟩ := hre
              have hcj : wr.cell? ⟨e.w.heap.size + 1, j, none⟩ = some (.int .i64 (L.getD j 0)) := by
                have := (World.cell?_of_block (a := ⟨W.heap.size, 0 + j, none⟩) HKA.out).trans (hcL j (by rw [HLL.out]; exact hjl))
                rw [Nat.zero_add, hA3] at this
                exact this
              clear hcL
              have hyi : I64 (L.getD j 0) := HOK.out _ (getD_mem' (by rw [HLL.out]; exact hjl))
              have HQn := Lib.hid (nums8_take (l := L) (k := j) (by rw [HLL.out]; exact hjl))
              generalize L.getD j 0 = y at *
              have hbd2 : out2.length + 8 ≤ 10000000000 := by have := HLj.out; omega
              go_wp2_with (first | (go_at_call 46; refine (rnum_any _ hyi _).mono ?_; rintro _ w4 ⟨r4, c4, rfl, ho4, hb4⟩; have HO4 := Lib.hid (ints8 ho4); clear ho4; have hb4s := hb4.size) | (at_builtin; refine wpList_append_ksf Try.underlying29 infoU8 rfl (by omega) (by rfl) _ _ (by rfl) W1.heap.size r r4 c c4 out2 (num8 y) (by rfl) (by rfl) (HO2.out.below hb4 (Nat.le_refl _)) HO4.out (by rw [num8_len]; omega) (by omega) ?_; intro r5 c5 w5 hown5 hbw5 hst5 hrr5))
              have HO5 := Lib.hid hown5
              have HKA5 : Hid (w5.heap[W.heap.size]? = W3.heap[W.heap.size]?) := Lib.hid ((hst5 _ (by omega) HNA.out).trans ((hb4.block _ (by omega)).trans HKA.out))
              have HNA5 : Hid (∀ a, r5 = some a → a.block ≠ W.heap.size) := Lib.hid (fun a ha => by
                rcases hrr5 a ha with ⟨a0, h1, h2⟩ | h1
                · rw [← h2]; exact HNA.out a0 h1
                · omega)
              have hbw5s := hbw5.size
              clear hown5 hst5 hrr5
              go_roundg (10 - (j + 1))
              case measure => omega
              case rel => exact ⟨j + 1, r5, c5, out2 ++ num8 y, by first | rfl | (simp [num8_len]; done), by go_num, by omega, by omega, (hBr.trans (hb4.mono hBrs)).trans hbw5, by omega, HKA5, HNA5, by rw [List.length_append, num8_len]; omega, HO5, Lib.hid (by rw [HQj.out, HQn.out, List.append_assoc]), Lib.hid (by rw [List.length_append, num8_len, HLj.out]; omega)⟩
            · obtain rfl : j = 10 := by omega
              have HQe : Hid (out2 = out ++ nums8 L) := Lib.hid (by rw [HQj.out, List.take_of_length_le (by rw [HLL.out]; exact Nat.le_refl _)])
              clear HQj
              go_wp2
              go_roundg (types.length - (k + 1))
              case measure => omega
              case rel => exact ⟨k + 1, ⟨wr, hBr⟩, r, c, out2, rfl, by go_num, by omega, by omega, rfl, hol2, HO2, Lib.hid (by rw [HQe.out]; exact HQ2.out)⟩
        · obtain rfl : k = types.length := by omega
          have HQ1 : Hid (out = num8 code.length ++ code.flatMap Ins.by8 ++ num8 types.length ++ types.flatMap Fx.by8) := Lib.hid (by rw [HQ.out, List.take_length])
          clear HQ hkx hlt hk HLB1
          go_wp2_with (first | (go_at_call 46; refine (rnum_any _ hn3 _).mono ?_; rintro _ w2 ⟨r2, c2, rfl, ho2, hb2⟩; have HO2 := Lib.hid (ints8 ho2); clear ho2; have hb2s := hb2.size) | (at_builtin; refine wpList_append_ks Try.underlying29 infoU8 rfl (by omega) (by rfl) _ _ (by rfl) W1.heap.size r r2 c c2 out (num8 curves.length) (by rfl) (by rfl) (HO.out.below hb2 (Nat.le_refl _)) HO2.out (by rw [num8_len]; omega) (by omega) ?_; intro r3 c3 w3 hown3 hbw3))
          have HO3 := Lib.hid hown3
          have hbe3 := (e.h.trans (hb2.mono hes)).trans hbw3
          have hb3s := hbe3.size
          clear hown3
          have HLB2 : Hid (∀ k, (num8 code.length ++ code.flatMap Ins.by8 ++ num8 types.length ++ types.flatMap Fx.by8 ++ num8 curves.length ++ (curves.take k).flatMap (fun c : Cv => curveB8 c.p)).length ≤ 10000000000) := Lib.hid (fun k => by have := flat_le (fun c : Cv => curveB8 c.p) curves k; simp only [List.length_append, num8_len]; omega)
          go_loopg [3, 9] curves.length (fun kx s3 s9 wr => ∃ (k : Nat) (e : Later W1) (r : Option Addr) (c : Nat) (out : List Int), s3 = .slice r out.length c ∧ s9 = .int .i64 k ∧ k ≤ curves.length ∧ curves.length - k ≤ kx ∧ wr = e.w ∧ out.length ≤ 10000000000 ∧ Hid (OwnK .u8 5 e.w W1.heap.size r c out) ∧ Hid (out = num8 code.length ++ code.flatMap Ins.by8 ++ num8 types.length ++ types.flatMap Fx.by8 ++ num8 curves.length ++ (curves.take k).flatMap (fun c : Cv => curveB8 c.p)))
          case atStart => exact ⟨0, ⟨w3, hbe3⟩, r3, c3, out ++ num8 curves.length, by first | rfl | (simp [num8_len]; done), by first | rfl | go_num, by omega, by omega, rfl, by have h := HLB2.out 0; rw [List.take_zero, List.flatMap_nil, List.append_nil, ← HQ1.out] at h; exact h, HO3, Lib.hid (by rw [HQ1.out]; simp)⟩
          case round =>
            clear HO3
            obtain ⟨k, e, r, c, out, rfl, rfl, hk, hkx, rfl, hol, HO, HQ⟩ := hrel
            have hes := e.h.size
            by_cases hlt : k < curves.length
            · have hk1 : (0 : Int) ≤ (k : Int) := by omega
              have hk2 : (k : Int) < curves.length := by omega
              have HQ2 : Hid (out ++ (fun c : Cv => curveB8 c.p) (curves.getD k default) = num8 code.length ++ code.flatMap Ins.by8 ++ num8 types.length ++ types.flatMap Fx.by8 ++ num8 curves.length ++ (curves.take (k + 1)).flatMap (fun c : Cv => curveB8 c.p)) := Lib.hid (by rw [HQ.out, flat_take (fun c : Cv => curveB8 c.p) hlt, List.append_assoc])
              have hbd : out.length + ((fun c : Cv => curveB8 c.p) (curves.getD k default)).length ≤ 10000000000 := by rw [← List.length_append, HQ2.out]; exact HLB2.out _
              obtain ⟨bX, off, rfl, hb, hc⟩ := HS3.out.at_ hlt
              have hc0 : W1.cell? ⟨bX, off + k * 2, none⟩ = some (.slice (curves.getD k default).rx (curves.getD k default).X.length (curves.getD k default).cx) := hc 0 _ rfl
              have hc1 : W1.cell? ⟨bX, off + k * 2 + 1, none⟩ = some (.slice (curves.getD k default).ry (curves.getD k default).Y.length (curves.getD k default).cy) := hc 1 _ rfl
              clear hc
              obtain ⟨hoX, hoY⟩ := HG3.out _ (getD_mem_of hlt)
              generalize curves.getD k default = x at *
              obtain ⟨xr, xc, X, yr, yc, Y⟩ := x
              simp only at hc0 hc1 hoX hoY
              simp only [curveB8, Cv.p, List.length_append, list8_len] at hbd
              have HQ3 : Hid ((out ++ list8 X) ++ list8 Y = num8 code.length ++ code.flatMap Ins.by8 ++ num8 types.length ++ types.flatMap Fx.by8 ++ num8 curves.length ++ (curves.take (k + 1)).flatMap (fun c : Cv => curveB8 c.p)) := Lib.hid (by rw [List.append_assoc]; exact HQ2.out)
              have HXY := Lib.hid (And.intro hoX hoY)
              clear hoX hoY
              have es := hes
              have tk0 : True := trivial
              have tk1 : True := trivial
              have tk2 : True := trivial
              have tk3 : True := trivial
              go_wp2_with (first | (have _t := tk0; go_at_call 49; refine (rlist_any xr xc X _ (HXY.out.1.later e.h) (by omega)).mono ?_; rintro _ waA ⟨raA, caA, rfl, hoaA, hbaA⟩; have HOaA := Lib.hid (ints_b hoaA (list8_byte _)); clear hoaA tk0 _t; have hbaAs := hbaA.size) | (have _t := tk1; at_builtin; refine wpList_append_ks Try.underlying29 infoU8 rfl (by omega) (by rfl) _ _ (by rfl) W1.heap.size r raA c caA out (list8 X) (by rfl) (by rfl) (HO.out.below hbaA (Nat.le_refl _)) HOaA.out (by rw [list8_len]; omega) (by omega) ?_; intro rA cA wA hownA hbwA; obtain ⟨oA, hoA⟩ : ∃ l, l = out ++ (list8 X) := ⟨_, rfl⟩; rw [← hoA] at hownA ⊢; have HQA := Lib.hid hoA; have hlenA : oA.length = out.length + (list8 X).length := (by rw [hoA, List.length_append]); rw [list8_len] at hlenA; have holA : oA.length ≤ 10000000000 := (by omega); have HOA := Lib.hid hownA; have HLnA := Lib.hid hlenA; clear hownA hoA hlenA tk1 _t; obtain ⟨eA, hweA⟩ : ∃ e2 : Later W1, wA = e2.w := ⟨⟨wA, (e.h.trans (hbaA.mono es)).trans hbwA⟩, rfl⟩; subst hweA; have eAs := eA.h.size) | (have _t := tk2; go_at_call 49; refine (rlist_any yr yc Y _ (HXY.out.2.later eA.h) (by omega)).mono ?_; rintro _ waB ⟨raB, caB, rfl, hoaB, hbaB⟩; have HOaB := Lib.hid (ints_b hoaB (list8_byte _)); clear hoaB tk2 _t; have hbaBs := hbaB.size) | (have _t := tk3; at_builtin; refine wpList_append_ks Try.underlying29 infoU8 rfl (by omega) (by rfl) _ _ (by rfl) W1.heap.size rA raB cA caB oA (list8 Y) (by rfl) (by rfl) (HOA.out.below hbaB (Nat.le_refl _)) HOaB.out (by rw [list8_len]; omega) (by omega) ?_; intro rB cB wB hownB hbwB; obtain ⟨oB, hoB⟩ : ∃ l, l = oA ++ (list8 Y) := ⟨_, rfl⟩; rw [← hoB] at hownB ⊢; have HQB := Lib.hid hoB; have hlenB : oB.length = oA.length + (list8 Y).length := (by rw [hoB, List.length_append]); rw [list8_len] at hlenB; have holB : oB.length ≤ 10000000000 := (by have hhA := HLnA.out; omega); have HOB := Lib.hid hownB; have HLnB := Lib.hid hlenB; clear hownB hoB hlenB tk3 _t; obtain ⟨eB, hweB⟩ : ∃ e2 : Later W1, wB = e2.w := ⟨⟨wB, (eA.h.trans (hbaB.mono eAs)).trans hbwB⟩, rfl⟩; subst hweB; have eBs := eB.h.size))
              go_roundg (curves.length - (k + 1))
              case measure => omega
              case rel => exact ⟨k + 1, eB, rB, cB, oB, rfl, by go_num, by omega, by omega, rfl, holB, HOB, Lib.hid (by rw [HQB.out, HQA.out]; exact HQ3.out)⟩
            · obtain rfl : k = curves.length := by omega
              have HQ1 : Hid (out = num8 code.length ++ code.flatMap Ins.by8 ++ num8 types.length ++ types.flatMap Fx.by8 ++ num8 curves.length ++ curves.flatMap (fun c => curveB8 c.p)) := Lib.hid (by rw [HQ.out, List.take_length])
              clear HQ hkx hlt hk HLB2
              go_wp2_with (first | (go_at_call 46; refine (rnum_any _ hn4 _).mono ?_; rintro _ w2 ⟨r2, c2, rfl, ho2, hb2⟩; have HO2 := Lib.hid (ints8 ho2); clear ho2; have hb2s := hb2.size) | (at_builtin; refine wpList_append_ks Try.underlying29 infoU8 rfl (by omega) (by rfl) _ _ (by rfl) W1.heap.size r r2 c c2 out (num8 maps.length) (by rfl) (by rfl) (HO.out.below hb2 (Nat.le_refl _)) HO2.out (by rw [num8_len]; omega) (by omega) ?_; intro r3 c3 w3 hown3 hbw3))
              have HO3 := Lib.hid hown3
              have hbe3 := (e.h.trans (hb2.mono hes)).trans hbw3
              have hb3s := hbe3.size
              clear hown3
              have HLB3 : Hid (∀ k, (num8 code.length ++ code.flatMap Ins.by8 ++ num8 types.length ++ types.flatMap Fx.by8 ++ num8 curves.length ++ curves.flatMap (fun c => curveB8 c.p) ++ num8 maps.length ++ (maps.take k).flatMap (fun m : Mp => mapB8 m.p)).length ≤ 10000000000) := Lib.hid (fun k => by have := flat_le (fun m : Mp => mapB8 m.p) maps k; simp only [List.length_append, num8_len]; omega)
              go_loopg [3, 10] maps.length (fun kx s3 s10 wr => ∃ (k : Nat) (e : Later W1) (r : Option Addr) (c : Nat) (out : List Int), s3 = .slice r out.length c ∧ s10 = .int .i64 k ∧ k ≤ maps.length ∧ maps.length - k ≤ kx ∧ wr = e.w ∧ out.length ≤ 10000000000 ∧ Hid (OwnK .u8 5 e.w W1.heap.size r c out) ∧ Hid (out = num8 code.length ++ code.flatMap Ins.by8 ++ num8 types.length ++ types.flatMap Fx.by8 ++ num8 curves.length ++ curves.flatMap (fun c => curveB8 c.p) ++ num8 maps.length ++ (maps.take k).flatMap (fun m : Mp => mapB8 m.p)))
              case atStart => exact ⟨0, ⟨w3, hbe3⟩, r3, c3, out ++ num8 maps.length, by first | rfl | (simp [num8_len]; done), by first | rfl | go_num, by omega, by omega, rfl, by have h := HLB3.out 0; rw [List.take_zero, List.flatMap_nil, List.append_nil, ← HQ1.out] at h; exact h, HO3, Lib.hid (by rw [HQ1.out]; simp)⟩
              case round =>
                clear HO3
                obtain ⟨k, e, r, c, out, rfl, rfl, hk, hkx, rfl, hol, HO, HQ⟩ := hrel
                have hes := e.h.size
                by_cases hlt : k < maps.length
                · have hk1 : (0 : Int) ≤ (k : Int) := by omega
                  have hk2 : (k : Int) < maps.length := by omega
                  have HQ2 : Hid (out ++ (fun m : Mp => mapB8 m.p) (maps.getD k default) = num8 code.length ++ code.flatMap Ins.by8 ++ num8 types.length ++ types.flatMap Fx.by8 ++ num8 curves.length ++ curves.flatMap (fun c => curveB8 c.p) ++ num8 maps.length ++ (maps.take (k + 1)).flatMap (fun m : Mp => mapB8 m.p)) := Lib.hid (by rw [HQ.out, flat_take (fun m : Mp => mapB8 m.p) hlt, List.append_assoc])
                  have hbd : out.length + ((fun m : Mp => mapB8 m.p) (maps.getD k default)).length ≤ 10000000000 := by rw [← List.length_append, HQ2.out]; exact HLB3.out _
                  obtain ⟨bX, off, rfl, hb, hc⟩ := HS4.out.at_ hlt
                  have hc0 : W1.cell? ⟨bX, off + k * 3, none⟩ = some (.slice (maps.getD k default).rx (maps.getD k default).X.length (maps.getD k default).cx) := hc 0 _ rfl
                  have hc1 : W1.cell? ⟨bX, off + k * 3 + 1, none⟩ = some (.slice (maps.getD k default).ry (maps.getD k default).Y.length (maps.getD k default).cy) := hc 1 _ rfl
                  have hc2 : W1.cell? ⟨bX, off + k * 3 + 2, none⟩ = some (.slice (maps.getD k default).rz (maps.getD k default).Z.length (maps.getD k default).cz) := hc 2 _ rfl
                  clear hc
                  obtain ⟨hoX, hoY, hoZ⟩ := HG4.out _ (getD_mem_of hlt)
                  generalize maps.getD k default = x at *
                  obtain ⟨xr, xc, X, yr, yc, Y, zr, zc, Z⟩ := x
                  simp only at hc0 hc1 hc2 hoX hoY hoZ
                  simp only [mapB8, Mp.p, List.length_append, list8_len] at hbd
                  have HQ3 : Hid (((out ++ list8 X) ++ list8 Y) ++ Z.flatMap list8 = num8 code.length ++ code.flatMap Ins.by8 ++ num8 types.length ++ types.flatMap Fx.by8 ++ num8 curves.length ++ curves.flatMap (fun c => curveB8 c.p) ++ num8 maps.length ++ (maps.take (k + 1)).flatMap (fun m : Mp => mapB8 m.p)) := Lib.hid (by refine Eq.trans ?_ HQ2.out; show _ = out ++ (list8 X ++ list8 Y ++ Z.flatMap list8); simp only [List.append_assoc])
                  have HXY := Lib.hid (And.intro hoX (And.intro hoY hoZ))
                  have hzl := Nat.le_trans hoZ.le hoZ.max
                  unfold maxLen at hzl
                  clear hoX hoY hoZ
                  have es := hes
                  have tk0 : True := trivial
                  have tk1 : True := trivial
                  have tk2 : True := trivial
                  have tk3 : True := trivial
                  go_wp2_with (first | (have _t := tk0; go_at_call 49; refine (rlist_any xr xc X _ (HXY.out.1.later e.h) (by omega)).mono ?_; rintro _ waA ⟨raA, caA, rfl, hoaA, hbaA⟩; have HOaA := Lib.hid (ints_b hoaA (list8_byte _)); clear hoaA tk0 _t; have hbaAs := hbaA.size) | (have _t := tk1; at_builtin; refine wpList_append_ks Try.underlying29 infoU8 rfl (by omega) (by rfl) _ _ (by rfl) W1.heap.size r raA c caA out (list8 X) (by rfl) (by rfl) (HO.out.below hbaA (Nat.le_refl _)) HOaA.out (by rw [list8_len]; omega) (by omega) ?_; intro rA cA wA hownA hbwA; obtain ⟨oA, hoA⟩ : ∃ l, l = out ++ (list8 X) := ⟨_, rfl⟩; rw [← hoA] at hownA ⊢; have HQA := Lib.hid hoA; have hlenA : oA.length = out.length + (list8 X).length := (by rw [hoA, List.length_append]); rw [list8_len] at hlenA; have holA : oA.length ≤ 10000000000 := (by omega); have HOA := Lib.hid hownA; have HLnA := Lib.hid hlenA; clear hownA hoA hlenA tk1 _t; obtain ⟨eA, hweA⟩ : ∃ e2 : Later W1, wA = e2.w := ⟨⟨wA, (e.h.trans (hbaA.mono es)).trans hbwA⟩, rfl⟩; subst hweA; have eAs := eA.h.size) | (have _t := tk2; go_at_call 49; refine (rlist_any yr yc Y _ (HXY.out.2.1.later eA.h) (by omega)).mono ?_; rintro _ waB ⟨raB, caB, rfl, hoaB, hbaB⟩; have HOaB := Lib.hid (ints_b hoaB (list8_byte _)); clear hoaB tk2 _t; have hbaBs := hbaB.size) | (have _t := tk3; at_builtin; refine wpList_append_ks Try.underlying29 infoU8 rfl (by omega) (by rfl) _ _ (by rfl) W1.heap.size rA raB cA caB oA (list8 Y) (by rfl) (by rfl) (HOA.out.below hbaB (Nat.le_refl _)) HOaB.out (by rw [list8_len]; omega) (by omega) ?_; intro rB cB wB hownB hbwB; obtain ⟨oB, hoB⟩ : ∃ l, l = oA ++ (list8 Y) := ⟨_, rfl⟩; rw [← hoB] at hownB ⊢; have HQB := Lib.hid hoB; have hlenB : oB.length = oA.length + (list8 Y).length := (by rw [hoB, List.length_append]); rw [list8_len] at hlenB; have holB : oB.length ≤ 10000000000 := (by have hhA := HLnA.out; omega); have HOB := Lib.hid hownB; have HLnB := Lib.hid hlenB; clear hownB hoB hlenB tk3 _t; obtain ⟨eB, hweB⟩ : ∃ e2 : Later W1, wB = e2.w := ⟨⟨wB, (eA.h.trans (hbaB.mono eAs)).trans hbwB⟩, rfl⟩; subst hweB; have eBs := eB.h.size))
                  have HLZ : Hid (∀ j, (oB ++ (Z.take j).flatMap list8).length ≤ 10000000000) := Lib.hid (fun j => by
                    have h1 := flat_le list8 Z j
                    have h2 := HLnA.out
                    have h3 := HLnB.out
                    rw [List.length_append]
                    omega)
                  go_loopg [3, 11] Z.length (fun kx s3 s11 wr => ∃ (j : Nat) (e2 : Later W1) (r : Option Addr) (c : Nat) (out2 : List Int), s3 = .slice r out2.length c ∧ s11 = .int .i64 j ∧ j ≤ Z.length ∧ Z.length - j ≤ kx ∧ wr = e2.w ∧ out2.length ≤ 10000000000 ∧ Hid (OwnK .u8 5 e2.w W1.heap.size r c out2) ∧ Hid (out2 = oB ++ (Z.take j).flatMap list8))
                  case atStart => exact ⟨0, eB, rB, cB, oB, rfl, rfl, by omega, by omega, rfl, holB, HOB, Lib.hid (by simp)⟩
                  case round =>
                    clear HOB HOA HO
                    obtain ⟨j, e2, r, c, out2, rfl, rfl, hj, hjx, rfl, hol2, HO2, HQj⟩ := hrel
                    have e2s := e2.h.size
                    by_cases hjl : j < Z.length
                    · have hj1 : (0 : Int) ≤ (j : Int) := by omega
                      have hj2 : (j : Int) < Z.length := by omega
                      obtain ⟨bZ, ofZ, rfl, hbZ, hcZ⟩ := HXY.out.2.2.cells (fun e => by subst e; simp at hjl)
                      obtain ⟨ri, ci, hcz, hzI⟩ := hcZ j hjl
                      clear hcZ
                      have HQn : Hid ((Z.take (j + 1)).flatMap list8 = (Z.take j).flatMap list8 ++ list8 (Z.getD j [])) := Lib.hid (flat_take list8 hjl)
                      have hbd2 : out2.length + (8 + 8 * (Z.getD j []).length) ≤ 10000000000 := by
                        have := HLZ.out (j + 1)
                        rw [HQn.out, ← List.append_assoc, ← HQj.out, List.length_append, list8_len] at this
                        exact this
                      have HZI := Lib.hid hzI
                      clear hzI
                      generalize Z.getD j [] = row at *
                      have tk0 : True := trivial
                      have tk1 : True := trivial
                      go_wp2_with (first | (have _t := tk0; go_at_call 49; refine (rlist_any ri ci row _ (HZI.out.later e2.h) (by omega)).mono ?_; rintro _ waD ⟨raD, caD, rfl, hoaD, hbaD⟩; have HOaD := Lib.hid (ints_b hoaD (list8_byte _)); clear hoaD tk0 _t; have hbaDs := hbaD.size) | (have _t := tk1; at_builtin; refine wpList_append_ks Try.underlying29 infoU8 rfl (by omega) (by rfl) _ _ (by rfl) W1.heap.size r raD c caD out2 (list8 row) (by rfl) (by rfl) (HO2.out.below hbaD (Nat.le_refl _)) HOaD.out (by rw [list8_len]; omega) (by omega) ?_; intro rD cD wD hownD hbwD; obtain ⟨oD, hoD⟩ : ∃ l, l = out2 ++ (list8 row) := ⟨_, rfl⟩; rw [← hoD] at hownD ⊢; have HQD := Lib.hid hoD; have hlenD : oD.length = out2.length + (list8 row).length := (by rw [hoD, List.length_append]); rw [list8_len] at hlenD; have holD : oD.length ≤ 10000000000 := (by omega); have HOD := Lib.hid hownD; have HLnD := Lib.hid hlenD; clear hownD hoD hlenD tk1 _t; obtain ⟨eD, hweD⟩ : ∃ e2 : Later W1, wD = e2.w := ⟨⟨wD, (e2.h.trans (hbaD.mono e2s)).trans hbwD⟩, rfl⟩; subst hweD; have eDs := eD.h.size))
                      go_roundg (Z.length - (j + 1))
                      case measure => omega
                      case rel => exact ⟨j + 1, eD, rD, cD, oD, rfl, by go_num, by omega, by omega, rfl, holD, HOD, Lib.hid (by rw [HQD.out, HQj.out, HQn.out, List.append_assoc])⟩
                    · obtain rfl : j = Z.length := by omega
                      have HQe : Hid (out2 = oB ++ Z.flatMap list8) := Lib.hid (by rw [HQj.out, List.take_length])
                      clear HQj HLZ
                      go_wp2
                      go_roundg (maps.length - (k + 1))
                      case measure => omega
                      case rel => exact ⟨k + 1, e2, r, c, out2, rfl, by go_num, by omega, by omega, rfl, hol2, HO2, Lib.hid (by rw [HQe.out, HQB.out, HQA.out]; exact HQ3.out)⟩
                · obtain rfl : k = maps.length := by omega
                  have HQ1 : Hid (out = num8 code.length ++ code.flatMap Ins.by8 ++ num8 types.length ++ types.flatMap Fx.by8 ++ num8 curves.length ++ curves.flatMap (fun c => curveB8 c.p) ++ num8 maps.length ++ maps.flatMap (fun m => mapB8 m.p)) := Lib.hid (by rw [HQ.out, List.take_length])
                  clear HQ hkx hlt hk HLB3
                  have HLnO : Hid (out.length = 8 + (code.flatMap Ins.by8).length + 8 + (types.flatMap Fx.by8).length + 8 + (curves.flatMap (fun c => curveB8 c.p)).length + 8 + (maps.flatMap (fun m => mapB8 m.p)).length) := Lib.hid (by rw [HQ1.out]; simp only [List.length_append, num8_len])
                  have es := hes
                  have tk0 : True := trivial
                  have tk1 : True := trivial
                  have tk2 : True := trivial
                  have tk3 : True := trivial
                  have tk4 : True := trivial
                  have tk5 : True := trivial
                  have tk6 : True := trivial
                  have tk7 : True := trivial
                  have tk8 : True := trivial
                  have tk9 : True := trivial
                  go_wp2_with (first | (have _t := tk0; go_at_call 46; refine (rnum_any cells hcl _).mono ?_; rintro _ waT0 ⟨raT0, caT0, rfl, hoaT0, hbaT0⟩; have HOaT0 := Lib.hid (ints_b hoaT0 (num8_byte _)); clear hoaT0 tk0 _t; have hbaT0s := hbaT0.size) | (have _t := tk1; at_builtin; refine wpList_append_ks Try.underlying29 infoU8 rfl (by omega) (by rfl) _ _ (by rfl) W1.heap.size r raT0 c caT0 out (num8 cells) (by rfl) (by rfl) (HO.out.below hbaT0 (Nat.le_refl _)) HOaT0.out (by rw [num8_len]; omega) (by omega) ?_; intro rT0 cT0 wT0 hownT0 hbwT0; obtain ⟨oT0, hoT0⟩ : ∃ l, l = out ++ (num8 cells) := ⟨_, rfl⟩; rw [← hoT0] at hownT0 ⊢; have HQT0 := Lib.hid hoT0; have hlenT0 : oT0.length = out.length + (num8 cells).length := (by rw [hoT0, List.length_append]); rw [num8_len] at hlenT0; have holT0 : oT0.length ≤ 10000000000 := (by have hhO := HLnO.out; omega); have HOT0 := Lib.hid hownT0; have HLnT0 := Lib.hid hlenT0; clear hownT0 hoT0 hlenT0 tk1 _t; obtain ⟨eT0, hweT0⟩ : ∃ e2 : Later W1, wT0 = e2.w := ⟨⟨wT0, (e.h.trans (hbaT0.mono es)).trans hbwT0⟩, rfl⟩; subst hweT0; have eT0s := eT0.h.size) | (have _t := tk2; go_at_call 49; refine (rlist_any ri ci inputs _ (HI1.out.later eT0.h) (by omega)).mono ?_; rintro _ waT1 ⟨raT1, caT1, rfl, hoaT1, hbaT1⟩; have HOaT1 := Lib.hid (ints_b hoaT1 (list8_byte _)); clear hoaT1 tk2 _t; have hbaT1s := hbaT1.size) | (have _t := tk3; at_builtin; refine wpList_append_ks Try.underlying29 infoU8 rfl (by omega) (by rfl) _ _ (by rfl) W1.heap.size rT0 raT1 cT0 caT1 oT0 (list8 inputs) (by rfl) (by rfl) (HOT0.out.below hbaT1 (Nat.le_refl _)) HOaT1.out (by rw [list8_len]; omega) (by omega) ?_; intro rT1 cT1 wT1 hownT1 hbwT1; obtain ⟨oT1, hoT1⟩ : ∃ l, l = oT0 ++ (list8 inputs) := ⟨_, rfl⟩; rw [← hoT1] at hownT1 ⊢; have HQT1 := Lib.hid hoT1; have hlenT1 : oT1.length = oT0.length + (list8 inputs).length := (by rw [hoT1, List.length_append]); rw [list8_len] at hlenT1; have holT1 : oT1.length ≤ 10000000000 := (by have hhO := HLnO.out; have hhT0 := HLnT0.out; omega); have HOT1 := Lib.hid hownT1; have HLnT1 := Lib.hid hlenT1; clear hownT1 hoT1 hlenT1 tk3 _t; obtain ⟨eT1, hweT1⟩ : ∃ e2 : Later W1, wT1 = e2.w := ⟨⟨wT1, (eT0.h.trans (hbaT1.mono eT0s)).trans hbwT1⟩, rfl⟩; subst hweT1; have eT1s := eT1.h.size) | (have _t := tk4; go_at_call 49; refine (rlist_any rs cs states _ (HI2.out.later eT1.h) (by omega)).mono ?_; rintro _ waT2 ⟨raT2, caT2, rfl, hoaT2, hbaT2⟩; have HOaT2 := Lib.hid (ints_b hoaT2 (list8_byte _)); clear hoaT2 tk4 _t; have hbaT2s := hbaT2.size) | (have _t := tk5; at_builtin; refine wpList_append_ks Try.underlying29 infoU8 rfl (by omega) (by rfl) _ _ (by rfl) W1.heap.size rT1 raT2 cT1 caT2 oT1 (list8 states) (by rfl) (by rfl) (HOT1.out.below hbaT2 (Nat.le_refl _)) HOaT2.out (by rw [list8_len]; omega) (by omega) ?_; intro rT2 cT2 wT2 hownT2 hbwT2; obtain ⟨oT2, hoT2⟩ : ∃ l, l = oT1 ++ (list8 states) := ⟨_, rfl⟩; rw [← hoT2] at hownT2 ⊢; have HQT2 := Lib.hid hoT2; have hlenT2 : oT2.length = oT1.length + (list8 states).length := (by rw [hoT2, List.length_append]); rw [list8_len] at hlenT2; have holT2 : oT2.length ≤ 10000000000 := (by have hhO := HLnO.out; have hhT0 := HLnT0.out; have hhT1 := HLnT1.out; omega); have HOT2 := Lib.hid hownT2; have HLnT2 := Lib.hid hlenT2; clear hownT2 hoT2 hlenT2 tk5 _t; obtain ⟨eT2, hweT2⟩ : ∃ e2 : Later W1, wT2 = e2.w := ⟨⟨wT2, (eT1.h.trans (hbaT2.mono eT1s)).trans hbwT2⟩, rfl⟩; subst hweT2; have eT2s := eT2.h.size) | (have _t := tk6; go_at_call 49; refine (rlist_any ro co outputs _ (HI3.out.later eT2.h) (by omega)).mono ?_; rintro _ waT3 ⟨raT3, caT3, rfl, hoaT3, hbaT3⟩; have HOaT3 := Lib.hid (ints_b hoaT3 (list8_byte _)); clear hoaT3 tk6 _t; have hbaT3s := hbaT3.size) | (have _t := tk7; at_builtin; refine wpList_append_ks Try.underlying29 infoU8 rfl (by omega) (by rfl) _ _ (by rfl) W1.heap.size rT2 raT3 cT2 caT3 oT2 (list8 outputs) (by rfl) (by rfl) (HOT2.out.below hbaT3 (Nat.le_refl _)) HOaT3.out (by rw [list8_len]; omega) (by omega) ?_; intro rT3 cT3 wT3 hownT3 hbwT3; obtain ⟨oT3, hoT3⟩ : ∃ l, l = oT2 ++ (list8 outputs) := ⟨_, rfl⟩; rw [← hoT3] at hownT3 ⊢; have HQT3 := Lib.hid hoT3; have hlenT3 : oT3.length = oT2.length + (list8 outputs).length := (by rw [hoT3, List.length_append]); rw [list8_len] at hlenT3; have holT3 : oT3.length ≤ 10000000000 := (by have hhO := HLnO.out; have hhT0 := HLnT0.out; have hhT1 := HLnT1.out; have hhT2 := HLnT2.out; omega); have HOT3 := Lib.hid hownT3; have HLnT3 := Lib.hid hlenT3; clear hownT3 hoT3 hlenT3 tk7 _t; obtain ⟨eT3, hweT3⟩ : ∃ e2 : Later W1, wT3 = e2.w := ⟨⟨wT3, (eT2.h.trans (hbaT3.mono eT2s)).trans hbwT3⟩, rfl⟩; subst hweT3; have eT3s := eT3.h.size) | (have _t := tk8; go_at_call 49; refine (rlist_any rn cn initial _ (HI4.out.later eT3.h) (by omega)).mono ?_; rintro _ waT4 ⟨raT4, caT4, rfl, hoaT4, hbaT4⟩; have HOaT4 := Lib.hid (ints_b hoaT4 (list8_byte _)); clear hoaT4 tk8 _t; have hbaT4s := hbaT4.size) | (have _t := tk9; at_builtin; refine wpList_append_ks Try.underlying29 infoU8 rfl (by omega) (by rfl) _ _ (by rfl) W1.heap.size rT3 raT4 cT3 caT4 oT3 (list8 initial) (by rfl) (by rfl) (HOT3.out.below hbaT4 (Nat.le_refl _)) HOaT4.out (by rw [list8_len]; omega) (by omega) ?_; intro rT4 cT4 wT4 hownT4 hbwT4; obtain ⟨oT4, hoT4⟩ : ∃ l, l = oT3 ++ (list8 initial) := ⟨_, rfl⟩; rw [← hoT4] at hownT4 ⊢; have HQT4 := Lib.hid hoT4; have hlenT4 : oT4.length = oT3.length + (list8 initial).length := (by rw [hoT4, List.length_append]); rw [list8_len] at hlenT4; have holT4 : oT4.length ≤ 10000000000 := (by have hhO := HLnO.out; have hhT0 := HLnT0.out; have hhT1 := HLnT1.out; have hhT2 := HLnT2.out; have hhT3 := HLnT3.out; omega); have HOT4 := Lib.hid hownT4; have HLnT4 := Lib.hid hlenT4; clear hownT4 hoT4 hlenT4 tk9 _t; obtain ⟨eT4, hweT4⟩ : ∃ e2 : Later W1, wT4 = e2.w := ⟨⟨wT4, (eT3.h.trans (hbaT4.mono eT3s)).trans hbwT4⟩, rfl⟩; subst hweT4; have eT4s := eT4.h.size))
                  go_ret
                  have he : oT4 = res := by rw [HQT4.out, HQT3.out, HQT2.out, HQT1.out, HQT0.out, HQ1.out, HE.out]
                  subst he
                  exact ⟨rT4, cT4, rfl, HOT4.out.base (by omega), hB1.trans (eT4.h.mono (by omega))⟩
end Go.Proofs.Ytfooefiaenlhmaa
namespace Go.Proofs.Ytfooefiaenlhmaa
set_option linter.unusedVariables false
set_option linter.unusedSimpArgs false
open Go.RowKit Go.ChangeShapes Go.WideShapes Go.ChangeAt

def SxL (s : Sx) : Prop := ∀ bs, s = some bs → bs.length ≤ 100000
theorem Rdr.len {W0 w : World} {b : Nat} {s : Sx} (h : Rdr W0 w b s) : SxL s := by
  obtain ⟨_, _, _, ra, ca, bs, bad, _, _, _, hl, rfl⟩ := h
  intro bs' e
  cases bad
  · simp only [Bool.false_eq_true, if_false, Option.some.injEq] at e
    subst e; exact hl
  · simp at e
theorem pCount_le {size : Nat} {s : Sx} (h : SxL s) : (pCount size s).1 ≤ 100000 := by
  rw [pCount_eq]
  cases s with
  | none => simp [pInt]
  | some bs =>
    have hl := h bs rfl
    have hd : ∀ t, (pInt (some bs)).2 = some t → t.length ≤ 100000 := fun t ht => by
      unfold pInt at ht
      simp only at ht
      split at ht
      · simp only [Option.some.injEq] at ht
        rw [← ht, List.length_drop]; omega
      · cases ht
    cases h2 : (pInt (some bs)).2 with
    | none => simp
    | some t =>
      simp only
      split
      · rename_i hc
        have h3 := Nat.div_le_self t.length size
        have h4 := hd t h2
        simp only
        generalize t.length / size = q at *
        omega
      · simp
theorem pInt_wf (s : Sx) : I64 (pInt s).1 := by
  rw [pInt_take]
  unfold valB I64
  rw [IntKind.wrap_i64]
  simp [Lit.wf, IntKind.min, IntKind.max, IntKind.bits, IntKind.signed]
  omega
theorem pRep_wf (n : Nat) (s : Sx) : ∀ x ∈ (pRep pInt n s).1, I64 x := by
  induction n with
  | zero => intro x hx; simp [pRep] at hx
  | succ n ih =>
    intro x hx
    simp only [pRep, List.mem_append, List.mem_singleton] at hx
    rcases hx with hx | rfl
    · exact ih x hx
    · exact pInt_wf _
theorem OwnK.keepB {k : IntKind} {te : TypeId} {W W' : World} {base b : Nat} {r : Option Addr} {cap : Nat} {xs : List Int} (h : OwnK k te W base r cap xs) (hk : KeepB W.heap.size b W W') (hb : b < base) : OwnK k te W' base r cap xs := by
  refine ⟨h.1, ?_⟩
  rcases h.2 with ⟨h1, h2⟩ | ⟨g, c, cur, h1, h2, h3, h4⟩
  · exact Or.inl ⟨h1, h2⟩
  · refine Or.inr ⟨g, c, cur, h1, h2, ?_, h4⟩
    have hg : g < W.heap.size := by
      rcases Nat.lt_or_ge g W.heap.size with hlt | hge
      · exact hlt
      · rw [Array.getElem?_eq_none hge] at h3; cases h3
    rw [hk.2 g hg (by omega)]
    exact h3
theorem KeepB.mono {B B' Bo : Nat} {W W' : World} (h : KeepB B Bo W W') (hb : B' ≤ B) : KeepB B' Bo W W' := ⟨h.1, fun q hq hn => h.2 q (by omega) hn⟩
theorem below_keepB {B Bo : Nat} {W W' : World} (h : Below B W W') : KeepB B Bo W W' := ⟨h.mono (Nat.zero_le _), fun q hq _ => h.block q hq⟩
set_option maxRecDepth 100000 in
set_option maxHeartbeats 2000000 in
theorem rlst_any (b : Nat) (W0 w : World) (s : Sx) (h : Rdr W0 w b s) (hB : W0.heap.size ≤ b) (hb0 : Below W0.heap.size W0 w) : Calls Try.prog 96 #[.pointer (some ⟨b, 0, none⟩)] w fun e w' => ∃ r c, e = .returned (.slice r (pList s).1.length c) ∧ OwnK .i64 3 w' w.heap.size r c (pList s).1 ∧ Rdr W0 w' b (pList s).2 ∧ KeepB w.heap.size b w w' := by
  have hbl := h.lt
  have hb0s := hb0.size
  have HC := Lib.hid (rcount_any b 8 W0 w s h hB hb0 (by omega) (by omega))
  have hcl := pCount_le (size := 8) h.len
  have HE : Hid (pList s = pRep pInt (pCount 8 s).1 (pCount 8 s).2) := Lib.hid rfl
  generalize pList s = PL at *
  generalize (pCount 8 s).1 = n at *
  generalize (pCount 8 s).2 = s1 at *
  clear h
  go_enter Try.func96, Try.ntmps96
  go_wp2_with (first | (go_at_call 92; refine HC.out.mono ?_; rintro _ w1 ⟨rfl, hr, hk⟩; have HR := Lib.hid hr; have HK := Lib.hid hk; clear hr hk))
  have hks := HK.out.1.size
  go_loopg [3, 6] n (fun kx s3 s6 wr => ∃ (k : Nat) (r : Option Addr) (c : Nat) (out : List Int) (s2 : Sx), s3 = .slice r out.length c ∧ s6 = .int .i64 k ∧ k ≤ n ∧ n - k ≤ kx ∧ w.heap.size ≤ wr.heap.size ∧ Hid (KeepB w.heap.size b w wr) ∧ Hid (OwnK .i64 3 wr w.heap.size r c out) ∧ Hid (Rdr W0 wr b s2) ∧ Hid ((out, s2) = pRep pInt k s1) ∧ Hid (out.length = k))
  case atStart => exact ⟨0, none, 0, [], s1, rfl, rfl, by omega, by omega, hks, HK, Lib.hid (OwnK.nil _ _), HR, Lib.hid rfl, Lib.hid rfl⟩
  case round =>
    clear HR HK
    obtain ⟨k, r, c, out, s2, rfl, rfl, hk, hkx, hsz, HK, HO, HR, HP, HL⟩ := hrel
    by_cases hlt : k < n
    · have hk1 : (0 : Int) ≤ (k : Int) := by omega
      have hk2 : (k : Int) < n := by omega
      have HI := Lib.hid (rint_any b W0 wr s2 HR.out hB (hb0.trans (HK.out.below (by omega) hB)))
      have hol : out.length ≤ 100000 := by have := HL.out; omega
      have HP2 : Hid ((out ++ [(pInt s2).1], (pInt s2).2) = pRep pInt (k + 1) s1) := Lib.hid (by rw [pRep, ← HP.out])
      generalize (pInt s2).1 = x at *
      generalize (pInt s2).2 = s3 at *
      go_wp2_with (first | (go_at_call 95; refine HI.out.mono ?_; rintro _ w2 ⟨rfl, hr2, hk2⟩; have HR2 := Lib.hid hr2; have HK2 := Lib.hid hk2; have hs2 := hk2.1.size; clear hr2 hk2) | (at_builtin; refine wpList_append_k Try.underlying26 infoI64 rfl (by omega) (by rfl) _ _ (by rfl) w2 w.heap.size r c out [x] 1 rfl (by omega) (by rfl) (by rfl) (by rfl) (HO.out.keepB HK2.out hbl) (by omega) (by omega) ?_; intro r' c' w3 hown3 hbw3; have HO3 := Lib.hid hown3; clear hown3))
      have hs3 := hbw3.size
      go_roundg (n - (k + 1))
      case measure => omega
      case rel => exact ⟨k + 1, r', c', out ++ [x], s3, by simp, by go_num, by omega, by omega, by omega, Lib.hid ((HK.out.trans (HK2.out.mono hsz)).trans (below_keepB hbw3)), HO3, Lib.hid (HR2.out.below hbw3 hbl), HP2, Lib.hid (by rw [List.length_append, HL.out]; rfl)⟩
    · obtain rfl : k = n := by omega
      have HQ : Hid ((out, s2) = PL) := Lib.hid (by rw [HP.out, HE.out])
      clear HP HE
      have hq := HQ.out
      subst hq
      go_wp2
      go_ret
      exact ⟨r, c, by first | rfl | (simp; done), HO.out, HR.out, HK.out⟩
theorem mdec_len (r : Option Addr) (c n : Nat) (w : World) (hn : n ≤ 100000) (h : n ≠ 12) : Calls Try.prog 93 #[.slice r n c] w fun e w' => e = .returned (.tuple #[.agg #[.int .i64 0, .int .i64 0, .int .i64 0, .int .i64 0, .int .i64 0], .int .i64 3]) ∧ Below w.heap.size w w' := by
  have h1 : ((n : Int) == 12) = false := by simp; omega
  have h2 : ¬ (n : Int) = 12 := by omega
  go_enter Try.func93, Try.ntmps93
  go_wp2
  refine bodyPost_ret (by simp [results, Try.results93, go_sem, *]; try rfl) rfl ?_
  exact ⟨rfl, by (repeat' (first | (with_reducible exact Below.refl _ _) | (with_reducible assumption) | (with_reducible refine below_alloc ?_ _) | (with_reducible refine Below.drew ?_) | (with_reducible refine below_drewN ?_ _) | (with_reducible refine below_step (by assumption) ?_) | (with_reducible refine below_later ?_ _) | (with_reducible refine Below.setCell ?_ ?_ _) | go_size))⟩
theorem decI_b4 {bs : List Int} (h : bs.length = 12) : ∀ i, i < 8 → (bs.drop 4).getD i 0 = bs.getD (4 + i) 0 := fun i _ => by
  simp [List.getD, List.getElem?_drop]
theorem valB_eq (bs : List Int) : valB bs = wrap64 (rawB bs) := by
  unfold valB
  rw [IntKind.wrap_i64]
  unfold wrap64
  omega
theorem valB_i64 (bs : List Int) : I64 (valB bs) := by
  rw [valB_eq]
  unfold I64 wrap64
  simp [Lit.wf, IntKind.min, IntKind.max, IntKind.bits, IntKind.signed]
  omega
set_option maxRecDepth 100000 in
set_option maxHeartbeats 4000000 in
theorem mdec_any (B off c : Nat) (bs : List Int) (w : World) (hx : IsInts w (some ⟨B, off, none⟩) c .u8 bs) (hn : bs.length = 12) : Calls Try.prog 93 #[.slice (some ⟨B, off, none⟩) 12 c] w fun e w' =>
    (formI (decI bs) = true → e = .returned (.tuple #[.agg #[.int .i64 (decI bs).op, .int .i64 (decI bs).a, .int .i64 (decI bs).b, .int .i64 (decI bs).c, .int .i64 (decI bs).k], .int .i64 0])) ∧ (formI (decI bs) = false → e = .returned (.tuple #[.agg #[.int .i64 0, .int .i64 0, .int .i64 0, .int .i64 0, .int .i64 0], .int .i64 3])) ∧ Below w.heap.size w w' := by
  have hle := hx.le
  rw [hn] at hle
  have hmx := hx.max
  unfold maxLen at hmx
  obtain ⟨b', off', he, hb, hc⟩ := hx.cells (fun e => by rw [e] at hn; simp at hn)
  simp only [Option.some.injEq, Addr.mk.injEq, and_true] at he
  obtain ⟨rfl, rfl⟩ := he
  have hby : ByteL (bs.drop 4) := fun x h => wf_u8 (hx.wf x (List.mem_of_mem_drop h))
  have hd8 : (bs.drop 4).length = 8 := by rw [List.length_drop, hn]
  have HC4 : Hid (∀ i, i < 8 → w.cell? ⟨B, off + 4 + i, none⟩ = some (.int .u8 ((bs.drop 4).getD i 0))) := Lib.hid (fun i hi => by
    rw [decI_b4 hn i hi, Nat.add_assoc]
    exact hc (4 + i) (by omega))
  have q0 := hc 0 (by omega)
  have q1 := hc 1 (by omega)
  have q2 := hc 2 (by omega)
  have q3 := hc 3 (by omega)
  have b0 := wf_u8 (hx.wf _ (getD_mem' (xs := bs) (k := 0) (by omega)))
  have b1 := wf_u8 (hx.wf _ (getD_mem' (xs := bs) (k := 1) (by omega)))
  have b2 := wf_u8 (hx.wf _ (getD_mem' (xs := bs) (k := 2) (by omega)))
  have b3 := wf_u8 (hx.wf _ (getD_mem' (xs := bs) (k := 3) (by omega)))
  have HD : Hid (decI bs = ⟨bs.getD 0 0, bs.getD 1 0, bs.getD 2 0, bs.getD 3 0, valB (bs.drop 4)⟩) := Lib.hid rfl
  rw [HD.out]
  have HF := Lib.hid (fun W => formed_any (bs.getD 0 0) (bs.getD 1 0) (bs.getD 2 0) (bs.getD 3 0) (valB (bs.drop 4)) (valB_i64 _) W)
  have HFE : Hid (formI ⟨bs.getD 0 0, bs.getD 1 0, bs.getD 2 0, bs.getD 3 0, valB (bs.drop 4)⟩ = formB (bs.getD 0 0) (bs.getD 1 0) (bs.getD 2 0) (bs.getD 3 0) (valB (bs.drop 4))) := Lib.hid rfl
  rw [HFE.out]
  clear hc hx HD HFE
  have HRT : Hid (∀ k, k < 8 → rawB ((bs.drop 4).take (k + 1)) = rawB ((bs.drop 4).take k) * 256 + (bs.drop 4).getD k 0) := Lib.hid (fun k hk => rawB_take (by omega))
  have HRB : Hid (∀ k, k < 8 → 0 ≤ rawB ((bs.drop 4).take k) ∧ rawB ((bs.drop 4).take k) < 72057594037927936) := Lib.hid (fun k hk => rawB_lt56 hby hk)
  have HBY : Hid (∀ k, k < 8 → 0 ≤ (bs.drop 4).getD k 0 ∧ (bs.drop 4).getD k 0 ≤ 255) := Lib.hid (fun k hk => hby _ (getD_mem' (by omega)))
  have HVB := Lib.hid (valB_eq (bs.drop 4))
  have HLL := Lib.hid hd8
  clear hby hd8 hn
  simp only [Nat.add_zero] at q0
  generalize bs.getD 0 0 = x0 at *
  generalize bs.getD 1 0 = x1 at *
  generalize bs.getD 2 0 = x2 at *
  generalize bs.getD 3 0 = x3 at *
  generalize hdr : bs.drop 4 = l at *
  generalize valB l = V at *
  generalize formB x0 x1 x2 x3 V = fv at *
  have v0 : IntKind.i64.wrap x0 = x0 := IntWalk.i64_in _ (by omega)
  have v1 : IntKind.i64.wrap x1 = x1 := IntWalk.i64_in _ (by omega)
  have v2 : IntKind.i64.wrap x2 = x2 := IntWalk.i64_in _ (by omega)
  have v3 : IntKind.i64.wrap x3 = x3 := IntWalk.i64_in _ (by omega)
  have g1 : (12 : Int) ≤ c := by omega
  have g2 : ¬ c = 4 := by omega
  go_enter Try.func93, Try.ntmps93
  go_wp2
  have hbW : Below w.heap.size w (w.alloc (.cells #[.int .i64 0, .int .i64 0, .int .i64 0, .int .i64 0, .int .i64 0] 50)) := (Below.refl _ _).alloc (Nat.le_refl _) _
  have z5 : ∀ j : Nat, (w.alloc (.cells #[.int .i64 0, .int .i64 0, .int .i64 0, .int .i64 0, .int .i64 0] 50)).cell? ⟨w.heap.size, j, none⟩ = (#[.int .i64 0, .int .i64 0, .int .i64 0, .int .i64 0, .int .i64 0] : Array Value)[j]? := fun j => World.cell?_alloc_new _ _ _ _
  have y0 : (w.alloc (.cells #[.int .i64 0, .int .i64 0, .int .i64 0, .int .i64 0, .int .i64 0] 50)).cell? ⟨w.heap.size, 0, none⟩ = some (.int .i64 0) := z5 0
  have y1 : (w.alloc (.cells #[.int .i64 0, .int .i64 0, .int .i64 0, .int .i64 0, .int .i64 0] 50)).cell? ⟨w.heap.size, 1, none⟩ = some (.int .i64 0) := z5 1
  have y2 : (w.alloc (.cells #[.int .i64 0, .int .i64 0, .int .i64 0, .int .i64 0, .int .i64 0] 50)).cell? ⟨w.heap.size, 2, none⟩ = some (.int .i64 0) := z5 2
  have y3 : (w.alloc (.cells #[.int .i64 0, .int .i64 0, .int .i64 0, .int .i64 0, .int .i64 0] 50)).cell? ⟨w.heap.size, 3, none⟩ = some (.int .i64 0) := z5 3
  have y4 : (w.alloc (.cells #[.int .i64 0, .int .i64 0, .int .i64 0, .int .i64 0, .int .i64 0] 50)).cell? ⟨w.heap.size, 4, none⟩ = some (.int .i64 0) := z5 4
  have yf : ∀ j : Nat, (w.alloc (.cells #[.int .i64 0, .int .i64 0, .int .i64 0, .int .i64 0, .int .i64 0] 50)).frozen? ⟨w.heap.size, j, none⟩ = false := fun j => by first | go_keep | (simp [go_sem]; done) | (simp [World.frozen?]; done)
  have hzW : (w.alloc (.cells #[.int .i64 0, .int .i64 0, .int .i64 0, .int .i64 0, .int .i64 0] 50)).heap.size = w.heap.size + 1 := World.size_alloc _ _
  clear z5
  have p0 := (hbW.cell (p := ⟨B, off, none⟩) hb).trans q0
  have p1 := (hbW.cell (p := ⟨B, off + 1, none⟩) hb).trans q1
  have p2 := (hbW.cell (p := ⟨B, off + 2, none⟩) hb).trans q2
  have p3 := (hbW.cell (p := ⟨B, off + 3, none⟩) hb).trans q3
  have HC5 : Hid (∀ i, i < 8 → (w.alloc (.cells #[.int .i64 0, .int .i64 0, .int .i64 0, .int .i64 0, .int .i64 0] 50)).cell? ⟨B, off + 4 + i, none⟩ = some (.int .u8 (l.getD i 0))) := Lib.hid (fun i hi => (hbW.cell (p := ⟨B, off + 4 + i, none⟩) hb).trans (HC4.out i hi))
  clear q0 q1 q2 q3 HC4
  generalize w.alloc (.cells #[.int .i64 0, .int .i64 0, .int .i64 0, .int .i64 0, .int .i64 0] 50) = W1 at *
  go_loopg [4, 15] 8 (fun kx s4 s15 wr => ∃ (k : Nat) (a : Int), s4 = .int .u64 a ∧ s15 = .int .i64 k ∧ k ≤ 8 ∧ 8 - k ≤ kx ∧ wr = W1 ∧ Hid (a = rawB (l.take k)))
  case atStart => exact ⟨0, 0, rfl, rfl, by omega, by omega, rfl, Lib.hid (by simp [rawB])⟩
  case round =>
    obtain ⟨k, a, rfl, rfl, hk, hkx, hw, HA⟩ := hrel
    subst hw
    by_cases hlt : k < 8
    · have hk1 : (0 : Int) ≤ (k : Int) := by omega
      have hk2 : (k : Int) < 8 := by omega
      have hc1 := HC5.out k hlt
      have hxb := HBY.out k hlt
      have hab := HRB.out k hlt
      rw [← HA.out] at hab
      have HA2 := HRT.out k hlt
      rw [← HA.out] at HA2
      have HA3 := Lib.hid HA2
      clear HA2
      generalize l.getD k 0 = x at *
      have e1 : IntKind.u64.wrap (a * 256) = a * 256 := by simp [IntKind.wrap, IntKind.signed, IntKind.bits]; omega
      have e2 : IntKind.u64.wrap x = x := by simp [IntKind.wrap, IntKind.signed, IntKind.bits]; omega
      have e3 := or_low64 hab.1 hab.2 hxb.1 hxb.2
      go_wp2
      go_roundg (8 - (k + 1))
      case measure => omega
      case rel => exact ⟨k + 1, a * 256 + x, rfl, by go_num, by omega, by omega, rfl, Lib.hid HA3.out.symm⟩
    · obtain rfl : k = 8 := by omega
      have HE : Hid (wrap64 a = V) := Lib.hid (by rw [HVB.out, HA.out, ← HLL.out, List.take_length])
      have hv : wrap64 a = V := HE.out
      have hv2 : IntKind.i64.wrap a = V := by rw [← hv, IntKind.wrap_i64]; unfold wrap64; omega
      clear HRT HRB HBY HC5 HA HVB
      go_wp2
      go_region_held3 (fun v => v.cell? ⟨B, off, none⟩ = some (.int .u8 x0) ∧ v.cell? ⟨B, off + 1, none⟩ = some (.int .u8 x1) ∧ v.cell? ⟨B, off + 2, none⟩ = some (.int .u8 x2) ∧ v.cell? ⟨B, off + 3, none⟩ = some (.int .u8 x3)) (first | exact ⟨p0, p1, p2, p3⟩ | go_keep) (fail)
      have hs1 : wr.heap.size = w.heap.size + 1 := hzW
      cases fv
      · go_wp2_with (first | (go_at_call 105; refine (HF.out _).mono ?_; rintro _ w2 ⟨rfl, hb2⟩; obtain ⟨hb2c, hb2f⟩ := bcell hb2; have hb2s := hb2.size; (try simp only [World.size_alloc, World.size_drew] at hb2s); have hx2 : w.heap.size < w2.heap.size := (by omega); have hx3 : w.heap.size < wr.heap.size := (by omega); have hx4 : w.heap.size < wr.heap.size + 1 := (by omega)))
        have hB2 : Below wr.heap.size wr w2 := by (repeat' (first | (with_reducible exact Below.refl _ _) | (with_reducible assumption) | (with_reducible refine below_alloc ?_ _) | (with_reducible refine Below.drew ?_) | (with_reducible refine below_drewN ?_ _) | (with_reducible refine below_step (by assumption) ?_) | (with_reducible refine below_later ?_ _) | (with_reducible refine Below.setCell ?_ ?_ _) | go_size))
        have m0 : w2.cell? ⟨w.heap.size, 0, none⟩ = some (.int .i64 0) := (hB2.cell (p := ⟨w.heap.size, 0, none⟩) hx3).trans y0
        have m1 : w2.cell? ⟨w.heap.size, 1, none⟩ = some (.int .i64 0) := (hB2.cell (p := ⟨w.heap.size, 1, none⟩) hx3).trans y1
        have m2 : w2.cell? ⟨w.heap.size, 2, none⟩ = some (.int .i64 0) := (hB2.cell (p := ⟨w.heap.size, 2, none⟩) hx3).trans y2
        have m3 : w2.cell? ⟨w.heap.size, 3, none⟩ = some (.int .i64 0) := (hB2.cell (p := ⟨w.heap.size, 3, none⟩) hx3).trans y3
        have m4 : w2.cell? ⟨w.heap.size, 4, none⟩ = some (.int .i64 0) := (hB2.cell (p := ⟨w.heap.size, 4, none⟩) hx3).trans y4
        have hB3 : Below w.heap.size w w2 := hbW.trans (hB2.mono (by omega))
        refine bodyPost_ret (by simp [results, Try.results93, go_sem, *]; try rfl) rfl ?_
        have hBz : ∀ v0 v1 v2 v3 v4, Below w.heap.size w (((((w2.setCell ⟨w.heap.size, 0, none⟩ v0).setCell ⟨w.heap.size, 1, none⟩ v1).setCell ⟨w.heap.size, 2, none⟩ v2).setCell ⟨w.heap.size, 3, none⟩ v3).setCell ⟨w.heap.size, 4, none⟩ v4) := fun _ _ _ _ _ => (((((hB3).setCell (p := ⟨w.heap.size, 0, none⟩) (Nat.le_refl _) _).setCell (p := ⟨w.heap.size, 1, none⟩) (Nat.le_refl _) _).setCell (p := ⟨w.heap.size, 2, none⟩) (Nat.le_refl _) _).setCell (p := ⟨w.heap.size, 3, none⟩) (Nat.le_refl _) _).setCell (p := ⟨w.heap.size, 4, none⟩) (Nat.le_refl _) _
        first | exact ⟨fun h => by cases h, fun _ => rfl, hBz _ _ _ _ _⟩ | exact ⟨rfl, hBz _ _ _ _ _⟩ | exact ⟨fun _ => rfl, hBz _ _ _ _ _⟩ | exact ⟨trivial, rfl, hBz _ _ _ _ _⟩ | exact hBz _ _ _ _ _
      · go_wp2_with (first | (go_at_call 105; refine (HF.out _).mono ?_; rintro _ w2 ⟨rfl, hb2⟩; obtain ⟨hb2c, hb2f⟩ := bcell hb2; have hb2s := hb2.size; (try simp only [World.size_alloc, World.size_drew] at hb2s); have hx2 : w.heap.size < w2.heap.size := (by omega); have hx3 : w.heap.size < wr.heap.size := (by omega); have hx4 : w.heap.size < wr.heap.size + 1 := (by omega)))
        have hB2 : Below wr.heap.size wr w2 := by (repeat' (first | (with_reducible exact Below.refl _ _) | (with_reducible assumption) | (with_reducible refine below_alloc ?_ _) | (with_reducible refine Below.drew ?_) | (with_reducible refine below_drewN ?_ _) | (with_reducible refine below_step (by assumption) ?_) | (with_reducible refine below_later ?_ _) | (with_reducible refine Below.setCell ?_ ?_ _) | go_size))
        have m0 : w2.cell? ⟨w.heap.size, 0, none⟩ = some (.int .i64 0) := (hB2.cell (p := ⟨w.heap.size, 0, none⟩) hx3).trans y0
        have m1 : w2.cell? ⟨w.heap.size, 1, none⟩ = some (.int .i64 0) := (hB2.cell (p := ⟨w.heap.size, 1, none⟩) hx3).trans y1
        have m2 : w2.cell? ⟨w.heap.size, 2, none⟩ = some (.int .i64 0) := (hB2.cell (p := ⟨w.heap.size, 2, none⟩) hx3).trans y2
        have m3 : w2.cell? ⟨w.heap.size, 3, none⟩ = some (.int .i64 0) := (hB2.cell (p := ⟨w.heap.size, 3, none⟩) hx3).trans y3
        have m4 : w2.cell? ⟨w.heap.size, 4, none⟩ = some (.int .i64 0) := (hB2.cell (p := ⟨w.heap.size, 4, none⟩) hx3).trans y4
        have hB3 : Below w.heap.size w w2 := hbW.trans (hB2.mono (by omega))
        refine bodyPost_ret (by simp [results, Try.results93, go_sem, *]; try rfl) rfl ?_
        have hBz : ∀ v0 v1 v2 v3 v4, Below w.heap.size w (((((w2.setCell ⟨w.heap.size, 0, none⟩ v0).setCell ⟨w.heap.size, 1, none⟩ v1).setCell ⟨w.heap.size, 2, none⟩ v2).setCell ⟨w.heap.size, 3, none⟩ v3).setCell ⟨w.heap.size, 4, none⟩ v4) := fun _ _ _ _ _ => (((((hB3).setCell (p := ⟨w.heap.size, 0, none⟩) (Nat.le_refl _) _).setCell (p := ⟨w.heap.size, 1, none⟩) (Nat.le_refl _) _).setCell (p := ⟨w.heap.size, 2, none⟩) (Nat.le_refl _) _).setCell (p := ⟨w.heap.size, 3, none⟩) (Nat.le_refl _) _).setCell (p := ⟨w.heap.size, 4, none⟩) (Nat.le_refl _) _
        first | exact ⟨fun _ => rfl, fun h => by cases h, hBz _ _ _ _ _⟩ | exact ⟨rfl, hBz _ _ _ _ _⟩ | exact ⟨fun _ => rfl, hBz _ _ _ _ _⟩ | exact ⟨trivial, rfl, hBz _ _ _ _ _⟩ | exact hBz _ _ _ _ _
end Go.Proofs.Ytfooefiaenlhmaa
namespace Go.Proofs.Ytfooefiaenlhmaa
set_option linter.unusedVariables false
set_option linter.unusedSimpArgs false
open Go.RowKit Go.ChangeShapes Go.WideShapes Go.ChangeAt

/-- The slice r of xs.length elements owns xs, in blocks from 'base' on. -/
def OwnI (W : World) (base : Nat) (r : Option Addr) (cap : Nat) (xs : List Int) : Prop := W.ownsRow base 3 1 (.slice r xs.length cap) xs.length (xs.map (Value.int .i64))

theorem OwnI.nil (W : World) (base : Nat) : OwnI W base none 0 [] := World.ownsRow_nil _ _ _ _
theorem OwnI.lt {W : World} {base : Nat} {r : Option Addr} {cap : Nat} {xs : List Int} (h : OwnI W base r cap xs) : ∀ a, r = some a → base ≤ a.block ∧ a.block < W.heap.size := fun a ha => by
  subst ha
  exact World.ownsRow.lt h a.block rfl
theorem OwnI.below {W W' : World} {base B : Nat} {r : Option Addr} {cap : Nat} {xs : List Int} (h : OwnI W base r cap xs) (hb : Below B W W') (hB : W.heap.size ≤ B) : OwnI W' base r cap xs := by
  refine ⟨h.1, ?_⟩
  rcases h.2 with ⟨h1, h2⟩ | ⟨g, c, cur, h1, h2, h3, h4⟩
  · exact Or.inl ⟨h1, h2⟩
  · refine Or.inr ⟨g, c, cur, h1, h2, ?_, h4⟩
    rw [hb.block g ?_]
    · exact h3
    · rcases Nat.lt_or_ge g W.heap.size with hlt | hge
      · omega
      · rw [Array.getElem?_eq_none hge] at h3; cases h3
theorem OwnI.ints {W : World} {base : Nat} {r : Option Addr} {cap : Nat} {xs : List Int} (h : OwnI W base r cap xs) (hw : ∀ x ∈ xs, (Lit.int .i64 x).wf = true) : IsInts W r cap .i64 xs := by
  obtain ⟨h0, h2⟩ := h
  rcases h2 with ⟨h1, h3⟩ | ⟨g, c, cur, h1, h3, h4, h5, h6, h7, h8⟩
  · obtain rfl : xs = [] := List.length_eq_zero_iff.1 h3
    simp only [Value.slice.injEq] at h1
    obtain ⟨rfl, _, rfl⟩ := h1
    exact ⟨Nat.le_refl _, Nat.zero_le _, by simp, fun h => absurd rfl h⟩
  · simp only [Value.slice.injEq] at h1
    obtain ⟨rfl, _, rfl⟩ := h1
    have hlt : g < W.heap.size := by
      rcases Nat.lt_or_ge g W.heap.size with hlt | hge
      · exact hlt
      · rw [Array.getElem?_eq_none hge] at h4; cases h4
    refine ⟨h5, h6, hw, fun _ => ⟨g, 0, rfl, hlt, fun i hi => ?_⟩⟩
    have := World.ownsRow.cellAt (w := W) (base := base) (e := 3) (size := 1) (g := g) (n := xs.length) (cap := cap) (xs := xs.map (Value.int .i64)) ⟨h0, Or.inr ⟨g, cap, cur, rfl, h3, h4, h5, h6, h7, h8⟩⟩ i (by omega)
    rw [Nat.zero_add, this]
    simp [List.getElem?_map, List.getD, List.getElem?_eq_getElem hi]

end Go.Proofs.Ytfooefiaenlhmaa
namespace Go.Proofs.Ytfooefiaenlhmaa
set_option linter.unusedVariables false
set_option linter.unusedSimpArgs false
open Go.RowKit Go.ChangeShapes Go.WideShapes Go.ChangeAt

/-- The slice r owns rows, each of sz cells, in blocks from 'base' on. -/
def OwnR {α : Type} (t : TypeId) (sz : Nat) (enc : α → List Value) (W : World) (base : Nat) (r : Option Addr) (cap : Nat) (rows : List α) : Prop := W.ownsRow base t sz (.slice r rows.length cap) rows.length (rows.flatMap enc)

section
variable {α : Type} {t : TypeId} {sz : Nat} {enc : α → List Value}
theorem OwnR.nil (W : World) (base : Nat) : OwnR t sz enc W base none 0 ([] : List α) := World.ownsRow_nil _ _ _ _
theorem OwnR.below {W W' : World} {base B : Nat} {r : Option Addr} {cap : Nat} {xs : List α} (h : OwnR t sz enc W base r cap xs) (hb : Below B W W') (hB : W.heap.size ≤ B) : OwnR t sz enc W' base r cap xs := by
  refine ⟨h.1, ?_⟩
  rcases h.2 with ⟨h1, h2⟩ | ⟨g, c, cur, h1, h2, h3, h4⟩
  · exact Or.inl ⟨h1, h2⟩
  · refine Or.inr ⟨g, c, cur, h1, h2, ?_, h4⟩
    rw [hb.block g ?_]
    · exact h3
    · rcases Nat.lt_or_ge g W.heap.size with hlt | hge
      · omega
      · rw [Array.getElem?_eq_none hge] at h3; cases h3
theorem OwnR.base {W : World} {base base' : Nat} {r : Option Addr} {cap : Nat} {xs : List α} (h : OwnR t sz enc W base r cap xs) (hb : base' ≤ base) : OwnR t sz enc W base' r cap xs := by
  refine ⟨h.1, ?_⟩
  rcases h.2 with h1 | ⟨g, c, cur, h1, h2, h3⟩
  · exact Or.inl h1
  · exact Or.inr ⟨g, c, cur, h1, by omega, h3⟩
theorem flat_at {xs : List α} (henc : ∀ x, (enc x).length = sz) : ∀ {i j : Nat} {x : α}, xs[i]? = some x → j < sz → (xs.flatMap enc)[i * sz + j]? = (enc x)[j]? := by
  induction xs with
  | nil => intro i j x h _; simp at h
  | cons a l ih =>
    intro i j x h hj
    rw [List.flatMap_cons]
    cases i with
    | zero =>
      simp at h
      subst h
      rw [Nat.zero_mul, Nat.zero_add, List.getElem?_append_left (by rw [henc]; exact hj)]
    | succ i =>
      have h' : l[i]? = some x := by simpa using h
      rw [List.getElem?_append_right (by rw [henc, Nat.succ_mul]; omega), henc, show (i + 1) * sz + j - sz = i * sz + j by rw [Nat.succ_mul]; omega]
      exact ih h' hj
/-- Where the rows lie. -/
theorem OwnR.cells {W : World} {base : Nat} {r : Option Addr} {cap : Nat} {xs : List α} (h : OwnR t sz enc W base r cap xs) (henc : ∀ x, (enc x).length = sz) (hne : xs ≠ []) :
    ∃ g, r = some ⟨g, 0, none⟩ ∧ base ≤ g ∧ g < W.heap.size ∧ xs.length ≤ cap ∧ cap ≤ maxLen ∧ ∀ i j x u, xs[i]? = some x → (enc x)[j]? = some u → W.cell? ⟨g, i * sz + j, none⟩ = some u := by
  obtain ⟨h0, h2⟩ := h
  rcases h2 with ⟨_, h3⟩ | ⟨g, c, cur, h1, h3, h4, h5, h6, h7, h8⟩
  · exact absurd (List.length_eq_zero_iff.1 h3) hne
  · simp only [Value.slice.injEq] at h1
    obtain ⟨rfl, _, rfl⟩ := h1
    have hlt : g < W.heap.size := by
      rcases Nat.lt_or_ge g W.heap.size with hlt | hge
      · exact hlt
      · rw [Array.getElem?_eq_none hge] at h4; cases h4
    refine ⟨g, rfl, h3, hlt, h5, h6, fun i j x u hi hj => ?_⟩
    have hil : i < xs.length := (List.getElem?_eq_some_iff.1 hi).1
    have hjl : j < sz := by rw [← henc x]; exact (List.getElem?_eq_some_iff.1 hj).1
    have hf := flat_at henc hi hjl
    rw [hj] at hf
    have hlt2 : i * sz + j < xs.length * sz := by
      have : (i + 1) * sz ≤ xs.length * sz := Nat.mul_le_mul_right sz hil
      rw [Nat.succ_mul] at this
      omega
    have := World.ownsRow.cellAt (w := W) (base := base) (e := t) (size := sz) (g := g) (n := xs.length) (cap := cap) (xs := xs.flatMap enc) ⟨h0, Or.inr ⟨g, cap, cur, rfl, h3, h4, h5, h6, h7, h8⟩⟩ (i * sz + j) hlt2
    rw [this, hf]

end
end Go.Proofs.Ytfooefiaenlhmaa
namespace Go.Proofs.Ytfooefiaenlhmaa
set_option linter.unusedVariables false
set_option linter.unusedSimpArgs false
open Go.RowKit Go.ChangeShapes Go.WideShapes Go.ChangeAt

/-- The values l lie in block b, from its first cell on; the block is not frozen. -/
def AtV (W : World) (b : Nat) (l : List Value) : Prop := ∀ i v, l[i]? = some v → W.cell? ⟨b, i, none⟩ = some v ∧ W.frozen? ⟨b, i, none⟩ = false
theorem AtV.set {W : World} {b : Nat} {l : List Value} (h : AtV W b l) {j : Nat} (hj : j < l.length) (v : Value) : AtV (W.setCell ⟨b, j, none⟩ v) b (l.set j v) := by
  intro i u hi
  rw [World.frozen?_setCell]
  rw [List.getElem?_set] at hi
  by_cases e : j = i
  · subst e
    rw [if_pos rfl, if_pos hj] at hi
    obtain ⟨h1, h2⟩ := h j _ (List.getElem?_eq_getElem hj)
    refine ⟨?_, h2⟩
    rw [World.cell?_setCell_same' _ _ _ (by rw [h1]; rfl)]
    simpa using hi
  · rw [if_neg e] at hi
    obtain ⟨h1, h2⟩ := h i _ hi
    refine ⟨?_, h2⟩
    rw [World.cell?_setCell_other (h := fun h => e (by cases h; rfl))]
    exact h1
theorem AtV.keep {W W' : World} {b : Nat} {l : List Value} (h : AtV W b l) (hb : W'.heap[b]? = W.heap[b]?) : AtV W' b l := fun i v hi =>
  ⟨(World.cell?_of_block (a := ⟨b, i, none⟩) hb).trans (h i v hi).1, (World.frozen?_of_block (a := ⟨b, i, none⟩) hb).trans (h i v hi).2⟩
theorem AtV.new (w : World) (l : List Value) (t : TypeId) : AtV (w.alloc (.cells l.toArray t)) w.heap.size l := fun i v hi => by
  refine ⟨?_, ?_⟩
  · rw [World.cell?_alloc_new]; simpa using hi
  · first | go_keep | (simp [go_sem]; done) | (simp [World.frozen?]; done)
def Off (g : Option Addr) (q : Nat) : Prop := ∀ a, g = some a → a.block ≠ q
/-- A list in blocks from B on, beside the growing slice g. -/
structure IntsO (B : Nat) (g : Option Addr) (W : World) (r : Option Addr) (c : Nat) (xs : List Int) : Prop where
  ints : IsInts W r c .i64 xs
  at_ : ∀ a, r = some a → B ≤ a.block ∧ a.block < W.heap.size ∧ Off g a.block
theorem ints_keep {W W' : World} {k : IntKind} {r : Option Addr} {c : Nat} {xs : List Int} (h : IsInts W r c k xs) (hk : ∀ a, r = some a → W'.heap[a.block]? = W.heap[a.block]?) (hz : W.heap.size ≤ W'.heap.size) : IsInts W' r c k xs :=
  ⟨h.le, h.max, h.wf, fun hne => by
    obtain ⟨b, off, h1, h2, h3⟩ := h.cells hne
    exact ⟨b, off, h1, by omega, fun i hi => (World.cell?_of_block (a := ⟨b, off + i, none⟩) (hk ⟨b, off, none⟩ h1)).trans (h3 i hi)⟩⟩
theorem IntsO.step {B : Nat} {g g' : Option Addr} {W W' : World} {r : Option Addr} {c : Nat} {xs : List Int} (h : IntsO B g W r c xs) (hst : ∀ q, B ≤ q → q < W.heap.size → Off g q → W'.heap[q]? = W.heap[q]?) (hz : W.heap.size ≤ W'.heap.size)
    (hg : ∀ a, g' = some a → (∃ a0, g = some a0 ∧ a0.block = a.block) ∨ W.heap.size ≤ a.block) : IntsO B g' W' r c xs :=
  ⟨ints_keep h.ints (fun a ha => hst _ (h.at_ a ha).1 (h.at_ a ha).2.1 (h.at_ a ha).2.2) hz, fun a ha => by
    obtain ⟨h1, h2, h3⟩ := h.at_ a ha
    refine ⟨h1, by omega, fun x hx => ?_⟩
    rcases hg x hx with ⟨a0, h4, h5⟩ | h4
    · rw [← h5]; exact h3 a0 h4
    · omega⟩
theorem IntsO.base {B B' : Nat} {g : Option Addr} {W : World} {r : Option Addr} {c : Nat} {xs : List Int} (h : IntsO B g W r c xs) (hb : B' ≤ B) : IntsO B' g W r c xs :=
  ⟨h.ints, fun a ha => ⟨by have := (h.at_ a ha).1; omega, (h.at_ a ha).2⟩⟩
theorem IntsO.new {B D : Nat} {g : Option Addr} {W : World} {r : Option Addr} {c : Nat} {xs : List Int} (h : OwnK .i64 3 W D r c xs) (hD : B ≤ D) (hg : ∀ a, g = some a → a.block < D) (hw : ∀ x ∈ xs, I64 x) : IntsO B g W r c xs :=
  ⟨h.ints (fun x hx => hw x hx), fun a ha => by
    obtain ⟨h1, h2⟩ := h.lt a ha
    exact ⟨by omega, h2, fun x hx => by have := hg x hx; omega⟩⟩
/-- The slice does not grow any more. -/
theorem IntsO.done {B : Nat} {g : Option Addr} {W : World} {r : Option Addr} {c : Nat} {xs : List Int} (h : IntsO B g W r c xs) {g' : Option Addr} (hg : ∀ a, g' = some a → a.block < B) : IntsO B g' W r c xs :=
  ⟨h.ints, fun a ha => ⟨(h.at_ a ha).1, (h.at_ a ha).2.1, fun x hx => by have := hg x hx; have := (h.at_ a ha).1; omega⟩⟩
section
variable {α : Type} {t : TypeId} {sz : Nat} {enc : α → List Value}
theorem OwnR.lt {W : World} {base : Nat} {r : Option Addr} {cap : Nat} {xs : List α} (h : OwnR t sz enc W base r cap xs) : ∀ a, r = some a → base ≤ a.block ∧ a.block < W.heap.size := fun a ha => by
  subst ha
  exact World.ownsRow.lt h a.block rfl
/-- What a slice owns stays where its block stays. -/
theorem OwnR.keep {W W' : World} {base : Nat} {r : Option Addr} {cap : Nat} {xs : List α} (h : OwnR t sz enc W base r cap xs) (hk : ∀ a, r = some a → W'.heap[a.block]? = W.heap[a.block]?) : OwnR t sz enc W' base r cap xs := by
  refine ⟨h.1, ?_⟩
  rcases h.2 with ⟨h1, h2⟩ | ⟨g, c, cur, h1, h2, h3, h4⟩
  · exact Or.inl ⟨h1, h2⟩
  · refine Or.inr ⟨g, c, cur, h1, h2, ?_, h4⟩
    simp only [Value.slice.injEq] at h1
    rw [hk _ h1.1]
    exact h3
theorem OwnR.isS {W : World} {base : Nat} {r : Option Addr} {cap : Nat} {xs : List α} (h : OwnR t sz enc W base r cap xs) (henc : ∀ x, (enc x).length = sz) : IsS sz enc W r cap xs := by
  by_cases hne : xs = []
  · subst hne
    rcases h.2 with ⟨h1, h3⟩ | ⟨g, c, cur, h1, h3, h4, h5, h6, h7, h8⟩
    · simp only [Value.slice.injEq] at h1
      obtain ⟨_, _, rfl⟩ := h1
      exact ⟨Nat.le_refl _, Nat.zero_le _, fun h => absurd rfl h⟩
    · simp only [Value.slice.injEq] at h1
      obtain ⟨_, _, rfl⟩ := h1
      exact ⟨h5, h6, fun h => absurd rfl h⟩
  · obtain ⟨g, h1, h2, h3, h4, h5, h6⟩ := h.cells henc hne
    exact ⟨h4, h5, fun _ => ⟨g, 0, h1, h3, fun i x hi j u hj => by rw [Nat.zero_add]; exact h6 i j x u hi hj⟩⟩
/-- One row is appended; what else stays. -/
theorem wpList_append_rowf {ts : TypeId} {z : Value} {by' : Nat} (hts : Try.prog.underlying ts = some (.slice t)) (hinf : (Try.prog.info? t).map (fun i => (i.zero, i.size, i.bytes)) = some (some z, sz, by')) (hzs : z.cells.size = sz) (h0 : 0 < sz) (hby : by' ≤ 128)
    {ops : Array Oper} {rest : List Oper} {o : Oper} {a : Act} {Q : Exit → Act → World → Prop} {w : World} (hgd : o.guard = none) (s x : Operand)
    (ho : o.op = .call { callee := .builtin .append, args := #[s, x], argTypes := #[ts, ts] }) (w0 : World) (base : Nat) (r : Option Addr) (cap : Nat) (xs : List α) (p : α) (henc : (enc p).length = sz) (hone : ∀ u ∈ enc p, u.oneCell' = true)
    (hw : w = w0.alloc (.cells (enc p).toArray t)) (hs : a.eval s = .slice r xs.length cap) (hx : a.eval x = .slice (some ⟨w0.heap.size, 0, none⟩) 1 1)
    (hown : OwnR t sz enc w0 base r cap xs) (hl : xs.length ≤ 549755813888) (hb : base ≤ w0.heap.size)
    (h : ∀ r' cap' w', OwnR t sz enc w' base r' cap' (xs ++ [p]) → Below base w0 w' → (∀ q, q < w0.heap.size → (∀ a, r = some a → a.block ≠ q) → w'.heap[q]? = w0.heap[q]?) → (∀ a, r' = some a → (∃ a0, r = some a0 ∧ a0.block = a.block) ∨ w0.heap.size ≤ a.block) → wpList Try.prog ops Q rest (a.put o.dst (.slice r' (xs.length + 1) cap')) w') : wpList Try.prog ops Q (o :: rest) a w := by
  subst hw
  obtain ⟨i0, hi, hz0, hz1, hz2⟩ := info_parts hinf
  have hown2 : (w0.alloc (.cells (enc p).toArray t)).ownsRow base t sz (.slice r xs.length cap) xs.length (xs.flatMap enc) := World.ownsRow.alloc hown _
  refine wpList_append_lies (w0.alloc (.cells (enc p).toArray t)) hgd s x ts ho base t i0 z sz by' hts hi hz0 hz1 hz2 hzs h0 _ xs.length (xs.flatMap enc) hs hown2 ⟨w0.heap.size, 0, none⟩ 1 1 (enc p) hx (by rw [henc, Nat.one_mul]) ?_ hone (by omega) ?_ ?_ (by simp; omega) _ rfl ?_
  · intro j u hj
    have : (⟨w0.heap.size, 0, none⟩ : Addr).add j = ⟨w0.heap.size, j, none⟩ := by
      by_cases hj0 : j = 0
      · subst hj0; simp [Addr.add]
      · simp [Addr.add, hj0]
    rw [this, World.cell?_alloc_new]
    simpa using hj
  · unfold maxLen; omega
  · have : (xs.length + 1) * by' ≤ (549755813888 + 1) * 128 := Nat.mul_le_mul (by omega) hby
    omega
  · intro g cap' w1 hown' hgrow hg _
    refine h _ _ _ ?_ ?_ ?_ ?_
    · unfold OwnR
      simpa using hown'
    · exact ((Below.refl base w0).alloc hb _).grown hgrow (by simp only [World.size_alloc]; omega) (fun k hk => (World.ownsRow.lt hown2 k hk).1)
    · intro q hq hr
      rw [hgrow.block q (by rw [World.size_alloc]; omega) ?_, Below.heap_alloc _ _ _ hq]
      cases r with
      | none => simp [Value.ownBlock]
      | some a0 =>
        simp only [Value.ownBlock, ne_eq, Option.some.injEq]
        exact fun e => hr a0 rfl e.symm
    · intro a ha
      obtain rfl : ⟨g, 0, none⟩ = a := by simpa using ha
      rcases hg with hg | hg
      · cases r with
        | none => simp [Value.ownBlock] at hg
        | some a0 =>
          simp only [Value.ownBlock, Option.some.injEq] at hg
          exact .inl ⟨a0, rfl, hg⟩
      · right
        rw [hg, World.size_alloc]
        exact Nat.le_succ _
end
/-- A row of a table: where it lies. -/
structure Rw where
  r : Option Addr
  c : Nat
  l : List Int
instance : Inhabited Rw := ⟨⟨none, 0, []⟩⟩
def Rw.enc (x : Rw) : List Value := [.slice x.r x.l.length x.c]
theorem rows_of {B : Nat} {g : Option Addr} {W : World} {rz : Option Addr} {cz : Nat} {rows : List Rw} (h : IsS 1 Rw.enc W rz cz rows) (hx : ∀ x ∈ rows, IntsO B g W x.r x.c x.l) : IsRows W rz cz (rows.map Rw.l) := by
  refine ⟨by rw [List.length_map]; exact h.le, h.max, fun hne => ?_⟩
  obtain ⟨b, off, h1, h2, h3⟩ := h.cells (fun e => hne (by rw [e]; rfl))
  refine ⟨b, off, h1, h2, fun i hi => ?_⟩
  rw [List.length_map] at hi
  have e1 : rows[i]? = some (rows.getD i default) := getD_some hi
  have e2 : (rows.map Rw.l).getD i [] = (rows.getD i default).l := by
    simp [List.getD, List.getElem?_map, List.getElem?_eq_getElem hi]
  refine ⟨(rows.getD i default).r, (rows.getD i default).c, ?_, ?_⟩
  · rw [e2]
    have := h3 i _ e1 0 _ rfl
    rwa [Nat.mul_one, Nat.add_zero] at this
  · rw [e2]; exact (hx _ (getD_mem_of hi)).ints
theorem infoInstr : (Try.prog.info? 50).map (fun i => (i.zero, i.size, i.bytes)) = some (some (.agg #[.int .i64 0, .int .i64 0, .int .i64 0, .int .i64 0, .int .i64 0]), 5, 40) := by kernel_rfl
theorem infoFixed : (Try.prog.info? 59).map (fun i => (i.zero, i.size, i.bytes)) = some (some (.agg #[.int .i64 0, .bool false, .int .i64 0, .int .i64 0, .int .i64 0, .int .i64 0, .int .i64 0, .int .i64 0, .int .i64 0, .int .i64 0]), 10, 80) := by kernel_rfl
theorem infoCurve : (Try.prog.info? 53).map (fun i => (i.zero, i.size, i.bytes)) = some (some (.agg #[.slice none 0 0, .slice none 0 0]), 2, 48) := by kernel_rfl
theorem infoMap : (Try.prog.info? 55).map (fun i => (i.zero, i.size, i.bytes)) = some (some (.agg #[.slice none 0 0, .slice none 0 0, .slice none 0 0]), 3, 72) := by kernel_rfl
theorem infoRow : (Try.prog.info? 26).map (fun i => (i.zero, i.size, i.bytes)) = some (some (.slice none 0 0), 1, 24) := by kernel_rfl
end Go.Proofs.Ytfooefiaenlhmaa
