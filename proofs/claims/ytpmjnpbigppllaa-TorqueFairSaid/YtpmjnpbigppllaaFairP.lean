/- Plain facts of the fair law of torque: the counts of a pattern. -/
import Derived.Test.YtpmjnpbigppllaaPat
namespace Go.Proofs.Ytpmjnpbigppllaa
set_option linter.unusedVariables false
set_option linter.unusedSimpArgs false

def cntF (p : Nat → Bool) : Nat → Nat
  | 0 => 0
  | k + 1 => cntF p k + if p k then 1 else 0
theorem cntF_le (p : Nat → Bool) : ∀ n, cntF p n ≤ n
  | 0 => Nat.le_refl _
  | n + 1 => by
    have := cntF_le p n
    unfold cntF
    split <;> omega
theorem cntF_congr {p q : Nat → Bool} : ∀ n, (∀ t, t < n → p t = q t) → cntF p n = cntF q n
  | 0, _ => rfl
  | n + 1, h => by
    unfold cntF
    rw [cntF_congr n (fun t ht => h t (by omega)), h n (by omega)]
def fairN (n f r : Nat) : Bool := cntF (fun t => decide ((t + r) % n * f / n < ((t + r) % n + 1) * f / n)) n == f
theorem fair_all : ∀ n, n < 9 → ∀ f, f < 9 → ∀ r, r < 8 → (1 ≤ n ∧ f ≤ n ∧ r < n → fairN n f r = true) := by decide +kernel
theorem fair_nat {n f a : Nat} (n0 : 1 ≤ n) (n1 : n ≤ 8) (f1 : f ≤ n) : cntF (fun t => decide ((t + a) % n * f / n < ((t + a) % n + 1) * f / n)) n = f := by
  have hr : a % n < n := Nat.mod_lt _ (by omega)
  have h := fair_all n (by omega) f (by omega) (a % n) (by omega) ⟨n0, f1, hr⟩
  rw [fairN, beq_iff_eq] at h
  refine Eq.trans (cntF_congr n (fun t _ => ?_)) h
  have e : (t + a % n) % n = (t + a) % n := by rw [Nat.add_mod, Nat.mod_mod, ← Nat.add_mod]
  rw [e]
theorem patB_nat (n f c i : Nat) : patB (n : Int) (f : Int) (c : Int) (i : Int) = decide ((i + c) % n * f / n < ((i + c) % n + 1) * f / n) := by
  unfold patB patJ
  have e : (((i : Int) + c) % n * f / n < (((i : Int) + c) % n + 1) * f / n) ↔ ((i + c) % n * f / n < ((i + c) % n + 1) * f / n) := by
    rw [show ((i : Int) + c) % n = (((i + c) % n : Nat) : Int) by simp]
    generalize (i + c) % n = j
    rw [show (j : Int) * f / n = ((j * f / n : Nat) : Int) by simp, show ((j : Int) + 1) * f / n = (((j + 1) * f / n : Nat) : Int) by simp]
    omega
  rw [decide_eq_decide]
  exact e
theorem fair_row {n f c : Nat} (n0 : 1 ≤ n) (n1 : n ≤ 8) (f1 : f ≤ n) : cntF (fun t => patB (n : Int) (f : Int) (c : Int) (t : Int)) n = f := by
  refine Eq.trans (cntF_congr n (fun t _ => ?_)) (fair_nat n0 n1 f1 (a := c))
  rw [patB_nat]
theorem fair_col {n f c x : Nat} (n0 : 1 ≤ n) (n1 : n ≤ 8) (f1 : f ≤ n) : cntF (fun t => patB (n : Int) (f : Int) ((c : Int) + (t : Int)) (x : Int)) n = f := by
  refine Eq.trans (cntF_congr n (fun t _ => ?_)) (fair_nat n0 n1 f1 (a := c + x))
  have := patB_nat n f (c + t) x
  rw [show ((c + t : Nat) : Int) = (c : Int) + t from rfl] at this
  rw [this, show x + (c + t) = t + (c + x) by omega]
/-- The count of a cylinder ahead of the element i of cycle k. -/
def colC (n f c : Nat) (k i t : Nat) : Nat := if t < n then cntF (fun s => patB (n : Int) (f : Int) ((c : Int) + (s : Int)) (t : Int)) (if t < i then k + 1 else k) else 0
theorem colC_le {n f c k i t : Nat} : colC n f c k i t ≤ k + 1 := by
  unfold colC
  split
  · refine Nat.le_trans (cntF_le _ _) ?_
    split <;> omega
  · omega
theorem colC_start {n f c t : Nat} : colC n f c 0 0 t = 0 := by
  unfold colC
  simp [cntF]
theorem colC_next {n f c k t : Nat} : colC n f c k n t = colC n f c (k + 1) 0 t := by
  unfold colC
  split
  · rename_i h; simp
  · rfl
theorem colC_other {n f c k i t : Nat} (h : t ≠ i) : colC n f c k (i + 1) t = colC n f c k i t := by
  unfold colC
  split
  · by_cases h1 : t < i
    · rw [if_pos h1, if_pos (by omega)]
    · rw [if_neg h1, if_neg (by omega)]
  · rfl
theorem colC_hit {n f c k i : Nat} (h : i < n) (hp : patB (n : Int) (f : Int) ((c : Int) + (k : Int)) (i : Int) = true) : colC n f c k (i + 1) i = colC n f c k i i + 1 := by
  unfold colC
  rw [if_pos h, if_pos h, if_pos (by omega), if_neg (by omega)]
  rw [cntF, hp]
  rfl
theorem colC_miss {n f c k i : Nat} (hp : patB (n : Int) (f : Int) ((c : Int) + (k : Int)) (i : Int) = false) : colC n f c k (i + 1) i = colC n f c k i i := by
  unfold colC
  split
  · rw [if_pos (by omega), if_neg (by omega)]
    rw [cntF, hp]
    rfl
  · rfl
theorem colC_end {n f c t : Nat} (n0 : 1 ≤ n) (n1 : n ≤ 8) (f1 : f ≤ n) (h : t < n) : colC n f c n 0 t = f := by
  unfold colC
  rw [if_pos h, if_neg (by omega)]
  exact fair_col n0 n1 f1
end Go.Proofs.Ytpmjnpbigppllaa
