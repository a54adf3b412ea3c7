/- Curves in plain terms: what a valid curve is, and its value. -/
import Derived.Test.YtohdbneaganfbaaOpen
import Derived.Test.YtohdbneaganfbaaLeast
namespace Go.Proofs.Ytohdbneaganfbaa
set_option linter.unusedVariables false
set_option linter.unusedSimpArgs false

def farB (n : Int) : Bool := decide (n < -1073741824 ∨ 1073741824 < n)
/-- The numbers of an axis. -/
def AxisOk (xs : List Int) : Prop := 2 ≤ xs.length ∧ xs.length ≤ 32 ∧ xs.any farB = false ∧ ∀ t, t + 1 < xs.length → xs.getD t 0 < xs.getD (t + 1) 0
def CurveOk (xs ys : List Int) : Prop := xs.length = ys.length ∧ AxisOk xs ∧ ys.any farB = false
open Classical in
noncomputable def axisB (xs : List Int) : Bool := decide (AxisOk xs)
open Classical in
noncomputable def curveB (xs ys : List Int) : Bool := decide (CurveOk xs ys)
theorem axisB_true {xs : List Int} : axisB xs = true ↔ AxisOk xs := by simp [axisB]
theorem axisB_false {xs : List Int} : axisB xs = false ↔ ¬ AxisOk xs := by simp [axisB]
theorem curveB_true {xs ys : List Int} : curveB xs ys = true ↔ CurveOk xs ys := by simp [curveB]
theorem curveB_false {xs ys : List Int} : curveB xs ys = false ↔ ¬ CurveOk xs ys := by simp [curveB]

theorem getD_mem {xs : List Int} {t : Nat} (h : t < xs.length) : xs.getD t 0 ∈ xs := by
  rw [List.getD, List.getElem?_eq_getElem h]
  exact List.getElem_mem _
theorem far_bd {xs : List Int} (h : xs.any farB = false) {t : Nat} (ht : t < xs.length) : -1073741824 ≤ xs.getD t 0 ∧ xs.getD t 0 ≤ 1073741824 := by
  rw [List.any_eq_false] at h
  have := h _ (getD_mem ht)
  simp only [farB, decide_eq_true_eq] at this
  omega
theorem far_all {xs : List Int} (h : ∀ t, t < xs.length → farB (xs.getD t 0) = false) : xs.any farB = false := by
  rw [List.any_eq_false]
  intro x hx
  obtain ⟨t, ht, rfl⟩ := List.getElem_of_mem hx
  have := h t ht
  simpa [List.getD, List.getElem?_eq_getElem ht] using this
theorem far_hit {xs : List Int} {t : Nat} (ht : t < xs.length) (h : farB (xs.getD t 0) = true) : xs.any farB = true :=
  List.any_eq_true.2 ⟨_, getD_mem ht, h⟩
theorem axis_mono {xs : List Int} (h : AxisOk xs) {a b : Nat} (hab : a < b) (hb : b < xs.length) : xs.getD a 0 < xs.getD b 0 := by
  induction b with
  | zero => omega
  | succ b ih =>
    have := h.2.2.2 b hb
    by_cases e : a = b
    · subst e; exact this
    · exact Int.lt_trans (ih (by omega) (by omega)) this

/-- The number of the node at or before x. -/
@[irreducible] def segI (xs : List Int) (x : Int) : Nat := least (fun i => decide (x < xs.getD i 0)) xs.length - 1
/-- The value of a curve. -/
def cval (xs ys : List Int) (x : Int) : Int :=
  if x ≤ xs.getD 0 0 then ys.getD 0 0
  else if xs.getD (xs.length - 1) 0 ≤ x then ys.getD (xs.length - 1) 0
  else ys.getD (segI xs x) 0 + (x - xs.getD (segI xs x) 0) * (ys.getD (segI xs x + 1) 0 - ys.getD (segI xs x) 0) / (xs.getD (segI xs x + 1) 0 - xs.getD (segI xs x) 0)

theorem seg_least {xs : List Int} {x : Int} (h : AxisOk xs) (h0 : ¬ x ≤ xs.getD 0 0) (h1 : ¬ xs.getD (xs.length - 1) 0 ≤ x) :
    least (fun i => decide (x < xs.getD i 0)) xs.length = segI xs x + 1 ∧ segI xs x + 1 < xs.length := by
  have hl := least_le (fun i => decide (x < xs.getD i 0)) xs.length
  have hne : least (fun i => decide (x < xs.getD i 0)) xs.length ≠ 0 := fun e => by
    have h2 := h.1
    have := least_at (fun i => decide (x < xs.getD i 0)) xs.length (by omega)
    rw [e] at this
    simp only [decide_eq_true_eq] at this
    exact h0 (by omega)
  have hlt : least (fun i => decide (x < xs.getD i 0)) xs.length < xs.length := by
    have h2 := h.1
    rcases Nat.lt_or_ge (least (fun i => decide (x < xs.getD i 0)) xs.length) xs.length with g | g
    · exact g
    · have := least_below (fun i => decide (x < xs.getD i 0)) xs.length (xs.length - 1) (by omega)
      simp only [decide_eq_false_iff_not] at this
      omega
  unfold segI
  omega
theorem seg_spec {xs : List Int} {x : Int} (h : AxisOk xs) (h0 : ¬ x ≤ xs.getD 0 0) (h1 : ¬ xs.getD (xs.length - 1) 0 ≤ x) :
    segI xs x + 1 < xs.length ∧ xs.getD (segI xs x) 0 ≤ x ∧ x < xs.getD (segI xs x + 1) 0 := by
  obtain ⟨e, hl⟩ := seg_least h h0 h1
  refine ⟨hl, ?_, ?_⟩
  · have := least_below (fun i => decide (x < xs.getD i 0)) xs.length (segI xs x) (by omega)
    simpa using this
  · have := least_at (fun i => decide (x < xs.getD i 0)) xs.length (by omega)
    rw [e] at this
    simpa using this
theorem seg_eq {xs : List Int} {x : Int} (h : AxisOk xs) {i : Nat} (hi : i + 1 < xs.length) (ha : xs.getD i 0 ≤ x) (hb : x < xs.getD (i + 1) 0) (h0 : ¬ x ≤ xs.getD 0 0) (h1 : ¬ xs.getD (xs.length - 1) 0 ≤ x) : segI xs x = i := by
  obtain ⟨hl, g1, g2⟩ := seg_spec h h0 h1
  rcases Nat.lt_trichotomy (segI xs x) i with c | c | c
  · by_cases e : segI xs x + 1 = i
    · rw [e] at g2; omega
    · have := axis_mono h (show segI xs x + 1 < i by omega) (by omega); omega
  · exact c
  · by_cases e : i + 1 = segI xs x
    · rw [← e] at g1; omega
    · have := axis_mono h (show i + 1 < segI xs x by omega) (by omega); omega

end Go.Proofs.Ytohdbneaganfbaa
