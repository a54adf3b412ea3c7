/- Firing orders in plain terms: all cylinders occur, or all elements are cylinders and distinct: the same. -/
import Derived.Test.YtohdbneaganfbaaTabs
namespace Go.Proofs.Ytohdbneaganfbaa
set_option linter.unusedVariables false
set_option linter.unusedSimpArgs false

theorem perm_cover : ∀ (r l : List Int), r.Nodup → (∀ x ∈ r, x ∈ l) → l.length ≤ r.length → l.Perm r
  | [], l, _, _, hl => by
    obtain rfl : l = [] := List.length_eq_zero_iff.1 (by simpa using hl)
    exact List.Perm.refl _
  | a :: r, l, hn, hs, hl => by
    have ha : a ∈ l := hs a (by simp)
    rw [List.nodup_cons] at hn
    have h1 := perm_cover r (l.erase a) hn.2 (fun x hx => by
      have hne : x ≠ a := fun e => hn.1 (e ▸ hx)
      exact (List.mem_erase_of_ne hne).2 (hs x (by simp [hx]))) (by
      rw [List.length_erase_of_mem ha]
      simp at hl
      omega)
    exact (List.perm_cons_erase ha).trans (h1.cons a)
/-- The cylinders of an engine. -/
def cyls (n : Nat) : List Int := (List.range n).map fun i : Nat => (i : Int) + 1
theorem cyls_mem {n : Nat} {x : Int} : x ∈ cyls n ↔ 1 ≤ x ∧ x ≤ n := by
  simp only [cyls, List.mem_map, List.mem_range]
  constructor
  · rintro ⟨i, hi, rfl⟩
    omega
  · intro h
    exact ⟨(x - 1).toNat, by omega, by omega⟩
theorem cyls_len (n : Nat) : (cyls n).length = n := by simp [cyls]
theorem cyls_nodup (n : Nat) : (cyls n).Nodup := by
  unfold cyls List.Nodup
  rw [List.pairwise_map]
  exact List.Pairwise.imp (fun {a b} (h : a ≠ b) => by omega) List.nodup_range
structure EngOk (xs : List Int) (first : Int) : Prop where
  lo : 1 ≤ xs.length
  hi : xs.length ≤ 8
  first : 0 ≤ first ∧ first ≤ 46079
  all : ∀ i : Int, 1 ≤ i → i ≤ xs.length → i ∈ xs
open Classical in
noncomputable def engB (xs : List Int) (first : Int) : Bool := decide (EngOk xs first)
theorem engB_true {xs : List Int} {f : Int} : engB xs f = true ↔ EngOk xs f := by simp [engB]
theorem engB_false {xs : List Int} {f : Int} : engB xs f = false ↔ ¬ EngOk xs f := by simp [engB]
theorem eng_perm {xs : List Int} {f : Int} (h : EngOk xs f) : xs.Perm (cyls xs.length) :=
  perm_cover _ xs (cyls_nodup _) (fun x hx => by have := cyls_mem.1 hx; exact h.all x this.1 this.2) (by rw [cyls_len]; exact Nat.le_refl _)
theorem eng_in {xs : List Int} {f : Int} (h : EngOk xs f) {x : Int} : x ∈ xs ↔ 1 ≤ x ∧ x ≤ xs.length := by
  rw [(eng_perm h).mem_iff, cyls_mem]
theorem eng_nodup {xs : List Int} {f : Int} (h : EngOk xs f) : xs.Nodup := (eng_perm h).nodup_iff.2 (cyls_nodup _)
theorem getD_at {xs : List Int} {t : Nat} (h : t < xs.length) : xs.getD t 0 = xs[t] := by simp [List.getD, List.getElem?_eq_getElem h]
/-- What the reference checks, element by element. -/
theorem eng_ref {xs : List Int} {f : Int} (l1 : 1 ≤ xs.length) (l2 : xs.length ≤ 8) (hf : 0 ≤ f ∧ f ≤ 46079) (h1 : ∀ t, t < xs.length → 1 ≤ xs.getD t 0 ∧ xs.getD t 0 ≤ xs.length) (h2 : ∀ t k, t < xs.length → k < t → xs.getD k 0 ≠ xs.getD t 0) : EngOk xs f := by
  have hn : xs.Nodup := by
    unfold List.Nodup
    rw [List.pairwise_iff_getElem]
    intro i j hi hj hij
    have := h2 j i hj hij
    rwa [getD_at hi, getD_at hj] at this
  have hs : ∀ x ∈ xs, x ∈ cyls xs.length := fun x hx => by
    obtain ⟨t, ht, rfl⟩ := List.getElem_of_mem hx
    have := h1 t ht
    rw [getD_at ht] at this
    exact cyls_mem.2 this
  have hp := perm_cover xs (cyls xs.length) hn hs (by rw [cyls_len]; exact Nat.le_refl _)
  exact ⟨l1, l2, hf, fun i a b => hp.mem_iff.1 (cyls_mem.2 ⟨a, b⟩)⟩
theorem eng_bad1 {xs : List Int} {f : Int} {t : Nat} (ht : t < xs.length) (h : ¬ (1 ≤ xs.getD t 0 ∧ xs.getD t 0 ≤ xs.length)) : ¬ EngOk xs f := fun hh => h (by
  rw [getD_at ht]
  exact (eng_in hh).1 (List.getElem_mem ht))
theorem eng_bad2 {xs : List Int} {f : Int} {t k : Nat} (ht : t < xs.length) (hk : k < t) (h : xs.getD k 0 = xs.getD t 0) : ¬ EngOk xs f := fun hh => by
  have hn := eng_nodup hh
  unfold List.Nodup at hn
  rw [List.pairwise_iff_getElem] at hn
  have := hn k t (by omega) ht hk
  rw [getD_at ht, getD_at (by omega)] at h
  exact this h
/-- Whether a fire without a second pulse is valid. -/
noncomputable def fireB (xs : List Int) (c s d e i : Int) : Bool := decide (c ∈ xs) && inB s (-1280) 3840 && inB d 500 10000 && inB e 0 23040 && (decide (i = 0) || inB i 200 20000)
end Go.Proofs.Ytohdbneaganfbaa
