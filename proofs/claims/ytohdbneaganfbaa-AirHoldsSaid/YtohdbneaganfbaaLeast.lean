/- The least number below a bound with a property. -/
import Derived.Test.YtohdbneaganfbaaLib
namespace Go.Proofs.Ytohdbneaganfbaa
set_option linter.unusedVariables false
set_option linter.unusedSimpArgs false

/-- The least t below n with p, or n. -/
def least (p : Nat → Bool) : Nat → Nat
  | 0 => 0
  | n + 1 => if least p n < n then least p n else if p n then n else n + 1

theorem least_le (p : Nat → Bool) : ∀ n, least p n ≤ n
  | 0 => Nat.le_refl _
  | n + 1 => by
    have := least_le p n
    unfold least
    split
    · omega
    · split <;> omega

theorem least_below (p : Nat → Bool) : ∀ n t, t < least p n → p t = false
  | 0, t, h => by simp [least] at h
  | n + 1, t, h => by
    have ih := least_below p n
    have hl := least_le p n
    unfold least at h
    split at h
    · exact ih t h
    · rename_i hn
      split at h
      · exact ih t (by omega)
      · rename_i hp
        by_cases ht : t < n
        · exact ih t (by omega)
        · obtain rfl : t = n := by omega
          simpa using hp

theorem least_at (p : Nat → Bool) : ∀ n, least p n < n → p (least p n) = true
  | 0, h => by simp at h
  | n + 1, h => by
    have ih := least_at p n
    unfold least at h ⊢
    split
    · rename_i h1; exact ih h1
    · rename_i h1
      rw [if_neg h1] at h
      split
      · rename_i h2; exact h2
      · rename_i h2; rw [if_neg h2] at h; omega

theorem least_mono {p : Nat → Bool} (hm : ∀ a b, a ≤ b → p a = true → p b = true) (n t : Nat) (h : least p n ≤ t) (ht : t < n) : p t = true :=
  hm _ _ h (least_at p n (by omega))

theorem least_eq {p : Nat → Bool} {n r : Nat} (hr : r ≤ n) (h1 : ∀ t, t < r → p t = false) (h2 : r < n → p r = true) : least p n = r := by
  have a := least_le p n
  have b := least_below p n
  have c := least_at p n
  rcases Nat.lt_trichotomy (least p n) r with h | h | h
  · have := h1 _ h
    rw [c (by omega)] at this
    cases this
  · exact h
  · have := b r h
    rw [h2 (by omega)] at this
    cases this

end Go.Proofs.Ytohdbneaganfbaa
