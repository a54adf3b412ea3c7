/- The plain law of Want: the least injection, and what it does. -/
import Derived.Test.YtmfldcjecajkoaaFuelB
import Derived.Test.YtmfldcjecajkoaaLeast
namespace Go.Proofs.Ytmfldcjecajkoaa
set_option linter.unusedVariables false
set_option linter.unusedSimpArgs false

def netI (f : Int) (t : Nat) : Int := (t : Int) - wallI f t
theorem netI_bd {f : Int} (h0 : 0 ≤ f) (h1 : f ≤ 1023) (t : Nat) : 0 ≤ netI f t ∧ netI f t ≤ t := by
  have h2 : (t : Int) * f ≤ (t : Int) * 1023 := Int.mul_le_mul_of_nonneg_left h1 (by omega)
  have h3 : 0 ≤ (t : Int) * f := Int.mul_nonneg (by omega) h0
  unfold netI wallI
  omega
theorem netI_succ {f : Int} (h0 : 0 ≤ f) (h1 : f ≤ 1023) (t : Nat) : netI f t ≤ netI f (t + 1) ∧ netI f (t + 1) ≤ netI f t + 1 := by
  have e : ((t + 1 : Nat) : Int) * f = (t : Int) * f + f := by rw [Int.natCast_add, Int.add_mul]; simp
  unfold netI wallI
  rw [e]
  omega
theorem netI_mono {f : Int} (h0 : 0 ≤ f) (h1 : f ≤ 1023) {a b : Nat} (h : a ≤ b) : netI f a ≤ netI f b := by
  induction b with
  | zero => obtain rfl : a = 0 := by omega
            exact Int.le_refl _
  | succ b ih =>
    by_cases hb : a ≤ b
    · exact Int.le_trans (ih hb) (netI_succ h0 h1 b).1
    · obtain rfl : a = b + 1 := by omega
      exact Int.le_refl _

/-- How much the cylinder lacks after an injection of t. -/
def lackI (f e film mass : Int) (t : Nat) : Int := mass - ((t : Int) - wallI f t + wallI e film)
@[irreducible] def wantR (f e film mass : Int) : Nat := least (fun t => decide (lackI f e film mass t ≤ 0)) 1048577
theorem lackI_mono {f e film mass : Int} (h0 : 0 ≤ f) (h1 : f ≤ 1023) {a b : Nat} (h : a ≤ b) : lackI f e film mass b ≤ lackI f e film mass a := by
  have := netI_mono h0 h1 h
  unfold netI at this
  unfold lackI
  omega
theorem wantR_le (f e film mass : Int) : wantR f e film mass ≤ 1048577 := by unfold wantR; exact least_le _ _
theorem wantR_below {f e film mass : Int} {t : Nat} (h : t < wantR f e film mass) : 0 < lackI f e film mass t := by
  unfold wantR at h
  have := least_below _ _ _ h
  simpa using this
theorem wantR_above {f e film mass : Int} (h0 : 0 ≤ f) (h1 : f ≤ 1023) {t : Nat} (h : wantR f e film mass ≤ t) (ht : t < 1048577) : lackI f e film mass t ≤ 0 := by
  have := least_at (fun t => decide (lackI f e film mass t ≤ 0)) 1048577 (by unfold wantR at h; omega)
  have h2 := lackI_mono (e := e) (film := film) (mass := mass) h0 h1 h
  unfold wantR at h2
  simp only [decide_eq_true_eq] at this
  omega
theorem wantR_eq {f e film mass : Int} (h0 : 0 ≤ f) (h1 : f ≤ 1023) {r : Nat} (hr : r ≤ 1048577) (hb : ∀ t, t < r → 0 < lackI f e film mass t) (ha : r < 1048577 → lackI f e film mass r ≤ 0) : wantR f e film mass = r := by
  unfold wantR
  exact
  least_eq hr (fun t ht => by have := hb t ht; simp; omega) (fun h => by have := ha h; simpa using this)

def want3 (f e film mass : Int) : Int × Int × Int :=
  if goodB f e = true then
    if inB film 0 1073741824 = true ∧ inB mass 0 1048576 = true then
      if wantR f e film mass > 1048576 then (0, 0, 9)
      else if film + wallI f (wantR f e film mass) - wallI e film > 1073741824 then (0, 0, 9)
      else ((wantR f e film mass : Int), film + wallI f (wantR f e film mass) - wallI e film, 0)
    else (0, 0, 2)
  else (0, 0, 1)

end Go.Proofs.Ytmfldcjecajkoaa
