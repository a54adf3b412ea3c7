/- What a slice of slices of integers reads as. -/
import Derived.Test.YtohdbneaganfbaaOpen
import Derived.Deep.Matrix
namespace Go.Proofs.Ytohdbneaganfbaa
set_option linter.unusedVariables false
set_option linter.unusedSimpArgs false
open Go.RowKit Go.ChangeShapes Go.WideShapes Go.ChangeAt Go.Deep

/-- A slice of slices of integers that came in: its rows. -/
structure IsRows (W : World) (r : Option Addr) (cap : Nat) (rows : List (List Int)) : Prop where
  le : rows.length ≤ cap
  max : cap ≤ maxLen
  cells : rows ≠ [] → ∃ b off, r = some ⟨b, off, none⟩ ∧ b < W.heap.size ∧ ∀ i, i < rows.length → ∃ ri ci, W.cell? ⟨b, off + i, none⟩ = some (.slice ri (rows.getD i []).length ci) ∧ IsInts W ri ci .i64 (rows.getD i [])

theorem IsRows.later {W W' : World} {r : Option Addr} {cap : Nat} {rows : List (List Int)} (h : IsRows W r cap rows) (hb : Below W.heap.size W W') : IsRows W' r cap rows :=
  ⟨h.le, h.max, fun hne => by
    obtain ⟨b, off, h1, h2, h3⟩ := h.cells hne
    refine ⟨b, off, h1, Nat.lt_of_lt_of_le h2 hb.size, fun i hi => ?_⟩
    obtain ⟨ri, ci, g1, g2⟩ := h3 i hi
    exact ⟨ri, ci, by rw [hb.cell (p := ⟨b, off + i, none⟩) h2]; exact g1, g2.later hb⟩⟩

theorem addr_add_none {a : Addr} {i : Nat} {W : World} {v : Value} (h : W.cell? (a.add i) = some v) : a.add i = ⟨a.block, a.off + i, none⟩ := by
  obtain ⟨b, off, spot⟩ := a
  have hs := World.cell?_spot h
  by_cases hi : i = 0
  · subst hi
    have : spot = none := by simpa [Addr.add] using hs
    subst this
    simp [Addr.add]
  · simp only [Addr.add, hi, if_false] at hs ⊢
    first | done | rfl | simp_all

theorem rd_rows {P : Program} {W : World} {t e q : TypeId} {cs : List Value} (ht : P.underlying t = some (.slice e)) (he : P.underlying e = some (.slice q)) (hq : P.underlying q = some (.int .i64)) (ce : P.cellsOf e = 1) (cq : P.cellsOf q = 1) (h : Rd P W t cs) :
    ∃ (r : Option Addr) (cap : Nat) (rows : List (List Int)), cs = [.slice r rows.length cap] ∧ IsRows W r cap rows := by
  obtain ⟨H, enc, fuel, y, hf⟩ := h
  rcases open_int_rows ht he hq ce cq hf with ⟨rfl, _⟩ | ⟨a, len, cap, A, L, C, Z, rfl, _, hl, hm, _, hr⟩
  · exact ⟨none, 0, [], rfl, ⟨Nat.le_refl _, Nat.zero_le _, fun h => absurd rfl h⟩⟩
  · refine ⟨some a, cap, (List.range len).map fun i => (Z i).take (L i), by simp, ⟨by simpa using hl, hm, fun hne => ?_⟩⟩
    have h0 : 0 < len := by
      rcases Nat.eq_zero_or_pos len with h | h
      · subst h; simp at hne
      · exact h
    have hc0 := (hr 0 (by omega)).1
    have ha := addr_add_none hc0
    obtain ⟨b, off, spot⟩ := a
    have hspot : spot = none := by simpa [Addr.add] using World.cell?_spot hc0
    subst hspot
    refine ⟨b, off, rfl, by have := World.block_lt_of_cell? _ _ hc0; simpa [Addr.add] using this, fun i hi => ?_⟩
    have hi' : i < len := by simpa using hi
    obtain ⟨g1, g2, g3, g4, g5, g6, g7⟩ := hr i (by omega)
    have hrow : ((List.range len).map fun i => (Z i).take (L i)).getD i [] = (Z i).take (L i) := by simp [List.getD, List.getElem?_map, hi']
    have hlen : ((Z i).take (L i)).length = L i := by rw [List.length_take]; omega
    rw [addr_add_none g1] at g1
    refine ⟨A i, C i, by rw [hrow, hlen]; exact g1, ?_⟩
    rw [hrow]
    refine ⟨by omega, g3, fun x hx => g5 x (List.mem_of_mem_take hx), fun hne2 => ?_⟩
    have hL0 : 0 < L i := by
      rcases Nat.eq_zero_or_pos (L i) with h | h
      · rw [h] at hne2; simp at hne2
      · exact h
    cases hA : A i with
    | none => have := g6 hA; omega
    | some a' =>
      obtain ⟨_, hcell⟩ := g7 a' hA
      have hc1 := hcell 0 (by omega)
      obtain ⟨b', off', spot'⟩ := a'
      have hspot' : spot' = none := by simpa [Addr.add] using World.cell?_spot hc1
      subst hspot'
      refine ⟨b', off', rfl, by have := World.block_lt_of_cell? _ _ hc1; simpa [Addr.add] using this, fun j hj => ?_⟩
      have hcj := hcell j (by omega)
      rw [addr_add_none hcj] at hcj
      rw [hcj]
      rw [hlen] at hj
      simp [List.getD, List.getElem?_take, hj]

end Go.Proofs.Ytohdbneaganfbaa
