/- What a value that came in reads as: integers, slices of integers, structs cell by cell. -/
import Derived.Test.YtfooefiaenlhmaaFrame
namespace Go.Proofs.Ytfooefiaenlhmaa
set_option linter.unusedVariables false
set_option linter.unusedSimpArgs false
open Go.RowKit Go.ChangeShapes Go.WideShapes Go.ChangeAt

def Rd (P : Program) (W : World) (t : TypeId) (cs : List Value) : Prop :=
  ∃ (H : Type) (enc : TypeId × Value → H) (fuel : Nat) (y : DataW H × List MemPlace), DataW.trod enc P W 0 (fun _ => true) true fuel t cs = some y
/-- An int of Go. -/
def I64 (a : Int) : Prop := (Lit.int .i64 a).wf = true
theorem I64.bd {a : Int} (h : I64 a) : -9223372036854775808 ≤ a ∧ a ≤ 9223372036854775807 := by
  unfold I64 at h
  simpa [Lit.wf, IntKind.min, IntKind.max, IntKind.bits, IntKind.signed] using h
/-- A slice of integers that came in: its numbers. -/
structure IsInts (W : World) (r : Option Addr) (cap : Nat) (k : IntKind) (xs : List Int) : Prop where
  le : xs.length ≤ cap
  max : cap ≤ maxLen
  wf : ∀ x ∈ xs, (Lit.int k x).wf = true
  cells : xs ≠ [] → ∃ b off, r = some ⟨b, off, none⟩ ∧ b < W.heap.size ∧ ∀ i, i < xs.length → W.cell? ⟨b, off + i, none⟩ = some (.int k (xs.getD i 0))

theorem rd_of {H : Type} {enc : TypeId × Value → H} {P : Program} {W : World} {t : TypeId} {v : Value} {d : DataW H} {ps : List MemPlace} (h : DataW.Trod enc P W 0 (fun _ => true) true t v d ps) : Rd P W t v.cells.toList := by
  obtain ⟨fuel, hf⟩ := h
  exact ⟨H, enc, fuel, _, hf⟩
theorem rd_int {P : Program} {W : World} {t : TypeId} {k : IntKind} {cs : List Value} (ht : P.underlying t = some (.int k)) (h : Rd P W t cs) : ∃ n, cs = [.int k n] ∧ (Lit.int k n).wf = true := by
  obtain ⟨H, enc, fuel, y, hf⟩ := h
  obtain ⟨n, h1, _, h3⟩ := DataW.trod_int ht hf
  exact ⟨n, h1, h3⟩
theorem rd_bool {P : Program} {W : World} {t : TypeId} {cs : List Value} (ht : P.underlying t = some .bool) (h : Rd P W t cs) : ∃ b, cs = [.bool b] := by
  obtain ⟨H, enc, fuel, y, hf⟩ := h
  cases fuel with
  | zero => simp [DataW.trod] at hf
  | succ n =>
    unfold DataW.trod at hf
    rw [ht] at hf
    split at hf <;> simp_all
theorem rd_struct {P : Program} {W : World} {t : TypeId} {fs : Array Field} {cs : List Value} (ht : P.underlying t = some (.struct fs)) (h : Rd P W t cs) :
    cs.length = P.cellsOf t ∧ ∀ (i : Nat) (f : Field), fs[i]? = some f → Rd P W f.type ((cs.drop f.offset).take (P.cellsOf f.type)) := by
  obtain ⟨H, enc, fuel, y, hf⟩ := h
  obtain ⟨xs, n, _, _, hl, hx, hi⟩ := DataW.trod_struct ht hf
  refine ⟨hl, fun i f hif => ?_⟩
  have hlt : i < xs.length := by
    rw [hx]
    exact (Array.getElem?_eq_some_iff.1 hif).1
  have := hi i f hif
  rw [List.getElem?_eq_getElem hlt] at this
  exact ⟨H, enc, n, _, this⟩
theorem rd_ints {P : Program} {W : World} {t e : TypeId} {k : IntKind} {cs : List Value} (ht : P.underlying t = some (.slice e)) (he : P.underlying e = some (.int k)) (hc : P.cellsOf e = 1) (h : Rd P W t cs) :
    ∃ (r : Option Addr) (cap : Nat) (xs : List Int), cs = [.slice r xs.length cap] ∧ IsInts W r cap k xs := by
  obtain ⟨H, enc, fuel, y, hf⟩ := h
  rcases open_ints ht he hc hf with ⟨rfl, _⟩ | ⟨a, len, cap, zs, rfl, _, hl, hm, hz, _, hcell, hw⟩
  · exact ⟨none, 0, [], rfl, ⟨Nat.le_refl _, Nat.zero_le _, by simp, fun h => absurd rfl h⟩⟩
  · simp only [if_true] at hz
    have hlen : (zs.take len).length = len := by rw [List.length_take]; omega
    refine ⟨some a, cap, zs.take len, by rw [hlen], ⟨by omega, hm, fun x hx => hw x (List.mem_of_mem_take hx), fun hne => ?_⟩⟩
    have h0 : 0 < len := by
      rcases Nat.eq_zero_or_pos len with h | h
      · subst h; simp at hne
      · exact h
    obtain ⟨b, off, spot⟩ := a
    have hc0 := hcell 0 (by omega)
    have hspot : spot = none := by simpa [Addr.add] using World.cell?_spot hc0
    subst hspot
    have hb := World.block_lt_of_cell? _ _ hc0
    refine ⟨b, off, rfl, by simpa [Addr.add] using hb, fun i hi => ?_⟩
    have := hcell i (by omega)
    have hg : (zs.take len).getD i 0 = zs.getD i 0 := by
      rw [hlen] at hi
      simp [List.getD, List.getElem?_take, hi]
    rw [hg, ← this]
    by_cases hi0 : i = 0
    · subst hi0; simp [Addr.add]
    · simp [Addr.add, hi0]
theorem arg_agg {H : Type} {enc : TypeId × Value → H} {P : Program} {W : World} {b : Nat} {t : TypeId} {fs : Array Field} {v : Value} {d : DataW H} {ps : List MemPlace} (ht : P.underlying t = some (.struct fs)) (hv : Value.okWide P W .any b t v)
    (h : DataW.Trod enc P W 0 (fun _ => true) true t v d ps) : ∃ cs : List Value, v = .agg cs.toArray ∧ Rd P W t cs := by
  obtain ⟨cs, rfl, _⟩ := okWide_struct ht hv
  have := rd_of h
  exact ⟨cs.toList, by simp, by simpa [Value.cells] using this⟩
theorem arg_slice {H : Type} {enc : TypeId × Value → H} {P : Program} {W : World} {b : Nat} {t e : TypeId} {v : Value} {d : DataW H} {ps : List MemPlace} (ht : P.underlying t = some (.slice e)) (hv : Value.okWide P W .any b t v)
    (h : DataW.Trod enc P W 0 (fun _ => true) true t v d ps) : Rd P W t [v] := by
  obtain ⟨a, l, c, rfl⟩ := okWide_slice ht hv
  have := rd_of h
  simpa [Value.cells] using this
theorem len_succ {n : Nat} {l : List Value} (h : l.length = n + 1) : ∃ a t, l = a :: t ∧ t.length = n := by
  cases l with
  | nil => simp at h
  | cons a t => exact ⟨a, t, rfl, by simpa using h⟩
/-- The numbers of a slice are there in a later world, too. -/
theorem IsInts.later {W W' : World} {r : Option Addr} {cap : Nat} {k : IntKind} {xs : List Int} (h : IsInts W r cap k xs) (hb : Below W.heap.size W W') : IsInts W' r cap k xs :=
  ⟨h.le, h.max, h.wf, fun hne => by
    obtain ⟨b, off, h1, h2, h3⟩ := h.cells hne
    exact ⟨b, off, h1, Nat.lt_of_lt_of_le h2 hb.size, fun i hi => by rw [hb.cell (p := ⟨b, off + i, none⟩) h2]; exact h3 i hi⟩⟩

end Go.Proofs.Ytfooefiaenlhmaa
