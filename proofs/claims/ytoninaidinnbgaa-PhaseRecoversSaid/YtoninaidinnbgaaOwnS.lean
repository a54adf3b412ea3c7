/- A slice of structs that a call made itself: what it owns, and append's step. No statement about the program. -/
import Derived.Test.YtoninaidinnbgaaOwn
namespace Go.Proofs.Ytoninaidinnbgaa
set_option linter.unusedVariables false
set_option linter.unusedSimpArgs false
open Go.RowKit Go.ChangeShapes Go.WideShapes Go.ChangeAt

/-- The slice r owns rows, each of sz cells, in blocks from 'base' on. -/
def OwnR {α : Type} (t : TypeId) (sz : Nat) (enc : α → List Value) (W : World) (base : Nat) (r : Option Addr) (cap : Nat) (rows : List α) : Prop := W.ownsRow base t sz (.slice r rows.length cap) rows.length (rows.flatMap enc)

section
variable {α : Type} {t : TypeId} {sz : Nat} {enc : α → List Value}
theorem OwnR.nil (W : World) (base : Nat) : OwnR t sz enc W base none 0 ([] : List α) := World.ownsRow_nil _ _ _ _
theorem OwnR.below {W W' : World} {base B : Nat} {r : Option Addr} {cap : Nat} {xs : List α} (h : OwnR t sz enc W base r cap xs) (hb : Below B W W') (hB : W.heap.size ≤ B) : OwnR t sz enc W' base r cap xs := by
  refine ⟨h.1, ?_⟩
  rcases h.2 with ⟨h1, h2⟩ | ⟨g, c, cur, h1, h2, h3, h4⟩
  · exact Or.inl ⟨h1, h2⟩
  · refine Or.inr ⟨g, c, cur, h1, h2, ?_, h4⟩
    rw [hb.block g ?_]
    · exact h3
    · rcases Nat.lt_or_ge g W.heap.size with hlt | hge
      · omega
      · rw [Array.getElem?_eq_none hge] at h3; cases h3
theorem OwnR.base {W : World} {base base' : Nat} {r : Option Addr} {cap : Nat} {xs : List α} (h : OwnR t sz enc W base r cap xs) (hb : base' ≤ base) : OwnR t sz enc W base' r cap xs := by
  refine ⟨h.1, ?_⟩
  rcases h.2 with h1 | ⟨g, c, cur, h1, h2, h3⟩
  · exact Or.inl h1
  · exact Or.inr ⟨g, c, cur, h1, by omega, h3⟩
theorem flat_at {xs : List α} (henc : ∀ x, (enc x).length = sz) : ∀ {i j : Nat} {x : α}, xs[i]? = some x → j < sz → (xs.flatMap enc)[i * sz + j]? = (enc x)[j]? := by
  induction xs with
  | nil => intro i j x h _; simp at h
  | cons a l ih =>
    intro i j x h hj
    rw [List.flatMap_cons]
    cases i with
    | zero =>
      simp at h
      subst h
      rw [Nat.zero_mul, Nat.zero_add, List.getElem?_append_left (by rw [henc]; exact hj)]
    | succ i =>
      have h' : l[i]? = some x := by simpa using h
      rw [List.getElem?_append_right (by rw [henc, Nat.succ_mul]; omega), henc, show (i + 1) * sz + j - sz = i * sz + j by rw [Nat.succ_mul]; omega]
      exact ih h' hj
/-- Where the rows lie. -/
theorem OwnR.cells {W : World} {base : Nat} {r : Option Addr} {cap : Nat} {xs : List α} (h : OwnR t sz enc W base r cap xs) (henc : ∀ x, (enc x).length = sz) (hne : xs ≠ []) :
    ∃ g, r = some ⟨g, 0, none⟩ ∧ base ≤ g ∧ g < W.heap.size ∧ xs.length ≤ cap ∧ cap ≤ maxLen ∧ ∀ i j x u, xs[i]? = some x → (enc x)[j]? = some u → W.cell? ⟨g, i * sz + j, none⟩ = some u := by
  obtain ⟨h0, h2⟩ := h
  rcases h2 with ⟨_, h3⟩ | ⟨g, c, cur, h1, h3, h4, h5, h6, h7, h8⟩
  · exact absurd (List.length_eq_zero_iff.1 h3) hne
  · simp only [Value.slice.injEq] at h1
    obtain ⟨rfl, _, rfl⟩ := h1
    have hlt : g < W.heap.size := by
      rcases Nat.lt_or_ge g W.heap.size with hlt | hge
      · exact hlt
      · rw [Array.getElem?_eq_none hge] at h4; cases h4
    refine ⟨g, rfl, h3, hlt, h5, h6, fun i j x u hi hj => ?_⟩
    have hil : i < xs.length := (List.getElem?_eq_some_iff.1 hi).1
    have hjl : j < sz := by rw [← henc x]; exact (List.getElem?_eq_some_iff.1 hj).1
    have hf := flat_at henc hi hjl
    rw [hj] at hf
    have hlt2 : i * sz + j < xs.length * sz := by
      have : (i + 1) * sz ≤ xs.length * sz := Nat.mul_le_mul_right sz hil
      rw [Nat.succ_mul] at this
      omega
    have := World.ownsRow.cellAt (w := W) (base := base) (e := t) (size := sz) (g := g) (n := xs.length) (cap := cap) (xs := xs.flatMap enc) ⟨h0, Or.inr ⟨g, cap, cur, rfl, h3, h4, h5, h6, h7, h8⟩⟩ (i * sz + j) hlt2
    rw [this, hf]

/-- One row is appended. -/
theorem wpList_append_row {ts : TypeId} {z : Value} {by' : Nat} (hts : Try.prog.underlying ts = some (.slice t)) (hinf : (Try.prog.info? t).map (fun i => (i.zero, i.size, i.bytes)) = some (some z, sz, by')) (hzs : z.cells.size = sz) (h0 : 0 < sz) (hby : by' ≤ 128)
    {ops : Array Oper} {rest : List Oper} {o : Oper} {a : Act} {Q : Exit → Act → World → Prop} {w : World} (hgd : o.guard = none) (s x : Operand)
    (ho : o.op = .call { callee := .builtin .append, args := #[s, x], argTypes := #[ts, ts] }) (w0 : World) (base : Nat) (r : Option Addr) (cap : Nat) (xs : List α) (p : α) (henc : (enc p).length = sz) (hone : ∀ u ∈ enc p, u.oneCell' = true)
    (hw : w = w0.alloc (.cells (enc p).toArray t)) (hs : a.eval s = .slice r xs.length cap) (hx : a.eval x = .slice (some ⟨w0.heap.size, 0, none⟩) 1 1)
    (hown : OwnR t sz enc w0 base r cap xs) (hl : xs.length ≤ 549755813888) (hb : base ≤ w0.heap.size)
    (h : ∀ r' cap' w', OwnR t sz enc w' base r' cap' (xs ++ [p]) → Below base w0 w' → wpList Try.prog ops Q rest (a.put o.dst (.slice r' (xs.length + 1) cap')) w') : wpList Try.prog ops Q (o :: rest) a w := by
  subst hw
  obtain ⟨i0, hi, hz0, hz1, hz2⟩ := info_parts hinf
  have hown2 : (w0.alloc (.cells (enc p).toArray t)).ownsRow base t sz (.slice r xs.length cap) xs.length (xs.flatMap enc) := World.ownsRow.alloc hown _
  refine wpList_append_lies (w0.alloc (.cells (enc p).toArray t)) hgd s x ts ho base t i0 z sz by' hts hi hz0 hz1 hz2 hzs h0 _ xs.length (xs.flatMap enc) hs hown2 ⟨w0.heap.size, 0, none⟩ 1 1 (enc p) hx (by rw [henc, Nat.one_mul]) ?_ hone (by omega) ?_ ?_ (by simp; omega) _ rfl ?_
  · intro j u hj
    have : (⟨w0.heap.size, 0, none⟩ : Addr).add j = ⟨w0.heap.size, j, none⟩ := by
      by_cases hj0 : j = 0
      · subst hj0; simp [Addr.add]
      · simp [Addr.add, hj0]
    rw [this, World.cell?_alloc_new]
    simpa using hj
  · unfold maxLen; omega
  · have : (xs.length + 1) * by' ≤ (549755813888 + 1) * 128 := Nat.mul_le_mul (by omega) hby
    omega
  · intro g cap' w1 hown' hgrow _ _
    refine h _ _ _ ?_ ?_
    · unfold OwnR
      simpa using hown'
    · exact ((Below.refl base w0).alloc hb _).grown hgrow (by simp only [World.size_alloc]; omega) (fun k hk => (World.ownsRow.lt hown2 k hk).1)
end
end Go.Proofs.Ytoninaidinnbgaa
