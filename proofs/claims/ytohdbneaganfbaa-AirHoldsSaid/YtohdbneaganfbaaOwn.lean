/- A slice of integers that a call made itself: what it owns, and append's step. No statement about the program. -/
import Derived.Test.YtohdbneaganfbaaOpen
import Derived.Deep.AppendLies
import Derived.OwnWalk
namespace Go.Proofs.Ytohdbneaganfbaa
set_option linter.unusedVariables false
set_option linter.unusedSimpArgs false
open Go.RowKit Go.ChangeShapes Go.WideShapes Go.ChangeAt

/-- The slice r of xs.length elements owns xs, in blocks from 'base' on. -/
def OwnI (W : World) (base : Nat) (r : Option Addr) (cap : Nat) (xs : List Int) : Prop := W.ownsRow base 3 1 (.slice r xs.length cap) xs.length (xs.map (Value.int .i64))

theorem OwnI.nil (W : World) (base : Nat) : OwnI W base none 0 [] := World.ownsRow_nil _ _ _ _
theorem OwnI.lt {W : World} {base : Nat} {r : Option Addr} {cap : Nat} {xs : List Int} (h : OwnI W base r cap xs) : ∀ a, r = some a → base ≤ a.block ∧ a.block < W.heap.size := fun a ha => by
  subst ha
  exact World.ownsRow.lt h a.block rfl
theorem OwnI.below {W W' : World} {base B : Nat} {r : Option Addr} {cap : Nat} {xs : List Int} (h : OwnI W base r cap xs) (hb : Below B W W') (hB : W.heap.size ≤ B) : OwnI W' base r cap xs := by
  refine ⟨h.1, ?_⟩
  rcases h.2 with ⟨h1, h2⟩ | ⟨g, c, cur, h1, h2, h3, h4⟩
  · exact Or.inl ⟨h1, h2⟩
  · refine Or.inr ⟨g, c, cur, h1, h2, ?_, h4⟩
    rw [hb.block g ?_]
    · exact h3
    · rcases Nat.lt_or_ge g W.heap.size with hlt | hge
      · omega
      · rw [Array.getElem?_eq_none hge] at h3; cases h3
theorem OwnI.ints {W : World} {base : Nat} {r : Option Addr} {cap : Nat} {xs : List Int} (h : OwnI W base r cap xs) (hw : ∀ x ∈ xs, (Lit.int .i64 x).wf = true) : IsInts W r cap .i64 xs := by
  obtain ⟨h0, h2⟩ := h
  rcases h2 with ⟨h1, h3⟩ | ⟨g, c, cur, h1, h3, h4, h5, h6, h7, h8⟩
  · obtain rfl : xs = [] := List.length_eq_zero_iff.1 h3
    simp only [Value.slice.injEq] at h1
    obtain ⟨rfl, _, rfl⟩ := h1
    exact ⟨Nat.le_refl _, Nat.zero_le _, by simp, fun h => absurd rfl h⟩
  · simp only [Value.slice.injEq] at h1
    obtain ⟨rfl, _, rfl⟩ := h1
    have hlt : g < W.heap.size := by
      rcases Nat.lt_or_ge g W.heap.size with hlt | hge
      · exact hlt
      · rw [Array.getElem?_eq_none hge] at h4; cases h4
    refine ⟨h5, h6, hw, fun _ => ⟨g, 0, rfl, hlt, fun i hi => ?_⟩⟩
    have := World.ownsRow.cellAt (w := W) (base := base) (e := 3) (size := 1) (g := g) (n := xs.length) (cap := cap) (xs := xs.map (Value.int .i64)) ⟨h0, Or.inr ⟨g, cap, cur, rfl, h3, h4, h5, h6, h7, h8⟩⟩ i (by omega)
    rw [Nat.zero_add, this]
    simp [List.getElem?_map, List.getD, List.getElem?_eq_getElem hi]

theorem infoInt : (Try.prog.info? 3).map (fun i => (i.zero, i.size, i.bytes)) = some (some (.int .i64 0), 1, 8) := by kernel_rfl

/-- One integer is appended. -/
theorem wpList_append_int {ops : Array Oper} {rest : List Oper} {o : Oper} {a : Act} {Q : Exit → Act → World → Prop} {w : World} (hgd : o.guard = none) (s x : Operand)
    (ho : o.op = .call { callee := .builtin .append, args := #[s, x], argTypes := #[22, 22] }) (w0 : World) (base : Nat) (r : Option Addr) (cap : Nat) (xs : List Int) (p : Int)
    (hw : w = w0.alloc (.cells #[.int .i64 p] 3)) (hs : a.eval s = .slice r xs.length cap) (hx : a.eval x = .slice (some ⟨w0.heap.size, 0, none⟩) 1 1)
    (hown : OwnI w0 base r cap xs) (hl : xs.length ≤ 1099511627776) (hb : base ≤ w0.heap.size)
    (h : ∀ r' cap' w', OwnI w' base r' cap' (xs ++ [p]) → Below base w0 w' → wpList Try.prog ops Q rest (a.put o.dst (.slice r' (xs.length + 1) cap')) w') : wpList Try.prog ops Q (o :: rest) a w := by
  subst hw
  obtain ⟨i0, hi, hz0, hz1, hz2⟩ := info_parts infoInt
  have hown2 : (w0.alloc (.cells #[.int .i64 p] 3)).ownsRow base 3 1 (.slice r xs.length cap) xs.length (xs.map (Value.int .i64)) := World.ownsRow.alloc hown _
  refine wpList_append_lies (w0.alloc (.cells #[.int .i64 p] 3)) hgd s x 22 ho base 3 i0 (.int .i64 0) 1 8 Try.underlying22 hi hz0 hz1 hz2 rfl (by omega) _ xs.length (xs.map (Value.int .i64)) hs hown2 ⟨w0.heap.size, 0, none⟩ 1 1 [.int .i64 p] hx rfl ?_ ?_ (by omega) ?_ (by omega) (by simp; omega) _ rfl ?_
  · intro j u hj
    match j, hj with
    | 0, hj => simp at hj; subst hj; simp [Addr.add, go_sem]
    | j + 1, hj => simp at hj
  · intro u hu
    simp at hu
    subst hu
    rfl
  · unfold maxLen; omega
  · intro g cap' w1 hown' hgrow _ _
    refine h _ _ _ ?_ ?_
    · unfold OwnI
      simpa using hown'
    · exact ((Below.refl base w0).alloc hb _).grown hgrow (by simp only [World.size_alloc]; omega) (fun k hk => (World.ownsRow.lt hown2 k hk).1)
end Go.Proofs.Ytohdbneaganfbaa
