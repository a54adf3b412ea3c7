/- Appending a list of integers to an owned one; slices.Grow of nil, slices.Concat of two lists of integers. No statement about the program. -/
import Derived.Test.YtohdbneaganfbaaOwn
import Derived.Maps.AppendAt
import Derived.Lib.AppendZeros
import Derived.Deep.LoopGhost
namespace Go.Proofs.Ytohdbneaganfbaa
set_option linter.unusedVariables false
set_option linter.unusedSimpArgs false
open Go.RowKit Go.ChangeShapes Go.WideShapes Go.ChangeAt

theorem OwnI.le {W : World} {base : Nat} {r : Option Addr} {cap : Nat} {xs : List Int} (h : OwnI W base r cap xs) : xs.length ≤ cap := by
  rcases h.2 with ⟨h1, h3⟩ | ⟨g, c, cur, h1, h3, h4, h5, h6, h7, h8⟩
  · omega
  · simp only [Value.slice.injEq] at h1
    omega
theorem run_append_none {t e : TypeId} (ty : TypeId) (i : TypeInfo) (ht : Try.prog.underlying t = some (.slice e)) (hi : Try.prog.info? e = some i) (w : World) (r : Option Addr) (len cap c : Nat) (hl : len ≤ cap) :
    (Builtin.append_ #[t, t] ty #[.slice r len cap, .slice none 0 c]).run Try.prog w = .ok (.slice r len cap) w := by
  cases r <;> simp [Builtin.append_, run_underlying ht, sizeOf, typeInfo, hi, Builtin.lenOf, hl, Builtin.firstCells, storeCells]

theorem wpList_append_ints {ops : Array Oper} {rest : List Oper} {o : Oper} {a : Act} {Q : Exit → Act → World → Prop} {w : World} (hgd : o.guard = none) (s x : Operand)
    (ho : o.op = .call { callee := .builtin .append, args := #[s, x], argTypes := #[22, 22] }) (base : Nat) (r r2 : Option Addr) (cap c2 : Nat) (xs ys : List Int)
    (hs : a.eval s = .slice r xs.length cap) (hx : a.eval x = .slice r2 ys.length c2) (hown : OwnI w base r cap xs) (hys : IsInts w r2 c2 .i64 ys) (hl : xs.length + ys.length ≤ 1099511627776) (hb : base ≤ w.heap.size)
    (h : ∀ r' cap' w', OwnI w' base r' cap' (xs ++ ys) → Below base w w' → wpList Try.prog ops Q rest (a.put o.dst (.slice r' (xs ++ ys).length cap')) w') : wpList Try.prog ops Q (o :: rest) a w := by
  obtain ⟨i0, hi, hz0, hz1, hz2⟩ := info_parts infoInt
  cases r2 with
  | none =>
    have hy : ys = [] := by
      rcases Classical.em (ys = []) with h | h
      · exact h
      · obtain ⟨b, off, h1, _⟩ := hys.cells h
        cases h1
    subst hy
    refine Lib.wpList_append_run w hgd s x _ _ ho _ _ hs hx _ w (run_append_none o.type i0 Try.underlying22 hi w r xs.length cap c2 hown.le) ?_
    have := h r cap w (by rw [List.append_nil]; exact hown) (Below.refl _ _)
    rwa [List.append_nil] at this
  | some ad =>
    refine wpList_append_own_at w hgd s x 22 ho base 3 i0 (.int .i64 0) 1 8 Try.underlying22 hi hz0 hz1 hz2 rfl (by omega) _ xs.length (xs.map (Value.int .i64)) hs hown ad ys.length c2 (ys.map (Value.int .i64)) hx (by simp) ?_ (ints_oneCell .i64 ys) (by unfold maxLen; omega) (by omega) hb ?_
    · intro j u hj
      have hj2 : j < ys.length := by
        rcases Nat.lt_or_ge j ys.length with h | h
        · exact h
        · rw [List.getElem?_eq_none (by simpa using h)] at hj; cases hj
      obtain ⟨b, off, h1, h2, h3⟩ := hys.cells (fun e => by subst e; simp at hj2)
      simp only [Option.some.injEq] at h1
      subst h1
      have h4 := h3 j hj2
      have h5 : (Addr.add ⟨b, off, none⟩ j : Addr) = ⟨b, off + j, none⟩ := by
        by_cases h0 : j = 0
        · subst h0; simp [Addr.add]
        · simp [Addr.add, h0]
      rw [h5, h4, ← hj]
      simp [List.getD, List.getElem?_eq_getElem hj2]
    · intro v' w1 hown1 hgrow _ _
      have hB : Below base w w1 := (Below.refl base w).grown hgrow hb (fun k hk => (World.ownsRow.lt hown k hk).1)
      have hlen : (xs ++ ys).length = xs.length + ys.length := by simp
      rw [← List.map_append] at hown1
      obtain ⟨r', cap', rfl⟩ : ∃ r' cap', v' = .slice r' (xs ++ ys).length cap' := by
        rcases hown1.2 with ⟨h1, h3⟩ | ⟨g, c, cur, h1, _⟩
        · exact ⟨none, 0, by rw [h1, hlen, h3]⟩
        · exact ⟨_, _, by rw [h1, hlen]⟩
      refine h r' cap' w1 ?_ hB
      unfold OwnI
      rw [hlen] at hown1 ⊢
      exact hown1

end Go.Proofs.Ytohdbneaganfbaa
