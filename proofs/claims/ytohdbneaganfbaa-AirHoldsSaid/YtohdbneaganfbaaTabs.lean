/- Tables of package api, opaque: a map at three cells, a curve at two. No statement about the program. -/
import Derived.Test.YtohdbneaganfbaaSortF
import Derived.Laws.Rows
namespace Go.Proofs.Ytohdbneaganfbaa
set_option linter.unusedVariables false
set_option linter.unusedSimpArgs false
open Go.RowKit Go.ChangeShapes Go.WideShapes Go.ChangeAt

def inB (x lo hi : Int) : Bool := decide (lo ≤ x ∧ x ≤ hi)
theorem inB_true {x lo hi : Int} : inB x lo hi = true ↔ lo ≤ x ∧ x ≤ hi := by simp [inB]
theorem inB_false {x lo hi : Int} : inB x lo hi = false ↔ ¬ (lo ≤ x ∧ x ≤ hi) := by simp [inB]
theorem any_bd {ys : List Int} {lo hi : Int} (h : ys.any (fun y => !inB y lo hi) = false) {t : Nat} (ht : t < ys.length) : lo ≤ ys.getD t 0 ∧ ys.getD t 0 ≤ hi := by
  rw [List.any_eq_false] at h
  have := h _ (getD_mem ht)
  simp only [inB, Bool.not_eq_true', decide_eq_false_iff_not, Decidable.not_not] at this
  simpa using this
theorem any_in {ys : List Int} {lo hi : Int} (h : ∀ t, t < ys.length → lo ≤ ys.getD t 0 ∧ ys.getD t 0 ≤ hi) : ys.any (fun y => !inB y lo hi) = false := by
  rw [List.any_eq_false]
  intro x hx
  obtain ⟨t, ht, rfl⟩ := List.getElem_of_mem hx
  have := h t ht
  simp only [List.getD, List.getElem?_eq_getElem ht, Option.getD_some] at this
  simp [inB, this]
theorem any_hit {ys : List Int} {lo hi : Int} {t : Nat} (ht : t < ys.length) (h : ¬ (lo ≤ ys.getD t 0 ∧ ys.getD t 0 ≤ hi)) : ys.any (fun y => !inB y lo hi) = true := by
  refine List.any_eq_true.2 ⟨_, getD_mem ht, ?_⟩
  show (!inB _ lo hi) = true
  rw [inB_false.2 h]
  rfl
structure MapAt (W : World) (tab : Array Value) (i j k : Nat) (X Y : List Int) (Z : List (List Int)) : Prop where
  ex : ∃ rX cX rY cY rZ cZ, tab[i]? = some (.slice rX X.length cX) ∧ tab[j]? = some (.slice rY Y.length cY) ∧ tab[k]? = some (.slice rZ Z.length cZ) ∧ IsInts W rX cX .i64 X ∧ IsInts W rY cY .i64 Y ∧ IsRows W rZ cZ Z
structure CurAt (W : World) (tab : Array Value) (i j : Nat) (xs ys : List Int) : Prop where
  ex : ∃ rx cx ry cy, tab[i]? = some (.slice rx xs.length cx) ∧ tab[j]? = some (.slice ry ys.length cy) ∧ IsInts W rx cx .i64 xs ∧ IsInts W ry cy .i64 ys
theorem MapAt.later {W W' : World} {tab : Array Value} {i j k : Nat} {X Y : List Int} {Z : List (List Int)} (h : MapAt W tab i j k X Y Z) (hb : Below W.heap.size W W') : MapAt W' tab i j k X Y Z := by
  obtain ⟨rX, cX, rY, cY, rZ, cZ, h1, h2, h3, h4, h5, h6⟩ := h.ex
  exact ⟨rX, cX, rY, cY, rZ, cZ, h1, h2, h3, h4.later hb, h5.later hb, h6.later hb⟩
theorem CurAt.later {W W' : World} {tab : Array Value} {i j : Nat} {xs ys : List Int} (h : CurAt W tab i j xs ys) (hb : Below W.heap.size W W') : CurAt W' tab i j xs ys := by
  obtain ⟨rX, cX, rY, cY, h1, h2, h4, h5⟩ := h.ex
  exact ⟨rX, cX, rY, cY, h1, h2, h4.later hb, h5.later hb⟩
theorem map_any {Z : List (List Int)} {p : List Int → Bool} (h : Z.any p = false) {t : Nat} (ht : t < Z.length) : p (Z.getD t []) = false := by
  rw [List.any_eq_false] at h
  have := h _ (List.getElem_mem ht)
  simpa [List.getD, List.getElem?_eq_getElem ht] using this
theorem map_all {Z : List (List Int)} {p : List Int → Bool} (h : ∀ t, t < Z.length → p (Z.getD t []) = false) : Z.any p = false := by
  rw [List.any_eq_false]
  intro x hx
  obtain ⟨t, ht, rfl⟩ := List.getElem_of_mem hx
  have := h t ht
  simpa [List.getD, List.getElem?_eq_getElem ht] using this
theorem map_hit {Z : List (List Int)} {p : List Int → Bool} {t : Nat} (ht : t < Z.length) (h : p (Z.getD t []) = true) : Z.any p = true :=
  List.any_eq_true.2 ⟨_, List.getElem_mem ht, by simpa [List.getD, List.getElem?_eq_getElem ht] using h⟩
/-- A row loaded in a region of open order. -/
theorem quiet_row_K {P : Program} {ops : Array Oper} {C : World → Prop} {K : Act → Prop} {o : Oper} {a : Act} (hgd : o.guard = none) (ty : TypeId) (x : Operand) (ho : o.op = .load ty x)
    (g : Nat) (hx : a.eval x = .pointer (some ⟨g, 0, none⟩)) (t : TypeId) (cs : Array Value) (fr : Nat × Nat) (d : TypeDesc) (hg : ∀ w, C w → w.heap[g]? = some (.cells cs t fr))
    (hu : P.underlying ty = some d) (hd : (match d with | .struct _ | .array _ _ => true | _ => false) = true) (hi : (P.info? ty).map (·.size) = some cs.size)
    (h : K (a.put o.dst (.agg cs))) : if Region.wanted o (yielded ops a.tmps) then o.quiet P a C K else K (a.put o.dst undef) := by
  rw [if_pos (by simp [Region.wanted, hgd])]
  refine ⟨.agg cs, fun w hw => ?_, h⟩
  unfold Oper.quietAt execOp
  simp only [ho, hx, Instr.loadAt, Instr.sureAddr, Sem.run_bind, Sem.run_pure, Result.andThen_ok, run_loadVar_row w g t ty cs fr d (hg w hw) hu hd hi]
  exact ⟨rfl, rfl⟩
end Go.Proofs.Ytohdbneaganfbaa
