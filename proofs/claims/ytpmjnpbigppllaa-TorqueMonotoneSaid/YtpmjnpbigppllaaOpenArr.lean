/- A parameter that is an array of two integers. -/
import Derived.Test.YtpmjnpbigppllaaOpen
import Derived.OpenShut
namespace Go.Proofs.Ytpmjnpbigppllaa
set_option linter.unusedVariables false
set_option linter.unusedSimpArgs false
open Go.RowKit Go.ChangeShapes Go.WideShapes Go.ChangeAt

theorem arg_pair {H : Type} {enc : TypeId × Value → H} {P : Program} {W : World} {b : Nat} {t e : TypeId} {v : Value} {d : DataW H} {ps : List MemPlace} (ht : P.underlying t = some (.array 2 e)) (he : P.underlying e = some (.int .i64)) (hc : P.cellsOf e = 1) (hct : P.cellsOf t = 2) (hv : Value.okWide P W .any b t v)
    (h : DataW.Trod enc P W 0 (fun _ => true) true t v d ps) : ∃ a c : Int, v = .agg #[.int .i64 a, .int .i64 c] ∧ I64 a ∧ I64 c := by
  simp only [Value.okWide, ht] at hv
  obtain ⟨cs, rfl, _, _⟩ := hv
  obtain ⟨fuel, hf⟩ := h
  obtain ⟨xs, n, _, _, hl, hx, hi⟩ := DataW.trod_array ht hf
  rw [hct] at hl
  simp only [Value.cells] at hl hi
  obtain ⟨cl⟩ := cs
  simp only at hl hi
  obtain ⟨x0, t0, rfl, hl0⟩ := len_succ hl
  obtain ⟨x1, t1, rfl, hl1⟩ := len_succ hl0
  obtain rfl : t1 = [] := List.length_eq_zero_iff.1 hl1
  have e0 := hi 0 (by omega)
  have e1 := hi 1 (by omega)
  rw [hc] at e0 e1
  simp only [List.drop, List.take, Nat.zero_mul, Nat.one_mul] at e0 e1
  rw [List.getElem?_eq_getElem (by omega)] at e0 e1
  obtain ⟨a, ea, _, wa⟩ := DataW.trod_int he e0
  obtain ⟨c, ec, _, wc⟩ := DataW.trod_int he e1
  simp only [List.cons.injEq, and_true] at ea ec
  subst ea ec
  exact ⟨a, c, rfl, wa, wc⟩
end Go.Proofs.Ytpmjnpbigppllaa
