/- What the structs of package api read as, leaf by leaf. Printed by a program. -/
import Derived.Test.YtohdbneaganfbaaGrid
namespace Go.Proofs.Ytohdbneaganfbaa
set_option linter.unusedVariables false
set_option linter.unusedSimpArgs false

theorem open_Engine {W : World} {cs : List Value} (h : Rd Try.prog W 71 cs) : ∃ (r0 : Option Addr) (c0 : Nat) (a0 : List Int) (a1 : Int), cs = [.slice r0 a0.length c0, .int .i64 a1] ∧ IsInts W r0 c0 .i64 a0 ∧ I64 a1 := by
  obtain ⟨hl, hf⟩ := rd_struct Try.underlying71 h
  rw [show Try.prog.cellsOf 71 = 2 from by kernel_rfl] at hl
  obtain ⟨x0, t0, rfl, hl0⟩ := len_succ hl
  obtain ⟨x1, t1, rfl, hl1⟩ := len_succ hl0
  obtain rfl : t1 = [] := List.length_eq_zero_iff.1 hl1
  have f0 : Rd Try.prog W 22 [x0] := by
    have := hf 0 _ rfl
    simpa [show Try.prog.cellsOf 22 = 1 from by kernel_rfl] using this
  obtain ⟨r0, c0, a0, e0, h0⟩ := rd_ints Try.underlying22 Try.underlying3 (by kernel_rfl) f0
  simp only [List.cons.injEq, and_true] at e0
  subst e0
  have f1 : Rd Try.prog W 3 [x1] := by
    have := hf 1 _ rfl
    simpa [show Try.prog.cellsOf 3 = 1 from by kernel_rfl] using this
  obtain ⟨a1, e1, h1⟩ := rd_int Try.underlying3 f1
  simp only [List.cons.injEq, and_true] at e1
  subst e1
  exact ⟨r0, c0, a0, a1, rfl, h0, h1⟩

end Go.Proofs.Ytohdbneaganfbaa
