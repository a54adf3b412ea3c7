/- What the structs of package api read as, leaf by leaf. Printed by a program. -/
import Derived.Test.YtohdbneaganfbaaGrid
namespace Go.Proofs.Ytohdbneaganfbaa
set_option linter.unusedVariables false
set_option linter.unusedSimpArgs false

theorem open_Plant {W : World} {cs : List Value} (h : Rd Try.prog W 49 cs) : ∃ (a0 : Int) (a1 : Int) (a2 : Int) (a3 : Int) (a4 : Int) (r5 : Option Addr) (c5 : Nat) (a5 : List Int), cs = [.int .i64 a0, .int .i64 a1, .int .i64 a2, .int .i64 a3, .int .i64 a4, .slice r5 a5.length c5] ∧ I64 a0 ∧ I64 a1 ∧ I64 a2 ∧ I64 a3 ∧ I64 a4 ∧ IsInts W r5 c5 .i64 a5 := by
  obtain ⟨hl, hf⟩ := rd_struct Try.underlying49 h
  rw [show Try.prog.cellsOf 49 = 6 from by kernel_rfl] at hl
  obtain ⟨x0, t0, rfl, hl0⟩ := len_succ hl
  obtain ⟨x1, t1, rfl, hl1⟩ := len_succ hl0
  obtain ⟨x2, t2, rfl, hl2⟩ := len_succ hl1
  obtain ⟨x3, t3, rfl, hl3⟩ := len_succ hl2
  obtain ⟨x4, t4, rfl, hl4⟩ := len_succ hl3
  obtain ⟨x5, t5, rfl, hl5⟩ := len_succ hl4
  obtain rfl : t5 = [] := List.length_eq_zero_iff.1 hl5
  have f0 : Rd Try.prog W 3 [x0] := by
    have := hf 0 _ rfl
    simpa [show Try.prog.cellsOf 3 = 1 from by kernel_rfl] using this
  obtain ⟨a0, e0, h0⟩ := rd_int Try.underlying3 f0
  simp only [List.cons.injEq, and_true] at e0
  subst e0
  have f1 : Rd Try.prog W 3 [x1] := by
    have := hf 1 _ rfl
    simpa [show Try.prog.cellsOf 3 = 1 from by kernel_rfl] using this
  obtain ⟨a1, e1, h1⟩ := rd_int Try.underlying3 f1
  simp only [List.cons.injEq, and_true] at e1
  subst e1
  have f2 : Rd Try.prog W 3 [x2] := by
    have := hf 2 _ rfl
    simpa [show Try.prog.cellsOf 3 = 1 from by kernel_rfl] using this
  obtain ⟨a2, e2, h2⟩ := rd_int Try.underlying3 f2
  simp only [List.cons.injEq, and_true] at e2
  subst e2
  have f3 : Rd Try.prog W 3 [x3] := by
    have := hf 3 _ rfl
    simpa [show Try.prog.cellsOf 3 = 1 from by kernel_rfl] using this
  obtain ⟨a3, e3, h3⟩ := rd_int Try.underlying3 f3
  simp only [List.cons.injEq, and_true] at e3
  subst e3
  have f4 : Rd Try.prog W 3 [x4] := by
    have := hf 4 _ rfl
    simpa [show Try.prog.cellsOf 3 = 1 from by kernel_rfl] using this
  obtain ⟨a4, e4, h4⟩ := rd_int Try.underlying3 f4
  simp only [List.cons.injEq, and_true] at e4
  subst e4
  have f5 : Rd Try.prog W 22 [x5] := by
    have := hf 5 _ rfl
    simpa [show Try.prog.cellsOf 22 = 1 from by kernel_rfl] using this
  obtain ⟨r5, c5, a5, e5, h5⟩ := rd_ints Try.underlying22 Try.underlying3 (by kernel_rfl) f5
  simp only [List.cons.injEq, and_true] at e5
  subst e5
  exact ⟨a0, a1, a2, a3, a4, r5, c5, a5, rfl, h0, h1, h2, h3, h4, h5⟩

end Go.Proofs.Ytohdbneaganfbaa
