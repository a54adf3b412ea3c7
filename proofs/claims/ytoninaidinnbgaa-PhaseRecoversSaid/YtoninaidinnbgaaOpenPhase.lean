/- What the structs of package api read as, leaf by leaf. Printed by a program. -/
import Derived.Test.YtoninaidinnbgaaGrid
namespace Go.Proofs.Ytoninaidinnbgaa
set_option linter.unusedVariables false
set_option linter.unusedSimpArgs false

theorem open_Cam {W : World} {cs : List Value} (h : Rd Try.prog W 24 cs) : ∃ (r0 : Option Addr) (c0 : Nat) (a0 : List Int), cs = [.slice r0 a0.length c0] ∧ IsInts W r0 c0 .i64 a0 := by
  obtain ⟨hl, hf⟩ := rd_struct Try.underlying24 h
  rw [show Try.prog.cellsOf 24 = 1 from by kernel_rfl] at hl
  obtain ⟨x0, t0, rfl, hl0⟩ := len_succ hl
  obtain rfl : t0 = [] := List.length_eq_zero_iff.1 hl0
  have f0 : Rd Try.prog W 22 [x0] := by
    have := hf 0 _ rfl
    simpa [show Try.prog.cellsOf 22 = 1 from by kernel_rfl] using this
  obtain ⟨r0, c0, a0, e0, h0⟩ := rd_ints Try.underlying22 Try.underlying3 (by kernel_rfl) f0
  simp only [List.cons.injEq, and_true] at e0
  subst e0
  exact ⟨r0, c0, a0, rfl, h0⟩

theorem open_Phase {W : World} {cs : List Value} (h : Rd Try.prog W 34 cs) : ∃ (a0 : Bool) (a1 : Int) (a2 : Int) (a3 : Bool), cs = [.bool a0, .int .i64 a1, .int .i64 a2, .bool a3] ∧ I64 a1 ∧ I64 a2 := by
  obtain ⟨hl, hf⟩ := rd_struct Try.underlying34 h
  rw [show Try.prog.cellsOf 34 = 4 from by kernel_rfl] at hl
  obtain ⟨x0, t0, rfl, hl0⟩ := len_succ hl
  obtain ⟨x1, t1, rfl, hl1⟩ := len_succ hl0
  obtain ⟨x2, t2, rfl, hl2⟩ := len_succ hl1
  obtain ⟨x3, t3, rfl, hl3⟩ := len_succ hl2
  obtain rfl : t3 = [] := List.length_eq_zero_iff.1 hl3
  have f0 : Rd Try.prog W 4 [x0] := by
    have := hf 0 _ rfl
    simpa [show Try.prog.cellsOf 4 = 1 from by kernel_rfl] using this
  obtain ⟨a0, e0⟩ := rd_bool Try.underlying4 f0
  simp only [List.cons.injEq, and_true] at e0
  subst e0
  have f1 : Rd Try.prog W 3 [x1] := by
    have := hf 1 _ rfl
    simpa [show Try.prog.cellsOf 3 = 1 from by kernel_rfl] using this
  obtain ⟨a1, e1, h1⟩ := rd_int Try.underlying3 f1
  simp only [List.cons.injEq, and_true] at e1
  subst e1
  have f2 : Rd Try.prog W 3 [x2] := by
    have := hf 2 _ rfl
    simpa [show Try.prog.cellsOf 3 = 1 from by kernel_rfl] using this
  obtain ⟨a2, e2, h2⟩ := rd_int Try.underlying3 f2
  simp only [List.cons.injEq, and_true] at e2
  subst e2
  have f3 : Rd Try.prog W 4 [x3] := by
    have := hf 3 _ rfl
    simpa [show Try.prog.cellsOf 4 = 1 from by kernel_rfl] using this
  obtain ⟨a3, e3⟩ := rd_bool Try.underlying4 f3
  simp only [List.cons.injEq, and_true] at e3
  subst e3
  exact ⟨a0, a1, a2, a3, rfl, h1, h2⟩

theorem open_Wheel {W : World} {cs : List Value} (h : Rd Try.prog W 52 cs) : ∃ (a0 : Int) (a1 : Int), cs = [.int .i64 a0, .int .i64 a1] ∧ I64 a0 ∧ I64 a1 := by
  obtain ⟨hl, hf⟩ := rd_struct Try.underlying52 h
  rw [show Try.prog.cellsOf 52 = 2 from by kernel_rfl] at hl
  obtain ⟨x0, t0, rfl, hl0⟩ := len_succ hl
  obtain ⟨x1, t1, rfl, hl1⟩ := len_succ hl0
  obtain rfl : t1 = [] := List.length_eq_zero_iff.1 hl1
  have f0 : Rd Try.prog W 3 [x0] := by
    have := hf 0 _ rfl
    simpa [show Try.prog.cellsOf 3 = 1 from by kernel_rfl] using this
  obtain ⟨a0, e0, h0⟩ := rd_int Try.underlying3 f0
  simp only [List.cons.injEq, and_true] at e0
  subst e0
  have f1 : Rd Try.prog W 3 [x1] := by
    have := hf 1 _ rfl
    simpa [show Try.prog.cellsOf 3 = 1 from by kernel_rfl] using this
  obtain ⟨a1, e1, h1⟩ := rd_int Try.underlying3 f1
  simp only [List.cons.injEq, and_true] at e1
  subst e1
  exact ⟨a0, a1, rfl, h0, h1⟩

end Go.Proofs.Ytoninaidinnbgaa
