/- What the structs of package api read as, leaf by leaf. Printed by a program. -/
import Derived.Test.YthghalhbgppdhaaGrid
namespace Go.Proofs.Ythghalhbgppdhaa
set_option linter.unusedVariables false
set_option linter.unusedSimpArgs false

theorem open_Curve {W : World} {cs : List Value} (h : Rd Try.prog W 29 cs) : ∃ (r0 : Option Addr) (c0 : Nat) (a0 : List Int) (r1 : Option Addr) (c1 : Nat) (a1 : List Int), cs = [.slice r0 a0.length c0, .slice r1 a1.length c1] ∧ IsInts W r0 c0 .i64 a0 ∧ IsInts W r1 c1 .i64 a1 := by
  obtain ⟨hl, hf⟩ := rd_struct Try.underlying29 h
  rw [show Try.prog.cellsOf 29 = 2 from by kernel_rfl] at hl
  obtain ⟨x0, t0, rfl, hl0⟩ := len_succ hl
  obtain ⟨x1, t1, rfl, hl1⟩ := len_succ hl0
  obtain rfl : t1 = [] := List.length_eq_zero_iff.1 hl1
  have f0 : Rd Try.prog W 27 [x0] := by
    have := hf 0 _ rfl
    simpa [show Try.prog.cellsOf 27 = 1 from by kernel_rfl] using this
  obtain ⟨r0, c0, a0, e0, h0⟩ := rd_ints Try.underlying27 Try.underlying3 (by kernel_rfl) f0
  simp only [List.cons.injEq, and_true] at e0
  subst e0
  have f1 : Rd Try.prog W 27 [x1] := by
    have := hf 1 _ rfl
    simpa [show Try.prog.cellsOf 27 = 1 from by kernel_rfl] using this
  obtain ⟨r1, c1, a1, e1, h1⟩ := rd_ints Try.underlying27 Try.underlying3 (by kernel_rfl) f1
  simp only [List.cons.injEq, and_true] at e1
  subst e1
  exact ⟨r0, c0, a0, r1, c1, a1, rfl, h0, h1⟩

theorem open_Sensor {W : World} {cs : List Value} (h : Rd Try.prog W 31 cs) : ∃ (r0 : Option Addr) (c0 : Nat) (a0 : List Int) (r1 : Option Addr) (c1 : Nat) (a1 : List Int) (a2 : Int) (a3 : Int), cs = [.slice r0 a0.length c0, .slice r1 a1.length c1, .int .i64 a2, .int .i64 a3] ∧ IsInts W r0 c0 .i64 a0 ∧ IsInts W r1 c1 .i64 a1 ∧ I64 a2 ∧ I64 a3 := by
  obtain ⟨hl, hf⟩ := rd_struct Try.underlying31 h
  rw [show Try.prog.cellsOf 31 = 4 from by kernel_rfl] at hl
  obtain ⟨x0, t0, rfl, hl0⟩ := len_succ hl
  obtain ⟨x1, t1, rfl, hl1⟩ := len_succ hl0
  obtain ⟨x2, t2, rfl, hl2⟩ := len_succ hl1
  obtain ⟨x3, t3, rfl, hl3⟩ := len_succ hl2
  obtain rfl : t3 = [] := List.length_eq_zero_iff.1 hl3
  have f0 : Rd Try.prog W 29 [x0, x1] := by
    have := hf 0 _ rfl
    simpa [show Try.prog.cellsOf 29 = 2 from by kernel_rfl] using this
  obtain ⟨r0, c0, a0, r1, c1, a1, e0, h0, h1⟩ := open_Curve f0
  simp only [List.cons.injEq, and_true] at e0
  obtain ⟨rfl, rfl⟩ := e0
  have f1 : Rd Try.prog W 3 [x2] := by
    have := hf 1 _ rfl
    simpa [show Try.prog.cellsOf 3 = 1 from by kernel_rfl] using this
  obtain ⟨a2, e2, h2⟩ := rd_int Try.underlying3 f1
  simp only [List.cons.injEq, and_true] at e2
  subst e2
  have f2 : Rd Try.prog W 3 [x3] := by
    have := hf 2 _ rfl
    simpa [show Try.prog.cellsOf 3 = 1 from by kernel_rfl] using this
  obtain ⟨a3, e3, h3⟩ := rd_int Try.underlying3 f2
  simp only [List.cons.injEq, and_true] at e3
  subst e3
  exact ⟨r0, c0, a0, r1, c1, a1, a2, a3, rfl, h0, h1, h2, h3⟩

theorem open_Reading {W : World} {cs : List Value} (h : Rd Try.prog W 40 cs) : ∃ (a0 : Int) (a1 : Bool) (a2 : Int), cs = [.int .i64 a0, .bool a1, .int .i64 a2] ∧ I64 a0 ∧ I64 a2 := by
  obtain ⟨hl, hf⟩ := rd_struct Try.underlying40 h
  rw [show Try.prog.cellsOf 40 = 3 from by kernel_rfl] at hl
  obtain ⟨x0, t0, rfl, hl0⟩ := len_succ hl
  obtain ⟨x1, t1, rfl, hl1⟩ := len_succ hl0
  obtain ⟨x2, t2, rfl, hl2⟩ := len_succ hl1
  obtain rfl : t2 = [] := List.length_eq_zero_iff.1 hl2
  have f0 : Rd Try.prog W 3 [x0] := by
    have := hf 0 _ rfl
    simpa [show Try.prog.cellsOf 3 = 1 from by kernel_rfl] using this
  obtain ⟨a0, e0, h0⟩ := rd_int Try.underlying3 f0
  simp only [List.cons.injEq, and_true] at e0
  subst e0
  have f1 : Rd Try.prog W 4 [x1] := by
    have := hf 1 _ rfl
    simpa [show Try.prog.cellsOf 4 = 1 from by kernel_rfl] using this
  obtain ⟨a1, e1⟩ := rd_bool Try.underlying4 f1
  simp only [List.cons.injEq, and_true] at e1
  subst e1
  have f2 : Rd Try.prog W 3 [x2] := by
    have := hf 2 _ rfl
    simpa [show Try.prog.cellsOf 3 = 1 from by kernel_rfl] using this
  obtain ⟨a2, e2, h2⟩ := rd_int Try.underlying3 f2
  simp only [List.cons.injEq, and_true] at e2
  subst e2
  exact ⟨a0, a1, a2, rfl, h0, h2⟩

end Go.Proofs.Ythghalhbgppdhaa
