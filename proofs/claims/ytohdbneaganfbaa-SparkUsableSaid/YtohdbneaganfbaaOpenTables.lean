/- What the structs of package api read as, leaf by leaf. Printed by a program. -/
import Derived.Test.YtohdbneaganfbaaGrid
namespace Go.Proofs.Ytohdbneaganfbaa
set_option linter.unusedVariables false
set_option linter.unusedSimpArgs false

theorem open_Curve {W : World} {cs : List Value} (h : Rd Try.prog W 27 cs) : ∃ (r0 : Option Addr) (c0 : Nat) (a0 : List Int) (r1 : Option Addr) (c1 : Nat) (a1 : List Int), cs = [.slice r0 a0.length c0, .slice r1 a1.length c1] ∧ IsInts W r0 c0 .i64 a0 ∧ IsInts W r1 c1 .i64 a1 := by
  obtain ⟨hl, hf⟩ := rd_struct Try.underlying27 h
  rw [show Try.prog.cellsOf 27 = 2 from by kernel_rfl] at hl
  obtain ⟨x0, t0, rfl, hl0⟩ := len_succ hl
  obtain ⟨x1, t1, rfl, hl1⟩ := len_succ hl0
  obtain rfl : t1 = [] := List.length_eq_zero_iff.1 hl1
  have f0 : Rd Try.prog W 22 [x0] := by
    have := hf 0 _ rfl
    simpa [show Try.prog.cellsOf 22 = 1 from by kernel_rfl] using this
  obtain ⟨r0, c0, a0, e0, h0⟩ := rd_ints Try.underlying22 Try.underlying3 (by kernel_rfl) f0
  simp only [List.cons.injEq, and_true] at e0
  subst e0
  have f1 : Rd Try.prog W 22 [x1] := by
    have := hf 1 _ rfl
    simpa [show Try.prog.cellsOf 22 = 1 from by kernel_rfl] using this
  obtain ⟨r1, c1, a1, e1, h1⟩ := rd_ints Try.underlying22 Try.underlying3 (by kernel_rfl) f1
  simp only [List.cons.injEq, and_true] at e1
  subst e1
  exact ⟨r0, c0, a0, r1, c1, a1, rfl, h0, h1⟩

theorem open_Map {W : World} {cs : List Value} (h : Rd Try.prog W 25 cs) : ∃ (r0 : Option Addr) (c0 : Nat) (a0 : List Int) (r1 : Option Addr) (c1 : Nat) (a1 : List Int) (r2 : Option Addr) (c2 : Nat) (a2 : List (List Int)), cs = [.slice r0 a0.length c0, .slice r1 a1.length c1, .slice r2 a2.length c2] ∧ IsInts W r0 c0 .i64 a0 ∧ IsInts W r1 c1 .i64 a1 ∧ IsRows W r2 c2 a2 := by
  obtain ⟨hl, hf⟩ := rd_struct Try.underlying25 h
  rw [show Try.prog.cellsOf 25 = 3 from by kernel_rfl] at hl
  obtain ⟨x0, t0, rfl, hl0⟩ := len_succ hl
  obtain ⟨x1, t1, rfl, hl1⟩ := len_succ hl0
  obtain ⟨x2, t2, rfl, hl2⟩ := len_succ hl1
  obtain rfl : t2 = [] := List.length_eq_zero_iff.1 hl2
  have f0 : Rd Try.prog W 22 [x0] := by
    have := hf 0 _ rfl
    simpa [show Try.prog.cellsOf 22 = 1 from by kernel_rfl] using this
  obtain ⟨r0, c0, a0, e0, h0⟩ := rd_ints Try.underlying22 Try.underlying3 (by kernel_rfl) f0
  simp only [List.cons.injEq, and_true] at e0
  subst e0
  have f1 : Rd Try.prog W 22 [x1] := by
    have := hf 1 _ rfl
    simpa [show Try.prog.cellsOf 22 = 1 from by kernel_rfl] using this
  obtain ⟨r1, c1, a1, e1, h1⟩ := rd_ints Try.underlying22 Try.underlying3 (by kernel_rfl) f1
  simp only [List.cons.injEq, and_true] at e1
  subst e1
  have f2 : Rd Try.prog W 23 [x2] := by
    have := hf 2 _ rfl
    simpa [show Try.prog.cellsOf 23 = 1 from by kernel_rfl] using this
  obtain ⟨r2, c2, a2, e2, h2⟩ := rd_rows Try.underlying23 Try.underlying22 Try.underlying3 (by kernel_rfl) (by kernel_rfl) f2
  simp only [List.cons.injEq, and_true] at e2
  subst e2
  exact ⟨r0, c0, a0, r1, c1, a1, r2, c2, a2, rfl, h0, h1, h2⟩

theorem open_Gain {W : World} {cs : List Value} (h : Rd Try.prog W 29 cs) : ∃ (a0 : Int) (a1 : Int) (a2 : Int) (a3 : Int), cs = [.int .i64 a0, .int .i64 a1, .int .i64 a2, .int .i64 a3] ∧ I64 a0 ∧ I64 a1 ∧ I64 a2 ∧ I64 a3 := by
  obtain ⟨hl, hf⟩ := rd_struct Try.underlying29 h
  rw [show Try.prog.cellsOf 29 = 4 from by kernel_rfl] at hl
  obtain ⟨x0, t0, rfl, hl0⟩ := len_succ hl
  obtain ⟨x1, t1, rfl, hl1⟩ := len_succ hl0
  obtain ⟨x2, t2, rfl, hl2⟩ := len_succ hl1
  obtain ⟨x3, t3, rfl, hl3⟩ := len_succ hl2
  obtain rfl : t3 = [] := List.length_eq_zero_iff.1 hl3
  have f0 : Rd Try.prog W 3 [x0] := by
    have := hf 0 _ rfl
    simpa [show Try.prog.cellsOf 3 = 1 from by kernel_rfl] using this
  obtain ⟨a0, e0, h0⟩ := rd_int Try.underlying3 f0
  simp only [List.cons.injEq, and_true] at e0
  subst e0
  have f1 : Rd Try.prog W 3 [x1] := by
    have := hf 1 _ rfl
    simpa [show Try.prog.cellsOf 3 = 1 from by kernel_rfl] using this
  obtain ⟨a1, e1, h1⟩ := rd_int Try.underlying3 f1
  simp only [List.cons.injEq, and_true] at e1
  subst e1
  have f2 : Rd Try.prog W 3 [x2] := by
    have := hf 2 _ rfl
    simpa [show Try.prog.cellsOf 3 = 1 from by kernel_rfl] using this
  obtain ⟨a2, e2, h2⟩ := rd_int Try.underlying3 f2
  simp only [List.cons.injEq, and_true] at e2
  subst e2
  have f3 : Rd Try.prog W 3 [x3] := by
    have := hf 3 _ rfl
    simpa [show Try.prog.cellsOf 3 = 1 from by kernel_rfl] using this
  obtain ⟨a3, e3, h3⟩ := rd_int Try.underlying3 f3
  simp only [List.cons.injEq, and_true] at e3
  subst e3
  exact ⟨a0, a1, a2, a3, rfl, h0, h1, h2, h3⟩

theorem open_Tables {W : World} {cs : List Value} (h : Rd Try.prog W 31 cs) : ∃ (r0 : Option Addr) (c0 : Nat) (a0 : List Int) (r1 : Option Addr) (c1 : Nat) (a1 : List Int) (r2 : Option Addr) (c2 : Nat) (a2 : List (List Int)) (r3 : Option Addr) (c3 : Nat) (a3 : List Int) (r4 : Option Addr) (c4 : Nat) (a4 : List Int) (r5 : Option Addr) (c5 : Nat) (a5 : List (List Int)) (r6 : Option Addr) (c6 : Nat) (a6 : List Int) (r7 : Option Addr) (c7 : Nat) (a7 : List Int) (r8 : Option Addr) (c8 : Nat) (a8 : List (List Int)) (r9 : Option Addr) (c9 : Nat) (a9 : List Int) (r10 : Option Addr) (c10 : Nat) (a10 : List Int) (r11 : Option Addr) (c11 : Nat) (a11 : List (List Int)) (r12 : Option Addr) (c12 : Nat) (a12 : List Int) (r13 : Option Addr) (c13 : Nat) (a13 : List Int) (r14 : Option Addr) (c14 : Nat) (a14 : List Int) (r15 : Option Addr) (c15 : Nat) (a15 : List Int) (r16 : Option Addr) (c16 : Nat) (a16 : List Int) (r17 : Option Addr) (c17 : Nat) (a17 : List Int) (r18 : Option Addr) (c18 : Nat) (a18 : List Int) (r19 : Option Addr) (c19 : Nat) (a19 : List Int) (a20 : Int) (a21 : Int) (a22 : Int) (a23 : Int), cs = [.slice r0 a0.length c0, .slice r1 a1.length c1, .slice r2 a2.length c2, .slice r3 a3.length c3, .slice r4 a4.length c4, .slice r5 a5.length c5, .slice r6 a6.length c6, .slice r7 a7.length c7, .slice r8 a8.length c8, .slice r9 a9.length c9, .slice r10 a10.length c10, .slice r11 a11.length c11, .slice r12 a12.length c12, .slice r13 a13.length c13, .slice r14 a14.length c14, .slice r15 a15.length c15, .slice r16 a16.length c16, .slice r17 a17.length c17, .slice r18 a18.length c18, .slice r19 a19.length c19, .int .i64 a20, .int .i64 a21, .int .i64 a22, .int .i64 a23] ∧ IsInts W r0 c0 .i64 a0 ∧ IsInts W r1 c1 .i64 a1 ∧ IsRows W r2 c2 a2 ∧ IsInts W r3 c3 .i64 a3 ∧ IsInts W r4 c4 .i64 a4 ∧ IsRows W r5 c5 a5 ∧ IsInts W r6 c6 .i64 a6 ∧ IsInts W r7 c7 .i64 a7 ∧ IsRows W r8 c8 a8 ∧ IsInts W r9 c9 .i64 a9 ∧ IsInts W r10 c10 .i64 a10 ∧ IsRows W r11 c11 a11 ∧ IsInts W r12 c12 .i64 a12 ∧ IsInts W r13 c13 .i64 a13 ∧ IsInts W r14 c14 .i64 a14 ∧ IsInts W r15 c15 .i64 a15 ∧ IsInts W r16 c16 .i64 a16 ∧ IsInts W r17 c17 .i64 a17 ∧ IsInts W r18 c18 .i64 a18 ∧ IsInts W r19 c19 .i64 a19 ∧ I64 a20 ∧ I64 a21 ∧ I64 a22 ∧ I64 a23 := by
  obtain ⟨hl, hf⟩ := rd_struct Try.underlying31 h
  rw [show Try.prog.cellsOf 31 = 24 from by kernel_rfl] at hl
  obtain ⟨x0, t0, rfl, hl0⟩ := len_succ hl
  obtain ⟨x1, t1, rfl, hl1⟩ := len_succ hl0
  obtain ⟨x2, t2, rfl, hl2⟩ := len_succ hl1
  obtain ⟨x3, t3, rfl, hl3⟩ := len_succ hl2
  obtain ⟨x4, t4, rfl, hl4⟩ := len_succ hl3
  obtain ⟨x5, t5, rfl, hl5⟩ := len_succ hl4
  obtain ⟨x6, t6, rfl, hl6⟩ := len_succ hl5
  obtain ⟨x7, t7, rfl, hl7⟩ := len_succ hl6
  obtain ⟨x8, t8, rfl, hl8⟩ := len_succ hl7
  obtain ⟨x9, t9, rfl, hl9⟩ := len_succ hl8
  obtain ⟨x10, t10, rfl, hl10⟩ := len_succ hl9
  obtain ⟨x11, t11, rfl, hl11⟩ := len_succ hl10
  obtain ⟨x12, t12, rfl, hl12⟩ := len_succ hl11
  obtain ⟨x13, t13, rfl, hl13⟩ := len_succ hl12
  obtain ⟨x14, t14, rfl, hl14⟩ := len_succ hl13
  obtain ⟨x15, t15, rfl, hl15⟩ := len_succ hl14
  obtain ⟨x16, t16, rfl, hl16⟩ := len_succ hl15
  obtain ⟨x17, t17, rfl, hl17⟩ := len_succ hl16
  obtain ⟨x18, t18, rfl, hl18⟩ := len_succ hl17
  obtain ⟨x19, t19, rfl, hl19⟩ := len_succ hl18
  obtain ⟨x20, t20, rfl, hl20⟩ := len_succ hl19
  obtain ⟨x21, t21, rfl, hl21⟩ := len_succ hl20
  obtain ⟨x22, t22, rfl, hl22⟩ := len_succ hl21
  obtain ⟨x23, t23, rfl, hl23⟩ := len_succ hl22
  obtain rfl : t23 = [] := List.length_eq_zero_iff.1 hl23
  have f0 : Rd Try.prog W 25 [x0, x1, x2] := by
    have := hf 0 _ rfl
    simpa [show Try.prog.cellsOf 25 = 3 from by kernel_rfl] using this
  obtain ⟨r0, c0, a0, r1, c1, a1, r2, c2, a2, e0, h0, h1, h2⟩ := open_Map f0
  simp only [List.cons.injEq, and_true] at e0
  obtain ⟨rfl, rfl, rfl⟩ := e0
  have f1 : Rd Try.prog W 25 [x3, x4, x5] := by
    have := hf 1 _ rfl
    simpa [show Try.prog.cellsOf 25 = 3 from by kernel_rfl] using this
  obtain ⟨r3, c3, a3, r4, c4, a4, r5, c5, a5, e3, h3, h4, h5⟩ := open_Map f1
  simp only [List.cons.injEq, and_true] at e3
  obtain ⟨rfl, rfl, rfl⟩ := e3
  have f2 : Rd Try.prog W 25 [x6, x7, x8] := by
    have := hf 2 _ rfl
    simpa [show Try.prog.cellsOf 25 = 3 from by kernel_rfl] using this
  obtain ⟨r6, c6, a6, r7, c7, a7, r8, c8, a8, e6, h6, h7, h8⟩ := open_Map f2
  simp only [List.cons.injEq, and_true] at e6
  obtain ⟨rfl, rfl, rfl⟩ := e6
  have f3 : Rd Try.prog W 25 [x9, x10, x11] := by
    have := hf 3 _ rfl
    simpa [show Try.prog.cellsOf 25 = 3 from by kernel_rfl] using this
  obtain ⟨r9, c9, a9, r10, c10, a10, r11, c11, a11, e9, h9, h10, h11⟩ := open_Map f3
  simp only [List.cons.injEq, and_true] at e9
  obtain ⟨rfl, rfl, rfl⟩ := e9
  have f4 : Rd Try.prog W 27 [x12, x13] := by
    have := hf 4 _ rfl
    simpa [show Try.prog.cellsOf 27 = 2 from by kernel_rfl] using this
  obtain ⟨r12, c12, a12, r13, c13, a13, e12, h12, h13⟩ := open_Curve f4
  simp only [List.cons.injEq, and_true] at e12
  obtain ⟨rfl, rfl⟩ := e12
  have f5 : Rd Try.prog W 27 [x14, x15] := by
    have := hf 5 _ rfl
    simpa [show Try.prog.cellsOf 27 = 2 from by kernel_rfl] using this
  obtain ⟨r14, c14, a14, r15, c15, a15, e14, h14, h15⟩ := open_Curve f5
  simp only [List.cons.injEq, and_true] at e14
  obtain ⟨rfl, rfl⟩ := e14
  have f6 : Rd Try.prog W 27 [x16, x17] := by
    have := hf 6 _ rfl
    simpa [show Try.prog.cellsOf 27 = 2 from by kernel_rfl] using this
  obtain ⟨r16, c16, a16, r17, c17, a17, e16, h16, h17⟩ := open_Curve f6
  simp only [List.cons.injEq, and_true] at e16
  obtain ⟨rfl, rfl⟩ := e16
  have f7 : Rd Try.prog W 27 [x18, x19] := by
    have := hf 7 _ rfl
    simpa [show Try.prog.cellsOf 27 = 2 from by kernel_rfl] using this
  obtain ⟨r18, c18, a18, r19, c19, a19, e18, h18, h19⟩ := open_Curve f7
  simp only [List.cons.injEq, and_true] at e18
  obtain ⟨rfl, rfl⟩ := e18
  have f8 : Rd Try.prog W 29 [x20, x21, x22, x23] := by
    have := hf 8 _ rfl
    simpa [show Try.prog.cellsOf 29 = 4 from by kernel_rfl] using this
  obtain ⟨a20, a21, a22, a23, e20, h20, h21, h22, h23⟩ := open_Gain f8
  simp only [List.cons.injEq, and_true] at e20
  obtain ⟨rfl, rfl, rfl, rfl⟩ := e20
  exact ⟨r0, c0, a0, r1, c1, a1, r2, c2, a2, r3, c3, a3, r4, c4, a4, r5, c5, a5, r6, c6, a6, r7, c7, a7, r8, c8, a8, r9, c9, a9, r10, c10, a10, r11, c11, a11, r12, c12, a12, r13, c13, a13, r14, c14, a14, r15, c15, a15, r16, c16, a16, r17, c17, a17, r18, c18, a18, r19, c19, a19, a20, a21, a22, a23, rfl, h0, h1, h2, h3, h4, h5, h6, h7, h8, h9, h10, h11, h12, h13, h14, h15, h16, h17, h18, h19, h20, h21, h22, h23⟩

end Go.Proofs.Ytohdbneaganfbaa
