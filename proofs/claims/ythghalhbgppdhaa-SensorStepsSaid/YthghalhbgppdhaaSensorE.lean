/- Two readings that are the same are equal. -/
import Derived.Test.YthghalhbgppdhaaSensorB
import Derived.ChangeKeysEq
import Derived.DeepKeys
namespace Go.Proofs.Ythghalhbgppdhaa
set_option linter.unusedVariables false
set_option linter.unusedSimpArgs false
open Go.RowKit Go.ChangeShapes Go.WideShapes Go.ChangeAt

theorem eql_reading (v b : Int) (g : Bool) (hv : (Lit.int .i64 v).wf = true) (hb : (Lit.int .i64 b).wf = true) (w : World) : (binOp .eql 40 (.agg #[.int .i64 v, .bool g, .int .i64 b]) (.agg #[.int .i64 v, .bool g, .int .i64 b])).run Try.prog w = .ok (.bool true) w := by
  have hx : ∃ lx, keyOf Try.prog 40 (.agg #[.int .i64 v, .bool g, .int .i64 b]) = some lx := by
    have hk : Try.prog.keyType 40 = true := by kernel_rfl
    have hf : Value.formed Try.prog 40 (.agg #[.int .i64 v, .bool g, .int .i64 b]) = true := by kernel_rfl
    have c1 : Try.prog.cellsOf 40 = 3 := by kernel_rfl
    have c2 : Try.prog.cellsOf 3 = 1 := by kernel_rfl
    have c3 : Try.prog.cellsOf 4 = 1 := by kernel_rfl
    have hts : ∃ m, Try.prog.types.size + 1 = m + 2 := ⟨Try.prog.types.size - 1, by kernel_rfl⟩
    obtain ⟨m, hm⟩ := hts
    have hl : ∃ L, Try.prog.keyLits (Try.prog.types.size + 1) 40 [.int .i64 v, .bool g, .int .i64 b] = some L := by
      rw [hm]
      refine ⟨[.int .i64 v, .bool g, .int .i64 b], ?_⟩
      simp [Program.keyLits, Try.underlying40, Try.underlying3, Try.underlying4, c1, c2, c3, hv, hb]
    obtain ⟨L, hL⟩ := hl
    refine ⟨.string (keyBytes L), ?_⟩
    simp only [keyOf, Try.underlying40, hk, hf, Bool.and_self, if_true]
    have e : (Value.agg #[Value.int .i64 v, .bool g, .int .i64 b]).cells.toList = [.int .i64 v, .bool g, .int .i64 b] := rfl
    rw [e, hL]
    rfl
  obtain ⟨lx, hx⟩ := hx
  obtain ⟨r, hr, hiff⟩ := run_equal_deep w (m := 3) (by omega) (k := 40) (by kernel_rfl) (by kernel_rfl) hx hx
  have hr1 : r = true := hiff.2 rfl
  subst hr1
  simp only [binOp]
  simp [Sem.run_bind, hr]
end Go.Proofs.Ythghalhbgppdhaa
