/- The image of the smallest program. -/
import Derived.Test.YtfooefiaenlhmaaImgI
namespace Go.Proofs.Ytfooefiaenlhmaa
set_option linter.unusedVariables false
set_option linter.unusedSimpArgs false
open Go.RowKit Go.ChangeShapes Go.WideShapes Go.ChangeAt

def z72 : List Int := List.replicate 72 0
theorem z72_byte : ByteL z72 := by
  intro y hy
  simp only [z72, List.mem_replicate] at hy
  omega
set_option maxRecDepth 100000 in
set_option maxHeartbeats 4000000 in
theorem encode0 (w : World) : Calls Try.prog 10 #[prog0] w fun e w' => ∃ r c, e = .returned (.tuple #[.slice r (sealL z72).length c, .int .i64 0]) ∧ OwnK .u8 5 w' w.heap.size r c (sealL z72) ∧ Below w.heap.size w w' := by
  unfold prog0
  have HL : Hid (z72.length = 72) := Lib.hid (by simp [z72])
  have HB : Hid (ByteL z72) := Lib.hid z72_byte
  have HD : Hid (∀ W : World, Calls Try.prog 36 #[prog0] W fun e w' => ∃ r c, e = .returned (.slice r z72.length c) ∧ OwnK .u8 5 w' W.heap.size r c z72 ∧ Below W.heap.size W w') := Lib.hid (fun W => body0 W)
  generalize hs : sealL z72 = res at *
  generalize hz : z72 = zz at *
  go_enter Try.func10, Try.ntmps10
  go_wp2_with (first | (go_at_call 34; refine (valid0 _).mono ?_; rintro e w1 ⟨rfl, hb1⟩; obtain ⟨hb1c, hb1f⟩ := bcell hb1; have hb1s := hb1.size) | (go_at_call 36; refine (HD.out _).mono ?_; rintro e w2 ⟨r2, c2, rfl, ho2, hb2⟩; have HO2 := Lib.hid ho2; clear ho2; have hb2s := hb2.size) | (go_at_call 35; refine (sealed_any w1.heap.size _ _ zz _ HO2.out HB.out (by rw [HL.out]; omega) hb2s).mono ?_; rintro e w3 ⟨r3, c3, rfl, ho3, hb3⟩; have HO3 := Lib.hid ho3; clear ho3))
  go_ret2
  have z0 : w.heap.size + 1 ≤ w1.heap.size := by rw [World.size_alloc] at hb1s; exact hb1s
  refine ⟨r3, c3, rfl, ?_, ?_⟩
  · have := HO3.out
    rw [hs] at this
    exact this.base (by omega)
  · exact (((Below.refl w.heap.size w).alloc (Nat.le_refl _) _).trans (hb1.mono (by rw [World.size_alloc]; omega))).trans ((hb2.mono (by omega)).trans (hb3.mono (by omega)))
theorem sealL_z72 : sealL z72 = z72 ++ b4 (sumB z72) := by
  unfold sealL
  rw [summed_len]
  simp [z72, padN, summed]
theorem isum0 (w : World) : Calls Try.prog 11 #[.slice none 0 0] w fun e w' => e = .returned (.int .u32 1) ∧ Below w.heap.size w w' := isum_any none 0 [] w nilI
end Go.Proofs.Ytfooefiaenlhmaa
