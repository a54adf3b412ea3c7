/- The law's awake. -/
import Derived.Test.YtfooefiaenlhmaaImgJ
namespace Go.Proofs.Ytfooefiaenlhmaa
set_option linter.unusedVariables false
set_option linter.unusedSimpArgs false
open Go.RowKit Go.ChangeShapes Go.WideShapes Go.ChangeAt

theorem sum_z72 : sumB z72 = 1803675681 := by decide +kernel
theorem z72_len : z72.length = 72 := by unfold z72; exact List.length_replicate
theorem z72_get (i : Nat) (hi : i < 72) : z72.getD i 0 = 0 := by
  unfold z72
  rw [List.getD_eq_getElem?_getD, List.getElem?_replicate, if_pos hi]
  rfl
theorem sealL_get (i : Nat) (hi : i < 72) : (sealL z72).getD i 0 = 0 := by
  rw [sealL_z72, List.getD_eq_getElem?_getD, List.getElem?_append_left (by rw [z72_len]; exact hi), ← List.getD_eq_getElem?_getD]
  exact z72_get i hi
theorem isum1 (W : World) : Calls Try.prog 11 #[.slice (some ⟨W.heap.size, 0, none⟩) 1 1] (W.alloc (.cells #[.int .u8 1] 5)) fun e w' => e = .returned (.int .u32 16777620) ∧ Below (W.alloc (.cells #[.int .u8 1] 5)).heap.size (W.alloc (.cells #[.int .u8 1] 5)) w' :=
  isum_any _ 1 [1] _ ⟨Nat.le_refl _, by unfold maxLen; decide, by
    intro x hx
    obtain rfl : x = 1 := List.mem_singleton.1 hx
    exact u8_wf (by omega) (by omega), fun _ => ⟨W.heap.size, 0, rfl, by rw [World.size_alloc]; omega, fun i hi => by
    obtain rfl : i = 0 := by simpa using hi
    simp⟩⟩
theorem isumz (b off c : Nat) (W0 W : World) (hz : IsInts W0 (some ⟨b, off, none⟩) c .u8 z72) (h : Below W0.heap.size W0 W) : Calls Try.prog 11 #[.slice (some ⟨b, off, none⟩) 72 c] W fun e w' => e = .returned (.int .u32 1803675681) ∧ Below W.heap.size W w' := by
  have := isum_any (some ⟨b, off, none⟩) c z72 W (hz.later h)
  rw [z72_len, sum_z72] at this
  exact this
theorem aw_next {w1 v v' : World} {b off : Nat} (hb : b < w1.heap.size) (h : Below w1.heap.size w1 v ∧ v.cell? ⟨b, off + 72, none⟩ = some (.int .u8 107) ∧ v.cell? ⟨b, off + 73, none⟩ = some (.int .u8 129) ∧ v.cell? ⟨b, off + 74, none⟩ = some (.int .u8 232) ∧ v.cell? ⟨b, off + 75, none⟩ = some (.int .u8 33)) (hv : Below v.heap.size v v') : Below w1.heap.size w1 v' ∧ v'.cell? ⟨b, off + 72, none⟩ = some (.int .u8 107) ∧ v'.cell? ⟨b, off + 73, none⟩ = some (.int .u8 129) ∧ v'.cell? ⟨b, off + 74, none⟩ = some (.int .u8 232) ∧ v'.cell? ⟨b, off + 75, none⟩ = some (.int .u8 33) := by
  obtain ⟨h0, h1, h2, h3, h4⟩ := h
  have hz := h0.size
  exact ⟨h0.trans (hv.mono hz), (hv.cell (p := ⟨b, off + 72, none⟩) (Nat.lt_of_lt_of_le hb hz)).trans h1, (hv.cell (p := ⟨b, off + 73, none⟩) (Nat.lt_of_lt_of_le hb hz)).trans h2, (hv.cell (p := ⟨b, off + 74, none⟩) (Nat.lt_of_lt_of_le hb hz)).trans h3, (hv.cell (p := ⟨b, off + 75, none⟩) (Nat.lt_of_lt_of_le hb hz)).trans h4⟩
set_option maxRecDepth 100000 in
set_option maxHeartbeats 4000000 in
theorem awake_any (w : World) : Calls Try.prog 8 #[] w fun e w' => e = .returned (.bool true) ∧ Below w.heap.size w w' := by
  have HE : Hid (∀ W : World, Calls Try.prog 10 #[prog0] W fun e w' => ∃ r c, e = .returned (.tuple #[.slice r (sealL z72).length c, .int .i64 0]) ∧ OwnK .u8 5 w' W.heap.size r c (sealL z72) ∧ Below W.heap.size W w') := Lib.hid (fun W => encode0 W)
  have HL : Hid ((sealL z72).length = 76) := Lib.hid (by rw [sealL_z72]; simp [z72, b4_len])
  go_enter Try.func8, Try.ntmps8
  go_wp2_with (go_at_call 10; refine (HE.out _).mono ?_; rintro e w1 ⟨r, c, rfl, ho, hb1⟩; rw [HL.out])
  have hi : IsInts w1 r c .u8 (sealL z72) := ho.ints (fun x hx => u8_wf (sealL_byte z72_byte x hx).1 (sealL_byte z72_byte x hx).2)
  obtain ⟨b, off, rfl, hb, hc⟩ := hi.cells (fun e => by have := HL.out; rw [e] at this; cases this)
  have hle : 76 ≤ c := by have := hi.le; rw [HL.out] at this; exact this
  rw [HL.out] at hc
  have hz : IsInts w1 (some ⟨b, off, none⟩) c .u8 z72 := ⟨by rw [z72_len]; omega, hi.max, fun x hx => u8_wf (z72_byte x hx).1 (z72_byte x hx).2, fun _ => ⟨b, off, rfl, hb, fun i h => by
    have h72 : i < 72 := by rw [z72_len] at h; exact h
    rw [hc i (by omega), sealL_get i h72, z72_get i h72]⟩⟩
  have c72 : w1.cell? ⟨b, off + 72, none⟩ = some (.int .u8 107) := by
    rw [hc 72 (by omega), sealL_z72, sum_z72]
    rfl
  have c73 : w1.cell? ⟨b, off + 73, none⟩ = some (.int .u8 129) := by
    rw [hc 73 (by omega), sealL_z72, sum_z72]
    rfl
  have c74 : w1.cell? ⟨b, off + 74, none⟩ = some (.int .u8 232) := by
    rw [hc 74 (by omega), sealL_z72, sum_z72]
    rfl
  have c75 : w1.cell? ⟨b, off + 75, none⟩ = some (.int .u8 33) := by
    rw [hc 75 (by omega), sealL_z72, sum_z72]
    rfl
  have HZ := Lib.hid hz
  clear hz hc hi ho
  have hcp : (72 : Int) ≤ c := by omega
  have hcq : 72 ≤ c := by omega
  go_region_held3 (fun w' => Below w1.heap.size w1 w' ∧ w'.cell? ⟨b, off + 72, none⟩ = some (.int .u8 107) ∧ w'.cell? ⟨b, off + 73, none⟩ = some (.int .u8 129) ∧ w'.cell? ⟨b, off + 74, none⟩ = some (.int .u8 232) ∧ w'.cell? ⟨b, off + 75, none⟩ = some (.int .u8 33)) (first | exact ⟨(Below.refl _ _).drew, c72, c73, c74, c75⟩ | assumption | exact aw_next hb (by assumption) ((Below.refl _ _).alloc (Nat.le_refl _) _) | go_keep) (first | (go_at_call 11; with_reducible (refine (isum0 _).mono ?_); rintro e v1 ⟨rfl, hv1⟩; have hS1 := aw_next hb (by assumption) hv1) | (go_at_call 11; with_reducible (refine (isum1 _).mono ?_); rintro e v1 ⟨rfl, hv1⟩; have hS1 := aw_next hb (by assumption) hv1) | (go_at_call 11; with_reducible (refine (isumz b off c w1 _ HZ.out ?hq).mono ?_); (case hq => exact (by assumption : _ ∧ _).1); rintro e v1 ⟨rfl, hv1⟩; have hS1 := aw_next hb (by assumption) hv1))
  go_wp2
  go_ret
  exact ⟨by rfl, hb1.trans ((by assumption : Below w1.heap.size w1 _ ∧ _).1.mono hb1.size)⟩
end Go.Proofs.Ytfooefiaenlhmaa
