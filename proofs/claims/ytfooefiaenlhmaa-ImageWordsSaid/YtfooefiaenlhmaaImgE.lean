/- The writer of the package: a list is appended. Printed by a program. -/
import Derived.Test.YtfooefiaenlhmaaImgD
namespace Go.Proofs.Ytfooefiaenlhmaa
set_option linter.unusedVariables false
set_option linter.unusedSimpArgs false
open Go.RowKit Go.ChangeShapes Go.WideShapes Go.ChangeAt

def nums8 (l : List Int) : List Int := l.flatMap num8
/-- A list of numbers in bytes. -/
def list8 (l : List Int) : List Int := num8 l.length ++ nums8 l
theorem nums8_take {l : List Int} {k : Nat} (hk : k < l.length) : nums8 (l.take (k + 1)) = nums8 (l.take k) ++ num8 (l.getD k 0) := by
  rw [List.take_add_one, List.getElem?_eq_getElem hk]
  unfold nums8
  rw [List.flatMap_append]
  simp [List.getD, List.getElem?_eq_getElem hk]
theorem nums8_len (l : List Int) : (nums8 l).length = 8 * l.length := by
  induction l with
  | nil => rfl
  | cons x l ih => simp only [nums8, List.flatMap_cons, List.length_append, num8_len, List.length_cons] at ih ⊢; omega
theorem nums8_byte (l : List Int) : ByteL (nums8 l) := by
  intro y hy
  simp only [nums8, List.mem_flatMap] at hy
  obtain ⟨x, hx, hy⟩ := hy
  exact num8_byte x y hy
theorem list8_len (l : List Int) : (list8 l).length = 8 + 8 * l.length := by
  unfold list8; rw [List.length_append, num8_len, nums8_len]
set_option maxRecDepth 100000 in
set_option maxHeartbeats 2000000 in
theorem wlist_any (b : Nat) (r : Option Addr) (cap : Nat) (l : List Int) (xs : List Int) (W0 w : World) (hx : IsInts W0 r cap .i64 l) (hB : W0.heap.size ≤ b) (hb0 : Below W0.heap.size W0 w) (hw : Wr w b xs) (hl : xs.length + 8 * l.length ≤ 90000000000) : Calls Try.prog 74 #[.pointer (some ⟨b, 0, none⟩), .slice r l.length cap] w fun e w' => e = .returned (.tuple #[]) ∧ Wr w' b (xs ++ list8 l) ∧ Below b w w' ∧ KeepW w w' b := by
  have HX : Hid (l = [] ∨ ∃ b off, r = some ⟨b, off, none⟩ ∧ b < W0.heap.size ∧ ∀ i, i < l.length → W0.cell? ⟨b, off + i, none⟩ = some (.int .i64 (l.getD i 0))) := Lib.hid (by
    by_cases e : l = []
    · exact .inl e
    · exact .inr (hx.cells e))
  have HS : Hid (∀ k, k < l.length → nums8 (l.take (k + 1)) = nums8 (l.take k) ++ num8 (l.getD k 0)) := Lib.hid (fun k hk => nums8_take hk)
  have HLN : Hid (∀ k, k ≤ l.length → (nums8 (l.take k)).length = 8 * k) := Lib.hid (fun k hk => by rw [nums8_len, List.length_take]; omega)
  have HE : Hid (xs ++ list8 l = xs ++ num8 l.length ++ nums8 (l.take l.length)) := Lib.hid (by rw [List.take_length, list8, List.append_assoc])
  have hlm : l.length < 1000000000000 := by omega
  clear hx
  have HB0 := Lib.hid hb0
  have HWr := Lib.hid hw
  clear hb0 hw
  generalize list8 l = res at *
  generalize hn : l.length = n at *
  have HN := Lib.hid hn
  clear hn
  go_enter Try.func74, Try.ntmps74
  go_wp2_with (go_at_call 72; refine (wint_any b _ xs _ HWr.out (by omega)).mono ?_; rintro e w1 ⟨rfl, hW1, hb1, hk1⟩)
  have HW1 := Lib.hid hW1
  have HK1 := Lib.hid hk1
  clear hW1 hk1
  go_loopg [12] n (fun kx s12 wr => ∃ (k : Nat) (out : List Int), s12 = .int .i64 k ∧ k ≤ n ∧ n - k ≤ kx ∧ Below b w wr ∧ Hid (KeepW w wr b) ∧ Hid (Wr wr b out) ∧ Hid (out = xs ++ num8 n ++ nums8 (l.take k)))
  case atStart => exact ⟨0, _, rfl, by omega, by omega, hb1, HK1, HW1, Lib.hid (by simp [nums8])⟩
  case round =>
    obtain ⟨k, out, rfl, hk, hkx, hbw, HKW, HW, HQ⟩ := hrel
    by_cases hlt : k < n
    · have hk1 : (0 : Int) ≤ (k : Int) := by omega
      have hk2 : (k : Int) < n := by omega
      obtain ⟨bX, off, rfl, hb, hc⟩ := HX.out.resolve_left (fun e => by have := HN.out; rw [e] at this; simp at this; omega)
      have hc1 : wr.cell? ⟨bX, off + k, none⟩ = some (.int .i64 (l.getD k 0)) := by
        rw [(HB0.out.trans (hbw.mono hB)).cell (p := ⟨bX, off + k, none⟩) hb]; exact hc k hlt
      have HQ2 := Lib.hid (HS.out k hlt)
      have hol : out.length ≤ 100000000000 := by
        have := HLN.out k (by omega)
        rw [HQ.out, List.length_append, List.length_append, num8_len, this]
        omega
      clear hc
      generalize l.getD k 0 = x at *
      go_wp2_with (go_at_call 72; refine (wint_any b _ out _ HW.out hol).mono ?_; rintro e w2 ⟨rfl, hW2, hb2, hk3⟩)
      have HW2 := Lib.hid hW2
      have HK2 := Lib.hid (HKW.out.trans hk3)
      clear hW2 hk3
      go_roundg (n - (k + 1))
      case measure => omega
      case rel => exact ⟨k + 1, _, by go_num, by omega, by omega, hbw.trans hb2, HK2, HW2, Lib.hid (by rw [HQ2.out, HQ.out, List.append_assoc])⟩
    · obtain rfl : k = n := by omega
      go_wp2
      refine bodyPost_end (results_none rfl _ _ _) rfl ?_
      refine ⟨rfl, ?_, hbw, HKW.out⟩
      rw [HE.out, ← HQ.out]
      exact HW.out
end Go.Proofs.Ytfooefiaenlhmaa
