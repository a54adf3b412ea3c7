/- bytes.Equal and slices.Equal of words. -/
import Derived.Test.YtfooefiaenlhmaaImgA
import Derived.Laws.BytesArg
namespace Go.Proofs.Ytfooefiaenlhmaa
set_option linter.unusedVariables false
set_option linter.unusedSimpArgs false
open Go.RowKit Go.ChangeShapes Go.WideShapes Go.ChangeAt

def ByteL (xs : List Int) : Prop := ∀ x ∈ xs, 0 ≤ x ∧ x ≤ 255
theorem strOfNums_inj {xs ys : List Int} (hx : ByteL xs) (hy : ByteL ys) : strOfNums xs = strOfNums ys ↔ xs = ys := by
  constructor
  · intro h
    have h1 : (xs.map fun n => UInt8.ofNat n.toNat) = (ys.map fun n => UInt8.ofNat n.toNat) := by
      have := congrArg (fun b : ByteArray => b.data.toList) h
      simpa [strOfNums] using this
    have hl : xs.length = ys.length := by simpa using congrArg List.length h1
    apply List.ext_getElem hl
    intro i h2 h3
    have h4 := congrArg (fun l => l[i]?) h1
    simp [List.getElem?_map, h2, h3] at h4
    have a := hx _ (List.getElem_mem h2)
    have b := hy _ (List.getElem_mem h3)
    have h5 := congrArg UInt8.toNat h4
    simp only [UInt8.toNat_ofNat'] at h5
    omega
  · intro h
    rw [h]
theorem conv_bytes {W : World} {r : Option Addr} {c : Nat} {xs : List Int} (h : IsInts W r c .u8 xs) : (convert 29 9 (.slice r xs.length c)).run Try.prog W = .ok (.string (strOfNums xs)) W := by
  by_cases hne : xs = []
  · subst hne
    cases r with
    | none => exact run_convert_bytes_nil W _ _ Try.underlying29 Try.underlying5 _ _ _ Try.underlying9
    | some a =>
      have hl := run_loadCells_list (P := Try.prog) W a [] (by simp)
      show (convert 29 9 (.slice (some a) 0 c)).run Try.prog W = _
      rw [run_convert_bytes_string W _ _ _ _ _ _ Try.underlying29 Try.underlying5 Try.underlying9, run_bytesToString W a 0 c [] (by simpa using hl)]
      rfl
  · obtain ⟨b, off, rfl, hb, hc⟩ := h.cells hne
    exact run_convert_bytes_arg W _ _ Try.underlying29 Try.underlying5 b off xs.length c xs rfl (fun i hi => by
      have := hc i hi
      simpa [List.getD, List.getElem?_eq_getElem hi] using this) _ Try.underlying9
theorem bEq_any (r q : Option Addr) (c d : Nat) (xs ys : List Int) (w : World) (hx : IsInts w r c .u8 xs) (hy : IsInts w q d .u8 ys) :
    Calls Try.prog 14 #[.slice r xs.length c, .slice q ys.length d] w fun e w' => e = .returned (.bool (decide (xs = ys))) ∧ Below w.heap.size w w' := by
  have h1 := conv_bytes hx
  have h2 := conv_bytes hy
  have HS : Hid (((strOfNums xs).toList == (strOfNums ys).toList) = decide (xs = ys)) := Lib.hid (by
    have := strOfNums_inj (fun x h => wf_u8 (hx.wf x h)) (fun x h => wf_u8 (hy.wf x h))
    rw [ByteArray.toList_eq, ByteArray.toList_eq]
    by_cases h : xs = ys
    · simp [h]
    · have h3 : ¬ (strOfNums xs).data = (strOfNums ys).data := fun e2 => h (this.1 (by
        cases hs1 : strOfNums xs
        cases hs2 : strOfNums ys
        rw [hs1, hs2] at e2
        exact congrArg ByteArray.mk e2))
      simp [h, h3])
  clear hx hy
  generalize strOfNums xs = s1 at *
  generalize strOfNums ys = s2 at *
  go_enter Try.func14, Try.ntmps14
  go_wp2
  go_ret
  exact ⟨ret_bool HS.out, by (repeat' (first | (with_reducible exact Below.refl _ _) | (with_reducible assumption) | (with_reducible refine below_alloc ?_ _) | (with_reducible refine Below.drew ?_) | (with_reducible refine below_drewN ?_ _) | (with_reducible refine below_step (by assumption) ?_) | (with_reducible refine below_later ?_ _) | (with_reducible refine Below.setCell ?_ ?_ _) | go_size))⟩
end Go.Proofs.Ytfooefiaenlhmaa
