/- Words and bytes belong together. No statement about the program, but for Bytes of too many words. -/
import Derived.Test.YtfooefiaenlhmaaImgN
import Derived.Test.YtfooefiaenlhmaaImgK
namespace Go.Proofs.Ytfooefiaenlhmaa
set_option linter.unusedVariables false
set_option linter.unusedSimpArgs false
open Go.RowKit Go.ChangeShapes Go.WideShapes Go.ChangeAt

theorem bytesW_at {ws : List Int} {k j : Nat} (hk : k < ws.length) (hj : j < 4) : (bytesW ws).getD (4 * k + j) 0 = (b4 (ws.getD k 0)).getD j 0 := by
  induction ws generalizing k with
  | nil => simp at hk
  | cons x ws ih =>
    unfold bytesW at ih ⊢
    rw [List.flatMap_cons, List.getD_eq_getElem?_getD, List.getElem?_append, b4_len]
    cases k with
    | zero => rw [if_pos (by omega)]; simp
    | succ k =>
      rw [if_neg (by omega), ← List.getD_eq_getElem?_getD, show 4 * (k + 1) + j - 4 = 4 * k + j by omega, ih (by simpa using hk)]
      simp
theorem b4_back {x : Int} (h0 : 0 ≤ x) (h1 : x ≤ 4294967295) : (((x / 16777216) * 256 + x / 65536 % 256) * 256 + x / 256 % 256) * 256 + x % 256 = x := by omega
theorem words_bytes {ws : List Int} (h : ∀ x ∈ ws, 0 ≤ x ∧ x ≤ 4294967295) : wordsB (bytesW ws) = ws := by
  have hl : (wordsB (bytesW ws)).length = ws.length := by rw [wordsB_len, bytesW_len]; omega
  refine getD_ext hl (fun t ht => ?_)
  rw [hl] at ht
  rw [wordsB_get (by rw [bytesW_len]; omega), wordAt_eq]
  have e0 := bytesW_at ht (j := 0) (by omega)
  have e1 := bytesW_at ht (j := 1) (by omega)
  have e2 := bytesW_at ht (j := 2) (by omega)
  have e3 := bytesW_at ht (j := 3) (by omega)
  unfold byteOf
  rw [Nat.add_zero] at e0
  rw [e0, e1, e2, e3]
  have hx := h _ (getD_mem' ht)
  generalize ws.getD t 0 = x at *
  exact b4_back hx.1 hx.2
theorem b4_word {a b c d : Int} (ha : 0 ≤ a ∧ a ≤ 255) (hb : 0 ≤ b ∧ b ≤ 255) (hc : 0 ≤ c ∧ c ≤ 255) (hd : 0 ≤ d ∧ d ≤ 255) : b4 (((a * 256 + b) * 256 + c) * 256 + d) = [a, b, c, d] := by
  unfold b4
  simp only [List.cons.injEq, and_true]
  refine ⟨?_, ?_, ?_, ?_⟩ <;> omega
theorem bytes_words {bs : List Int} (h : ByteL bs) : bytesW (wordsB bs) = bs ++ List.replicate (padN bs.length) 0 := by
  have hl : (bytesW (wordsB bs)).length = (bs ++ List.replicate (padN bs.length) 0).length := by
    rw [bytesW_len, wordsB_len, List.length_append, List.length_replicate]; unfold padN; omega
  refine getD_ext hl (fun t ht => ?_)
  rw [bytesW_len, wordsB_len] at ht
  have e := bytesW_at (ws := wordsB bs) (k := t / 4) (j := t % 4) (by rw [wordsB_len]; omega) (by omega)
  rw [show 4 * (t / 4) + t % 4 = t by omega, wordsB_get (by omega), wordAt_eq, b4_word (byteOf_bd h _) (byteOf_bd h _) (byteOf_bd h _) (byteOf_bd h _)] at e
  have hr : (bs ++ List.replicate (padN bs.length) 0).getD t 0 = byteOf bs t := by
    rw [List.getD_eq_getElem?_getD, List.getElem?_append]
    split
    · rfl
    · rw [List.getElem?_replicate, byteOf_out (by omega)]
      split <;> rfl
  rw [e, hr]
  have hj : t % 4 = 0 ∨ t % 4 = 1 ∨ t % 4 = 2 ∨ t % 4 = 3 := by omega
  rcases hj with hj | hj | hj | hj <;> rw [hj]
  · show byteOf bs (4 * (t / 4)) = _
    congr 1; omega
  · show byteOf bs (4 * (t / 4) + 1) = _
    congr 1; omega
  · show byteOf bs (4 * (t / 4) + 2) = _
    congr 1; omega
  · show byteOf bs (4 * (t / 4) + 3) = _
    congr 1; omega
set_option maxRecDepth 100000 in
theorem ibytes_full (r : Option Addr) (n cap : Nat) (w : World) (hl : 100000 < n) (hl2 : n < 4611686018427387904) : Calls Try.prog 16 #[.slice r n cap] w fun e w' => e = .returned (.tuple #[.slice none 0 0, .int .i64 5]) ∧ Below w.heap.size w w' := by
  have h2 : (100000 : Int) < n := by omega
  go_enter Try.func16, Try.ntmps16
  go_wp2
  go_ret2
  exact ⟨rfl, by (repeat' (first | (with_reducible exact Below.refl _ _) | (with_reducible assumption) | (with_reducible refine below_alloc ?_ _) | (with_reducible refine Below.drew ?_) | (with_reducible refine below_drewN ?_ _) | (with_reducible refine below_step (by assumption) ?_) | (with_reducible refine below_later ?_ _) | (with_reducible refine Below.setCell ?_ ?_ _) | go_size))⟩
end Go.Proofs.Ytfooefiaenlhmaa
