/- Sums of bytes; the image package's and the reference's Sum; words and bytes. -/
import Derived.Test.YtfooefiaenlhmaaOwnK
import Derived.Test.YtfooefiaenlhmaaFrame
import Derived.Deep.LoopGhost
import Derived.Shelf.Abstract
namespace Go.Proofs.Ytfooefiaenlhmaa
set_option linter.unusedVariables false
set_option linter.unusedSimpArgs false
open Go.RowKit Go.ChangeShapes Go.WideShapes Go.ChangeAt

/-- A step of the sum. -/
def sumS (s c : Int) : Int := (16777619 * s + c) % 4294967296
def sumF (s : Int) (bs : List Int) : Int := bs.foldl sumS s
def sumB (bs : List Int) : Int := sumF 1 bs
theorem sumF_bd {s : Int} (h : 0 ≤ s ∧ s < 4294967296) (bs : List Int) : 0 ≤ sumF s bs ∧ sumF s bs < 4294967296 := by
  induction bs generalizing s with
  | nil => exact h
  | cons c bs ih => exact ih ⟨by unfold sumS; omega, by unfold sumS; omega⟩
theorem sumB_bd (bs : List Int) : 0 ≤ sumB bs ∧ sumB bs < 4294967296 := sumF_bd (by omega) bs
theorem sumF_take {bs : List Int} {k : Nat} (hk : k < bs.length) (s : Int) : sumF s (bs.take (k + 1)) = sumS (sumF s (bs.take k)) (bs.getD k 0) := by
  rw [List.take_add_one, List.getElem?_eq_getElem hk]
  unfold sumF
  rw [List.foldl_append]
  simp [List.getD, List.getElem?_eq_getElem hk]
theorem wf_u8 {x : Int} (h : (Lit.int .u8 x).wf = true) : 0 ≤ x ∧ x ≤ 255 := by simpa [Lit.wf, IntKind.min, IntKind.max, IntKind.bits, IntKind.signed] using h
theorem wf_u32 {x : Int} (h : (Lit.int .u32 x).wf = true) : 0 ≤ x ∧ x ≤ 4294967295 := by simpa [Lit.wf, IntKind.min, IntKind.max, IntKind.bits, IntKind.signed] using h
theorem u8_wf {x : Int} (h0 : 0 ≤ x) (h1 : x ≤ 255) : (Lit.int .u8 x).wf = true := by simp [Lit.wf, IntKind.min, IntKind.max, IntKind.bits, IntKind.signed]; omega
theorem u32_wf {x : Int} (h0 : 0 ≤ x) (h1 : x ≤ 4294967295) : (Lit.int .u32 x).wf = true := by simp [Lit.wf, IntKind.min, IntKind.max, IntKind.bits, IntKind.signed]; omega
theorem ret_u32 {a b : Int} (h : a = b) : Ending.returned (.int .u32 a) = .returned (.int .u32 b) := by rw [h]
theorem getD_mem' {xs : List Int} {k : Nat} (hk : k < xs.length) : xs.getD k 0 ∈ xs := by
  simp [List.getD, List.getElem?_eq_getElem hk]
set_option maxHeartbeats 1000000 in
theorem isum_any (r : Option Addr) (cap : Nat) (bs : List Int) (w : World) (hx : IsInts w r cap .u8 bs) : Calls Try.prog 11 #[.slice r bs.length cap] w fun e w' => e = .returned (.int .u32 (sumB bs)) ∧ Below w.heap.size w w' := by
  by_cases hne : bs = []
  · subst hne
    clear hx
    have H : Hid (sumB [] = 1) := Lib.hid rfl
    go_enter Try.func11, Try.ntmps11
    go_wp2
    go_rounds 1
    go_ret
    exact ⟨ret_u32 H.out.symm, by (repeat' (first | (with_reducible exact Below.refl _ _) | (with_reducible assumption) | (with_reducible refine below_alloc ?_ _) | (with_reducible refine Below.drew ?_) | (with_reducible refine below_drewN ?_ _) | (with_reducible refine below_step (by assumption) ?_) | (with_reducible refine below_later ?_ _) | (with_reducible refine Below.setCell ?_ ?_ _) | go_size))⟩
  · obtain ⟨bX, off, rfl, hb, hc⟩ := hx.cells hne
    have hmax := Nat.le_trans hx.le hx.max
    unfold maxLen at hmax
    have HC := Lib.hid hc
    have HS : Hid (∀ k, k < bs.length → sumF 1 (bs.take (k + 1)) = sumS (sumF 1 (bs.take k)) (bs.getD k 0)) := Lib.hid (fun k hk => sumF_take hk 1)
    have HBD : Hid (∀ k, 0 ≤ sumF 1 (bs.take k) ∧ sumF 1 (bs.take k) < 4294967296) := Lib.hid (fun k => sumF_bd (by omega) _)
    have HW : Hid (∀ k, k < bs.length → 0 ≤ bs.getD k 0 ∧ bs.getD k 0 ≤ 255) := Lib.hid (fun k hk => wf_u8 (hx.wf _ (getD_mem' hk)))
    have HE : Hid (sumF 1 (bs.take bs.length) = sumB bs) := Lib.hid (by rw [List.take_length]; rfl)
    clear hc hx hne
    generalize sumB bs = res at *
    generalize hn : bs.length = n at *
    have HN := Lib.hid hn
    clear hn
    go_enter Try.func11, Try.ntmps11
    go_wp2
    go_loopg [3, 8] n (fun kx s3 s8 wr => ∃ (k : Nat) (e : Later w), s3 = .int .u32 (sumF 1 (bs.take k)) ∧ s8 = .int .i64 k ∧ k ≤ n ∧ n - k ≤ kx ∧ wr = e.w)
    case atStart => exact ⟨0, ⟨_, Below.refl _ _⟩, rfl, rfl, by omega, by omega, rfl⟩
    case round =>
      obtain ⟨k, e, rfl, rfl, hk, hkx, rfl⟩ := hrel
      by_cases hlt : k < n
      · have hk1 : (0 : Int) ≤ (k : Int) := by omega
        have hk2 : (k : Int) < n := by omega
        have hc1 : e.w.cell? ⟨bX, off + k, none⟩ = some (.int .u8 (bs.getD k 0)) := by
          rw [Later.cell e hb]; exact HC.out k hlt
        have HSK := Lib.hid (HS.out k hlt)
        have ⟨x0, x1⟩ := HW.out k hlt
        have ⟨s0, s1⟩ := HBD.out k
        generalize bs.getD k 0 = x at *
        generalize sumF 1 (bs.take k) = s at *
        go_wp2
        go_roundg (n - (k + 1))
        case measure => omega
        case rel => exact ⟨k + 1, e, by rw [HSK.out]; unfold sumS; first | (simp [IntKind.wrap_u32]; done) | (simp [IntKind.wrap_u32]; omega), by go_num, by omega, by omega, rfl⟩
      · obtain rfl : k = n := by omega
        have H := Lib.hid HE.out
        go_wp2
        go_ret
        exact ⟨ret_u32 H.out, by (repeat' (first | (with_reducible exact Below.refl _ _) | (with_reducible assumption) | (with_reducible refine below_alloc ?_ _) | (with_reducible refine Below.drew ?_) | (with_reducible refine below_drewN ?_ _) | (with_reducible refine below_step (by assumption) ?_) | (with_reducible refine below_later ?_ _) | (with_reducible refine Below.setCell ?_ ?_ _) | go_size))⟩
set_option maxHeartbeats 1000000 in
theorem rsum_any (r : Option Addr) (cap : Nat) (bs : List Int) (w : World) (hx : IsInts w r cap .u8 bs) : Calls Try.prog 12 #[.slice r bs.length cap] w fun e w' => e = .returned (.int .u32 (sumB bs)) ∧ Below w.heap.size w w' := by
  by_cases hne : bs = []
  · subst hne
    clear hx
    have H : Hid (sumB [] = 1) := Lib.hid rfl
    go_enter Try.func12, Try.ntmps12
    go_wp2
    go_rounds 1
    go_ret
    exact ⟨ret_u32 H.out.symm, by (repeat' (first | (with_reducible exact Below.refl _ _) | (with_reducible assumption) | (with_reducible refine below_alloc ?_ _) | (with_reducible refine Below.drew ?_) | (with_reducible refine below_drewN ?_ _) | (with_reducible refine below_step (by assumption) ?_) | (with_reducible refine below_later ?_ _) | (with_reducible refine Below.setCell ?_ ?_ _) | go_size))⟩
  · obtain ⟨bX, off, rfl, hb, hc⟩ := hx.cells hne
    have hmax := Nat.le_trans hx.le hx.max
    unfold maxLen at hmax
    have HC := Lib.hid hc
    have HS : Hid (∀ k, k < bs.length → sumF 1 (bs.take (k + 1)) = sumS (sumF 1 (bs.take k)) (bs.getD k 0)) := Lib.hid (fun k hk => sumF_take hk 1)
    have HBD : Hid (∀ k, 0 ≤ sumF 1 (bs.take k) ∧ sumF 1 (bs.take k) < 4294967296) := Lib.hid (fun k => sumF_bd (by omega) _)
    have HW : Hid (∀ k, k < bs.length → 0 ≤ bs.getD k 0 ∧ bs.getD k 0 ≤ 255) := Lib.hid (fun k hk => wf_u8 (hx.wf _ (getD_mem' hk)))
    have HE : Hid (sumF 1 (bs.take bs.length) = sumB bs) := Lib.hid (by rw [List.take_length]; rfl)
    clear hc hx hne
    generalize sumB bs = res at *
    generalize hn : bs.length = n at *
    have HN := Lib.hid hn
    clear hn
    go_enter Try.func12, Try.ntmps12
    go_wp2
    go_loopg [3, 4] n (fun kx s3 s4 wr => ∃ (k : Nat) (e : Later w), s3 = .int .u32 (sumF 1 (bs.take k)) ∧ s4 = .int .i64 k ∧ k ≤ n ∧ n - k ≤ kx ∧ wr = e.w)
    case atStart => exact ⟨0, ⟨_, Below.refl _ _⟩, rfl, rfl, by omega, by omega, rfl⟩
    case round =>
      obtain ⟨k, e, rfl, rfl, hk, hkx, rfl⟩ := hrel
      by_cases hlt : k < n
      · have hk1 : (0 : Int) ≤ (k : Int) := by omega
        have hk2 : (k : Int) < n := by omega
        have hc1 : e.w.cell? ⟨bX, off + k, none⟩ = some (.int .u8 (bs.getD k 0)) := by
          rw [Later.cell e hb]; exact HC.out k hlt
        have HSK := Lib.hid (HS.out k hlt)
        have ⟨x0, x1⟩ := HW.out k hlt
        have ⟨s0, s1⟩ := HBD.out k
        generalize bs.getD k 0 = x at *
        generalize sumF 1 (bs.take k) = s at *
        go_wp2
        go_roundg (n - (k + 1))
        case measure => omega
        case rel => exact ⟨k + 1, e, by rw [HSK.out]; unfold sumS; first | (simp [IntKind.wrap_u32]; done) | (simp [IntKind.wrap_u32]; omega), by go_num, by omega, by omega, rfl⟩
      · obtain rfl : k = n := by omega
        have H := Lib.hid HE.out
        go_wp2
        go_ret
        exact ⟨ret_u32 H.out, by (repeat' (first | (with_reducible exact Below.refl _ _) | (with_reducible assumption) | (with_reducible refine below_alloc ?_ _) | (with_reducible refine Below.drew ?_) | (with_reducible refine below_drewN ?_ _) | (with_reducible refine below_step (by assumption) ?_) | (with_reducible refine below_later ?_ _) | (with_reducible refine Below.setCell ?_ ?_ _) | go_size))⟩
end Go.Proofs.Ytfooefiaenlhmaa
