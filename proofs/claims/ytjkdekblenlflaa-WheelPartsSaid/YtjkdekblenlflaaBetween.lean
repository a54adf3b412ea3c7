/- Contracts of Between of wheels and of the reference's. -/
import Derived.Test.YtjkdekblenlflaaCollect
namespace Go.Proofs.Ytjkdekblenlflaa
set_option linter.unusedVariables false
set_option linter.unusedSimpArgs false
open Go.RowKit Go.ChangeShapes Go.WideShapes Go.ChangeAt

/-- The edge behind a position. -/
def wnxt (T M p : Int) : Int := (wnext T M p).1
theorem wnxt_bd {T M p : Int} (h : wheelB T M = true) (h0 : 0 ≤ p) : p < wnxt T M p ∧ wnxt T M p ≤ p + 23040 := by
  have ⟨s1, s2, s3⟩ := spI_bd h
  obtain ⟨t0, t1, t2, _⟩ := wheelB_true.1 h
  unfold wnxt wnext
  generalize spI T = s at *
  have q0 : 0 ≤ p % 23040 / s := Int.ediv_nonneg (by omega) (by omega)
  have q2 : p % 23040 < (p % 23040 / s + 1) * s := Int.lt_ediv_add_one_mul_self _ (by omega)
  split
  · simp only
    omega
  · rename_i hc
    have hm : (p % 23040 / s + 1) * s ≤ T * s := Int.mul_le_mul_of_nonneg_right (by omega) (by omega)
    simp only
    omega

def betV (T M a b : Int) : List Int × Int := if wheelB T M = true then collV (wnxt T M) a b else ([], 1)
theorem betCl_any (bX : Nat) (T M p : Int) (w : World) (h : wheelB T M = true) (h0 : 0 ≤ p) (h1 : p ≤ 2199023255552) (sX : bX < w.heap.size) (c0 : w.cell? ⟨bX, 0, none⟩ = some (.int .i64 T)) (c1 : w.cell? ⟨bX, 1, none⟩ = some (.int .i64 M)) :
    Calls Try.prog 40 #[.int .i64 p, .pointer (some ⟨bX, 0, none⟩)] w fun e w' => e = .returned (.int .i64 (wnxt T M p)) ∧ Below w.heap.size w w' := by
  have HN := Lib.hid (fun w => wnext_any T M p w h h0 h1)
  have H : Hid (wnxt T M p = (wnext T M p).1) := Lib.hid rfl
  generalize wnext T M p = n at *
  clear h h0 h1
  go_enter Try.func40, Try.ntmps40
  go_wp2_with ((go_at_call 35; refine (HN.out _).mono ?_; rintro e hb1w ⟨rfl, hb1⟩; obtain ⟨hb1c, hb1f⟩ := bcell hb1; have hb1s := hb1.size; (try simp only [World.size_alloc] at hb1s); (try (have : w.heap.size < hb1w.heap.size := by omega)); (try (have : w.heap.size + 1 < hb1w.heap.size := by omega)); (try (have : w.heap.size + 1 + 1 < hb1w.heap.size := by omega)); (try (have : w.heap.size + 1 + 1 + 1 < hb1w.heap.size := by omega)); (try (have : bX < hb1w.heap.size := by omega)); (try (have : bY < hb1w.heap.size := by omega)); (try (have : bZ < hb1w.heap.size := by omega))))
  go_ret
  exact ⟨by rw [H.out]; first | done | rfl, by (repeat' (first | (with_reducible exact Below.refl _ _) | (with_reducible assumption) | (with_reducible refine below_alloc ?_ _) | (with_reducible refine Below.drew ?_) | (with_reducible refine below_drewN ?_ _) | (with_reducible refine below_step (by assumption) ?_) | (with_reducible refine below_later ?_ _) | (with_reducible refine Below.setCell ?_ ?_ _) | go_size))⟩

theorem between_any (T M a b : Int) (w : World) :
    Calls Try.prog 25 #[.agg #[.int .i64 T, .int .i64 M], .int .i64 a, .int .i64 b] w fun e w' => ∃ r cap, e = .returned (.tuple #[.slice r (betV T M a b).1.length cap, .int .i64 (betV T M a b).2]) ∧ IsInts w' r cap .i64 (betV T M a b).1 ∧ Below w.heap.size w w' := by
  cases h : wheelB T M with
  | false =>
    have H := Lib.hid (show betV T M a b = ([], 1) by simp [betV, h])
    go_enter Try.func25, Try.ntmps25
    go_wp2_with ((go_at_call 13; refine (wvalid_any _ _ _).mono ?_; rintro e hb1w ⟨rfl, hb1⟩; obtain ⟨hb1c, hb1f⟩ := bcell hb1; have hb1s := hb1.size; (try simp only [World.size_alloc] at hb1s); (try (have : w.heap.size < hb1w.heap.size := by omega)); (try (have : w.heap.size + 1 < hb1w.heap.size := by omega)); (try (have : w.heap.size + 1 + 1 < hb1w.heap.size := by omega)); (try (have : w.heap.size + 1 + 1 + 1 < hb1w.heap.size := by omega)); (try (have : bX < hb1w.heap.size := by omega)); (try (have : bY < hb1w.heap.size := by omega)); (try (have : bZ < hb1w.heap.size := by omega))))
    go_ret2
    rw [H.out]
    exact ⟨none, 0, rfl, (OwnI.nil _ 0).ints (by simp), by (repeat' (first | (with_reducible exact Below.refl _ _) | (with_reducible assumption) | (with_reducible refine below_alloc ?_ _) | (with_reducible refine Below.drew ?_) | (with_reducible refine below_drewN ?_ _) | (with_reducible refine below_step (by assumption) ?_) | (with_reducible refine below_later ?_ _) | (with_reducible refine Below.setCell ?_ ?_ _) | go_size))⟩
  | true =>
    have H := Lib.hid (show betV T M a b = collV (wnxt T M) a b by simp [betV, h])
    have HW := Lib.hid h
    go_enter Try.func25, Try.ntmps25
    go_wp2_with (first | (go_at_call 13; refine (wvalid_any _ _ _).mono ?_; rintro e hb1w ⟨rfl, hb1⟩; obtain ⟨hb1c, hb1f⟩ := bcell hb1; have hb1s := hb1.size; (try simp only [World.size_alloc] at hb1s); (try (have : w.heap.size < hb1w.heap.size := by omega)); (try (have : w.heap.size + 1 < hb1w.heap.size := by omega)); (try (have : w.heap.size + 1 + 1 < hb1w.heap.size := by omega)); (try (have : w.heap.size + 1 + 1 + 1 < hb1w.heap.size := by omega)); (try (have : bX < hb1w.heap.size := by omega)); (try (have : bY < hb1w.heap.size := by omega)); (try (have : bZ < hb1w.heap.size := by omega))) | (go_at_call 39; refine (collect_any 40 #[.pointer (some ⟨w.heap.size, 0, none⟩)] (wnxt T M) a b _ (enters_of Try.func40 (by kernel_rfl) rfl) ?hf ?hm).mono ?_))
    case hf =>
      intro a0 b0 e p p1 p2
      have hes := e.h.size
      have hbw : Below (w.heap.size + 1) (w.alloc (.cells #[.int .i64 T, .int .i64 M] 23)) e.w := by
        have hb1s := hb1.mono (B' := w.heap.size + 1) (by simp)
        exact hb1s.trans (e.h.mono (by omega))
      exact betCl_any w.heap.size T M p e.w HW.out (by omega) (by omega) (by omega) (by rw [hbw.cell (p := ⟨w.heap.size, 0, none⟩) (Nat.lt_succ_self _)]; simp [go_sem]) (by rw [hbw.cell (p := ⟨w.heap.size, 1, none⟩) (Nat.lt_succ_self _)]; simp [go_sem])
    case hm =>
      intro a0 b0 p p1 p2
      have := wnxt_bd HW.out (p := p) (by omega)
      omega
    rintro e hb2w ⟨r2, c2, rfl, hI2, hb2⟩
    go_wp2
    go_ret2
    rw [H.out]
    exact ⟨r2, c2, rfl, hI2, by (repeat' (first | (with_reducible exact Below.refl _ _) | (with_reducible assumption) | (with_reducible refine below_alloc ?_ _) | (with_reducible refine Below.drew ?_) | (with_reducible refine below_drewN ?_ _) | (with_reducible refine below_step (by assumption) ?_) | (with_reducible refine below_later ?_ _) | (with_reducible refine Below.setCell ?_ ?_ _) | go_size))⟩
end Go.Proofs.Ytjkdekblenlflaa
