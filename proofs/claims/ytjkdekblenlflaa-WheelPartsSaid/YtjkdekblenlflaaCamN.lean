/- Contracts of CamBetween of wheels, and of the reference's. -/
import Derived.Test.YtjkdekblenlflaaBetweenR
import Derived.Test.YtjkdekblenlflaaCamB
import Derived.Test.YtjkdekblenlflaaLeast
namespace Go.Proofs.Ytjkdekblenlflaa
set_option linter.unusedVariables false
set_option linter.unusedSimpArgs false
open Go.RowKit Go.ChangeShapes Go.WideShapes Go.ChangeAt

/-- The cam edge behind a position. -/
@[irreducible] def cidx (xs : List Int) (q : Int) : Nat := least (fun i => decide (q < xs.getD i 0)) xs.length
@[irreducible] def cnxt (xs : List Int) (p : Int) : Int := if cidx xs (p % 46080) < xs.length then p - p % 46080 + xs.getD (cidx xs (p % 46080)) 0 else p - p % 46080 + 46080 + xs.getD 0 0
theorem cnxt_hit {xs : List Int} {p : Int} {k : Nat} (hk : k < xs.length) (h0 : ∀ t, t < k → xs.getD t 0 ≤ p % 46080) (h1 : p % 46080 < xs.getD k 0) : cnxt xs p = p - p % 46080 + xs.getD k 0 := by
  have : cidx xs (p % 46080) = k := by
    unfold cidx
    exact least_eq (by omega) (fun t ht => by simpa using h0 t ht) (fun _ => by simpa using h1)
  unfold cnxt
  rw [this, if_pos hk]
theorem cnxt_none {xs : List Int} {p : Int} (h0 : ∀ t, t < xs.length → xs.getD t 0 ≤ p % 46080) : cnxt xs p = p - p % 46080 + 46080 + xs.getD 0 0 := by
  have : cidx xs (p % 46080) = xs.length := by
    unfold cidx
    exact least_eq (Nat.le_refl _) (fun t ht => by simpa using h0 t ht) (fun h => absurd h (Nat.lt_irrefl _))
  unfold cnxt
  rw [this, if_neg (Nat.lt_irrefl _)]
theorem cnxt_cases (xs : List Int) (p : Int) : (∃ k, k < xs.length ∧ (∀ t, t < k → xs.getD t 0 ≤ p % 46080) ∧ p % 46080 < xs.getD k 0 ∧ cnxt xs p = p - p % 46080 + xs.getD k 0) ∨ ((∀ t, t < xs.length → xs.getD t 0 ≤ p % 46080) ∧ cnxt xs p = p - p % 46080 + 46080 + xs.getD 0 0) := by
  have hl := least_le (fun i => decide (p % 46080 < xs.getD i 0)) xs.length
  have hb := least_below (fun i => decide (p % 46080 < xs.getD i 0)) xs.length
  have ha := least_at (fun i => decide (p % 46080 < xs.getD i 0)) xs.length
  generalize least (fun i => decide (p % 46080 < xs.getD i 0)) xs.length = k at *
  simp only [decide_eq_false_iff_not, decide_eq_true_eq, Int.not_lt] at hb ha
  rcases Nat.lt_or_ge k xs.length with h | h
  · exact .inl ⟨k, h, hb, ha h, cnxt_hit h hb (ha h)⟩
  · have hb2 : ∀ t, t < xs.length → xs.getD t 0 ≤ p % 46080 := fun t ht => hb t (by omega)
    exact .inr ⟨hb2, cnxt_none hb2⟩
theorem cam_up {xs : List Int} (h : CamOk xs) {a b : Nat} (hab : a < b) (hb : b < xs.length) : xs.getD a 0 + 1920 ≤ xs.getD b 0 := by
  induction b with
  | zero => omega
  | succ b ih =>
    have := h.2.2.2.1 b hb
    by_cases e : a = b
    · subst e; exact this
    · have := ih (by omega) (by omega)
      omega
theorem cam_bd {xs : List Int} (h : CamOk xs) {t : Nat} (ht : t < xs.length) : 1920 ≤ xs.getD t 0 ∧ xs.getD t 0 ≤ 44160 := by
  obtain ⟨h1, h2, h3, h4⟩ := h.2.2.1 t ht
  omega
theorem cnxt_bd {xs : List Int} (h : CamOk xs) {p : Int} (h0 : 0 ≤ p) : p < cnxt xs p ∧ cnxt xs p ≤ p + 92160 := by
  have hl := h.1
  have b0 := cam_bd h (show 0 < xs.length by omega)
  rcases cnxt_cases xs p with ⟨k, hk, _, h2, e⟩ | ⟨_, e⟩
  · have := cam_bd h hk
    rw [e]; omega
  · rw [e]; omega
/-- The cam edge of number i of the cycle t. -/
@[irreducible] def camE (xs : List Int) (t : Int) (i : Nat) : Int := if i < xs.length then t * 46080 + xs.getD i 0 else t * 46080 + 46080 + xs.getD 0 0
theorem camE_lt {xs : List Int} {t : Int} {i : Nat} (h : i < xs.length) : camE xs t i = t * 46080 + xs.getD i 0 := by unfold camE; rw [if_pos h]
theorem camE_ge {xs : List Int} {t : Int} {i : Nat} (h : ¬ i < xs.length) : camE xs t i = t * 46080 + 46080 + xs.getD 0 0 := by unfold camE; rw [if_neg h]
theorem cnxt_at {xs : List Int} (hc : CamOk xs) {t p : Int} {i : Nat} (hi : i < xs.length) (h1 : camE xs t i ≤ p) (h2 : p < camE xs t (i + 1)) : cnxt xs p = camE xs t (i + 1) := by
  have hl := hc.1
  have b0 := cam_bd hc (show 0 < xs.length by omega)
  have bi := cam_bd hc hi
  rw [camE_lt hi] at h1
  have hle : ∀ k, k ≤ i → xs.getD k 0 ≤ xs.getD i 0 := fun k hk => by
    by_cases e : k = i
    · subst e; exact Int.le_refl _
    · have := cam_up hc (show k < i by omega) hi
      omega
  by_cases h : i + 1 < xs.length
  · rw [camE_lt h] at h2 ⊢
    have b1 := cam_bd hc h
    rw [cnxt_hit h (fun k hk => by have := hle k (by omega); omega) (by omega)]
    omega
  · rw [camE_ge h] at h2 ⊢
    by_cases hp : p < t * 46080 + 46080
    · rw [cnxt_none (fun k hk => by have := hle k (by omega); omega)]
      omega
    · rw [cnxt_hit (show 0 < xs.length by omega) (fun k hk => absurd hk (Nat.not_lt_zero _)) (by omega)]
      omega
theorem cnxt_first {xs : List Int} (hc : CamOk xs) {t p : Int} (h1 : t * 46080 ≤ p) (h2 : p < camE xs t 0) : cnxt xs p = camE xs t 0 := by
  have hl := hc.1
  have b0 := cam_bd hc (show 0 < xs.length by omega)
  rw [camE_lt (show 0 < xs.length by omega)] at h2 ⊢
  rw [cnxt_hit (show 0 < xs.length by omega) (fun k hk => absurd hk (Nat.not_lt_zero _)) (by omega)]
  omega
theorem camE_next {xs : List Int} (hc : CamOk xs) {t : Int} {i : Nat} (hi : i < xs.length) : camE xs t i < camE xs t (i + 1) := by
  have hl := hc.1
  have b0 := cam_bd hc (show 0 < xs.length by omega)
  have bi := cam_bd hc hi
  rw [camE_lt hi]
  by_cases h : i + 1 < xs.length
  · rw [camE_lt h]
    have := hc.2.2.2.1 i h
    omega
  · rw [camE_ge h]; omega
theorem camE_turn {xs : List Int} (hc : CamOk xs) (t : Int) : camE xs t xs.length = camE xs (t + 1) 0 := by
  have hl := hc.1
  rw [camE_ge (Nat.lt_irrefl _), camE_lt (show 0 < xs.length by omega)]
  omega
/-- The first edge behind a that is not the cycle t's before its i-th. -/
@[irreducible] def camQ (xs : List Int) (a t : Int) (i : Nat) : Int := if a < camE xs t i then camE xs t i else cnxt xs a
theorem camQ_turn {xs : List Int} (hc : CamOk xs) (a t : Int) : camQ xs a t xs.length = camQ xs a (t + 1) 0 := by
  unfold camQ; rw [camE_turn hc]
theorem camQ_start {xs : List Int} (hc : CamOk xs) {a : Int} : camQ xs a (a / 46080) 0 = cnxt xs a := by
  unfold camQ
  split
  · rename_i h
    exact (cnxt_first hc (by omega) h).symm
  · rfl
theorem camQ_in {xs : List Int} {a t : Int} {i : Nat} (h : a < camE xs t i) : camQ xs a t i = camE xs t i := by unfold camQ; rw [if_pos h]
theorem camQ_step {xs : List Int} (hc : CamOk xs) {a t : Int} {i : Nat} (hi : i < xs.length) (h : a < camE xs t i) : camQ xs a t (i + 1) = cnxt xs (camE xs t i) := by
  have := camE_next hc (t := t) hi
  rw [camQ_in (by omega), cnxt_at hc hi (Int.le_refl _) this]
theorem camQ_skip {xs : List Int} (hc : CamOk xs) {a t : Int} {i : Nat} (hi : i < xs.length) (h : ¬ a < camE xs t i) : camQ xs a t (i + 1) = camQ xs a t i := by
  unfold camQ
  rw [if_neg h]
  split
  · rename_i h2
    exact (cnxt_at hc hi (by omega) h2).symm
  · rfl
/-- One edge more of the reference's walk. -/
theorem camI_skip {xs : List Int} (hc : CamOk xs) {a b t : Int} {i : Nat} {out : List Int} (hi : i < xs.length) (h : ¬ a < camE xs t i) (hq : collL (cnxt xs) a b = out ++ iterL (cnxt xs) b (1001 - out.length) (camQ xs a t i)) :
    collL (cnxt xs) a b = out ++ iterL (cnxt xs) b (1001 - out.length) (camQ xs a t (i + 1)) := by rw [camQ_skip hc hi h]; exact hq
theorem camI_out {xs : List Int} (hc : CamOk xs) {a b t : Int} {i : Nat} {out : List Int} (hi : i < xs.length) (h : a < camE xs t i) (hb : ¬ camE xs t i ≤ b) (hq : collL (cnxt xs) a b = out ++ iterL (cnxt xs) b (1001 - out.length) (camQ xs a t i)) :
    collL (cnxt xs) a b = out ++ iterL (cnxt xs) b (1001 - out.length) (camQ xs a t (i + 1)) := by
  have := camE_next hc (t := t) hi
  rw [camQ_in (by omega), iterL_out (by omega)]
  rw [camQ_in h, iterL_out hb] at hq
  exact hq
theorem camI_in {xs : List Int} (hc : CamOk xs) {a b t : Int} {i : Nat} {out : List Int} (hi : i < xs.length) (h : a < camE xs t i) (hb : camE xs t i ≤ b) (hl : out.length < 1000) (hq : collL (cnxt xs) a b = out ++ iterL (cnxt xs) b (1001 - out.length) (camQ xs a t i)) :
    collL (cnxt xs) a b = (out ++ [camE xs t i]) ++ iterL (cnxt xs) b (1001 - (out ++ [camE xs t i]).length) (camQ xs a t (i + 1)) := by
  rw [camQ_step hc hi h, hq, camQ_in h, show 1001 - out.length = (1000 - out.length) + 1 by omega, iterL_in hb]
  simp
theorem camI_full {xs : List Int} {a b t : Int} {i : Nat} {out : List Int} (h : a < camE xs t i) (hb : camE xs t i ≤ b) (hl : out.length = 1000) (hq : collL (cnxt xs) a b = out ++ iterL (cnxt xs) b (1001 - out.length) (camQ xs a t i)) : rcolV (cnxt xs) a b = ([], false) := by
  unfold rcolV
  rw [if_neg]
  rw [hq, camQ_in h, hl, show 1001 - 1000 = 0 + 1 by omega, iterL_in hb]
  simp [hl]
theorem camI_done {xs : List Int} (hc : CamOk xs) {a b t : Int} {out : List Int} (hab : a ≤ b) (ht : b < t * 46080) (hl : out.length ≤ 1000) (hq : collL (cnxt xs) a b = out ++ iterL (cnxt xs) b (1001 - out.length) (camQ xs a t 0)) : rcolV (cnxt xs) a b = (out, true) := by
  have hl0 := hc.1
  have b0 := cam_bd hc (show 0 < xs.length by omega)
  have hE : camE xs t 0 = t * 46080 + xs.getD 0 0 := camE_lt (by omega)
  rw [camQ_in (by omega), iterL_out (by omega), List.append_nil] at hq
  unfold rcolV
  rw [hq, if_pos hl]

set_option maxHeartbeats 1000000 in
theorem camCl_any (bC bX off cap : Nat) (xs : List Int) (p : Int) (w : World) (hok : CamOk xs) (h0 : 0 ≤ p) (h1 : p ≤ 2199023255552) (sC : bC < w.heap.size) (c0 : w.cell? ⟨bC, 0, none⟩ = some (.slice (some ⟨bX, off, none⟩) xs.length cap)) (hb : bX < w.heap.size)
    (hc : ∀ i, i < xs.length → w.cell? ⟨bX, off + i, none⟩ = some (.int .i64 (xs.getD i 0))) :
    Calls Try.prog 41 #[.int .i64 p, .pointer (some ⟨bC, 0, none⟩)] w fun e w' => e = .returned (.int .i64 (cnxt xs p)) ∧ Below w.heap.size w w' := by
  have HC := Lib.hid hc
  have HB := Lib.hid (fun t => @cam_bd xs hok t)
  have hl1 := hok.1
  have hl8 := hok.2.1
  have HH := Lib.hid (fun k => @cnxt_hit xs p k)
  have HN := Lib.hid (@cnxt_none xs p)
  have HM := Lib.hid (fun w => modC_any w h0)
  have q1 : 0 ≤ p % 46080 := by omega
  have q2 : p % 46080 < 46080 := by omega
  have q3 : 0 ≤ p - p % 46080 := by omega
  have q4 : p - p % 46080 ≤ p := by omega
  generalize hn : xs.length = n at *
  have HL := Lib.hid hn
  clear hn hok hc
  go_enter Try.func41, Try.ntmps41
  go_wp2_with ((go_at_call 42; refine (HM.out _).mono ?_; rintro e w' ⟨rfl, rfl⟩))
  go_loopg [14] n (fun kx s14 wr => ∃ (k : Nat) (e : Later w), s14 = .int .i64 k ∧ k ≤ n ∧ n - k ≤ kx ∧ wr = e.w ∧ Hid (∀ t : Nat, t < k → xs.getD t 0 ≤ p % 46080))
  case atStart => exact ⟨0, ⟨_, Below.refl _ _⟩, rfl, by omega, by omega, rfl, Lib.hid (fun t ht => absurd ht (Nat.not_lt_zero _))⟩
  case round =>
    obtain ⟨k, e, rfl, hk, hkx, rfl, HQ⟩ := hrel
    have hes := e.h.size
    by_cases hlt : k < n
    · have hc1 : e.w.cell? ⟨bX, off + k, none⟩ = some (.int .i64 (xs.getD k 0)) := by
        rw [e.h.cell (p := ⟨bX, off + k, none⟩) hb]
        exact HC.out k hlt
      have hk1 : (0 : Int) ≤ (k : Int) := by omega
      have hk2 : (k : Int) < n := by omega
      have ⟨b1, b2⟩ := HB.out k hlt
      have HG : Hid (xs.getD k 0 ≤ p % 46080 → ∀ t : Nat, t < k + 1 → xs.getD t 0 ≤ p % 46080) := Lib.hid (fun h t ht => by
        by_cases e : t = k
        · subst e; exact h
        · exact HQ.out t (by omega))
      have HF := Lib.hid (HH.out k (by have := HL.out; omega) HQ.out)
      generalize xs.getD k 0 = x at hc1 HG HF b1 b2
      by_cases hx : p % 46080 < x
      · have H := Lib.hid (HF.out hx)
        have hx2 : p < p - p % 46080 + x := by omega
        go_wp2
        go_ret
        exact ⟨by rw [H.out]; first | done | rfl, by (repeat' (first | (with_reducible exact Below.refl _ _) | (with_reducible assumption) | (with_reducible refine below_alloc ?_ _) | (with_reducible refine Below.drew ?_) | (with_reducible refine below_drewN ?_ _) | (with_reducible refine below_step (by assumption) ?_) | (with_reducible refine below_later ?_ _) | (with_reducible refine Below.setCell ?_ ?_ _) | go_size))⟩
      · have HG2 := Lib.hid (HG.out (by omega))
        have hx2 : ¬ p < p - p % 46080 + x := by omega
        go_wp2
        go_roundg (n - (k + 1))
        case measure => omega
        case rel => exact ⟨k + 1, e, by go_num, by omega, by omega, rfl, HG2⟩
    · obtain rfl : k = n := by omega
      have H := Lib.hid (HN.out (fun t ht => HQ.out t (by have := HL.out; omega)))
      have hc1 : e.w.cell? ⟨bX, off + 0, none⟩ = some (.int .i64 (xs.getD 0 0)) := by
        rw [e.h.cell (p := ⟨bX, off + 0, none⟩) hb]
        exact HC.out 0 (by omega)
      rw [Nat.add_zero] at hc1
      have ⟨b1, b2⟩ := HB.out 0 (by omega)
      generalize xs.getD 0 0 = x at hc1 H b1 b2
      have hk2 : (0 : Int) < k := by omega
      go_wp2
      go_ret
      exact ⟨by rw [H.out]; first | done | rfl, by (repeat' (first | (with_reducible exact Below.refl _ _) | (with_reducible assumption) | (with_reducible refine below_alloc ?_ _) | (with_reducible refine Below.drew ?_) | (with_reducible refine below_drewN ?_ _) | (with_reducible refine below_step (by assumption) ?_) | (with_reducible refine below_later ?_ _) | (with_reducible refine Below.setCell ?_ ?_ _) | go_size))⟩

noncomputable def cbetV (xs : List Int) (a b : Int) : List Int × Int := if camB xs = true then collV (cnxt xs) a b else ([], 1)
theorem cambetween_any (r : Option Addr) (cap : Nat) (xs : List Int) (a b : Int) (w : World) (hx : IsInts w r cap .i64 xs) :
    Calls Try.prog 26 #[.agg #[.slice r xs.length cap], .int .i64 a, .int .i64 b] w fun e w' => ∃ r cap, e = .returned (.tuple #[.slice r (cbetV xs a b).1.length cap, .int .i64 (cbetV xs a b).2]) ∧ IsInts w' r cap .i64 (cbetV xs a b).1 ∧ Below w.heap.size w w' := by
  have HX : Hid (∀ w', Below w.heap.size w w' → IsInts w' r cap .i64 xs) := Lib.hid (fun _ h => hx.later h)
  cases h : camB xs with
  | false =>
    have H := Lib.hid (show cbetV xs a b = ([], 1) by simp [cbetV, h])
    clear hx
    go_enter Try.func26, Try.ntmps26
    go_wp2_with ((go_at_call 23; refine (cam_any _ _ _ _ (HX.out _ (by (repeat' (first | (with_reducible exact Below.refl _ _) | (with_reducible assumption) | (with_reducible refine below_alloc ?_ _) | (with_reducible refine Below.drew ?_) | (with_reducible refine below_drewN ?_ _) | (with_reducible refine below_step (by assumption) ?_) | (with_reducible refine below_later ?_ _) | (with_reducible refine Below.setCell ?_ ?_ _) | go_size))))).mono ?_; rintro e hb1w ⟨rfl, hb1⟩; obtain ⟨hb1c, hb1f⟩ := bcell hb1; have hb1s := hb1.size; (try simp only [World.size_alloc] at hb1s); (try (have : w.heap.size < hb1w.heap.size := by omega)); (try (have : w.heap.size + 1 < hb1w.heap.size := by omega)); (try (have : w.heap.size + 1 + 1 < hb1w.heap.size := by omega)); (try (have : w.heap.size + 1 + 1 + 1 < hb1w.heap.size := by omega)); (try (have : bX < hb1w.heap.size := by omega)); (try (have : bY < hb1w.heap.size := by omega)); (try (have : bZ < hb1w.heap.size := by omega))))
    go_ret2
    rw [H.out]
    exact ⟨none, 0, rfl, (OwnI.nil _ 0).ints (by simp), by (repeat' (first | (with_reducible exact Below.refl _ _) | (with_reducible assumption) | (with_reducible refine below_alloc ?_ _) | (with_reducible refine Below.drew ?_) | (with_reducible refine below_drewN ?_ _) | (with_reducible refine below_step (by assumption) ?_) | (with_reducible refine below_later ?_ _) | (with_reducible refine Below.setCell ?_ ?_ _) | go_size))⟩
  | true =>
    have H := Lib.hid (show cbetV xs a b = collV (cnxt xs) a b by simp [cbetV, h])
    have HW := Lib.hid (camB_true.1 h)
    obtain ⟨bX, off, rfl, hbX, hcX⟩ := hx.cells (fun e => by have := HW.out.1; rw [e] at this; simp at this)
    have HCX := Lib.hid hcX
    clear hx hcX
    go_enter Try.func26, Try.ntmps26
    go_wp2_with (first | (go_at_call 23; refine (cam_any _ _ _ _ (HX.out _ (by (repeat' (first | (with_reducible exact Below.refl _ _) | (with_reducible assumption) | (with_reducible refine below_alloc ?_ _) | (with_reducible refine Below.drew ?_) | (with_reducible refine below_drewN ?_ _) | (with_reducible refine below_step (by assumption) ?_) | (with_reducible refine below_later ?_ _) | (with_reducible refine Below.setCell ?_ ?_ _) | go_size))))).mono ?_; rintro e hb1w ⟨rfl, hb1⟩; obtain ⟨hb1c, hb1f⟩ := bcell hb1; have hb1s := hb1.size; (try simp only [World.size_alloc] at hb1s); (try (have : w.heap.size < hb1w.heap.size := by omega)); (try (have : w.heap.size + 1 < hb1w.heap.size := by omega)); (try (have : w.heap.size + 1 + 1 < hb1w.heap.size := by omega)); (try (have : w.heap.size + 1 + 1 + 1 < hb1w.heap.size := by omega)); (try (have : bX < hb1w.heap.size := by omega)); (try (have : bY < hb1w.heap.size := by omega)); (try (have : bZ < hb1w.heap.size := by omega))) | (go_at_call 39; refine (collect_any 41 #[.pointer (some ⟨w.heap.size, 0, none⟩)] (cnxt xs) a b _ (enters_of Try.func41 (by kernel_rfl) rfl) ?hf ?hm).mono ?_))
    case hf =>
      intro a0 b0 e p p1 p2
      have hes := e.h.size
      have hbw : Below (w.heap.size + 1) (w.alloc (.cells #[.slice (some ⟨bX, off, none⟩) xs.length cap] 38)) e.w := by
        have hb1s := hb1.mono (B' := w.heap.size + 1) (by simp)
        exact hb1s.trans (e.h.mono (by omega))
      exact camCl_any w.heap.size bX off cap xs p e.w HW.out (by omega) (by omega) (by omega) (by rw [hbw.cell (p := ⟨w.heap.size, 0, none⟩) (Nat.lt_succ_self _)]; simp [go_sem]) (by omega)
        (fun i hi => by
          rw [hbw.cell (p := ⟨bX, off + i, none⟩) (by show bX < _; omega)]
          rw [← HCX.out i hi]
          exact (show Below w.heap.size w (w.alloc (.cells #[.slice (some ⟨bX, off, none⟩) xs.length cap] 38)) by (repeat' (first | (with_reducible exact Below.refl _ _) | (with_reducible assumption) | (with_reducible refine below_alloc ?_ _) | (with_reducible refine Below.drew ?_) | (with_reducible refine below_drewN ?_ _) | (with_reducible refine below_step (by assumption) ?_) | (with_reducible refine below_later ?_ _) | (with_reducible refine Below.setCell ?_ ?_ _) | go_size))).cell (p := ⟨bX, off + i, none⟩) hbX)
    case hm =>
      intro a0 b0 p p1 p2
      have := cnxt_bd HW.out (p := p) (by omega)
      omega
    rintro e hb2w ⟨r2, c2, rfl, hI2, hb2⟩
    go_wp2
    go_ret2
    rw [H.out]
    exact ⟨r2, c2, rfl, hI2, by (repeat' (first | (with_reducible exact Below.refl _ _) | (with_reducible assumption) | (with_reducible refine below_alloc ?_ _) | (with_reducible refine Below.drew ?_) | (with_reducible refine below_drewN ?_ _) | (with_reducible refine below_step (by assumption) ?_) | (with_reducible refine below_later ?_ _) | (with_reducible refine Below.setCell ?_ ?_ _) | go_size))⟩

set_option maxHeartbeats 2000000 in
theorem rcambetween_any (r : Option Addr) (cap : Nat) (xs : List Int) (a b : Int) (w : World) (hx : IsInts w r cap .i64 xs) (hok : CamOk xs) (a0 : 0 ≤ a) (hab : a ≤ b) (b0 : b ≤ 1099511627776) :
    Calls Try.prog 32 #[.agg #[.slice r xs.length cap], .int .i64 a, .int .i64 b] w fun e w' => ∃ r cap, e = .returned (.tuple #[.slice r (rcolV (cnxt xs) a b).1.length cap, .bool (rcolV (cnxt xs) a b).2]) ∧ IsInts w' r cap .i64 (rcolV (cnxt xs) a b).1 ∧ Below w.heap.size w w' := by
  have HOK := Lib.hid hok
  have hl1 := hok.1
  have hl8 := hok.2.1
  obtain ⟨bX, off, rfl, hbX, hcX⟩ := hx.cells (fun e => by rw [e] at hl1; simp at hl1)
  have HC := Lib.hid hcX
  have HB := Lib.hid (fun t => @cam_bd xs hok t)
  have HE := Lib.hid (fun t i => @camE_lt xs t i)
  have HST : Hid (collL (cnxt xs) a b = [] ++ iterL (cnxt xs) b (1001 - 0) (camQ xs a (a / 46080) 0)) := Lib.hid (by rw [camQ_start hok]; rfl)
  generalize hn : xs.length = n at *
  have HL := Lib.hid hn
  clear hn hx hok hcX
  generalize ht0 : a / 46080 = t0 at *
  have t1 : 0 ≤ t0 := by omega
  have t2 : t0 * 46080 ≤ b := by omega
  have t3 : t0 * 46080 ≤ a := by omega
  generalize hw0 : w.alloc (.cells #[.slice (some ⟨bX, off, none⟩) n cap] 38) = w0
  have hw0s : w0.heap.size = w.heap.size + 1 := by rw [← hw0]; simp
  have hbw0 : Below w.heap.size w w0 := by rw [← hw0]; (repeat' (first | (with_reducible exact Below.refl _ _) | (with_reducible assumption) | (with_reducible refine below_alloc ?_ _) | (with_reducible refine Below.drew ?_) | (with_reducible refine below_drewN ?_ _) | (with_reducible refine below_step (by assumption) ?_) | (with_reducible refine below_later ?_ _) | (with_reducible refine Below.setCell ?_ ?_ _) | go_size))
  have hcell0 : w0.cell? ⟨w.heap.size, 0, none⟩ = some (.slice (some ⟨bX, off, none⟩) n cap) := by rw [← hw0]; simp [go_sem]
  go_enter Try.func32, Try.ntmps32
  go_wp2
  try rw [hw0]
  have HT0 := Lib.hid ht0
  clear hw0 ht0
  go_loopg [8, 9] (b / 46080 + 1 - t0).toNat (fun kx s8 s9 wr => ∃ (r : Option Addr) (cp : Nat) (out : List Int) (t : Int) (e : Later w0), s8 = .slice r out.length cp ∧ s9 = .int .i64 t ∧ out.length ≤ 1000 ∧ 0 ≤ t ∧ t ≤ b / 46080 + 1 ∧ (b / 46080 + 1 - t).toNat ≤ kx ∧ wr = e.w ∧ Hid (OwnI e.w w0.heap.size r cp out) ∧ Hid (∀ x ∈ out, 0 ≤ x ∧ x ≤ 1099511627776) ∧ Hid (collL (cnxt xs) a b = out ++ iterL (cnxt xs) b (1001 - out.length) (camQ xs a t 0)))
  case atStart => exact ⟨none, 0, [], t0, ⟨w0, Below.refl _ _⟩, rfl, by rw [HT0.out], by simp, t1, by omega, by omega, rfl, Lib.hid (OwnI.nil _ _), Lib.hid (by simp), HST⟩
  case round =>
    obtain ⟨r, cp, out, t, e, rfl, rfl, hl, ht1, ht2, hkx, rfl, HO, HW, HQ⟩ := hrel
    have hes := e.h.size
    by_cases htb : t * 46080 ≤ b
    · go_wp2
      go_loopg [8, 10] n (fun ky s8 s10 wr => ∃ (r : Option Addr) (cp : Nat) (out : List Int) (i : Nat) (e : Later w0), s8 = .slice r out.length cp ∧ s10 = .int .i64 i ∧ out.length ≤ 1000 ∧ i ≤ n ∧ n - i ≤ ky ∧ wr = e.w ∧ Hid (OwnI e.w w0.heap.size r cp out) ∧ Hid (∀ x ∈ out, 0 ≤ x ∧ x ≤ 1099511627776) ∧ Hid (collL (cnxt xs) a b = out ++ iterL (cnxt xs) b (1001 - out.length) (camQ xs a t i)))
      case atStart => exact ⟨r, cp, out, 0, e, rfl, rfl, hl, by omega, by omega, rfl, HO, HW, HQ⟩
      case round =>
        clear HO HW HQ hl hes
        clear e r cp out
        obtain ⟨r, cp, out, i, e, rfl, rfl, hl, hi, hky, rfl, HO, HW, HQ⟩ := hrel
        have hes := e.h.size
        have hbo : w.heap.size < e.w.heap.size := by omega
        have hcl : e.w.cell? ⟨w.heap.size, 0, none⟩ = some (.slice (some ⟨bX, off, none⟩) n cap) := by rw [e.h.cell (p := ⟨w.heap.size, 0, none⟩) (by show w.heap.size < _; omega)]; exact hcell0
        by_cases hin : i < n
        · have hc1 : e.w.cell? ⟨bX, off + i, none⟩ = some (.int .i64 (xs.getD i 0)) := by
            rw [e.h.cell (p := ⟨bX, off + i, none⟩) (by show bX < _; omega), hbw0.cell (p := ⟨bX, off + i, none⟩) hbX]
            exact HC.out i hin
          have ⟨b1, b2⟩ := HB.out i hin
          have hE := HE.out t i (by have := HL.out; omega)
          have hi1 : (0 : Int) ≤ (i : Int) := by omega
          have hi2 : (i : Int) < n := by omega
          have HI : Hid (i < xs.length) := Lib.hid (by have := HL.out; omega)
          generalize xs.getD i 0 = x at hc1 b1 b2 hE
          by_cases hpa : a < t * 46080 + x
          · by_cases hpb : t * 46080 + x ≤ b
            · by_cases hfull : out.length = 1000
              · have hfull2 : (out.length : Int) = 1000 := by omega
                have HVV := Lib.hid (camI_full (by rw [hE]; exact hpa) (by rw [hE]; exact hpb) hfull HQ.out)
                clear hfull hE
                go_wp2
                go_ret2
                rw [HVV.out]
                exact ⟨none, 0, rfl, (OwnI.nil e.w w.heap.size).ints (by simp), by (repeat' (first | (with_reducible exact Below.refl _ _) | (with_reducible assumption) | (with_reducible refine below_alloc ?_ _) | (with_reducible refine Below.drew ?_) | (with_reducible refine below_drewN ?_ _) | (with_reducible refine below_step (by assumption) ?_) | (with_reducible refine below_later ?_ _) | (with_reducible refine Below.setCell ?_ ?_ _) | go_size))⟩
              · have hfull2 : ¬ (out.length : Int) = 1000 := by omega
                have hin2 := camI_in HOK.out HI.out (by rw [hE]; exact hpa) (by rw [hE]; exact hpb) (by omega) HQ.out
                rw [hE] at hin2
                have HQ2 := Lib.hid hin2
                have HE2 : Hid (∀ y ∈ out ++ [t * 46080 + x], 0 ≤ y ∧ y ≤ 1099511627776) := Lib.hid (fun y hy => by
                  rcases List.mem_append.1 hy with hy | hy
                  · exact HW.out y hy
                  · simp at hy; omega)
                clear hfull hin2 hE
                go_wp2_with (at_builtin; refine wpList_append_int (by rfl) _ _ (by rfl) e.w w0.heap.size r cp out (t * 46080 + x) (by rfl) (by rfl) (by rfl) HO.out (by omega) (by omega) ?_; intro r' cap' w1 hown1 hbw1)
                go_roundg (n - (i + 1))
                case measure => omega
                case rel => exact ⟨r', cap', out ++ [t * 46080 + x], i + 1, ⟨w1, e.h.trans hbw1⟩, by simp, by go_num, by simp; omega, by omega, by omega, rfl, Lib.hid hown1, HE2, HQ2⟩
            · have HQ2 := Lib.hid (camI_out HOK.out HI.out (by rw [hE]; exact hpa) (by rw [hE]; exact hpb) HQ.out)
              clear hE
              go_wp2
              go_roundg (n - (i + 1))
              case measure => omega
              case rel => exact ⟨r, cp, out, i + 1, e, rfl, by go_num, hl, by omega, by omega, rfl, HO, HW, HQ2⟩
          · have HQ2 := Lib.hid (camI_skip HOK.out HI.out (by rw [hE]; exact hpa) HQ.out)
            clear hE
            go_wp2
            go_roundg (n - (i + 1))
            case measure => omega
            case rel => exact ⟨r, cp, out, i + 1, e, rfl, by go_num, hl, by omega, by omega, rfl, HO, HW, HQ2⟩
        · obtain rfl : i = n := by omega
          have HQ2 : Hid (collL (cnxt xs) a b = out ++ iterL (cnxt xs) b (1001 - out.length) (camQ xs a (t + 1) 0)) := Lib.hid (by
            rw [← camQ_turn HOK.out, HL.out]
            exact HQ.out)
          go_wp2
          go_roundg (b / 46080 + 1 - (t + 1)).toNat
          case measure => omega
          case rel => exact ⟨r, cp, out, t + 1, e, rfl, by go_num, hl, by omega, by omega, by omega, rfl, HO, HW, HQ2⟩
    · have HVV := Lib.hid (camI_done HOK.out hab (by omega) hl HQ.out)
      go_wp2
      go_ret2
      rw [HVV.out]
      exact ⟨r, cp, rfl, HO.out.ints (fun x hx => by have := HW.out x hx; exact WalkArith.wf_i64 (by omega)), by (repeat' (first | (with_reducible exact Below.refl _ _) | (with_reducible assumption) | (with_reducible refine below_alloc ?_ _) | (with_reducible refine Below.drew ?_) | (with_reducible refine below_drewN ?_ _) | (with_reducible refine below_step (by assumption) ?_) | (with_reducible refine below_later ?_ _) | (with_reducible refine Below.setCell ?_ ?_ _) | go_size))⟩
end Go.Proofs.Ytjkdekblenlflaa
