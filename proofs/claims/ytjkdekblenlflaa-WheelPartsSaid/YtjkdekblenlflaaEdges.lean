/- The edges of a wheel, and of a cam, as a numbered list: what the edges between two positions are. No program in sight. -/
import Derived.Test.YtjkdekblenlflaaCamN
namespace Go.Proofs.Ytjkdekblenlflaa
set_option linter.unusedVariables false
set_option linter.unusedSimpArgs false

/-- n angles in a period of P, and the next edge behind a position. -/
structure EdgeSys (n : Nat) (P : Int) (g : Nat → Int) (f : Int → Int) : Prop where
  n1 : 1 ≤ n
  up : ∀ i, i + 1 < n → g i < g (i + 1)
  g0 : 0 ≤ g 0
  gl : ∀ i, i < n → g i < P
  nx : ∀ (t : Int) (i : Nat) (p : Int), i < n → t * P + g i ≤ p → (i + 1 < n → p < t * P + g (i + 1) → f p = t * P + g (i + 1)) ∧ (¬ i + 1 < n → p < t * P + P + g 0 → f p = t * P + P + g 0)

def edg (n : Nat) (P : Int) (g : Nat → Int) (q : Nat) : Int := ((q / n : Nat) : Int) * P - P + g (q % n)
theorem edg_at {n : Nat} {P : Int} {g : Nat → Int} (t i : Nat) (hi : i < n) : edg n P g (t * n + i) = (t : Int) * P - P + g i := by
  unfold edg
  have h1 : (t * n + i) / n = t := by
    rw [Nat.add_comm, Nat.add_mul_div_right _ _ (by omega), Nat.div_eq_of_lt hi, Nat.zero_add]
  have h2 : (t * n + i) % n = i := by
    rw [Nat.add_comm, Nat.add_mul_mod_self_right, Nat.mod_eq_of_lt hi]
  rw [h1, h2]
section
variable {n : Nat} {P : Int} {g : Nat → Int} {f : Int → Int}
theorem EdgeSys.split (h : EdgeSys n P g f) (q : Nat) : ∃ t i, i < n ∧ q = t * n + i := by
  have := h.n1
  exact ⟨q / n, q % n, Nat.mod_lt _ (by omega), by rw [Nat.mul_comm]; exact (Nat.div_add_mod q n).symm⟩
theorem EdgeSys.succ (h : EdgeSys n P g f) {t i : Nat} (hi : i < n) : edg n P g (t * n + i + 1) = if i + 1 < n then (t : Int) * P - P + g (i + 1) else (t : Int) * P + g 0 := by
  have := h.n1
  split
  · rename_i h1
    rw [Nat.add_assoc, edg_at t (i + 1) h1]
  · rename_i h1
    have e : t * n + i + 1 = (t + 1) * n + 0 := by rw [Nat.succ_mul]; omega
    rw [e, edg_at (t + 1) 0 (by omega)]
    have : ((t + 1 : Nat) : Int) * P = (t : Int) * P + P := by rw [Int.natCast_succ, Int.add_mul, Int.one_mul]
    omega
theorem EdgeSys.lt (h : EdgeSys n P g f) (q : Nat) : edg n P g q < edg n P g (q + 1) := by
  obtain ⟨t, i, hi, rfl⟩ := h.split q
  rw [h.succ hi, edg_at t i hi]
  have := h.gl i hi
  have := h.g0
  split
  · rename_i h1
    have := h.up i h1
    omega
  · omega
theorem EdgeSys.mono (h : EdgeSys n P g f) {q r : Nat} (hq : q ≤ r) : edg n P g q ≤ edg n P g r := by
  induction r with
  | zero => obtain rfl : q = 0 := by omega
            exact Int.le_refl _
  | succ r ih =>
    by_cases e : q = r + 1
    · subst e; exact Int.le_refl _
    · have := ih (by omega)
      have := h.lt r
      omega
theorem EdgeSys.per (h : EdgeSys n P g f) (q : Nat) : edg n P g (q + n) = edg n P g q + P := by
  have := h.n1
  unfold edg
  rw [Nat.add_div_right _ (by omega), Nat.add_mod_right]
  have : ((q / n + 1 : Nat) : Int) * P = ((q / n : Nat) : Int) * P + P := by rw [Int.natCast_succ, Int.add_mul, Int.one_mul]
  show ((q / n + 1 : Nat) : Int) * P - P + g (q % n) = _
  omega
theorem EdgeSys.next (h : EdgeSys n P g f) {q : Nat} {p : Int} (h1 : edg n P g q ≤ p) (h2 : p < edg n P g (q + 1)) : f p = edg n P g (q + 1) := by
  obtain ⟨t, i, hi, rfl⟩ := h.split q
  rw [h.succ hi] at h2 ⊢
  rw [edg_at t i hi] at h1
  have e : ((t : Int) - 1) * P = (t : Int) * P - P := by rw [Int.sub_mul, Int.one_mul]
  have hn := h.nx ((t : Int) - 1) i p hi (by rw [e]; exact h1)
  rw [e] at hn
  split at h2
  · rename_i hc
    rw [if_pos hc]
    exact hn.1 hc h2
  · rename_i hc
    rw [if_neg hc]
    rw [hn.2 hc (by omega)]
    omega
theorem EdgeSys.find (h : EdgeSys n P g f) {p : Int} (h0 : edg n P g 0 ≤ p) : ∀ N, p < edg n P g N → ∃ j, edg n P g j ≤ p ∧ p < edg n P g (j + 1)
  | 0, hp => by omega
  | N + 1, hp => by
    by_cases hc : p < edg n P g N
    · exact h.find h0 N hc
    · exact ⟨N, by omega, hp⟩
theorem EdgeSys.some (h : EdgeSys n P g f) {p : Int} (h0 : 0 ≤ p) : ∃ j, edg n P g j ≤ p ∧ p < edg n P g (j + 1) := by
  have h1 := h.n1
  have h2 := h.gl 0 (by omega)
  have h3 := h.g0
  refine h.find ?_ (((p / P).toNat + 2) * n) ?_
  · have := edg_at (n := n) (P := P) (g := g) 0 0 (by omega)
    simp only [Nat.zero_mul, Nat.zero_add, Int.natCast_zero, Int.zero_mul] at this
    omega
  · have := edg_at (n := n) (P := P) (g := g) ((p / P).toNat + 2) 0 (by omega)
    rw [Nat.add_zero] at this
    rw [this]
    have hq : 0 ≤ p / P := Int.ediv_nonneg h0 (by omega)
    have e : (((p / P).toNat + 2 : Nat) : Int) * P = p / P * P + 2 * P := by
      rw [Int.natCast_add, Int.toNat_of_nonneg hq, Int.add_mul]
      rfl
    have := Int.lt_ediv_add_one_mul_self p (show 0 < P by omega)
    rw [Int.add_mul, Int.one_mul] at this
    omega
theorem EdgeSys.iter (h : EdgeSys n P g f) {b : Int} : ∀ (m k q : Nat), m ≤ k → b < edg n P g (q + m) → (∀ i, i < m → edg n P g (q + i) ≤ b) → iterL f b k (edg n P g q) = (List.range m).map fun i => edg n P g (q + i)
  | 0, k, q, _, h1, _ => by
    rw [iterL_out (by simpa using h1)]
    rfl
  | m + 1, k, q, hk, h1, h2 => by
    obtain ⟨k, rfl⟩ : ∃ k', k = k' + 1 := ⟨k - 1, by omega⟩
    have h0 := h2 0 (by omega)
    rw [Nat.add_zero] at h0
    rw [iterL_in h0, h.next (Int.le_refl _) (h.lt q), h.iter m k (q + 1) (by omega) (by rw [show q + 1 + m = q + (m + 1) by omega]; exact h1) (fun i hi => by rw [show q + 1 + i = q + (i + 1) by omega]; exact h2 (i + 1) (by omega)), List.range_succ_eq_map]
    simp only [List.map_cons, List.map_map, Nat.add_zero, List.cons.injEq, true_and]
    refine List.map_congr_left fun i _ => ?_
    simp only [Function.comp]
    rw [show q + 1 + i = q + (i + 1) by omega]
/-- The edges between two positions. -/
theorem EdgeSys.coll (h : EdgeSys n P g f) {a b : Int} {j m : Nat} (h1 : edg n P g j ≤ a) (h2 : a < edg n P g (j + 1)) (h3 : edg n P g (j + m) ≤ b) (h4 : b < edg n P g (j + m + 1)) (hm : m ≤ 1001) :
    collL f a b = (List.range m).map fun i => edg n P g (j + 1 + i) := by
  unfold collL
  rw [h.next h1 h2]
  exact h.iter m 1001 (j + 1) hm (by rw [show j + 1 + m = j + m + 1 by omega]; exact h4) (fun i hi => by
    have := h.mono (show j + 1 + i ≤ j + m by omega)
    omega)
theorem EdgeSys.two (h : EdgeSys n P g f) {a b : Int} {j : Nat} (h1 : edg n P g j ≤ a) (a0 : 0 ≤ a) (hab : a ≤ b) : ∃ m, edg n P g (j + m) ≤ b ∧ b < edg n P g (j + m + 1) := by
  obtain ⟨j2, k1, k2⟩ := h.some (p := b) (by omega)
  have : j ≤ j2 := by
    rcases Nat.lt_or_ge j2 j with hc | hc
    · have := h.mono (show j2 + 1 ≤ j by omega)
      omega
    · exact hc
  exact ⟨j2 - j, by rw [show j + (j2 - j) = j2 by omega]; exact ⟨k1, k2⟩⟩
theorem EdgeSys.small (h : EdgeSys n P g f) {a b : Int} {j m : Nat} (h2 : a < edg n P g (j + 1)) (h3 : edg n P g (j + m) ≤ b) (k : Nat) (hb : b ≤ a + k * P) : m ≤ k * n := by
  have hk : ∀ k : Nat, edg n P g (j + 1 + k * n) = edg n P g (j + 1) + k * P := fun k => by
    induction k with
    | zero => simp
    | succ k ih =>
      rw [show j + 1 + (k + 1) * n = j + 1 + k * n + n by rw [Nat.succ_mul]; omega, h.per, ih]
      have : ((k + 1 : Nat) : Int) * P = (k : Int) * P + P := by rw [Int.natCast_succ, Int.add_mul, Int.one_mul]
      omega
  rcases Nat.lt_or_ge (k * n) m with hc | hc
  · have := h.mono (show j + 1 + k * n ≤ j + m by omega)
    have := hk k
    omega
  · exact hc
end

theorem wheel_sys {T M : Int} (h : wheelB T M = true) : EdgeSys (T - M).toNat 23040 (fun i => (i : Int) * spI T) (wnxt T M) := by
  have ⟨s1, s2, s3⟩ := spI_bd h
  obtain ⟨t0, t1, t2, t3, _⟩ := wheelB_true.1 h
  have hw : ∀ p, wnxt T M p = (if T - M ≤ p % 23040 / spI T + 1 then (p - p % 23040 + 23040, 0) else (p - p % 23040 + (p % 23040 / spI T + 1) * spI T, p % 23040 / spI T + 1) : Int × Int).1 := fun _ => rfl
  generalize spI T = s at *
  have hle : ∀ i : Nat, i < (T - M).toNat → ((i : Int) + M) * s ≤ 23040 := fun i hi => by
    rw [← s3]
    exact Int.mul_le_mul_of_nonneg_right (by omega) (by omega)
  have hMs : 192 ≤ M * s := by rcases t0 with rfl | rfl <;> omega
  refine ⟨by omega, fun i hi => ?_, by simp, fun i hi => ?_, fun t i p hi h1 => ⟨fun hc h2 => ?_, fun hc h2 => ?_⟩⟩
  · show (i : Int) * s < ((i + 1 : Nat) : Int) * s
    rw [Int.natCast_succ, Int.add_mul]
    omega
  · show (i : Int) * s < 23040
    have := hle i hi
    rw [Int.add_mul] at this
    omega
  · show wnxt T M p = t * 23040 + ((i + 1 : Nat) : Int) * s
    replace h2 : p < t * 23040 + ((i + 1 : Nat) : Int) * s := h2
    replace h1 : t * 23040 + (i : Int) * s ≤ p := h1
    rw [Int.natCast_succ] at h2 ⊢
    have hl := hle (i + 1) hc
    rw [Int.natCast_succ, Int.add_mul] at hl
    have i0 : 0 ≤ (i : Int) * s := Int.mul_nonneg (by omega) (by omega)
    have hm : p % 23040 = p - t * 23040 := by omega
    have hq : p % 23040 / s = i := by
      apply Int.le_antisymm
      · exact Int.lt_add_one_iff.1 ((Int.ediv_lt_iff_lt_mul (by omega)).2 (by omega))
      · exact (Int.le_ediv_iff_mul_le (by omega)).2 (by omega)
    rw [hw, hq, if_neg (by omega)]
    show p - p % 23040 + ((i : Int) + 1) * s = _
    omega
  · show wnxt T M p = t * 23040 + 23040 + ((0 : Nat) : Int) * s
    replace h2 : p < t * 23040 + 23040 + ((0 : Nat) : Int) * s := h2
    replace h1 : t * 23040 + (i : Int) * s ≤ p := h1
    simp only [Int.natCast_zero, Int.zero_mul, Int.add_zero] at h2 ⊢
    have i0 : 0 ≤ (i : Int) * s := Int.mul_nonneg (by omega) (by omega)
    have hm : p % 23040 = p - t * 23040 := by omega
    have hq : (i : Int) ≤ p % 23040 / s := (Int.le_ediv_iff_mul_le (by omega)).2 (by omega)
    rw [hw, if_pos (by omega)]
    show p - p % 23040 + 23040 = _
    omega
theorem cam_sys {xs : List Int} (h : CamOk xs) : EdgeSys xs.length 46080 (fun i => xs.getD i 0) (cnxt xs) := by
  have hl := h.1
  refine ⟨hl, fun i hi => ?_, ?_, fun i hi => ?_, fun t i p hi h1 => ⟨fun hc h2 => ?_, fun hc h2 => ?_⟩⟩
  · have := h.2.2.2.1 i hi
    show xs.getD i 0 < xs.getD (i + 1) 0
    omega
  · have := cam_bd h (show 0 < xs.length by omega)
    show 0 ≤ xs.getD 0 0
    omega
  · have := cam_bd h hi
    show xs.getD i 0 < 46080
    omega
  · have := cnxt_at h hi (by rw [camE_lt hi]; exact h1) (by rw [camE_lt hc]; exact h2)
    rw [this, camE_lt hc]
  · have := cnxt_at h hi (by rw [camE_lt hi]; exact h1) (by rw [camE_ge hc]; exact h2)
    rw [this, camE_ge hc]
end Go.Proofs.Ytjkdekblenlflaa
