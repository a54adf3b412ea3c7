/- Phases over ideal positions, in plain terms: after the second turn the half is right; a lost edge is noticed at the next turn, and forgotten. -/
import Derived.Test.YtoninaidinnbgaaPhaseP
import Derived.Test.YtoninaidinnbgaaCamB
namespace Go.Proofs.Ytoninaidinnbgaa
set_option linter.unusedVariables false
set_option linter.unusedSimpArgs false

/-! ## Runs over blocks of edges -/
def turnsFrom (t : Nat) : Nat → List Int
  | 0 => []
  | k + 1 => (((t + 1 : Nat) : Int) * 23040) :: turnsFrom (t + 1) k
def Blks (t : Nat) : List (List Int) → Prop
  | [] => True
  | b :: bs => (∀ x ∈ b, (t : Int) * 23040 < x ∧ x < ((t : Int) + 1) * 23040) ∧ Blks (t + 1) bs
def phN : Nat → Ph → Ph
  | 0, p => p
  | n + 1, p => phN n p.edge
def phCnt (a b : Int) : Ph → List Nat → List Ph
  | _, [] => []
  | p, c :: cs => (phN c p).turn a b :: phCnt a b ((phN c p).turn a b) cs
theorem phEdges_app (t : Int) : ∀ (b r : List Int) (p : Ph), (∀ x ∈ b, x ≤ t) → (∀ x ∈ r, t < x) → phEdges t p (b ++ r) = (phN b.length p, r)
  | [], [], p, _, _ => rfl
  | [], x :: xs, p, _, h => by
    have := h x (by simp)
    simp [phEdges, phN, show ¬ x ≤ t by omega]
  | x :: xs, r, p, h1, h2 => by
    have := h1 x (by simp)
    rw [List.cons_append, phEdges, if_pos this, phEdges_app t xs r p.edge (fun y hy => h1 y (by simp [hy])) h2]
    rfl
theorem blks_gt : ∀ (bs : List (List Int)) (t : Nat), Blks t bs → ∀ x ∈ bs.flatten, (t : Int) * 23040 < x
  | [], _, _, x, hx => by simp at hx
  | b :: bs, t, h, x, hx => by
    rw [List.flatten_cons, List.mem_append] at hx
    rcases hx with hx | hx
    · exact (h.1 x hx).1
    · have := blks_gt bs (t + 1) h.2 x hx
      omega
theorem phRun_blks (a b : Int) : ∀ (bs : List (List Int)) (t : Nat) (p : Ph) (tail : List Int), Blks t bs → (∀ x ∈ tail, ((t : Int) + bs.length) * 23040 < x) →
    phRun a b p (turnsFrom t bs.length) (bs.flatten ++ tail) = phCnt a b p (bs.map List.length)
  | [], t, p, tail, _, _ => rfl
  | c :: bs, t, p, tail, h, ht => by
    rw [List.length_cons, turnsFrom, phRun, List.flatten_cons, List.append_assoc, phEdges_app _ c _ p ?_ ?_]
    · simp only [List.map_cons, phCnt, List.cons.injEq, true_and]
      refine phRun_blks a b bs (t + 1) _ tail h.2 (fun x hx => ?_)
      have := ht x hx
      rw [List.length_cons] at this
      have e : ((t : Int) + ((bs.length + 1 : Nat) : Int)) = (((t + 1 : Nat) : Int) + (bs.length : Int)) := by omega
      rw [e] at this
      exact this
    · intro x hx
      have := (h.1 x hx).2
      omega
    · intro x hx
      rw [List.mem_append] at hx
      rcases hx with hx | hx
      · exact blks_gt bs (t + 1) h.2 x hx
      · have := ht x hx
        rw [List.length_cons] at this
        have e : ((t : Int) + ((bs.length + 1 : Nat) : Int)) = (((t + 1 : Nat) : Int) + (bs.length : Int)) := by omega
        rw [e] at this
        have h0 : (0 : Int) ≤ (bs.length : Int) := by omega
        generalize (bs.length : Int) = q at *
        generalize (((t + 1 : Nat)) : Int) = z at *
        have : z * 23040 ≤ (z + q) * 23040 := by omega
        omega
theorem blks_erase : ∀ (bs : List (List Int)) (t k : Nat), Blks t bs → k < bs.flatten.length → ∃ g j x, ∃ (hg : g < bs.length), (bs[g])[j]? = some x ∧ bs.flatten[k]? = some x ∧ bs.flatten.eraseIdx k = (bs.set g ((bs[g]).eraseIdx j)).flatten ∧ ((t : Int) + g) * 23040 < x ∧ x < ((t : Int) + g + 1) * 23040
  | [], t, k, _, h => by simp at h
  | b :: bs, t, k, hb, h => by
    by_cases hk : k < b.length
    · refine ⟨0, k, b[k], by simp, ?_, ?_, ?_, ?_⟩
      · simp [hk]
      · rw [List.flatten_cons, List.getElem?_append_left hk]; simp [hk]
      · simp [List.eraseIdx_append_of_lt_length hk]
      · have := hb.1 b[k] (by simp)
        simpa using this
    · rw [List.flatten_cons, List.length_append] at h
      obtain ⟨g, j, x, hg, h1, h2, h3, h4⟩ := blks_erase bs (t + 1) (k - b.length) hb.2 (by omega)
      refine ⟨g + 1, j, x, by simp; omega, by simpa using h1, ?_, ?_, ?_⟩
      · rw [List.flatten_cons, List.getElem?_append_right (by omega)]; exact h2
      · rw [List.flatten_cons, List.eraseIdx_append_of_length_le (by omega), h3]; simp
      · have e : (((t + 1 : Nat) : Int) + (g : Int)) = ((t : Int) + ((g + 1 : Nat) : Int)) := by omega
        rw [e] at h4
        exact h4

/-! ## Counts -/
theorem phN_zero : ∀ n, phN n phZero = phZero
  | 0 => rfl
  | n + 1 => phN_zero n
theorem phN_seen : ∀ (n : Nat) (k : Bool) (h c : Int), 0 ≤ c → c + n ≤ 16 → phN n ⟨k, h, c, true⟩ = ⟨k, h, c + n, true⟩
  | 0, k, h, c, _, _ => by simp [phN]
  | n + 1, k, h, c, h0, h1 => by
    have e : (Ph.mk k h c true).edge = ⟨k, h, c + 1, true⟩ := by
      simp only [Ph.edge, if_true, Ph.mk.injEq, true_and, and_true]
      omega
    rw [phN, e, phN_seen n k h (c + 1) (by omega) (by omega)]
    simp only [Ph.mk.injEq, true_and, and_true]
    omega
/-- How many edges a revolution has. -/
def ecI (a b : Int) (t : Nat) : Int := if t % 2 = 0 then a else b
/-- What is known at the turn i, if the edges of the revolution that ends at the turn d are not all there. -/
def exP (m d i : Nat) : Ph := if i = 0 ∨ i = d then ⟨false, 0, 0, true⟩ else ⟨true, ((m + 1 + i) % 2 : Nat), 0, true⟩
def exL (m k d : Nat) : List Ph := (List.range k).map (exP m d)
theorem exL_len (m k d : Nat) : (exL m k d).length = k := by simp [exL]
theorem turn_right {a b : Int} (hab : a ≠ b) (ha : 0 ≤ a ∧ a ≤ 8) (hb : 0 ≤ b ∧ b ≤ 8) (t n : Nat) (hn : (n : Int) = ecI a b t) (p : Ph) (hp : p = ⟨false, 0, 0, true⟩ ∨ p = ⟨true, (t % 2 : Nat), 0, true⟩) : (phN n p).turn a b = ⟨true, ((t + 1) % 2 : Nat), 0, true⟩ := by
  have hn8 : n ≤ 8 := by unfold ecI at hn; split at hn <;> omega
  rcases Nat.mod_two_eq_zero_or_one t with h2 | h2
  · have h3 : (t + 1) % 2 = 1 := by omega
    have hna : (n : Int) = a := by unfold ecI at hn; rw [if_pos h2] at hn; exact hn
    rcases hp with rfl | rfl
    · rw [phN_seen n _ _ 0 (by omega) (by omega), h3]
      simp [Ph.turn, hna]
    · rw [phN_seen n _ _ 0 (by omega) (by omega), h3, h2]
      simp [Ph.turn, hna]
  · have h3 : (t + 1) % 2 = 0 := by omega
    have hnb : (n : Int) = b := by unfold ecI at hn; rw [if_neg (by omega)] at hn; exact hn
    have hba : ¬ b = a := fun h => hab h.symm
    rcases hp with rfl | rfl
    · rw [phN_seen n _ _ 0 (by omega) (by omega), h3]
      simp [Ph.turn, hnb, hba]
    · rw [phN_seen n _ _ 0 (by omega) (by omega), h3, h2]
      simp [Ph.turn, hnb, hba]
theorem turn_lost {a b : Int} (hab : ¬ (a - b < 2 ∧ b - a < 2)) (ha : 0 ≤ a ∧ a ≤ 8) (hb : 0 ≤ b ∧ b ≤ 8) (t n : Nat) (hn : (n : Int) + 1 = ecI a b t) (p : Ph) (hp : ∃ k h, p = ⟨k, h, 0, true⟩) : (phN n p).turn a b = ⟨false, 0, 0, true⟩ := by
  have hn8 : n ≤ 8 := by unfold ecI at hn; split at hn <;> omega
  obtain ⟨k, h, rfl⟩ := hp
  rw [phN_seen n _ _ 0 (by omega) (by omega)]
  have h1 : ¬ (n : Int) = a := by unfold ecI at hn; split at hn <;> omega
  have h2 : ¬ (n : Int) = b := by unfold ecI at hn; split at hn <;> omega
  simp [Ph.turn, h1, h2]
theorem exP_seen (m d i : Nat) : ∃ k h, exP m d i = ⟨k, h, 0, true⟩ := by
  unfold exP
  split
  · exact ⟨_, _, rfl⟩
  · exact ⟨_, _, rfl⟩
/-- The turns from the one of number i on. -/
theorem cnt_from {a b : Int} (hab : a ≠ b) (ha : 0 ≤ a ∧ a ≤ 8) (hb : 0 ≤ b ∧ b ≤ 8) (m d : Nat) (hd : ¬ (a - b < 2 ∧ b - a < 2) ∨ d = 0) : ∀ (cs : List Nat) (i : Nat), (∀ j (hj : j < cs.length), (cs[j] : Int) + (if i + 1 + j = d then 1 else 0) = ecI a b (m + 1 + i + j)) →
    phCnt a b (exP m d i) cs = (List.range cs.length).map (fun j => exP m d (i + 1 + j))
  | [], i, _ => rfl
  | c :: cs, i, h => by
    have h0 := h 0 (by simp)
    simp only [List.getElem_cons_zero, Nat.add_zero] at h0
    have e : (phN c (exP m d i)).turn a b = exP m d (i + 1) := by
      by_cases hi : i + 1 = d
      · rw [if_pos hi] at h0
        rw [turn_lost (hd.resolve_right (by omega)) ha hb _ c h0 _ (exP_seen m d i)]
        simp [exP, hi]
      · rw [if_neg hi, Int.add_zero] at h0
        rw [turn_right hab ha hb (m + 1 + i) c h0]
        · simp only [exP, hi, or_false, Nat.succ_ne_zero, if_false, Nat.add_eq_zero_iff, and_false, Nat.one_ne_zero]
          rw [Nat.add_assoc (m + 1) i 1]
        · unfold exP
          split
          · exact Or.inl rfl
          · exact Or.inr rfl
    have ih := cnt_from hab ha hb m d hd cs (i + 1) (fun j hj => by
      have := h (j + 1) (by simp; omega)
      simp only [List.getElem_cons_succ] at this
      rw [show i + 1 + (j + 1) = i + 1 + 1 + j by omega, show m + 1 + i + (j + 1) = m + 1 + (i + 1) + j by omega] at this
      exact this)
    rw [phCnt, e, ih, List.length_cons, List.range_succ_eq_map, List.map_cons, List.map_map]
    simp only [Nat.add_zero, List.cons.injEq, true_and]
    apply List.map_congr_left
    intro j _
    simp only [Function.comp, Nat.succ_eq_add_one]
    rw [show i + 1 + 1 + j = i + 1 + (j + 1) by omega]
theorem cnt_all {a b : Int} (hab : a ≠ b) (ha : 0 ≤ a ∧ a ≤ 8) (hb : 0 ≤ b ∧ b ≤ 8) (m d : Nat) (hd : ¬ (a - b < 2 ∧ b - a < 2) ∨ d = 0) (cs : List Nat) (h : ∀ j (hj : j < cs.length), 0 < j → (cs[j] : Int) + (if j = d then 1 else 0) = ecI a b (m + j)) :
    phCnt a b phZero cs = exL m cs.length d := by
  cases cs with
  | nil => rfl
  | cons c cs =>
    have e : (phN c phZero).turn a b = exP m d 0 := by
      rw [phN_zero]
      simp [Ph.turn, phZero, exP]
    rw [phCnt, e, cnt_from hab ha hb m d hd cs 0 (fun j hj => by
      have := h (j + 1) (by simp; omega) (by omega)
      simp only [List.getElem_cons_succ] at this
      rw [show 0 + 1 + j = j + 1 by omega, show m + 1 + 0 + j = m + (j + 1) by omega]
      exact this)]
    rw [exL, List.length_cons, List.range_succ_eq_map, List.map_cons, List.map_map]
    simp only [List.cons.injEq, true_and]
    apply List.map_congr_left
    intro j _
    simp only [Function.comp, Nat.succ_eq_add_one]
    rw [show 0 + 1 + j = j + 1 by omega]
end Go.Proofs.Ytoninaidinnbgaa
