/- The ideal positions of turns and edges, in plain terms, and the phases that follow from them. -/
import Derived.Test.YtoninaidinnbgaaPhaseQ
namespace Go.Proofs.Ytoninaidinnbgaa
set_option linter.unusedVariables false
set_option linter.unusedSimpArgs false

theorem append_congr {a b c d : List Int} (h1 : a = c) (h2 : b = d) : a ++ b = c ++ d := by rw [h1, h2]
theorem asc_pw : ∀ xs : List Int, (∀ t, t + 1 < xs.length → xs.getD t 0 < xs.getD (t + 1) 0) → xs.Pairwise (· < ·)
  | [], _ => List.Pairwise.nil
  | [x], _ => List.pairwise_singleton _ _
  | x :: y :: l, h => by
    have ih := asc_pw (y :: l) (fun t ht => by have := h (t + 1) (by simpa using ht); simpa using this)
    rw [List.pairwise_cons]
    refine ⟨fun z hz => ?_, ih⟩
    have hxy : x < y := by have := h 0 (by simp); simpa using this
    rcases List.mem_cons.1 hz with rfl | hz
    · exact hxy
    · have := (List.pairwise_cons.1 ih).1 z hz
      omega
theorem pw_asc {xs : List Int} (h : xs.Pairwise (· < ·)) (t : Nat) (ht : t + 1 < xs.length) : xs.getD t 0 < xs.getD (t + 1) 0 := by
  have := List.pairwise_iff_getElem.1 h t (t + 1) (by omega) ht (by omega)
  simpa [List.getD, List.getElem?_eq_getElem ht, List.getElem?_eq_getElem (show t < xs.length by omega)] using this
theorem cam_pw {xs : List Int} (h : CamOk xs) : xs.Pairwise (· < ·) := asc_pw xs (fun t ht => by have := h.2.2.2.1 t ht; omega)
theorem cam_edge {xs : List Int} (h : CamOk xs) {x : Int} (hx : x ∈ xs) : EdgeOk x := by
  obtain ⟨i, hi, rfl⟩ := List.getElem_of_mem hx
  have := h.2.2.1 i hi
  simpa [List.getD, List.getElem?_eq_getElem hi] using this
theorem split_lt (c : Int) : ∀ xs : List Int, xs.Pairwise (· < ·) → xs.filter (fun x => decide (x < c)) ++ xs.filter (fun x => !decide (x < c)) = xs
  | [], _ => rfl
  | x :: xs, h => by
    have h2 := List.pairwise_cons.1 h
    by_cases hx : x < c
    · have := split_lt c xs h2.2
      simp only [List.filter_cons, hx, decide_true, if_true, Bool.not_true, List.cons_append]
      simpa using this
    · have e1 : (x :: xs).filter (fun x => decide (x < c)) = [] := by
        rw [List.filter_eq_nil_iff]
        intro y hy
        rcases List.mem_cons.1 hy with rfl | hy
        · simpa using hx
        · have := h2.1 y hy
          simp; omega
      have e2 : (x :: xs).filter (fun x => !decide (x < c)) = x :: xs := by
        rw [List.filter_eq_self]
        intro y hy
        rcases List.mem_cons.1 hy with rfl | hy
        · simpa using hx
        · have := h2.1 y hy
          simp; omega
      rw [e1, e2]; rfl
theorem cntI_take (xs : List Int) : ∀ k, k ≤ xs.length → cntI xs k = ((xs.take k).filter (fun x => decide (x < 23040))).length
  | 0, _ => by simp [cntI]
  | k + 1, h => by
    have hk : k < xs.length := h
    rw [cntI, cntI_take xs k (by omega), List.take_add_one, List.getElem?_eq_getElem hk, List.filter_append, List.length_append]
    have : xs.getD k 0 = xs[k] := by simp [List.getD, List.getElem?_eq_getElem hk]
    rw [this]
    by_cases hx : xs[k] < 23040 <;> simp [hx]
theorem cnt_lo (xs : List Int) : (halfI xs).1 = ((xs.filter (fun x => decide (x < 23040))).length : Nat) := by
  simp [halfI, cntI_take xs xs.length (Nat.le_refl _)]
theorem len_split (c : Int) : ∀ xs : List Int, (xs.filter (fun x => decide (x < c))).length + (xs.filter (fun x => !decide (x < c))).length = xs.length
  | [] => rfl
  | x :: xs => by
    have := len_split c xs
    by_cases hx : x < c
    · simp [hx]; omega
    · simp [hx]; omega
theorem cnt_hi (xs : List Int) : (halfI xs).2 = ((xs.filter (fun x => !decide (x < 23040))).length : Nat) := by
  have h1 := len_split 23040 xs
  have h2 := cnt_lo xs
  have h3 : (halfI xs).2 = (xs.length : Int) - (halfI xs).1 := rfl
  omega

/-- The edges of a revolution. -/
def revE (xs : List Int) (t : Nat) : List Int := (xs.filter (fun x => if t % 2 = 0 then decide (x < 23040) else !decide (x < 23040))).map (fun x => ((t / 2 : Nat) : Int) * 46080 + x)
theorem revE_in {xs : List Int} (h : CamOk xs) (t : Nat) {x : Int} (hx : x ∈ revE xs t) : (t : Int) * 23040 < x ∧ x < ((t : Int) + 1) * 23040 := by
  simp only [revE, List.mem_map, List.mem_filter] at hx
  obtain ⟨y, ⟨hy, hc⟩, rfl⟩ := hx
  obtain ⟨e1, e2, e3, e4⟩ := cam_edge h hy
  rcases Nat.mod_two_eq_zero_or_one t with h2 | h2
  · rw [if_pos h2, decide_eq_true_eq] at hc
    have : (t : Int) = 2 * ((t / 2 : Nat) : Int) := by omega
    omega
  · rw [if_neg (by omega), Bool.not_eq_true', decide_eq_false_iff_not] at hc
    have : (t : Int) = 2 * ((t / 2 : Nat) : Int) + 1 := by omega
    omega
theorem revE_len (xs : List Int) (t : Nat) : ((revE xs t).length : Int) = ecI (halfI xs).1 (halfI xs).2 t := by
  unfold revE ecI
  rw [List.length_map]
  by_cases h : t % 2 = 0
  · simp only [h, if_true]; rw [cnt_lo]
  · simp only [h, if_false]; rw [cnt_hi]
def inR (f t : Int) (p : Int) : Bool := decide (f < p) && decide (p ≤ t)
/-- The edges of a cycle that lie behind f, and not behind t. -/
def cycE (xs : List Int) (f t : Int) (n : Nat) : List Int := (xs.map (fun x => (n : Int) * 46080 + x)).filter (inR f t)
def idE (xs : List Int) (f t : Int) (n0 N : Nat) : List Int := (List.range N).flatMap (fun i => cycE xs f t (n0 + i))
theorem cycE_split {xs : List Int} (h : CamOk xs) (f t : Int) (n : Nat) : cycE xs f t n = (revE xs (2 * n)).filter (inR f t) ++ (revE xs (2 * n + 1)).filter (inR f t) := by
  rw [← List.filter_append]
  unfold cycE revE
  rw [show 2 * n / 2 = n by omega, show (2 * n + 1) / 2 = n by omega, ← List.map_append, show 2 * n % 2 = 0 by omega, show (2 * n + 1) % 2 = 1 by omega]
  simp only [if_true, Nat.one_ne_zero, if_false]
  rw [split_lt 23040 xs (cam_pw h)]
theorem flat_pair {g : Nat → List Int} (n0 : Nat) : ∀ N : Nat, (List.range N).flatMap (fun i => g (2 * (n0 + i)) ++ g (2 * (n0 + i) + 1)) = (List.range (2 * N)).flatMap (fun i => g (2 * n0 + i))
  | 0 => rfl
  | N + 1 => by
    rw [List.range_succ, List.flatMap_append, flat_pair n0 N, show 2 * (N + 1) = 2 * N + 1 + 1 by omega, List.range_succ, List.range_succ]
    simp [List.flatMap_append, show 2 * (n0 + N) = 2 * n0 + 2 * N by omega, Nat.add_assoc]
theorem flat_add (g : Nat → List Int) (a b : Nat) : (List.range (a + b)).flatMap g = (List.range a).flatMap g ++ (List.range b).flatMap (fun i => g (a + i)) := by
  induction b with
  | zero => simp
  | succ b ih => rw [show a + (b + 1) = a + b + 1 by omega, List.range_succ, List.range_succ, List.flatMap_append, ih, List.flatMap_append]; simp
theorem blks_map {g : Nat → List Int} (hg : ∀ t, ∀ x ∈ g t, (t : Int) * 23040 < x ∧ x < ((t : Int) + 1) * 23040) : ∀ (k t : Nat), Blks t ((List.range k).map (fun i => g (t + i)))
  | 0, t => trivial
  | k + 1, t => by
    rw [List.range_succ_eq_map, List.map_cons, List.map_map]
    refine ⟨hg t, ?_⟩
    have := blks_map hg k (t + 1)
    have e : ((fun i => g (t + i)) ∘ Nat.succ) = (fun i => g (t + 1 + i)) := by
      funext i
      simp only [Function.comp, Nat.succ_eq_add_one]
      rw [show t + (i + 1) = t + 1 + i by omega]
    rw [e]
    exact this
theorem turnsFrom_map : ∀ (k t : Nat), turnsFrom t k = (List.range k).map (fun i => ((t + 1 + i : Nat) : Int) * 23040)
  | 0, t => rfl
  | k + 1, t => by
    rw [turnsFrom, turnsFrom_map k (t + 1), List.range_succ_eq_map, List.map_cons, List.map_map]
    simp only [Nat.add_zero, List.cons.injEq, true_and]
    apply List.map_congr_left
    intro i _
    simp only [Function.comp, Nat.succ_eq_add_one]
    rw [show t + 1 + 1 + i = t + 1 + (i + 1) by omega]
theorem turnsFrom_len (t k : Nat) : (turnsFrom t k).length = k := by rw [turnsFrom_map]; simp
theorem turnsFrom_get (t k i : Nat) (h : i < k) : (turnsFrom t k).getD i 0 = ((t + 1 + i : Nat) : Int) * 23040 := by
  rw [turnsFrom_map]; simp [List.getD, h]
theorem turnsFrom_succ (t k : Nat) : turnsFrom t (k + 1) = turnsFrom t k ++ [((t + 1 + k : Nat) : Int) * 23040] := by
  rw [turnsFrom_map, turnsFrom_map, List.range_succ, List.map_append]; rfl
theorem turnsFrom_pw (t k : Nat) : (turnsFrom t k).Pairwise (· < ·) := asc_pw _ (fun i hi => by
  rw [turnsFrom_len] at hi
  rw [turnsFrom_get _ _ _ hi, turnsFrom_get _ _ _ (by omega)]
  omega)

/-- The ideal edges, in blocks of revolutions. -/
theorem id_blocks {xs : List Int} (h : CamOk xs) (F T : Nat) (hFT : F ≤ T) : ∃ (bs : List (List Int)) (tail : List Int), idE xs F T (F / 46080) (T / 46080 - F / 46080 + 1) = bs.flatten ++ tail ∧ bs.length = T / 23040 - F / 23040 ∧ Blks (F / 23040) bs ∧
    (∀ x ∈ tail, ((T / 23040 : Nat) : Int) * 23040 < x) ∧ ∀ j (hj : j < bs.length), 0 < j → (bs[j].length : Int) = ecI (halfI xs).1 (halfI xs).2 (F / 23040 + j) := by
  have hn0 : F / 46080 ≤ T / 46080 := Nat.div_le_div_right hFT
  have hmM : F / 23040 ≤ T / 23040 := Nat.div_le_div_right hFT
  generalize hN : T / 46080 - F / 46080 + 1 = N
  have eG : idE xs F T (F / 46080) N = (List.range (2 * N)).flatMap (fun i => (revE xs (2 * (F / 46080) + i)).filter (inR F T)) := by
    unfold idE
    rw [← flat_pair (g := fun t => (revE xs t).filter (inR F T)) (F / 46080) N]
    congr 1
    funext i
    exact cycE_split h _ _ _
  have hgin : ∀ t, ∀ x ∈ (revE xs t).filter (inR F T), (t : Int) * 23040 < x ∧ x < ((t : Int) + 1) * 23040 := fun t x hx => revE_in h t (List.mem_filter.1 hx).1
  have hsz : 2 * N = (F / 23040 - 2 * (F / 46080)) + ((T / 23040 - F / 23040) + (2 * N - (T / 23040 - 2 * (F / 46080)))) := by omega
  rw [eG, hsz, flat_add, flat_add]
  refine ⟨(List.range (T / 23040 - F / 23040)).map (fun i => (revE xs (F / 23040 + i)).filter (inR F T)), (List.range (2 * N - (T / 23040 - 2 * (F / 46080)))).flatMap (fun i => (revE xs (T / 23040 + i)).filter (inR F T)), ?_, by simp, blks_map hgin _ _, ?_, ?_⟩
  · have e1 : (List.range (F / 23040 - 2 * (F / 46080))).flatMap (fun i => (revE xs (2 * (F / 46080) + i)).filter (inR F T)) = [] := by
      rw [List.flatMap_eq_nil_iff]
      intro i hi
      rw [List.mem_range] at hi
      rw [List.filter_eq_nil_iff]
      intro x hx
      have := revE_in h _ hx
      simp [inR]
      intro h3
      exfalso
      have : ((2 * (F / 46080) + i : Nat) : Int) + 1 ≤ ((F / 23040 : Nat) : Int) := by omega
      omega
    rw [e1, List.nil_append]
    have hp1 : 2 * (F / 46080) ≤ F / 23040 := by omega
    generalize 2 * (F / 46080) = z at *
    generalize F / 23040 = m at *
    generalize T / 23040 = M at *
    refine append_congr ?_ ?_
    · rw [List.flatMap_def]
      refine congrArg List.flatten (List.map_congr_left (fun i _ => ?_))
      rw [show z + (m - z + i) = m + i by omega]
    · refine congrArg (fun g => List.flatMap g _) ?_
      funext i
      rw [show z + (m - z + (M - m + i)) = M + i by omega]
  · intro x hx
    rw [List.mem_flatMap] at hx
    obtain ⟨i, _, hi⟩ := hx
    have := hgin _ x hi
    omega
  · intro j hj h0
    rw [List.length_map, List.length_range] at hj
    rw [← revE_len]
    simp only [List.getElem_map, List.getElem_range]
    rw [List.filter_eq_self.2]
    intro x hx
    have := revE_in h _ hx
    simp only [inR, Bool.and_eq_true, decide_eq_true_eq]
    have h1 : (F : Int) < (((F / 23040 : Nat) : Int) + 1) * 23040 := by omega
    have h2 : ((T / 23040 : Nat) : Int) * 23040 ≤ (T : Int) := by omega
    omega
theorem halfI_bd {xs : List Int} (h : CamOk xs) : (0 ≤ (halfI xs).1 ∧ (halfI xs).1 ≤ 8) ∧ (0 ≤ (halfI xs).2 ∧ (halfI xs).2 ≤ 8) := by
  have h1 := cnt_lo xs
  have h2 := cnt_hi xs
  have h3 := len_split 23040 xs
  have h4 := h.2.1
  omega
/-- THE HALF IS RIGHT. -/
theorem id_right {xs : List Int} (h : CamOk xs) (F T : Nat) (hFT : F ≤ T) :
    phRun (halfI xs).1 (halfI xs).2 phZero (turnsFrom (F / 23040) (T / 23040 - F / 23040)) (idE xs F T (F / 46080) (T / 46080 - F / 46080 + 1)) = exL (F / 23040) (T / 23040 - F / 23040) 0 := by
  obtain ⟨bs, tail, e, hl, hb, ht, hc⟩ := id_blocks h F T hFT
  have hmM : F / 23040 ≤ T / 23040 := Nat.div_le_div_right hFT
  rw [e, ← hl, phRun_blks _ _ bs _ _ tail hb (fun x hx => by
    have h1 := ht x hx
    have : ((F / 23040 : Nat) : Int) + (bs.length : Int) = ((T / 23040 : Nat) : Int) := by omega
    rw [this]; exact h1)]
  rw [cnt_all h.2.2.2.2 (halfI_bd h).1 (halfI_bd h).2 (F / 23040) 0 (Or.inr rfl) _ ?_, List.length_map]
  intro j hj h0
  rw [List.length_map] at hj
  rw [if_neg (by omega), Int.add_zero, List.getElem_map]
  exact hc j hj h0
/-- A LOST EDGE. -/
theorem id_lost {xs : List Int} (h : CamOk xs) (hab : ¬ ((halfI xs).1 - (halfI xs).2 < 2 ∧ (halfI xs).2 - (halfI xs).1 < 2)) (F T : Nat) (hFT : F ≤ T) (q : Nat) (hq : q < (idE xs F T (F / 46080) (T / 46080 - F / 46080 + 1)).length) :
    ∃ d gone, (idE xs F T (F / 46080) (T / 46080 - F / 46080 + 1))[q]? = some gone ∧
    phRun (halfI xs).1 (halfI xs).2 phZero (turnsFrom (F / 23040) (T / 23040 - F / 23040)) ((idE xs F T (F / 46080) (T / 46080 - F / 46080 + 1)).eraseIdx q) = exL (F / 23040) (T / 23040 - F / 23040) d ∧
    (∀ i, i < T / 23040 - F / 23040 → (gone ≤ ((F / 23040 + 1 + i : Nat) : Int) * 23040 ↔ d ≤ i)) ∧ (∀ i, i < T / 23040 - F / 23040 → i = d → ((F / 23040 + 1 + i : Nat) : Int) * 23040 - gone < 23040) := by
  obtain ⟨bs, tail, e, hl, hb, ht, hc⟩ := id_blocks h F T hFT
  have hmM : F / 23040 ≤ T / 23040 := Nat.div_le_div_right hFT
  rw [e] at hq ⊢
  by_cases hqb : q < bs.flatten.length
  · obtain ⟨g, j, x, hg, h1, h2, h3, h4, h5⟩ := blks_erase bs (F / 23040) q hb hqb
    refine ⟨g, x, by rw [List.getElem?_append_left hqb]; exact h2, ?_, fun i hi => by omega, fun i hi he => by omega⟩
    have hjl : j < (bs[g]).length := (List.getElem?_eq_some_iff.1 h1).1
    rw [List.eraseIdx_append_of_lt_length hqb, h3]
    have hl2 : (bs.set g ((bs[g]).eraseIdx j)).length = T / 23040 - F / 23040 := by rw [List.length_set]; exact hl
    have hb2 : Blks (F / 23040) (bs.set g ((bs[g]).eraseIdx j)) := by
      have : ∀ (bs : List (List Int)) (t g : Nat) (c : List Int), Blks t bs → (∀ (hg : g < bs.length), ∀ x ∈ c, x ∈ bs[g]) → Blks t (bs.set g c) := by
        intro bs
        induction bs with
        | nil => intro t g c hb _; exact hb
        | cons b bs ih =>
          intro t g c hb hc
          cases g with
          | zero => exact ⟨fun x hx => hb.1 x (hc (by simp) x hx), hb.2⟩
          | succ g => exact ⟨hb.1, ih (t + 1) g c hb.2 (fun hg x hx => by have := hc (by simp; omega) x hx; simpa using this)⟩
      exact this bs _ g _ hb (fun _ x hx => List.mem_of_mem_eraseIdx hx)
    rw [← hl2, phRun_blks _ _ _ _ _ tail hb2 (fun x hx => by
      have h1 := ht x hx
      have : ((F / 23040 : Nat) : Int) + ((bs.set g ((bs[g]).eraseIdx j)).length : Int) = ((T / 23040 : Nat) : Int) := by omega
      rw [this]; exact h1)]
    rw [cnt_all h.2.2.2.2 (halfI_bd h).1 (halfI_bd h).2 (F / 23040) g (Or.inl hab) _ ?_, List.length_map]
    intro i hi h0
    rw [List.length_map, List.length_set] at hi
    have hci := hc i hi h0
    rw [List.getElem_map, List.getElem_set]
    by_cases hgi : g = i
    · subst hgi
      rw [if_pos rfl, if_pos rfl, List.length_eraseIdx_of_lt hjl]
      omega
    · rw [if_neg hgi, if_neg (fun h => hgi h.symm)]
      omega
  · have hqt : q - bs.flatten.length < tail.length := by rw [List.length_append] at hq; omega
    refine ⟨T / 23040 - F / 23040, tail[q - bs.flatten.length], by rw [List.getElem?_append_right (by omega)]; simp [hqt], ?_, fun i hi => ?_, fun i hi he => by omega⟩
    · rw [List.eraseIdx_append_of_length_le (by omega)]
      rw [← hl, phRun_blks _ _ bs _ _ _ hb (fun x hx => by
        have h1 := ht x (List.mem_of_mem_eraseIdx hx)
        have : ((F / 23040 : Nat) : Int) + (bs.length : Int) = ((T / 23040 : Nat) : Int) := by omega
        rw [this]; exact h1)]
      rw [cnt_all h.2.2.2.2 (halfI_bd h).1 (halfI_bd h).2 (F / 23040) bs.length (Or.inl hab) _ ?_, List.length_map]
      intro j hj h0
      rw [List.length_map] at hj
      rw [if_neg (by omega), Int.add_zero, List.getElem_map]
      exact hc j hj h0
    · have := ht _ (List.getElem_mem hqt)
      constructor
      · intro h6; omega
      · intro h6; omega
/-! ## Order and number of the ideal edges -/
theorem idE_in {xs : List Int} (h : CamOk xs) (f t : Int) (n0 : Nat) {N : Nat} {x : Int} (hx : x ∈ idE xs f t n0 N) : (n0 : Int) * 46080 < x ∧ x < ((n0 + N : Nat) : Int) * 46080 := by
  simp only [idE, List.mem_flatMap, List.mem_range, cycE, List.mem_filter, List.mem_map] at hx
  obtain ⟨i, hi, ⟨y, hy, rfl⟩, _⟩ := hx
  obtain ⟨e1, e2, e3, e4⟩ := cam_edge h hy
  omega
theorem idE_pw {xs : List Int} (h : CamOk xs) (f t : Int) (n0 : Nat) : ∀ N, (idE xs f t n0 N).Pairwise (· < ·)
  | 0 => List.Pairwise.nil
  | N + 1 => by
    have ih := idE_pw h f t n0 N
    unfold idE at ih ⊢
    rw [List.range_succ, List.flatMap_append, List.pairwise_append]
    refine ⟨ih, ?_, fun x hx y hy => ?_⟩
    · simp only [List.flatMap_cons, List.flatMap_nil, List.append_nil]
      refine List.Pairwise.filter _ ?_
      rw [List.pairwise_map]
      exact (cam_pw h).imp (fun {a b} hab => by omega)
    · have h1 := idE_in h f t n0 (N := N) hx
      simp only [List.flatMap_cons, List.flatMap_nil, List.append_nil, cycE, List.mem_filter, List.mem_map] at hy
      obtain ⟨⟨z, hz, rfl⟩, _⟩ := hy
      obtain ⟨e1, e2, e3, e4⟩ := cam_edge h hz
      omega
theorem idE_succ (xs : List Int) (f t : Int) (n0 N : Nat) : idE xs f t n0 (N + 1) = idE xs f t n0 N ++ cycE xs f t (n0 + N) := by
  unfold idE
  rw [List.range_succ, List.flatMap_append]
  simp
theorem cycE_len (xs : List Int) (f t : Int) (n : Nat) : (cycE xs f t n).length ≤ xs.length := by
  unfold cycE
  have := List.length_filter_le (inR f t) (xs.map (fun x => (n : Int) * 46080 + x))
  rwa [List.length_map] at this
theorem idE_len {xs : List Int} (h : xs.length ≤ 8) (f t : Int) (n0 : Nat) : ∀ N, (idE xs f t n0 N).length ≤ 8 * N
  | 0 => by simp [idE]
  | N + 1 => by
    rw [idE_succ, List.length_append]
    have := idE_len h f t n0 N
    have := cycE_len xs f t (n0 + N)
    omega
end Go.Proofs.Ytoninaidinnbgaa
