/- What Between and CamBetween return over a revolution, a cycle, a half, and parts. No program in sight. -/
import Derived.Test.YtjkdekblenlflaaEdges
namespace Go.Proofs.Ytjkdekblenlflaa
set_option linter.unusedVariables false
set_option linter.unusedSimpArgs false

theorem collV_ok {f : Int → Int} {a b : Int} (a0 : 0 ≤ a) (ab : a ≤ b) (b0 : b ≤ 1099511627776) (hl : (collL f a b).length ≤ 1000) : collV f a b = (collL f a b, 0) := by
  unfold collV
  rw [if_pos (by omega), if_pos hl]
theorem rev_wheel {T M p : Int} (h : wheelB T M = true) (p0 : 0 ≤ p) (p1 : p < 549755813888) : ∃ L, betV T M p (p + 23040) = (L, 0) ∧ (L.length : Int) = T - M := by
  have hs := wheel_sys h
  obtain ⟨t0, t1, t2, _⟩ := wheelB_true.1 h
  obtain ⟨j, h1, h2⟩ := hs.some p0
  have h3 := hs.per j
  have h4 := hs.per (j + 1)
  have hc := hs.coll h1 h2 (b := p + 23040) (m := (T - M).toNat) (by omega) (by rw [show j + (T - M).toNat + 1 = j + 1 + (T - M).toNat by omega]; omega) (by omega)
  have hl : (collL (wnxt T M) p (p + 23040)).length = (T - M).toNat := by rw [hc]; simp
  refine ⟨_, by unfold betV; rw [if_pos h]; exact collV_ok p0 (by omega) (by omega) (by omega), by omega⟩
theorem cyc_cam {xs : List Int} {p : Int} (h : CamOk xs) (p0 : 0 ≤ p) (p1 : p < 549755813888) : ∃ L, cbetV xs p (p + 46080) = (L, 0) ∧ L.length = xs.length := by
  have hs := cam_sys h
  have hl8 := h.2.1
  obtain ⟨j, h1, h2⟩ := hs.some p0
  have h3 := hs.per j
  have h4 := hs.per (j + 1)
  have hc := hs.coll h1 h2 (b := p + 46080) (m := xs.length) (by omega) (by rw [show j + xs.length + 1 = j + 1 + xs.length by omega]; omega) (by omega)
  have hl : (collL (cnxt xs) p (p + 46080)).length = xs.length := by rw [hc]; simp
  refine ⟨_, by unfold cbetV; rw [if_pos (camB_true.2 h)]; exact collV_ok p0 (by omega) (by omega) (by omega), hl⟩
theorem cnt_split {xs : List Int} (hs : ∀ a b, a < b → b < xs.length → xs.getD a 0 < xs.getD b 0) : ∀ k, k ≤ xs.length → (∀ i, i < cntI xs k → xs.getD i 0 < 23040) ∧ (∀ i, cntI xs k ≤ i → i < k → 23040 ≤ xs.getD i 0)
  | 0, _ => ⟨fun i hi => absurd hi (Nat.not_lt_zero _), fun i _ hi => absurd hi (Nat.not_lt_zero _)⟩
  | k + 1, hk => by
    obtain ⟨h1, h2⟩ := cnt_split hs k (by omega)
    have hle := cntI_le xs k
    have e : cntI xs (k + 1) = cntI xs k + if xs.getD k 0 < 23040 then 1 else 0 := rfl
    rw [e]
    split
    · rename_i hx
      have hck : cntI xs k = k := by
        rcases Nat.lt_or_ge (cntI xs k) k with hc | hc
        · have := h2 _ (Nat.le_refl _) hc
          have := hs _ k hc (by omega)
          omega
        · omega
      refine ⟨fun i hi => ?_, fun i hi hi2 => by omega⟩
      by_cases hik : i = k
      · subst hik; exact hx
      · exact h1 i (by omega)
    · rename_i hx
      refine ⟨fun i hi => h1 i (by omega), fun i hi hi2 => ?_⟩
      by_cases hik : i = k
      · subst hik; omega
      · exact h2 i (by omega) (by omega)
theorem halves_cam {xs : List Int} {t : Int} (h : CamOk xs) (t0 : 0 ≤ t) (t1 : t ≤ 12000000) :
    ∃ L1 L2, cbetV xs (t * 46080) (t * 46080 + 23040) = (L1, 0) ∧ cbetV xs (t * 46080 + 23040) (t * 46080 + 46080) = (L2, 0) ∧ (L1.length : Int) = (halfI xs).1 ∧ (L2.length : Int) = (halfI xs).2 := by
  have hs := cam_sys h
  have hl8 := h.2.1
  have hl1 := h.1
  obtain ⟨c1, c2⟩ := cnt_split (fun a b hab hb => by have := cam_up h hab hb; omega) xs.length (Nat.le_refl _)
  have hcl := cntI_le xs xs.length
  have b0 := cam_bd h (show 0 < xs.length by omega)
  have bl := cam_bd h (show xs.length - 1 < xs.length by omega)
  have hh1 : (halfI xs).1 = (cntI xs xs.length : Nat) := rfl
  have hh2 : (halfI xs).2 = (xs.length : Int) - (cntI xs xs.length : Nat) := rfl
  obtain ⟨k, rfl⟩ : ∃ k : Nat, t = k := ⟨t.toNat, by omega⟩
  generalize hcn : cntI xs xs.length = c at *
  have hE : ∀ i, i < xs.length → edg xs.length 46080 (fun i => xs.getD i 0) ((k + 1) * xs.length + i) = (k : Int) * 46080 + xs.getD i 0 := fun i hi => by
    rw [edg_at (k + 1) i hi]
    have : ((k + 1 : Nat) : Int) = (k : Int) + 1 := rfl
    rw [this]
    omega
  have hE2 : edg xs.length 46080 (fun i => xs.getD i 0) ((k + 1) * xs.length + xs.length) = (k : Int) * 46080 + 46080 + xs.getD 0 0 := by
    have := edg_at (n := xs.length) (P := 46080) (g := fun i => xs.getD i 0) (k + 2) 0 (by omega)
    rw [show (k + 1) * xs.length + xs.length = (k + 2) * xs.length + 0 by rw [Nat.succ_mul (k + 1)]; omega, this]
    have : ((k + 2 : Nat) : Int) = (k : Int) + 2 := rfl
    rw [this]
    omega
  have hE0 : edg xs.length 46080 (fun i => xs.getD i 0) (k * xs.length + (xs.length - 1)) = (k : Int) * 46080 - 46080 + xs.getD (xs.length - 1) 0 := edg_at k (xs.length - 1) (by omega)
  have hj : k * xs.length + (xs.length - 1) + 1 = (k + 1) * xs.length := by rw [Nat.succ_mul]; omega
  generalize hjj : k * xs.length + (xs.length - 1) = j at *
  have hj1 := hE 0 (by omega)
  rw [Nat.add_zero, ← hj] at hj1
  rw [← hj] at hE2
  have hEE : ∀ i, i < xs.length → edg xs.length 46080 (fun i => xs.getD i 0) (j + 1 + i) = (k : Int) * 46080 + xs.getD i 0 := fun i hi => by rw [hj]; exact hE i hi
  have hlow : edg xs.length 46080 (fun i => xs.getD i 0) (j + c) ≤ (k : Int) * 46080 + 23040 := by
    by_cases hc0 : c = 0
    · rw [hc0, Nat.add_zero]; omega
    · have := hEE (c - 1) (by omega)
      rw [show j + 1 + (c - 1) = j + c by omega] at this
      have := c1 (c - 1) (by omega)
      omega
  have hhigh : (k : Int) * 46080 + 23040 < edg xs.length 46080 (fun i => xs.getD i 0) (j + c + 1) := by
    rw [show j + c + 1 = j + 1 + c by omega]
    by_cases hcn : c < xs.length
    · have := hEE c hcn
      have := c2 c (Nat.le_refl _) hcn
      have := (h.2.2.1 c hcn).2.2.1
      omega
    · rw [show c = xs.length by omega]
      omega
  have e1 := hs.coll (a := (k : Int) * 46080) (b := (k : Int) * 46080 + 23040) (j := j) (m := c) (by omega) (by omega) hlow hhigh (by omega)
  have hp := hs.per j
  have hp1 := hs.per (j + 1)
  have e2 := hs.coll (a := (k : Int) * 46080 + 23040) (b := (k : Int) * 46080 + 46080) (j := j + c) (m := xs.length - c) hlow hhigh (by rw [show j + c + (xs.length - c) = j + xs.length by omega]; omega) (by rw [show j + c + (xs.length - c) + 1 = j + 1 + xs.length by omega]; omega) (by omega)
  have l1 : (collL (cnxt xs) ((k : Int) * 46080) ((k : Int) * 46080 + 23040)).length = c := by rw [e1]; simp
  have l2 : (collL (cnxt xs) ((k : Int) * 46080 + 23040) ((k : Int) * 46080 + 46080)).length = xs.length - c := by rw [e2]; simp
  refine ⟨_, _, by unfold cbetV; rw [if_pos (camB_true.2 h)]; exact collV_ok (by omega) (by omega) (by omega) (by omega), by unfold cbetV; rw [if_pos (camB_true.2 h)]; exact collV_ok (by omega) (by omega) (by omega) (by omega), by omega, by omega⟩

/-- The parts. -/
theorem parts_wheel {T M a b c : Int} (h : wheelB T M = true) (a0 : 0 ≤ a) (ab : a ≤ b) (bc : b ≤ c) (c1 : c < 549755813888) (hca : c - a ≤ 184320) :
    ∃ (E : Nat → Int) (m1 m2 : Nat), m1 + m2 ≤ 1000 ∧ betV T M a b = ((List.range m1).map (fun i => E (1 + i)), 0) ∧ betV T M b c = ((List.range m2).map (fun i => E (m1 + 1 + i)), 0) ∧ betV T M a c = ((List.range (m1 + m2)).map (fun i => E (1 + i)), 0) ∧
      betV T M (a + 23040) (c + 23040) = ((List.range (m1 + m2)).map (fun i => E (1 + i) + 23040), 0) ∧ wnxt T M a = E 1 ∧ (∀ i, wnxt T M (E (1 + i)) = E (1 + (i + 1))) ∧ (m1 + m2 = 0 → c < E 1) ∧ (∀ i, i + 1 = m1 + m2 → c < E (1 + (i + 1))) ∧ (∀ i, i < m1 + m2 → 0 ≤ E (1 + i) ∧ E (1 + i) ≤ 549755813888) := by
  have hs := wheel_sys h
  obtain ⟨t0, t1, t2, _⟩ := wheelB_true.1 h
  obtain ⟨j, h1, h2⟩ := hs.some a0
  obtain ⟨m1, g1, g2⟩ := hs.two h1 a0 ab
  obtain ⟨m2, k1, k2⟩ := hs.two g1 (by omega) bc
  have hsm := hs.small h2 (m := m1 + m2) (by rw [← Nat.add_assoc]; exact k1) 8 (b := c) (by omega)
  have hm : m1 + m2 ≤ 1000 := by omega
  have e1 := hs.coll h1 h2 g1 g2 (by omega)
  have e2 := hs.coll g1 g2 k1 k2 (by omega)
  have e3 := hs.coll h1 h2 (m := m1 + m2) (by rw [← Nat.add_assoc]; exact k1) (by rw [← Nat.add_assoc]; exact k2) (by omega)
  have p1 := hs.per j
  have p2 := hs.per (j + 1)
  have p3 := hs.per (j + m1 + m2)
  have p4 := hs.per (j + m1 + m2 + 1)
  have e4 := hs.coll (a := a + 23040) (b := c + 23040) (j := j + (T - M).toNat) (m := m1 + m2) (by omega) (by rw [show j + (T - M).toNat + 1 = j + 1 + (T - M).toNat by omega]; omega) (by rw [show j + (T - M).toNat + (m1 + m2) = j + m1 + m2 + (T - M).toNat by omega]; omega) (by rw [show j + (T - M).toNat + (m1 + m2) + 1 = j + m1 + m2 + 1 + (T - M).toNat by omega]; omega) (by omega)
  have hb : ∀ {a b : Int} {L : List Int}, collL (wnxt T M) a b = L → 0 ≤ a → a ≤ b → b ≤ 1099511627776 → L.length ≤ 1000 → betV T M a b = (L, 0) := fun hL x y z hl => by
    unfold betV
    rw [if_pos h, ← hL]
    exact collV_ok x y z (by rw [hL]; exact hl)
  refine ⟨fun i => edg (T - M).toNat 23040 (fun i => (i : Int) * spI T) (j + i), m1, m2, hm, ?_, ?_, ?_, ?_, hs.next h1 h2, fun i => ?_, fun h0 => ?_, fun i hi => ?_, fun i hi => ?_⟩
  · refine hb (e1.trans (List.map_congr_left fun i _ => ?_)) a0 ab (by omega) (by simp; omega)
    rw [Nat.add_assoc]
  · refine hb (e2.trans (List.map_congr_left fun i _ => ?_)) (by omega) bc (by omega) (by simp; omega)
    rw [show j + m1 + 1 + i = j + (m1 + 1 + i) by omega]
  · refine hb (e3.trans (List.map_congr_left fun i _ => ?_)) a0 (by omega) (by omega) (by simp; omega)
    rw [Nat.add_assoc]
  · refine hb (e4.trans (List.map_congr_left fun i _ => ?_)) (by omega) (by omega) (by omega) (by simp; omega)
    rw [show j + (T - M).toNat + 1 + i = j + (1 + i) + (T - M).toNat by omega, hs.per]
  · have := hs.next (Int.le_refl _) (hs.lt (j + (1 + i)))
    rw [show j + (1 + i) + 1 = j + (1 + (i + 1)) by omega] at this
    exact this
  · have hm1 : m1 = 0 := by omega
    have hm2 : m2 = 0 := by omega
    subst hm1; subst hm2
    simpa using k2
  · show c < edg _ _ _ (j + (1 + (i + 1)))
    rw [show j + (1 + (i + 1)) = j + m1 + m2 + 1 by omega]
    exact k2
  · have g := hs.mono (show j + 1 ≤ j + (1 + i) by omega)
    have g' := hs.mono (show j + (1 + i) ≤ j + m1 + m2 by omega)
    show 0 ≤ edg _ _ _ (j + (1 + i)) ∧ edg _ _ _ (j + (1 + i)) ≤ _
    omega
end Go.Proofs.Ytjkdekblenlflaa
