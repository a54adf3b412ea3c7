/- Contract of slices.Delete of one integer. -/
import Derived.Test.YtoninaidinnbgaaOwnMore
import Derived.Deep.RegionLaw
import Derived.Lib.SliceRun
import Derived.Laws.IdiomCopy
namespace Go.Proofs.Ytoninaidinnbgaa
set_option linter.unusedVariables false
set_option linter.unusedSimpArgs false
open Go.RowKit Go.ChangeShapes Go.WideShapes Go.ChangeAt

/-- The cells behind index i, moved one to the left. -/
def movedI (xs : List Int) (i : Nat) : List Value := (xs.drop (i + 1)).map (Value.int .i64)
theorem movedI_len (xs : List Int) (i : Nat) : (movedI xs i).length = xs.length - (i + 1) := by simp [movedI]
theorem movedI_get {xs : List Int} {i j : Nat} (hj : j < xs.length - (i + 1)) : (movedI xs i)[j]? = some (.int .i64 (xs.getD (i + 1 + j) 0)) := by
  simp [movedI, List.getD, List.getElem?_drop, show i + 1 + j < xs.length by omega]
theorem below_setCells {B : Nat} {a : World} (b : Nat) (hB : B ≤ b) : ∀ (vs : List Value) (o : Nat) (w : World), Below B a w → Below B a (w.setCells b o vs)
  | [], _, _, h => h
  | v :: vs, o, w, h => by
    rw [World.setCells]
    exact below_setCells b hB vs (o + 1) _ (h.setCell (p := ⟨b, o, none⟩) hB v)
theorem erase_getD {xs : List Int} {k t : Nat} (ht : t < xs.length - 1) : (xs.eraseIdx k).getD t 0 = if t < k then xs.getD t 0 else xs.getD (t + 1) 0 := by
  simp only [List.getD, List.getElem?_eraseIdx]
  split <;> rfl
set_option maxHeartbeats 4000000 in
set_option maxRecDepth 1000000 in
theorem del_any (b off cap i : Nat) (xs : List Int) (w : World) (hi : i < xs.length) (hl : xs.length ≤ cap) (hm : cap ≤ maxLen)
    (hc : ∀ j, j < xs.length → w.cell? ⟨b, off + j, none⟩ = some (.int .i64 (xs.getD j 0))) (hf : ∀ j, j < xs.length → w.frozen? ⟨b, off + j, none⟩ = false) :
    Calls Try.prog 25 #[.slice (some ⟨b, off, none⟩) xs.length cap, .int .i64 i, .int .i64 ((i : Int) + 1)] w fun e w' => e = .returned (.slice (some ⟨b, off, none⟩) (xs.length - 1) cap) ∧ (∀ t, t < xs.length - 1 → w'.cell? ⟨b, off + t, none⟩ = some (.int .i64 ((xs.eraseIdx i).getD t 0))) ∧ Below b w w' := by
  obtain ⟨i0, hi0, hz0, hz1, hz2⟩ := info_parts infoInt
  unfold maxLen at hm
  have v3 : ∀ w, (zeroValue 3).run Try.prog w = .ok (.int .i64 0) w := fun w => by
    simp [zeroValue, hi0, hz0, typeInfo]
  obtain ⟨A, hA, hnews⟩ : ∃ A : Addr, (if cap = i + 1 then some (⟨b, off, none⟩ : Addr) else some ⟨b, off + (i + 1), none⟩) = some A ∧ Hid (∀ j u, (movedI xs i)[j]? = some u → w.drew.cell? (A.add j) = some u) := by
    by_cases h : cap = i + 1
    · refine ⟨⟨b, off, none⟩, by simp [h], fun j u hu => ?_⟩
      have h0 : (movedI xs i).length = 0 := by rw [movedI_len]; omega
      rw [List.length_eq_zero_iff.1 h0] at hu
      simp at hu
    · refine ⟨⟨b, off + (i + 1), none⟩, by simp [h], fun j u hu => ?_⟩
      have hj : j < xs.length - (i + 1) := by
        have := (List.getElem?_eq_some_iff.1 hu).1
        rwa [movedI_len] at this
      rw [movedI_get hj] at hu
      rw [Addr.add_lit, show off + (i + 1) + j = off + (i + 1 + j) by omega]
      exact (hc (i + 1 + j) (by omega)).trans hu
  have s1 : Hid ((movedI xs i).length = (xs.length - (i + 1)) * 1) := by rw [Nat.mul_one]; exact movedI_len xs i
  have s2 : Hid (∀ u ∈ movedI xs i, u.oneCell' = true) := by
    intro u hu
    obtain ⟨x, _, rfl⟩ := List.mem_map.1 hu
    rfl
  have s3 : Hid (∀ j, j < (movedI xs i).length → (w.drew.cell? ⟨b, off + i * 1 + j, none⟩).isSome = true ∧ w.drew.frozen? ⟨b, off + i * 1 + j, none⟩ = false) := by
    intro j hj
    rw [movedI_len] at hj
    rw [Nat.mul_one, Nat.add_assoc]
    exact ⟨by show (w.cell? _).isSome = true; rw [hc (i + j) (by omega)]; rfl, hf (i + j) (by omega)⟩
  obtain ⟨W1, hW1⟩ : ∃ W1, W1 = w.drew.setCells b (off + i * 1) (movedI xs i) := ⟨_, rfl⟩
  have hout : ∀ t, t < i → W1.cell? ⟨b, off + t, none⟩ = some (.int .i64 (xs.getD t 0)) := fun t ht => by
    rw [hW1, World.cell?_setCells_out _ _ _ _ _ (fun _ _ => Or.inl (by show off + t < off + i * 1; omega))]
    exact hc t (by omega)
  have hin : ∀ t, i ≤ t → t < xs.length - 1 → W1.cell? ⟨b, off + t, none⟩ = some (.int .i64 (xs.getD (t + 1) 0)) := fun t ht1 ht2 => by
    have h1 := World.cell?_setCells_in b (movedI xs i) (off + i * 1) w.drew (fun j hj => (s3.out j hj).1) (t - i) (by rw [movedI_len]; omega)
    rw [show off + i * 1 + (t - i) = off + t by omega] at h1
    rw [hW1, h1, ← List.getElem?_eq_getElem, movedI_get (by omega), show i + 1 + (t - i) = t + 1 by omega]
  have hlast : (W1.cell? ⟨b, off + (xs.length - 1), none⟩).isSome = true := by
    rw [hW1, World.cell?_setCells_out _ _ _ _ _ (fun _ _ => Or.inr (by show off + i * 1 + (movedI xs i).length ≤ off + (xs.length - 1); rw [movedI_len]; omega))]
    show (w.cell? _).isSome = true
    rw [hc _ (by omega)]; rfl
  have hfz : W1.frozen? ⟨b, off + (xs.length - 1), none⟩ = false := by
    have : ∀ (vs : List Value) (o : Nat) (w : World) (x : Addr), (w.setCells b o vs).frozen? x = w.frozen? x := by
      intro vs
      induction vs with
      | nil => intro o w x; rfl
      | cons v vs ih => intro o w x; rw [World.setCells, ih]; simp
    rw [hW1, this]
    exact hf _ (by omega)
  have hB1 : Below b w W1 := by rw [hW1]; exact below_setCells b (Nat.le_refl _) _ _ _ (Below.refl b w).drew
  have HP : Hid (∀ t, t < xs.length - 1 → (W1.setCells b (off + (xs.length - 1)) [.int .i64 0]).cell? ⟨b, off + t, none⟩ = some (.int .i64 ((xs.eraseIdx i).getD t 0))) := Lib.hid (fun t ht => by
    rw [World.cell?_setCells_out _ _ _ _ _ (fun _ _ => Or.inl (by show off + t < off + (xs.length - 1); omega)), erase_getD ht]
    split
    · exact hout t (by omega)
    · exact hin t (by omega) ht)
  have HB : Hid (Below b w (W1.setCells b (off + (xs.length - 1)) [.int .i64 0])) := Lib.hid (below_setCells b (Nat.le_refl _) _ _ _ hB1)
  have hW : Hid (W1 = w.drew.setCells b (off + i * 1) (movedI xs i)) := hW1
  have hn1 : i + (xs.length - (i + 1)) = xs.length - 1 := by omega
  have hcl : ∀ ty, (Builtin.clear_ #[22] ty #[.slice (some ⟨b, off + (xs.length - 1), none⟩) (xs.length - (xs.length - 1)) (cap - (xs.length - 1))]).run Try.prog W1 = .ok (.tuple #[]) (W1.setCells b (off + (xs.length - 1)) [.int .i64 0]) := fun ty => by
    have h1 : xs.length - (xs.length - 1) = 1 := by omega
    rw [h1]
    exact Lib.run_clear_slice W1 _ _ ty _ Try.underlying22 v3 rfl rfl b (off + (xs.length - 1)) 1 _ (by omega) (fun t ht => by rw [show t = 0 by omega, Nat.add_zero]; exact hlast) (fun t ht => by rw [show t = 0 by omega, Nat.add_zero]; exact hfz)
  have hic : i ≤ cap := by omega
  have hwr : IntKind.i64.wrap ((i : Int) + 1) = (i : Int) + 1 := by rw [IntKind.wrap_i64]; omega
  have hp0 : (0 : Int) ≤ (i : Int) + 1 := by omega
  have hp1 : (i : Int) + 1 ≤ (xs.length : Int) := by omega
  have hp2 : ((i : Int) + 1).toNat = i + 1 := by omega
  have hp3 : ((i : Int) == (i : Int) + 1) = false := by simp; omega
  have hp4 : ¬ (i : Int) = (i : Int) + 1 := by omega
  have hp5 : xs.length - 1 ≤ xs.length := by omega
  have hp6 : ¬ cap = xs.length - 1 := by omega
  clear hc hf hout hin hlast hfz hB1 hW1
  generalize hq : xs.length - 1 = q at *
  generalize hn : xs.length = n at *
  have HQ := Lib.hid hq
  have HN := Lib.hid hn
  clear hq hn
  go_enter Try.func25, Try.ntmps25
  go_wp2_with fail
  go_region_law (refine step_append_room rfl (.tmp 22) (.tmp 25) 22 rfl 3 i0 1 Try.underlying22 hi0 hz1 b off i cap (by simp [Act.eval, Act.put]) A (n - (i + 1)) (cap - (i + 1)) (movedI xs i) (by simp [Act.eval, Act.put]) s1.out hnews.out s2.out (by omega) s3.out ?_; rw [← hW.out, hn1])
  go_wp2
  go_ret
  exact ⟨rfl, HP.out, HB.out⟩
end Go.Proofs.Ytoninaidinnbgaa
