/- Contracts of slices.IsSorted, IsSortedFunc of integers, of ContainsFunc of rows. Printed by a program. -/
import Derived.Test.YtohdbneaganfbaaCurveB
import Derived.Test.YtohdbneaganfbaaSlices
import Derived.Test.YtohdbneaganfbaaGrid
namespace Go.Proofs.Ytohdbneaganfbaa
set_option linter.unusedVariables false
set_option linter.unusedSimpArgs false
open Go.RowKit Go.ChangeShapes Go.WideShapes Go.ChangeAt

theorem nan_any (x : Int) (w : World) : Calls Try.prog 122 #[.int .i64 x] w fun e w' => e = .returned (.bool false) ∧ w = w' := by
  go_enter Try.func122, Try.ntmps122
  go_wp2
  go_ret
  exact ⟨by simp, rfl⟩
theorem less_any (x y : Int) (w : World) : Calls Try.prog 99 #[.int .i64 x, .int .i64 y] w fun e w' => e = .returned (.bool (decide (x < y))) ∧ w = w' := by
  go_enter Try.func99, Try.ntmps99
  go_wp2_with ((go_at_call 122; refine (nan_any _ _).mono ?_; rintro e w' ⟨rfl, rfl⟩))
  go_ret
  exact ⟨by simp, rfl⟩

open Classical in
noncomputable def upB (xs : List Int) : Bool := decide (UpL xs)
theorem upB_true {xs : List Int} : upB xs = true ↔ UpL xs := by simp [upB]
theorem upB_false {xs : List Int} : upB xs = false ↔ ¬ UpL xs := by simp [upB]
set_option maxHeartbeats 1000000 in
theorem sortedF_any (g : Nat) (c : Int → Int → Int) (res : Bool) (r : Option Addr) (cap : Nat) (xs : List Int) (w : World) (eg : ∀ args w, (callFunc g args).run Try.prog w = .ok (.enter g args) w) (hx : IsInts w r cap .i64 xs) (hne : xs ≠ [])
    (hf : ∀ (w' : World) (x y : Int), x ∈ xs → y ∈ xs → Calls Try.prog g #[.int .i64 x, .int .i64 y] w' fun a w'' => a = .returned (.int .i64 (c x y)) ∧ w' = w'')
    (hT : (∀ t, t + 1 < xs.length → ¬ c (xs.getD (t + 1) 0) (xs.getD t 0) < 0) → res = true) (hF : ∀ t, t + 1 < xs.length → c (xs.getD (t + 1) 0) (xs.getD t 0) < 0 → res = false) :
    Calls Try.prog 125 #[.slice r xs.length cap, .func (.func g) #[] #[]] w fun e w' => e = .returned (.bool res) ∧ Below w.heap.size w w' := by
  obtain ⟨bX, off, rfl, hb, hc⟩ := hx.cells hne
  have hmax := hx.max
  have hle := hx.le
  unfold maxLen at hmax
  have h0 : 0 < xs.length := List.length_pos_iff.2 hne
  have HC := Lib.hid hc
  have HT := Lib.hid hT
  have HF := Lib.hid hF
  have HCL := Lib.hid hf
  clear hT hF hf
  clear hc hx hne
  generalize hn : xs.length = n at *
  have HN := Lib.hid hn
  clear hn
  go_enter Try.func125, Try.ntmps125
  go_wp2
  go_loopg [5] n (fun kx s5 wr => ∃ (k : Nat) (e : Later w), s5 = .int .i64 k ∧ k < n ∧ k ≤ kx ∧ wr = e.w ∧ Hid (∀ t, k ≤ t → t + 1 < n → ¬ c (xs.getD (t + 1) 0) (xs.getD t 0) < 0))
  case atStart => exact ⟨n - 1, ⟨_, Below.refl _ _⟩, by go_num, by omega, by omega, rfl, Lib.hid (fun t h1 h2 => by omega)⟩
  case round =>
    obtain ⟨k, e, rfl, hk, hkx, rfl, HQ⟩ := hrel
    have hes := e.h.size
    have hbe : bX < e.w.heap.size := by omega
    by_cases hk0 : k = 0
    · have H := Lib.hid (HT.out (fun t ht => by have h := HQ.out t (by omega) (by have := HN.out; omega); omega))
      subst hk0
      go_wp2
      go_ret
      exact ⟨by rw [H.out]; first | done | rfl, e.h⟩
    · have k1 : (0 : Int) < (k : Int) := by omega
      have k6 : 0 < k := by omega
      have k2 : (0 : Int) ≤ (k : Int) := by omega
      have k3 : (k : Int) < n := by omega
      have hw1 : IntKind.i64.wrap ((k : Int) - 1) = (k : Int) - 1 := IntWalk.i64_in _ (by omega)
      have k4 : (0 : Int) ≤ (k : Int) - 1 := by omega
      have k5 : (k : Int) - 1 < n := by omega
      have hc1 : e.w.cell? ⟨bX, off + k, none⟩ = some (.int .i64 (xs.getD k 0)) := by
        rw [Later.cell e hb]
        exact HC.out k hk
      have hc2 : e.w.cell? ⟨bX, off + (k - 1), none⟩ = some (.int .i64 (xs.getD (k - 1) 0)) := by
        rw [Later.cell e hb]
        exact HC.out (k - 1) (by omega)
      have HB : Hid (c (xs.getD k 0) (xs.getD (k - 1) 0) < 0 → res = false) := Lib.hid (fun h => HF.out (k - 1) (by have := HN.out; omega) (by rw [show k - 1 + 1 = k by omega]; exact h))
      have HG : Hid (¬ c (xs.getD k 0) (xs.getD (k - 1) 0) < 0 → ∀ t, k - 1 ≤ t → t + 1 < n → ¬ c (xs.getD (t + 1) 0) (xs.getD t 0) < 0) := Lib.hid (fun h t h1 h2 => by
        by_cases e : t = k - 1
        · subst e
          rw [show k - 1 + 1 = k by omega]
          exact h
        · exact HQ.out t (by omega) h2)
      have HM := Lib.hid (fun w' => HCL.out w' (xs.getD k 0) (xs.getD (k - 1) 0) (getD_mem (by have := HN.out; omega)) (getD_mem (by have := HN.out; omega)))
      generalize xs.getD k 0 = x at hc1 HB HG HM
      generalize xs.getD (k - 1) 0 = y at hc2 HB HG HM
      generalize c x y = cv at HB HG HM
      by_cases hcm : cv < 0
      · have H := Lib.hid (HB.out hcm)
        clear hk0 HG
        go_wp2
        (refine wp_region_later (by kernel_rfl) (by kernel_rfl) ?_; (repeat (go_big_quiet_step ((go_at_fn g; exact later_same (HM.out _))))); refine wpQuiet_nil ?_; rintro _ ⟨e1, rfl⟩; have e1s := e1.h.size; (try simp only [World.size_alloc, World.size_drewN, World.drewN_heap] at e1s); (try (have : w.heap.size < e1.w.heap.size := by omega)); (try (have : w.heap.size + 1 < e1.w.heap.size := by omega)); (try (have : w.heap.size + 1 + 1 < e1.w.heap.size := by omega)); (try (have : w.heap.size + 1 + 1 + 1 < e1.w.heap.size := by omega)); (try (have : bX < e1.w.heap.size := by omega)); (try (have : bY < e1.w.heap.size := by omega)); (try (have : bZ < e1.w.heap.size := by omega)))
        go_wp2
        go_ret
        exact ⟨by rw [H.out]; first | done | rfl, below_later e.h e1⟩
      · have HG2 := Lib.hid (HG.out hcm)
        clear hk0 HB HG
        go_wp2
        (refine wp_region_later (by kernel_rfl) (by kernel_rfl) ?_; (repeat (go_big_quiet_step ((go_at_fn g; exact later_same (HM.out _))))); refine wpQuiet_nil ?_; rintro _ ⟨e1, rfl⟩; have e1s := e1.h.size; (try simp only [World.size_alloc, World.size_drewN, World.drewN_heap] at e1s); (try (have : w.heap.size < e1.w.heap.size := by omega)); (try (have : w.heap.size + 1 < e1.w.heap.size := by omega)); (try (have : w.heap.size + 1 + 1 < e1.w.heap.size := by omega)); (try (have : w.heap.size + 1 + 1 + 1 < e1.w.heap.size := by omega)); (try (have : bX < e1.w.heap.size := by omega)); (try (have : bY < e1.w.heap.size := by omega)); (try (have : bZ < e1.w.heap.size := by omega)))
        go_wp2
        go_roundg (k - 1)
        case measure => omega
        case rel => exact ⟨k - 1, ⟨_, below_later e.h e1⟩, by go_num, by omega, Nat.le_refl _, rfl, HG2⟩

set_option maxHeartbeats 1000000 in
theorem isSorted_any (r : Option Addr) (cap : Nat) (xs : List Int) (w : World) (hx : IsInts w r cap .i64 xs) (hne : xs ≠ []) :
    Calls Try.prog 65 #[.slice r xs.length cap] w fun e w' => e = .returned (.bool (upB xs)) ∧ Below w.heap.size w w' := by
  obtain ⟨bX, off, rfl, hb, hc⟩ := hx.cells hne
  have hmax := hx.max
  have hle := hx.le
  unfold maxLen at hmax
  have h0 : 0 < xs.length := List.length_pos_iff.2 hne
  have HC := Lib.hid hc
  have HT := Lib.hid (@upB_true xs)
  have HF := Lib.hid (@upB_false xs)
  clear hc hx hne
  generalize hn : xs.length = n at *
  have HN := Lib.hid hn
  clear hn
  go_enter Try.func65, Try.ntmps65
  go_wp2
  go_loopg [3] n (fun kx s3 wr => ∃ (k : Nat) (e : Later w), s3 = .int .i64 k ∧ k < n ∧ k ≤ kx ∧ wr = e.w ∧ Hid (∀ t, k ≤ t → t + 1 < n → xs.getD t 0 ≤ xs.getD (t + 1) 0))
  case atStart => exact ⟨n - 1, ⟨_, Below.refl _ _⟩, by go_num, by omega, by omega, rfl, Lib.hid (fun t h1 h2 => by omega)⟩
  case round =>
    obtain ⟨k, e, rfl, hk, hkx, rfl, HQ⟩ := hrel
    have hes := e.h.size
    have hbe : bX < e.w.heap.size := by omega
    by_cases hk0 : k = 0
    · have H := Lib.hid (HT.out.2 (fun t ht => HQ.out t (by omega) (by have := HN.out; omega)))
      subst hk0
      go_wp2
      go_ret
      exact ⟨by rw [H.out]; first | done | rfl, e.h⟩
    · have k1 : (0 : Int) < (k : Int) := by omega
      have k6 : 0 < k := by omega
      have k2 : (0 : Int) ≤ (k : Int) := by omega
      have k3 : (k : Int) < n := by omega
      have hw1 : IntKind.i64.wrap ((k : Int) - 1) = (k : Int) - 1 := IntWalk.i64_in _ (by omega)
      have k4 : (0 : Int) ≤ (k : Int) - 1 := by omega
      have k5 : (k : Int) - 1 < n := by omega
      have hc1 : e.w.cell? ⟨bX, off + k, none⟩ = some (.int .i64 (xs.getD k 0)) := by
        rw [Later.cell e hb]
        exact HC.out k hk
      have hc2 : e.w.cell? ⟨bX, off + (k - 1), none⟩ = some (.int .i64 (xs.getD (k - 1) 0)) := by
        rw [Later.cell e hb]
        exact HC.out (k - 1) (by omega)
      have HB : Hid (xs.getD k 0 < xs.getD (k - 1) 0 → upB xs = false) := Lib.hid (fun h => HF.out.2 (fun hh => by
        have := hh (k - 1) (by have := HN.out; omega)
        rw [show k - 1 + 1 = k by omega] at this
        omega))
      have HG : Hid (¬ xs.getD k 0 < xs.getD (k - 1) 0 → ∀ t, k - 1 ≤ t → t + 1 < n → xs.getD t 0 ≤ xs.getD (t + 1) 0) := Lib.hid (fun h t h1 h2 => by
        by_cases e : t = k - 1
        · subst e
          rw [show k - 1 + 1 = k by omega]
          omega
        · exact HQ.out t (by omega) h2)
      generalize xs.getD k 0 = x at hc1 HB HG
      generalize xs.getD (k - 1) 0 = y at hc2 HB HG
      by_cases hxy : x < y
      · have H := Lib.hid (HB.out hxy)
        clear hk0 HG
        go_wp2
        (refine wp_region_later (by kernel_rfl) (by kernel_rfl) ?_; (repeat (go_big_quiet_step ((go_at_call 99; exact later_same (less_any _ _ _))))); refine wpQuiet_nil ?_; rintro _ ⟨e1, rfl⟩; have e1s := e1.h.size; (try simp only [World.size_alloc, World.size_drewN, World.drewN_heap] at e1s); (try (have : w.heap.size < e1.w.heap.size := by omega)); (try (have : w.heap.size + 1 < e1.w.heap.size := by omega)); (try (have : w.heap.size + 1 + 1 < e1.w.heap.size := by omega)); (try (have : w.heap.size + 1 + 1 + 1 < e1.w.heap.size := by omega)); (try (have : bX < e1.w.heap.size := by omega)); (try (have : bY < e1.w.heap.size := by omega)); (try (have : bZ < e1.w.heap.size := by omega)))
        go_wp2
        go_ret
        exact ⟨by rw [H.out]; first | done | rfl, below_later e.h e1⟩
      · have HG2 := Lib.hid (HG.out hxy)
        clear hk0 HB HG
        go_wp2
        (refine wp_region_later (by kernel_rfl) (by kernel_rfl) ?_; (repeat (go_big_quiet_step ((go_at_call 99; exact later_same (less_any _ _ _))))); refine wpQuiet_nil ?_; rintro _ ⟨e1, rfl⟩; have e1s := e1.h.size; (try simp only [World.size_alloc, World.size_drewN, World.drewN_heap] at e1s); (try (have : w.heap.size < e1.w.heap.size := by omega)); (try (have : w.heap.size + 1 < e1.w.heap.size := by omega)); (try (have : w.heap.size + 1 + 1 < e1.w.heap.size := by omega)); (try (have : w.heap.size + 1 + 1 + 1 < e1.w.heap.size := by omega)); (try (have : bX < e1.w.heap.size := by omega)); (try (have : bY < e1.w.heap.size := by omega)); (try (have : bZ < e1.w.heap.size := by omega)))
        go_wp2
        go_roundg (k - 1)
        case measure => omega
        case rel => exact ⟨k - 1, ⟨_, below_later e.h e1⟩, by go_num, by omega, Nat.le_refl _, rfl, HG2⟩


def idxR (p : List Int → Bool) (Z : List (List Int)) : Int := if Z.any p = true then (Z.findIdx p : Nat) else -1
theorem idxR_hit {p : List Int → Bool} {Z : List (List Int)} {k : Nat} (hk : k < Z.length) (h0 : ∀ t, t < k → p (Z.getD t []) = false) (h1 : p (Z.getD k []) = true) : idxR p Z = k := by
  have hg : ∀ t (h : t < Z.length), Z.getD t [] = Z[t] := fun t h => by simp [List.getD, List.getElem?_eq_getElem h]
  have hf : Z.findIdx p = k := by
    rw [List.findIdx_eq hk]
    refine ⟨by rw [← hg k hk]; exact h1, fun j hj => ?_⟩
    rw [← hg j (by omega)]
    exact h0 j hj
  have ha : Z.any p = true := List.any_eq_true.2 ⟨Z[k], List.getElem_mem hk, by rw [← hg k hk]; exact h1⟩
  simp [idxR, ha, hf]
theorem idxR_miss {p : List Int → Bool} {Z : List (List Int)} (h0 : ∀ t, t < Z.length → p (Z.getD t []) = false) : idxR p Z = -1 := by
  have ha : Z.any p = false := by
    rw [List.any_eq_false]
    intro x hx
    obtain ⟨t, ht, rfl⟩ := List.getElem_of_mem hx
    have := h0 t ht
    simpa [List.getD, List.getElem?_eq_getElem ht] using this
  simp [idxR, ha]
theorem idxR_any (p : List Int → Bool) (Z : List (List Int)) : decide (0 ≤ idxR p Z) = Z.any p := by
  unfold idxR
  split
  · rename_i h; rw [h]; simp
  · rename_i h; simp at h ⊢; simpa using h

set_option maxHeartbeats 1000000 in
theorem indexFuncR_any (g : Nat) (cb : Array Value) (r : Option Addr) (cap : Nat) (Z : List (List Int)) (p : List Int → Bool) (w : World) (eg : ∀ args w, (callFunc g args).run Try.prog w = .ok (.enter g args) w) (hZ : IsRows w r cap Z) (hne : Z ≠ [])
    (hf : ∀ (e : Later w) (k : Nat) (ri : Option Addr) (ci : Nat), k < Z.length → IsInts e.w ri ci .i64 (Z.getD k []) → Calls Try.prog g (#[.slice ri (Z.getD k []).length ci] ++ cb) e.w fun a w' => a = .returned (.bool (p (Z.getD k []))) ∧ Below e.w.heap.size e.w w') :
    Calls Try.prog 127 #[.slice r Z.length cap, .func (.func g) #[] cb] w fun e w' => e = .returned (.int .i64 (idxR p Z)) ∧ Below w.heap.size w w' := by
  have HF := Lib.hid hf
  have hmax := hZ.max
  have hle := hZ.le
  unfold maxLen at hmax
  obtain ⟨b, off, rfl, hb, hc⟩ := hZ.cells hne
  have HC := Lib.hid hc
  clear hc hf hZ hne
  generalize hn : Z.length = n at *
  have HN := Lib.hid hn
  clear hn
  go_enter Try.func127, Try.ntmps127
  go_wp2
  go_loopg [8] n (fun kx s8 wr => ∃ (k : Nat) (e : Later w), s8 = .int .i64 k ∧ k ≤ n ∧ n - k ≤ kx ∧ wr = e.w ∧ Hid (∀ t, t < k → p (Z.getD t []) = false))
  case atStart => exact ⟨0, ⟨w, Below.refl _ _⟩, rfl, Nat.zero_le _, by omega, rfl, Lib.hid (fun t h => absurd h (Nat.not_lt_zero _))⟩
  case round =>
    obtain ⟨k, e, rfl, hk, hkx, rfl, HP⟩ := hrel
    have hes := e.h.size
    by_cases hlt : k < n
    · obtain ⟨ri, ci, g1, g2⟩ := HC.out k hlt
      have hcell : e.w.cell? ⟨b, off + k, none⟩ = some (.slice ri (Z.getD k []).length ci) := by
        rw [Later.cell e hb]
        exact g1
      have hcall := HF.out e k ri ci hlt (g2.later e.h)
      have HHIT : Hid (p (Z.getD k []) = true → idxR p Z = k) := Lib.hid (fun h => idxR_hit (by have := HN.out; omega) HP.out h)
      have HMISS : Hid (p (Z.getD k []) = false → ∀ t, t < k + 1 → p (Z.getD t []) = false) := Lib.hid (fun h t ht => by
        by_cases e : t = k
        · subst e; exact h
        · exact HP.out t (by omega))
      clear g1 g2
      generalize Z.getD k [] = row at *
      cases hp : p row <;> rw [hp] at hcall
      · have HQ := Lib.hid (HMISS.out hp)
        clear hp
        go_wp2_with (go_at_fn g; refine hcall.mono ?_; rintro a w' ⟨rfl, hb2⟩)
        go_roundg (n - (k + 1))
        case measure => omega
        case rel =>
          obtain ⟨e', rfl⟩ := e.next hb2
          exact ⟨k + 1, e', by go_num, by omega, Nat.le_refl _, rfl, HQ⟩
      · have HQ := Lib.hid (HHIT.out hp)
        clear hp
        go_wp2_with (go_at_fn g; refine hcall.mono ?_; rintro a w' ⟨rfl, hb2⟩)
        go_ret
        exact ⟨by rw [HQ.out]; first | done | rfl, by obtain ⟨e', rfl⟩ := e.next hb2; exact e'.h⟩
    · obtain rfl : k = n := by omega
      have HQ := Lib.hid (idxR_miss (p := p) (Z := Z) (fun t ht => HP.out t (by have := HN.out; omega)))
      go_wp2
      go_ret
      exact ⟨by rw [HQ.out]; first | done | rfl, e.h⟩

theorem containsFuncR_any (g : Nat) (cb : Array Value) (r : Option Addr) (cap : Nat) (Z : List (List Int)) (p : List Int → Bool) (w : World) (eg : ∀ args w, (callFunc g args).run Try.prog w = .ok (.enter g args) w) (hZ : IsRows w r cap Z) (hne : Z ≠ [])
    (hf : ∀ (e : Later w) (k : Nat) (ri : Option Addr) (ci : Nat), k < Z.length → IsInts e.w ri ci .i64 (Z.getD k []) → Calls Try.prog g (#[.slice ri (Z.getD k []).length ci] ++ cb) e.w fun a w' => a = .returned (.bool (p (Z.getD k []))) ∧ Below e.w.heap.size e.w w') :
    Calls Try.prog 110 #[.slice r Z.length cap, .func (.func g) #[] cb] w fun e w' => e = .returned (.bool (Z.any p)) ∧ Below w.heap.size w w' := by
  have HI := Lib.hid (indexFuncR_any g cb r cap Z p w eg hZ hne hf)
  clear hf hZ
  go_enter Try.func110, Try.ntmps110
  go_wp2_with ((go_at_call 127; refine (HI.out).mono ?_; rintro e hb1w ⟨rfl, hb1⟩; obtain ⟨hb1c, hb1f⟩ := bcell hb1; have hb1s := hb1.size; (try simp only [World.size_alloc] at hb1s); (try (have : w.heap.size < hb1w.heap.size := by omega)); (try (have : w.heap.size + 1 < hb1w.heap.size := by omega)); (try (have : w.heap.size + 1 + 1 < hb1w.heap.size := by omega)); (try (have : w.heap.size + 1 + 1 + 1 < hb1w.heap.size := by omega)); (try (have : bX < hb1w.heap.size := by omega)); (try (have : bY < hb1w.heap.size := by omega)); (try (have : bZ < hb1w.heap.size := by omega))))
  go_ret
  exact ⟨ret_bool (idxR_any p Z), by (repeat' (first | (with_reducible exact Below.refl _ _) | (with_reducible assumption) | (with_reducible refine below_alloc ?_ _) | (with_reducible refine Below.drew ?_) | (with_reducible refine below_drewN ?_ _) | (with_reducible refine below_step (by assumption) ?_) | (with_reducible refine below_later ?_ _) | (with_reducible refine Below.setCell ?_ ?_ _) | go_size))⟩
end Go.Proofs.Ytohdbneaganfbaa
