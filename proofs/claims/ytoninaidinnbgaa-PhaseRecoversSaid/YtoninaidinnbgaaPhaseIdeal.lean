/- Contract of ideal: the positions of turns and of edges. Printed by a program. -/
import Derived.Test.YtoninaidinnbgaaPhaseE
import Derived.Test.YtoninaidinnbgaaPhaseI
import Derived.Test.YtoninaidinnbgaaOwnMore
namespace Go.Proofs.Ytoninaidinnbgaa
set_option linter.unusedVariables false
set_option linter.unusedSimpArgs false
open Go.RowKit Go.ChangeShapes Go.WideShapes Go.ChangeAt

/-- The edges of a cycle, so far. -/
def cycK (xs : List Int) (f t : Int) (n k : Nat) : List Int := ((xs.take k).map (fun x => (n : Int) * 46080 + x)).filter (inR f t)
theorem cycK_all (xs : List Int) (f t : Int) (n : Nat) : cycK xs f t n xs.length = cycE xs f t n := by simp [cycK, cycE]
theorem cycK_zero (xs : List Int) (f t : Int) (n : Nat) : cycK xs f t n 0 = [] := by simp [cycK]
theorem cycK_succ {xs : List Int} (f t : Int) (n : Nat) {k : Nat} (h : k < xs.length) : cycK xs f t n (k + 1) = cycK xs f t n k ++ (if f < (n : Int) * 46080 + xs.getD k 0 ∧ (n : Int) * 46080 + xs.getD k 0 ≤ t then [(n : Int) * 46080 + xs.getD k 0] else []) := by
  unfold cycK
  rw [List.take_add_one, List.getElem?_eq_getElem h, List.map_append, List.filter_append]
  have : xs.getD k 0 = xs[k] := by simp [List.getD, List.getElem?_eq_getElem h]
  rw [this]
  by_cases hc : f < (n : Int) * 46080 + xs[k] ∧ (n : Int) * 46080 + xs[k] ≤ t
  · rw [if_pos hc]
    simp [inR, hc.1, hc.2]
  · rw [if_neg hc]
    congr 1
    simp only [Option.toList_some, List.map_cons, List.map_nil, List.filter_cons, List.filter_nil]
    rw [if_neg]
    simp only [inR, Bool.and_eq_true, decide_eq_true_eq]
    exact hc
theorem cycK_len (xs : List Int) (f t : Int) (n k : Nat) : (cycK xs f t n k).length ≤ k := by
  unfold cycK
  have := List.length_filter_le (inR f t) ((xs.take k).map (fun x => (n : Int) * 46080 + x))
  simp at this ⊢
  omega
set_option maxRecDepth 100000 in
set_option maxHeartbeats 4000000 in
theorem ideal_any (r : Option Addr) (cap : Nat) (xs : List Int) (F T : Nat) (w : World) (hx : IsInts w r cap .i64 xs) (hcam : CamOk xs) (hFT : F ≤ T) (hT : T ≤ F + 1382400) (hF : F ≤ 1099511627776) :
    Calls Try.prog 11 #[.agg #[.slice r xs.length cap], .int .i64 F, .int .i64 T] w fun e w' => ∃ r1 c1 r2 c2, e = .returned (.tuple #[.slice r1 (turnsFrom (F / 23040) (T / 23040 - F / 23040)).length c1, .slice r2 (idE xs F T (F / 46080) (T / 46080 - F / 46080 + 1)).length c2]) ∧ IsInts w' r1 c1 .i64 (turnsFrom (F / 23040) (T / 23040 - F / 23040)) ∧ IsInts w' r2 c2 .i64 (idE xs F T (F / 46080) (T / 46080 - F / 46080 + 1)) ∧ Below w.heap.size w w' := by
  obtain ⟨bX, off, rfl, hbX, hcX⟩ := hx.cells (fun e => by have := hcam.1; rw [e] at this; simp at this)
  have HCX := Lib.hid hcX
  have HEX : Hid (∀ k, k < xs.length → 0 ≤ xs.getD k 0 ∧ xs.getD k 0 < 46080) := Lib.hid (fun k hk => by have := hcam.2.2.1 k hk; exact ⟨this.1, this.2.1⟩)
  have HCAM := Lib.hid hcam
  have HLX : Hid (xs.length ≤ 8) := Lib.hid hcam.2.1
  have HDL : Hid (T / 23040 - F / 23040 ≤ 61) := Lib.hid (by omega)
  have HDE : Hid (T / 46080 - F / 46080 + 1 ≤ 32) := Lib.hid (by omega)
  have hln : xs.length ≤ 8 := hcam.2.1
  clear hcX hx hcam
  generalize hn : xs.length = n at *
  have HN := Lib.hid hn
  clear hn
  -- numbers of cycles and revolutions
  obtain ⟨m, hm⟩ : ∃ m, m = F / 23040 := ⟨_, rfl⟩
  obtain ⟨M, hM⟩ : ∃ M, M = T / 23040 := ⟨_, rfl⟩
  obtain ⟨c0, hc0⟩ : ∃ c0, c0 = F / 46080 := ⟨_, rfl⟩
  obtain ⟨cN, hcN⟩ : ∃ cN, cN = T / 46080 := ⟨_, rfl⟩
  rw [← hm, ← hM, ← hc0, ← hcN]
  rw [← hm, ← hM] at HDL
  rw [← hc0, ← hcN] at HDE
  have hm1 : m * 23040 ≤ F ∧ F < (m + 1) * 23040 := by omega
  have hM1 : M * 23040 ≤ T ∧ T < (M + 1) * 23040 := by omega
  have hc1 : c0 * 46080 ≤ F ∧ F < (c0 + 1) * 46080 := by omega
  have hcN1 : cN * 46080 ≤ T ∧ T < (cN + 1) * 46080 := by omega
  have hmM : m ≤ M := by omega
  have hcc : c0 ≤ cN := by omega
  have q1 : (F : Int).tdiv 23040 = (m : Int) := by
    rw [Int.tdiv_eq_ediv_of_nonneg (by omega)]; omega
  have q2 : (F : Int).tdiv 46080 = (c0 : Int) := by
    rw [Int.tdiv_eq_ediv_of_nonneg (by omega)]; omega
  have q3 : (F : Int) / 23040 = (m : Int) := by omega
  have q4 : (F : Int) / 46080 = (c0 : Int) := by omega
  have hwA : ∀ a : Int, 0 ≤ a → a ≤ 4611686018427387904 → IntKind.i64.wrap a = a := fun a h1 h2 => IntWalk.i64_in _ (by omega)
  have hF0 : (0 : Int) ≤ (F : Int) := by omega
  clear hm hM hc0 hcN
  go_enter Try.func11, Try.ntmps11
  go_wp2
  go_loopg [6, 8] (M + 1 - m) (fun kx s6 s8 wr => ∃ (z : Nat) (e : Later (w.alloc (.cells #[.slice (some ⟨bX, off, none⟩) n cap] 24))) (ro : Option Addr) (co : Nat) (out : List Int), s6 = .slice ro out.length co ∧ s8 = .int .i64 z ∧ m ≤ z ∧ z ≤ M + 1 ∧ M + 1 - z ≤ kx ∧ wr = e.w ∧ out.length ≤ 1000 ∧ Hid (OwnI e.w (w.heap.size + 1) ro co out) ∧ Hid (out = turnsFrom m (z - 1 - m)))
  case atStart => exact ⟨m, ⟨w.alloc (.cells #[.slice (some ⟨bX, off, none⟩) n cap] 24), Below.refl _ _⟩, none, 0, [], rfl, rfl, Nat.le_refl _, by omega, Nat.le_refl _, rfl, by simp, Lib.hid (OwnI.nil _ _), Lib.hid (by rw [show m - 1 - m = 0 by omega]; rfl)⟩
  case round =>
    obtain ⟨z, e, ro, co, out, rfl, rfl, hz1, hz2, hkx, rfl, hol, HO, HQ⟩ := hrel
    have hes := e.h.size
    simp only [World.size_alloc] at hes
    have hbo : w.heap.size < e.w.heap.size := by omega
    have z0 : (0 : Int) ≤ (z : Int) := by omega
    by_cases hzM : z ≤ M
    · have hw1 : IntKind.i64.wrap ((z : Int) * 23040) = (z : Int) * 23040 := hwA _ (by omega) (by omega)
      have c1 : (z : Int) * 23040 ≤ (T : Int) := by omega
      by_cases hzm : z = m
      · have c2 : ¬ (F : Int) < (z : Int) * 23040 := by omega
        have HQ2 : Hid (out = turnsFrom m (z + 1 - 1 - m)) := Lib.hid (by rw [HQ.out, hzm, show m - 1 - m = 0 by omega, show m + 1 - 1 - m = 0 by omega])
        clear hzm
        go_wp2
        go_roundg (M + 1 - (z + 1))
        case measure => omega
        case rel => exact ⟨z + 1, e, ro, co, out, rfl, by go_num, by omega, by omega, by omega, rfl, hol, HO, HQ2⟩
      · have c2 : (F : Int) < (z : Int) * 23040 := by omega
        have HQ2 : Hid (out ++ [(z : Int) * 23040] = turnsFrom m (z + 1 - 1 - m)) := Lib.hid (by
          rw [HQ.out, show z + 1 - 1 - m = (z - 1 - m) + 1 by omega, turnsFrom_succ, show m + 1 + (z - 1 - m) = z by omega])
        have hol2 : (out ++ [(z : Int) * 23040]).length ≤ 1000 := by
          rw [HQ2.out, turnsFrom_len]
          have := HDL.out
          omega
        clear hzm
        go_wp2_with (at_builtin; refine wpList_append_int (by rfl) _ _ (by rfl) e.w (w.heap.size + 1) ro co out ((z : Int) * 23040) (by rfl) (by rfl) (by rfl) HO.out (by omega) (by omega) ?_; intro r' cap' w1 hown1 hbw1)
        have HO1 := Lib.hid hown1
        clear hown1
        have hw1s := hbw1.size
        go_roundg (M + 1 - (z + 1))
        case measure => omega
        case rel => exact ⟨z + 1, ⟨w1, e.h.trans (hbw1.mono (by simp only [World.size_alloc]; omega))⟩, r', cap', out ++ [(z : Int) * 23040], by simp, by go_num, by omega, by omega, by omega, rfl, hol2, HO1, HQ2⟩
    · obtain rfl : z = M + 1 := by omega
      have c1 : ¬ ((M + 1 : Nat) : Int) * 23040 ≤ (T : Int) := by omega
      have hw1 : IntKind.i64.wrap (((M + 1 : Nat) : Int) * 23040) = ((M + 1 : Nat) : Int) * 23040 := hwA _ (by omega) (by omega)
      have HQ2 : Hid (out = turnsFrom m (M - m)) := Lib.hid (by rw [HQ.out, show M + 1 - 1 - m = M - m by omega])
      clear HQ hkx
      generalize ((M + 1 : Nat) : Int) = MM at *
      go_wp2
      have HW2 : Hid (Below (w.alloc (.cells #[.slice (some ⟨bX, off, none⟩) n cap] 24)).heap.size (w.alloc (.cells #[.slice (some ⟨bX, off, none⟩) n cap] 24)) e.w) := Lib.hid e.h
      go_loopg [7, 9] (cN + 1 - c0) (fun kx s7 s9 wr => ∃ (z : Nat) (e2 : Later e.w) (r2 : Option Addr) (k2 : Nat) (out2 : List Int), s7 = .slice r2 out2.length k2 ∧ s9 = .int .i64 z ∧ c0 ≤ z ∧ z ≤ cN + 1 ∧ cN + 1 - z ≤ kx ∧ wr = e2.w ∧ Hid (OwnI e2.w e.w.heap.size r2 k2 out2) ∧ Hid (out2 = idE xs F T c0 (z - c0)))
      case atStart => exact ⟨c0, ⟨e.w, Below.refl _ _⟩, none, 0, [], rfl, rfl, Nat.le_refl _, by omega, Nat.le_refl _, rfl, Lib.hid (OwnI.nil _ _), Lib.hid (by rw [Nat.sub_self]; rfl)⟩
      case round =>
        obtain ⟨z, e2, r2, k2, out2, rfl, rfl, hz1, hz2, hkx, rfl, HO2, HR⟩ := hrel
        have he2s := e2.h.size
        have hbo2 : w.heap.size < e2.w.heap.size := by omega
        have z0 : (0 : Int) ≤ (z : Int) := by omega
        by_cases hzM : z ≤ cN
        · have hw2 : IntKind.i64.wrap ((z : Int) * 46080) = (z : Int) * 46080 := hwA _ (by omega) (by omega)
          have c2 : (z : Int) * 46080 ≤ (T : Int) := by omega
          go_wp2
          go_loopg [7, 41] n (fun ky s7 s41 wr => ∃ (k : Nat) (e2 : Later e.w) (r2 : Option Addr) (k2 : Nat) (out2 : List Int), s7 = .slice r2 out2.length k2 ∧ s41 = .int .i64 k ∧ k ≤ n ∧ n - k ≤ ky ∧ wr = e2.w ∧ Hid (OwnI e2.w e.w.heap.size r2 k2 out2) ∧ Hid (out2 = idE xs F T c0 (z - c0) ++ cycK xs F T z k))
          case atStart => exact ⟨0, e2, r2, k2, out2, rfl, rfl, Nat.zero_le _, by omega, rfl, HO2, Lib.hid (by rw [HR.out, cycK_zero, List.append_nil])⟩
          case round =>
            clear HO2 HR hbo2 he2s
            clear e2 r2 k2 out2
            obtain ⟨k, e2, r2, k2, out2, rfl, rfl, hk, hky, rfl, HO2, HR⟩ := hrel
            have he2s := e2.h.size
            have hbo2 : w.heap.size < e2.w.heap.size := by omega
            have HLE : out2.length ≤ 1000 := by
              rw [HR.out, List.length_append]
              have h1 := idE_len (by have := HLX.out; have := HN.out; omega : xs.length ≤ 8) F T c0 (z - c0)
              have h2 := cycK_len xs F T z k
              have h3 := HDE.out
              omega
            by_cases hlt : k < n
            · have hk1 : (0 : Int) ≤ (k : Int) := by omega
              have hk2 : (k : Int) < n := by omega
              have hc1 : e2.w.cell? ⟨bX, off + k, none⟩ = some (.int .i64 (xs.getD k 0)) := by
                rw [Later.cell e2 (by omega), Later.cell e (by simp only [World.size_alloc]; omega)]
                have hbw : Below w.heap.size w (w.alloc (.cells #[.slice (some ⟨bX, off, none⟩) n cap] 24)) := by (repeat' (first | (with_reducible exact Below.refl _ _) | (with_reducible assumption) | (with_reducible refine below_alloc ?_ _) | (with_reducible refine Below.drew ?_) | (with_reducible refine below_drewN ?_ _) | (with_reducible refine below_step (by assumption) ?_) | (with_reducible refine below_later ?_ _) | (with_reducible refine Below.setCell ?_ ?_ _) | go_size))
                rw [hbw.cell (p := ⟨bX, off + k, none⟩) hbX]
                exact HCX.out k hlt
              have ⟨x0, x1⟩ := HEX.out k hlt
              have HS := Lib.hid (cycK_succ (xs := xs) (F : Int) (T : Int) z (k := k) (by have := HN.out; omega))
              generalize xs.getD k 0 = x at hc1 x0 x1 HS
              have hw3 : IntKind.i64.wrap ((z : Int) * 46080 + x) = (z : Int) * 46080 + x := hwA _ (by omega) (by omega)
              by_cases d1 : (F : Int) < (z : Int) * 46080 + x
              · by_cases d2 : (z : Int) * 46080 + x ≤ (T : Int)
                · have HS2 : Hid (out2 ++ [(z : Int) * 46080 + x] = idE xs F T c0 (z - c0) ++ cycK xs F T z (k + 1)) := Lib.hid (by rw [HS.out, if_pos ⟨d1, d2⟩, HR.out, List.append_assoc])
                  clear HS
                  go_wp2_with (at_builtin; refine wpList_append_int (by rfl) _ _ (by rfl) e2.w e.w.heap.size r2 k2 out2 ((z : Int) * 46080 + x) (by rfl) (by rfl) (by rfl) HO2.out (by omega) (by omega) ?_; intro r' cap' w1 hown1 hbw1)
                  have HO3 := Lib.hid hown1
                  clear hown1
                  go_roundg (n - (k + 1))
                  case measure => omega
                  case rel => exact ⟨k + 1, ⟨w1, e2.h.trans hbw1⟩, r', cap', out2 ++ [(z : Int) * 46080 + x], by simp, by go_num, by omega, by omega, rfl, HO3, HS2⟩
                · have HS2 : Hid (out2 = idE xs F T c0 (z - c0) ++ cycK xs F T z (k + 1)) := Lib.hid (by rw [HS.out, if_neg (fun h => d2 h.2), HR.out, List.append_nil])
                  clear HS
                  go_wp2
                  go_roundg (n - (k + 1))
                  case measure => omega
                  case rel => exact ⟨k + 1, e2, r2, k2, out2, rfl, by go_num, by omega, by omega, rfl, HO2, HS2⟩
              · have HS2 : Hid (out2 = idE xs F T c0 (z - c0) ++ cycK xs F T z (k + 1)) := Lib.hid (by rw [HS.out, if_neg (fun h => d1 h.1), HR.out, List.append_nil])
                clear HS
                go_wp2
                go_roundg (n - (k + 1))
                case measure => omega
                case rel => exact ⟨k + 1, e2, r2, k2, out2, rfl, by go_num, by omega, by omega, rfl, HO2, HS2⟩
            · obtain rfl : k = n := by omega
              have HR2 : Hid (out2 = idE xs F T c0 (z + 1 - c0)) := Lib.hid (by
                have hkn := HN.out
                rw [HR.out, show z + 1 - c0 = (z - c0) + 1 by omega, idE_succ, show c0 + (z - c0) = z by omega, ← cycK_all, hkn])
              go_wp2
              go_roundg (cN + 1 - (z + 1))
              case measure => omega
              case rel => exact ⟨z + 1, e2, r2, k2, out2, rfl, by go_num, by omega, by omega, by omega, rfl, HO2, HR2⟩
        · obtain rfl : z = cN + 1 := by omega
          have c2 : ¬ ((cN + 1 : Nat) : Int) * 46080 ≤ (T : Int) := by omega
          have hw2 : IntKind.i64.wrap (((cN + 1 : Nat) : Int) * 46080) = ((cN + 1 : Nat) : Int) * 46080 := hwA _ (by omega) (by omega)
          have HR2 : Hid (out2 = idE xs F T c0 (cN - c0 + 1)) := Lib.hid (by rw [HR.out, show cN + 1 - c0 = cN - c0 + 1 by omega])
          have HT1 : Hid (∀ x ∈ turnsFrom m (M - m), (Lit.int .i64 x).wf = true) := Lib.hid (fun x hx => by
            rw [turnsFrom_map, List.mem_map] at hx
            obtain ⟨i, hi, rfl⟩ := hx
            rw [List.mem_range] at hi
            exact WalkArith.wf_i64 (by omega))
          have HT2 : Hid (∀ x ∈ idE xs F T c0 (cN - c0 + 1), (Lit.int .i64 x).wf = true) := Lib.hid (fun x hx => by
            have := idE_in HCAM.out F T c0 hx
            exact WalkArith.wf_i64 (by omega))
          clear HR hkx
          generalize ((cN + 1 : Nat) : Int) = NN at *
          go_wp2
          go_ret2
          rw [← HQ2.out, ← HR2.out]
          have hI2 := HO2.out.ints (by rw [HR2.out]; exact HT2.out)
          have hI1 := (HO.out.below e2.h (Nat.le_refl _)).ints (by rw [HQ2.out]; exact HT1.out)
          exact ⟨ro, co, r2, k2, rfl, hI1, hI2, by (repeat' (first | (with_reducible exact Below.refl _ _) | (with_reducible assumption) | (with_reducible refine below_alloc ?_ _) | (with_reducible refine Below.drew ?_) | (with_reducible refine below_drewN ?_ _) | (with_reducible refine below_step (by assumption) ?_) | (with_reducible refine below_later ?_ _) | (with_reducible refine Below.setCell ?_ ?_ _) | go_size))⟩
end Go.Proofs.Ytoninaidinnbgaa
