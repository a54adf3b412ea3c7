/- Contract of the reference's Run of phases. Printed by a program. -/
import Derived.Test.YtoninaidinnbgaaPhaseC
namespace Go.Proofs.Ytoninaidinnbgaa
set_option linter.unusedVariables false
set_option linter.unusedSimpArgs false
open Go.RowKit Go.ChangeShapes Go.WideShapes Go.ChangeAt

set_option maxRecDepth 100000 in
set_option maxHeartbeats 4000000 in
theorem rrun_ok (r r1 r2 : Option Addr) (cap c1 c2 : Nat) (xs ts es : List Int) (w : World) (hx : IsInts w r cap .i64 xs) (h1 : IsInts w r1 c1 .i64 ts) (h2 : IsInts w r2 c2 .i64 es) (hc : camB xs = true) (hl1 : ts.length ≤ 1000) (hl2 : es.length ≤ 1000) :
    Calls Try.prog 23 #[.agg #[.slice r xs.length cap], .slice r1 ts.length c1, .slice r2 es.length c2] w fun e w' => ∃ ro co, e = .returned (.slice ro ts.length co) ∧ OwnR 34 4 phC w' w.heap.size ro co (phRun (halfI xs).1 (halfI xs).2 phZero ts es) ∧ Below w.heap.size w w' := by
  have HX : Hid (∀ w', Below w.heap.size w w' → IsInts w' r cap .i64 xs) := Lib.hid (fun _ h => hx.later h)
  have HCP : Hid (∀ p : Ph, p.Ok → cphB xs p = true) := Lib.hid (fun p hp => by rw [cphB, hc, phB_true.2 hp]; rfl)
  have HTL : Hid (ts = [] ∨ ∃ b off, r1 = some ⟨b, off, none⟩ ∧ b < w.heap.size ∧ ∀ i, i < ts.length → w.cell? ⟨b, off + i, none⟩ = some (.int .i64 (ts.getD i 0))) := Lib.hid (by
    by_cases e : ts = []
    · exact .inl e
    · exact .inr (h1.cells e))
  have HEL : Hid (es = [] ∨ ∃ b off, r2 = some ⟨b, off, none⟩ ∧ b < w.heap.size ∧ ∀ i, i < es.length → w.cell? ⟨b, off + i, none⟩ = some (.int .i64 (es.getD i 0))) := Lib.hid (by
    by_cases e : es = []
    · exact .inl e
    · exact .inr (h2.cells e))
  clear hx h1 h2 hc
  generalize hn : ts.length = n at *
  have HNn := Lib.hid hn
  clear hn
  generalize hm : es.length = m at *
  have HMm := Lib.hid hm
  clear hm
  go_enter Try.func23, Try.ntmps23
  go_wp2
  go_loopg [7, 9, 10] n (fun kx s7 s9 s10 wr => ∃ (k : Nat) (ro : Option Addr) (co : Nat) (out : List Ph) (q : Later (w.alloc (.cells #[.slice r xs.length cap] 24))) (j : Nat) (pk ps : Bool) (ph pc : Int), s7 = .slice ro out.length co ∧ s9 = .int .i64 j ∧ s10 = .int .i64 k ∧ k ≤ n ∧ n - k ≤ kx ∧ j ≤ m ∧ wr = q.w ∧ out.length ≤ 1000 ∧ Hid (out.length = k) ∧ Hid (OwnR 34 4 phC q.w (w.heap.size + 2) ro co out) ∧ q.w.cell? ⟨w.heap.size + 1, 0, none⟩ = some (.bool pk) ∧ q.w.cell? ⟨w.heap.size + 1, 1, none⟩ = some (.int .i64 ph) ∧ q.w.cell? ⟨w.heap.size + 1, 2, none⟩ = some (.int .i64 pc) ∧ q.w.cell? ⟨w.heap.size + 1, 3, none⟩ = some (.bool ps) ∧ q.w.frozen? ⟨w.heap.size + 1, 0, none⟩ = false ∧ q.w.frozen? ⟨w.heap.size + 1, 1, none⟩ = false ∧ q.w.frozen? ⟨w.heap.size + 1, 2, none⟩ = false ∧ q.w.frozen? ⟨w.heap.size + 1, 3, none⟩ = false ∧ w.heap.size + 2 ≤ q.w.heap.size ∧ Hid (cphB xs ⟨pk, ph, pc, ps⟩ = true) ∧ Hid (phRun (halfI xs).1 (halfI xs).2 phZero ts es = out ++ phRun (halfI xs).1 (halfI xs).2 ⟨pk, ph, pc, ps⟩ (ts.drop k) (es.drop j)))
  case atStart => exact ⟨0, none, 0, [], ⟨(w.alloc (.cells #[.slice r xs.length cap] 24)).alloc (.cells #[.bool false, .int .i64 0, .int .i64 0, .bool false] 34), by (repeat' (first | (with_reducible exact Below.refl _ _) | (with_reducible assumption) | (with_reducible refine below_alloc ?_ _) | (with_reducible refine Below.drew ?_) | (with_reducible refine below_drewN ?_ _) | (with_reducible refine below_step (by assumption) ?_) | (with_reducible refine below_later ?_ _) | (with_reducible refine Below.setCell ?_ ?_ _) | go_size))⟩, 0, false, false, 0, 0, rfl, rfl, rfl, by omega, by omega, by omega, rfl, by simp, Lib.hid rfl, Lib.hid (OwnR.nil _ _), by simp [go_sem], by simp [go_sem], by simp [go_sem], by simp [go_sem], by simp [go_sem], by simp [go_sem], by simp [go_sem], by simp [go_sem], by simp [go_sem], Lib.hid (HCP.out _ phZero_ok), Lib.hid rfl⟩
  case round =>
    obtain ⟨k, ro, co, out, q, j, pk, ps, ph, pc, rfl, rfl, rfl, hk, hkx, hj, rfl, ho8, HOUT, HO, d0, d1, d2, d3, f0, f1, f2, f3, hL, HOK, HQ⟩ := hrel
    by_cases hlt : k < n
    · have hk1 : (0 : Int) ≤ (k : Int) := by omega
      have hk2 : (k : Int) < n := by omega
      obtain ⟨bT, oT, rfl, hbT, hcT⟩ := HTL.out.resolve_left (fun e => by have := HNn.out; rw [e] at this; simp at this; omega)
      have hct := hcT k (by have := HNn.out; omega)
      have HDROP : Hid (ts.drop k = ts.getD k 0 :: ts.drop (k + 1)) := Lib.hid (by
        have hkt : k < ts.length := by have := HNn.out; omega
        rw [List.drop_eq_getElem_cons hkt]
        simp [List.getD, List.getElem?_eq_getElem hkt])
      generalize ts.getD k 0 = t at hct HDROP
      clear hcT
      go_wp2
      go_loopg [9] m (fun ky s9 wr => ∃ (q : Later (w.alloc (.cells #[.slice r xs.length cap] 24))) (jj : Nat) (pk2 ps2 : Bool) (ph2 pc2 : Int), s9 = .int .i64 jj ∧ jj ≤ m ∧ m - jj ≤ ky ∧ wr = q.w ∧ Hid (OwnR 34 4 phC q.w (w.heap.size + 2) ro co out) ∧ q.w.cell? ⟨w.heap.size + 1, 0, none⟩ = some (.bool pk2) ∧ q.w.cell? ⟨w.heap.size + 1, 1, none⟩ = some (.int .i64 ph2) ∧ q.w.cell? ⟨w.heap.size + 1, 2, none⟩ = some (.int .i64 pc2) ∧ q.w.cell? ⟨w.heap.size + 1, 3, none⟩ = some (.bool ps2) ∧ q.w.frozen? ⟨w.heap.size + 1, 0, none⟩ = false ∧ q.w.frozen? ⟨w.heap.size + 1, 1, none⟩ = false ∧ q.w.frozen? ⟨w.heap.size + 1, 2, none⟩ = false ∧ q.w.frozen? ⟨w.heap.size + 1, 3, none⟩ = false ∧ w.heap.size + 2 ≤ q.w.heap.size ∧ Hid (cphB xs ⟨pk2, ph2, pc2, ps2⟩ = true) ∧ Hid (phEdges t ⟨pk, ph, pc, ps⟩ (es.drop j) = phEdges t ⟨pk2, ph2, pc2, ps2⟩ (es.drop jj)))
      case atStart => exact ⟨q, j, pk, ps, ph, pc, rfl, hj, by omega, rfl, HO, d0, d1, d2, d3, f0, f1, f2, f3, hL, HOK, Lib.hid rfl⟩
      case round =>
        clear HO d0 d1 d2 d3 f0 f1 f2 f3 hL HOK hj
        clear q
        obtain ⟨q, JJ, pk2, ps2, ph2, pc2, rfl, hj, hky, rfl, HO, d0, d1, d2, d3, f0, f1, f2, f3, hL, HOK, HIN⟩ := hrel
        have hqs := q.h.size
        have hqo : w.heap.size < q.w.heap.size := by omega
        have hqB : w.heap.size + 1 < q.w.heap.size := by omega
        have hct1 : q.w.cell? ⟨bT, oT + k, none⟩ = some (.int .i64 t) := by
          rw [(show Below w.heap.size w q.w by (repeat' (first | (with_reducible exact Below.refl _ _) | (with_reducible assumption) | (with_reducible refine below_alloc ?_ _) | (with_reducible refine Below.drew ?_) | (with_reducible refine below_drewN ?_ _) | (with_reducible refine below_step (by assumption) ?_) | (with_reducible refine below_later ?_ _) | (with_reducible refine Below.setCell ?_ ?_ _) | go_size))).cell (p := ⟨bT, oT + k, none⟩) hbT]
          exact hct
        by_cases hjm : JJ < m
        · have hj1 : (0 : Int) ≤ (JJ : Int) := by omega
          have hj2 : (JJ : Int) < m := by omega
          obtain ⟨bE, oE, rfl, hbE, hcE⟩ := HEL.out.resolve_left (fun e => by have := HMm.out; rw [e] at this; simp at this; omega)
          have hce : q.w.cell? ⟨bE, oE + JJ, none⟩ = some (.int .i64 (es.getD JJ 0)) := by
            rw [(show Below w.heap.size w q.w by (repeat' (first | (with_reducible exact Below.refl _ _) | (with_reducible assumption) | (with_reducible refine below_alloc ?_ _) | (with_reducible refine Below.drew ?_) | (with_reducible refine below_drewN ?_ _) | (with_reducible refine below_step (by assumption) ?_) | (with_reducible refine below_later ?_ _) | (with_reducible refine Below.setCell ?_ ?_ _) | go_size))).cell (p := ⟨bE, oE + JJ, none⟩) hbE]
            exact hcE JJ (by have := HMm.out; omega)
          have HED0 : Hid (es.drop JJ = es.getD JJ 0 :: es.drop (JJ + 1)) := Lib.hid (by
            have hkt : JJ < es.length := by have := HMm.out; omega
            rw [List.drop_eq_getElem_cons hkt]
            simp [List.getD, List.getElem?_eq_getElem hkt])
          generalize es.getD JJ 0 = x at hce HED0
          clear hcE
          by_cases hxt : x ≤ t
          · obtain ⟨ek, eh, ec, es2, hed⟩ : ∃ ek eh ec es2, (Ph.mk pk2 ph2 pc2 ps2).edge = ⟨ek, eh, ec, es2⟩ := ⟨_, _, _, _, rfl⟩
            have HED := Lib.hid hed
            have hph := phB_true.1 (by have := HOK.out; simp only [cphB, Bool.and_eq_true] at this; exact this.2)
            have HPC := Lib.hid (fun w => edgeR_any pk2 ps2 ph2 pc2 ek es2 eh ec w hph.cnt HED.out)
            have HOK2 : Hid (cphB xs ⟨ek, eh, ec, es2⟩ = true) := Lib.hid (by
              rw [← HED.out]
              exact HCP.out _ (Ph.Ok.edge hph))
            have HIN2 : Hid (phEdges t ⟨pk, ph, pc, ps⟩ (es.drop j) = phEdges t ⟨ek, eh, ec, es2⟩ (es.drop (JJ + 1))) := Lib.hid (by
              rw [HIN.out, HED0.out, phEdges, if_pos hxt, HED.out])
            clear hed hph
            go_wp2
            go_quiet (fail)
            go_wp2_with (go_at_call 19; refine (HPC.out _).mono ?_; rintro e hbew ⟨rfl, hbe⟩; have hbeq : Below q.w.heap.size q.w hbew := (by (repeat' (first | (with_reducible exact Below.refl _ _) | (with_reducible assumption) | (with_reducible refine below_alloc ?_ _) | (with_reducible refine Below.drew ?_) | (with_reducible refine below_drewN ?_ _) | (with_reducible refine below_step (by assumption) ?_) | (with_reducible refine below_later ?_ _) | (with_reducible refine Below.setCell ?_ ?_ _) | go_size))); obtain ⟨hbec, hbef⟩ := bcell hbeq; have hbes := hbeq.size)
            go_roundg (m - (JJ + 1))
            case measure => omega
            case rel =>
              have hw3 : Below (w.alloc (.cells #[.slice r xs.length cap] 24)).heap.size (w.alloc (.cells #[.slice r xs.length cap] 24)) (set4 hbew (w.heap.size + 1) ek eh ec es2) := by (repeat' (first | (with_reducible exact Below.refl _ _) | (with_reducible assumption) | (with_reducible refine below_alloc ?_ _) | (with_reducible refine Below.drew ?_) | (with_reducible refine below_drewN ?_ _) | (with_reducible refine below_step (by assumption) ?_) | (with_reducible refine below_later ?_ _) | (with_reducible refine Below.setCell ?_ ?_ _) | go_size))
              have hbes := hbeq.size
              refine ⟨⟨set4 hbew (w.heap.size + 1) ek eh ec es2, hw3⟩, JJ + 1, ek, es2, eh, ec, by go_num, by omega, by omega, rfl, Lib.hid ((HO.out.below hbeq (Nat.le_refl _)).set4 (by omega) _ _ _ _), by simp [set4, go_sem, *], by simp [set4, go_sem, *], by simp [set4, go_sem, *], by simp [set4, go_sem, *], by simp [set4, go_sem, *], by simp [set4, go_sem, *], by simp [set4, go_sem, *], by simp [set4, go_sem, *], ?_, HOK2, HIN2⟩
              show w.heap.size + 2 ≤ (set4 hbew (w.heap.size + 1) ek eh ec es2).heap.size
              simp only [World.size_setCell]
              omega
          · have hxt2 : ¬ x ≤ t := hxt
            have HEND : Hid (phEdges t ⟨pk2, ph2, pc2, ps2⟩ (es.drop JJ) = (⟨pk2, ph2, pc2, ps2⟩, es.drop JJ)) := Lib.hid (by rw [HED0.out, phEdges, if_neg hxt2])
            obtain ⟨tk, th, tc, tsn, htn⟩ : ∃ tk th tc tsn, (Ph.mk pk2 ph2 pc2 ps2).turn (halfI xs).1 (halfI xs).2 = ⟨tk, th, tc, tsn⟩ := ⟨_, _, _, _, rfl⟩
            have HTN := Lib.hid htn
            have HPT := Lib.hid (fun w hx => rTurn_any r cap xs pk2 ps2 tk tsn ph2 pc2 th tc w hx HOK.out HTN.out)
            have HOK2 : Hid (cphB xs ⟨tk, th, tc, tsn⟩ = true) := Lib.hid (by rw [← HTN.out]; exact HCP.out _ (Ph.turn_ok _ _ _))
            have HQ2 : Hid (phRun (halfI xs).1 (halfI xs).2 phZero ts es = (out ++ [(⟨tk, th, tc, tsn⟩ : Ph)]) ++ phRun (halfI xs).1 (halfI xs).2 ⟨tk, th, tc, tsn⟩ (ts.drop (k + 1)) (es.drop JJ)) := Lib.hid (by
              rw [HQ.out, HDROP.out, phRun_cons _ _ _ _ _ _ _ _ (HIN.out.trans HEND.out), HTN.out]; simp)
            clear htn
            have HOA : Hid (∀ W, Below q.w.heap.size q.w W → OwnR 34 4 phC (set4 W (w.heap.size + 1) tk th tc tsn) (w.heap.size + 2) ro co out) := Lib.hid (fun W hW => (HO.out.below hW (Nat.le_refl _)).set4 (by omega) _ _ _ _)
            clear HO
            go_wp2
            go_quiet (fail)
            go_wp2_with (first | (go_at_call 20; refine (HPT.out _ (HX.out _ (by (repeat' (first | (with_reducible exact Below.refl _ _) | (with_reducible assumption) | (with_reducible refine below_alloc ?_ _) | (with_reducible refine Below.drew ?_) | (with_reducible refine below_drewN ?_ _) | (with_reducible refine below_step (by assumption) ?_) | (with_reducible refine below_later ?_ _) | (with_reducible refine Below.setCell ?_ ?_ _) | go_size))))).mono ?_; rintro e hbtw ⟨rfl, hbt⟩; have hbtq : Below q.w.heap.size q.w hbtw := (by (repeat' (first | (with_reducible exact Below.refl _ _) | (with_reducible assumption) | (with_reducible refine below_alloc ?_ _) | (with_reducible refine Below.drew ?_) | (with_reducible refine below_drewN ?_ _) | (with_reducible refine below_step (by assumption) ?_) | (with_reducible refine below_later ?_ _) | (with_reducible refine Below.setCell ?_ ?_ _) | go_size))); obtain ⟨hbtc, hbtf⟩ := bcell hbtq; have hbts := hbtq.size) | (at_builtin; refine wpList_append_row (enc := phC) Try.underlying29 infoPhase rfl (by omega) (by omega) (by rfl) _ _ (by rfl) (set4 hbtw (w.heap.size + 1) tk th tc tsn) (w.heap.size + 2) ro co out (⟨tk, th, tc, tsn⟩ : Ph) rfl (phC_one _) (by rfl) (by rfl) (by simp only [set4, World.size_setCell]; rfl) (HOA.out _ hbtq) (by omega) (by show w.heap.size + 2 ≤ (set4 hbtw (w.heap.size + 1) tk th tc tsn).heap.size; simp only [World.size_setCell]; have := hbtq.size; omega) ?_; intro r' cap' w3 hown3 hb3))
            have hw3 : Below (w.alloc (.cells #[.slice r xs.length cap] 24)).heap.size (w.alloc (.cells #[.slice r xs.length cap] 24)) w3 := (show Below (w.alloc (.cells #[.slice r xs.length cap] 24)).heap.size (w.alloc (.cells #[.slice r xs.length cap] 24)) (set4 hbtw (w.heap.size + 1) tk th tc tsn) by (repeat' (first | (with_reducible exact Below.refl _ _) | (with_reducible assumption) | (with_reducible refine below_alloc ?_ _) | (with_reducible refine Below.drew ?_) | (with_reducible refine below_drewN ?_ _) | (with_reducible refine below_step (by assumption) ?_) | (with_reducible refine below_later ?_ _) | (with_reducible refine Below.setCell ?_ ?_ _) | go_size))).trans (hb3.mono (by simp only [World.size_alloc]; omega))
            have hw3s := hb3.size
            simp only [World.size_setCell] at hw3s
            have hbtqs := hbtq.size
            have HOWN := Lib.hid hown3
            clear hown3
            have e0 : w3.cell? ⟨w.heap.size + 1, 0, none⟩ = some (.bool tk) := by rw [hb3.cell (p := ⟨w.heap.size + 1, 0, none⟩) (by show w.heap.size + 1 < w.heap.size + 2; omega)]; simp [set4, go_sem, *]
            have e1 : w3.cell? ⟨w.heap.size + 1, 1, none⟩ = some (.int .i64 th) := by rw [hb3.cell (p := ⟨w.heap.size + 1, 1, none⟩) (by show w.heap.size + 1 < w.heap.size + 2; omega)]; simp [set4, go_sem, *]
            have e2 : w3.cell? ⟨w.heap.size + 1, 2, none⟩ = some (.int .i64 tc) := by rw [hb3.cell (p := ⟨w.heap.size + 1, 2, none⟩) (by show w.heap.size + 1 < w.heap.size + 2; omega)]; simp [set4, go_sem, *]
            have e3 : w3.cell? ⟨w.heap.size + 1, 3, none⟩ = some (.bool tsn) := by rw [hb3.cell (p := ⟨w.heap.size + 1, 3, none⟩) (by show w.heap.size + 1 < w.heap.size + 2; omega)]; simp [set4, go_sem, *]
            have g0 : w3.frozen? ⟨w.heap.size + 1, 0, none⟩ = false := by rw [hb3.frozen (p := ⟨w.heap.size + 1, 0, none⟩) (by show w.heap.size + 1 < w.heap.size + 2; omega)]; simp [set4, go_sem, *]
            have g1 : w3.frozen? ⟨w.heap.size + 1, 1, none⟩ = false := by rw [hb3.frozen (p := ⟨w.heap.size + 1, 1, none⟩) (by show w.heap.size + 1 < w.heap.size + 2; omega)]; simp [set4, go_sem, *]
            have g2 : w3.frozen? ⟨w.heap.size + 1, 2, none⟩ = false := by rw [hb3.frozen (p := ⟨w.heap.size + 1, 2, none⟩) (by show w.heap.size + 1 < w.heap.size + 2; omega)]; simp [set4, go_sem, *]
            have g3 : w3.frozen? ⟨w.heap.size + 1, 3, none⟩ = false := by rw [hb3.frozen (p := ⟨w.heap.size + 1, 3, none⟩) (by show w.heap.size + 1 < w.heap.size + 2; omega)]; simp [set4, go_sem, *]
            go_roundg (n - (k + 1))
            case measure => omega
            case rel => exact ⟨k + 1, r', cap', out ++ [(⟨tk, th, tc, tsn⟩ : Ph)], ⟨w3, hw3⟩, JJ, tk, tsn, th, tc, by simp, rfl, by go_num, by omega, by omega, hj, rfl, by have := HOUT.out; simp; omega, Lib.hid (by have := HOUT.out; simp; omega), HOWN, e0, e1, e2, e3, g0, g1, g2, g3, by show w.heap.size + 2 ≤ w3.heap.size; omega, HOK2, HQ2⟩

        · obtain rfl : JJ = m := by omega
          have HEND : Hid (phEdges t ⟨pk2, ph2, pc2, ps2⟩ (es.drop JJ) = (⟨pk2, ph2, pc2, ps2⟩, es.drop JJ)) := Lib.hid (by rw [List.drop_eq_nil_of_le (by have := HMm.out; omega)]; rfl)
          obtain ⟨tk, th, tc, tsn, htn⟩ : ∃ tk th tc tsn, (Ph.mk pk2 ph2 pc2 ps2).turn (halfI xs).1 (halfI xs).2 = ⟨tk, th, tc, tsn⟩ := ⟨_, _, _, _, rfl⟩
          have HTN := Lib.hid htn
          have HPT := Lib.hid (fun w hx => rTurn_any r cap xs pk2 ps2 tk tsn ph2 pc2 th tc w hx HOK.out HTN.out)
          have HOK2 : Hid (cphB xs ⟨tk, th, tc, tsn⟩ = true) := Lib.hid (by rw [← HTN.out]; exact HCP.out _ (Ph.turn_ok _ _ _))
          have HQ2 : Hid (phRun (halfI xs).1 (halfI xs).2 phZero ts es = (out ++ [(⟨tk, th, tc, tsn⟩ : Ph)]) ++ phRun (halfI xs).1 (halfI xs).2 ⟨tk, th, tc, tsn⟩ (ts.drop (k + 1)) (es.drop JJ)) := Lib.hid (by
            rw [HQ.out, HDROP.out, phRun_cons _ _ _ _ _ _ _ _ (HIN.out.trans HEND.out), HTN.out]; simp)
          clear htn
          have HOA : Hid (∀ W, Below q.w.heap.size q.w W → OwnR 34 4 phC (set4 W (w.heap.size + 1) tk th tc tsn) (w.heap.size + 2) ro co out) := Lib.hid (fun W hW => (HO.out.below hW (Nat.le_refl _)).set4 (by omega) _ _ _ _)
          clear HO
          go_wp2
          go_quiet (fail)
          go_wp2_with (first | (go_at_call 20; refine (HPT.out _ (HX.out _ (by (repeat' (first | (with_reducible exact Below.refl _ _) | (with_reducible assumption) | (with_reducible refine below_alloc ?_ _) | (with_reducible refine Below.drew ?_) | (with_reducible refine below_drewN ?_ _) | (with_reducible refine below_step (by assumption) ?_) | (with_reducible refine below_later ?_ _) | (with_reducible refine Below.setCell ?_ ?_ _) | go_size))))).mono ?_; rintro e hbtw ⟨rfl, hbt⟩; have hbtq : Below q.w.heap.size q.w hbtw := (by (repeat' (first | (with_reducible exact Below.refl _ _) | (with_reducible assumption) | (with_reducible refine below_alloc ?_ _) | (with_reducible refine Below.drew ?_) | (with_reducible refine below_drewN ?_ _) | (with_reducible refine below_step (by assumption) ?_) | (with_reducible refine below_later ?_ _) | (with_reducible refine Below.setCell ?_ ?_ _) | go_size))); obtain ⟨hbtc, hbtf⟩ := bcell hbtq; have hbts := hbtq.size) | (at_builtin; refine wpList_append_row (enc := phC) Try.underlying29 infoPhase rfl (by omega) (by omega) (by rfl) _ _ (by rfl) (set4 hbtw (w.heap.size + 1) tk th tc tsn) (w.heap.size + 2) ro co out (⟨tk, th, tc, tsn⟩ : Ph) rfl (phC_one _) (by rfl) (by rfl) (by simp only [set4, World.size_setCell]; rfl) (HOA.out _ hbtq) (by omega) (by show w.heap.size + 2 ≤ (set4 hbtw (w.heap.size + 1) tk th tc tsn).heap.size; simp only [World.size_setCell]; have := hbtq.size; omega) ?_; intro r' cap' w3 hown3 hb3))
          have hw3 : Below (w.alloc (.cells #[.slice r xs.length cap] 24)).heap.size (w.alloc (.cells #[.slice r xs.length cap] 24)) w3 := (show Below (w.alloc (.cells #[.slice r xs.length cap] 24)).heap.size (w.alloc (.cells #[.slice r xs.length cap] 24)) (set4 hbtw (w.heap.size + 1) tk th tc tsn) by (repeat' (first | (with_reducible exact Below.refl _ _) | (with_reducible assumption) | (with_reducible refine below_alloc ?_ _) | (with_reducible refine Below.drew ?_) | (with_reducible refine below_drewN ?_ _) | (with_reducible refine below_step (by assumption) ?_) | (with_reducible refine below_later ?_ _) | (with_reducible refine Below.setCell ?_ ?_ _) | go_size))).trans (hb3.mono (by simp only [World.size_alloc]; omega))
          have hw3s := hb3.size
          simp only [World.size_setCell] at hw3s
          have hbtqs := hbtq.size
          have HOWN := Lib.hid hown3
          clear hown3
          have e0 : w3.cell? ⟨w.heap.size + 1, 0, none⟩ = some (.bool tk) := by rw [hb3.cell (p := ⟨w.heap.size + 1, 0, none⟩) (by show w.heap.size + 1 < w.heap.size + 2; omega)]; simp [set4, go_sem, *]
          have e1 : w3.cell? ⟨w.heap.size + 1, 1, none⟩ = some (.int .i64 th) := by rw [hb3.cell (p := ⟨w.heap.size + 1, 1, none⟩) (by show w.heap.size + 1 < w.heap.size + 2; omega)]; simp [set4, go_sem, *]
          have e2 : w3.cell? ⟨w.heap.size + 1, 2, none⟩ = some (.int .i64 tc) := by rw [hb3.cell (p := ⟨w.heap.size + 1, 2, none⟩) (by show w.heap.size + 1 < w.heap.size + 2; omega)]; simp [set4, go_sem, *]
          have e3 : w3.cell? ⟨w.heap.size + 1, 3, none⟩ = some (.bool tsn) := by rw [hb3.cell (p := ⟨w.heap.size + 1, 3, none⟩) (by show w.heap.size + 1 < w.heap.size + 2; omega)]; simp [set4, go_sem, *]
          have g0 : w3.frozen? ⟨w.heap.size + 1, 0, none⟩ = false := by rw [hb3.frozen (p := ⟨w.heap.size + 1, 0, none⟩) (by show w.heap.size + 1 < w.heap.size + 2; omega)]; simp [set4, go_sem, *]
          have g1 : w3.frozen? ⟨w.heap.size + 1, 1, none⟩ = false := by rw [hb3.frozen (p := ⟨w.heap.size + 1, 1, none⟩) (by show w.heap.size + 1 < w.heap.size + 2; omega)]; simp [set4, go_sem, *]
          have g2 : w3.frozen? ⟨w.heap.size + 1, 2, none⟩ = false := by rw [hb3.frozen (p := ⟨w.heap.size + 1, 2, none⟩) (by show w.heap.size + 1 < w.heap.size + 2; omega)]; simp [set4, go_sem, *]
          have g3 : w3.frozen? ⟨w.heap.size + 1, 3, none⟩ = false := by rw [hb3.frozen (p := ⟨w.heap.size + 1, 3, none⟩) (by show w.heap.size + 1 < w.heap.size + 2; omega)]; simp [set4, go_sem, *]
          go_roundg (n - (k + 1))
          case measure => omega
          case rel => exact ⟨k + 1, r', cap', out ++ [(⟨tk, th, tc, tsn⟩ : Ph)], ⟨w3, hw3⟩, JJ, tk, tsn, th, tc, by simp, rfl, by go_num, by omega, by omega, hj, rfl, by have := HOUT.out; simp; omega, Lib.hid (by have := HOUT.out; simp; omega), HOWN, e0, e1, e2, e3, g0, g1, g2, g3, by show w.heap.size + 2 ≤ w3.heap.size; omega, HOK2, HQ2⟩

    · obtain rfl : k = n := by omega
      have HEQ : Hid (phRun (halfI xs).1 (halfI xs).2 phZero ts es = out) := Lib.hid (by
        rw [HQ.out, List.drop_eq_nil_of_le (by have := HNn.out; omega)]
        simp [phRun])
      have hol := HOUT.out
      have HOL := Lib.hid hol
      clear hol
      go_wp2
      go_ret
      refine ⟨ro, co, by first | rfl | (rw [HOL.out]; rfl), ?_, by (repeat' (first | (with_reducible exact Below.refl _ _) | (with_reducible assumption) | (with_reducible refine below_alloc ?_ _) | (with_reducible refine Below.drew ?_) | (with_reducible refine below_drewN ?_ _) | (with_reducible refine below_step (by assumption) ?_) | (with_reducible refine below_later ?_ _) | (with_reducible refine Below.setCell ?_ ?_ _) | go_size))⟩
      rw [HEQ.out]
      exact HO.out.base (by omega)
end Go.Proofs.Ytoninaidinnbgaa
