/- Contracts of spark.Fires and its reference. Printed by a program. -/
import Derived.Test.YtohdbneaganfbaaFireB
import Derived.Deep.RegionHeld3
namespace Go.Proofs.Ytohdbneaganfbaa
set_option linter.unusedVariables false
set_option linter.unusedSimpArgs false
open Go.RowKit Go.ChangeShapes Go.WideShapes Go.ChangeAt

/-- A fire without a second pulse: cylinder, spark, dwell, end, injection. -/
abbrev Fr := Int × Int × Int × Int × Int
def frC (x : Fr) : List Value := [.int .i64 x.1, .int .i64 x.2.1, .int .i64 x.2.2.1, .int .i64 x.2.2.2.1, .int .i64 x.2.2.2.2, .int .i64 0, .int .i64 0]
theorem frC_len (x : Fr) : (frC x).length = 7 := rfl
theorem frC_one (x : Fr) : ∀ u ∈ frC x, u.oneCell' = true := by
  intro u hu
  simp only [frC, List.mem_cons, List.not_mem_nil, or_false] at hu
  rcases hu with rfl | rfl | rfl | rfl | rfl | rfl | rfl <;> rfl
theorem infoFire : (Try.prog.info? 77).map (fun i => (i.zero, i.size, i.bytes)) = some (some (.agg #[.int .i64 0, .int .i64 0, .int .i64 0, .int .i64 0, .int .i64 0, .int .i64 0, .int .i64 0]), 7, 56) := by kernel_rfl
/-- The fires of lists. -/
def frL (A D E I : List Int) (n : Nat) : List Fr := (List.range n).map fun k : Nat => ((k : Int) + 1, A.getD k 0, D.getD k 0, E.getD k 0, I.getD k 0)
theorem frL_len (A D E I : List Int) (n : Nat) : (frL A D E I n).length = n := by simp [frL]
theorem frL_succ (A D E I : List Int) (n : Nat) : frL A D E I (n + 1) = frL A D E I n ++ [((n : Int) + 1, A.getD n 0, D.getD n 0, E.getD n 0, I.getD n 0)] := by simp [frL, List.range_succ]
structure FrsOk (xs : List Int) (f : Int) (A D E I : List Int) : Prop where
  eng : EngOk xs f
  la : A.length = xs.length
  ld : D.length = xs.length
  le : E.length = xs.length
  li : I.length = xs.length
  all : ∀ k, k < xs.length → fireB xs ((k : Int) + 1) (A.getD k 0) (D.getD k 0) (E.getD k 0) (I.getD k 0) = true
open Classical in
noncomputable def frsB (xs : List Int) (f : Int) (A D E I : List Int) : Bool := decide (FrsOk xs f A D E I)
theorem frsB_true {xs : List Int} {f : Int} {A D E I : List Int} : frsB xs f A D E I = true ↔ FrsOk xs f A D E I := by simp [frsB]
theorem frsB_false {xs : List Int} {f : Int} {A D E I : List Int} : frsB xs f A D E I = false ↔ ¬ FrsOk xs f A D E I := by simp [frsB]
/-- What Fires leaves: the fires, or the error. -/
def FiresPost (bad good : Value) (res : Bool) (n : Nat) (fl : List Fr) (w : World) (e : Ending) (w' : World) : Prop :=
  (res = false ∧ e = .returned (.tuple #[.slice none 0 0, bad]) ∧ Below w.heap.size w w') ∨
  (res = true ∧ ∃ r cap, e = .returned (.tuple #[.slice r n cap, good]) ∧ OwnR 77 7 frC w' w.heap.size r cap fl ∧ Below w.heap.size w w')
set_option maxRecDepth 100000 in
set_option maxHeartbeats 4000000 in
theorem sFires_any (r rA rD rE rI : Option Addr) (cap cA cD cE cI : Nat) (xs A D E I : List Int) (f : Int) (w : World) (hx : IsInts w r cap .i64 xs) (hA : IsInts w rA cA .i64 A) (hD : IsInts w rD cD .i64 D) (hE : IsInts w rE cE .i64 E) (hI : IsInts w rI cI .i64 I) :
    Calls Try.prog 52 #[.agg #[.slice r xs.length cap, .int .i64 f], .slice rA A.length cA, .slice rD D.length cD, .slice rE E.length cE, .slice rI I.length cI] w (FiresPost (.int .i64 1) (.int .i64 0) (frsB xs f A D E I) xs.length (frL A D E I xs.length) w) := by
  have HX : Hid (∀ w', Below w.heap.size w w' → IsInts w' r cap .i64 xs) := Lib.hid (fun _ h => hx.later h)
  have HEV := Lib.hid (fun w hx => evalid_any r cap xs f w hx)
  have lx := Nat.le_trans hx.le hx.max
  have lA := Nat.le_trans hA.le hA.max
  have lD := Nat.le_trans hD.le hD.max
  have lE := Nat.le_trans hE.le hE.max
  have lI := Nat.le_trans hI.le hI.max
  unfold maxLen at lx lA lD lE lI
  cases he : engB xs f with
  | false =>
    rw [he] at HEV
    have H := Lib.hid (frsB_false.2 (fun h : FrsOk xs f A D E I => engB_false.1 he h.eng))
    clear hx hA hD hE hI
    go_enter Try.func52, Try.ntmps52
    go_wp2_with ((go_at_call 88; refine (HEV.out _ (HX.out _ (by (repeat' (first | (with_reducible exact Below.refl _ _) | (with_reducible assumption) | (with_reducible refine below_alloc ?_ _) | (with_reducible refine Below.drew ?_) | (with_reducible refine below_drewN ?_ _) | (with_reducible refine below_step (by assumption) ?_) | (with_reducible refine below_later ?_ _) | (with_reducible refine Below.setCell ?_ ?_ _) | go_size))))).mono ?_; rintro e hb1w ⟨rfl, hb1⟩; obtain ⟨hb1c, hb1f⟩ := bcell hb1; have hb1s := hb1.size; (try simp only [World.size_alloc] at hb1s); (try (have : w.heap.size < hb1w.heap.size := by omega)); (try (have : w.heap.size + 1 < hb1w.heap.size := by omega)); (try (have : w.heap.size + 1 + 1 < hb1w.heap.size := by omega)); (try (have : w.heap.size + 1 + 1 + 1 < hb1w.heap.size := by omega)); (try (have : bX < hb1w.heap.size := by omega)); (try (have : bY < hb1w.heap.size := by omega)); (try (have : bZ < hb1w.heap.size := by omega))))
    go_ret2
    exact .inl ⟨H.out, rfl, by (repeat' (first | (with_reducible exact Below.refl _ _) | (with_reducible assumption) | (with_reducible refine below_alloc ?_ _) | (with_reducible refine Below.drew ?_) | (with_reducible refine below_drewN ?_ _) | (with_reducible refine below_step (by assumption) ?_) | (with_reducible refine below_later ?_ _) | (with_reducible refine Below.setCell ?_ ?_ _) | go_size))⟩
  | true =>
    rw [he] at HEV
    by_cases eA : A.length = xs.length
    · have qA : ((A.length : Int) != (xs.length : Int)) = false := by simp; omega
      have pA : (A.length : Int) = (xs.length : Int) := by omega
      by_cases eD : D.length = xs.length
      · have qD : ((D.length : Int) != (xs.length : Int)) = false := by simp; omega
        have pD : (D.length : Int) = (xs.length : Int) := by omega
        by_cases eE : E.length = xs.length
        · have qE : ((E.length : Int) != (xs.length : Int)) = false := by simp; omega
          have pE : (E.length : Int) = (xs.length : Int) := by omega
          by_cases eI : I.length = xs.length
          · have qI : ((I.length : Int) != (xs.length : Int)) = false := by simp; omega
            have pI : (I.length : Int) = (xs.length : Int) := by omega
            have heng := engB_true.1 he
            have l1 := heng.lo
            have l8 := heng.hi
            obtain ⟨bA, oA, rfl, hbA, hcA⟩ := hA.cells (fun e => by rw [e] at eA; simp at eA; omega)
            obtain ⟨bD, oD, rfl, hbD, hcD⟩ := hD.cells (fun e => by rw [e] at eD; simp at eD; omega)
            obtain ⟨bE, oE, rfl, hbE, hcE⟩ := hE.cells (fun e => by rw [e] at eE; simp at eE; omega)
            obtain ⟨bI, oI, rfl, hbI, hcI⟩ := hI.cells (fun e => by rw [e] at eI; simp at eI; omega)
            have HCA := Lib.hid hcA
            have HCD := Lib.hid hcD
            have HCE := Lib.hid hcE
            have HCI := Lib.hid hcI
            have HLA := Lib.hid eA
            have HLD := Lib.hid eD
            have HLE := Lib.hid eE
            have HLI := Lib.hid eI
            have HT : Hid ((∀ k, k < xs.length → fireB xs ((k : Int) + 1) (A.getD k 0) (D.getD k 0) (E.getD k 0) (I.getD k 0) = true) → frsB xs f A D E I = true) := Lib.hid (fun h => frsB_true.2 ⟨heng, eA, eD, eE, eI, h⟩)
            have HF : Hid (∀ k, k < xs.length → fireB xs ((k : Int) + 1) (A.getD k 0) (D.getD k 0) (E.getD k 0) (I.getD k 0) = false → frsB xs f A D E I = false) := Lib.hid (fun k hk h => frsB_false.2 (fun hh => by have := hh.all k hk; rw [h] at this; cases this))
            have HFI := Lib.hid (fun c s d e i w hx => evalidFire_any r cap xs f c s d e i w hx)
            have HNX : Hid (xs ≠ []) := Lib.hid (fun e => by rw [e] at l1; simp at l1)
            clear hx hA hD hE hI hcA hcD hcE hcI heng
            rw [eA, eD, eE, eI]
            clear qA qD qE qI pA pD pE pI eA eD eE eI lA lD lE lI
            generalize hn : xs.length = n at *
            have HN := Lib.hid hn
            clear hn
            generalize frsB xs f A D E I = res at *
            generalize hfl : frL A D E I = fl at *
            have HFL0 : Hid (fl 0 = []) := Lib.hid (by rw [← hfl]; rfl)
            have HFLS : Hid (∀ k, fl (k + 1) = fl k ++ [((k : Int) + 1, A.getD k 0, D.getD k 0, E.getD k 0, I.getD k 0)]) := Lib.hid (fun k => by rw [← hfl]; exact frL_succ A D E I k)
            have HFLL : Hid (∀ k, (fl k).length = k) := Lib.hid (fun k => by rw [← hfl]; exact frL_len A D E I k)
            clear hfl
            go_enter Try.func52, Try.ntmps52
            go_wp2_with ((go_at_call 88; refine (HEV.out _ (HX.out _ (by (repeat' (first | (with_reducible exact Below.refl _ _) | (with_reducible assumption) | (with_reducible refine below_alloc ?_ _) | (with_reducible refine Below.drew ?_) | (with_reducible refine below_drewN ?_ _) | (with_reducible refine below_step (by assumption) ?_) | (with_reducible refine below_later ?_ _) | (with_reducible refine Below.setCell ?_ ?_ _) | go_size))))).mono ?_; rintro e hb1w ⟨rfl, hb1⟩; obtain ⟨hb1c, hb1f⟩ := bcell hb1; have hb1s := hb1.size; (try simp only [World.size_alloc] at hb1s); (try (have : w.heap.size < hb1w.heap.size := by omega)); (try (have : w.heap.size + 1 < hb1w.heap.size := by omega)); (try (have : w.heap.size + 1 + 1 < hb1w.heap.size := by omega)); (try (have : w.heap.size + 1 + 1 + 1 < hb1w.heap.size := by omega)); (try (have : bX < hb1w.heap.size := by omega)); (try (have : bY < hb1w.heap.size := by omega)); (try (have : bZ < hb1w.heap.size := by omega))))
            go_loopg [13, 47] n (fun kx s13 sk wr => ∃ (k : Nat) (q : Later hb1w) (ro : Option Addr) (co : Nat) (out : List Fr), s13 = .slice ro out.length co ∧ sk = .int .i64 k ∧ k ≤ n ∧ n - k ≤ kx ∧ wr = q.w ∧ Hid (out = fl k) ∧ out.length ≤ 8 ∧ Hid (OwnR 77 7 frC q.w hb1w.heap.size ro co out) ∧ Hid (∀ t, t < k → fireB xs ((t : Int) + 1) (A.getD t 0) (D.getD t 0) (E.getD t 0) (I.getD t 0) = true))
            case atStart => exact ⟨0, ⟨_, Below.refl _ _⟩, none, 0, [], rfl, rfl, by omega, by omega, rfl, Lib.hid HFL0.out.symm, by simp, Lib.hid (OwnR.nil _ _), Lib.hid (fun t h => absurd h (Nat.not_lt_zero _))⟩
            case round =>
              obtain ⟨k, q, ro, co, out, rfl, rfl, hk, hkx, rfl, HOUT, ho8, HO, HP⟩ := hrel
              have hqs := q.h.size
              have hqo : w.heap.size < q.w.heap.size := by omega
              by_cases hlt : k < n
              · have hk1 : (0 : Int) ≤ (k : Int) := by omega
                have hk2 : (k : Int) < n := by omega
                have hbw : Below w.heap.size w q.w := by (repeat' (first | (with_reducible exact Below.refl _ _) | (with_reducible assumption) | (with_reducible refine below_alloc ?_ _) | (with_reducible refine Below.drew ?_) | (with_reducible refine below_drewN ?_ _) | (with_reducible refine below_step (by assumption) ?_) | (with_reducible refine below_later ?_ _) | (with_reducible refine Below.setCell ?_ ?_ _) | go_size))
                have dA : q.w.cell? ⟨bA, oA + k, none⟩ = some (.int .i64 (A.getD k 0)) := by
                  rw [hbw.cell (p := ⟨bA, oA + k, none⟩) hbA]; exact HCA.out k (by have := HLA.out; omega)
                have dD : q.w.cell? ⟨bD, oD + k, none⟩ = some (.int .i64 (D.getD k 0)) := by
                  rw [hbw.cell (p := ⟨bD, oD + k, none⟩) hbD]; exact HCD.out k (by have := HLD.out; omega)
                have dE : q.w.cell? ⟨bE, oE + k, none⟩ = some (.int .i64 (E.getD k 0)) := by
                  rw [hbw.cell (p := ⟨bE, oE + k, none⟩) hbE]; exact HCE.out k (by have := HLE.out; omega)
                have dI : q.w.cell? ⟨bI, oI + k, none⟩ = some (.int .i64 (I.getD k 0)) := by
                  rw [hbw.cell (p := ⟨bI, oI + k, none⟩) hbI]; exact HCI.out k (by have := HLI.out; omega)
                have HBK := Lib.hid (HF.out k hlt)
                have HSK := Lib.hid (HFLS.out k)
                have HGK : Hid (fireB xs ((k : Int) + 1) (A.getD k 0) (D.getD k 0) (E.getD k 0) (I.getD k 0) = true → ∀ t, t < k + 1 → fireB xs ((t : Int) + 1) (A.getD t 0) (D.getD t 0) (E.getD t 0) (I.getD t 0) = true) := Lib.hid (fun h t ht => by
                  by_cases e : t = k
                  · subst e; exact h
                  · exact HP.out t (by omega))
                have HFK := Lib.hid (HFI.out ((k : Int) + 1) (A.getD k 0) (D.getD k 0) (E.getD k 0) (I.getD k 0))
                clear hbw
                generalize A.getD k 0 = av at *
                generalize D.getD k 0 = dv at *
                generalize E.getD k 0 = ev at *
                generalize I.getD k 0 = iv at *
                cases hv : fireB xs ((k : Int) + 1) av dv ev iv with
                | false =>
                  have H := Lib.hid (HBK.out hv)
                  rw [hv, he] at HFK; simp only [Bool.and_true, Bool.true_and, Bool.and_false] at HFK
                  clear hv
                  go_wp2
                  have nA := World.new_ne q.w _ dA
                  have nD := World.new_ne q.w _ dD
                  have nE := World.new_ne q.w _ dE
                  have nI := World.new_ne q.w _ dI
                  go_region_held3 (fun w' => w'.cell? ⟨bA, oA + k, none⟩ = some (.int .i64 av) ∧ w'.cell? ⟨bD, oD + k, none⟩ = some (.int .i64 dv) ∧ w'.cell? ⟨bE, oE + k, none⟩ = some (.int .i64 ev) ∧ w'.cell? ⟨bI, oI + k, none⟩ = some (.int .i64 iv)) (go_keep) (fail)
                  go_wp2_with ((go_at_call 53; refine (HFK.out _ (HX.out _ (by (repeat' (first | (with_reducible exact Below.refl _ _) | (with_reducible assumption) | (with_reducible refine below_alloc ?_ _) | (with_reducible refine Below.drew ?_) | (with_reducible refine below_drewN ?_ _) | (with_reducible refine below_step (by assumption) ?_) | (with_reducible refine below_later ?_ _) | (with_reducible refine Below.setCell ?_ ?_ _) | go_size))))).mono ?_; rintro e hb2w ⟨rfl, hb2⟩; obtain ⟨hb2c, hb2f⟩ := bcell hb2; have hb2s := hb2.size; (try simp only [World.size_alloc] at hb2s); (try (have : w.heap.size < hb2w.heap.size := by omega)); (try (have : w.heap.size + 1 < hb2w.heap.size := by omega)); (try (have : w.heap.size + 1 + 1 < hb2w.heap.size := by omega)); (try (have : w.heap.size + 1 + 1 + 1 < hb2w.heap.size := by omega)); (try (have : bX < hb2w.heap.size := by omega)); (try (have : bY < hb2w.heap.size := by omega)); (try (have : bZ < hb2w.heap.size := by omega))))
                  go_ret2
                  exact .inl ⟨H.out, rfl, by (repeat' (first | (with_reducible exact Below.refl _ _) | (with_reducible assumption) | (with_reducible refine below_alloc ?_ _) | (with_reducible refine Below.drew ?_) | (with_reducible refine below_drewN ?_ _) | (with_reducible refine below_step (by assumption) ?_) | (with_reducible refine below_later ?_ _) | (with_reducible refine Below.setCell ?_ ?_ _) | go_size))⟩
                | true =>
                  have HG := Lib.hid (HGK.out hv)
                  rw [hv, he] at HFK; simp only [Bool.and_true, Bool.true_and, Bool.and_false] at HFK
                  clear hv
                  go_wp2
                  have nA := World.new_ne q.w _ dA
                  have nD := World.new_ne q.w _ dD
                  have nE := World.new_ne q.w _ dE
                  have nI := World.new_ne q.w _ dI
                  go_region_held3 (fun w' => w'.cell? ⟨bA, oA + k, none⟩ = some (.int .i64 av) ∧ w'.cell? ⟨bD, oD + k, none⟩ = some (.int .i64 dv) ∧ w'.cell? ⟨bE, oE + k, none⟩ = some (.int .i64 ev) ∧ w'.cell? ⟨bI, oI + k, none⟩ = some (.int .i64 iv)) (go_keep) (fail)
                  go_wp2_with (first | (go_at_call 53; refine (HFK.out _ (HX.out _ (by (repeat' (first | (with_reducible exact Below.refl _ _) | (with_reducible assumption) | (with_reducible refine below_alloc ?_ _) | (with_reducible refine Below.drew ?_) | (with_reducible refine below_drewN ?_ _) | (with_reducible refine below_step (by assumption) ?_) | (with_reducible refine below_later ?_ _) | (with_reducible refine Below.setCell ?_ ?_ _) | go_size))))).mono ?_; rintro e hb2w ⟨rfl, hb2⟩; obtain ⟨hb2c, hb2f⟩ := bcell hb2; have hb2s := hb2.size; (try simp only [World.size_alloc] at hb2s); (try (have : w.heap.size < hb2w.heap.size := by omega)); (try (have : w.heap.size + 1 < hb2w.heap.size := by omega)); (try (have : w.heap.size + 1 + 1 < hb2w.heap.size := by omega)); (try (have : w.heap.size + 1 + 1 + 1 < hb2w.heap.size := by omega)); (try (have : bX < hb2w.heap.size := by omega)); (try (have : bY < hb2w.heap.size := by omega)); (try (have : bZ < hb2w.heap.size := by omega))) | (at_builtin; refine wpList_append_row (enc := frC) Try.underlying72 infoFire rfl (by omega) (by omega) (by rfl) _ _ (by rfl) hb2w hb1w.heap.size ro co out ((k : Int) + 1, av, dv, ev, iv) rfl (frC_one _) (by rfl) (by rfl) (by rfl) (HO.out.below (show Below q.w.heap.size q.w hb2w by (repeat' (first | (with_reducible exact Below.refl _ _) | (with_reducible assumption) | (with_reducible refine below_alloc ?_ _) | (with_reducible refine Below.drew ?_) | (with_reducible refine below_drewN ?_ _) | (with_reducible refine below_step (by assumption) ?_) | (with_reducible refine below_later ?_ _) | (with_reducible refine Below.setCell ?_ ?_ _) | go_size))) (Nat.le_refl _)) (by omega) (show Below hb1w.heap.size hb1w hb2w by (repeat' (first | (with_reducible exact Below.refl _ _) | (with_reducible assumption) | (with_reducible refine below_alloc ?_ _) | (with_reducible refine Below.drew ?_) | (with_reducible refine below_drewN ?_ _) | (with_reducible refine below_step (by assumption) ?_) | (with_reducible refine below_later ?_ _) | (with_reducible refine Below.setCell ?_ ?_ _) | go_size))).size ?_; intro r' cap' w3 hown3 hb3))
                  have hw3s := hb3.size
                  have HOWN := Lib.hid hown3
                  clear hown3
                  go_roundg (n - (k + 1))
                  case measure => omega
                  case rel => exact ⟨k + 1, ⟨w3, (show Below hb1w.heap.size hb1w hb2w by (repeat' (first | (with_reducible exact Below.refl _ _) | (with_reducible assumption) | (with_reducible refine below_alloc ?_ _) | (with_reducible refine Below.drew ?_) | (with_reducible refine below_drewN ?_ _) | (with_reducible refine below_step (by assumption) ?_) | (with_reducible refine below_later ?_ _) | (with_reducible refine Below.setCell ?_ ?_ _) | go_size))).trans hb3⟩, r', cap', out ++ [((k : Int) + 1, av, dv, ev, iv)], by simp, by go_num, by omega, by omega, rfl, Lib.hid (by rw [HSK.out, HOUT.out]), by have h1 := HFLL.out k; rw [← HOUT.out] at h1; simp; omega, HOWN, HG⟩
              · obtain rfl : k = n := by omega
                have H := Lib.hid (HT.out HP.out)
                have hol : out.length = k := by rw [HOUT.out]; exact HFLL.out k
                have HOL := Lib.hid hol
                clear hol
                go_wp2
                go_ret2
                refine .inr ⟨H.out, ro, co, by first | rfl | (rw [HOL.out]; rfl), ?_, by (repeat' (first | (with_reducible exact Below.refl _ _) | (with_reducible assumption) | (with_reducible refine below_alloc ?_ _) | (with_reducible refine Below.drew ?_) | (with_reducible refine below_drewN ?_ _) | (with_reducible refine below_step (by assumption) ?_) | (with_reducible refine below_later ?_ _) | (with_reducible refine Below.setCell ?_ ?_ _) | go_size))⟩
                rw [← HOUT.out]
                exact HO.out.base (by omega)
          · have qI : ((I.length : Int) != (xs.length : Int)) = true := by simp; omega
            have pI : ¬ (I.length : Int) = (xs.length : Int) := by omega
            have H := Lib.hid (frsB_false.2 (fun h : FrsOk xs f A D E I => eI h.li))
            clear hx hA hD hE hI
            go_enter Try.func52, Try.ntmps52
            go_wp2_with ((go_at_call 88; refine (HEV.out _ (HX.out _ (by (repeat' (first | (with_reducible exact Below.refl _ _) | (with_reducible assumption) | (with_reducible refine below_alloc ?_ _) | (with_reducible refine Below.drew ?_) | (with_reducible refine below_drewN ?_ _) | (with_reducible refine below_step (by assumption) ?_) | (with_reducible refine below_later ?_ _) | (with_reducible refine Below.setCell ?_ ?_ _) | go_size))))).mono ?_; rintro e hb1w ⟨rfl, hb1⟩; obtain ⟨hb1c, hb1f⟩ := bcell hb1; have hb1s := hb1.size; (try simp only [World.size_alloc] at hb1s); (try (have : w.heap.size < hb1w.heap.size := by omega)); (try (have : w.heap.size + 1 < hb1w.heap.size := by omega)); (try (have : w.heap.size + 1 + 1 < hb1w.heap.size := by omega)); (try (have : w.heap.size + 1 + 1 + 1 < hb1w.heap.size := by omega)); (try (have : bX < hb1w.heap.size := by omega)); (try (have : bY < hb1w.heap.size := by omega)); (try (have : bZ < hb1w.heap.size := by omega))))
            go_ret2
            exact .inl ⟨H.out, rfl, by (repeat' (first | (with_reducible exact Below.refl _ _) | (with_reducible assumption) | (with_reducible refine below_alloc ?_ _) | (with_reducible refine Below.drew ?_) | (with_reducible refine below_drewN ?_ _) | (with_reducible refine below_step (by assumption) ?_) | (with_reducible refine below_later ?_ _) | (with_reducible refine Below.setCell ?_ ?_ _) | go_size))⟩
        · have qE : ((E.length : Int) != (xs.length : Int)) = true := by simp; omega
          have pE : ¬ (E.length : Int) = (xs.length : Int) := by omega
          have H := Lib.hid (frsB_false.2 (fun h : FrsOk xs f A D E I => eE h.le))
          clear hx hA hD hE hI
          go_enter Try.func52, Try.ntmps52
          go_wp2_with ((go_at_call 88; refine (HEV.out _ (HX.out _ (by (repeat' (first | (with_reducible exact Below.refl _ _) | (with_reducible assumption) | (with_reducible refine below_alloc ?_ _) | (with_reducible refine Below.drew ?_) | (with_reducible refine below_drewN ?_ _) | (with_reducible refine below_step (by assumption) ?_) | (with_reducible refine below_later ?_ _) | (with_reducible refine Below.setCell ?_ ?_ _) | go_size))))).mono ?_; rintro e hb1w ⟨rfl, hb1⟩; obtain ⟨hb1c, hb1f⟩ := bcell hb1; have hb1s := hb1.size; (try simp only [World.size_alloc] at hb1s); (try (have : w.heap.size < hb1w.heap.size := by omega)); (try (have : w.heap.size + 1 < hb1w.heap.size := by omega)); (try (have : w.heap.size + 1 + 1 < hb1w.heap.size := by omega)); (try (have : w.heap.size + 1 + 1 + 1 < hb1w.heap.size := by omega)); (try (have : bX < hb1w.heap.size := by omega)); (try (have : bY < hb1w.heap.size := by omega)); (try (have : bZ < hb1w.heap.size := by omega))))
          go_ret2
          exact .inl ⟨H.out, rfl, by (repeat' (first | (with_reducible exact Below.refl _ _) | (with_reducible assumption) | (with_reducible refine below_alloc ?_ _) | (with_reducible refine Below.drew ?_) | (with_reducible refine below_drewN ?_ _) | (with_reducible refine below_step (by assumption) ?_) | (with_reducible refine below_later ?_ _) | (with_reducible refine Below.setCell ?_ ?_ _) | go_size))⟩
      · have qD : ((D.length : Int) != (xs.length : Int)) = true := by simp; omega
        have pD : ¬ (D.length : Int) = (xs.length : Int) := by omega
        have H := Lib.hid (frsB_false.2 (fun h : FrsOk xs f A D E I => eD h.ld))
        clear hx hA hD hE hI
        go_enter Try.func52, Try.ntmps52
        go_wp2_with ((go_at_call 88; refine (HEV.out _ (HX.out _ (by (repeat' (first | (with_reducible exact Below.refl _ _) | (with_reducible assumption) | (with_reducible refine below_alloc ?_ _) | (with_reducible refine Below.drew ?_) | (with_reducible refine below_drewN ?_ _) | (with_reducible refine below_step (by assumption) ?_) | (with_reducible refine below_later ?_ _) | (with_reducible refine Below.setCell ?_ ?_ _) | go_size))))).mono ?_; rintro e hb1w ⟨rfl, hb1⟩; obtain ⟨hb1c, hb1f⟩ := bcell hb1; have hb1s := hb1.size; (try simp only [World.size_alloc] at hb1s); (try (have : w.heap.size < hb1w.heap.size := by omega)); (try (have : w.heap.size + 1 < hb1w.heap.size := by omega)); (try (have : w.heap.size + 1 + 1 < hb1w.heap.size := by omega)); (try (have : w.heap.size + 1 + 1 + 1 < hb1w.heap.size := by omega)); (try (have : bX < hb1w.heap.size := by omega)); (try (have : bY < hb1w.heap.size := by omega)); (try (have : bZ < hb1w.heap.size := by omega))))
        go_ret2
        exact .inl ⟨H.out, rfl, by (repeat' (first | (with_reducible exact Below.refl _ _) | (with_reducible assumption) | (with_reducible refine below_alloc ?_ _) | (with_reducible refine Below.drew ?_) | (with_reducible refine below_drewN ?_ _) | (with_reducible refine below_step (by assumption) ?_) | (with_reducible refine below_later ?_ _) | (with_reducible refine Below.setCell ?_ ?_ _) | go_size))⟩
    · have qA : ((A.length : Int) != (xs.length : Int)) = true := by simp; omega
      have pA : ¬ (A.length : Int) = (xs.length : Int) := by omega
      have H := Lib.hid (frsB_false.2 (fun h : FrsOk xs f A D E I => eA h.la))
      clear hx hA hD hE hI
      go_enter Try.func52, Try.ntmps52
      go_wp2_with ((go_at_call 88; refine (HEV.out _ (HX.out _ (by (repeat' (first | (with_reducible exact Below.refl _ _) | (with_reducible assumption) | (with_reducible refine below_alloc ?_ _) | (with_reducible refine Below.drew ?_) | (with_reducible refine below_drewN ?_ _) | (with_reducible refine below_step (by assumption) ?_) | (with_reducible refine below_later ?_ _) | (with_reducible refine Below.setCell ?_ ?_ _) | go_size))))).mono ?_; rintro e hb1w ⟨rfl, hb1⟩; obtain ⟨hb1c, hb1f⟩ := bcell hb1; have hb1s := hb1.size; (try simp only [World.size_alloc] at hb1s); (try (have : w.heap.size < hb1w.heap.size := by omega)); (try (have : w.heap.size + 1 < hb1w.heap.size := by omega)); (try (have : w.heap.size + 1 + 1 < hb1w.heap.size := by omega)); (try (have : w.heap.size + 1 + 1 + 1 < hb1w.heap.size := by omega)); (try (have : bX < hb1w.heap.size := by omega)); (try (have : bY < hb1w.heap.size := by omega)); (try (have : bZ < hb1w.heap.size := by omega))))
      go_ret2
      exact .inl ⟨H.out, rfl, by (repeat' (first | (with_reducible exact Below.refl _ _) | (with_reducible assumption) | (with_reducible refine below_alloc ?_ _) | (with_reducible refine Below.drew ?_) | (with_reducible refine below_drewN ?_ _) | (with_reducible refine below_step (by assumption) ?_) | (with_reducible refine below_later ?_ _) | (with_reducible refine Below.setCell ?_ ?_ _) | go_size))⟩
end Go.Proofs.Ytohdbneaganfbaa
