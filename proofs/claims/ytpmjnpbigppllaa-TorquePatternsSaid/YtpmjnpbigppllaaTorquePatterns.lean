/- The law TorquePatterns returns true for all tables and numbers. No conditions. Printed by a program. -/
import Derived.Test.YtpmjnpbigppllaaTorqAwake
import Derived.Test.YtpmjnpbigppllaaTabG
import Derived.Test.YtpmjnpbigppllaaOpenTables
import Derived.Test.YtpmjnpbigppllaaFrame
namespace Go.Proofs.Ytpmjnpbigppllaa
set_option linter.unusedVariables false
set_option linter.unusedSimpArgs false
open Go.RowKit Go.ChangeShapes Go.WideShapes Go.ChangeAt

theorem pattern_bad (n f c : Int) (w : World) (h : ¬ (inB n 1 8 = true ∧ inB f 0 n = true ∧ inB c 0 1099511627776 = true)) :
    Calls Try.prog 21 #[.int .i64 n, .int .i64 f, .int .i64 c] w fun e w' => e = .returned (.tuple #[.slice none 0 0, .int .i64 2]) ∧ w = w' := by
  cases h1 : inB n 1 8 with
  | false =>
    clear h
    go_enter Try.func21, Try.ntmps21
    go_wp2_with ((go_at_call 35; refine (twithin_any _ _ _ _).mono ?_; rintro e w' ⟨rfl, rfl⟩))
    go_ret2
    exact ⟨rfl, rfl⟩
  | true =>
    cases h2 : inB f 0 n with
    | false =>
      clear h
      go_enter Try.func21, Try.ntmps21
      go_wp2_with ((go_at_call 35; refine (twithin_any _ _ _ _).mono ?_; rintro e w' ⟨rfl, rfl⟩))
      go_ret2
      exact ⟨rfl, rfl⟩
    | true =>
      have h3 : inB c 0 1099511627776 = false := by
        cases h3 : inB c 0 1099511627776 with
        | false => rfl
        | true => exact absurd ⟨h1, h2, h3⟩ h
      clear h
      go_enter Try.func21, Try.ntmps21
      go_wp2_with ((go_at_call 35; refine (twithin_any _ _ _ _).mono ?_; rintro e w' ⟨rfl, rfl⟩))
      go_ret2
      exact ⟨rfl, rfl⟩

set_option maxRecDepth 100000 in
set_option maxHeartbeats 4000000 in
theorem tpat_walk (n f c : Int) (w : World) : Calls Try.prog 4 #[.int .i64 n, .int .i64 f, .int .i64 c] w fun e w' => e = .returned (.bool true) ∧ Below w.heap.size w w' := by
  by_cases hg : 1 ≤ n ∧ n ≤ 8 ∧ 0 ≤ f ∧ f ≤ n ∧ 0 ≤ c ∧ c ≤ 1099511627776
  · obtain ⟨n0, n1, f0, f1, c0, c1⟩ := hg
    obtain ⟨m, rfl⟩ : ∃ m : Nat, n = m := ⟨n.toNat, by omega⟩
    have HP := Lib.hid (fun w => pattern_any m f c w n0 n1 f0 f1 c0 c1)
    have hlen : (patL (m : Int) f c).length = m := by rw [patL_len]; omega
    have HG : Hid (∀ i : Nat, i < m → (patL (m : Int) f c).getD i false = patB m f c i) := Lib.hid (fun i hi => patL_get (by omega))
    have HF := Lib.hid (fun (i : Int) w i0 i1 => rfired_any m f c i w n0 n1 f0 f1 c0 c1 i0 i1)
    rw [hlen] at HP
    have HL := Lib.hid hlen
    clear hlen
    generalize hpl : patL (m : Int) f c = PL at *
    clear hpl
    go_enter Try.func4, Try.ntmps4
    go_wp2_with (first | (go_at_call 12; refine (awake_any _).mono ?_; rintro e hb1w ⟨rfl, hb1⟩; obtain ⟨hb1c, hb1f⟩ := bcell hb1; have hb1s := hb1.size; (try simp only [World.size_alloc] at hb1s); (try (have : w.heap.size < hb1w.heap.size := by omega)); (try (have : w.heap.size + 1 < hb1w.heap.size := by omega)); (try (have : w.heap.size + 1 + 1 < hb1w.heap.size := by omega)); (try (have : w.heap.size + 1 + 1 + 1 < hb1w.heap.size := by omega)); (try (have : bX < hb1w.heap.size := by omega)); (try (have : bY < hb1w.heap.size := by omega)); (try (have : bZ < hb1w.heap.size := by omega))) | (go_at_call 21; refine (HP.out _).mono ?_; rintro e hb2w ⟨r2, rfl, hB, hb2⟩; have HB := Lib.hid hB; clear hB; have hb2s := hb2.size))
    go_loopg [60] m (fun kx s60 wr => ∃ (k : Nat) (e : Later hb2w), s60 = .int .i64 k ∧ k ≤ m ∧ m - k ≤ kx ∧ wr = e.w)
    case atStart => exact ⟨0, ⟨_, Below.refl _ _⟩, rfl, by omega, by omega, rfl⟩
    case round =>
      obtain ⟨k, e, rfl, hk, hkx, rfl⟩ := hrel
      have hes := e.h.size
      by_cases hlt : k < m
      · obtain ⟨bP, oP, eP, ltP, hP⟩ := HB.out.cells (fun e => by have := HL.out; rw [e] at this; simp at this; omega)
        have d1 : e.w.cell? ⟨bP, oP + k, none⟩ = some (.bool (patB m f c k)) := by
          rw [e.h.cell (p := ⟨bP, oP + k, none⟩) ltP, hP k (by have := HL.out; omega), HG.out k hlt]
        have HFK := Lib.hid (fun w => HF.out (k : Int) w (by omega) (by omega))
        have hk1 : (0 : Int) ≤ (k : Int) := by omega
        have hk2 : (k : Int) < m := by omega
        have hbe : bP < e.w.heap.size := by omega
        clear hP
        subst eP
        generalize patB m f c k = b at *
        cases b
        · go_wp2_with ((go_at_call 22; refine (HFK.out _).mono ?_; rintro e hb3w ⟨rfl, hb3⟩; obtain ⟨hb3c, hb3f⟩ := bcell hb3; have hb3s := hb3.size; (try simp only [World.size_alloc] at hb3s); (try (have : w.heap.size < hb3w.heap.size := by omega)); (try (have : w.heap.size + 1 < hb3w.heap.size := by omega)); (try (have : w.heap.size + 1 + 1 < hb3w.heap.size := by omega)); (try (have : w.heap.size + 1 + 1 + 1 < hb3w.heap.size := by omega)); (try (have : bX < hb3w.heap.size := by omega)); (try (have : bY < hb3w.heap.size := by omega)); (try (have : bZ < hb3w.heap.size := by omega))))
          go_roundg (m - (k + 1))
          case measure => omega
          case rel => exact ⟨k + 1, ⟨hb3w, e.h.trans (hb3.mono e.h.size)⟩, by go_num, by omega, by omega, rfl⟩
        · go_wp2_with ((go_at_call 22; refine (HFK.out _).mono ?_; rintro e hb3w ⟨rfl, hb3⟩; obtain ⟨hb3c, hb3f⟩ := bcell hb3; have hb3s := hb3.size; (try simp only [World.size_alloc] at hb3s); (try (have : w.heap.size < hb3w.heap.size := by omega)); (try (have : w.heap.size + 1 < hb3w.heap.size := by omega)); (try (have : w.heap.size + 1 + 1 < hb3w.heap.size := by omega)); (try (have : w.heap.size + 1 + 1 + 1 < hb3w.heap.size := by omega)); (try (have : bX < hb3w.heap.size := by omega)); (try (have : bY < hb3w.heap.size := by omega)); (try (have : bZ < hb3w.heap.size := by omega))))
          go_roundg (m - (k + 1))
          case measure => omega
          case rel => exact ⟨k + 1, ⟨hb3w, e.h.trans (hb3.mono e.h.size)⟩, by go_num, by omega, by omega, rfl⟩
      · obtain rfl : k = m := by omega
        go_wp2
        go_ret
        exact ⟨rfl, by (repeat' (first | (with_reducible exact Below.refl _ _) | (with_reducible assumption) | (with_reducible refine below_alloc ?_ _) | (with_reducible refine Below.drew ?_) | (with_reducible refine below_drewN ?_ _) | (with_reducible refine below_step (by assumption) ?_) | (with_reducible refine below_later ?_ _) | (with_reducible refine Below.setCell ?_ ?_ _) | go_size))⟩
  · have hbad : ¬ (inB n 1 8 = true ∧ inB f 0 n = true ∧ inB c 0 1099511627776 = true) := fun h => by
      have h1 := inB_true.1 h.1
      have h2 := inB_true.1 h.2.1
      have h3 := inB_true.1 h.2.2
      exact hg (by omega)
    have HP := Lib.hid (fun w => pattern_bad n f c w hbad)
    clear hbad
    by_cases hq6 : n < 1
    · clear hg
      go_enter Try.func4, Try.ntmps4
      go_wp2_with (first | (go_at_call 12; refine (awake_any _).mono ?_; rintro e hb1w ⟨rfl, hb1⟩; obtain ⟨hb1c, hb1f⟩ := bcell hb1; have hb1s := hb1.size; (try simp only [World.size_alloc] at hb1s); (try (have : w.heap.size < hb1w.heap.size := by omega)); (try (have : w.heap.size + 1 < hb1w.heap.size := by omega)); (try (have : w.heap.size + 1 + 1 < hb1w.heap.size := by omega)); (try (have : w.heap.size + 1 + 1 + 1 < hb1w.heap.size := by omega)); (try (have : bX < hb1w.heap.size := by omega)); (try (have : bY < hb1w.heap.size := by omega)); (try (have : bZ < hb1w.heap.size := by omega))) | (go_at_call 21; refine (HP.out _).mono ?_; rintro e w' ⟨rfl, rfl⟩))
      go_ret
      exact ⟨by first | rfl | (simp; done) | (simp [*]; done), by (repeat' (first | (with_reducible exact Below.refl _ _) | (with_reducible assumption) | (with_reducible refine below_alloc ?_ _) | (with_reducible refine Below.drew ?_) | (with_reducible refine below_drewN ?_ _) | (with_reducible refine below_step (by assumption) ?_) | (with_reducible refine below_later ?_ _) | (with_reducible refine Below.setCell ?_ ?_ _) | go_size))⟩
    · replace hq6 : 1 ≤ n := by omega
      by_cases hq5 : 8 < n
      · clear hg
        go_enter Try.func4, Try.ntmps4
        go_wp2_with (first | (go_at_call 12; refine (awake_any _).mono ?_; rintro e hb1w ⟨rfl, hb1⟩; obtain ⟨hb1c, hb1f⟩ := bcell hb1; have hb1s := hb1.size; (try simp only [World.size_alloc] at hb1s); (try (have : w.heap.size < hb1w.heap.size := by omega)); (try (have : w.heap.size + 1 < hb1w.heap.size := by omega)); (try (have : w.heap.size + 1 + 1 < hb1w.heap.size := by omega)); (try (have : w.heap.size + 1 + 1 + 1 < hb1w.heap.size := by omega)); (try (have : bX < hb1w.heap.size := by omega)); (try (have : bY < hb1w.heap.size := by omega)); (try (have : bZ < hb1w.heap.size := by omega))) | (go_at_call 21; refine (HP.out _).mono ?_; rintro e w' ⟨rfl, rfl⟩))
        go_ret
        exact ⟨by first | rfl | (simp; done) | (simp [*]; done), by (repeat' (first | (with_reducible exact Below.refl _ _) | (with_reducible assumption) | (with_reducible refine below_alloc ?_ _) | (with_reducible refine Below.drew ?_) | (with_reducible refine below_drewN ?_ _) | (with_reducible refine below_step (by assumption) ?_) | (with_reducible refine below_later ?_ _) | (with_reducible refine Below.setCell ?_ ?_ _) | go_size))⟩
      · replace hq5 : n ≤ 8 := by omega
        by_cases hq4 : f < 0
        · clear hg
          go_enter Try.func4, Try.ntmps4
          go_wp2_with (first | (go_at_call 12; refine (awake_any _).mono ?_; rintro e hb1w ⟨rfl, hb1⟩; obtain ⟨hb1c, hb1f⟩ := bcell hb1; have hb1s := hb1.size; (try simp only [World.size_alloc] at hb1s); (try (have : w.heap.size < hb1w.heap.size := by omega)); (try (have : w.heap.size + 1 < hb1w.heap.size := by omega)); (try (have : w.heap.size + 1 + 1 < hb1w.heap.size := by omega)); (try (have : w.heap.size + 1 + 1 + 1 < hb1w.heap.size := by omega)); (try (have : bX < hb1w.heap.size := by omega)); (try (have : bY < hb1w.heap.size := by omega)); (try (have : bZ < hb1w.heap.size := by omega))) | (go_at_call 21; refine (HP.out _).mono ?_; rintro e w' ⟨rfl, rfl⟩))
          go_ret
          exact ⟨by first | rfl | (simp; done) | (simp [*]; done), by (repeat' (first | (with_reducible exact Below.refl _ _) | (with_reducible assumption) | (with_reducible refine below_alloc ?_ _) | (with_reducible refine Below.drew ?_) | (with_reducible refine below_drewN ?_ _) | (with_reducible refine below_step (by assumption) ?_) | (with_reducible refine below_later ?_ _) | (with_reducible refine Below.setCell ?_ ?_ _) | go_size))⟩
        · replace hq4 : 0 ≤ f := by omega
          by_cases hq3 : n < f
          · clear hg
            go_enter Try.func4, Try.ntmps4
            go_wp2_with (first | (go_at_call 12; refine (awake_any _).mono ?_; rintro e hb1w ⟨rfl, hb1⟩; obtain ⟨hb1c, hb1f⟩ := bcell hb1; have hb1s := hb1.size; (try simp only [World.size_alloc] at hb1s); (try (have : w.heap.size < hb1w.heap.size := by omega)); (try (have : w.heap.size + 1 < hb1w.heap.size := by omega)); (try (have : w.heap.size + 1 + 1 < hb1w.heap.size := by omega)); (try (have : w.heap.size + 1 + 1 + 1 < hb1w.heap.size := by omega)); (try (have : bX < hb1w.heap.size := by omega)); (try (have : bY < hb1w.heap.size := by omega)); (try (have : bZ < hb1w.heap.size := by omega))) | (go_at_call 21; refine (HP.out _).mono ?_; rintro e w' ⟨rfl, rfl⟩))
            go_ret
            exact ⟨by first | rfl | (simp; done) | (simp [*]; done), by (repeat' (first | (with_reducible exact Below.refl _ _) | (with_reducible assumption) | (with_reducible refine below_alloc ?_ _) | (with_reducible refine Below.drew ?_) | (with_reducible refine below_drewN ?_ _) | (with_reducible refine below_step (by assumption) ?_) | (with_reducible refine below_later ?_ _) | (with_reducible refine Below.setCell ?_ ?_ _) | go_size))⟩
          · replace hq3 : f ≤ n := by omega
            by_cases hq2 : c < 0
            · clear hg
              go_enter Try.func4, Try.ntmps4
              go_wp2_with (first | (go_at_call 12; refine (awake_any _).mono ?_; rintro e hb1w ⟨rfl, hb1⟩; obtain ⟨hb1c, hb1f⟩ := bcell hb1; have hb1s := hb1.size; (try simp only [World.size_alloc] at hb1s); (try (have : w.heap.size < hb1w.heap.size := by omega)); (try (have : w.heap.size + 1 < hb1w.heap.size := by omega)); (try (have : w.heap.size + 1 + 1 < hb1w.heap.size := by omega)); (try (have : w.heap.size + 1 + 1 + 1 < hb1w.heap.size := by omega)); (try (have : bX < hb1w.heap.size := by omega)); (try (have : bY < hb1w.heap.size := by omega)); (try (have : bZ < hb1w.heap.size := by omega))) | (go_at_call 21; refine (HP.out _).mono ?_; rintro e w' ⟨rfl, rfl⟩))
              go_ret
              exact ⟨by first | rfl | (simp; done) | (simp [*]; done), by (repeat' (first | (with_reducible exact Below.refl _ _) | (with_reducible assumption) | (with_reducible refine below_alloc ?_ _) | (with_reducible refine Below.drew ?_) | (with_reducible refine below_drewN ?_ _) | (with_reducible refine below_step (by assumption) ?_) | (with_reducible refine below_later ?_ _) | (with_reducible refine Below.setCell ?_ ?_ _) | go_size))⟩
            · replace hq2 : 0 ≤ c := by omega
              have hq : 1099511627776 < c := by omega
              clear hg
              go_enter Try.func4, Try.ntmps4
              go_wp2_with (first | (go_at_call 12; refine (awake_any _).mono ?_; rintro e hb1w ⟨rfl, hb1⟩; obtain ⟨hb1c, hb1f⟩ := bcell hb1; have hb1s := hb1.size; (try simp only [World.size_alloc] at hb1s); (try (have : w.heap.size < hb1w.heap.size := by omega)); (try (have : w.heap.size + 1 < hb1w.heap.size := by omega)); (try (have : w.heap.size + 1 + 1 < hb1w.heap.size := by omega)); (try (have : w.heap.size + 1 + 1 + 1 < hb1w.heap.size := by omega)); (try (have : bX < hb1w.heap.size := by omega)); (try (have : bY < hb1w.heap.size := by omega)); (try (have : bZ < hb1w.heap.size := by omega))) | (go_at_call 21; refine (HP.out _).mono ?_; rintro e w' ⟨rfl, rfl⟩))
              go_ret
              exact ⟨by first | rfl | (simp; done) | (simp [*]; done), by (repeat' (first | (with_reducible exact Below.refl _ _) | (with_reducible assumption) | (with_reducible refine below_alloc ?_ _) | (with_reducible refine Below.drew ?_) | (with_reducible refine below_drewN ?_ _) | (with_reducible refine below_step (by assumption) ?_) | (with_reducible refine below_later ?_ _) | (with_reducible refine Below.setCell ?_ ?_ _) | go_size))⟩

set_option maxRecDepth 100000 in
theorem tpat_holds : Rows.TorquePatternsSaid :=
  OpenClaim.holds_of_wide 4 Try.f4 rfl rfl rfl rfl rfl rfl rfl ⟨rfl, rfl, rfl, rfl, rfl⟩ rfl rfl rfl rfl rfl (by kernel_rfl) Try.func4 (by kernel_rfl)
    (of_decide_eq_true (by kernel_rfl)) (by unfold Func.isWrapper; first | (rw [if_pos (by decide +kernel)]; kernel_rfl) | (rw [if_neg (by decide +kernel)]; exact ⟨rfl, rfl⟩))
    (fun os started H enc _ => by
      refine law_frame started (s := Rows.torquePatternsSpec) (conds := Rows.torquePatternsRow.domain) Try.func4 (by kernel_rfl) rfl 4 rfl Try.underlying4 (by decide +kernel) (fun ds h => ?_)
        (ChangeSpec.witness6 (enc := enc) (C := Try.checked) false ⟨#[], #[.int .i64 0, .int .i64 0, .int .i64 0], []⟩ 12 (by kernel_rfl) (by kernel_rfl) (by kernel_rfl) (by kernel_rfl)) ?_
      · match ds, h with
        | [_, _, _], _ => rfl
      · intro W base args ds p hval hA _
        rw [Try.params4] at hA hval
        obtain ⟨v0, vs0, d0, ds0, p0, q0, hargs, rfl, rfl, h0, r0⟩ := trodAll_cons hA
        obtain ⟨v1, vs1, d1, ds1, p1, q1, rfl, rfl, rfl, h1, r1⟩ := trodAll_cons r0
        obtain ⟨v2, vs2, d2, ds2, p2, q2, rfl, rfl, rfl, h2, r2⟩ := trodAll_cons r1
        obtain ⟨rfl, rfl, rfl⟩ := trodAll_nil r2
        obtain rfl : args = #[v0, v1, v2] := by cases args; simp_all
        obtain ⟨b0, rfl, rfl, rfl, w0⟩ := open_int Try.underlying3 (hval 0 _ v0 rfl rfl) h0
        obtain ⟨b1, rfl, rfl, rfl, w1⟩ := open_int Try.underlying3 (hval 1 _ v1 rfl rfl) h1
        obtain ⟨b2, rfl, rfl, rfl, w2⟩ := open_int Try.underlying3 (hval 2 _ v2 rfl rfl) h2
        apply tpat_walk <;> (first | assumption | rfl))
#print axioms tpat_holds

end Go.Proofs.Ytpmjnpbigppllaa
