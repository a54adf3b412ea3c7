/- The law FuelConserves returns true for every body, film and list of injections. No conditions. -/
import Derived.Test.YtmfldcjecajkoaaFuelAwake
import Derived.Test.YtmfldcjecajkoaaFuelRatio
import Derived.Test.YtmfldcjecajkoaaOpenBody
import Derived.Deep.LoopGhost
namespace Go.Proofs.Ytmfldcjecajkoaa
set_option linter.unusedVariables false
set_option linter.unusedSimpArgs false
open Go.RowKit Go.ChangeShapes Go.WideShapes Go.ChangeAt

theorem film3_bad {f e film i : Int} (h : ¬ goodB f e = true) : film3 f e film i = (0, 0, 1) := by simp [film3, h]
theorem film3_ok {f e film i : Int} (h : goodB f e = true) (f1 : 0 ≤ film) (f2 : film ≤ 1072693248) (i1 : 0 ≤ i) (i2 : i ≤ 1048576) :
    ∃ c n, film3 f e film i = (c, n, 0) ∧ 0 ≤ c ∧ 0 ≤ n ∧ Hid (c + n = film + i) ∧ c ≤ film + i ∧ n ≤ film + i := by
  have ⟨g1, g2, g3, g4⟩ := goodB_spec h
  have ⟨_, _, b1, b2⟩ := wallI_bd g1 (by omega) i1 (by omega)
  have ⟨_, _, b3, b4⟩ := wallI_bd g3 (by omega) f1 (by omega)
  have hi : inB i 0 1048576 = true := by simp [inB]; omega
  have hf : inB film 0 1073741824 = true := by simp [inB]; omega
  refine ⟨i - wallI f i + wallI e film, film + wallI f i - wallI e film, ?_, by omega, by omega, Lib.hid (by omega), by omega, by omega⟩
  simp only [film3, h, hi, hf, if_true, and_self]
  rw [if_neg (by omega)]

set_option maxHeartbeats 1000000 in
theorem cons_good (a0 a1 a2 a3 a4 a5 a6 x : Int) (b off cap : Nat) (xs : List Int) (w : World) (hg : goodB a4 a5 = true) (x1 : 0 ≤ x) (x2 : x ≤ 4294967295) (hl : xs.length ≤ 60) (hb : b < w.heap.size)
    (hc : ∀ i, i < xs.length → w.cell? ⟨b, off + i, none⟩ = some (.int .u32 (xs.getD i 0))) (hw : ∀ i, i < xs.length → 0 ≤ xs.getD i 0 ∧ xs.getD i 0 ≤ 4294967295) :
    Calls Try.prog 5 #[.agg #[.int .i64 a0, .int .i64 a1, .int .i64 a2, .int .i64 a3, .int .i64 a4, .int .i64 a5, .int .i64 a6], .int .u32 x, .slice (some ⟨b, off, none⟩) xs.length cap] w fun e w' => e = .returned (.bool true) ∧ Below w.heap.size w w' := by
  have HC := Lib.hid hc
  have HW := Lib.hid hw
  have HG := Lib.hid hg
  clear hc hw hg
  generalize hn : xs.length = n at *
  have HN := Lib.hid hn
  clear hn
  go_enter Try.func5, Try.ntmps5
  go_wp2_with (first | (go_at_call 12; refine (awake_any _).mono ?_; rintro e hb1w ⟨rfl, hb1⟩; obtain ⟨hb1c, hb1f⟩ := bcell hb1; have hb1s := hb1.size; (try simp only [World.size_alloc] at hb1s); (try (have : w.heap.size < hb1w.heap.size := by omega)); (try (have : w.heap.size + 1 < hb1w.heap.size := by omega)); (try (have : w.heap.size + 2 < hb1w.heap.size := by omega))))
  go_loopg [7, 8, 9, 27] 60 (fun kx s7 s8 s9 s27 wr => ∃ (now got : Int) (k : Nat) (e : Later hb1w), s7 = .int .i64 now ∧ s8 = .int .i64 (got + now) ∧ s9 = .int .i64 got ∧ s27 = .int .i64 k ∧ k ≤ n ∧ 0 ≤ now ∧ now ≤ 16777216 + 1048576 * k ∧ 0 ≤ got ∧ got ≤ 16777216 + 1048576 * k ∧ got + now ≤ 16777216 + 1048576 * k ∧ n - k ≤ kx ∧ wr = e.w)
  case atStart => exact ⟨x % 16777216, 0, 0, ⟨hb1w, Below.refl _ _⟩, rfl, by simp, rfl, rfl, by omega, by omega, by omega, by omega, by omega, by omega, by omega, rfl⟩
  case round =>
    obtain ⟨now, got, k, e, rfl, rfl, rfl, rfl, hk, p1, p2, p3, p4, p5, hkx, rfl⟩ := hrel
    have hes := e.h.size
    have hk0 : w.heap.size < e.w.heap.size := by omega
    by_cases hlt : k < n
    · have hcell : e.w.cell? ⟨b, off + k, none⟩ = some (.int .u32 (xs.getD k 0)) := by
        have hbw : Below w.heap.size w e.w := by (repeat' (first | (with_reducible exact Below.refl _ _) | (with_reducible assumption) | (with_reducible refine below_alloc ?_ _) | (with_reducible refine Below.drew ?_) | (with_reducible refine below_drewN ?_ _) | (with_reducible refine below_step (by assumption) ?_) | (with_reducible refine below_later ?_ _) | (with_reducible refine Below.setCell ?_ ?_ _) | go_size))
        rw [hbw.cell (p := ⟨b, off + k, none⟩) hb]
        exact HC.out k (by have := HN.out; omega)
      have ⟨y1, y2⟩ := HW.out k (by have := HN.out; omega)
      generalize xs.getD k 0 = y at hcell y1 y2
      obtain ⟨c, nx, hf, q1, q2, HQ, q3, q4⟩ := film3_ok (film := now) (i := y % 1048577) HG.out p1 (by omega) (by omega) (by omega)
      go_wp2_with ((go_at_call 13; refine (film_any _ _ _ _ _ _ _ _ _ _).mono ?_; rintro e hb2w ⟨rfl, hb2⟩; obtain ⟨hb2c, hb2f⟩ := bcell hb2; have hb2s := hb2.size; (try simp only [World.size_alloc] at hb2s); (try (have : w.heap.size < hb2w.heap.size := by omega)); (try (have : w.heap.size + 1 < hb2w.heap.size := by omega)); (try (have : w.heap.size + 2 < hb2w.heap.size := by omega))))
      go_roundg (n - (k + 1))
      case measure => omega
      case rel =>
        obtain ⟨e', rfl⟩ := e.next hb2
        have := HQ.out
        exact ⟨nx, got + c, k + 1, e', rfl, by rw [show got + now + y % 1048577 = got + c + nx by omega], rfl, by go_num, by omega, by omega, by omega, by omega, by omega, by omega, Nat.le_refl _, rfl⟩
    · obtain rfl : k = n := by omega
      go_wp2
      go_ret
      exact ⟨by simp, by (repeat' (first | (with_reducible exact Below.refl _ _) | (with_reducible assumption) | (with_reducible refine below_alloc ?_ _) | (with_reducible refine Below.drew ?_) | (with_reducible refine below_drewN ?_ _) | (with_reducible refine below_step (by assumption) ?_) | (with_reducible refine below_later ?_ _) | (with_reducible refine Below.setCell ?_ ?_ _) | go_size))⟩

set_option maxHeartbeats 1000000 in
theorem cons_nil (a0 a1 a2 a3 a4 a5 a6 x : Int) (r : Option Addr) (cap : Nat) (w : World) (x1 : 0 ≤ x) (x2 : x ≤ 4294967295) :
    Calls Try.prog 5 #[.agg #[.int .i64 a0, .int .i64 a1, .int .i64 a2, .int .i64 a3, .int .i64 a4, .int .i64 a5, .int .i64 a6], .int .u32 x, .slice r 0 cap] w fun e w' => e = .returned (.bool true) ∧ Below w.heap.size w w' := by
  go_enter Try.func5, Try.ntmps5
  go_wp2_with (first | (go_at_call 12; refine (awake_any _).mono ?_; rintro e hb1w ⟨rfl, hb1⟩; obtain ⟨hb1c, hb1f⟩ := bcell hb1; have hb1s := hb1.size; (try simp only [World.size_alloc] at hb1s); (try (have : w.heap.size < hb1w.heap.size := by omega)); (try (have : w.heap.size + 1 < hb1w.heap.size := by omega)); (try (have : w.heap.size + 2 < hb1w.heap.size := by omega))))
  go_rounds 1
  go_ret
  exact ⟨by simp, by (repeat' (first | (with_reducible exact Below.refl _ _) | (with_reducible assumption) | (with_reducible refine below_alloc ?_ _) | (with_reducible refine Below.drew ?_) | (with_reducible refine below_drewN ?_ _) | (with_reducible refine below_step (by assumption) ?_) | (with_reducible refine below_later ?_ _) | (with_reducible refine Below.setCell ?_ ?_ _) | go_size))⟩

set_option maxHeartbeats 1000000 in
theorem cons_long (a0 a1 a2 a3 a4 a5 a6 x : Int) (r : Option Addr) (n cap : Nat) (w : World) (hn : 60 < n) :
    Calls Try.prog 5 #[.agg #[.int .i64 a0, .int .i64 a1, .int .i64 a2, .int .i64 a3, .int .i64 a4, .int .i64 a5, .int .i64 a6], .int .u32 x, .slice r n cap] w fun e w' => e = .returned (.bool true) ∧ Below w.heap.size w w' := by
  have hn2 : (60 : Int) < (n : Int) := by omega
  go_enter Try.func5, Try.ntmps5
  go_wp2_with (first | (go_at_call 12; refine (awake_any _).mono ?_; rintro e hb1w ⟨rfl, hb1⟩; obtain ⟨hb1c, hb1f⟩ := bcell hb1; have hb1s := hb1.size; (try simp only [World.size_alloc] at hb1s); (try (have : w.heap.size < hb1w.heap.size := by omega)); (try (have : w.heap.size + 1 < hb1w.heap.size := by omega)); (try (have : w.heap.size + 2 < hb1w.heap.size := by omega))))
  go_ret
  exact ⟨rfl, by (repeat' (first | (with_reducible exact Below.refl _ _) | (with_reducible assumption) | (with_reducible refine below_alloc ?_ _) | (with_reducible refine Below.drew ?_) | (with_reducible refine below_drewN ?_ _) | (with_reducible refine below_step (by assumption) ?_) | (with_reducible refine below_later ?_ _) | (with_reducible refine Below.setCell ?_ ?_ _) | go_size))⟩

set_option maxHeartbeats 1000000 in
theorem cons_bad (a0 a1 a2 a3 a4 a5 a6 x y : Int) (b off n cap : Nat) (w : World) (hg : ¬ goodB a4 a5 = true) (x1 : 0 ≤ x) (x2 : x ≤ 4294967295) (h0 : 0 < n) (hl : n ≤ 60) (hb : b < w.heap.size)
    (hc : w.cell? ⟨b, off, none⟩ = some (.int .u32 y)) (y1 : 0 ≤ y) (y2 : y ≤ 4294967295) :
    Calls Try.prog 5 #[.agg #[.int .i64 a0, .int .i64 a1, .int .i64 a2, .int .i64 a3, .int .i64 a4, .int .i64 a5, .int .i64 a6], .int .u32 x, .slice (some ⟨b, off, none⟩) n cap] w fun e w' => e = .returned (.bool true) ∧ Below w.heap.size w w' := by
  have hh : a4 < 0 ∨ ¬ a4 < 0 ∧ a4 > 1023 ∨ ¬ a4 < 0 ∧ ¬ a4 > 1023 ∧ a5 < 0 ∨ ¬ a4 < 0 ∧ ¬ a4 > 1023 ∧ ¬ a5 < 0 ∧ a5 > 1024 := by
    simp only [goodB, decide_eq_true_eq] at hg
    omega
  have hf := film3_bad (film := x % 16777216) (i := y % 1048577) hg
  have hn0 : (0 : Int) < (n : Int) := by omega
  clear hg
  rcases hh with h | ⟨h, k1⟩ | ⟨h, k1, k2⟩ | ⟨h, k1, k2, k3⟩
  all_goals
    go_enter Try.func5, Try.ntmps5
    go_wp2_with (first | (go_at_call 12; refine (awake_any _).mono ?_; rintro e hb1w ⟨rfl, hb1⟩; obtain ⟨hb1c, hb1f⟩ := bcell hb1; have hb1s := hb1.size; (try simp only [World.size_alloc] at hb1s); (try (have : w.heap.size < hb1w.heap.size := by omega)); (try (have : w.heap.size + 1 < hb1w.heap.size := by omega)); (try (have : w.heap.size + 2 < hb1w.heap.size := by omega))))
    have hcell : hb1w.cell? ⟨b, off, none⟩ = some (.int .u32 y) := by
      have hbw : Below w.heap.size w hb1w := by (repeat' (first | (with_reducible exact Below.refl _ _) | (with_reducible assumption) | (with_reducible refine below_alloc ?_ _) | (with_reducible refine Below.drew ?_) | (with_reducible refine below_drewN ?_ _) | (with_reducible refine below_step (by assumption) ?_) | (with_reducible refine below_later ?_ _) | (with_reducible refine Below.setCell ?_ ?_ _) | go_size))
      rw [hbw.cell (p := ⟨b, off, none⟩) hb]
      exact hc
    refine wp_loop_rounds 1 ?_
    rw [rounds_succ]
    go_wp2_with ((go_at_call 13; refine (film_any _ _ _ _ _ _ _ _ _ _).mono ?_; rintro e hb2w ⟨rfl, hb2⟩; obtain ⟨hb2c, hb2f⟩ := bcell hb2; have hb2s := hb2.size; (try simp only [World.size_alloc] at hb2s); (try (have : w.heap.size < hb2w.heap.size := by omega)); (try (have : w.heap.size + 1 < hb2w.heap.size := by omega)); (try (have : w.heap.size + 2 < hb2w.heap.size := by omega))))
    go_ret
    exact ⟨by simp, by (repeat' (first | (with_reducible exact Below.refl _ _) | (with_reducible assumption) | (with_reducible refine below_alloc ?_ _) | (with_reducible refine Below.drew ?_) | (with_reducible refine below_drewN ?_ _) | (with_reducible refine below_step (by assumption) ?_) | (with_reducible refine below_later ?_ _) | (with_reducible refine Below.setCell ?_ ?_ _) | go_size))⟩

theorem cons_walk (a0 a1 a2 a3 a4 a5 a6 x : Int) (r : Option Addr) (cap : Nat) (xs : List Int) (w : World) (hx : (Lit.int .u32 x).wf = true) (hxs : IsInts w r cap .u32 xs) :
    Calls Try.prog 5 #[.agg #[.int .i64 a0, .int .i64 a1, .int .i64 a2, .int .i64 a3, .int .i64 a4, .int .i64 a5, .int .i64 a6], .int .u32 x, .slice r xs.length cap] w fun e w' => e = .returned (.bool true) ∧ Below w.heap.size w w' := by
  have ⟨x1, x2⟩ := u32_bd hx
  by_cases hl : xs.length ≤ 60
  · by_cases hne : xs = []
    · subst hne
      exact cons_nil _ _ _ _ _ _ _ _ _ _ _ x1 x2
    · obtain ⟨b, off, rfl, hb, hc⟩ := hxs.cells hne
      have hlen : 0 < xs.length := List.length_pos_iff.2 hne
      have hw : ∀ i, i < xs.length → 0 ≤ xs.getD i 0 ∧ xs.getD i 0 ≤ 4294967295 := fun i hi => by
        refine u32_bd (hxs.wf _ ?_)
        rw [List.getD, List.getElem?_eq_getElem hi]
        exact List.getElem_mem hi
      by_cases hg : goodB a4 a5 = true
      · exact cons_good _ _ _ _ _ _ _ _ _ _ _ _ _ hg x1 x2 hl hb hc hw
      · exact cons_bad _ _ _ _ _ _ _ _ _ _ _ _ _ _ hg x1 x2 hlen hl hb (by simpa using hc 0 hlen) (hw 0 hlen).1 (hw 0 hlen).2
  · exact cons_long _ _ _ _ _ _ _ _ _ _ _ _ (by omega)

set_option maxRecDepth 100000 in
theorem cons_holds : Rows.FuelConservesSaid :=
  OpenClaim.holds_of_wide 5 Try.f5 rfl rfl rfl rfl rfl rfl rfl ⟨rfl, rfl, rfl, rfl, rfl⟩ rfl rfl rfl rfl rfl (by kernel_rfl) Try.func5 (by kernel_rfl)
    (of_decide_eq_true (by kernel_rfl)) (by unfold Func.isWrapper; first | (rw [if_pos (by decide +kernel)]; kernel_rfl) | (rw [if_neg (by decide +kernel)]; exact ⟨rfl, rfl⟩))
    (fun os started H enc _ => by
      refine law_frame started (s := Rows.fuelConservesSpec) (conds := Rows.fuelConservesRow.domain) Try.func5 (by kernel_rfl) rfl 4 rfl Try.underlying4 (by decide +kernel) (fun ds h => ?_)
        (ChangeSpec.witness6 (enc := enc) (C := Try.checked) false ⟨#[], #[.agg #[.int .i64 0, .int .i64 0, .int .i64 0, .int .i64 0, .int .i64 0, .int .i64 0, .int .i64 0], .int .u32 0, .slice none 0 0], []⟩ 12 (by kernel_rfl) (by kernel_rfl) (by kernel_rfl) (by kernel_rfl)) ?_
      · match ds, h with
        | [_, _, _], _ => rfl
      · intro W base args ds p hval hA _
        rw [Try.params5] at hA hval
        obtain ⟨v0, vs0, d0, ds0, p0, q0, hargs, rfl, rfl, h0, r0⟩ := trodAll_cons hA
        obtain ⟨v1, vs1, d1, ds1, p1, q1, rfl, rfl, rfl, h1, r1⟩ := trodAll_cons r0
        obtain ⟨v2, vs2, d2, ds2, p2, q2, rfl, rfl, rfl, h2, r2⟩ := trodAll_cons r1
        obtain ⟨rfl, rfl, rfl⟩ := trodAll_nil r2
        obtain rfl : args = #[v0, v1, v2] := by cases args; simp_all
        obtain ⟨cs0, rfl, k0⟩ := arg_agg Try.underlying23 (hval 0 _ v0 rfl rfl) h0
        obtain ⟨a0_0, a1_0, a2_0, a3_0, a4_0, a5_0, a6_0, rfl, g0_0, g1_0, g2_0, g3_0, g4_0, g5_0, g6_0⟩ := open_Body k0
        obtain ⟨b1, rfl, rfl, rfl, w1⟩ := open_int Try.underlying31 (hval 1 _ v1 rfl rfl) h1
        obtain ⟨r2, c2, b2, e2, w2⟩ := rd_ints Try.underlying32 Try.underlying31 (by kernel_rfl) (arg_slice Try.underlying32 (hval 2 _ v2 rfl rfl) h2)
        simp only [List.cons.injEq, and_true] at e2
        subst e2
        apply cons_walk <;> assumption)
#print axioms cons_holds


end Go.Proofs.Ytmfldcjecajkoaa
