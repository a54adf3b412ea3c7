/- The law WheelParts returns true for every wheel and positions. No conditions. Printed by a program. -/
import Derived.Test.YtjkdekblenlflaaWheelAwake
import Derived.Test.YtjkdekblenlflaaWheelP
import Derived.Test.YtjkdekblenlflaaEqual
import Derived.Test.YtjkdekblenlflaaOwnMore
namespace Go.Proofs.Ytjkdekblenlflaa
set_option linter.unusedVariables false
set_option linter.unusedSimpArgs false
open Go.RowKit Go.ChangeShapes Go.WideShapes Go.ChangeAt

theorem ints_map {n : Nat} {f : Nat → Int} : ((List.range n).map f).length = n := by simp
theorem map_get {n k : Nat} {f : Nat → Int} (h : k < n) : ((List.range n).map f).getD k 0 = f k := by simp [List.getD, List.getElem?_map, h]
theorem map_two (m1 m2 : Nat) (E : Nat → Int) : (List.range m1).map (fun i => E (1 + i)) ++ (List.range m2).map (fun i => E (m1 + 1 + i)) = (List.range (m1 + m2)).map (fun i => E (1 + i)) := by
  rw [List.range_add, List.map_append, List.map_map]
  congr 1
  refine List.map_congr_left fun i _ => ?_
  simp only [Function.comp]
  rw [show m1 + 1 + i = 1 + (m1 + i) by omega]

set_option maxRecDepth 100000 in
set_option maxHeartbeats 2000000 in
theorem wparts_walk (T M a b c : Int) (w : World) : Calls Try.prog 9 #[.agg #[.int .i64 T, .int .i64 M], .int .i64 a, .int .i64 b, .int .i64 c] w fun e w' => e = .returned (.bool true) ∧ Below w.heap.size w w' := by
  cases hv : wheelB T M with
  | false =>
    go_enter Try.func9, Try.ntmps9
    go_wp2_with (first | (go_at_call 10; refine (awake_any _).mono ?_; rintro e hb1w ⟨rfl, hb1⟩; obtain ⟨hb1c, hb1f⟩ := bcell hb1; have hb1s := hb1.size; (try simp only [World.size_alloc] at hb1s); (try (have : w.heap.size < hb1w.heap.size := by omega)); (try (have : w.heap.size + 1 < hb1w.heap.size := by omega)); (try (have : w.heap.size + 1 + 1 < hb1w.heap.size := by omega)); (try (have : w.heap.size + 1 + 1 + 1 < hb1w.heap.size := by omega)); (try (have : bX < hb1w.heap.size := by omega)); (try (have : bY < hb1w.heap.size := by omega)); (try (have : bZ < hb1w.heap.size := by omega))) | (go_at_call 13; refine (wvalid_any _ _ _).mono ?_; rintro e hb2w ⟨rfl, hb2⟩; obtain ⟨hb2c, hb2f⟩ := bcell hb2; have hb2s := hb2.size; (try simp only [World.size_alloc] at hb2s); (try (have : w.heap.size < hb2w.heap.size := by omega)); (try (have : w.heap.size + 1 < hb2w.heap.size := by omega)); (try (have : w.heap.size + 1 + 1 < hb2w.heap.size := by omega)); (try (have : w.heap.size + 1 + 1 + 1 < hb2w.heap.size := by omega)); (try (have : bX < hb2w.heap.size := by omega)); (try (have : bY < hb2w.heap.size := by omega)); (try (have : bZ < hb2w.heap.size := by omega))))
    go_ret
    exact ⟨by simp, by (repeat' (first | (with_reducible exact Below.refl _ _) | (with_reducible assumption) | (with_reducible refine below_alloc ?_ _) | (with_reducible refine Below.drew ?_) | (with_reducible refine below_drewN ?_ _) | (with_reducible refine below_step (by assumption) ?_) | (with_reducible refine below_later ?_ _) | (with_reducible refine Below.setCell ?_ ?_ _) | go_size))⟩
  | true =>
    by_cases hg : 0 ≤ a ∧ a ≤ b ∧ b ≤ c ∧ c < 549755813888 ∧ c - a ≤ 184320
    · obtain ⟨a0, ab, bc, c1, hca⟩ := hg
      obtain ⟨E, m1, m2, hm, e1, e2, e3, e4, g1, g2, g3, g4, g5⟩ := parts_wheel hv a0 ab bc c1 hca
      have hcat := map_two m1 m2 E
      have HB1 := Lib.hid (fun w => between_any T M a b w)
      have HB2 := Lib.hid (fun w => between_any T M b c w)
      have HB3 := Lib.hid (fun w => between_any T M a c w)
      have HB4 := Lib.hid (fun w => between_any T M (a + 23040) (c + 23040) w)
      rw [e1] at HB1
      rw [e2] at HB2
      rw [e3] at HB3
      rw [e4] at HB4
      have hl1 : ((List.range m1).map (fun i => E (1 + i))).length = m1 := by simp
      have hl2 : ((List.range m2).map (fun i => E (m1 + 1 + i))).length = m2 := by simp
      have hl3 : ((List.range (m1 + m2)).map (fun i => E (1 + i))).length = m1 + m2 := by simp
      have hl4 : ((List.range (m1 + m2)).map (fun i => E (1 + i) + 23040)).length = m1 + m2 := by simp
      have HZ : Hid (∀ k, k < m1 + m2 → ((List.range (m1 + m2)).map (fun i => E (1 + i))).getD k 0 = E (1 + k)) := Lib.hid (fun k hk => map_get hk)
      have HLT : Hid (∀ k, k < m1 + m2 → ((List.range (m1 + m2)).map (fun i => E (1 + i) + 23040)).getD k 0 = E (1 + k) + 23040) := Lib.hid (fun k hk => map_get (f := fun i => E (1 + i) + 23040) hk)
      have HWF : Hid (∀ x ∈ (List.range (m1 + m2)).map (fun i => E (1 + i)), (Lit.int .i64 x).wf = true) := Lib.hid (fun x hx => by
        obtain ⟨i, hi, rfl⟩ := List.mem_map.1 hx
        have := g5 i (List.mem_range.1 hi)
        exact WalkArith.wf_i64 (by omega))
      generalize (List.range m1).map (fun i => E (1 + i)) = X at *
      generalize (List.range m2).map (fun i => E (m1 + 1 + i)) = Y at *
      generalize (List.range (m1 + m2)).map (fun i => E (1 + i)) = Z at *
      generalize (List.range (m1 + m2)).map (fun i => E (1 + i) + 23040) = L at *
      have hLZ2 : ((L.length : Int) == (Z.length : Int)) = true := by simp [hl3, hl4]
      have hLZ3 : ((L.length : Int) != (Z.length : Int)) = false := by simp [hl3, hl4]
      have HXL := Lib.hid hl1
      have HYL := Lib.hid hl2
      have HXY : Hid (X.length + Y.length ≤ 100000) := Lib.hid (by omega)
      have HN : Hid (∀ p, 0 ≤ p → p ≤ 549755813888 → next3 T M p = (wnxt T M p, (wnext T M p).2, 0)) := Lib.hid (fun p h0 h1 => by
        simp only [next3, hv, if_true]; rw [if_pos (posB_true.2 (by omega))]; rfl)
      obtain ⟨A, hA0, hA⟩ : ∃ A : Nat → Int, A 0 = a ∧ ∀ k, A (k + 1) = E (1 + k) := ⟨fun k => if k = 0 then a else E k, rfl, fun k => by
        show (if k + 1 = 0 then a else E (k + 1)) = _
        rw [if_neg (by omega), Nat.add_comm]⟩
      have HAN : Hid (∀ k, k ≤ m1 + m2 → next3 T M (A k) = (E (1 + k), (wnext T M (A k)).2, 0)) := Lib.hid (fun k hk => by
        match k, hk with
        | 0, _ => rw [HN.out (A 0) (by omega) (by omega), hA0, g1]
        | k + 1, hk =>
          have := g5 k (by omega)
          rw [HN.out (A (k + 1)) (by rw [hA]; exact this.1) (by rw [hA]; exact this.2), hA, g2])
      have HEND : Hid (c < E (1 + (m1 + m2))) := Lib.hid (by
        by_cases h0 : m1 + m2 = 0
        · rw [h0]; exact g3 h0
        · have := g4 (m1 + m2 - 1) (by omega)
          rwa [show 1 + (m1 + m2 - 1 + 1) = 1 + (m1 + m2) by omega] at this)
      have HBD : Hid (∀ k, k < m1 + m2 → 0 ≤ E (1 + k) ∧ E (1 + k) ≤ 549755813888) := Lib.hid (fun k hk => g5 k hk)
      have HA := Lib.hid hA
      have HA0 := Lib.hid hA0
      clear hA hA0
      have HG1 := Lib.hid g1
      have HG2 := Lib.hid g2
      have HG3 := Lib.hid g3
      have HG4 := Lib.hid g4
      have HG5 := Lib.hid g5
      have HCAT := Lib.hid hcat
      have HZL := Lib.hid hl3
      have HLL := Lib.hid hl4
      clear e1 e2 e3 e4 g1 g2 g3 g4 g5
      have hzl2 : (Z.length : Int) ≤ 1000 := by omega
      clear hl1 hl2 hl3 hl4 hcat
      go_enter Try.func9, Try.ntmps9
      go_wp2_with (first | (go_at_call 10; refine (awake_any _).mono ?_; rintro e hb1w ⟨rfl, hb1⟩; obtain ⟨hb1c, hb1f⟩ := bcell hb1; have hb1s := hb1.size; (try simp only [World.size_alloc] at hb1s); (try (have : w.heap.size < hb1w.heap.size := by omega)); (try (have : w.heap.size + 1 < hb1w.heap.size := by omega)); (try (have : w.heap.size + 1 + 1 < hb1w.heap.size := by omega)); (try (have : w.heap.size + 1 + 1 + 1 < hb1w.heap.size := by omega)); (try (have : bX < hb1w.heap.size := by omega)); (try (have : bY < hb1w.heap.size := by omega)); (try (have : bZ < hb1w.heap.size := by omega))) | (go_at_call 13; refine (wvalid_any _ _ _).mono ?_; rintro e hb2w ⟨rfl, hb2⟩; obtain ⟨hb2c, hb2f⟩ := bcell hb2; have hb2s := hb2.size; (try simp only [World.size_alloc] at hb2s); (try (have : w.heap.size < hb2w.heap.size := by omega)); (try (have : w.heap.size + 1 < hb2w.heap.size := by omega)); (try (have : w.heap.size + 1 + 1 < hb2w.heap.size := by omega)); (try (have : w.heap.size + 1 + 1 + 1 < hb2w.heap.size := by omega)); (try (have : bX < hb2w.heap.size := by omega)); (try (have : bY < hb2w.heap.size := by omega)); (try (have : bZ < hb2w.heap.size := by omega))) | (go_at_call 25; with_reducible (refine (HB1.out _).mono ?_); rintro e hp1w ⟨hp1r, hp1k, rfl, hp1I, hp1⟩; have hp1H := Lib.hid hp1I; clear hp1I; obtain ⟨hp1c, hp1f⟩ := bcell hp1; have hp1s := hp1.size; (try simp only [World.size_alloc] at hp1s); (try (have : w.heap.size < hp1w.heap.size := by omega)); (try (have : w.heap.size + 1 < hp1w.heap.size := by omega)); (try (have : w.heap.size + 1 + 1 < hp1w.heap.size := by omega)); (try (have : w.heap.size + 1 + 1 + 1 < hp1w.heap.size := by omega)); (try (have : bX < hp1w.heap.size := by omega)); (try (have : bY < hp1w.heap.size := by omega)); (try (have : bZ < hp1w.heap.size := by omega))) | (go_at_call 25; with_reducible (refine (HB2.out _).mono ?_); rintro e hp2w ⟨hp2r, hp2k, rfl, hp2I, hp2⟩; have hp2H := Lib.hid hp2I; clear hp2I; obtain ⟨hp2c, hp2f⟩ := bcell hp2; have hp2s := hp2.size; (try simp only [World.size_alloc] at hp2s); (try (have : w.heap.size < hp2w.heap.size := by omega)); (try (have : w.heap.size + 1 < hp2w.heap.size := by omega)); (try (have : w.heap.size + 1 + 1 < hp2w.heap.size := by omega)); (try (have : w.heap.size + 1 + 1 + 1 < hp2w.heap.size := by omega)); (try (have : bX < hp2w.heap.size := by omega)); (try (have : bY < hp2w.heap.size := by omega)); (try (have : bZ < hp2w.heap.size := by omega))) | (go_at_call 25; with_reducible (refine (HB3.out _).mono ?_); rintro e hp3w ⟨hp3r, hp3k, rfl, hp3I, hp3⟩; have hp3H := Lib.hid hp3I; clear hp3I; obtain ⟨hp3c, hp3f⟩ := bcell hp3; have hp3s := hp3.size; (try simp only [World.size_alloc] at hp3s); (try (have : w.heap.size < hp3w.heap.size := by omega)); (try (have : w.heap.size + 1 < hp3w.heap.size := by omega)); (try (have : w.heap.size + 1 + 1 < hp3w.heap.size := by omega)); (try (have : w.heap.size + 1 + 1 + 1 < hp3w.heap.size := by omega)); (try (have : bX < hp3w.heap.size := by omega)); (try (have : bY < hp3w.heap.size := by omega)); (try (have : bZ < hp3w.heap.size := by omega))) | (go_at_call 25; with_reducible (refine (HB4.out _).mono ?_); rintro e hp4w ⟨hp4r, hp4k, rfl, hp4I, hp4⟩; have hp4H := Lib.hid hp4I; clear hp4I; obtain ⟨hp4c, hp4f⟩ := bcell hp4; have hp4s := hp4.size; (try simp only [World.size_alloc] at hp4s); (try (have : w.heap.size < hp4w.heap.size := by omega)); (try (have : w.heap.size + 1 < hp4w.heap.size := by omega)); (try (have : w.heap.size + 1 + 1 < hp4w.heap.size := by omega)); (try (have : w.heap.size + 1 + 1 + 1 < hp4w.heap.size := by omega)); (try (have : bX < hp4w.heap.size := by omega)); (try (have : bY < hp4w.heap.size := by omega)); (try (have : bZ < hp4w.heap.size := by omega))) | (go_at_call 33; refine (concat2_to hp4w.heap.size hp1r hp2r hp1k hp2k X Y Z HCAT.out _ (by go_size) (by simp [go_sem]) (by simp [go_sem]) (hp1H.out.later (by (repeat' (first | (with_reducible exact Below.refl _ _) | (with_reducible assumption) | (with_reducible refine below_alloc ?_ _) | (with_reducible refine Below.drew ?_) | (with_reducible refine below_drewN ?_ _) | (with_reducible refine below_step (by assumption) ?_) | (with_reducible refine below_later ?_ _) | (with_reducible refine Below.setCell ?_ ?_ _) | go_size)))) (hp2H.out.later (by (repeat' (first | (with_reducible exact Below.refl _ _) | (with_reducible assumption) | (with_reducible refine below_alloc ?_ _) | (with_reducible refine Below.drew ?_) | (with_reducible refine below_drewN ?_ _) | (with_reducible refine below_step (by assumption) ?_) | (with_reducible refine below_later ?_ _) | (with_reducible refine Below.setCell ?_ ?_ _) | go_size)))) HXY.out HWF.out).mono ?_; rintro e hp5w ⟨hp5r, hp5k, rfl, hp5I, hp5⟩; have hp5H := Lib.hid hp5I; clear hp5I; obtain ⟨hp5c, hp5f⟩ := bcell hp5; have hp5s := hp5.size; simp only [World.size_alloc] at hp5s; have : w.heap.size < hp5w.heap.size := by omega) | (go_at_call 28; refine (equal_any _ _ _ _ _ _ _ hp5H.out (hp3H.out.later (by (repeat' (first | (with_reducible exact Below.refl _ _) | (with_reducible assumption) | (with_reducible refine below_alloc ?_ _) | (with_reducible refine Below.drew ?_) | (with_reducible refine below_drewN ?_ _) | (with_reducible refine below_step (by assumption) ?_) | (with_reducible refine below_later ?_ _) | (with_reducible refine Below.setCell ?_ ?_ _) | go_size))))).mono ?_; rintro e hp6w ⟨rfl, hp6⟩; obtain ⟨hp6c, hp6f⟩ := bcell hp6; have hp6s := hp6.size; (try simp only [World.size_alloc] at hp6s); (try (have : w.heap.size < hp6w.heap.size := by omega)); (try (have : w.heap.size + 1 < hp6w.heap.size := by omega)); (try (have : w.heap.size + 1 + 1 < hp6w.heap.size := by omega)); (try (have : w.heap.size + 1 + 1 + 1 < hp6w.heap.size := by omega)); (try (have : bX < hp6w.heap.size := by omega)); (try (have : bY < hp6w.heap.size := by omega)); (try (have : bZ < hp6w.heap.size := by omega))))
      have hzr := hp3H.out
      have HZI := Lib.hid hzr
      have HLI := Lib.hid hp4H.out
      clear hzr
      go_loopg [17, 121] Z.length (fun kx s17 s121 wr => ∃ (k : Nat) (e : Later hp6w), s17 = .int .i64 (A k) ∧ s121 = .int .i64 k ∧ k ≤ Z.length ∧ Z.length - k ≤ kx ∧ wr = e.w)
      case atStart => exact ⟨0, ⟨_, Below.refl _ _⟩, by rw [HA0.out], rfl, by omega, by omega, rfl⟩
      case round =>
        obtain ⟨k, e, rfl, rfl, hk, hkx, rfl⟩ := hrel
        have hes := e.h.size
        have hsw : w.heap.size < e.w.heap.size := by omega
        have hn := HAN.out k (by have := HZL.out; omega)
        by_cases hlt : k < Z.length
        · have hk1 : (0 : Int) ≤ (k : Int) := by omega
          have hk2 : (k : Int) < Z.length := by omega
          obtain ⟨bz, oz, ez, ltz, hz⟩ := HZI.out.cells (fun e => by rw [e] at hlt; simp at hlt)
          obtain ⟨bl, ol, el, ltl, hl⟩ := HLI.out.cells (fun e => by have := HZL.out; have := HLL.out; rw [e] at this; simp at this; omega)
          have hb4 : Below hp4w.heap.size hp4w e.w := by (repeat' (first | (with_reducible exact Below.refl _ _) | (with_reducible assumption) | (with_reducible refine below_alloc ?_ _) | (with_reducible refine Below.drew ?_) | (with_reducible refine below_drewN ?_ _) | (with_reducible refine below_step (by assumption) ?_) | (with_reducible refine below_later ?_ _) | (with_reducible refine Below.setCell ?_ ?_ _) | go_size))
          have hb3 : Below hp3w.heap.size hp3w e.w := by (repeat' (first | (with_reducible exact Below.refl _ _) | (with_reducible assumption) | (with_reducible refine below_alloc ?_ _) | (with_reducible refine Below.drew ?_) | (with_reducible refine below_drewN ?_ _) | (with_reducible refine below_step (by assumption) ?_) | (with_reducible refine below_later ?_ _) | (with_reducible refine Below.setCell ?_ ?_ _) | go_size))
          have hble : bl < e.w.heap.size := by omega
          have hbze : bz < e.w.heap.size := by omega
          have d1 : e.w.cell? ⟨bz, oz + k, none⟩ = some (.int .i64 (E (1 + k))) := by
            rw [hb3.cell (p := ⟨bz, oz + k, none⟩) ltz, hz k hlt, HZ.out k (by have := HZL.out; omega)]
          have d2 : e.w.cell? ⟨bl, ol + k, none⟩ = some (.int .i64 (E (1 + k) + 23040)) := by
            rw [hb4.cell (p := ⟨bl, ol + k, none⟩) ltl, hl k (by have := HZL.out; have := HLL.out; omega), HLT.out k (by have := HZL.out; omega)]
          have ⟨e1, e2⟩ := HBD.out k (by have := HZL.out; omega)
          have HNX := Lib.hid (HA.out k)
          have hkL : (k : Int) < L.length := by have := HZL.out; have := HLL.out; omega
          have hkL2 : k < L.length := by omega
          clear hz hl hb3 hb4
          subst ez
          subst el
          generalize E (1 + k) = z at *
          generalize A k = at0 at *
          go_wp2_with ((go_at_call 18; refine (next_any _ _ _ _).mono ?_; rintro e hb8w ⟨rfl, hb8⟩; obtain ⟨hb8c, hb8f⟩ := bcell hb8; have hb8s := hb8.size; (try simp only [World.size_alloc] at hb8s); (try (have : w.heap.size < hb8w.heap.size := by omega)); (try (have : w.heap.size + 1 < hb8w.heap.size := by omega)); (try (have : w.heap.size + 1 + 1 < hb8w.heap.size := by omega)); (try (have : w.heap.size + 1 + 1 + 1 < hb8w.heap.size := by omega)); (try (have : bX < hb8w.heap.size := by omega)); (try (have : bY < hb8w.heap.size := by omega)); (try (have : bZ < hb8w.heap.size := by omega))))
          go_roundg (Z.length - (k + 1))
          case measure => omega
          case rel => exact ⟨k + 1, ⟨hb8w, e.h.trans (hb8.mono e.h.size)⟩, by rw [HNX.out], by go_num, by omega, by omega, rfl⟩
        · obtain rfl : k = Z.length := by omega
          have hend : c < E (1 + Z.length) := by rw [HZL.out]; exact HEND.out
          generalize E (1 + Z.length) = z at *
          generalize A Z.length = at0 at *
          go_wp2_with ((go_at_call 18; refine (next_any _ _ _ _).mono ?_; rintro e hb8w ⟨rfl, hb8⟩; obtain ⟨hb8c, hb8f⟩ := bcell hb8; have hb8s := hb8.size; (try simp only [World.size_alloc] at hb8s); (try (have : w.heap.size < hb8w.heap.size := by omega)); (try (have : w.heap.size + 1 < hb8w.heap.size := by omega)); (try (have : w.heap.size + 1 + 1 < hb8w.heap.size := by omega)); (try (have : w.heap.size + 1 + 1 + 1 < hb8w.heap.size := by omega)); (try (have : bX < hb8w.heap.size := by omega)); (try (have : bY < hb8w.heap.size := by omega)); (try (have : bZ < hb8w.heap.size := by omega))))
          go_ret
          exact ⟨by simp, by (repeat' (first | (with_reducible exact Below.refl _ _) | (with_reducible assumption) | (with_reducible refine below_alloc ?_ _) | (with_reducible refine Below.drew ?_) | (with_reducible refine below_drewN ?_ _) | (with_reducible refine below_step (by assumption) ?_) | (with_reducible refine below_later ?_ _) | (with_reducible refine Below.setCell ?_ ?_ _) | go_size))⟩
    · by_cases i1 : a < 0
      · clear hg
        go_enter Try.func9, Try.ntmps9
        go_wp2_with (first | (go_at_call 10; refine (awake_any _).mono ?_; rintro e hb1w ⟨rfl, hb1⟩; obtain ⟨hb1c, hb1f⟩ := bcell hb1; have hb1s := hb1.size; (try simp only [World.size_alloc] at hb1s); (try (have : w.heap.size < hb1w.heap.size := by omega)); (try (have : w.heap.size + 1 < hb1w.heap.size := by omega)); (try (have : w.heap.size + 1 + 1 < hb1w.heap.size := by omega)); (try (have : w.heap.size + 1 + 1 + 1 < hb1w.heap.size := by omega)); (try (have : bX < hb1w.heap.size := by omega)); (try (have : bY < hb1w.heap.size := by omega)); (try (have : bZ < hb1w.heap.size := by omega))) | (go_at_call 13; refine (wvalid_any _ _ _).mono ?_; rintro e hb2w ⟨rfl, hb2⟩; obtain ⟨hb2c, hb2f⟩ := bcell hb2; have hb2s := hb2.size; (try simp only [World.size_alloc] at hb2s); (try (have : w.heap.size < hb2w.heap.size := by omega)); (try (have : w.heap.size + 1 < hb2w.heap.size := by omega)); (try (have : w.heap.size + 1 + 1 < hb2w.heap.size := by omega)); (try (have : w.heap.size + 1 + 1 + 1 < hb2w.heap.size := by omega)); (try (have : bX < hb2w.heap.size := by omega)); (try (have : bY < hb2w.heap.size := by omega)); (try (have : bZ < hb2w.heap.size := by omega))))
        go_ret
        exact ⟨by simp, by (repeat' (first | (with_reducible exact Below.refl _ _) | (with_reducible assumption) | (with_reducible refine below_alloc ?_ _) | (with_reducible refine Below.drew ?_) | (with_reducible refine below_drewN ?_ _) | (with_reducible refine below_step (by assumption) ?_) | (with_reducible refine below_later ?_ _) | (with_reducible refine Below.setCell ?_ ?_ _) | go_size))⟩
      · by_cases i2 : b < a
        · clear hg
          go_enter Try.func9, Try.ntmps9
          go_wp2_with (first | (go_at_call 10; refine (awake_any _).mono ?_; rintro e hb1w ⟨rfl, hb1⟩; obtain ⟨hb1c, hb1f⟩ := bcell hb1; have hb1s := hb1.size; (try simp only [World.size_alloc] at hb1s); (try (have : w.heap.size < hb1w.heap.size := by omega)); (try (have : w.heap.size + 1 < hb1w.heap.size := by omega)); (try (have : w.heap.size + 1 + 1 < hb1w.heap.size := by omega)); (try (have : w.heap.size + 1 + 1 + 1 < hb1w.heap.size := by omega)); (try (have : bX < hb1w.heap.size := by omega)); (try (have : bY < hb1w.heap.size := by omega)); (try (have : bZ < hb1w.heap.size := by omega))) | (go_at_call 13; refine (wvalid_any _ _ _).mono ?_; rintro e hb2w ⟨rfl, hb2⟩; obtain ⟨hb2c, hb2f⟩ := bcell hb2; have hb2s := hb2.size; (try simp only [World.size_alloc] at hb2s); (try (have : w.heap.size < hb2w.heap.size := by omega)); (try (have : w.heap.size + 1 < hb2w.heap.size := by omega)); (try (have : w.heap.size + 1 + 1 < hb2w.heap.size := by omega)); (try (have : w.heap.size + 1 + 1 + 1 < hb2w.heap.size := by omega)); (try (have : bX < hb2w.heap.size := by omega)); (try (have : bY < hb2w.heap.size := by omega)); (try (have : bZ < hb2w.heap.size := by omega))))
          go_ret
          exact ⟨by simp, by (repeat' (first | (with_reducible exact Below.refl _ _) | (with_reducible assumption) | (with_reducible refine below_alloc ?_ _) | (with_reducible refine Below.drew ?_) | (with_reducible refine below_drewN ?_ _) | (with_reducible refine below_step (by assumption) ?_) | (with_reducible refine below_later ?_ _) | (with_reducible refine Below.setCell ?_ ?_ _) | go_size))⟩
        · by_cases i3 : c < b
          · clear hg
            go_enter Try.func9, Try.ntmps9
            go_wp2_with (first | (go_at_call 10; refine (awake_any _).mono ?_; rintro e hb1w ⟨rfl, hb1⟩; obtain ⟨hb1c, hb1f⟩ := bcell hb1; have hb1s := hb1.size; (try simp only [World.size_alloc] at hb1s); (try (have : w.heap.size < hb1w.heap.size := by omega)); (try (have : w.heap.size + 1 < hb1w.heap.size := by omega)); (try (have : w.heap.size + 1 + 1 < hb1w.heap.size := by omega)); (try (have : w.heap.size + 1 + 1 + 1 < hb1w.heap.size := by omega)); (try (have : bX < hb1w.heap.size := by omega)); (try (have : bY < hb1w.heap.size := by omega)); (try (have : bZ < hb1w.heap.size := by omega))) | (go_at_call 13; refine (wvalid_any _ _ _).mono ?_; rintro e hb2w ⟨rfl, hb2⟩; obtain ⟨hb2c, hb2f⟩ := bcell hb2; have hb2s := hb2.size; (try simp only [World.size_alloc] at hb2s); (try (have : w.heap.size < hb2w.heap.size := by omega)); (try (have : w.heap.size + 1 < hb2w.heap.size := by omega)); (try (have : w.heap.size + 1 + 1 < hb2w.heap.size := by omega)); (try (have : w.heap.size + 1 + 1 + 1 < hb2w.heap.size := by omega)); (try (have : bX < hb2w.heap.size := by omega)); (try (have : bY < hb2w.heap.size := by omega)); (try (have : bZ < hb2w.heap.size := by omega))))
            go_ret
            exact ⟨by simp, by (repeat' (first | (with_reducible exact Below.refl _ _) | (with_reducible assumption) | (with_reducible refine below_alloc ?_ _) | (with_reducible refine Below.drew ?_) | (with_reducible refine below_drewN ?_ _) | (with_reducible refine below_step (by assumption) ?_) | (with_reducible refine below_later ?_ _) | (with_reducible refine Below.setCell ?_ ?_ _) | go_size))⟩
          · by_cases i4 : 549755813888 ≤ c
            · clear hg
              go_enter Try.func9, Try.ntmps9
              go_wp2_with (first | (go_at_call 10; refine (awake_any _).mono ?_; rintro e hb1w ⟨rfl, hb1⟩; obtain ⟨hb1c, hb1f⟩ := bcell hb1; have hb1s := hb1.size; (try simp only [World.size_alloc] at hb1s); (try (have : w.heap.size < hb1w.heap.size := by omega)); (try (have : w.heap.size + 1 < hb1w.heap.size := by omega)); (try (have : w.heap.size + 1 + 1 < hb1w.heap.size := by omega)); (try (have : w.heap.size + 1 + 1 + 1 < hb1w.heap.size := by omega)); (try (have : bX < hb1w.heap.size := by omega)); (try (have : bY < hb1w.heap.size := by omega)); (try (have : bZ < hb1w.heap.size := by omega))) | (go_at_call 13; refine (wvalid_any _ _ _).mono ?_; rintro e hb2w ⟨rfl, hb2⟩; obtain ⟨hb2c, hb2f⟩ := bcell hb2; have hb2s := hb2.size; (try simp only [World.size_alloc] at hb2s); (try (have : w.heap.size < hb2w.heap.size := by omega)); (try (have : w.heap.size + 1 < hb2w.heap.size := by omega)); (try (have : w.heap.size + 1 + 1 < hb2w.heap.size := by omega)); (try (have : w.heap.size + 1 + 1 + 1 < hb2w.heap.size := by omega)); (try (have : bX < hb2w.heap.size := by omega)); (try (have : bY < hb2w.heap.size := by omega)); (try (have : bZ < hb2w.heap.size := by omega))))
              go_ret
              exact ⟨by simp, by (repeat' (first | (with_reducible exact Below.refl _ _) | (with_reducible assumption) | (with_reducible refine below_alloc ?_ _) | (with_reducible refine Below.drew ?_) | (with_reducible refine below_drewN ?_ _) | (with_reducible refine below_step (by assumption) ?_) | (with_reducible refine below_later ?_ _) | (with_reducible refine Below.setCell ?_ ?_ _) | go_size))⟩
            · have i5 : 184320 < c - a := by omega
              have i6 : 0 ≤ a := by omega
              have i7 : a ≤ b := by omega
              have i8 : b ≤ c := by omega
              clear hg
              go_enter Try.func9, Try.ntmps9
              go_wp2_with (first | (go_at_call 10; refine (awake_any _).mono ?_; rintro e hb1w ⟨rfl, hb1⟩; obtain ⟨hb1c, hb1f⟩ := bcell hb1; have hb1s := hb1.size; (try simp only [World.size_alloc] at hb1s); (try (have : w.heap.size < hb1w.heap.size := by omega)); (try (have : w.heap.size + 1 < hb1w.heap.size := by omega)); (try (have : w.heap.size + 1 + 1 < hb1w.heap.size := by omega)); (try (have : w.heap.size + 1 + 1 + 1 < hb1w.heap.size := by omega)); (try (have : bX < hb1w.heap.size := by omega)); (try (have : bY < hb1w.heap.size := by omega)); (try (have : bZ < hb1w.heap.size := by omega))) | (go_at_call 13; refine (wvalid_any _ _ _).mono ?_; rintro e hb2w ⟨rfl, hb2⟩; obtain ⟨hb2c, hb2f⟩ := bcell hb2; have hb2s := hb2.size; (try simp only [World.size_alloc] at hb2s); (try (have : w.heap.size < hb2w.heap.size := by omega)); (try (have : w.heap.size + 1 < hb2w.heap.size := by omega)); (try (have : w.heap.size + 1 + 1 < hb2w.heap.size := by omega)); (try (have : w.heap.size + 1 + 1 + 1 < hb2w.heap.size := by omega)); (try (have : bX < hb2w.heap.size := by omega)); (try (have : bY < hb2w.heap.size := by omega)); (try (have : bZ < hb2w.heap.size := by omega))))
              go_ret
              exact ⟨by simp, by (repeat' (first | (with_reducible exact Below.refl _ _) | (with_reducible assumption) | (with_reducible refine below_alloc ?_ _) | (with_reducible refine Below.drew ?_) | (with_reducible refine below_drewN ?_ _) | (with_reducible refine below_step (by assumption) ?_) | (with_reducible refine below_later ?_ _) | (with_reducible refine Below.setCell ?_ ?_ _) | go_size))⟩

set_option maxRecDepth 100000 in
theorem wparts_holds : Rows.WheelPartsSaid :=
  OpenClaim.holds_of_wide 9 Try.f9 rfl rfl rfl rfl rfl rfl rfl ⟨rfl, rfl, rfl, rfl, rfl⟩ rfl rfl rfl rfl rfl (by kernel_rfl) Try.func9 (by kernel_rfl)
    (of_decide_eq_true (by kernel_rfl)) (by unfold Func.isWrapper; first | (rw [if_pos (by decide +kernel)]; kernel_rfl) | (rw [if_neg (by decide +kernel)]; exact ⟨rfl, rfl⟩))
    (fun os started H enc _ => by
      refine law_frame started (s := Rows.wheelPartsSpec) (conds := Rows.wheelPartsRow.domain) Try.func9 (by kernel_rfl) rfl 4 rfl Try.underlying4 (by decide +kernel) (fun ds h => ?_)
        (ChangeSpec.witness6 (enc := enc) (C := Try.checked) false ⟨#[], #[.agg #[.int .i64 0, .int .i64 0], .int .i64 0, .int .i64 0, .int .i64 0], []⟩ 12 (by kernel_rfl) (by kernel_rfl) (by kernel_rfl) (by kernel_rfl)) ?_
      · match ds, h with
        | [_, _, _, _], _ => rfl
      · intro W base args ds p hval hA _
        rw [Try.params9] at hA hval
        obtain ⟨v0, vs0, d0, ds0, p0, q0, hargs, rfl, rfl, h0, r0⟩ := trodAll_cons hA
        obtain ⟨v1, vs1, d1, ds1, p1, q1, rfl, rfl, rfl, h1, r1⟩ := trodAll_cons r0
        obtain ⟨v2, vs2, d2, ds2, p2, q2, rfl, rfl, rfl, h2, r2⟩ := trodAll_cons r1
        obtain ⟨v3, vs3, d3, ds3, p3, q3, rfl, rfl, rfl, h3, r3⟩ := trodAll_cons r2
        obtain ⟨rfl, rfl, rfl⟩ := trodAll_nil r3
        obtain rfl : args = #[v0, v1, v2, v3] := by cases args; simp_all
        obtain ⟨cs0, rfl, k0⟩ := arg_agg Try.underlying23 (hval 0 _ v0 rfl rfl) h0
        obtain ⟨a0_0, a1_0, rfl, g0_0, g1_0⟩ := open_Wheel k0
        obtain ⟨b1, rfl, rfl, rfl, w1⟩ := open_int Try.underlying3 (hval 1 _ v1 rfl rfl) h1
        obtain ⟨b2, rfl, rfl, rfl, w2⟩ := open_int Try.underlying3 (hval 2 _ v2 rfl rfl) h2
        obtain ⟨b3, rfl, rfl, rfl, w3⟩ := open_int Try.underlying3 (hval 3 _ v3 rfl rfl) h3
        apply wparts_walk <;> (first | assumption | rfl))
#print axioms wparts_holds

end Go.Proofs.Ytjkdekblenlflaa
