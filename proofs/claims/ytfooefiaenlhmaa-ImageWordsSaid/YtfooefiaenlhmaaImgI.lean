/- The body of the smallest program. Printed by a program. -/
import Derived.Test.YtfooefiaenlhmaaImgG
namespace Go.Proofs.Ytfooefiaenlhmaa
set_option linter.unusedVariables false
set_option linter.unusedSimpArgs false
open Go.RowKit Go.ChangeShapes Go.WideShapes Go.ChangeAt

/-- The smallest program lies in the first block behind w, the writer in the next; it holds n zeros. -/
def St (w v : World) (n : Nat) : Prop := Below w.heap.size w v ∧ Wr v (w.heap.size + 1) (List.replicate n 0) ∧ v.cell? ⟨w.heap.size, 0, none⟩ = some (.slice none 0 0) ∧ v.cell? ⟨w.heap.size, 1, none⟩ = some (.slice none 0 0) ∧ v.cell? ⟨w.heap.size, 2, none⟩ = some (.slice none 0 0) ∧ v.cell? ⟨w.heap.size, 3, none⟩ = some (.slice none 0 0) ∧ v.cell? ⟨w.heap.size, 4, none⟩ = some (.int .i64 0) ∧ v.cell? ⟨w.heap.size, 5, none⟩ = some (.slice none 0 0) ∧ v.cell? ⟨w.heap.size, 6, none⟩ = some (.slice none 0 0) ∧ v.cell? ⟨w.heap.size, 7, none⟩ = some (.slice none 0 0) ∧ v.cell? ⟨w.heap.size, 8, none⟩ = some (.slice none 0 0)
theorem St.next {w v v' : World} {n : Nat} {xs : List Int} (h : St w v n) (hb : Below (w.heap.size + 1) v v') (hx : xs = List.replicate 8 0) (hw : Wr v' (w.heap.size + 1) (List.replicate n 0 ++ xs)) : St w v' (n + 8) := by
  subst hx
  rw [List.replicate_append_replicate] at hw
  obtain ⟨h1, h2, c0, c1, c2, c3, c4, c5, c6, c7, c8⟩ := h
  exact ⟨h1.trans (hb.mono (Nat.le_succ _)), hw, (hb.cell (p := ⟨w.heap.size, 0, none⟩) (Nat.lt_succ_self _)).trans c0, (hb.cell (p := ⟨w.heap.size, 1, none⟩) (Nat.lt_succ_self _)).trans c1, (hb.cell (p := ⟨w.heap.size, 2, none⟩) (Nat.lt_succ_self _)).trans c2, (hb.cell (p := ⟨w.heap.size, 3, none⟩) (Nat.lt_succ_self _)).trans c3, (hb.cell (p := ⟨w.heap.size, 4, none⟩) (Nat.lt_succ_self _)).trans c4, (hb.cell (p := ⟨w.heap.size, 5, none⟩) (Nat.lt_succ_self _)).trans c5, (hb.cell (p := ⟨w.heap.size, 6, none⟩) (Nat.lt_succ_self _)).trans c6, (hb.cell (p := ⟨w.heap.size, 7, none⟩) (Nat.lt_succ_self _)).trans c7, (hb.cell (p := ⟨w.heap.size, 8, none⟩) (Nat.lt_succ_self _)).trans c8⟩
theorem Wr.new {v : World} {b : Nat} {xs : List Int} (h : Wr v b xs) (o : Obj) : Wr (v.alloc o) b xs ∧ Safe (v.alloc o) b v.heap.size := by
  obtain ⟨r, cap, hb, hc, hf, ho⟩ := h
  have hB : Below v.heap.size v (v.alloc o) := (Below.refl _ _).alloc (Nat.le_refl _) o
  have hc2 : (v.alloc o).cell? ⟨b, 0, none⟩ = some (.slice r xs.length cap) := by rw [hB.cell (p := ⟨b, 0, none⟩) hb]; exact hc
  refine ⟨⟨r, cap, by rw [World.size_alloc]; omega, hc2, by rw [hB.frozen (p := ⟨b, 0, none⟩) hb]; exact hf, ho.below hB (Nat.le_refl _)⟩, by rw [World.size_alloc]; omega, by omega, fun ad l c h3 => ?_⟩
  rw [hc2] at h3
  simp only [Option.some.injEq, Value.slice.injEq] at h3
  have := ho.lt ad h3.1
  omega
theorem St.alloc {w v : World} {n : Nat} (h : St w v n) (o : Obj) : St w (v.alloc o) n := by
  obtain ⟨h1, h2, c0, c1, c2, c3, c4, c5, c6, c7, c8⟩ := h
  have hB : Below v.heap.size v (v.alloc o) := (Below.refl _ _).alloc (Nat.le_refl _) o
  have hl : w.heap.size < v.heap.size := by obtain ⟨_, _, hb, _⟩ := h2; omega
  exact ⟨h1.trans (hB.mono (by omega)), (h2.new o).1, (hB.cell (p := ⟨w.heap.size, 0, none⟩) hl).trans c0, (hB.cell (p := ⟨w.heap.size, 1, none⟩) hl).trans c1, (hB.cell (p := ⟨w.heap.size, 2, none⟩) hl).trans c2, (hB.cell (p := ⟨w.heap.size, 3, none⟩) hl).trans c3, (hB.cell (p := ⟨w.heap.size, 4, none⟩) hl).trans c4, (hB.cell (p := ⟨w.heap.size, 5, none⟩) hl).trans c5, (hB.cell (p := ⟨w.heap.size, 6, none⟩) hl).trans c6, (hB.cell (p := ⟨w.heap.size, 7, none⟩) hl).trans c7, (hB.cell (p := ⟨w.heap.size, 8, none⟩) hl).trans c8⟩
theorem int0 (w v : World) (n : Nat) (h : St w v n) (hn : n ≤ 1000) : Calls Try.prog 72 #[.pointer (some ⟨w.heap.size + 1, 0, none⟩), .int .i64 0] v fun e v' => e = .returned (.tuple #[]) ∧ St w v' (n + 8) ∧ KeepW v v' (w.heap.size + 1) := by
  refine (wint_any (w.heap.size + 1) 0 (List.replicate n 0) v h.2.1 (by simp; omega)).mono ?_
  rintro e v' ⟨rfl, hw, hb, hk⟩
  exact ⟨rfl, h.next hb (by decide) hw, hk⟩
theorem list0 (w v : World) (n : Nat) (h : St w v n) (hn : n ≤ 1000) : Calls Try.prog 74 #[.pointer (some ⟨w.heap.size + 1, 0, none⟩), .slice none 0 0] v fun e v' => e = .returned (.tuple #[]) ∧ St w v' (n + 8) ∧ KeepW v v' (w.heap.size + 1) := by
  refine (wlist_any (w.heap.size + 1) none 0 [] (List.replicate n 0) w v nilI (Nat.le_succ _) h.1 h.2.1 (by simp; omega)).mono ?_
  rintro e v' ⟨rfl, hw, hb, hk⟩
  exact ⟨rfl, h.next hb (by decide) hw, hk⟩
set_option maxRecDepth 100000 in
set_option maxHeartbeats 4000000 in
theorem body0 (w : World) : Calls Try.prog 36 #[prog0] w fun e w' => ∃ r c, e = .returned (.slice r (List.replicate 72 (0 : Int)).length c) ∧ OwnK .u8 5 w' w.heap.size r c (List.replicate 72 0) ∧ Below w.heap.size w w' := by
  unfold prog0
  have H0 : Hid (St w ((w.alloc (.cells #[.slice none 0 0, .slice none 0 0, .slice none 0 0, .slice none 0 0, .int .i64 0, .slice none 0 0, .slice none 0 0, .slice none 0 0, .slice none 0 0] 28)).alloc (.cells #[.slice none 0 0] 107)) 0) := Lib.hid (by
    refine ⟨(((Below.refl _ _).alloc (Nat.le_refl _) _).alloc (by rw [World.size_alloc]; omega) _), ⟨none, 0, by rw [World.size_alloc, World.size_alloc]; omega, ?_, ?_, OwnK.nil _ _⟩, ?_⟩
    · rw [← World.size_alloc w (.cells #[.slice none 0 0, .slice none 0 0, .slice none 0 0, .slice none 0 0, .int .i64 0, .slice none 0 0, .slice none 0 0, .slice none 0 0, .slice none 0 0] 28), World.cell?_alloc_new]; rfl
    · simp
    · simp)
  go_enter Try.func36, Try.ntmps36
  go_wp2_with (go_at_call 72; refine (int0 w _ 0 H0.out (by omega)).mono ?_; rintro x v1 ⟨rfl, hv, hkw⟩; clear hkw; have H1 := Lib.hid hv; obtain ⟨_, _, q0, q1, q2, q3, q4, q5, q6, q7, q8⟩ := hv)
  go_loopg [31] 0 (fun kx s31 wr => s31 = .int .i64 0 ∧ wr = v1)
  case atStart => exact ⟨rfl, rfl⟩
  case round =>
    obtain ⟨rfl, rfl⟩ := hrel
    go_wp2_with (go_at_call 72; refine (int0 w _ 8 H1.out (by omega)).mono ?_; rintro x v2 ⟨rfl, hv, hkw⟩; clear hkw; have H2 := Lib.hid hv; obtain ⟨_, _, q0, q1, q2, q3, q4, q5, q6, q7, q8⟩ := hv)
    go_loopg [58] 0 (fun kx s58 wr => s58 = .int .i64 0 ∧ wr = v2)
    case atStart => exact ⟨rfl, rfl⟩
    case round =>
      obtain ⟨rfl, rfl⟩ := hrel
      go_wp2_with (go_at_call 72; refine (int0 w _ 16 H2.out (by omega)).mono ?_; rintro x v3 ⟨rfl, hv, hkw⟩; clear hkw; have H3 := Lib.hid hv; obtain ⟨_, _, q0, q1, q2, q3, q4, q5, q6, q7, q8⟩ := hv)
      go_loopg [107] 0 (fun kx s107 wr => s107 = .int .i64 0 ∧ wr = v3)
      case atStart => exact ⟨rfl, rfl⟩
      case round =>
        obtain ⟨rfl, rfl⟩ := hrel
        go_wp2_with (go_at_call 72; refine (int0 w _ 24 H3.out (by omega)).mono ?_; rintro x v4 ⟨rfl, hv, hkw⟩; clear hkw; have H4 := Lib.hid hv; obtain ⟨_, _, q0, q1, q2, q3, q4, q5, q6, q7, q8⟩ := hv)
        go_loopg [128] 0 (fun kx s128 wr => s128 = .int .i64 0 ∧ wr = v4)
        case atStart => exact ⟨rfl, rfl⟩
        case round =>
          obtain ⟨rfl, rfl⟩ := hrel
          go_wp2_with (go_at_call 72; refine (int0 w _ 32 H4.out (by omega)).mono ?_; rintro x v5 ⟨rfl, hv, hkw⟩; clear hkw; have H5 := Lib.hid hv; obtain ⟨_, _, q0, q1, q2, q3, q4, q5, q6, q7, q8⟩ := hv)
          have HN : Hid (Wr (v5.alloc (.cells #[.slice none 0 0, .slice none 0 0, .slice none 0 0, .slice none 0 0] 26)) (w.heap.size + 1) (List.replicate 40 0) ∧ Safe (v5.alloc (.cells #[.slice none 0 0, .slice none 0 0, .slice none 0 0, .slice none 0 0] 26)) (w.heap.size + 1) v5.heap.size) := Lib.hid (H5.out.2.1.new _)
          have HS6 : Hid (St w (v5.alloc (.cells #[.slice none 0 0, .slice none 0 0, .slice none 0 0, .slice none 0 0] 26)) 40) := Lib.hid (H5.out.alloc _)
          have l0 : (v5.alloc (.cells #[.slice none 0 0, .slice none 0 0, .slice none 0 0, .slice none 0 0] 26)).cell? ⟨v5.heap.size, 0, none⟩ = some (.slice none 0 0) := by simp
          have l1 : (v5.alloc (.cells #[.slice none 0 0, .slice none 0 0, .slice none 0 0, .slice none 0 0] 26)).cell? ⟨v5.heap.size, 1, none⟩ = some (.slice none 0 0) := by simp
          have l2 : (v5.alloc (.cells #[.slice none 0 0, .slice none 0 0, .slice none 0 0, .slice none 0 0] 26)).cell? ⟨v5.heap.size, 2, none⟩ = some (.slice none 0 0) := by simp
          have l3 : (v5.alloc (.cells #[.slice none 0 0, .slice none 0 0, .slice none 0 0, .slice none 0 0] 26)).cell? ⟨v5.heap.size, 3, none⟩ = some (.slice none 0 0) := by simp
          generalize v5.alloc (.cells #[.slice none 0 0, .slice none 0 0, .slice none 0 0, .slice none 0 0] 26) = W6 at *
          generalize v5.heap.size = L at *
          go_loopg [20, 166] 4 (fun kx s20 s166 wr => ∃ k : Nat, s166 = .int .i64 k ∧ k ≤ 4 ∧ 4 - k ≤ kx ∧ Hid (St w wr (40 + 8 * k)) ∧ Hid (KeepW W6 wr (w.heap.size + 1)))
          case atStart => exact ⟨0, rfl, by omega, by omega, HS6, Lib.hid (KeepW.refl _ _)⟩
          case round =>
            obtain ⟨k, rfl, hk, hkx, HS, HK⟩ := hrel
            have hL := (HK.out L HN.out.2).2
            by_cases hlt : k < 4
            · obtain rfl | rfl | rfl | rfl : k = 0 ∨ k = 1 ∨ k = 2 ∨ k = 3 := by omega
              · have hc : wr.cell? ⟨L, 0, none⟩ = some (.slice none 0 0) := (World.cell?_of_block (a := ⟨L, 0, none⟩) hL).trans l0
                clear hL
                go_wp2_with (go_at_call 74; refine (list0 w _ _ HS.out (by omega)).mono ?_; rintro x v6 ⟨rfl, hv, hkw⟩; have H6 := Lib.hid hv; have HK6 := Lib.hid (HK.out.trans hkw); clear hv hkw)
                go_roundg 3
                case measure => omega
                case rel => exact ⟨1, by go_num, by omega, by omega, H6, HK6⟩
              · have hc : wr.cell? ⟨L, 1, none⟩ = some (.slice none 0 0) := (World.cell?_of_block (a := ⟨L, 1, none⟩) hL).trans l1
                clear hL
                go_wp2_with (go_at_call 74; refine (list0 w _ _ HS.out (by omega)).mono ?_; rintro x v6 ⟨rfl, hv, hkw⟩; have H6 := Lib.hid hv; have HK6 := Lib.hid (HK.out.trans hkw); clear hv hkw)
                go_roundg 2
                case measure => omega
                case rel => exact ⟨2, by go_num, by omega, by omega, H6, HK6⟩
              · have hc : wr.cell? ⟨L, 2, none⟩ = some (.slice none 0 0) := (World.cell?_of_block (a := ⟨L, 2, none⟩) hL).trans l2
                clear hL
                go_wp2_with (go_at_call 74; refine (list0 w _ _ HS.out (by omega)).mono ?_; rintro x v6 ⟨rfl, hv, hkw⟩; have H6 := Lib.hid hv; have HK6 := Lib.hid (HK.out.trans hkw); clear hv hkw)
                go_roundg 1
                case measure => omega
                case rel => exact ⟨3, by go_num, by omega, by omega, H6, HK6⟩
              · have hc : wr.cell? ⟨L, 3, none⟩ = some (.slice none 0 0) := (World.cell?_of_block (a := ⟨L, 3, none⟩) hL).trans l3
                clear hL
                go_wp2_with (go_at_call 74; refine (list0 w _ _ HS.out (by omega)).mono ?_; rintro x v6 ⟨rfl, hv, hkw⟩; have H6 := Lib.hid hv; have HK6 := Lib.hid (HK.out.trans hkw); clear hv hkw)
                go_roundg 0
                case measure => omega
                case rel => exact ⟨4, by go_num, by omega, by omega, H6, HK6⟩
            · obtain rfl : k = 4 := by omega
              obtain ⟨h1, ⟨r, c, hb, hc, hf, ho⟩, _⟩ := HS.out
              go_wp2
              go_ret
              exact ⟨r, c, rfl, ho.base (by omega), h1⟩
end Go.Proofs.Ytfooefiaenlhmaa
