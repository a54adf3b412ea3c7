/- Lemmas for the laws of package magnetolaw15: what its functions return, for any arguments that the lemmas name. -/
import Derived.Test.YtfooefiaenlhmaaGO3
import Derived.Lib.SlBytesConst
namespace Go.Proofs.Ytfooefiaenlhmaa
set_option linter.unusedVariables false
set_option linter.unusedSimpArgs false
set_option maxHeartbeats 16000000
open Go.RowKit Go.ChangeShapes Go.WideShapes Go.ChangeAt
def ixB (n : Nat) (c : Int) : Int := Lib.indexByte (rowF n).data.toList c.toNat.toUInt8
def hasK (n : Nat) : Bool := Lib.hasSuffix (rowF n).data.toList (⟨#[75]⟩ : ByteArray).data.toList
def regB (n : Nat) (x l : Int) : Bool := decide (0 ≤ x ∧ x < 16 ∧ (x = 0 ∨ 0 ≤ ixB n l))
def formB (op a b c k : Int) : Bool := opB op && (regB op.toNat a 65 && (regB op.toNat b 66 && (regB op.toNat c 67 && (if hasK op.toNat = true then kOk op k else decide (k = 0)))))
theorem rowF_size (n : Nat) : (rowF n).size ≤ 9223372036854775807 := by
  rcases n with _ | _ | _ | _ | _ | _ | _ | _ | _ | _ | _ | _ | _ | _ | _ | _ | _ | _ | _ | _ | _ | _ | _ | n
  all_goals (try (show _ ≤ _; decide))
  exact Nat.zero_le _
theorem cap_world {P : World → Prop} (W : World) (h : ∀ W', W' = W → P W') : P W := h W rfl
theorem cell_marked (W : World) (C : Array Value) (e : TypeId) (f : Nat × Nat) (i : Nat) : (W.alloc (.cells C e f)).cell? ⟨W.heap.size, i, none⟩ = C[i]? := by
  simp only [World.cell?, World.alloc_heap_new W (.cells C e f)]
  simp
theorem regB_bad {n : Nat} {x l : Int} (h : x < 0 ∨ 16 ≤ x ∨ (x ≠ 0 ∧ ixB n l < 0)) : regB n x l = false := by
  unfold regB
  simp only [decide_eq_false_iff_not]
  omega
theorem regB_good {n : Nat} {x l : Int} (h0 : 0 ≤ x) (h1 : x < 16) (h2 : x = 0 ∨ 0 ≤ ixB n l) : regB n x l = true := by
  unfold regB
  simp only [decide_eq_true_eq]
  exact ⟨h0, h1, h2⟩
set_option maxRecDepth 100000 in
theorem formed_any (op a b c k : Int) (hk : I64 k) (w : World) : Calls Try.prog 105 #[.agg #[.int .i64 op, .int .i64 a, .int .i64 b, .int .i64 c, .int .i64 k]] w fun e w' => e = .returned (.bool (formB op a b c k)) ∧ Below w.heap.size w w' := by
  by_cases hop : opB op = true
  · obtain ⟨n, rfl⟩ : ∃ n : Nat, op = (n : Int) := ⟨op.toNat, by simp [opB] at hop; omega⟩
    have hn : n < 23 := by simp [opB] at hop; omega
    have HF : Hid (formB (n : Int) a b c k = (regB n a 65 && (regB n b 66 && (regB n c 67 && (if hasK n = true then kOk (n : Int) k else decide (k = 0)))))) := H! (by unfold formB; rw [hop, Bool.true_and, Int.toNat_natCast])
    have HK := H! (fun w => known_any (n : Int) w)
    have HN : Hid (opB (n : Int) = true) := H! hop
    have hn2 : (n : Int) < 23 := by omega
    have hn3 : (0 : Int) ≤ (n : Int) := by omega
    have HX := H! (fun w => const_any (n : Int) a b c k hk w)
    have HSF := H! (rowF_size n)
    clear hop
    generalize formB (n : Int) a b c k = R at *
    go_enter Try.func105, Try.ntmps105
    go_wp2_with (go_at_call 114; refine (HK.out _).mono ?_; rintro e w' ⟨rfl, rfl⟩; rw [HN.out])
    rename_i K hK
    have KEY : ∀ (W3 : World) (bR g : Nat), W3.cell? ⟨w.heap.size, 0, none⟩ = some (.int .i64 (n : Int)) → W3.cell? ⟨w.heap.size, 1, none⟩ = some (.int .i64 a) → W3.cell? ⟨w.heap.size, 2, none⟩ = some (.int .i64 b) → W3.cell? ⟨w.heap.size, 3, none⟩ = some (.int .i64 c) → W3.cell? ⟨w.heap.size, 4, none⟩ = some (.int .i64 k) →
        W3.cell? ⟨bR, 1, none⟩ = some (.string (rowF n)) → bR < W3.heap.size → w.heap.size < W3.heap.size → Below w.heap.size w W3 → K { tmps := #[.agg #[.int .i64 (n : Int), .int .i64 a, .int .i64 b, .int .i64 c, .int .i64 k], .pointer (some ⟨w.heap.size, 0, none⟩), .bool false, .pointer (some ⟨bR, 0, none⟩), undef, undef, undef, .pointer (some ⟨w.heap.size, 0, none⟩), .int .i64 (n : Int), .bool true, .bool false, .slice (some ⟨g, 0, none⟩) 23 23, .pointer (some ⟨w.heap.size, 0, none⟩), .int .i64 (n : Int), .pointer (some ⟨g, n * 3, none⟩), .agg #[.string (rowN n), .string (rowF n), .int .i64 (rowC n)], undef, undef, undef, undef, undef, undef, undef, undef, undef, undef, undef, undef, undef, undef, undef, undef, undef, undef, undef, undef, undef, undef, undef, undef, undef, undef, undef, undef, undef, undef, undef, undef, undef, undef, undef, undef, undef], defers := [] } W3 := by
      intro W3 bR g f0 f1 f2 f3 f4 fR sR hs3 hB3
      apply hK
      have HCV := fun (w : World) (C : Array Value) (n c : Nat) => Lib.run_convert_bytes_const (P := Try.prog) w 29 5 C n c Try.underlying29 Try.underlying5
      go_wp2
      have g0 : ∀ o, (W3.alloc (.cells #[.int .u8 65, .int .u8 66, .int .u8 67] 5 (3, 4))).cell? ⟨w.heap.size, o, none⟩ = W3.cell? ⟨w.heap.size, o, none⟩ := fun o => by
        rw [((Below.refl W3.heap.size W3).alloc (Nat.le_refl _) _).cell (p := ⟨w.heap.size, o, none⟩) hs3]
      have gR : (W3.alloc (.cells #[.int .u8 65, .int .u8 66, .int .u8 67] 5 (3, 4))).cell? ⟨bR, 1, none⟩ = some (.string (rowF n)) := by
        rw [((Below.refl W3.heap.size W3).alloc (Nat.le_refl _) _).cell (p := ⟨bR, 1, none⟩) sR]; exact fR
      have v0 : (W3.alloc (.cells #[.int .u8 65, .int .u8 66, .int .u8 67] 5 (3, 4))).cell? ⟨W3.heap.size, 0, none⟩ = some (.int .u8 65) := cell_marked _ _ _ _ _
      have v1 : (W3.alloc (.cells #[.int .u8 65, .int .u8 66, .int .u8 67] 5 (3, 4))).cell? ⟨W3.heap.size, 1, none⟩ = some (.int .u8 66) := cell_marked _ _ _ _ _
      have v2 : (W3.alloc (.cells #[.int .u8 65, .int .u8 66, .int .u8 67] 5 (3, 4))).cell? ⟨W3.heap.size, 2, none⟩ = some (.int .u8 67) := cell_marked _ _ _ _ _
      have hz4 : (W3.alloc (.cells #[.int .u8 65, .int .u8 66, .int .u8 67] 5 (3, 4))).heap.size = W3.heap.size + 1 := by simp
      have hB4 : Below w.heap.size w (W3.alloc (.cells #[.int .u8 65, .int .u8 66, .int .u8 67] 5 (3, 4))) := bw
      generalize W3.alloc (.cells #[.int .u8 65, .int .u8 66, .int .u8 67] 5 (3, 4)) = W4 at *
      rw [← g0] at f0 f1 f2 f3 f4
      have k0 : w.heap.size < W4.heap.size := by omega
      have kR : bR < W4.heap.size := by omega
      have k3 : W3.heap.size < W4.heap.size := by omega
      generalize hL3 : W3.heap.size = L3 at *
      clear g0 fR hK
      go_loopg [19] 3 (fun kx s19 wr => ∃ (j : Nat) (e : Later W4), s19 = .int .i64 j ∧ j ≤ 3 ∧ 3 - j ≤ kx ∧ wr = e.w ∧ Hid ((1 ≤ j → regB n a 65 = true) ∧ (2 ≤ j → regB n b 66 = true) ∧ (3 ≤ j → regB n c 67 = true)))
      case atStart => exact ⟨0, ⟨W4, Below.refl _ _⟩, rfl, by omega, by omega, rfl, H! ⟨fun h => absurd h (by omega), fun h => absurd h (by omega), fun h => absurd h (by omega)⟩⟩
      case round =>
        obtain ⟨j, e, rfl, hj, hjx, rfl, HG⟩ := hrel
        have hes := e.h.size
        by_cases hj3 : j < 3
        · obtain rfl | rfl | rfl : j = 0 ∨ j = 1 ∨ j = 2 := by omega
          · obtain ⟨x, hx⟩ : ∃ x, x = a := ⟨_, rfl⟩
            have FD : fieldI a b c k 65 = x := by rw [hx]; rfl
            have HX2 := H! hx
            clear hx
            by_cases n0 : x < 0
            · have HBAD : Hid (R = false) := H! (by rw [HF.out, regB_bad (n := n) (x := a) (l := 65) (by rw [← HX2.out]; exact .inl n0)]; simp)
              go_wp2_with ((go_at_call 116; refine (field_any _ _ _ _ _ _ _).mono ?_; rintro _ w5 ⟨rfl, hb5⟩; rw [FD]; obtain ⟨e5, rfl⟩ := e.next hb5; have he5 := e5.h.size))
              go_ret
              exact ⟨ret_bool HBAD.out.symm, hB4.trans (e5.h.mono (by omega))⟩
            by_cases n1 : 16 ≤ x
            · have HBAD : Hid (R = false) := H! (by rw [HF.out, regB_bad (n := n) (x := a) (l := 65) (by rw [← HX2.out]; exact .inr (.inl n1))]; simp)
              go_wp2_with ((go_at_call 116; refine (field_any _ _ _ _ _ _ _).mono ?_; rintro _ w5 ⟨rfl, hb5⟩; rw [FD]; obtain ⟨e5, rfl⟩ := e.next hb5; have he5 := e5.h.size))
              go_ret
              exact ⟨ret_bool HBAD.out.symm, hB4.trans (e5.h.mono (by omega))⟩
            by_cases n2 : x = 0
            · have HGD : Hid (regB n a 65 = true) := H! (by rw [← HX2.out]; exact regB_good (by omega) (by omega) (.inl n2))
              go_wp2_with (first | (go_at_call 116; refine (field_any _ _ _ _ _ _ _).mono ?_; rintro _ w5 ⟨rfl, hb5⟩; rw [FD]; obtain ⟨e5, rfl⟩ := e.next hb5; have he5 := e5.h.size) | (go_at_call 117; refine (idxB_any _ _ (ixB n 65) rfl _).mono ?_; rintro _ w6 ⟨rfl, rfl⟩))
              go_roundg (3 - (0 + 1))
              case measure => omega
              case rel => exact ⟨0 + 1, e5, by go_num, by omega, by omega, rfl, H! ⟨fun _ => HGD.out, fun h => absurd h (by omega), fun h => absurd h (by omega)⟩⟩
            by_cases n3 : ixB n 65 < 0
            · have HBAD : Hid (R = false) := H! (by rw [HF.out, regB_bad (n := n) (x := a) (l := 65) (by rw [← HX2.out]; exact .inr (.inr ⟨n2, n3⟩))]; simp)
              go_wp2_with (first | (go_at_call 116; refine (field_any _ _ _ _ _ _ _).mono ?_; rintro _ w5 ⟨rfl, hb5⟩; rw [FD]; obtain ⟨e5, rfl⟩ := e.next hb5; have he5 := e5.h.size) | (go_at_call 117; refine (idxB_any _ _ (ixB n 65) rfl _).mono ?_; rintro _ w6 ⟨rfl, rfl⟩))
              all_goals first | (rename_i hh; have h2 := hh.2; simp at h2; exact absurd h2 n2) | (go_ret; exact ⟨ret_bool HBAD.out.symm, hB4.trans (e5.h.mono (by omega))⟩)
            · have HGD : Hid (regB n a 65 = true) := H! (by rw [← HX2.out]; exact regB_good (by omega) (by omega) (.inr (by omega)))
              go_wp2_with (first | (go_at_call 116; refine (field_any _ _ _ _ _ _ _).mono ?_; rintro _ w5 ⟨rfl, hb5⟩; rw [FD]; obtain ⟨e5, rfl⟩ := e.next hb5; have he5 := e5.h.size) | (go_at_call 117; refine (idxB_any _ _ (ixB n 65) rfl _).mono ?_; rintro _ w6 ⟨rfl, rfl⟩))
              go_roundg (3 - (0 + 1))
              case measure => omega
              case rel => exact ⟨0 + 1, e5, by go_num, by omega, by omega, rfl, H! ⟨fun _ => HGD.out, fun h => absurd h (by omega), fun h => absurd h (by omega)⟩⟩
          · obtain ⟨x, hx⟩ : ∃ x, x = b := ⟨_, rfl⟩
            have FD : fieldI a b c k 66 = x := by rw [hx]; rfl
            have HX2 := H! hx
            clear hx
            by_cases n0 : x < 0
            · have HBAD : Hid (R = false) := H! (by rw [HF.out, regB_bad (n := n) (x := b) (l := 66) (by rw [← HX2.out]; exact .inl n0)]; simp)
              go_wp2_with ((go_at_call 116; refine (field_any _ _ _ _ _ _ _).mono ?_; rintro _ w5 ⟨rfl, hb5⟩; rw [FD]; obtain ⟨e5, rfl⟩ := e.next hb5; have he5 := e5.h.size))
              go_ret
              exact ⟨ret_bool HBAD.out.symm, hB4.trans (e5.h.mono (by omega))⟩
            by_cases n1 : 16 ≤ x
            · have HBAD : Hid (R = false) := H! (by rw [HF.out, regB_bad (n := n) (x := b) (l := 66) (by rw [← HX2.out]; exact .inr (.inl n1))]; simp)
              go_wp2_with ((go_at_call 116; refine (field_any _ _ _ _ _ _ _).mono ?_; rintro _ w5 ⟨rfl, hb5⟩; rw [FD]; obtain ⟨e5, rfl⟩ := e.next hb5; have he5 := e5.h.size))
              go_ret
              exact ⟨ret_bool HBAD.out.symm, hB4.trans (e5.h.mono (by omega))⟩
            by_cases n2 : x = 0
            · have HGD : Hid (regB n b 66 = true) := H! (by rw [← HX2.out]; exact regB_good (by omega) (by omega) (.inl n2))
              go_wp2_with (first | (go_at_call 116; refine (field_any _ _ _ _ _ _ _).mono ?_; rintro _ w5 ⟨rfl, hb5⟩; rw [FD]; obtain ⟨e5, rfl⟩ := e.next hb5; have he5 := e5.h.size) | (go_at_call 117; refine (idxB_any _ _ (ixB n 66) rfl _).mono ?_; rintro _ w6 ⟨rfl, rfl⟩))
              go_roundg (3 - (1 + 1))
              case measure => omega
              case rel => exact ⟨1 + 1, e5, by go_num, by omega, by omega, rfl, H! ⟨fun _ => HG.out.1 (by omega), fun _ => HGD.out, fun h => absurd h (by omega)⟩⟩
            by_cases n3 : ixB n 66 < 0
            · have HBAD : Hid (R = false) := H! (by rw [HF.out, regB_bad (n := n) (x := b) (l := 66) (by rw [← HX2.out]; exact .inr (.inr ⟨n2, n3⟩))]; simp)
              go_wp2_with (first | (go_at_call 116; refine (field_any _ _ _ _ _ _ _).mono ?_; rintro _ w5 ⟨rfl, hb5⟩; rw [FD]; obtain ⟨e5, rfl⟩ := e.next hb5; have he5 := e5.h.size) | (go_at_call 117; refine (idxB_any _ _ (ixB n 66) rfl _).mono ?_; rintro _ w6 ⟨rfl, rfl⟩))
              all_goals first | (rename_i hh; have h2 := hh.2; simp at h2; exact absurd h2 n2) | (go_ret; exact ⟨ret_bool HBAD.out.symm, hB4.trans (e5.h.mono (by omega))⟩)
            · have HGD : Hid (regB n b 66 = true) := H! (by rw [← HX2.out]; exact regB_good (by omega) (by omega) (.inr (by omega)))
              go_wp2_with (first | (go_at_call 116; refine (field_any _ _ _ _ _ _ _).mono ?_; rintro _ w5 ⟨rfl, hb5⟩; rw [FD]; obtain ⟨e5, rfl⟩ := e.next hb5; have he5 := e5.h.size) | (go_at_call 117; refine (idxB_any _ _ (ixB n 66) rfl _).mono ?_; rintro _ w6 ⟨rfl, rfl⟩))
              go_roundg (3 - (1 + 1))
              case measure => omega
              case rel => exact ⟨1 + 1, e5, by go_num, by omega, by omega, rfl, H! ⟨fun _ => HG.out.1 (by omega), fun _ => HGD.out, fun h => absurd h (by omega)⟩⟩
          · obtain ⟨x, hx⟩ : ∃ x, x = c := ⟨_, rfl⟩
            have FD : fieldI a b c k 67 = x := by rw [hx]; rfl
            have HX2 := H! hx
            clear hx
            by_cases n0 : x < 0
            · have HBAD : Hid (R = false) := H! (by rw [HF.out, regB_bad (n := n) (x := c) (l := 67) (by rw [← HX2.out]; exact .inl n0)]; simp)
              go_wp2_with ((go_at_call 116; refine (field_any _ _ _ _ _ _ _).mono ?_; rintro _ w5 ⟨rfl, hb5⟩; rw [FD]; obtain ⟨e5, rfl⟩ := e.next hb5; have he5 := e5.h.size))
              go_ret
              exact ⟨ret_bool HBAD.out.symm, hB4.trans (e5.h.mono (by omega))⟩
            by_cases n1 : 16 ≤ x
            · have HBAD : Hid (R = false) := H! (by rw [HF.out, regB_bad (n := n) (x := c) (l := 67) (by rw [← HX2.out]; exact .inr (.inl n1))]; simp)
              go_wp2_with ((go_at_call 116; refine (field_any _ _ _ _ _ _ _).mono ?_; rintro _ w5 ⟨rfl, hb5⟩; rw [FD]; obtain ⟨e5, rfl⟩ := e.next hb5; have he5 := e5.h.size))
              go_ret
              exact ⟨ret_bool HBAD.out.symm, hB4.trans (e5.h.mono (by omega))⟩
            by_cases n2 : x = 0
            · have HGD : Hid (regB n c 67 = true) := H! (by rw [← HX2.out]; exact regB_good (by omega) (by omega) (.inl n2))
              go_wp2_with (first | (go_at_call 116; refine (field_any _ _ _ _ _ _ _).mono ?_; rintro _ w5 ⟨rfl, hb5⟩; rw [FD]; obtain ⟨e5, rfl⟩ := e.next hb5; have he5 := e5.h.size) | (go_at_call 117; refine (idxB_any _ _ (ixB n 67) rfl _).mono ?_; rintro _ w6 ⟨rfl, rfl⟩))
              go_roundg (3 - (2 + 1))
              case measure => omega
              case rel => exact ⟨2 + 1, e5, by go_num, by omega, by omega, rfl, H! ⟨fun _ => HG.out.1 (by omega), fun _ => HG.out.2.1 (by omega), fun _ => HGD.out⟩⟩
            by_cases n3 : ixB n 67 < 0
            · have HBAD : Hid (R = false) := H! (by rw [HF.out, regB_bad (n := n) (x := c) (l := 67) (by rw [← HX2.out]; exact .inr (.inr ⟨n2, n3⟩))]; simp)
              go_wp2_with (first | (go_at_call 116; refine (field_any _ _ _ _ _ _ _).mono ?_; rintro _ w5 ⟨rfl, hb5⟩; rw [FD]; obtain ⟨e5, rfl⟩ := e.next hb5; have he5 := e5.h.size) | (go_at_call 117; refine (idxB_any _ _ (ixB n 67) rfl _).mono ?_; rintro _ w6 ⟨rfl, rfl⟩))
              all_goals first | (rename_i hh; have h2 := hh.2; simp at h2; exact absurd h2 n2) | (go_ret; exact ⟨ret_bool HBAD.out.symm, hB4.trans (e5.h.mono (by omega))⟩)
            · have HGD : Hid (regB n c 67 = true) := H! (by rw [← HX2.out]; exact regB_good (by omega) (by omega) (.inr (by omega)))
              go_wp2_with (first | (go_at_call 116; refine (field_any _ _ _ _ _ _ _).mono ?_; rintro _ w5 ⟨rfl, hb5⟩; rw [FD]; obtain ⟨e5, rfl⟩ := e.next hb5; have he5 := e5.h.size) | (go_at_call 117; refine (idxB_any _ _ (ixB n 67) rfl _).mono ?_; rintro _ w6 ⟨rfl, rfl⟩))
              go_roundg (3 - (2 + 1))
              case measure => omega
              case rel => exact ⟨2 + 1, e5, by go_num, by omega, by omega, rfl, H! ⟨fun _ => HG.out.1 (by omega), fun _ => HG.out.2.1 (by omega), fun _ => HGD.out⟩⟩
        · obtain rfl : j = 3 := by omega
          obtain ⟨G1, G2, G3⟩ := HG.out
          have HFR : Hid (R = (if hasK n = true then kOk (n : Int) k else decide (k = 0))) := H! (by rw [HF.out, G1 (by omega), G2 (by omega), G3 (by omega)]; simp)
          by_cases hks : hasK n = true
          · have HR2 : Hid (R = kOk (n : Int) k) := H! (by rw [HFR.out, if_pos hks])
            go_wp2_with (first | (go_at_call 118; refine (suf_any _ _ true hks HSF.out _).mono ?_; rintro _ w6 ⟨rfl, rfl⟩) | (go_at_call 119; refine (HX.out _).mono ?_; rintro _ w7 ⟨rfl, hb7⟩))
            go_ret
            exact ⟨ret_bool HR2.out.symm, hB4.trans ((e.h.mono (by omega)).trans (hb7.mono (by omega)))⟩
          · have hks2 : hasK n = false := by simpa using hks
            have HR2 : Hid (R = decide (k = 0)) := H! (by rw [HFR.out, if_neg hks])
            go_wp2_with (first | (go_at_call 118; refine (suf_any _ _ false hks2 HSF.out _).mono ?_; rintro _ w6 ⟨rfl, rfl⟩))
            all_goals go_ret
            all_goals exact ⟨by rw [HR2.out]; first | rfl | (simp [*]; done), hB4.trans (e.h.mono (by omega))⟩
    go_region_with (go_at_call 115; refine (rows_any _).mono ?_; rintro e w2 ⟨g, rfl, hg1, hg2, hb2, HR⟩; obtain ⟨hb2c, hb2f⟩ := bcell hb2; have hb2s := hb2.size; (try simp only [zA, World.size_drew] at hb2s hg1); have hx0 : w.heap.size < w2.heap.size := (by omega); have hx1 : w.heap.size < g := (by omega); have z0 : w2.cell? ⟨w.heap.size, 0, none⟩ = some (.int .i64 (n : Int)) := (by rw [hb2c w.heap.size 0 (by simp only [zA, World.size_drew]; omega)]; first | go_keep | (simp; done)); have z1 : w2.cell? ⟨w.heap.size, 1, none⟩ = some (.int .i64 a) := (by rw [hb2c w.heap.size 1 (by simp only [zA, World.size_drew]; omega)]; first | go_keep | (simp; done)); have z2 : w2.cell? ⟨w.heap.size, 2, none⟩ = some (.int .i64 b) := (by rw [hb2c w.heap.size 2 (by simp only [zA, World.size_drew]; omega)]; first | go_keep | (simp; done)); have z3 : w2.cell? ⟨w.heap.size, 3, none⟩ = some (.int .i64 c) := (by rw [hb2c w.heap.size 3 (by simp only [zA, World.size_drew]; omega)]; first | go_keep | (simp; done)); have z4 : w2.cell? ⟨w.heap.size, 4, none⟩ = some (.int .i64 k) := (by rw [hb2c w.heap.size 4 (by simp only [zA, World.size_drew]; omega)]; first | go_keep | (simp; done)); (try (have y0 : w2.cell? ⟨w.heap.size + 1, 0, none⟩ = some (.string ⟨#[]⟩) := (by rw [hb2c (w.heap.size + 1) 0 (by simp only [zA, World.size_drew]; omega)]; simp))); (try (have y1 : w2.cell? ⟨w.heap.size + 1, 1, none⟩ = some (.string ⟨#[]⟩) := (by rw [hb2c (w.heap.size + 1) 1 (by simp only [zA, World.size_drew]; omega)]; simp))); (try (have y2 : w2.cell? ⟨w.heap.size + 1, 2, none⟩ = some (.int .i64 0) := (by rw [hb2c (w.heap.size + 1) 2 (by simp only [zA, World.size_drew]; omega)]; simp))); obtain ⟨hr0, hr1, hr2⟩ := HR.out n hn)
    all_goals
      refine cap_world (P := fun W => Exit.then _ _ .normal _ W) _ ?_
      intro W3 hW3
      have f0 : W3.cell? ⟨w.heap.size, 0, none⟩ = some (.int .i64 (n : Int)) := by rw [hW3]; first | go_keep | (simp [go_sem, *]; done)
      have f1 : W3.cell? ⟨w.heap.size, 1, none⟩ = some (.int .i64 a) := by rw [hW3]; first | go_keep | (simp [go_sem, *]; done)
      have f2 : W3.cell? ⟨w.heap.size, 2, none⟩ = some (.int .i64 b) := by rw [hW3]; first | go_keep | (simp [go_sem, *]; done)
      have f3 : W3.cell? ⟨w.heap.size, 3, none⟩ = some (.int .i64 c) := by rw [hW3]; first | go_keep | (simp [go_sem, *]; done)
      have f4 : W3.cell? ⟨w.heap.size, 4, none⟩ = some (.int .i64 k) := by rw [hW3]; first | go_keep | (simp [go_sem, *]; done)
      have hB3 : Below w.heap.size w W3 := by rw [hW3]; (exact bw)
      have hs3 : w.heap.size < W3.heap.size := by rw [hW3]; (try simp only [zA, zS]); omega
      first
        | (have fR : W3.cell? ⟨w2.heap.size, 1, none⟩ = some (.string (rowF n)) := (by rw [hW3]; first | go_keep | (simp [go_sem, *]; done))
           have sR : w2.heap.size < W3.heap.size := (by rw [hW3]; (try simp only [zA, zS]); omega)
           obtain ⟨bR, hbR⟩ : ∃ b, b = w2.heap.size := ⟨_, rfl⟩
           rw [← hbR] at fR sR ⊢)
        | (have fR : W3.cell? ⟨w.heap.size + 1, 1, none⟩ = some (.string (rowF n)) := (by rw [hW3]; first | go_keep | (simp [go_sem, *]; done))
           have sR : w.heap.size + 1 < W3.heap.size := (by rw [hW3]; (try simp only [zA, zS]); omega)
           obtain ⟨bR, hbR⟩ : ∃ b, b = w.heap.size + 1 := ⟨_, rfl⟩
           rw [← hbR] at fR sR ⊢)
      exact KEY W3 bR g f0 f1 f2 f3 f4 fR sR hs3 hB3
  · have hop2 : opB op = false := by simpa using hop
    have HF : Hid (formB op a b c k = false) := H! (by unfold formB; rw [hop2]; rfl)
    have HK := H! (fun w => known_any op w)
    have HN : Hid (opB op = false) := H! hop2
    generalize formB op a b c k = R at *
    go_enter Try.func105, Try.ntmps105
    go_wp2_with (go_at_call 114; refine (HK.out _).mono ?_; rintro e w' ⟨rfl, rfl⟩; rw [HN.out])
    go_ret
    exact ⟨ret_bool HF.out.symm, bw⟩
end Go.Proofs.Ytfooefiaenlhmaa
