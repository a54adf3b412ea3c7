/- The law ImageOwn returns true for all programs and numbers. No conditions. Printed by a program. -/
import Derived.Test.YtfooefiaenlhmaaGO1
import Derived.Test.YtfooefiaenlhmaaGO2
import Derived.Test.YtfooefiaenlhmaaGO10
import Derived.Test.YtfooefiaenlhmaaGO14
import Derived.Test.YtfooefiaenlhmaaGO15
import Derived.Test.YtfooefiaenlhmaaGO16
import Derived.Deep.Cut
namespace Go.Proofs.Ytfooefiaenlhmaa
set_option linter.unusedVariables false
set_option linter.unusedSimpArgs false
set_option maxHeartbeats 16000000
open Go.RowKit Go.ChangeShapes Go.WideShapes Go.ChangeAt
theorem OwnP.own {D : Nat} {W : World} {p : PL} (h : OwnP D W p) : OwnF D W p.frag := h.1
theorem OwnP.sl {D : Nat} {W : World} {p : PL} (h : OwnP D W p) : p.Sl := h.2
theorem OwnP.blk {D : Nat} {W : World} {p : PL} (h : OwnP D W p) : ∀ x ∈ p.frag, x.1 < W.heap.size := fun x hx => (h.1.2 x hx).2.1
structure OwnS (w2 : World) (E : Nat) (F Bx : List (Nat × List Value)) (W : World) : Prop where
 soft : SoftW w2.heap.size F W
 low : Below w2.heap.size w2 W
 box : ∀ p ∈ Bx, E ≤ p.1 ∧ p.1 < W.heap.size ∧ AtV W p.1 p.2
theorem OwnS.below {w2 : World} {E : Nat} {F Bx : List (Nat × List Value)} {W W' : World} (h : OwnS w2 E F Bx W) (hb : Below W.heap.size W W') : OwnS w2 E F Bx W' :=
 ⟨h.soft.below hb, h.low.trans (hb.mono h.low.size), fun p hp => ⟨(h.box p hp).1, Nat.lt_of_lt_of_le (h.box p hp).2.1 hb.size, (h.box p hp).2.2.keep (hb.block _ (h.box p hp).2.1)⟩⟩
theorem OwnS.add {w2 : World} {E : Nat} {F Bx : List (Nat × List Value)} {W W' : World} (h : OwnS w2 E F Bx W) (hb : Below W.heap.size W W') {b : Nat} {l : List Value} (hE : E ≤ b) (h2 : b < W'.heap.size) (ha : AtV W' b l) : OwnS w2 E F ((b, l) :: Bx) W' :=
 ⟨(h.below hb).soft, (h.below hb).low, fun p hp => by
  rcases List.mem_cons.1 hp with rfl | hp
  ·
   exact ⟨hE, h2, ha⟩
  ·
   exact (h.below hb).box p hp⟩
theorem OwnS.sub {w2 : World} {E : Nat} {F Bx Bx' : List (Nat × List Value)} {W : World} (h : OwnS w2 E F Bx W) (hs : ∀ p ∈ Bx', p ∈ Bx) : OwnS w2 E F Bx' W := ⟨h.soft, h.low, fun p hp => h.box p (hs p hp)⟩
theorem OwnS.cell {w2 : World} {E : Nat} {F Bx : List (Nat × List Value)} {W : World} (h : OwnS w2 E F Bx W) (hE : ∀ p ∈ F, p.1 < E) {r : Option Addr} {c n : Nat} {L : List Value} (hs : SlF r c n) (hn : 0 < n) (hF : ∀ p ∈ fr1 r L, p ∈ F) :
  ∃ b, r = some ⟨b, 0, none⟩ ∧ b < W.heap.size ∧ (∀ (j : Nat) u, L[j]? = some u → (∀ a, u ≠ .int .i64 a) → W.cell? ⟨b, j, none⟩ = some u) ∧
   ∀ (j : Nat) a, L[j]? = some (.int .i64 a) → ∃ a', W.cell? ⟨b, j, none⟩ = some (.int .i64 a') ∧ W.frozen? ⟨b, j, none⟩ = false ∧ ∀ v, OwnS w2 E F Bx (W.setCell ⟨b, j, none⟩ (.int .i64 v)) := by
 obtain ⟨b, rfl, h1, h2, h3, h4⟩ := h.soft.cell hs hn hF
 have hbE : b < E := hE (b, L) (hF _ (by simp [fr1]))
 refine ⟨b, rfl, h2, h3, fun j a hj => ?_⟩
 obtain ⟨a', h5, h6, h7⟩ := h4 j a hj
 refine ⟨a', h5, h6, fun v => ⟨h7 v, h.low.setCell (p := ⟨b, j, none⟩) h1 _, fun p hp => ?_⟩⟩
 obtain ⟨k1, k2, k3⟩ := h.box p hp
 exact ⟨k1, by rw [zS]; exact k2, k3.keep (Below.heap_setCell _ _ _ _ (show p.1 ≠ b by omega))⟩
theorem OwnS.bx {w2 : World} {E : Nat} {F Bx : List (Nat × List Value)} {W : World} (h : OwnS w2 E F Bx W) {b : Nat} {l : List Value} (hp : (b, l) ∈ Bx) (j : Nat) (u : Value) (hj : l[j]? = some u) : W.cell? ⟨b, j, none⟩ = some u := ((h.box _ hp).2.2 j u hj).1
set_option maxRecDepth 100000 in
theorem io_great (p : PL) (i v : Int) (w : World) (hp : IsL w p) (hg : greatB p.v = true) : Calls Try.prog 5 #[p.v.val, .int .i64 i, .int .i64 v] w fun e w' => e = .returned (.bool true) ∧ Below w.heap.size w w' := by
 have HG := H! (fun W (h : Below w.heap.size w W) => great_any p.v W (hp.later h).isP)
 rw [hg] at HG
 clear hg hp
 obtain ⟨rc, cc, code, rt, ct, types, rv, cv, curves, rm, cm, maps, cells, ri, ci, inputs, rs, cs, states, ro, co, outputs, rn, cn, initial⟩ := p
 simp only [PV.val, PL.v, List.length_map] at *
 go_enter Try.func5, Try.ntmps5
 go_wp2_with (first | (go_at_call 8; refine (awake_any _).mono ?_; rintro e hb0w ⟨rfl, hb0⟩; obtain ⟨hb0c, hb0f⟩ := bcell hb0; have hb0s := hb0.size; (try simp only [zA] at hb0s); (try (have : w.heap.size < hb0w.heap.size := by omega)); (try (have : w.heap.size + 1 < hb0w.heap.size := by omega)); (try (have : w.heap.size + 1 + 1 < hb0w.heap.size := by omega)); (try (have : w.heap.size + 1 + 1 + 1 < hb0w.heap.size := by omega)); (try (have : bX < hb0w.heap.size := by omega)); (try (have : bY < hb0w.heap.size := by omega)); (try (have : bZ < hb0w.heap.size := by omega))) | (go_at_call 9; refine (HG.out _ bw).mono ?_; rintro e hb1w ⟨rfl, hb1⟩; obtain ⟨hb1c, hb1f⟩ := bcell hb1; have hb1s := hb1.size; (try simp only [zA] at hb1s); (try (have : w.heap.size < hb1w.heap.size := by omega)); (try (have : w.heap.size + 1 < hb1w.heap.size := by omega)); (try (have : w.heap.size + 1 + 1 < hb1w.heap.size := by omega)); (try (have : w.heap.size + 1 + 1 + 1 < hb1w.heap.size := by omega)); (try (have : bX < hb1w.heap.size := by omega)); (try (have : bY < hb1w.heap.size := by omega)); (try (have : bZ < hb1w.heap.size := by omega))))
 go_ret
 exact ⟨by first | rfl | (simp; done), bw⟩
set_option maxRecDepth 100000 in
theorem io_no1 (p : PL) (i v : Int) (w : World) (hp : IsL w p) (hg : greatB p.v = false) (HPt : Hid (∀ W, Below w.heap.size w W → Calls Try.prog 23 #[p.v.val, .int .i64 i, .int .i64 v] W fun e w' => e = .returned (.tuple #[.agg #[.slice none 0 0, .slice none 0 0, .slice none 0 0, .slice none 0 0, .int .i64 0, .slice none 0 0, .slice none 0 0, .slice none 0 0, .slice none 0 0], .int .i64 1]) ∧ Below W.heap.size W w')) : Calls Try.prog 5 #[p.v.val, .int .i64 i, .int .i64 v] w fun e w' => e = .returned (.bool true) ∧ Below w.heap.size w w' := by
 have HG := H! (fun W (h : Below w.heap.size w W) => great_any p.v W (hp.later h).isP)
 have hlen : p.v.p.body.length ≤ 90000 := great_len hg
 have HBo : Hid (∀ W, Below w.heap.size w W → Calls Try.prog 22 #[p.v.val] W fun e w' => ∃ r c, e = .returned (.slice r p.v.p.body.length c) ∧ IsInts w' r c .u8 p.v.p.body ∧ Below W.heap.size W w') := H! (fun W h => (rbody_any p.v W (hp.later h).isP (by omega)).mono fun _ _ ⟨r, c, h1, h2, h3⟩ => ⟨r, c, h1, ints_b h2 (body_byte _), h3⟩)
 have HEq : Hid (∀ W r c r' c', IsInts W r c .u8 p.v.p.body → IsInts W r' c' .u8 p.v.p.body → Calls Try.prog 14 #[.slice r p.v.p.body.length c, .slice r' p.v.p.body.length c'] W fun e w' => e = .returned (.bool true) ∧ Below W.heap.size W w') := H! (fun W r c r' c' h1 h2 => by
  have := bEq_any r r' c c' _ _ W h1 h2
  rwa [show decide (p.v.p.body = p.v.p.body) = true by simp] at this)
 rw [hg] at HG
 clear hg hp hlen
 generalize p.v.p.body = bs at *
 obtain ⟨rc, cc, code, rt, ct, types, rv, cv, curves, rm, cm, maps, cells, ri, ci, inputs, rs, cs, states, ro, co, outputs, rn, cn, initial⟩ := p
 simp only [PV.val, PL.v, List.length_map] at *
 go_enter Try.func5, Try.ntmps5
 go_wp2_with (first | (go_at_call 8; refine (awake_any _).mono ?_; rintro e hb0w ⟨rfl, hb0⟩; obtain ⟨hb0c, hb0f⟩ := bcell hb0; have hb0s := hb0.size; (try simp only [zA] at hb0s); (try (have : w.heap.size < hb0w.heap.size := by omega)); (try (have : w.heap.size + 1 < hb0w.heap.size := by omega)); (try (have : w.heap.size + 1 + 1 < hb0w.heap.size := by omega)); (try (have : w.heap.size + 1 + 1 + 1 < hb0w.heap.size := by omega)); (try (have : bX < hb0w.heap.size := by omega)); (try (have : bY < hb0w.heap.size := by omega)); (try (have : bZ < hb0w.heap.size := by omega))) | (go_at_call 9; refine (HG.out _ bw).mono ?_; rintro e hb1w ⟨rfl, hb1⟩; obtain ⟨hb1c, hb1f⟩ := bcell hb1; have hb1s := hb1.size; (try simp only [zA] at hb1s); (try (have : w.heap.size < hb1w.heap.size := by omega)); (try (have : w.heap.size + 1 < hb1w.heap.size := by omega)); (try (have : w.heap.size + 1 + 1 < hb1w.heap.size := by omega)); (try (have : w.heap.size + 1 + 1 + 1 < hb1w.heap.size := by omega)); (try (have : bX < hb1w.heap.size := by omega)); (try (have : bY < hb1w.heap.size := by omega)); (try (have : bZ < hb1w.heap.size := by omega))) | (go_at_call 23; with_reducible (refine (HPt.out _ ?sd).mono ?_); (case sd => (exact bw)); rintro _ w3 ⟨rfl, hb3⟩; obtain ⟨hb3c, hb3f⟩ := bcell hb3; have hb3s := hb3.size; (try simp only [zA] at hb3s); have hb3x : w.heap.size < w3.heap.size := (by omega)) | (go_at_call 22; have _h2 := hb3; clear _h2; with_reducible (refine (HBo.out _ ?sd).mono ?_); (case sd => (exact bw)); rintro _ w4 ⟨r4, c4, rfl, ho4, hb4⟩; have HO4 := H! ho4; clear ho4; obtain ⟨hb4c, hb4f⟩ := bcell hb4; have hb4s := hb4.size; (try simp only [zA] at hb4s); have hb4x : w.heap.size < w4.heap.size := (by omega)) | (go_at_call 22; with_reducible (refine (HBo.out _ ?sd).mono ?_); (case sd => (exact bw)); rintro _ w2 ⟨r2, c2, rfl, ho2, hb2⟩; have HO2 := H! ho2; clear ho2; obtain ⟨hb2c, hb2f⟩ := bcell hb2; have hb2s := hb2.size; (try simp only [zA] at hb2s); have hb2x : w.heap.size < w2.heap.size := (by omega)) | (go_at_call 14; with_reducible (refine (HEq.out _ _ _ _ _ ?sd ?se).mono ?_); (case sd => exact HO4.out.later bw); (case se => exact HO2.out.later bw); rintro _ w5 ⟨rfl, hb5⟩))
 go_ret
 exact ⟨by first | rfl | (simp; done), bw⟩
set_option maxRecDepth 100000 in
theorem io_no2 (p : PL) (i v : Int) (w : World) (hp : IsL w p) (hg : greatB p.v = false) (HPt : Hid (∀ W, Below w.heap.size w W → Calls Try.prog 23 #[p.v.val, .int .i64 i, .int .i64 v] W fun e w' => e = .returned (.tuple #[.agg #[.slice none 0 0, .slice none 0 0, .slice none 0 0, .slice none 0 0, .int .i64 0, .slice none 0 0, .slice none 0 0, .slice none 0 0, .slice none 0 0], .int .i64 2]) ∧ Below W.heap.size W w')) : Calls Try.prog 5 #[p.v.val, .int .i64 i, .int .i64 v] w fun e w' => e = .returned (.bool true) ∧ Below w.heap.size w w' := by
 have HG := H! (fun W (h : Below w.heap.size w W) => great_any p.v W (hp.later h).isP)
 have hlen : p.v.p.body.length ≤ 90000 := great_len hg
 have HBo : Hid (∀ W, Below w.heap.size w W → Calls Try.prog 22 #[p.v.val] W fun e w' => ∃ r c, e = .returned (.slice r p.v.p.body.length c) ∧ IsInts w' r c .u8 p.v.p.body ∧ Below W.heap.size W w') := H! (fun W h => (rbody_any p.v W (hp.later h).isP (by omega)).mono fun _ _ ⟨r, c, h1, h2, h3⟩ => ⟨r, c, h1, ints_b h2 (body_byte _), h3⟩)
 have HEq : Hid (∀ W r c r' c', IsInts W r c .u8 p.v.p.body → IsInts W r' c' .u8 p.v.p.body → Calls Try.prog 14 #[.slice r p.v.p.body.length c, .slice r' p.v.p.body.length c'] W fun e w' => e = .returned (.bool true) ∧ Below W.heap.size W w') := H! (fun W r c r' c' h1 h2 => by
  have := bEq_any r r' c c' _ _ W h1 h2
  rwa [show decide (p.v.p.body = p.v.p.body) = true by simp] at this)
 rw [hg] at HG
 clear hg hp hlen
 generalize p.v.p.body = bs at *
 obtain ⟨rc, cc, code, rt, ct, types, rv, cv, curves, rm, cm, maps, cells, ri, ci, inputs, rs, cs, states, ro, co, outputs, rn, cn, initial⟩ := p
 simp only [PV.val, PL.v, List.length_map] at *
 go_enter Try.func5, Try.ntmps5
 go_wp2_with (first | (go_at_call 8; refine (awake_any _).mono ?_; rintro e hb0w ⟨rfl, hb0⟩; obtain ⟨hb0c, hb0f⟩ := bcell hb0; have hb0s := hb0.size; (try simp only [zA] at hb0s); (try (have : w.heap.size < hb0w.heap.size := by omega)); (try (have : w.heap.size + 1 < hb0w.heap.size := by omega)); (try (have : w.heap.size + 1 + 1 < hb0w.heap.size := by omega)); (try (have : w.heap.size + 1 + 1 + 1 < hb0w.heap.size := by omega)); (try (have : bX < hb0w.heap.size := by omega)); (try (have : bY < hb0w.heap.size := by omega)); (try (have : bZ < hb0w.heap.size := by omega))) | (go_at_call 9; refine (HG.out _ bw).mono ?_; rintro e hb1w ⟨rfl, hb1⟩; obtain ⟨hb1c, hb1f⟩ := bcell hb1; have hb1s := hb1.size; (try simp only [zA] at hb1s); (try (have : w.heap.size < hb1w.heap.size := by omega)); (try (have : w.heap.size + 1 < hb1w.heap.size := by omega)); (try (have : w.heap.size + 1 + 1 < hb1w.heap.size := by omega)); (try (have : w.heap.size + 1 + 1 + 1 < hb1w.heap.size := by omega)); (try (have : bX < hb1w.heap.size := by omega)); (try (have : bY < hb1w.heap.size := by omega)); (try (have : bZ < hb1w.heap.size := by omega))) | (go_at_call 23; with_reducible (refine (HPt.out _ ?sd).mono ?_); (case sd => (exact bw)); rintro _ w3 ⟨rfl, hb3⟩; obtain ⟨hb3c, hb3f⟩ := bcell hb3; have hb3s := hb3.size; (try simp only [zA] at hb3s); have hb3x : w.heap.size < w3.heap.size := (by omega)) | (go_at_call 22; have _h2 := hb3; clear _h2; with_reducible (refine (HBo.out _ ?sd).mono ?_); (case sd => (exact bw)); rintro _ w4 ⟨r4, c4, rfl, ho4, hb4⟩; have HO4 := H! ho4; clear ho4; obtain ⟨hb4c, hb4f⟩ := bcell hb4; have hb4s := hb4.size; (try simp only [zA] at hb4s); have hb4x : w.heap.size < w4.heap.size := (by omega)) | (go_at_call 22; with_reducible (refine (HBo.out _ ?sd).mono ?_); (case sd => (exact bw)); rintro _ w2 ⟨r2, c2, rfl, ho2, hb2⟩; have HO2 := H! ho2; clear ho2; obtain ⟨hb2c, hb2f⟩ := bcell hb2; have hb2s := hb2.size; (try simp only [zA] at hb2s); have hb2x : w.heap.size < w2.heap.size := (by omega)) | (go_at_call 14; with_reducible (refine (HEq.out _ _ _ _ _ ?sd ?se).mono ?_); (case sd => exact HO4.out.later bw); (case se => exact HO2.out.later bw); rintro _ w5 ⟨rfl, hb5⟩))
 go_ret
 exact ⟨by first | rfl | (simp; done), bw⟩
set_option maxRecDepth 100000 in
theorem io_ok (p : PL) (i v : Int) (w : World) (hp : IsL w p) (hg : greatB p.v = false) (HPt : Hid (∀ W, Below w.heap.size w W → Calls Try.prog 23 #[p.v.val, .int .i64 i, .int .i64 v] W fun e w' => ∃ q : PL, e = .returned (.tuple #[q.v.val, .int .i64 0]) ∧ OwnP W.heap.size w' q ∧ Below W.heap.size W w')) : Calls Try.prog 5 #[p.v.val, .int .i64 i, .int .i64 v] w fun e w' => e = .returned (.bool true) ∧ Below w.heap.size w w' := by
 have HG := H! (fun W (h : Below w.heap.size w W) => great_any p.v W (hp.later h).isP)
 have hlen : p.v.p.body.length ≤ 90000 := great_len hg
 have HBo : Hid (∀ W, Below w.heap.size w W → Calls Try.prog 22 #[p.v.val] W fun e w' => ∃ r c, e = .returned (.slice r p.v.p.body.length c) ∧ IsInts w' r c .u8 p.v.p.body ∧ Below W.heap.size W w') := H! (fun W h => (rbody_any p.v W (hp.later h).isP (by omega)).mono fun _ _ ⟨r, c, h1, h2, h3⟩ => ⟨r, c, h1, ints_b h2 (body_byte _), h3⟩)
 have HEq : Hid (∀ W r c r' c', IsInts W r c .u8 p.v.p.body → IsInts W r' c' .u8 p.v.p.body → Calls Try.prog 14 #[.slice r p.v.p.body.length c, .slice r' p.v.p.body.length c'] W fun e w' => e = .returned (.bool true) ∧ Below W.heap.size W w') := H! (fun W r c r' c' h1 h2 => by
  have := bEq_any r r' c c' _ _ W h1 h2
  rwa [show decide (p.v.p.body = p.v.p.body) = true by simp] at this)
 rw [hg] at HG
 clear hg hp hlen
 generalize p.v.p.body = bs at *
 obtain ⟨rc, cc, code, rt, ct, types, rv, cv, curves, rm, cm, maps, cells, ri, ci, inputs, rs, cs, states, ro, co, outputs, rn, cn, initial⟩ := p
 simp only [PV.val, PL.v, List.length_map] at *
 go_enter Try.func5, Try.ntmps5
 go_upto_region 9 with (first | (go_at_call 8; refine (awake_any _).mono ?_; rintro e hb0w ⟨rfl, hb0⟩; obtain ⟨hb0c, hb0f⟩ := bcell hb0; have hb0s := hb0.size; (try simp only [zA] at hb0s); (try (have : w.heap.size < hb0w.heap.size := by omega)); (try (have : w.heap.size + 1 < hb0w.heap.size := by omega)); (try (have : w.heap.size + 1 + 1 < hb0w.heap.size := by omega)); (try (have : w.heap.size + 1 + 1 + 1 < hb0w.heap.size := by omega)); (try (have : bX < hb0w.heap.size := by omega)); (try (have : bY < hb0w.heap.size := by omega)); (try (have : bZ < hb0w.heap.size := by omega))) | (go_at_call 9; refine (HG.out _ bw).mono ?_; rintro e hb1w ⟨rfl, hb1⟩; obtain ⟨hb1c, hb1f⟩ := bcell hb1; have hb1s := hb1.size; (try simp only [zA] at hb1s); (try (have : w.heap.size < hb1w.heap.size := by omega)); (try (have : w.heap.size + 1 < hb1w.heap.size := by omega)); (try (have : w.heap.size + 1 + 1 < hb1w.heap.size := by omega)); (try (have : w.heap.size + 1 + 1 + 1 < hb1w.heap.size := by omega)); (try (have : bX < hb1w.heap.size := by omega)); (try (have : bY < hb1w.heap.size := by omega)); (try (have : bZ < hb1w.heap.size := by omega))) | (go_at_call 23; with_reducible (refine (HPt.out _ ?sd).mono ?_); (case sd => (exact bw)); rintro _ w3 ⟨q, rfl, hoq, hb3⟩; have HSF := H! (SoftW.of hoq.own); have HFB := H! hoq.blk; have HSL := H! hoq.sl; obtain ⟨FR, hFR⟩ : ∃ x, x = q.frag := ⟨_, rfl⟩; have HFR := H! hFR; rw [← hFR] at HSF HFB; clear hoq hFR; obtain ⟨rc3, cc3, code3, rt3, ct3, types3, rv3, cv3, curves3, rm3, cm3, maps3, cells3, ri3, ci3, inputs3, rs3, cs3, states3, ro3, co3, outputs3, rn3, cn3, initial3⟩ := q; (try simp only [PV.val, PL.v, List.length_map]); obtain ⟨hb3c, hb3f⟩ := bcell hb3; have hb3s := hb3.size; (try simp only [zA] at hb3s); have hb3x : w.heap.size < w3.heap.size := (by omega)) | (go_at_call 22; with_reducible (refine (HBo.out _ ?sd).mono ?_); (case sd => (exact bw)); rintro _ w2 ⟨r2, c2, rfl, ho2, hb2⟩; have HO2 := H! ho2; clear ho2; obtain ⟨hb2c, hb2f⟩ := bcell hb2; have hb2s := hb2.size; (try simp only [zA] at hb2s); have hb2x : w.heap.size < w2.heap.size := (by omega)))
 have AQ := AtV.new w3 [.slice rc3 code3.length cc3, .slice rt3 types3.length ct3, .slice rv3 curves3.length cv3, .slice rm3 maps3.length cm3, .int .i64 cells3, .slice ri3 inputs3.length ci3, .slice rs3 states3.length cs3, .slice ro3 outputs3.length co3, .slice rn3 initial3.length cn3] 28
 have hbq : Below w3.heap.size w3 (w3.alloc (.cells #[.slice rc3 code3.length cc3, .slice rt3 types3.length ct3, .slice rv3 curves3.length cv3, .slice rm3 maps3.length cm3, .int .i64 cells3, .slice ri3 inputs3.length ci3, .slice rs3 states3.length cs3, .slice ro3 outputs3.length co3, .slice rn3 initial3.length cn3] 28)) := (Below.refl _ _).alloc (Nat.le_refl _) _
 have hzq : w3.heap.size < (w3.alloc (.cells #[.slice rc3 code3.length cc3, .slice rt3 types3.length ct3, .slice rv3 curves3.length cv3, .slice rm3 maps3.length cm3, .int .i64 cells3, .slice ri3 inputs3.length ci3, .slice rs3 states3.length cs3, .slice ro3 outputs3.length co3, .slice rn3 initial3.length cn3] 28)).heap.size := by rw [zA]; omega
 have HO : Hid (OwnS w2 w3.heap.size FR ([(w3.heap.size, [.slice rc3 code3.length cc3, .slice rt3 types3.length ct3, .slice rv3 curves3.length cv3, .slice rm3 maps3.length cm3, .int .i64 cells3, .slice ri3 inputs3.length ci3, .slice rs3 states3.length cs3, .slice ro3 outputs3.length co3, .slice rn3 initial3.length cn3])]) (w3.alloc (.cells #[.slice rc3 code3.length cc3, .slice rt3 types3.length ct3, .slice rv3 curves3.length cv3, .slice rm3 maps3.length cm3, .int .i64 cells3, .slice ri3 inputs3.length ci3, .slice rs3 states3.length cs3, .slice ro3 outputs3.length co3, .slice rn3 initial3.length cn3] 28))) := H! ⟨HSF.out.below hbq, hb3.trans (hbq.mono hb3.size), fun p hp => by
  obtain rfl : p = _ := by simpa using hp
  exact ⟨Nat.le_refl _, hzq, AQ⟩⟩
 have hAP : Below (w.alloc (.cells #[.slice rc code.length cc, .slice rt types.length ct, .slice rv curves.length cv, .slice rm maps.length cm, .int .i64 cells, .slice ri inputs.length ci, .slice rs states.length cs, .slice ro outputs.length co, .slice rn initial.length cn] 28)).heap.size (w.alloc (.cells #[.slice rc code.length cc, .slice rt types.length ct, .slice rv curves.length cv, .slice rm maps.length cm, .int .i64 cells, .slice ri inputs.length ci, .slice rs states.length cs, .slice ro outputs.length co, .slice rn initial.length cn] 28)) w2 := by clear hb3 hbq; (exact bw)
 have AP := H! ((AtV.new w [.slice rc code.length cc, .slice rt types.length ct, .slice rv curves.length cv, .slice rm maps.length cm, .int .i64 cells, .slice ri inputs.length ci, .slice rs states.length cs, .slice ro outputs.length co, .slice rn initial.length cn] 28).keep (hAP.block _ (by rw [zA]; omega)))
 have hBw2 : Below w.heap.size w w2 := Below.trans ((Below.refl _ w).alloc (Nat.le_refl _) _) (hAP.mono (by rw [zA]; omega))
 have HBW := H! hBw2
 have hw2 : w.heap.size < w2.heap.size := by omega
 have hw23 : w2.heap.size ≤ w3.heap.size := hb3.size
 clear hAP hBw2 AQ hbq hzq HSF hb3
 (try clear hb0); (try clear hb0c); (try clear hb0f); (try clear hb0s); (try clear hb1); (try clear hb1c); (try clear hb1f); (try clear hb1s); (try clear hb2); (try clear hb2c); (try clear hb2f); (try clear hb2s); (try clear hb3c); (try clear hb3f); (try clear hb3s)
 have HFp : Hid (∀ p ∈ fr1 rc3 (code3.flatMap Ins.enc) ++ (fr1 rt3 (types3.flatMap Fx.enc) ++ (fr1 rv3 (curves3.flatMap Cv.enc) ++ (curves3.flatMap Cv.frag ++ (fr1 rm3 (maps3.flatMap Mr.enc) ++ (maps3.flatMap Mr.frag ++ (fr1 ri3 (inputs3.map (Value.int .i64)) ++ (fr1 rs3 (states3.map (Value.int .i64)) ++ (fr1 ro3 (outputs3.map (Value.int .i64)) ++ fr1 rn3 (initial3.map (Value.int .i64)))))))))), p ∈ FR) := H! (fun p hp => by rw [HFR.out]; exact hp)
 generalize w3.alloc (.cells #[.slice rc3 code3.length cc3, .slice rt3 types3.length ct3, .slice rv3 curves3.length cv3, .slice rm3 maps3.length cm3, .int .i64 cells3, .slice ri3 inputs3.length ci3, .slice rs3 states3.length cs3, .slice ro3 outputs3.length co3, .slice rn3 initial3.length cn3] 28) = W3 at *
 have q0c := HO.out.bx (b := w3.heap.size) (l := [.slice rc3 code3.length cc3, .slice rt3 types3.length ct3, .slice rv3 curves3.length cv3, .slice rm3 maps3.length cm3, .int .i64 cells3, .slice ri3 inputs3.length ci3, .slice rs3 states3.length cs3, .slice ro3 outputs3.length co3, .slice rn3 initial3.length cn3]) (by simp) 0 _ rfl
 go_wp2
 clear q0c
 have hmx10 : code3.length ≤ maxLen := Nat.le_trans (SlF.le HSL.out.code) (SlF.max HSL.out.code)
 unfold maxLen at hmx10
 go_loopw [47] (fun s47 wz => ∃ j : Nat, s47 = .int .i64 j ∧ j ≤ code3.length ∧ Hid (OwnS w2 w3.heap.size FR ([(w3.heap.size, [.slice rc3 code3.length cc3, .slice rt3 types3.length ct3, .slice rv3 curves3.length cv3, .slice rm3 maps3.length cm3, .int .i64 cells3, .slice ri3 inputs3.length ci3, .slice rs3 states3.length cs3, .slice ro3 outputs3.length co3, .slice rn3 initial3.length cn3])]) wz)) (fun s47 _ => code3.length - (intOf s47).toNat)
 case atStart => exact ⟨0, rfl, Nat.zero_le _, HO⟩
 case round =>
  clear HO
  obtain ⟨j11, rfl, hj11, HO⟩ := hrel
  have q0c := HO.out.bx (b := w3.heap.size) (l := [.slice rc3 code3.length cc3, .slice rt3 types3.length ct3, .slice rv3 curves3.length cv3, .slice rm3 maps3.length cm3, .int .i64 cells3, .slice ri3 inputs3.length ci3, .slice rs3 states3.length cs3, .slice ro3 outputs3.length co3, .slice rn3 initial3.length cn3]) (by simp) 0 _ rfl
  by_cases hj11l : j11 < code3.length
  ·
   have hj111 : (0 : Int) ≤ (j11 : Int) := by omega
   have hj112 : (j11 : Int) < code3.length := by omega
   obtain ⟨bj11, hj11r, hj11b, -, hj11i⟩ := HO.out.cell HFB.out HSL.out.code (Nat.lt_of_le_of_lt (Nat.zero_le _) hj11l) (fun p hp => HFp.out p (by simp only [List.mem_append]; exact .inl hp))
   obtain ⟨aj11, hj11c, hj11f, hj11s⟩ := hj11i (j11 * 5) _ (flatE_at (enc := Ins.enc) (sz := 5) (fun _ => rfl) (getD_some hj11l) (j := 0) rfl)
   have HSj11 := H! hj11s
   clear hj11i hj11s
   have hj11q : rc3 = some ⟨bj11, 0, none⟩ := hj11r
   clear hj11r
   subst hj11q
   go_wp2
   go_roundw
   case rel => exact ⟨j11 + 1, by go_num, by omega, H! (HSj11.out _)⟩
   case measure => simp [intOf]; omega
  ·
   obtain rfl : j11 = code3.length := by omega
   have q5c := HO.out.bx (b := w3.heap.size) (l := [.slice rc3 code3.length cc3, .slice rt3 types3.length ct3, .slice rv3 curves3.length cv3, .slice rm3 maps3.length cm3, .int .i64 cells3, .slice ri3 inputs3.length ci3, .slice rs3 states3.length cs3, .slice ro3 outputs3.length co3, .slice rn3 initial3.length cn3]) (by simp) 5 _ rfl
   have q6c := HO.out.bx (b := w3.heap.size) (l := [.slice rc3 code3.length cc3, .slice rt3 types3.length ct3, .slice rv3 curves3.length cv3, .slice rm3 maps3.length cm3, .int .i64 cells3, .slice ri3 inputs3.length ci3, .slice rs3 states3.length cs3, .slice ro3 outputs3.length co3, .slice rn3 initial3.length cn3]) (by simp) 6 _ rfl
   have q7c := HO.out.bx (b := w3.heap.size) (l := [.slice rc3 code3.length cc3, .slice rt3 types3.length ct3, .slice rv3 curves3.length cv3, .slice rm3 maps3.length cm3, .int .i64 cells3, .slice ri3 inputs3.length ci3, .slice rs3 states3.length cs3, .slice ro3 outputs3.length co3, .slice rn3 initial3.length cn3]) (by simp) 7 _ rfl
   have q8c := HO.out.bx (b := w3.heap.size) (l := [.slice rc3 code3.length cc3, .slice rt3 types3.length ct3, .slice rv3 curves3.length cv3, .slice rm3 maps3.length cm3, .int .i64 cells3, .slice ri3 inputs3.length ci3, .slice rs3 states3.length cs3, .slice ro3 outputs3.length co3, .slice rn3 initial3.length cn3]) (by simp) 8 _ rfl
   go_wp2
   clear q5c q6c q7c q8c
   have hal : Below wr.heap.size wr (wr.alloc (.cells #[.slice ri3 inputs3.length ci3, .slice rs3 states3.length cs3, .slice ro3 outputs3.length co3, .slice rn3 initial3.length cn3] 26)) := (Below.refl _ _).alloc (Nat.le_refl _) _
   have hbo := HO.out.box (w3.heap.size, [.slice rc3 code3.length cc3, .slice rt3 types3.length ct3, .slice rv3 curves3.length cv3, .slice rm3 maps3.length cm3, .int .i64 cells3, .slice ri3 inputs3.length ci3, .slice rs3 states3.length cs3, .slice ro3 outputs3.length co3, .slice rn3 initial3.length cn3]) (by simp)
   have hat : AtV (wr.alloc (.cells #[.slice ri3 inputs3.length ci3, .slice rs3 states3.length cs3, .slice ro3 outputs3.length co3, .slice rn3 initial3.length cn3] 26)) wr.heap.size [.slice ri3 inputs3.length ci3, .slice rs3 states3.length cs3, .slice ro3 outputs3.length co3, .slice rn3 initial3.length cn3] := AtV.new wr [.slice ri3 inputs3.length ci3, .slice rs3 states3.length cs3, .slice ro3 outputs3.length co3, .slice rn3 initial3.length cn3] 26
   have HOb := H! (HO.out.add hal (b := wr.heap.size) (l := [.slice ri3 inputs3.length ci3, .slice rs3 states3.length cs3, .slice ro3 outputs3.length co3, .slice rn3 initial3.length cn3]) (Nat.le_of_lt hbo.2.1) (by rw [zA]; omega) hat)
   clear hal hbo hat HO
   generalize wr.alloc (.cells #[.slice ri3 inputs3.length ci3, .slice rs3 states3.length cs3, .slice ro3 outputs3.length co3, .slice rn3 initial3.length cn3] 26) = WL at *
   generalize wr.heap.size = bL at *
   go_loopw [70] (fun s70 wz => ∃ j : Nat, s70 = .int .i64 j ∧ j ≤ 4 ∧ Hid (OwnS w2 w3.heap.size FR (((bL, [.slice ri3 inputs3.length ci3, .slice rs3 states3.length cs3, .slice ro3 outputs3.length co3, .slice rn3 initial3.length cn3]) :: [(w3.heap.size, [.slice rc3 code3.length cc3, .slice rt3 types3.length ct3, .slice rv3 curves3.length cv3, .slice rm3 maps3.length cm3, .int .i64 cells3, .slice ri3 inputs3.length ci3, .slice rs3 states3.length cs3, .slice ro3 outputs3.length co3, .slice rn3 initial3.length cn3])])) wz)) (fun s70 _ => 4 - (intOf s70).toNat)
   case atStart => exact ⟨0, rfl, Nat.zero_le _, HOb⟩
   case round =>
    clear HOb
    obtain ⟨j9, rfl, hj9, HO⟩ := hrel
    by_cases hj9l : j9 < 4
    ·
     have hj91 : (0 : Int) ≤ (j9 : Int) := by omega
     have hj92 : (j9 : Int) < 4 := by omega
     have hfour : ∃ r c xs, ([.slice ri3 inputs3.length ci3, .slice rs3 states3.length cs3, .slice ro3 outputs3.length co3, .slice rn3 initial3.length cn3] : List Value)[j9]? = some (.slice r (List.length xs) c) ∧ SlF r c (List.length xs) ∧ ∀ p ∈ fr1 r (xs.map (Value.int .i64)), p ∈ FR := by
      obtain rfl | rfl | rfl | rfl : j9 = 0 ∨ j9 = 1 ∨ j9 = 2 ∨ j9 = 3 := by omega
      ·
       exact ⟨_, _, inputs3, rfl, HSL.out.inputs.1, (fun p hp => HFp.out p (by simp only [List.mem_append]; exact .inr (.inr (.inr (.inr (.inr (.inr (.inl hp))))))))⟩
      ·
       exact ⟨_, _, states3, rfl, HSL.out.states.1, (fun p hp => HFp.out p (by simp only [List.mem_append]; exact .inr (.inr (.inr (.inr (.inr (.inr (.inr (.inl hp)))))))))⟩
      ·
       exact ⟨_, _, outputs3, rfl, HSL.out.outputs.1, (fun p hp => HFp.out p (by simp only [List.mem_append]; exact .inr (.inr (.inr (.inr (.inr (.inr (.inr (.inr (.inl hp))))))))))⟩
      ·
       exact ⟨_, _, initial3, rfl, HSL.out.initial.1, (fun p hp => HFp.out p (by simp only [List.mem_append]; exact .inr (.inr (.inr (.inr (.inr (.inr (.inr (.inr (.inr (hp)))))))))))⟩
     obtain ⟨r, c, xs, hcl, hsx, hfx⟩ := hfour
     have HSx := H! hsx
     have HFx := H! hfx
     have hlc := HO.out.bx (b := bL) (l := [.slice ri3 inputs3.length ci3, .slice rs3 states3.length cs3, .slice ro3 outputs3.length co3, .slice rn3 initial3.length cn3]) (by simp) j9 _ hcl
     clear hsx hfx hcl
     go_wp2
     clear hlc
     have hmx9 : xs.length ≤ maxLen := Nat.le_trans (SlF.le HSx.out) (SlF.max HSx.out)
     unfold maxLen at hmx9
     go_loopw [76] (fun s76 wz => ∃ j : Nat, s76 = .int .i64 j ∧ j ≤ xs.length ∧ Hid (OwnS w2 w3.heap.size FR (((bL, [.slice ri3 inputs3.length ci3, .slice rs3 states3.length cs3, .slice ro3 outputs3.length co3, .slice rn3 initial3.length cn3]) :: [(w3.heap.size, [.slice rc3 code3.length cc3, .slice rt3 types3.length ct3, .slice rv3 curves3.length cv3, .slice rm3 maps3.length cm3, .int .i64 cells3, .slice ri3 inputs3.length ci3, .slice rs3 states3.length cs3, .slice ro3 outputs3.length co3, .slice rn3 initial3.length cn3])])) wz)) (fun s76 _ => xs.length - (intOf s76).toNat)
     case atStart => exact ⟨0, rfl, Nat.zero_le _, HO⟩
     case round =>
      clear HO
      obtain ⟨j10, rfl, hj10, HO⟩ := hrel
      by_cases hj10l : j10 < xs.length
      ·
       have hj101 : (0 : Int) ≤ (j10 : Int) := by omega
       have hj102 : (j10 : Int) < xs.length := by omega
       obtain ⟨bj10, hj10r, hj10b, -, hj10i⟩ := HO.out.cell HFB.out HSx.out (Nat.lt_of_le_of_lt (Nat.zero_le _) hj10l) HFx.out
       obtain ⟨aj10, hj10c, hj10f, hj10s⟩ := hj10i j10 _ (ints_at hj10l)
       have HSj10 := H! hj10s
       clear hj10i hj10s
       have hj10q : r = some ⟨bj10, 0, none⟩ := hj10r
       clear hj10r
       subst hj10q
       go_wp2
       go_roundw
       case rel => exact ⟨j10 + 1, by go_num, by omega, H! (HSj10.out _)⟩
       case measure => simp [intOf]; omega
      ·
       obtain rfl : j10 = xs.length := by omega
       go_wp2
       go_roundw
       case rel => exact ⟨j9 + 1, by go_num, by omega, HO⟩
       case measure => simp [intOf]; omega
    ·
     obtain rfl : j9 = 4 := by omega
     have HO := H! (HO.out.sub (Bx' := [(w3.heap.size, [.slice rc3 code3.length cc3, .slice rt3 types3.length ct3, .slice rv3 curves3.length cv3, .slice rm3 maps3.length cm3, .int .i64 cells3, .slice ri3 inputs3.length ci3, .slice rs3 states3.length cs3, .slice ro3 outputs3.length co3, .slice rn3 initial3.length cn3])]) (fun p hp => List.mem_cons_of_mem _ hp))
     have q2c := HO.out.bx (b := w3.heap.size) (l := [.slice rc3 code3.length cc3, .slice rt3 types3.length ct3, .slice rv3 curves3.length cv3, .slice rm3 maps3.length cm3, .int .i64 cells3, .slice ri3 inputs3.length ci3, .slice rs3 states3.length cs3, .slice ro3 outputs3.length co3, .slice rn3 initial3.length cn3]) (by simp) 2 _ rfl
     go_wp2
     clear q2c
     have hmx6 : curves3.length ≤ maxLen := Nat.le_trans (SlF.le HSL.out.curves) (SlF.max HSL.out.curves)
     unfold maxLen at hmx6
     go_loopw [90] (fun s90 wz => ∃ j : Nat, s90 = .int .i64 j ∧ j ≤ curves3.length ∧ Hid (OwnS w2 w3.heap.size FR ([(w3.heap.size, [.slice rc3 code3.length cc3, .slice rt3 types3.length ct3, .slice rv3 curves3.length cv3, .slice rm3 maps3.length cm3, .int .i64 cells3, .slice ri3 inputs3.length ci3, .slice rs3 states3.length cs3, .slice ro3 outputs3.length co3, .slice rn3 initial3.length cn3])]) wz)) (fun s90 _ => curves3.length - (intOf s90).toNat)
     case atStart => exact ⟨0, rfl, Nat.zero_le _, HO⟩
     case round =>
      clear HO
      obtain ⟨j6, rfl, hj6, HO⟩ := hrel
      by_cases hj6l : j6 < curves3.length
      ·
       have hj61 : (0 : Int) ≤ (j6 : Int) := by omega
       have hj62 : (j6 : Int) < curves3.length := by omega
       obtain ⟨bV, hrv, -, hcv, -⟩ := HO.out.cell HFB.out HSL.out.curves (Nat.lt_of_le_of_lt (Nat.zero_le _) hj6l) (fun p hp => HFp.out p (by simp only [List.mem_append]; exact .inr (.inr (.inl hp))))
       have hrv2 : rv3 = some ⟨bV, 0, none⟩ := hrv
       have d0 := hcv (j6 * 2) _ (flatE_at (enc := Cv.enc) (sz := 2) (fun _ => rfl) (getD_some hj6l) (j := 0) rfl) (fun a h => by cases h)
       have d1 := hcv (j6 * 2 + 1) _ (flatE_at (enc := Cv.enc) (sz := 2) (fun _ => rfl) (getD_some hj6l) (j := 1) rfl) (fun a h => by cases h)
       have HXm := H! (getD_mem_of hj6l)
       have HXs := H! (HSL.out.curvesG _ (getD_mem_of hj6l))
       clear hcv hrv
       generalize curves3.getD j6 default = x at *
       obtain ⟨rX, cX, X, rY, cY, Y⟩ := x
       simp only at d0 d1
       have HRV := H! hrv2
       go_upto_region 26 with fail
       clear d0 d1
       have hal : Below wr.heap.size wr (wr.alloc (.cells #[.slice rX X.length cX, .slice rY Y.length cY] 53)) := (Below.refl _ _).alloc (Nat.le_refl _) _
       have hbo := HO.out.box (w3.heap.size, [.slice rc3 code3.length cc3, .slice rt3 types3.length ct3, .slice rv3 curves3.length cv3, .slice rm3 maps3.length cm3, .int .i64 cells3, .slice ri3 inputs3.length ci3, .slice rs3 states3.length cs3, .slice ro3 outputs3.length co3, .slice rn3 initial3.length cn3]) (by simp)
       have hat : AtV (wr.alloc (.cells #[.slice rX X.length cX, .slice rY Y.length cY] 53)) wr.heap.size [.slice rX X.length cX, .slice rY Y.length cY] := AtV.new wr [.slice rX X.length cX, .slice rY Y.length cY] 53
       have HOb := H! (HO.out.add hal (b := wr.heap.size) (l := [.slice rX X.length cX, .slice rY Y.length cY]) (Nat.le_of_lt hbo.2.1) (by rw [zA]; omega) hat)
       clear hal hbo hat HO
       generalize wr.alloc (.cells #[.slice rX X.length cX, .slice rY Y.length cY] 53) = WC at *
       generalize wr.heap.size = bC at *
       have HO := HOb
       clear HOb
       have b0c := HO.out.bx (b := bC) (l := [.slice rX X.length cX, .slice rY Y.length cY]) (by simp) 0 _ rfl
       go_wp2
       clear b0c
       have hmx8 : X.length ≤ maxLen := Nat.le_trans (SlF.le HXs.out.1.1) (SlF.max HXs.out.1.1)
       unfold maxLen at hmx8
       go_loopw [97] (fun s97 wz => ∃ j : Nat, s97 = .int .i64 j ∧ j ≤ X.length ∧ Hid (OwnS w2 w3.heap.size FR (((bC, [.slice rX X.length cX, .slice rY Y.length cY]) :: [(w3.heap.size, [.slice rc3 code3.length cc3, .slice rt3 types3.length ct3, .slice rv3 curves3.length cv3, .slice rm3 maps3.length cm3, .int .i64 cells3, .slice ri3 inputs3.length ci3, .slice rs3 states3.length cs3, .slice ro3 outputs3.length co3, .slice rn3 initial3.length cn3])])) wz)) (fun s97 _ => X.length - (intOf s97).toNat)
       case atStart => exact ⟨0, rfl, Nat.zero_le _, HO⟩
       case round =>
        clear HO
        obtain ⟨j8, rfl, hj8, HO⟩ := hrel
        have b0c := HO.out.bx (b := bC) (l := [.slice rX X.length cX, .slice rY Y.length cY]) (by simp) 0 _ rfl
        by_cases hj8l : j8 < X.length
        ·
         have hj81 : (0 : Int) ≤ (j8 : Int) := by omega
         have hj82 : (j8 : Int) < X.length := by omega
         obtain ⟨bj8, hj8r, hj8b, -, hj8i⟩ := HO.out.cell HFB.out HXs.out.1.1 (Nat.lt_of_le_of_lt (Nat.zero_le _) hj8l) (fun p hp => HFp.out p (by simp only [List.mem_append]; exact .inr (.inr (.inr (.inl (List.mem_flatMap.2 ⟨_, HXm.out, List.mem_append.2 (.inl hp)⟩))))))
         obtain ⟨aj8, hj8c, hj8f, hj8s⟩ := hj8i j8 _ (ints_at hj8l)
         have HSj8 := H! hj8s
         clear hj8i hj8s
         have hj8q : rX = some ⟨bj8, 0, none⟩ := hj8r
         clear hj8r
         subst hj8q
         go_wp2
         go_roundw
         case rel => exact ⟨j8 + 1, by go_num, by omega, H! (HSj8.out _)⟩
         case measure => simp [intOf]; omega
        ·
         obtain rfl : j8 = X.length := by omega
         have b1c := HO.out.bx (b := bC) (l := [.slice rX X.length cX, .slice rY Y.length cY]) (by simp) 1 _ rfl
         go_wp2
         clear b1c
         have hmx7 : Y.length ≤ maxLen := Nat.le_trans (SlF.le HXs.out.2.1) (SlF.max HXs.out.2.1)
         unfold maxLen at hmx7
         go_loopw [111] (fun s111 wz => ∃ j : Nat, s111 = .int .i64 j ∧ j ≤ Y.length ∧ Hid (OwnS w2 w3.heap.size FR (((bC, [.slice rX X.length cX, .slice rY Y.length cY]) :: [(w3.heap.size, [.slice rc3 code3.length cc3, .slice rt3 types3.length ct3, .slice rv3 curves3.length cv3, .slice rm3 maps3.length cm3, .int .i64 cells3, .slice ri3 inputs3.length ci3, .slice rs3 states3.length cs3, .slice ro3 outputs3.length co3, .slice rn3 initial3.length cn3])])) wz)) (fun s111 _ => Y.length - (intOf s111).toNat)
         case atStart => exact ⟨0, rfl, Nat.zero_le _, HO⟩
         case round =>
          clear HO
          obtain ⟨j7, rfl, hj7, HO⟩ := hrel
          have b1c := HO.out.bx (b := bC) (l := [.slice rX X.length cX, .slice rY Y.length cY]) (by simp) 1 _ rfl
          by_cases hj7l : j7 < Y.length
          ·
           have hj71 : (0 : Int) ≤ (j7 : Int) := by omega
           have hj72 : (j7 : Int) < Y.length := by omega
           obtain ⟨bj7, hj7r, hj7b, -, hj7i⟩ := HO.out.cell HFB.out HXs.out.2.1 (Nat.lt_of_le_of_lt (Nat.zero_le _) hj7l) (fun p hp => HFp.out p (by simp only [List.mem_append]; exact .inr (.inr (.inr (.inl (List.mem_flatMap.2 ⟨_, HXm.out, List.mem_append.2 (.inr hp)⟩))))))
           obtain ⟨aj7, hj7c, hj7f, hj7s⟩ := hj7i j7 _ (ints_at hj7l)
           have HSj7 := H! hj7s
           clear hj7i hj7s
           have hj7q : rY = some ⟨bj7, 0, none⟩ := hj7r
           clear hj7r
           subst hj7q
           go_wp2
           go_roundw
           case rel => exact ⟨j7 + 1, by go_num, by omega, H! (HSj7.out _)⟩
           case measure => simp [intOf]; omega
          ·
           obtain rfl : j7 = Y.length := by omega
           go_wp2
           go_roundw
           case rel => exact ⟨j6 + 1, by go_num, by omega, H! (HO.out.sub (fun p hp => List.mem_cons_of_mem _ hp))⟩
           case measure => simp [intOf]; omega
      ·
       obtain rfl : j6 = curves3.length := by omega
       have q3c := HO.out.bx (b := w3.heap.size) (l := [.slice rc3 code3.length cc3, .slice rt3 types3.length ct3, .slice rv3 curves3.length cv3, .slice rm3 maps3.length cm3, .int .i64 cells3, .slice ri3 inputs3.length ci3, .slice rs3 states3.length cs3, .slice ro3 outputs3.length co3, .slice rn3 initial3.length cn3]) (by simp) 3 _ rfl
       go_wp2
       clear q3c
       have hmx2 : maps3.length ≤ maxLen := Nat.le_trans (SlF.le HSL.out.maps) (SlF.max HSL.out.maps)
       unfold maxLen at hmx2
       go_loopw [126] (fun s126 wz => ∃ j : Nat, s126 = .int .i64 j ∧ j ≤ maps3.length ∧ Hid (OwnS w2 w3.heap.size FR ([(w3.heap.size, [.slice rc3 code3.length cc3, .slice rt3 types3.length ct3, .slice rv3 curves3.length cv3, .slice rm3 maps3.length cm3, .int .i64 cells3, .slice ri3 inputs3.length ci3, .slice rs3 states3.length cs3, .slice ro3 outputs3.length co3, .slice rn3 initial3.length cn3])]) wz)) (fun s126 _ => maps3.length - (intOf s126).toNat)
       case atStart => exact ⟨0, rfl, Nat.zero_le _, HO⟩
       case round =>
        clear HO
        obtain ⟨j2, rfl, hj2, HO⟩ := hrel
        by_cases hj2l : j2 < maps3.length
        ·
         have hj21 : (0 : Int) ≤ (j2 : Int) := by omega
         have hj22 : (j2 : Int) < maps3.length := by omega
         obtain ⟨bV, hrv, -, hcv, -⟩ := HO.out.cell HFB.out HSL.out.maps (Nat.lt_of_le_of_lt (Nat.zero_le _) hj2l) (fun p hp => HFp.out p (by simp only [List.mem_append]; exact .inr (.inr (.inr (.inr (.inl hp))))))
         have hrv2 : rm3 = some ⟨bV, 0, none⟩ := hrv
         have d0 := hcv (j2 * 3) _ (flatE_at (enc := Mr.enc) (sz := 3) (fun _ => rfl) (getD_some hj2l) (j := 0) rfl) (fun a h => by cases h)
         have d1 := hcv (j2 * 3 + 1) _ (flatE_at (enc := Mr.enc) (sz := 3) (fun _ => rfl) (getD_some hj2l) (j := 1) rfl) (fun a h => by cases h)
         have d2 := hcv (j2 * 3 + 2) _ (flatE_at (enc := Mr.enc) (sz := 3) (fun _ => rfl) (getD_some hj2l) (j := 2) rfl) (fun a h => by cases h)
         have HXm := H! (getD_mem_of hj2l)
         have HXs := H! (HSL.out.mapsG _ (getD_mem_of hj2l))
         clear hcv hrv
         generalize maps3.getD j2 default = x at *
         obtain ⟨rX, cX, X, rY, cY, Y, rZ, cZ, rows⟩ := x
         simp only at d0 d1 d2
         have HRV := H! hrv2
         go_upto_region 40 with fail
         clear d0 d1 d2
         have hal : Below wr.heap.size wr (wr.alloc (.cells #[.slice rX X.length cX, .slice rY Y.length cY, .slice rZ rows.length cZ] 55)) := (Below.refl _ _).alloc (Nat.le_refl _) _
         have hbo := HO.out.box (w3.heap.size, [.slice rc3 code3.length cc3, .slice rt3 types3.length ct3, .slice rv3 curves3.length cv3, .slice rm3 maps3.length cm3, .int .i64 cells3, .slice ri3 inputs3.length ci3, .slice rs3 states3.length cs3, .slice ro3 outputs3.length co3, .slice rn3 initial3.length cn3]) (by simp)
         have hat : AtV (wr.alloc (.cells #[.slice rX X.length cX, .slice rY Y.length cY, .slice rZ rows.length cZ] 55)) wr.heap.size [.slice rX X.length cX, .slice rY Y.length cY, .slice rZ rows.length cZ] := AtV.new wr [.slice rX X.length cX, .slice rY Y.length cY, .slice rZ rows.length cZ] 55
         have HOb := H! (HO.out.add hal (b := wr.heap.size) (l := [.slice rX X.length cX, .slice rY Y.length cY, .slice rZ rows.length cZ]) (Nat.le_of_lt hbo.2.1) (by rw [zA]; omega) hat)
         clear hal hbo hat HO
         generalize wr.alloc (.cells #[.slice rX X.length cX, .slice rY Y.length cY, .slice rZ rows.length cZ] 55) = WM at *
         generalize wr.heap.size = bM at *
         have HO := HOb
         clear HOb
         have b0c := HO.out.bx (b := bM) (l := [.slice rX X.length cX, .slice rY Y.length cY, .slice rZ rows.length cZ]) (by simp) 0 _ rfl
         go_wp2
         clear b0c
         have hmx5 : X.length ≤ maxLen := Nat.le_trans (SlF.le HXs.out.1.1) (SlF.max HXs.out.1.1)
         unfold maxLen at hmx5
         go_loopw [133] (fun s133 wz => ∃ j : Nat, s133 = .int .i64 j ∧ j ≤ X.length ∧ Hid (OwnS w2 w3.heap.size FR (((bM, [.slice rX X.length cX, .slice rY Y.length cY, .slice rZ rows.length cZ]) :: [(w3.heap.size, [.slice rc3 code3.length cc3, .slice rt3 types3.length ct3, .slice rv3 curves3.length cv3, .slice rm3 maps3.length cm3, .int .i64 cells3, .slice ri3 inputs3.length ci3, .slice rs3 states3.length cs3, .slice ro3 outputs3.length co3, .slice rn3 initial3.length cn3])])) wz)) (fun s133 _ => X.length - (intOf s133).toNat)
         case atStart => exact ⟨0, rfl, Nat.zero_le _, HO⟩
         case round =>
          clear HO
          obtain ⟨j5, rfl, hj5, HO⟩ := hrel
          have b0c := HO.out.bx (b := bM) (l := [.slice rX X.length cX, .slice rY Y.length cY, .slice rZ rows.length cZ]) (by simp) 0 _ rfl
          by_cases hj5l : j5 < X.length
          ·
           have hj51 : (0 : Int) ≤ (j5 : Int) := by omega
           have hj52 : (j5 : Int) < X.length := by omega
           obtain ⟨bj5, hj5r, hj5b, -, hj5i⟩ := HO.out.cell HFB.out HXs.out.1.1 (Nat.lt_of_le_of_lt (Nat.zero_le _) hj5l) (fun p hp => HFp.out p (by simp only [List.mem_append]; exact .inr (.inr (.inr (.inr (.inr (.inl (List.mem_flatMap.2 ⟨_, HXm.out, List.mem_append.2 (.inl hp)⟩))))))))
           obtain ⟨aj5, hj5c, hj5f, hj5s⟩ := hj5i j5 _ (ints_at hj5l)
           have HSj5 := H! hj5s
           clear hj5i hj5s
           have hj5q : rX = some ⟨bj5, 0, none⟩ := hj5r
           clear hj5r
           subst hj5q
           go_wp2
           go_roundw
           case rel => exact ⟨j5 + 1, by go_num, by omega, H! (HSj5.out _)⟩
           case measure => simp [intOf]; omega
          ·
           obtain rfl : j5 = X.length := by omega
           have b2c := HO.out.bx (b := bM) (l := [.slice rX X.length cX, .slice rY Y.length cY, .slice rZ rows.length cZ]) (by simp) 2 _ rfl
           go_wp2
           clear b2c
           have hmx3 : rows.length ≤ maxLen := Nat.le_trans (SlF.le HXs.out.2.2.1) (SlF.max HXs.out.2.2.1)
           unfold maxLen at hmx3
           go_loopw [147] (fun s147 wz => ∃ j : Nat, s147 = .int .i64 j ∧ j ≤ rows.length ∧ Hid (OwnS w2 w3.heap.size FR (((bM, [.slice rX X.length cX, .slice rY Y.length cY, .slice rZ rows.length cZ]) :: [(w3.heap.size, [.slice rc3 code3.length cc3, .slice rt3 types3.length ct3, .slice rv3 curves3.length cv3, .slice rm3 maps3.length cm3, .int .i64 cells3, .slice ri3 inputs3.length ci3, .slice rs3 states3.length cs3, .slice ro3 outputs3.length co3, .slice rn3 initial3.length cn3])])) wz)) (fun s147 _ => rows.length - (intOf s147).toNat)
           case atStart => exact ⟨0, rfl, Nat.zero_le _, HO⟩
           case round =>
            clear HO
            obtain ⟨j3, rfl, hj3, HO⟩ := hrel
            by_cases hj3l : j3 < rows.length
            ·
             have hj31 : (0 : Int) ≤ (j3 : Int) := by omega
             have hj32 : (j3 : Int) < rows.length := by omega
             obtain ⟨bW, hrw, -, hcw, -⟩ := HO.out.cell HFB.out HXs.out.2.2.1 (Nat.lt_of_le_of_lt (Nat.zero_le _) hj3l) (fun p hp => HFp.out p (by simp only [List.mem_append]; exact .inr (.inr (.inr (.inr (.inr (.inl (List.mem_flatMap.2 ⟨_, HXm.out, List.mem_append.2 (.inr (List.mem_append.2 (.inr (List.mem_append.2 (.inl hp)))))⟩))))))))
             have hrw2 : rZ = some ⟨bW, 0, none⟩ := hrw
             have dz := hcw (j3 * 1 + 0) _ (flatE_at (enc := Rw.enc) (sz := 1) (fun _ => rfl) (getD_some hj3l) (j := 0) rfl) (fun a h => by cases h)
             rw [Nat.mul_one, Nat.add_zero] at dz
             have HYm := H! (getD_mem_of hj3l)
             have HYs := H! (HXs.out.2.2.2 _ (getD_mem_of hj3l))
             clear hcw hrw
             generalize rows.getD j3 default = y at *
             obtain ⟨rl, cl, RL⟩ := y
             simp only at dz
             have HRW := H! hrw2
             go_wp2
             clear dz
             have hmx4 : RL.length ≤ maxLen := Nat.le_trans (SlF.le HYs.out.1) (SlF.max HYs.out.1)
             unfold maxLen at hmx4
             go_loopw [153] (fun s153 wz => ∃ j : Nat, s153 = .int .i64 j ∧ j ≤ RL.length ∧ Hid (OwnS w2 w3.heap.size FR (((bM, [.slice rX X.length cX, .slice rY Y.length cY, .slice rZ rows.length cZ]) :: [(w3.heap.size, [.slice rc3 code3.length cc3, .slice rt3 types3.length ct3, .slice rv3 curves3.length cv3, .slice rm3 maps3.length cm3, .int .i64 cells3, .slice ri3 inputs3.length ci3, .slice rs3 states3.length cs3, .slice ro3 outputs3.length co3, .slice rn3 initial3.length cn3])])) wz)) (fun s153 _ => RL.length - (intOf s153).toNat)
             case atStart => exact ⟨0, rfl, Nat.zero_le _, HO⟩
             case round =>
              clear HO
              obtain ⟨j4, rfl, hj4, HO⟩ := hrel
              by_cases hj4l : j4 < RL.length
              ·
               have hj41 : (0 : Int) ≤ (j4 : Int) := by omega
               have hj42 : (j4 : Int) < RL.length := by omega
               obtain ⟨bj4, hj4r, hj4b, -, hj4i⟩ := HO.out.cell HFB.out HYs.out.1 (Nat.lt_of_le_of_lt (Nat.zero_le _) hj4l) (fun p hp => HFp.out p (by simp only [List.mem_append]; exact .inr (.inr (.inr (.inr (.inr (.inl (List.mem_flatMap.2 ⟨_, HXm.out, List.mem_append.2 (.inr (List.mem_append.2 (.inr (List.mem_append.2 (.inr (List.mem_flatMap.2 ⟨_, HYm.out, hp⟩))))))⟩))))))))
               obtain ⟨aj4, hj4c, hj4f, hj4s⟩ := hj4i j4 _ (ints_at hj4l)
               have HSj4 := H! hj4s
               clear hj4i hj4s
               have hj4q : rl = some ⟨bj4, 0, none⟩ := hj4r
               clear hj4r
               subst hj4q
               go_wp2
               go_roundw
               case rel => exact ⟨j4 + 1, by go_num, by omega, H! (HSj4.out _)⟩
               case measure => simp [intOf]; omega
              ·
               obtain rfl : j4 = RL.length := by omega
               go_wp2
               go_roundw
               case rel => exact ⟨j3 + 1, by go_num, by omega, HO⟩
               case measure => simp [intOf]; omega
            ·
             obtain rfl : j3 = rows.length := by omega
             go_wp2
             go_roundw
             case rel => exact ⟨j2 + 1, by go_num, by omega, H! (HO.out.sub (fun p hp => List.mem_cons_of_mem _ hp))⟩
             case measure => simp [intOf]; omega
        ·
         obtain rfl : j2 = maps3.length := by omega
         have q1c := HO.out.bx (b := w3.heap.size) (l := [.slice rc3 code3.length cc3, .slice rt3 types3.length ct3, .slice rv3 curves3.length cv3, .slice rm3 maps3.length cm3, .int .i64 cells3, .slice ri3 inputs3.length ci3, .slice rs3 states3.length cs3, .slice ro3 outputs3.length co3, .slice rn3 initial3.length cn3]) (by simp) 1 _ rfl
         go_wp2
         clear q1c
         have hmx1 : types3.length ≤ maxLen := Nat.le_trans (SlF.le HSL.out.types) (SlF.max HSL.out.types)
         unfold maxLen at hmx1
         go_loopw [168] (fun s168 wz => ∃ j : Nat, s168 = .int .i64 j ∧ j ≤ types3.length ∧ Hid (OwnS w2 w3.heap.size FR ([(w3.heap.size, [.slice rc3 code3.length cc3, .slice rt3 types3.length ct3, .slice rv3 curves3.length cv3, .slice rm3 maps3.length cm3, .int .i64 cells3, .slice ri3 inputs3.length ci3, .slice rs3 states3.length cs3, .slice ro3 outputs3.length co3, .slice rn3 initial3.length cn3])]) wz)) (fun s168 _ => types3.length - (intOf s168).toNat)
         case atStart => exact ⟨0, rfl, Nat.zero_le _, HO⟩
         case round =>
          clear HO
          obtain ⟨j1, rfl, hj1, HO⟩ := hrel
          have q1c := HO.out.bx (b := w3.heap.size) (l := [.slice rc3 code3.length cc3, .slice rt3 types3.length ct3, .slice rv3 curves3.length cv3, .slice rm3 maps3.length cm3, .int .i64 cells3, .slice ri3 inputs3.length ci3, .slice rs3 states3.length cs3, .slice ro3 outputs3.length co3, .slice rn3 initial3.length cn3]) (by simp) 1 _ rfl
          by_cases hj1l : j1 < types3.length
          ·
           have hj11 : (0 : Int) ≤ (j1 : Int) := by omega
           have hj12 : (j1 : Int) < types3.length := by omega
           obtain ⟨bj1, hj1r, hj1b, -, hj1i⟩ := HO.out.cell HFB.out HSL.out.types (Nat.lt_of_le_of_lt (Nat.zero_le _) hj1l) (fun p hp => HFp.out p (by simp only [List.mem_append]; exact .inr (.inl hp)))
           obtain ⟨aj1, hj1c, hj1f, hj1s⟩ := hj1i (j1 * 10) _ (flatE_at (enc := Fx.enc) (sz := 10) (fun _ => rfl) (getD_some hj1l) (j := 0) rfl)
           have HSj1 := H! hj1s
           clear hj1i hj1s
           have hj1q : rt3 = some ⟨bj1, 0, none⟩ := hj1r
           clear hj1r
           subst hj1q
           go_wp2
           go_roundw
           case rel => exact ⟨j1 + 1, by go_num, by omega, H! (HSj1.out _)⟩
           case measure => simp [intOf]; omega
          ·
           obtain rfl : j1 = types3.length := by omega
           have hlow := HO.out.low
           have hBf : Below w.heap.size w wr := HBW.out.trans (hlow.mono HBW.out.size)
           have AP9 := AP.out.keep (hlow.block _ hw2)
           have p0c := (AP9 0 _ rfl).1
           have p1c := (AP9 1 _ rfl).1
           have p2c := (AP9 2 _ rfl).1
           have p3c := (AP9 3 _ rfl).1
           have p4c := (AP9 4 _ rfl).1
           have p5c := (AP9 5 _ rfl).1
           have p6c := (AP9 6 _ rfl).1
           have p7c := (AP9 7 _ rfl).1
           have p8c := (AP9 8 _ rfl).1
           have HO2f := H! (HO2.out.later hlow)
           clear hlow AP9
           go_wp2_with (first | (go_at_call 22; refine (HBo.out _ hBf).mono ?_; rintro _ w4 ⟨r4, c4, rfl, ho4, hb4⟩; have HO4 := H! ho4; clear ho4) | (go_at_call 14; refine (HEq.out _ _ _ _ _ HO4.out (HO2f.out.later hb4)).mono ?_; rintro _ w5 ⟨rfl, hb5⟩))
           go_ret
           have hB4 := hBf.trans (hb4.mono hBf.size)
           exact ⟨by first | rfl | (simp; done), hB4.trans (hb5.mono hB4.size)⟩
theorem io_walk (p : PV) (i v : Int) (w : World) (hp : IsP w p) (hI : (Lit.int .i64 v).wf = true) : Calls Try.prog 5 #[p.val, .int .i64 i, .int .i64 v] w fun e w' => e = .returned (.bool true) ∧ Below w.heap.size w w' := by
 obtain ⟨p, rfl, hL⟩ := hp.isL
 cases hg : greatB p.v
 ·
  have hlen : p.v.p.body.length ≤ 90000 := great_len hg
  have hpl := params_sm hlen
  cases hv : validB p.v
  ·
   exact io_no1 p i v w hL hg (H! (fun W h => ipatch_bad p.v i v W (hL.later h).isP hv))
  ·
   by_cases hh : (0 ≤ i ∧ i < p.params.length) ∧ okP (p.v.p.patch i v) = true
   ·
    exact io_ok p i v w hL hg (H! (fun W h => (ipatch_any p i v W (hL.later h) (PL.sm (by omega)) hv hI (by omega)).mono fun _ _ h => by
     rcases h with ⟨_, q, h2, h3, _, h5⟩ | ⟨h1, _⟩
     ·
      exact ⟨q, h2, h3, h5⟩
     ·
      exact absurd hh h1))
   ·
    exact io_no2 p i v w hL hg (H! (fun W h => (ipatch_any p i v W (hL.later h) (PL.sm (by omega)) hv hI (by omega)).mono fun _ _ h => by
     rcases h with ⟨h1, _⟩ | ⟨_, h2, h3⟩
     ·
      exact absurd h1 hh
     ·
      exact ⟨h2, h3⟩))
 ·
  exact io_great p i v w hL hg
set_option maxRecDepth 100000 in
theorem iown_holds : Rows.ImageOwnSaid :=
 OpenClaim.holds_of_wide 5 Try.f5 rfl rfl rfl rfl rfl rfl rfl ⟨rfl, rfl, rfl, rfl, rfl⟩ rfl rfl rfl rfl rfl (by kernel_rfl) Try.func5 (by kernel_rfl)
  (of_decide_eq_true (by kernel_rfl)) (by unfold Func.isWrapper; first | (rw [if_pos (by decide +kernel)]; kernel_rfl) | (rw [if_neg (by decide +kernel)]; exact ⟨rfl, rfl⟩))
  (fun os started H enc _ => by
   refine law_frame started (s := Rows.imageOwnSpec) (conds := Rows.imageOwnRow.domain) Try.func5 (by kernel_rfl) rfl 4 rfl Try.underlying4 (by decide +kernel) (fun ds h => ?_)
    (ChangeSpec.witness6 (enc := enc) (C := Try.checked) false ⟨#[], #[.agg #[.slice none 0 0, .slice none 0 0, .slice none 0 0, .slice none 0 0, .int .i64 0, .slice none 0 0, .slice none 0 0, .slice none 0 0, .slice none 0 0], .int .i64 0, .int .i64 0], []⟩ 12 (by kernel_rfl) (by kernel_rfl) (by kernel_rfl) (by kernel_rfl)) ?_
   ·
    match ds, h with
    | [_, _, _], _ => rfl
   ·
    intro W base args ds p hval hA _
    rw [Try.params5] at hA hval
    obtain ⟨v0, vs0, d0, ds0, p0, q0, hargs, rfl, rfl, h0, r0⟩ := trodAll_cons hA
    obtain ⟨v1, vs1, d1, ds1, p1, q1, rfl, rfl, rfl, h1, r1⟩ := trodAll_cons r0
    obtain ⟨v2, vs2, d2, ds2, p2, q2, rfl, rfl, rfl, h2, r2⟩ := trodAll_cons r1
    obtain ⟨rfl, rfl, rfl⟩ := trodAll_nil r2
    obtain rfl : args = #[v0, v1, v2] := by cases args; simp_all
    obtain ⟨cs0, rfl, k0⟩ := arg_agg Try.underlying28 (hval 0 _ v0 rfl rfl) h0
    obtain ⟨pv0, rfl, g0⟩ := open_Program k0
    rw [← PV.val_eq]
    obtain ⟨b1, rfl, rfl, rfl, w1⟩ := open_int Try.underlying3 (hval 1 _ v1 rfl rfl) h1
    obtain ⟨b2, rfl, rfl, rfl, w2⟩ := open_int Try.underlying3 (hval 2 _ v2 rfl rfl) h2
    apply io_walk <;> (first | assumption | rfl))
#print axioms iown_holds
end Go.Proofs.Ytfooefiaenlhmaa
