/- The law ImageDetects returns true for all bytes, places and changes. No conditions. -/
import Derived.Test.YtfooefiaenlhmaaGX2
import Derived.Test.YtfooefiaenlhmaaGX12
namespace Go.Proofs.Ytfooefiaenlhmaa
set_option linter.unusedVariables false
set_option linter.unusedSimpArgs false
open Go.RowKit Go.ChangeShapes Go.WideShapes Go.ChangeAt

theorem sumF_tail {s t : Int} (hs : 0 ≤ s ∧ s < 4294967296) (ht : 0 ≤ t ∧ t < 4294967296) (l : List Int) (h : sumF s l = sumF t l) : s = t := by
  induction l generalizing s t with
  | nil => exact h
  | cons c l ih => exact sumS_inj hs ht (ih (s := sumS s c) (t := sumS t c) ⟨by unfold sumS; omega, by unfold sumS; omega⟩ ⟨by unfold sumS; omega, by unfold sumS; omega⟩ h)
theorem sumF_set {y : Int} (hy : 0 ≤ y ∧ y ≤ 255) : ∀ (bs : List Int) (j : Nat) (s : Int), 0 ≤ s ∧ s < 4294967296 → j < bs.length → ByteL bs → y ≠ bs.getD j 0 → ¬ sumF s bs = sumF s (bs.set j y) := by
  intro bs
  induction bs with
  | nil => intro j s _ hj; simp at hj
  | cons x l ih =>
    intro j s hs hj hb hne h
    have hx := hb x (List.mem_cons_self ..)
    cases j with
    | zero =>
      have h2 : sumS s x = sumS s y := sumF_tail ⟨by unfold sumS; omega, by unfold sumS; omega⟩ ⟨by unfold sumS; omega, by unfold sumS; omega⟩ l h
      have h3 : y ≠ x := by simpa using hne
      unfold sumS at h2
      omega
    | succ j => exact ih j (sumS s x) ⟨by unfold sumS; omega, by unfold sumS; omega⟩ (by simpa using hj) (fun c hc => hb c (List.mem_cons_of_mem _ hc)) (by simpa using hne) h
theorem xor_byte {x y : Int} (hx : 0 ≤ x ∧ x ≤ 255) (hy : 0 ≤ y ∧ y ≤ 255) (hne : ¬ y = 0) : ∃ z, bits .xor .u8 x y = z ∧ 0 ≤ z ∧ z ≤ 255 ∧ z ≠ x := by
  obtain ⟨n, rfl⟩ : ∃ n : Nat, x = n := ⟨x.toNat, by omega⟩
  obtain ⟨m, rfl⟩ : ∃ m : Nat, y = m := ⟨y.toNat, by omega⟩
  have hlt := (BitVec.ofInt 8 (n : Int) ^^^ BitVec.ofInt 8 (m : Int)).isLt
  refine ⟨((BitVec.ofInt 8 (n : Int) ^^^ BitVec.ofInt 8 (m : Int)).toNat : Nat), ?_, by omega, by omega, fun h => ?_⟩
  · show IntKind.u8.wrap ((BitVec.ofInt 8 (n : Int) ^^^ BitVec.ofInt 8 (m : Int)).toNat : Nat) = _
    simp only [IntKind.wrap, IntKind.signed, IntKind.bits]
    generalize (BitVec.ofInt 8 (n : Int) ^^^ BitVec.ofInt 8 (m : Int)).toNat = k at *
    simp
    omega
  · have e1 : (BitVec.ofInt 8 (n : Int)).toNat = n := by rw [BitVec.toNat_ofInt]; omega
    have e2 : (BitVec.ofInt 8 (m : Int)).toNat = m := by rw [BitVec.toNat_ofInt]; omega
    generalize BitVec.ofInt 8 (n : Int) = X at *
    generalize BitVec.ofInt 8 (m : Int) = Y at *
    have h2 : X ^^^ Y = X := BitVec.eq_of_toNat_eq (by omega)
    have h3 : X ^^^ (X ^^^ Y) = 0#8 := by rw [h2, BitVec.xor_self]
    rw [← BitVec.xor_assoc, BitVec.xor_self, BitVec.zero_xor] at h3
    rw [h3] at e2
    simp at e2
    omega
/-- Two byte strings that differ are not decoded as one program. -/
theorem dec_apart {bs cs : List Int} (h : bs ≠ cs) (h1 : (decP bs).2 = 0) (h2 : (decP cs).2 = 0) : decide ((decP bs).1.body = (decP cs).1.body) = false := by
  rw [decide_eq_false_iff_not]
  intro e
  have e1 := (dec_ok h1).2
  have e2 := (dec_ok h2).2
  rw [e] at e1
  exact h (e1.symm.trans e2)
set_option maxRecDepth 100000 in
set_option maxHeartbeats 2000000 in
theorem idt_long (r : Option Addr) (c : Nat) (bs : List Int) (a b : Int) (w : World) (h : 5000 < bs.length) (hm : bs.length ≤ 9223372036854775807) : Calls Try.prog 6 #[.slice r bs.length c, .int .u16 a, .int .u8 b] w fun e w' => e = .returned (.bool true) ∧ Below w.heap.size w w' := by
  have h1 : (5000 : Int) < bs.length := by omega
  go_enter Try.func6, Try.ntmps6
  go_wp2_with (first | (go_at_call 8; refine (awake_any _).mono ?_; rintro e hb0w ⟨rfl, hb0⟩; obtain ⟨hb0c, hb0f⟩ := bcell hb0; have hb0s := hb0.size; (try simp only [World.size_alloc] at hb0s); (try (have : w.heap.size < hb0w.heap.size := by omega)); (try (have : w.heap.size + 1 < hb0w.heap.size := by omega)); (try (have : w.heap.size + 1 + 1 < hb0w.heap.size := by omega)); (try (have : w.heap.size + 1 + 1 + 1 < hb0w.heap.size := by omega)); (try (have : bX < hb0w.heap.size := by omega)); (try (have : bY < hb0w.heap.size := by omega)); (try (have : bZ < hb0w.heap.size := by omega))))
  go_ret
  exact ⟨by first | rfl | (simp; done), by (repeat' (first | (with_reducible exact Below.refl _ _) | (with_reducible assumption) | (with_reducible refine below_alloc ?_ _) | (with_reducible refine Below.drew ?_) | (with_reducible refine below_drewN ?_ _) | (with_reducible refine below_step (by assumption) ?_) | (with_reducible refine below_later ?_ _) | (with_reducible refine Below.setCell ?_ ?_ _) | go_size))⟩
set_option maxRecDepth 100000 in
set_option maxHeartbeats 2000000 in
theorem idt_nil (r : Option Addr) (c : Nat) (a b : Int) (w : World) : Calls Try.prog 6 #[.slice r 0 c, .int .u16 a, .int .u8 b] w fun e w' => e = .returned (.bool true) ∧ Below w.heap.size w w' := by
  go_enter Try.func6, Try.ntmps6
  go_wp2_with (first | (go_at_call 8; refine (awake_any _).mono ?_; rintro e hb0w ⟨rfl, hb0⟩; obtain ⟨hb0c, hb0f⟩ := bcell hb0; have hb0s := hb0.size; (try simp only [World.size_alloc] at hb0s); (try (have : w.heap.size < hb0w.heap.size := by omega)); (try (have : w.heap.size + 1 < hb0w.heap.size := by omega)); (try (have : w.heap.size + 1 + 1 < hb0w.heap.size := by omega)); (try (have : w.heap.size + 1 + 1 + 1 < hb0w.heap.size := by omega)); (try (have : bX < hb0w.heap.size := by omega)); (try (have : bY < hb0w.heap.size := by omega)); (try (have : bZ < hb0w.heap.size := by omega))))
  go_ret
  exact ⟨by first | rfl | (simp; done), by (repeat' (first | (with_reducible exact Below.refl _ _) | (with_reducible assumption) | (with_reducible refine below_alloc ?_ _) | (with_reducible refine Below.drew ?_) | (with_reducible refine below_drewN ?_ _) | (with_reducible refine below_step (by assumption) ?_) | (with_reducible refine below_later ?_ _) | (with_reducible refine Below.setCell ?_ ?_ _) | go_size))⟩
set_option maxRecDepth 100000 in
set_option maxHeartbeats 2000000 in
theorem idt_zero (r : Option Addr) (c : Nat) (bs : List Int) (a : Int) (w : World) (h : bs.length ≤ 5000) (h0 : 0 < bs.length) : Calls Try.prog 6 #[.slice r bs.length c, .int .u16 a, .int .u8 0] w fun e w' => e = .returned (.bool true) ∧ Below w.heap.size w w' := by
  have h1 : decide ((5000 : Int) < bs.length) = false := decide_eq_false (by omega)
  have h2 : ((bs.length : Int) == 0) = false := beq_eq_false_iff_ne.2 (by omega)
  go_enter Try.func6, Try.ntmps6
  go_wp2_with (first | (go_at_call 8; refine (awake_any _).mono ?_; rintro e hb0w ⟨rfl, hb0⟩; obtain ⟨hb0c, hb0f⟩ := bcell hb0; have hb0s := hb0.size; (try simp only [World.size_alloc] at hb0s); (try (have : w.heap.size < hb0w.heap.size := by omega)); (try (have : w.heap.size + 1 < hb0w.heap.size := by omega)); (try (have : w.heap.size + 1 + 1 < hb0w.heap.size := by omega)); (try (have : w.heap.size + 1 + 1 + 1 < hb0w.heap.size := by omega)); (try (have : bX < hb0w.heap.size := by omega)); (try (have : bY < hb0w.heap.size := by omega)); (try (have : bZ < hb0w.heap.size := by omega))))
  go_ret
  exact ⟨by first | rfl | (simp; done), by (repeat' (first | (with_reducible exact Below.refl _ _) | (with_reducible assumption) | (with_reducible refine below_alloc ?_ _) | (with_reducible refine Below.drew ?_) | (with_reducible refine below_drewN ?_ _) | (with_reducible refine below_step (by assumption) ?_) | (with_reducible refine below_later ?_ _) | (with_reducible refine Below.setCell ?_ ?_ _) | go_size))⟩
set_option maxRecDepth 100000 in
set_option maxHeartbeats 8000000 in
theorem idt_main (r : Option Addr) (c : Nat) (bs : List Int) (a b : Int) (w : World) (hx : IsInts w r c .u8 bs) (hl : bs.length ≤ 5000) (h0 : 0 < bs.length) (ha : 0 ≤ a ∧ a ≤ 65535) (hb : 0 ≤ b ∧ b ≤ 255) (hb0 : ¬ b = 0) : Calls Try.prog 6 #[.slice r bs.length c, .int .u16 a, .int .u8 b] w fun e w' => e = .returned (.bool true) ∧ Below w.heap.size w w' := by
  have hne : bs ≠ [] := fun e => by rw [e] at h0; simp at h0
  have h1 : decide ((5000 : Int) < bs.length) = false := decide_eq_false (by omega)
  have h2 : ((bs.length : Int) == 0) = false := beq_eq_false_iff_ne.2 (by omega)
  have h3 : (b == 0) = false := by simp [hb0]
  have h4 : ¬ (bs.length : Int) = 0 := by omega
  obtain ⟨an, rfl⟩ : ∃ n : Nat, a = n := ⟨a.toNat, by omega⟩
  obtain ⟨j, hj⟩ : ∃ j, j = an % bs.length := ⟨_, rfl⟩
  have hjl : j < bs.length := by rw [hj]; exact Nat.mod_lt _ h0
  have hjm : (an : Int) % (bs.length : Int) = (j : Int) := by rw [hj]; omega
  have hjt : Int.tmod (an : Int) (bs.length : Int) = (j : Int) := by rw [hj]; exact Int.ofNat_tmod an bs.length
  have ha1 : IntKind.i64.wrap (an : Int) = an := IntWalk.i64_in _ (by omega)
  have hj0 : (0 : Int) ≤ (j : Int) := by omega
  have hj1 : (j : Int) < (bs.length : Int) := by omega
  have hby : ByteL bs := fun x h => wf_u8 (hx.wf x h)
  have hxb := hby _ (getD_mem' hjl)
  obtain ⟨z, hz, hz0, hz1, hz2⟩ := xor_byte hxb hb hb0
  have HNE : Hid (bs ≠ bs.set j z) := Lib.hid (fun e => by
    have : (bs.set j z).getD j 0 = z := by simp [List.getD, List.getElem?_set, hjl]
    rw [← e] at this
    exact hz2 this.symm)
  have HSNE := Lib.hid (sumF_set ⟨hz0, hz1⟩ bs j 1 (by omega) hjl hby hz2)
  have HCB : Hid (ByteL (bs.set j z)) := Lib.hid (fun x h => by
    rcases List.mem_or_eq_of_mem_set h with h | rfl
    · exact hby x h
    · exact ⟨hz0, hz1⟩)
  have HCLN : Hid ((bs.set j z).length = bs.length) := Lib.hid List.length_set
  have HX := Lib.hid (fun W (h : Below w.heap.size w W) => hx.later h)
  have HCL := Lib.hid (fun W (h : Below w.heap.size w W) => cloneB_any r c bs W (hx.later h) (by omega) hne)
  have HAT : Hid (∀ (W : World) (base : Nat) (r' : Option Addr) (c' : Nat), OwnK .u8 5 W base r' c' bs → ∃ g, r' = some ⟨g, 0, none⟩ ∧ base ≤ g ∧ g < W.heap.size ∧ W.cell? ⟨g, j, none⟩ = some (.int .u8 (bs.getD j 0)) ∧ W.frozen? ⟨g, j, none⟩ = false ∧ OwnK .u8 5 (W.setCell ⟨g, j, none⟩ (.int .u8 z)) base r' c' (bs.set j z) ∧ Below base W (W.setCell ⟨g, j, none⟩ (.int .u8 z))) := Lib.hid (fun W base r' c' h => by
    obtain ⟨g, e1, e2, e3, e4, e5, e6⟩ := h.at_ hjl
    exact ⟨g, e1, e2, e3, e4, e5, (e6 z).1, (e6 z).2⟩)
  clear hx hby hne hz2 hj ha hb
  generalize bs.getD j 0 = x at *
  have HL1 := Lib.hid hl
  generalize hcs : bs.set j z = cs at *
  clear hcs
  go_enter Try.func6, Try.ntmps6
  go_upto_region 7 with (first | (go_at_call 8; refine (awake_any _).mono ?_; rintro e hb0w ⟨rfl, hb0⟩; obtain ⟨hb0c, hb0f⟩ := bcell hb0; have hb0s := hb0.size; (try simp only [World.size_alloc] at hb0s); (try (have : w.heap.size < hb0w.heap.size := by omega)); (try (have : w.heap.size + 1 < hb0w.heap.size := by omega)); (try (have : w.heap.size + 1 + 1 < hb0w.heap.size := by omega)); (try (have : w.heap.size + 1 + 1 + 1 < hb0w.heap.size := by omega)); (try (have : bX < hb0w.heap.size := by omega)); (try (have : bY < hb0w.heap.size := by omega)); (try (have : bZ < hb0w.heap.size := by omega))) | (go_at_call 24; refine (HCL.out _ (by (repeat' (first | (with_reducible exact Below.refl _ _) | (with_reducible assumption) | (with_reducible refine below_alloc ?_ _) | (with_reducible refine Below.drew ?_) | (with_reducible refine below_drewN ?_ _) | (with_reducible refine below_step (by assumption) ?_) | (with_reducible refine below_later ?_ _) | (with_reducible refine Below.setCell ?_ ?_ _) | go_size)))).mono ?_; rintro _ w2 ⟨r2, c2, rfl, ho2, hb2⟩; obtain ⟨g, rfl, hg1, hg2, hg3, hg4, hg5, hg6⟩ := HAT.out _ _ _ _ ho2; have HC2 := Lib.hid (ints_b hg5 HCB.out); have hB2 : Below w.heap.size w w2 := (by (repeat' (first | (with_reducible exact Below.refl _ _) | (with_reducible assumption) | (with_reducible refine below_alloc ?_ _) | (with_reducible refine Below.drew ?_) | (with_reducible refine below_drewN ?_ _) | (with_reducible refine below_step (by assumption) ?_) | (with_reducible refine below_later ?_ _) | (with_reducible refine Below.setCell ?_ ?_ _) | go_size))); have hB3 := hB2.trans (hg6.mono (by have := hb0.size; omega)); clear ho2 hg5 hg6))
  generalize w2.setCell ⟨g, j, none⟩ (.int .u8 z) = w3 at *
  have HX3 := Lib.hid (fun W (h : Below w3.heap.size w3 W) => (HX.out w3 hB3).later h)
  have HC3 := Lib.hid (fun W (h : Below w3.heap.size w3 W) => HC2.out.later h)
  have HS1 : Hid (∀ W, Below w3.heap.size w3 W → Calls Try.prog 11 #[.slice r bs.length c] W fun e w' => e = .returned (.int .u32 (sumB bs)) ∧ Below W.heap.size W w') := Lib.hid (fun W h => isum_any r c bs W (HX3.out W h))
  have HS2 : Hid (∀ W, Below w3.heap.size w3 W → Calls Try.prog 11 #[.slice (some ⟨g, 0, none⟩) bs.length c2] W fun e w' => e = .returned (.int .u32 (sumB cs)) ∧ Below W.heap.size W w') := Lib.hid (fun W h => by
    have := isum_any (some ⟨g, 0, none⟩) c2 cs W (HC3.out W h)
    rwa [HCLN.out] at this)
  have hsne : ¬ sumB bs = sumB cs := HSNE.out
  have hsne2 : (sumB bs == sumB cs) = false := by simp [hsne]
  have HD1 : Hid (∀ W, Below w3.heap.size w3 W → Calls Try.prog 25 #[.slice r bs.length c] W fun e w' => ∃ q : PV, e = .returned (.tuple #[q.val, .int .i64 (decP bs).2]) ∧ IsP w' q ∧ q.p = (decP bs).1 ∧ Below W.heap.size W w') := Lib.hid (fun W h => idecode_any r c bs W (HX3.out W h) (by omega))
  have HD2 : Hid (∀ W, Below w3.heap.size w3 W → Calls Try.prog 25 #[.slice (some ⟨g, 0, none⟩) bs.length c2] W fun e w' => ∃ q : PV, e = .returned (.tuple #[q.val, .int .i64 (decP cs).2]) ∧ IsP w' q ∧ q.p = (decP cs).1 ∧ Below W.heap.size W w') := Lib.hid (fun W h => by
    have := idecode_any (some ⟨g, 0, none⟩) c2 cs W (HC3.out W h) (by rw [HCLN.out]; omega)
    rwa [HCLN.out] at this)
  have HAP := Lib.hid (fun h1 h2 => dec_apart HNE.out h1 h2)
  have HB1 := Lib.hid (dec_len (bs := bs) (by omega))
  have HB2 := Lib.hid (dec_len (bs := cs) (by rw [HCLN.out]; omega))
  clear HX HCL HAT HSNE hsne2 hg3 hg4 hjm hjt hj0 hj1
  generalize sumB bs = s1 at *
  generalize sumB cs = s2 at *
  generalize decP bs = D1 at *
  generalize decP cs = D2 at *
  obtain ⟨d1, e1⟩ := D1
  obtain ⟨d2, e2⟩ := D2
  simp only at HD1 HD2 HAP HB1 HB2
  have HP : Hid (∀ p q : PV, ∀ W, IsP W p → IsP W q → p.p = d1 → q.p = d2 → e1 = 0 → e2 = 0 → Calls Try.prog 26 #[p.val, q.val] W fun e w' => e = .returned (.bool false) ∧ Below W.heap.size W w') := Lib.hid (fun p q W hp hq h1 h2 z1 z2 => by
    have := rsame_any p q W hp hq (by rw [h1]; exact HB1.out) (by rw [h2]; exact HB2.out)
    rw [h1, h2, HAP.out z1 z2] at this
    exact this)
  have hw3 : Below w3.heap.size w3 w3 := Below.refl _ _
  clear HX3 HC3 HB1 HB2 HAP HNE HCB HC2
  by_cases z1 : e1 = 0
  · by_cases z2 : e2 = 0
    · subst z1
      subst z2
      go_wp2_with (first | (go_at_call 11; with_reducible (refine (HS1.out _ ?sd).mono ?_); (case sd => exact hw3); rintro _ w4 ⟨rfl, hb4⟩; have hb34 : Below w3.heap.size w3 w4 := hw3.trans (hb4.mono hw3.size)) | (go_at_call 11; with_reducible (refine (HS2.out _ ?sd).mono ?_); (case sd => exact hb34); rintro _ w5 ⟨rfl, hb5⟩; have hb35 : Below w3.heap.size w3 w5 := hb34.trans (hb5.mono hb34.size)) | (go_at_call 25; with_reducible (refine (HD1.out _ ?sd).mono ?_); (case sd => exact hb35); rintro _ w6 ⟨⟨rc, cc, code, rt, ct, types, rv, cv, curves, rm, cm, maps, cells, ri, ci, inputs, rs, cs, states, ro, co, outputs, rn, cn, initial⟩, rfl, hp6, hq6, hb6⟩; simp only [PV.val]; have HP6 := Lib.hid hp6; have HQ6 := Lib.hid hq6; clear hp6 hq6; have hb36 : Below w3.heap.size w3 w6 := hb35.trans (hb6.mono hb35.size); have hb6s := hb36.size) | (go_at_call 25; with_reducible (refine (HD2.out _ ?sd).mono ?_); (case sd => exact hb36.alloc hb36.size _); rintro _ w7 ⟨⟨rc2, cc2, code2, rt2, ct2, types2, rv2, cv2, curves2, rm2, cm2, maps2, cells2, ri2, ci2, inputs2, rs2, cs2, states2, ro2, co2, outputs2, rn2, cn2, initial2⟩, rfl, hp7, hq7, hb7⟩; simp only [PV.val]; have HP7 := Lib.hid hp7; have HQ7 := Lib.hid hq7; clear hp7 hq7; obtain ⟨hb7c, hb7f⟩ := bcell hb7; have hb7s := hb7.size; (try simp only [World.size_alloc] at hb7s); have hx7 : w6.heap.size < w7.heap.size := (by omega)) | (go_at_call 26; refine (HP.out ⟨rc, cc, code, rt, ct, types, rv, cv, curves, rm, cm, maps, cells, ri, ci, inputs, rs, cs, states, ro, co, outputs, rn, cn, initial⟩ ⟨rc2, cc2, code2, rt2, ct2, types2, rv2, cv2, curves2, rm2, cm2, maps2, cells2, ri2, ci2, inputs2, rs2, cs2, states2, ro2, co2, outputs2, rn2, cn2, initial2⟩ _ (HP6.out.later (by (repeat' (first | (with_reducible exact Below.refl _ _) | (with_reducible assumption) | (with_reducible refine below_alloc ?_ _) | (with_reducible refine Below.drew ?_) | (with_reducible refine below_drewN ?_ _) | (with_reducible refine below_step (by assumption) ?_) | (with_reducible refine below_later ?_ _) | (with_reducible refine Below.setCell ?_ ?_ _) | go_size)))) (HP7.out.later (by (repeat' (first | (with_reducible exact Below.refl _ _) | (with_reducible assumption) | (with_reducible refine below_alloc ?_ _) | (with_reducible refine Below.drew ?_) | (with_reducible refine below_drewN ?_ _) | (with_reducible refine below_step (by assumption) ?_) | (with_reducible refine below_later ?_ _) | (with_reducible refine Below.setCell ?_ ?_ _) | go_size)))) HQ6.out HQ7.out (by trivial) (by trivial)).mono ?_; rintro _ w8 ⟨rfl, hb8⟩))
      go_ret
      exact ⟨by first | rfl | (simp; done), hB3.trans (Below.mono (by (repeat' (first | (with_reducible exact Below.refl _ _) | (with_reducible assumption) | (with_reducible refine below_alloc ?_ _) | (with_reducible refine Below.drew ?_) | (with_reducible refine below_drewN ?_ _) | (with_reducible refine below_step (by assumption) ?_) | (with_reducible refine below_later ?_ _) | (with_reducible refine Below.setCell ?_ ?_ _) | go_size))) hB3.size)⟩
    · subst z1
      have z2a : (e2 == 0) = false := beq_eq_false_iff_ne.2 z2
      have z2b : (e2 != 0) = true := by simp [z2]
      clear HP
      go_wp2_with (first | (go_at_call 11; with_reducible (refine (HS1.out _ ?sd).mono ?_); (case sd => exact hw3); rintro _ w4 ⟨rfl, hb4⟩; have hb34 : Below w3.heap.size w3 w4 := hw3.trans (hb4.mono hw3.size)) | (go_at_call 11; with_reducible (refine (HS2.out _ ?sd).mono ?_); (case sd => exact hb34); rintro _ w5 ⟨rfl, hb5⟩; have hb35 : Below w3.heap.size w3 w5 := hb34.trans (hb5.mono hb34.size)) | (go_at_call 25; with_reducible (refine (HD1.out _ ?sd).mono ?_); (case sd => exact hb35); rintro _ w6 ⟨⟨rc, cc, code, rt, ct, types, rv, cv, curves, rm, cm, maps, cells, ri, ci, inputs, rs, cs, states, ro, co, outputs, rn, cn, initial⟩, rfl, hp6, hq6, hb6⟩; simp only [PV.val]; have HP6 := Lib.hid hp6; have HQ6 := Lib.hid hq6; clear hp6 hq6; have hb36 : Below w3.heap.size w3 w6 := hb35.trans (hb6.mono hb35.size); have hb6s := hb36.size) | (go_at_call 25; with_reducible (refine (HD2.out _ ?sd).mono ?_); (case sd => exact hb36.alloc hb36.size _); rintro _ w7 ⟨⟨rc2, cc2, code2, rt2, ct2, types2, rv2, cv2, curves2, rm2, cm2, maps2, cells2, ri2, ci2, inputs2, rs2, cs2, states2, ro2, co2, outputs2, rn2, cn2, initial2⟩, rfl, hp7, hq7, hb7⟩; simp only [PV.val]; have HP7 := Lib.hid hp7; have HQ7 := Lib.hid hq7; clear hp7 hq7; obtain ⟨hb7c, hb7f⟩ := bcell hb7; have hb7s := hb7.size; (try simp only [World.size_alloc] at hb7s); have hx7 : w6.heap.size < w7.heap.size := (by omega)))
      go_ret
      exact ⟨by first | rfl | (simp; done), hB3.trans (Below.mono (by (repeat' (first | (with_reducible exact Below.refl _ _) | (with_reducible assumption) | (with_reducible refine below_alloc ?_ _) | (with_reducible refine Below.drew ?_) | (with_reducible refine below_drewN ?_ _) | (with_reducible refine below_step (by assumption) ?_) | (with_reducible refine below_later ?_ _) | (with_reducible refine Below.setCell ?_ ?_ _) | go_size))) hB3.size)⟩
  · have z1a : (e1 == 0) = false := beq_eq_false_iff_ne.2 z1
    have z1b : (e1 != 0) = true := by simp [z1]
    clear HP
    go_wp2_with (first | (go_at_call 11; with_reducible (refine (HS1.out _ ?sd).mono ?_); (case sd => exact hw3); rintro _ w4 ⟨rfl, hb4⟩; have hb34 : Below w3.heap.size w3 w4 := hw3.trans (hb4.mono hw3.size)) | (go_at_call 11; with_reducible (refine (HS2.out _ ?sd).mono ?_); (case sd => exact hb34); rintro _ w5 ⟨rfl, hb5⟩; have hb35 : Below w3.heap.size w3 w5 := hb34.trans (hb5.mono hb34.size)) | (go_at_call 25; with_reducible (refine (HD1.out _ ?sd).mono ?_); (case sd => exact hb35); rintro _ w6 ⟨⟨rc, cc, code, rt, ct, types, rv, cv, curves, rm, cm, maps, cells, ri, ci, inputs, rs, cs, states, ro, co, outputs, rn, cn, initial⟩, rfl, hp6, hq6, hb6⟩; simp only [PV.val]; have HP6 := Lib.hid hp6; have HQ6 := Lib.hid hq6; clear hp6 hq6; have hb36 : Below w3.heap.size w3 w6 := hb35.trans (hb6.mono hb35.size); have hb6s := hb36.size) | (go_at_call 25; with_reducible (refine (HD2.out _ ?sd).mono ?_); (case sd => exact hb36.alloc hb36.size _); rintro _ w7 ⟨⟨rc2, cc2, code2, rt2, ct2, types2, rv2, cv2, curves2, rm2, cm2, maps2, cells2, ri2, ci2, inputs2, rs2, cs2, states2, ro2, co2, outputs2, rn2, cn2, initial2⟩, rfl, hp7, hq7, hb7⟩; simp only [PV.val]; have HP7 := Lib.hid hp7; have HQ7 := Lib.hid hq7; clear hp7 hq7; obtain ⟨hb7c, hb7f⟩ := bcell hb7; have hb7s := hb7.size; (try simp only [World.size_alloc] at hb7s); have hx7 : w6.heap.size < w7.heap.size := (by omega)))
    go_ret
    exact ⟨by first | rfl | (simp; done), hB3.trans (Below.mono (by (repeat' (first | (with_reducible exact Below.refl _ _) | (with_reducible assumption) | (with_reducible refine below_alloc ?_ _) | (with_reducible refine Below.drew ?_) | (with_reducible refine below_drewN ?_ _) | (with_reducible refine below_step (by assumption) ?_) | (with_reducible refine below_later ?_ _) | (with_reducible refine Below.setCell ?_ ?_ _) | go_size))) hB3.size)⟩
theorem idt_walk (r : Option Addr) (c : Nat) (bs : List Int) (a b : Int) (w : World) (hx : IsInts w r c .u8 bs) (ha : (Lit.int .u16 a).wf = true) (hb : (Lit.int .u8 b).wf = true) : Calls Try.prog 6 #[.slice r bs.length c, .int .u16 a, .int .u8 b] w fun e w' => e = .returned (.bool true) ∧ Below w.heap.size w w' := by
  have ha2 : 0 ≤ a ∧ a ≤ 65535 := by simpa [Lit.wf, IntKind.min, IntKind.max, IntKind.bits, IntKind.signed] using ha
  by_cases h : 5000 < bs.length
  · exact idt_long r c bs a b w h hx.len
  · by_cases h0 : bs.length = 0
    · rw [h0]
      exact idt_nil r c a b w
    · by_cases hz : b = 0
      · subst hz
        exact idt_zero r c bs a w (by omega) (by omega)
      · exact idt_main r c bs a b w hx (by omega) (by omega) ha2 (wf_u8 hb) hz

set_option maxRecDepth 100000 in
theorem idetects_holds : Rows.ImageDetectsSaid :=
  OpenClaim.holds_of_wide 6 Try.f6 rfl rfl rfl rfl rfl rfl rfl ⟨rfl, rfl, rfl, rfl, rfl⟩ rfl rfl rfl rfl rfl (by kernel_rfl) Try.func6 (by kernel_rfl)
    (of_decide_eq_true (by kernel_rfl)) (by unfold Func.isWrapper; first | (rw [if_pos (by decide +kernel)]; kernel_rfl) | (rw [if_neg (by decide +kernel)]; exact ⟨rfl, rfl⟩))
    (fun os started H enc _ => by
      refine law_frame started (s := Rows.imageDetectsSpec) (conds := Rows.imageDetectsRow.domain) Try.func6 (by kernel_rfl) rfl 4 rfl Try.underlying4 (by decide +kernel) (fun ds h => ?_)
        (ChangeSpec.witness6 (enc := enc) (C := Try.checked) false ⟨#[], #[.slice none 0 0, .int .u16 0, .int .u8 0], []⟩ 12 (by kernel_rfl) (by kernel_rfl) (by kernel_rfl) (by kernel_rfl)) ?_
      · match ds, h with
        | [_, _, _], _ => rfl
      · intro W base args ds p hval hA _
        rw [Try.params6] at hA hval
        obtain ⟨v0, vs0, d0, ds0, p0, q0, hargs, rfl, rfl, h0, r0⟩ := trodAll_cons hA
        obtain ⟨v1, vs1, d1, ds1, p1, q1, rfl, rfl, rfl, h1, r1⟩ := trodAll_cons r0
        obtain ⟨v2, vs2, d2, ds2, p2, q2, rfl, rfl, rfl, h2, r2⟩ := trodAll_cons r1
        obtain ⟨rfl, rfl, rfl⟩ := trodAll_nil r2
        obtain rfl : args = #[v0, v1, v2] := by cases args; simp_all
        obtain ⟨r0, c0, b0, e0, w0⟩ := rd_ints Try.underlying29 Try.underlying5 (by kernel_rfl) (arg_slice Try.underlying29 (hval 0 _ v0 rfl rfl) h0)
        simp only [List.cons.injEq, and_true] at e0
        subst e0
        obtain ⟨b1, rfl, rfl, rfl, w1⟩ := open_int Try.underlying61 (hval 1 _ v1 rfl rfl) h1
        obtain ⟨b2, rfl, rfl, rfl, w2⟩ := open_int Try.underlying5 (hval 2 _ v2 rfl rfl) h2
        apply idt_walk <;> (first | assumption | rfl))
#print axioms idetects_holds

end Go.Proofs.Ytfooefiaenlhmaa
