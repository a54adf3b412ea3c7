/- Lemmas for the laws of package magnetolaw15: what its functions return, for any arguments that the lemmas name. -/
import Derived.Test.YtfooefiaenlhmaaGO1
import Derived.Test.YtfooefiaenlhmaaGO5
import Derived.Test.YtfooefiaenlhmaaGO11
import Derived.Test.YtfooefiaenlhmaaGO13
import Derived.Deep.Cut
namespace Go.Proofs.Ytfooefiaenlhmaa
set_option linter.unusedVariables false
set_option linter.unusedSimpArgs false
set_option maxHeartbeats 16000000
open Go.RowKit Go.ChangeShapes Go.WideShapes Go.ChangeAt
theorem Wr.later {w w' : World} {b : Nat} {xs : List Int} (h : Wr w b xs) (hb : Below w.heap.size w w') : Wr w' b xs := by
 obtain ⟨r, cap, h1, h2, h3, h4⟩ := h
 exact ⟨r, cap, Nat.lt_of_lt_of_le h1 hb.size, (hb.cell (p := ⟨b, 0, none⟩) h1).trans h2, (hb.frozen (p := ⟨b, 0, none⟩) h1).trans h3, h4.below hb (Nat.le_refl _)⟩
def cv0 (c : List Int × List Int) : Cv := ⟨none, 0, c.1, none, 0, c.2⟩
def mp0 (m : List Int × List Int × List (List Int)) : Mp := ⟨none, 0, m.1, none, 0, m.2.1, none, 0, m.2.2⟩
def PP.v (p : PP) : PV := ⟨none, 0, p.code, none, 0, p.types, none, 0, p.curves.map cv0, none, 0, p.maps.map mp0, p.cells, none, 0, p.inputs, none, 0, p.states, none, 0, p.outputs, none, 0, p.initial⟩
noncomputable def okP (p : PP) : Bool := validB p.v
theorem okP_eq (p : PV) : okP p.p = validB p := by
 have hs : decide (szP p.p.v) = decide (szP p) := decide_eq_decide.2 (by simp [szP, PV.p, PP.v])
 have e1 : (p.p.v.curves.any fun c => !cvB c) = p.curves.any fun c => !cvB c := by
  simp only [PV.p, PP.v, List.any_map]; rfl
 have e2 : (p.p.v.maps.any fun c => !mpB c) = p.maps.any fun c => !mpB c := by
  simp only [PV.p, PP.v, List.any_map]; rfl
 unfold okP validB
 rw [hs, e1, e2]
 simp only [PV.p, PP.v, List.length_map]
 rfl
theorem IsS.len {α : Type} {sz : Nat} {enc : α → List Value} {W : World} {r : Option Addr} {c : Nat} {xs : List α} (h : IsS sz enc W r c xs) : xs.length ≤ 9223372036854775807 := by have := h.le; have := h.max; unfold maxLen at this; omega
def pv0 : PV := ⟨none, 0, [], none, 0, [], none, 0, [], none, 0, [], 0, none, 0, [], none, 0, [], none, 0, [], none, 0, []⟩
theorem flat_get {α : Type} {enc : α → List Value} {sz : Nat} (henc : ∀ x, (enc x).length = sz) (h0 : 0 < sz) {ys : List α} {j : Nat} {u : Value} (h : (ys.flatMap enc)[j]? = some u) : ∃ x, ys[j / sz]? = some x ∧ (enc x)[j % sz]? = some u := by
 induction ys generalizing j with
 | nil => simp at h
 | cons y ys ih =>
  rw [List.flatMap_cons] at h
  by_cases hj : j < sz
  ·
   rw [List.getElem?_append_left (by rw [henc]; exact hj)] at h
   refine ⟨y, ?_, ?_⟩
   ·
    rw [Nat.div_eq_of_lt hj]; rfl
   ·
    rw [Nat.mod_eq_of_lt hj]; exact h
  ·
   rw [List.getElem?_append_right (by rw [henc]; omega), henc] at h
   obtain ⟨x, h1, h2⟩ := ih h
   have e1 : j / sz = (j - sz) / sz + 1 := by rw [Nat.div_eq j sz, if_pos ⟨h0, by omega⟩]
   have e2 : j % sz = (j - sz) % sz := by rw [Nat.mod_eq_sub_mod (by omega)]
   exact ⟨x, by rw [e1]; exact h1, by rw [e2]; exact h2⟩
theorem flat_len {α : Type} {enc : α → List Value} {sz : Nat} (henc : ∀ x, (enc x).length = sz) (ys : List α) : (ys.flatMap enc).length = ys.length * sz := by
 induction ys with
 | nil => simp
 | cons y ys ih => rw [List.flatMap_cons, List.length_append, henc, ih, List.length_cons, Nat.succ_mul, Nat.add_comm]
section
variable {α : Type} {t : TypeId} {sz : Nat} {enc : α → List Value}
theorem isS_flat {w : World} {ad : Addr} {c : Nat} {ys : List α} (henc : ∀ x, (enc x).length = sz) (h0 : 0 < sz) (h : IsS sz enc w (some ad) c ys) : ∀ j u, (ys.flatMap enc)[j]? = some u → w.cell? (ad.add j) = some u := by
 intro j u hj
 by_cases hne : ys = []
 ·
  subst hne; simp at hj
 ·
  obtain ⟨b, off, h1, _, h3⟩ := h.cells hne
  obtain rfl : ad = ⟨b, off, none⟩ := by simpa using h1
  obtain ⟨y, h4, h5⟩ := flat_get henc h0 hj
  have h6 := h3 _ _ h4 _ _ h5
  have e : (Addr.add ⟨b, off, none⟩ j : Addr) = ⟨b, off + j / sz * sz + j % sz, none⟩ := by
   have : off + j / sz * sz + j % sz = off + j := by have := Nat.div_add_mod j sz; rw [Nat.mul_comm] at this; omega
   rw [this]
   by_cases h0 : j = 0
   ·
    subst h0; simp [Addr.add]
   ·
    simp [Addr.add, h0]
  rw [e, h6]
theorem wpList_append_rows {ts : TypeId} {z : Value} {by' : Nat} (hts : Try.prog.underlying ts = some (.slice t)) (hinf : (Try.prog.info? t).map (fun i => (i.zero, i.size, i.bytes)) = some (some z, sz, by')) (hzs : z.cells.size = sz) (h0 : 0 < sz) (hby : by' ≤ 128)
  {ops : Array Oper} {rest : List Oper} {o : Oper} {a : Act} {Q : Exit → Act → World → Prop} {w : World} (hgd : o.guard = none) (s x : Operand)
  (ho : o.op = .call { callee := .builtin .append, args := #[s, x], argTypes := #[ts, ts] }) (base : Nat) (r : Option Addr) (ad : Addr) (cap c2 : Nat) (xs ys : List α) (henc : ∀ x, (enc x).length = sz) (hone : ∀ x, ∀ u ∈ enc x, u.oneCell' = true)
  (hs : a.eval s = .slice r xs.length cap) (hx : a.eval x = .slice (some ad) ys.length c2) (hown : OwnR t sz enc w base r cap xs) (hys : ∀ j u, (ys.flatMap enc)[j]? = some u → w.cell? (ad.add j) = some u) (hl : xs.length + ys.length ≤ 549755813888) (hb : base ≤ w.heap.size)
  (h : ∀ r' cap' w', OwnR t sz enc w' base r' cap' (xs ++ ys) → Below base w w' → wpList Try.prog ops Q rest (a.put o.dst (.slice r' (xs ++ ys).length cap')) w') : wpList Try.prog ops Q (o :: rest) a w := by
 obtain ⟨i0, hi, hz0, hz1, hz2⟩ := info_parts hinf
 refine wpList_append_own_at w hgd s x ts ho base t i0 z sz by' hts hi hz0 hz1 hz2 hzs h0 _ xs.length (xs.flatMap enc) hs hown ad ys.length c2 (ys.flatMap enc) hx (flat_len henc ys) hys ?_ (by unfold maxLen; omega) (by have : (xs.length + ys.length) * by' ≤ 549755813888 * 128 := Nat.mul_le_mul (by omega) hby; omega) hb ?_
 ·
  intro u hu
  obtain ⟨y, _, h2⟩ := List.mem_flatMap.1 hu
  exact hone y u h2
 ·
  intro v' w1 hown1 hgrow _ hg
  have hB : Below base w w1 := (Below.refl base w).grown hgrow hb (fun k hk => (World.ownsRow.lt hown k hk).1)
  have hlen : (xs ++ ys).length = xs.length + ys.length := by simp
  rw [← List.flatMap_append] at hown1
  obtain ⟨r', cap', rfl⟩ : ∃ r' cap', v' = .slice r' (xs ++ ys).length cap' := by
   rcases hown1.2 with ⟨h1, h3⟩ | ⟨g, c, cur, h1, _⟩
   ·
    exact ⟨none, 0, by rw [h1, hlen, h3]⟩
   ·
    exact ⟨_, _, by rw [h1, hlen]⟩
  refine h r' cap' w1 ?_ hB
  unfold OwnR
  rw [hlen] at hown1 ⊢
  exact hown1
end
set_option maxRecDepth 100000 in
theorem cloneIns_any (r : Option Addr) (cap : Nat) (xs : List Ins) (w : World) (hx : IsS 5 Ins.enc w r cap xs) (hl : xs.length ≤ 549755813888) : Calls Try.prog 85 #[.slice r xs.length cap] w fun e w' => ∃ r' cap', e = .returned (.slice r' xs.length cap') ∧ OwnR 50 5 Ins.enc w' w.heap.size r' cap' xs ∧ Below w.heap.size w w' := by
 cases r with
 | none =>
  have hy : xs = [] := by
   rcases Classical.em (xs = []) with h | h
   ·
    exact h
   ·
    obtain ⟨b, off, h1, _⟩ := hx.cells h
    cases h1
  subst hy
  clear hx
  have hq : ∀ w, (binOp .eql 22 (.slice none 0 cap) (.slice none 0 0)).run Try.prog w = .ok (.bool true) w := fun w => run_eqlN Try.underlying22 _ _ _ w
  go_enter Try.func85, Try.ntmps85
  go_wp2
  go_ret
  exact ⟨none, 0, rfl, OwnR.nil _ _, bw⟩
 | some ad =>
  have HX : Hid (∀ w', Below w.heap.size w w' → IsS 5 Ins.enc w' (some ad) cap xs) := H! (fun _ h => hx.later h)
  clear hx
  have HE : Hid (OwnR 50 5 Ins.enc (w.alloc (.cells #[] 50)) w.heap.size (some ⟨w.heap.size, 0, none⟩) 0 ([] : List Ins)) := H! ⟨by simp, Or.inr ⟨w.heap.size, 0, #[], rfl, Nat.le_refl _, heap_alloc_new w _, by simp, by simp [maxLen], by simp, by simp⟩⟩
  have hq : ∀ w, (binOp .eql 22 (.slice (some ad) xs.length cap) (.slice none 0 0)).run Try.prog w = .ok (.bool false) w := fun w => run_eqlN Try.underlying22 _ _ _ w
  go_enter Try.func85, Try.ntmps85
  go_wp2_with (at_builtin; refine wpList_append_rows (sz := 5) Try.underlying22 infoInstr rfl (by omega) (by omega) (by rfl) _ _ (by rfl) w.heap.size (some ⟨w.heap.size, 0, none⟩) ad 0 cap [] xs (fun _ => rfl) (fun x u hu => by simp only [Ins.enc, List.mem_cons, List.not_mem_nil, or_false] at hu; rcases hu with rfl | rfl | rfl | rfl | rfl <;> rfl) (by rfl) (by rfl) HE.out (isS_flat (sz := 5) (fun _ => rfl) (by omega) (HX.out _ bw)) (by simpa using hl) (by go_size) ?_; intro r' cap' w1 hown1 hbw1; have HO1 := H! hown1; clear hown1)
  go_ret
  have hO := HO1.out
  rw [List.nil_append] at hO
  exact ⟨r', cap', rfl, hO, Below.trans ((Below.refl _ w).alloc (Nat.le_refl _) _) hbw1⟩
set_option maxRecDepth 100000 in
theorem cloneFx_any (r : Option Addr) (cap : Nat) (xs : List Fx) (w : World) (hx : IsS 10 Fx.enc w r cap xs) (hl : xs.length ≤ 549755813888) : Calls Try.prog 86 #[.slice r xs.length cap] w fun e w' => ∃ r' cap', e = .returned (.slice r' xs.length cap') ∧ OwnR 59 10 Fx.enc w' w.heap.size r' cap' xs ∧ Below w.heap.size w w' := by
 cases r with
 | none =>
  have hy : xs = [] := by
   rcases Classical.em (xs = []) with h | h
   ·
    exact h
   ·
    obtain ⟨b, off, h1, _⟩ := hx.cells h
    cases h1
  subst hy
  clear hx
  have hq : ∀ w, (binOp .eql 23 (.slice none 0 cap) (.slice none 0 0)).run Try.prog w = .ok (.bool true) w := fun w => run_eqlN Try.underlying23 _ _ _ w
  go_enter Try.func86, Try.ntmps86
  go_wp2
  go_ret
  exact ⟨none, 0, rfl, OwnR.nil _ _, bw⟩
 | some ad =>
  have HX : Hid (∀ w', Below w.heap.size w w' → IsS 10 Fx.enc w' (some ad) cap xs) := H! (fun _ h => hx.later h)
  clear hx
  have HE : Hid (OwnR 59 10 Fx.enc (w.alloc (.cells #[] 59)) w.heap.size (some ⟨w.heap.size, 0, none⟩) 0 ([] : List Fx)) := H! ⟨by simp, Or.inr ⟨w.heap.size, 0, #[], rfl, Nat.le_refl _, heap_alloc_new w _, by simp, by simp [maxLen], by simp, by simp⟩⟩
  have hq : ∀ w, (binOp .eql 23 (.slice (some ad) xs.length cap) (.slice none 0 0)).run Try.prog w = .ok (.bool false) w := fun w => run_eqlN Try.underlying23 _ _ _ w
  go_enter Try.func86, Try.ntmps86
  go_wp2_with (at_builtin; refine wpList_append_rows (sz := 10) Try.underlying23 infoFixed rfl (by omega) (by omega) (by rfl) _ _ (by rfl) w.heap.size (some ⟨w.heap.size, 0, none⟩) ad 0 cap [] xs (fun _ => rfl) (fun x u hu => by simp only [Fx.enc, List.mem_cons, List.not_mem_nil, or_false] at hu; rcases hu with rfl | rfl | rfl | rfl | rfl | rfl | rfl | rfl | rfl | rfl <;> rfl) (by rfl) (by rfl) HE.out (isS_flat (sz := 10) (fun _ => rfl) (by omega) (HX.out _ bw)) (by simpa using hl) (by go_size) ?_; intro r' cap' w1 hown1 hbw1; have HO1 := H! hown1; clear hown1)
  go_ret
  have hO := HO1.out
  rw [List.nil_append] at hO
  exact ⟨r', cap', rfl, hO, Below.trans ((Below.refl _ w).alloc (Nat.le_refl _) _) hbw1⟩
set_option maxRecDepth 100000 in
theorem cloneCv_any (r : Option Addr) (cap : Nat) (xs : List Cv) (w : World) (hx : IsS 2 Cv.enc w r cap xs) (hl : xs.length ≤ 549755813888) : Calls Try.prog 87 #[.slice r xs.length cap] w fun e w' => ∃ r' cap', e = .returned (.slice r' xs.length cap') ∧ OwnR 53 2 Cv.enc w' w.heap.size r' cap' xs ∧ Below w.heap.size w w' := by
 cases r with
 | none =>
  have hy : xs = [] := by
   rcases Classical.em (xs = []) with h | h
   ·
    exact h
   ·
    obtain ⟨b, off, h1, _⟩ := hx.cells h
    cases h1
  subst hy
  clear hx
  have hq : ∀ w, (binOp .eql 24 (.slice none 0 cap) (.slice none 0 0)).run Try.prog w = .ok (.bool true) w := fun w => run_eqlN Try.underlying24 _ _ _ w
  go_enter Try.func87, Try.ntmps87
  go_wp2
  go_ret
  exact ⟨none, 0, rfl, OwnR.nil _ _, bw⟩
 | some ad =>
  have HX : Hid (∀ w', Below w.heap.size w w' → IsS 2 Cv.enc w' (some ad) cap xs) := H! (fun _ h => hx.later h)
  clear hx
  have HE : Hid (OwnR 53 2 Cv.enc (w.alloc (.cells #[] 53)) w.heap.size (some ⟨w.heap.size, 0, none⟩) 0 ([] : List Cv)) := H! ⟨by simp, Or.inr ⟨w.heap.size, 0, #[], rfl, Nat.le_refl _, heap_alloc_new w _, by simp, by simp [maxLen], by simp, by simp⟩⟩
  have hq : ∀ w, (binOp .eql 24 (.slice (some ad) xs.length cap) (.slice none 0 0)).run Try.prog w = .ok (.bool false) w := fun w => run_eqlN Try.underlying24 _ _ _ w
  go_enter Try.func87, Try.ntmps87
  go_wp2_with (at_builtin; refine wpList_append_rows (sz := 2) Try.underlying24 infoCurve rfl (by omega) (by omega) (by rfl) _ _ (by rfl) w.heap.size (some ⟨w.heap.size, 0, none⟩) ad 0 cap [] xs (fun _ => rfl) (fun x u hu => by simp only [Cv.enc, List.mem_cons, List.not_mem_nil, or_false] at hu; rcases hu with rfl | rfl <;> rfl) (by rfl) (by rfl) HE.out (isS_flat (sz := 2) (fun _ => rfl) (by omega) (HX.out _ bw)) (by simpa using hl) (by go_size) ?_; intro r' cap' w1 hown1 hbw1; have HO1 := H! hown1; clear hown1)
  go_ret
  have hO := HO1.out
  rw [List.nil_append] at hO
  exact ⟨r', cap', rfl, hO, Below.trans ((Below.refl _ w).alloc (Nat.le_refl _) _) hbw1⟩
set_option maxRecDepth 100000 in
theorem cloneMp_any (r : Option Addr) (cap : Nat) (xs : List Mp) (w : World) (hx : IsS 3 Mp.enc w r cap xs) (hl : xs.length ≤ 549755813888) : Calls Try.prog 88 #[.slice r xs.length cap] w fun e w' => ∃ r' cap', e = .returned (.slice r' xs.length cap') ∧ OwnR 55 3 Mp.enc w' w.heap.size r' cap' xs ∧ Below w.heap.size w w' := by
 cases r with
 | none =>
  have hy : xs = [] := by
   rcases Classical.em (xs = []) with h | h
   ·
    exact h
   ·
    obtain ⟨b, off, h1, _⟩ := hx.cells h
    cases h1
  subst hy
  clear hx
  have hq : ∀ w, (binOp .eql 25 (.slice none 0 cap) (.slice none 0 0)).run Try.prog w = .ok (.bool true) w := fun w => run_eqlN Try.underlying25 _ _ _ w
  go_enter Try.func88, Try.ntmps88
  go_wp2
  go_ret
  exact ⟨none, 0, rfl, OwnR.nil _ _, bw⟩
 | some ad =>
  have HX : Hid (∀ w', Below w.heap.size w w' → IsS 3 Mp.enc w' (some ad) cap xs) := H! (fun _ h => hx.later h)
  clear hx
  have HE : Hid (OwnR 55 3 Mp.enc (w.alloc (.cells #[] 55)) w.heap.size (some ⟨w.heap.size, 0, none⟩) 0 ([] : List Mp)) := H! ⟨by simp, Or.inr ⟨w.heap.size, 0, #[], rfl, Nat.le_refl _, heap_alloc_new w _, by simp, by simp [maxLen], by simp, by simp⟩⟩
  have hq : ∀ w, (binOp .eql 25 (.slice (some ad) xs.length cap) (.slice none 0 0)).run Try.prog w = .ok (.bool false) w := fun w => run_eqlN Try.underlying25 _ _ _ w
  go_enter Try.func88, Try.ntmps88
  go_wp2_with (at_builtin; refine wpList_append_rows (sz := 3) Try.underlying25 infoMap rfl (by omega) (by omega) (by rfl) _ _ (by rfl) w.heap.size (some ⟨w.heap.size, 0, none⟩) ad 0 cap [] xs (fun _ => rfl) (fun x u hu => by simp only [Mp.enc, List.mem_cons, List.not_mem_nil, or_false] at hu; rcases hu with rfl | rfl | rfl <;> rfl) (by rfl) (by rfl) HE.out (isS_flat (sz := 3) (fun _ => rfl) (by omega) (HX.out _ bw)) (by simpa using hl) (by go_size) ?_; intro r' cap' w1 hown1 hbw1; have HO1 := H! hown1; clear hown1)
  go_ret
  have hO := HO1.out
  rw [List.nil_append] at hO
  exact ⟨r', cap', rfl, hO, Below.trans ((Below.refl _ w).alloc (Nat.le_refl _) _) hbw1⟩
set_option maxRecDepth 100000 in
theorem cloneRw_any (r : Option Addr) (cap : Nat) (xs : List Rw) (w : World) (hx : IsS 1 Rw.enc w r cap xs) (hl : xs.length ≤ 549755813888) : Calls Try.prog 90 #[.slice r xs.length cap] w fun e w' => ∃ r' cap', e = .returned (.slice r' xs.length cap') ∧ OwnR 26 1 Rw.enc w' w.heap.size r' cap' xs ∧ Below w.heap.size w w' := by
 cases r with
 | none =>
  have hy : xs = [] := by
   rcases Classical.em (xs = []) with h | h
   ·
    exact h
   ·
    obtain ⟨b, off, h1, _⟩ := hx.cells h
    cases h1
  subst hy
  clear hx
  have hq : ∀ w, (binOp .eql 51 (.slice none 0 cap) (.slice none 0 0)).run Try.prog w = .ok (.bool true) w := fun w => run_eqlN Try.underlying51 _ _ _ w
  go_enter Try.func90, Try.ntmps90
  go_wp2
  go_ret
  exact ⟨none, 0, rfl, OwnR.nil _ _, bw⟩
 | some ad =>
  have HX : Hid (∀ w', Below w.heap.size w w' → IsS 1 Rw.enc w' (some ad) cap xs) := H! (fun _ h => hx.later h)
  clear hx
  have HE : Hid (OwnR 26 1 Rw.enc (w.alloc (.cells #[] 26)) w.heap.size (some ⟨w.heap.size, 0, none⟩) 0 ([] : List Rw)) := H! ⟨by simp, Or.inr ⟨w.heap.size, 0, #[], rfl, Nat.le_refl _, heap_alloc_new w _, by simp, by simp [maxLen], by simp, by simp⟩⟩
  have hq : ∀ w, (binOp .eql 51 (.slice (some ad) xs.length cap) (.slice none 0 0)).run Try.prog w = .ok (.bool false) w := fun w => run_eqlN Try.underlying51 _ _ _ w
  go_enter Try.func90, Try.ntmps90
  go_wp2_with (at_builtin; refine wpList_append_rows (sz := 1) Try.underlying51 infoRow rfl (by omega) (by omega) (by rfl) _ _ (by rfl) w.heap.size (some ⟨w.heap.size, 0, none⟩) ad 0 cap [] xs (fun _ => rfl) (fun x u hu => by simp only [Rw.enc, List.mem_cons, List.not_mem_nil, or_false] at hu; rcases hu with rfl; rfl) (by rfl) (by rfl) HE.out (isS_flat (sz := 1) (fun _ => rfl) (by omega) (HX.out _ bw)) (by simpa using hl) (by go_size) ?_; intro r' cap' w1 hown1 hbw1; have HO1 := H! hown1; clear hown1)
  go_ret
  have hO := HO1.out
  rw [List.nil_append] at hO
  exact ⟨r', cap', rfl, hO, Below.trans ((Below.refl _ w).alloc (Nat.le_refl _) _) hbw1⟩
def OwnF (D : Nat) (W : World) (F : List (Nat × List Value)) : Prop := (F.map Prod.fst).Nodup ∧ ∀ p ∈ F, D ≤ p.1 ∧ p.1 < W.heap.size ∧ AtV W p.1 p.2
theorem OwnF.nil (D : Nat) (W : World) : OwnF D W [] := ⟨by simp, by simp⟩
theorem OwnF.below {D : Nat} {W W' : World} {F : List (Nat × List Value)} (h : OwnF D W F) (hb : Below W.heap.size W W') : OwnF D W' F :=
 ⟨h.1, fun p hp => ⟨(h.2 p hp).1, Nat.lt_of_lt_of_le (h.2 p hp).2.1 hb.size, (h.2 p hp).2.2.keep (hb.block _ (h.2 p hp).2.1)⟩⟩
theorem OwnF.base {D D' : Nat} {W : World} {F : List (Nat × List Value)} (h : OwnF D W F) (hD : D' ≤ D) : OwnF D' W F := ⟨h.1, fun p hp => ⟨Nat.le_trans hD (h.2 p hp).1, (h.2 p hp).2⟩⟩
theorem OwnF.perm {D : Nat} {W : World} {F F' : List (Nat × List Value)} (h : OwnF D W F) (hp : F.Perm F') : OwnF D W F' :=
 ⟨(hp.map Prod.fst).nodup_iff.1 h.1, fun p hq => h.2 p (hp.mem_iff.2 hq)⟩
theorem OwnF.sub {D : Nat} {W : World} {F F' : List (Nat × List Value)} (h : OwnF D W F) (hs : F'.Sublist F) : OwnF D W F' :=
 ⟨h.1.sublist (hs.map Prod.fst), fun p hp => h.2 p (hs.subset hp)⟩
theorem OwnF.get {D : Nat} {W : World} {F : List (Nat × List Value)} (h : OwnF D W F) {b : Nat} {l : List Value} (hp : (b, l) ∈ F) : D ≤ b ∧ b < W.heap.size ∧ AtV W b l := h.2 _ hp
theorem OwnF.add {D : Nat} {W W' : World} {F : List (Nat × List Value)} (h : OwnF D W F) (hb : Below W.heap.size W W') {b : Nat} {l : List Value} (hD : D ≤ W.heap.size) (h1 : W.heap.size ≤ b) (h2 : b < W'.heap.size) (ha : AtV W' b l) : OwnF D W' (F ++ [(b, l)]) := by
 have h' := h.below hb
 refine ⟨?_, fun p hp => ?_⟩
 ·
  rw [List.map_append, List.nodup_append]
  refine ⟨h.1, by simp, fun x hx y hy => ?_⟩
  obtain ⟨p, hp, rfl⟩ := List.mem_map.1 hx
  have := (h.2 p hp).2.1
  simp at hy
  omega
 ·
  rcases List.mem_append.1 hp with hp | hp
  ·
   exact h'.2 p hp
  ·
   obtain rfl : p = (b, l) := by simpa using hp
   exact ⟨Nat.le_trans hD h1, h2, ha⟩
theorem OwnF.set {D : Nat} {W : World} {F1 F2 : List (Nat × List Value)} {b : Nat} {l : List Value} (h : OwnF D W (F1 ++ (b, l) :: F2)) {i : Nat} (hi : i < l.length) (v : Value) : OwnF D (W.setCell ⟨b, i, none⟩ v) (F1 ++ (b, l.set i v) :: F2) := by
 have hn := h.1
 refine ⟨by simpa using hn, fun p hp => ?_⟩
 rw [zS]
 have hoth : ∀ q, q ∈ F1 ∨ q ∈ F2 → D ≤ q.1 ∧ q.1 < W.heap.size ∧ AtV (W.setCell ⟨b, i, none⟩ v) q.1 q.2 := fun q hq => by
  have hm : q ∈ F1 ++ (b, l) :: F2 := by rcases hq with hq | hq <;> simp [hq]
  obtain ⟨h1, h2, h3⟩ := h.2 q hm
  have hne : q.1 ≠ b := by
   intro e
   simp only [List.map_append, List.map_cons, List.nodup_append, List.nodup_cons] at hn
   rcases hq with hq | hq
   ·
    exact hn.2.2 q.1 (List.mem_map_of_mem hq) b (by simp) e
   ·
    exact hn.2.1.1 (by rw [← e]; exact List.mem_map_of_mem hq)
  exact ⟨h1, h2, h3.keep (Below.heap_setCell _ _ _ _ hne)⟩
 rcases List.mem_append.1 hp with hp | hp
 ·
  exact hoth p (.inl hp)
 ·
  rcases List.mem_cons.1 hp with rfl | hp
  ·
   obtain ⟨h1, h2, h3⟩ := h.2 (b, l) (by simp)
   exact ⟨h1, h2, h3.set hi v⟩
  ·
   exact hoth p (.inr hp)
theorem flatE_at {α : Type} {enc : α → List Value} {sz : Nat} (henc : ∀ x, (enc x).length = sz) {ys : List α} {i j : Nat} {x : α} {u : Value} (hi : ys[i]? = some x) (hj : (enc x)[j]? = some u) : (ys.flatMap enc)[i * sz + j]? = some u := by
 induction ys generalizing i with
 | nil => simp at hi
 | cons y ys ih =>
  rw [List.flatMap_cons]
  have hjl : j < sz := by
   rcases Nat.lt_or_ge j sz with h | h
   ·
    exact h
   ·
    rw [List.getElem?_eq_none (by rw [henc]; exact h)] at hj; cases hj
  cases i with
  | zero =>
   obtain rfl : y = x := by simpa using hi
   rw [Nat.zero_mul, Nat.zero_add, List.getElem?_append_left (by rw [henc]; exact hjl)]
   exact hj
  | succ i =>
   rw [List.getElem?_append_right (by rw [henc, Nat.succ_mul]; omega), henc, Nat.succ_mul, show i * sz + sz + j - sz = i * sz + j by omega]
   exact ih (by simpa using hi)
def fr1 (r : Option Addr) (cells : List Value) : List (Nat × List Value) := match r with
 | none => []
 | some a => [(a.block, cells)]
structure SlF (r : Option Addr) (c n : Nat) : Prop where
 le : n ≤ c
 max : c ≤ maxLen
 none_ : r = none → n = 0
 some_ : ∀ a, r = some a → a = ⟨a.block, 0, none⟩
theorem OwnF.ints {D : Nat} {W : World} {F : List (Nat × List Value)} (h : OwnF D W F) {r : Option Addr} {c : Nat} {xs : List Int} (hs : SlF r c xs.length) (hw : ∀ x ∈ xs, I64 x) (hF : ∀ p ∈ fr1 r (xs.map (Value.int .i64)), p ∈ F) : IsInts W r c .i64 xs :=
 ⟨hs.le, hs.max, fun x hx => hw x hx, fun hne => by
  cases r with
  | none => exact absurd (hs.none_ rfl) (by simpa using hne)
  | some a =>
   obtain ⟨h1, h2, h3⟩ := h.2 (a.block, xs.map (Value.int .i64)) (hF _ (by simp [fr1]))
   refine ⟨a.block, 0, by rw [← hs.some_ a rfl], h2, fun i hi => ?_⟩
   rw [Nat.zero_add]
   refine (h3 i _ ?_).1
   simp [List.getElem?_map, List.getD, List.getElem?_eq_getElem hi]⟩
theorem OwnF.isS {α : Type} {sz : Nat} {enc : α → List Value} {D : Nat} {W : World} {F : List (Nat × List Value)} (h : OwnF D W F) (henc : ∀ x, (enc x).length = sz) {r : Option Addr} {c : Nat} {xs : List α} (hs : SlF r c xs.length) (hF : ∀ p ∈ fr1 r (xs.flatMap enc), p ∈ F) : IsS sz enc W r c xs :=
 ⟨hs.le, hs.max, fun hne => by
  cases r with
  | none => exact absurd (hs.none_ rfl) (by simpa using hne)
  | some a =>
   obtain ⟨h1, h2, h3⟩ := h.2 (a.block, xs.flatMap enc) (hF _ (by simp [fr1]))
   refine ⟨a.block, 0, by rw [← hs.some_ a rfl], h2, fun i x hi j u hj => ?_⟩
   rw [Nat.zero_add]
   refine (h3 (i * sz + j) _ ?_).1
   exact flatE_at henc hi hj⟩
theorem ownK_fr {k : IntKind} {te : TypeId} {W : World} {base : Nat} {r : Option Addr} {c : Nat} {xs : List Int} (h : OwnK k te W base r c xs) : SlF r c xs.length ∧ ∀ p ∈ fr1 r (xs.map (Value.int k)), base ≤ p.1 ∧ p.1 < W.heap.size ∧ AtV W p.1 p.2 := by
 have hle := h.le
 rcases h.2 with ⟨h1, h2⟩ | ⟨g, c', cur, h1, h3, h4, h5, h6, h7, h8⟩
 ·
  simp only [Value.slice.injEq] at h1
  obtain ⟨rfl, _, rfl⟩ := h1
  exact ⟨⟨hle, Nat.zero_le _, fun _ => h2, fun a ha => (by cases ha)⟩, by simp [fr1]⟩
 ·
  simp only [Value.slice.injEq] at h1
  obtain ⟨rfl, _, rfl⟩ := h1
  refine ⟨⟨hle, h6, fun e => (by cases e), fun a ha => (by cases ha; rfl)⟩, fun p hp => ?_⟩
  obtain rfl : p = (g, xs.map (Value.int k)) := by simpa [fr1] using hp
  refine ⟨h3, (h.lt _ rfl).2, fun i v hi => ?_⟩
  rw [List.getElem?_map] at hi
  have hlt : i < xs.length := by
   rcases Nat.lt_or_ge i xs.length with hh | hh
   ·
    exact hh
   ·
    rw [List.getElem?_eq_none hh] at hi; cases hi
  obtain ⟨g', e1, _, _, e2, e3, _⟩ := h.at_ hlt
  obtain rfl : g = g' := by simpa using e1
  rw [List.getElem?_eq_getElem hlt] at hi
  refine ⟨?_, e3⟩
  rw [e2, ← hi]
  simp [List.getD, List.getElem?_eq_getElem hlt]
theorem ownR_fr {α : Type} {t : TypeId} {sz : Nat} {enc : α → List Value} (henc : ∀ x, (enc x).length = sz) {W : World} {base : Nat} {r : Option Addr} {c : Nat} {xs : List α} (h : OwnR t sz enc W base r c xs) : SlF r c xs.length ∧ ∀ p ∈ fr1 r (xs.flatMap enc), base ≤ p.1 ∧ p.1 < W.heap.size ∧ AtV W p.1 p.2 := by
 rcases h.2 with ⟨h1, h2⟩ | ⟨g, c', cur, h1, h3, h4, h5, h6, h7, h8⟩
 ·
  simp only [Value.slice.injEq] at h1
  obtain ⟨rfl, _, rfl⟩ := h1
  exact ⟨⟨Nat.le_of_eq h2, Nat.zero_le _, fun _ => h2, fun a ha => (by cases ha)⟩, by simp [fr1]⟩
 ·
  simp only [Value.slice.injEq] at h1
  obtain ⟨rfl, _, rfl⟩ := h1
  refine ⟨⟨h5, h6, fun e => (by cases e), fun a ha => (by cases ha; rfl)⟩, fun p hp => ?_⟩
  obtain rfl : p = (g, xs.flatMap enc) := by simpa [fr1] using hp
  refine ⟨h3, (h.lt _ rfl).2, fun i v hi => ?_⟩
  have hlt : i < (xs.flatMap enc).length := by
   rcases Nat.lt_or_ge i (xs.flatMap enc).length with hh | hh
   ·
    exact hh
   ·
    rw [List.getElem?_eq_none hh] at hi; cases hi
  rw [flat_len henc] at hlt
  have hc := World.ownsRow.cellAt (w := W) (base := base) (e := t) (size := sz) (g := g) (n := xs.length) (cap := c) (xs := xs.flatMap enc) h i hlt
  exact ⟨hc.trans hi, World.ownsRow.frozenAt (w := W) h i⟩
theorem OwnF.addF {D : Nat} {W W' : World} {F G : List (Nat × List Value)} (h : OwnF D W F) (hb : Below W.heap.size W W') (hD : D ≤ W.heap.size) (hG : OwnF W.heap.size W' G) : OwnF D W' (F ++ G) := by
 have h' := h.below hb
 refine ⟨?_, fun p hp => ?_⟩
 ·
  rw [List.map_append, List.nodup_append]
  refine ⟨h'.1, hG.1, fun a ha b hb' heq => ?_⟩
  obtain ⟨p, hp, rfl⟩ := List.mem_map.1 ha
  obtain ⟨q, hq, rfl⟩ := List.mem_map.1 hb'
  have h1 := (h.2 p hp).2.1
  have h2 := (hG.2 q hq).1
  omega
 ·
  rcases List.mem_append.1 hp with hp | hp
  ·
   exact h'.2 p hp
  ·
   exact ⟨Nat.le_trans hD (hG.2 p hp).1, (hG.2 p hp).2⟩
theorem OwnF.fr {D : Nat} {W : World} {r : Option Addr} {l : List Value} (h : ∀ p ∈ fr1 r l, D ≤ p.1 ∧ p.1 < W.heap.size ∧ AtV W p.1 p.2) : OwnF D W (fr1 r l) := by
 refine ⟨?_, h⟩
 cases r with
 | none => simp [fr1]
 | some a => simp [fr1]
section
open Go.Deep
structure Mr where
 rx : Option Addr
 cx : Nat
 X : List Int
 ry : Option Addr
 cy : Nat
 Y : List Int
 rz : Option Addr
 cz : Nat
 rows : List Rw
instance : Inhabited Mr := ⟨⟨none, 0, [], none, 0, [], none, 0, []⟩⟩
def Mr.m (m : Mr) : Mp := ⟨m.rx, m.cx, m.X, m.ry, m.cy, m.Y, m.rz, m.cz, m.rows.map Rw.l⟩
def Mr.enc (m : Mr) : List Value := [.slice m.rx m.X.length m.cx, .slice m.ry m.Y.length m.cy, .slice m.rz m.rows.length m.cz]
theorem Mr.enc_m (m : Mr) : m.m.enc = m.enc := by simp [Mp.enc, Mr.m, Mr.enc]
theorem mq_flat (l : List Mr) : (l.map Mr.m).flatMap Mp.enc = l.flatMap Mr.enc := by
 induction l with
 | nil => rfl
 | cons m l ih => rw [List.map_cons, List.flatMap_cons, List.flatMap_cons, ih, Mr.enc_m]
structure PL where
 rc : Option Addr
 cc : Nat
 code : List Ins
 rt : Option Addr
 ct : Nat
 types : List Fx
 rv : Option Addr
 cv : Nat
 curves : List Cv
 rm : Option Addr
 cm : Nat
 maps : List Mr
 cells : Int
 ri : Option Addr
 ci : Nat
 inputs : List Int
 rs : Option Addr
 cs : Nat
 states : List Int
 ro : Option Addr
 co : Nat
 outputs : List Int
 rn : Option Addr
 cn : Nat
 initial : List Int
def PL.v (p : PL) : PV := ⟨p.rc, p.cc, p.code, p.rt, p.ct, p.types, p.rv, p.cv, p.curves, p.rm, p.cm, p.maps.map Mr.m, p.cells, p.ri, p.ci, p.inputs, p.rs, p.cs, p.states, p.ro, p.co, p.outputs, p.rn, p.cn, p.initial⟩
def Mr.ok (W : World) (m : Mr) : Prop := IsInts W m.rx m.cx .i64 m.X ∧ IsInts W m.ry m.cy .i64 m.Y ∧ IsS 1 Rw.enc W m.rz m.cz m.rows ∧ ∀ x ∈ m.rows, IsInts W x.r x.c .i64 x.l
theorem Mr.ok.later {W W' : World} {m : Mr} (h : m.ok W) (hb : Below W.heap.size W W') : m.ok W' := ⟨h.1.later hb, h.2.1.later hb, h.2.2.1.later hb, fun x hx => (h.2.2.2 x hx).later hb⟩
structure IsL (W : World) (p : PL) : Prop where
 code : IsS 5 Ins.enc W p.rc p.cc p.code
 codeG : ∀ x ∈ p.code, x.ok
 types : IsS 10 Fx.enc W p.rt p.ct p.types
 typesG : ∀ x ∈ p.types, x.ok
 curves : IsS 2 Cv.enc W p.rv p.cv p.curves
 curvesG : ∀ x ∈ p.curves, x.ok W
 maps : IsS 3 Mr.enc W p.rm p.cm p.maps
 mapsG : ∀ x ∈ p.maps, x.ok W
 cells : I64 p.cells
 inputs : IsInts W p.ri p.ci .i64 p.inputs
 states : IsInts W p.rs p.cs .i64 p.states
 outputs : IsInts W p.ro p.co .i64 p.outputs
 initial : IsInts W p.rn p.cn .i64 p.initial
theorem IsL.later {W W' : World} {p : PL} (h : IsL W p) (hb : Below W.heap.size W W') : IsL W' p :=
 ⟨h.code.later hb, h.codeG, h.types.later hb, h.typesG, h.curves.later hb, fun x hx => (h.curvesG x hx).later hb, h.maps.later hb, fun x hx => (h.mapsG x hx).later hb, h.cells, h.inputs.later hb, h.states.later hb, h.outputs.later hb, h.initial.later hb⟩
theorem isS_map {α β : Type} {sz : Nat} {e1 : α → List Value} {e2 : β → List Value} {f : α → β} {W : World} {r : Option Addr} {c : Nat} {xs : List α} (he : ∀ x, e2 (f x) = e1 x) : IsS sz e1 W r c xs ↔ IsS sz e2 W r c (xs.map f) := by
 constructor
 ·
  intro h
  refine ⟨by rw [List.length_map]; exact h.le, h.max, fun hne => ?_⟩
  obtain ⟨b, off, h1, h2, h3⟩ := h.cells (fun e => hne (by rw [e]; rfl))
  refine ⟨b, off, h1, h2, fun i x hi j u hj => ?_⟩
  rw [List.getElem?_map] at hi
  cases hx : xs[i]? with
  | none => rw [hx] at hi; cases hi
  | some y =>
   rw [hx] at hi
   obtain rfl : f y = x := by simpa using hi
   rw [he] at hj
   exact h3 i y hx j u hj
 ·
  intro h
  have hle := h.le
  rw [List.length_map] at hle
  refine ⟨hle, h.max, fun hne => ?_⟩
  obtain ⟨b, off, h1, h2, h3⟩ := h.cells (fun e => hne (List.map_eq_nil_iff.1 e))
  refine ⟨b, off, h1, h2, fun i x hi j u hj => ?_⟩
  exact h3 i (f x) (by rw [List.getElem?_map, hi]; rfl) j u (by rw [he]; exact hj)
theorem rows_rw {W : World} {rz : Option Addr} {cz : Nat} {rows : List Rw} (h : IsS 1 Rw.enc W rz cz rows) (hx : ∀ x ∈ rows, IsInts W x.r x.c .i64 x.l) : IsRows W rz cz (rows.map Rw.l) := by
 refine ⟨by rw [List.length_map]; exact h.le, h.max, fun hne => ?_⟩
 obtain ⟨b, off, h1, h2, h3⟩ := h.cells (fun e => hne (by rw [e]; rfl))
 refine ⟨b, off, h1, h2, fun i hi => ?_⟩
 rw [List.length_map] at hi
 have e1 : rows[i]? = some (rows.getD i default) := getD_some hi
 have e2 : (rows.map Rw.l).getD i [] = (rows.getD i default).l := by
  simp [List.getD, List.getElem?_map, List.getElem?_eq_getElem hi]
 refine ⟨(rows.getD i default).r, (rows.getD i default).c, ?_, ?_⟩
 ·
  rw [e2]
  have := h3 i _ e1 0 _ rfl
  rwa [Nat.mul_one, Nat.add_zero] at this
 ·
  rw [e2]; exact hx _ (getD_mem_of hi)
theorem rw_rows {W : World} {rz : Option Addr} {cz : Nat} {Z : List (List Int)} (h : IsRows W rz cz Z) : ∃ rows : List Rw, rows.map Rw.l = Z ∧ IsS 1 Rw.enc W rz cz rows ∧ ∀ x ∈ rows, IsInts W x.r x.c .i64 x.l := by
 by_cases hne : Z = []
 ·
  subst hne
  exact ⟨[], rfl, ⟨h.le, h.max, fun e => absurd rfl e⟩, by simp⟩
 ·
  obtain ⟨b, off, h1, h2, h3⟩ := h.cells hne
  have h4 : ∀ i, i < Z.length → ∃ x : Rw, x.l = Z.getD i [] ∧ W.cell? ⟨b, off + i, none⟩ = some (.slice x.r x.l.length x.c) ∧ IsInts W x.r x.c .i64 x.l := fun i hi => by
   obtain ⟨r, c, h5, h6⟩ := h3 i hi
   exact ⟨⟨r, c, Z.getD i []⟩, rfl, h5, h6⟩
  obtain ⟨V, hV⟩ := choose_lt h4
  have hlen : ((List.range Z.length).map V).length = Z.length := by simp
  refine ⟨(List.range Z.length).map V, ?_, ⟨by rw [hlen]; exact h.le, h.max, fun _ => ⟨b, off, h1, h2, fun i x hi j u hj => ?_⟩⟩, fun x hx => ?_⟩
  ·
   refine List.ext_getElem (by simp) fun i hi1 hi2 => ?_
   simp only [List.getElem_map, List.getElem_range]
   rw [(hV i hi2).1]
   simp [List.getD, List.getElem?_eq_getElem hi2]
  ·
   rw [List.getElem?_map] at hi
   have hlt : i < Z.length := by
    rcases Nat.lt_or_ge i Z.length with h | h
    ·
     exact h
    ·
     rw [List.getElem?_eq_none (by simpa using h)] at hi; cases hi
   rw [List.getElem?_range hlt] at hi
   obtain rfl : V i = x := by simpa using hi
   cases j with
   | zero =>
    obtain rfl : _ = u := by simpa [Rw.enc] using hj
    rw [Nat.mul_one, Nat.add_zero]
    exact (hV i hlt).2.1
   | succ j => simp [Rw.enc] at hj
  ·
   obtain ⟨i, hi, rfl⟩ := List.mem_map.1 hx
   exact (hV i (List.mem_range.1 hi)).2.2
theorem IsL.isP {W : World} {p : PL} (h : IsL W p) : IsP W p.v :=
 ⟨h.code, h.codeG, h.types, h.typesG, h.curves, h.curvesG, (isS_map Mr.enc_m).1 h.maps, fun x hx => by
  obtain ⟨m, hm, rfl⟩ := List.mem_map.1 hx
  obtain ⟨h1, h2, h3, h4⟩ := h.mapsG m hm
  exact ⟨h1, h2, rows_rw h3 h4⟩, h.cells, h.inputs, h.states, h.outputs, h.initial⟩
theorem IsP.isL {W : World} {p : PV} (h : IsP W p) : ∃ q : PL, q.v = p ∧ IsL W q := by
 have h1 : ∃ l : List Mr, l.map Mr.m = p.maps ∧ ∀ x ∈ l, x.ok W := by
  have := h.mapsG
  generalize p.maps = ms at this
  clear h
  induction ms with
  | nil => exact ⟨[], rfl, by simp⟩
  | cons m ms ih =>
   obtain ⟨l, h1, h2⟩ := ih (fun x hx => this x (by simp [hx]))
   obtain ⟨h3, h4, h5⟩ := this m (by simp)
   obtain ⟨rows, h6, h7, h8⟩ := rw_rows h5
   refine ⟨⟨m.rx, m.cx, m.X, m.ry, m.cy, m.Y, m.rz, m.cz, rows⟩ :: l, ?_, fun x hx => ?_⟩
   ·
    rw [List.map_cons, h1]
    simp [Mr.m, h6]
   ·
    rcases List.mem_cons.1 hx with rfl | hx
    ·
     exact ⟨h3, h4, h7, h8⟩
    ·
     exact h2 x hx
 obtain ⟨l, h1, h2⟩ := h1
 refine ⟨⟨p.rc, p.cc, p.code, p.rt, p.ct, p.types, p.rv, p.cv, p.curves, p.rm, p.cm, l, p.cells, p.ri, p.ci, p.inputs, p.rs, p.cs, p.states, p.ro, p.co, p.outputs, p.rn, p.cn, p.initial⟩, by simp [PL.v, h1], h.code, h.codeG, h.types, h.typesG, h.curves, h.curvesG, (isS_map Mr.enc_m).2 (by rw [h1]; exact h.maps), h2, h.cells, h.inputs, h.states, h.outputs, h.initial⟩
def Cv.frag (c : Cv) : List (Nat × List Value) := fr1 c.rx (c.X.map (Value.int .i64)) ++ fr1 c.ry (c.Y.map (Value.int .i64))
def Rw.frag (x : Rw) : List (Nat × List Value) := fr1 x.r (x.l.map (Value.int .i64))
def Mr.frag (m : Mr) : List (Nat × List Value) := fr1 m.rx (m.X.map (Value.int .i64)) ++ (fr1 m.ry (m.Y.map (Value.int .i64)) ++ (fr1 m.rz (m.rows.flatMap Rw.enc) ++ m.rows.flatMap Rw.frag))
def PL.frag (p : PL) : List (Nat × List Value) := fr1 p.rc (p.code.flatMap Ins.enc) ++ (fr1 p.rt (p.types.flatMap Fx.enc) ++ (fr1 p.rv (p.curves.flatMap Cv.enc) ++ (p.curves.flatMap Cv.frag ++ (fr1 p.rm (p.maps.flatMap Mr.enc) ++ (p.maps.flatMap Mr.frag ++
 (fr1 p.ri (p.inputs.map (Value.int .i64)) ++ (fr1 p.rs (p.states.map (Value.int .i64)) ++ (fr1 p.ro (p.outputs.map (Value.int .i64)) ++ fr1 p.rn (p.initial.map (Value.int .i64))))))))))
def I64s (l : List Int) : Prop := ∀ x ∈ l, I64 x
def Cv.sl (c : Cv) : Prop := (SlF c.rx c.cx c.X.length ∧ I64s c.X) ∧ SlF c.ry c.cy c.Y.length ∧ I64s c.Y
def Rw.sl (x : Rw) : Prop := SlF x.r x.c x.l.length ∧ I64s x.l
def Mr.sl (m : Mr) : Prop := (SlF m.rx m.cx m.X.length ∧ I64s m.X) ∧ (SlF m.ry m.cy m.Y.length ∧ I64s m.Y) ∧ SlF m.rz m.cz m.rows.length ∧ ∀ x ∈ m.rows, x.sl
structure PL.Sl (p : PL) : Prop where
 code : SlF p.rc p.cc p.code.length
 codeG : ∀ x ∈ p.code, x.ok
 types : SlF p.rt p.ct p.types.length
 typesG : ∀ x ∈ p.types, x.ok
 curves : SlF p.rv p.cv p.curves.length
 curvesG : ∀ x ∈ p.curves, x.sl
 maps : SlF p.rm p.cm p.maps.length
 mapsG : ∀ x ∈ p.maps, x.sl
 cells : I64 p.cells
 inputs : SlF p.ri p.ci p.inputs.length ∧ I64s p.inputs
 states : SlF p.rs p.cs p.states.length ∧ I64s p.states
 outputs : SlF p.ro p.co p.outputs.length ∧ I64s p.outputs
 initial : SlF p.rn p.cn p.initial.length ∧ I64s p.initial
def OwnP (D : Nat) (W : World) (p : PL) : Prop := OwnF D W p.frag ∧ p.Sl
theorem OwnP.below {D : Nat} {W W' : World} {p : PL} (h : OwnP D W p) (hb : Below W.heap.size W W') : OwnP D W' p := ⟨h.1.below hb, h.2⟩
theorem OwnP.isL {D : Nat} {W : World} {p : PL} (h : OwnP D W p) : IsL W p := by
 obtain ⟨h, s⟩ := h
 refine ⟨OwnF.isS (sz := 5) (enc := Ins.enc) h (fun _ => rfl) s.code (fun q hq => ?_), s.codeG, OwnF.isS (sz := 10) (enc := Fx.enc) h (fun _ => rfl) s.types (fun q hq => ?_), s.typesG, OwnF.isS (sz := 2) (enc := Cv.enc) h (fun _ => rfl) s.curves (fun q hq => ?_), fun x hx => ⟨h.ints (s.curvesG x hx).1.1 (s.curvesG x hx).1.2 (fun q hq => ?_), h.ints (s.curvesG x hx).2.1 (s.curvesG x hx).2.2 (fun q hq => ?_)⟩,
  OwnF.isS (sz := 3) (enc := Mr.enc) h (fun _ => rfl) s.maps (fun q hq => ?_), fun x hx => ⟨h.ints (s.mapsG x hx).1.1 (s.mapsG x hx).1.2 (fun q hq => ?_), h.ints (s.mapsG x hx).2.1.1 (s.mapsG x hx).2.1.2 (fun q hq => ?_), OwnF.isS (sz := 1) (enc := Rw.enc) h (fun _ => rfl) (s.mapsG x hx).2.2.1 (fun q hq => ?_), fun y hy => h.ints ((s.mapsG x hx).2.2.2 y hy).1 ((s.mapsG x hx).2.2.2 y hy).2 (fun q hq => ?_)⟩, s.cells,
  h.ints s.inputs.1 s.inputs.2 (fun q hq => ?_), h.ints s.states.1 s.states.2 (fun q hq => ?_), h.ints s.outputs.1 s.outputs.2 (fun q hq => ?_), h.ints s.initial.1 s.initial.2 (fun q hq => ?_)⟩
 ·
  simp only [PL.frag, List.mem_append]; exact .inl hq
 ·
  simp only [PL.frag, List.mem_append]; exact .inr (.inl hq)
 ·
  simp only [PL.frag, List.mem_append]; exact .inr (.inr (.inl hq))
 ·
  simp only [PL.frag, List.mem_append]; exact .inr (.inr (.inr (.inl (List.mem_flatMap.2 ⟨x, hx, List.mem_append.2 (.inl hq)⟩))))
 ·
  simp only [PL.frag, List.mem_append]; exact .inr (.inr (.inr (.inl (List.mem_flatMap.2 ⟨x, hx, List.mem_append.2 (.inr hq)⟩))))
 ·
  simp only [PL.frag, List.mem_append]; exact .inr (.inr (.inr (.inr (.inl hq))))
 ·
  simp only [PL.frag, List.mem_append]; exact .inr (.inr (.inr (.inr (.inr (.inl (List.mem_flatMap.2 ⟨x, hx, List.mem_append.2 (.inl hq)⟩))))))
 ·
  simp only [PL.frag, List.mem_append]; exact .inr (.inr (.inr (.inr (.inr (.inl (List.mem_flatMap.2 ⟨x, hx, List.mem_append.2 (.inr (List.mem_append.2 (.inl hq)))⟩))))))
 ·
  simp only [PL.frag, List.mem_append]; exact .inr (.inr (.inr (.inr (.inr (.inl (List.mem_flatMap.2 ⟨x, hx, List.mem_append.2 (.inr (List.mem_append.2 (.inr (List.mem_append.2 (.inl hq)))))⟩))))))
 ·
  simp only [PL.frag, List.mem_append]; exact .inr (.inr (.inr (.inr (.inr (.inl (List.mem_flatMap.2 ⟨x, hx, List.mem_append.2 (.inr (List.mem_append.2 (.inr (List.mem_append.2 (.inr (List.mem_flatMap.2 ⟨y, hy, hq⟩))))))⟩))))))
 ·
  simp only [PL.frag, List.mem_append]; exact .inr (.inr (.inr (.inr (.inr (.inr (.inl hq))))))
 ·
  simp only [PL.frag, List.mem_append]; exact .inr (.inr (.inr (.inr (.inr (.inr (.inr (.inl hq)))))))
 ·
  simp only [PL.frag, List.mem_append]; exact .inr (.inr (.inr (.inr (.inr (.inr (.inr (.inr (.inl hq))))))))
 ·
  simp only [PL.frag, List.mem_append]; exact .inr (.inr (.inr (.inr (.inr (.inr (.inr (.inr (.inr hq))))))))
end
section
open Go.Deep
def setZ (l : List Int) (i v : Int) : List Int := if 0 ≤ i ∧ i < l.length then l.set i.toNat v else l
theorem setZ_len (l : List Int) (i v : Int) : (setZ l i v).length = l.length := by unfold setZ; split <;> simp
theorem setZ_out {l : List Int} {i v : Int} (h : ¬ (0 ≤ i ∧ i < l.length)) : setZ l i v = l := by unfold setZ; rw [if_neg h]
section
variable {α : Type}
def upd (n : α → Nat) (g : α → Int → Int → α) : List α → Int → Int → List α
 | [], _, _ => []
 | x :: xs, i, v => g x i v :: upd n g xs (i - n x) v
variable {n : α → Nat} {g : α → Int → Int → α} {par : α → List Int}
theorem upd_len (xs : List α) (i v : Int) : (upd n g xs i v).length = xs.length := by
 induction xs generalizing i with
 | nil => rfl
 | cons x xs ih => simp [upd, ih]
theorem upd_out (hg : ∀ x (i v : Int), ¬ (0 ≤ i ∧ i < n x) → g x i v = x) (xs : List α) (i v : Int) (h : ¬ (0 ≤ i ∧ i < (xs.map n).sum)) : upd n g xs i v = xs := by
 induction xs generalizing i with
 | nil => rfl
 | cons x xs ih =>
  rw [List.map_cons, List.sum_cons] at h
  rw [upd, hg x i v (by omega), ih _ (by omega)]
theorem upd_all {v : Int} {p : α → Prop} (hp : ∀ x i, p x → p (g x i v)) (xs : List α) (i : Int) (h : ∀ x ∈ xs, p x) : ∀ x ∈ upd n g xs i v, p x := by
 induction xs generalizing i with
 | nil => simp [upd]
 | cons y xs ih =>
  intro x hx
  rw [upd] at hx
  rcases List.mem_cons.1 hx with rfl | hx
  ·
   exact hp _ _ (h y (by simp))
  ·
   exact ih _ (fun x hx => h x (by simp [hx])) x hx
theorem upd_map {β : Type} {n2 : β → Nat} {g2 : β → Int → Int → β} {f : α → β} (hn : ∀ x, n2 (f x) = n x) (hg : ∀ x i v, f (g x i v) = g2 (f x) i v) (xs : List α) (i v : Int) : (upd n g xs i v).map f = upd n2 g2 (xs.map f) i v := by
 induction xs generalizing i with
 | nil => rfl
 | cons x xs ih => rw [upd, List.map_cons, List.map_cons, upd, ih, hg, hn]
theorem upd_flat {enc : α → List Value} (hg : ∀ x i v, enc (g x i v) = enc x) (xs : List α) (i v : Int) : (upd n g xs i v).flatMap enc = xs.flatMap enc := by
 induction xs generalizing i with
 | nil => rfl
 | cons x xs ih => rw [upd, List.flatMap_cons, List.flatMap_cons, ih, hg]
theorem sum_par (hn : ∀ x, n x = (par x).length) (xs : List α) : (xs.map n).sum = (xs.flatMap par).length := by
 induction xs with
 | nil => rfl
 | cons x xs ih => rw [List.map_cons, List.sum_cons, List.flatMap_cons, List.length_append, ih, hn]
end
def Ins.par (c : Ins) : List Int := if c.op = 1 then [c.k] else []
def Ins.num (c : Ins) : Nat := if c.op = 1 then 1 else 0
def Ins.put (c : Ins) (i v : Int) : Ins := if c.op = 1 ∧ i = 0 then { c with k := v } else c
theorem Ins.num_eq (c : Ins) : c.num = c.par.length := by unfold Ins.num Ins.par; split <;> rfl
theorem Ins.put_out (c : Ins) (i v : Int) (h : ¬ (0 ≤ i ∧ i < c.num)) : c.put i v = c := by
 unfold Ins.put
 unfold Ins.num at h
 rw [if_neg]
 rintro ⟨h1, rfl⟩
 rw [if_pos h1] at h
 omega
abbrev updI := upd Ins.num Ins.put
abbrev updN := upd (α := List Int) List.length setZ
abbrev updC := upd (α := List Int × List Int) (fun c => c.2.length) (fun c i v => (c.1, setZ c.2 i v))
abbrev updM := upd (α := List Int × List Int × List (List Int)) (fun m => m.2.2.flatten.length) (fun m i v => (m.1, m.2.1, updN m.2.2 i v))
def PP.parI (p : PP) : List Int := p.code.flatMap Ins.par
def PP.parC (p : PP) : List Int := p.curves.flatMap (fun c => c.2)
def PP.parM (p : PP) : List Int := p.maps.flatMap (fun m => m.2.2.flatten)
def PP.params (p : PP) : List Int := p.parI ++ (p.parC ++ p.parM)
def PP.patch (p : PP) (i v : Int) : PP := { p with code := updI p.code i v, curves := updC p.curves (i - p.parI.length) v, maps := updM p.maps (i - p.parI.length - p.parC.length) v }
def Cv.put (c : Cv) (i v : Int) : Cv := { c with Y := setZ c.Y i v }
def Rw.put (x : Rw) (i v : Int) : Rw := { x with l := setZ x.l i v }
def Mr.par (m : Mr) : List Int := m.rows.flatMap Rw.l
def Mr.put (m : Mr) (i v : Int) : Mr := { m with rows := upd (fun x => x.l.length) Rw.put m.rows i v }
def PL.parI (p : PL) : List Int := p.code.flatMap Ins.par
def PL.parC (p : PL) : List Int := p.curves.flatMap Cv.Y
def PL.parM (p : PL) : List Int := p.maps.flatMap Mr.par
def PL.params (p : PL) : List Int := p.parI ++ (p.parC ++ p.parM)
def PL.patch (p : PL) (i v : Int) : PL := { p with code := updI p.code i v, curves := upd (fun c => c.Y.length) Cv.put p.curves (i - p.parI.length) v, maps := upd (fun m => m.par.length) Mr.put p.maps (i - p.parI.length - p.parC.length) v }
theorem Mr.par_m (m : Mr) : m.m.p.2.2.flatten = m.par := by
 unfold Mr.m Mp.p Mr.par
 simp [List.flatMap_def]
theorem pl_parC (p : PL) : p.v.p.parC = p.parC := by
 unfold PP.parC PL.parC PV.p PL.v
 simp only [List.flatMap_map]
 rfl
theorem pl_parM (p : PL) : p.v.p.parM = p.parM := by
 unfold PP.parM PL.parM PV.p PL.v
 simp only [List.flatMap_map]
 congr 1
theorem pl_params (p : PL) : p.v.p.params = p.params := by
 unfold PP.params PL.params
 rw [pl_parC, pl_parM]
 rfl
theorem pl_patch (p : PL) (i v : Int) : (p.patch i v).v.p = p.v.p.patch i v := by
 have e1 := pl_parC p
 unfold PP.patch
 rw [e1]
 show PP.mk _ _ _ _ _ _ _ _ _ = PP.mk _ _ _ _ _ _ _ _ _
 congr 1
 ·
  show ((upd (fun c : Cv => c.Y.length) Cv.put p.curves _ v).map Cv.p) = updC (p.curves.map Cv.p) _ v
  exact upd_map (f := Cv.p) (n2 := fun c : List Int × List Int => c.2.length) (g2 := fun c i v => (c.1, setZ c.2 i v)) (fun _ => rfl) (fun _ _ _ => rfl) _ _ _
 ·
  show (((upd (fun m : Mr => m.par.length) Mr.put p.maps _ v).map Mr.m).map Mp.p) = updM ((p.maps.map Mr.m).map Mp.p) _ v
  rw [upd_map (f := Mr.m) (n2 := fun m : Mp => m.p.2.2.flatten.length) (g2 := fun m i v => { m with Z := updN m.Z i v }) (fun m => by rw [Mr.par_m]) (fun m i v => ?_)]
  ·
   exact upd_map (f := Mp.p) (n2 := fun m : List Int × List Int × List (List Int) => m.2.2.flatten.length) (g2 := fun m i v => (m.1, m.2.1, updN m.2.2 i v)) (fun _ => rfl) (fun _ _ _ => rfl) _ _ _
  ·
   unfold Mr.put Mr.m
   simp only [Mp.mk.injEq, true_and]
   exact upd_map (fun _ => rfl) (fun _ _ _ => rfl) _ _ _
def pa (r : Option Addr) (i : Nat) : Addr := match r with
 | some a => ⟨a.block, a.off + i, none⟩
 | none => ⟨0, i, none⟩
def codePl (r : Option Addr) (s : Nat) : List Ins → List Addr
 | [] => []
 | c :: cs => (if c.op = 1 then [pa r (s * 5 + 4)] else []) ++ codePl r (s + 1) cs
def rowPl (r : Option Addr) (s n : Nat) : List Addr := (List.range' s n).map (pa r)
def Cv.pl (c : Cv) : List Addr := rowPl c.ry 0 c.Y.length
def Rw.pl (x : Rw) : List Addr := rowPl x.r 0 x.l.length
def Mr.pl (m : Mr) : List Addr := m.rows.flatMap Rw.pl
def PL.places (p : PL) : List Addr := codePl p.rc 0 p.code ++ (p.curves.flatMap Cv.pl ++ p.maps.flatMap Mr.pl)
theorem rowPl_len (r : Option Addr) (s n : Nat) : (rowPl r s n).length = n := by simp [rowPl]
theorem codePl_len (r : Option Addr) (s : Nat) (cs : List Ins) : (codePl r s cs).length = (cs.flatMap Ins.par).length := by
 induction cs generalizing s with
 | nil => rfl
 | cons c cs ih =>
  rw [codePl, List.flatMap_cons, List.length_append, List.length_append, ih]
  unfold Ins.par
  split <;> rfl
theorem flat_lens {α β γ : Type} {f : α → List β} {g : α → List γ} (h : ∀ x, (f x).length = (g x).length) (xs : List α) : (xs.flatMap f).length = (xs.flatMap g).length := by
 induction xs with
 | nil => rfl
 | cons x xs ih => rw [List.flatMap_cons, List.flatMap_cons, List.length_append, List.length_append, h, ih]
theorem Mr.pl_len (m : Mr) : m.pl.length = m.par.length := flat_lens (fun x => rowPl_len _ _ _) _
theorem places_len (p : PL) : p.places.length = p.params.length := by
 unfold PL.places PL.params PL.parI PL.parC PL.parM
 simp only [List.length_append]
 rw [codePl_len, flat_lens (f := Cv.pl) (g := Cv.Y) (fun c => rowPl_len _ _ _), flat_lens Mr.pl_len]
def PlOK (W : World) (ps : List Addr) (xs : List Int) : Prop := ps.length = xs.length ∧ ∀ (k : Nat) a x, ps[k]? = some a → xs[k]? = some x → W.cell? a = some (.int .i64 x)
theorem PlOK.nil (W : World) : PlOK W [] [] := ⟨rfl, fun k a x h => by simp at h⟩
theorem PlOK.append {W : World} {ps bs : List Addr} {xs ys : List Int} (h : PlOK W ps xs) (k : PlOK W bs ys) : PlOK W (ps ++ bs) (xs ++ ys) := by
 refine ⟨by rw [List.length_append, List.length_append, h.1, k.1], fun i a x ha hx => ?_⟩
 by_cases hi : i < ps.length
 ·
  rw [List.getElem?_append_left hi] at ha
  rw [List.getElem?_append_left (by rw [← h.1]; exact hi)] at hx
  exact h.2 i a x ha hx
 ·
  rw [List.getElem?_append_right (by omega)] at ha
  rw [List.getElem?_append_right (by rw [← h.1]; omega), ← h.1] at hx
  exact k.2 _ a x ha hx
theorem PlOK.flat {α : Type} {W : World} {f : α → List Addr} {g : α → List Int} {xs : List α} (h : ∀ x ∈ xs, PlOK W (f x) (g x)) : PlOK W (xs.flatMap f) (xs.flatMap g) := by
 induction xs with
 | nil => exact PlOK.nil W
 | cons x xs ih =>
  rw [List.flatMap_cons, List.flatMap_cons]
  exact (h x (by simp)).append (ih fun y hy => h y (by simp [hy]))
theorem rowPl_ok {W : World} {r : Option Addr} {c : Nat} {xs : List Int} (h : IsInts W r c .i64 xs) : PlOK W (rowPl r 0 xs.length) xs := by
 refine ⟨rowPl_len _ _ _, fun k a x ha hx => ?_⟩
 have hk : k < xs.length := by
  rcases Nat.lt_or_ge k xs.length with hh | hh
  ·
   exact hh
  ·
   rw [List.getElem?_eq_none hh] at hx; cases hx
 obtain ⟨b, off, rfl, _, h3⟩ := h.cells (fun e => by subst e; simp at hk)
 have := h3 k hk
 rw [List.getD_eq_getElem?_getD, hx] at this
 simp only [rowPl, List.getElem?_map, List.getElem?_range' hk] at ha
 simp [pa] at ha
 subst ha
 simpa using this
theorem codePl_ok {W : World} {r : Option Addr} {c : Nat} {cs : List Ins} (h : IsS 5 Ins.enc W r c cs) : PlOK W (codePl r 0 cs) (cs.flatMap Ins.par) := by
 have hg : ∀ (done todo : List Ins), cs = done ++ todo → PlOK W (codePl r done.length todo) (todo.flatMap Ins.par) := by
  intro done todo
  induction todo generalizing done with
  | nil => intro _; exact PlOK.nil W
  | cons x xs ih =>
   intro e
   have h1 := ih (done ++ [x]) (by rw [e]; simp)
   rw [List.length_append, List.length_singleton] at h1
   rw [codePl, List.flatMap_cons]
   refine PlOK.append ?_ h1
   unfold Ins.par
   by_cases ho : x.op = 1
   ·
    rw [if_pos ho, if_pos ho]
    refine ⟨rfl, fun k a y ha hy => ?_⟩
    cases k with
    | succ k => simp at ha
    | zero =>
     simp at ha hy
     subst ha hy
     obtain ⟨b, off, rfl, _, h3⟩ := h.cells (fun e2 => by rw [e2] at e; simp at e)
     have := h3 done.length x (by rw [e]; simp) 4 _ rfl
     simp only [pa]
     rw [← Nat.add_assoc]
     exact this
   ·
    rw [if_neg ho, if_neg ho]
    exact PlOK.nil W
 exact hg [] cs rfl
theorem IsL.places {W : World} {p : PL} (h : IsL W p) : PlOK W p.places p.params :=
 (codePl_ok h.code).append ((PlOK.flat fun c hc => rowPl_ok (h.curvesG c hc).2).append (PlOK.flat fun m hm => PlOK.flat fun x hx => rowPl_ok ((h.mapsG m hm).2.2.2 x hx)))
def Upd (F F' : List (Nat × List Value)) (a : Addr) (v : Value) : Prop := ∃ F1 b l F2 j, F = F1 ++ (b, l) :: F2 ∧ F' = F1 ++ (b, l.set j v) :: F2 ∧ j < l.length ∧ a = ⟨b, j, none⟩
theorem Upd.left {F F' : List (Nat × List Value)} {a : Addr} {v : Value} (G : List (Nat × List Value)) (h : Upd F F' a v) : Upd (G ++ F) (G ++ F') a v := by
 obtain ⟨F1, b, l, F2, j, rfl, rfl, h3, h4⟩ := h
 exact ⟨G ++ F1, b, l, F2, j, by simp, by simp, h3, h4⟩
theorem Upd.right {F F' : List (Nat × List Value)} {a : Addr} {v : Value} (G : List (Nat × List Value)) (h : Upd F F' a v) : Upd (F ++ G) (F' ++ G) a v := by
 obtain ⟨F1, b, l, F2, j, rfl, rfl, h3, h4⟩ := h
 exact ⟨F1, b, l, F2 ++ G, j, by simp, by simp, h3, h4⟩
theorem OwnF.upd {D : Nat} {W : World} {F F' : List (Nat × List Value)} {a : Addr} {v : Value} (h : OwnF D W F) (hu : Upd F F' a v) : OwnF D (W.setCell a v) F' := by
 obtain ⟨F1, b, l, F2, j, rfl, rfl, h3, rfl⟩ := hu
 exact h.set h3 v
def Hit (pls : List Addr) (F F' : List (Nat × List Value)) (n : Nat) (i : Int) (V : Value) : Prop := pls.length = n ∧ (0 ≤ i ∧ i < n → ∃ a, pls[i.toNat]? = some a ∧ Upd F F' a V) ∧ (¬ (0 ≤ i ∧ i < n) → F' = F)
theorem Hit.append {p1 p2 : List Addr} {F1 F1' F2 F2' : List (Nat × List Value)} {n1 n2 : Nat} {i : Int} {V : Value} (h : Hit p1 F1 F1' n1 i V) (k : Hit p2 F2 F2' n2 (i - n1) V) : Hit (p1 ++ p2) (F1 ++ F2) (F1' ++ F2') (n1 + n2) i V := by
 obtain ⟨h1, h2, h3⟩ := h
 obtain ⟨k1, k2, k3⟩ := k
 refine ⟨by rw [List.length_append, h1, k1], fun hi => ?_, fun hi => ?_⟩
 ·
  by_cases hlt : i < n1
  ·
   obtain ⟨a, ha, hu⟩ := h2 ⟨hi.1, hlt⟩
   refine ⟨a, by rw [List.getElem?_append_left (by omega)]; exact ha, ?_⟩
   rw [k3 (by omega)]
   exact hu.right _
  ·
   obtain ⟨a, ha, hu⟩ := k2 (by omega)
   refine ⟨a, ?_, ?_⟩
   ·
    rw [List.getElem?_append_right (by omega), ← ha]
    congr 1
    omega
   ·
    rw [h3 (by omega)]
    exact hu.left _
 ·
  rw [h3 (by omega), k3 (by omega)]
theorem Hit.skip {p : List Addr} {F F' : List (Nat × List Value)} {n : Nat} {i : Int} {V : Value} (G : List (Nat × List Value)) (h : Hit p F F' n i V) : Hit p (G ++ F) (G ++ F') n i V :=
 ⟨h.1, fun hi => by obtain ⟨a, ha, hu⟩ := h.2.1 hi; exact ⟨a, ha, hu.left _⟩, fun hi => by rw [h.2.2 hi]⟩
theorem Hit.skipr {p : List Addr} {F F' : List (Nat × List Value)} {n : Nat} {i : Int} {V : Value} (G : List (Nat × List Value)) (h : Hit p F F' n i V) : Hit p (F ++ G) (F' ++ G) n i V :=
 ⟨h.1, fun hi => by obtain ⟨a, ha, hu⟩ := h.2.1 hi; exact ⟨a, ha, hu.right _⟩, fun hi => by rw [h.2.2 hi]⟩
theorem Hit.flat {α : Type} {n : α → Nat} {g : α → Int → Int → α} {pl : α → List Addr} {fr : α → List (Nat × List Value)} {v : Int} {V : Value} {xs : List α} (h : ∀ x ∈ xs, ∀ i, Hit (pl x) (fr x) (fr (g x i v)) (n x) i V) (i : Int) : Hit (xs.flatMap pl) (xs.flatMap fr) ((upd n g xs i v).flatMap fr) (xs.map n).sum i V := by
 induction xs generalizing i with
 | nil => exact ⟨rfl, fun hi => by simp at hi; omega, fun _ => rfl⟩
 | cons x xs ih =>
  rw [List.flatMap_cons, List.flatMap_cons, upd, List.flatMap_cons, List.map_cons, List.sum_cons]
  exact (h x (by simp) i).append (ih (fun y hy => h y (by simp [hy])) _)
theorem map_setZ {l : List Int} {i v : Int} (h : 0 ≤ i ∧ i < l.length) : (setZ l i v).map (Value.int .i64) = (l.map (Value.int .i64)).set i.toNat (.int .i64 v) := by
 unfold setZ
 rw [if_pos h, List.map_set]
theorem hit_row {r : Option Addr} {c : Nat} {l : List Int} (hs : SlF r c l.length) (i v : Int) : Hit (rowPl r 0 l.length) (fr1 r (l.map (Value.int .i64))) (fr1 r ((setZ l i v).map (Value.int .i64))) l.length i (.int .i64 v) := by
 refine ⟨rowPl_len _ _ _, fun hi => ?_, fun hi => by rw [setZ_out hi]⟩
 cases r with
 | none => have := hs.none_ rfl; omega
 | some a =>
  have ha := hs.some_ a rfl
  refine ⟨⟨a.block, i.toNat, none⟩, ?_, [], a.block, l.map (Value.int .i64), [], i.toNat, rfl, by rw [map_setZ hi]; rfl, by simp; omega, rfl⟩
  have hlt : i.toNat < l.length := by omega
  simp only [rowPl, List.getElem?_map, List.getElem?_range' hlt, pa]
  rw [ha]
  simp [pa]
theorem code_upd (r : Option Addr) (cs : List Ins) (s : Nat) (i v : Int) (hi : 0 ≤ i ∧ i < (cs.flatMap Ins.par).length) : ∃ j, j < (cs.flatMap Ins.enc).length ∧ (codePl r s cs)[i.toNat]? = some (pa r (s * 5 + j)) ∧ (updI cs i v).flatMap Ins.enc = (cs.flatMap Ins.enc).set j (.int .i64 v) := by
 induction cs generalizing s i with
 | nil => simp at hi; omega
 | cons c cs ih =>
  rw [List.flatMap_cons, List.length_append] at hi
  have hc : (Ins.enc c).length = 5 := rfl
  by_cases ho : c.op = 1
  ·
   have hp : c.par = [c.k] := by unfold Ins.par; rw [if_pos ho]
   have hn : c.num = 1 := by unfold Ins.num; rw [if_pos ho]
   rw [hp] at hi
   by_cases h0 : i = 0
   ·
    subst h0
    refine ⟨4, by simp [Ins.enc], by simp [codePl, ho], ?_⟩
    rw [updI, upd, upd_out Ins.put_out _ _ _ (by rw [hn]; omega), List.flatMap_cons, List.flatMap_cons, List.set_append_left (h := by rw [hc]; omega)]
    congr 1
    unfold Ins.put
    rw [if_pos ⟨ho, rfl⟩]
    rfl
   ·
    obtain ⟨j, h1, h2, h3⟩ := ih (s + 1) (i - 1) (by simp only [List.length_cons, List.length_nil] at hi; omega)
    refine ⟨j + 5, by rw [List.flatMap_cons, List.length_append, hc]; omega, ?_, ?_⟩
    ·
     rw [codePl, if_pos ho, List.getElem?_append_right (by simp only [List.length_cons, List.length_nil]; omega), show i.toNat - [pa r (s * 5 + 4)].length = (i - 1).toNat by simp only [List.length_cons, List.length_nil]; omega, h2]
     congr 2
     omega
    ·
     have e : c.put i v = c := by unfold Ins.put; rw [if_neg (fun h => h0 h.2)]
     rw [updI, upd, hn, e, List.flatMap_cons, List.flatMap_cons, List.set_append_right (h := by rw [hc]; omega), hc, show j + 5 - 5 = j by omega]
     congr 1
  ·
   have hp : c.par = [] := by unfold Ins.par; rw [if_neg ho]
   have hn : c.num = 0 := by unfold Ins.num; rw [if_neg ho]
   rw [hp] at hi
   obtain ⟨j, h1, h2, h3⟩ := ih (s + 1) i (by simp only [List.length_nil] at hi; omega)
   refine ⟨j + 5, by rw [List.flatMap_cons, List.length_append, hc]; omega, ?_, ?_⟩
   ·
    rw [codePl, if_neg ho, List.nil_append, h2]
    congr 2
    omega
   ·
    have e : c.put i v = c := by unfold Ins.put; rw [if_neg (fun h => ho h.1)]
    rw [updI, upd, hn, e, List.flatMap_cons, List.flatMap_cons, List.set_append_right (h := by rw [hc]; omega), hc, show j + 5 - 5 = j by omega]
    congr 1
    rw [show i - ((0 : Nat) : Int) = i by omega]
    exact h3
theorem hit_code {r : Option Addr} {c : Nat} {cs : List Ins} (hs : SlF r c cs.length) (i v : Int) : Hit (codePl r 0 cs) (fr1 r (cs.flatMap Ins.enc)) (fr1 r ((updI cs i v).flatMap Ins.enc)) (cs.flatMap Ins.par).length i (.int .i64 v) := by
 refine ⟨codePl_len _ _ _, fun hi => ?_, fun hi => ?_⟩
 ·
  obtain ⟨j, h1, h2, h3⟩ := code_upd r cs 0 i v hi
  rw [h2, h3]
  cases r with
  | none =>
   have := hs.none_ rfl
   have : cs = [] := List.length_eq_zero_iff.1 this
   subst this
   simp at hi
   omega
  | some a =>
   have ha := hs.some_ a rfl
   refine ⟨_, rfl, [], a.block, _, [], j, rfl, rfl, h1, ?_⟩
   simp only [pa]
   rw [ha]
   simp
 ·
  rw [updI, upd_out Ins.put_out _ _ _ (by rw [sum_par Ins.num_eq]; exact hi)]
theorem cv_flat (cs : List Cv) (i v : Int) : (upd (fun c : Cv => c.Y.length) Cv.put cs i v).flatMap Cv.enc = cs.flatMap Cv.enc := upd_flat (fun c i v => by unfold Cv.put Cv.enc; simp [setZ_len]) _ _ _
theorem rw_flat (cs : List Rw) (i v : Int) : (upd (fun c : Rw => c.l.length) Rw.put cs i v).flatMap Rw.enc = cs.flatMap Rw.enc := upd_flat (fun c i v => by unfold Rw.put Rw.enc; simp [setZ_len]) _ _ _
theorem mqp_flat (cs : List Mr) (i v : Int) : (upd (fun c : Mr => c.par.length) Mr.put cs i v).flatMap Mr.enc = cs.flatMap Mr.enc := upd_flat (fun c i v => by unfold Mr.put Mr.enc; simp [upd_len]) _ _ _
theorem hit_cv {c : Cv} (hs : c.sl) (i v : Int) : Hit c.pl c.frag (c.put i v).frag c.Y.length i (.int .i64 v) := (hit_row hs.2.1 i v).skip _
theorem hit_rw {x : Rw} (hs : x.sl) (i v : Int) : Hit x.pl x.frag (x.put i v).frag x.l.length i (.int .i64 v) := hit_row hs.1 i v
theorem hit_mq {m : Mr} (hs : m.sl) (i v : Int) : Hit m.pl m.frag (m.put i v).frag m.par.length i (.int .i64 v) := by
 have h := Hit.flat (n := fun x : Rw => x.l.length) (g := Rw.put) (pl := Rw.pl) (fr := Rw.frag) (v := v) (V := .int .i64 v) (xs := m.rows) (fun x hx i => hit_rw (hs.2.2.2 x hx) i v) i
 rw [sum_par (par := Rw.l) (fun _ => rfl)] at h
 unfold Mr.frag
 refine Hit.skip _ (Hit.skip _ ?_)
 show Hit _ _ (fr1 m.rz ((upd (fun x : Rw => x.l.length) Rw.put m.rows i v).flatMap Rw.enc) ++ (upd (fun x : Rw => x.l.length) Rw.put m.rows i v).flatMap Rw.frag) _ _ _
 rw [rw_flat]
 exact h.skip _
theorem hit_pl {p : PL} (s : p.Sl) (i v : Int) : Hit p.places p.frag (p.patch i v).frag p.params.length i (.int .i64 v) := by
 have h1 := hit_code s.code i v
 have h2 := Hit.flat (n := fun x : Cv => x.Y.length) (g := Cv.put) (pl := Cv.pl) (fr := Cv.frag) (v := v) (V := .int .i64 v) (xs := p.curves) (fun x hx i => hit_cv (s.curvesG x hx) i v) (i - p.parI.length)
 have h3 := Hit.flat (n := fun x : Mr => x.par.length) (g := Mr.put) (pl := Mr.pl) (fr := Mr.frag) (v := v) (V := .int .i64 v) (xs := p.maps) (fun x hx i => hit_mq (s.mapsG x hx) i v) (i - p.parI.length - p.parC.length)
 rw [sum_par (par := Cv.Y) (fun _ => rfl)] at h2
 rw [sum_par (par := Mr.par) (fun _ => rfl)] at h3
 unfold PL.frag PL.params
 rw [List.length_append, List.length_append]
 show Hit _ _ (fr1 p.rc ((updI p.code i v).flatMap Ins.enc) ++ (fr1 p.rt (p.types.flatMap Fx.enc) ++ (fr1 p.rv ((upd (fun c : Cv => c.Y.length) Cv.put p.curves (i - p.parI.length) v).flatMap Cv.enc) ++ ((upd (fun c : Cv => c.Y.length) Cv.put p.curves (i - p.parI.length) v).flatMap Cv.frag ++ (fr1 p.rm ((upd (fun c : Mr => c.par.length) Mr.put p.maps (i - p.parI.length - p.parC.length) v).flatMap Mr.enc) ++ ((upd (fun c : Mr => c.par.length) Mr.put p.maps (i - p.parI.length - p.parC.length) v).flatMap Mr.frag ++ _)))))) _ _ _
 rw [cv_flat, mqp_flat]
 exact h1.append (Hit.skip _ (Hit.skip _ (h2.append (Hit.skip _ (h3.skipr _)))))
theorem setZ_all {l : List Int} {i v : Int} (h : I64s l) (hv : I64 v) : I64s (setZ l i v) := by
 intro x hx
 unfold setZ at hx
 split at hx
 ·
  rcases List.mem_or_eq_of_mem_set hx with hx | rfl
  ·
   exact h x hx
  ·
   exact hv
 ·
  exact h x hx
theorem Ins.put_ok {c : Ins} (i : Int) {v : Int} (hv : I64 v) (h : c.ok) : (c.put i v).ok := by
 unfold Ins.put
 split
 ·
  exact ⟨h.1, h.2.1, h.2.2.1, h.2.2.2.1, hv⟩
 ·
  exact h
theorem Cv.put_sl {c : Cv} (i : Int) {v : Int} (hv : I64 v) (h : c.sl) : (c.put i v).sl := ⟨h.1, by unfold Cv.put; rw [setZ_len]; exact h.2.1, setZ_all h.2.2 hv⟩
theorem Rw.put_sl {c : Rw} (i : Int) {v : Int} (hv : I64 v) (h : c.sl) : (c.put i v).sl := ⟨by unfold Rw.put; rw [setZ_len]; exact h.1, setZ_all h.2 hv⟩
theorem Mr.put_sl {c : Mr} (i : Int) {v : Int} (hv : I64 v) (h : c.sl) : (c.put i v).sl := ⟨h.1, h.2.1, by unfold Mr.put; rw [upd_len]; exact h.2.2.1, upd_all (fun x i hx => Rw.put_sl i hv hx) _ _ h.2.2.2⟩
theorem PL.Sl.patch {p : PL} (s : p.Sl) (i : Int) {v : Int} (hv : I64 v) : (p.patch i v).Sl :=
 ⟨by unfold PL.patch; simp only [upd_len]; exact s.code, upd_all (fun x i hx => Ins.put_ok i hv hx) _ _ s.codeG, s.types, s.typesG, by unfold PL.patch; simp only [upd_len]; exact s.curves, upd_all (fun x i hx => Cv.put_sl i hv hx) _ _ s.curvesG, by unfold PL.patch; simp only [upd_len]; exact s.maps, upd_all (fun x i hx => Mr.put_sl i hv hx) _ _ s.mapsG, s.cells, s.inputs, s.states, s.outputs, s.initial⟩
theorem OwnP.patch {D : Nat} {W : World} {p : PL} (h : OwnP D W p) {i : Nat} {a : Addr} (ha : p.places[i]? = some a) {v : Int} (hv : I64 v) : OwnP D (W.setCell a (.int .i64 v)) (p.patch i v) := by
 have hi : i < p.places.length := by
  rcases Nat.lt_or_ge i p.places.length with hh | hh
  ·
   exact hh
  ·
   rw [List.getElem?_eq_none hh] at ha; cases ha
 rw [places_len] at hi
 obtain ⟨a', h1, h2⟩ := (hit_pl h.2 (i : Int) v).2.1 ⟨by omega, by omega⟩
 rw [Int.toNat_natCast, ha] at h1
 obtain rfl : a = a' := by simpa using h1
 exact ⟨h.1.upd h2, h.2.patch _ hv⟩
theorem OwnP.place {D : Nat} {W : World} {p : PL} (h : OwnP D W p) {i : Nat} {a : Addr} (ha : p.places[i]? = some a) : D ≤ a.block ∧ a.block < W.heap.size ∧ a.spot = none ∧ W.frozen? a = false ∧ W.cell? a = some (.int .i64 (p.params.getD i 0)) := by
 have hi : i < p.places.length := by
  rcases Nat.lt_or_ge i p.places.length with hh | hh
  ·
   exact hh
  ·
   rw [List.getElem?_eq_none hh] at ha; cases ha
 rw [places_len] at hi
 obtain ⟨a', h1, F1, b, l, F2, j, h2, h3, h4, h5⟩ := (hit_pl h.2 (i : Int) 0).2.1 ⟨by omega, by omega⟩
 rw [Int.toNat_natCast, ha] at h1
 obtain rfl : a = a' := by simpa using h1
 subst h5
 obtain ⟨k1, k2, k3⟩ := h.1.2 (b, l) (by rw [h2]; simp)
 refine ⟨k1, k2, rfl, (k3 j _ (List.getElem?_eq_getElem h4)).2, h.isL.places.2 i _ _ ha ?_⟩
 rw [List.getD_eq_getElem?_getD, List.getElem?_eq_getElem hi]
 rfl
end
end Go.Proofs.Ytfooefiaenlhmaa
