/- Appending a list of integers to an owned one; slices.Grow of nil, slices.Concat of two lists of integers. No statement about the program. -/
import Derived.Test.YtjkdekblenlflaaOwn
import Derived.Maps.AppendAt
import Derived.Lib.AppendZeros
import Derived.Deep.LoopGhost
namespace Go.Proofs.Ytjkdekblenlflaa
set_option linter.unusedVariables false
set_option linter.unusedSimpArgs false
open Go.RowKit Go.ChangeShapes Go.WideShapes Go.ChangeAt

theorem OwnI.le {W : World} {base : Nat} {r : Option Addr} {cap : Nat} {xs : List Int} (h : OwnI W base r cap xs) : xs.length ≤ cap := by
  rcases h.2 with ⟨h1, h3⟩ | ⟨g, c, cur, h1, h3, h4, h5, h6, h7, h8⟩
  · omega
  · simp only [Value.slice.injEq] at h1
    omega
theorem run_append_none {t e : TypeId} (ty : TypeId) (i : TypeInfo) (ht : Try.prog.underlying t = some (.slice e)) (hi : Try.prog.info? e = some i) (w : World) (r : Option Addr) (len cap c : Nat) (hl : len ≤ cap) :
    (Builtin.append_ #[t, t] ty #[.slice r len cap, .slice none 0 c]).run Try.prog w = .ok (.slice r len cap) w := by
  cases r <;> simp [Builtin.append_, run_underlying ht, sizeOf, typeInfo, hi, Builtin.lenOf, hl, Builtin.firstCells, storeCells]

theorem wpList_append_ints {ops : Array Oper} {rest : List Oper} {o : Oper} {a : Act} {Q : Exit → Act → World → Prop} {w : World} (hgd : o.guard = none) (s x : Operand)
    (ho : o.op = .call { callee := .builtin .append, args := #[s, x], argTypes := #[36, 36] }) (base : Nat) (r r2 : Option Addr) (cap c2 : Nat) (xs ys : List Int)
    (hs : a.eval s = .slice r xs.length cap) (hx : a.eval x = .slice r2 ys.length c2) (hown : OwnI w base r cap xs) (hys : IsInts w r2 c2 .i64 ys) (hl : xs.length + ys.length ≤ 1099511627776) (hb : base ≤ w.heap.size)
    (h : ∀ r' cap' w', OwnI w' base r' cap' (xs ++ ys) → Below base w w' → wpList Try.prog ops Q rest (a.put o.dst (.slice r' (xs ++ ys).length cap')) w') : wpList Try.prog ops Q (o :: rest) a w := by
  obtain ⟨i0, hi, hz0, hz1, hz2⟩ := info_parts infoInt
  cases r2 with
  | none =>
    have hy : ys = [] := by
      rcases Classical.em (ys = []) with h | h
      · exact h
      · obtain ⟨b, off, h1, _⟩ := hys.cells h
        cases h1
    subst hy
    refine Lib.wpList_append_run w hgd s x _ _ ho _ _ hs hx _ w (run_append_none o.type i0 Try.underlying36 hi w r xs.length cap c2 hown.le) ?_
    have := h r cap w (by rw [List.append_nil]; exact hown) (Below.refl _ _)
    rwa [List.append_nil] at this
  | some ad =>
    refine wpList_append_own_at w hgd s x 36 ho base 3 i0 (.int .i64 0) 1 8 Try.underlying36 hi hz0 hz1 hz2 rfl (by omega) _ xs.length (xs.map (Value.int .i64)) hs hown ad ys.length c2 (ys.map (Value.int .i64)) hx (by simp) ?_ (ints_oneCell .i64 ys) (by unfold maxLen; omega) (by omega) hb ?_
    · intro j u hj
      have hj2 : j < ys.length := by
        rcases Nat.lt_or_ge j ys.length with h | h
        · exact h
        · rw [List.getElem?_eq_none (by simpa using h)] at hj; cases hj
      obtain ⟨b, off, h1, h2, h3⟩ := hys.cells (fun e => by subst e; simp at hj2)
      simp only [Option.some.injEq] at h1
      subst h1
      have h4 := h3 j hj2
      have h5 : (Addr.add ⟨b, off, none⟩ j : Addr) = ⟨b, off + j, none⟩ := by
        by_cases h0 : j = 0
        · subst h0; simp [Addr.add]
        · simp [Addr.add, h0]
      rw [h5, h4, ← hj]
      simp [List.getD, List.getElem?_eq_getElem hj2]
    · intro v' w1 hown1 hgrow _ _
      have hB : Below base w w1 := (Below.refl base w).grown hgrow hb (fun k hk => (World.ownsRow.lt hown k hk).1)
      have hlen : (xs ++ ys).length = xs.length + ys.length := by simp
      rw [← List.map_append] at hown1
      obtain ⟨r', cap', rfl⟩ : ∃ r' cap', v' = .slice r' (xs ++ ys).length cap' := by
        rcases hown1.2 with ⟨h1, h3⟩ | ⟨g, c, cur, h1, _⟩
        · exact ⟨none, 0, by rw [h1, hlen, h3]⟩
        · exact ⟨_, _, by rw [h1, hlen]⟩
      refine h r' cap' w1 ?_ hB
      unfold OwnI
      rw [hlen] at hown1 ⊢
      exact hown1

theorem grow_any (n : Nat) (hn : n ≤ 1000000) (w : World) : Calls Try.prog 43 #[.slice none 0 0, .int .i64 n] w fun e w' => ∃ r cap, e = .returned (.slice r 0 cap) ∧ OwnI w' w.heap.size r cap [] ∧ Below w.heap.size w w' := by
  by_cases h0 : n = 0
  · subst h0
    go_enter Try.func43, Try.ntmps43
    go_wp2
    go_ret
    exact ⟨none, 0, rfl, OwnI.nil _ _, by (repeat' (first | (with_reducible exact Below.refl _ _) | (with_reducible assumption) | (with_reducible refine below_alloc ?_ _) | (with_reducible refine Below.drew ?_) | (with_reducible refine below_drewN ?_ _) | (with_reducible refine below_step (by assumption) ?_) | (with_reducible refine below_later ?_ _) | (with_reducible refine Below.setCell ?_ ?_ _) | go_size))⟩
  · have hn0 : (0 : Int) < n := by omega
    obtain ⟨i0, hi, hz0, hz1, hz2⟩ := info_parts infoInt
    have hs8 : i0.size = 1 := hz1
    have hb8 : i0.bytes = 8 := hz2
    go_enter Try.func43, Try.ntmps43
    go_wp2_with (at_builtin; refine Lib.wpList_append_run _ (by rfl) _ _ _ _ (by rfl) _ _ (by rfl) (by rfl) _ _ (Lib.run_append_nil_zeros _ _ _ _ 3 i0 (.int .i64 0) .i64 .i64 Try.underlying36 Try.underlying3 hi hz0 n (by omega) (by omega) (by omega) (by rw [hz2]; omega)) ?_)
    go_ret
    refine ⟨some ⟨w.heap.size, 0, none⟩, grownCap w n 0 3, rfl, ⟨by simp, Or.inr ⟨w.heap.size, grownCap w n 0 3, _, rfl, Nat.le_refl _, heap_alloc_new w _, Nat.zero_le _, grownCap_le_maxLen w n 0 3 (by unfold maxLen; omega), ?_, by simp⟩⟩, by (repeat' (first | (with_reducible exact Below.refl _ _) | (with_reducible assumption) | (with_reducible refine below_alloc ?_ _) | (with_reducible refine Below.drew ?_) | (with_reducible refine below_drewN ?_ _) | (with_reducible refine below_step (by assumption) ?_) | (with_reducible refine below_later ?_ _) | (with_reducible refine Below.setCell ?_ ?_ _) | go_size))⟩
    have := grownCap_ge w n 0 3
    simp only [Array.size_append, size_zeroCells, List.size_toArray, List.length_singleton]
    omega

set_option maxHeartbeats 1000000 in
theorem concat2_any (b : Nat) (r1 r2 : Option Addr) (c1 c2 : Nat) (xs ys : List Int) (w : World) (hb : b < w.heap.size) (d0 : w.cell? ⟨b, 0, none⟩ = some (.slice r1 xs.length c1)) (d1 : w.cell? ⟨b, 1, none⟩ = some (.slice r2 ys.length c2))
    (hx : IsInts w r1 c1 .i64 xs) (hy : IsInts w r2 c2 .i64 ys) (hl : xs.length + ys.length ≤ 100000) (hw : ∀ x ∈ xs ++ ys, (Lit.int .i64 x).wf = true) :
    Calls Try.prog 33 #[.slice (some ⟨b, 0, none⟩) 2 2] w fun e w' => ∃ r cap, e = .returned (.slice r (xs ++ ys).length cap) ∧ IsInts w' r cap .i64 (xs ++ ys) ∧ Below w.heap.size w w' := by
  have HX : Hid (∀ w', Below w.heap.size w w' → IsInts w' r1 c1 .i64 xs) := Lib.hid (fun _ h => hx.later h)
  have HY : Hid (∀ w', Below w.heap.size w w' → IsInts w' r2 c2 .i64 ys) := Lib.hid (fun _ h => hy.later h)
  have HW := Lib.hid hw
  have HL : Hid ((xs ++ ys).length = xs.length + ys.length) := Lib.hid (by simp)
  clear hx hy hw
  go_enter Try.func33, Try.ntmps33
  go_wp2
  go_loopg [3, 11] 2 (fun kx s3 s11 wr => wr = w ∧ ((s3 = .int .i64 0 ∧ s11 = .int .i64 0 ∧ 2 ≤ kx) ∨ (s3 = .int .i64 xs.length ∧ s11 = .int .i64 1 ∧ 1 ≤ kx) ∨ (s3 = .int .i64 ((xs.length : Int) + ys.length) ∧ s11 = .int .i64 2)))
  case atStart => exact ⟨rfl, .inl ⟨rfl, rfl, Nat.le_refl _⟩⟩
  case round =>
    obtain ⟨rfl, h⟩ := hrel
    rcases h with ⟨rfl, rfl, hk⟩ | ⟨rfl, rfl, hk⟩ | ⟨rfl, rfl⟩
    · go_wp2
      go_roundg 1
      case measure => omega
      case rel => exact ⟨rfl, .inr (.inl ⟨by go_num, by go_num, Nat.le_refl _⟩)⟩
    · go_wp2
      go_roundg 0
      case measure => omega
      case rel => exact ⟨rfl, .inr (.inr ⟨by go_num, by go_num⟩)⟩
    · go_wp2_with (go_at_call 43; rw [show ((xs.length : Int) + ys.length) = ((xs.length + ys.length : Nat) : Int) by omega]; refine (grow_any (xs.length + ys.length) (by omega) _).mono ?_; rintro x hb1w ⟨r0, q0, rfl, hown0, hb1⟩; have HO0 := Lib.hid hown0; clear hown0; have hb1s := hb1.size)
      go_loopg [6, 27] 2 (fun kx s6 s27 we => ∃ (e : Later wr) (r : Option Addr) (cap : Nat), we = e.w ∧ ((s6 = .slice r 0 cap ∧ s27 = .int .i64 0 ∧ 2 ≤ kx ∧ Hid (OwnI e.w wr.heap.size r cap [])) ∨ (s6 = .slice r xs.length cap ∧ s27 = .int .i64 1 ∧ 1 ≤ kx ∧ Hid (OwnI e.w wr.heap.size r cap xs)) ∨ (s6 = .slice r (xs ++ ys).length cap ∧ s27 = .int .i64 2 ∧ Hid (OwnI e.w wr.heap.size r cap (xs ++ ys)))))
      case atStart => exact ⟨⟨hb1w, hb1⟩, r0, q0, rfl, .inl ⟨rfl, rfl, Nat.le_refl _, HO0⟩⟩
      case round =>
        clear HO0
        obtain ⟨e, r, cap, rfl, h⟩ := hrel
        have hes := e.h.size
        rcases h with ⟨rfl, rfl, hk, HO⟩ | ⟨rfl, rfl, hk, HO⟩ | ⟨rfl, rfl, HO⟩
        · go_wp2_with (at_builtin; refine wpList_append_ints (by rfl) _ _ (by rfl) _ r r1 cap c1 [] xs (by rfl) (by rfl) HO.out (HX.out _ e.h) (by simp; omega) (by omega) ?_; intro r' cap' w1 hown1 hbw1; have HO1 := Lib.hid hown1; clear hown1)
          go_roundg 1
          case measure => omega
          case rel => exact ⟨⟨w1, e.h.trans hbw1⟩, r', cap', rfl, .inr (.inl ⟨rfl, by go_num, Nat.le_refl _, HO1⟩)⟩
        · go_wp2_with (at_builtin; refine wpList_append_ints (by rfl) _ _ (by rfl) _ r r2 cap c2 xs ys (by rfl) (by rfl) HO.out (HY.out _ e.h) (by omega) (by omega) ?_; intro r' cap' w1 hown1 hbw1; have HO1 := Lib.hid hown1; clear hown1)
          go_roundg 0
          case measure => omega
          case rel => exact ⟨⟨w1, e.h.trans hbw1⟩, r', cap', rfl, .inr (.inr ⟨by simp, by go_num, HO1⟩)⟩
        · go_wp2
          go_ret
          exact ⟨r, cap, rfl, HO.out.ints HW.out, e.h⟩
theorem concat2_to (b : Nat) (r1 r2 : Option Addr) (c1 c2 : Nat) (xs ys zs : List Int) (hz : xs ++ ys = zs) (w : World) (hb : b < w.heap.size) (d0 : w.cell? ⟨b, 0, none⟩ = some (.slice r1 xs.length c1)) (d1 : w.cell? ⟨b, 1, none⟩ = some (.slice r2 ys.length c2))
    (hx : IsInts w r1 c1 .i64 xs) (hy : IsInts w r2 c2 .i64 ys) (hl : xs.length + ys.length ≤ 100000) (hw : ∀ x ∈ zs, (Lit.int .i64 x).wf = true) :
    Calls Try.prog 33 #[.slice (some ⟨b, 0, none⟩) 2 2] w fun e w' => ∃ r cap, e = .returned (.slice r zs.length cap) ∧ IsInts w' r cap .i64 zs ∧ Below w.heap.size w w' := by
  subst hz
  exact concat2_any b r1 r2 c1 c2 xs ys w hb d0 d1 hx hy hl hw
end Go.Proofs.Ytjkdekblenlflaa
