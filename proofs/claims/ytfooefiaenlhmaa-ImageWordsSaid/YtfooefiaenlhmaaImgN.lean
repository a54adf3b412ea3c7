/- Words of bytes: the reference's Words. Printed by a program. -/
import Derived.Test.YtfooefiaenlhmaaImgM
import Derived.Laws.OwnMore
import Derived.StillTailTactics
namespace Go.Proofs.Ytfooefiaenlhmaa
set_option linter.unusedVariables false
set_option linter.unusedSimpArgs false
open Go.RowKit Go.ChangeShapes Go.WideShapes Go.ChangeAt

theorem wp_still_tail {P : Program} {id : Nat} {Q : Exit → Act → World → Prop} {a : Act} {w : World} {l : List Oper} (n : Nat) (hm : P.follows .mixedOrders = true) (hB : Region.lexTailB .any l.toArray n = true)
    (h : ∀ W, Below w.heap.size w W → W.heap.size = w.heap.size → wpStill P l.toArray W (fun a' => wpList P l.toArray Q (l.drop n) a' W) (l.take n) a) : (Code.region id l.toArray true).wp P Q a w :=
  wp_region_still_tail n hm hB (h w.drew (Below.refl _ _).drew rfl)
theorem byteOf_take (bs : List Int) (i j : Nat) : byteOf (bs.take i) j = if j < i then byteOf bs j else 0 := by
  unfold byteOf
  rw [List.getD_eq_getElem?_getD, List.getElem?_take]
  split
  · rfl
  · rfl
theorem wordAt_eq (bs : List Int) (k : Nat) : wordAt bs k = ((byteOf bs (4 * k) * 256 + byteOf bs (4 * k + 1)) * 256 + byteOf bs (4 * k + 2)) * 256 + byteOf bs (4 * k + 3) := by
  simp [wordAt, wAcc]
theorem wordsB_get {bs : List Int} {k : Nat} (h : k < (bs.length + 3) / 4) : (wordsB bs).getD k 0 = wordAt bs k := by
  unfold wordsB
  rw [List.getD_eq_getElem?_getD, List.getElem?_map, List.getElem?_range h]
  rfl
theorem wordAt_old {bs : List Int} {i k : Nat} (h : 4 * k + 3 < i) : wordAt (bs.take (i + 1)) k = wordAt (bs.take i) k := by
  rw [wordAt_eq, wordAt_eq]
  simp only [byteOf_take]
  rw [if_pos (by omega), if_pos (by omega), if_pos (by omega), if_pos (by omega), if_pos (by omega), if_pos (by omega), if_pos (by omega), if_pos (by omega)]
theorem wordAt_new {bs : List Int} {i : Nat} (h : i < bs.length) (r : Nat) (hr : i % 4 = r) : wordAt (bs.take (i + 1)) (i / 4) = wordAt (bs.take i) (i / 4) + byteOf bs i * 2 ^ (24 - 8 * r) := by
  have hq : i = 4 * (i / 4) + r := by omega
  have hr4 : r < 4 := by omega
  generalize i / 4 = q at *
  subst hq
  rw [wordAt_eq, wordAt_eq]
  simp only [byteOf_take]
  obtain rfl | rfl | rfl | rfl : r = 0 ∨ r = 1 ∨ r = 2 ∨ r = 3 := by omega
  all_goals (repeat (first | rw [if_pos (by omega)] | rw [if_neg (by omega)]))
  all_goals (simp only [Nat.add_zero, Nat.mul_zero, Nat.sub_zero, Nat.mul_one, Nat.reduceMul, Nat.reduceSub, Int.reducePow]; omega)
theorem getD_snoc {α : Type} (l : List α) (x d : α) (k : Nat) : (l ++ [x]).getD k d = if k < l.length then l.getD k d else if k = l.length then x else d := by
  rw [List.getD_eq_getElem?_getD, List.getElem?_append, List.getD_eq_getElem?_getD]
  split
  · rfl
  · split
    · rename_i h1 h2; simp [h2]
    · rename_i h1 h2
      rw [List.getElem?_eq_none (by simp; omega)]
      rfl
theorem getD_set' (l : List Int) (k j : Nat) (x : Int) (hk : k < l.length) : (l.set k x).getD j 0 = if j = k then x else l.getD j 0 := by
  rw [List.getD_eq_getElem?_getD, List.getElem?_set, List.getD_eq_getElem?_getD]
  by_cases h : k = j
  · subst h; simp [hk]
  · rw [if_neg h, if_neg (fun e => h e.symm)]
/-- One more byte, at the beginning of a word. -/
theorem wordsB_first {bs : List Int} {i : Nat} (h : i < bs.length) (hr : i % 4 = 0) : wordsB (bs.take (i + 1)) = (wordsB (bs.take i) ++ [0]).set (i / 4) (byteOf bs i * 16777216) := by
  have hl : (bs.take i).length = i := by rw [List.length_take]; omega
  have hl2 : (bs.take (i + 1)).length = i + 1 := by rw [List.length_take]; omega
  have hw : (wordsB (bs.take i)).length = i / 4 := by rw [wordsB_len, hl]; omega
  have hz : wordAt (bs.take i) (i / 4) = 0 := by
    rw [wordAt_eq]
    simp only [byteOf_take]
    rw [if_neg (by omega), if_neg (by omega), if_neg (by omega), if_neg (by omega)]
    rfl
  refine getD_ext ?_ (fun t ht => ?_)
  · rw [wordsB_len, hl2, List.length_set, List.length_append, hw, List.length_singleton]; omega
  · rw [wordsB_len, hl2] at ht
    rw [wordsB_get (by rw [hl2]; exact ht), getD_set' _ _ _ _ (by rw [List.length_append, hw, List.length_singleton]; omega), getD_snoc, hw]
    by_cases e : t = i / 4
    · subst e
      rw [if_pos rfl, wordAt_new h 0 hr, hz]
      simp
    · rw [if_neg e, if_pos (by omega), wordsB_get (by rw [hl]; omega), wordAt_old (by omega)]
theorem wordsB_next {bs : List Int} {i : Nat} (h : i < bs.length) (r : Nat) (hr : i % 4 = r) (hr0 : 0 < r) : wordsB (bs.take (i + 1)) = (wordsB (bs.take i)).set (i / 4) ((wordsB (bs.take i)).getD (i / 4) 0 + byteOf bs i * 2 ^ (24 - 8 * r)) := by
  have hl : (bs.take i).length = i := by rw [List.length_take]; omega
  have hl2 : (bs.take (i + 1)).length = i + 1 := by rw [List.length_take]; omega
  have hw : (wordsB (bs.take i)).length = i / 4 + 1 := by rw [wordsB_len, hl]; omega
  refine getD_ext ?_ (fun t ht => ?_)
  · rw [wordsB_len, hl2, List.length_set, hw]; omega
  · rw [wordsB_len, hl2] at ht
    rw [wordsB_get (by rw [hl2]; exact ht), getD_set' _ _ _ _ (by rw [hw]; omega)]
    by_cases e : t = i / 4
    · subst e
      rw [if_pos rfl, wordAt_new h r hr, wordsB_get (by rw [hl]; omega)]
    · rw [if_neg e, wordsB_get (by rw [hl]; omega), wordAt_old (by omega)]
theorem word_room {bs : List Int} (hb : ByteL bs) {i : Nat} (r : Nat) (hr : i % 4 = r) (hr0 : 0 < r) : 0 ≤ wordAt (bs.take i) (i / 4) ∧ wordAt (bs.take i) (i / 4) + 255 * 2 ^ (24 - 8 * r) ≤ 4294967295 := by
  have hq : i = 4 * (i / 4) + r := by omega
  generalize i / 4 = q at *
  subst hq
  rw [wordAt_eq]
  simp only [byteOf_take]
  have h0 := byteOf_bd hb (4 * q)
  have h1 := byteOf_bd hb (4 * q + 1)
  have h2 := byteOf_bd hb (4 * q + 2)
  have h3 := byteOf_bd hb (4 * q + 3)
  obtain rfl | rfl | rfl : r = 1 ∨ r = 2 ∨ r = 3 := by omega
  all_goals (repeat (first | rw [if_pos (by omega)] | rw [if_neg (by omega)]))
  all_goals (simp only [Nat.reduceMul, Nat.reduceSub, Int.reducePow]; omega)
theorem OwnK.at_ {k : IntKind} {te : TypeId} {W : World} {base : Nat} {r : Option Addr} {cap : Nat} {xs : List Int} (h : OwnK k te W base r cap xs) {j : Nat} (hj : j < xs.length) :
    ∃ g, r = some ⟨g, 0, none⟩ ∧ base ≤ g ∧ g < W.heap.size ∧ W.cell? ⟨g, j, none⟩ = some (.int k (xs.getD j 0)) ∧ W.frozen? ⟨g, j, none⟩ = false ∧ ∀ u, OwnK k te (W.setCell ⟨g, j, none⟩ (.int k u)) base r cap (xs.set j u) ∧ Below base W (W.setCell ⟨g, j, none⟩ (.int k u)) := by
  have h0 := h.2
  rcases h0 with ⟨_, h3⟩ | ⟨g, c, cur, h1, hb, _⟩
  · omega
  · simp only [Value.slice.injEq] at h1
    obtain ⟨rfl, _, _⟩ := h1
    refine ⟨g, rfl, hb, (h.lt _ rfl).2, ?_, World.ownsRow.frozenAt (w := W) h j, fun u => ⟨?_, (Below.refl base W).setCell (p := ⟨g, j, none⟩) hb _⟩⟩
    · have := World.ownsRow.cellAt (w := W) h j (by omega)
      rw [this]
      simp [List.getElem?_map, List.getD, List.getElem?_eq_getElem hj]
    · have := (World.ownsRow.stored (w := W) h j (.int k u)).1
      unfold OwnK
      rw [List.length_set, List.map_set]
      exact this
theorem sh24 {x : Int} (h0 : 0 ≤ x) (h1 : x ≤ 255) : IntKind.u32.wrap (x * 16777216) = x * 16777216 ∧ IntKind.u32.wrap (x * 65536) = x * 65536 ∧ IntKind.u32.wrap (x * 256) = x * 256 ∧ IntKind.u32.wrap x = x := by
  refine ⟨?_, ?_, ?_, ?_⟩ <;> (simp [IntKind.wrap, IntKind.signed, IntKind.bits]; omega)

set_option maxRecDepth 100000 in
set_option maxHeartbeats 2000000 in
theorem rwords_any (r : Option Addr) (cap : Nat) (bs : List Int) (w : World) (hx : IsInts w r cap .u8 bs) (hl : bs.length ≤ 1000000) : Calls Try.prog 19 #[.slice r bs.length cap] w fun e w' => ∃ ro co, e = .returned (.slice ro (wordsB bs).length co) ∧ OwnK .u32 35 w' w.heap.size ro co (wordsB bs) ∧ Below w.heap.size w w' := by
  have hby : ByteL bs := fun x h => wf_u8 (hx.wf x h)
  have HX : Hid (bs = [] ∨ ∃ b off, r = some ⟨b, off, none⟩ ∧ b < w.heap.size ∧ ∀ i, i < bs.length → w.cell? ⟨b, off + i, none⟩ = some (.int .u8 (byteOf bs i))) := Lib.hid (by
    by_cases e : bs = []
    · exact .inl e
    · exact .inr (hx.cells e))
  have HLN : Hid (∀ i, i ≤ bs.length → (wordsB (bs.take i)).length = (i + 3) / 4) := Lib.hid (fun i hi => by rw [wordsB_len, List.length_take, Nat.min_eq_left hi])
  have HE : Hid (wordsB (bs.take bs.length) = wordsB bs) := Lib.hid (by rw [List.take_length])
  have HBY := Lib.hid hby
  clear hx hby
  generalize hres : wordsB bs = res at *
  generalize hn : bs.length = n at *
  have HN := Lib.hid hn
  clear hn
  go_enter Try.func19, Try.ntmps19
  go_wp2
  go_loopg [3, 4] n (fun kx s3 s4 wr => ∃ (k : Nat) (e : Later w) (ro : Option Addr) (co : Nat) (out : List Int), s3 = .slice ro out.length co ∧ s4 = .int .i64 k ∧ k ≤ n ∧ n - k ≤ kx ∧ wr = e.w ∧ out.length = (k + 3) / 4 ∧ Hid (OwnK .u32 35 e.w w.heap.size ro co out) ∧ Hid (out = wordsB (bs.take k)))
  case atStart => exact ⟨0, ⟨w, Below.refl _ _⟩, none, 0, [], rfl, rfl, by omega, by omega, rfl, by simp, Lib.hid (OwnK.nil _ _), Lib.hid (by simp [wordsB])⟩
  case round =>
    obtain ⟨k, e, ro, co, out, rfl, rfl, hk, hkx, rfl, hol, HO, HQ⟩ := hrel
    have hes := e.h.size
    by_cases hlt : k < n
    · have hk1 : (0 : Int) ≤ (k : Int) := by omega
      have hk2 : (k : Int) < n := by omega
      obtain ⟨bX, off, rfl, hb, hc⟩ := HX.out.resolve_left (fun e => by have := HN.out; rw [e] at this; simp at this; omega)
      have hc1 : e.w.cell? ⟨bX, off + k, none⟩ = some (.int .u8 (byteOf bs k)) := by
        rw [Later.cell e hb]; exact hc k hlt
      have ⟨x0, x1⟩ := byteOf_bd HBY.out k
      have hbe : bX < e.w.heap.size := by omega
      have hkl : k < bs.length := by rw [HN.out]; exact hlt
      have hqw : IntKind.i64.wrap ((k : Int) / 4) = ((k / 4 : Nat) : Int) := by rw [IntWalk.i64_in _ (by omega)]; omega
      obtain ⟨t0, t1, t2, t3⟩ := sh24 x0 x1
      clear hc
      have w0 : IntKind.i64.wrap 0 = 0 := by rfl
      have w8 : IntKind.i64.wrap 8 = 8 := by rfl
      have w16 : IntKind.i64.wrap 16 = 16 := by rfl
      have w24 : IntKind.i64.wrap 24 = 24 := by rfl
      have hr4 : k % 4 = 0 ∨ k % 4 = 1 ∨ k % 4 = 2 ∨ k % 4 = 3 := by omega
      rcases hr4 with hr | hr | hr | hr
      · have hm : ((k : Int)).tmod 4 = 0 := by rw [Int.tmod_eq_emod_of_nonneg (by omega)]; omega
        have HNX := Lib.hid (wordsB_first hkl hr)
        rw [← HQ.out] at HNX
        have hlen2 : (out ++ [0]).length = out.length + 1 := by simp
        have hjl : k / 4 < (out ++ [0]).length := by rw [hlen2]; omega
        have hcap1 : out.length + 1 ≤ 1099511627776 := by omega
        have hz0 : (out ++ [0]).getD (k / 4) 0 = 0 := by
          rw [getD_snoc, if_neg (by omega), if_pos (by omega)]
        have hq1 : ((k / 4 : Nat) : Int) < ((out ++ [0]).length : Nat) := by omega
        generalize byteOf bs k = x at *
        have HOL := Lib.hid hol
        clear hol
        generalize hqd : k / 4 = q at *
        have HQD := Lib.hid hqd
        clear hqd
        go_wp2_with (at_builtin; refine wpList_append_k Try.underlying40 infoU32 rfl (by omega) (by rfl) _ _ (by rfl) e.w w.heap.size ro co out [0] 1 rfl (by omega) (by rfl) (by rfl) (by rfl) HO.out (by omega) (by omega) ?_; intro r' c' w1 hown1 hbw1)
        obtain ⟨g, rfl, hgb, hgl, hgc, hgf, hgs⟩ := hown1.at_ hjl
        rw [hz0] at hgc
        rw [← hlen2]
        have HOW := Lib.hid hown1
        clear hgs hown1
        have hc2 : w1.cell? ⟨bX, off + k, none⟩ = some (.int .u8 x) := by rw [hbw1.cell (p := ⟨bX, off + k, none⟩) hb]; exact hc1
        have hx2 : bX < w1.heap.size := Nat.lt_of_lt_of_le hbe hbw1.size
        generalize hO2 : out ++ [0] = out2 at *
        have hBW : Below w.heap.size w w1 := e.h.trans hbw1
        have HLE2 := Lib.hid hlen2
        clear hc1 hlen2
        have hv : IntKind.u32.wrap (x * 16777216) = x * 16777216 := t0
        go_wp2
        refine wp_still_tail 20 (by kernel_rfl) (by kernel_rfl) ?_
        intro W hW hWs
        have y1 : W.cell? ⟨g, q, none⟩ = some (.int .u32 0) := by rw [hW.cell (p := ⟨g, q, none⟩) hgl]; exact hgc
        have y2 : W.frozen? ⟨g, q, none⟩ = false := by rw [hW.frozen (p := ⟨g, q, none⟩) hgl]; exact hgf
        have y3 : W.cell? ⟨bX, off + k, none⟩ = some (.int .u8 x) := by rw [hW.cell (p := ⟨bX, off + k, none⟩) hx2]; exact hc2
        simp only [List.take_succ_cons, List.take_zero, List.drop_succ_cons, List.drop_zero]
        repeat (refine wpStill_step (fun K hK => ?_); go_simp; refine hK _ ?_; clear hK K)
        refine wpStill_nil ?_
        go_wp2
        obtain ⟨g2, he2, hg2b, _, _, _, hgs2⟩ := (HOW.out.below hW (Nat.le_refl _)).at_ hjl
        obtain rfl : g = g2 := by simpa using he2
        obtain ⟨hfin, hbf⟩ := hgs2 (x * 16777216)
        go_roundg (n - (k + 1))
        case measure => omega
        case rel => exact ⟨k + 1, ⟨W.setCell ⟨g, q, none⟩ (.int .u32 (x * 16777216)), (hBW.trans (hW.mono hBW.size)).trans hbf⟩, some ⟨g, 0, none⟩, _, out2.set q (x * 16777216), by simp, by go_num, by omega, by omega, rfl, by rw [List.length_set]; have := HOL.out; have := HLE2.out; omega, Lib.hid hfin, Lib.hid HNX.out.symm⟩
      · have hm : ((k : Int)).tmod 4 = 1 := by rw [Int.tmod_eq_emod_of_nonneg (by omega)]; omega
        have HNX := Lib.hid (wordsB_next hkl 1 hr (by omega))
        rw [← HQ.out] at HNX
        have hjl : k / 4 < out.length := by omega
        have hrm := word_room HBY.out 1 hr (by omega)
        have hwa : out.getD (k / 4) 0 = wordAt (bs.take k) (k / 4) := by rw [HQ.out]; exact wordsB_get (by rw [List.length_take]; omega)
        rw [← hwa] at hrm
        simp only [Nat.reduceMul, Nat.reduceSub, Int.reducePow, Int.mul_one] at hrm HNX
        clear hwa
        obtain ⟨g, rfl, hgb, hgl, hgc, hgf, hgs⟩ := HO.out.at_ hjl
        generalize out.getD (k / 4) 0 = y at *
        generalize byteOf bs k = x at *
        have hq1 : ((k / 4 : Nat) : Int) < (out.length : Nat) := by omega
        have HOW := HO
        have HOL := Lib.hid hol
        have hBW := e.h
        clear hgs HO hol
        generalize hqd : k / 4 = q at *
        have HQD := Lib.hid hqd
        clear hqd
        have hv : IntKind.u32.wrap (y + x * 65536) = y + x * 65536 := by simp [IntKind.wrap, IntKind.signed, IntKind.bits]; omega
        go_wp2
        refine wp_still_tail 20 (by kernel_rfl) (by kernel_rfl) ?_
        intro W hW hWs
        have y1 : W.cell? ⟨g, q, none⟩ = some (.int .u32 y) := by rw [hW.cell (p := ⟨g, q, none⟩) hgl]; exact hgc
        have y2 : W.frozen? ⟨g, q, none⟩ = false := by rw [hW.frozen (p := ⟨g, q, none⟩) hgl]; exact hgf
        have y3 : W.cell? ⟨bX, off + k, none⟩ = some (.int .u8 x) := by rw [hW.cell (p := ⟨bX, off + k, none⟩) hbe]; exact hc1
        simp only [List.take_succ_cons, List.take_zero, List.drop_succ_cons, List.drop_zero]
        repeat (refine wpStill_step (fun K hK => ?_); go_simp; refine hK _ ?_; clear hK K)
        refine wpStill_nil ?_
        go_wp2
        obtain ⟨g2, he2, hg2b, _, _, _, hgs2⟩ := (HOW.out.below hW (Nat.le_refl _)).at_ hjl
        obtain rfl : g = g2 := by simpa using he2
        obtain ⟨hfin, hbf⟩ := hgs2 (y + x * 65536)
        go_roundg (n - (k + 1))
        case measure => omega
        case rel => exact ⟨k + 1, ⟨W.setCell ⟨g, q, none⟩ (.int .u32 (y + x * 65536)), (hBW.trans (hW.mono hBW.size)).trans hbf⟩, some ⟨g, 0, none⟩, _, out.set q (y + x * 65536), by simp, by go_num, by omega, by omega, rfl, by rw [List.length_set]; have := HOL.out; omega, Lib.hid hfin, Lib.hid HNX.out.symm⟩
      · have hm : ((k : Int)).tmod 4 = 2 := by rw [Int.tmod_eq_emod_of_nonneg (by omega)]; omega
        have HNX := Lib.hid (wordsB_next hkl 2 hr (by omega))
        rw [← HQ.out] at HNX
        have hjl : k / 4 < out.length := by omega
        have hrm := word_room HBY.out 2 hr (by omega)
        have hwa : out.getD (k / 4) 0 = wordAt (bs.take k) (k / 4) := by rw [HQ.out]; exact wordsB_get (by rw [List.length_take]; omega)
        rw [← hwa] at hrm
        simp only [Nat.reduceMul, Nat.reduceSub, Int.reducePow, Int.mul_one] at hrm HNX
        clear hwa
        obtain ⟨g, rfl, hgb, hgl, hgc, hgf, hgs⟩ := HO.out.at_ hjl
        generalize out.getD (k / 4) 0 = y at *
        generalize byteOf bs k = x at *
        have hq1 : ((k / 4 : Nat) : Int) < (out.length : Nat) := by omega
        have HOW := HO
        have HOL := Lib.hid hol
        have hBW := e.h
        clear hgs HO hol
        generalize hqd : k / 4 = q at *
        have HQD := Lib.hid hqd
        clear hqd
        have hv : IntKind.u32.wrap (y + x * 256) = y + x * 256 := by simp [IntKind.wrap, IntKind.signed, IntKind.bits]; omega
        go_wp2
        refine wp_still_tail 20 (by kernel_rfl) (by kernel_rfl) ?_
        intro W hW hWs
        have y1 : W.cell? ⟨g, q, none⟩ = some (.int .u32 y) := by rw [hW.cell (p := ⟨g, q, none⟩) hgl]; exact hgc
        have y2 : W.frozen? ⟨g, q, none⟩ = false := by rw [hW.frozen (p := ⟨g, q, none⟩) hgl]; exact hgf
        have y3 : W.cell? ⟨bX, off + k, none⟩ = some (.int .u8 x) := by rw [hW.cell (p := ⟨bX, off + k, none⟩) hbe]; exact hc1
        simp only [List.take_succ_cons, List.take_zero, List.drop_succ_cons, List.drop_zero]
        repeat (refine wpStill_step (fun K hK => ?_); go_simp; refine hK _ ?_; clear hK K)
        refine wpStill_nil ?_
        go_wp2
        obtain ⟨g2, he2, hg2b, _, _, _, hgs2⟩ := (HOW.out.below hW (Nat.le_refl _)).at_ hjl
        obtain rfl : g = g2 := by simpa using he2
        obtain ⟨hfin, hbf⟩ := hgs2 (y + x * 256)
        go_roundg (n - (k + 1))
        case measure => omega
        case rel => exact ⟨k + 1, ⟨W.setCell ⟨g, q, none⟩ (.int .u32 (y + x * 256)), (hBW.trans (hW.mono hBW.size)).trans hbf⟩, some ⟨g, 0, none⟩, _, out.set q (y + x * 256), by simp, by go_num, by omega, by omega, rfl, by rw [List.length_set]; have := HOL.out; omega, Lib.hid hfin, Lib.hid HNX.out.symm⟩
      · have hm : ((k : Int)).tmod 4 = 3 := by rw [Int.tmod_eq_emod_of_nonneg (by omega)]; omega
        have HNX := Lib.hid (wordsB_next hkl 3 hr (by omega))
        rw [← HQ.out] at HNX
        have hjl : k / 4 < out.length := by omega
        have hrm := word_room HBY.out 3 hr (by omega)
        have hwa : out.getD (k / 4) 0 = wordAt (bs.take k) (k / 4) := by rw [HQ.out]; exact wordsB_get (by rw [List.length_take]; omega)
        rw [← hwa] at hrm
        simp only [Nat.reduceMul, Nat.reduceSub, Int.reducePow, Int.mul_one] at hrm HNX
        clear hwa
        obtain ⟨g, rfl, hgb, hgl, hgc, hgf, hgs⟩ := HO.out.at_ hjl
        generalize out.getD (k / 4) 0 = y at *
        generalize byteOf bs k = x at *
        have hq1 : ((k / 4 : Nat) : Int) < (out.length : Nat) := by omega
        have HOW := HO
        have HOL := Lib.hid hol
        have hBW := e.h
        clear hgs HO hol
        generalize hqd : k / 4 = q at *
        have HQD := Lib.hid hqd
        clear hqd
        have hv : IntKind.u32.wrap (y + x) = y + x := by simp [IntKind.wrap, IntKind.signed, IntKind.bits]; omega
        go_wp2
        refine wp_still_tail 20 (by kernel_rfl) (by kernel_rfl) ?_
        intro W hW hWs
        have y1 : W.cell? ⟨g, q, none⟩ = some (.int .u32 y) := by rw [hW.cell (p := ⟨g, q, none⟩) hgl]; exact hgc
        have y2 : W.frozen? ⟨g, q, none⟩ = false := by rw [hW.frozen (p := ⟨g, q, none⟩) hgl]; exact hgf
        have y3 : W.cell? ⟨bX, off + k, none⟩ = some (.int .u8 x) := by rw [hW.cell (p := ⟨bX, off + k, none⟩) hbe]; exact hc1
        simp only [List.take_succ_cons, List.take_zero, List.drop_succ_cons, List.drop_zero]
        repeat (refine wpStill_step (fun K hK => ?_); go_simp; refine hK _ ?_; clear hK K)
        refine wpStill_nil ?_
        go_wp2
        obtain ⟨g2, he2, hg2b, _, _, _, hgs2⟩ := (HOW.out.below hW (Nat.le_refl _)).at_ hjl
        obtain rfl : g = g2 := by simpa using he2
        obtain ⟨hfin, hbf⟩ := hgs2 (y + x)
        go_roundg (n - (k + 1))
        case measure => omega
        case rel => exact ⟨k + 1, ⟨W.setCell ⟨g, q, none⟩ (.int .u32 (y + x)), (hBW.trans (hW.mono hBW.size)).trans hbf⟩, some ⟨g, 0, none⟩, _, out.set q (y + x), by simp, by go_num, by omega, by omega, rfl, by rw [List.length_set]; have := HOL.out; omega, Lib.hid hfin, Lib.hid HNX.out.symm⟩
    · obtain rfl : k = n := by omega
      have HQ3 : Hid (out = res) := Lib.hid (HQ.out.trans HE.out)
      have hol2 := HQ3.out
      clear HQ
      go_wp2
      go_ret
      refine ⟨ro, co, by first | rfl | (rw [hol2]; rfl), ?_, e.h⟩
      rw [← HQ3.out]
      exact HO.out
end Go.Proofs.Ytfooefiaenlhmaa
