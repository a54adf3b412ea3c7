/- Lemmas for the laws of package magnetolaw15: The reference's number, list, and bytes of an instruction. What a slice of slices of integers reads as. What the structs of package api read as, leaf by leaf. A program that came in: slices of structs, and what the struct's cells read as. No statement about the program's functions. The bytes of a program. No statement about the program's functions. unit.Valid and fixed.Valid. Products and quotients of units. The machine's table of operations, and its small functions. -/
import Derived.Test.YtfooefiaenlhmaaGE1
import Derived.Deep.Matrix
import Derived.Deep.Slices
import Derived.StillTailTactics
import Derived.Lib.Strings
import Derived.Lib.Slices
import Derived.Lib.Walk
import Derived.Lib.Bytealg
import Derived.Laws.Bits128
namespace Go.Proofs.Ytfooefiaenlhmaa
set_option linter.unusedVariables false
set_option linter.unusedSimpArgs false
open Go.RowKit Go.ChangeShapes Go.WideShapes Go.ChangeAt

theorem sar_byte (n : Int) {k : Nat} (hk : k < 8) (h : I64 n) : IntKind.u8.wrap (n / 2 ^ (8 * (7 - (k : Int))).toNat) = byteAt n k := by
  have e : ∀ y : Int, IntKind.u8.wrap y = y % 256 := fun y => by simp [IntKind.wrap, IntKind.signed, IntKind.bits]
  rw [e]
  unfold byteAt
  rcases k with _ | _ | _ | _ | _ | _ | _ | _ | k <;> first | rfl | omega
set_option maxRecDepth 100000 in
set_option maxHeartbeats 2000000 in
theorem rnum_any (n : Int) (hn : I64 n) (w : World) : Calls Try.prog 46 #[.int .i64 n] w fun e w' => ∃ r c, e = .returned (.slice r 8 c) ∧ OwnK .u8 5 w' w.heap.size r c (num8 n) ∧ Below w.heap.size w w' := by
  have HN : Hid (I64 n) := Lib.hid hn
  clear hn
  go_enter Try.func46, Try.ntmps46
  go_wp2
  go_loopg [3, 4] 8 (fun kx s3 s4 wr => ∃ (k : Nat) (e : Later w) (r : Option Addr) (c : Nat) (out : List Int) (kk : Int), s3 = .slice r out.length c ∧ s4 = .int .i64 kk ∧ kk = 7 - (k : Int) ∧ k ≤ 8 ∧ 8 - k ≤ kx ∧ wr = e.w ∧ Hid (OwnK .u8 5 e.w w.heap.size r c out) ∧ Hid (out = (num8 n).take k) ∧ Hid (out.length = k))
  case atStart => exact ⟨0, ⟨w, Below.refl _ _⟩, none, 0, [], 7, rfl, rfl, by omega, by omega, by omega, rfl, Lib.hid (OwnK.nil _ _), Lib.hid rfl, Lib.hid rfl⟩
  case round =>
    obtain ⟨k, e, r, c, out, kk, rfl, rfl, hkk, hk, hkx, rfl, HO, HQ, HL⟩ := hrel
    have hes := e.h.size
    by_cases hlt : k < 8
    · have hk1 : (0 : Int) ≤ kk := by omega
      have hk2 : IntKind.i64.wrap (kk - 1) = kk - 1 := IntWalk.i64_in _ (by omega)
      have hk3 : IntKind.i64.wrap (8 * kk) = 8 * kk := IntWalk.i64_in _ (by omega)
      have hk4 : min (8 * kk).toNat 64 = (8 * kk).toNat := by omega
      have hk5 : (0 : Int) ≤ 8 * kk := by omega
      have hv : IntKind.u8.wrap (n / 2 ^ (8 * kk).toNat) = byteAt n k := by rw [hkk]; exact sar_byte n hlt HN.out
      have HQ2 := Lib.hid (num8_take (n := n) hlt)
      have hol : out.length ≤ 8 := by have := HL.out; omega
      have HKK := Lib.hid hkk
      clear hkk
      generalize byteAt n k = x at *
      go_wp2_with (at_builtin; refine wpList_append_k Try.underlying29 infoU8 rfl (by omega) (by rfl) _ _ (by rfl) e.w w.heap.size r c out [x] 1 rfl (by omega) (by rfl) (by rfl) (by rfl) HO.out (by omega) (by omega) ?_; intro r' c' w1 hown1 hbw1)
      have HO1 := Lib.hid hown1
      clear hown1
      go_roundg (8 - (k + 1))
      case measure => omega
      case rel => exact ⟨k + 1, ⟨w1, e.h.trans hbw1⟩, r', c', out ++ [x], kk - 1, by simp, by go_num, by have := HKK.out; omega, by omega, by omega, rfl, HO1, Lib.hid (by rw [HQ.out, HQ2.out]), Lib.hid (by rw [List.length_append, HL.out]; rfl)⟩
    · obtain rfl : k = 8 := by omega
      obtain rfl : kk = -1 := by omega
      go_wp2
      go_ret
      have hol2 := HL.out
      refine ⟨r, c, by first | rfl | (rw [hol2]; rfl), ?_, e.h⟩
      have := HO.out
      rw [HQ.out] at this
      exact this
theorem ints8 {W : World} {base : Nat} {r : Option Addr} {c : Nat} {n : Int} (h : OwnK .u8 5 W base r c (num8 n)) : IsInts W r c .u8 (num8 n) := h.ints (fun x hx => u8_wf (num8_byte n x hx).1 (num8_byte n x hx).2)
theorem list8_byte (l : List Int) : ByteL (list8 l) := by
  intro y hy
  simp only [list8, List.mem_append] at hy
  rcases hy with hy | hy
  · exact num8_byte _ y hy
  · exact nums8_byte _ y hy
set_option maxRecDepth 100000 in
set_option maxHeartbeats 2000000 in
theorem rlist_any (r : Option Addr) (cap : Nat) (l : List Int) (w : World) (hx : IsInts w r cap .i64 l) (hl : l.length ≤ 10000000000) : Calls Try.prog 49 #[.slice r l.length cap] w fun e w' => ∃ ro co, e = .returned (.slice ro (list8 l).length co) ∧ OwnK .u8 5 w' w.heap.size ro co (list8 l) ∧ Below w.heap.size w w' := by
  have HX : Hid (l = [] ∨ ∃ b off, r = some ⟨b, off, none⟩ ∧ b < w.heap.size ∧ ∀ i, i < l.length → w.cell? ⟨b, off + i, none⟩ = some (.int .i64 (l.getD i 0))) := Lib.hid (by
    by_cases e : l = []
    · exact .inl e
    · exact .inr (hx.cells e))
  have HWF : Hid (∀ k, k < l.length → I64 (l.getD k 0)) := Lib.hid (fun k hk => hx.wf _ (getD_mem' hk))
  have HS : Hid (∀ k, k < l.length → nums8 (l.take (k + 1)) = nums8 (l.take k) ++ num8 (l.getD k 0)) := Lib.hid (fun k hk => nums8_take hk)
  have HLN : Hid (∀ k, k ≤ l.length → (nums8 (l.take k)).length = 8 * k) := Lib.hid (fun k hk => by rw [nums8_len, List.length_take]; omega)
  have HE : Hid (list8 l = num8 l.length ++ nums8 (l.take l.length)) := Lib.hid (by rw [List.take_length, list8])
  have hI : I64 (l.length : Int) := by unfold I64; simp [Lit.wf, IntKind.min, IntKind.max, IntKind.bits, IntKind.signed]; omega
  clear hx
  generalize list8 l = res at *
  generalize hn : l.length = n at *
  have HN := Lib.hid hn
  clear hn
  go_enter Try.func49, Try.ntmps49
  go_wp2_with (go_at_call 46; refine (rnum_any _ hI _).mono ?_; rintro e w1 ⟨r1, c1, rfl, ho1, hb1⟩)
  have HO1 := Lib.hid ho1
  have hb1s := hb1.size
  clear ho1
  go_loopg [3, 4] n (fun kx s3 s4 wr => ∃ (k : Nat) (e : Later w) (ro : Option Addr) (co : Nat) (out : List Int), s3 = .slice ro out.length co ∧ s4 = .int .i64 k ∧ k ≤ n ∧ n - k ≤ kx ∧ wr = e.w ∧ out.length ≤ 100000000000 ∧ Hid (OwnK .u8 5 e.w w.heap.size ro co out) ∧ Hid (out = num8 n ++ nums8 (l.take k)))
  case atStart => exact ⟨0, ⟨w1, hb1⟩, r1, c1, num8 n, rfl, rfl, by omega, by omega, rfl, by rw [num8_len]; omega, HO1, Lib.hid (by simp [nums8])⟩
  case round =>
    obtain ⟨k, e, ro, co, out, rfl, rfl, hk, hkx, rfl, hol, HO, HQ⟩ := hrel
    have hes := e.h.size
    by_cases hlt : k < n
    · have hk1 : (0 : Int) ≤ (k : Int) := by omega
      have hk2 : (k : Int) < n := by omega
      obtain ⟨bX, off, rfl, hb, hc⟩ := HX.out.resolve_left (fun e => by have := HN.out; rw [e] at this; simp at this; omega)
      have hc1 : e.w.cell? ⟨bX, off + k, none⟩ = some (.int .i64 (l.getD k 0)) := by
        rw [Later.cell e hb]; exact hc k hlt
      have hxi := HWF.out k hlt
      have HQ2 := Lib.hid (HS.out k hlt)
      have hol3 : out.length + 8 ≤ 100000000000 := by
        have := HLN.out k (by omega)
        rw [HQ.out, List.length_append, num8_len, this]
        omega
      clear hc
      generalize l.getD k 0 = x at *
      go_wp2_with (first | (go_at_call 46; refine (rnum_any _ hxi _).mono ?_; rintro _ w2 ⟨r2, c2, rfl, ho2, hb2⟩; have HO2 := Lib.hid (ints8 ho2); clear ho2; have hb2s := hb2.size) | (at_builtin; refine wpList_append_ks Try.underlying29 infoU8 rfl (by omega) (by rfl) _ _ (by rfl) w.heap.size ro r2 co c2 out (num8 x) (by rfl) (by rfl) (HO.out.below hb2 (Nat.le_refl _)) HO2.out (by rw [num8_len]; omega) (by omega) ?_; intro r' c' w3 hown3 hbw3))
      have HO3 := Lib.hid hown3
      clear hown3
      go_roundg (n - (k + 1))
      case measure => omega
      case rel => exact ⟨k + 1, ⟨w3, (e.h.trans (hb2.mono hes)).trans hbw3⟩, r', c', out ++ num8 x, by first | rfl | (simp [num8_len]; done), by go_num, by omega, by omega, rfl, by rw [List.length_append, num8_len]; omega, HO3, Lib.hid (by rw [HQ.out, HQ2.out, List.append_assoc])⟩
    · obtain rfl : k = n := by omega
      go_wp2
      go_ret
      have he : out = res := by rw [HQ.out, HE.out]
      subst he
      exact ⟨ro, co, by rfl, HO.out, e.h⟩
theorem own_built (k : IntKind) (te : TypeId) (w : World) (base : Nat) (ps : List Int) (hb : base ≤ w.heap.size) (hm : ps.length ≤ maxLen) : OwnK k te (w.alloc (.cells (ps.map (Value.int k)).toArray te)) base (some ⟨w.heap.size, 0, none⟩) ps.length ps := by
  unfold OwnK
  exact ⟨by simp, Or.inr ⟨w.heap.size, ps.length, _, rfl, hb, heap_alloc_new w _, Nat.le_refl _, hm, by simp, by rw [Nat.mul_one]; exact List.take_of_length_le (by simp)⟩⟩
def encI (op a b c k : Int) : List Int := [op % 256, a % 256, b % 256, c % 256] ++ num8 k
theorem encI_len (op a b c k : Int) : (encI op a b c k).length = 12 := rfl
theorem encI_byte (op a b c k : Int) : ByteL (encI op a b c k) := by
  intro y hy
  simp only [encI, List.mem_append, List.mem_cons, List.not_mem_nil, or_false] at hy
  rcases hy with (rfl | rfl | rfl | rfl) | hy
  · omega
  · omega
  · omega
  · omega
  · exact num8_byte _ y hy
set_option maxRecDepth 100000 in
set_option maxHeartbeats 4000000 in
theorem renc_any (op a b c k : Int) (w : World) : Calls Try.prog 47 #[.agg #[.int .i64 op, .int .i64 a, .int .i64 b, .int .i64 c, .int .i64 k]] w fun e w' => ∃ ro co, e = .returned (.slice ro 12 co) ∧ OwnK .u8 5 w' w.heap.size ro co (encI op a b c k) ∧ Below w.heap.size w w' := by
  have HO : Hid (OwnK .u8 5 ((w.alloc (.cells #[.int .i64 op, .int .i64 a, .int .i64 b, .int .i64 c, .int .i64 k] 50)).alloc (.cells #[.int .u8 (op % 256), .int .u8 (a % 256), .int .u8 (b % 256), .int .u8 (c % 256)] 5)) (w.heap.size + 1) (some ⟨w.heap.size + 1, 0, none⟩) 4 [op % 256, a % 256, b % 256, c % 256]) := Lib.hid (by
    have := own_built .u8 5 (w.alloc (.cells #[.int .i64 op, .int .i64 a, .int .i64 b, .int .i64 c, .int .i64 k] 50)) (w.heap.size + 1) [op % 256, a % 256, b % 256, c % 256] (by simp) (by simp [maxLen])
    rw [World.size_alloc] at this
    exact this)
  go_enter Try.func47, Try.ntmps47
  go_wp2
  have hc4 : ((w.alloc (.cells #[.int .i64 op, .int .i64 a, .int .i64 b, .int .i64 c, .int .i64 k] 50)).alloc (.cells #[.int .u8 (op % 256), .int .u8 (a % 256), .int .u8 (b % 256), .int .u8 (c % 256)] 5)).cell? ⟨w.heap.size, 4, none⟩ = some (.int .i64 k) := by first | go_keep | simp
  have hbw : Below w.heap.size w ((w.alloc (.cells #[.int .i64 op, .int .i64 a, .int .i64 b, .int .i64 c, .int .i64 k] 50)).alloc (.cells #[.int .u8 (op % 256), .int .u8 (a % 256), .int .u8 (b % 256), .int .u8 (c % 256)] 5)) := by (repeat' (first | (with_reducible exact Below.refl _ _) | (with_reducible assumption) | (with_reducible refine below_alloc ?_ _) | (with_reducible refine Below.drew ?_) | (with_reducible refine below_drewN ?_ _) | (with_reducible refine below_step (by assumption) ?_) | (with_reducible refine below_later ?_ _) | (with_reducible refine Below.setCell ?_ ?_ _) | go_size))
  have hz : ((w.alloc (.cells #[.int .i64 op, .int .i64 a, .int .i64 b, .int .i64 c, .int .i64 k] 50)).alloc (.cells #[.int .u8 (op % 256), .int .u8 (a % 256), .int .u8 (b % 256), .int .u8 (c % 256)] 5)).heap.size = w.heap.size + 2 := by simp
  generalize (w.alloc (.cells #[.int .i64 op, .int .i64 a, .int .i64 b, .int .i64 c, .int .i64 k] 50)).alloc (.cells #[.int .u8 (op % 256), .int .u8 (a % 256), .int .u8 (b % 256), .int .u8 (c % 256)] 5) = W2 at *
  go_loopg [3, 4] 8 (fun kx s3 s4 wr => ∃ (j : Nat) (r : Option Addr) (co : Nat) (out : List Int) (kk : Int), s3 = .slice r out.length co ∧ s4 = .int .i64 kk ∧ kk = 56 - 8 * (j : Int) ∧ j ≤ 8 ∧ 8 - j ≤ kx ∧ Below (w.heap.size + 1) W2 wr ∧ Hid (OwnK .u8 5 wr (w.heap.size + 1) r co out) ∧ Hid (out = [op % 256, a % 256, b % 256, c % 256] ++ (num8 k).take j) ∧ Hid (out.length = 4 + j))
  case atStart => exact ⟨0, some ⟨w.heap.size + 1, 0, none⟩, 4, [op % 256, a % 256, b % 256, c % 256], 56, rfl, by first | rfl | go_num, by omega, by omega, by omega, Below.refl _ _, HO, Lib.hid (by simp), Lib.hid rfl⟩
  case round =>
    clear HO
    obtain ⟨j, r, co, out, kk, rfl, rfl, hkk, hj, hkx, hbr, HO, HQ, HL⟩ := hrel
    have hrs := hbr.size
    by_cases hlt : j < 8
    · have hk1 : (0 : Int) ≤ kk := by omega
      have hk2 : IntKind.i64.wrap (kk - 8) = kk - 8 := IntWalk.i64_in _ (by omega)
      have hk6 : IntKind.u64.wrap kk = kk := by simp [IntKind.wrap, IntKind.signed, IntKind.bits]; omega
      have hk4 : min kk.toNat 64 = kk.toNat := by omega
      have hv : IntKind.u8.wrap (IntKind.u64.wrap k / 2 ^ kk.toNat) = byteAt k j := by rw [hkk]; exact shr_byte k hlt
      have HQ2 := Lib.hid (num8_take (n := k) hlt)
      have hol : out.length ≤ 12 := by have := HL.out; omega
      have hc4w : wr.cell? ⟨w.heap.size, 4, none⟩ = some (.int .i64 k) := (hbr.cell (p := ⟨w.heap.size, 4, none⟩) (Nat.lt_succ_self _)).trans hc4
      have HKK := Lib.hid hkk
      clear hkk hc4
      generalize byteAt k j = x at *
      go_wp2_with (at_builtin; refine wpList_append_k Try.underlying29 infoU8 rfl (by omega) (by rfl) _ _ (by rfl) wr (w.heap.size + 1) r co out [x] 1 rfl (by omega) (by rfl) (by rfl) (by rfl) HO.out (by omega) (by omega) ?_; intro r' c' w1 hown1 hbw1)
      have HO1 := Lib.hid hown1
      clear hown1
      go_roundg (8 - (j + 1))
      case measure => omega
      case rel => exact ⟨j + 1, r', c', out ++ [x], kk - 8, by simp, by go_num, by have := HKK.out; omega, by omega, by omega, hbr.trans hbw1, HO1, Lib.hid (by rw [HQ.out, HQ2.out, List.append_assoc]), Lib.hid (by rw [List.length_append, HL.out]; rfl)⟩
    · obtain rfl : j = 8 := by omega
      obtain rfl : kk = -8 := by omega
      go_wp2
      go_ret
      have hol2 : out.length = 12 := HL.out
      refine ⟨r, co, by first | rfl | (rw [hol2]; rfl), ?_, hbw.trans (hbr.mono (by omega))⟩
      have := HO.out
      rw [HQ.out] at this
      exact this.base (by omega)
end Go.Proofs.Ytfooefiaenlhmaa
namespace Go.Proofs.Ytfooefiaenlhmaa
set_option linter.unusedVariables false
set_option linter.unusedSimpArgs false
open Go.RowKit Go.ChangeShapes Go.WideShapes Go.ChangeAt Go.Deep

/-- A slice of slices of integers that came in: its rows. -/
structure IsRows (W : World) (r : Option Addr) (cap : Nat) (rows : List (List Int)) : Prop where
  le : rows.length ≤ cap
  max : cap ≤ maxLen
  cells : rows ≠ [] → ∃ b off, r = some ⟨b, off, none⟩ ∧ b < W.heap.size ∧ ∀ i, i < rows.length → ∃ ri ci, W.cell? ⟨b, off + i, none⟩ = some (.slice ri (rows.getD i []).length ci) ∧ IsInts W ri ci .i64 (rows.getD i [])

theorem IsRows.later {W W' : World} {r : Option Addr} {cap : Nat} {rows : List (List Int)} (h : IsRows W r cap rows) (hb : Below W.heap.size W W') : IsRows W' r cap rows :=
  ⟨h.le, h.max, fun hne => by
    obtain ⟨b, off, h1, h2, h3⟩ := h.cells hne
    refine ⟨b, off, h1, Nat.lt_of_lt_of_le h2 hb.size, fun i hi => ?_⟩
    obtain ⟨ri, ci, g1, g2⟩ := h3 i hi
    exact ⟨ri, ci, by rw [hb.cell (p := ⟨b, off + i, none⟩) h2]; exact g1, g2.later hb⟩⟩

theorem addr_add_none {a : Addr} {i : Nat} {W : World} {v : Value} (h : W.cell? (a.add i) = some v) : a.add i = ⟨a.block, a.off + i, none⟩ := by
  obtain ⟨b, off, spot⟩ := a
  have hs := World.cell?_spot h
  by_cases hi : i = 0
  · subst hi
    have : spot = none := by simpa [Addr.add] using hs
    subst this
    simp [Addr.add]
  · simp only [Addr.add, hi, if_false] at hs ⊢
    first | done | rfl | simp_all

theorem rd_rows {P : Program} {W : World} {t e q : TypeId} {cs : List Value} (ht : P.underlying t = some (.slice e)) (he : P.underlying e = some (.slice q)) (hq : P.underlying q = some (.int .i64)) (ce : P.cellsOf e = 1) (cq : P.cellsOf q = 1) (h : Rd P W t cs) :
    ∃ (r : Option Addr) (cap : Nat) (rows : List (List Int)), cs = [.slice r rows.length cap] ∧ IsRows W r cap rows := by
  obtain ⟨H, enc, fuel, y, hf⟩ := h
  rcases open_int_rows ht he hq ce cq hf with ⟨rfl, _⟩ | ⟨a, len, cap, A, L, C, Z, rfl, _, hl, hm, _, hr⟩
  · exact ⟨none, 0, [], rfl, ⟨Nat.le_refl _, Nat.zero_le _, fun h => absurd rfl h⟩⟩
  · refine ⟨some a, cap, (List.range len).map fun i => (Z i).take (L i), by simp, ⟨by simpa using hl, hm, fun hne => ?_⟩⟩
    have h0 : 0 < len := by
      rcases Nat.eq_zero_or_pos len with h | h
      · subst h; simp at hne
      · exact h
    have hc0 := (hr 0 (by omega)).1
    have ha := addr_add_none hc0
    obtain ⟨b, off, spot⟩ := a
    have hspot : spot = none := by simpa [Addr.add] using World.cell?_spot hc0
    subst hspot
    refine ⟨b, off, rfl, by have := World.block_lt_of_cell? _ _ hc0; simpa [Addr.add] using this, fun i hi => ?_⟩
    have hi' : i < len := by simpa using hi
    obtain ⟨g1, g2, g3, g4, g5, g6, g7⟩ := hr i (by omega)
    have hrow : ((List.range len).map fun i => (Z i).take (L i)).getD i [] = (Z i).take (L i) := by simp [List.getD, List.getElem?_map, hi']
    have hlen : ((Z i).take (L i)).length = L i := by rw [List.length_take]; omega
    rw [addr_add_none g1] at g1
    refine ⟨A i, C i, by rw [hrow, hlen]; exact g1, ?_⟩
    rw [hrow]
    refine ⟨by omega, g3, fun x hx => g5 x (List.mem_of_mem_take hx), fun hne2 => ?_⟩
    have hL0 : 0 < L i := by
      rcases Nat.eq_zero_or_pos (L i) with h | h
      · rw [h] at hne2; simp at hne2
      · exact h
    cases hA : A i with
    | none => have := g6 hA; omega
    | some a' =>
      obtain ⟨_, hcell⟩ := g7 a' hA
      have hc1 := hcell 0 (by omega)
      obtain ⟨b', off', spot'⟩ := a'
      have hspot' : spot' = none := by simpa [Addr.add] using World.cell?_spot hc1
      subst hspot'
      refine ⟨b', off', rfl, by have := World.block_lt_of_cell? _ _ hc1; simpa [Addr.add] using this, fun j hj => ?_⟩
      have hcj := hcell j (by omega)
      rw [addr_add_none hcj] at hcj
      rw [hcj]
      rw [hlen] at hj
      simp [List.getD, List.getElem?_take, hj]

end Go.Proofs.Ytfooefiaenlhmaa
namespace Go.Proofs.Ytfooefiaenlhmaa
set_option linter.unusedVariables false
set_option linter.unusedSimpArgs false

theorem open_Instr {W : World} {cs : List Value} (h : Rd Try.prog W 50 cs) : ∃ (a0 : Int) (a1 : Int) (a2 : Int) (a3 : Int) (a4 : Int), cs = [.int .i64 a0, .int .i64 a1, .int .i64 a2, .int .i64 a3, .int .i64 a4] ∧ I64 a0 ∧ I64 a1 ∧ I64 a2 ∧ I64 a3 ∧ I64 a4 := by
  obtain ⟨hl, hf⟩ := rd_struct Try.underlying50 h
  rw [show Try.prog.cellsOf 50 = 5 from by kernel_rfl] at hl
  obtain ⟨x0, t0, rfl, hl0⟩ := len_succ hl
  obtain ⟨x1, t1, rfl, hl1⟩ := len_succ hl0
  obtain ⟨x2, t2, rfl, hl2⟩ := len_succ hl1
  obtain ⟨x3, t3, rfl, hl3⟩ := len_succ hl2
  obtain ⟨x4, t4, rfl, hl4⟩ := len_succ hl3
  obtain rfl : t4 = [] := List.length_eq_zero_iff.1 hl4
  have f0 : Rd Try.prog W 3 [x0] := by
    have := hf 0 _ rfl
    simpa [show Try.prog.cellsOf 3 = 1 from by kernel_rfl] using this
  obtain ⟨a0, e0, h0⟩ := rd_int Try.underlying3 f0
  simp only [List.cons.injEq, and_true] at e0
  subst e0
  have f1 : Rd Try.prog W 3 [x1] := by
    have := hf 1 _ rfl
    simpa [show Try.prog.cellsOf 3 = 1 from by kernel_rfl] using this
  obtain ⟨a1, e1, h1⟩ := rd_int Try.underlying3 f1
  simp only [List.cons.injEq, and_true] at e1
  subst e1
  have f2 : Rd Try.prog W 3 [x2] := by
    have := hf 2 _ rfl
    simpa [show Try.prog.cellsOf 3 = 1 from by kernel_rfl] using this
  obtain ⟨a2, e2, h2⟩ := rd_int Try.underlying3 f2
  simp only [List.cons.injEq, and_true] at e2
  subst e2
  have f3 : Rd Try.prog W 3 [x3] := by
    have := hf 3 _ rfl
    simpa [show Try.prog.cellsOf 3 = 1 from by kernel_rfl] using this
  obtain ⟨a3, e3, h3⟩ := rd_int Try.underlying3 f3
  simp only [List.cons.injEq, and_true] at e3
  subst e3
  have f4 : Rd Try.prog W 3 [x4] := by
    have := hf 4 _ rfl
    simpa [show Try.prog.cellsOf 3 = 1 from by kernel_rfl] using this
  obtain ⟨a4, e4, h4⟩ := rd_int Try.underlying3 f4
  simp only [List.cons.injEq, and_true] at e4
  subst e4
  exact ⟨a0, a1, a2, a3, a4, rfl, h0, h1, h2, h3, h4⟩

theorem open_Unit {W : World} {cs : List Value} (h : Rd Try.prog W 57 cs) : ∃ (a0 : Int) (a1 : Int) (a2 : Int) (a3 : Int) (a4 : Int), cs = [.int .i64 a0, .int .i64 a1, .int .i64 a2, .int .i64 a3, .int .i64 a4] ∧ I64 a0 ∧ I64 a1 ∧ I64 a2 ∧ I64 a3 ∧ I64 a4 := by
  obtain ⟨hl, hf⟩ := rd_struct Try.underlying57 h
  rw [show Try.prog.cellsOf 57 = 5 from by kernel_rfl] at hl
  obtain ⟨x0, t0, rfl, hl0⟩ := len_succ hl
  obtain ⟨x1, t1, rfl, hl1⟩ := len_succ hl0
  obtain ⟨x2, t2, rfl, hl2⟩ := len_succ hl1
  obtain ⟨x3, t3, rfl, hl3⟩ := len_succ hl2
  obtain ⟨x4, t4, rfl, hl4⟩ := len_succ hl3
  obtain rfl : t4 = [] := List.length_eq_zero_iff.1 hl4
  have f0 : Rd Try.prog W 3 [x0] := by
    have := hf 0 _ rfl
    simpa [show Try.prog.cellsOf 3 = 1 from by kernel_rfl] using this
  obtain ⟨a0, e0, h0⟩ := rd_int Try.underlying3 f0
  simp only [List.cons.injEq, and_true] at e0
  subst e0
  have f1 : Rd Try.prog W 3 [x1] := by
    have := hf 1 _ rfl
    simpa [show Try.prog.cellsOf 3 = 1 from by kernel_rfl] using this
  obtain ⟨a1, e1, h1⟩ := rd_int Try.underlying3 f1
  simp only [List.cons.injEq, and_true] at e1
  subst e1
  have f2 : Rd Try.prog W 3 [x2] := by
    have := hf 2 _ rfl
    simpa [show Try.prog.cellsOf 3 = 1 from by kernel_rfl] using this
  obtain ⟨a2, e2, h2⟩ := rd_int Try.underlying3 f2
  simp only [List.cons.injEq, and_true] at e2
  subst e2
  have f3 : Rd Try.prog W 3 [x3] := by
    have := hf 3 _ rfl
    simpa [show Try.prog.cellsOf 3 = 1 from by kernel_rfl] using this
  obtain ⟨a3, e3, h3⟩ := rd_int Try.underlying3 f3
  simp only [List.cons.injEq, and_true] at e3
  subst e3
  have f4 : Rd Try.prog W 3 [x4] := by
    have := hf 4 _ rfl
    simpa [show Try.prog.cellsOf 3 = 1 from by kernel_rfl] using this
  obtain ⟨a4, e4, h4⟩ := rd_int Try.underlying3 f4
  simp only [List.cons.injEq, and_true] at e4
  subst e4
  exact ⟨a0, a1, a2, a3, a4, rfl, h0, h1, h2, h3, h4⟩

theorem open_Fixed {W : World} {cs : List Value} (h : Rd Try.prog W 59 cs) : ∃ (a0 : Int) (a1 : Bool) (a2 : Int) (a3 : Int) (a4 : Int) (a5 : Int) (a6 : Int) (a7 : Int) (a8 : Int) (a9 : Int), cs = [.int .i64 a0, .bool a1, .int .i64 a2, .int .i64 a3, .int .i64 a4, .int .i64 a5, .int .i64 a6, .int .i64 a7, .int .i64 a8, .int .i64 a9] ∧ I64 a0 ∧ I64 a2 ∧ I64 a3 ∧ I64 a4 ∧ I64 a5 ∧ I64 a6 ∧ I64 a7 ∧ I64 a8 ∧ I64 a9 := by
  obtain ⟨hl, hf⟩ := rd_struct Try.underlying59 h
  rw [show Try.prog.cellsOf 59 = 10 from by kernel_rfl] at hl
  obtain ⟨x0, t0, rfl, hl0⟩ := len_succ hl
  obtain ⟨x1, t1, rfl, hl1⟩ := len_succ hl0
  obtain ⟨x2, t2, rfl, hl2⟩ := len_succ hl1
  obtain ⟨x3, t3, rfl, hl3⟩ := len_succ hl2
  obtain ⟨x4, t4, rfl, hl4⟩ := len_succ hl3
  obtain ⟨x5, t5, rfl, hl5⟩ := len_succ hl4
  obtain ⟨x6, t6, rfl, hl6⟩ := len_succ hl5
  obtain ⟨x7, t7, rfl, hl7⟩ := len_succ hl6
  obtain ⟨x8, t8, rfl, hl8⟩ := len_succ hl7
  obtain ⟨x9, t9, rfl, hl9⟩ := len_succ hl8
  obtain rfl : t9 = [] := List.length_eq_zero_iff.1 hl9
  have f0 : Rd Try.prog W 3 [x0] := by
    have := hf 0 _ rfl
    simpa [show Try.prog.cellsOf 3 = 1 from by kernel_rfl] using this
  obtain ⟨a0, e0, h0⟩ := rd_int Try.underlying3 f0
  simp only [List.cons.injEq, and_true] at e0
  subst e0
  have f1 : Rd Try.prog W 4 [x1] := by
    have := hf 1 _ rfl
    simpa [show Try.prog.cellsOf 4 = 1 from by kernel_rfl] using this
  obtain ⟨a1, e1⟩ := rd_bool Try.underlying4 f1
  simp only [List.cons.injEq, and_true] at e1
  subst e1
  have f2 : Rd Try.prog W 3 [x2] := by
    have := hf 2 _ rfl
    simpa [show Try.prog.cellsOf 3 = 1 from by kernel_rfl] using this
  obtain ⟨a2, e2, h2⟩ := rd_int Try.underlying3 f2
  simp only [List.cons.injEq, and_true] at e2
  subst e2
  have f3 : Rd Try.prog W 3 [x3] := by
    have := hf 3 _ rfl
    simpa [show Try.prog.cellsOf 3 = 1 from by kernel_rfl] using this
  obtain ⟨a3, e3, h3⟩ := rd_int Try.underlying3 f3
  simp only [List.cons.injEq, and_true] at e3
  subst e3
  have f4 : Rd Try.prog W 3 [x4] := by
    have := hf 4 _ rfl
    simpa [show Try.prog.cellsOf 3 = 1 from by kernel_rfl] using this
  obtain ⟨a4, e4, h4⟩ := rd_int Try.underlying3 f4
  simp only [List.cons.injEq, and_true] at e4
  subst e4
  have f5 : Rd Try.prog W 57 [x5, x6, x7, x8, x9] := by
    have := hf 5 _ rfl
    simpa [show Try.prog.cellsOf 57 = 5 from by kernel_rfl] using this
  obtain ⟨a5, a6, a7, a8, a9, e5, h5, h6, h7, h8, h9⟩ := open_Unit f5
  simp only [List.cons.injEq, and_true] at e5
  obtain ⟨rfl, rfl, rfl, rfl, rfl⟩ := e5
  exact ⟨a0, a1, a2, a3, a4, a5, a6, a7, a8, a9, rfl, h0, h2, h3, h4, h5, h6, h7, h8, h9⟩

theorem open_Curve {W : World} {cs : List Value} (h : Rd Try.prog W 53 cs) : ∃ (r0 : Option Addr) (c0 : Nat) (a0 : List Int) (r1 : Option Addr) (c1 : Nat) (a1 : List Int), cs = [.slice r0 a0.length c0, .slice r1 a1.length c1] ∧ IsInts W r0 c0 .i64 a0 ∧ IsInts W r1 c1 .i64 a1 := by
  obtain ⟨hl, hf⟩ := rd_struct Try.underlying53 h
  rw [show Try.prog.cellsOf 53 = 2 from by kernel_rfl] at hl
  obtain ⟨x0, t0, rfl, hl0⟩ := len_succ hl
  obtain ⟨x1, t1, rfl, hl1⟩ := len_succ hl0
  obtain rfl : t1 = [] := List.length_eq_zero_iff.1 hl1
  have f0 : Rd Try.prog W 26 [x0] := by
    have := hf 0 _ rfl
    simpa [show Try.prog.cellsOf 26 = 1 from by kernel_rfl] using this
  obtain ⟨r0, c0, a0, e0, h0⟩ := rd_ints Try.underlying26 Try.underlying3 (by kernel_rfl) f0
  simp only [List.cons.injEq, and_true] at e0
  subst e0
  have f1 : Rd Try.prog W 26 [x1] := by
    have := hf 1 _ rfl
    simpa [show Try.prog.cellsOf 26 = 1 from by kernel_rfl] using this
  obtain ⟨r1, c1, a1, e1, h1⟩ := rd_ints Try.underlying26 Try.underlying3 (by kernel_rfl) f1
  simp only [List.cons.injEq, and_true] at e1
  subst e1
  exact ⟨r0, c0, a0, r1, c1, a1, rfl, h0, h1⟩

theorem open_Map {W : World} {cs : List Value} (h : Rd Try.prog W 55 cs) : ∃ (r0 : Option Addr) (c0 : Nat) (a0 : List Int) (r1 : Option Addr) (c1 : Nat) (a1 : List Int) (r2 : Option Addr) (c2 : Nat) (a2 : List (List Int)), cs = [.slice r0 a0.length c0, .slice r1 a1.length c1, .slice r2 a2.length c2] ∧ IsInts W r0 c0 .i64 a0 ∧ IsInts W r1 c1 .i64 a1 ∧ IsRows W r2 c2 a2 := by
  obtain ⟨hl, hf⟩ := rd_struct Try.underlying55 h
  rw [show Try.prog.cellsOf 55 = 3 from by kernel_rfl] at hl
  obtain ⟨x0, t0, rfl, hl0⟩ := len_succ hl
  obtain ⟨x1, t1, rfl, hl1⟩ := len_succ hl0
  obtain ⟨x2, t2, rfl, hl2⟩ := len_succ hl1
  obtain rfl : t2 = [] := List.length_eq_zero_iff.1 hl2
  have f0 : Rd Try.prog W 26 [x0] := by
    have := hf 0 _ rfl
    simpa [show Try.prog.cellsOf 26 = 1 from by kernel_rfl] using this
  obtain ⟨r0, c0, a0, e0, h0⟩ := rd_ints Try.underlying26 Try.underlying3 (by kernel_rfl) f0
  simp only [List.cons.injEq, and_true] at e0
  subst e0
  have f1 : Rd Try.prog W 26 [x1] := by
    have := hf 1 _ rfl
    simpa [show Try.prog.cellsOf 26 = 1 from by kernel_rfl] using this
  obtain ⟨r1, c1, a1, e1, h1⟩ := rd_ints Try.underlying26 Try.underlying3 (by kernel_rfl) f1
  simp only [List.cons.injEq, and_true] at e1
  subst e1
  have f2 : Rd Try.prog W 51 [x2] := by
    have := hf 2 _ rfl
    simpa [show Try.prog.cellsOf 51 = 1 from by kernel_rfl] using this
  obtain ⟨r2, c2, a2, e2, h2⟩ := rd_rows Try.underlying51 Try.underlying26 Try.underlying3 (by kernel_rfl) (by kernel_rfl) f2
  simp only [List.cons.injEq, and_true] at e2
  subst e2
  exact ⟨r0, c0, a0, r1, c1, a1, r2, c2, a2, rfl, h0, h1, h2⟩

end Go.Proofs.Ytfooefiaenlhmaa
namespace Go.Proofs.Ytfooefiaenlhmaa
set_option linter.unusedVariables false
set_option linter.unusedSimpArgs false
open Go.RowKit Go.ChangeShapes Go.WideShapes Go.ChangeAt Go.Deep

/-- A slice of structs of sz cells each that came in. -/
structure IsS {α : Type} (sz : Nat) (enc : α → List Value) (W : World) (r : Option Addr) (cap : Nat) (xs : List α) : Prop where
  le : xs.length ≤ cap
  max : cap ≤ maxLen
  cells : xs ≠ [] → ∃ b off, r = some ⟨b, off, none⟩ ∧ b < W.heap.size ∧ ∀ i x, xs[i]? = some x → ∀ j u, (enc x)[j]? = some u → W.cell? ⟨b, off + i * sz + j, none⟩ = some u
theorem IsS.later {α : Type} {sz : Nat} {enc : α → List Value} {W W' : World} {r : Option Addr} {cap : Nat} {xs : List α} (h : IsS sz enc W r cap xs) (hb : Below W.heap.size W W') : IsS sz enc W' r cap xs :=
  ⟨h.le, h.max, fun hne => by
    obtain ⟨b, off, h1, h2, h3⟩ := h.cells hne
    exact ⟨b, off, h1, Nat.lt_of_lt_of_le h2 hb.size, fun i x hi j u hj => by rw [hb.cell (p := ⟨b, off + i * sz + j, none⟩) h2]; exact h3 i x hi j u hj⟩⟩
theorem rd_slices {α : Type} [Inhabited α] {P : Program} {W : World} {t e : TypeId} {cs : List Value} (sz : Nat) (enc : α → List Value) (good : α → Prop) (ht : P.underlying t = some (.slice e)) (hc : P.cellsOf e = sz) (henc : ∀ x, ∃ u l, enc x = u :: l)
    (open1 : ∀ cs, Rd P W e cs → ∃ x, cs = enc x ∧ good x) (h : Rd P W t cs) : ∃ (r : Option Addr) (cap : Nat) (xs : List α), cs = [.slice r xs.length cap] ∧ IsS sz enc W r cap xs ∧ ∀ x ∈ xs, good x := by
  obtain ⟨H, enc', fuel, y, hf⟩ := h
  rcases open_slice ht hf with ⟨rfl, _⟩ | ⟨a, len, cap, m, n, D, Pl, rfl, _, hl, hm, hmm, _, hx⟩
  · exact ⟨none, 0, [], rfl, ⟨Nat.le_refl _, Nat.zero_le _, fun h => absurd rfl h⟩, by simp⟩
  · simp only [if_true] at hmm
    subst hmm
    have hx2 : ∀ i, i < len → ∃ x, good x ∧ ∀ j u, (enc x)[j]? = some u → W.cell? (a.add (i * sz + j)) = some u := fun i hi => by
      obtain ⟨cs', h1, h2⟩ := hx i (by omega)
      obtain ⟨x, rfl, hg⟩ := open1 cs' ⟨H, enc', n, _, h2⟩
      refine ⟨x, hg, fun j u hj => ?_⟩
      obtain ⟨_, hlen, hcell⟩ := World.cells?_some h1
      have hj2 : j < P.cellsOf e := by rw [← hlen]; exact (List.getElem?_eq_some_iff.1 hj).1
      have := hcell j hj2
      rw [add_add, hc] at this
      rw [this, hj]
    obtain ⟨V, hV⟩ := choose_lt hx2
    have hget : ∀ (i : Nat) (x : α), ((List.range len).map V)[i]? = some x → i < len ∧ x = V i := fun i x hi => by
      rw [List.getElem?_map] at hi
      have hlt : i < len := by
        rcases Nat.lt_or_ge i len with h | h
        · exact h
        · rw [List.getElem?_eq_none (by simpa using h)] at hi; cases hi
      rw [List.getElem?_range hlt] at hi
      simp at hi
      exact ⟨hlt, hi.symm⟩
    refine ⟨some a, _, (List.range len).map V, by simp, ⟨by simpa using hl, hm, fun hne => ?_⟩, fun x hx3 => ?_⟩
    · have hlen0 : 0 < len := by
        rcases Nat.eq_zero_or_pos len with h | h
        · subst h; simp at hne
        · exact h
      obtain ⟨u, l, hu⟩ := henc (V 0)
      have hc0 := (hV 0 hlen0).2 0 u (by rw [hu]; rfl)
      obtain ⟨b, off, spot⟩ := a
      have hspot : spot = none := by simpa [Addr.add] using World.cell?_spot hc0
      subst hspot
      have hb := World.block_lt_of_cell? _ _ hc0
      refine ⟨b, off, rfl, by simpa [Addr.add] using hb, fun i x hi j v hj => ?_⟩
      obtain ⟨hi2, rfl⟩ := hget i x hi
      have := (hV i hi2).2 j v hj
      rw [addr_add_none this] at this
      rw [Nat.add_assoc]
      exact this
    · obtain ⟨i, hi, rfl⟩ := List.mem_map.1 hx3
      exact (hV i (List.mem_range.1 hi)).1

/-- An instruction. -/
structure Ins where
  op : Int
  a : Int
  b : Int
  c : Int
  k : Int
instance : Inhabited Ins := ⟨⟨0, 0, 0, 0, 0⟩⟩
def Ins.enc (i : Ins) : List Value := [.int .i64 i.op, .int .i64 i.a, .int .i64 i.b, .int .i64 i.c, .int .i64 i.k]
def Ins.ok (i : Ins) : Prop := I64 i.op ∧ I64 i.a ∧ I64 i.b ∧ I64 i.c ∧ I64 i.k
/-- A type. -/
structure Fx where
  bits : Int
  sg : Bool
  num : Int
  off : Int
  den : Int
  m : Int
  kg : Int
  s : Int
  a : Int
  k : Int
instance : Inhabited Fx := ⟨⟨0, false, 0, 0, 0, 0, 0, 0, 0, 0⟩⟩
def Fx.enc (t : Fx) : List Value := [.int .i64 t.bits, .bool t.sg, .int .i64 t.num, .int .i64 t.off, .int .i64 t.den, .int .i64 t.m, .int .i64 t.kg, .int .i64 t.s, .int .i64 t.a, .int .i64 t.k]
def Fx.ok (t : Fx) : Prop := I64 t.bits ∧ I64 t.num ∧ I64 t.off ∧ I64 t.den ∧ I64 t.m ∧ I64 t.kg ∧ I64 t.s ∧ I64 t.a ∧ I64 t.k
/-- A curve, where it lies. -/
structure Cv where
  rx : Option Addr
  cx : Nat
  X : List Int
  ry : Option Addr
  cy : Nat
  Y : List Int
instance : Inhabited Cv := ⟨⟨none, 0, [], none, 0, []⟩⟩
def Cv.enc (c : Cv) : List Value := [.slice c.rx c.X.length c.cx, .slice c.ry c.Y.length c.cy]
def Cv.ok (W : World) (c : Cv) : Prop := IsInts W c.rx c.cx .i64 c.X ∧ IsInts W c.ry c.cy .i64 c.Y
/-- A map, where it lies. -/
structure Mp where
  rx : Option Addr
  cx : Nat
  X : List Int
  ry : Option Addr
  cy : Nat
  Y : List Int
  rz : Option Addr
  cz : Nat
  Z : List (List Int)
instance : Inhabited Mp := ⟨⟨none, 0, [], none, 0, [], none, 0, []⟩⟩
def Mp.enc (m : Mp) : List Value := [.slice m.rx m.X.length m.cx, .slice m.ry m.Y.length m.cy, .slice m.rz m.Z.length m.cz]
def Mp.ok (W : World) (m : Mp) : Prop := IsInts W m.rx m.cx .i64 m.X ∧ IsInts W m.ry m.cy .i64 m.Y ∧ IsRows W m.rz m.cz m.Z
theorem Cv.ok.later {W W' : World} {c : Cv} (h : c.ok W) (hb : Below W.heap.size W W') : c.ok W' := ⟨h.1.later hb, h.2.later hb⟩
theorem Mp.ok.later {W W' : World} {m : Mp} (h : m.ok W) (hb : Below W.heap.size W W') : m.ok W' := ⟨h.1.later hb, h.2.1.later hb, h.2.2.later hb⟩
/-- A program, where it lies. -/
structure PV where
  rc : Option Addr
  cc : Nat
  code : List Ins
  rt : Option Addr
  ct : Nat
  types : List Fx
  rv : Option Addr
  cv : Nat
  curves : List Cv
  rm : Option Addr
  cm : Nat
  maps : List Mp
  cells : Int
  ri : Option Addr
  ci : Nat
  inputs : List Int
  rs : Option Addr
  cs : Nat
  states : List Int
  ro : Option Addr
  co : Nat
  outputs : List Int
  rn : Option Addr
  cn : Nat
  initial : List Int
def PV.enc (p : PV) : List Value := [.slice p.rc p.code.length p.cc, .slice p.rt p.types.length p.ct, .slice p.rv p.curves.length p.cv, .slice p.rm p.maps.length p.cm, .int .i64 p.cells, .slice p.ri p.inputs.length p.ci, .slice p.rs p.states.length p.cs, .slice p.ro p.outputs.length p.co, .slice p.rn p.initial.length p.cn]
def PV.val (p : PV) : Value := .agg #[.slice p.rc p.code.length p.cc, .slice p.rt p.types.length p.ct, .slice p.rv p.curves.length p.cv, .slice p.rm p.maps.length p.cm, .int .i64 p.cells, .slice p.ri p.inputs.length p.ci, .slice p.rs p.states.length p.cs, .slice p.ro p.outputs.length p.co, .slice p.rn p.initial.length p.cn]
theorem PV.val_eq (p : PV) : p.val = .agg p.enc.toArray := rfl
/-- The program p lies in W. -/
structure IsP (W : World) (p : PV) : Prop where
  code : IsS 5 Ins.enc W p.rc p.cc p.code
  codeG : ∀ x ∈ p.code, x.ok
  types : IsS 10 Fx.enc W p.rt p.ct p.types
  typesG : ∀ x ∈ p.types, x.ok
  curves : IsS 2 Cv.enc W p.rv p.cv p.curves
  curvesG : ∀ x ∈ p.curves, x.ok W
  maps : IsS 3 Mp.enc W p.rm p.cm p.maps
  mapsG : ∀ x ∈ p.maps, x.ok W
  cells : I64 p.cells
  inputs : IsInts W p.ri p.ci .i64 p.inputs
  states : IsInts W p.rs p.cs .i64 p.states
  outputs : IsInts W p.ro p.co .i64 p.outputs
  initial : IsInts W p.rn p.cn .i64 p.initial
theorem IsP.later {W W' : World} {p : PV} (h : IsP W p) (hb : Below W.heap.size W W') : IsP W' p :=
  ⟨h.code.later hb, h.codeG, h.types.later hb, h.typesG, h.curves.later hb, fun x hx => (h.curvesG x hx).later hb, h.maps.later hb, fun x hx => (h.mapsG x hx).later hb, h.cells, h.inputs.later hb, h.states.later hb, h.outputs.later hb, h.initial.later hb⟩
theorem open_code {W : World} {cs : List Value} (h : Rd Try.prog W 22 cs) : ∃ (r : Option Addr) (cap : Nat) (xs : List Ins), cs = [.slice r xs.length cap] ∧ IsS 5 Ins.enc W r cap xs ∧ ∀ x ∈ xs, x.ok :=
  rd_slices 5 Ins.enc Ins.ok Try.underlying22 (by kernel_rfl) (fun x => ⟨_, _, rfl⟩) (fun cs h => by
    obtain ⟨a, b, c, d, e, rfl, h1, h2, h3, h4, h5⟩ := open_Instr h
    exact ⟨⟨a, b, c, d, e⟩, rfl, h1, h2, h3, h4, h5⟩) h
theorem open_types {W : World} {cs : List Value} (h : Rd Try.prog W 23 cs) : ∃ (r : Option Addr) (cap : Nat) (xs : List Fx), cs = [.slice r xs.length cap] ∧ IsS 10 Fx.enc W r cap xs ∧ ∀ x ∈ xs, x.ok :=
  rd_slices 10 Fx.enc Fx.ok Try.underlying23 (by kernel_rfl) (fun x => ⟨_, _, rfl⟩) (fun cs h => by
    obtain ⟨a, b, c, d, e, f, g, i, j, k, rfl, h1, h2, h3, h4, h5, h6, h7, h8, h9⟩ := open_Fixed h
    exact ⟨⟨a, b, c, d, e, f, g, i, j, k⟩, rfl, h1, h2, h3, h4, h5, h6, h7, h8, h9⟩) h
theorem open_curves {W : World} {cs : List Value} (h : Rd Try.prog W 24 cs) : ∃ (r : Option Addr) (cap : Nat) (xs : List Cv), cs = [.slice r xs.length cap] ∧ IsS 2 Cv.enc W r cap xs ∧ ∀ x ∈ xs, x.ok W :=
  rd_slices 2 Cv.enc (Cv.ok W) Try.underlying24 (by kernel_rfl) (fun x => ⟨_, _, rfl⟩) (fun cs h => by
    obtain ⟨r0, c0, a0, r1, c1, a1, rfl, h0, h1⟩ := open_Curve h
    exact ⟨⟨r0, c0, a0, r1, c1, a1⟩, rfl, h0, h1⟩) h
theorem open_maps {W : World} {cs : List Value} (h : Rd Try.prog W 25 cs) : ∃ (r : Option Addr) (cap : Nat) (xs : List Mp), cs = [.slice r xs.length cap] ∧ IsS 3 Mp.enc W r cap xs ∧ ∀ x ∈ xs, x.ok W :=
  rd_slices 3 Mp.enc (Mp.ok W) Try.underlying25 (by kernel_rfl) (fun x => ⟨_, _, rfl⟩) (fun cs h => by
    obtain ⟨r0, c0, a0, r1, c1, a1, r2, c2, a2, rfl, h0, h1, h2⟩ := open_Map h
    exact ⟨⟨r0, c0, a0, r1, c1, a1, r2, c2, a2⟩, rfl, h0, h1, h2⟩) h
set_option maxRecDepth 100000 in
theorem open_Program {W : World} {cs : List Value} (h : Rd Try.prog W 28 cs) : ∃ p : PV, cs = p.enc ∧ IsP W p := by
  obtain ⟨hl, hf⟩ := rd_struct Try.underlying28 h
  rw [show Try.prog.cellsOf 28 = 9 from by kernel_rfl] at hl
  obtain ⟨x0, t0, rfl, hl0⟩ := len_succ hl
  obtain ⟨x1, t1, rfl, hl1⟩ := len_succ hl0
  obtain ⟨x2, t2, rfl, hl2⟩ := len_succ hl1
  obtain ⟨x3, t3, rfl, hl3⟩ := len_succ hl2
  obtain ⟨x4, t4, rfl, hl4⟩ := len_succ hl3
  obtain ⟨x5, t5, rfl, hl5⟩ := len_succ hl4
  obtain ⟨x6, t6, rfl, hl6⟩ := len_succ hl5
  obtain ⟨x7, t7, rfl, hl7⟩ := len_succ hl6
  obtain ⟨x8, t8, rfl, hl8⟩ := len_succ hl7
  obtain rfl : t8 = [] := List.length_eq_zero_iff.1 hl8
  have f0 : Rd Try.prog W 22 [x0] := by
    have := hf 0 _ rfl
    simpa [show Try.prog.cellsOf 22 = 1 from by kernel_rfl] using this
  have f1 : Rd Try.prog W 23 [x1] := by
    have := hf 1 _ rfl
    simpa [show Try.prog.cellsOf 23 = 1 from by kernel_rfl] using this
  have f2 : Rd Try.prog W 24 [x2] := by
    have := hf 2 _ rfl
    simpa [show Try.prog.cellsOf 24 = 1 from by kernel_rfl] using this
  have f3 : Rd Try.prog W 25 [x3] := by
    have := hf 3 _ rfl
    simpa [show Try.prog.cellsOf 25 = 1 from by kernel_rfl] using this
  have f4 : Rd Try.prog W 3 [x4] := by
    have := hf 4 _ rfl
    simpa [show Try.prog.cellsOf 3 = 1 from by kernel_rfl] using this
  have f5 : Rd Try.prog W 26 [x5] := by
    have := hf 5 _ rfl
    simpa [show Try.prog.cellsOf 26 = 1 from by kernel_rfl] using this
  have f6 : Rd Try.prog W 26 [x6] := by
    have := hf 6 _ rfl
    simpa [show Try.prog.cellsOf 26 = 1 from by kernel_rfl] using this
  have f7 : Rd Try.prog W 26 [x7] := by
    have := hf 7 _ rfl
    simpa [show Try.prog.cellsOf 26 = 1 from by kernel_rfl] using this
  have f8 : Rd Try.prog W 26 [x8] := by
    have := hf 8 _ rfl
    simpa [show Try.prog.cellsOf 26 = 1 from by kernel_rfl] using this
  obtain ⟨r0, c0, a0, e0, h0, g0⟩ := open_code f0
  obtain ⟨r1, c1, a1, e1, h1, g1⟩ := open_types f1
  obtain ⟨r2, c2, a2, e2, h2, g2⟩ := open_curves f2
  obtain ⟨r3, c3, a3, e3, h3, g3⟩ := open_maps f3
  obtain ⟨a4, e4, h4⟩ := rd_int Try.underlying3 f4
  obtain ⟨r5, c5, a5, e5, h5⟩ := rd_ints Try.underlying26 Try.underlying3 (by kernel_rfl) f5
  obtain ⟨r6, c6, a6, e6, h6⟩ := rd_ints Try.underlying26 Try.underlying3 (by kernel_rfl) f6
  obtain ⟨r7, c7, a7, e7, h7⟩ := rd_ints Try.underlying26 Try.underlying3 (by kernel_rfl) f7
  obtain ⟨r8, c8, a8, e8, h8⟩ := rd_ints Try.underlying26 Try.underlying3 (by kernel_rfl) f8
  simp only [List.cons.injEq, and_true] at e0 e1 e2 e3 e4 e5 e6 e7 e8
  subst e0 e1 e2 e3 e4 e5 e6 e7 e8
  exact ⟨⟨r0, c0, a0, r1, c1, a1, r2, c2, a2, r3, c3, a3, a4, r5, c5, a5, r6, c6, a6, r7, c7, a7, r8, c8, a8⟩, rfl, h0, g0, h1, g1, h2, g2, h3, g3, h4, h5, h6, h7, h8⟩
end Go.Proofs.Ytfooefiaenlhmaa
namespace Go.Proofs.Ytfooefiaenlhmaa
set_option linter.unusedVariables false
set_option linter.unusedSimpArgs false
open Go.RowKit Go.ChangeShapes Go.WideShapes Go.ChangeAt

/-- A program: its numbers. -/
structure PP where
  code : List Ins
  types : List Fx
  curves : List (List Int × List Int)
  maps : List (List Int × List Int × List (List Int))
  cells : Int
  inputs : List Int
  states : List Int
  outputs : List Int
  initial : List Int
def Cv.p (c : Cv) : List Int × List Int := (c.X, c.Y)
def Mp.p (m : Mp) : List Int × List Int × List (List Int) := (m.X, m.Y, m.Z)
def PV.p (v : PV) : PP := ⟨v.code, v.types, v.curves.map Cv.p, v.maps.map Mp.p, v.cells, v.inputs, v.states, v.outputs, v.initial⟩
def Ins.by8 (i : Ins) : List Int := encI i.op i.a i.b i.c i.k
def Fx.nums (t : Fx) : List Int := [t.bits, if t.sg then 1 else 0, t.num, t.off, t.den, t.m, t.kg, t.s, t.a, t.k]
def Fx.by8 (t : Fx) : List Int := nums8 t.nums
def curveB8 (c : List Int × List Int) : List Int := list8 c.1 ++ list8 c.2
def mapB8 (m : List Int × List Int × List (List Int)) : List Int := list8 m.1 ++ list8 m.2.1 ++ m.2.2.flatMap list8
/-- The body of a program. -/
def PP.body (p : PP) : List Int :=
  num8 p.code.length ++ p.code.flatMap Ins.by8 ++ num8 p.types.length ++ p.types.flatMap Fx.by8 ++ num8 p.curves.length ++ p.curves.flatMap curveB8 ++ num8 p.maps.length ++ p.maps.flatMap mapB8 ++
    num8 p.cells ++ list8 p.inputs ++ list8 p.states ++ list8 p.outputs ++ list8 p.initial
theorem flat_take {α : Type} [Inhabited α] (f : α → List Int) {l : List α} {k : Nat} (hk : k < l.length) : (l.take (k + 1)).flatMap f = (l.take k).flatMap f ++ f (l.getD k default) := by
  rw [List.take_add_one, List.getElem?_eq_getElem hk, List.flatMap_append]
  simp [List.getD, List.getElem?_eq_getElem hk]
theorem flat_le {α : Type} (f : α → List Int) (l : List α) (k : Nat) : ((l.take k).flatMap f).length ≤ (l.flatMap f).length := by
  conv => rhs; rw [← List.take_append_drop k l]
  rw [List.flatMap_append, List.length_append]
  omega
theorem getD_mem_of {α : Type} [Inhabited α] {l : List α} {k : Nat} (hk : k < l.length) : l.getD k default ∈ l := by
  simp [List.getD, List.getElem?_eq_getElem hk]
theorem getD_some {α : Type} [Inhabited α] {l : List α} {k : Nat} (hk : k < l.length) : l[k]? = some (l.getD k default) := by
  simp [List.getD, List.getElem?_eq_getElem hk]
theorem bytes_append {xs ys : List Int} (hx : ByteL xs) (hy : ByteL ys) : ByteL (xs ++ ys) := fun y h => (List.mem_append.1 h).elim (hx y) (hy y)
theorem bytes_flat {α : Type} {f : α → List Int} {l : List α} (h : ∀ x ∈ l, ByteL (f x)) : ByteL (l.flatMap f) := fun y hy => by
  obtain ⟨x, hx, hy⟩ := List.mem_flatMap.1 hy
  exact h x hx y hy
theorem curveB8_byte (c : List Int × List Int) : ByteL (curveB8 c) := bytes_append (list8_byte _) (list8_byte _)
theorem mapB8_byte (m : List Int × List Int × List (List Int)) : ByteL (mapB8 m) := bytes_append (bytes_append (list8_byte _) (list8_byte _)) (bytes_flat fun _ _ => list8_byte _)
theorem body_byte (p : PP) : ByteL p.body := by
  unfold PP.body
  repeat' (with_reducible refine bytes_append ?_ ?_)
  all_goals first | exact num8_byte _ | exact list8_byte _ | exact bytes_flat (fun x _ => encI_byte _ _ _ _ _) | exact bytes_flat (fun x _ => nums8_byte _) | exact bytes_flat (fun x _ => curveB8_byte x) | exact bytes_flat (fun x _ => mapB8_byte x)
theorem flat_curves (l : List Cv) : (l.map Cv.p).flatMap curveB8 = l.flatMap fun c => curveB8 c.p := by rw [List.flatMap_map]
theorem flat_maps (l : List Mp) : (l.map Mp.p).flatMap mapB8 = l.flatMap fun c => mapB8 c.p := by rw [List.flatMap_map]
/-- A slice of numbers is appended; what else stays. -/
theorem wpList_append_ksf {k : IntKind} {te : TypeId} {ts : TypeId} {z : Value} {by' : Nat} (hts : Try.prog.underlying ts = some (.slice te)) (hinf : (Try.prog.info? te).map (fun i => (i.zero, i.size, i.bytes)) = some (some z, 1, by')) (hzs : z.cells.size = 1) (hby : by' ≤ 8)
    {ops : Array Oper} {rest : List Oper} {o : Oper} {a : Act} {Q : Exit → Act → World → Prop} {w : World} (hgd : o.guard = none) (s x : Operand)
    (ho : o.op = .call { callee := .builtin .append, args := #[s, x], argTypes := #[ts, ts] }) (base : Nat) (r r2 : Option Addr) (cap c2 : Nat) (xs ys : List Int)
    (hs : a.eval s = .slice r xs.length cap) (hx : a.eval x = .slice r2 ys.length c2) (hown : OwnK k te w base r cap xs) (hys : IsInts w r2 c2 k ys) (hl : xs.length + ys.length ≤ 1099511627776) (hb : base ≤ w.heap.size)
    (h : ∀ r' cap' w', OwnK k te w' base r' cap' (xs ++ ys) → Below base w w' → (∀ q, q < w.heap.size → (∀ a, r = some a → a.block ≠ q) → w'.heap[q]? = w.heap[q]?) → (∀ a, r' = some a → (∃ a0, r = some a0 ∧ a0.block = a.block) ∨ w.heap.size ≤ a.block) → wpList Try.prog ops Q rest (a.put o.dst (.slice r' (xs ++ ys).length cap')) w') : wpList Try.prog ops Q (o :: rest) a w := by
  obtain ⟨i0, hi, hz0, hz1, hz2⟩ := info_parts hinf
  cases r2 with
  | none =>
    have hy : ys = [] := by
      rcases Classical.em (ys = []) with h | h
      · exact h
      · obtain ⟨b, off, h1, _⟩ := hys.cells h
        cases h1
    subst hy
    refine Lib.wpList_append_run w hgd s x _ _ ho _ _ hs hx _ w (run_append_noneK o.type i0 hts hi w r xs.length cap c2 hown.le) ?_
    have := h r cap w (by rw [List.append_nil]; exact hown) (Below.refl _ _) (fun _ _ _ => rfl) (fun a ha => .inl ⟨a, ha, rfl⟩)
    rwa [List.append_nil] at this
  | some ad =>
    refine wpList_append_own_at w hgd s x ts ho base te i0 z 1 by' hts hi hz0 hz1 hz2 hzs (by omega) _ xs.length (xs.map (Value.int k)) hs hown ad ys.length c2 (ys.map (Value.int k)) hx (by simp) ?_ (ints_oneCell k ys) (by unfold maxLen; omega) (by have : (xs.length + ys.length) * by' ≤ 1099511627776 * 8 := Nat.mul_le_mul (by omega) hby; omega) hb ?_
    · intro j u hj
      have hj2 : j < ys.length := by
        rcases Nat.lt_or_ge j ys.length with h | h
        · exact h
        · rw [List.getElem?_eq_none (by simpa using h)] at hj; cases hj
      obtain ⟨b, off, h1, h2, h3⟩ := hys.cells (fun e => by subst e; simp at hj2)
      simp only [Option.some.injEq] at h1
      subst h1
      have h4 := h3 j hj2
      have h5 : (Addr.add ⟨b, off, none⟩ j : Addr) = ⟨b, off + j, none⟩ := by
        by_cases h0 : j = 0
        · subst h0; simp [Addr.add]
        · simp [Addr.add, h0]
      rw [h5, h4, ← hj]
      simp [List.getD, List.getElem?_eq_getElem hj2]
    · intro v' w1 hown1 hgrow _ hg
      have hB : Below base w w1 := (Below.refl base w).grown hgrow hb (fun k hk => (World.ownsRow.lt hown k hk).1)
      have hlen : (xs ++ ys).length = xs.length + ys.length := by simp
      rw [← List.map_append] at hown1
      obtain ⟨r', cap', rfl⟩ : ∃ r' cap', v' = .slice r' (xs ++ ys).length cap' := by
        rcases hown1.2 with ⟨h1, h3⟩ | ⟨g, c, cur, h1, _⟩
        · exact ⟨none, 0, by rw [h1, hlen, h3]⟩
        · exact ⟨_, _, by rw [h1, hlen]⟩
      refine h r' cap' w1 ?_ hB ?_ ?_
      · unfold OwnK
        rw [hlen] at hown1 ⊢
        exact hown1
      · intro q hq hr
        refine hgrow.block q hq ?_
        cases r with
        | none => simp [Value.ownBlock]
        | some a0 =>
          simp only [Value.ownBlock, ne_eq, Option.some.injEq]
          exact fun e => hr a0 rfl e.symm
      · intro a ha
        subst ha
        rcases hg with hg | hg
        · cases r with
          | none => simp [Value.ownBlock] at hg
          | some a0 =>
            simp only [Value.ownBlock, Option.some.injEq] at hg
            exact .inl ⟨a0, rfl, hg.symm⟩
        · right
          simp only [Value.ownBlock, Option.some.injEq] at hg
          omega
/-- The cells of the k-th struct of a slice. -/
theorem IsS.at_ {α : Type} [Inhabited α] {sz : Nat} {enc : α → List Value} {W : World} {r : Option Addr} {cap : Nat} {xs : List α} (h : IsS sz enc W r cap xs) {k : Nat} (hk : k < xs.length) :
    ∃ b off, r = some ⟨b, off, none⟩ ∧ b < W.heap.size ∧ ∀ j u, (enc (xs.getD k default))[j]? = some u → W.cell? ⟨b, off + k * sz + j, none⟩ = some u := by
  obtain ⟨b, off, h1, h2, h3⟩ := h.cells (fun e => by subst e; simp at hk)
  exact ⟨b, off, h1, h2, fun j u hj => h3 k _ (getD_some hk) j u hj⟩
end Go.Proofs.Ytfooefiaenlhmaa
namespace Go.Proofs.Ytfooefiaenlhmaa
set_option linter.unusedVariables false
set_option linter.unusedSimpArgs false
open Go.RowKit Go.ChangeShapes Go.WideShapes Go.ChangeAt

theorem run_ix (b k : Nat) (hk : k < 5) (w : World) : (Instr.index 142 (.agg #[.pointer (some ⟨b, 0, none⟩), .pointer (some ⟨b, 1, none⟩), .pointer (some ⟨b, 2, none⟩), .pointer (some ⟨b, 3, none⟩), .pointer (some ⟨b, 4, none⟩)]) (.int .i64 k)).run Try.prog w = .ok (.pointer (some ⟨b, k, none⟩)) w := by
  obtain rfl | rfl | rfl | rfl | rfl : k = 0 ∨ k = 1 ∨ k = 2 ∨ k = 3 ∨ k = 4 := by omega
  all_goals simp [Instr.index, run_underlying Try.underlying142, asIntOf, go_sem]
def in9 (x : Int) : Bool := decide (-9 ≤ x ∧ x ≤ 9)
def unitB (m kg s a k : Int) : Bool := in9 m && (in9 kg && (in9 s && (in9 a && in9 k)))
def fxB (t : Fx) : Bool := decide (t.bits = 8 ∨ t.bits = 16 ∨ t.bits = 32) && (decide (1 ≤ t.num ∧ t.num ≤ 1048576) && (decide (1 ≤ t.den ∧ t.den ≤ 1048576) && (decide (-1073741824 ≤ t.off ∧ t.off ≤ 1073741824) && unitB t.m t.kg t.s t.a t.k)))
theorem in9_bad {x : Int} (h : x < -9 ∨ 9 < x) : in9 x = false := by unfold in9; simp only [decide_eq_false_iff_not]; omega
theorem in9_good {x : Int} (h0 : ¬ x < -9) (h1 : ¬ 9 < x) : in9 x = true := by unfold in9; simp only [decide_eq_true_eq]; omega
set_option maxRecDepth 100000 in
set_option maxHeartbeats 2000000 in
theorem exps_any (b : Nat) (w : World) : Calls Try.prog 113 #[.pointer (some ⟨b, 0, none⟩)] w fun e w' => e = .returned (.agg #[.pointer (some ⟨b, 0, none⟩), .pointer (some ⟨b, 1, none⟩), .pointer (some ⟨b, 2, none⟩), .pointer (some ⟨b, 3, none⟩), .pointer (some ⟨b, 4, none⟩)]) ∧ Below w.heap.size w w' := by
  go_enter Try.func113, Try.ntmps113
  go_wp2
  refine wp_still_tail 15 (by kernel_rfl) (by kernel_rfl) ?_
  intro W hW hWs
  simp only [World.size_alloc] at hWs
  have hw0 : w.heap.size < W.heap.size := by omega
  have d : ∀ j : Nat, W.cell? ⟨w.heap.size, j, none⟩ = (w.alloc (.cells #[.pointer none, .pointer none, .pointer none, .pointer none, .pointer none] 142)).cell? ⟨w.heap.size, j, none⟩ := fun j => hW.cell (p := ⟨w.heap.size, j, none⟩) (by rw [World.size_alloc]; show w.heap.size < _; omega)
  have df : ∀ j : Nat, W.frozen? ⟨w.heap.size, j, none⟩ = (w.alloc (.cells #[.pointer none, .pointer none, .pointer none, .pointer none, .pointer none] 142)).frozen? ⟨w.heap.size, j, none⟩ := fun j => hW.frozen (p := ⟨w.heap.size, j, none⟩) (by rw [World.size_alloc]; show w.heap.size < _; omega)
  simp only [List.take_succ_cons, List.take_zero, List.drop_succ_cons, List.drop_zero]
  repeat (first | (refine wpStill_step (fun K hK => ?_); go_simp; refine hK _ ?_; clear hK K))
  refine wpStill_nil ?_
  go_wp2
  refine bodyPost_ret (by simp [results, Try.results113, go_sem, *]; try rfl) rfl ?_
  exact ⟨rfl, by (repeat' (first | (with_reducible exact Below.refl _ _) | (with_reducible assumption) | (with_reducible refine below_alloc ?_ _) | (with_reducible refine Below.drew ?_) | (with_reducible refine below_drewN ?_ _) | (with_reducible refine below_step (by assumption) ?_) | (with_reducible refine below_later ?_ _) | (with_reducible refine Below.setCell ?_ ?_ _) | go_size))⟩
set_option maxRecDepth 100000 in
set_option maxHeartbeats 2000000 in
theorem uvalid_any (m kg s a k : Int) (w : World) : Calls Try.prog 98 #[.agg #[.int .i64 m, .int .i64 kg, .int .i64 s, .int .i64 a, .int .i64 k]] w fun e w' => e = .returned (.bool (unitB m kg s a k)) ∧ Below w.heap.size w w' := by
  have HF : Hid (unitB m kg s a k = (in9 m && (in9 kg && (in9 s && (in9 a && in9 k))))) := Lib.hid rfl
  generalize unitB m kg s a k = R at *
  go_enter Try.func98, Try.ntmps98
  go_wp2_with (go_at_call 113; refine (exps_any _ _).mono ?_; rintro _ w1 ⟨rfl, hb1⟩; obtain ⟨hb1c, hb1f⟩ := bcell hb1; have hb1s := hb1.size; (try simp only [World.size_alloc] at hb1s))
  have hx0 : w.heap.size < w1.heap.size := by omega
  have hB : Below w.heap.size w w1 := by (repeat' (first | (with_reducible exact Below.refl _ _) | (with_reducible assumption) | (with_reducible refine below_alloc ?_ _) | (with_reducible refine Below.drew ?_) | (with_reducible refine below_drewN ?_ _) | (with_reducible refine below_step (by assumption) ?_) | (with_reducible refine below_later ?_ _) | (with_reducible refine Below.setCell ?_ ?_ _) | go_size))
  have d0 : w1.cell? ⟨w.heap.size, 0, none⟩ = some (.int .i64 m) := by rw [hb1c w.heap.size 0 (by simp only [World.size_alloc]; omega)]; first | go_keep | (simp; done)
  have d1 : w1.cell? ⟨w.heap.size, 1, none⟩ = some (.int .i64 kg) := by rw [hb1c w.heap.size 1 (by simp only [World.size_alloc]; omega)]; first | go_keep | (simp; done)
  have d2 : w1.cell? ⟨w.heap.size, 2, none⟩ = some (.int .i64 s) := by rw [hb1c w.heap.size 2 (by simp only [World.size_alloc]; omega)]; first | go_keep | (simp; done)
  have d3 : w1.cell? ⟨w.heap.size, 3, none⟩ = some (.int .i64 a) := by rw [hb1c w.heap.size 3 (by simp only [World.size_alloc]; omega)]; first | go_keep | (simp; done)
  have d4 : w1.cell? ⟨w.heap.size, 4, none⟩ = some (.int .i64 k) := by rw [hb1c w.heap.size 4 (by simp only [World.size_alloc]; omega)]; first | go_keep | (simp; done)
  have ix0 : ∀ W, (Instr.index 142 (.agg #[.pointer (some ⟨w.heap.size, 0, none⟩), .pointer (some ⟨w.heap.size, 1, none⟩), .pointer (some ⟨w.heap.size, 2, none⟩), .pointer (some ⟨w.heap.size, 3, none⟩), .pointer (some ⟨w.heap.size, 4, none⟩)]) (.int .i64 0)).run Try.prog W = .ok (.pointer (some ⟨w.heap.size, 0, none⟩)) W := fun W => run_ix w.heap.size 0 (by omega) W
  have ix1 : ∀ W, (Instr.index 142 (.agg #[.pointer (some ⟨w.heap.size, 0, none⟩), .pointer (some ⟨w.heap.size, 1, none⟩), .pointer (some ⟨w.heap.size, 2, none⟩), .pointer (some ⟨w.heap.size, 3, none⟩), .pointer (some ⟨w.heap.size, 4, none⟩)]) (.int .i64 1)).run Try.prog W = .ok (.pointer (some ⟨w.heap.size, 1, none⟩)) W := fun W => run_ix w.heap.size 1 (by omega) W
  have ix2 : ∀ W, (Instr.index 142 (.agg #[.pointer (some ⟨w.heap.size, 0, none⟩), .pointer (some ⟨w.heap.size, 1, none⟩), .pointer (some ⟨w.heap.size, 2, none⟩), .pointer (some ⟨w.heap.size, 3, none⟩), .pointer (some ⟨w.heap.size, 4, none⟩)]) (.int .i64 2)).run Try.prog W = .ok (.pointer (some ⟨w.heap.size, 2, none⟩)) W := fun W => run_ix w.heap.size 2 (by omega) W
  have ix3 : ∀ W, (Instr.index 142 (.agg #[.pointer (some ⟨w.heap.size, 0, none⟩), .pointer (some ⟨w.heap.size, 1, none⟩), .pointer (some ⟨w.heap.size, 2, none⟩), .pointer (some ⟨w.heap.size, 3, none⟩), .pointer (some ⟨w.heap.size, 4, none⟩)]) (.int .i64 3)).run Try.prog W = .ok (.pointer (some ⟨w.heap.size, 3, none⟩)) W := fun W => run_ix w.heap.size 3 (by omega) W
  have ix4 : ∀ W, (Instr.index 142 (.agg #[.pointer (some ⟨w.heap.size, 0, none⟩), .pointer (some ⟨w.heap.size, 1, none⟩), .pointer (some ⟨w.heap.size, 2, none⟩), .pointer (some ⟨w.heap.size, 3, none⟩), .pointer (some ⟨w.heap.size, 4, none⟩)]) (.int .i64 4)).run Try.prog W = .ok (.pointer (some ⟨w.heap.size, 4, none⟩)) W := fun W => run_ix w.heap.size 4 (by omega) W
  clear hb1c hb1f hb1
  go_loopg [6] 5 (fun kx s6 wr => ∃ (j : Nat) (e : Later w1), s6 = .int .i64 j ∧ j ≤ 5 ∧ 5 - j ≤ kx ∧ wr = e.w ∧ Hid ((1 ≤ j → in9 m = true) ∧ (2 ≤ j → in9 kg = true) ∧ (3 ≤ j → in9 s = true) ∧ (4 ≤ j → in9 a = true) ∧ (5 ≤ j → in9 k = true)))
  case atStart => exact ⟨0, ⟨w1, Below.refl _ _⟩, rfl, by omega, by omega, rfl, Lib.hid ⟨fun h => absurd h (by omega), fun h => absurd h (by omega), fun h => absurd h (by omega), fun h => absurd h (by omega), fun h => absurd h (by omega)⟩⟩
  case round =>
    obtain ⟨j, e, rfl, hj, hjx, rfl, HG⟩ := hrel
    have hes := e.h.size
    by_cases hj5 : j < 5
    · obtain rfl | rfl | rfl | rfl | rfl : j = 0 ∨ j = 1 ∨ j = 2 ∨ j = 3 ∨ j = 4 := by omega
      · by_cases n0 : m < -9
        · have HB : Hid (R = false) := Lib.hid (by rw [HF.out, in9_bad (x := m) (.inl n0)]; simp)
          go_wp2
          go_ret
          exact ⟨ret_bool HB.out.symm, hB.trans (e.h.mono (by omega))⟩
        · by_cases n1 : 9 < m
          · have HB : Hid (R = false) := Lib.hid (by rw [HF.out, in9_bad (x := m) (.inr n1)]; simp)
            go_wp2
            go_ret
            exact ⟨ret_bool HB.out.symm, hB.trans (e.h.mono (by omega))⟩
          · have HG0 := Lib.hid (in9_good n0 n1)
            go_wp2
            go_roundg (5 - (0 + 1))
            case measure => omega
            case rel => exact ⟨0 + 1, e, by go_num, by omega, by omega, rfl, Lib.hid ⟨fun _ => HG0.out, fun h => absurd h (by omega), fun h => absurd h (by omega), fun h => absurd h (by omega), fun h => absurd h (by omega)⟩⟩
      · by_cases n0 : kg < -9
        · have HB : Hid (R = false) := Lib.hid (by rw [HF.out, in9_bad (x := kg) (.inl n0)]; simp)
          go_wp2
          go_ret
          exact ⟨ret_bool HB.out.symm, hB.trans (e.h.mono (by omega))⟩
        · by_cases n1 : 9 < kg
          · have HB : Hid (R = false) := Lib.hid (by rw [HF.out, in9_bad (x := kg) (.inr n1)]; simp)
            go_wp2
            go_ret
            exact ⟨ret_bool HB.out.symm, hB.trans (e.h.mono (by omega))⟩
          · have HG1 := Lib.hid (in9_good n0 n1)
            go_wp2
            go_roundg (5 - (1 + 1))
            case measure => omega
            case rel => exact ⟨1 + 1, e, by go_num, by omega, by omega, rfl, Lib.hid ⟨fun _ => HG.out.1 (by omega), fun _ => HG1.out, fun h => absurd h (by omega), fun h => absurd h (by omega), fun h => absurd h (by omega)⟩⟩
      · by_cases n0 : s < -9
        · have HB : Hid (R = false) := Lib.hid (by rw [HF.out, in9_bad (x := s) (.inl n0)]; simp)
          go_wp2
          go_ret
          exact ⟨ret_bool HB.out.symm, hB.trans (e.h.mono (by omega))⟩
        · by_cases n1 : 9 < s
          · have HB : Hid (R = false) := Lib.hid (by rw [HF.out, in9_bad (x := s) (.inr n1)]; simp)
            go_wp2
            go_ret
            exact ⟨ret_bool HB.out.symm, hB.trans (e.h.mono (by omega))⟩
          · have HG2 := Lib.hid (in9_good n0 n1)
            go_wp2
            go_roundg (5 - (2 + 1))
            case measure => omega
            case rel => exact ⟨2 + 1, e, by go_num, by omega, by omega, rfl, Lib.hid ⟨fun _ => HG.out.1 (by omega), fun _ => HG.out.2.1 (by omega), fun _ => HG2.out, fun h => absurd h (by omega), fun h => absurd h (by omega)⟩⟩
      · by_cases n0 : a < -9
        · have HB : Hid (R = false) := Lib.hid (by rw [HF.out, in9_bad (x := a) (.inl n0)]; simp)
          go_wp2
          go_ret
          exact ⟨ret_bool HB.out.symm, hB.trans (e.h.mono (by omega))⟩
        · by_cases n1 : 9 < a
          · have HB : Hid (R = false) := Lib.hid (by rw [HF.out, in9_bad (x := a) (.inr n1)]; simp)
            go_wp2
            go_ret
            exact ⟨ret_bool HB.out.symm, hB.trans (e.h.mono (by omega))⟩
          · have HG3 := Lib.hid (in9_good n0 n1)
            go_wp2
            go_roundg (5 - (3 + 1))
            case measure => omega
            case rel => exact ⟨3 + 1, e, by go_num, by omega, by omega, rfl, Lib.hid ⟨fun _ => HG.out.1 (by omega), fun _ => HG.out.2.1 (by omega), fun _ => HG.out.2.2.1 (by omega), fun _ => HG3.out, fun h => absurd h (by omega)⟩⟩
      · by_cases n0 : k < -9
        · have HB : Hid (R = false) := Lib.hid (by rw [HF.out, in9_bad (x := k) (.inl n0)]; simp)
          go_wp2
          go_ret
          exact ⟨ret_bool HB.out.symm, hB.trans (e.h.mono (by omega))⟩
        · by_cases n1 : 9 < k
          · have HB : Hid (R = false) := Lib.hid (by rw [HF.out, in9_bad (x := k) (.inr n1)]; simp)
            go_wp2
            go_ret
            exact ⟨ret_bool HB.out.symm, hB.trans (e.h.mono (by omega))⟩
          · have HG4 := Lib.hid (in9_good n0 n1)
            go_wp2
            go_roundg (5 - (4 + 1))
            case measure => omega
            case rel => exact ⟨4 + 1, e, by go_num, by omega, by omega, rfl, Lib.hid ⟨fun _ => HG.out.1 (by omega), fun _ => HG.out.2.1 (by omega), fun _ => HG.out.2.2.1 (by omega), fun _ => HG.out.2.2.2.1 (by omega), fun _ => HG4.out⟩⟩
    · obtain rfl : j = 5 := by omega
      obtain ⟨G1, G2, G3, G4, G5⟩ := HG.out
      have HT : Hid (R = true) := Lib.hid (by rw [HF.out, G1 (by omega), G2 (by omega), G3 (by omega), G4 (by omega), G5 (by omega)]; rfl)
      go_wp2
      go_ret
      exact ⟨ret_bool HT.out.symm, hB.trans (e.h.mono (by omega))⟩
theorem uvalid_v {m kg s a k : Int} {v : Bool} (h : unitB m kg s a k = v) (w : World) : Calls Try.prog 98 #[.agg #[.int .i64 m, .int .i64 kg, .int .i64 s, .int .i64 a, .int .i64 k]] w fun e w' => e = .returned (.bool v) ∧ Below w.heap.size w w' := by
  subst h
  exact uvalid_any m kg s a k w
set_option maxRecDepth 100000 in
set_option maxHeartbeats 4000000 in
theorem fvalid_any (t : Fx) (w : World) : Calls Try.prog 60 #[.agg #[.int .i64 t.bits, .bool t.sg, .int .i64 t.num, .int .i64 t.off, .int .i64 t.den, .int .i64 t.m, .int .i64 t.kg, .int .i64 t.s, .int .i64 t.a, .int .i64 t.k]] w fun e w' => e = .returned (.bool (fxB t)) ∧ Below w.heap.size w w' := by
  obtain ⟨bits, sg, num, off, den, m, kg, s, a, k⟩ := t
  have HF : Hid (fxB ⟨bits, sg, num, off, den, m, kg, s, a, k⟩ = (decide (bits = 8 ∨ bits = 16 ∨ bits = 32) && (decide (1 ≤ num ∧ num ≤ 1048576) && (decide (1 ≤ den ∧ den ≤ 1048576) && (decide (-1073741824 ≤ off ∧ off ≤ 1073741824) && unitB m kg s a k))))) := Lib.hid rfl
  generalize fxB ⟨bits, sg, num, off, den, m, kg, s, a, k⟩ = R at *
  simp only
  cases hu : unitB m kg s a k
  · have HU := Lib.hid hu
    go_enter Try.func60, Try.ntmps60
    go_wp2_with (first | (go_at_call 98; refine (uvalid_v HU.out _).mono ?_; rintro _ w1 ⟨rfl, hb1⟩))
    all_goals go_ret
    all_goals exact ⟨by rw [HF.out, HU.out]; first | rfl | (simp [*]; done) | (simp [*]; omega), by (repeat' (first | (with_reducible exact Below.refl _ _) | (with_reducible assumption) | (with_reducible refine below_alloc ?_ _) | (with_reducible refine Below.drew ?_) | (with_reducible refine below_drewN ?_ _) | (with_reducible refine below_step (by assumption) ?_) | (with_reducible refine below_later ?_ _) | (with_reducible refine Below.setCell ?_ ?_ _) | go_size))⟩
  · have HU := Lib.hid hu
    go_enter Try.func60, Try.ntmps60
    go_wp2_with (first | (go_at_call 98; refine (uvalid_v HU.out _).mono ?_; rintro _ w1 ⟨rfl, hb1⟩))
    all_goals go_ret
    all_goals exact ⟨by rw [HF.out, HU.out]; first | rfl | (simp [*]; done) | (simp [*]; omega), by (repeat' (first | (with_reducible exact Below.refl _ _) | (with_reducible assumption) | (with_reducible refine below_alloc ?_ _) | (with_reducible refine Below.drew ?_) | (with_reducible refine below_drewN ?_ _) | (with_reducible refine below_step (by assumption) ?_) | (with_reducible refine below_later ?_ _) | (with_reducible refine Below.setCell ?_ ?_ _) | go_size))⟩
end Go.Proofs.Ytfooefiaenlhmaa
namespace Go.Proofs.Ytfooefiaenlhmaa
set_option linter.unusedVariables false
set_option linter.unusedSimpArgs false
open Go.RowKit Go.ChangeShapes Go.WideShapes Go.ChangeAt

/-- The product of two units (g = 1), or the quotient (g = -1): 0 if there is one. -/
def combE (g m kg s a k m2 kg2 s2 a2 k2 : Int) : Int := if unitB m kg s a k && unitB m2 kg2 s2 a2 k2 then (if unitB (m + g * m2) (kg + g * kg2) (s + g * s2) (a + g * a2) (k + g * k2) then 0 else 2) else 1
def combV (g x y e : Int) : Int := if e = 0 then x + g * y else 0
def AtL (W : World) (b : Nat) (l : List Int) : Prop := ∀ i v, l[i]? = some v → W.cell? ⟨b, i, none⟩ = some (.int .i64 v) ∧ W.frozen? ⟨b, i, none⟩ = false
theorem AtL.set {W : World} {b : Nat} {l : List Int} (h : AtL W b l) {j : Nat} (hj : j < l.length) (v : Int) : AtL (W.setCell ⟨b, j, none⟩ (.int .i64 v)) b (l.set j v) := by
  intro i u hi
  rw [World.frozen?_setCell]
  rw [List.getElem?_set] at hi
  by_cases e : j = i
  · subst e
    rw [if_pos rfl, if_pos hj] at hi
    obtain ⟨h1, h2⟩ := h j _ (List.getElem?_eq_getElem hj)
    refine ⟨?_, h2⟩
    rw [World.cell?_setCell_same' _ _ _ (by rw [h1]; rfl)]
    simpa using hi
  · rw [if_neg e] at hi
    obtain ⟨h1, h2⟩ := h i _ hi
    refine ⟨?_, h2⟩
    rw [World.cell?_setCell_other (h := fun h => e (by cases h; rfl))]
    exact h1
theorem in9_bd {x : Int} (h : in9 x = true) : -9 ≤ x ∧ x ≤ 9 := by unfold in9 at h; simpa using h
theorem unitB_bd {m kg s a k : Int} (h : unitB m kg s a k = true) : (-9 ≤ m ∧ m ≤ 9) ∧ (-9 ≤ kg ∧ kg ≤ 9) ∧ (-9 ≤ s ∧ s ≤ 9) ∧ (-9 ≤ a ∧ a ≤ 9) ∧ (-9 ≤ k ∧ k ≤ 9) := by
  unfold unitB at h
  simp only [Bool.and_eq_true] at h
  obtain ⟨h0, h1, h2, h3, h4⟩ := h
  exact ⟨in9_bd h0, in9_bd h1, in9_bd h2, in9_bd h3, in9_bd h4⟩
theorem KeepB.setC {B Bo : Nat} (W : World) (j : Nat) (v : Value) : KeepB B Bo W (W.setCell ⟨Bo, j, none⟩ v) :=
  ⟨(Below.refl 0 W).setCell (p := ⟨Bo, j, none⟩) (Nat.zero_le _) v, fun q _ hn => Below.heap_setCell _ _ _ _ hn⟩
theorem KeepB.frozen {B Bo q o : Nat} {W W' : World} (h : KeepB B Bo W W') (hq : q < B) (hn : q ≠ Bo) : W'.frozen? ⟨q, o, none⟩ = W.frozen? ⟨q, o, none⟩ :=
  World.frozen?_of_block (a := ⟨q, o, none⟩) (h.block q hq hn)
set_option maxRecDepth 100000 in
set_option maxHeartbeats 4000000 in
theorem comb_any (g m kg s a k m2 kg2 s2 a2 k2 : Int) (hg : g = 1 ∨ g = -1) (w : World) : Calls Try.prog 128 #[.agg #[.int .i64 m, .int .i64 kg, .int .i64 s, .int .i64 a, .int .i64 k], .agg #[.int .i64 m2, .int .i64 kg2, .int .i64 s2, .int .i64 a2, .int .i64 k2], .int .i64 g] w fun e w' => e = .returned (.tuple #[.agg #[.int .i64 (combV g m m2 (combE g m kg s a k m2 kg2 s2 a2 k2)), .int .i64 (combV g kg kg2 (combE g m kg s a k m2 kg2 s2 a2 k2)), .int .i64 (combV g s s2 (combE g m kg s a k m2 kg2 s2 a2 k2)), .int .i64 (combV g a a2 (combE g m kg s a k m2 kg2 s2 a2 k2)), .int .i64 (combV g k k2 (combE g m kg s a k m2 kg2 s2 a2 k2))], .int .i64 (combE g m kg s a k m2 kg2 s2 a2 k2)]) ∧ Below w.heap.size w w' := by
  have HE : Hid (combE g m kg s a k m2 kg2 s2 a2 k2 = if unitB m kg s a k && unitB m2 kg2 s2 a2 k2 then (if unitB (m + g * m2) (kg + g * kg2) (s + g * s2) (a + g * a2) (k + g * k2) then 0 else 2) else 1) := Lib.hid rfl
  generalize combE g m kg s a k m2 kg2 s2 a2 k2 = E at *
  cases hu : unitB m kg s a k
  · have HU := Lib.hid hu
    obtain rfl : E = 1 := by rw [HE.out, HU.out]; rfl
    clear HE
    go_enter Try.func128, Try.ntmps128
    go_wp2_with (first | (go_at_call 98; refine (uvalid_v HU.out _).mono ?_; rintro _ w1 ⟨rfl, hb1⟩; obtain ⟨hb1c, hb1f⟩ := bcell hb1; have hb1s := hb1.size; (try simp only [World.size_alloc] at hb1s)))
    have hx2 : w.heap.size + 1 + 1 < w1.heap.size := by omega
    refine bodyPost_ret (by simp [results, Try.results128, go_sem, *]; try rfl) rfl ?_
    exact ⟨rfl, by (repeat' (first | (with_reducible exact Below.refl _ _) | (with_reducible assumption) | (with_reducible refine below_alloc ?_ _) | (with_reducible refine Below.drew ?_) | (with_reducible refine below_drewN ?_ _) | (with_reducible refine below_step (by assumption) ?_) | (with_reducible refine below_later ?_ _) | (with_reducible refine Below.setCell ?_ ?_ _) | go_size))⟩
  · have HU := Lib.hid hu
    cases hu2 : unitB m2 kg2 s2 a2 k2
    · have HU2 := Lib.hid hu2
      obtain rfl : E = 1 := by rw [HE.out, HU.out, HU2.out]; rfl
      clear HE
      have tk0 : True := trivial
      go_enter Try.func128, Try.ntmps128
      go_wp2_with (first | (have _t := tk0; go_at_call 98; refine (uvalid_v HU.out _).mono ?_; rintro _ w1 ⟨rfl, hb1⟩; obtain ⟨hb1c, hb1f⟩ := bcell hb1; have hb1s := hb1.size; (try simp only [World.size_alloc] at hb1s); have hx1 : w.heap.size + 1 < w1.heap.size := (by omega); have hx2 : w.heap.size + 1 + 1 < w1.heap.size := (by omega); have hx0 : w.heap.size < w1.heap.size := (by omega); clear tk0 _t) | (go_at_call 98; refine (uvalid_v HU2.out _).mono ?_; rintro _ w2 ⟨rfl, hb2⟩; obtain ⟨hb2c, hb2f⟩ := bcell hb2; have hb2s := hb2.size; have hy0 : w.heap.size < w2.heap.size := (by omega); have hy1 : w.heap.size + 1 < w2.heap.size := (by omega); have hy2 : w.heap.size + 1 + 1 < w2.heap.size := (by omega)))
      refine bodyPost_ret (by simp [results, Try.results128, go_sem, *]; try rfl) rfl ?_
      exact ⟨rfl, by (repeat' (first | (with_reducible exact Below.refl _ _) | (with_reducible assumption) | (with_reducible refine below_alloc ?_ _) | (with_reducible refine Below.drew ?_) | (with_reducible refine below_drewN ?_ _) | (with_reducible refine below_step (by assumption) ?_) | (with_reducible refine below_later ?_ _) | (with_reducible refine Below.setCell ?_ ?_ _) | go_size))⟩
    · have HU2 := Lib.hid hu2
      have hbd := unitB_bd hu
      have hbd2 := unitB_bd hu2
      have HE2 : Hid (E = if unitB (m + g * m2) (kg + g * kg2) (s + g * s2) (a + g * a2) (k + g * k2) then 0 else 2) := Lib.hid (by rw [HE.out, HU.out, HU2.out]; rfl)
      clear HE
      have tk0 : True := trivial
      have tk1 : True := trivial
      go_enter Try.func128, Try.ntmps128
      go_wp2_with (first | (have _t := tk0; go_at_call 98; refine (uvalid_v HU.out _).mono ?_; rintro _ w1 ⟨rfl, hb1⟩; obtain ⟨hb1c, hb1f⟩ := bcell hb1; have hb1s := hb1.size; (try simp only [World.size_alloc] at hb1s); have hx1 : w.heap.size + 1 < w1.heap.size := (by omega); have hx2 : w.heap.size + 1 + 1 < w1.heap.size := (by omega); have hx0 : w.heap.size < w1.heap.size := (by omega); clear tk0 _t) | (go_at_call 98; refine (uvalid_v HU2.out _).mono ?_; rintro _ w2 ⟨rfl, hb2⟩; obtain ⟨hb2c, hb2f⟩ := bcell hb2; have hb2s := hb2.size; have hy0 : w.heap.size < w2.heap.size := (by omega); have hy1 : w.heap.size + 1 < w2.heap.size := (by omega); have hy2 : w.heap.size + 1 + 1 < w2.heap.size := (by omega)) | (have _t := tk1; go_at_call 113; refine (exps_any _ _).mono ?_; rintro _ w3 ⟨rfl, hb3⟩; obtain ⟨hb3c, hb3f⟩ := bcell hb3; have hb3s := hb3.size; clear tk1 _t) | (go_at_call 113; refine (exps_any _ _).mono ?_; rintro _ w4 ⟨rfl, hb4⟩; obtain ⟨hb4c, hb4f⟩ := bcell hb4; have hb4s := hb4.size))
      have hz0 : w.heap.size < w3.heap.size := by omega
      have hz1 : w.heap.size + 1 < w3.heap.size := by omega
      have hz2 : w.heap.size + 1 + 1 < w3.heap.size := by omega
      have ha0 : w.heap.size < w4.heap.size := by omega
      have ha1 : w.heap.size + 1 < w4.heap.size := by omega
      have ha2 : w.heap.size + 1 + 1 < w4.heap.size := by omega
      have hB5 : Below w.heap.size w ((w4.alloc (.cells #[.pointer (some ⟨w.heap.size, 0, none⟩), .pointer (some ⟨w.heap.size, 1, none⟩), .pointer (some ⟨w.heap.size, 2, none⟩), .pointer (some ⟨w.heap.size, 3, none⟩), .pointer (some ⟨w.heap.size, 4, none⟩)] 142)).alloc (.cells #[.pointer (some ⟨w.heap.size + 1, 0, none⟩), .pointer (some ⟨w.heap.size + 1, 1, none⟩), .pointer (some ⟨w.heap.size + 1, 2, none⟩), .pointer (some ⟨w.heap.size + 1, 3, none⟩), .pointer (some ⟨w.heap.size + 1, 4, none⟩)] 142)) := by (repeat' (first | (with_reducible exact Below.refl _ _) | (with_reducible assumption) | (with_reducible refine below_alloc ?_ _) | (with_reducible refine Below.drew ?_) | (with_reducible refine below_drewN ?_ _) | (with_reducible refine below_step (by assumption) ?_) | (with_reducible refine below_later ?_ _) | (with_reducible refine Below.setCell ?_ ?_ _) | go_size))
      have hz5 : ((w4.alloc (.cells #[.pointer (some ⟨w.heap.size, 0, none⟩), .pointer (some ⟨w.heap.size, 1, none⟩), .pointer (some ⟨w.heap.size, 2, none⟩), .pointer (some ⟨w.heap.size, 3, none⟩), .pointer (some ⟨w.heap.size, 4, none⟩)] 142)).alloc (.cells #[.pointer (some ⟨w.heap.size + 1, 0, none⟩), .pointer (some ⟨w.heap.size + 1, 1, none⟩), .pointer (some ⟨w.heap.size + 1, 2, none⟩), .pointer (some ⟨w.heap.size + 1, 3, none⟩), .pointer (some ⟨w.heap.size + 1, 4, none⟩)] 142)).heap.size = w4.heap.size + 2 := by simp
      have hAt : Hid (AtL ((w4.alloc (.cells #[.pointer (some ⟨w.heap.size, 0, none⟩), .pointer (some ⟨w.heap.size, 1, none⟩), .pointer (some ⟨w.heap.size, 2, none⟩), .pointer (some ⟨w.heap.size, 3, none⟩), .pointer (some ⟨w.heap.size, 4, none⟩)] 142)).alloc (.cells #[.pointer (some ⟨w.heap.size + 1, 0, none⟩), .pointer (some ⟨w.heap.size + 1, 1, none⟩), .pointer (some ⟨w.heap.size + 1, 2, none⟩), .pointer (some ⟨w.heap.size + 1, 3, none⟩), .pointer (some ⟨w.heap.size + 1, 4, none⟩)] 142)) w.heap.size [m, kg, s, a, k]) := Lib.hid (fun i v hi => by
        have h5 : ((w4.alloc (.cells #[.pointer (some ⟨w.heap.size, 0, none⟩), .pointer (some ⟨w.heap.size, 1, none⟩), .pointer (some ⟨w.heap.size, 2, none⟩), .pointer (some ⟨w.heap.size, 3, none⟩), .pointer (some ⟨w.heap.size, 4, none⟩)] 142)).alloc (.cells #[.pointer (some ⟨w.heap.size + 1, 0, none⟩), .pointer (some ⟨w.heap.size + 1, 1, none⟩), .pointer (some ⟨w.heap.size + 1, 2, none⟩), .pointer (some ⟨w.heap.size + 1, 3, none⟩), .pointer (some ⟨w.heap.size + 1, 4, none⟩)] 142)).cell? ⟨w.heap.size, i, none⟩ = w4.cell? ⟨w.heap.size, i, none⟩ := (((Below.refl w4.heap.size w4).alloc (Nat.le_refl _) _).alloc (by simp) _).cell (p := ⟨w.heap.size, i, none⟩) ha0
        have f5 : ((w4.alloc (.cells #[.pointer (some ⟨w.heap.size, 0, none⟩), .pointer (some ⟨w.heap.size, 1, none⟩), .pointer (some ⟨w.heap.size, 2, none⟩), .pointer (some ⟨w.heap.size, 3, none⟩), .pointer (some ⟨w.heap.size, 4, none⟩)] 142)).alloc (.cells #[.pointer (some ⟨w.heap.size + 1, 0, none⟩), .pointer (some ⟨w.heap.size + 1, 1, none⟩), .pointer (some ⟨w.heap.size + 1, 2, none⟩), .pointer (some ⟨w.heap.size + 1, 3, none⟩), .pointer (some ⟨w.heap.size + 1, 4, none⟩)] 142)).frozen? ⟨w.heap.size, i, none⟩ = w4.frozen? ⟨w.heap.size, i, none⟩ := (((Below.refl w4.heap.size w4).alloc (Nat.le_refl _) _).alloc (by simp) _).frozen (p := ⟨w.heap.size, i, none⟩) ha0
        rw [h5, f5, hb4c _ _ hz0, hb4f _ _ hz0, hb3c _ _ hy0, hb3f _ _ hy0, hb2c _ _ hx0, hb2f _ _ hx0, hb1c _ _ (by simp only [World.size_alloc]; omega), hb1f _ _ (by simp only [World.size_alloc]; omega)]
        match i, hi with
        | 0, hi | 1, hi | 2, hi | 3, hi | 4, hi => simp at hi; subst hi; exact ⟨by first | go_keep | (simp [go_sem]; done), by first | go_keep | (simp [go_sem]; done) | (simp [World.frozen?]; done)⟩
        | i + 5, hi => simp at hi)
      have b0 : ((w4.alloc (.cells #[.pointer (some ⟨w.heap.size, 0, none⟩), .pointer (some ⟨w.heap.size, 1, none⟩), .pointer (some ⟨w.heap.size, 2, none⟩), .pointer (some ⟨w.heap.size, 3, none⟩), .pointer (some ⟨w.heap.size, 4, none⟩)] 142)).alloc (.cells #[.pointer (some ⟨w.heap.size + 1, 0, none⟩), .pointer (some ⟨w.heap.size + 1, 1, none⟩), .pointer (some ⟨w.heap.size + 1, 2, none⟩), .pointer (some ⟨w.heap.size + 1, 3, none⟩), .pointer (some ⟨w.heap.size + 1, 4, none⟩)] 142)).cell? ⟨w.heap.size + 1, 0, none⟩ = some (.int .i64 m2) := by
        rw [(((Below.refl w4.heap.size w4).alloc (Nat.le_refl _) _).alloc (by simp) _).cell (p := ⟨w.heap.size + 1, 0, none⟩) ha1, hb4c _ _ hz1, hb3c _ _ hy1, hb2c _ _ hx1, hb1c _ _ (by simp only [World.size_alloc]; omega)]
        first | go_keep | simp
      have b1 : ((w4.alloc (.cells #[.pointer (some ⟨w.heap.size, 0, none⟩), .pointer (some ⟨w.heap.size, 1, none⟩), .pointer (some ⟨w.heap.size, 2, none⟩), .pointer (some ⟨w.heap.size, 3, none⟩), .pointer (some ⟨w.heap.size, 4, none⟩)] 142)).alloc (.cells #[.pointer (some ⟨w.heap.size + 1, 0, none⟩), .pointer (some ⟨w.heap.size + 1, 1, none⟩), .pointer (some ⟨w.heap.size + 1, 2, none⟩), .pointer (some ⟨w.heap.size + 1, 3, none⟩), .pointer (some ⟨w.heap.size + 1, 4, none⟩)] 142)).cell? ⟨w.heap.size + 1, 1, none⟩ = some (.int .i64 kg2) := by
        rw [(((Below.refl w4.heap.size w4).alloc (Nat.le_refl _) _).alloc (by simp) _).cell (p := ⟨w.heap.size + 1, 1, none⟩) ha1, hb4c _ _ hz1, hb3c _ _ hy1, hb2c _ _ hx1, hb1c _ _ (by simp only [World.size_alloc]; omega)]
        first | go_keep | simp
      have b2 : ((w4.alloc (.cells #[.pointer (some ⟨w.heap.size, 0, none⟩), .pointer (some ⟨w.heap.size, 1, none⟩), .pointer (some ⟨w.heap.size, 2, none⟩), .pointer (some ⟨w.heap.size, 3, none⟩), .pointer (some ⟨w.heap.size, 4, none⟩)] 142)).alloc (.cells #[.pointer (some ⟨w.heap.size + 1, 0, none⟩), .pointer (some ⟨w.heap.size + 1, 1, none⟩), .pointer (some ⟨w.heap.size + 1, 2, none⟩), .pointer (some ⟨w.heap.size + 1, 3, none⟩), .pointer (some ⟨w.heap.size + 1, 4, none⟩)] 142)).cell? ⟨w.heap.size + 1, 2, none⟩ = some (.int .i64 s2) := by
        rw [(((Below.refl w4.heap.size w4).alloc (Nat.le_refl _) _).alloc (by simp) _).cell (p := ⟨w.heap.size + 1, 2, none⟩) ha1, hb4c _ _ hz1, hb3c _ _ hy1, hb2c _ _ hx1, hb1c _ _ (by simp only [World.size_alloc]; omega)]
        first | go_keep | simp
      have b3 : ((w4.alloc (.cells #[.pointer (some ⟨w.heap.size, 0, none⟩), .pointer (some ⟨w.heap.size, 1, none⟩), .pointer (some ⟨w.heap.size, 2, none⟩), .pointer (some ⟨w.heap.size, 3, none⟩), .pointer (some ⟨w.heap.size, 4, none⟩)] 142)).alloc (.cells #[.pointer (some ⟨w.heap.size + 1, 0, none⟩), .pointer (some ⟨w.heap.size + 1, 1, none⟩), .pointer (some ⟨w.heap.size + 1, 2, none⟩), .pointer (some ⟨w.heap.size + 1, 3, none⟩), .pointer (some ⟨w.heap.size + 1, 4, none⟩)] 142)).cell? ⟨w.heap.size + 1, 3, none⟩ = some (.int .i64 a2) := by
        rw [(((Below.refl w4.heap.size w4).alloc (Nat.le_refl _) _).alloc (by simp) _).cell (p := ⟨w.heap.size + 1, 3, none⟩) ha1, hb4c _ _ hz1, hb3c _ _ hy1, hb2c _ _ hx1, hb1c _ _ (by simp only [World.size_alloc]; omega)]
        first | go_keep | simp
      have b4 : ((w4.alloc (.cells #[.pointer (some ⟨w.heap.size, 0, none⟩), .pointer (some ⟨w.heap.size, 1, none⟩), .pointer (some ⟨w.heap.size, 2, none⟩), .pointer (some ⟨w.heap.size, 3, none⟩), .pointer (some ⟨w.heap.size, 4, none⟩)] 142)).alloc (.cells #[.pointer (some ⟨w.heap.size + 1, 0, none⟩), .pointer (some ⟨w.heap.size + 1, 1, none⟩), .pointer (some ⟨w.heap.size + 1, 2, none⟩), .pointer (some ⟨w.heap.size + 1, 3, none⟩), .pointer (some ⟨w.heap.size + 1, 4, none⟩)] 142)).cell? ⟨w.heap.size + 1, 4, none⟩ = some (.int .i64 k2) := by
        rw [(((Below.refl w4.heap.size w4).alloc (Nat.le_refl _) _).alloc (by simp) _).cell (p := ⟨w.heap.size + 1, 4, none⟩) ha1, hb4c _ _ hz1, hb3c _ _ hy1, hb2c _ _ hx1, hb1c _ _ (by simp only [World.size_alloc]; omega)]
        first | go_keep | simp
      have z0 : ((w4.alloc (.cells #[.pointer (some ⟨w.heap.size, 0, none⟩), .pointer (some ⟨w.heap.size, 1, none⟩), .pointer (some ⟨w.heap.size, 2, none⟩), .pointer (some ⟨w.heap.size, 3, none⟩), .pointer (some ⟨w.heap.size, 4, none⟩)] 142)).alloc (.cells #[.pointer (some ⟨w.heap.size + 1, 0, none⟩), .pointer (some ⟨w.heap.size + 1, 1, none⟩), .pointer (some ⟨w.heap.size + 1, 2, none⟩), .pointer (some ⟨w.heap.size + 1, 3, none⟩), .pointer (some ⟨w.heap.size + 1, 4, none⟩)] 142)).cell? ⟨w.heap.size + 1 + 1, 0, none⟩ = some (.int .i64 0) ∧ ((w4.alloc (.cells #[.pointer (some ⟨w.heap.size, 0, none⟩), .pointer (some ⟨w.heap.size, 1, none⟩), .pointer (some ⟨w.heap.size, 2, none⟩), .pointer (some ⟨w.heap.size, 3, none⟩), .pointer (some ⟨w.heap.size, 4, none⟩)] 142)).alloc (.cells #[.pointer (some ⟨w.heap.size + 1, 0, none⟩), .pointer (some ⟨w.heap.size + 1, 1, none⟩), .pointer (some ⟨w.heap.size + 1, 2, none⟩), .pointer (some ⟨w.heap.size + 1, 3, none⟩), .pointer (some ⟨w.heap.size + 1, 4, none⟩)] 142)).frozen? ⟨w.heap.size + 1 + 1, 0, none⟩ = false := by
        rw [(((Below.refl w4.heap.size w4).alloc (Nat.le_refl _) _).alloc (by simp) _).cell (p := ⟨w.heap.size + 1 + 1, 0, none⟩) ha2, (((Below.refl w4.heap.size w4).alloc (Nat.le_refl _) _).alloc (by simp) _).frozen (p := ⟨w.heap.size + 1 + 1, 0, none⟩) ha2, hb4c _ _ hz2, hb4f _ _ hz2, hb3c _ _ hy2, hb3f _ _ hy2, hb2c _ _ hx2, hb2f _ _ hx2, hb1c _ _ (by simp only [World.size_alloc]; omega), hb1f _ _ (by simp only [World.size_alloc]; omega)]
        exact ⟨by first | go_keep | (simp [go_sem]; done), by first | go_keep | (simp [go_sem]; done) | (simp [World.frozen?]; done)⟩
      have z1 : ((w4.alloc (.cells #[.pointer (some ⟨w.heap.size, 0, none⟩), .pointer (some ⟨w.heap.size, 1, none⟩), .pointer (some ⟨w.heap.size, 2, none⟩), .pointer (some ⟨w.heap.size, 3, none⟩), .pointer (some ⟨w.heap.size, 4, none⟩)] 142)).alloc (.cells #[.pointer (some ⟨w.heap.size + 1, 0, none⟩), .pointer (some ⟨w.heap.size + 1, 1, none⟩), .pointer (some ⟨w.heap.size + 1, 2, none⟩), .pointer (some ⟨w.heap.size + 1, 3, none⟩), .pointer (some ⟨w.heap.size + 1, 4, none⟩)] 142)).cell? ⟨w.heap.size + 1 + 1, 1, none⟩ = some (.int .i64 0) ∧ ((w4.alloc (.cells #[.pointer (some ⟨w.heap.size, 0, none⟩), .pointer (some ⟨w.heap.size, 1, none⟩), .pointer (some ⟨w.heap.size, 2, none⟩), .pointer (some ⟨w.heap.size, 3, none⟩), .pointer (some ⟨w.heap.size, 4, none⟩)] 142)).alloc (.cells #[.pointer (some ⟨w.heap.size + 1, 0, none⟩), .pointer (some ⟨w.heap.size + 1, 1, none⟩), .pointer (some ⟨w.heap.size + 1, 2, none⟩), .pointer (some ⟨w.heap.size + 1, 3, none⟩), .pointer (some ⟨w.heap.size + 1, 4, none⟩)] 142)).frozen? ⟨w.heap.size + 1 + 1, 1, none⟩ = false := by
        rw [(((Below.refl w4.heap.size w4).alloc (Nat.le_refl _) _).alloc (by simp) _).cell (p := ⟨w.heap.size + 1 + 1, 1, none⟩) ha2, (((Below.refl w4.heap.size w4).alloc (Nat.le_refl _) _).alloc (by simp) _).frozen (p := ⟨w.heap.size + 1 + 1, 1, none⟩) ha2, hb4c _ _ hz2, hb4f _ _ hz2, hb3c _ _ hy2, hb3f _ _ hy2, hb2c _ _ hx2, hb2f _ _ hx2, hb1c _ _ (by simp only [World.size_alloc]; omega), hb1f _ _ (by simp only [World.size_alloc]; omega)]
        exact ⟨by first | go_keep | (simp [go_sem]; done), by first | go_keep | (simp [go_sem]; done) | (simp [World.frozen?]; done)⟩
      have z2 : ((w4.alloc (.cells #[.pointer (some ⟨w.heap.size, 0, none⟩), .pointer (some ⟨w.heap.size, 1, none⟩), .pointer (some ⟨w.heap.size, 2, none⟩), .pointer (some ⟨w.heap.size, 3, none⟩), .pointer (some ⟨w.heap.size, 4, none⟩)] 142)).alloc (.cells #[.pointer (some ⟨w.heap.size + 1, 0, none⟩), .pointer (some ⟨w.heap.size + 1, 1, none⟩), .pointer (some ⟨w.heap.size + 1, 2, none⟩), .pointer (some ⟨w.heap.size + 1, 3, none⟩), .pointer (some ⟨w.heap.size + 1, 4, none⟩)] 142)).cell? ⟨w.heap.size + 1 + 1, 2, none⟩ = some (.int .i64 0) ∧ ((w4.alloc (.cells #[.pointer (some ⟨w.heap.size, 0, none⟩), .pointer (some ⟨w.heap.size, 1, none⟩), .pointer (some ⟨w.heap.size, 2, none⟩), .pointer (some ⟨w.heap.size, 3, none⟩), .pointer (some ⟨w.heap.size, 4, none⟩)] 142)).alloc (.cells #[.pointer (some ⟨w.heap.size + 1, 0, none⟩), .pointer (some ⟨w.heap.size + 1, 1, none⟩), .pointer (some ⟨w.heap.size + 1, 2, none⟩), .pointer (some ⟨w.heap.size + 1, 3, none⟩), .pointer (some ⟨w.heap.size + 1, 4, none⟩)] 142)).frozen? ⟨w.heap.size + 1 + 1, 2, none⟩ = false := by
        rw [(((Below.refl w4.heap.size w4).alloc (Nat.le_refl _) _).alloc (by simp) _).cell (p := ⟨w.heap.size + 1 + 1, 2, none⟩) ha2, (((Below.refl w4.heap.size w4).alloc (Nat.le_refl _) _).alloc (by simp) _).frozen (p := ⟨w.heap.size + 1 + 1, 2, none⟩) ha2, hb4c _ _ hz2, hb4f _ _ hz2, hb3c _ _ hy2, hb3f _ _ hy2, hb2c _ _ hx2, hb2f _ _ hx2, hb1c _ _ (by simp only [World.size_alloc]; omega), hb1f _ _ (by simp only [World.size_alloc]; omega)]
        exact ⟨by first | go_keep | (simp [go_sem]; done), by first | go_keep | (simp [go_sem]; done) | (simp [World.frozen?]; done)⟩
      have z3 : ((w4.alloc (.cells #[.pointer (some ⟨w.heap.size, 0, none⟩), .pointer (some ⟨w.heap.size, 1, none⟩), .pointer (some ⟨w.heap.size, 2, none⟩), .pointer (some ⟨w.heap.size, 3, none⟩), .pointer (some ⟨w.heap.size, 4, none⟩)] 142)).alloc (.cells #[.pointer (some ⟨w.heap.size + 1, 0, none⟩), .pointer (some ⟨w.heap.size + 1, 1, none⟩), .pointer (some ⟨w.heap.size + 1, 2, none⟩), .pointer (some ⟨w.heap.size + 1, 3, none⟩), .pointer (some ⟨w.heap.size + 1, 4, none⟩)] 142)).cell? ⟨w.heap.size + 1 + 1, 3, none⟩ = some (.int .i64 0) ∧ ((w4.alloc (.cells #[.pointer (some ⟨w.heap.size, 0, none⟩), .pointer (some ⟨w.heap.size, 1, none⟩), .pointer (some ⟨w.heap.size, 2, none⟩), .pointer (some ⟨w.heap.size, 3, none⟩), .pointer (some ⟨w.heap.size, 4, none⟩)] 142)).alloc (.cells #[.pointer (some ⟨w.heap.size + 1, 0, none⟩), .pointer (some ⟨w.heap.size + 1, 1, none⟩), .pointer (some ⟨w.heap.size + 1, 2, none⟩), .pointer (some ⟨w.heap.size + 1, 3, none⟩), .pointer (some ⟨w.heap.size + 1, 4, none⟩)] 142)).frozen? ⟨w.heap.size + 1 + 1, 3, none⟩ = false := by
        rw [(((Below.refl w4.heap.size w4).alloc (Nat.le_refl _) _).alloc (by simp) _).cell (p := ⟨w.heap.size + 1 + 1, 3, none⟩) ha2, (((Below.refl w4.heap.size w4).alloc (Nat.le_refl _) _).alloc (by simp) _).frozen (p := ⟨w.heap.size + 1 + 1, 3, none⟩) ha2, hb4c _ _ hz2, hb4f _ _ hz2, hb3c _ _ hy2, hb3f _ _ hy2, hb2c _ _ hx2, hb2f _ _ hx2, hb1c _ _ (by simp only [World.size_alloc]; omega), hb1f _ _ (by simp only [World.size_alloc]; omega)]
        exact ⟨by first | go_keep | (simp [go_sem]; done), by first | go_keep | (simp [go_sem]; done) | (simp [World.frozen?]; done)⟩
      have z4 : ((w4.alloc (.cells #[.pointer (some ⟨w.heap.size, 0, none⟩), .pointer (some ⟨w.heap.size, 1, none⟩), .pointer (some ⟨w.heap.size, 2, none⟩), .pointer (some ⟨w.heap.size, 3, none⟩), .pointer (some ⟨w.heap.size, 4, none⟩)] 142)).alloc (.cells #[.pointer (some ⟨w.heap.size + 1, 0, none⟩), .pointer (some ⟨w.heap.size + 1, 1, none⟩), .pointer (some ⟨w.heap.size + 1, 2, none⟩), .pointer (some ⟨w.heap.size + 1, 3, none⟩), .pointer (some ⟨w.heap.size + 1, 4, none⟩)] 142)).cell? ⟨w.heap.size + 1 + 1, 4, none⟩ = some (.int .i64 0) ∧ ((w4.alloc (.cells #[.pointer (some ⟨w.heap.size, 0, none⟩), .pointer (some ⟨w.heap.size, 1, none⟩), .pointer (some ⟨w.heap.size, 2, none⟩), .pointer (some ⟨w.heap.size, 3, none⟩), .pointer (some ⟨w.heap.size, 4, none⟩)] 142)).alloc (.cells #[.pointer (some ⟨w.heap.size + 1, 0, none⟩), .pointer (some ⟨w.heap.size + 1, 1, none⟩), .pointer (some ⟨w.heap.size + 1, 2, none⟩), .pointer (some ⟨w.heap.size + 1, 3, none⟩), .pointer (some ⟨w.heap.size + 1, 4, none⟩)] 142)).frozen? ⟨w.heap.size + 1 + 1, 4, none⟩ = false := by
        rw [(((Below.refl w4.heap.size w4).alloc (Nat.le_refl _) _).alloc (by simp) _).cell (p := ⟨w.heap.size + 1 + 1, 4, none⟩) ha2, (((Below.refl w4.heap.size w4).alloc (Nat.le_refl _) _).alloc (by simp) _).frozen (p := ⟨w.heap.size + 1 + 1, 4, none⟩) ha2, hb4c _ _ hz2, hb4f _ _ hz2, hb3c _ _ hy2, hb3f _ _ hy2, hb2c _ _ hx2, hb2f _ _ hx2, hb1c _ _ (by simp only [World.size_alloc]; omega), hb1f _ _ (by simp only [World.size_alloc]; omega)]
        exact ⟨by first | go_keep | (simp [go_sem]; done), by first | go_keep | (simp [go_sem]; done) | (simp [World.frozen?]; done)⟩
      have p0 : ((w4.alloc (.cells #[.pointer (some ⟨w.heap.size, 0, none⟩), .pointer (some ⟨w.heap.size, 1, none⟩), .pointer (some ⟨w.heap.size, 2, none⟩), .pointer (some ⟨w.heap.size, 3, none⟩), .pointer (some ⟨w.heap.size, 4, none⟩)] 142)).alloc (.cells #[.pointer (some ⟨w.heap.size + 1, 0, none⟩), .pointer (some ⟨w.heap.size + 1, 1, none⟩), .pointer (some ⟨w.heap.size + 1, 2, none⟩), .pointer (some ⟨w.heap.size + 1, 3, none⟩), .pointer (some ⟨w.heap.size + 1, 4, none⟩)] 142)).cell? ⟨w4.heap.size, 0, none⟩ = some (.pointer (some ⟨w.heap.size, 0, none⟩)) := by first | go_keep | simp
      have p1 : ((w4.alloc (.cells #[.pointer (some ⟨w.heap.size, 0, none⟩), .pointer (some ⟨w.heap.size, 1, none⟩), .pointer (some ⟨w.heap.size, 2, none⟩), .pointer (some ⟨w.heap.size, 3, none⟩), .pointer (some ⟨w.heap.size, 4, none⟩)] 142)).alloc (.cells #[.pointer (some ⟨w.heap.size + 1, 0, none⟩), .pointer (some ⟨w.heap.size + 1, 1, none⟩), .pointer (some ⟨w.heap.size + 1, 2, none⟩), .pointer (some ⟨w.heap.size + 1, 3, none⟩), .pointer (some ⟨w.heap.size + 1, 4, none⟩)] 142)).cell? ⟨w4.heap.size, 1, none⟩ = some (.pointer (some ⟨w.heap.size, 1, none⟩)) := by first | go_keep | simp
      have p2 : ((w4.alloc (.cells #[.pointer (some ⟨w.heap.size, 0, none⟩), .pointer (some ⟨w.heap.size, 1, none⟩), .pointer (some ⟨w.heap.size, 2, none⟩), .pointer (some ⟨w.heap.size, 3, none⟩), .pointer (some ⟨w.heap.size, 4, none⟩)] 142)).alloc (.cells #[.pointer (some ⟨w.heap.size + 1, 0, none⟩), .pointer (some ⟨w.heap.size + 1, 1, none⟩), .pointer (some ⟨w.heap.size + 1, 2, none⟩), .pointer (some ⟨w.heap.size + 1, 3, none⟩), .pointer (some ⟨w.heap.size + 1, 4, none⟩)] 142)).cell? ⟨w4.heap.size, 2, none⟩ = some (.pointer (some ⟨w.heap.size, 2, none⟩)) := by first | go_keep | simp
      have p3 : ((w4.alloc (.cells #[.pointer (some ⟨w.heap.size, 0, none⟩), .pointer (some ⟨w.heap.size, 1, none⟩), .pointer (some ⟨w.heap.size, 2, none⟩), .pointer (some ⟨w.heap.size, 3, none⟩), .pointer (some ⟨w.heap.size, 4, none⟩)] 142)).alloc (.cells #[.pointer (some ⟨w.heap.size + 1, 0, none⟩), .pointer (some ⟨w.heap.size + 1, 1, none⟩), .pointer (some ⟨w.heap.size + 1, 2, none⟩), .pointer (some ⟨w.heap.size + 1, 3, none⟩), .pointer (some ⟨w.heap.size + 1, 4, none⟩)] 142)).cell? ⟨w4.heap.size, 3, none⟩ = some (.pointer (some ⟨w.heap.size, 3, none⟩)) := by first | go_keep | simp
      have p4 : ((w4.alloc (.cells #[.pointer (some ⟨w.heap.size, 0, none⟩), .pointer (some ⟨w.heap.size, 1, none⟩), .pointer (some ⟨w.heap.size, 2, none⟩), .pointer (some ⟨w.heap.size, 3, none⟩), .pointer (some ⟨w.heap.size, 4, none⟩)] 142)).alloc (.cells #[.pointer (some ⟨w.heap.size + 1, 0, none⟩), .pointer (some ⟨w.heap.size + 1, 1, none⟩), .pointer (some ⟨w.heap.size + 1, 2, none⟩), .pointer (some ⟨w.heap.size + 1, 3, none⟩), .pointer (some ⟨w.heap.size + 1, 4, none⟩)] 142)).cell? ⟨w4.heap.size, 4, none⟩ = some (.pointer (some ⟨w.heap.size, 4, none⟩)) := by first | go_keep | simp
      have q0 : ((w4.alloc (.cells #[.pointer (some ⟨w.heap.size, 0, none⟩), .pointer (some ⟨w.heap.size, 1, none⟩), .pointer (some ⟨w.heap.size, 2, none⟩), .pointer (some ⟨w.heap.size, 3, none⟩), .pointer (some ⟨w.heap.size, 4, none⟩)] 142)).alloc (.cells #[.pointer (some ⟨w.heap.size + 1, 0, none⟩), .pointer (some ⟨w.heap.size + 1, 1, none⟩), .pointer (some ⟨w.heap.size + 1, 2, none⟩), .pointer (some ⟨w.heap.size + 1, 3, none⟩), .pointer (some ⟨w.heap.size + 1, 4, none⟩)] 142)).cell? ⟨w4.heap.size + 1, 0, none⟩ = some (.pointer (some ⟨w.heap.size + 1, 0, none⟩)) := by first | go_keep | simp
      have q1 : ((w4.alloc (.cells #[.pointer (some ⟨w.heap.size, 0, none⟩), .pointer (some ⟨w.heap.size, 1, none⟩), .pointer (some ⟨w.heap.size, 2, none⟩), .pointer (some ⟨w.heap.size, 3, none⟩), .pointer (some ⟨w.heap.size, 4, none⟩)] 142)).alloc (.cells #[.pointer (some ⟨w.heap.size + 1, 0, none⟩), .pointer (some ⟨w.heap.size + 1, 1, none⟩), .pointer (some ⟨w.heap.size + 1, 2, none⟩), .pointer (some ⟨w.heap.size + 1, 3, none⟩), .pointer (some ⟨w.heap.size + 1, 4, none⟩)] 142)).cell? ⟨w4.heap.size + 1, 1, none⟩ = some (.pointer (some ⟨w.heap.size + 1, 1, none⟩)) := by first | go_keep | simp
      have q2 : ((w4.alloc (.cells #[.pointer (some ⟨w.heap.size, 0, none⟩), .pointer (some ⟨w.heap.size, 1, none⟩), .pointer (some ⟨w.heap.size, 2, none⟩), .pointer (some ⟨w.heap.size, 3, none⟩), .pointer (some ⟨w.heap.size, 4, none⟩)] 142)).alloc (.cells #[.pointer (some ⟨w.heap.size + 1, 0, none⟩), .pointer (some ⟨w.heap.size + 1, 1, none⟩), .pointer (some ⟨w.heap.size + 1, 2, none⟩), .pointer (some ⟨w.heap.size + 1, 3, none⟩), .pointer (some ⟨w.heap.size + 1, 4, none⟩)] 142)).cell? ⟨w4.heap.size + 1, 2, none⟩ = some (.pointer (some ⟨w.heap.size + 1, 2, none⟩)) := by first | go_keep | simp
      have q3 : ((w4.alloc (.cells #[.pointer (some ⟨w.heap.size, 0, none⟩), .pointer (some ⟨w.heap.size, 1, none⟩), .pointer (some ⟨w.heap.size, 2, none⟩), .pointer (some ⟨w.heap.size, 3, none⟩), .pointer (some ⟨w.heap.size, 4, none⟩)] 142)).alloc (.cells #[.pointer (some ⟨w.heap.size + 1, 0, none⟩), .pointer (some ⟨w.heap.size + 1, 1, none⟩), .pointer (some ⟨w.heap.size + 1, 2, none⟩), .pointer (some ⟨w.heap.size + 1, 3, none⟩), .pointer (some ⟨w.heap.size + 1, 4, none⟩)] 142)).cell? ⟨w4.heap.size + 1, 3, none⟩ = some (.pointer (some ⟨w.heap.size + 1, 3, none⟩)) := by first | go_keep | simp
      have q4 : ((w4.alloc (.cells #[.pointer (some ⟨w.heap.size, 0, none⟩), .pointer (some ⟨w.heap.size, 1, none⟩), .pointer (some ⟨w.heap.size, 2, none⟩), .pointer (some ⟨w.heap.size, 3, none⟩), .pointer (some ⟨w.heap.size, 4, none⟩)] 142)).alloc (.cells #[.pointer (some ⟨w.heap.size + 1, 0, none⟩), .pointer (some ⟨w.heap.size + 1, 1, none⟩), .pointer (some ⟨w.heap.size + 1, 2, none⟩), .pointer (some ⟨w.heap.size + 1, 3, none⟩), .pointer (some ⟨w.heap.size + 1, 4, none⟩)] 142)).cell? ⟨w4.heap.size + 1, 4, none⟩ = some (.pointer (some ⟨w.heap.size + 1, 4, none⟩)) := by first | go_keep | simp
      generalize ((w4.alloc (.cells #[.pointer (some ⟨w.heap.size, 0, none⟩), .pointer (some ⟨w.heap.size, 1, none⟩), .pointer (some ⟨w.heap.size, 2, none⟩), .pointer (some ⟨w.heap.size, 3, none⟩), .pointer (some ⟨w.heap.size, 4, none⟩)] 142)).alloc (.cells #[.pointer (some ⟨w.heap.size + 1, 0, none⟩), .pointer (some ⟨w.heap.size + 1, 1, none⟩), .pointer (some ⟨w.heap.size + 1, 2, none⟩), .pointer (some ⟨w.heap.size + 1, 3, none⟩), .pointer (some ⟨w.heap.size + 1, 4, none⟩)] 142)) = W5 at *
      clear hb1c hb1f hb2c hb2f hb3c hb3f hb4c hb4f
      go_loopg [22] 5 (fun kx s22 wr => ∃ (j : Nat), s22 = .int .i64 j ∧ j ≤ 5 ∧ 5 - j ≤ kx ∧ W5.heap.size ≤ wr.heap.size ∧ Below w.heap.size w wr ∧ KeepB W5.heap.size w.heap.size W5 wr ∧ Hid ((j = 0 → AtL wr w.heap.size [m, kg, s, a, k]) ∧ (j = 1 → AtL wr w.heap.size [(m + g * m2), kg, s, a, k]) ∧ (j = 2 → AtL wr w.heap.size [(m + g * m2), (kg + g * kg2), s, a, k]) ∧ (j = 3 → AtL wr w.heap.size [(m + g * m2), (kg + g * kg2), (s + g * s2), a, k]) ∧ (j = 4 → AtL wr w.heap.size [(m + g * m2), (kg + g * kg2), (s + g * s2), (a + g * a2), k]) ∧ (j = 5 → AtL wr w.heap.size [(m + g * m2), (kg + g * kg2), (s + g * s2), (a + g * a2), (k + g * k2)])))
      case atStart => exact ⟨0, rfl, by omega, by omega, Nat.le_refl _, hB5, KeepB.refl _ _ _, Lib.hid ⟨fun _ => hAt.out, fun h => absurd h (by omega), fun h => absurd h (by omega), fun h => absurd h (by omega), fun h => absurd h (by omega), fun h => absurd h (by omega)⟩⟩
      case round =>
        obtain ⟨j, rfl, hj, hjx, hsr, hBw, hKB, HA⟩ := hrel
        by_cases hj5 : j < 5
        · obtain rfl | rfl | rfl | rfl | rfl : j = 0 ∨ j = 1 ∨ j = 2 ∨ j = 3 ∨ j = 4 := by omega
          · have ca := HA.out.1 (by omega)
            have cj := ca 0 _ rfl
            obtain ⟨cj1, cj2⟩ := cj
            have bj : wr.cell? ⟨w.heap.size + 1, 0, none⟩ = some (.int .i64 m2) := (hKB.cell (by omega) (by omega)).trans b0
            have pj : wr.cell? ⟨w4.heap.size, 0, none⟩ = some (.pointer (some ⟨w.heap.size, 0, none⟩)) := (hKB.cell (by omega) (by omega)).trans p0
            have qj : wr.cell? ⟨w4.heap.size + 1, 0, none⟩ = some (.pointer (some ⟨w.heap.size + 1, 0, none⟩)) := (hKB.cell (by omega) (by omega)).trans q0
            have wm : IntKind.i64.wrap (g * m2) = g * m2 := IntWalk.i64_in _ (by rcases hg with rfl | rfl <;> omega)
            have wa : IntKind.i64.wrap (m + g * m2) = m + g * m2 := IntWalk.i64_in _ (by rcases hg with rfl | rfl <;> omega)
            have szr : w.heap.size < wr.heap.size := by omega
            have sz1 : w.heap.size + 1 < wr.heap.size := by omega
            have sz4 : w4.heap.size < wr.heap.size := by omega
            have sz5 : w4.heap.size + 1 < wr.heap.size := by omega
            go_wp2
            refine wp_still_tail 14 (by kernel_rfl) (by kernel_rfl) ?_
            intro W hW hWs
            have cW1 : W.cell? ⟨w.heap.size, 0, none⟩ = some (.int .i64 m) := (hW.cell (p := ⟨w.heap.size, 0, none⟩) szr).trans cj1
            have cW2 : W.frozen? ⟨w.heap.size, 0, none⟩ = false := (hW.frozen (p := ⟨w.heap.size, 0, none⟩) szr).trans cj2
            have bW : W.cell? ⟨w.heap.size + 1, 0, none⟩ = some (.int .i64 m2) := (hW.cell (p := ⟨w.heap.size + 1, 0, none⟩) sz1).trans bj
            have pW : W.cell? ⟨w4.heap.size, 0, none⟩ = some (.pointer (some ⟨w.heap.size, 0, none⟩)) := (hW.cell (p := ⟨w4.heap.size, 0, none⟩) sz4).trans pj
            have qW : W.cell? ⟨w4.heap.size + 1, 0, none⟩ = some (.pointer (some ⟨w.heap.size + 1, 0, none⟩)) := (hW.cell (p := ⟨w4.heap.size + 1, 0, none⟩) sz5).trans qj
            have HAW : Hid (AtL W w.heap.size [m, kg, s, a, k]) := Lib.hid (fun i v hi => by
              rw [hW.cell (p := ⟨w.heap.size, i, none⟩) szr, hW.frozen (p := ⟨w.heap.size, i, none⟩) szr]
              exact ca i v hi)
            simp only [List.take_succ_cons, List.take_zero, List.drop_succ_cons, List.drop_zero]
            repeat (first | (refine wpStill_step (fun K hK => ?_); go_simp; refine hK _ ?_; clear hK K))
            refine wpStill_nil ?_
            go_wp2
            go_roundg (5 - (0 + 1))
            case measure => omega
            case rel => exact ⟨0 + 1, by go_num, by omega, by omega, by rw [World.size_setCell]; omega, hBw.trans ((hW.mono (show w.heap.size ≤ wr.heap.size by omega)).setCell (p := ⟨w.heap.size, 0, none⟩) (Nat.le_refl _) _), hKB.trans (KeepB.trans ⟨hW.mono (Nat.zero_le _), fun q hq _ => hW.block q (by omega)⟩ (KeepB.setC W 0 _)), Lib.hid ⟨fun h => absurd h (by omega), fun _ => HAW.out.set (by simp) _, fun h => absurd h (by omega), fun h => absurd h (by omega), fun h => absurd h (by omega), fun h => absurd h (by omega)⟩⟩
          · have ca := HA.out.2.1 (by omega)
            have cj := ca 1 _ rfl
            obtain ⟨cj1, cj2⟩ := cj
            have bj : wr.cell? ⟨w.heap.size + 1, 1, none⟩ = some (.int .i64 kg2) := (hKB.cell (by omega) (by omega)).trans b1
            have pj : wr.cell? ⟨w4.heap.size, 1, none⟩ = some (.pointer (some ⟨w.heap.size, 1, none⟩)) := (hKB.cell (by omega) (by omega)).trans p1
            have qj : wr.cell? ⟨w4.heap.size + 1, 1, none⟩ = some (.pointer (some ⟨w.heap.size + 1, 1, none⟩)) := (hKB.cell (by omega) (by omega)).trans q1
            have wm : IntKind.i64.wrap (g * kg2) = g * kg2 := IntWalk.i64_in _ (by rcases hg with rfl | rfl <;> omega)
            have wa : IntKind.i64.wrap (kg + g * kg2) = kg + g * kg2 := IntWalk.i64_in _ (by rcases hg with rfl | rfl <;> omega)
            have szr : w.heap.size < wr.heap.size := by omega
            have sz1 : w.heap.size + 1 < wr.heap.size := by omega
            have sz4 : w4.heap.size < wr.heap.size := by omega
            have sz5 : w4.heap.size + 1 < wr.heap.size := by omega
            go_wp2
            refine wp_still_tail 14 (by kernel_rfl) (by kernel_rfl) ?_
            intro W hW hWs
            have cW1 : W.cell? ⟨w.heap.size, 1, none⟩ = some (.int .i64 kg) := (hW.cell (p := ⟨w.heap.size, 1, none⟩) szr).trans cj1
            have cW2 : W.frozen? ⟨w.heap.size, 1, none⟩ = false := (hW.frozen (p := ⟨w.heap.size, 1, none⟩) szr).trans cj2
            have bW : W.cell? ⟨w.heap.size + 1, 1, none⟩ = some (.int .i64 kg2) := (hW.cell (p := ⟨w.heap.size + 1, 1, none⟩) sz1).trans bj
            have pW : W.cell? ⟨w4.heap.size, 1, none⟩ = some (.pointer (some ⟨w.heap.size, 1, none⟩)) := (hW.cell (p := ⟨w4.heap.size, 1, none⟩) sz4).trans pj
            have qW : W.cell? ⟨w4.heap.size + 1, 1, none⟩ = some (.pointer (some ⟨w.heap.size + 1, 1, none⟩)) := (hW.cell (p := ⟨w4.heap.size + 1, 1, none⟩) sz5).trans qj
            have HAW : Hid (AtL W w.heap.size [(m + g * m2), kg, s, a, k]) := Lib.hid (fun i v hi => by
              rw [hW.cell (p := ⟨w.heap.size, i, none⟩) szr, hW.frozen (p := ⟨w.heap.size, i, none⟩) szr]
              exact ca i v hi)
            simp only [List.take_succ_cons, List.take_zero, List.drop_succ_cons, List.drop_zero]
            repeat (first | (refine wpStill_step (fun K hK => ?_); go_simp; refine hK _ ?_; clear hK K))
            refine wpStill_nil ?_
            go_wp2
            go_roundg (5 - (1 + 1))
            case measure => omega
            case rel => exact ⟨1 + 1, by go_num, by omega, by omega, by rw [World.size_setCell]; omega, hBw.trans ((hW.mono (show w.heap.size ≤ wr.heap.size by omega)).setCell (p := ⟨w.heap.size, 1, none⟩) (Nat.le_refl _) _), hKB.trans (KeepB.trans ⟨hW.mono (Nat.zero_le _), fun q hq _ => hW.block q (by omega)⟩ (KeepB.setC W 1 _)), Lib.hid ⟨fun h => absurd h (by omega), fun h => absurd h (by omega), fun _ => HAW.out.set (by simp) _, fun h => absurd h (by omega), fun h => absurd h (by omega), fun h => absurd h (by omega)⟩⟩
          · have ca := HA.out.2.2.1 (by omega)
            have cj := ca 2 _ rfl
            obtain ⟨cj1, cj2⟩ := cj
            have bj : wr.cell? ⟨w.heap.size + 1, 2, none⟩ = some (.int .i64 s2) := (hKB.cell (by omega) (by omega)).trans b2
            have pj : wr.cell? ⟨w4.heap.size, 2, none⟩ = some (.pointer (some ⟨w.heap.size, 2, none⟩)) := (hKB.cell (by omega) (by omega)).trans p2
            have qj : wr.cell? ⟨w4.heap.size + 1, 2, none⟩ = some (.pointer (some ⟨w.heap.size + 1, 2, none⟩)) := (hKB.cell (by omega) (by omega)).trans q2
            have wm : IntKind.i64.wrap (g * s2) = g * s2 := IntWalk.i64_in _ (by rcases hg with rfl | rfl <;> omega)
            have wa : IntKind.i64.wrap (s + g * s2) = s + g * s2 := IntWalk.i64_in _ (by rcases hg with rfl | rfl <;> omega)
            have szr : w.heap.size < wr.heap.size := by omega
            have sz1 : w.heap.size + 1 < wr.heap.size := by omega
            have sz4 : w4.heap.size < wr.heap.size := by omega
            have sz5 : w4.heap.size + 1 < wr.heap.size := by omega
            go_wp2
            refine wp_still_tail 14 (by kernel_rfl) (by kernel_rfl) ?_
            intro W hW hWs
            have cW1 : W.cell? ⟨w.heap.size, 2, none⟩ = some (.int .i64 s) := (hW.cell (p := ⟨w.heap.size, 2, none⟩) szr).trans cj1
            have cW2 : W.frozen? ⟨w.heap.size, 2, none⟩ = false := (hW.frozen (p := ⟨w.heap.size, 2, none⟩) szr).trans cj2
            have bW : W.cell? ⟨w.heap.size + 1, 2, none⟩ = some (.int .i64 s2) := (hW.cell (p := ⟨w.heap.size + 1, 2, none⟩) sz1).trans bj
            have pW : W.cell? ⟨w4.heap.size, 2, none⟩ = some (.pointer (some ⟨w.heap.size, 2, none⟩)) := (hW.cell (p := ⟨w4.heap.size, 2, none⟩) sz4).trans pj
            have qW : W.cell? ⟨w4.heap.size + 1, 2, none⟩ = some (.pointer (some ⟨w.heap.size + 1, 2, none⟩)) := (hW.cell (p := ⟨w4.heap.size + 1, 2, none⟩) sz5).trans qj
            have HAW : Hid (AtL W w.heap.size [(m + g * m2), (kg + g * kg2), s, a, k]) := Lib.hid (fun i v hi => by
              rw [hW.cell (p := ⟨w.heap.size, i, none⟩) szr, hW.frozen (p := ⟨w.heap.size, i, none⟩) szr]
              exact ca i v hi)
            simp only [List.take_succ_cons, List.take_zero, List.drop_succ_cons, List.drop_zero]
            repeat (first | (refine wpStill_step (fun K hK => ?_); go_simp; refine hK _ ?_; clear hK K))
            refine wpStill_nil ?_
            go_wp2
            go_roundg (5 - (2 + 1))
            case measure => omega
            case rel => exact ⟨2 + 1, by go_num, by omega, by omega, by rw [World.size_setCell]; omega, hBw.trans ((hW.mono (show w.heap.size ≤ wr.heap.size by omega)).setCell (p := ⟨w.heap.size, 2, none⟩) (Nat.le_refl _) _), hKB.trans (KeepB.trans ⟨hW.mono (Nat.zero_le _), fun q hq _ => hW.block q (by omega)⟩ (KeepB.setC W 2 _)), Lib.hid ⟨fun h => absurd h (by omega), fun h => absurd h (by omega), fun h => absurd h (by omega), fun _ => HAW.out.set (by simp) _, fun h => absurd h (by omega), fun h => absurd h (by omega)⟩⟩
          · have ca := HA.out.2.2.2.1 (by omega)
            have cj := ca 3 _ rfl
            obtain ⟨cj1, cj2⟩ := cj
            have bj : wr.cell? ⟨w.heap.size + 1, 3, none⟩ = some (.int .i64 a2) := (hKB.cell (by omega) (by omega)).trans b3
            have pj : wr.cell? ⟨w4.heap.size, 3, none⟩ = some (.pointer (some ⟨w.heap.size, 3, none⟩)) := (hKB.cell (by omega) (by omega)).trans p3
            have qj : wr.cell? ⟨w4.heap.size + 1, 3, none⟩ = some (.pointer (some ⟨w.heap.size + 1, 3, none⟩)) := (hKB.cell (by omega) (by omega)).trans q3
            have wm : IntKind.i64.wrap (g * a2) = g * a2 := IntWalk.i64_in _ (by rcases hg with rfl | rfl <;> omega)
            have wa : IntKind.i64.wrap (a + g * a2) = a + g * a2 := IntWalk.i64_in _ (by rcases hg with rfl | rfl <;> omega)
            have szr : w.heap.size < wr.heap.size := by omega
            have sz1 : w.heap.size + 1 < wr.heap.size := by omega
            have sz4 : w4.heap.size < wr.heap.size := by omega
            have sz5 : w4.heap.size + 1 < wr.heap.size := by omega
            go_wp2
            refine wp_still_tail 14 (by kernel_rfl) (by kernel_rfl) ?_
            intro W hW hWs
            have cW1 : W.cell? ⟨w.heap.size, 3, none⟩ = some (.int .i64 a) := (hW.cell (p := ⟨w.heap.size, 3, none⟩) szr).trans cj1
            have cW2 : W.frozen? ⟨w.heap.size, 3, none⟩ = false := (hW.frozen (p := ⟨w.heap.size, 3, none⟩) szr).trans cj2
            have bW : W.cell? ⟨w.heap.size + 1, 3, none⟩ = some (.int .i64 a2) := (hW.cell (p := ⟨w.heap.size + 1, 3, none⟩) sz1).trans bj
            have pW : W.cell? ⟨w4.heap.size, 3, none⟩ = some (.pointer (some ⟨w.heap.size, 3, none⟩)) := (hW.cell (p := ⟨w4.heap.size, 3, none⟩) sz4).trans pj
            have qW : W.cell? ⟨w4.heap.size + 1, 3, none⟩ = some (.pointer (some ⟨w.heap.size + 1, 3, none⟩)) := (hW.cell (p := ⟨w4.heap.size + 1, 3, none⟩) sz5).trans qj
            have HAW : Hid (AtL W w.heap.size [(m + g * m2), (kg + g * kg2), (s + g * s2), a, k]) := Lib.hid (fun i v hi => by
              rw [hW.cell (p := ⟨w.heap.size, i, none⟩) szr, hW.frozen (p := ⟨w.heap.size, i, none⟩) szr]
              exact ca i v hi)
            simp only [List.take_succ_cons, List.take_zero, List.drop_succ_cons, List.drop_zero]
            repeat (first | (refine wpStill_step (fun K hK => ?_); go_simp; refine hK _ ?_; clear hK K))
            refine wpStill_nil ?_
            go_wp2
            go_roundg (5 - (3 + 1))
            case measure => omega
            case rel => exact ⟨3 + 1, by go_num, by omega, by omega, by rw [World.size_setCell]; omega, hBw.trans ((hW.mono (show w.heap.size ≤ wr.heap.size by omega)).setCell (p := ⟨w.heap.size, 3, none⟩) (Nat.le_refl _) _), hKB.trans (KeepB.trans ⟨hW.mono (Nat.zero_le _), fun q hq _ => hW.block q (by omega)⟩ (KeepB.setC W 3 _)), Lib.hid ⟨fun h => absurd h (by omega), fun h => absurd h (by omega), fun h => absurd h (by omega), fun h => absurd h (by omega), fun _ => HAW.out.set (by simp) _, fun h => absurd h (by omega)⟩⟩
          · have ca := HA.out.2.2.2.2.1 (by omega)
            have cj := ca 4 _ rfl
            obtain ⟨cj1, cj2⟩ := cj
            have bj : wr.cell? ⟨w.heap.size + 1, 4, none⟩ = some (.int .i64 k2) := (hKB.cell (by omega) (by omega)).trans b4
            have pj : wr.cell? ⟨w4.heap.size, 4, none⟩ = some (.pointer (some ⟨w.heap.size, 4, none⟩)) := (hKB.cell (by omega) (by omega)).trans p4
            have qj : wr.cell? ⟨w4.heap.size + 1, 4, none⟩ = some (.pointer (some ⟨w.heap.size + 1, 4, none⟩)) := (hKB.cell (by omega) (by omega)).trans q4
            have wm : IntKind.i64.wrap (g * k2) = g * k2 := IntWalk.i64_in _ (by rcases hg with rfl | rfl <;> omega)
            have wa : IntKind.i64.wrap (k + g * k2) = k + g * k2 := IntWalk.i64_in _ (by rcases hg with rfl | rfl <;> omega)
            have szr : w.heap.size < wr.heap.size := by omega
            have sz1 : w.heap.size + 1 < wr.heap.size := by omega
            have sz4 : w4.heap.size < wr.heap.size := by omega
            have sz5 : w4.heap.size + 1 < wr.heap.size := by omega
            go_wp2
            refine wp_still_tail 14 (by kernel_rfl) (by kernel_rfl) ?_
            intro W hW hWs
            have cW1 : W.cell? ⟨w.heap.size, 4, none⟩ = some (.int .i64 k) := (hW.cell (p := ⟨w.heap.size, 4, none⟩) szr).trans cj1
            have cW2 : W.frozen? ⟨w.heap.size, 4, none⟩ = false := (hW.frozen (p := ⟨w.heap.size, 4, none⟩) szr).trans cj2
            have bW : W.cell? ⟨w.heap.size + 1, 4, none⟩ = some (.int .i64 k2) := (hW.cell (p := ⟨w.heap.size + 1, 4, none⟩) sz1).trans bj
            have pW : W.cell? ⟨w4.heap.size, 4, none⟩ = some (.pointer (some ⟨w.heap.size, 4, none⟩)) := (hW.cell (p := ⟨w4.heap.size, 4, none⟩) sz4).trans pj
            have qW : W.cell? ⟨w4.heap.size + 1, 4, none⟩ = some (.pointer (some ⟨w.heap.size + 1, 4, none⟩)) := (hW.cell (p := ⟨w4.heap.size + 1, 4, none⟩) sz5).trans qj
            have HAW : Hid (AtL W w.heap.size [(m + g * m2), (kg + g * kg2), (s + g * s2), (a + g * a2), k]) := Lib.hid (fun i v hi => by
              rw [hW.cell (p := ⟨w.heap.size, i, none⟩) szr, hW.frozen (p := ⟨w.heap.size, i, none⟩) szr]
              exact ca i v hi)
            simp only [List.take_succ_cons, List.take_zero, List.drop_succ_cons, List.drop_zero]
            repeat (first | (refine wpStill_step (fun K hK => ?_); go_simp; refine hK _ ?_; clear hK K))
            refine wpStill_nil ?_
            go_wp2
            go_roundg (5 - (4 + 1))
            case measure => omega
            case rel => exact ⟨4 + 1, by go_num, by omega, by omega, by rw [World.size_setCell]; omega, hBw.trans ((hW.mono (show w.heap.size ≤ wr.heap.size by omega)).setCell (p := ⟨w.heap.size, 4, none⟩) (Nat.le_refl _) _), hKB.trans (KeepB.trans ⟨hW.mono (Nat.zero_le _), fun q hq _ => hW.block q (by omega)⟩ (KeepB.setC W 4 _)), Lib.hid ⟨fun h => absurd h (by omega), fun h => absurd h (by omega), fun h => absurd h (by omega), fun h => absurd h (by omega), fun h => absurd h (by omega), fun _ => HAW.out.set (by simp) _⟩⟩
        · obtain rfl : j = 5 := by omega
          have ca := HA.out.2.2.2.2.2 (by omega)
          have f0 : wr.cell? ⟨w.heap.size, 0, none⟩ = some (.int .i64 (m + g * m2)) := (ca 0 _ rfl).1
          have f1 : wr.cell? ⟨w.heap.size, 1, none⟩ = some (.int .i64 (kg + g * kg2)) := (ca 1 _ rfl).1
          have f2 : wr.cell? ⟨w.heap.size, 2, none⟩ = some (.int .i64 (s + g * s2)) := (ca 2 _ rfl).1
          have f3 : wr.cell? ⟨w.heap.size, 3, none⟩ = some (.int .i64 (a + g * a2)) := (ca 3 _ rfl).1
          have f4 : wr.cell? ⟨w.heap.size, 4, none⟩ = some (.int .i64 (k + g * k2)) := (ca 4 _ rfl).1
          have y0 : wr.cell? ⟨w.heap.size + 1 + 1, 0, none⟩ = some (.int .i64 0) := (hKB.cell (by omega) (by omega)).trans z0.1
          have yf0 : wr.frozen? ⟨w.heap.size + 1 + 1, 0, none⟩ = false := (hKB.frozen (by omega) (by omega)).trans z0.2
          have y1 : wr.cell? ⟨w.heap.size + 1 + 1, 1, none⟩ = some (.int .i64 0) := (hKB.cell (by omega) (by omega)).trans z1.1
          have yf1 : wr.frozen? ⟨w.heap.size + 1 + 1, 1, none⟩ = false := (hKB.frozen (by omega) (by omega)).trans z1.2
          have y2 : wr.cell? ⟨w.heap.size + 1 + 1, 2, none⟩ = some (.int .i64 0) := (hKB.cell (by omega) (by omega)).trans z2.1
          have yf2 : wr.frozen? ⟨w.heap.size + 1 + 1, 2, none⟩ = false := (hKB.frozen (by omega) (by omega)).trans z2.2
          have y3 : wr.cell? ⟨w.heap.size + 1 + 1, 3, none⟩ = some (.int .i64 0) := (hKB.cell (by omega) (by omega)).trans z3.1
          have yf3 : wr.frozen? ⟨w.heap.size + 1 + 1, 3, none⟩ = false := (hKB.frozen (by omega) (by omega)).trans z3.2
          have y4 : wr.cell? ⟨w.heap.size + 1 + 1, 4, none⟩ = some (.int .i64 0) := (hKB.cell (by omega) (by omega)).trans z4.1
          have yf4 : wr.frozen? ⟨w.heap.size + 1 + 1, 4, none⟩ = false := (hKB.frozen (by omega) (by omega)).trans z4.2
          have sa0 : w.heap.size < wr.heap.size := by omega
          have sa2 : w.heap.size + 1 + 1 < wr.heap.size := by omega
          clear ca HA
          cases hu3 : unitB (m + g * m2) (kg + g * kg2) (s + g * s2) (a + g * a2) (k + g * k2)
          · have HU3 := Lib.hid hu3
            obtain rfl : E = 2 := by rw [HE2.out, HU3.out]; rfl
            clear HE2 hu3
            go_wp2_with (first | (go_at_call 98; refine (uvalid_v HU3.out _).mono ?_; rintro _ w6 ⟨rfl, hb6⟩; obtain ⟨hb6c, hb6f⟩ := bcell hb6; have hb6s := hb6.size; have hb6w : Below w.heap.size wr w6 := hb6.mono (show w.heap.size ≤ wr.heap.size by omega); have sb2 : w.heap.size + 1 + 1 < w6.heap.size := (by omega)))
            refine bodyPost_ret (by simp [results, Try.results128, go_sem, *]; try rfl) rfl ?_
            exact ⟨rfl, hBw.trans (by (repeat' (first | (with_reducible exact Below.refl _ _) | (with_reducible assumption) | (with_reducible refine below_alloc ?_ _) | (with_reducible refine Below.drew ?_) | (with_reducible refine below_drewN ?_ _) | (with_reducible refine below_step (by assumption) ?_) | (with_reducible refine below_later ?_ _) | (with_reducible refine Below.setCell ?_ ?_ _) | go_size)))⟩
          · have HU3 := Lib.hid hu3
            obtain rfl : E = 0 := by rw [HE2.out, HU3.out]; rfl
            clear HE2 hu3
            go_wp2_with (first | (go_at_call 98; refine (uvalid_v HU3.out _).mono ?_; rintro _ w6 ⟨rfl, hb6⟩; obtain ⟨hb6c, hb6f⟩ := bcell hb6; have hb6s := hb6.size; have hb6w : Below w.heap.size wr w6 := hb6.mono (show w.heap.size ≤ wr.heap.size by omega); have sb2 : w.heap.size + 1 + 1 < w6.heap.size := (by omega); have sb0 : w.heap.size < w6.heap.size := (by omega)))
            refine bodyPost_ret (by simp [results, Try.results128, go_sem, *]; try rfl) rfl ?_
            exact ⟨rfl, hBw.trans (by (repeat' (first | (with_reducible exact Below.refl _ _) | (with_reducible assumption) | (with_reducible refine below_alloc ?_ _) | (with_reducible refine Below.drew ?_) | (with_reducible refine below_drewN ?_ _) | (with_reducible refine below_step (by assumption) ?_) | (with_reducible refine below_later ?_ _) | (with_reducible refine Below.setCell ?_ ?_ _) | go_size)))⟩
end Go.Proofs.Ytfooefiaenlhmaa
namespace Go.Proofs.Ytfooefiaenlhmaa
set_option linter.unusedVariables false
set_option linter.unusedSimpArgs false
open Go.RowKit Go.ChangeShapes Go.WideShapes Go.ChangeAt

def rowN : Nat → ByteArray
  | 0 => ⟨#[]⟩
  | 1 => ⟨#[99, 111, 110, 115, 116]⟩
  | 2 => ⟨#[108, 111, 97, 100]⟩
  | 3 => ⟨#[115, 116, 111, 114, 101]⟩
  | 4 => ⟨#[109, 111, 118, 101]⟩
  | 5 => ⟨#[97, 100, 100]⟩
  | 6 => ⟨#[115, 117, 98]⟩
  | 7 => ⟨#[109, 117, 108]⟩
  | 8 => ⟨#[100, 105, 118]⟩
  | 9 => ⟨#[110, 101, 103]⟩
  | 10 => ⟨#[99, 111, 110, 118, 101, 114, 116]⟩
  | 11 => ⟨#[109, 105, 110]⟩
  | 12 => ⟨#[109, 97, 120]⟩
  | 13 => ⟨#[108, 101, 115, 115]⟩
  | 14 => ⟨#[101, 113, 117, 97, 108]⟩
  | 15 => ⟨#[98, 101, 108, 111, 119]⟩
  | 16 => ⟨#[97, 110, 100]⟩
  | 17 => ⟨#[111, 114]⟩
  | 18 => ⟨#[110, 111, 116]⟩
  | 19 => ⟨#[115, 101, 108, 101, 99, 116]⟩
  | 20 => ⟨#[99, 117, 114, 118, 101]⟩
  | 21 => ⟨#[109, 97, 112]⟩
  | 22 => ⟨#[108, 97, 103]⟩
  | _ => ⟨#[]⟩
def rowF : Nat → ByteArray
  | 0 => ⟨#[]⟩
  | 1 => ⟨#[65, 75]⟩
  | 2 => ⟨#[65, 75]⟩
  | 3 => ⟨#[65, 75]⟩
  | 4 => ⟨#[65, 66]⟩
  | 5 => ⟨#[65, 66, 67, 75]⟩
  | 6 => ⟨#[65, 66, 67, 75]⟩
  | 7 => ⟨#[65, 66, 67, 75]⟩
  | 8 => ⟨#[65, 66, 67, 75]⟩
  | 9 => ⟨#[65, 66, 75]⟩
  | 10 => ⟨#[65, 66, 75]⟩
  | 11 => ⟨#[65, 66, 67]⟩
  | 12 => ⟨#[65, 66, 67]⟩
  | 13 => ⟨#[65, 66, 67, 75]⟩
  | 14 => ⟨#[65, 66, 67, 75]⟩
  | 15 => ⟨#[65, 66, 67]⟩
  | 16 => ⟨#[65, 66, 67]⟩
  | 17 => ⟨#[65, 66, 67]⟩
  | 18 => ⟨#[65, 66]⟩
  | 19 => ⟨#[65, 66, 67, 75]⟩
  | 20 => ⟨#[65, 66, 75]⟩
  | 21 => ⟨#[65, 66, 67, 75]⟩
  | 22 => ⟨#[65, 66, 75]⟩
  | _ => ⟨#[]⟩
def rowC : Nat → Int
  | 0 => 0
  | 1 => 1
  | 2 => 2
  | 3 => 2
  | 4 => 1
  | 5 => 3
  | 6 => 3
  | 7 => 4
  | 8 => 12
  | 9 => 3
  | 10 => 4
  | 11 => 1
  | 12 => 1
  | 13 => 3
  | 14 => 4
  | 15 => 1
  | 16 => 1
  | 17 => 1
  | 18 => 1
  | 19 => 2
  | 20 => 20
  | 21 => 40
  | 22 => 8
  | _ => 0
def rowCells : Array Value := #[.string ⟨#[]⟩, .string ⟨#[]⟩, .int .i64 0, .string ⟨#[99, 111, 110, 115, 116]⟩, .string ⟨#[65, 75]⟩, .int .i64 1, .string ⟨#[108, 111, 97, 100]⟩, .string ⟨#[65, 75]⟩, .int .i64 2, .string ⟨#[115, 116, 111, 114, 101]⟩, .string ⟨#[65, 75]⟩, .int .i64 2, .string ⟨#[109, 111, 118, 101]⟩, .string ⟨#[65, 66]⟩, .int .i64 1, .string ⟨#[97, 100, 100]⟩, .string ⟨#[65, 66, 67, 75]⟩, .int .i64 3, .string ⟨#[115, 117, 98]⟩, .string ⟨#[65, 66, 67, 75]⟩, .int .i64 3, .string ⟨#[109, 117, 108]⟩, .string ⟨#[65, 66, 67, 75]⟩, .int .i64 4, .string ⟨#[100, 105, 118]⟩, .string ⟨#[65, 66, 67, 75]⟩, .int .i64 12, .string ⟨#[110, 101, 103]⟩, .string ⟨#[65, 66, 75]⟩, .int .i64 3, .string ⟨#[99, 111, 110, 118, 101, 114, 116]⟩, .string ⟨#[65, 66, 75]⟩, .int .i64 4, .string ⟨#[109, 105, 110]⟩, .string ⟨#[65, 66, 67]⟩, .int .i64 1, .string ⟨#[109, 97, 120]⟩, .string ⟨#[65, 66, 67]⟩, .int .i64 1, .string ⟨#[108, 101, 115, 115]⟩, .string ⟨#[65, 66, 67, 75]⟩, .int .i64 3, .string ⟨#[101, 113, 117, 97, 108]⟩, .string ⟨#[65, 66, 67, 75]⟩, .int .i64 4, .string ⟨#[98, 101, 108, 111, 119]⟩, .string ⟨#[65, 66, 67]⟩, .int .i64 1, .string ⟨#[97, 110, 100]⟩, .string ⟨#[65, 66, 67]⟩, .int .i64 1, .string ⟨#[111, 114]⟩, .string ⟨#[65, 66, 67]⟩, .int .i64 1, .string ⟨#[110, 111, 116]⟩, .string ⟨#[65, 66]⟩, .int .i64 1, .string ⟨#[115, 101, 108, 101, 99, 116]⟩, .string ⟨#[65, 66, 67, 75]⟩, .int .i64 2, .string ⟨#[99, 117, 114, 118, 101]⟩, .string ⟨#[65, 66, 75]⟩, .int .i64 20, .string ⟨#[109, 97, 112]⟩, .string ⟨#[65, 66, 67, 75]⟩, .int .i64 40, .string ⟨#[108, 97, 103]⟩, .string ⟨#[65, 66, 75]⟩, .int .i64 8]
theorem rowCells_at (n : Nat) (h : n < 23) : rowCells[n * 3]? = some (.string (rowN n)) ∧ rowCells[n * 3 + 1]? = some (.string (rowF n)) ∧ rowCells[n * 3 + 2]? = some (.int .i64 (rowC n)) := by
  rcases n with _ | _ | _ | _ | _ | _ | _ | _ | _ | _ | _ | _ | _ | _ | _ | _ | _ | _ | _ | _ | _ | _ | _ | n
  all_goals first | exact ⟨rfl, rfl, rfl⟩ | omega
set_option maxRecDepth 100000 in
set_option maxHeartbeats 4000000 in
theorem rows_any (w : World) : Calls Try.prog 115 #[] w fun e w' => ∃ g, e = .returned (.slice (some ⟨g, 0, none⟩) 23 23) ∧ w.heap.size ≤ g ∧ g < w'.heap.size ∧ Below w.heap.size w w' ∧ Hid (∀ n, n < 23 → w'.cell? ⟨g, n * 3, none⟩ = some (.string (rowN n)) ∧ w'.cell? ⟨g, n * 3 + 1, none⟩ = some (.string (rowF n)) ∧ w'.cell? ⟨g, n * 3 + 2, none⟩ = some (.int .i64 (rowC n))) := by
  go_enter Try.func115, Try.ntmps115
  go_wp2
  go_ret
  refine ⟨w.heap.size, rfl, Nat.le_refl _, by simp, by (repeat' (first | (with_reducible exact Below.refl _ _) | (with_reducible assumption) | (with_reducible refine below_alloc ?_ _) | (with_reducible refine Below.drew ?_) | (with_reducible refine below_drewN ?_ _) | (with_reducible refine below_step (by assumption) ?_) | (with_reducible refine below_later ?_ _) | (with_reducible refine Below.setCell ?_ ?_ _) | go_size)), Lib.hid (fun n hn => ?_)⟩
  have h := rowCells_at n hn
  exact ⟨(World.cell?_alloc_new _ _ _ _).trans h.1, (World.cell?_alloc_new _ _ _ _).trans h.2.1, (World.cell?_alloc_new _ _ _ _).trans h.2.2⟩
def opB (op : Int) : Bool := decide (1 ≤ op ∧ op ≤ 22)
def typB (op : Int) : Bool := decide (5 ≤ op ∧ op ≤ 10 ∨ op = 13 ∨ op = 14)
theorem known_any (op : Int) (w : World) : Calls Try.prog 114 #[.int .i64 op] w fun e w' => e = .returned (.bool (opB op)) ∧ w' = w := by
  by_cases h1 : 1 ≤ op
  · by_cases h2 : op ≤ 22
    · have H : Hid (opB op = true) := Lib.hid (by simp [opB, h1, h2])
      go_enter Try.func114, Try.ntmps114
      go_wp2
      go_ret
      exact ⟨by rw [H.out]; simp [h1, h2], rfl⟩
    · have H : Hid (opB op = false) := Lib.hid (by simp [opB, h1, h2])
      go_enter Try.func114, Try.ntmps114
      go_wp2
      go_ret
      exact ⟨by rw [H.out]; simp [h1, h2], rfl⟩
  · have H : Hid (opB op = false) := Lib.hid (by simp [opB, h1])
    go_enter Try.func114, Try.ntmps114
    go_wp2
    go_ret
    exact ⟨by rw [H.out]; simp [h1], rfl⟩
theorem typed_any (op : Int) (w : World) : Calls Try.prog 106 #[.int .i64 op] w fun e w' => e = .returned (.bool (typB op)) ∧ w' = w := by
  by_cases h13 : op = 13
  · subst h13
    have H : Hid (typB 13 = true) := Lib.hid (by rfl)
    go_enter Try.func106, Try.ntmps106
    go_wp2
    go_ret
    exact ⟨by rw [H.out]; first | rfl | (simp [*]; done), rfl⟩
  by_cases h14 : op = 14
  · subst h14
    have H : Hid (typB 14 = true) := Lib.hid (by rfl)
    go_enter Try.func106, Try.ntmps106
    go_wp2
    go_ret
    exact ⟨by rw [H.out]; first | rfl | (simp [*]; done), rfl⟩
  by_cases h5 : 5 ≤ op
  · by_cases h10 : op ≤ 10
    · have H : Hid (typB op = true) := Lib.hid (by unfold typB; simp [h5, h10])
      go_enter Try.func106, Try.ntmps106
      go_wp2
      go_ret
      exact ⟨by rw [H.out]; first | rfl | (simp [*]; done), rfl⟩
    · have H : Hid (typB op = false) := Lib.hid (by unfold typB; simp [h5, h10, h13, h14])
      go_enter Try.func106, Try.ntmps106
      go_wp2
      go_ret
      exact ⟨by rw [H.out]; first | rfl | (simp [*]; done), rfl⟩
  · have H : Hid (typB op = false) := Lib.hid (by unfold typB; simp [h5, h13, h14])
    go_enter Try.func106, Try.ntmps106
    go_wp2
    go_ret
    exact ⟨by rw [H.out]; first | rfl | (simp [*]; done), rfl⟩
theorem split_any (k : Int) (hk : I64 k) (w : World) : Calls Try.prog 120 #[.int .i64 k] w fun e w' => e = .returned (.tuple #[.int .i64 (k / 16384), .int .i64 (k / 128 % 128), .int .i64 (k % 128)]) ∧ w' = w := by
  have h1 := i64_and127 k
  have h2 := i64_and127 (k / 128)
  go_enter Try.func120, Try.ntmps120
  go_wp2
  go_ret3
  exact ⟨by first | rfl | (simp; done) | skip, rfl⟩
def fieldI (a b c k n : Int) : Int := if n = 65 then a else if n = 66 then b else if n = 67 then c else k
theorem field_any (op a b c k n : Int) (w : World) : Calls Try.prog 116 #[.agg #[.int .i64 op, .int .i64 a, .int .i64 b, .int .i64 c, .int .i64 k], .int .u8 n] w fun e w' => e = .returned (.int .i64 (fieldI a b c k n)) ∧ Below w.heap.size w w' := by
  by_cases h1 : n = 65
  · subst h1
    go_enter Try.func116, Try.ntmps116
    go_wp2
    go_ret
    exact ⟨rfl, by (repeat' (first | (with_reducible exact Below.refl _ _) | (with_reducible assumption) | (with_reducible refine below_alloc ?_ _) | (with_reducible refine Below.drew ?_) | (with_reducible refine below_drewN ?_ _) | (with_reducible refine below_step (by assumption) ?_) | (with_reducible refine below_later ?_ _) | (with_reducible refine Below.setCell ?_ ?_ _) | go_size))⟩
  · by_cases h2 : n = 66
    · subst h2
      go_enter Try.func116, Try.ntmps116
      go_wp2
      go_ret
      exact ⟨rfl, by (repeat' (first | (with_reducible exact Below.refl _ _) | (with_reducible assumption) | (with_reducible refine below_alloc ?_ _) | (with_reducible refine Below.drew ?_) | (with_reducible refine below_drewN ?_ _) | (with_reducible refine below_step (by assumption) ?_) | (with_reducible refine below_later ?_ _) | (with_reducible refine Below.setCell ?_ ?_ _) | go_size))⟩
    · by_cases h3 : n = 67
      · subst h3
        go_enter Try.func116, Try.ntmps116
        go_wp2
        go_ret
        exact ⟨rfl, by (repeat' (first | (with_reducible exact Below.refl _ _) | (with_reducible assumption) | (with_reducible refine below_alloc ?_ _) | (with_reducible refine Below.drew ?_) | (with_reducible refine below_drewN ?_ _) | (with_reducible refine below_step (by assumption) ?_) | (with_reducible refine below_later ?_ _) | (with_reducible refine Below.setCell ?_ ?_ _) | go_size))⟩
      · go_enter Try.func116, Try.ntmps116
        go_wp2
        go_ret
        exact ⟨by simp [fieldI, h1, h2, h3], by (repeat' (first | (with_reducible exact Below.refl _ _) | (with_reducible assumption) | (with_reducible refine below_alloc ?_ _) | (with_reducible refine Below.drew ?_) | (with_reducible refine below_drewN ?_ _) | (with_reducible refine below_step (by assumption) ?_) | (with_reducible refine below_later ?_ _) | (with_reducible refine Below.setCell ?_ ?_ _) | go_size))⟩
set_option maxRecDepth 100000 in
set_option maxHeartbeats 1000000 in
theorem litB_any (s : ByteArray) (c : Int) (w : World) : Calls Try.prog 126 #[.string s, .int .u8 c] w fun e w' => e = .returned (.int .i64 (Lib.indexByte s.data.toList c.toNat.toUInt8)) ∧ w' = w := by
  go_enter Try.func126, Try.ntmps126
  go_wp2
  rw [run_callFunc_extern Try.func129 (by kernel_rfl) (by kernel_rfl) (by kernel_rfl) (e := Extern.BytealgIndexByte.indexByte) (by kernel_rfl), Lib.run_indexByteString]
  simp only [Result.andThen]
  rw [Oper.upon_value]
  go_wp2
  go_ret
  exact ⟨rfl, rfl⟩
theorem idxB_any (s : ByteArray) (c v : Int) (hv : Lib.indexByte s.data.toList c.toNat.toUInt8 = v) (w : World) : Calls Try.prog 117 #[.string s, .int .u8 c] w fun e w' => e = .returned (.int .i64 v) ∧ w' = w := by
  subst hv
  go_enter Try.func117, Try.ntmps117
  go_wp2_with (go_at_call 126; refine (litB_any _ _ _).mono ?_; rintro e w' ⟨rfl, rfl⟩)
  go_ret
  exact ⟨rfl, rfl⟩
set_option maxHeartbeats 1000000 in
theorem sufL_any (s p : ByteArray) (w : World) (hs : s.size ≤ 9223372036854775807) : Calls Try.prog 127 #[.string s, .string p] w fun e w' => e = .returned (.bool (Lib.hasSuffix s.data.toList p.data.toList)) ∧ w' = w := by
  rw [← Lib.hasSuffix_raw]
  have hlo : p.size ≤ s.size → ((s.size : Int) - (p.size : Int) + 9223372036854775808) % 18446744073709551616 - 9223372036854775808 = ((s.size - p.size : Nat) : Int) := fun _ => by omega
  go_enter Try.func127, Try.ntmps127
  go_wp2
  · have h : p.size ≤ s.size := by assumption
    go_ret
    refine ⟨?_, rfl⟩
    show Ending.returned (Value.bool ((s.extract (s.size - p.size) s.size).toList == p.toList)) = _
    simp [h]
  · have h : ¬ p.size ≤ s.size := by assumption
    go_ret
    refine ⟨?_, rfl⟩
    show Ending.returned (Value.bool false) = _
    simp [h]
theorem suf_any (s p : ByteArray) (v : Bool) (hv : Lib.hasSuffix s.data.toList p.data.toList = v) (hs : s.size ≤ 9223372036854775807) (w : World) : Calls Try.prog 118 #[.string s, .string p] w fun e w' => e = .returned (.bool v) ∧ w' = w := by
  subst hv
  go_enter Try.func118, Try.ntmps118
  go_wp2_with (go_at_call 127; refine (sufL_any _ _ _ hs).mono ?_; rintro e w' ⟨rfl, rfl⟩)
  go_ret
  exact ⟨rfl, rfl⟩
end Go.Proofs.Ytfooefiaenlhmaa
