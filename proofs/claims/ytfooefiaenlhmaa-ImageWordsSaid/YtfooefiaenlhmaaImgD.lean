/- The writer of the package: a number is appended in eight bytes. Printed by a program. -/
import Derived.Test.YtfooefiaenlhmaaImgC
import Derived.Deep.RegionLaw
import Derived.IntWalk
namespace Go.Proofs.Ytfooefiaenlhmaa
set_option linter.unusedVariables false
set_option linter.unusedSimpArgs false
open Go.RowKit Go.ChangeShapes Go.WideShapes Go.ChangeAt

/-- The writer in block b holds xs. -/
def Wr (w : World) (b : Nat) (xs : List Int) : Prop := ∃ r cap, b < w.heap.size ∧ w.cell? ⟨b, 0, none⟩ = some (.slice r xs.length cap) ∧ w.frozen? ⟨b, 0, none⟩ = false ∧ OwnK .u8 5 w (b + 1) r cap xs
/-- Numbers written out are appended; what else stays. -/
theorem wpList_append_kf {k : IntKind} {te : TypeId} {ts : TypeId} {z : Value} {by' : Nat} (hts : Try.prog.underlying ts = some (.slice te)) (hinf : (Try.prog.info? te).map (fun i => (i.zero, i.size, i.bytes)) = some (some z, 1, by')) (hzs : z.cells.size = 1) (hby : by' ≤ 8)
    {ops : Array Oper} {rest : List Oper} {o : Oper} {a : Act} {Q : Exit → Act → World → Prop} {w : World} (hgd : o.guard = none) (s x : Operand)
    (ho : o.op = .call { callee := .builtin .append, args := #[s, x], argTypes := #[ts, ts] }) (w0 : World) (base : Nat) (r : Option Addr) (cap : Nat) (xs ps : List Int) (n : Nat) (hn : ps.length = n) (hn0 : 0 < n)
    (hw : w = w0.alloc (.cells (ps.map (Value.int k)).toArray te)) (hs : a.eval s = .slice r xs.length cap) (hx : a.eval x = .slice (some ⟨w0.heap.size, 0, none⟩) n n)
    (hown : OwnK k te w0 base r cap xs) (hl : xs.length + n ≤ 1099511627776) (hb : base ≤ w0.heap.size)
    (h : ∀ r' cap' w', OwnK k te w' base r' cap' (xs ++ ps) → Below base w0 w' → (∀ q, q < w0.heap.size → (∀ a, r = some a → a.block ≠ q) → w'.heap[q]? = w0.heap[q]?) → (∀ a, r' = some a → (∃ a0, r = some a0 ∧ a0.block = a.block) ∨ w0.heap.size ≤ a.block) → wpList Try.prog ops Q rest (a.put o.dst (.slice r' (xs.length + n) cap')) w') : wpList Try.prog ops Q (o :: rest) a w := by
  subst hw
  subst hn
  obtain ⟨i0, hi, hz0, hz1, hz2⟩ := info_parts hinf
  have hown2 : (w0.alloc (.cells (ps.map (Value.int k)).toArray te)).ownsRow base te 1 (.slice r xs.length cap) xs.length (xs.map (Value.int k)) := World.ownsRow.alloc hown _
  refine wpList_append_lies (w0.alloc (.cells (ps.map (Value.int k)).toArray te)) hgd s x ts ho base te i0 z 1 by' hts hi hz0 hz1 hz2 hzs (by omega) _ xs.length (xs.map (Value.int k)) hs hown2 ⟨w0.heap.size, 0, none⟩ ps.length ps.length (ps.map (Value.int k)) hx (by simp) ?_ (ints_oneCell k ps) hn0 ?_ ?_ (by simp; omega) _ rfl ?_
  · intro j u hj
    have : (⟨w0.heap.size, 0, none⟩ : Addr).add j = ⟨w0.heap.size, j, none⟩ := by
      by_cases hj0 : j = 0
      · subst hj0; simp [Addr.add]
      · simp [Addr.add, hj0]
    rw [this, World.cell?_alloc_new]
    simpa using hj
  · unfold maxLen; omega
  · have : (xs.length + ps.length) * by' ≤ 1099511627776 * 8 := Nat.mul_le_mul (by omega) hby
    omega
  · intro g cap' w1 hown' hgrow hg _
    refine h _ _ _ ?_ ?_ ?_ ?_
    · unfold OwnK
      rw [List.length_append, List.map_append]
      exact hown'
    · exact ((Below.refl base w0).alloc hb _).grown hgrow (by simp only [World.size_alloc]; omega) (fun k hk => (World.ownsRow.lt hown2 k hk).1)
    · intro q hq hr
      rw [hgrow.block q (by rw [World.size_alloc]; omega) ?_, Below.heap_alloc _ _ _ hq]
      cases r with
      | none => simp [Value.ownBlock]
      | some a0 =>
        simp only [Value.ownBlock, ne_eq, Option.some.injEq]
        exact fun e => hr a0 rfl e.symm
    · intro a ha
      obtain rfl : ⟨g, 0, none⟩ = a := by simpa using ha
      rcases hg with hg | hg
      · cases r with
        | none => simp [Value.ownBlock] at hg
        | some a0 =>
          simp only [Value.ownBlock, Option.some.injEq] at hg
          exact .inl ⟨a0, rfl, hg⟩
      · right
        rw [hg, World.size_alloc]
        exact Nat.le_succ _
/-- A block that the writer in block b does not hold. -/
def Safe (w : World) (b q : Nat) : Prop := q < w.heap.size ∧ q ≠ b ∧ ∀ ad l c, w.cell? ⟨b, 0, none⟩ = some (.slice (some ad) l c) → ad.block ≠ q
/-- What the writer does not hold stays. -/
def KeepW (w w' : World) (b : Nat) : Prop := ∀ q, Safe w b q → Safe w' b q ∧ w'.heap[q]? = w.heap[q]?
theorem KeepW.refl (w : World) (b : Nat) : KeepW w w b := fun _ h => ⟨h, rfl⟩
theorem KeepW.trans {a b c : World} {d : Nat} (h : KeepW a b d) (k : KeepW b c d) : KeepW a c d := fun q hq => ⟨(k q (h q hq).1).1, (k q (h q hq).1).2.trans (h q hq).2⟩
def byteAt (n : Int) (j : Nat) : Int := n / 2 ^ (56 - 8 * j) % 256
/-- A number in eight bytes. -/
def num8 (n : Int) : List Int := [byteAt n 0, byteAt n 1, byteAt n 2, byteAt n 3, byteAt n 4, byteAt n 5, byteAt n 6, byteAt n 7]
theorem num8_take {n : Int} {j : Nat} (hj : j < 8) : (num8 n).take (j + 1) = (num8 n).take j ++ [byteAt n j] := by
  rcases j with _ | _ | _ | _ | _ | _ | _ | _ | j <;> first | rfl | omega
theorem num8_len (n : Int) : (num8 n).length = 8 := rfl
theorem byteAt_byte (n : Int) (j : Nat) : 0 ≤ byteAt n j ∧ byteAt n j ≤ 255 := by unfold byteAt; omega
theorem num8_byte (n : Int) : ByteL (num8 n) := by
  intro y hy
  simp only [num8, List.mem_cons, List.not_mem_nil, or_false] at hy
  rcases hy with rfl | rfl | rfl | rfl | rfl | rfl | rfl | rfl <;> exact byteAt_byte _ _
theorem shr_byte (n : Int) {k : Nat} (hk : k < 8) : IntKind.u8.wrap (IntKind.u64.wrap n / 2 ^ (56 - 8 * (k : Int)).toNat) = byteAt n k := by
  have e : ∀ y : Int, IntKind.u8.wrap y = y % 256 := fun y => by simp [IntKind.wrap, IntKind.signed, IntKind.bits]
  have e2 : ∀ y : Int, IntKind.u64.wrap y = y % 18446744073709551616 := fun y => by simp [IntKind.wrap, IntKind.signed, IntKind.bits]
  rw [e, e2]
  unfold byteAt
  rcases k with _ | _ | _ | _ | _ | _ | _ | _ | k
  · show n % 18446744073709551616 / (2 : Int) ^ 56 % 256 = n / (2 : Int) ^ 56 % 256
    rw [show (2 : Int) ^ 56 = 72057594037927936 from rfl]
    omega
  · show n % 18446744073709551616 / (2 : Int) ^ 48 % 256 = n / (2 : Int) ^ 48 % 256
    rw [show (2 : Int) ^ 48 = 281474976710656 from rfl]
    omega
  · show n % 18446744073709551616 / (2 : Int) ^ 40 % 256 = n / (2 : Int) ^ 40 % 256
    rw [show (2 : Int) ^ 40 = 1099511627776 from rfl]
    omega
  · show n % 18446744073709551616 / (2 : Int) ^ 32 % 256 = n / (2 : Int) ^ 32 % 256
    rw [show (2 : Int) ^ 32 = 4294967296 from rfl]
    omega
  · show n % 18446744073709551616 / (2 : Int) ^ 24 % 256 = n / (2 : Int) ^ 24 % 256
    rw [show (2 : Int) ^ 24 = 16777216 from rfl]
    omega
  · show n % 18446744073709551616 / (2 : Int) ^ 16 % 256 = n / (2 : Int) ^ 16 % 256
    rw [show (2 : Int) ^ 16 = 65536 from rfl]
    omega
  · show n % 18446744073709551616 / (2 : Int) ^ 8 % 256 = n / (2 : Int) ^ 8 % 256
    rw [show (2 : Int) ^ 8 = 256 from rfl]
    omega
  · show n % 18446744073709551616 / (2 : Int) ^ 0 % 256 = n / (2 : Int) ^ 0 % 256
    rw [show (2 : Int) ^ 0 = 1 from rfl]
    omega
  · omega
set_option maxRecDepth 100000 in
set_option maxHeartbeats 2000000 in
theorem wint_any (b : Nat) (n : Int) (xs : List Int) (w : World) (hw : Wr w b xs) (hl : xs.length ≤ 100000000000) : Calls Try.prog 72 #[.pointer (some ⟨b, 0, none⟩), .int .i64 n] w fun e w' => e = .returned (.tuple #[]) ∧ Wr w' b (xs ++ num8 n) ∧ Below b w w' ∧ KeepW w w' b := by
  go_enter Try.func72, Try.ntmps72
  go_wp2
  go_loopg [4] 8 (fun kx s4 wr => ∃ (k : Nat) (out : List Int) (kk : Int), s4 = .int .i64 kk ∧ kk = 56 - 8 * (k : Int) ∧ k ≤ 8 ∧ 8 - k ≤ kx ∧ Below b w wr ∧ Hid (KeepW w wr b) ∧ Hid (Wr wr b out) ∧ Hid (out = xs ++ (num8 n).take k) ∧ out.length = xs.length + k)
  case atStart => exact ⟨0, xs, 56, rfl, by omega, by omega, by omega, Below.refl _ _, Lib.hid (KeepW.refl _ _), Lib.hid hw, Lib.hid (by simp), by simp⟩
  case round =>
    obtain ⟨k, out, kk, rfl, hkk, hk, hkx, hbw, HKW, HW, HQ, hol⟩ := hrel
    by_cases hlt : k < 8
    · obtain ⟨r, cap, hb, hc, hf, hown⟩ := HW.out
      have hk1 : (0 : Int) ≤ kk := by omega
      have hk2 : IntKind.i64.wrap (kk - 8) = kk - 8 := IntWalk.i64_in _ (by omega)
      have hk3 : min kk.toNat 64 = kk.toNat := by omega
      have HKK := Lib.hid hkk
      clear hkk
      have HO := Lib.hid hown
      clear hown
      have hol3 : out.length ≤ 100000000008 := by omega
      have HOL := Lib.hid hol
      clear hol
      have hWn : Below b w wr.drew := hbw.drew
      have hca : ∀ o, (wr.drew.alloc o).cell? ⟨b, 0, none⟩ = some (.slice r out.length cap) := fun o => by
        rw [World.cell?_alloc_some _ _ _ (by rw [show wr.drew.cell? ⟨b, 0, none⟩ = _ from hc]; rfl)]
        exact hc
      go_wp2
      go_region_law ((refine step_of_list ?_); (refine wpList_append_kf Try.underlying29 infoU8 rfl (by omega) (by rfl) _ _ (by rfl) wr.drew (b + 1) r cap out [IntKind.u8.wrap (IntKind.u64.wrap n / 2 ^ kk.toNat)] 1 rfl (by omega) (by rfl) (by rfl) (by rfl) (HO.out.below (Below.refl _ _).drew (Nat.le_refl _)) (by omega) hb ?_); (intro r' c' w1 hown1 hbw1 hst1 hrr1); (have HST := Lib.hid hst1); (have HRR := Lib.hid hrr1); (clear hst1 hrr1); (have HO1 := Lib.hid hown1); (clear hown1); (have hcw1 : w1.cell? ⟨b, 0, none⟩ = some (.slice r out.length cap) := by rw [hbw1.cell (p := ⟨b, 0, none⟩) (Nat.lt_succ_self b)]; exact hc); (have hfw1 : w1.frozen? ⟨b, 0, none⟩ = false := by rw [hbw1.frozen (p := ⟨b, 0, none⟩) (Nat.lt_succ_self b)]; exact hf); (refine ⟨rfl, ?_⟩))
      all_goals
        have hv : IntKind.u8.wrap (IntKind.u64.wrap n / 2 ^ kk.toNat) = byteAt n k := by
          rw [HKK.out]; exact shr_byte n hlt
        rw [hv] at HO1
        have hlen : (out ++ [byteAt n k]).length = out.length + 1 := by simp
        have HWr : Hid (Wr (w1.setCell ⟨b, 0, none⟩ (.slice r' (out.length + 1) c')) b (out ++ [byteAt n k])) := Lib.hid (by
          refine ⟨r', c', ?_, ?_, ?_, ?_⟩
          · rw [World.size_setCell]; exact Nat.lt_of_lt_of_le hb hbw1.size
          · rw [World.cell?_setCell_same' _ _ _ (by rw [hcw1]; rfl), hlen]
          · rw [World.frozen?_setCell]; exact hfw1
          · exact HO1.out.set (Nat.lt_succ_self b) _)
        have hbz : Below b w (w1.setCell ⟨b, 0, none⟩ (.slice r' (out.length + 1) c')) := (hWn.trans (hbw1.mono (Nat.le_succ b))).setCell (Nat.le_refl b) _
        have HQ2 : Hid (out ++ [byteAt n k] = xs ++ (num8 n).take (k + 1)) := Lib.hid (by rw [HQ.out, num8_take hlt, List.append_assoc])
        have HL2 : Hid ((out ++ [byteAt n k]).length = xs.length + (k + 1)) := Lib.hid (by rw [hlen, HOL.out]; omega)
        have HKW2 : Hid (KeepW w (w1.setCell ⟨b, 0, none⟩ (.slice r' (out.length + 1) c')) b) := Lib.hid (HKW.out.trans (fun q hq => by
          obtain ⟨h1, h2, h3⟩ := hq
          have hr : ∀ a, r = some a → a.block ≠ q := fun a ha => h3 a _ _ (by rw [hc, ha])
          refine ⟨⟨?_, h2, fun ad l c hc3 => ?_⟩, ?_⟩
          · rw [World.size_setCell]; exact Nat.lt_of_lt_of_le h1 hbw1.size
          · rw [World.cell?_setCell_same' _ _ _ (by rw [hcw1]; rfl)] at hc3
            simp only [Option.some.injEq, Value.slice.injEq] at hc3
            rcases HRR.out ad hc3.1 with ⟨a0, ha0, he⟩ | hge
            · rw [← he]; exact hr a0 ha0
            · exact fun e => by rw [e] at hge; exact absurd h1 (Nat.not_lt.2 hge)
          · rw [Below.heap_setCell _ _ _ _ h2]; exact HST.out q h1 hr))
        generalize w1.setCell ⟨b, 0, none⟩ (.slice r' (out.length + 1) c') = W2 at *
        clear hcw1 hfw1 hca hc hf hv hlen HO1 HO HW HST HRR
        go_wp2
        go_roundg (8 - (k + 1))
        case measure => omega
        case rel => exact ⟨k + 1, _, kk - 8, by go_num, by have := HKK.out; omega, by omega, by omega, hbz, HKW2, HWr, HQ2, HL2.out⟩
    · obtain rfl : k = 8 := by omega
      obtain rfl : kk = -8 := by omega
      go_wp2
      refine bodyPost_end (results_none rfl _ _ _) rfl ?_
      refine ⟨rfl, ?_, hbw, HKW.out⟩
      have := HW.out
      rw [HQ.out] at this
      exact this
end Go.Proofs.Ytfooefiaenlhmaa
