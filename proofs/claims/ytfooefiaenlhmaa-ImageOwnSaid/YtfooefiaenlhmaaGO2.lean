/- Lemmas for the laws of package magnetolaw15: what its functions return, for any arguments that the lemmas name. -/
import Derived.Test.YtfooefiaenlhmaaGO1
import Derived.Deep.Matrix
import Derived.Deep.Slices
import Derived.Lib.Strings
import Derived.Lib.Slices
import Derived.Lib.Walk
import Derived.Lib.Bytealg
import Derived.Laws.Bits128
namespace Go.Proofs.Ytfooefiaenlhmaa
set_option linter.unusedVariables false
set_option linter.unusedSimpArgs false
set_option maxHeartbeats 16000000
open Go.RowKit Go.ChangeShapes Go.WideShapes Go.ChangeAt
theorem sum_z72 : sumB z72 = 1803675681 := by decide +kernel
theorem z72_len : z72.length = 72 := by unfold z72; exact List.length_replicate
theorem z72_get (i : Nat) (hi : i < 72) : z72.getD i 0 = 0 := by
 unfold z72
 rw [List.getD_eq_getElem?_getD, List.getElem?_replicate, if_pos hi]
 rfl
theorem sealL_get (i : Nat) (hi : i < 72) : (sealL z72).getD i 0 = 0 := by
 rw [sealL_z72, List.getD_eq_getElem?_getD, List.getElem?_append_left (by rw [z72_len]; exact hi), ← List.getD_eq_getElem?_getD]
 exact z72_get i hi
theorem isum1 (W : World) : Calls Try.prog 11 #[.slice (some ⟨W.heap.size, 0, none⟩) 1 1] (W.alloc (.cells #[.int .u8 1] 5)) fun e w' => e = .returned (.int .u32 16777620) ∧ Below (W.alloc (.cells #[.int .u8 1] 5)).heap.size (W.alloc (.cells #[.int .u8 1] 5)) w' :=
 isum_any _ 1 [1] _ ⟨Nat.le_refl _, by unfold maxLen; decide, by
  intro x hx
  obtain rfl : x = 1 := List.mem_singleton.1 hx
  exact u8_wf (by omega) (by omega), fun _ => ⟨W.heap.size, 0, rfl, by rw [zA]; omega, fun i hi => by
  obtain rfl : i = 0 := by simpa using hi
  simp⟩⟩
theorem isumz (b off c : Nat) (W0 W : World) (hz : IsInts W0 (some ⟨b, off, none⟩) c .u8 z72) (h : Below W0.heap.size W0 W) : Calls Try.prog 11 #[.slice (some ⟨b, off, none⟩) 72 c] W fun e w' => e = .returned (.int .u32 1803675681) ∧ Below W.heap.size W w' := by
 have := isum_any (some ⟨b, off, none⟩) c z72 W (hz.later h)
 rw [z72_len, sum_z72] at this
 exact this
theorem aw_next {w1 v v' : World} {b off : Nat} (hb : b < w1.heap.size) (h : Below w1.heap.size w1 v ∧ v.cell? ⟨b, off + 72, none⟩ = some (.int .u8 107) ∧ v.cell? ⟨b, off + 73, none⟩ = some (.int .u8 129) ∧ v.cell? ⟨b, off + 74, none⟩ = some (.int .u8 232) ∧ v.cell? ⟨b, off + 75, none⟩ = some (.int .u8 33)) (hv : Below v.heap.size v v') : Below w1.heap.size w1 v' ∧ v'.cell? ⟨b, off + 72, none⟩ = some (.int .u8 107) ∧ v'.cell? ⟨b, off + 73, none⟩ = some (.int .u8 129) ∧ v'.cell? ⟨b, off + 74, none⟩ = some (.int .u8 232) ∧ v'.cell? ⟨b, off + 75, none⟩ = some (.int .u8 33) := by
 obtain ⟨h0, h1, h2, h3, h4⟩ := h
 have hz := h0.size
 exact ⟨h0.trans (hv.mono hz), (hv.cell (p := ⟨b, off + 72, none⟩) (Nat.lt_of_lt_of_le hb hz)).trans h1, (hv.cell (p := ⟨b, off + 73, none⟩) (Nat.lt_of_lt_of_le hb hz)).trans h2, (hv.cell (p := ⟨b, off + 74, none⟩) (Nat.lt_of_lt_of_le hb hz)).trans h3, (hv.cell (p := ⟨b, off + 75, none⟩) (Nat.lt_of_lt_of_le hb hz)).trans h4⟩
set_option maxRecDepth 100000 in
theorem awake_any (w : World) : Calls Try.prog 8 #[] w fun e w' => e = .returned (.bool true) ∧ Below w.heap.size w w' := by
 have HE : Hid (∀ W : World, Calls Try.prog 10 #[prog0] W fun e w' => ∃ r c, e = .returned (.tuple #[.slice r (sealL z72).length c, .int .i64 0]) ∧ OwnK .u8 5 w' W.heap.size r c (sealL z72) ∧ Below W.heap.size W w') := H! (fun W => encode0 W)
 have HL : Hid ((sealL z72).length = 76) := H! (by rw [sealL_z72]; simp [z72, b4_len])
 go_enter Try.func8, Try.ntmps8
 go_wp2_with (go_at_call 10; refine (HE.out _).mono ?_; rintro e w1 ⟨r, c, rfl, ho, hb1⟩; rw [HL.out])
 have hi : IsInts w1 r c .u8 (sealL z72) := ho.ints (fun x hx => u8_wf (sealL_byte z72_byte x hx).1 (sealL_byte z72_byte x hx).2)
 obtain ⟨b, off, rfl, hb, hc⟩ := hi.cells (fun e => by have := HL.out; rw [e] at this; cases this)
 have hle : 76 ≤ c := by have := hi.le; rw [HL.out] at this; exact this
 rw [HL.out] at hc
 have hz : IsInts w1 (some ⟨b, off, none⟩) c .u8 z72 := ⟨by rw [z72_len]; omega, hi.max, fun x hx => u8_wf (z72_byte x hx).1 (z72_byte x hx).2, fun _ => ⟨b, off, rfl, hb, fun i h => by
  have h72 : i < 72 := by rw [z72_len] at h; exact h
  rw [hc i (by omega), sealL_get i h72, z72_get i h72]⟩⟩
 have c72 : w1.cell? ⟨b, off + 72, none⟩ = some (.int .u8 107) := by
  rw [hc 72 (by omega), sealL_z72, sum_z72]
  rfl
 have c73 : w1.cell? ⟨b, off + 73, none⟩ = some (.int .u8 129) := by
  rw [hc 73 (by omega), sealL_z72, sum_z72]
  rfl
 have c74 : w1.cell? ⟨b, off + 74, none⟩ = some (.int .u8 232) := by
  rw [hc 74 (by omega), sealL_z72, sum_z72]
  rfl
 have c75 : w1.cell? ⟨b, off + 75, none⟩ = some (.int .u8 33) := by
  rw [hc 75 (by omega), sealL_z72, sum_z72]
  rfl
 have HZ := H! hz
 clear hz hc hi ho
 have hcp : (72 : Int) ≤ c := by omega
 have hcq : 72 ≤ c := by omega
 go_region_held3 (fun w' => Below w1.heap.size w1 w' ∧ w'.cell? ⟨b, off + 72, none⟩ = some (.int .u8 107) ∧ w'.cell? ⟨b, off + 73, none⟩ = some (.int .u8 129) ∧ w'.cell? ⟨b, off + 74, none⟩ = some (.int .u8 232) ∧ w'.cell? ⟨b, off + 75, none⟩ = some (.int .u8 33)) (first | exact ⟨(Below.refl _ _).drew, c72, c73, c74, c75⟩ | assumption | exact aw_next hb (by assumption) ((Below.refl _ _).alloc (Nat.le_refl _) _) | go_keep) (first | (go_at_call 11; with_reducible (refine (isum0 _).mono ?_); rintro e v1 ⟨rfl, hv1⟩; have hS1 := aw_next hb (by assumption) hv1) | (go_at_call 11; with_reducible (refine (isum1 _).mono ?_); rintro e v1 ⟨rfl, hv1⟩; have hS1 := aw_next hb (by assumption) hv1) | (go_at_call 11; with_reducible (refine (isumz b off c w1 _ HZ.out ?hq).mono ?_); (case hq => exact (by assumption : _ ∧ _).1); rintro e v1 ⟨rfl, hv1⟩; have hS1 := aw_next hb (by assumption) hv1))
 go_wp2
 go_ret
 exact ⟨by rfl, hb1.trans ((by assumption : Below w1.heap.size w1 _ ∧ _).1.mono hb1.size)⟩
theorem sar_byte (n : Int) {k : Nat} (hk : k < 8) (h : I64 n) : IntKind.u8.wrap (n / 2 ^ (8 * (7 - (k : Int))).toNat) = byteAt n k := by
 have e : ∀ y : Int, IntKind.u8.wrap y = y % 256 := fun y => by simp [IntKind.wrap, IntKind.signed, IntKind.bits]
 rw [e]
 unfold byteAt
 rcases k with _ | _ | _ | _ | _ | _ | _ | _ | k <;> first | rfl | omega
set_option maxRecDepth 100000 in
theorem rnum_any (n : Int) (hn : I64 n) (w : World) : Calls Try.prog 46 #[.int .i64 n] w fun e w' => ∃ r c, e = .returned (.slice r 8 c) ∧ OwnK .u8 5 w' w.heap.size r c (num8 n) ∧ Below w.heap.size w w' := by
 have HN : Hid (I64 n) := H! hn
 clear hn
 go_enter Try.func46, Try.ntmps46
 go_wp2
 go_loopg [3, 4] 8 (fun kx s3 s4 wr => ∃ (k : Nat) (e : Later w) (r : Option Addr) (c : Nat) (out : List Int) (kk : Int), s3 = .slice r out.length c ∧ s4 = .int .i64 kk ∧ kk = 7 - (k : Int) ∧ k ≤ 8 ∧ 8 - k ≤ kx ∧ wr = e.w ∧ Hid (OwnK .u8 5 e.w w.heap.size r c out) ∧ Hid (out = (num8 n).take k) ∧ Hid (out.length = k))
 case atStart => exact ⟨0, ⟨w, Below.refl _ _⟩, none, 0, [], 7, rfl, rfl, by omega, by omega, by omega, rfl, H! (OwnK.nil _ _), H! rfl, H! rfl⟩
 case round =>
  obtain ⟨k, e, r, c, out, kk, rfl, rfl, hkk, hk, hkx, rfl, HO, HQ, HL⟩ := hrel
  have hes := e.h.size
  by_cases hlt : k < 8
  ·
   have hk1 : (0 : Int) ≤ kk := by omega
   have hk2 : IntKind.i64.wrap (kk - 1) = kk - 1 := IntWalk.i64_in _ (by omega)
   have hk3 : IntKind.i64.wrap (8 * kk) = 8 * kk := IntWalk.i64_in _ (by omega)
   have hk4 : min (8 * kk).toNat 64 = (8 * kk).toNat := by omega
   have hk5 : (0 : Int) ≤ 8 * kk := by omega
   have hv : IntKind.u8.wrap (n / 2 ^ (8 * kk).toNat) = byteAt n k := by rw [hkk]; exact sar_byte n hlt HN.out
   have HQ2 := H! (num8_take (n := n) hlt)
   have hol : out.length ≤ 8 := by have := HL.out; omega
   have HKK := H! hkk
   clear hkk
   generalize byteAt n k = x at *
   go_wp2_with (at_builtin; refine wpList_append_k Try.underlying29 infoU8 rfl (by omega) (by rfl) _ _ (by rfl) e.w w.heap.size r c out [x] 1 rfl (by omega) (by rfl) (by rfl) (by rfl) HO.out (by omega) (by omega) ?_; intro r' c' w1 hown1 hbw1)
   have HO1 := H! hown1
   clear hown1
   go_roundg (8 - (k + 1))
   case measure => omega
   case rel => exact ⟨k + 1, ⟨w1, e.h.trans hbw1⟩, r', c', out ++ [x], kk - 1, by simp, by go_num, by have := HKK.out; omega, by omega, by omega, rfl, HO1, H! (by rw [HQ.out, HQ2.out]), H! (by rw [List.length_append, HL.out]; rfl)⟩
  ·
   obtain rfl : k = 8 := by omega
   obtain rfl : kk = -1 := by omega
   go_wp2
   go_ret
   have hol2 := HL.out
   refine ⟨r, c, by first | rfl | (rw [hol2]; rfl), ?_, e.h⟩
   have := HO.out
   rw [HQ.out] at this
   exact this
theorem ints8 {W : World} {base : Nat} {r : Option Addr} {c : Nat} {n : Int} (h : OwnK .u8 5 W base r c (num8 n)) : IsInts W r c .u8 (num8 n) := h.ints (fun x hx => u8_wf (num8_byte n x hx).1 (num8_byte n x hx).2)
theorem list8_byte (l : List Int) : ByteL (list8 l) := by
 intro y hy
 simp only [list8, List.mem_append] at hy
 rcases hy with hy | hy
 ·
  exact num8_byte _ y hy
 ·
  exact nums8_byte _ y hy
set_option maxRecDepth 100000 in
theorem rlist_any (r : Option Addr) (cap : Nat) (l : List Int) (w : World) (hx : IsInts w r cap .i64 l) (hl : l.length ≤ 10000000000) : Calls Try.prog 49 #[.slice r l.length cap] w fun e w' => ∃ ro co, e = .returned (.slice ro (list8 l).length co) ∧ OwnK .u8 5 w' w.heap.size ro co (list8 l) ∧ Below w.heap.size w w' := by
 have HX : Hid (l = [] ∨ ∃ b off, r = some ⟨b, off, none⟩ ∧ b < w.heap.size ∧ ∀ i, i < l.length → w.cell? ⟨b, off + i, none⟩ = some (.int .i64 (l.getD i 0))) := H! (by
  by_cases e : l = []
  ·
   exact .inl e
  ·
   exact .inr (hx.cells e))
 have HWF : Hid (∀ k, k < l.length → I64 (l.getD k 0)) := H! (fun k hk => hx.wf _ (getD_mem' hk))
 have HS : Hid (∀ k, k < l.length → nums8 (l.take (k + 1)) = nums8 (l.take k) ++ num8 (l.getD k 0)) := H! (fun k hk => nums8_take hk)
 have HLN : Hid (∀ k, k ≤ l.length → (nums8 (l.take k)).length = 8 * k) := H! (fun k hk => by rw [nums8_len, List.length_take]; omega)
 have HE : Hid (list8 l = num8 l.length ++ nums8 (l.take l.length)) := H! (by rw [List.take_length, list8])
 have hI : I64 (l.length : Int) := by unfold I64; simp [Lit.wf, IntKind.min, IntKind.max, IntKind.bits, IntKind.signed]; omega
 clear hx
 generalize list8 l = res at *
 generalize hn : l.length = n at *
 have HN := H! hn
 clear hn
 go_enter Try.func49, Try.ntmps49
 go_wp2_with (go_at_call 46; refine (rnum_any _ hI _).mono ?_; rintro e w1 ⟨r1, c1, rfl, ho1, hb1⟩)
 have HO1 := H! ho1
 have hb1s := hb1.size
 clear ho1
 go_loopg [3, 4] n (fun kx s3 s4 wr => ∃ (k : Nat) (e : Later w) (ro : Option Addr) (co : Nat) (out : List Int), s3 = .slice ro out.length co ∧ s4 = .int .i64 k ∧ k ≤ n ∧ n - k ≤ kx ∧ wr = e.w ∧ out.length ≤ 100000000000 ∧ Hid (OwnK .u8 5 e.w w.heap.size ro co out) ∧ Hid (out = num8 n ++ nums8 (l.take k)))
 case atStart => exact ⟨0, ⟨w1, hb1⟩, r1, c1, num8 n, rfl, rfl, by omega, by omega, rfl, by rw [num8_len]; omega, HO1, H! (by simp [nums8])⟩
 case round =>
  obtain ⟨k, e, ro, co, out, rfl, rfl, hk, hkx, rfl, hol, HO, HQ⟩ := hrel
  have hes := e.h.size
  by_cases hlt : k < n
  ·
   have hk1 : (0 : Int) ≤ (k : Int) := by omega
   have hk2 : (k : Int) < n := by omega
   obtain ⟨bX, off, rfl, hb, hc⟩ := HX.out.resolve_left (fun e => by have := HN.out; rw [e] at this; simp at this; omega)
   have hc1 : e.w.cell? ⟨bX, off + k, none⟩ = some (.int .i64 (l.getD k 0)) := by
    rw [Later.cell e hb]; exact hc k hlt
   have hxi := HWF.out k hlt
   have HQ2 := H! (HS.out k hlt)
   have hol3 : out.length + 8 ≤ 100000000000 := by
    have := HLN.out k (by omega)
    rw [HQ.out, List.length_append, num8_len, this]
    omega
   clear hc
   generalize l.getD k 0 = x at *
   go_wp2_with (first | (go_at_call 46; refine (rnum_any _ hxi _).mono ?_; rintro _ w2 ⟨r2, c2, rfl, ho2, hb2⟩; have HO2 := H! (ints8 ho2); clear ho2; have hb2s := hb2.size) | (at_builtin; refine wpList_append_ks Try.underlying29 infoU8 rfl (by omega) (by rfl) _ _ (by rfl) w.heap.size ro r2 co c2 out (num8 x) (by rfl) (by rfl) (HO.out.below hb2 (Nat.le_refl _)) HO2.out (by rw [num8_len]; omega) (by omega) ?_; intro r' c' w3 hown3 hbw3))
   have HO3 := H! hown3
   clear hown3
   go_roundg (n - (k + 1))
   case measure => omega
   case rel => exact ⟨k + 1, ⟨w3, (e.h.trans (hb2.mono hes)).trans hbw3⟩, r', c', out ++ num8 x, by first | rfl | (simp [num8_len]; done), by go_num, by omega, by omega, rfl, by rw [List.length_append, num8_len]; omega, HO3, H! (by rw [HQ.out, HQ2.out, List.append_assoc])⟩
  ·
   obtain rfl : k = n := by omega
   go_wp2
   go_ret
   have he : out = res := by rw [HQ.out, HE.out]
   subst he
   exact ⟨ro, co, by rfl, HO.out, e.h⟩
theorem own_built (k : IntKind) (te : TypeId) (w : World) (base : Nat) (ps : List Int) (hb : base ≤ w.heap.size) (hm : ps.length ≤ maxLen) : OwnK k te (w.alloc (.cells (ps.map (Value.int k)).toArray te)) base (some ⟨w.heap.size, 0, none⟩) ps.length ps := by
 unfold OwnK
 exact ⟨by simp, Or.inr ⟨w.heap.size, ps.length, _, rfl, hb, heap_alloc_new w _, Nat.le_refl _, hm, by simp, by rw [Nat.mul_one]; exact List.take_of_length_le (by simp)⟩⟩
def encI (op a b c k : Int) : List Int := [op % 256, a % 256, b % 256, c % 256] ++ num8 k
theorem encI_len (op a b c k : Int) : (encI op a b c k).length = 12 := rfl
theorem encI_byte (op a b c k : Int) : ByteL (encI op a b c k) := by
 intro y hy
 simp only [encI, List.mem_append, List.mem_cons, List.not_mem_nil, or_false] at hy
 rcases hy with (rfl | rfl | rfl | rfl) | hy
 ·
  omega
 ·
  omega
 ·
  omega
 ·
  omega
 ·
  exact num8_byte _ y hy
set_option maxRecDepth 100000 in
theorem renc_any (op a b c k : Int) (w : World) : Calls Try.prog 47 #[.agg #[.int .i64 op, .int .i64 a, .int .i64 b, .int .i64 c, .int .i64 k]] w fun e w' => ∃ ro co, e = .returned (.slice ro 12 co) ∧ OwnK .u8 5 w' w.heap.size ro co (encI op a b c k) ∧ Below w.heap.size w w' := by
 have HO : Hid (OwnK .u8 5 ((w.alloc (.cells #[.int .i64 op, .int .i64 a, .int .i64 b, .int .i64 c, .int .i64 k] 50)).alloc (.cells #[.int .u8 (op % 256), .int .u8 (a % 256), .int .u8 (b % 256), .int .u8 (c % 256)] 5)) (w.heap.size + 1) (some ⟨w.heap.size + 1, 0, none⟩) 4 [op % 256, a % 256, b % 256, c % 256]) := H! (by
  have := own_built .u8 5 (w.alloc (.cells #[.int .i64 op, .int .i64 a, .int .i64 b, .int .i64 c, .int .i64 k] 50)) (w.heap.size + 1) [op % 256, a % 256, b % 256, c % 256] (by simp) (by simp [maxLen])
  rw [zA] at this
  exact this)
 go_enter Try.func47, Try.ntmps47
 go_wp2
 have hc4 : ((w.alloc (.cells #[.int .i64 op, .int .i64 a, .int .i64 b, .int .i64 c, .int .i64 k] 50)).alloc (.cells #[.int .u8 (op % 256), .int .u8 (a % 256), .int .u8 (b % 256), .int .u8 (c % 256)] 5)).cell? ⟨w.heap.size, 4, none⟩ = some (.int .i64 k) := by first | go_keep | simp
 have hbw : Below w.heap.size w ((w.alloc (.cells #[.int .i64 op, .int .i64 a, .int .i64 b, .int .i64 c, .int .i64 k] 50)).alloc (.cells #[.int .u8 (op % 256), .int .u8 (a % 256), .int .u8 (b % 256), .int .u8 (c % 256)] 5)) := bw
 have hz : ((w.alloc (.cells #[.int .i64 op, .int .i64 a, .int .i64 b, .int .i64 c, .int .i64 k] 50)).alloc (.cells #[.int .u8 (op % 256), .int .u8 (a % 256), .int .u8 (b % 256), .int .u8 (c % 256)] 5)).heap.size = w.heap.size + 2 := by simp
 generalize (w.alloc (.cells #[.int .i64 op, .int .i64 a, .int .i64 b, .int .i64 c, .int .i64 k] 50)).alloc (.cells #[.int .u8 (op % 256), .int .u8 (a % 256), .int .u8 (b % 256), .int .u8 (c % 256)] 5) = W2 at *
 go_loopg [3, 4] 8 (fun kx s3 s4 wr => ∃ (j : Nat) (r : Option Addr) (co : Nat) (out : List Int) (kk : Int), s3 = .slice r out.length co ∧ s4 = .int .i64 kk ∧ kk = 56 - 8 * (j : Int) ∧ j ≤ 8 ∧ 8 - j ≤ kx ∧ Below (w.heap.size + 1) W2 wr ∧ Hid (OwnK .u8 5 wr (w.heap.size + 1) r co out) ∧ Hid (out = [op % 256, a % 256, b % 256, c % 256] ++ (num8 k).take j) ∧ Hid (out.length = 4 + j))
 case atStart => exact ⟨0, some ⟨w.heap.size + 1, 0, none⟩, 4, [op % 256, a % 256, b % 256, c % 256], 56, rfl, by first | rfl | go_num, by omega, by omega, by omega, Below.refl _ _, HO, H! (by simp), H! rfl⟩
 case round =>
  clear HO
  obtain ⟨j, r, co, out, kk, rfl, rfl, hkk, hj, hkx, hbr, HO, HQ, HL⟩ := hrel
  have hrs := hbr.size
  by_cases hlt : j < 8
  ·
   have hk1 : (0 : Int) ≤ kk := by omega
   have hk2 : IntKind.i64.wrap (kk - 8) = kk - 8 := IntWalk.i64_in _ (by omega)
   have hk6 : IntKind.u64.wrap kk = kk := by simp [IntKind.wrap, IntKind.signed, IntKind.bits]; omega
   have hk4 : min kk.toNat 64 = kk.toNat := by omega
   have hv : IntKind.u8.wrap (IntKind.u64.wrap k / 2 ^ kk.toNat) = byteAt k j := by rw [hkk]; exact shr_byte k hlt
   have HQ2 := H! (num8_take (n := k) hlt)
   have hol : out.length ≤ 12 := by have := HL.out; omega
   have hc4w : wr.cell? ⟨w.heap.size, 4, none⟩ = some (.int .i64 k) := (hbr.cell (p := ⟨w.heap.size, 4, none⟩) (Nat.lt_succ_self _)).trans hc4
   have HKK := H! hkk
   clear hkk hc4
   generalize byteAt k j = x at *
   go_wp2_with (at_builtin; refine wpList_append_k Try.underlying29 infoU8 rfl (by omega) (by rfl) _ _ (by rfl) wr (w.heap.size + 1) r co out [x] 1 rfl (by omega) (by rfl) (by rfl) (by rfl) HO.out (by omega) (by omega) ?_; intro r' c' w1 hown1 hbw1)
   have HO1 := H! hown1
   clear hown1
   go_roundg (8 - (j + 1))
   case measure => omega
   case rel => exact ⟨j + 1, r', c', out ++ [x], kk - 8, by simp, by go_num, by have := HKK.out; omega, by omega, by omega, hbr.trans hbw1, HO1, H! (by rw [HQ.out, HQ2.out, List.append_assoc]), H! (by rw [List.length_append, HL.out]; rfl)⟩
  ·
   obtain rfl : j = 8 := by omega
   obtain rfl : kk = -8 := by omega
   go_wp2
   go_ret
   have hol2 : out.length = 12 := HL.out
   refine ⟨r, co, by first | rfl | (rw [hol2]; rfl), ?_, hbw.trans (hbr.mono (by omega))⟩
   have := HO.out
   rw [HQ.out] at this
   exact this.base (by omega)
section
open Go.Deep
structure IsRows (W : World) (r : Option Addr) (cap : Nat) (rows : List (List Int)) : Prop where
 le : rows.length ≤ cap
 max : cap ≤ maxLen
 cells : rows ≠ [] → ∃ b off, r = some ⟨b, off, none⟩ ∧ b < W.heap.size ∧ ∀ i, i < rows.length → ∃ ri ci, W.cell? ⟨b, off + i, none⟩ = some (.slice ri (rows.getD i []).length ci) ∧ IsInts W ri ci .i64 (rows.getD i [])
theorem IsRows.later {W W' : World} {r : Option Addr} {cap : Nat} {rows : List (List Int)} (h : IsRows W r cap rows) (hb : Below W.heap.size W W') : IsRows W' r cap rows :=
 ⟨h.le, h.max, fun hne => by
  obtain ⟨b, off, h1, h2, h3⟩ := h.cells hne
  refine ⟨b, off, h1, Nat.lt_of_lt_of_le h2 hb.size, fun i hi => ?_⟩
  obtain ⟨ri, ci, g1, g2⟩ := h3 i hi
  exact ⟨ri, ci, by rw [hb.cell (p := ⟨b, off + i, none⟩) h2]; exact g1, g2.later hb⟩⟩
theorem addr_add_none {a : Addr} {i : Nat} {W : World} {v : Value} (h : W.cell? (a.add i) = some v) : a.add i = ⟨a.block, a.off + i, none⟩ := by
 obtain ⟨b, off, spot⟩ := a
 have hs := World.cell?_spot h
 by_cases hi : i = 0
 ·
  subst hi
  have : spot = none := by simpa [Addr.add] using hs
  subst this
  simp [Addr.add]
 ·
  simp only [Addr.add, hi, if_false] at hs ⊢
  first | done | rfl | simp_all
theorem rd_rows {P : Program} {W : World} {t e q : TypeId} {cs : List Value} (ht : P.underlying t = some (.slice e)) (he : P.underlying e = some (.slice q)) (hq : P.underlying q = some (.int .i64)) (ce : P.cellsOf e = 1) (cq : P.cellsOf q = 1) (h : Rd P W t cs) :
  ∃ (r : Option Addr) (cap : Nat) (rows : List (List Int)), cs = [.slice r rows.length cap] ∧ IsRows W r cap rows := by
 obtain ⟨H, enc, fuel, y, hf⟩ := h
 rcases open_int_rows ht he hq ce cq hf with ⟨rfl, _⟩ | ⟨a, len, cap, A, L, C, Z, rfl, _, hl, hm, _, hr⟩
 ·
  exact ⟨none, 0, [], rfl, ⟨Nat.le_refl _, Nat.zero_le _, fun h => absurd rfl h⟩⟩
 ·
  refine ⟨some a, cap, (List.range len).map fun i => (Z i).take (L i), by simp, ⟨by simpa using hl, hm, fun hne => ?_⟩⟩
  have h0 : 0 < len := by
   rcases Nat.eq_zero_or_pos len with h | h
   ·
    subst h; simp at hne
   ·
    exact h
  have hc0 := (hr 0 (by omega)).1
  have ha := addr_add_none hc0
  obtain ⟨b, off, spot⟩ := a
  have hspot : spot = none := by simpa [Addr.add] using World.cell?_spot hc0
  subst hspot
  refine ⟨b, off, rfl, by have := World.block_lt_of_cell? _ _ hc0; simpa [Addr.add] using this, fun i hi => ?_⟩
  have hi' : i < len := by simpa using hi
  obtain ⟨g1, g2, g3, g4, g5, g6, g7⟩ := hr i (by omega)
  have hrow : ((List.range len).map fun i => (Z i).take (L i)).getD i [] = (Z i).take (L i) := by simp [List.getD, List.getElem?_map, hi']
  have hlen : ((Z i).take (L i)).length = L i := by rw [List.length_take]; omega
  rw [addr_add_none g1] at g1
  refine ⟨A i, C i, by rw [hrow, hlen]; exact g1, ?_⟩
  rw [hrow]
  refine ⟨by omega, g3, fun x hx => g5 x (List.mem_of_mem_take hx), fun hne2 => ?_⟩
  have hL0 : 0 < L i := by
   rcases Nat.eq_zero_or_pos (L i) with h | h
   ·
    rw [h] at hne2; simp at hne2
   ·
    exact h
  cases hA : A i with
  | none => have := g6 hA; omega
  | some a' =>
   obtain ⟨_, hcell⟩ := g7 a' hA
   have hc1 := hcell 0 (by omega)
   obtain ⟨b', off', spot'⟩ := a'
   have hspot' : spot' = none := by simpa [Addr.add] using World.cell?_spot hc1
   subst hspot'
   refine ⟨b', off', rfl, by have := World.block_lt_of_cell? _ _ hc1; simpa [Addr.add] using this, fun j hj => ?_⟩
   have hcj := hcell j (by omega)
   rw [addr_add_none hcj] at hcj
   rw [hcj]
   rw [hlen] at hj
   simp [List.getD, List.getElem?_take, hj]
end
theorem open_Instr {W : World} {cs : List Value} (h : Rd Try.prog W 50 cs) : ∃ (a0 : Int) (a1 : Int) (a2 : Int) (a3 : Int) (a4 : Int), cs = [.int .i64 a0, .int .i64 a1, .int .i64 a2, .int .i64 a3, .int .i64 a4] ∧ I64 a0 ∧ I64 a1 ∧ I64 a2 ∧ I64 a3 ∧ I64 a4 := by
 obtain ⟨hl, hf⟩ := rd_struct Try.underlying50 h
 rw [show Try.prog.cellsOf 50 = 5 from by kernel_rfl] at hl
 obtain ⟨x0, t0, rfl, hl0⟩ := len_succ hl
 obtain ⟨x1, t1, rfl, hl1⟩ := len_succ hl0
 obtain ⟨x2, t2, rfl, hl2⟩ := len_succ hl1
 obtain ⟨x3, t3, rfl, hl3⟩ := len_succ hl2
 obtain ⟨x4, t4, rfl, hl4⟩ := len_succ hl3
 obtain rfl : t4 = [] := List.length_eq_zero_iff.1 hl4
 have f0 : Rd Try.prog W 3 [x0] := by
  have := hf 0 _ rfl
  simpa [show Try.prog.cellsOf 3 = 1 from by kernel_rfl] using this
 obtain ⟨a0, e0, h0⟩ := rd_int Try.underlying3 f0
 simp only [List.cons.injEq, and_true] at e0
 subst e0
 have f1 : Rd Try.prog W 3 [x1] := by
  have := hf 1 _ rfl
  simpa [show Try.prog.cellsOf 3 = 1 from by kernel_rfl] using this
 obtain ⟨a1, e1, h1⟩ := rd_int Try.underlying3 f1
 simp only [List.cons.injEq, and_true] at e1
 subst e1
 have f2 : Rd Try.prog W 3 [x2] := by
  have := hf 2 _ rfl
  simpa [show Try.prog.cellsOf 3 = 1 from by kernel_rfl] using this
 obtain ⟨a2, e2, h2⟩ := rd_int Try.underlying3 f2
 simp only [List.cons.injEq, and_true] at e2
 subst e2
 have f3 : Rd Try.prog W 3 [x3] := by
  have := hf 3 _ rfl
  simpa [show Try.prog.cellsOf 3 = 1 from by kernel_rfl] using this
 obtain ⟨a3, e3, h3⟩ := rd_int Try.underlying3 f3
 simp only [List.cons.injEq, and_true] at e3
 subst e3
 have f4 : Rd Try.prog W 3 [x4] := by
  have := hf 4 _ rfl
  simpa [show Try.prog.cellsOf 3 = 1 from by kernel_rfl] using this
 obtain ⟨a4, e4, h4⟩ := rd_int Try.underlying3 f4
 simp only [List.cons.injEq, and_true] at e4
 subst e4
 exact ⟨a0, a1, a2, a3, a4, rfl, h0, h1, h2, h3, h4⟩
theorem open_Unit {W : World} {cs : List Value} (h : Rd Try.prog W 57 cs) : ∃ (a0 : Int) (a1 : Int) (a2 : Int) (a3 : Int) (a4 : Int), cs = [.int .i64 a0, .int .i64 a1, .int .i64 a2, .int .i64 a3, .int .i64 a4] ∧ I64 a0 ∧ I64 a1 ∧ I64 a2 ∧ I64 a3 ∧ I64 a4 := by
 obtain ⟨hl, hf⟩ := rd_struct Try.underlying57 h
 rw [show Try.prog.cellsOf 57 = 5 from by kernel_rfl] at hl
 obtain ⟨x0, t0, rfl, hl0⟩ := len_succ hl
 obtain ⟨x1, t1, rfl, hl1⟩ := len_succ hl0
 obtain ⟨x2, t2, rfl, hl2⟩ := len_succ hl1
 obtain ⟨x3, t3, rfl, hl3⟩ := len_succ hl2
 obtain ⟨x4, t4, rfl, hl4⟩ := len_succ hl3
 obtain rfl : t4 = [] := List.length_eq_zero_iff.1 hl4
 have f0 : Rd Try.prog W 3 [x0] := by
  have := hf 0 _ rfl
  simpa [show Try.prog.cellsOf 3 = 1 from by kernel_rfl] using this
 obtain ⟨a0, e0, h0⟩ := rd_int Try.underlying3 f0
 simp only [List.cons.injEq, and_true] at e0
 subst e0
 have f1 : Rd Try.prog W 3 [x1] := by
  have := hf 1 _ rfl
  simpa [show Try.prog.cellsOf 3 = 1 from by kernel_rfl] using this
 obtain ⟨a1, e1, h1⟩ := rd_int Try.underlying3 f1
 simp only [List.cons.injEq, and_true] at e1
 subst e1
 have f2 : Rd Try.prog W 3 [x2] := by
  have := hf 2 _ rfl
  simpa [show Try.prog.cellsOf 3 = 1 from by kernel_rfl] using this
 obtain ⟨a2, e2, h2⟩ := rd_int Try.underlying3 f2
 simp only [List.cons.injEq, and_true] at e2
 subst e2
 have f3 : Rd Try.prog W 3 [x3] := by
  have := hf 3 _ rfl
  simpa [show Try.prog.cellsOf 3 = 1 from by kernel_rfl] using this
 obtain ⟨a3, e3, h3⟩ := rd_int Try.underlying3 f3
 simp only [List.cons.injEq, and_true] at e3
 subst e3
 have f4 : Rd Try.prog W 3 [x4] := by
  have := hf 4 _ rfl
  simpa [show Try.prog.cellsOf 3 = 1 from by kernel_rfl] using this
 obtain ⟨a4, e4, h4⟩ := rd_int Try.underlying3 f4
 simp only [List.cons.injEq, and_true] at e4
 subst e4
 exact ⟨a0, a1, a2, a3, a4, rfl, h0, h1, h2, h3, h4⟩
theorem open_Fixed {W : World} {cs : List Value} (h : Rd Try.prog W 59 cs) : ∃ (a0 : Int) (a1 : Bool) (a2 : Int) (a3 : Int) (a4 : Int) (a5 : Int) (a6 : Int) (a7 : Int) (a8 : Int) (a9 : Int), cs = [.int .i64 a0, .bool a1, .int .i64 a2, .int .i64 a3, .int .i64 a4, .int .i64 a5, .int .i64 a6, .int .i64 a7, .int .i64 a8, .int .i64 a9] ∧ I64 a0 ∧ I64 a2 ∧ I64 a3 ∧ I64 a4 ∧ I64 a5 ∧ I64 a6 ∧ I64 a7 ∧ I64 a8 ∧ I64 a9 := by
 obtain ⟨hl, hf⟩ := rd_struct Try.underlying59 h
 rw [show Try.prog.cellsOf 59 = 10 from by kernel_rfl] at hl
 obtain ⟨x0, t0, rfl, hl0⟩ := len_succ hl
 obtain ⟨x1, t1, rfl, hl1⟩ := len_succ hl0
 obtain ⟨x2, t2, rfl, hl2⟩ := len_succ hl1
 obtain ⟨x3, t3, rfl, hl3⟩ := len_succ hl2
 obtain ⟨x4, t4, rfl, hl4⟩ := len_succ hl3
 obtain ⟨x5, t5, rfl, hl5⟩ := len_succ hl4
 obtain ⟨x6, t6, rfl, hl6⟩ := len_succ hl5
 obtain ⟨x7, t7, rfl, hl7⟩ := len_succ hl6
 obtain ⟨x8, t8, rfl, hl8⟩ := len_succ hl7
 obtain ⟨x9, t9, rfl, hl9⟩ := len_succ hl8
 obtain rfl : t9 = [] := List.length_eq_zero_iff.1 hl9
 have f0 : Rd Try.prog W 3 [x0] := by
  have := hf 0 _ rfl
  simpa [show Try.prog.cellsOf 3 = 1 from by kernel_rfl] using this
 obtain ⟨a0, e0, h0⟩ := rd_int Try.underlying3 f0
 simp only [List.cons.injEq, and_true] at e0
 subst e0
 have f1 : Rd Try.prog W 4 [x1] := by
  have := hf 1 _ rfl
  simpa [show Try.prog.cellsOf 4 = 1 from by kernel_rfl] using this
 obtain ⟨a1, e1⟩ := rd_bool Try.underlying4 f1
 simp only [List.cons.injEq, and_true] at e1
 subst e1
 have f2 : Rd Try.prog W 3 [x2] := by
  have := hf 2 _ rfl
  simpa [show Try.prog.cellsOf 3 = 1 from by kernel_rfl] using this
 obtain ⟨a2, e2, h2⟩ := rd_int Try.underlying3 f2
 simp only [List.cons.injEq, and_true] at e2
 subst e2
 have f3 : Rd Try.prog W 3 [x3] := by
  have := hf 3 _ rfl
  simpa [show Try.prog.cellsOf 3 = 1 from by kernel_rfl] using this
 obtain ⟨a3, e3, h3⟩ := rd_int Try.underlying3 f3
 simp only [List.cons.injEq, and_true] at e3
 subst e3
 have f4 : Rd Try.prog W 3 [x4] := by
  have := hf 4 _ rfl
  simpa [show Try.prog.cellsOf 3 = 1 from by kernel_rfl] using this
 obtain ⟨a4, e4, h4⟩ := rd_int Try.underlying3 f4
 simp only [List.cons.injEq, and_true] at e4
 subst e4
 have f5 : Rd Try.prog W 57 [x5, x6, x7, x8, x9] := by
  have := hf 5 _ rfl
  simpa [show Try.prog.cellsOf 57 = 5 from by kernel_rfl] using this
 obtain ⟨a5, a6, a7, a8, a9, e5, h5, h6, h7, h8, h9⟩ := open_Unit f5
 simp only [List.cons.injEq, and_true] at e5
 obtain ⟨rfl, rfl, rfl, rfl, rfl⟩ := e5
 exact ⟨a0, a1, a2, a3, a4, a5, a6, a7, a8, a9, rfl, h0, h2, h3, h4, h5, h6, h7, h8, h9⟩
theorem open_Curve {W : World} {cs : List Value} (h : Rd Try.prog W 53 cs) : ∃ (r0 : Option Addr) (c0 : Nat) (a0 : List Int) (r1 : Option Addr) (c1 : Nat) (a1 : List Int), cs = [.slice r0 a0.length c0, .slice r1 a1.length c1] ∧ IsInts W r0 c0 .i64 a0 ∧ IsInts W r1 c1 .i64 a1 := by
 obtain ⟨hl, hf⟩ := rd_struct Try.underlying53 h
 rw [show Try.prog.cellsOf 53 = 2 from by kernel_rfl] at hl
 obtain ⟨x0, t0, rfl, hl0⟩ := len_succ hl
 obtain ⟨x1, t1, rfl, hl1⟩ := len_succ hl0
 obtain rfl : t1 = [] := List.length_eq_zero_iff.1 hl1
 have f0 : Rd Try.prog W 26 [x0] := by
  have := hf 0 _ rfl
  simpa [show Try.prog.cellsOf 26 = 1 from by kernel_rfl] using this
 obtain ⟨r0, c0, a0, e0, h0⟩ := rd_ints Try.underlying26 Try.underlying3 (by kernel_rfl) f0
 simp only [List.cons.injEq, and_true] at e0
 subst e0
 have f1 : Rd Try.prog W 26 [x1] := by
  have := hf 1 _ rfl
  simpa [show Try.prog.cellsOf 26 = 1 from by kernel_rfl] using this
 obtain ⟨r1, c1, a1, e1, h1⟩ := rd_ints Try.underlying26 Try.underlying3 (by kernel_rfl) f1
 simp only [List.cons.injEq, and_true] at e1
 subst e1
 exact ⟨r0, c0, a0, r1, c1, a1, rfl, h0, h1⟩
theorem open_Map {W : World} {cs : List Value} (h : Rd Try.prog W 55 cs) : ∃ (r0 : Option Addr) (c0 : Nat) (a0 : List Int) (r1 : Option Addr) (c1 : Nat) (a1 : List Int) (r2 : Option Addr) (c2 : Nat) (a2 : List (List Int)), cs = [.slice r0 a0.length c0, .slice r1 a1.length c1, .slice r2 a2.length c2] ∧ IsInts W r0 c0 .i64 a0 ∧ IsInts W r1 c1 .i64 a1 ∧ IsRows W r2 c2 a2 := by
 obtain ⟨hl, hf⟩ := rd_struct Try.underlying55 h
 rw [show Try.prog.cellsOf 55 = 3 from by kernel_rfl] at hl
 obtain ⟨x0, t0, rfl, hl0⟩ := len_succ hl
 obtain ⟨x1, t1, rfl, hl1⟩ := len_succ hl0
 obtain ⟨x2, t2, rfl, hl2⟩ := len_succ hl1
 obtain rfl : t2 = [] := List.length_eq_zero_iff.1 hl2
 have f0 : Rd Try.prog W 26 [x0] := by
  have := hf 0 _ rfl
  simpa [show Try.prog.cellsOf 26 = 1 from by kernel_rfl] using this
 obtain ⟨r0, c0, a0, e0, h0⟩ := rd_ints Try.underlying26 Try.underlying3 (by kernel_rfl) f0
 simp only [List.cons.injEq, and_true] at e0
 subst e0
 have f1 : Rd Try.prog W 26 [x1] := by
  have := hf 1 _ rfl
  simpa [show Try.prog.cellsOf 26 = 1 from by kernel_rfl] using this
 obtain ⟨r1, c1, a1, e1, h1⟩ := rd_ints Try.underlying26 Try.underlying3 (by kernel_rfl) f1
 simp only [List.cons.injEq, and_true] at e1
 subst e1
 have f2 : Rd Try.prog W 51 [x2] := by
  have := hf 2 _ rfl
  simpa [show Try.prog.cellsOf 51 = 1 from by kernel_rfl] using this
 obtain ⟨r2, c2, a2, e2, h2⟩ := rd_rows Try.underlying51 Try.underlying26 Try.underlying3 (by kernel_rfl) (by kernel_rfl) f2
 simp only [List.cons.injEq, and_true] at e2
 subst e2
 exact ⟨r0, c0, a0, r1, c1, a1, r2, c2, a2, rfl, h0, h1, h2⟩
section
open Go.Deep
structure IsS {α : Type} (sz : Nat) (enc : α → List Value) (W : World) (r : Option Addr) (cap : Nat) (xs : List α) : Prop where
 le : xs.length ≤ cap
 max : cap ≤ maxLen
 cells : xs ≠ [] → ∃ b off, r = some ⟨b, off, none⟩ ∧ b < W.heap.size ∧ ∀ i x, xs[i]? = some x → ∀ j u, (enc x)[j]? = some u → W.cell? ⟨b, off + i * sz + j, none⟩ = some u
theorem IsS.later {α : Type} {sz : Nat} {enc : α → List Value} {W W' : World} {r : Option Addr} {cap : Nat} {xs : List α} (h : IsS sz enc W r cap xs) (hb : Below W.heap.size W W') : IsS sz enc W' r cap xs :=
 ⟨h.le, h.max, fun hne => by
  obtain ⟨b, off, h1, h2, h3⟩ := h.cells hne
  exact ⟨b, off, h1, Nat.lt_of_lt_of_le h2 hb.size, fun i x hi j u hj => by rw [hb.cell (p := ⟨b, off + i * sz + j, none⟩) h2]; exact h3 i x hi j u hj⟩⟩
theorem rd_slices {α : Type} [Inhabited α] {P : Program} {W : World} {t e : TypeId} {cs : List Value} (sz : Nat) (enc : α → List Value) (good : α → Prop) (ht : P.underlying t = some (.slice e)) (hc : P.cellsOf e = sz) (henc : ∀ x, ∃ u l, enc x = u :: l)
  (open1 : ∀ cs, Rd P W e cs → ∃ x, cs = enc x ∧ good x) (h : Rd P W t cs) : ∃ (r : Option Addr) (cap : Nat) (xs : List α), cs = [.slice r xs.length cap] ∧ IsS sz enc W r cap xs ∧ ∀ x ∈ xs, good x := by
 obtain ⟨H, enc', fuel, y, hf⟩ := h
 rcases open_slice ht hf with ⟨rfl, _⟩ | ⟨a, len, cap, m, n, D, Pl, rfl, _, hl, hm, hmm, _, hx⟩
 ·
  exact ⟨none, 0, [], rfl, ⟨Nat.le_refl _, Nat.zero_le _, fun h => absurd rfl h⟩, by simp⟩
 ·
  simp only [if_true] at hmm
  subst hmm
  have hx2 : ∀ i, i < len → ∃ x, good x ∧ ∀ j u, (enc x)[j]? = some u → W.cell? (a.add (i * sz + j)) = some u := fun i hi => by
   obtain ⟨cs', h1, h2⟩ := hx i (by omega)
   obtain ⟨x, rfl, hg⟩ := open1 cs' ⟨H, enc', n, _, h2⟩
   refine ⟨x, hg, fun j u hj => ?_⟩
   obtain ⟨_, hlen, hcell⟩ := World.cells?_some h1
   have hj2 : j < P.cellsOf e := by rw [← hlen]; exact (List.getElem?_eq_some_iff.1 hj).1
   have := hcell j hj2
   rw [add_add, hc] at this
   rw [this, hj]
  obtain ⟨V, hV⟩ := choose_lt hx2
  have hget : ∀ (i : Nat) (x : α), ((List.range len).map V)[i]? = some x → i < len ∧ x = V i := fun i x hi => by
   rw [List.getElem?_map] at hi
   have hlt : i < len := by
    rcases Nat.lt_or_ge i len with h | h
    ·
     exact h
    ·
     rw [List.getElem?_eq_none (by simpa using h)] at hi; cases hi
   rw [List.getElem?_range hlt] at hi
   simp at hi
   exact ⟨hlt, hi.symm⟩
  refine ⟨some a, _, (List.range len).map V, by simp, ⟨by simpa using hl, hm, fun hne => ?_⟩, fun x hx3 => ?_⟩
  ·
   have hlen0 : 0 < len := by
    rcases Nat.eq_zero_or_pos len with h | h
    ·
     subst h; simp at hne
    ·
     exact h
   obtain ⟨u, l, hu⟩ := henc (V 0)
   have hc0 := (hV 0 hlen0).2 0 u (by rw [hu]; rfl)
   obtain ⟨b, off, spot⟩ := a
   have hspot : spot = none := by simpa [Addr.add] using World.cell?_spot hc0
   subst hspot
   have hb := World.block_lt_of_cell? _ _ hc0
   refine ⟨b, off, rfl, by simpa [Addr.add] using hb, fun i x hi j v hj => ?_⟩
   obtain ⟨hi2, rfl⟩ := hget i x hi
   have := (hV i hi2).2 j v hj
   rw [addr_add_none this] at this
   rw [Nat.add_assoc]
   exact this
  ·
   obtain ⟨i, hi, rfl⟩ := List.mem_map.1 hx3
   exact (hV i (List.mem_range.1 hi)).1
structure Ins where
 op : Int
 a : Int
 b : Int
 c : Int
 k : Int
instance : Inhabited Ins := ⟨⟨0, 0, 0, 0, 0⟩⟩
def Ins.enc (i : Ins) : List Value := [.int .i64 i.op, .int .i64 i.a, .int .i64 i.b, .int .i64 i.c, .int .i64 i.k]
def Ins.ok (i : Ins) : Prop := I64 i.op ∧ I64 i.a ∧ I64 i.b ∧ I64 i.c ∧ I64 i.k
structure Fx where
 bits : Int
 sg : Bool
 num : Int
 off : Int
 den : Int
 m : Int
 kg : Int
 s : Int
 a : Int
 k : Int
instance : Inhabited Fx := ⟨⟨0, false, 0, 0, 0, 0, 0, 0, 0, 0⟩⟩
def Fx.enc (t : Fx) : List Value := [.int .i64 t.bits, .bool t.sg, .int .i64 t.num, .int .i64 t.off, .int .i64 t.den, .int .i64 t.m, .int .i64 t.kg, .int .i64 t.s, .int .i64 t.a, .int .i64 t.k]
def Fx.ok (t : Fx) : Prop := I64 t.bits ∧ I64 t.num ∧ I64 t.off ∧ I64 t.den ∧ I64 t.m ∧ I64 t.kg ∧ I64 t.s ∧ I64 t.a ∧ I64 t.k
structure Cv where
 rx : Option Addr
 cx : Nat
 X : List Int
 ry : Option Addr
 cy : Nat
 Y : List Int
instance : Inhabited Cv := ⟨⟨none, 0, [], none, 0, []⟩⟩
def Cv.enc (c : Cv) : List Value := [.slice c.rx c.X.length c.cx, .slice c.ry c.Y.length c.cy]
def Cv.ok (W : World) (c : Cv) : Prop := IsInts W c.rx c.cx .i64 c.X ∧ IsInts W c.ry c.cy .i64 c.Y
structure Mp where
 rx : Option Addr
 cx : Nat
 X : List Int
 ry : Option Addr
 cy : Nat
 Y : List Int
 rz : Option Addr
 cz : Nat
 Z : List (List Int)
instance : Inhabited Mp := ⟨⟨none, 0, [], none, 0, [], none, 0, []⟩⟩
def Mp.enc (m : Mp) : List Value := [.slice m.rx m.X.length m.cx, .slice m.ry m.Y.length m.cy, .slice m.rz m.Z.length m.cz]
def Mp.ok (W : World) (m : Mp) : Prop := IsInts W m.rx m.cx .i64 m.X ∧ IsInts W m.ry m.cy .i64 m.Y ∧ IsRows W m.rz m.cz m.Z
theorem Cv.ok.later {W W' : World} {c : Cv} (h : c.ok W) (hb : Below W.heap.size W W') : c.ok W' := ⟨h.1.later hb, h.2.later hb⟩
theorem Mp.ok.later {W W' : World} {m : Mp} (h : m.ok W) (hb : Below W.heap.size W W') : m.ok W' := ⟨h.1.later hb, h.2.1.later hb, h.2.2.later hb⟩
structure PV where
 rc : Option Addr
 cc : Nat
 code : List Ins
 rt : Option Addr
 ct : Nat
 types : List Fx
 rv : Option Addr
 cv : Nat
 curves : List Cv
 rm : Option Addr
 cm : Nat
 maps : List Mp
 cells : Int
 ri : Option Addr
 ci : Nat
 inputs : List Int
 rs : Option Addr
 cs : Nat
 states : List Int
 ro : Option Addr
 co : Nat
 outputs : List Int
 rn : Option Addr
 cn : Nat
 initial : List Int
def PV.enc (p : PV) : List Value := [.slice p.rc p.code.length p.cc, .slice p.rt p.types.length p.ct, .slice p.rv p.curves.length p.cv, .slice p.rm p.maps.length p.cm, .int .i64 p.cells, .slice p.ri p.inputs.length p.ci, .slice p.rs p.states.length p.cs, .slice p.ro p.outputs.length p.co, .slice p.rn p.initial.length p.cn]
def PV.val (p : PV) : Value := .agg #[.slice p.rc p.code.length p.cc, .slice p.rt p.types.length p.ct, .slice p.rv p.curves.length p.cv, .slice p.rm p.maps.length p.cm, .int .i64 p.cells, .slice p.ri p.inputs.length p.ci, .slice p.rs p.states.length p.cs, .slice p.ro p.outputs.length p.co, .slice p.rn p.initial.length p.cn]
theorem PV.val_eq (p : PV) : p.val = .agg p.enc.toArray := rfl
structure IsP (W : World) (p : PV) : Prop where
 code : IsS 5 Ins.enc W p.rc p.cc p.code
 codeG : ∀ x ∈ p.code, x.ok
 types : IsS 10 Fx.enc W p.rt p.ct p.types
 typesG : ∀ x ∈ p.types, x.ok
 curves : IsS 2 Cv.enc W p.rv p.cv p.curves
 curvesG : ∀ x ∈ p.curves, x.ok W
 maps : IsS 3 Mp.enc W p.rm p.cm p.maps
 mapsG : ∀ x ∈ p.maps, x.ok W
 cells : I64 p.cells
 inputs : IsInts W p.ri p.ci .i64 p.inputs
 states : IsInts W p.rs p.cs .i64 p.states
 outputs : IsInts W p.ro p.co .i64 p.outputs
 initial : IsInts W p.rn p.cn .i64 p.initial
theorem IsP.later {W W' : World} {p : PV} (h : IsP W p) (hb : Below W.heap.size W W') : IsP W' p :=
 ⟨h.code.later hb, h.codeG, h.types.later hb, h.typesG, h.curves.later hb, fun x hx => (h.curvesG x hx).later hb, h.maps.later hb, fun x hx => (h.mapsG x hx).later hb, h.cells, h.inputs.later hb, h.states.later hb, h.outputs.later hb, h.initial.later hb⟩
theorem open_code {W : World} {cs : List Value} (h : Rd Try.prog W 22 cs) : ∃ (r : Option Addr) (cap : Nat) (xs : List Ins), cs = [.slice r xs.length cap] ∧ IsS 5 Ins.enc W r cap xs ∧ ∀ x ∈ xs, x.ok :=
 rd_slices 5 Ins.enc Ins.ok Try.underlying22 (by kernel_rfl) (fun x => ⟨_, _, rfl⟩) (fun cs h => by
  obtain ⟨a, b, c, d, e, rfl, h1, h2, h3, h4, h5⟩ := open_Instr h
  exact ⟨⟨a, b, c, d, e⟩, rfl, h1, h2, h3, h4, h5⟩) h
theorem open_types {W : World} {cs : List Value} (h : Rd Try.prog W 23 cs) : ∃ (r : Option Addr) (cap : Nat) (xs : List Fx), cs = [.slice r xs.length cap] ∧ IsS 10 Fx.enc W r cap xs ∧ ∀ x ∈ xs, x.ok :=
 rd_slices 10 Fx.enc Fx.ok Try.underlying23 (by kernel_rfl) (fun x => ⟨_, _, rfl⟩) (fun cs h => by
  obtain ⟨a, b, c, d, e, f, g, i, j, k, rfl, h1, h2, h3, h4, h5, h6, h7, h8, h9⟩ := open_Fixed h
  exact ⟨⟨a, b, c, d, e, f, g, i, j, k⟩, rfl, h1, h2, h3, h4, h5, h6, h7, h8, h9⟩) h
theorem open_curves {W : World} {cs : List Value} (h : Rd Try.prog W 24 cs) : ∃ (r : Option Addr) (cap : Nat) (xs : List Cv), cs = [.slice r xs.length cap] ∧ IsS 2 Cv.enc W r cap xs ∧ ∀ x ∈ xs, x.ok W :=
 rd_slices 2 Cv.enc (Cv.ok W) Try.underlying24 (by kernel_rfl) (fun x => ⟨_, _, rfl⟩) (fun cs h => by
  obtain ⟨r0, c0, a0, r1, c1, a1, rfl, h0, h1⟩ := open_Curve h
  exact ⟨⟨r0, c0, a0, r1, c1, a1⟩, rfl, h0, h1⟩) h
theorem open_maps {W : World} {cs : List Value} (h : Rd Try.prog W 25 cs) : ∃ (r : Option Addr) (cap : Nat) (xs : List Mp), cs = [.slice r xs.length cap] ∧ IsS 3 Mp.enc W r cap xs ∧ ∀ x ∈ xs, x.ok W :=
 rd_slices 3 Mp.enc (Mp.ok W) Try.underlying25 (by kernel_rfl) (fun x => ⟨_, _, rfl⟩) (fun cs h => by
  obtain ⟨r0, c0, a0, r1, c1, a1, r2, c2, a2, rfl, h0, h1, h2⟩ := open_Map h
  exact ⟨⟨r0, c0, a0, r1, c1, a1, r2, c2, a2⟩, rfl, h0, h1, h2⟩) h
set_option maxRecDepth 100000 in
theorem open_Program {W : World} {cs : List Value} (h : Rd Try.prog W 28 cs) : ∃ p : PV, cs = p.enc ∧ IsP W p := by
 obtain ⟨hl, hf⟩ := rd_struct Try.underlying28 h
 rw [show Try.prog.cellsOf 28 = 9 from by kernel_rfl] at hl
 obtain ⟨x0, t0, rfl, hl0⟩ := len_succ hl
 obtain ⟨x1, t1, rfl, hl1⟩ := len_succ hl0
 obtain ⟨x2, t2, rfl, hl2⟩ := len_succ hl1
 obtain ⟨x3, t3, rfl, hl3⟩ := len_succ hl2
 obtain ⟨x4, t4, rfl, hl4⟩ := len_succ hl3
 obtain ⟨x5, t5, rfl, hl5⟩ := len_succ hl4
 obtain ⟨x6, t6, rfl, hl6⟩ := len_succ hl5
 obtain ⟨x7, t7, rfl, hl7⟩ := len_succ hl6
 obtain ⟨x8, t8, rfl, hl8⟩ := len_succ hl7
 obtain rfl : t8 = [] := List.length_eq_zero_iff.1 hl8
 have f0 : Rd Try.prog W 22 [x0] := by
  have := hf 0 _ rfl
  simpa [show Try.prog.cellsOf 22 = 1 from by kernel_rfl] using this
 have f1 : Rd Try.prog W 23 [x1] := by
  have := hf 1 _ rfl
  simpa [show Try.prog.cellsOf 23 = 1 from by kernel_rfl] using this
 have f2 : Rd Try.prog W 24 [x2] := by
  have := hf 2 _ rfl
  simpa [show Try.prog.cellsOf 24 = 1 from by kernel_rfl] using this
 have f3 : Rd Try.prog W 25 [x3] := by
  have := hf 3 _ rfl
  simpa [show Try.prog.cellsOf 25 = 1 from by kernel_rfl] using this
 have f4 : Rd Try.prog W 3 [x4] := by
  have := hf 4 _ rfl
  simpa [show Try.prog.cellsOf 3 = 1 from by kernel_rfl] using this
 have f5 : Rd Try.prog W 26 [x5] := by
  have := hf 5 _ rfl
  simpa [show Try.prog.cellsOf 26 = 1 from by kernel_rfl] using this
 have f6 : Rd Try.prog W 26 [x6] := by
  have := hf 6 _ rfl
  simpa [show Try.prog.cellsOf 26 = 1 from by kernel_rfl] using this
 have f7 : Rd Try.prog W 26 [x7] := by
  have := hf 7 _ rfl
  simpa [show Try.prog.cellsOf 26 = 1 from by kernel_rfl] using this
 have f8 : Rd Try.prog W 26 [x8] := by
  have := hf 8 _ rfl
  simpa [show Try.prog.cellsOf 26 = 1 from by kernel_rfl] using this
 obtain ⟨r0, c0, a0, e0, h0, g0⟩ := open_code f0
 obtain ⟨r1, c1, a1, e1, h1, g1⟩ := open_types f1
 obtain ⟨r2, c2, a2, e2, h2, g2⟩ := open_curves f2
 obtain ⟨r3, c3, a3, e3, h3, g3⟩ := open_maps f3
 obtain ⟨a4, e4, h4⟩ := rd_int Try.underlying3 f4
 obtain ⟨r5, c5, a5, e5, h5⟩ := rd_ints Try.underlying26 Try.underlying3 (by kernel_rfl) f5
 obtain ⟨r6, c6, a6, e6, h6⟩ := rd_ints Try.underlying26 Try.underlying3 (by kernel_rfl) f6
 obtain ⟨r7, c7, a7, e7, h7⟩ := rd_ints Try.underlying26 Try.underlying3 (by kernel_rfl) f7
 obtain ⟨r8, c8, a8, e8, h8⟩ := rd_ints Try.underlying26 Try.underlying3 (by kernel_rfl) f8
 simp only [List.cons.injEq, and_true] at e0 e1 e2 e3 e4 e5 e6 e7 e8
 subst e0 e1 e2 e3 e4 e5 e6 e7 e8
 exact ⟨⟨r0, c0, a0, r1, c1, a1, r2, c2, a2, r3, c3, a3, a4, r5, c5, a5, r6, c6, a6, r7, c7, a7, r8, c8, a8⟩, rfl, h0, g0, h1, g1, h2, g2, h3, g3, h4, h5, h6, h7, h8⟩
end
structure PP where
 code : List Ins
 types : List Fx
 curves : List (List Int × List Int)
 maps : List (List Int × List Int × List (List Int))
 cells : Int
 inputs : List Int
 states : List Int
 outputs : List Int
 initial : List Int
def Cv.p (c : Cv) : List Int × List Int := (c.X, c.Y)
def Mp.p (m : Mp) : List Int × List Int × List (List Int) := (m.X, m.Y, m.Z)
def PV.p (v : PV) : PP := ⟨v.code, v.types, v.curves.map Cv.p, v.maps.map Mp.p, v.cells, v.inputs, v.states, v.outputs, v.initial⟩
def Ins.by8 (i : Ins) : List Int := encI i.op i.a i.b i.c i.k
def Fx.nums (t : Fx) : List Int := [t.bits, if t.sg then 1 else 0, t.num, t.off, t.den, t.m, t.kg, t.s, t.a, t.k]
def Fx.by8 (t : Fx) : List Int := nums8 t.nums
def curveB8 (c : List Int × List Int) : List Int := list8 c.1 ++ list8 c.2
def mapB8 (m : List Int × List Int × List (List Int)) : List Int := list8 m.1 ++ list8 m.2.1 ++ m.2.2.flatMap list8
def PP.body (p : PP) : List Int :=
 num8 p.code.length ++ p.code.flatMap Ins.by8 ++ num8 p.types.length ++ p.types.flatMap Fx.by8 ++ num8 p.curves.length ++ p.curves.flatMap curveB8 ++ num8 p.maps.length ++ p.maps.flatMap mapB8 ++
  num8 p.cells ++ list8 p.inputs ++ list8 p.states ++ list8 p.outputs ++ list8 p.initial
theorem flat_take {α : Type} [Inhabited α] (f : α → List Int) {l : List α} {k : Nat} (hk : k < l.length) : (l.take (k + 1)).flatMap f = (l.take k).flatMap f ++ f (l.getD k default) := by
 rw [List.take_add_one, List.getElem?_eq_getElem hk, List.flatMap_append]
 simp [List.getD, List.getElem?_eq_getElem hk]
theorem flat_le {α : Type} (f : α → List Int) (l : List α) (k : Nat) : ((l.take k).flatMap f).length ≤ (l.flatMap f).length := by
 conv => rhs; rw [← List.take_append_drop k l]
 rw [List.flatMap_append, List.length_append]
 omega
theorem getD_mem_of {α : Type} [Inhabited α] {l : List α} {k : Nat} (hk : k < l.length) : l.getD k default ∈ l := by
 simp [List.getD, List.getElem?_eq_getElem hk]
theorem getD_some {α : Type} [Inhabited α] {l : List α} {k : Nat} (hk : k < l.length) : l[k]? = some (l.getD k default) := by
 simp [List.getD, List.getElem?_eq_getElem hk]
theorem bytes_append {xs ys : List Int} (hx : ByteL xs) (hy : ByteL ys) : ByteL (xs ++ ys) := fun y h => (List.mem_append.1 h).elim (hx y) (hy y)
theorem bytes_flat {α : Type} {f : α → List Int} {l : List α} (h : ∀ x ∈ l, ByteL (f x)) : ByteL (l.flatMap f) := fun y hy => by
 obtain ⟨x, hx, hy⟩ := List.mem_flatMap.1 hy
 exact h x hx y hy
theorem curveB8_byte (c : List Int × List Int) : ByteL (curveB8 c) := bytes_append (list8_byte _) (list8_byte _)
theorem mapB8_byte (m : List Int × List Int × List (List Int)) : ByteL (mapB8 m) := bytes_append (bytes_append (list8_byte _) (list8_byte _)) (bytes_flat fun _ _ => list8_byte _)
theorem body_byte (p : PP) : ByteL p.body := by
 unfold PP.body
 repeat' (with_reducible refine bytes_append ?_ ?_)
 all_goals first | exact num8_byte _ | exact list8_byte _ | exact bytes_flat (fun x _ => encI_byte _ _ _ _ _) | exact bytes_flat (fun x _ => nums8_byte _) | exact bytes_flat (fun x _ => curveB8_byte x) | exact bytes_flat (fun x _ => mapB8_byte x)
theorem flat_curves (l : List Cv) : (l.map Cv.p).flatMap curveB8 = l.flatMap fun c => curveB8 c.p := by rw [List.flatMap_map]
theorem flat_maps (l : List Mp) : (l.map Mp.p).flatMap mapB8 = l.flatMap fun c => mapB8 c.p := by rw [List.flatMap_map]
theorem wpList_append_ksf {k : IntKind} {te : TypeId} {ts : TypeId} {z : Value} {by' : Nat} (hts : Try.prog.underlying ts = some (.slice te)) (hinf : (Try.prog.info? te).map (fun i => (i.zero, i.size, i.bytes)) = some (some z, 1, by')) (hzs : z.cells.size = 1) (hby : by' ≤ 8)
  {ops : Array Oper} {rest : List Oper} {o : Oper} {a : Act} {Q : Exit → Act → World → Prop} {w : World} (hgd : o.guard = none) (s x : Operand)
  (ho : o.op = .call { callee := .builtin .append, args := #[s, x], argTypes := #[ts, ts] }) (base : Nat) (r r2 : Option Addr) (cap c2 : Nat) (xs ys : List Int)
  (hs : a.eval s = .slice r xs.length cap) (hx : a.eval x = .slice r2 ys.length c2) (hown : OwnK k te w base r cap xs) (hys : IsInts w r2 c2 k ys) (hl : xs.length + ys.length ≤ 1099511627776) (hb : base ≤ w.heap.size)
  (h : ∀ r' cap' w', OwnK k te w' base r' cap' (xs ++ ys) → Below base w w' → (∀ q, q < w.heap.size → (∀ a, r = some a → a.block ≠ q) → w'.heap[q]? = w.heap[q]?) → (∀ a, r' = some a → (∃ a0, r = some a0 ∧ a0.block = a.block) ∨ w.heap.size ≤ a.block) → wpList Try.prog ops Q rest (a.put o.dst (.slice r' (xs ++ ys).length cap')) w') : wpList Try.prog ops Q (o :: rest) a w := by
 obtain ⟨i0, hi, hz0, hz1, hz2⟩ := info_parts hinf
 cases r2 with
 | none =>
  have hy : ys = [] := by
   rcases Classical.em (ys = []) with h | h
   ·
    exact h
   ·
    obtain ⟨b, off, h1, _⟩ := hys.cells h
    cases h1
  subst hy
  refine Lib.wpList_append_run w hgd s x _ _ ho _ _ hs hx _ w (run_append_noneK o.type i0 hts hi w r xs.length cap c2 hown.le) ?_
  have := h r cap w (by rw [List.append_nil]; exact hown) (Below.refl _ _) (fun _ _ _ => rfl) (fun a ha => .inl ⟨a, ha, rfl⟩)
  rwa [List.append_nil] at this
 | some ad =>
  refine wpList_append_own_at w hgd s x ts ho base te i0 z 1 by' hts hi hz0 hz1 hz2 hzs (by omega) _ xs.length (xs.map (Value.int k)) hs hown ad ys.length c2 (ys.map (Value.int k)) hx (by simp) ?_ (ints_oneCell k ys) (by unfold maxLen; omega) (by have : (xs.length + ys.length) * by' ≤ 1099511627776 * 8 := Nat.mul_le_mul (by omega) hby; omega) hb ?_
  ·
   intro j u hj
   have hj2 : j < ys.length := by
    rcases Nat.lt_or_ge j ys.length with h | h
    ·
     exact h
    ·
     rw [List.getElem?_eq_none (by simpa using h)] at hj; cases hj
   obtain ⟨b, off, h1, h2, h3⟩ := hys.cells (fun e => by subst e; simp at hj2)
   simp only [Option.some.injEq] at h1
   subst h1
   have h4 := h3 j hj2
   have h5 : (Addr.add ⟨b, off, none⟩ j : Addr) = ⟨b, off + j, none⟩ := by
    by_cases h0 : j = 0
    ·
     subst h0; simp [Addr.add]
    ·
     simp [Addr.add, h0]
   rw [h5, h4, ← hj]
   simp [List.getD, List.getElem?_eq_getElem hj2]
  ·
   intro v' w1 hown1 hgrow _ hg
   have hB : Below base w w1 := (Below.refl base w).grown hgrow hb (fun k hk => (World.ownsRow.lt hown k hk).1)
   have hlen : (xs ++ ys).length = xs.length + ys.length := by simp
   rw [← List.map_append] at hown1
   obtain ⟨r', cap', rfl⟩ : ∃ r' cap', v' = .slice r' (xs ++ ys).length cap' := by
    rcases hown1.2 with ⟨h1, h3⟩ | ⟨g, c, cur, h1, _⟩
    ·
     exact ⟨none, 0, by rw [h1, hlen, h3]⟩
    ·
     exact ⟨_, _, by rw [h1, hlen]⟩
   refine h r' cap' w1 ?_ hB ?_ ?_
   ·
    unfold OwnK
    rw [hlen] at hown1 ⊢
    exact hown1
   ·
    intro q hq hr
    refine hgrow.block q hq ?_
    cases r with
    | none => simp [Value.ownBlock]
    | some a0 =>
     simp only [Value.ownBlock, ne_eq, Option.some.injEq]
     exact fun e => hr a0 rfl e.symm
   ·
    intro a ha
    subst ha
    rcases hg with hg | hg
    ·
     cases r with
     | none => simp [Value.ownBlock] at hg
     | some a0 =>
      simp only [Value.ownBlock, Option.some.injEq] at hg
      exact .inl ⟨a0, rfl, hg.symm⟩
    ·
     right
     simp only [Value.ownBlock, Option.some.injEq] at hg
     omega
theorem IsS.at_ {α : Type} [Inhabited α] {sz : Nat} {enc : α → List Value} {W : World} {r : Option Addr} {cap : Nat} {xs : List α} (h : IsS sz enc W r cap xs) {k : Nat} (hk : k < xs.length) :
  ∃ b off, r = some ⟨b, off, none⟩ ∧ b < W.heap.size ∧ ∀ j u, (enc (xs.getD k default))[j]? = some u → W.cell? ⟨b, off + k * sz + j, none⟩ = some u := by
 obtain ⟨b, off, h1, h2, h3⟩ := h.cells (fun e => by subst e; simp at hk)
 exact ⟨b, off, h1, h2, fun j u hj => h3 k _ (getD_some hk) j u hj⟩
def rowN : Nat → ByteArray
 | 0 => ⟨#[]⟩
 | 1 => ⟨#[99, 111, 110, 115, 116]⟩
 | 2 => ⟨#[108, 111, 97, 100]⟩
 | 3 => ⟨#[115, 116, 111, 114, 101]⟩
 | 4 => ⟨#[109, 111, 118, 101]⟩
 | 5 => ⟨#[97, 100, 100]⟩
 | 6 => ⟨#[115, 117, 98]⟩
 | 7 => ⟨#[109, 117, 108]⟩
 | 8 => ⟨#[100, 105, 118]⟩
 | 9 => ⟨#[110, 101, 103]⟩
 | 10 => ⟨#[99, 111, 110, 118, 101, 114, 116]⟩
 | 11 => ⟨#[109, 105, 110]⟩
 | 12 => ⟨#[109, 97, 120]⟩
 | 13 => ⟨#[108, 101, 115, 115]⟩
 | 14 => ⟨#[101, 113, 117, 97, 108]⟩
 | 15 => ⟨#[98, 101, 108, 111, 119]⟩
 | 16 => ⟨#[97, 110, 100]⟩
 | 17 => ⟨#[111, 114]⟩
 | 18 => ⟨#[110, 111, 116]⟩
 | 19 => ⟨#[115, 101, 108, 101, 99, 116]⟩
 | 20 => ⟨#[99, 117, 114, 118, 101]⟩
 | 21 => ⟨#[109, 97, 112]⟩
 | 22 => ⟨#[108, 97, 103]⟩
 | _ => ⟨#[]⟩
def rowF : Nat → ByteArray
 | 0 => ⟨#[]⟩
 | 1 => ⟨#[65, 75]⟩
 | 2 => ⟨#[65, 75]⟩
 | 3 => ⟨#[65, 75]⟩
 | 4 => ⟨#[65, 66]⟩
 | 5 => ⟨#[65, 66, 67, 75]⟩
 | 6 => ⟨#[65, 66, 67, 75]⟩
 | 7 => ⟨#[65, 66, 67, 75]⟩
 | 8 => ⟨#[65, 66, 67, 75]⟩
 | 9 => ⟨#[65, 66, 75]⟩
 | 10 => ⟨#[65, 66, 75]⟩
 | 11 => ⟨#[65, 66, 67]⟩
 | 12 => ⟨#[65, 66, 67]⟩
 | 13 => ⟨#[65, 66, 67, 75]⟩
 | 14 => ⟨#[65, 66, 67, 75]⟩
 | 15 => ⟨#[65, 66, 67]⟩
 | 16 => ⟨#[65, 66, 67]⟩
 | 17 => ⟨#[65, 66, 67]⟩
 | 18 => ⟨#[65, 66]⟩
 | 19 => ⟨#[65, 66, 67, 75]⟩
 | 20 => ⟨#[65, 66, 75]⟩
 | 21 => ⟨#[65, 66, 67, 75]⟩
 | 22 => ⟨#[65, 66, 75]⟩
 | _ => ⟨#[]⟩
def rowC : Nat → Int
 | 0 => 0
 | 1 => 1
 | 2 => 2
 | 3 => 2
 | 4 => 1
 | 5 => 3
 | 6 => 3
 | 7 => 4
 | 8 => 12
 | 9 => 3
 | 10 => 4
 | 11 => 1
 | 12 => 1
 | 13 => 3
 | 14 => 4
 | 15 => 1
 | 16 => 1
 | 17 => 1
 | 18 => 1
 | 19 => 2
 | 20 => 20
 | 21 => 40
 | 22 => 8
 | _ => 0
def rowCells : Array Value := #[.string ⟨#[]⟩, .string ⟨#[]⟩, .int .i64 0, .string ⟨#[99, 111, 110, 115, 116]⟩, .string ⟨#[65, 75]⟩, .int .i64 1, .string ⟨#[108, 111, 97, 100]⟩, .string ⟨#[65, 75]⟩, .int .i64 2, .string ⟨#[115, 116, 111, 114, 101]⟩, .string ⟨#[65, 75]⟩, .int .i64 2, .string ⟨#[109, 111, 118, 101]⟩, .string ⟨#[65, 66]⟩, .int .i64 1, .string ⟨#[97, 100, 100]⟩, .string ⟨#[65, 66, 67, 75]⟩, .int .i64 3, .string ⟨#[115, 117, 98]⟩, .string ⟨#[65, 66, 67, 75]⟩, .int .i64 3, .string ⟨#[109, 117, 108]⟩, .string ⟨#[65, 66, 67, 75]⟩, .int .i64 4, .string ⟨#[100, 105, 118]⟩, .string ⟨#[65, 66, 67, 75]⟩, .int .i64 12, .string ⟨#[110, 101, 103]⟩, .string ⟨#[65, 66, 75]⟩, .int .i64 3, .string ⟨#[99, 111, 110, 118, 101, 114, 116]⟩, .string ⟨#[65, 66, 75]⟩, .int .i64 4, .string ⟨#[109, 105, 110]⟩, .string ⟨#[65, 66, 67]⟩, .int .i64 1, .string ⟨#[109, 97, 120]⟩, .string ⟨#[65, 66, 67]⟩, .int .i64 1, .string ⟨#[108, 101, 115, 115]⟩, .string ⟨#[65, 66, 67, 75]⟩, .int .i64 3, .string ⟨#[101, 113, 117, 97, 108]⟩, .string ⟨#[65, 66, 67, 75]⟩, .int .i64 4, .string ⟨#[98, 101, 108, 111, 119]⟩, .string ⟨#[65, 66, 67]⟩, .int .i64 1, .string ⟨#[97, 110, 100]⟩, .string ⟨#[65, 66, 67]⟩, .int .i64 1, .string ⟨#[111, 114]⟩, .string ⟨#[65, 66, 67]⟩, .int .i64 1, .string ⟨#[110, 111, 116]⟩, .string ⟨#[65, 66]⟩, .int .i64 1, .string ⟨#[115, 101, 108, 101, 99, 116]⟩, .string ⟨#[65, 66, 67, 75]⟩, .int .i64 2, .string ⟨#[99, 117, 114, 118, 101]⟩, .string ⟨#[65, 66, 75]⟩, .int .i64 20, .string ⟨#[109, 97, 112]⟩, .string ⟨#[65, 66, 67, 75]⟩, .int .i64 40, .string ⟨#[108, 97, 103]⟩, .string ⟨#[65, 66, 75]⟩, .int .i64 8]
theorem rowCells_at (n : Nat) (h : n < 23) : rowCells[n * 3]? = some (.string (rowN n)) ∧ rowCells[n * 3 + 1]? = some (.string (rowF n)) ∧ rowCells[n * 3 + 2]? = some (.int .i64 (rowC n)) := by
 rcases n with _ | _ | _ | _ | _ | _ | _ | _ | _ | _ | _ | _ | _ | _ | _ | _ | _ | _ | _ | _ | _ | _ | _ | n
 all_goals first | exact ⟨rfl, rfl, rfl⟩ | omega
set_option maxRecDepth 100000 in
theorem rows_any (w : World) : Calls Try.prog 115 #[] w fun e w' => ∃ g, e = .returned (.slice (some ⟨g, 0, none⟩) 23 23) ∧ w.heap.size ≤ g ∧ g < w'.heap.size ∧ Below w.heap.size w w' ∧ Hid (∀ n, n < 23 → w'.cell? ⟨g, n * 3, none⟩ = some (.string (rowN n)) ∧ w'.cell? ⟨g, n * 3 + 1, none⟩ = some (.string (rowF n)) ∧ w'.cell? ⟨g, n * 3 + 2, none⟩ = some (.int .i64 (rowC n))) := by
 go_enter Try.func115, Try.ntmps115
 go_wp2
 go_ret
 refine ⟨w.heap.size, rfl, Nat.le_refl _, by simp, bw, H! (fun n hn => ?_)⟩
 have h := rowCells_at n hn
 exact ⟨(World.cell?_alloc_new _ _ _ _).trans h.1, (World.cell?_alloc_new _ _ _ _).trans h.2.1, (World.cell?_alloc_new _ _ _ _).trans h.2.2⟩
def opB (op : Int) : Bool := decide (1 ≤ op ∧ op ≤ 22)
def typB (op : Int) : Bool := decide (5 ≤ op ∧ op ≤ 10 ∨ op = 13 ∨ op = 14)
theorem known_any (op : Int) (w : World) : Calls Try.prog 114 #[.int .i64 op] w fun e w' => e = .returned (.bool (opB op)) ∧ w' = w := by
 by_cases h1 : 1 ≤ op
 ·
  by_cases h2 : op ≤ 22
  ·
   have H : Hid (opB op = true) := H! (by simp [opB, h1, h2])
   go_enter Try.func114, Try.ntmps114
   go_wp2
   go_ret
   exact ⟨by rw [H.out]; simp [h1, h2], rfl⟩
  ·
   have H : Hid (opB op = false) := H! (by simp [opB, h1, h2])
   go_enter Try.func114, Try.ntmps114
   go_wp2
   go_ret
   exact ⟨by rw [H.out]; simp [h1, h2], rfl⟩
 ·
  have H : Hid (opB op = false) := H! (by simp [opB, h1])
  go_enter Try.func114, Try.ntmps114
  go_wp2
  go_ret
  exact ⟨by rw [H.out]; simp [h1], rfl⟩
theorem typed_any (op : Int) (w : World) : Calls Try.prog 106 #[.int .i64 op] w fun e w' => e = .returned (.bool (typB op)) ∧ w' = w := by
 by_cases h13 : op = 13
 ·
  subst h13
  have H : Hid (typB 13 = true) := H! (by rfl)
  go_enter Try.func106, Try.ntmps106
  go_wp2
  go_ret
  exact ⟨by rw [H.out]; first | rfl | (simp [*]; done), rfl⟩
 by_cases h14 : op = 14
 ·
  subst h14
  have H : Hid (typB 14 = true) := H! (by rfl)
  go_enter Try.func106, Try.ntmps106
  go_wp2
  go_ret
  exact ⟨by rw [H.out]; first | rfl | (simp [*]; done), rfl⟩
 by_cases h5 : 5 ≤ op
 ·
  by_cases h10 : op ≤ 10
  ·
   have H : Hid (typB op = true) := H! (by unfold typB; simp [h5, h10])
   go_enter Try.func106, Try.ntmps106
   go_wp2
   go_ret
   exact ⟨by rw [H.out]; first | rfl | (simp [*]; done), rfl⟩
  ·
   have H : Hid (typB op = false) := H! (by unfold typB; simp [h5, h10, h13, h14])
   go_enter Try.func106, Try.ntmps106
   go_wp2
   go_ret
   exact ⟨by rw [H.out]; first | rfl | (simp [*]; done), rfl⟩
 ·
  have H : Hid (typB op = false) := H! (by unfold typB; simp [h5, h13, h14])
  go_enter Try.func106, Try.ntmps106
  go_wp2
  go_ret
  exact ⟨by rw [H.out]; first | rfl | (simp [*]; done), rfl⟩
theorem split_any (k : Int) (hk : I64 k) (w : World) : Calls Try.prog 120 #[.int .i64 k] w fun e w' => e = .returned (.tuple #[.int .i64 (k / 16384), .int .i64 (k / 128 % 128), .int .i64 (k % 128)]) ∧ w' = w := by
 have h1 := i64_and127 k
 have h2 := i64_and127 (k / 128)
 go_enter Try.func120, Try.ntmps120
 go_wp2
 go_ret3
 exact ⟨by first | rfl | (simp; done) | skip, rfl⟩
def fieldI (a b c k n : Int) : Int := if n = 65 then a else if n = 66 then b else if n = 67 then c else k
theorem field_any (op a b c k n : Int) (w : World) : Calls Try.prog 116 #[.agg #[.int .i64 op, .int .i64 a, .int .i64 b, .int .i64 c, .int .i64 k], .int .u8 n] w fun e w' => e = .returned (.int .i64 (fieldI a b c k n)) ∧ Below w.heap.size w w' := by
 by_cases h1 : n = 65
 ·
  subst h1
  go_enter Try.func116, Try.ntmps116
  go_wp2
  go_ret
  exact ⟨rfl, bw⟩
 ·
  by_cases h2 : n = 66
  ·
   subst h2
   go_enter Try.func116, Try.ntmps116
   go_wp2
   go_ret
   exact ⟨rfl, bw⟩
  ·
   by_cases h3 : n = 67
   ·
    subst h3
    go_enter Try.func116, Try.ntmps116
    go_wp2
    go_ret
    exact ⟨rfl, bw⟩
   ·
    go_enter Try.func116, Try.ntmps116
    go_wp2
    go_ret
    exact ⟨by simp [fieldI, h1, h2, h3], bw⟩
set_option maxRecDepth 100000 in
theorem litB_any (s : ByteArray) (c : Int) (w : World) : Calls Try.prog 126 #[.string s, .int .u8 c] w fun e w' => e = .returned (.int .i64 (Lib.indexByte s.data.toList c.toNat.toUInt8)) ∧ w' = w := by
 go_enter Try.func126, Try.ntmps126
 go_wp2
 rw [run_callFunc_extern Try.func129 (by kernel_rfl) (by kernel_rfl) (by kernel_rfl) (e := Extern.BytealgIndexByte.indexByte) (by kernel_rfl), Lib.run_indexByteString]
 simp only [Result.andThen]
 rw [Oper.upon_value]
 go_wp2
 go_ret
 exact ⟨rfl, rfl⟩
theorem idxB_any (s : ByteArray) (c v : Int) (hv : Lib.indexByte s.data.toList c.toNat.toUInt8 = v) (w : World) : Calls Try.prog 117 #[.string s, .int .u8 c] w fun e w' => e = .returned (.int .i64 v) ∧ w' = w := by
 subst hv
 go_enter Try.func117, Try.ntmps117
 go_wp2_with (go_at_call 126; refine (litB_any _ _ _).mono ?_; rintro e w' ⟨rfl, rfl⟩)
 go_ret
 exact ⟨rfl, rfl⟩
theorem sufL_any (s p : ByteArray) (w : World) (hs : s.size ≤ 9223372036854775807) : Calls Try.prog 127 #[.string s, .string p] w fun e w' => e = .returned (.bool (Lib.hasSuffix s.data.toList p.data.toList)) ∧ w' = w := by
 rw [← Lib.hasSuffix_raw]
 have hlo : p.size ≤ s.size → ((s.size : Int) - (p.size : Int) + 9223372036854775808) % 18446744073709551616 - 9223372036854775808 = ((s.size - p.size : Nat) : Int) := fun _ => by omega
 go_enter Try.func127, Try.ntmps127
 go_wp2
 ·
  have h : p.size ≤ s.size := by assumption
  go_ret
  refine ⟨?_, rfl⟩
  show Ending.returned (Value.bool ((s.extract (s.size - p.size) s.size).toList == p.toList)) = _
  simp [h]
 ·
  have h : ¬ p.size ≤ s.size := by assumption
  go_ret
  refine ⟨?_, rfl⟩
  show Ending.returned (Value.bool false) = _
  simp [h]
theorem suf_any (s p : ByteArray) (v : Bool) (hv : Lib.hasSuffix s.data.toList p.data.toList = v) (hs : s.size ≤ 9223372036854775807) (w : World) : Calls Try.prog 118 #[.string s, .string p] w fun e w' => e = .returned (.bool v) ∧ w' = w := by
 subst hv
 go_enter Try.func118, Try.ntmps118
 go_wp2_with (go_at_call 127; refine (sufL_any _ _ _ hs).mono ?_; rintro e w' ⟨rfl, rfl⟩)
 go_ret
 exact ⟨rfl, rfl⟩
end Go.Proofs.Ytfooefiaenlhmaa
