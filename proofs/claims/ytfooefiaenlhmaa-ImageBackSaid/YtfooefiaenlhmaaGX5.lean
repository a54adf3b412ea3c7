/- Lemmas for the laws of package magnetolaw15: Reading a program from bytes: what is read, and that a body is read as its program. No statement about the program's functions. unit.Valid and fixed.Valid. Products and quotients of units. Whether the units of the types of an instruction fit. The types that an instruction names. -/
import Derived.Test.YtfooefiaenlhmaaGX1
import Derived.Test.YtfooefiaenlhmaaGX2
import Derived.Test.YtfooefiaenlhmaaGX3
import Derived.Test.YtfooefiaenlhmaaGX4
import Derived.StillTailTactics
import Derived.Laws.StructEq
import Derived.Deep.RegionHeld3
namespace Go.Proofs.Ytfooefiaenlhmaa
set_option linter.unusedVariables false
set_option linter.unusedSimpArgs false
open Go.RowKit Go.ChangeShapes Go.WideShapes Go.ChangeAt

/-- The bytes left; none: something was wrong. -/
abbrev Sx := Option (List Int)
/-- The number of some bytes, without sign. -/
def rawB (bs : List Int) : Int := bs.foldl (fun n c => n * 256 + c) 0
theorem rawB_snoc (l : List Int) (x : Int) : rawB (l ++ [x]) = rawB l * 256 + x := by unfold rawB; rw [List.foldl_append]; rfl
theorem rawB_take {bs : List Int} {k : Nat} (hk : k < bs.length) : rawB (bs.take (k + 1)) = rawB (bs.take k) * 256 + bs.getD k 0 := by
  rw [List.take_add_one, List.getElem?_eq_getElem hk]
  simp only [Option.toList]
  rw [rawB_snoc]
  simp [List.getD, List.getElem?_eq_getElem hk]
theorem rawB_bd {bs : List Int} (h : ByteL bs) : ∀ k, 0 ≤ rawB (bs.take k) ∧ rawB (bs.take k) < 256 ^ k := by
  intro k
  induction k with
  | zero => simp [rawB]
  | succ k ih =>
    by_cases hk : k < bs.length
    · rw [rawB_take hk]
      have hx := h _ (getD_mem' hk)
      rw [Int.pow_succ]
      generalize (256 : Int) ^ k = P at *
      omega
    · rw [List.take_of_length_le (by omega)]
      rw [List.take_of_length_le (by omega)] at ih
      rw [Int.pow_succ]
      generalize (256 : Int) ^ k = P at *
      omega
/-- The number of eight bytes. -/
def valB (bs : List Int) : Int := IntKind.i64.wrap (rawB bs)
theorem valB_num8 {n : Int} (h : I64 n) : valB (num8 n) = n := by
  unfold I64 at h
  simp [Lit.wf, IntKind.min, IntKind.max, IntKind.bits, IntKind.signed] at h
  have e : rawB (num8 n) = n % 18446744073709551616 := by
    have e0 : byteAt n 0 = n / 72057594037927936 % 256 := rfl
    have e1 : byteAt n 1 = n / 281474976710656 % 256 := rfl
    have e2 : byteAt n 2 = n / 1099511627776 % 256 := rfl
    have e3 : byteAt n 3 = n / 4294967296 % 256 := rfl
    have e4 : byteAt n 4 = n / 16777216 % 256 := rfl
    have e5 : byteAt n 5 = n / 65536 % 256 := rfl
    have e6 : byteAt n 6 = n / 256 % 256 := rfl
    have e7 : byteAt n 7 = n / 1 % 256 := rfl
    simp only [rawB, num8, e0, e1, e2, e3, e4, e5, e6, e7, List.foldl_cons, List.foldl_nil]
    omega
  unfold valB
  rw [e, IntKind.wrap_i64]
  omega
def pInt : Sx → Int × Sx
  | none => (0, none)
  | some bs => if 8 ≤ bs.length then (valB (bs.take 8), some (bs.drop 8)) else (0, none)
def pCount (size : Nat) (s : Sx) : Nat × Sx :=
  match pInt s with
  | (_, none) => (0, none)
  | (n, some bs) => if 0 ≤ n ∧ n ≤ ((bs.length / size : Nat) : Int) then (n.toNat, some bs) else (0, none)
/-- So often. -/
def pRep {α : Type} (f : Sx → α × Sx) : Nat → Sx → List α × Sx
  | 0, s => ([], s)
  | n + 1, s => ((pRep f n s).1 ++ [(f (pRep f n s).2).1], (f (pRep f n s).2).2)
theorem pRep_cons {α : Type} (f : Sx → α × Sx) (n : Nat) (s : Sx) : pRep f (n + 1) s = ((f s).1 :: (pRep f n (f s).2).1, (pRep f n (f s).2).2) := by
  induction n with
  | zero => rfl
  | succ n ih =>
    rw [pRep, ih]
    rfl
theorem pRep_len {α : Type} (f : Sx → α × Sx) (n : Nat) (s : Sx) : (pRep f n s).1.length = n := by
  induction n with
  | zero => rfl
  | succ n ih => rw [pRep, List.length_append, ih]; rfl
def pList (s : Sx) : List Int × Sx := pRep pInt (pCount 8 s).1 (pCount 8 s).2
/-- The instruction of twelve bytes. -/
def decI (bs : List Int) : Ins := ⟨bs.getD 0 0, bs.getD 1 0, bs.getD 2 0, bs.getD 3 0, valB (bs.drop 4)⟩
def formI (i : Ins) : Bool := formB i.op i.a i.b i.c i.k
def pIns : Sx → Ins × Sx
  | none => (default, none)
  | some bs => if 12 ≤ bs.length then (if formI (decI (bs.take 12)) = true then (decI (bs.take 12), some (bs.drop 12)) else (default, none)) else (default, none)
def fxOf (l : List Int) : Fx := ⟨l.getD 0 0, decide (l.getD 1 0 = 1), l.getD 2 0, l.getD 3 0, l.getD 4 0, l.getD 5 0, l.getD 6 0, l.getD 7 0, l.getD 8 0, l.getD 9 0⟩
def bitOk (l : List Int) : Bool := decide (l.getD 1 0 = 0 ∨ l.getD 1 0 = 1)
def pFx (s : Sx) : Fx × Sx := (fxOf (pRep pInt 10 s).1, if bitOk (pRep pInt 10 s).1 = true then (pRep pInt 10 s).2 else none)
def pCv (s : Sx) : (List Int × List Int) × Sx := (((pList s).1, (pList (pList s).2).1), (pList (pList s).2).2)
def pMp (s : Sx) : (List Int × List Int × List (List Int)) × Sx :=
  (((pList s).1, (pList (pList s).2).1, (pRep pList (pList s).1.length (pList (pList s).2).2).1), (pRep pList (pList s).1.length (pList (pList s).2).2).2)
def pMany {α : Type} (f : Sx → α × Sx) (size : Nat) (s : Sx) : List α × Sx := pRep f (pCount size s).1 (pCount size s).2
def pPrg (s : Sx) : PP × Sx :=
  let (code, s1) := pMany pIns 12 s
  let (types, s2) := pMany pFx 80 s1
  let (curves, s3) := pMany pCv 16 s2
  let (maps, s4) := pMany pMp 16 s3
  let (cells, s5) := pInt s4
  let (inputs, s6) := pList s5
  let (states, s7) := pList s6
  let (outputs, s8) := pList s7
  let (initial, s9) := pList s8
  (⟨code, types, curves, maps, cells, inputs, states, outputs, initial⟩, s9)
/-- A part is read back, whatever follows. -/
def Back {α : Type} (f : Sx → α × Sx) (x : α) (bs : List Int) : Prop := ∀ rest, f (some (bs ++ rest)) = (x, some rest)
theorem back_int {n : Int} (h : I64 n) : Back pInt n (num8 n) := fun rest => by
  have e : (num8 n ++ rest).take 8 = num8 n := by rw [show (8 : Nat) = (num8 n).length from rfl, List.take_left]
  have e2 : (num8 n ++ rest).drop 8 = rest := by rw [show (8 : Nat) = (num8 n).length from rfl, List.drop_left]
  unfold pInt
  simp only
  rw [if_pos (by rw [List.length_append, num8_len]; omega), e, e2, valB_num8 h]
theorem back_rep {α : Type} {f : Sx → α × Sx} {enc : α → List Int} {l : List α} (h : ∀ x ∈ l, Back f x (enc x)) : Back (pRep f l.length) l (l.flatMap enc) := by
  induction l with
  | nil => intro rest; rfl
  | cons x l ih =>
    intro rest
    rw [List.length_cons, pRep_cons, List.flatMap_cons, List.append_assoc, h x (List.mem_cons_self ..)]
    simp only
    rw [ih (fun y hy => h y (List.mem_cons_of_mem _ hy))]
theorem flat_ge {α : Type} {enc : α → List Int} {size : Nat} {l : List α} (h : ∀ x ∈ l, size ≤ (enc x).length) : l.length * size ≤ (l.flatMap enc).length := by
  induction l with
  | nil => simp
  | cons x l ih =>
    have h1 := ih (fun y hy => h y (List.mem_cons_of_mem _ hy))
    have h2 := h x (List.mem_cons_self ..)
    rw [List.length_cons, List.flatMap_cons, List.length_append, Nat.succ_mul]
    omega
theorem back_count {size n : Nat} {bs : List Int} (hs : 0 < size) (hn : n ≤ 9223372036854775807) (h : n * size ≤ bs.length) (rest : List Int) : pCount size (some (num8 n ++ bs ++ rest)) = (n, some (bs ++ rest)) := by
  have hI : I64 (n : Int) := by unfold I64; simp [Lit.wf, IntKind.min, IntKind.max, IntKind.bits, IntKind.signed]; omega
  unfold pCount
  rw [List.append_assoc, back_int hI]
  simp only
  have : n ≤ (bs ++ rest).length / size := by
    rw [Nat.le_div_iff_mul_le hs, List.length_append]
    omega
  rw [if_pos ⟨by omega, by omega⟩, Int.toNat_natCast]
theorem back_many {α : Type} {f : Sx → α × Sx} {enc : α → List Int} {size : Nat} {l : List α} (hs : 0 < size) (hl : l.length ≤ 9223372036854775807) (h : ∀ x ∈ l, Back f x (enc x)) (hz : ∀ x ∈ l, size ≤ (enc x).length) : Back (pMany f size) l (num8 l.length ++ l.flatMap enc) := by
  intro rest
  unfold pMany
  rw [back_count hs hl (flat_ge hz)]
  exact back_rep h rest
def Nums (l : List Int) : Prop := l.length ≤ 9223372036854775807 ∧ ∀ x ∈ l, I64 x
theorem back_list {l : List Int} (h : Nums l) : Back pList l (list8 l) := back_many (f := pInt) (enc := num8) (size := 8) (by omega) h.1 (fun x hx => back_int (h.2 x hx)) (fun x _ => Nat.le_of_eq (num8_len x).symm)
theorem encI_dec {i : Ins} (ho : 0 ≤ i.op ∧ i.op ≤ 255) (ha : 0 ≤ i.a ∧ i.a ≤ 255) (hb : 0 ≤ i.b ∧ i.b ≤ 255) (hc : 0 ≤ i.c ∧ i.c ≤ 255) (hk : I64 i.k) : decI i.by8 = i := by
  obtain ⟨op, a, b, c, k⟩ := i
  simp only at ho ha hb hc hk
  have e : ∀ x : Int, 0 ≤ x ∧ x ≤ 255 → x % 256 = x := fun x h => by omega
  have e2 : valB ((encI op a b c k).drop 4) = k := valB_num8 hk
  unfold decI Ins.by8
  rw [e2]
  simp only [encI, List.cons_append, List.getD_cons_zero, List.getD_cons_succ, e _ ho, e _ ha, e _ hb, e _ hc]
theorem back_ins {i : Ins} (hf : formI i = true) (hk : I64 i.k) : Back pIns i i.by8 := fun rest => by
  have hbd : (0 ≤ i.op ∧ i.op ≤ 255) ∧ (0 ≤ i.a ∧ i.a ≤ 255) ∧ (0 ≤ i.b ∧ i.b ≤ 255) ∧ (0 ≤ i.c ∧ i.c ≤ 255) := by
    unfold formI formB opB regB at hf
    simp only [Bool.and_eq_true, decide_eq_true_eq] at hf
    omega
  have hd := encI_dec hbd.1 hbd.2.1 hbd.2.2.1 hbd.2.2.2 hk
  have e : (i.by8 ++ rest).take 12 = i.by8 := by rw [show (12 : Nat) = i.by8.length from rfl, List.take_left]
  have e2 : (i.by8 ++ rest).drop 12 = rest := by rw [show (12 : Nat) = i.by8.length from rfl, List.drop_left]
  unfold pIns
  simp only
  rw [if_pos (by rw [List.length_append, show i.by8.length = 12 from rfl]; omega), e, e2, hd, if_pos hf]
theorem back_fx {t : Fx} (h : t.ok) : Back pFx t t.by8 := fun rest => by
  obtain ⟨h0, h2, h3, h4, h5, h6, h7, h8, h9⟩ := h
  have hb : I64 (if t.sg then 1 else 0) := by cases t.sg <;> exact (by rfl)
  have hall : ∀ x ∈ t.nums, Back pInt x (num8 x) := fun x hx => back_int (by
    unfold Fx.nums at hx
    simp only [List.mem_cons, List.not_mem_nil, or_false] at hx
    rcases hx with rfl | rfl | rfl | rfl | rfl | rfl | rfl | rfl | rfl | rfl <;> assumption)
  have hr : pRep pInt 10 (some (t.by8 ++ rest)) = (t.nums, some rest) := back_rep hall rest
  unfold pFx
  rw [hr]
  obtain ⟨bits, sg, num, off, den, m, kg, s, a, k⟩ := t
  cases sg <;> simp [fxOf, bitOk, Fx.nums]
theorem back_cv {c : List Int × List Int} (hx : Nums c.1) (hy : Nums c.2) : Back pCv c (curveB8 c) := fun rest => by
  unfold pCv curveB8
  rw [List.append_assoc, back_list hx]
  simp only
  rw [back_list hy]
theorem back_mp {m : List Int × List Int × List (List Int)} (hx : Nums m.1) (hy : Nums m.2.1) (hz : ∀ l ∈ m.2.2, Nums l) (hl : m.2.2.length = m.1.length) : Back pMp m (mapB8 m) := fun rest => by
  unfold pMp mapB8
  rw [List.append_assoc, List.append_assoc, back_list hx]
  simp only
  rw [back_list hy]
  simp only
  rw [← hl, back_rep (f := pList) (enc := list8) (fun l h => back_list (hz l h))]
/-- A program whose body can be read back. -/
structure PP.Ok (p : PP) : Prop where
  code : p.code.length ≤ 9223372036854775807
  codeG : ∀ i ∈ p.code, formI i = true ∧ I64 i.k
  types : p.types.length ≤ 9223372036854775807
  typesG : ∀ t ∈ p.types, t.ok
  curves : p.curves.length ≤ 9223372036854775807
  curvesG : ∀ c ∈ p.curves, Nums c.1 ∧ Nums c.2
  maps : p.maps.length ≤ 9223372036854775807
  mapsG : ∀ m ∈ p.maps, Nums m.1 ∧ Nums m.2.1 ∧ (∀ l ∈ m.2.2, Nums l) ∧ m.2.2.length = m.1.length
  cells : I64 p.cells
  inputs : Nums p.inputs
  states : Nums p.states
  outputs : Nums p.outputs
  initial : Nums p.initial
/-- A body is read as its program. -/
theorem back_prg {p : PP} (h : p.Ok) : Back pPrg p p.body := fun rest => by
  obtain ⟨code, types, curves, maps, cells, inputs, states, outputs, initial⟩ := p
  obtain ⟨h1, g1, h2, g2, h3, g3, h4, g4, h5, h6, h7, h8, h9⟩ := h
  simp only at h1 g1 h2 g2 h3 g3 h4 g4 h5 h6 h7 h8 h9
  unfold pPrg PP.body
  simp only [List.append_assoc]
  rw [← List.append_assoc (num8 (code.length : Int)), back_many (f := pIns) (enc := Ins.by8) (size := 12) (by omega) h1 (fun i hi => back_ins (g1 i hi).1 (g1 i hi).2) (fun i _ => Nat.le_refl 12)]
  simp only
  rw [← List.append_assoc (num8 (types.length : Int)), back_many (f := pFx) (enc := Fx.by8) (size := 80) (by omega) h2 (fun i hi => back_fx (g2 i hi)) (fun i _ => Nat.le_refl 80)]
  simp only
  rw [← List.append_assoc (num8 (curves.length : Int)), back_many (f := pCv) (enc := curveB8) (size := 16) (by omega) h3 (fun i hi => back_cv (g3 i hi).1 (g3 i hi).2) (fun i _ => by unfold curveB8; rw [List.length_append, list8_len, list8_len]; omega)]
  simp only
  rw [← List.append_assoc (num8 (maps.length : Int)), back_many (f := pMp) (enc := mapB8) (size := 16) (by omega) h4 (fun i hi => back_mp (g4 i hi).1 (g4 i hi).2.1 (g4 i hi).2.2.1 (g4 i hi).2.2.2) (fun i _ => by unfold mapB8; rw [List.length_append, List.length_append, list8_len, list8_len]; omega)]
  simp only
  rw [back_int h5]
  simp only
  rw [back_list h6]
  simp only
  rw [back_list h7]
  simp only
  rw [back_list h8]
  simp only
  rw [back_list h9]
/-- A sum tells bytes that differ in one place. -/
theorem sumS_inj {s t c : Int} (hs : 0 ≤ s ∧ s < 4294967296) (ht : 0 ≤ t ∧ t < 4294967296) (h : sumS s c = sumS t c) : s = t := by
  unfold sumS at h
  have e1 := Int.emod_add_mul_ediv (16777619 * s + c) 4294967296
  have e2 := Int.emod_add_mul_ediv (16777619 * t + c) 4294967296
  rw [h] at e1
  generalize (16777619 * t + c) % 4294967296 = r at *
  generalize (16777619 * s + c) / 4294967296 = q1 at *
  generalize (16777619 * t + c) / 4294967296 = q2 at *
  obtain ⟨d, hd⟩ : ∃ d, d = s - t := ⟨_, rfl⟩
  obtain ⟨u, hu⟩ : ∃ u, u = q1 - q2 := ⟨_, rfl⟩
  have h1 : 16777619 * d = 4294967296 * u := by
    rw [hd, hu, Int.mul_sub, Int.mul_sub]
    generalize 16777619 * s = x at *
    generalize 16777619 * t = y at *
    generalize 4294967296 * q1 = z at *
    generalize 4294967296 * q2 = v at *
    omega
  have k : (899433627 * 16777619 : Int) = 1 + 4294967296 * 3513497 := by decide
  have h4 : (1 + 4294967296 * 3513497 : Int) * d = 4294967296 * (899433627 * u) := by
    rw [← k, Int.mul_assoc, h1, ← Int.mul_assoc, Int.mul_comm 899433627, Int.mul_assoc]
  rw [Int.add_mul, Int.one_mul, Int.mul_assoc] at h4
  generalize 3513497 * d = a at *
  generalize 899433627 * u = b at *
  clear h1 e1 e2 h k hu
  omega
end Go.Proofs.Ytfooefiaenlhmaa
namespace Go.Proofs.Ytfooefiaenlhmaa
set_option linter.unusedVariables false
set_option linter.unusedSimpArgs false
open Go.RowKit Go.ChangeShapes Go.WideShapes Go.ChangeAt

theorem run_ix (b k : Nat) (hk : k < 5) (w : World) : (Instr.index 142 (.agg #[.pointer (some ⟨b, 0, none⟩), .pointer (some ⟨b, 1, none⟩), .pointer (some ⟨b, 2, none⟩), .pointer (some ⟨b, 3, none⟩), .pointer (some ⟨b, 4, none⟩)]) (.int .i64 k)).run Try.prog w = .ok (.pointer (some ⟨b, k, none⟩)) w := by
  obtain rfl | rfl | rfl | rfl | rfl : k = 0 ∨ k = 1 ∨ k = 2 ∨ k = 3 ∨ k = 4 := by omega
  all_goals simp [Instr.index, run_underlying Try.underlying142, asIntOf, go_sem]
def in9 (x : Int) : Bool := decide (-9 ≤ x ∧ x ≤ 9)
def unitB (m kg s a k : Int) : Bool := in9 m && (in9 kg && (in9 s && (in9 a && in9 k)))
def fxB (t : Fx) : Bool := decide (t.bits = 8 ∨ t.bits = 16 ∨ t.bits = 32) && (decide (1 ≤ t.num ∧ t.num ≤ 1048576) && (decide (1 ≤ t.den ∧ t.den ≤ 1048576) && (decide (-1073741824 ≤ t.off ∧ t.off ≤ 1073741824) && unitB t.m t.kg t.s t.a t.k)))
theorem in9_bad {x : Int} (h : x < -9 ∨ 9 < x) : in9 x = false := by unfold in9; simp only [decide_eq_false_iff_not]; omega
theorem in9_good {x : Int} (h0 : ¬ x < -9) (h1 : ¬ 9 < x) : in9 x = true := by unfold in9; simp only [decide_eq_true_eq]; omega
set_option maxRecDepth 100000 in
set_option maxHeartbeats 2000000 in
theorem exps_any (b : Nat) (w : World) : Calls Try.prog 113 #[.pointer (some ⟨b, 0, none⟩)] w fun e w' => e = .returned (.agg #[.pointer (some ⟨b, 0, none⟩), .pointer (some ⟨b, 1, none⟩), .pointer (some ⟨b, 2, none⟩), .pointer (some ⟨b, 3, none⟩), .pointer (some ⟨b, 4, none⟩)]) ∧ Below w.heap.size w w' := by
  go_enter Try.func113, Try.ntmps113
  go_wp2
  refine wp_still_tail 15 (by kernel_rfl) (by kernel_rfl) ?_
  intro W hW hWs
  simp only [World.size_alloc] at hWs
  have hw0 : w.heap.size < W.heap.size := by omega
  have d : ∀ j : Nat, W.cell? ⟨w.heap.size, j, none⟩ = (w.alloc (.cells #[.pointer none, .pointer none, .pointer none, .pointer none, .pointer none] 142)).cell? ⟨w.heap.size, j, none⟩ := fun j => hW.cell (p := ⟨w.heap.size, j, none⟩) (by rw [World.size_alloc]; show w.heap.size < _; omega)
  have df : ∀ j : Nat, W.frozen? ⟨w.heap.size, j, none⟩ = (w.alloc (.cells #[.pointer none, .pointer none, .pointer none, .pointer none, .pointer none] 142)).frozen? ⟨w.heap.size, j, none⟩ := fun j => hW.frozen (p := ⟨w.heap.size, j, none⟩) (by rw [World.size_alloc]; show w.heap.size < _; omega)
  simp only [List.take_succ_cons, List.take_zero, List.drop_succ_cons, List.drop_zero]
  repeat (first | (refine wpStill_step (fun K hK => ?_); go_simp; refine hK _ ?_; clear hK K))
  refine wpStill_nil ?_
  go_wp2
  refine bodyPost_ret (by simp [results, Try.results113, go_sem, *]; try rfl) rfl ?_
  exact ⟨rfl, by (repeat' (first | (with_reducible exact Below.refl _ _) | (with_reducible assumption) | (with_reducible refine below_alloc ?_ _) | (with_reducible refine Below.drew ?_) | (with_reducible refine below_drewN ?_ _) | (with_reducible refine below_step (by assumption) ?_) | (with_reducible refine below_later ?_ _) | (with_reducible refine Below.setCell ?_ ?_ _) | go_size))⟩
set_option maxRecDepth 100000 in
set_option maxHeartbeats 2000000 in
theorem uvalid_any (m kg s a k : Int) (w : World) : Calls Try.prog 98 #[.agg #[.int .i64 m, .int .i64 kg, .int .i64 s, .int .i64 a, .int .i64 k]] w fun e w' => e = .returned (.bool (unitB m kg s a k)) ∧ Below w.heap.size w w' := by
  have HF : Hid (unitB m kg s a k = (in9 m && (in9 kg && (in9 s && (in9 a && in9 k))))) := Lib.hid rfl
  generalize unitB m kg s a k = R at *
  go_enter Try.func98, Try.ntmps98
  go_wp2_with (go_at_call 113; refine (exps_any _ _).mono ?_; rintro _ w1 ⟨rfl, hb1⟩; obtain ⟨hb1c, hb1f⟩ := bcell hb1; have hb1s := hb1.size; (try simp only [World.size_alloc] at hb1s))
  have hx0 : w.heap.size < w1.heap.size := by omega
  have hB : Below w.heap.size w w1 := by (repeat' (first | (with_reducible exact Below.refl _ _) | (with_reducible assumption) | (with_reducible refine below_alloc ?_ _) | (with_reducible refine Below.drew ?_) | (with_reducible refine below_drewN ?_ _) | (with_reducible refine below_step (by assumption) ?_) | (with_reducible refine below_later ?_ _) | (with_reducible refine Below.setCell ?_ ?_ _) | go_size))
  have d0 : w1.cell? ⟨w.heap.size, 0, none⟩ = some (.int .i64 m) := by rw [hb1c w.heap.size 0 (by simp only [World.size_alloc]; omega)]; first | go_keep | (simp; done)
  have d1 : w1.cell? ⟨w.heap.size, 1, none⟩ = some (.int .i64 kg) := by rw [hb1c w.heap.size 1 (by simp only [World.size_alloc]; omega)]; first | go_keep | (simp; done)
  have d2 : w1.cell? ⟨w.heap.size, 2, none⟩ = some (.int .i64 s) := by rw [hb1c w.heap.size 2 (by simp only [World.size_alloc]; omega)]; first | go_keep | (simp; done)
  have d3 : w1.cell? ⟨w.heap.size, 3, none⟩ = some (.int .i64 a) := by rw [hb1c w.heap.size 3 (by simp only [World.size_alloc]; omega)]; first | go_keep | (simp; done)
  have d4 : w1.cell? ⟨w.heap.size, 4, none⟩ = some (.int .i64 k) := by rw [hb1c w.heap.size 4 (by simp only [World.size_alloc]; omega)]; first | go_keep | (simp; done)
  have ix0 : ∀ W, (Instr.index 142 (.agg #[.pointer (some ⟨w.heap.size, 0, none⟩), .pointer (some ⟨w.heap.size, 1, none⟩), .pointer (some ⟨w.heap.size, 2, none⟩), .pointer (some ⟨w.heap.size, 3, none⟩), .pointer (some ⟨w.heap.size, 4, none⟩)]) (.int .i64 0)).run Try.prog W = .ok (.pointer (some ⟨w.heap.size, 0, none⟩)) W := fun W => run_ix w.heap.size 0 (by omega) W
  have ix1 : ∀ W, (Instr.index 142 (.agg #[.pointer (some ⟨w.heap.size, 0, none⟩), .pointer (some ⟨w.heap.size, 1, none⟩), .pointer (some ⟨w.heap.size, 2, none⟩), .pointer (some ⟨w.heap.size, 3, none⟩), .pointer (some ⟨w.heap.size, 4, none⟩)]) (.int .i64 1)).run Try.prog W = .ok (.pointer (some ⟨w.heap.size, 1, none⟩)) W := fun W => run_ix w.heap.size 1 (by omega) W
  have ix2 : ∀ W, (Instr.index 142 (.agg #[.pointer (some ⟨w.heap.size, 0, none⟩), .pointer (some ⟨w.heap.size, 1, none⟩), .pointer (some ⟨w.heap.size, 2, none⟩), .pointer (some ⟨w.heap.size, 3, none⟩), .pointer (some ⟨w.heap.size, 4, none⟩)]) (.int .i64 2)).run Try.prog W = .ok (.pointer (some ⟨w.heap.size, 2, none⟩)) W := fun W => run_ix w.heap.size 2 (by omega) W
  have ix3 : ∀ W, (Instr.index 142 (.agg #[.pointer (some ⟨w.heap.size, 0, none⟩), .pointer (some ⟨w.heap.size, 1, none⟩), .pointer (some ⟨w.heap.size, 2, none⟩), .pointer (some ⟨w.heap.size, 3, none⟩), .pointer (some ⟨w.heap.size, 4, none⟩)]) (.int .i64 3)).run Try.prog W = .ok (.pointer (some ⟨w.heap.size, 3, none⟩)) W := fun W => run_ix w.heap.size 3 (by omega) W
  have ix4 : ∀ W, (Instr.index 142 (.agg #[.pointer (some ⟨w.heap.size, 0, none⟩), .pointer (some ⟨w.heap.size, 1, none⟩), .pointer (some ⟨w.heap.size, 2, none⟩), .pointer (some ⟨w.heap.size, 3, none⟩), .pointer (some ⟨w.heap.size, 4, none⟩)]) (.int .i64 4)).run Try.prog W = .ok (.pointer (some ⟨w.heap.size, 4, none⟩)) W := fun W => run_ix w.heap.size 4 (by omega) W
  clear hb1c hb1f hb1
  go_loopg [6] 5 (fun kx s6 wr => ∃ (j : Nat) (e : Later w1), s6 = .int .i64 j ∧ j ≤ 5 ∧ 5 - j ≤ kx ∧ wr = e.w ∧ Hid ((1 ≤ j → in9 m = true) ∧ (2 ≤ j → in9 kg = true) ∧ (3 ≤ j → in9 s = true) ∧ (4 ≤ j → in9 a = true) ∧ (5 ≤ j → in9 k = true)))
  case atStart => exact ⟨0, ⟨w1, Below.refl _ _⟩, rfl, by omega, by omega, rfl, Lib.hid ⟨fun h => absurd h (by omega), fun h => absurd h (by omega), fun h => absurd h (by omega), fun h => absurd h (by omega), fun h => absurd h (by omega)⟩⟩
  case round =>
    obtain ⟨j, e, rfl, hj, hjx, rfl, HG⟩ := hrel
    have hes := e.h.size
    by_cases hj5 : j < 5
    · obtain rfl | rfl | rfl | rfl | rfl : j = 0 ∨ j = 1 ∨ j = 2 ∨ j = 3 ∨ j = 4 := by omega
      · by_cases n0 : m < -9
        · have HB : Hid (R = false) := Lib.hid (by rw [HF.out, in9_bad (x := m) (.inl n0)]; simp)
          go_wp2
          go_ret
          exact ⟨ret_bool HB.out.symm, hB.trans (e.h.mono (by omega))⟩
        · by_cases n1 : 9 < m
          · have HB : Hid (R = false) := Lib.hid (by rw [HF.out, in9_bad (x := m) (.inr n1)]; simp)
            go_wp2
            go_ret
            exact ⟨ret_bool HB.out.symm, hB.trans (e.h.mono (by omega))⟩
          · have HG0 := Lib.hid (in9_good n0 n1)
            go_wp2
            go_roundg (5 - (0 + 1))
            case measure => omega
            case rel => exact ⟨0 + 1, e, by go_num, by omega, by omega, rfl, Lib.hid ⟨fun _ => HG0.out, fun h => absurd h (by omega), fun h => absurd h (by omega), fun h => absurd h (by omega), fun h => absurd h (by omega)⟩⟩
      · by_cases n0 : kg < -9
        · have HB : Hid (R = false) := Lib.hid (by rw [HF.out, in9_bad (x := kg) (.inl n0)]; simp)
          go_wp2
          go_ret
          exact ⟨ret_bool HB.out.symm, hB.trans (e.h.mono (by omega))⟩
        · by_cases n1 : 9 < kg
          · have HB : Hid (R = false) := Lib.hid (by rw [HF.out, in9_bad (x := kg) (.inr n1)]; simp)
            go_wp2
            go_ret
            exact ⟨ret_bool HB.out.symm, hB.trans (e.h.mono (by omega))⟩
          · have HG1 := Lib.hid (in9_good n0 n1)
            go_wp2
            go_roundg (5 - (1 + 1))
            case measure => omega
            case rel => exact ⟨1 + 1, e, by go_num, by omega, by omega, rfl, Lib.hid ⟨fun _ => HG.out.1 (by omega), fun _ => HG1.out, fun h => absurd h (by omega), fun h => absurd h (by omega), fun h => absurd h (by omega)⟩⟩
      · by_cases n0 : s < -9
        · have HB : Hid (R = false) := Lib.hid (by rw [HF.out, in9_bad (x := s) (.inl n0)]; simp)
          go_wp2
          go_ret
          exact ⟨ret_bool HB.out.symm, hB.trans (e.h.mono (by omega))⟩
        · by_cases n1 : 9 < s
          · have HB : Hid (R = false) := Lib.hid (by rw [HF.out, in9_bad (x := s) (.inr n1)]; simp)
            go_wp2
            go_ret
            exact ⟨ret_bool HB.out.symm, hB.trans (e.h.mono (by omega))⟩
          · have HG2 := Lib.hid (in9_good n0 n1)
            go_wp2
            go_roundg (5 - (2 + 1))
            case measure => omega
            case rel => exact ⟨2 + 1, e, by go_num, by omega, by omega, rfl, Lib.hid ⟨fun _ => HG.out.1 (by omega), fun _ => HG.out.2.1 (by omega), fun _ => HG2.out, fun h => absurd h (by omega), fun h => absurd h (by omega)⟩⟩
      · by_cases n0 : a < -9
        · have HB : Hid (R = false) := Lib.hid (by rw [HF.out, in9_bad (x := a) (.inl n0)]; simp)
          go_wp2
          go_ret
          exact ⟨ret_bool HB.out.symm, hB.trans (e.h.mono (by omega))⟩
        · by_cases n1 : 9 < a
          · have HB : Hid (R = false) := Lib.hid (by rw [HF.out, in9_bad (x := a) (.inr n1)]; simp)
            go_wp2
            go_ret
            exact ⟨ret_bool HB.out.symm, hB.trans (e.h.mono (by omega))⟩
          · have HG3 := Lib.hid (in9_good n0 n1)
            go_wp2
            go_roundg (5 - (3 + 1))
            case measure => omega
            case rel => exact ⟨3 + 1, e, by go_num, by omega, by omega, rfl, Lib.hid ⟨fun _ => HG.out.1 (by omega), fun _ => HG.out.2.1 (by omega), fun _ => HG.out.2.2.1 (by omega), fun _ => HG3.out, fun h => absurd h (by omega)⟩⟩
      · by_cases n0 : k < -9
        · have HB : Hid (R = false) := Lib.hid (by rw [HF.out, in9_bad (x := k) (.inl n0)]; simp)
          go_wp2
          go_ret
          exact ⟨ret_bool HB.out.symm, hB.trans (e.h.mono (by omega))⟩
        · by_cases n1 : 9 < k
          · have HB : Hid (R = false) := Lib.hid (by rw [HF.out, in9_bad (x := k) (.inr n1)]; simp)
            go_wp2
            go_ret
            exact ⟨ret_bool HB.out.symm, hB.trans (e.h.mono (by omega))⟩
          · have HG4 := Lib.hid (in9_good n0 n1)
            go_wp2
            go_roundg (5 - (4 + 1))
            case measure => omega
            case rel => exact ⟨4 + 1, e, by go_num, by omega, by omega, rfl, Lib.hid ⟨fun _ => HG.out.1 (by omega), fun _ => HG.out.2.1 (by omega), fun _ => HG.out.2.2.1 (by omega), fun _ => HG.out.2.2.2.1 (by omega), fun _ => HG4.out⟩⟩
    · obtain rfl : j = 5 := by omega
      obtain ⟨G1, G2, G3, G4, G5⟩ := HG.out
      have HT : Hid (R = true) := Lib.hid (by rw [HF.out, G1 (by omega), G2 (by omega), G3 (by omega), G4 (by omega), G5 (by omega)]; rfl)
      go_wp2
      go_ret
      exact ⟨ret_bool HT.out.symm, hB.trans (e.h.mono (by omega))⟩
theorem uvalid_v {m kg s a k : Int} {v : Bool} (h : unitB m kg s a k = v) (w : World) : Calls Try.prog 98 #[.agg #[.int .i64 m, .int .i64 kg, .int .i64 s, .int .i64 a, .int .i64 k]] w fun e w' => e = .returned (.bool v) ∧ Below w.heap.size w w' := by
  subst h
  exact uvalid_any m kg s a k w
set_option maxRecDepth 100000 in
set_option maxHeartbeats 4000000 in
theorem fvalid_any (t : Fx) (w : World) : Calls Try.prog 60 #[.agg #[.int .i64 t.bits, .bool t.sg, .int .i64 t.num, .int .i64 t.off, .int .i64 t.den, .int .i64 t.m, .int .i64 t.kg, .int .i64 t.s, .int .i64 t.a, .int .i64 t.k]] w fun e w' => e = .returned (.bool (fxB t)) ∧ Below w.heap.size w w' := by
  obtain ⟨bits, sg, num, off, den, m, kg, s, a, k⟩ := t
  have HF : Hid (fxB ⟨bits, sg, num, off, den, m, kg, s, a, k⟩ = (decide (bits = 8 ∨ bits = 16 ∨ bits = 32) && (decide (1 ≤ num ∧ num ≤ 1048576) && (decide (1 ≤ den ∧ den ≤ 1048576) && (decide (-1073741824 ≤ off ∧ off ≤ 1073741824) && unitB m kg s a k))))) := Lib.hid rfl
  generalize fxB ⟨bits, sg, num, off, den, m, kg, s, a, k⟩ = R at *
  simp only
  cases hu : unitB m kg s a k
  · have HU := Lib.hid hu
    go_enter Try.func60, Try.ntmps60
    go_wp2_with (first | (go_at_call 98; refine (uvalid_v HU.out _).mono ?_; rintro _ w1 ⟨rfl, hb1⟩))
    all_goals go_ret
    all_goals exact ⟨by rw [HF.out, HU.out]; first | rfl | (simp [*]; done) | (simp [*]; omega), by (repeat' (first | (with_reducible exact Below.refl _ _) | (with_reducible assumption) | (with_reducible refine below_alloc ?_ _) | (with_reducible refine Below.drew ?_) | (with_reducible refine below_drewN ?_ _) | (with_reducible refine below_step (by assumption) ?_) | (with_reducible refine below_later ?_ _) | (with_reducible refine Below.setCell ?_ ?_ _) | go_size))⟩
  · have HU := Lib.hid hu
    go_enter Try.func60, Try.ntmps60
    go_wp2_with (first | (go_at_call 98; refine (uvalid_v HU.out _).mono ?_; rintro _ w1 ⟨rfl, hb1⟩))
    all_goals go_ret
    all_goals exact ⟨by rw [HF.out, HU.out]; first | rfl | (simp [*]; done) | (simp [*]; omega), by (repeat' (first | (with_reducible exact Below.refl _ _) | (with_reducible assumption) | (with_reducible refine below_alloc ?_ _) | (with_reducible refine Below.drew ?_) | (with_reducible refine below_drewN ?_ _) | (with_reducible refine below_step (by assumption) ?_) | (with_reducible refine below_later ?_ _) | (with_reducible refine Below.setCell ?_ ?_ _) | go_size))⟩
end Go.Proofs.Ytfooefiaenlhmaa
namespace Go.Proofs.Ytfooefiaenlhmaa
set_option linter.unusedVariables false
set_option linter.unusedSimpArgs false
open Go.RowKit Go.ChangeShapes Go.WideShapes Go.ChangeAt

/-- The product of two units (g = 1), or the quotient (g = -1): 0 if there is one. -/
def combE (g m kg s a k m2 kg2 s2 a2 k2 : Int) : Int := if unitB m kg s a k && unitB m2 kg2 s2 a2 k2 then (if unitB (m + g * m2) (kg + g * kg2) (s + g * s2) (a + g * a2) (k + g * k2) then 0 else 2) else 1
def combV (g x y e : Int) : Int := if e = 0 then x + g * y else 0
def AtL (W : World) (b : Nat) (l : List Int) : Prop := ∀ i v, l[i]? = some v → W.cell? ⟨b, i, none⟩ = some (.int .i64 v) ∧ W.frozen? ⟨b, i, none⟩ = false
theorem AtL.set {W : World} {b : Nat} {l : List Int} (h : AtL W b l) {j : Nat} (hj : j < l.length) (v : Int) : AtL (W.setCell ⟨b, j, none⟩ (.int .i64 v)) b (l.set j v) := by
  intro i u hi
  rw [World.frozen?_setCell]
  rw [List.getElem?_set] at hi
  by_cases e : j = i
  · subst e
    rw [if_pos rfl, if_pos hj] at hi
    obtain ⟨h1, h2⟩ := h j _ (List.getElem?_eq_getElem hj)
    refine ⟨?_, h2⟩
    rw [World.cell?_setCell_same' _ _ _ (by rw [h1]; rfl)]
    simpa using hi
  · rw [if_neg e] at hi
    obtain ⟨h1, h2⟩ := h i _ hi
    refine ⟨?_, h2⟩
    rw [World.cell?_setCell_other (h := fun h => e (by cases h; rfl))]
    exact h1
theorem in9_bd {x : Int} (h : in9 x = true) : -9 ≤ x ∧ x ≤ 9 := by unfold in9 at h; simpa using h
theorem unitB_bd {m kg s a k : Int} (h : unitB m kg s a k = true) : (-9 ≤ m ∧ m ≤ 9) ∧ (-9 ≤ kg ∧ kg ≤ 9) ∧ (-9 ≤ s ∧ s ≤ 9) ∧ (-9 ≤ a ∧ a ≤ 9) ∧ (-9 ≤ k ∧ k ≤ 9) := by
  unfold unitB at h
  simp only [Bool.and_eq_true] at h
  obtain ⟨h0, h1, h2, h3, h4⟩ := h
  exact ⟨in9_bd h0, in9_bd h1, in9_bd h2, in9_bd h3, in9_bd h4⟩
theorem KeepB.setC {B Bo : Nat} (W : World) (j : Nat) (v : Value) : KeepB B Bo W (W.setCell ⟨Bo, j, none⟩ v) :=
  ⟨(Below.refl 0 W).setCell (p := ⟨Bo, j, none⟩) (Nat.zero_le _) v, fun q _ hn => Below.heap_setCell _ _ _ _ hn⟩
theorem KeepB.frozen {B Bo q o : Nat} {W W' : World} (h : KeepB B Bo W W') (hq : q < B) (hn : q ≠ Bo) : W'.frozen? ⟨q, o, none⟩ = W.frozen? ⟨q, o, none⟩ :=
  World.frozen?_of_block (a := ⟨q, o, none⟩) (h.block q hq hn)
set_option maxRecDepth 100000 in
set_option maxHeartbeats 4000000 in
theorem comb_any (g m kg s a k m2 kg2 s2 a2 k2 : Int) (hg : g = 1 ∨ g = -1) (w : World) : Calls Try.prog 128 #[.agg #[.int .i64 m, .int .i64 kg, .int .i64 s, .int .i64 a, .int .i64 k], .agg #[.int .i64 m2, .int .i64 kg2, .int .i64 s2, .int .i64 a2, .int .i64 k2], .int .i64 g] w fun e w' => e = .returned (.tuple #[.agg #[.int .i64 (combV g m m2 (combE g m kg s a k m2 kg2 s2 a2 k2)), .int .i64 (combV g kg kg2 (combE g m kg s a k m2 kg2 s2 a2 k2)), .int .i64 (combV g s s2 (combE g m kg s a k m2 kg2 s2 a2 k2)), .int .i64 (combV g a a2 (combE g m kg s a k m2 kg2 s2 a2 k2)), .int .i64 (combV g k k2 (combE g m kg s a k m2 kg2 s2 a2 k2))], .int .i64 (combE g m kg s a k m2 kg2 s2 a2 k2)]) ∧ Below w.heap.size w w' := by
  have HE : Hid (combE g m kg s a k m2 kg2 s2 a2 k2 = if unitB m kg s a k && unitB m2 kg2 s2 a2 k2 then (if unitB (m + g * m2) (kg + g * kg2) (s + g * s2) (a + g * a2) (k + g * k2) then 0 else 2) else 1) := Lib.hid rfl
  generalize combE g m kg s a k m2 kg2 s2 a2 k2 = E at *
  cases hu : unitB m kg s a k
  · have HU := Lib.hid hu
    obtain rfl : E = 1 := by rw [HE.out, HU.out]; rfl
    clear HE
    go_enter Try.func128, Try.ntmps128
    go_wp2_with (first | (go_at_call 98; refine (uvalid_v HU.out _).mono ?_; rintro _ w1 ⟨rfl, hb1⟩; obtain ⟨hb1c, hb1f⟩ := bcell hb1; have hb1s := hb1.size; (try simp only [World.size_alloc] at hb1s)))
    have hx2 : w.heap.size + 1 + 1 < w1.heap.size := by omega
    refine bodyPost_ret (by simp [results, Try.results128, go_sem, *]; try rfl) rfl ?_
    exact ⟨rfl, by (repeat' (first | (with_reducible exact Below.refl _ _) | (with_reducible assumption) | (with_reducible refine below_alloc ?_ _) | (with_reducible refine Below.drew ?_) | (with_reducible refine below_drewN ?_ _) | (with_reducible refine below_step (by assumption) ?_) | (with_reducible refine below_later ?_ _) | (with_reducible refine Below.setCell ?_ ?_ _) | go_size))⟩
  · have HU := Lib.hid hu
    cases hu2 : unitB m2 kg2 s2 a2 k2
    · have HU2 := Lib.hid hu2
      obtain rfl : E = 1 := by rw [HE.out, HU.out, HU2.out]; rfl
      clear HE
      have tk0 : True := trivial
      go_enter Try.func128, Try.ntmps128
      go_wp2_with (first | (have _t := tk0; go_at_call 98; refine (uvalid_v HU.out _).mono ?_; rintro _ w1 ⟨rfl, hb1⟩; obtain ⟨hb1c, hb1f⟩ := bcell hb1; have hb1s := hb1.size; (try simp only [World.size_alloc] at hb1s); have hx1 : w.heap.size + 1 < w1.heap.size := (by omega); have hx2 : w.heap.size + 1 + 1 < w1.heap.size := (by omega); have hx0 : w.heap.size < w1.heap.size := (by omega); clear tk0 _t) | (go_at_call 98; refine (uvalid_v HU2.out _).mono ?_; rintro _ w2 ⟨rfl, hb2⟩; obtain ⟨hb2c, hb2f⟩ := bcell hb2; have hb2s := hb2.size; have hy0 : w.heap.size < w2.heap.size := (by omega); have hy1 : w.heap.size + 1 < w2.heap.size := (by omega); have hy2 : w.heap.size + 1 + 1 < w2.heap.size := (by omega)))
      refine bodyPost_ret (by simp [results, Try.results128, go_sem, *]; try rfl) rfl ?_
      exact ⟨rfl, by (repeat' (first | (with_reducible exact Below.refl _ _) | (with_reducible assumption) | (with_reducible refine below_alloc ?_ _) | (with_reducible refine Below.drew ?_) | (with_reducible refine below_drewN ?_ _) | (with_reducible refine below_step (by assumption) ?_) | (with_reducible refine below_later ?_ _) | (with_reducible refine Below.setCell ?_ ?_ _) | go_size))⟩
    · have HU2 := Lib.hid hu2
      have hbd := unitB_bd hu
      have hbd2 := unitB_bd hu2
      have HE2 : Hid (E = if unitB (m + g * m2) (kg + g * kg2) (s + g * s2) (a + g * a2) (k + g * k2) then 0 else 2) := Lib.hid (by rw [HE.out, HU.out, HU2.out]; rfl)
      clear HE
      have tk0 : True := trivial
      have tk1 : True := trivial
      go_enter Try.func128, Try.ntmps128
      go_wp2_with (first | (have _t := tk0; go_at_call 98; refine (uvalid_v HU.out _).mono ?_; rintro _ w1 ⟨rfl, hb1⟩; obtain ⟨hb1c, hb1f⟩ := bcell hb1; have hb1s := hb1.size; (try simp only [World.size_alloc] at hb1s); have hx1 : w.heap.size + 1 < w1.heap.size := (by omega); have hx2 : w.heap.size + 1 + 1 < w1.heap.size := (by omega); have hx0 : w.heap.size < w1.heap.size := (by omega); clear tk0 _t) | (go_at_call 98; refine (uvalid_v HU2.out _).mono ?_; rintro _ w2 ⟨rfl, hb2⟩; obtain ⟨hb2c, hb2f⟩ := bcell hb2; have hb2s := hb2.size; have hy0 : w.heap.size < w2.heap.size := (by omega); have hy1 : w.heap.size + 1 < w2.heap.size := (by omega); have hy2 : w.heap.size + 1 + 1 < w2.heap.size := (by omega)) | (have _t := tk1; go_at_call 113; refine (exps_any _ _).mono ?_; rintro _ w3 ⟨rfl, hb3⟩; obtain ⟨hb3c, hb3f⟩ := bcell hb3; have hb3s := hb3.size; clear tk1 _t) | (go_at_call 113; refine (exps_any _ _).mono ?_; rintro _ w4 ⟨rfl, hb4⟩; obtain ⟨hb4c, hb4f⟩ := bcell hb4; have hb4s := hb4.size))
      have hz0 : w.heap.size < w3.heap.size := by omega
      have hz1 : w.heap.size + 1 < w3.heap.size := by omega
      have hz2 : w.heap.size + 1 + 1 < w3.heap.size := by omega
      have ha0 : w.heap.size < w4.heap.size := by omega
      have ha1 : w.heap.size + 1 < w4.heap.size := by omega
      have ha2 : w.heap.size + 1 + 1 < w4.heap.size := by omega
      have hB5 : Below w.heap.size w ((w4.alloc (.cells #[.pointer (some ⟨w.heap.size, 0, none⟩), .pointer (some ⟨w.heap.size, 1, none⟩), .pointer (some ⟨w.heap.size, 2, none⟩), .pointer (some ⟨w.heap.size, 3, none⟩), .pointer (some ⟨w.heap.size, 4, none⟩)] 142)).alloc (.cells #[.pointer (some ⟨w.heap.size + 1, 0, none⟩), .pointer (some ⟨w.heap.size + 1, 1, none⟩), .pointer (some ⟨w.heap.size + 1, 2, none⟩), .pointer (some ⟨w.heap.size + 1, 3, none⟩), .pointer (some ⟨w.heap.size + 1, 4, none⟩)] 142)) := by (repeat' (first | (with_reducible exact Below.refl _ _) | (with_reducible assumption) | (with_reducible refine below_alloc ?_ _) | (with_reducible refine Below.drew ?_) | (with_reducible refine below_drewN ?_ _) | (with_reducible refine below_step (by assumption) ?_) | (with_reducible refine below_later ?_ _) | (with_reducible refine Below.setCell ?_ ?_ _) | go_size))
      have hz5 : ((w4.alloc (.cells #[.pointer (some ⟨w.heap.size, 0, none⟩), .pointer (some ⟨w.heap.size, 1, none⟩), .pointer (some ⟨w.heap.size, 2, none⟩), .pointer (some ⟨w.heap.size, 3, none⟩), .pointer (some ⟨w.heap.size, 4, none⟩)] 142)).alloc (.cells #[.pointer (some ⟨w.heap.size + 1, 0, none⟩), .pointer (some ⟨w.heap.size + 1, 1, none⟩), .pointer (some ⟨w.heap.size + 1, 2, none⟩), .pointer (some ⟨w.heap.size + 1, 3, none⟩), .pointer (some ⟨w.heap.size + 1, 4, none⟩)] 142)).heap.size = w4.heap.size + 2 := by simp
      have hAt : Hid (AtL ((w4.alloc (.cells #[.pointer (some ⟨w.heap.size, 0, none⟩), .pointer (some ⟨w.heap.size, 1, none⟩), .pointer (some ⟨w.heap.size, 2, none⟩), .pointer (some ⟨w.heap.size, 3, none⟩), .pointer (some ⟨w.heap.size, 4, none⟩)] 142)).alloc (.cells #[.pointer (some ⟨w.heap.size + 1, 0, none⟩), .pointer (some ⟨w.heap.size + 1, 1, none⟩), .pointer (some ⟨w.heap.size + 1, 2, none⟩), .pointer (some ⟨w.heap.size + 1, 3, none⟩), .pointer (some ⟨w.heap.size + 1, 4, none⟩)] 142)) w.heap.size [m, kg, s, a, k]) := Lib.hid (fun i v hi => by
        have h5 : ((w4.alloc (.cells #[.pointer (some ⟨w.heap.size, 0, none⟩), .pointer (some ⟨w.heap.size, 1, none⟩), .pointer (some ⟨w.heap.size, 2, none⟩), .pointer (some ⟨w.heap.size, 3, none⟩), .pointer (some ⟨w.heap.size, 4, none⟩)] 142)).alloc (.cells #[.pointer (some ⟨w.heap.size + 1, 0, none⟩), .pointer (some ⟨w.heap.size + 1, 1, none⟩), .pointer (some ⟨w.heap.size + 1, 2, none⟩), .pointer (some ⟨w.heap.size + 1, 3, none⟩), .pointer (some ⟨w.heap.size + 1, 4, none⟩)] 142)).cell? ⟨w.heap.size, i, none⟩ = w4.cell? ⟨w.heap.size, i, none⟩ := (((Below.refl w4.heap.size w4).alloc (Nat.le_refl _) _).alloc (by simp) _).cell (p := ⟨w.heap.size, i, none⟩) ha0
        have f5 : ((w4.alloc (.cells #[.pointer (some ⟨w.heap.size, 0, none⟩), .pointer (some ⟨w.heap.size, 1, none⟩), .pointer (some ⟨w.heap.size, 2, none⟩), .pointer (some ⟨w.heap.size, 3, none⟩), .pointer (some ⟨w.heap.size, 4, none⟩)] 142)).alloc (.cells #[.pointer (some ⟨w.heap.size + 1, 0, none⟩), .pointer (some ⟨w.heap.size + 1, 1, none⟩), .pointer (some ⟨w.heap.size + 1, 2, none⟩), .pointer (some ⟨w.heap.size + 1, 3, none⟩), .pointer (some ⟨w.heap.size + 1, 4, none⟩)] 142)).frozen? ⟨w.heap.size, i, none⟩ = w4.frozen? ⟨w.heap.size, i, none⟩ := (((Below.refl w4.heap.size w4).alloc (Nat.le_refl _) _).alloc (by simp) _).frozen (p := ⟨w.heap.size, i, none⟩) ha0
        rw [h5, f5, hb4c _ _ hz0, hb4f _ _ hz0, hb3c _ _ hy0, hb3f _ _ hy0, hb2c _ _ hx0, hb2f _ _ hx0, hb1c _ _ (by simp only [World.size_alloc]; omega), hb1f _ _ (by simp only [World.size_alloc]; omega)]
        match i, hi with
        | 0, hi | 1, hi | 2, hi | 3, hi | 4, hi => simp at hi; subst hi; exact ⟨by first | go_keep | (simp [go_sem]; done), by first | go_keep | (simp [go_sem]; done) | (simp [World.frozen?]; done)⟩
        | i + 5, hi => simp at hi)
      have b0 : ((w4.alloc (.cells #[.pointer (some ⟨w.heap.size, 0, none⟩), .pointer (some ⟨w.heap.size, 1, none⟩), .pointer (some ⟨w.heap.size, 2, none⟩), .pointer (some ⟨w.heap.size, 3, none⟩), .pointer (some ⟨w.heap.size, 4, none⟩)] 142)).alloc (.cells #[.pointer (some ⟨w.heap.size + 1, 0, none⟩), .pointer (some ⟨w.heap.size + 1, 1, none⟩), .pointer (some ⟨w.heap.size + 1, 2, none⟩), .pointer (some ⟨w.heap.size + 1, 3, none⟩), .pointer (some ⟨w.heap.size + 1, 4, none⟩)] 142)).cell? ⟨w.heap.size + 1, 0, none⟩ = some (.int .i64 m2) := by
        rw [(((Below.refl w4.heap.size w4).alloc (Nat.le_refl _) _).alloc (by simp) _).cell (p := ⟨w.heap.size + 1, 0, none⟩) ha1, hb4c _ _ hz1, hb3c _ _ hy1, hb2c _ _ hx1, hb1c _ _ (by simp only [World.size_alloc]; omega)]
        first | go_keep | simp
      have b1 : ((w4.alloc (.cells #[.pointer (some ⟨w.heap.size, 0, none⟩), .pointer (some ⟨w.heap.size, 1, none⟩), .pointer (some ⟨w.heap.size, 2, none⟩), .pointer (some ⟨w.heap.size, 3, none⟩), .pointer (some ⟨w.heap.size, 4, none⟩)] 142)).alloc (.cells #[.pointer (some ⟨w.heap.size + 1, 0, none⟩), .pointer (some ⟨w.heap.size + 1, 1, none⟩), .pointer (some ⟨w.heap.size + 1, 2, none⟩), .pointer (some ⟨w.heap.size + 1, 3, none⟩), .pointer (some ⟨w.heap.size + 1, 4, none⟩)] 142)).cell? ⟨w.heap.size + 1, 1, none⟩ = some (.int .i64 kg2) := by
        rw [(((Below.refl w4.heap.size w4).alloc (Nat.le_refl _) _).alloc (by simp) _).cell (p := ⟨w.heap.size + 1, 1, none⟩) ha1, hb4c _ _ hz1, hb3c _ _ hy1, hb2c _ _ hx1, hb1c _ _ (by simp only [World.size_alloc]; omega)]
        first | go_keep | simp
      have b2 : ((w4.alloc (.cells #[.pointer (some ⟨w.heap.size, 0, none⟩), .pointer (some ⟨w.heap.size, 1, none⟩), .pointer (some ⟨w.heap.size, 2, none⟩), .pointer (some ⟨w.heap.size, 3, none⟩), .pointer (some ⟨w.heap.size, 4, none⟩)] 142)).alloc (.cells #[.pointer (some ⟨w.heap.size + 1, 0, none⟩), .pointer (some ⟨w.heap.size + 1, 1, none⟩), .pointer (some ⟨w.heap.size + 1, 2, none⟩), .pointer (some ⟨w.heap.size + 1, 3, none⟩), .pointer (some ⟨w.heap.size + 1, 4, none⟩)] 142)).cell? ⟨w.heap.size + 1, 2, none⟩ = some (.int .i64 s2) := by
        rw [(((Below.refl w4.heap.size w4).alloc (Nat.le_refl _) _).alloc (by simp) _).cell (p := ⟨w.heap.size + 1, 2, none⟩) ha1, hb4c _ _ hz1, hb3c _ _ hy1, hb2c _ _ hx1, hb1c _ _ (by simp only [World.size_alloc]; omega)]
        first | go_keep | simp
      have b3 : ((w4.alloc (.cells #[.pointer (some ⟨w.heap.size, 0, none⟩), .pointer (some ⟨w.heap.size, 1, none⟩), .pointer (some ⟨w.heap.size, 2, none⟩), .pointer (some ⟨w.heap.size, 3, none⟩), .pointer (some ⟨w.heap.size, 4, none⟩)] 142)).alloc (.cells #[.pointer (some ⟨w.heap.size + 1, 0, none⟩), .pointer (some ⟨w.heap.size + 1, 1, none⟩), .pointer (some ⟨w.heap.size + 1, 2, none⟩), .pointer (some ⟨w.heap.size + 1, 3, none⟩), .pointer (some ⟨w.heap.size + 1, 4, none⟩)] 142)).cell? ⟨w.heap.size + 1, 3, none⟩ = some (.int .i64 a2) := by
        rw [(((Below.refl w4.heap.size w4).alloc (Nat.le_refl _) _).alloc (by simp) _).cell (p := ⟨w.heap.size + 1, 3, none⟩) ha1, hb4c _ _ hz1, hb3c _ _ hy1, hb2c _ _ hx1, hb1c _ _ (by simp only [World.size_alloc]; omega)]
        first | go_keep | simp
      have b4 : ((w4.alloc (.cells #[.pointer (some ⟨w.heap.size, 0, none⟩), .pointer (some ⟨w.heap.size, 1, none⟩), .pointer (some ⟨w.heap.size, 2, none⟩), .pointer (some ⟨w.heap.size, 3, none⟩), .pointer (some ⟨w.heap.size, 4, none⟩)] 142)).alloc (.cells #[.pointer (some ⟨w.heap.size + 1, 0, none⟩), .pointer (some ⟨w.heap.size + 1, 1, none⟩), .pointer (some ⟨w.heap.size + 1, 2, none⟩), .pointer (some ⟨w.heap.size + 1, 3, none⟩), .pointer (some ⟨w.heap.size + 1, 4, none⟩)] 142)).cell? ⟨w.heap.size + 1, 4, none⟩ = some (.int .i64 k2) := by
        rw [(((Below.refl w4.heap.size w4).alloc (Nat.le_refl _) _).alloc (by simp) _).cell (p := ⟨w.heap.size + 1, 4, none⟩) ha1, hb4c _ _ hz1, hb3c _ _ hy1, hb2c _ _ hx1, hb1c _ _ (by simp only [World.size_alloc]; omega)]
        first | go_keep | simp
      have z0 : ((w4.alloc (.cells #[.pointer (some ⟨w.heap.size, 0, none⟩), .pointer (some ⟨w.heap.size, 1, none⟩), .pointer (some ⟨w.heap.size, 2, none⟩), .pointer (some ⟨w.heap.size, 3, none⟩), .pointer (some ⟨w.heap.size, 4, none⟩)] 142)).alloc (.cells #[.pointer (some ⟨w.heap.size + 1, 0, none⟩), .pointer (some ⟨w.heap.size + 1, 1, none⟩), .pointer (some ⟨w.heap.size + 1, 2, none⟩), .pointer (some ⟨w.heap.size + 1, 3, none⟩), .pointer (some ⟨w.heap.size + 1, 4, none⟩)] 142)).cell? ⟨w.heap.size + 1 + 1, 0, none⟩ = some (.int .i64 0) ∧ ((w4.alloc (.cells #[.pointer (some ⟨w.heap.size, 0, none⟩), .pointer (some ⟨w.heap.size, 1, none⟩), .pointer (some ⟨w.heap.size, 2, none⟩), .pointer (some ⟨w.heap.size, 3, none⟩), .pointer (some ⟨w.heap.size, 4, none⟩)] 142)).alloc (.cells #[.pointer (some ⟨w.heap.size + 1, 0, none⟩), .pointer (some ⟨w.heap.size + 1, 1, none⟩), .pointer (some ⟨w.heap.size + 1, 2, none⟩), .pointer (some ⟨w.heap.size + 1, 3, none⟩), .pointer (some ⟨w.heap.size + 1, 4, none⟩)] 142)).frozen? ⟨w.heap.size + 1 + 1, 0, none⟩ = false := by
        rw [(((Below.refl w4.heap.size w4).alloc (Nat.le_refl _) _).alloc (by simp) _).cell (p := ⟨w.heap.size + 1 + 1, 0, none⟩) ha2, (((Below.refl w4.heap.size w4).alloc (Nat.le_refl _) _).alloc (by simp) _).frozen (p := ⟨w.heap.size + 1 + 1, 0, none⟩) ha2, hb4c _ _ hz2, hb4f _ _ hz2, hb3c _ _ hy2, hb3f _ _ hy2, hb2c _ _ hx2, hb2f _ _ hx2, hb1c _ _ (by simp only [World.size_alloc]; omega), hb1f _ _ (by simp only [World.size_alloc]; omega)]
        exact ⟨by first | go_keep | (simp [go_sem]; done), by first | go_keep | (simp [go_sem]; done) | (simp [World.frozen?]; done)⟩
      have z1 : ((w4.alloc (.cells #[.pointer (some ⟨w.heap.size, 0, none⟩), .pointer (some ⟨w.heap.size, 1, none⟩), .pointer (some ⟨w.heap.size, 2, none⟩), .pointer (some ⟨w.heap.size, 3, none⟩), .pointer (some ⟨w.heap.size, 4, none⟩)] 142)).alloc (.cells #[.pointer (some ⟨w.heap.size + 1, 0, none⟩), .pointer (some ⟨w.heap.size + 1, 1, none⟩), .pointer (some ⟨w.heap.size + 1, 2, none⟩), .pointer (some ⟨w.heap.size + 1, 3, none⟩), .pointer (some ⟨w.heap.size + 1, 4, none⟩)] 142)).cell? ⟨w.heap.size + 1 + 1, 1, none⟩ = some (.int .i64 0) ∧ ((w4.alloc (.cells #[.pointer (some ⟨w.heap.size, 0, none⟩), .pointer (some ⟨w.heap.size, 1, none⟩), .pointer (some ⟨w.heap.size, 2, none⟩), .pointer (some ⟨w.heap.size, 3, none⟩), .pointer (some ⟨w.heap.size, 4, none⟩)] 142)).alloc (.cells #[.pointer (some ⟨w.heap.size + 1, 0, none⟩), .pointer (some ⟨w.heap.size + 1, 1, none⟩), .pointer (some ⟨w.heap.size + 1, 2, none⟩), .pointer (some ⟨w.heap.size + 1, 3, none⟩), .pointer (some ⟨w.heap.size + 1, 4, none⟩)] 142)).frozen? ⟨w.heap.size + 1 + 1, 1, none⟩ = false := by
        rw [(((Below.refl w4.heap.size w4).alloc (Nat.le_refl _) _).alloc (by simp) _).cell (p := ⟨w.heap.size + 1 + 1, 1, none⟩) ha2, (((Below.refl w4.heap.size w4).alloc (Nat.le_refl _) _).alloc (by simp) _).frozen (p := ⟨w.heap.size + 1 + 1, 1, none⟩) ha2, hb4c _ _ hz2, hb4f _ _ hz2, hb3c _ _ hy2, hb3f _ _ hy2, hb2c _ _ hx2, hb2f _ _ hx2, hb1c _ _ (by simp only [World.size_alloc]; omega), hb1f _ _ (by simp only [World.size_alloc]; omega)]
        exact ⟨by first | go_keep | (simp [go_sem]; done), by first | go_keep | (simp [go_sem]; done) | (simp [World.frozen?]; done)⟩
      have z2 : ((w4.alloc (.cells #[.pointer (some ⟨w.heap.size, 0, none⟩), .pointer (some ⟨w.heap.size, 1, none⟩), .pointer (some ⟨w.heap.size, 2, none⟩), .pointer (some ⟨w.heap.size, 3, none⟩), .pointer (some ⟨w.heap.size, 4, none⟩)] 142)).alloc (.cells #[.pointer (some ⟨w.heap.size + 1, 0, none⟩), .pointer (some ⟨w.heap.size + 1, 1, none⟩), .pointer (some ⟨w.heap.size + 1, 2, none⟩), .pointer (some ⟨w.heap.size + 1, 3, none⟩), .pointer (some ⟨w.heap.size + 1, 4, none⟩)] 142)).cell? ⟨w.heap.size + 1 + 1, 2, none⟩ = some (.int .i64 0) ∧ ((w4.alloc (.cells #[.pointer (some ⟨w.heap.size, 0, none⟩), .pointer (some ⟨w.heap.size, 1, none⟩), .pointer (some ⟨w.heap.size, 2, none⟩), .pointer (some ⟨w.heap.size, 3, none⟩), .pointer (some ⟨w.heap.size, 4, none⟩)] 142)).alloc (.cells #[.pointer (some ⟨w.heap.size + 1, 0, none⟩), .pointer (some ⟨w.heap.size + 1, 1, none⟩), .pointer (some ⟨w.heap.size + 1, 2, none⟩), .pointer (some ⟨w.heap.size + 1, 3, none⟩), .pointer (some ⟨w.heap.size + 1, 4, none⟩)] 142)).frozen? ⟨w.heap.size + 1 + 1, 2, none⟩ = false := by
        rw [(((Below.refl w4.heap.size w4).alloc (Nat.le_refl _) _).alloc (by simp) _).cell (p := ⟨w.heap.size + 1 + 1, 2, none⟩) ha2, (((Below.refl w4.heap.size w4).alloc (Nat.le_refl _) _).alloc (by simp) _).frozen (p := ⟨w.heap.size + 1 + 1, 2, none⟩) ha2, hb4c _ _ hz2, hb4f _ _ hz2, hb3c _ _ hy2, hb3f _ _ hy2, hb2c _ _ hx2, hb2f _ _ hx2, hb1c _ _ (by simp only [World.size_alloc]; omega), hb1f _ _ (by simp only [World.size_alloc]; omega)]
        exact ⟨by first | go_keep | (simp [go_sem]; done), by first | go_keep | (simp [go_sem]; done) | (simp [World.frozen?]; done)⟩
      have z3 : ((w4.alloc (.cells #[.pointer (some ⟨w.heap.size, 0, none⟩), .pointer (some ⟨w.heap.size, 1, none⟩), .pointer (some ⟨w.heap.size, 2, none⟩), .pointer (some ⟨w.heap.size, 3, none⟩), .pointer (some ⟨w.heap.size, 4, none⟩)] 142)).alloc (.cells #[.pointer (some ⟨w.heap.size + 1, 0, none⟩), .pointer (some ⟨w.heap.size + 1, 1, none⟩), .pointer (some ⟨w.heap.size + 1, 2, none⟩), .pointer (some ⟨w.heap.size + 1, 3, none⟩), .pointer (some ⟨w.heap.size + 1, 4, none⟩)] 142)).cell? ⟨w.heap.size + 1 + 1, 3, none⟩ = some (.int .i64 0) ∧ ((w4.alloc (.cells #[.pointer (some ⟨w.heap.size, 0, none⟩), .pointer (some ⟨w.heap.size, 1, none⟩), .pointer (some ⟨w.heap.size, 2, none⟩), .pointer (some ⟨w.heap.size, 3, none⟩), .pointer (some ⟨w.heap.size, 4, none⟩)] 142)).alloc (.cells #[.pointer (some ⟨w.heap.size + 1, 0, none⟩), .pointer (some ⟨w.heap.size + 1, 1, none⟩), .pointer (some ⟨w.heap.size + 1, 2, none⟩), .pointer (some ⟨w.heap.size + 1, 3, none⟩), .pointer (some ⟨w.heap.size + 1, 4, none⟩)] 142)).frozen? ⟨w.heap.size + 1 + 1, 3, none⟩ = false := by
        rw [(((Below.refl w4.heap.size w4).alloc (Nat.le_refl _) _).alloc (by simp) _).cell (p := ⟨w.heap.size + 1 + 1, 3, none⟩) ha2, (((Below.refl w4.heap.size w4).alloc (Nat.le_refl _) _).alloc (by simp) _).frozen (p := ⟨w.heap.size + 1 + 1, 3, none⟩) ha2, hb4c _ _ hz2, hb4f _ _ hz2, hb3c _ _ hy2, hb3f _ _ hy2, hb2c _ _ hx2, hb2f _ _ hx2, hb1c _ _ (by simp only [World.size_alloc]; omega), hb1f _ _ (by simp only [World.size_alloc]; omega)]
        exact ⟨by first | go_keep | (simp [go_sem]; done), by first | go_keep | (simp [go_sem]; done) | (simp [World.frozen?]; done)⟩
      have z4 : ((w4.alloc (.cells #[.pointer (some ⟨w.heap.size, 0, none⟩), .pointer (some ⟨w.heap.size, 1, none⟩), .pointer (some ⟨w.heap.size, 2, none⟩), .pointer (some ⟨w.heap.size, 3, none⟩), .pointer (some ⟨w.heap.size, 4, none⟩)] 142)).alloc (.cells #[.pointer (some ⟨w.heap.size + 1, 0, none⟩), .pointer (some ⟨w.heap.size + 1, 1, none⟩), .pointer (some ⟨w.heap.size + 1, 2, none⟩), .pointer (some ⟨w.heap.size + 1, 3, none⟩), .pointer (some ⟨w.heap.size + 1, 4, none⟩)] 142)).cell? ⟨w.heap.size + 1 + 1, 4, none⟩ = some (.int .i64 0) ∧ ((w4.alloc (.cells #[.pointer (some ⟨w.heap.size, 0, none⟩), .pointer (some ⟨w.heap.size, 1, none⟩), .pointer (some ⟨w.heap.size, 2, none⟩), .pointer (some ⟨w.heap.size, 3, none⟩), .pointer (some ⟨w.heap.size, 4, none⟩)] 142)).alloc (.cells #[.pointer (some ⟨w.heap.size + 1, 0, none⟩), .pointer (some ⟨w.heap.size + 1, 1, none⟩), .pointer (some ⟨w.heap.size + 1, 2, none⟩), .pointer (some ⟨w.heap.size + 1, 3, none⟩), .pointer (some ⟨w.heap.size + 1, 4, none⟩)] 142)).frozen? ⟨w.heap.size + 1 + 1, 4, none⟩ = false := by
        rw [(((Below.refl w4.heap.size w4).alloc (Nat.le_refl _) _).alloc (by simp) _).cell (p := ⟨w.heap.size + 1 + 1, 4, none⟩) ha2, (((Below.refl w4.heap.size w4).alloc (Nat.le_refl _) _).alloc (by simp) _).frozen (p := ⟨w.heap.size + 1 + 1, 4, none⟩) ha2, hb4c _ _ hz2, hb4f _ _ hz2, hb3c _ _ hy2, hb3f _ _ hy2, hb2c _ _ hx2, hb2f _ _ hx2, hb1c _ _ (by simp only [World.size_alloc]; omega), hb1f _ _ (by simp only [World.size_alloc]; omega)]
        exact ⟨by first | go_keep | (simp [go_sem]; done), by first | go_keep | (simp [go_sem]; done) | (simp [World.frozen?]; done)⟩
      have p0 : ((w4.alloc (.cells #[.pointer (some ⟨w.heap.size, 0, none⟩), .pointer (some ⟨w.heap.size, 1, none⟩), .pointer (some ⟨w.heap.size, 2, none⟩), .pointer (some ⟨w.heap.size, 3, none⟩), .pointer (some ⟨w.heap.size, 4, none⟩)] 142)).alloc (.cells #[.pointer (some ⟨w.heap.size + 1, 0, none⟩), .pointer (some ⟨w.heap.size + 1, 1, none⟩), .pointer (some ⟨w.heap.size + 1, 2, none⟩), .pointer (some ⟨w.heap.size + 1, 3, none⟩), .pointer (some ⟨w.heap.size + 1, 4, none⟩)] 142)).cell? ⟨w4.heap.size, 0, none⟩ = some (.pointer (some ⟨w.heap.size, 0, none⟩)) := by first | go_keep | simp
      have p1 : ((w4.alloc (.cells #[.pointer (some ⟨w.heap.size, 0, none⟩), .pointer (some ⟨w.heap.size, 1, none⟩), .pointer (some ⟨w.heap.size, 2, none⟩), .pointer (some ⟨w.heap.size, 3, none⟩), .pointer (some ⟨w.heap.size, 4, none⟩)] 142)).alloc (.cells #[.pointer (some ⟨w.heap.size + 1, 0, none⟩), .pointer (some ⟨w.heap.size + 1, 1, none⟩), .pointer (some ⟨w.heap.size + 1, 2, none⟩), .pointer (some ⟨w.heap.size + 1, 3, none⟩), .pointer (some ⟨w.heap.size + 1, 4, none⟩)] 142)).cell? ⟨w4.heap.size, 1, none⟩ = some (.pointer (some ⟨w.heap.size, 1, none⟩)) := by first | go_keep | simp
      have p2 : ((w4.alloc (.cells #[.pointer (some ⟨w.heap.size, 0, none⟩), .pointer (some ⟨w.heap.size, 1, none⟩), .pointer (some ⟨w.heap.size, 2, none⟩), .pointer (some ⟨w.heap.size, 3, none⟩), .pointer (some ⟨w.heap.size, 4, none⟩)] 142)).alloc (.cells #[.pointer (some ⟨w.heap.size + 1, 0, none⟩), .pointer (some ⟨w.heap.size + 1, 1, none⟩), .pointer (some ⟨w.heap.size + 1, 2, none⟩), .pointer (some ⟨w.heap.size + 1, 3, none⟩), .pointer (some ⟨w.heap.size + 1, 4, none⟩)] 142)).cell? ⟨w4.heap.size, 2, none⟩ = some (.pointer (some ⟨w.heap.size, 2, none⟩)) := by first | go_keep | simp
      have p3 : ((w4.alloc (.cells #[.pointer (some ⟨w.heap.size, 0, none⟩), .pointer (some ⟨w.heap.size, 1, none⟩), .pointer (some ⟨w.heap.size, 2, none⟩), .pointer (some ⟨w.heap.size, 3, none⟩), .pointer (some ⟨w.heap.size, 4, none⟩)] 142)).alloc (.cells #[.pointer (some ⟨w.heap.size + 1, 0, none⟩), .pointer (some ⟨w.heap.size + 1, 1, none⟩), .pointer (some ⟨w.heap.size + 1, 2, none⟩), .pointer (some ⟨w.heap.size + 1, 3, none⟩), .pointer (some ⟨w.heap.size + 1, 4, none⟩)] 142)).cell? ⟨w4.heap.size, 3, none⟩ = some (.pointer (some ⟨w.heap.size, 3, none⟩)) := by first | go_keep | simp
      have p4 : ((w4.alloc (.cells #[.pointer (some ⟨w.heap.size, 0, none⟩), .pointer (some ⟨w.heap.size, 1, none⟩), .pointer (some ⟨w.heap.size, 2, none⟩), .pointer (some ⟨w.heap.size, 3, none⟩), .pointer (some ⟨w.heap.size, 4, none⟩)] 142)).alloc (.cells #[.pointer (some ⟨w.heap.size + 1, 0, none⟩), .pointer (some ⟨w.heap.size + 1, 1, none⟩), .pointer (some ⟨w.heap.size + 1, 2, none⟩), .pointer (some ⟨w.heap.size + 1, 3, none⟩), .pointer (some ⟨w.heap.size + 1, 4, none⟩)] 142)).cell? ⟨w4.heap.size, 4, none⟩ = some (.pointer (some ⟨w.heap.size, 4, none⟩)) := by first | go_keep | simp
      have q0 : ((w4.alloc (.cells #[.pointer (some ⟨w.heap.size, 0, none⟩), .pointer (some ⟨w.heap.size, 1, none⟩), .pointer (some ⟨w.heap.size, 2, none⟩), .pointer (some ⟨w.heap.size, 3, none⟩), .pointer (some ⟨w.heap.size, 4, none⟩)] 142)).alloc (.cells #[.pointer (some ⟨w.heap.size + 1, 0, none⟩), .pointer (some ⟨w.heap.size + 1, 1, none⟩), .pointer (some ⟨w.heap.size + 1, 2, none⟩), .pointer (some ⟨w.heap.size + 1, 3, none⟩), .pointer (some ⟨w.heap.size + 1, 4, none⟩)] 142)).cell? ⟨w4.heap.size + 1, 0, none⟩ = some (.pointer (some ⟨w.heap.size + 1, 0, none⟩)) := by first | go_keep | simp
      have q1 : ((w4.alloc (.cells #[.pointer (some ⟨w.heap.size, 0, none⟩), .pointer (some ⟨w.heap.size, 1, none⟩), .pointer (some ⟨w.heap.size, 2, none⟩), .pointer (some ⟨w.heap.size, 3, none⟩), .pointer (some ⟨w.heap.size, 4, none⟩)] 142)).alloc (.cells #[.pointer (some ⟨w.heap.size + 1, 0, none⟩), .pointer (some ⟨w.heap.size + 1, 1, none⟩), .pointer (some ⟨w.heap.size + 1, 2, none⟩), .pointer (some ⟨w.heap.size + 1, 3, none⟩), .pointer (some ⟨w.heap.size + 1, 4, none⟩)] 142)).cell? ⟨w4.heap.size + 1, 1, none⟩ = some (.pointer (some ⟨w.heap.size + 1, 1, none⟩)) := by first | go_keep | simp
      have q2 : ((w4.alloc (.cells #[.pointer (some ⟨w.heap.size, 0, none⟩), .pointer (some ⟨w.heap.size, 1, none⟩), .pointer (some ⟨w.heap.size, 2, none⟩), .pointer (some ⟨w.heap.size, 3, none⟩), .pointer (some ⟨w.heap.size, 4, none⟩)] 142)).alloc (.cells #[.pointer (some ⟨w.heap.size + 1, 0, none⟩), .pointer (some ⟨w.heap.size + 1, 1, none⟩), .pointer (some ⟨w.heap.size + 1, 2, none⟩), .pointer (some ⟨w.heap.size + 1, 3, none⟩), .pointer (some ⟨w.heap.size + 1, 4, none⟩)] 142)).cell? ⟨w4.heap.size + 1, 2, none⟩ = some (.pointer (some ⟨w.heap.size + 1, 2, none⟩)) := by first | go_keep | simp
      have q3 : ((w4.alloc (.cells #[.pointer (some ⟨w.heap.size, 0, none⟩), .pointer (some ⟨w.heap.size, 1, none⟩), .pointer (some ⟨w.heap.size, 2, none⟩), .pointer (some ⟨w.heap.size, 3, none⟩), .pointer (some ⟨w.heap.size, 4, none⟩)] 142)).alloc (.cells #[.pointer (some ⟨w.heap.size + 1, 0, none⟩), .pointer (some ⟨w.heap.size + 1, 1, none⟩), .pointer (some ⟨w.heap.size + 1, 2, none⟩), .pointer (some ⟨w.heap.size + 1, 3, none⟩), .pointer (some ⟨w.heap.size + 1, 4, none⟩)] 142)).cell? ⟨w4.heap.size + 1, 3, none⟩ = some (.pointer (some ⟨w.heap.size + 1, 3, none⟩)) := by first | go_keep | simp
      have q4 : ((w4.alloc (.cells #[.pointer (some ⟨w.heap.size, 0, none⟩), .pointer (some ⟨w.heap.size, 1, none⟩), .pointer (some ⟨w.heap.size, 2, none⟩), .pointer (some ⟨w.heap.size, 3, none⟩), .pointer (some ⟨w.heap.size, 4, none⟩)] 142)).alloc (.cells #[.pointer (some ⟨w.heap.size + 1, 0, none⟩), .pointer (some ⟨w.heap.size + 1, 1, none⟩), .pointer (some ⟨w.heap.size + 1, 2, none⟩), .pointer (some ⟨w.heap.size + 1, 3, none⟩), .pointer (some ⟨w.heap.size + 1, 4, none⟩)] 142)).cell? ⟨w4.heap.size + 1, 4, none⟩ = some (.pointer (some ⟨w.heap.size + 1, 4, none⟩)) := by first | go_keep | simp
      generalize ((w4.alloc (.cells #[.pointer (some ⟨w.heap.size, 0, none⟩), .pointer (some ⟨w.heap.size, 1, none⟩), .pointer (some ⟨w.heap.size, 2, none⟩), .pointer (some ⟨w.heap.size, 3, none⟩), .pointer (some ⟨w.heap.size, 4, none⟩)] 142)).alloc (.cells #[.pointer (some ⟨w.heap.size + 1, 0, none⟩), .pointer (some ⟨w.heap.size + 1, 1, none⟩), .pointer (some ⟨w.heap.size + 1, 2, none⟩), .pointer (some ⟨w.heap.size + 1, 3, none⟩), .pointer (some ⟨w.heap.size + 1, 4, none⟩)] 142)) = W5 at *
      clear hb1c hb1f hb2c hb2f hb3c hb3f hb4c hb4f
      go_loopg [22] 5 (fun kx s22 wr => ∃ (j : Nat), s22 = .int .i64 j ∧ j ≤ 5 ∧ 5 - j ≤ kx ∧ W5.heap.size ≤ wr.heap.size ∧ Below w.heap.size w wr ∧ KeepB W5.heap.size w.heap.size W5 wr ∧ Hid ((j = 0 → AtL wr w.heap.size [m, kg, s, a, k]) ∧ (j = 1 → AtL wr w.heap.size [(m + g * m2), kg, s, a, k]) ∧ (j = 2 → AtL wr w.heap.size [(m + g * m2), (kg + g * kg2), s, a, k]) ∧ (j = 3 → AtL wr w.heap.size [(m + g * m2), (kg + g * kg2), (s + g * s2), a, k]) ∧ (j = 4 → AtL wr w.heap.size [(m + g * m2), (kg + g * kg2), (s + g * s2), (a + g * a2), k]) ∧ (j = 5 → AtL wr w.heap.size [(m + g * m2), (kg + g * kg2), (s + g * s2), (a + g * a2), (k + g * k2)])))
      case atStart => exact ⟨0, rfl, by omega, by omega, Nat.le_refl _, hB5, KeepB.refl _ _ _, Lib.hid ⟨fun _ => hAt.out, fun h => absurd h (by omega), fun h => absurd h (by omega), fun h => absurd h (by omega), fun h => absurd h (by omega), fun h => absurd h (by omega)⟩⟩
      case round =>
        obtain ⟨j, rfl, hj, hjx, hsr, hBw, hKB, HA⟩ := hrel
        by_cases hj5 : j < 5
        · obtain rfl | rfl | rfl | rfl | rfl : j = 0 ∨ j = 1 ∨ j = 2 ∨ j = 3 ∨ j = 4 := by omega
          · have ca := HA.out.1 (by omega)
            have cj := ca 0 _ rfl
            obtain ⟨cj1, cj2⟩ := cj
            have bj : wr.cell? ⟨w.heap.size + 1, 0, none⟩ = some (.int .i64 m2) := (hKB.cell (by omega) (by omega)).trans b0
            have pj : wr.cell? ⟨w4.heap.size, 0, none⟩ = some (.pointer (some ⟨w.heap.size, 0, none⟩)) := (hKB.cell (by omega) (by omega)).trans p0
            have qj : wr.cell? ⟨w4.heap.size + 1, 0, none⟩ = some (.pointer (some ⟨w.heap.size + 1, 0, none⟩)) := (hKB.cell (by omega) (by omega)).trans q0
            have wm : IntKind.i64.wrap (g * m2) = g * m2 := IntWalk.i64_in _ (by rcases hg with rfl | rfl <;> omega)
            have wa : IntKind.i64.wrap (m + g * m2) = m + g * m2 := IntWalk.i64_in _ (by rcases hg with rfl | rfl <;> omega)
            have szr : w.heap.size < wr.heap.size := by omega
            have sz1 : w.heap.size + 1 < wr.heap.size := by omega
            have sz4 : w4.heap.size < wr.heap.size := by omega
            have sz5 : w4.heap.size + 1 < wr.heap.size := by omega
            go_wp2
            refine wp_still_tail 14 (by kernel_rfl) (by kernel_rfl) ?_
            intro W hW hWs
            have cW1 : W.cell? ⟨w.heap.size, 0, none⟩ = some (.int .i64 m) := (hW.cell (p := ⟨w.heap.size, 0, none⟩) szr).trans cj1
            have cW2 : W.frozen? ⟨w.heap.size, 0, none⟩ = false := (hW.frozen (p := ⟨w.heap.size, 0, none⟩) szr).trans cj2
            have bW : W.cell? ⟨w.heap.size + 1, 0, none⟩ = some (.int .i64 m2) := (hW.cell (p := ⟨w.heap.size + 1, 0, none⟩) sz1).trans bj
            have pW : W.cell? ⟨w4.heap.size, 0, none⟩ = some (.pointer (some ⟨w.heap.size, 0, none⟩)) := (hW.cell (p := ⟨w4.heap.size, 0, none⟩) sz4).trans pj
            have qW : W.cell? ⟨w4.heap.size + 1, 0, none⟩ = some (.pointer (some ⟨w.heap.size + 1, 0, none⟩)) := (hW.cell (p := ⟨w4.heap.size + 1, 0, none⟩) sz5).trans qj
            have HAW : Hid (AtL W w.heap.size [m, kg, s, a, k]) := Lib.hid (fun i v hi => by
              rw [hW.cell (p := ⟨w.heap.size, i, none⟩) szr, hW.frozen (p := ⟨w.heap.size, i, none⟩) szr]
              exact ca i v hi)
            simp only [List.take_succ_cons, List.take_zero, List.drop_succ_cons, List.drop_zero]
            repeat (first | (refine wpStill_step (fun K hK => ?_); go_simp; refine hK _ ?_; clear hK K))
            refine wpStill_nil ?_
            go_wp2
            go_roundg (5 - (0 + 1))
            case measure => omega
            case rel => exact ⟨0 + 1, by go_num, by omega, by omega, by rw [World.size_setCell]; omega, hBw.trans ((hW.mono (show w.heap.size ≤ wr.heap.size by omega)).setCell (p := ⟨w.heap.size, 0, none⟩) (Nat.le_refl _) _), hKB.trans (KeepB.trans ⟨hW.mono (Nat.zero_le _), fun q hq _ => hW.block q (by omega)⟩ (KeepB.setC W 0 _)), Lib.hid ⟨fun h => absurd h (by omega), fun _ => HAW.out.set (by simp) _, fun h => absurd h (by omega), fun h => absurd h (by omega), fun h => absurd h (by omega), fun h => absurd h (by omega)⟩⟩
          · have ca := HA.out.2.1 (by omega)
            have cj := ca 1 _ rfl
            obtain ⟨cj1, cj2⟩ := cj
            have bj : wr.cell? ⟨w.heap.size + 1, 1, none⟩ = some (.int .i64 kg2) := (hKB.cell (by omega) (by omega)).trans b1
            have pj : wr.cell? ⟨w4.heap.size, 1, none⟩ = some (.pointer (some ⟨w.heap.size, 1, none⟩)) := (hKB.cell (by omega) (by omega)).trans p1
            have qj : wr.cell? ⟨w4.heap.size + 1, 1, none⟩ = some (.pointer (some ⟨w.heap.size + 1, 1, none⟩)) := (hKB.cell (by omega) (by omega)).trans q1
            have wm : IntKind.i64.wrap (g * kg2) = g * kg2 := IntWalk.i64_in _ (by rcases hg with rfl | rfl <;> omega)
            have wa : IntKind.i64.wrap (kg + g * kg2) = kg + g * kg2 := IntWalk.i64_in _ (by rcases hg with rfl | rfl <;> omega)
            have szr : w.heap.size < wr.heap.size := by omega
            have sz1 : w.heap.size + 1 < wr.heap.size := by omega
            have sz4 : w4.heap.size < wr.heap.size := by omega
            have sz5 : w4.heap.size + 1 < wr.heap.size := by omega
            go_wp2
            refine wp_still_tail 14 (by kernel_rfl) (by kernel_rfl) ?_
            intro W hW hWs
            have cW1 : W.cell? ⟨w.heap.size, 1, none⟩ = some (.int .i64 kg) := (hW.cell (p := ⟨w.heap.size, 1, none⟩) szr).trans cj1
            have cW2 : W.frozen? ⟨w.heap.size, 1, none⟩ = false := (hW.frozen (p := ⟨w.heap.size, 1, none⟩) szr).trans cj2
            have bW : W.cell? ⟨w.heap.size + 1, 1, none⟩ = some (.int .i64 kg2) := (hW.cell (p := ⟨w.heap.size + 1, 1, none⟩) sz1).trans bj
            have pW : W.cell? ⟨w4.heap.size, 1, none⟩ = some (.pointer (some ⟨w.heap.size, 1, none⟩)) := (hW.cell (p := ⟨w4.heap.size, 1, none⟩) sz4).trans pj
            have qW : W.cell? ⟨w4.heap.size + 1, 1, none⟩ = some (.pointer (some ⟨w.heap.size + 1, 1, none⟩)) := (hW.cell (p := ⟨w4.heap.size + 1, 1, none⟩) sz5).trans qj
            have HAW : Hid (AtL W w.heap.size [(m + g * m2), kg, s, a, k]) := Lib.hid (fun i v hi => by
              rw [hW.cell (p := ⟨w.heap.size, i, none⟩) szr, hW.frozen (p := ⟨w.heap.size, i, none⟩) szr]
              exact ca i v hi)
            simp only [List.take_succ_cons, List.take_zero, List.drop_succ_cons, List.drop_zero]
            repeat (first | (refine wpStill_step (fun K hK => ?_); go_simp; refine hK _ ?_; clear hK K))
            refine wpStill_nil ?_
            go_wp2
            go_roundg (5 - (1 + 1))
            case measure => omega
            case rel => exact ⟨1 + 1, by go_num, by omega, by omega, by rw [World.size_setCell]; omega, hBw.trans ((hW.mono (show w.heap.size ≤ wr.heap.size by omega)).setCell (p := ⟨w.heap.size, 1, none⟩) (Nat.le_refl _) _), hKB.trans (KeepB.trans ⟨hW.mono (Nat.zero_le _), fun q hq _ => hW.block q (by omega)⟩ (KeepB.setC W 1 _)), Lib.hid ⟨fun h => absurd h (by omega), fun h => absurd h (by omega), fun _ => HAW.out.set (by simp) _, fun h => absurd h (by omega), fun h => absurd h (by omega), fun h => absurd h (by omega)⟩⟩
          · have ca := HA.out.2.2.1 (by omega)
            have cj := ca 2 _ rfl
            obtain ⟨cj1, cj2⟩ := cj
            have bj : wr.cell? ⟨w.heap.size + 1, 2, none⟩ = some (.int .i64 s2) := (hKB.cell (by omega) (by omega)).trans b2
            have pj : wr.cell? ⟨w4.heap.size, 2, none⟩ = some (.pointer (some ⟨w.heap.size, 2, none⟩)) := (hKB.cell (by omega) (by omega)).trans p2
            have qj : wr.cell? ⟨w4.heap.size + 1, 2, none⟩ = some (.pointer (some ⟨w.heap.size + 1, 2, none⟩)) := (hKB.cell (by omega) (by omega)).trans q2
            have wm : IntKind.i64.wrap (g * s2) = g * s2 := IntWalk.i64_in _ (by rcases hg with rfl | rfl <;> omega)
            have wa : IntKind.i64.wrap (s + g * s2) = s + g * s2 := IntWalk.i64_in _ (by rcases hg with rfl | rfl <;> omega)
            have szr : w.heap.size < wr.heap.size := by omega
            have sz1 : w.heap.size + 1 < wr.heap.size := by omega
            have sz4 : w4.heap.size < wr.heap.size := by omega
            have sz5 : w4.heap.size + 1 < wr.heap.size := by omega
            go_wp2
            refine wp_still_tail 14 (by kernel_rfl) (by kernel_rfl) ?_
            intro W hW hWs
            have cW1 : W.cell? ⟨w.heap.size, 2, none⟩ = some (.int .i64 s) := (hW.cell (p := ⟨w.heap.size, 2, none⟩) szr).trans cj1
            have cW2 : W.frozen? ⟨w.heap.size, 2, none⟩ = false := (hW.frozen (p := ⟨w.heap.size, 2, none⟩) szr).trans cj2
            have bW : W.cell? ⟨w.heap.size + 1, 2, none⟩ = some (.int .i64 s2) := (hW.cell (p := ⟨w.heap.size + 1, 2, none⟩) sz1).trans bj
            have pW : W.cell? ⟨w4.heap.size, 2, none⟩ = some (.pointer (some ⟨w.heap.size, 2, none⟩)) := (hW.cell (p := ⟨w4.heap.size, 2, none⟩) sz4).trans pj
            have qW : W.cell? ⟨w4.heap.size + 1, 2, none⟩ = some (.pointer (some ⟨w.heap.size + 1, 2, none⟩)) := (hW.cell (p := ⟨w4.heap.size + 1, 2, none⟩) sz5).trans qj
            have HAW : Hid (AtL W w.heap.size [(m + g * m2), (kg + g * kg2), s, a, k]) := Lib.hid (fun i v hi => by
              rw [hW.cell (p := ⟨w.heap.size, i, none⟩) szr, hW.frozen (p := ⟨w.heap.size, i, none⟩) szr]
              exact ca i v hi)
            simp only [List.take_succ_cons, List.take_zero, List.drop_succ_cons, List.drop_zero]
            repeat (first | (refine wpStill_step (fun K hK => ?_); go_simp; refine hK _ ?_; clear hK K))
            refine wpStill_nil ?_
            go_wp2
            go_roundg (5 - (2 + 1))
            case measure => omega
            case rel => exact ⟨2 + 1, by go_num, by omega, by omega, by rw [World.size_setCell]; omega, hBw.trans ((hW.mono (show w.heap.size ≤ wr.heap.size by omega)).setCell (p := ⟨w.heap.size, 2, none⟩) (Nat.le_refl _) _), hKB.trans (KeepB.trans ⟨hW.mono (Nat.zero_le _), fun q hq _ => hW.block q (by omega)⟩ (KeepB.setC W 2 _)), Lib.hid ⟨fun h => absurd h (by omega), fun h => absurd h (by omega), fun h => absurd h (by omega), fun _ => HAW.out.set (by simp) _, fun h => absurd h (by omega), fun h => absurd h (by omega)⟩⟩
          · have ca := HA.out.2.2.2.1 (by omega)
            have cj := ca 3 _ rfl
            obtain ⟨cj1, cj2⟩ := cj
            have bj : wr.cell? ⟨w.heap.size + 1, 3, none⟩ = some (.int .i64 a2) := (hKB.cell (by omega) (by omega)).trans b3
            have pj : wr.cell? ⟨w4.heap.size, 3, none⟩ = some (.pointer (some ⟨w.heap.size, 3, none⟩)) := (hKB.cell (by omega) (by omega)).trans p3
            have qj : wr.cell? ⟨w4.heap.size + 1, 3, none⟩ = some (.pointer (some ⟨w.heap.size + 1, 3, none⟩)) := (hKB.cell (by omega) (by omega)).trans q3
            have wm : IntKind.i64.wrap (g * a2) = g * a2 := IntWalk.i64_in _ (by rcases hg with rfl | rfl <;> omega)
            have wa : IntKind.i64.wrap (a + g * a2) = a + g * a2 := IntWalk.i64_in _ (by rcases hg with rfl | rfl <;> omega)
            have szr : w.heap.size < wr.heap.size := by omega
            have sz1 : w.heap.size + 1 < wr.heap.size := by omega
            have sz4 : w4.heap.size < wr.heap.size := by omega
            have sz5 : w4.heap.size + 1 < wr.heap.size := by omega
            go_wp2
            refine wp_still_tail 14 (by kernel_rfl) (by kernel_rfl) ?_
            intro W hW hWs
            have cW1 : W.cell? ⟨w.heap.size, 3, none⟩ = some (.int .i64 a) := (hW.cell (p := ⟨w.heap.size, 3, none⟩) szr).trans cj1
            have cW2 : W.frozen? ⟨w.heap.size, 3, none⟩ = false := (hW.frozen (p := ⟨w.heap.size, 3, none⟩) szr).trans cj2
            have bW : W.cell? ⟨w.heap.size + 1, 3, none⟩ = some (.int .i64 a2) := (hW.cell (p := ⟨w.heap.size + 1, 3, none⟩) sz1).trans bj
            have pW : W.cell? ⟨w4.heap.size, 3, none⟩ = some (.pointer (some ⟨w.heap.size, 3, none⟩)) := (hW.cell (p := ⟨w4.heap.size, 3, none⟩) sz4).trans pj
            have qW : W.cell? ⟨w4.heap.size + 1, 3, none⟩ = some (.pointer (some ⟨w.heap.size + 1, 3, none⟩)) := (hW.cell (p := ⟨w4.heap.size + 1, 3, none⟩) sz5).trans qj
            have HAW : Hid (AtL W w.heap.size [(m + g * m2), (kg + g * kg2), (s + g * s2), a, k]) := Lib.hid (fun i v hi => by
              rw [hW.cell (p := ⟨w.heap.size, i, none⟩) szr, hW.frozen (p := ⟨w.heap.size, i, none⟩) szr]
              exact ca i v hi)
            simp only [List.take_succ_cons, List.take_zero, List.drop_succ_cons, List.drop_zero]
            repeat (first | (refine wpStill_step (fun K hK => ?_); go_simp; refine hK _ ?_; clear hK K))
            refine wpStill_nil ?_
            go_wp2
            go_roundg (5 - (3 + 1))
            case measure => omega
            case rel => exact ⟨3 + 1, by go_num, by omega, by omega, by rw [World.size_setCell]; omega, hBw.trans ((hW.mono (show w.heap.size ≤ wr.heap.size by omega)).setCell (p := ⟨w.heap.size, 3, none⟩) (Nat.le_refl _) _), hKB.trans (KeepB.trans ⟨hW.mono (Nat.zero_le _), fun q hq _ => hW.block q (by omega)⟩ (KeepB.setC W 3 _)), Lib.hid ⟨fun h => absurd h (by omega), fun h => absurd h (by omega), fun h => absurd h (by omega), fun h => absurd h (by omega), fun _ => HAW.out.set (by simp) _, fun h => absurd h (by omega)⟩⟩
          · have ca := HA.out.2.2.2.2.1 (by omega)
            have cj := ca 4 _ rfl
            obtain ⟨cj1, cj2⟩ := cj
            have bj : wr.cell? ⟨w.heap.size + 1, 4, none⟩ = some (.int .i64 k2) := (hKB.cell (by omega) (by omega)).trans b4
            have pj : wr.cell? ⟨w4.heap.size, 4, none⟩ = some (.pointer (some ⟨w.heap.size, 4, none⟩)) := (hKB.cell (by omega) (by omega)).trans p4
            have qj : wr.cell? ⟨w4.heap.size + 1, 4, none⟩ = some (.pointer (some ⟨w.heap.size + 1, 4, none⟩)) := (hKB.cell (by omega) (by omega)).trans q4
            have wm : IntKind.i64.wrap (g * k2) = g * k2 := IntWalk.i64_in _ (by rcases hg with rfl | rfl <;> omega)
            have wa : IntKind.i64.wrap (k + g * k2) = k + g * k2 := IntWalk.i64_in _ (by rcases hg with rfl | rfl <;> omega)
            have szr : w.heap.size < wr.heap.size := by omega
            have sz1 : w.heap.size + 1 < wr.heap.size := by omega
            have sz4 : w4.heap.size < wr.heap.size := by omega
            have sz5 : w4.heap.size + 1 < wr.heap.size := by omega
            go_wp2
            refine wp_still_tail 14 (by kernel_rfl) (by kernel_rfl) ?_
            intro W hW hWs
            have cW1 : W.cell? ⟨w.heap.size, 4, none⟩ = some (.int .i64 k) := (hW.cell (p := ⟨w.heap.size, 4, none⟩) szr).trans cj1
            have cW2 : W.frozen? ⟨w.heap.size, 4, none⟩ = false := (hW.frozen (p := ⟨w.heap.size, 4, none⟩) szr).trans cj2
            have bW : W.cell? ⟨w.heap.size + 1, 4, none⟩ = some (.int .i64 k2) := (hW.cell (p := ⟨w.heap.size + 1, 4, none⟩) sz1).trans bj
            have pW : W.cell? ⟨w4.heap.size, 4, none⟩ = some (.pointer (some ⟨w.heap.size, 4, none⟩)) := (hW.cell (p := ⟨w4.heap.size, 4, none⟩) sz4).trans pj
            have qW : W.cell? ⟨w4.heap.size + 1, 4, none⟩ = some (.pointer (some ⟨w.heap.size + 1, 4, none⟩)) := (hW.cell (p := ⟨w4.heap.size + 1, 4, none⟩) sz5).trans qj
            have HAW : Hid (AtL W w.heap.size [(m + g * m2), (kg + g * kg2), (s + g * s2), (a + g * a2), k]) := Lib.hid (fun i v hi => by
              rw [hW.cell (p := ⟨w.heap.size, i, none⟩) szr, hW.frozen (p := ⟨w.heap.size, i, none⟩) szr]
              exact ca i v hi)
            simp only [List.take_succ_cons, List.take_zero, List.drop_succ_cons, List.drop_zero]
            repeat (first | (refine wpStill_step (fun K hK => ?_); go_simp; refine hK _ ?_; clear hK K))
            refine wpStill_nil ?_
            go_wp2
            go_roundg (5 - (4 + 1))
            case measure => omega
            case rel => exact ⟨4 + 1, by go_num, by omega, by omega, by rw [World.size_setCell]; omega, hBw.trans ((hW.mono (show w.heap.size ≤ wr.heap.size by omega)).setCell (p := ⟨w.heap.size, 4, none⟩) (Nat.le_refl _) _), hKB.trans (KeepB.trans ⟨hW.mono (Nat.zero_le _), fun q hq _ => hW.block q (by omega)⟩ (KeepB.setC W 4 _)), Lib.hid ⟨fun h => absurd h (by omega), fun h => absurd h (by omega), fun h => absurd h (by omega), fun h => absurd h (by omega), fun h => absurd h (by omega), fun _ => HAW.out.set (by simp) _⟩⟩
        · obtain rfl : j = 5 := by omega
          have ca := HA.out.2.2.2.2.2 (by omega)
          have f0 : wr.cell? ⟨w.heap.size, 0, none⟩ = some (.int .i64 (m + g * m2)) := (ca 0 _ rfl).1
          have f1 : wr.cell? ⟨w.heap.size, 1, none⟩ = some (.int .i64 (kg + g * kg2)) := (ca 1 _ rfl).1
          have f2 : wr.cell? ⟨w.heap.size, 2, none⟩ = some (.int .i64 (s + g * s2)) := (ca 2 _ rfl).1
          have f3 : wr.cell? ⟨w.heap.size, 3, none⟩ = some (.int .i64 (a + g * a2)) := (ca 3 _ rfl).1
          have f4 : wr.cell? ⟨w.heap.size, 4, none⟩ = some (.int .i64 (k + g * k2)) := (ca 4 _ rfl).1
          have y0 : wr.cell? ⟨w.heap.size + 1 + 1, 0, none⟩ = some (.int .i64 0) := (hKB.cell (by omega) (by omega)).trans z0.1
          have yf0 : wr.frozen? ⟨w.heap.size + 1 + 1, 0, none⟩ = false := (hKB.frozen (by omega) (by omega)).trans z0.2
          have y1 : wr.cell? ⟨w.heap.size + 1 + 1, 1, none⟩ = some (.int .i64 0) := (hKB.cell (by omega) (by omega)).trans z1.1
          have yf1 : wr.frozen? ⟨w.heap.size + 1 + 1, 1, none⟩ = false := (hKB.frozen (by omega) (by omega)).trans z1.2
          have y2 : wr.cell? ⟨w.heap.size + 1 + 1, 2, none⟩ = some (.int .i64 0) := (hKB.cell (by omega) (by omega)).trans z2.1
          have yf2 : wr.frozen? ⟨w.heap.size + 1 + 1, 2, none⟩ = false := (hKB.frozen (by omega) (by omega)).trans z2.2
          have y3 : wr.cell? ⟨w.heap.size + 1 + 1, 3, none⟩ = some (.int .i64 0) := (hKB.cell (by omega) (by omega)).trans z3.1
          have yf3 : wr.frozen? ⟨w.heap.size + 1 + 1, 3, none⟩ = false := (hKB.frozen (by omega) (by omega)).trans z3.2
          have y4 : wr.cell? ⟨w.heap.size + 1 + 1, 4, none⟩ = some (.int .i64 0) := (hKB.cell (by omega) (by omega)).trans z4.1
          have yf4 : wr.frozen? ⟨w.heap.size + 1 + 1, 4, none⟩ = false := (hKB.frozen (by omega) (by omega)).trans z4.2
          have sa0 : w.heap.size < wr.heap.size := by omega
          have sa2 : w.heap.size + 1 + 1 < wr.heap.size := by omega
          clear ca HA
          cases hu3 : unitB (m + g * m2) (kg + g * kg2) (s + g * s2) (a + g * a2) (k + g * k2)
          · have HU3 := Lib.hid hu3
            obtain rfl : E = 2 := by rw [HE2.out, HU3.out]; rfl
            clear HE2 hu3
            go_wp2_with (first | (go_at_call 98; refine (uvalid_v HU3.out _).mono ?_; rintro _ w6 ⟨rfl, hb6⟩; obtain ⟨hb6c, hb6f⟩ := bcell hb6; have hb6s := hb6.size; have hb6w : Below w.heap.size wr w6 := hb6.mono (show w.heap.size ≤ wr.heap.size by omega); have sb2 : w.heap.size + 1 + 1 < w6.heap.size := (by omega)))
            refine bodyPost_ret (by simp [results, Try.results128, go_sem, *]; try rfl) rfl ?_
            exact ⟨rfl, hBw.trans (by (repeat' (first | (with_reducible exact Below.refl _ _) | (with_reducible assumption) | (with_reducible refine below_alloc ?_ _) | (with_reducible refine Below.drew ?_) | (with_reducible refine below_drewN ?_ _) | (with_reducible refine below_step (by assumption) ?_) | (with_reducible refine below_later ?_ _) | (with_reducible refine Below.setCell ?_ ?_ _) | go_size)))⟩
          · have HU3 := Lib.hid hu3
            obtain rfl : E = 0 := by rw [HE2.out, HU3.out]; rfl
            clear HE2 hu3
            go_wp2_with (first | (go_at_call 98; refine (uvalid_v HU3.out _).mono ?_; rintro _ w6 ⟨rfl, hb6⟩; obtain ⟨hb6c, hb6f⟩ := bcell hb6; have hb6s := hb6.size; have hb6w : Below w.heap.size wr w6 := hb6.mono (show w.heap.size ≤ wr.heap.size by omega); have sb2 : w.heap.size + 1 + 1 < w6.heap.size := (by omega); have sb0 : w.heap.size < w6.heap.size := (by omega)))
            refine bodyPost_ret (by simp [results, Try.results128, go_sem, *]; try rfl) rfl ?_
            exact ⟨rfl, hBw.trans (by (repeat' (first | (with_reducible exact Below.refl _ _) | (with_reducible assumption) | (with_reducible refine below_alloc ?_ _) | (with_reducible refine Below.drew ?_) | (with_reducible refine below_drewN ?_ _) | (with_reducible refine below_step (by assumption) ?_) | (with_reducible refine below_later ?_ _) | (with_reducible refine Below.setCell ?_ ?_ _) | go_size)))⟩
end Go.Proofs.Ytfooefiaenlhmaa
namespace Go.Proofs.Ytfooefiaenlhmaa
set_option linter.unusedVariables false
set_option linter.unusedSimpArgs false
open Go.RowKit Go.ChangeShapes Go.WideShapes Go.ChangeAt

def ueq (m kg s a k m2 kg2 s2 a2 k2 : Int) : Bool := decide (m = m2) && (decide (kg = kg2) && (decide (s = s2) && (decide (a = a2) && decide (k = k2))))
set_option maxRecDepth 100000 in
theorem eql_unit (m kg s a k m2 kg2 s2 a2 k2 : Int) (w : World) : (binOp .eql 57 (.agg #[.int .i64 m, .int .i64 kg, .int .i64 s, .int .i64 a, .int .i64 k]) (.agg #[.int .i64 m2, .int .i64 kg2, .int .i64 s2, .int .i64 a2, .int .i64 k2])).run Try.prog w = .ok (.bool (ueq m kg s a k m2 kg2 s2 a2 k2)) w := by
  have h1 : Try.prog.underlying 57 = some (.struct (Try.prog.fieldsOf 57)) := by kernel_rfl
  have h2 : Try.prog.stoodInHeld 57 = false := by kernel_rfl
  rw [run_eql_struct]
  have h3 := run_equalIn_agg (P := Try.prog) w 9999 57 #[.int .i64 m, .int .i64 kg, .int .i64 s, .int .i64 a, .int .i64 k] #[.int .i64 m2, .int .i64 kg2, .int .i64 s2, .int .i64 a2, .int .i64 k2] h1 h2
  rw [show (10000 : Nat) = 9999 + 1 from rfl, h3]
  simp only [Program.fieldsOf, Try.underlying57]
  unfold ueq
  by_cases e0 : m = m2
  · by_cases e1 : kg = kg2
    · by_cases e2 : s = s2
      · by_cases e3 : a = a2
        · by_cases e4 : k = k2
          · subst e0 e1 e2 e3 e4
            simp [Op.eqFields, go_sem, Result.andThen]
          · subst e0 e1 e2 e3
            simp [Op.eqFields, go_sem, Result.andThen, e4]
        · subst e0 e1 e2
          simp [Op.eqFields, go_sem, Result.andThen, e3]
      · subst e0 e1
        simp [Op.eqFields, go_sem, Result.andThen, e2]
    · subst e0
      simp [Op.eqFields, go_sem, Result.andThen, e1]
  · simp [Op.eqFields, go_sem, Result.andThen, e0]
set_option maxRecDepth 100000 in
set_option maxHeartbeats 2000000 in
theorem mul_v (m kg s a k m2 kg2 s2 a2 k2 E : Int) (hE : combE (1) m kg s a k m2 kg2 s2 a2 k2 = E) (w : World) : Calls Try.prog 121 #[.agg #[.int .i64 m, .int .i64 kg, .int .i64 s, .int .i64 a, .int .i64 k], .agg #[.int .i64 m2, .int .i64 kg2, .int .i64 s2, .int .i64 a2, .int .i64 k2]] w fun e w' => e = .returned (.tuple #[.agg #[.int .i64 (combV (1) m m2 E), .int .i64 (combV (1) kg kg2 E), .int .i64 (combV (1) s s2 E), .int .i64 (combV (1) a a2 E), .int .i64 (combV (1) k k2 E)], .int .i64 E]) ∧ Below w.heap.size w w' := by
  have HC := Lib.hid (fun w => comb_any (1) m kg s a k m2 kg2 s2 a2 k2 (by omega) w)
  rw [hE] at HC
  clear hE
  generalize combV (1) m m2 E = v0 at *
  generalize combV (1) kg kg2 E = v1 at *
  generalize combV (1) s s2 E = v2 at *
  generalize combV (1) a a2 E = v3 at *
  generalize combV (1) k k2 E = v4 at *
  go_enter Try.func121, Try.ntmps121
  go_wp2_with (first | (go_at_call 128; refine (HC.out _).mono ?_; rintro _ w1 ⟨rfl, hb1⟩; obtain ⟨hb1c, hb1f⟩ := bcell hb1; have hb1s := hb1.size; (try simp only [World.size_alloc] at hb1s); have hx2 : w.heap.size + 1 + 1 < w1.heap.size := (by omega)))
  refine bodyPost_ret (by simp [results, Try.results121, go_sem, *]; try rfl) rfl ?_
  exact ⟨rfl, by (repeat' (first | (with_reducible exact Below.refl _ _) | (with_reducible assumption) | (with_reducible refine below_alloc ?_ _) | (with_reducible refine Below.drew ?_) | (with_reducible refine below_drewN ?_ _) | (with_reducible refine below_step (by assumption) ?_) | (with_reducible refine below_later ?_ _) | (with_reducible refine Below.setCell ?_ ?_ _) | go_size))⟩
set_option maxRecDepth 100000 in
set_option maxHeartbeats 2000000 in
theorem div_v (m kg s a k m2 kg2 s2 a2 k2 E : Int) (hE : combE (-1) m kg s a k m2 kg2 s2 a2 k2 = E) (w : World) : Calls Try.prog 122 #[.agg #[.int .i64 m, .int .i64 kg, .int .i64 s, .int .i64 a, .int .i64 k], .agg #[.int .i64 m2, .int .i64 kg2, .int .i64 s2, .int .i64 a2, .int .i64 k2]] w fun e w' => e = .returned (.tuple #[.agg #[.int .i64 (combV (-1) m m2 E), .int .i64 (combV (-1) kg kg2 E), .int .i64 (combV (-1) s s2 E), .int .i64 (combV (-1) a a2 E), .int .i64 (combV (-1) k k2 E)], .int .i64 E]) ∧ Below w.heap.size w w' := by
  have HC := Lib.hid (fun w => comb_any (-1) m kg s a k m2 kg2 s2 a2 k2 (by omega) w)
  rw [hE] at HC
  clear hE
  generalize combV (-1) m m2 E = v0 at *
  generalize combV (-1) kg kg2 E = v1 at *
  generalize combV (-1) s s2 E = v2 at *
  generalize combV (-1) a a2 E = v3 at *
  generalize combV (-1) k k2 E = v4 at *
  go_enter Try.func122, Try.ntmps122
  go_wp2_with (first | (go_at_call 128; refine (HC.out _).mono ?_; rintro _ w1 ⟨rfl, hb1⟩; obtain ⟨hb1c, hb1f⟩ := bcell hb1; have hb1s := hb1.size; (try simp only [World.size_alloc] at hb1s); have hx2 : w.heap.size + 1 + 1 < w1.heap.size := (by omega)))
  refine bodyPost_ret (by simp [results, Try.results122, go_sem, *]; try rfl) rfl ?_
  exact ⟨rfl, by (repeat' (first | (with_reducible exact Below.refl _ _) | (with_reducible assumption) | (with_reducible refine below_alloc ?_ _) | (with_reducible refine Below.drew ?_) | (with_reducible refine below_drewN ?_ _) | (with_reducible refine below_step (by assumption) ?_) | (with_reducible refine below_later ?_ _) | (with_reducible refine Below.setCell ?_ ?_ _) | go_size))⟩
set_option linter.unusedVariables false in
def unitsB (op : Int) (x y t : Fx) : Bool :=
  if op = 5 ∨ op = 6 then ueq x.m x.kg x.s x.a x.k y.m y.kg y.s y.a y.k && ueq x.m x.kg x.s x.a x.k t.m t.kg t.s t.a t.k
  else if op = 7 then decide (combE 1 x.m x.kg x.s x.a x.k y.m y.kg y.s y.a y.k = 0) && ueq (combV (1) x.m y.m (combE (1) x.m x.kg x.s x.a x.k y.m y.kg y.s y.a y.k)) (combV (1) x.kg y.kg (combE (1) x.m x.kg x.s x.a x.k y.m y.kg y.s y.a y.k)) (combV (1) x.s y.s (combE (1) x.m x.kg x.s x.a x.k y.m y.kg y.s y.a y.k)) (combV (1) x.a y.a (combE (1) x.m x.kg x.s x.a x.k y.m y.kg y.s y.a y.k)) (combV (1) x.k y.k (combE (1) x.m x.kg x.s x.a x.k y.m y.kg y.s y.a y.k)) t.m t.kg t.s t.a t.k
  else if op = 8 then decide (combE (-1) x.m x.kg x.s x.a x.k y.m y.kg y.s y.a y.k = 0) && ueq (combV (-1) x.m y.m (combE (-1) x.m x.kg x.s x.a x.k y.m y.kg y.s y.a y.k)) (combV (-1) x.kg y.kg (combE (-1) x.m x.kg x.s x.a x.k y.m y.kg y.s y.a y.k)) (combV (-1) x.s y.s (combE (-1) x.m x.kg x.s x.a x.k y.m y.kg y.s y.a y.k)) (combV (-1) x.a y.a (combE (-1) x.m x.kg x.s x.a x.k y.m y.kg y.s y.a y.k)) (combV (-1) x.k y.k (combE (-1) x.m x.kg x.s x.a x.k y.m y.kg y.s y.a y.k)) t.m t.kg t.s t.a t.k
  else if op = 9 ∨ op = 10 then ueq x.m x.kg x.s x.a x.k t.m t.kg t.s t.a t.k
  else ueq x.m x.kg x.s x.a x.k y.m y.kg y.s y.a y.k
set_option maxRecDepth 100000 in
set_option maxHeartbeats 4000000 in
theorem un_5 (a b c k : Int) (x y t : Fx) (w : World) : Calls Try.prog 108 #[.agg #[.int .i64 5, .int .i64 a, .int .i64 b, .int .i64 c, .int .i64 k], .agg #[.int .i64 x.bits, .bool x.sg, .int .i64 x.num, .int .i64 x.off, .int .i64 x.den, .int .i64 x.m, .int .i64 x.kg, .int .i64 x.s, .int .i64 x.a, .int .i64 x.k], .agg #[.int .i64 y.bits, .bool y.sg, .int .i64 y.num, .int .i64 y.off, .int .i64 y.den, .int .i64 y.m, .int .i64 y.kg, .int .i64 y.s, .int .i64 y.a, .int .i64 y.k], .agg #[.int .i64 t.bits, .bool t.sg, .int .i64 t.num, .int .i64 t.off, .int .i64 t.den, .int .i64 t.m, .int .i64 t.kg, .int .i64 t.s, .int .i64 t.a, .int .i64 t.k]] w fun e w' => e = .returned (.bool (unitsB 5 x y t)) ∧ Below w.heap.size w w' := by
  have HR : Hid (unitsB 5 x y t = (ueq x.m x.kg x.s x.a x.k y.m y.kg y.s y.a y.k && ueq x.m x.kg x.s x.a x.k t.m t.kg t.s t.a t.k)) := Lib.hid (by unfold unitsB; simp)
  rw [HR.out]
  clear HR
  obtain ⟨x0, x1, x2, x3, x4, x5, x6, x7, x8, x9⟩ := x
  obtain ⟨y0, y1, y2, y3, y4, y5, y6, y7, y8, y9⟩ := y
  obtain ⟨t0, t1, t2, t3, t4, t5, t6, t7, t8, t9⟩ := t
  simp only
  have HEQ := eql_unit
  go_enter Try.func108, Try.ntmps108
  go_wp2
  all_goals go_ret
  all_goals exact ⟨by first | rfl | (simp [*]; done) | (simp_all; done), by (repeat' (first | (with_reducible exact Below.refl _ _) | (with_reducible assumption) | (with_reducible refine below_alloc ?_ _) | (with_reducible refine Below.drew ?_) | (with_reducible refine below_drewN ?_ _) | (with_reducible refine below_step (by assumption) ?_) | (with_reducible refine below_later ?_ _) | (with_reducible refine Below.setCell ?_ ?_ _) | go_size))⟩
set_option maxRecDepth 100000 in
set_option maxHeartbeats 4000000 in
theorem un_6 (a b c k : Int) (x y t : Fx) (w : World) : Calls Try.prog 108 #[.agg #[.int .i64 6, .int .i64 a, .int .i64 b, .int .i64 c, .int .i64 k], .agg #[.int .i64 x.bits, .bool x.sg, .int .i64 x.num, .int .i64 x.off, .int .i64 x.den, .int .i64 x.m, .int .i64 x.kg, .int .i64 x.s, .int .i64 x.a, .int .i64 x.k], .agg #[.int .i64 y.bits, .bool y.sg, .int .i64 y.num, .int .i64 y.off, .int .i64 y.den, .int .i64 y.m, .int .i64 y.kg, .int .i64 y.s, .int .i64 y.a, .int .i64 y.k], .agg #[.int .i64 t.bits, .bool t.sg, .int .i64 t.num, .int .i64 t.off, .int .i64 t.den, .int .i64 t.m, .int .i64 t.kg, .int .i64 t.s, .int .i64 t.a, .int .i64 t.k]] w fun e w' => e = .returned (.bool (unitsB 6 x y t)) ∧ Below w.heap.size w w' := by
  have HR : Hid (unitsB 6 x y t = (ueq x.m x.kg x.s x.a x.k y.m y.kg y.s y.a y.k && ueq x.m x.kg x.s x.a x.k t.m t.kg t.s t.a t.k)) := Lib.hid (by unfold unitsB; simp)
  rw [HR.out]
  clear HR
  obtain ⟨x0, x1, x2, x3, x4, x5, x6, x7, x8, x9⟩ := x
  obtain ⟨y0, y1, y2, y3, y4, y5, y6, y7, y8, y9⟩ := y
  obtain ⟨t0, t1, t2, t3, t4, t5, t6, t7, t8, t9⟩ := t
  simp only
  have HEQ := eql_unit
  go_enter Try.func108, Try.ntmps108
  go_wp2
  all_goals go_ret
  all_goals exact ⟨by first | rfl | (simp [*]; done) | (simp_all; done), by (repeat' (first | (with_reducible exact Below.refl _ _) | (with_reducible assumption) | (with_reducible refine below_alloc ?_ _) | (with_reducible refine Below.drew ?_) | (with_reducible refine below_drewN ?_ _) | (with_reducible refine below_step (by assumption) ?_) | (with_reducible refine below_later ?_ _) | (with_reducible refine Below.setCell ?_ ?_ _) | go_size))⟩
set_option maxRecDepth 100000 in
set_option maxHeartbeats 4000000 in
theorem un_7 (a b c k : Int) (x y t : Fx) (w : World) : Calls Try.prog 108 #[.agg #[.int .i64 7, .int .i64 a, .int .i64 b, .int .i64 c, .int .i64 k], .agg #[.int .i64 x.bits, .bool x.sg, .int .i64 x.num, .int .i64 x.off, .int .i64 x.den, .int .i64 x.m, .int .i64 x.kg, .int .i64 x.s, .int .i64 x.a, .int .i64 x.k], .agg #[.int .i64 y.bits, .bool y.sg, .int .i64 y.num, .int .i64 y.off, .int .i64 y.den, .int .i64 y.m, .int .i64 y.kg, .int .i64 y.s, .int .i64 y.a, .int .i64 y.k], .agg #[.int .i64 t.bits, .bool t.sg, .int .i64 t.num, .int .i64 t.off, .int .i64 t.den, .int .i64 t.m, .int .i64 t.kg, .int .i64 t.s, .int .i64 t.a, .int .i64 t.k]] w fun e w' => e = .returned (.bool (unitsB 7 x y t)) ∧ Below w.heap.size w w' := by
  have HR : Hid (unitsB 7 x y t = (decide (combE 1 x.m x.kg x.s x.a x.k y.m y.kg y.s y.a y.k = 0) && ueq (combV 1 x.m y.m (combE 1 x.m x.kg x.s x.a x.k y.m y.kg y.s y.a y.k)) (combV 1 x.kg y.kg (combE 1 x.m x.kg x.s x.a x.k y.m y.kg y.s y.a y.k)) (combV 1 x.s y.s (combE 1 x.m x.kg x.s x.a x.k y.m y.kg y.s y.a y.k)) (combV 1 x.a y.a (combE 1 x.m x.kg x.s x.a x.k y.m y.kg y.s y.a y.k)) (combV 1 x.k y.k (combE 1 x.m x.kg x.s x.a x.k y.m y.kg y.s y.a y.k)) t.m t.kg t.s t.a t.k)) := Lib.hid (by unfold unitsB; simp)
  rw [HR.out]
  clear HR
  obtain ⟨x0, x1, x2, x3, x4, x5, x6, x7, x8, x9⟩ := x
  obtain ⟨y0, y1, y2, y3, y4, y5, y6, y7, y8, y9⟩ := y
  obtain ⟨t0, t1, t2, t3, t4, t5, t6, t7, t8, t9⟩ := t
  simp only
  have HEQ := eql_unit
  obtain ⟨E, hE⟩ : ∃ E, combE (1) x5 x6 x7 x8 x9 y5 y6 y7 y8 y9 = E := ⟨_, rfl⟩
  rw [hE]
  have HM := Lib.hid (fun w => mul_v x5 x6 x7 x8 x9 y5 y6 y7 y8 y9 E hE w)
  clear hE
  generalize combV (1) x5 y5 E = v5 at *
  generalize combV (1) x6 y6 E = v6 at *
  generalize combV (1) x7 y7 E = v7 at *
  generalize combV (1) x8 y8 E = v8 at *
  generalize combV (1) x9 y9 E = v9 at *
  by_cases h0 : E = 0
  · subst h0
    go_enter Try.func108, Try.ntmps108
    go_wp2_with (first | (go_at_call 121; refine (HM.out _).mono ?_; rintro _ w1 ⟨rfl, hb1⟩; obtain ⟨hb1c, hb1f⟩ := bcell hb1; have hb1s := hb1.size; (try simp only [World.size_alloc] at hb1s); have hx1 : w.heap.size + 1 < w1.heap.size := (by omega); have hx2 : w.heap.size + 1 + 1 < w1.heap.size := (by omega); have hx3 : w.heap.size + 1 + 1 + 1 < w1.heap.size := (by omega)))
    all_goals go_ret
    all_goals exact ⟨by first | rfl | (simp [*]; done), by (repeat' (first | (with_reducible exact Below.refl _ _) | (with_reducible assumption) | (with_reducible refine below_alloc ?_ _) | (with_reducible refine Below.drew ?_) | (with_reducible refine below_drewN ?_ _) | (with_reducible refine below_step (by assumption) ?_) | (with_reducible refine below_later ?_ _) | (with_reducible refine Below.setCell ?_ ?_ _) | go_size))⟩
  · go_enter Try.func108, Try.ntmps108
    go_wp2_with (first | (go_at_call 121; refine (HM.out _).mono ?_; rintro _ w1 ⟨rfl, hb1⟩; obtain ⟨hb1c, hb1f⟩ := bcell hb1; have hb1s := hb1.size; (try simp only [World.size_alloc] at hb1s); have hx1 : w.heap.size + 1 < w1.heap.size := (by omega); have hx2 : w.heap.size + 1 + 1 < w1.heap.size := (by omega); have hx3 : w.heap.size + 1 + 1 + 1 < w1.heap.size := (by omega)))
    all_goals go_ret
    all_goals exact ⟨by first | rfl | (simp [*]; done), by (repeat' (first | (with_reducible exact Below.refl _ _) | (with_reducible assumption) | (with_reducible refine below_alloc ?_ _) | (with_reducible refine Below.drew ?_) | (with_reducible refine below_drewN ?_ _) | (with_reducible refine below_step (by assumption) ?_) | (with_reducible refine below_later ?_ _) | (with_reducible refine Below.setCell ?_ ?_ _) | go_size))⟩
set_option maxRecDepth 100000 in
set_option maxHeartbeats 4000000 in
theorem un_8 (a b c k : Int) (x y t : Fx) (w : World) : Calls Try.prog 108 #[.agg #[.int .i64 8, .int .i64 a, .int .i64 b, .int .i64 c, .int .i64 k], .agg #[.int .i64 x.bits, .bool x.sg, .int .i64 x.num, .int .i64 x.off, .int .i64 x.den, .int .i64 x.m, .int .i64 x.kg, .int .i64 x.s, .int .i64 x.a, .int .i64 x.k], .agg #[.int .i64 y.bits, .bool y.sg, .int .i64 y.num, .int .i64 y.off, .int .i64 y.den, .int .i64 y.m, .int .i64 y.kg, .int .i64 y.s, .int .i64 y.a, .int .i64 y.k], .agg #[.int .i64 t.bits, .bool t.sg, .int .i64 t.num, .int .i64 t.off, .int .i64 t.den, .int .i64 t.m, .int .i64 t.kg, .int .i64 t.s, .int .i64 t.a, .int .i64 t.k]] w fun e w' => e = .returned (.bool (unitsB 8 x y t)) ∧ Below w.heap.size w w' := by
  have HR : Hid (unitsB 8 x y t = (decide (combE (-1) x.m x.kg x.s x.a x.k y.m y.kg y.s y.a y.k = 0) && ueq (combV (-1) x.m y.m (combE (-1) x.m x.kg x.s x.a x.k y.m y.kg y.s y.a y.k)) (combV (-1) x.kg y.kg (combE (-1) x.m x.kg x.s x.a x.k y.m y.kg y.s y.a y.k)) (combV (-1) x.s y.s (combE (-1) x.m x.kg x.s x.a x.k y.m y.kg y.s y.a y.k)) (combV (-1) x.a y.a (combE (-1) x.m x.kg x.s x.a x.k y.m y.kg y.s y.a y.k)) (combV (-1) x.k y.k (combE (-1) x.m x.kg x.s x.a x.k y.m y.kg y.s y.a y.k)) t.m t.kg t.s t.a t.k)) := Lib.hid (by unfold unitsB; simp)
  rw [HR.out]
  clear HR
  obtain ⟨x0, x1, x2, x3, x4, x5, x6, x7, x8, x9⟩ := x
  obtain ⟨y0, y1, y2, y3, y4, y5, y6, y7, y8, y9⟩ := y
  obtain ⟨t0, t1, t2, t3, t4, t5, t6, t7, t8, t9⟩ := t
  simp only
  have HEQ := eql_unit
  obtain ⟨E, hE⟩ : ∃ E, combE (-1) x5 x6 x7 x8 x9 y5 y6 y7 y8 y9 = E := ⟨_, rfl⟩
  rw [hE]
  have HM := Lib.hid (fun w => div_v x5 x6 x7 x8 x9 y5 y6 y7 y8 y9 E hE w)
  clear hE
  generalize combV (-1) x5 y5 E = v5 at *
  generalize combV (-1) x6 y6 E = v6 at *
  generalize combV (-1) x7 y7 E = v7 at *
  generalize combV (-1) x8 y8 E = v8 at *
  generalize combV (-1) x9 y9 E = v9 at *
  by_cases h0 : E = 0
  · subst h0
    go_enter Try.func108, Try.ntmps108
    go_wp2_with (first | (go_at_call 122; refine (HM.out _).mono ?_; rintro _ w1 ⟨rfl, hb1⟩; obtain ⟨hb1c, hb1f⟩ := bcell hb1; have hb1s := hb1.size; (try simp only [World.size_alloc] at hb1s); have hx1 : w.heap.size + 1 < w1.heap.size := (by omega); have hx2 : w.heap.size + 1 + 1 < w1.heap.size := (by omega); have hx3 : w.heap.size + 1 + 1 + 1 < w1.heap.size := (by omega)))
    all_goals go_ret
    all_goals exact ⟨by first | rfl | (simp [*]; done), by (repeat' (first | (with_reducible exact Below.refl _ _) | (with_reducible assumption) | (with_reducible refine below_alloc ?_ _) | (with_reducible refine Below.drew ?_) | (with_reducible refine below_drewN ?_ _) | (with_reducible refine below_step (by assumption) ?_) | (with_reducible refine below_later ?_ _) | (with_reducible refine Below.setCell ?_ ?_ _) | go_size))⟩
  · go_enter Try.func108, Try.ntmps108
    go_wp2_with (first | (go_at_call 122; refine (HM.out _).mono ?_; rintro _ w1 ⟨rfl, hb1⟩; obtain ⟨hb1c, hb1f⟩ := bcell hb1; have hb1s := hb1.size; (try simp only [World.size_alloc] at hb1s); have hx1 : w.heap.size + 1 < w1.heap.size := (by omega); have hx2 : w.heap.size + 1 + 1 < w1.heap.size := (by omega); have hx3 : w.heap.size + 1 + 1 + 1 < w1.heap.size := (by omega)))
    all_goals go_ret
    all_goals exact ⟨by first | rfl | (simp [*]; done), by (repeat' (first | (with_reducible exact Below.refl _ _) | (with_reducible assumption) | (with_reducible refine below_alloc ?_ _) | (with_reducible refine Below.drew ?_) | (with_reducible refine below_drewN ?_ _) | (with_reducible refine below_step (by assumption) ?_) | (with_reducible refine below_later ?_ _) | (with_reducible refine Below.setCell ?_ ?_ _) | go_size))⟩
set_option maxRecDepth 100000 in
set_option maxHeartbeats 4000000 in
theorem un_9 (a b c k : Int) (x y t : Fx) (w : World) : Calls Try.prog 108 #[.agg #[.int .i64 9, .int .i64 a, .int .i64 b, .int .i64 c, .int .i64 k], .agg #[.int .i64 x.bits, .bool x.sg, .int .i64 x.num, .int .i64 x.off, .int .i64 x.den, .int .i64 x.m, .int .i64 x.kg, .int .i64 x.s, .int .i64 x.a, .int .i64 x.k], .agg #[.int .i64 y.bits, .bool y.sg, .int .i64 y.num, .int .i64 y.off, .int .i64 y.den, .int .i64 y.m, .int .i64 y.kg, .int .i64 y.s, .int .i64 y.a, .int .i64 y.k], .agg #[.int .i64 t.bits, .bool t.sg, .int .i64 t.num, .int .i64 t.off, .int .i64 t.den, .int .i64 t.m, .int .i64 t.kg, .int .i64 t.s, .int .i64 t.a, .int .i64 t.k]] w fun e w' => e = .returned (.bool (unitsB 9 x y t)) ∧ Below w.heap.size w w' := by
  have HR : Hid (unitsB 9 x y t = (ueq x.m x.kg x.s x.a x.k t.m t.kg t.s t.a t.k)) := Lib.hid (by unfold unitsB; simp)
  rw [HR.out]
  clear HR
  obtain ⟨x0, x1, x2, x3, x4, x5, x6, x7, x8, x9⟩ := x
  obtain ⟨y0, y1, y2, y3, y4, y5, y6, y7, y8, y9⟩ := y
  obtain ⟨t0, t1, t2, t3, t4, t5, t6, t7, t8, t9⟩ := t
  simp only
  have HEQ := eql_unit
  go_enter Try.func108, Try.ntmps108
  go_wp2
  all_goals go_ret
  all_goals exact ⟨by first | rfl | (simp [*]; done) | (simp_all; done), by (repeat' (first | (with_reducible exact Below.refl _ _) | (with_reducible assumption) | (with_reducible refine below_alloc ?_ _) | (with_reducible refine Below.drew ?_) | (with_reducible refine below_drewN ?_ _) | (with_reducible refine below_step (by assumption) ?_) | (with_reducible refine below_later ?_ _) | (with_reducible refine Below.setCell ?_ ?_ _) | go_size))⟩
set_option maxRecDepth 100000 in
set_option maxHeartbeats 4000000 in
theorem un_10 (a b c k : Int) (x y t : Fx) (w : World) : Calls Try.prog 108 #[.agg #[.int .i64 10, .int .i64 a, .int .i64 b, .int .i64 c, .int .i64 k], .agg #[.int .i64 x.bits, .bool x.sg, .int .i64 x.num, .int .i64 x.off, .int .i64 x.den, .int .i64 x.m, .int .i64 x.kg, .int .i64 x.s, .int .i64 x.a, .int .i64 x.k], .agg #[.int .i64 y.bits, .bool y.sg, .int .i64 y.num, .int .i64 y.off, .int .i64 y.den, .int .i64 y.m, .int .i64 y.kg, .int .i64 y.s, .int .i64 y.a, .int .i64 y.k], .agg #[.int .i64 t.bits, .bool t.sg, .int .i64 t.num, .int .i64 t.off, .int .i64 t.den, .int .i64 t.m, .int .i64 t.kg, .int .i64 t.s, .int .i64 t.a, .int .i64 t.k]] w fun e w' => e = .returned (.bool (unitsB 10 x y t)) ∧ Below w.heap.size w w' := by
  have HR : Hid (unitsB 10 x y t = (ueq x.m x.kg x.s x.a x.k t.m t.kg t.s t.a t.k)) := Lib.hid (by unfold unitsB; simp)
  rw [HR.out]
  clear HR
  obtain ⟨x0, x1, x2, x3, x4, x5, x6, x7, x8, x9⟩ := x
  obtain ⟨y0, y1, y2, y3, y4, y5, y6, y7, y8, y9⟩ := y
  obtain ⟨t0, t1, t2, t3, t4, t5, t6, t7, t8, t9⟩ := t
  simp only
  have HEQ := eql_unit
  go_enter Try.func108, Try.ntmps108
  go_wp2
  all_goals go_ret
  all_goals exact ⟨by first | rfl | (simp [*]; done) | (simp_all; done), by (repeat' (first | (with_reducible exact Below.refl _ _) | (with_reducible assumption) | (with_reducible refine below_alloc ?_ _) | (with_reducible refine Below.drew ?_) | (with_reducible refine below_drewN ?_ _) | (with_reducible refine below_step (by assumption) ?_) | (with_reducible refine below_later ?_ _) | (with_reducible refine Below.setCell ?_ ?_ _) | go_size))⟩
set_option maxRecDepth 100000 in
set_option maxHeartbeats 4000000 in
theorem un_o (op a b c k : Int) (o5 : ¬ op = 5) (o6 : ¬ op = 6) (o7 : ¬ op = 7) (o8 : ¬ op = 8) (o9 : ¬ op = 9) (o10 : ¬ op = 10) (x y t : Fx) (w : World) : Calls Try.prog 108 #[.agg #[.int .i64 op, .int .i64 a, .int .i64 b, .int .i64 c, .int .i64 k], .agg #[.int .i64 x.bits, .bool x.sg, .int .i64 x.num, .int .i64 x.off, .int .i64 x.den, .int .i64 x.m, .int .i64 x.kg, .int .i64 x.s, .int .i64 x.a, .int .i64 x.k], .agg #[.int .i64 y.bits, .bool y.sg, .int .i64 y.num, .int .i64 y.off, .int .i64 y.den, .int .i64 y.m, .int .i64 y.kg, .int .i64 y.s, .int .i64 y.a, .int .i64 y.k], .agg #[.int .i64 t.bits, .bool t.sg, .int .i64 t.num, .int .i64 t.off, .int .i64 t.den, .int .i64 t.m, .int .i64 t.kg, .int .i64 t.s, .int .i64 t.a, .int .i64 t.k]] w fun e w' => e = .returned (.bool (unitsB op x y t)) ∧ Below w.heap.size w w' := by
  have HR : Hid (unitsB op x y t = (ueq x.m x.kg x.s x.a x.k y.m y.kg y.s y.a y.k)) := Lib.hid (by unfold unitsB; simp [*])
  rw [HR.out]
  clear HR
  obtain ⟨x0, x1, x2, x3, x4, x5, x6, x7, x8, x9⟩ := x
  obtain ⟨y0, y1, y2, y3, y4, y5, y6, y7, y8, y9⟩ := y
  obtain ⟨t0, t1, t2, t3, t4, t5, t6, t7, t8, t9⟩ := t
  simp only
  have HEQ := eql_unit
  go_enter Try.func108, Try.ntmps108
  go_wp2
  all_goals go_ret
  all_goals exact ⟨by first | rfl | (simp [*]; done) | (simp_all; done), by (repeat' (first | (with_reducible exact Below.refl _ _) | (with_reducible assumption) | (with_reducible refine below_alloc ?_ _) | (with_reducible refine Below.drew ?_) | (with_reducible refine below_drewN ?_ _) | (with_reducible refine below_step (by assumption) ?_) | (with_reducible refine below_later ?_ _) | (with_reducible refine Below.setCell ?_ ?_ _) | go_size))⟩
theorem units_any (op a b c k : Int) (x y t : Fx) (w : World) : Calls Try.prog 108 #[.agg #[.int .i64 op, .int .i64 a, .int .i64 b, .int .i64 c, .int .i64 k], .agg #[.int .i64 x.bits, .bool x.sg, .int .i64 x.num, .int .i64 x.off, .int .i64 x.den, .int .i64 x.m, .int .i64 x.kg, .int .i64 x.s, .int .i64 x.a, .int .i64 x.k], .agg #[.int .i64 y.bits, .bool y.sg, .int .i64 y.num, .int .i64 y.off, .int .i64 y.den, .int .i64 y.m, .int .i64 y.kg, .int .i64 y.s, .int .i64 y.a, .int .i64 y.k], .agg #[.int .i64 t.bits, .bool t.sg, .int .i64 t.num, .int .i64 t.off, .int .i64 t.den, .int .i64 t.m, .int .i64 t.kg, .int .i64 t.s, .int .i64 t.a, .int .i64 t.k]] w fun e w' => e = .returned (.bool (unitsB op x y t)) ∧ Below w.heap.size w w' := by
  by_cases o5 : op = 5
  · subst o5
    exact un_5 a b c k x y t w
  by_cases o6 : op = 6
  · subst o6
    exact un_6 a b c k x y t w
  by_cases o7 : op = 7
  · subst o7
    exact un_7 a b c k x y t w
  by_cases o8 : op = 8
  · subst o8
    exact un_8 a b c k x y t w
  by_cases o9 : op = 9
  · subst o9
    exact un_9 a b c k x y t w
  by_cases o10 : op = 10
  · subst o10
    exact un_10 a b c k x y t w
  exact un_o op a b c k o5 o6 o7 o8 o9 o10 x y t w
end Go.Proofs.Ytfooefiaenlhmaa
namespace Go.Proofs.Ytfooefiaenlhmaa
set_option linter.unusedVariables false
set_option linter.unusedSimpArgs false
open Go.RowKit Go.ChangeShapes Go.WideShapes Go.ChangeAt

theorem setCell_self {W : World} {a : Addr} {v : Value} (h : W.cell? a = some v) : W.setCell a v = W := by
  unfold World.setCell
  have hm : ∀ f : Obj → Obj, (∀ o, W.heap[a.block]? = some o → f o = o) → W.heap.modify a.block f = W.heap := fun f hf => by
    apply Array.ext
    · simp
    · intro i h1 h2
      rw [Array.getElem_modify]
      split
      · rename_i hi
        subst hi
        exact hf _ (Array.getElem?_eq_getElem h2)
      · rfl
  rw [hm]
  intro o ho
  unfold World.cell? at h
  rw [ho] at h
  cases o with
  | cells c e f =>
    simp only at h ⊢
    split at h
    · cases h
    · rename_i hs
      have hs2 : a.spot.isSome = false := by simpa using hs
      obtain ⟨hlt, hv⟩ := Array.getElem?_eq_some_iff.1 h
      have hc : c.setIfInBounds a.off v = c := by
        apply Array.ext
        · simp
        · intro i h1 h2
          rw [Array.getElem_setIfInBounds]
          split
          · rename_i hi; subst hi; exact hv.symm
          · rfl
      simp [hs2, hc]
  | _ => rfl
theorem cap_world2 {P : World → Prop} (W : World) (h : ∀ W', W' = W → P W') : P W := h W rfl
end Go.Proofs.Ytfooefiaenlhmaa
