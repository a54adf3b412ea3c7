/- Lemmas for the laws of package magnetolaw15: what its functions return, for any arguments that the lemmas name. -/
import Derived.Test.YtfooefiaenlhmaaGreatGB1
import Derived.Lib.Strings
import Derived.Lib.Slices
import Derived.Lib.Walk
import Derived.Lib.Bytealg
import Derived.Laws.Bits128
set_option maxRecDepth 100000
namespace Go.Proofs.YtfooefiaenlhmaaGreat
set_option linter.all false
set_option maxHeartbeats 16000000
open Go.RowKit Go.ChangeShapes Go.WideShapes Go.ChangeAt
def rowN : Nat → ByteArray
 | 0 => ⟨#[]⟩
 | 1 => ⟨#[99, 111, 110, 115, 116]⟩
 | 2 => ⟨#[108, 111, 97, 100]⟩
 | 3 => ⟨#[115, 116, 111, 114, 101]⟩
 | 4 => ⟨#[109, 111, 118, 101]⟩
 | 5 => ⟨#[97, 100, 100]⟩
 | 6 => ⟨#[115, 117, 98]⟩
 | 7 => ⟨#[109, 117, 108]⟩
 | 8 => ⟨#[100, 105, 118]⟩
 | 9 => ⟨#[110, 101, 103]⟩
 | 10 => ⟨#[99, 111, 110, 118, 101, 114, 116]⟩
 | 11 => ⟨#[109, 105, 110]⟩
 | 12 => ⟨#[109, 97, 120]⟩
 | 13 => ⟨#[108, 101, 115, 115]⟩
 | 14 => ⟨#[101, 113, 117, 97, 108]⟩
 | 15 => ⟨#[98, 101, 108, 111, 119]⟩
 | 16 => ⟨#[97, 110, 100]⟩
 | 17 => ⟨#[111, 114]⟩
 | 18 => ⟨#[110, 111, 116]⟩
 | 19 => ⟨#[115, 101, 108, 101, 99, 116]⟩
 | 20 => ⟨#[99, 117, 114, 118, 101]⟩
 | 21 => ⟨#[109, 97, 112]⟩
 | 22 => ⟨#[108, 97, 103]⟩
 | _ => ⟨#[]⟩
def rowF : Nat → ByteArray
 | 0 => ⟨#[]⟩
 | 1 => ⟨#[65, 75]⟩
 | 2 => ⟨#[65, 75]⟩
 | 3 => ⟨#[65, 75]⟩
 | 4 => ⟨#[65, 66]⟩
 | 5 => ⟨#[65, 66, 67, 75]⟩
 | 6 => ⟨#[65, 66, 67, 75]⟩
 | 7 => ⟨#[65, 66, 67, 75]⟩
 | 8 => ⟨#[65, 66, 67, 75]⟩
 | 9 => ⟨#[65, 66, 75]⟩
 | 10 => ⟨#[65, 66, 75]⟩
 | 11 => ⟨#[65, 66, 67]⟩
 | 12 => ⟨#[65, 66, 67]⟩
 | 13 => ⟨#[65, 66, 67, 75]⟩
 | 14 => ⟨#[65, 66, 67, 75]⟩
 | 15 => ⟨#[65, 66, 67]⟩
 | 16 => ⟨#[65, 66, 67]⟩
 | 17 => ⟨#[65, 66, 67]⟩
 | 18 => ⟨#[65, 66]⟩
 | 19 => ⟨#[65, 66, 67, 75]⟩
 | 20 => ⟨#[65, 66, 75]⟩
 | 21 => ⟨#[65, 66, 67, 75]⟩
 | 22 => ⟨#[65, 66, 75]⟩
 | _ => ⟨#[]⟩
def rowC : Nat → Int
 | 0 => 0
 | 1 => 1
 | 2 => 2
 | 3 => 2
 | 4 => 1
 | 5 => 3
 | 6 => 3
 | 7 => 4
 | 8 => 12
 | 9 => 3
 | 10 => 4
 | 11 => 1
 | 12 => 1
 | 13 => 3
 | 14 => 4
 | 15 => 1
 | 16 => 1
 | 17 => 1
 | 18 => 1
 | 19 => 2
 | 20 => 20
 | 21 => 40
 | 22 => 8
 | _ => 0
def yid : Array Value := #[.string ⟨#[]⟩, .string ⟨#[]⟩, .int .i64 0, .string ⟨#[99, 111, 110, 115, 116]⟩, .string ⟨#[65, 75]⟩, .int .i64 1, .string ⟨#[108, 111, 97, 100]⟩, .string ⟨#[65, 75]⟩, .int .i64 2, .string ⟨#[115, 116, 111, 114, 101]⟩, .string ⟨#[65, 75]⟩, .int .i64 2, .string ⟨#[109, 111, 118, 101]⟩, .string ⟨#[65, 66]⟩, .int .i64 1, .string ⟨#[97, 100, 100]⟩, .string ⟨#[65, 66, 67, 75]⟩, .int .i64 3, .string ⟨#[115, 117, 98]⟩, .string ⟨#[65, 66, 67, 75]⟩, .int .i64 3, .string ⟨#[109, 117, 108]⟩, .string ⟨#[65, 66, 67, 75]⟩, .int .i64 4, .string ⟨#[100, 105, 118]⟩, .string ⟨#[65, 66, 67, 75]⟩, .int .i64 12, .string ⟨#[110, 101, 103]⟩, .string ⟨#[65, 66, 75]⟩, .int .i64 3, .string ⟨#[99, 111, 110, 118, 101, 114, 116]⟩, .string ⟨#[65, 66, 75]⟩, .int .i64 4, .string ⟨#[109, 105, 110]⟩, .string ⟨#[65, 66, 67]⟩, .int .i64 1, .string ⟨#[109, 97, 120]⟩, .string ⟨#[65, 66, 67]⟩, .int .i64 1, .string ⟨#[108, 101, 115, 115]⟩, .string ⟨#[65, 66, 67, 75]⟩, .int .i64 3, .string ⟨#[101, 113, 117, 97, 108]⟩, .string ⟨#[65, 66, 67, 75]⟩, .int .i64 4, .string ⟨#[98, 101, 108, 111, 119]⟩, .string ⟨#[65, 66, 67]⟩, .int .i64 1, .string ⟨#[97, 110, 100]⟩, .string ⟨#[65, 66, 67]⟩, .int .i64 1, .string ⟨#[111, 114]⟩, .string ⟨#[65, 66, 67]⟩, .int .i64 1, .string ⟨#[110, 111, 116]⟩, .string ⟨#[65, 66]⟩, .int .i64 1, .string ⟨#[115, 101, 108, 101, 99, 116]⟩, .string ⟨#[65, 66, 67, 75]⟩, .int .i64 2, .string ⟨#[99, 117, 114, 118, 101]⟩, .string ⟨#[65, 66, 75]⟩, .int .i64 20, .string ⟨#[109, 97, 112]⟩, .string ⟨#[65, 66, 67, 75]⟩, .int .i64 40, .string ⟨#[108, 97, 103]⟩, .string ⟨#[65, 66, 75]⟩, .int .i64 8]
theorem yjq (n : Nat) (h : n < 23) : yid[n * 3]? = some (.string (rowN n)) ∧ yid[n * 3 + 1]? = some (.string (rowF n)) ∧ yid[n * 3 + 2]? = some (.int .i64 (rowC n)) := by
 rcases n with _ | _ | _ | _ | _ | _ | _ | _ | _ | _ | _ | _ | _ | _ | _ | _ | _ | _ | _ | _ | _ | _ | _ | n
 all_goals first | exact ⟨rfl, rfl, rfl⟩ | omega
theorem rows_any (w : World) : Calls Tryz.prog 116 #[] w fun e w' => ∃ g, e = .returned (.slice (some ⟨g, 0, none⟩) 23 23) ∧ w.heap.size ≤ g ∧ g < w'.heap.size ∧ Below w.heap.size w w' ∧ Hid (∀ n, n < 23 → w'.cell? ⟨g, n * 3, none⟩ = some (.string (rowN n)) ∧ w'.cell? ⟨g, n * 3 + 1, none⟩ = some (.string (rowF n)) ∧ w'.cell? ⟨g, n * 3 + 2, none⟩ = some (.int .i64 (rowC n))) := by
 go_enter Tryz.func116, Tryz.ntmps116
 go_wp2
 go_ret
 refine ⟨w.heap.size, rfl, Nat.le_refl _, by simp, bw, H! (fun n hn => ?_)⟩
 have h := yjq n hn
 exact ⟨(World.cell?_alloc_new _ _ _ _).trans h.1, (World.cell?_alloc_new _ _ _ _).trans h.2.1, (World.cell?_alloc_new _ _ _ _).trans h.2.2⟩
def opB (op : Int) : Bool := decide (1 ≤ op ∧ op ≤ 22)
def typB (op : Int) : Bool := decide (5 ≤ op ∧ op ≤ 10 ∨ op = 13 ∨ op = 14)
theorem yjh (op : Int) (w : World) : Calls Tryz.prog 115 #[.int .i64 op] w fun e w' => e = .returned (.bool (opB op)) ∧ w' = w := by
 by_cases h1 : 1 ≤ op
 ·
  by_cases h2 : op ≤ 22
  ·
   have H : Hid (opB op = true) := H! (by simp [opB, h1, h2])
   go_enter Tryz.func115, Tryz.ntmps115
   go_wp2
   go_ret
   exact ⟨by rw [H.out]; simp [h1, h2], rfl⟩
  ·
   have H : Hid (opB op = false) := H! (by simp [opB, h1, h2])
   go_enter Tryz.func115, Tryz.ntmps115
   go_wp2
   go_ret
   exact ⟨by rw [H.out]; simp [h1, h2], rfl⟩
 ·
  have H : Hid (opB op = false) := H! (by simp [opB, h1])
  go_enter Tryz.func115, Tryz.ntmps115
  go_wp2
  go_ret
  exact ⟨by rw [H.out]; simp [h1], rfl⟩
theorem ymd (op : Int) (w : World) : Calls Tryz.prog 107 #[.int .i64 op] w fun e w' => e = .returned (.bool (typB op)) ∧ w' = w := by
 by_cases h13 : op = 13
 ·
  subst h13
  have H : Hid (typB 13 = true) := H! (by rfl)
  go_enter Tryz.func107, Tryz.ntmps107
  go_wp2
  go_ret
  exact ⟨by rw [H.out]; first | rfl | (simp [*]; done), rfl⟩
 by_cases h14 : op = 14
 ·
  subst h14
  have H : Hid (typB 14 = true) := H! (by rfl)
  go_enter Tryz.func107, Tryz.ntmps107
  go_wp2
  go_ret
  exact ⟨by rw [H.out]; first | rfl | (simp [*]; done), rfl⟩
 by_cases h5 : 5 ≤ op
 ·
  by_cases h10 : op ≤ 10
  ·
   have H : Hid (typB op = true) := H! (by unfold typB; simp [h5, h10])
   go_enter Tryz.func107, Tryz.ntmps107
   go_wp2
   go_ret
   exact ⟨by rw [H.out]; first | rfl | (simp [*]; done), rfl⟩
  ·
   have H : Hid (typB op = false) := H! (by unfold typB; simp [h5, h10, h13, h14])
   go_enter Tryz.func107, Tryz.ntmps107
   go_wp2
   go_ret
   exact ⟨by rw [H.out]; first | rfl | (simp [*]; done), rfl⟩
 ·
  have H : Hid (typB op = false) := H! (by unfold typB; simp [h5, h13, h14])
  go_enter Tryz.func107, Tryz.ntmps107
  go_wp2
  go_ret
  exact ⟨by rw [H.out]; first | rfl | (simp [*]; done), rfl⟩
theorem yaj (k : Int) (hk : I64 k) (w : World) : Calls Tryz.prog 121 #[.int .i64 k] w fun e w' => e = .returned (.tuple #[.int .i64 (k / 16384), .int .i64 (k / 128 % 128), .int .i64 (k % 128)]) ∧ w' = w := by
 have h1 := i64_and127 k
 have h2 := i64_and127 (k / 128)
 go_enter Tryz.func121, Tryz.ntmps121
 go_wp2
 go_ret3
 exact ⟨by first | rfl | (simp; done) | skip, rfl⟩
def yjl (a b c k n : Int) : Int := if n = 65 then a else if n = 66 then b else if n = 67 then c else k
theorem ybe (op a b c k n : Int) (w : World) : Calls Tryz.prog 117 #[.agg #[.int .i64 op, .int .i64 a, .int .i64 b, .int .i64 c, .int .i64 k], .int .u8 n] w fun e w' => e = .returned (.int .i64 (yjl a b c k n)) ∧ Below w.heap.size w w' := by
 by_cases h1 : n = 65
 ·
  subst h1
  go_enter Tryz.func117, Tryz.ntmps117
  go_wp2
  go_ret
  exact ⟨rfl, bw⟩
 ·
  by_cases h2 : n = 66
  ·
   subst h2
   go_enter Tryz.func117, Tryz.ntmps117
   go_wp2
   go_ret
   exact ⟨rfl, bw⟩
  ·
   by_cases h3 : n = 67
   ·
    subst h3
    go_enter Tryz.func117, Tryz.ntmps117
    go_wp2
    go_ret
    exact ⟨rfl, bw⟩
   ·
    go_enter Tryz.func117, Tryz.ntmps117
    go_wp2
    go_ret
    exact ⟨by simp [yjl, h1, h2, h3], bw⟩
theorem litB_any (s : ByteArray) (c : Int) (w : World) : Calls Tryz.prog 127 #[.string s, .int .u8 c] w fun e w' => e = .returned (.int .i64 (Lib.indexByte s.data.toList c.toNat.toUInt8)) ∧ w' = w := by
 go_enter Tryz.func127, Tryz.ntmps127
 go_wp2
 rw [run_callFunc_extern Tryz.func130 (by kernel_rfl) (by kernel_rfl) (by kernel_rfl) (e := Extern.BytealgIndexByte.indexByte) (by kernel_rfl), Lib.run_indexByteString]
 simp only [Result.andThen]
 rw [Oper.upon_value]
 go_wp2
 go_ret
 exact ⟨rfl, rfl⟩
theorem ycs (s : ByteArray) (c v : Int) (hv : Lib.indexByte s.data.toList c.toNat.toUInt8 = v) (w : World) : Calls Tryz.prog 118 #[.string s, .int .u8 c] w fun e w' => e = .returned (.int .i64 v) ∧ w' = w := by
 subst hv
 go_enter Tryz.func118, Tryz.ntmps118
 go_wp2_with (go_at_call 127; refine (litB_any _ _ _).mono ?_; rintro e w' ⟨rfl, rfl⟩)
 go_ret
 exact ⟨rfl, rfl⟩
theorem sufL_any (s p : ByteArray) (w : World) (hs : s.size ≤ 9223372036854775807) : Calls Tryz.prog 128 #[.string s, .string p] w fun e w' => e = .returned (.bool (Lib.hasSuffix s.data.toList p.data.toList)) ∧ w' = w := by
 rw [← Lib.hasSuffix_raw]
 have hlo : p.size ≤ s.size → ((s.size : Int) - (p.size : Int) + 9223372036854775808) % 18446744073709551616 - 9223372036854775808 = ((s.size - p.size : Nat) : Int) := fun _ => by omega
 go_enter Tryz.func128, Tryz.ntmps128
 go_wp2
 ·
  have h : p.size ≤ s.size := by assumption
  go_ret
  refine ⟨?_, rfl⟩
  show Ending.returned (Value.bool ((s.extract (s.size - p.size) s.size).toList == p.toList)) = _
  simp [h]
 ·
  have h : ¬ p.size ≤ s.size := by assumption
  go_ret
  refine ⟨?_, rfl⟩
  show Ending.returned (Value.bool false) = _
  simp [h]
theorem ymk (s p : ByteArray) (v : Bool) (hv : Lib.hasSuffix s.data.toList p.data.toList = v) (hs : s.size ≤ 9223372036854775807) (w : World) : Calls Tryz.prog 119 #[.string s, .string p] w fun e w' => e = .returned (.bool v) ∧ w' = w := by
 subst hv
 go_enter Tryz.func119, Tryz.ntmps119
 go_wp2_with (go_at_call 128; refine (sufL_any _ _ _ hs).mono ?_; rintro e w' ⟨rfl, rfl⟩)
 go_ret
 exact ⟨rfl, rfl⟩
theorem yan (n : Int) : bits .and .i64 n 31 = n % 32 := by
 have h31 : (BitVec.ofInt 64 31).toNat = 2 ^ 5 - 1 := by decide
 have key : (BitVec.ofInt 64 n &&& BitVec.ofInt 64 31).toNat = (n % ((2 ^ 64 : Nat) : Int)).toNat % 2 ^ 5 := by
  rw [BitVec.toNat_and, BitVec.toNat_ofInt, h31, Nat.and_two_pow_sub_one_eq_mod]
 show IntKind.i64.wrap ((BitVec.ofInt 64 n &&& BitVec.ofInt 64 31).toNat : Nat) = n % 32
 rw [key, IntKind.wrap_i64]
 omega
def kOk (op k : Int) : Bool :=
 if op = 1 then decide (-1099511627776 ≤ k ∧ k ≤ 1099511627776)
 else if op = 19 then decide (0 ≤ k ∧ k < 16)
 else if op = 9 ∨ op = 10 then decide (0 ≤ k ∧ k < 2097152 ∧ k / 128 % 128 = 0)
 else if op = 13 ∨ op = 14 then decide (0 ≤ k ∧ k < 2097152 ∧ k % 128 = 0)
 else if typB op = true then decide (0 ≤ k ∧ k < 2097152)
 else if op = 22 then decide (0 ≤ k ∧ k ≤ 32767 ∧ k % 32 ≤ 20)
 else decide (0 ≤ k ∧ k ≤ 32767)
theorem yax {op : Int} {v : Bool} (h : typB op = v) (w : World) : Calls Tryz.prog 107 #[.int .i64 op] w fun e w' => e = .returned (.bool v) ∧ w' = w := by
 subst h
 exact ymd op w
theorem kc_1_0 ( k a b c : Int) (hk : I64 k) (n0 : ¬ (-1099511627776 ≤ k)) (w : World) : Calls Tryz.prog 120 #[.agg #[.int .i64 1, .int .i64 a, .int .i64 b, .int .i64 c, .int .i64 k]] w fun e w' => e = .returned (.bool false) ∧ Below w.heap.size w w' := by
 have h31 := yan k
 have HT : Hid (typB 1 = false) := H! (by rfl)
 go_enter Tryz.func120, Tryz.ntmps120
 go_wp2_with (first | (go_at_call 121; refine (yaj k hk _).mono ?_; rintro e w' ⟨rfl, rfl⟩) | (go_at_call 107; refine (yax HT.out _).mono ?_; rintro e w' ⟨rfl, rfl⟩))
 all_goals go_ret
 all_goals exact ⟨by first | rfl | (simp [*]; done), bw⟩
theorem kc_1_1 ( k a b c : Int) (hk : I64 k) (c0 : -1099511627776 ≤ k) (n1 : ¬ (k ≤ 1099511627776)) (w : World) : Calls Tryz.prog 120 #[.agg #[.int .i64 1, .int .i64 a, .int .i64 b, .int .i64 c, .int .i64 k]] w fun e w' => e = .returned (.bool false) ∧ Below w.heap.size w w' := by
 have h31 := yan k
 have HT : Hid (typB 1 = false) := H! (by rfl)
 go_enter Tryz.func120, Tryz.ntmps120
 go_wp2_with (first | (go_at_call 121; refine (yaj k hk _).mono ?_; rintro e w' ⟨rfl, rfl⟩) | (go_at_call 107; refine (yax HT.out _).mono ?_; rintro e w' ⟨rfl, rfl⟩))
 all_goals go_ret
 all_goals exact ⟨by first | rfl | (simp [*]; done), bw⟩
theorem kc_1_2 ( k a b c : Int) (hk : I64 k) (c0 : -1099511627776 ≤ k) (c1 : k ≤ 1099511627776) (w : World) : Calls Tryz.prog 120 #[.agg #[.int .i64 1, .int .i64 a, .int .i64 b, .int .i64 c, .int .i64 k]] w fun e w' => e = .returned (.bool true) ∧ Below w.heap.size w w' := by
 have h31 := yan k
 have HT : Hid (typB 1 = false) := H! (by rfl)
 go_enter Tryz.func120, Tryz.ntmps120
 go_wp2_with (first | (go_at_call 121; refine (yaj k hk _).mono ?_; rintro e w' ⟨rfl, rfl⟩) | (go_at_call 107; refine (yax HT.out _).mono ?_; rintro e w' ⟨rfl, rfl⟩))
 all_goals go_ret
 all_goals exact ⟨by first | rfl | (simp [*]; done), bw⟩
theorem kc_19_0 ( k a b c : Int) (hk : I64 k) (n0 : ¬ (0 ≤ k)) (w : World) : Calls Tryz.prog 120 #[.agg #[.int .i64 19, .int .i64 a, .int .i64 b, .int .i64 c, .int .i64 k]] w fun e w' => e = .returned (.bool false) ∧ Below w.heap.size w w' := by
 have h31 := yan k
 have HT : Hid (typB 19 = false) := H! (by rfl)
 go_enter Tryz.func120, Tryz.ntmps120
 go_wp2_with (first | (go_at_call 121; refine (yaj k hk _).mono ?_; rintro e w' ⟨rfl, rfl⟩) | (go_at_call 107; refine (yax HT.out _).mono ?_; rintro e w' ⟨rfl, rfl⟩))
 all_goals go_ret
 all_goals exact ⟨by first | rfl | (simp [*]; done), bw⟩
theorem kc_19_1 ( k a b c : Int) (hk : I64 k) (c0 : 0 ≤ k) (n1 : ¬ (k < 16)) (w : World) : Calls Tryz.prog 120 #[.agg #[.int .i64 19, .int .i64 a, .int .i64 b, .int .i64 c, .int .i64 k]] w fun e w' => e = .returned (.bool false) ∧ Below w.heap.size w w' := by
 have h31 := yan k
 have HT : Hid (typB 19 = false) := H! (by rfl)
 go_enter Tryz.func120, Tryz.ntmps120
 go_wp2_with (first | (go_at_call 121; refine (yaj k hk _).mono ?_; rintro e w' ⟨rfl, rfl⟩) | (go_at_call 107; refine (yax HT.out _).mono ?_; rintro e w' ⟨rfl, rfl⟩))
 all_goals go_ret
 all_goals exact ⟨by first | rfl | (simp [*]; done), bw⟩
theorem kc_19_2 ( k a b c : Int) (hk : I64 k) (c0 : 0 ≤ k) (c1 : k < 16) (w : World) : Calls Tryz.prog 120 #[.agg #[.int .i64 19, .int .i64 a, .int .i64 b, .int .i64 c, .int .i64 k]] w fun e w' => e = .returned (.bool true) ∧ Below w.heap.size w w' := by
 have h31 := yan k
 have HT : Hid (typB 19 = false) := H! (by rfl)
 go_enter Tryz.func120, Tryz.ntmps120
 go_wp2_with (first | (go_at_call 121; refine (yaj k hk _).mono ?_; rintro e w' ⟨rfl, rfl⟩) | (go_at_call 107; refine (yax HT.out _).mono ?_; rintro e w' ⟨rfl, rfl⟩))
 all_goals go_ret
 all_goals exact ⟨by first | rfl | (simp [*]; done), bw⟩
theorem kc_9_0 ( k a b c : Int) (hk : I64 k) (n0 : ¬ (0 ≤ k)) (w : World) : Calls Tryz.prog 120 #[.agg #[.int .i64 9, .int .i64 a, .int .i64 b, .int .i64 c, .int .i64 k]] w fun e w' => e = .returned (.bool false) ∧ Below w.heap.size w w' := by
 have h31 := yan k
 have HT : Hid (typB 9 = true) := H! (by rfl)
 go_enter Tryz.func120, Tryz.ntmps120
 go_wp2_with (first | (go_at_call 121; refine (yaj k hk _).mono ?_; rintro e w' ⟨rfl, rfl⟩) | (go_at_call 107; refine (yax HT.out _).mono ?_; rintro e w' ⟨rfl, rfl⟩))
 all_goals go_ret
 all_goals exact ⟨by first | rfl | (simp [*]; done), bw⟩
theorem kc_9_1 ( k a b c : Int) (hk : I64 k) (c0 : 0 ≤ k) (n1 : ¬ (k < 2097152)) (w : World) : Calls Tryz.prog 120 #[.agg #[.int .i64 9, .int .i64 a, .int .i64 b, .int .i64 c, .int .i64 k]] w fun e w' => e = .returned (.bool false) ∧ Below w.heap.size w w' := by
 have h31 := yan k
 have HT : Hid (typB 9 = true) := H! (by rfl)
 go_enter Tryz.func120, Tryz.ntmps120
 go_wp2_with (first | (go_at_call 121; refine (yaj k hk _).mono ?_; rintro e w' ⟨rfl, rfl⟩) | (go_at_call 107; refine (yax HT.out _).mono ?_; rintro e w' ⟨rfl, rfl⟩))
 all_goals go_ret
 all_goals exact ⟨by first | rfl | (simp [*]; done), bw⟩
theorem kc_9_2 ( k a b c : Int) (hk : I64 k) (c0 : 0 ≤ k) (c1 : k < 2097152) (n2 : ¬ (k / 128 % 128 = 0)) (w : World) : Calls Tryz.prog 120 #[.agg #[.int .i64 9, .int .i64 a, .int .i64 b, .int .i64 c, .int .i64 k]] w fun e w' => e = .returned (.bool false) ∧ Below w.heap.size w w' := by
 have h31 := yan k
 have HT : Hid (typB 9 = true) := H! (by rfl)
 go_enter Tryz.func120, Tryz.ntmps120
 go_wp2_with (first | (go_at_call 121; refine (yaj k hk _).mono ?_; rintro e w' ⟨rfl, rfl⟩) | (go_at_call 107; refine (yax HT.out _).mono ?_; rintro e w' ⟨rfl, rfl⟩))
 all_goals go_ret
 all_goals exact ⟨by first | rfl | (simp [*]; done), bw⟩
theorem kc_9_3 ( k a b c : Int) (hk : I64 k) (c0 : 0 ≤ k) (c1 : k < 2097152) (c2 : k / 128 % 128 = 0) (w : World) : Calls Tryz.prog 120 #[.agg #[.int .i64 9, .int .i64 a, .int .i64 b, .int .i64 c, .int .i64 k]] w fun e w' => e = .returned (.bool true) ∧ Below w.heap.size w w' := by
 have h31 := yan k
 have HT : Hid (typB 9 = true) := H! (by rfl)
 go_enter Tryz.func120, Tryz.ntmps120
 go_wp2_with (first | (go_at_call 121; refine (yaj k hk _).mono ?_; rintro e w' ⟨rfl, rfl⟩) | (go_at_call 107; refine (yax HT.out _).mono ?_; rintro e w' ⟨rfl, rfl⟩))
 all_goals go_ret
 all_goals exact ⟨by first | rfl | (simp [*]; done), bw⟩
theorem kc_10_0 ( k a b c : Int) (hk : I64 k) (n0 : ¬ (0 ≤ k)) (w : World) : Calls Tryz.prog 120 #[.agg #[.int .i64 10, .int .i64 a, .int .i64 b, .int .i64 c, .int .i64 k]] w fun e w' => e = .returned (.bool false) ∧ Below w.heap.size w w' := by
 have h31 := yan k
 have HT : Hid (typB 10 = true) := H! (by rfl)
 go_enter Tryz.func120, Tryz.ntmps120
 go_wp2_with (first | (go_at_call 121; refine (yaj k hk _).mono ?_; rintro e w' ⟨rfl, rfl⟩) | (go_at_call 107; refine (yax HT.out _).mono ?_; rintro e w' ⟨rfl, rfl⟩))
 all_goals go_ret
 all_goals exact ⟨by first | rfl | (simp [*]; done), bw⟩
theorem kc_10_1 ( k a b c : Int) (hk : I64 k) (c0 : 0 ≤ k) (n1 : ¬ (k < 2097152)) (w : World) : Calls Tryz.prog 120 #[.agg #[.int .i64 10, .int .i64 a, .int .i64 b, .int .i64 c, .int .i64 k]] w fun e w' => e = .returned (.bool false) ∧ Below w.heap.size w w' := by
 have h31 := yan k
 have HT : Hid (typB 10 = true) := H! (by rfl)
 go_enter Tryz.func120, Tryz.ntmps120
 go_wp2_with (first | (go_at_call 121; refine (yaj k hk _).mono ?_; rintro e w' ⟨rfl, rfl⟩) | (go_at_call 107; refine (yax HT.out _).mono ?_; rintro e w' ⟨rfl, rfl⟩))
 all_goals go_ret
 all_goals exact ⟨by first | rfl | (simp [*]; done), bw⟩
theorem kc_10_2 ( k a b c : Int) (hk : I64 k) (c0 : 0 ≤ k) (c1 : k < 2097152) (n2 : ¬ (k / 128 % 128 = 0)) (w : World) : Calls Tryz.prog 120 #[.agg #[.int .i64 10, .int .i64 a, .int .i64 b, .int .i64 c, .int .i64 k]] w fun e w' => e = .returned (.bool false) ∧ Below w.heap.size w w' := by
 have h31 := yan k
 have HT : Hid (typB 10 = true) := H! (by rfl)
 go_enter Tryz.func120, Tryz.ntmps120
 go_wp2_with (first | (go_at_call 121; refine (yaj k hk _).mono ?_; rintro e w' ⟨rfl, rfl⟩) | (go_at_call 107; refine (yax HT.out _).mono ?_; rintro e w' ⟨rfl, rfl⟩))
 all_goals go_ret
 all_goals exact ⟨by first | rfl | (simp [*]; done), bw⟩
theorem kc_10_3 ( k a b c : Int) (hk : I64 k) (c0 : 0 ≤ k) (c1 : k < 2097152) (c2 : k / 128 % 128 = 0) (w : World) : Calls Tryz.prog 120 #[.agg #[.int .i64 10, .int .i64 a, .int .i64 b, .int .i64 c, .int .i64 k]] w fun e w' => e = .returned (.bool true) ∧ Below w.heap.size w w' := by
 have h31 := yan k
 have HT : Hid (typB 10 = true) := H! (by rfl)
 go_enter Tryz.func120, Tryz.ntmps120
 go_wp2_with (first | (go_at_call 121; refine (yaj k hk _).mono ?_; rintro e w' ⟨rfl, rfl⟩) | (go_at_call 107; refine (yax HT.out _).mono ?_; rintro e w' ⟨rfl, rfl⟩))
 all_goals go_ret
 all_goals exact ⟨by first | rfl | (simp [*]; done), bw⟩
theorem kc_13_0 ( k a b c : Int) (hk : I64 k) (n0 : ¬ (0 ≤ k)) (w : World) : Calls Tryz.prog 120 #[.agg #[.int .i64 13, .int .i64 a, .int .i64 b, .int .i64 c, .int .i64 k]] w fun e w' => e = .returned (.bool false) ∧ Below w.heap.size w w' := by
 have h31 := yan k
 have HT : Hid (typB 13 = true) := H! (by rfl)
 go_enter Tryz.func120, Tryz.ntmps120
 go_wp2_with (first | (go_at_call 121; refine (yaj k hk _).mono ?_; rintro e w' ⟨rfl, rfl⟩) | (go_at_call 107; refine (yax HT.out _).mono ?_; rintro e w' ⟨rfl, rfl⟩))
 all_goals go_ret
 all_goals exact ⟨by first | rfl | (simp [*]; done), bw⟩
theorem kc_13_1 ( k a b c : Int) (hk : I64 k) (c0 : 0 ≤ k) (n1 : ¬ (k < 2097152)) (w : World) : Calls Tryz.prog 120 #[.agg #[.int .i64 13, .int .i64 a, .int .i64 b, .int .i64 c, .int .i64 k]] w fun e w' => e = .returned (.bool false) ∧ Below w.heap.size w w' := by
 have h31 := yan k
 have HT : Hid (typB 13 = true) := H! (by rfl)
 go_enter Tryz.func120, Tryz.ntmps120
 go_wp2_with (first | (go_at_call 121; refine (yaj k hk _).mono ?_; rintro e w' ⟨rfl, rfl⟩) | (go_at_call 107; refine (yax HT.out _).mono ?_; rintro e w' ⟨rfl, rfl⟩))
 all_goals go_ret
 all_goals exact ⟨by first | rfl | (simp [*]; done), bw⟩
theorem kc_13_2 ( k a b c : Int) (hk : I64 k) (c0 : 0 ≤ k) (c1 : k < 2097152) (n2 : ¬ (k % 128 = 0)) (w : World) : Calls Tryz.prog 120 #[.agg #[.int .i64 13, .int .i64 a, .int .i64 b, .int .i64 c, .int .i64 k]] w fun e w' => e = .returned (.bool false) ∧ Below w.heap.size w w' := by
 have h31 := yan k
 have HT : Hid (typB 13 = true) := H! (by rfl)
 go_enter Tryz.func120, Tryz.ntmps120
 go_wp2_with (first | (go_at_call 121; refine (yaj k hk _).mono ?_; rintro e w' ⟨rfl, rfl⟩) | (go_at_call 107; refine (yax HT.out _).mono ?_; rintro e w' ⟨rfl, rfl⟩))
 all_goals go_ret
 all_goals exact ⟨by first | rfl | (simp [*]; done), bw⟩
theorem kc_13_3 ( k a b c : Int) (hk : I64 k) (c0 : 0 ≤ k) (c1 : k < 2097152) (c2 : k % 128 = 0) (w : World) : Calls Tryz.prog 120 #[.agg #[.int .i64 13, .int .i64 a, .int .i64 b, .int .i64 c, .int .i64 k]] w fun e w' => e = .returned (.bool true) ∧ Below w.heap.size w w' := by
 have h31 := yan k
 have HT : Hid (typB 13 = true) := H! (by rfl)
 go_enter Tryz.func120, Tryz.ntmps120
 go_wp2_with (first | (go_at_call 121; refine (yaj k hk _).mono ?_; rintro e w' ⟨rfl, rfl⟩) | (go_at_call 107; refine (yax HT.out _).mono ?_; rintro e w' ⟨rfl, rfl⟩))
 all_goals go_ret
 all_goals exact ⟨by first | rfl | (simp [*]; done), bw⟩
theorem kc_14_0 ( k a b c : Int) (hk : I64 k) (n0 : ¬ (0 ≤ k)) (w : World) : Calls Tryz.prog 120 #[.agg #[.int .i64 14, .int .i64 a, .int .i64 b, .int .i64 c, .int .i64 k]] w fun e w' => e = .returned (.bool false) ∧ Below w.heap.size w w' := by
 have h31 := yan k
 have HT : Hid (typB 14 = true) := H! (by rfl)
 go_enter Tryz.func120, Tryz.ntmps120
 go_wp2_with (first | (go_at_call 121; refine (yaj k hk _).mono ?_; rintro e w' ⟨rfl, rfl⟩) | (go_at_call 107; refine (yax HT.out _).mono ?_; rintro e w' ⟨rfl, rfl⟩))
 all_goals go_ret
 all_goals exact ⟨by first | rfl | (simp [*]; done), bw⟩
theorem kc_14_1 ( k a b c : Int) (hk : I64 k) (c0 : 0 ≤ k) (n1 : ¬ (k < 2097152)) (w : World) : Calls Tryz.prog 120 #[.agg #[.int .i64 14, .int .i64 a, .int .i64 b, .int .i64 c, .int .i64 k]] w fun e w' => e = .returned (.bool false) ∧ Below w.heap.size w w' := by
 have h31 := yan k
 have HT : Hid (typB 14 = true) := H! (by rfl)
 go_enter Tryz.func120, Tryz.ntmps120
 go_wp2_with (first | (go_at_call 121; refine (yaj k hk _).mono ?_; rintro e w' ⟨rfl, rfl⟩) | (go_at_call 107; refine (yax HT.out _).mono ?_; rintro e w' ⟨rfl, rfl⟩))
 all_goals go_ret
 all_goals exact ⟨by first | rfl | (simp [*]; done), bw⟩
theorem kc_14_2 ( k a b c : Int) (hk : I64 k) (c0 : 0 ≤ k) (c1 : k < 2097152) (n2 : ¬ (k % 128 = 0)) (w : World) : Calls Tryz.prog 120 #[.agg #[.int .i64 14, .int .i64 a, .int .i64 b, .int .i64 c, .int .i64 k]] w fun e w' => e = .returned (.bool false) ∧ Below w.heap.size w w' := by
 have h31 := yan k
 have HT : Hid (typB 14 = true) := H! (by rfl)
 go_enter Tryz.func120, Tryz.ntmps120
 go_wp2_with (first | (go_at_call 121; refine (yaj k hk _).mono ?_; rintro e w' ⟨rfl, rfl⟩) | (go_at_call 107; refine (yax HT.out _).mono ?_; rintro e w' ⟨rfl, rfl⟩))
 all_goals go_ret
 all_goals exact ⟨by first | rfl | (simp [*]; done), bw⟩
theorem kc_14_3 ( k a b c : Int) (hk : I64 k) (c0 : 0 ≤ k) (c1 : k < 2097152) (c2 : k % 128 = 0) (w : World) : Calls Tryz.prog 120 #[.agg #[.int .i64 14, .int .i64 a, .int .i64 b, .int .i64 c, .int .i64 k]] w fun e w' => e = .returned (.bool true) ∧ Below w.heap.size w w' := by
 have h31 := yan k
 have HT : Hid (typB 14 = true) := H! (by rfl)
 go_enter Tryz.func120, Tryz.ntmps120
 go_wp2_with (first | (go_at_call 121; refine (yaj k hk _).mono ?_; rintro e w' ⟨rfl, rfl⟩) | (go_at_call 107; refine (yax HT.out _).mono ?_; rintro e w' ⟨rfl, rfl⟩))
 all_goals go_ret
 all_goals exact ⟨by first | rfl | (simp [*]; done), bw⟩
theorem kc_22_0 ( k a b c : Int) (hk : I64 k) (n0 : ¬ (0 ≤ k)) (w : World) : Calls Tryz.prog 120 #[.agg #[.int .i64 22, .int .i64 a, .int .i64 b, .int .i64 c, .int .i64 k]] w fun e w' => e = .returned (.bool false) ∧ Below w.heap.size w w' := by
 have h31 := yan k
 have HT : Hid (typB 22 = false) := H! (by rfl)
 go_enter Tryz.func120, Tryz.ntmps120
 go_wp2_with (first | (go_at_call 121; refine (yaj k hk _).mono ?_; rintro e w' ⟨rfl, rfl⟩) | (go_at_call 107; refine (yax HT.out _).mono ?_; rintro e w' ⟨rfl, rfl⟩))
 all_goals go_ret
 all_goals exact ⟨by first | rfl | (simp [*]; done), bw⟩
theorem kc_22_1 ( k a b c : Int) (hk : I64 k) (c0 : 0 ≤ k) (n1 : ¬ (k ≤ 32767)) (w : World) : Calls Tryz.prog 120 #[.agg #[.int .i64 22, .int .i64 a, .int .i64 b, .int .i64 c, .int .i64 k]] w fun e w' => e = .returned (.bool false) ∧ Below w.heap.size w w' := by
 have h31 := yan k
 have HT : Hid (typB 22 = false) := H! (by rfl)
 go_enter Tryz.func120, Tryz.ntmps120
 go_wp2_with (first | (go_at_call 121; refine (yaj k hk _).mono ?_; rintro e w' ⟨rfl, rfl⟩) | (go_at_call 107; refine (yax HT.out _).mono ?_; rintro e w' ⟨rfl, rfl⟩))
 all_goals go_ret
 all_goals exact ⟨by first | rfl | (simp [*]; done), bw⟩
theorem kc_22_2 ( k a b c : Int) (hk : I64 k) (c0 : 0 ≤ k) (c1 : k ≤ 32767) (n2 : ¬ (k % 32 ≤ 20)) (w : World) : Calls Tryz.prog 120 #[.agg #[.int .i64 22, .int .i64 a, .int .i64 b, .int .i64 c, .int .i64 k]] w fun e w' => e = .returned (.bool false) ∧ Below w.heap.size w w' := by
 have h31 := yan k
 have HT : Hid (typB 22 = false) := H! (by rfl)
 go_enter Tryz.func120, Tryz.ntmps120
 go_wp2_with (first | (go_at_call 121; refine (yaj k hk _).mono ?_; rintro e w' ⟨rfl, rfl⟩) | (go_at_call 107; refine (yax HT.out _).mono ?_; rintro e w' ⟨rfl, rfl⟩))
 all_goals go_ret
 all_goals exact ⟨by first | rfl | (simp [*]; done), bw⟩
theorem kc_22_3 ( k a b c : Int) (hk : I64 k) (c0 : 0 ≤ k) (c1 : k ≤ 32767) (c2 : k % 32 ≤ 20) (w : World) : Calls Tryz.prog 120 #[.agg #[.int .i64 22, .int .i64 a, .int .i64 b, .int .i64 c, .int .i64 k]] w fun e w' => e = .returned (.bool true) ∧ Below w.heap.size w w' := by
 have h31 := yan k
 have HT : Hid (typB 22 = false) := H! (by rfl)
 go_enter Tryz.func120, Tryz.ntmps120
 go_wp2_with (first | (go_at_call 121; refine (yaj k hk _).mono ?_; rintro e w' ⟨rfl, rfl⟩) | (go_at_call 107; refine (yax HT.out _).mono ?_; rintro e w' ⟨rfl, rfl⟩))
 all_goals go_ret
 all_goals exact ⟨by first | rfl | (simp [*]; done), bw⟩
theorem kc_t_0 (op k a b c : Int) (hk : I64 k) (o1 : ¬ op = 1) (o19 : ¬ op = 19) (o9 : ¬ op = 9) (o10 : ¬ op = 10) (o13 : ¬ op = 13) (o14 : ¬ op = 14) (o22 : ¬ op = 22) (ht : typB op = true) (n0 : ¬ (0 ≤ k)) (w : World) : Calls Tryz.prog 120 #[.agg #[.int .i64 op, .int .i64 a, .int .i64 b, .int .i64 c, .int .i64 k]] w fun e w' => e = .returned (.bool false) ∧ Below w.heap.size w w' := by
 have h31 := yan k
 have HT : Hid (typB op = true) := H! (by exact ht)
 go_enter Tryz.func120, Tryz.ntmps120
 go_wp2_with (first | (go_at_call 121; refine (yaj k hk _).mono ?_; rintro e w' ⟨rfl, rfl⟩) | (go_at_call 107; refine (yax HT.out _).mono ?_; rintro e w' ⟨rfl, rfl⟩))
 all_goals go_ret
 all_goals exact ⟨by first | rfl | (simp [*]; done), bw⟩
theorem kc_t_1 (op k a b c : Int) (hk : I64 k) (o1 : ¬ op = 1) (o19 : ¬ op = 19) (o9 : ¬ op = 9) (o10 : ¬ op = 10) (o13 : ¬ op = 13) (o14 : ¬ op = 14) (o22 : ¬ op = 22) (ht : typB op = true) (c0 : 0 ≤ k) (n1 : ¬ (k < 2097152)) (w : World) : Calls Tryz.prog 120 #[.agg #[.int .i64 op, .int .i64 a, .int .i64 b, .int .i64 c, .int .i64 k]] w fun e w' => e = .returned (.bool false) ∧ Below w.heap.size w w' := by
 have h31 := yan k
 have HT : Hid (typB op = true) := H! (by exact ht)
 go_enter Tryz.func120, Tryz.ntmps120
 go_wp2_with (first | (go_at_call 121; refine (yaj k hk _).mono ?_; rintro e w' ⟨rfl, rfl⟩) | (go_at_call 107; refine (yax HT.out _).mono ?_; rintro e w' ⟨rfl, rfl⟩))
 all_goals go_ret
 all_goals exact ⟨by first | rfl | (simp [*]; done), bw⟩
theorem kc_t_2 (op k a b c : Int) (hk : I64 k) (o1 : ¬ op = 1) (o19 : ¬ op = 19) (o9 : ¬ op = 9) (o10 : ¬ op = 10) (o13 : ¬ op = 13) (o14 : ¬ op = 14) (o22 : ¬ op = 22) (ht : typB op = true) (c0 : 0 ≤ k) (c1 : k < 2097152) (w : World) : Calls Tryz.prog 120 #[.agg #[.int .i64 op, .int .i64 a, .int .i64 b, .int .i64 c, .int .i64 k]] w fun e w' => e = .returned (.bool true) ∧ Below w.heap.size w w' := by
 have h31 := yan k
 have HT : Hid (typB op = true) := H! (by exact ht)
 go_enter Tryz.func120, Tryz.ntmps120
 go_wp2_with (first | (go_at_call 121; refine (yaj k hk _).mono ?_; rintro e w' ⟨rfl, rfl⟩) | (go_at_call 107; refine (yax HT.out _).mono ?_; rintro e w' ⟨rfl, rfl⟩))
 all_goals go_ret
 all_goals exact ⟨by first | rfl | (simp [*]; done), bw⟩
theorem kc_o_0 (op k a b c : Int) (hk : I64 k) (o1 : ¬ op = 1) (o19 : ¬ op = 19) (o9 : ¬ op = 9) (o10 : ¬ op = 10) (o13 : ¬ op = 13) (o14 : ¬ op = 14) (o22 : ¬ op = 22) (ht : ¬ typB op = true) (n0 : ¬ (0 ≤ k)) (w : World) : Calls Tryz.prog 120 #[.agg #[.int .i64 op, .int .i64 a, .int .i64 b, .int .i64 c, .int .i64 k]] w fun e w' => e = .returned (.bool false) ∧ Below w.heap.size w w' := by
 have h31 := yan k
 have HT : Hid (typB op = false) := H! (by simpa using ht)
 go_enter Tryz.func120, Tryz.ntmps120
 go_wp2_with (first | (go_at_call 121; refine (yaj k hk _).mono ?_; rintro e w' ⟨rfl, rfl⟩) | (go_at_call 107; refine (yax HT.out _).mono ?_; rintro e w' ⟨rfl, rfl⟩))
 all_goals go_ret
 all_goals exact ⟨by first | rfl | (simp [*]; done), bw⟩
theorem kc_o_1 (op k a b c : Int) (hk : I64 k) (o1 : ¬ op = 1) (o19 : ¬ op = 19) (o9 : ¬ op = 9) (o10 : ¬ op = 10) (o13 : ¬ op = 13) (o14 : ¬ op = 14) (o22 : ¬ op = 22) (ht : ¬ typB op = true) (c0 : 0 ≤ k) (n1 : ¬ (k ≤ 32767)) (w : World) : Calls Tryz.prog 120 #[.agg #[.int .i64 op, .int .i64 a, .int .i64 b, .int .i64 c, .int .i64 k]] w fun e w' => e = .returned (.bool false) ∧ Below w.heap.size w w' := by
 have h31 := yan k
 have HT : Hid (typB op = false) := H! (by simpa using ht)
 go_enter Tryz.func120, Tryz.ntmps120
 go_wp2_with (first | (go_at_call 121; refine (yaj k hk _).mono ?_; rintro e w' ⟨rfl, rfl⟩) | (go_at_call 107; refine (yax HT.out _).mono ?_; rintro e w' ⟨rfl, rfl⟩))
 all_goals go_ret
 all_goals exact ⟨by first | rfl | (simp [*]; done), bw⟩
theorem kc_o_2 (op k a b c : Int) (hk : I64 k) (o1 : ¬ op = 1) (o19 : ¬ op = 19) (o9 : ¬ op = 9) (o10 : ¬ op = 10) (o13 : ¬ op = 13) (o14 : ¬ op = 14) (o22 : ¬ op = 22) (ht : ¬ typB op = true) (c0 : 0 ≤ k) (c1 : k ≤ 32767) (w : World) : Calls Tryz.prog 120 #[.agg #[.int .i64 op, .int .i64 a, .int .i64 b, .int .i64 c, .int .i64 k]] w fun e w' => e = .returned (.bool true) ∧ Below w.heap.size w w' := by
 have h31 := yan k
 have HT : Hid (typB op = false) := H! (by simpa using ht)
 go_enter Tryz.func120, Tryz.ntmps120
 go_wp2_with (first | (go_at_call 121; refine (yaj k hk _).mono ?_; rintro e w' ⟨rfl, rfl⟩) | (go_at_call 107; refine (yax HT.out _).mono ?_; rintro e w' ⟨rfl, rfl⟩))
 all_goals go_ret
 all_goals exact ⟨by first | rfl | (simp [*]; done), bw⟩
theorem yns (op a b c k : Int) (hk : I64 k) (w : World) : Calls Tryz.prog 120 #[.agg #[.int .i64 op, .int .i64 a, .int .i64 b, .int .i64 c, .int .i64 k]] w fun e w' => e = .returned (.bool (kOk op k)) ∧ Below w.heap.size w w' := by
 by_cases o1 : op = 1
 ·
  subst o1
  by_cases c0 : -1099511627776 ≤ k
  ·
   by_cases c1 : k ≤ 1099511627776
   ·
    rw [show kOk 1 k = true by unfold kOk; simp [*, show typB 22 = false from rfl]]
    exact kc_1_2 k a b c hk  c0 c1 w
   ·
    rw [show kOk 1 k = false by unfold kOk; simp [*, show typB 22 = false from rfl]]
    exact kc_1_1 k a b c hk  c0 c1 w
  ·
   rw [show kOk 1 k = false by unfold kOk; simp [*, show typB 22 = false from rfl]]
   exact kc_1_0 k a b c hk   c0 w
 by_cases o19 : op = 19
 ·
  subst o19
  by_cases c0 : 0 ≤ k
  ·
   by_cases c1 : k < 16
   ·
    rw [show kOk 19 k = true by unfold kOk; simp [*, show typB 22 = false from rfl]]
    exact kc_19_2 k a b c hk  c0 c1 w
   ·
    rw [show kOk 19 k = false by unfold kOk; simp [*, show typB 22 = false from rfl]]
    exact kc_19_1 k a b c hk  c0 c1 w
  ·
   rw [show kOk 19 k = false by unfold kOk; simp [*, show typB 22 = false from rfl]]
   exact kc_19_0 k a b c hk   c0 w
 by_cases o9 : op = 9
 ·
  subst o9
  by_cases c0 : 0 ≤ k
  ·
   by_cases c1 : k < 2097152
   ·
    by_cases c2 : k / 128 % 128 = 0
    ·
     rw [show kOk 9 k = true by unfold kOk; simp [*, show typB 22 = false from rfl]]
     exact kc_9_3 k a b c hk  c0 c1 c2 w
    ·
     rw [show kOk 9 k = false by unfold kOk; simp [*, show typB 22 = false from rfl]]
     exact kc_9_2 k a b c hk  c0 c1 c2 w
   ·
    rw [show kOk 9 k = false by unfold kOk; simp [*, show typB 22 = false from rfl]]
    exact kc_9_1 k a b c hk  c0 c1 w
  ·
   rw [show kOk 9 k = false by unfold kOk; simp [*, show typB 22 = false from rfl]]
   exact kc_9_0 k a b c hk   c0 w
 by_cases o10 : op = 10
 ·
  subst o10
  by_cases c0 : 0 ≤ k
  ·
   by_cases c1 : k < 2097152
   ·
    by_cases c2 : k / 128 % 128 = 0
    ·
     rw [show kOk 10 k = true by unfold kOk; simp [*, show typB 22 = false from rfl]]
     exact kc_10_3 k a b c hk  c0 c1 c2 w
    ·
     rw [show kOk 10 k = false by unfold kOk; simp [*, show typB 22 = false from rfl]]
     exact kc_10_2 k a b c hk  c0 c1 c2 w
   ·
    rw [show kOk 10 k = false by unfold kOk; simp [*, show typB 22 = false from rfl]]
    exact kc_10_1 k a b c hk  c0 c1 w
  ·
   rw [show kOk 10 k = false by unfold kOk; simp [*, show typB 22 = false from rfl]]
   exact kc_10_0 k a b c hk   c0 w
 by_cases o13 : op = 13
 ·
  subst o13
  by_cases c0 : 0 ≤ k
  ·
   by_cases c1 : k < 2097152
   ·
    by_cases c2 : k % 128 = 0
    ·
     rw [show kOk 13 k = true by unfold kOk; simp [*, show typB 22 = false from rfl]]
     exact kc_13_3 k a b c hk  c0 c1 c2 w
    ·
     rw [show kOk 13 k = false by unfold kOk; simp [*, show typB 22 = false from rfl]]
     exact kc_13_2 k a b c hk  c0 c1 c2 w
   ·
    rw [show kOk 13 k = false by unfold kOk; simp [*, show typB 22 = false from rfl]]
    exact kc_13_1 k a b c hk  c0 c1 w
  ·
   rw [show kOk 13 k = false by unfold kOk; simp [*, show typB 22 = false from rfl]]
   exact kc_13_0 k a b c hk   c0 w
 by_cases o14 : op = 14
 ·
  subst o14
  by_cases c0 : 0 ≤ k
  ·
   by_cases c1 : k < 2097152
   ·
    by_cases c2 : k % 128 = 0
    ·
     rw [show kOk 14 k = true by unfold kOk; simp [*, show typB 22 = false from rfl]]
     exact kc_14_3 k a b c hk  c0 c1 c2 w
    ·
     rw [show kOk 14 k = false by unfold kOk; simp [*, show typB 22 = false from rfl]]
     exact kc_14_2 k a b c hk  c0 c1 c2 w
   ·
    rw [show kOk 14 k = false by unfold kOk; simp [*, show typB 22 = false from rfl]]
    exact kc_14_1 k a b c hk  c0 c1 w
  ·
   rw [show kOk 14 k = false by unfold kOk; simp [*, show typB 22 = false from rfl]]
   exact kc_14_0 k a b c hk   c0 w
 by_cases o22 : op = 22
 ·
  subst o22
  by_cases c0 : 0 ≤ k
  ·
   by_cases c1 : k ≤ 32767
   ·
    by_cases c2 : k % 32 ≤ 20
    ·
     rw [show kOk 22 k = true by unfold kOk; simp [*, show typB 22 = false from rfl]]
     exact kc_22_3 k a b c hk  c0 c1 c2 w
    ·
     rw [show kOk 22 k = false by unfold kOk; simp [*, show typB 22 = false from rfl]]
     exact kc_22_2 k a b c hk  c0 c1 c2 w
   ·
    rw [show kOk 22 k = false by unfold kOk; simp [*, show typB 22 = false from rfl]]
    exact kc_22_1 k a b c hk  c0 c1 w
  ·
   rw [show kOk 22 k = false by unfold kOk; simp [*, show typB 22 = false from rfl]]
   exact kc_22_0 k a b c hk   c0 w
 by_cases ht : typB op = true
 ·
  by_cases c0 : 0 ≤ k
  ·
   by_cases c1 : k < 2097152
   ·
    rw [show kOk op k = true by unfold kOk; simp [*, show typB 22 = false from rfl]]
    exact kc_t_2 op k a b c hk o1 o19 o9 o10 o13 o14 o22 ht c0 c1 w
   ·
    rw [show kOk op k = false by unfold kOk; simp [*, show typB 22 = false from rfl]]
    exact kc_t_1 op k a b c hk o1 o19 o9 o10 o13 o14 o22 ht c0 c1 w
  ·
   rw [show kOk op k = false by unfold kOk; simp [*, show typB 22 = false from rfl]]
   exact kc_t_0 op k a b c hk o1 o19 o9 o10 o13 o14 o22 ht  c0 w
 ·
  by_cases c0 : 0 ≤ k
  ·
   by_cases c1 : k ≤ 32767
   ·
    rw [show kOk op k = true by unfold kOk; simp [*, show typB 22 = false from rfl]]
    exact kc_o_2 op k a b c hk o1 o19 o9 o10 o13 o14 o22 ht c0 c1 w
   ·
    rw [show kOk op k = false by unfold kOk; simp [*, show typB 22 = false from rfl]]
    exact kc_o_1 op k a b c hk o1 o19 o9 o10 o13 o14 o22 ht c0 c1 w
  ·
   rw [show kOk op k = false by unfold kOk; simp [*, show typB 22 = false from rfl]]
   exact kc_o_0 op k a b c hk o1 o19 o9 o10 o13 o14 o22 ht  c0 w
end Go.Proofs.YtfooefiaenlhmaaGreat
