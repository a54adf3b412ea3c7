/- The law ImageWords returns true for all bytes and words. No conditions. -/
import Derived.Test.YtfooefiaenlhmaaImgO
namespace Go.Proofs.Ytfooefiaenlhmaa
set_option linter.unusedVariables false
set_option linter.unusedSimpArgs false
open Go.RowKit Go.ChangeShapes Go.WideShapes Go.ChangeAt

theorem ints_u8 {W : World} {base : Nat} {r : Option Addr} {cap : Nat} {xs : List Int} (h : OwnK .u8 5 W base r cap xs) (hb : ByteL xs) : IsInts W r cap .u8 xs := h.ints (fun x hx => u8_wf (hb x hx).1 (hb x hx).2)
theorem ints_u32 {W : World} {base : Nat} {r : Option Addr} {cap : Nat} {xs : List Int} (h : OwnK .u32 35 W base r cap xs) (hb : ∀ x ∈ xs, 0 ≤ x ∧ x ≤ 4294967295) : IsInts W r cap .u32 xs := h.ints (fun x hx => u32_wf (hb x hx).1 (hb x hx).2)
set_option maxRecDepth 100000 in
set_option maxHeartbeats 2000000 in
theorem iw_many (r q : Option Addr) (c d : Nat) (xs ys : List Int) (w : World) (hl : xs.length ≤ 5000) (hl2 : ys.length ≤ 5000) : Calls Try.prog 4 #[.slice r xs.length c, .slice q ys.length d, .bool true] w fun e w' => e = .returned (.bool true) ∧ Below w.heap.size w w' := by
  obtain ⟨i0, hi, hz0, hz1, hz2⟩ := info_parts infoU32
  have h1 : ¬ (5000 : Int) < xs.length := by omega
  have h2 : ¬ (5000 : Int) < ys.length := by omega
  go_enter Try.func4, Try.ntmps4
  go_wp2_with (first | (go_at_call 8; refine (awake_any _).mono ?_; rintro e hb0w ⟨rfl, hb0⟩; obtain ⟨hb0c, hb0f⟩ := bcell hb0; have hb0s := hb0.size; (try simp only [World.size_alloc] at hb0s); (try (have : w.heap.size < hb0w.heap.size := by omega)); (try (have : w.heap.size + 1 < hb0w.heap.size := by omega)); (try (have : w.heap.size + 1 + 1 < hb0w.heap.size := by omega)); (try (have : w.heap.size + 1 + 1 + 1 < hb0w.heap.size := by omega)); (try (have : bX < hb0w.heap.size := by omega)); (try (have : bY < hb0w.heap.size := by omega)); (try (have : bZ < hb0w.heap.size := by omega))) | (at_make; refine wpList_make_full _ (by rfl) _ _ _ (by rfl) w.heap.size 35 i0 (.int .u32 0) 1 Try.underlying40 hi hz0 hz1 .i64 .i64 _ _ 100001 (by rfl) (by rfl) (by rfl) (by rfl) (by rw [hz2]; omega) (by unfold maxLen; omega) (by omega) ?_; intro w4 hown hgrow; have hb4 : Below hb0w.heap.size hb0w w4 := (Below.refl _ _).grown hgrow (Nat.le_refl _) (fun k hk => by cases hk); clear hown) | (go_at_call 16; refine (ibytes_full _ 100001 _ _ (by omega) (by omega)).mono ?_; rintro e hb1w ⟨rfl, hb1⟩; obtain ⟨hb1c, hb1f⟩ := bcell hb1; have hb1s := hb1.size; (try simp only [World.size_alloc] at hb1s); (try (have : w.heap.size < hb1w.heap.size := by omega)); (try (have : w.heap.size + 1 < hb1w.heap.size := by omega)); (try (have : w.heap.size + 1 + 1 < hb1w.heap.size := by omega)); (try (have : w.heap.size + 1 + 1 + 1 < hb1w.heap.size := by omega)); (try (have : bX < hb1w.heap.size := by omega)); (try (have : bY < hb1w.heap.size := by omega)); (try (have : bZ < hb1w.heap.size := by omega))))
  go_ret
  exact ⟨by first | rfl | (simp; done) | (simp [*]; done), by (repeat' (first | (with_reducible exact Below.refl _ _) | (with_reducible assumption) | (with_reducible refine below_alloc ?_ _) | (with_reducible refine Below.drew ?_) | (with_reducible refine below_drewN ?_ _) | (with_reducible refine below_step (by assumption) ?_) | (with_reducible refine below_later ?_ _) | (with_reducible refine Below.setCell ?_ ?_ _) | go_size))⟩
theorem made_u8 {W : World} {base g n : Nat} (h : W.ownsRow base 5 1 (.slice (some ⟨g, 0, none⟩) n n) n (madeCells (Value.int .u8 0).cells (n * 1)).toList) : OwnK .u8 5 W base (some ⟨g, 0, none⟩) n (List.replicate n 0) := by
  unfold OwnK
  rw [List.length_replicate, List.map_replicate]
  rw [Nat.mul_one] at h
  have e : (madeCells (Value.int .u8 0).cells n).toList = List.replicate n (Value.int .u8 0) := toList_madeCells_one _ _
  rw [e] at h
  exact h
theorem concat_pad (r1 r2 : Option Addr) (c1 c2 : Nat) (xs ys zs : List Int) (n : Nat) (hn : ys.length = n) (hz : zs = xs ++ ys) (W : World)
    (hx : IsInts (W.alloc (.cells #[.slice r1 xs.length c1, .slice r2 n c2] 29)) r1 c1 .u8 xs) (hy : IsInts (W.alloc (.cells #[.slice r1 xs.length c1, .slice r2 n c2] 29)) r2 c2 .u8 ys) (hl : xs.length + ys.length ≤ 100000) :
    Calls Try.prog 21 #[.slice (some ⟨W.heap.size, 0, none⟩) 2 2] (W.alloc (.cells #[.slice r1 xs.length c1, .slice r2 n c2] 29)) fun e w' => ∃ r cap, e = .returned (.slice r zs.length cap) ∧ IsInts w' r cap .u8 zs ∧ Below (W.alloc (.cells #[.slice r1 xs.length c1, .slice r2 n c2] 29)).heap.size (W.alloc (.cells #[.slice r1 xs.length c1, .slice r2 n c2] 29)) w' := by
  subst hn
  subst hz
  exact concat2B W.heap.size r1 r2 c1 c2 xs ys _ (by rw [World.size_alloc]; omega) (by simp) (by simp) hx hy hl (fun x h => by
    rcases List.mem_append.1 h with h | h
    · exact hx.wf x h
    · exact hy.wf x h)
set_option maxRecDepth 100000 in
set_option maxHeartbeats 4000000 in
theorem iw_few (r q : Option Addr) (c d : Nat) (xs ys : List Int) (w : World) (hx : IsInts w r c .u8 xs) (hy : IsInts w q d .u32 ys) (hl : xs.length ≤ 5000) (hl2 : ys.length ≤ 5000) : Calls Try.prog 4 #[.slice r xs.length c, .slice q ys.length d, .bool false] w fun e w' => e = .returned (.bool true) ∧ Below w.heap.size w w' := by
  obtain ⟨i0, hi, hz0, hz1, hz2⟩ := info_parts infoU8
  have h1 : ¬ (5000 : Int) < xs.length := by omega
  have h2 : ¬ (5000 : Int) < ys.length := by omega
  have hxb : ByteL xs := fun x h => wf_u8 (hx.wf x h)
  have hyb : ∀ x ∈ ys, 0 ≤ x ∧ x ≤ 4294967295 := fun x h => wf_u32 (hy.wf x h)
  have HX : Hid (∀ W, Below w.heap.size w W → IsInts W r c .u8 xs) := Lib.hid (fun W h => hx.later h)
  have HY : Hid (∀ W, Below w.heap.size w W → IsInts W q d .u32 ys) := Lib.hid (fun W h => hy.later h)
  have HB : Hid (ByteL (bytesW ys)) := Lib.hid (bytesW_byte hyb)
  have HB2 : Hid (ByteL (bytesW (wordsB xs))) := Lib.hid (bytesW_byte (wordsB_bd hxb))
  have HW : Hid (∀ x ∈ wordsB xs, 0 ≤ x ∧ x ≤ 4294967295) := Lib.hid (wordsB_bd hxb)
  have HW2 : Hid (wordsB (bytesW ys) = ys) := Lib.hid (words_bytes hyb)
  have HW3 : Hid (∀ x ∈ wordsB (bytesW ys), 0 ≤ x ∧ x ≤ 4294967295) := Lib.hid (by rw [words_bytes hyb]; exact hyb)
  have HP : Hid (bytesW (wordsB xs) = xs ++ List.replicate (padN xs.length) 0) := Lib.hid (bytes_words hxb)
  have HL1 : Hid ((wordsB xs).length = (xs.length + 3) / 4) := Lib.hid (wordsB_len xs)
  have HL2 : Hid ((bytesW ys).length = 4 * ys.length) := Lib.hid (bytesW_len ys)
  have HPL : Hid (padN xs.length ≤ 3) := Lib.hid (padN_lt _)
  have m0 : IntKind.i64.wrap (4 - (xs.length : Int) % 4) = 4 - (xs.length : Int) % 4 := IntWalk.i64_in _ (by omega)
  have m1 : (4 - (xs.length : Int) % 4).tmod 4 = ((padN xs.length : Nat) : Int) := by rw [Int.tmod_eq_emod_of_nonneg (by omega)]; unfold padN; omega
  have m2 : (4 - (xs.length : Int) % 4) % 4 = ((padN xs.length : Nat) : Int) := by unfold padN; omega
  have hpd : (0 : Int) ≤ ((padN xs.length : Nat) : Int) := by omega
  clear hx hy
  generalize hpad : padN xs.length = pd at *
  generalize hbw : bytesW (wordsB xs) = BW at *
  generalize hbwy : bytesW ys = BY at *
  generalize hwx : wordsB xs = WX at *
  generalize hww : wordsB BY = WW at *
  have HPAD := Lib.hid hpad
  have HBW := Lib.hid hbw
  have HBWY := Lib.hid hbwy
  have HWX := Lib.hid hwx
  have HWW := Lib.hid hww
  clear hpad hbw hbwy hwx hww
  have tb1 : True := trivial
  have tw1 : True := trivial
  have tw2 : True := trivial
  have tq1 : True := trivial
  have te1 : True := trivial
  go_enter Try.func4, Try.ntmps4
  go_wp2_with (first
    | (go_at_call 8; refine (awake_any _).mono ?_; rintro e hb0w ⟨rfl, hb0⟩; obtain ⟨hb0c, hb0f⟩ := bcell hb0; have hb0s := hb0.size; (try simp only [World.size_alloc] at hb0s); (try (have : w.heap.size < hb0w.heap.size := by omega)); (try (have : w.heap.size + 1 < hb0w.heap.size := by omega)); (try (have : w.heap.size + 1 + 1 < hb0w.heap.size := by omega)); (try (have : w.heap.size + 1 + 1 + 1 < hb0w.heap.size := by omega)); (try (have : bX < hb0w.heap.size := by omega)); (try (have : bY < hb0w.heap.size := by omega)); (try (have : bZ < hb0w.heap.size := by omega)))
    | (have _t := tb1; go_at_call 16; refine (ibytes_any q d ys _ (HY.out _ (by (repeat' (first | (with_reducible exact Below.refl _ _) | (with_reducible assumption) | (with_reducible refine below_alloc ?_ _) | (with_reducible refine Below.drew ?_) | (with_reducible refine below_drewN ?_ _) | (with_reducible refine below_step (by assumption) ?_) | (with_reducible refine below_later ?_ _) | (with_reducible refine Below.setCell ?_ ?_ _) | go_size)))) (by omega)).mono ?_; rintro e v1 ⟨r1, c1, rfl, ho1, hv1⟩; rw [HBWY.out] at ho1 ⊢; have HO1 := Lib.hid (fun W (h : Below v1.heap.size v1 W) => (ints_u8 ho1 HB.out).later h); clear ho1 tb1 _t; have hv1s := hv1.size)
    | (have _t := tw1; go_at_call 17; refine (iwords_any r c xs _ (HX.out _ (by (repeat' (first | (with_reducible exact Below.refl _ _) | (with_reducible assumption) | (with_reducible refine below_alloc ?_ _) | (with_reducible refine Below.drew ?_) | (with_reducible refine below_drewN ?_ _) | (with_reducible refine below_step (by assumption) ?_) | (with_reducible refine below_later ?_ _) | (with_reducible refine Below.setCell ?_ ?_ _) | go_size)))) (by omega)).mono ?_; rintro e v2 ⟨r2, c2, rfl, ho2, hv2⟩; rw [HWX.out] at ho2 ⊢; have HO2 := Lib.hid (fun W (h : Below v2.heap.size v2 W) => (ints_u32 ho2 HW.out).later h); clear ho2 tw1 _t; have hv2s := hv2.size)
    | (go_at_call 16; refine (ibytes_any r2 c2 WX _ (HO2.out _ (Below.refl _ _)) (by have := HL1.out; omega)).mono ?_; rintro e v3 ⟨r3, c3, rfl, ho3, hv3⟩; rw [HBW.out] at ho3 ⊢; have HO3 := Lib.hid (fun W (h : Below v3.heap.size v3 W) => (ints_u8 ho3 HB2.out).later h); clear ho3; have hv3s := hv3.size)
    | (at_make; refine wpList_make_full _ (by rfl) _ _ _ (by rfl) v3.heap.size 5 i0 (.int .u8 0) 1 Try.underlying29 hi hz0 hz1 .i64 .i64 _ _ pd (by rfl) (by rfl) (by rfl) (by rfl) (by rw [hz2]; have := HPL.out; omega) (by have := HPL.out; unfold maxLen; omega) (Nat.le_refl _) ?_; intro v4 hown hgrow; have hv4 : Below v3.heap.size v3 v4 := (Below.refl _ _).grown hgrow (Nat.le_refl _) (fun k hk => by cases hk); have hv4s := hv4.size; have HO4 := Lib.hid (fun W (h : Below v4.heap.size v4 W) => (ints_u8 (made_u8 hown) (fun x hx => by obtain rfl := (List.mem_replicate.1 hx).2; omega)).later h); clear hown)
    | (have _t := tw2; go_at_call 17; refine (iwords_any r c xs _ (HX.out _ (by (repeat' (first | (with_reducible exact Below.refl _ _) | (with_reducible assumption) | (with_reducible refine below_alloc ?_ _) | (with_reducible refine Below.drew ?_) | (with_reducible refine below_drewN ?_ _) | (with_reducible refine below_step (by assumption) ?_) | (with_reducible refine below_later ?_ _) | (with_reducible refine Below.setCell ?_ ?_ _) | go_size)))) (by omega)).mono ?_; rintro e v5 ⟨r5, c5, rfl, ho5, hv5⟩; rw [HWX.out] at ho5 ⊢; have HO5 := Lib.hid (fun W (h : Below v5.heap.size v5 W) => (ints_u32 ho5 HW.out).later h); clear ho5 tw2 _t; have hv5s := hv5.size)
    | (go_at_call 19; refine (rwords_any r c xs _ (HX.out _ (by (repeat' (first | (with_reducible exact Below.refl _ _) | (with_reducible assumption) | (with_reducible refine below_alloc ?_ _) | (with_reducible refine Below.drew ?_) | (with_reducible refine below_drewN ?_ _) | (with_reducible refine below_step (by assumption) ?_) | (with_reducible refine below_later ?_ _) | (with_reducible refine Below.setCell ?_ ?_ _) | go_size)))) (by omega)).mono ?_; rintro e v6 ⟨r6, c6, rfl, ho6, hv6⟩; rw [HWX.out] at ho6 ⊢; have HO6 := Lib.hid (fun W (h : Below v6.heap.size v6 W) => (ints_u32 ho6 HW.out).later h); clear ho6; have hv6s := hv6.size)
    | (have _t := tq1; go_at_call 18; refine (equalU_any r5 r6 c5 c6 WX WX _ (HO5.out _ hv6) (HO6.out _ (Below.refl _ _))).mono ?_; rintro e v7 ⟨rfl, hv7⟩; rw [show decide (WX = WX) = true by simp]; clear tq1 _t; have hv7s := hv7.size)
    | (go_at_call 20; refine (rbytes_any q d ys _ (HY.out _ (by (repeat' (first | (with_reducible exact Below.refl _ _) | (with_reducible assumption) | (with_reducible refine below_alloc ?_ _) | (with_reducible refine Below.drew ?_) | (with_reducible refine below_drewN ?_ _) | (with_reducible refine below_step (by assumption) ?_) | (with_reducible refine below_later ?_ _) | (with_reducible refine Below.setCell ?_ ?_ _) | go_size)))) (by omega)).mono ?_; rintro e v8 ⟨r8, c8, rfl, ho8, hv8⟩; rw [HBWY.out] at ho8 ⊢; have HO8 := Lib.hid (fun W (h : Below v8.heap.size v8 W) => (ints_u8 ho8 HB.out).later h); clear ho8; have hv8s := hv8.size)
    | (have _t := te1; go_at_call 14; refine (bEq_any r1 r8 c1 c8 BY BY _ (HO1.out _ (by (repeat' (first | (with_reducible exact Below.refl _ _) | (with_reducible assumption) | (with_reducible refine below_alloc ?_ _) | (with_reducible refine Below.drew ?_) | (with_reducible refine below_drewN ?_ _) | (with_reducible refine below_step (by assumption) ?_) | (with_reducible refine below_later ?_ _) | (with_reducible refine Below.setCell ?_ ?_ _) | go_size)))) (HO8.out _ (Below.refl _ _))).mono ?_; rintro e v9 ⟨rfl, hv9⟩; rw [show decide (BY = BY) = true by simp]; clear te1 _t; have hv9s := hv9.size)
    | (go_at_call 17; refine (iwords_any r1 c1 BY _ (HO1.out _ (by (repeat' (first | (with_reducible exact Below.refl _ _) | (with_reducible assumption) | (with_reducible refine below_alloc ?_ _) | (with_reducible refine Below.drew ?_) | (with_reducible refine below_drewN ?_ _) | (with_reducible refine below_step (by assumption) ?_) | (with_reducible refine below_later ?_ _) | (with_reducible refine Below.setCell ?_ ?_ _) | go_size)))) (by have := HL2.out; omega)).mono ?_; rintro e v10 ⟨r10, c10, rfl, ho10, hv10⟩; rw [HWW.out] at ho10 ⊢; have HO10 := Lib.hid (fun W (h : Below v10.heap.size v10 W) => (ints_u32 ho10 HW3.out).later h); clear ho10; have hv10s := hv10.size)
    | (go_at_call 18; refine (equalU_any r10 q c10 d WW ys _ (HO10.out _ (Below.refl _ _)) (HY.out _ (by (repeat' (first | (with_reducible exact Below.refl _ _) | (with_reducible assumption) | (with_reducible refine below_alloc ?_ _) | (with_reducible refine Below.drew ?_) | (with_reducible refine below_drewN ?_ _) | (with_reducible refine below_step (by assumption) ?_) | (with_reducible refine below_later ?_ _) | (with_reducible refine Below.setCell ?_ ?_ _) | go_size))))).mono ?_; rintro e v11 ⟨rfl, hv11⟩; rw [show decide (WW = ys) = true by simp [HW2.out]]; have hv11s := hv11.size)
    | (go_at_call 21; refine (concat_pad r _ c _ xs (List.replicate pd 0) BW pd (by simp) HP.out v11 (HX.out _ (by (repeat' (first | (with_reducible exact Below.refl _ _) | (with_reducible assumption) | (with_reducible refine below_alloc ?_ _) | (with_reducible refine Below.drew ?_) | (with_reducible refine below_drewN ?_ _) | (with_reducible refine below_step (by assumption) ?_) | (with_reducible refine below_later ?_ _) | (with_reducible refine Below.setCell ?_ ?_ _) | go_size)))) (HO4.out _ (by (repeat' (first | (with_reducible exact Below.refl _ _) | (with_reducible assumption) | (with_reducible refine below_alloc ?_ _) | (with_reducible refine Below.drew ?_) | (with_reducible refine below_drewN ?_ _) | (with_reducible refine below_step (by assumption) ?_) | (with_reducible refine below_later ?_ _) | (with_reducible refine Below.setCell ?_ ?_ _) | go_size)))) (by have := HPL.out; simp only [List.length_replicate]; omega)).mono ?_; rintro e v12 ⟨r12, c12, rfl, ho12, hv12⟩; have hv12s := hv12.size)
    | (go_at_call 14; refine (bEq_any r3 r12 c3 c12 BW BW _ (HO3.out _ (by (repeat' (first | (with_reducible exact Below.refl _ _) | (with_reducible assumption) | (with_reducible refine below_alloc ?_ _) | (with_reducible refine Below.drew ?_) | (with_reducible refine below_drewN ?_ _) | (with_reducible refine below_step (by assumption) ?_) | (with_reducible refine below_later ?_ _) | (with_reducible refine Below.setCell ?_ ?_ _) | go_size)))) ho12).mono ?_; rintro e v13 ⟨rfl, hv13⟩; rw [show decide (BW = BW) = true by simp]; have hv13s := hv13.size))
  go_ret
  exact ⟨by first | rfl | (simp; done) | (simp [*]; done), by (repeat' (first | (with_reducible exact Below.refl _ _) | (with_reducible assumption) | (with_reducible refine below_alloc ?_ _) | (with_reducible refine Below.drew ?_) | (with_reducible refine below_drewN ?_ _) | (with_reducible refine below_step (by assumption) ?_) | (with_reducible refine below_later ?_ _) | (with_reducible refine Below.setCell ?_ ?_ _) | go_size))⟩
set_option maxRecDepth 100000 in
set_option maxHeartbeats 2000000 in
theorem iw_long (r q : Option Addr) (c d : Nat) (xs ys : List Int) (m : Bool) (w : World) (hx : xs.length ≤ 9223372036854775807) (hy : ys.length ≤ 9223372036854775807) (hl : 5000 < xs.length ∨ 5000 < ys.length) : Calls Try.prog 4 #[.slice r xs.length c, .slice q ys.length d, .bool m] w fun e w' => e = .returned (.bool true) ∧ Below w.heap.size w w' := by
  by_cases h : 5000 < xs.length
  · have h1 : (5000 : Int) < xs.length := by omega
    go_enter Try.func4, Try.ntmps4
    go_wp2_with (first | (go_at_call 8; refine (awake_any _).mono ?_; rintro e hb0w ⟨rfl, hb0⟩; obtain ⟨hb0c, hb0f⟩ := bcell hb0; have hb0s := hb0.size; (try simp only [World.size_alloc] at hb0s); (try (have : w.heap.size < hb0w.heap.size := by omega)); (try (have : w.heap.size + 1 < hb0w.heap.size := by omega)); (try (have : w.heap.size + 1 + 1 < hb0w.heap.size := by omega)); (try (have : w.heap.size + 1 + 1 + 1 < hb0w.heap.size := by omega)); (try (have : bX < hb0w.heap.size := by omega)); (try (have : bY < hb0w.heap.size := by omega)); (try (have : bZ < hb0w.heap.size := by omega))))
    go_ret
    exact ⟨by first | rfl | (simp; done) | (simp [*]; done), by (repeat' (first | (with_reducible exact Below.refl _ _) | (with_reducible assumption) | (with_reducible refine below_alloc ?_ _) | (with_reducible refine Below.drew ?_) | (with_reducible refine below_drewN ?_ _) | (with_reducible refine below_step (by assumption) ?_) | (with_reducible refine below_later ?_ _) | (with_reducible refine Below.setCell ?_ ?_ _) | go_size))⟩
  · have h1 : ¬ (5000 : Int) < xs.length := by omega
    have h2 : (5000 : Int) < ys.length := by omega
    go_enter Try.func4, Try.ntmps4
    go_wp2_with (first | (go_at_call 8; refine (awake_any _).mono ?_; rintro e hb0w ⟨rfl, hb0⟩; obtain ⟨hb0c, hb0f⟩ := bcell hb0; have hb0s := hb0.size; (try simp only [World.size_alloc] at hb0s); (try (have : w.heap.size < hb0w.heap.size := by omega)); (try (have : w.heap.size + 1 < hb0w.heap.size := by omega)); (try (have : w.heap.size + 1 + 1 < hb0w.heap.size := by omega)); (try (have : w.heap.size + 1 + 1 + 1 < hb0w.heap.size := by omega)); (try (have : bX < hb0w.heap.size := by omega)); (try (have : bY < hb0w.heap.size := by omega)); (try (have : bZ < hb0w.heap.size := by omega))))
    go_ret
    exact ⟨by first | rfl | (simp; done) | (simp [*]; done), by (repeat' (first | (with_reducible exact Below.refl _ _) | (with_reducible assumption) | (with_reducible refine below_alloc ?_ _) | (with_reducible refine Below.drew ?_) | (with_reducible refine below_drewN ?_ _) | (with_reducible refine below_step (by assumption) ?_) | (with_reducible refine below_later ?_ _) | (with_reducible refine Below.setCell ?_ ?_ _) | go_size))⟩
theorem iw_walk (r q : Option Addr) (c d : Nat) (xs ys : List Int) (m : Bool) (w : World) (hx : IsInts w r c .u8 xs) (hy : IsInts w q d .u32 ys) : Calls Try.prog 4 #[.slice r xs.length c, .slice q ys.length d, .bool m] w fun e w' => e = .returned (.bool true) ∧ Below w.heap.size w w' := by
  have hmx := Nat.le_trans hx.le hx.max
  have hmy := Nat.le_trans hy.le hy.max
  unfold maxLen at hmx hmy
  by_cases h : 5000 < xs.length ∨ 5000 < ys.length
  · exact iw_long r q c d xs ys m w (by omega) (by omega) h
  · cases m
    · exact iw_few r q c d xs ys w hx hy (by omega) (by omega)
    · exact iw_many r q c d xs ys w (by omega) (by omega)

set_option maxRecDepth 100000 in
theorem iwords_holds : Rows.ImageWordsSaid :=
  OpenClaim.holds_of_wide 4 Try.f4 rfl rfl rfl rfl rfl rfl rfl ⟨rfl, rfl, rfl, rfl, rfl⟩ rfl rfl rfl rfl rfl (by kernel_rfl) Try.func4 (by kernel_rfl)
    (of_decide_eq_true (by kernel_rfl)) (by unfold Func.isWrapper; first | (rw [if_pos (by decide +kernel)]; kernel_rfl) | (rw [if_neg (by decide +kernel)]; exact ⟨rfl, rfl⟩))
    (fun os started H enc _ => by
      refine law_frame started (s := Rows.imageWordsSpec) (conds := Rows.imageWordsRow.domain) Try.func4 (by kernel_rfl) rfl 4 rfl Try.underlying4 (by decide +kernel) (fun ds h => ?_)
        (ChangeSpec.witness6 (enc := enc) (C := Try.checked) false ⟨#[], #[.slice none 0 0, .slice none 0 0, .bool false], []⟩ 12 (by kernel_rfl) (by kernel_rfl) (by kernel_rfl) (by kernel_rfl)) ?_
      · match ds, h with
        | [_, _, _], _ => rfl
      · intro W base args ds p hval hA _
        rw [Try.params4] at hA hval
        obtain ⟨v0, vs0, d0, ds0, p0, q0, hargs, rfl, rfl, h0, r0⟩ := trodAll_cons hA
        obtain ⟨v1, vs1, d1, ds1, p1, q1, rfl, rfl, rfl, h1, r1⟩ := trodAll_cons r0
        obtain ⟨v2, vs2, d2, ds2, p2, q2, rfl, rfl, rfl, h2, r2⟩ := trodAll_cons r1
        obtain ⟨rfl, rfl, rfl⟩ := trodAll_nil r2
        obtain rfl : args = #[v0, v1, v2] := by cases args; simp_all
        obtain ⟨r0, c0, b0, e0, w0⟩ := rd_ints Try.underlying29 Try.underlying5 (by kernel_rfl) (arg_slice Try.underlying29 (hval 0 _ v0 rfl rfl) h0)
        simp only [List.cons.injEq, and_true] at e0
        subst e0
        obtain ⟨r1, c1, b1, e1, w1⟩ := rd_ints Try.underlying40 Try.underlying35 (by kernel_rfl) (arg_slice Try.underlying40 (hval 1 _ v1 rfl rfl) h1)
        simp only [List.cons.injEq, and_true] at e1
        subst e1
        obtain ⟨b2, rfl, rfl, rfl⟩ := open_bool Try.underlying4 (hval 2 _ v2 rfl rfl) h2
        apply iw_walk <;> (first | assumption | rfl))
#print axioms iwords_holds

end Go.Proofs.Ytfooefiaenlhmaa
