/- Contracts of torque's Share and of the reference's. Printed by a program. -/
import Derived.Test.YtpmjnpbigppllaaTorqE
import Derived.WalkMore
namespace Go.Proofs.Ytpmjnpbigppllaa
set_option linter.unusedVariables false
set_option linter.unusedSimpArgs false
open Go.RowKit Go.ChangeShapes Go.WideShapes Go.ChangeAt

@[go_sem] theorem size_setCellG (w : World) (a : Addr) (v : Value) : (w.setCell a v).heap.size = w.heap.size := size_setCell w a v
/-- The greatest number from n down to 1 with a property, or 0. -/
def downTo (p : Nat → Bool) : Nat → Nat
  | 0 => 0
  | k + 1 => if p (k + 1) = true then k + 1 else downTo p k
theorem downTo_le (p : Nat → Bool) : ∀ n, downTo p n ≤ n
  | 0 => Nat.le_refl _
  | k + 1 => by
    have := downTo_le p k
    unfold downTo
    split <;> omega
theorem downTo_hit (p : Nat → Bool) : ∀ n, 0 < downTo p n → p (downTo p n) = true
  | 0, h => by simp [downTo] at h
  | k + 1, h => by
    unfold downTo at h ⊢
    split
    · rename_i hp; exact hp
    · rename_i hp
      rw [if_neg hp] at h
      exact downTo_hit p k h
theorem downTo_miss (p : Nat → Bool) : ∀ n t, downTo p n < t → t ≤ n → p t = false
  | 0, t, h, ht => by omega
  | k + 1, t, h, ht => by
    unfold downTo at h
    split at h
    · omega
    · rename_i hp
      by_cases e : t = k + 1
      · subst e
        simpa using hp
      · exact downTo_miss p k t h (by omega)
theorem downTo_step {p : Nat → Bool} {k : Nat} (h : p (k + 1) = false) : downTo p (k + 1) = downTo p k := by
  rw [downTo, if_neg (by rw [h]; decide)]
theorem downTo_here {p : Nat → Bool} {k : Nat} (h : p (k + 1) = true) : downTo p (k + 1) = k + 1 := by
  rw [downTo, if_pos h]

@[irreducible] noncomputable def shP (xs ys : List Int) (o n most : Int) (f : Nat) : Bool := decide (tqV o (cval xs ys 2560) f n ≤ most)
@[irreducible] noncomputable def shF (xs ys : List Int) (o n most : Int) : Nat := downTo (shP xs ys o n most) n.toNat
@[irreducible] noncomputable def shL (xs ys : List Int) (o n most : Int) (f : Nat) : Nat := least (fun l => decide (tqV o (cval xs ys (l : Int)) f n ≤ most)) 2560
theorem shP_eq (xs ys : List Int) (o n most : Int) (f : Nat) : shP xs ys o n most f = decide (tqV o (cval xs ys 2560) f n ≤ most) := by unfold shP; rfl
theorem shL_spec {X Y : List Int} {Z : List (List Int)} {xs ys : List Int} (h : TqOk X Y Z xs ys) {o n most : Int} {f : Nat} (o0 : 0 ≤ o) (n0 : 1 ≤ n) : shL xs ys o n most f ≤ 2560 ∧ (∀ t : Nat, t < shL xs ys o n most f → decide (tqV o (cval xs ys t) f n ≤ most) = false) ∧ (∀ t : Nat, shL xs ys o n most f ≤ t → t < 2560 → decide (tqV o (cval xs ys t) f n ≤ most) = true) := by
  unfold shL
  refine least_split (fun a b hab ha => ?_) 2560
  simp only [decide_eq_true_eq] at ha ⊢
  have he := eff_down h (show (a : Int) ≤ b by omega)
  exact Int.le_trans (tqV_le o0 (eff_bd h b).1 (by omega) (Int.le_refl o) he (Int.le_refl (f : Int)) n0) ha

set_option maxRecDepth 100000 in
theorem shareCl_any (tab : Array Value) (X Y : List Int) (Z : List (List Int)) (xs ys : List Int) (bT bO bF bN bM : Nat) (o most n l : Int) (f : Nat) (w : World) (hsz : tab.size = 24) (hE : CurAt w tab 18 19 xs ys) (hok : TqOk X Y Z xs ys) (o0 : 0 ≤ o) (o1 : o ≤ 10000) (f1 : (f : Int) ≤ 8) (n0 : 1 ≤ n) (n1 : n ≤ 8)
    (hrow : w.heap[bT]? = some (.cells tab 31)) (c0 : w.cell? ⟨bO, 0, none⟩ = some (.int .i64 o)) (c1 : w.cell? ⟨bF, 0, none⟩ = some (.int .i64 f)) (c2 : w.cell? ⟨bN, 0, none⟩ = some (.int .i64 n)) (c3 : w.cell? ⟨bM, 0, none⟩ = some (.int .i64 most)) (sO : bO < w.heap.size) (sF : bF < w.heap.size) (sN : bN < w.heap.size) (sM : bM < w.heap.size) :
    Calls Try.prog 52 #[.int .i64 l, .pointer (some ⟨bT, 0, none⟩), .pointer (some ⟨bO, 0, none⟩), .pointer (some ⟨bF, 0, none⟩), .pointer (some ⟨bN, 0, none⟩), .pointer (some ⟨bM, 0, none⟩)] w fun e w' => e = .returned (.bool (decide (tqV o (cval xs ys l) f n ≤ most))) ∧ Below w.heap.size w w' := by
  have HE : Hid (∀ w', Below w.heap.size w w' → CurAt w' tab 18 19 xs ys) := Lib.hid (fun _ h => hE.later h)
  have HI : Hid ((Try.prog.info? 31).map (·.size) = some tab.size) := Lib.hid (by rw [hsz]; kernel_rfl)
  have HTQ := Lib.hid (fun w hE => torq_any tab xs ys o l f n w hsz hE hok.cur hok.bd o0 o1 (by omega) f1 n0 n1)
  have HR := Lib.hid hrow
  clear hsz hE hok hrow o0 o1
  generalize tqV o (cval xs ys l) f n = v at *
  generalize (f : Int) = fi at *
  go_enter Try.func52, Try.ntmps52
  go_wp2
  (refine wp_region_later (by kernel_rfl) (by kernel_rfl) ?_; (repeat (first | (refine wpQuiet_step (fun K hK => ?_); refine quiet_row_K rfl 31 (.tmp 1) rfl bT rfl 31 tab (0, 0) _ (fun W hW => by obtain ⟨e, rfl⟩ := hW; exact later_row e HR.out) Try.underlying31 rfl HI.out ?_; go_simp; refine hK _ ?_; clear hK K) | go_big_quiet_step ((go_at_call 37; exact later_call (HTQ.out _ (HE.out _ (by (repeat' (first | (with_reducible exact Below.refl _ _) | (with_reducible assumption) | (with_reducible refine below_alloc ?_ _) | (with_reducible refine Below.drew ?_) | (with_reducible refine below_drewN ?_ _) | (with_reducible refine below_step (by assumption) ?_) | (with_reducible refine below_later ?_ _) | (with_reducible refine Below.setCell ?_ ?_ _) | go_size))))))))); refine wpQuiet_nil ?_; rintro _ ⟨e1, rfl⟩; have e1s := e1.h.size; (try simp only [World.size_alloc, World.size_drewN, World.drewN_heap] at e1s); (try (have : w.heap.size < e1.w.heap.size := by omega)); (try (have : w.heap.size + 1 < e1.w.heap.size := by omega)); (try (have : w.heap.size + 1 + 1 < e1.w.heap.size := by omega)); (try (have : w.heap.size + 1 + 1 + 1 < e1.w.heap.size := by omega)); (try (have : bX < e1.w.heap.size := by omega)); (try (have : bY < e1.w.heap.size := by omega)); (try (have : bZ < e1.w.heap.size := by omega)))
  go_wp2
  go_ret
  exact ⟨rfl, by (repeat' (first | (with_reducible exact Below.refl _ _) | (with_reducible assumption) | (with_reducible refine below_alloc ?_ _) | (with_reducible refine Below.drew ?_) | (with_reducible refine below_drewN ?_ _) | (with_reducible refine below_step (by assumption) ?_) | (with_reducible refine below_later ?_ _) | (with_reducible refine Below.setCell ?_ ?_ _) | go_size))⟩

noncomputable def share3 (X Y : List Int) (Z : List (List Int)) (xs ys : List Int) (s c most n : Int) : Int × Int × Int :=
  if (opt2 X Y Z xs ys s c).2 = 0 then (if inB n 1 8 = true ∧ 0 ≤ most then ((shF xs ys (mval X Y Z s c) n most : Int), (shL xs ys (mval X Y Z s c) n most (shF xs ys (mval X Y Z s c) n most) : Int), 0) else (0, 0, 2)) else (0, 0, (opt2 X Y Z xs ys s c).2)
@[go_sem] def tup3 (p : Int × Int × Int) : Value := .tuple #[.int .i64 p.1, .int .i64 p.2.1, .int .i64 p.2.2]
set_option maxRecDepth 100000 in
set_option maxHeartbeats 1000000 in
theorem tshare_any (tab : Array Value) (X Y : List Int) (Z : List (List Int)) (xs ys : List Int) (w : World) (hsz : tab.size = 24) (hM : MapAt w tab 6 7 8 X Y Z) (hE : CurAt w tab 18 19 xs ys) (s c most n : Int) :
    Calls Try.prog 23 #[.agg tab, .int .i64 s, .int .i64 c, .int .i64 most, .int .i64 n] w fun e w' => e = .returned (tup3 (share3 X Y Z xs ys s c most n)) ∧ Below w.heap.size w w' := by
  have HM : Hid (∀ w', Below w.heap.size w w' → MapAt w' tab 6 7 8 X Y Z) := Lib.hid (fun _ h => hM.later h)
  have HE : Hid (∀ w', Below w.heap.size w w' → CurAt w' tab 18 19 xs ys) := Lib.hid (fun _ h => hE.later h)
  have HI : Hid ((Try.prog.info? 31).map (·.size) = some tab.size) := Lib.hid (by rw [hsz]; kernel_rfl)
  have HSZ := Lib.hid hsz
  clear hsz
  clear hM hE
  rcases opt2_cases X Y Z xs ys s c with ⟨h, hn⟩ | ⟨h, hT, hn⟩ | ⟨h, hT, i1, i2, b1, b2⟩
  · have H := Lib.hid (show share3 X Y Z xs ys s c most n = (0, 0, 1) by simp [share3, h])
    clear hn
    go_enter Try.func23, Try.ntmps23
    go_wp2
    go_step3
    go_wp2_with (first | (refine wpList_load_row rfl 31 (.tmp 5) rfl w.heap.size rfl 31 tab (0, 0) _ ((Below.block (show Below (w.alloc (.cells tab 31)).heap.size (w.alloc (.cells tab 31)) _ by (repeat' (first | (with_reducible exact Below.refl _ _) | (with_reducible assumption) | (with_reducible refine below_alloc ?_ _) | (with_reducible refine Below.drew ?_) | (with_reducible refine below_drewN ?_ _) | (with_reducible refine below_step (by assumption) ?_) | (with_reducible refine below_later ?_ _) | (with_reducible refine Below.setCell ?_ ?_ _) | go_size))) _ (by simp)).trans (heap_alloc_new _ _)) Try.underlying31 rfl HI.out ?_) | (go_at_call 13; refine (optimal_any _ _ _ _ _ _ _ HSZ.out (HM.out _ (by (repeat' (first | (with_reducible exact Below.refl _ _) | (with_reducible assumption) | (with_reducible refine below_alloc ?_ _) | (with_reducible refine Below.drew ?_) | (with_reducible refine below_drewN ?_ _) | (with_reducible refine below_step (by assumption) ?_) | (with_reducible refine below_later ?_ _) | (with_reducible refine Below.setCell ?_ ?_ _) | go_size)))) (HE.out _ (by (repeat' (first | (with_reducible exact Below.refl _ _) | (with_reducible assumption) | (with_reducible refine below_alloc ?_ _) | (with_reducible refine Below.drew ?_) | (with_reducible refine below_drewN ?_ _) | (with_reducible refine below_step (by assumption) ?_) | (with_reducible refine below_later ?_ _) | (with_reducible refine Below.setCell ?_ ?_ _) | go_size)))) _ _).mono ?_; rintro e hb1w ⟨rfl, hb1⟩; obtain ⟨hb1c, hb1f⟩ := bcell hb1; have hb1s := hb1.size; (try simp only [World.size_alloc] at hb1s); (try (have : w.heap.size < hb1w.heap.size := by omega)); (try (have : w.heap.size + 1 < hb1w.heap.size := by omega)); (try (have : w.heap.size + 1 + 1 < hb1w.heap.size := by omega)); (try (have : w.heap.size + 1 + 1 + 1 < hb1w.heap.size := by omega)); (try (have : bX < hb1w.heap.size := by omega)); (try (have : bY < hb1w.heap.size := by omega)); (try (have : bZ < hb1w.heap.size := by omega))))
    (try rw [Exit.noGoto_ret]); (try change bodyPost _ _ _ _ _ _); refine bodyPost_ret (by simp [results, Try.results23, go_sem, *]; try rfl) rfl ?_
    exact ⟨by rw [H.out]; rfl, by (repeat' (first | (with_reducible exact Below.refl _ _) | (with_reducible assumption) | (with_reducible refine below_alloc ?_ _) | (with_reducible refine Below.drew ?_) | (with_reducible refine below_drewN ?_ _) | (with_reducible refine below_step (by assumption) ?_) | (with_reducible refine below_later ?_ _) | (with_reducible refine Below.setCell ?_ ?_ _) | go_size))⟩
  · have H := Lib.hid (show share3 X Y Z xs ys s c most n = (0, 0, 2) by simp [share3, h])
    clear hn hT
    go_enter Try.func23, Try.ntmps23
    go_wp2
    go_step3
    go_wp2_with (first | (refine wpList_load_row rfl 31 (.tmp 5) rfl w.heap.size rfl 31 tab (0, 0) _ ((Below.block (show Below (w.alloc (.cells tab 31)).heap.size (w.alloc (.cells tab 31)) _ by (repeat' (first | (with_reducible exact Below.refl _ _) | (with_reducible assumption) | (with_reducible refine below_alloc ?_ _) | (with_reducible refine Below.drew ?_) | (with_reducible refine below_drewN ?_ _) | (with_reducible refine below_step (by assumption) ?_) | (with_reducible refine below_later ?_ _) | (with_reducible refine Below.setCell ?_ ?_ _) | go_size))) _ (by simp)).trans (heap_alloc_new _ _)) Try.underlying31 rfl HI.out ?_) | (go_at_call 13; refine (optimal_any _ _ _ _ _ _ _ HSZ.out (HM.out _ (by (repeat' (first | (with_reducible exact Below.refl _ _) | (with_reducible assumption) | (with_reducible refine below_alloc ?_ _) | (with_reducible refine Below.drew ?_) | (with_reducible refine below_drewN ?_ _) | (with_reducible refine below_step (by assumption) ?_) | (with_reducible refine below_later ?_ _) | (with_reducible refine Below.setCell ?_ ?_ _) | go_size)))) (HE.out _ (by (repeat' (first | (with_reducible exact Below.refl _ _) | (with_reducible assumption) | (with_reducible refine below_alloc ?_ _) | (with_reducible refine Below.drew ?_) | (with_reducible refine below_drewN ?_ _) | (with_reducible refine below_step (by assumption) ?_) | (with_reducible refine below_later ?_ _) | (with_reducible refine Below.setCell ?_ ?_ _) | go_size)))) _ _).mono ?_; rintro e hb1w ⟨rfl, hb1⟩; obtain ⟨hb1c, hb1f⟩ := bcell hb1; have hb1s := hb1.size; (try simp only [World.size_alloc] at hb1s); (try (have : w.heap.size < hb1w.heap.size := by omega)); (try (have : w.heap.size + 1 < hb1w.heap.size := by omega)); (try (have : w.heap.size + 1 + 1 < hb1w.heap.size := by omega)); (try (have : w.heap.size + 1 + 1 + 1 < hb1w.heap.size := by omega)); (try (have : bX < hb1w.heap.size := by omega)); (try (have : bY < hb1w.heap.size := by omega)); (try (have : bZ < hb1w.heap.size := by omega))))
    (try rw [Exit.noGoto_ret]); (try change bodyPost _ _ _ _ _ _); refine bodyPost_ret (by simp [results, Try.results23, go_sem, *]; try rfl) rfl ?_
    exact ⟨by rw [H.out]; rfl, by (repeat' (first | (with_reducible exact Below.refl _ _) | (with_reducible assumption) | (with_reducible refine below_alloc ?_ _) | (with_reducible refine Below.drew ?_) | (with_reducible refine below_drewN ?_ _) | (with_reducible refine below_step (by assumption) ?_) | (with_reducible refine below_later ?_ _) | (with_reducible refine Below.setCell ?_ ?_ _) | go_size))⟩
  · cases j1 : inB n 1 8 with
    | false =>
      have H := Lib.hid (show share3 X Y Z xs ys s c most n = (0, 0, 2) by simp [share3, h, j1])
      clear hT i1 i2 b1 b2
      go_enter Try.func23, Try.ntmps23
      go_wp2
      go_step3
      go_wp2_with (first | (refine wpList_load_row rfl 31 (.tmp 5) rfl w.heap.size rfl 31 tab (0, 0) _ ((Below.block (show Below (w.alloc (.cells tab 31)).heap.size (w.alloc (.cells tab 31)) _ by (repeat' (first | (with_reducible exact Below.refl _ _) | (with_reducible assumption) | (with_reducible refine below_alloc ?_ _) | (with_reducible refine Below.drew ?_) | (with_reducible refine below_drewN ?_ _) | (with_reducible refine below_step (by assumption) ?_) | (with_reducible refine below_later ?_ _) | (with_reducible refine Below.setCell ?_ ?_ _) | go_size))) _ (by simp)).trans (heap_alloc_new _ _)) Try.underlying31 rfl HI.out ?_) | (go_at_call 13; refine (optimal_any _ _ _ _ _ _ _ HSZ.out (HM.out _ (by (repeat' (first | (with_reducible exact Below.refl _ _) | (with_reducible assumption) | (with_reducible refine below_alloc ?_ _) | (with_reducible refine Below.drew ?_) | (with_reducible refine below_drewN ?_ _) | (with_reducible refine below_step (by assumption) ?_) | (with_reducible refine below_later ?_ _) | (with_reducible refine Below.setCell ?_ ?_ _) | go_size)))) (HE.out _ (by (repeat' (first | (with_reducible exact Below.refl _ _) | (with_reducible assumption) | (with_reducible refine below_alloc ?_ _) | (with_reducible refine Below.drew ?_) | (with_reducible refine below_drewN ?_ _) | (with_reducible refine below_step (by assumption) ?_) | (with_reducible refine below_later ?_ _) | (with_reducible refine Below.setCell ?_ ?_ _) | go_size)))) _ _).mono ?_; rintro e hb1w ⟨rfl, hb1⟩; obtain ⟨hb1c, hb1f⟩ := bcell hb1; have hb1s := hb1.size; (try simp only [World.size_alloc] at hb1s); (try (have : w.heap.size < hb1w.heap.size := by omega)); (try (have : w.heap.size + 1 < hb1w.heap.size := by omega)); (try (have : w.heap.size + 1 + 1 < hb1w.heap.size := by omega)); (try (have : w.heap.size + 1 + 1 + 1 < hb1w.heap.size := by omega)); (try (have : bX < hb1w.heap.size := by omega)); (try (have : bY < hb1w.heap.size := by omega)); (try (have : bZ < hb1w.heap.size := by omega))) | (go_at_call 35; refine (twithin_any _ _ _ _).mono ?_; rintro e w' ⟨rfl, rfl⟩))
      (try rw [Exit.noGoto_ret]); (try change bodyPost _ _ _ _ _ _); refine bodyPost_ret (by simp [results, Try.results23, go_sem, *]; try rfl) rfl ?_
      exact ⟨by rw [H.out]; rfl, by (repeat' (first | (with_reducible exact Below.refl _ _) | (with_reducible assumption) | (with_reducible refine below_alloc ?_ _) | (with_reducible refine Below.drew ?_) | (with_reducible refine below_drewN ?_ _) | (with_reducible refine below_step (by assumption) ?_) | (with_reducible refine below_later ?_ _) | (with_reducible refine Below.setCell ?_ ?_ _) | go_size))⟩
    | true =>
      have ⟨n0, n1⟩ := inB_true.1 j1
      by_cases m0 : most < 0
      · have H := Lib.hid (show share3 X Y Z xs ys s c most n = (0, 0, 2) by simp [share3, h]; omega)
        clear hT i1 i2 b1 b2
        go_enter Try.func23, Try.ntmps23
        go_wp2
        go_step3
        go_wp2_with (first | (refine wpList_load_row rfl 31 (.tmp 5) rfl w.heap.size rfl 31 tab (0, 0) _ ((Below.block (show Below (w.alloc (.cells tab 31)).heap.size (w.alloc (.cells tab 31)) _ by (repeat' (first | (with_reducible exact Below.refl _ _) | (with_reducible assumption) | (with_reducible refine below_alloc ?_ _) | (with_reducible refine Below.drew ?_) | (with_reducible refine below_drewN ?_ _) | (with_reducible refine below_step (by assumption) ?_) | (with_reducible refine below_later ?_ _) | (with_reducible refine Below.setCell ?_ ?_ _) | go_size))) _ (by simp)).trans (heap_alloc_new _ _)) Try.underlying31 rfl HI.out ?_) | (go_at_call 13; refine (optimal_any _ _ _ _ _ _ _ HSZ.out (HM.out _ (by (repeat' (first | (with_reducible exact Below.refl _ _) | (with_reducible assumption) | (with_reducible refine below_alloc ?_ _) | (with_reducible refine Below.drew ?_) | (with_reducible refine below_drewN ?_ _) | (with_reducible refine below_step (by assumption) ?_) | (with_reducible refine below_later ?_ _) | (with_reducible refine Below.setCell ?_ ?_ _) | go_size)))) (HE.out _ (by (repeat' (first | (with_reducible exact Below.refl _ _) | (with_reducible assumption) | (with_reducible refine below_alloc ?_ _) | (with_reducible refine Below.drew ?_) | (with_reducible refine below_drewN ?_ _) | (with_reducible refine below_step (by assumption) ?_) | (with_reducible refine below_later ?_ _) | (with_reducible refine Below.setCell ?_ ?_ _) | go_size)))) _ _).mono ?_; rintro e hb1w ⟨rfl, hb1⟩; obtain ⟨hb1c, hb1f⟩ := bcell hb1; have hb1s := hb1.size; (try simp only [World.size_alloc] at hb1s); (try (have : w.heap.size < hb1w.heap.size := by omega)); (try (have : w.heap.size + 1 < hb1w.heap.size := by omega)); (try (have : w.heap.size + 1 + 1 < hb1w.heap.size := by omega)); (try (have : w.heap.size + 1 + 1 + 1 < hb1w.heap.size := by omega)); (try (have : bX < hb1w.heap.size := by omega)); (try (have : bY < hb1w.heap.size := by omega)); (try (have : bZ < hb1w.heap.size := by omega))) | (go_at_call 35; refine (twithin_any _ _ _ _).mono ?_; rintro e w' ⟨rfl, rfl⟩))
        (try rw [Exit.noGoto_ret]); (try change bodyPost _ _ _ _ _ _); refine bodyPost_ret (by simp [results, Try.results23, go_sem, *]; try rfl) rfl ?_
        exact ⟨by rw [H.out]; rfl, by (repeat' (first | (with_reducible exact Below.refl _ _) | (with_reducible assumption) | (with_reducible refine below_alloc ?_ _) | (with_reducible refine Below.drew ?_) | (with_reducible refine below_drewN ?_ _) | (with_reducible refine below_step (by assumption) ?_) | (with_reducible refine below_later ?_ _) | (with_reducible refine Below.setCell ?_ ?_ _) | go_size))⟩
      · have HV : Hid (share3 X Y Z xs ys s c most n = ((shF xs ys (mval X Y Z s c) n most : Int), (shL xs ys (mval X Y Z s c) n most (shF xs ys (mval X Y Z s c) n most) : Int), 0)) := Lib.hid (by simp [share3, h, j1]; omega)
        have HFD : Hid (shF xs ys (mval X Y Z s c) n most = downTo (shP xs ys (mval X Y Z s c) n most) n.toNat) := Lib.hid (by unfold shF; rfl)
        have HLS := Lib.hid (fun f => shL_spec hT (f := f) (most := most) b1 n0)
        have HCL := Lib.hid (fun bT bO bF bN bM l f w hE f1 hrow => shareCl_any tab X Y Z xs ys bT bO bF bN bM (mval X Y Z s c) most n l f w HSZ.out hE hT b1 b2 f1 n0 n1 hrow)
        have HTQ := Lib.hid (fun (f : Nat) w hE (f1 : (f : Int) ≤ 8) => torq_any tab xs ys (mval X Y Z s c) 2560 f n w HSZ.out hE hT.cur hT.bd b1 b2 (by omega) f1 n0 n1)
        have HP := Lib.hid (fun f => shP_eq xs ys (mval X Y Z s c) n most f)
        clear hT i1 i2 b1 b2
        generalize shF xs ys (mval X Y Z s c) n most = F at *
        generalize hq : shP xs ys (mval X Y Z s c) n most = p at *
        clear hq
        generalize mval X Y Z s c = o at *
        go_enter Try.func23, Try.ntmps23
        go_wp2
        go_step3
        go_wp2_with (first | (refine wpList_load_row rfl 31 (.tmp 5) rfl w.heap.size rfl 31 tab (0, 0) _ ((Below.block (show Below (w.alloc (.cells tab 31)).heap.size (w.alloc (.cells tab 31)) _ by (repeat' (first | (with_reducible exact Below.refl _ _) | (with_reducible assumption) | (with_reducible refine below_alloc ?_ _) | (with_reducible refine Below.drew ?_) | (with_reducible refine below_drewN ?_ _) | (with_reducible refine below_step (by assumption) ?_) | (with_reducible refine below_later ?_ _) | (with_reducible refine Below.setCell ?_ ?_ _) | go_size))) _ (by simp)).trans (heap_alloc_new _ _)) Try.underlying31 rfl HI.out ?_) | (go_at_call 13; refine (optimal_any _ _ _ _ _ _ _ HSZ.out (HM.out _ (by (repeat' (first | (with_reducible exact Below.refl _ _) | (with_reducible assumption) | (with_reducible refine below_alloc ?_ _) | (with_reducible refine Below.drew ?_) | (with_reducible refine below_drewN ?_ _) | (with_reducible refine below_step (by assumption) ?_) | (with_reducible refine below_later ?_ _) | (with_reducible refine Below.setCell ?_ ?_ _) | go_size)))) (HE.out _ (by (repeat' (first | (with_reducible exact Below.refl _ _) | (with_reducible assumption) | (with_reducible refine below_alloc ?_ _) | (with_reducible refine Below.drew ?_) | (with_reducible refine below_drewN ?_ _) | (with_reducible refine below_step (by assumption) ?_) | (with_reducible refine below_later ?_ _) | (with_reducible refine Below.setCell ?_ ?_ _) | go_size)))) _ _).mono ?_; rintro e hb1w ⟨rfl, hb1⟩; obtain ⟨hb1c, hb1f⟩ := bcell hb1; have hb1s := hb1.size; (try simp only [World.size_alloc] at hb1s); (try (have : w.heap.size < hb1w.heap.size := by omega)); (try (have : w.heap.size + 1 < hb1w.heap.size := by omega)); (try (have : w.heap.size + 1 + 1 < hb1w.heap.size := by omega)); (try (have : w.heap.size + 1 + 1 + 1 < hb1w.heap.size := by omega)); (try (have : bX < hb1w.heap.size := by omega)); (try (have : bY < hb1w.heap.size := by omega)); (try (have : bZ < hb1w.heap.size := by omega))) | (go_at_call 35; refine (twithin_any _ _ _ _).mono ?_; rintro e w' ⟨rfl, rfl⟩))
        go_step3
        go_wp2
        go_loopg [] 9 (fun kx wr => ∃ (f : Nat) (e : Later (w.alloc (.cells tab 31))), wr = e.w ∧ (f : Int) ≤ n ∧ f ≤ kx ∧ Hid (downTo p f = F) ∧ hb1w.heap.size < e.w.heap.size ∧ w.heap.size + 1 + 1 + 1 < e.w.heap.size ∧ e.w.cell? ⟨w.heap.size + 1, 0, none⟩ = some (.int .i64 most) ∧ e.w.cell? ⟨w.heap.size + 1 + 1, 0, none⟩ = some (.int .i64 n) ∧ e.w.cell? ⟨w.heap.size + 1 + 1 + 1, 0, none⟩ = some (.int .i64 f) ∧ e.w.cell? ⟨hb1w.heap.size, 0, none⟩ = some (.int .i64 o) ∧ e.w.frozen? ⟨w.heap.size + 1 + 1 + 1, 0, none⟩ = false)
        case atStart =>
          exact ⟨n.toNat, ⟨(hb1w.setCell ⟨w.heap.size + 1 + 1 + 1, 0, none⟩ (.int .i64 n)).alloc (.cells #[.int .i64 o] 3), by (repeat' (first | (with_reducible exact Below.refl _ _) | (with_reducible assumption) | (with_reducible refine below_alloc ?_ _) | (with_reducible refine Below.drew ?_) | (with_reducible refine below_drewN ?_ _) | (with_reducible refine below_step (by assumption) ?_) | (with_reducible refine below_later ?_ _) | (with_reducible refine Below.setCell ?_ ?_ _) | go_size))⟩, rfl, by omega, by omega, Lib.hid HFD.out.symm, by simp only [World.size_alloc, size_setCell]; omega, by simp only [World.size_alloc, size_setCell]; omega, by simp [go_sem, *], by simp [go_sem, *], by rw [show ((n.toNat : Nat) : Int) = n by omega]; simp [go_sem, *], by simp [go_sem, *], by simp [go_sem, *]⟩
        case round =>
          obtain ⟨f, e, rfl, hfn, hfk, HD, g1, g2, z1, z2, z3, z4, z5⟩ := hrel
          have hes := e.h.size
          simp only [World.size_alloc] at hes
          have y1 : w.heap.size < e.w.heap.size := by omega
          have y2 : w.heap.size + 1 < e.w.heap.size := by omega
          have y3 : w.heap.size + 1 + 1 < e.w.heap.size := by omega
          have HROW : Hid (e.w.heap[w.heap.size]? = some (.cells tab 31)) := Lib.hid ((Below.block (show Below (w.alloc (.cells tab 31)).heap.size (w.alloc (.cells tab 31)) e.w by (repeat' (first | (with_reducible exact Below.refl _ _) | (with_reducible assumption) | (with_reducible refine below_alloc ?_ _) | (with_reducible refine Below.drew ?_) | (with_reducible refine below_drewN ?_ _) | (with_reducible refine below_step (by assumption) ?_) | (with_reducible refine below_later ?_ _) | (with_reducible refine Below.setCell ?_ ?_ _) | go_size))) _ (by simp)).trans (heap_alloc_new _ _))
          cases f with
          | zero =>
            obtain rfl : 0 = F := HD.out
            clear HD HFD
            have HN0 : Hid (0 ≤ 8) := Lib.hid (by omega)
            obtain ⟨r1, r2, r3⟩ := HLS.out 0
            have HR2 := Lib.hid r2
            have HR3 := Lib.hid r3
            clear r2 r3
            generalize shL xs ys o n most 0 = r at *
            go_wp2_with (go_at_call 51; refine (search_any 52 #[.pointer (some ⟨w.heap.size, 0, none⟩), .pointer (some ⟨hb1w.heap.size, 0, none⟩), .pointer (some ⟨w.heap.size + 1 + 1 + 1, 0, none⟩), .pointer (some ⟨w.heap.size + 1 + 1, 0, none⟩), .pointer (some ⟨w.heap.size + 1, 0, none⟩)] 2560 r (fun l => decide (tqV o (cval xs ys l) 0 n ≤ most)) _ (by rfl) (enters_of Try.func52 (by kernel_rfl) rfl) (by omega) (by omega) ?hf HR2.out HR3.out).mono ?_)
            case hf =>
              intro q l hl
              have hqs := q.h.size
              exact HCL.out w.heap.size hb1w.heap.size (w.heap.size + 1 + 1 + 1) (w.heap.size + 1 + 1) (w.heap.size + 1) l 0 q.w (HE.out _ (by (repeat' (first | (with_reducible exact Below.refl _ _) | (with_reducible assumption) | (with_reducible refine below_alloc ?_ _) | (with_reducible refine Below.drew ?_) | (with_reducible refine below_drewN ?_ _) | (with_reducible refine below_step (by assumption) ?_) | (with_reducible refine below_later ?_ _) | (with_reducible refine Below.setCell ?_ ?_ _) | go_size)))) (by have := HN0.out; omega) ((Below.block (show Below (w.alloc (.cells tab 31)).heap.size (w.alloc (.cells tab 31)) q.w by (repeat' (first | (with_reducible exact Below.refl _ _) | (with_reducible assumption) | (with_reducible refine below_alloc ?_ _) | (with_reducible refine Below.drew ?_) | (with_reducible refine below_drewN ?_ _) | (with_reducible refine below_step (by assumption) ?_) | (with_reducible refine below_later ?_ _) | (with_reducible refine Below.setCell ?_ ?_ _) | go_size))) _ (by simp)).trans (heap_alloc_new _ _)) (by rw [Later.cell q (by omega)]; exact z4) (by rw [Later.cell q (by omega)]; exact z3) (by rw [Later.cell q (by omega)]; exact z2) (by rw [Later.cell q (by omega)]; exact z1) (by omega) (by omega) (by omega) (by omega)
            rintro x hb2w ⟨rfl, hb2⟩
            obtain ⟨hb2c, hb2f⟩ := bcell hb2
            have hb2s := hb2.size
            have t3 : w.heap.size + 1 + 1 + 1 < hb2w.heap.size := by omega
            go_wp2
            (try rw [Exit.noGoto_ret]); (try change bodyPost _ _ _ _ _ _); refine bodyPost_ret (by simp [results, Try.results23, go_sem, *]; try rfl) rfl ?_
            exact ⟨by rw [HV.out]; first | done | rfl | simp [*], by (repeat' (first | (with_reducible exact Below.refl _ _) | (with_reducible assumption) | (with_reducible refine below_alloc ?_ _) | (with_reducible refine Below.drew ?_) | (with_reducible refine below_drewN ?_ _) | (with_reducible refine below_step (by assumption) ?_) | (with_reducible refine below_later ?_ _) | (with_reducible refine Below.setCell ?_ ?_ _) | go_size))⟩
          | succ k =>
            have HTK := Lib.hid (fun w hE => HTQ.out (k + 1) w hE (by omega))
            have hpk := HP.out (k + 1)
            generalize tqV o (cval xs ys 2560) ((k + 1 : Nat) : Int) n = v at *
            have hk0 : (0 : Int) < ((k + 1 : Nat) : Int) := by omega
            generalize hkk : ((k + 1 : Nat) : Int) = ki at *
            by_cases hv : v ≤ most
            · have hF : k + 1 = F := by
                have := HD.out
                rw [downTo_here (by rw [hpk]; simpa using hv)] at this
                exact this
              clear hpk HD HFD
              subst hF
              go_wp2
              (refine wp_region_later (by kernel_rfl) (by kernel_rfl) ?_; (repeat (first | (refine wpQuiet_step (fun K hK => ?_); refine quiet_row_K rfl 31 (.tmp 5) rfl w.heap.size rfl 31 tab (0, 0) _ (fun W hW => by obtain ⟨e, rfl⟩ := hW; exact later_row e HROW.out) Try.underlying31 rfl HI.out ?_; go_simp; refine hK _ ?_; clear hK K) | go_big_quiet_step ((go_at_call 37; exact later_call (HTK.out _ (HE.out _ (by (repeat' (first | (with_reducible exact Below.refl _ _) | (with_reducible assumption) | (with_reducible refine below_alloc ?_ _) | (with_reducible refine Below.drew ?_) | (with_reducible refine below_drewN ?_ _) | (with_reducible refine below_step (by assumption) ?_) | (with_reducible refine below_later ?_ _) | (with_reducible refine Below.setCell ?_ ?_ _) | go_size))))))))); refine wpQuiet_nil ?_; rintro _ ⟨e1, rfl⟩; have e1s := e1.h.size; (try simp only [World.size_alloc, World.size_drewN, World.drewN_heap] at e1s); (try (have : w.heap.size < e1.w.heap.size := by omega)); (try (have : w.heap.size + 1 < e1.w.heap.size := by omega)); (try (have : w.heap.size + 1 + 1 < e1.w.heap.size := by omega)); (try (have : w.heap.size + 1 + 1 + 1 < e1.w.heap.size := by omega)); (try (have : bX < e1.w.heap.size := by omega)); (try (have : bY < e1.w.heap.size := by omega)); (try (have : bZ < e1.w.heap.size := by omega)))
              subst hkk
              have t1 : w.heap.size + 1 + 1 + 1 < e1.w.heap.size := by omega
              have t2 : hb1w.heap.size < e1.w.heap.size := by omega
              replace z1 : e1.w.cell? ⟨w.heap.size + 1, 0, none⟩ = some (.int .i64 most) := by rw [Later.cell e1 (by omega)]; exact z1
              replace z2 : e1.w.cell? ⟨w.heap.size + 1 + 1, 0, none⟩ = some (.int .i64 n) := by rw [Later.cell e1 (by omega)]; exact z2
              replace z3 : e1.w.cell? ⟨w.heap.size + 1 + 1 + 1, 0, none⟩ = some (.int .i64 ((k + 1 : Nat) : Int)) := by rw [Later.cell e1 (by omega)]; exact z3
              replace z4 : e1.w.cell? ⟨hb1w.heap.size, 0, none⟩ = some (.int .i64 o) := by rw [Later.cell e1 (by omega)]; exact z4
              replace z5 : e1.w.frozen? ⟨w.heap.size + 1 + 1 + 1, 0, none⟩ = false := by rw [Later.frozen e1 (by omega)]; exact z5
              have HN0 : Hid (k + 1 ≤ 8) := Lib.hid (by omega)
              obtain ⟨r1, r2, r3⟩ := HLS.out (k + 1)
              have HR2 := Lib.hid r2
              have HR3 := Lib.hid r3
              clear r2 r3
              generalize shL xs ys o n most (k + 1) = r at *
              go_wp2_with (go_at_call 51; refine (search_any 52 #[.pointer (some ⟨w.heap.size, 0, none⟩), .pointer (some ⟨hb1w.heap.size, 0, none⟩), .pointer (some ⟨w.heap.size + 1 + 1 + 1, 0, none⟩), .pointer (some ⟨w.heap.size + 1 + 1, 0, none⟩), .pointer (some ⟨w.heap.size + 1, 0, none⟩)] 2560 r (fun l => decide (tqV o (cval xs ys l) ((k + 1 : Nat) : Int) n ≤ most)) _ (by rfl) (enters_of Try.func52 (by kernel_rfl) rfl) (by omega) (by omega) ?hf HR2.out HR3.out).mono ?_)
              case hf =>
                intro q l hl
                have hqs := q.h.size
                exact HCL.out w.heap.size hb1w.heap.size (w.heap.size + 1 + 1 + 1) (w.heap.size + 1 + 1) (w.heap.size + 1) l (k + 1) q.w (HE.out _ (by (repeat' (first | (with_reducible exact Below.refl _ _) | (with_reducible assumption) | (with_reducible refine below_alloc ?_ _) | (with_reducible refine Below.drew ?_) | (with_reducible refine below_drewN ?_ _) | (with_reducible refine below_step (by assumption) ?_) | (with_reducible refine below_later ?_ _) | (with_reducible refine Below.setCell ?_ ?_ _) | go_size)))) (by have := HN0.out; omega) ((Below.block (show Below (w.alloc (.cells tab 31)).heap.size (w.alloc (.cells tab 31)) q.w by (repeat' (first | (with_reducible exact Below.refl _ _) | (with_reducible assumption) | (with_reducible refine below_alloc ?_ _) | (with_reducible refine Below.drew ?_) | (with_reducible refine below_drewN ?_ _) | (with_reducible refine below_step (by assumption) ?_) | (with_reducible refine below_later ?_ _) | (with_reducible refine Below.setCell ?_ ?_ _) | go_size))) _ (by simp)).trans (heap_alloc_new _ _)) (by rw [Later.cell q (by omega)]; exact z4) (by rw [Later.cell q (by omega)]; exact z3) (by rw [Later.cell q (by omega)]; exact z2) (by rw [Later.cell q (by omega)]; exact z1) (by omega) (by omega) (by omega) (by omega)
              rintro x hb2w ⟨rfl, hb2⟩
              obtain ⟨hb2c, hb2f⟩ := bcell hb2
              have hb2s := hb2.size
              have t3 : w.heap.size + 1 + 1 + 1 < hb2w.heap.size := by omega
              go_wp2
              (try rw [Exit.noGoto_ret]); (try change bodyPost _ _ _ _ _ _); refine bodyPost_ret (by simp [results, Try.results23, go_sem, *]; try rfl) rfl ?_
              exact ⟨by rw [HV.out]; first | done | rfl | simp [*], by (repeat' (first | (with_reducible exact Below.refl _ _) | (with_reducible assumption) | (with_reducible refine below_alloc ?_ _) | (with_reducible refine Below.drew ?_) | (with_reducible refine below_drewN ?_ _) | (with_reducible refine below_step (by assumption) ?_) | (with_reducible refine below_later ?_ _) | (with_reducible refine Below.setCell ?_ ?_ _) | go_size))⟩
            · have hD2 : downTo p k = F := by rw [← HD.out, downTo_step (by rw [hpk]; simpa using hv)]
              have HD2 := Lib.hid hD2
              clear hpk HD HFD hD2
              go_wp2
              (refine wp_region_later (by kernel_rfl) (by kernel_rfl) ?_; (repeat (first | (refine wpQuiet_step (fun K hK => ?_); refine quiet_row_K rfl 31 (.tmp 5) rfl w.heap.size rfl 31 tab (0, 0) _ (fun W hW => by obtain ⟨e, rfl⟩ := hW; exact later_row e HROW.out) Try.underlying31 rfl HI.out ?_; go_simp; refine hK _ ?_; clear hK K) | go_big_quiet_step ((go_at_call 37; exact later_call (HTK.out _ (HE.out _ (by (repeat' (first | (with_reducible exact Below.refl _ _) | (with_reducible assumption) | (with_reducible refine below_alloc ?_ _) | (with_reducible refine Below.drew ?_) | (with_reducible refine below_drewN ?_ _) | (with_reducible refine below_step (by assumption) ?_) | (with_reducible refine below_later ?_ _) | (with_reducible refine Below.setCell ?_ ?_ _) | go_size))))))))); refine wpQuiet_nil ?_; rintro _ ⟨e1, rfl⟩; have e1s := e1.h.size; (try simp only [World.size_alloc, World.size_drewN, World.drewN_heap] at e1s); (try (have : w.heap.size < e1.w.heap.size := by omega)); (try (have : w.heap.size + 1 < e1.w.heap.size := by omega)); (try (have : w.heap.size + 1 + 1 < e1.w.heap.size := by omega)); (try (have : w.heap.size + 1 + 1 + 1 < e1.w.heap.size := by omega)); (try (have : bX < e1.w.heap.size := by omega)); (try (have : bY < e1.w.heap.size := by omega)); (try (have : bZ < e1.w.heap.size := by omega)))
              have t1 : w.heap.size + 1 + 1 + 1 < e1.w.heap.size := by omega
              have t2 : hb1w.heap.size < e1.w.heap.size := by omega
              go_wp2
              go_roundg k
              case measure => omega
              case rel => exact ⟨k, ⟨e1.w.setCell ⟨w.heap.size + 1 + 1 + 1, 0, none⟩ (.int .i64 (ki - 1)), by (repeat' (first | (with_reducible exact Below.refl _ _) | (with_reducible assumption) | (with_reducible refine below_alloc ?_ _) | (with_reducible refine Below.drew ?_) | (with_reducible refine below_drewN ?_ _) | (with_reducible refine below_step (by assumption) ?_) | (with_reducible refine below_later ?_ _) | (with_reducible refine Below.setCell ?_ ?_ _) | go_size))⟩, rfl, by omega, by omega, HD2, by simp only [size_setCell]; omega, by simp only [size_setCell]; omega, by simp [go_sem, *], by simp [go_sem, *], by rw [show ((k : Nat) : Int) = ki - 1 by omega]; simp [go_sem, *], by simp [go_sem, *], by simp [go_sem, *]⟩
end Go.Proofs.Ytpmjnpbigppllaa
