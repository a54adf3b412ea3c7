/- Contracts of torque's Late and Charge. Printed by a program. -/
import Derived.Test.YtpmjnpbigppllaaTorqR
namespace Go.Proofs.Ytpmjnpbigppllaa
set_option linter.unusedVariables false
set_option linter.unusedSimpArgs false
open Go.RowKit Go.ChangeShapes Go.WideShapes Go.ChangeAt

theorem later_row {W : World} (e : Later W) {b : Nat} {o : Obj} (h : W.heap[b]? = some o) : e.w.heap[b]? = some o := by
  rw [e.h.block b ?_]
  · exact h
  · rcases Nat.lt_or_ge b W.heap.size with hl | hl
    · exact hl
    · rw [Array.getElem?_eq_none hl] at h; cases h
theorem tqV_le {o e f o' e' f' c : Int} (o0 : 0 ≤ o) (e0 : 0 ≤ e) (f0 : 0 ≤ f) (ho : o ≤ o') (he : e ≤ e') (hf : f ≤ f') (c0 : 1 ≤ c) : tqV o e f c ≤ tqV o' e' f' c := by
  unfold tqV
  refine Int.ediv_le_ediv (by omega) ?_
  have h1 : o * e ≤ o' * e' := Int.mul_le_mul ho he e0 (by omega)
  exact Int.mul_le_mul h1 hf f0 (Int.le_trans (Int.mul_nonneg o0 e0) h1)
theorem tqV_nn {o e f c : Int} (o0 : 0 ≤ o) (e0 : 0 ≤ e) (f0 : 0 ≤ f) (c0 : 1 ≤ c) : 0 ≤ tqV o e f c := by
  unfold tqV
  exact Int.ediv_nonneg (Int.mul_nonneg (Int.mul_nonneg o0 e0) f0) (by omega)
theorem least_split {p : Nat → Bool} (hm : ∀ a b, a ≤ b → p a = true → p b = true) (n : Nat) : least p n ≤ n ∧ (∀ t, t < least p n → p t = false) ∧ (∀ t, least p n ≤ t → t < n → p t = true) :=
  ⟨least_le p n, fun t ht => least_below p n t ht, fun t ht htn => least_mono hm n t ht htn⟩

/-- The number of latenesses that leave enough. -/
@[irreducible] noncomputable def lateN (xs ys : List Int) (o want : Int) : Nat := least (fun l => decide (tqV o (cval xs ys l) 1 1 < want)) 2561
theorem late_mono {X Y : List Int} {Z : List (List Int)} {xs ys : List Int} (h : TqOk X Y Z xs ys) {o want : Int} (o0 : 0 ≤ o) (a b : Nat) (hab : a ≤ b) (ha : decide (tqV o (cval xs ys a) 1 1 < want) = true) : decide (tqV o (cval xs ys b) 1 1 < want) = true := by
  simp only [decide_eq_true_eq] at ha ⊢
  have he := eff_down h (show (a : Int) ≤ b by omega)
  have := tqV_le (f := 1) (f' := 1) (c := 1) o0 (eff_bd h b).1 (by omega) (Int.le_refl o) he (Int.le_refl 1) (Int.le_refl 1)
  omega
theorem lateN_spec {X Y : List Int} {Z : List (List Int)} {xs ys : List Int} (h : TqOk X Y Z xs ys) {o want : Int} (o0 : 0 ≤ o) : lateN xs ys o want ≤ 2561 ∧ (∀ t : Nat, t < lateN xs ys o want → decide (tqV o (cval xs ys t) 1 1 < want) = false) ∧ (∀ t : Nat, lateN xs ys o want ≤ t → t < 2561 → decide (tqV o (cval xs ys t) 1 1 < want) = true) := by
  unfold lateN
  exact least_split (fun a b hab ha => late_mono h o0 a b hab ha) 2561

set_option maxRecDepth 100000 in
theorem lateCl_any (tab : Array Value) (X Y : List Int) (Z : List (List Int)) (xs ys : List Int) (bT bO bL : Nat) (o want l : Int) (w : World) (hsz : tab.size = 24) (hE : CurAt w tab 18 19 xs ys) (hok : TqOk X Y Z xs ys) (o0 : 0 ≤ o) (o1 : o ≤ 10000)
    (hrow : w.heap[bT]? = some (.cells tab 31)) (c0 : w.cell? ⟨bO, 0, none⟩ = some (.int .i64 o)) (c1 : w.cell? ⟨bL, 0, none⟩ = some (.int .i64 want)) (sO : bO < w.heap.size) (sL : bL < w.heap.size) :
    Calls Try.prog 54 #[.int .i64 l, .pointer (some ⟨bT, 0, none⟩), .pointer (some ⟨bO, 0, none⟩), .pointer (some ⟨bL, 0, none⟩)] w fun e w' => e = .returned (.bool (decide (tqV o (cval xs ys l) 1 1 < want))) ∧ Below w.heap.size w w' := by
  have HE : Hid (∀ w', Below w.heap.size w w' → CurAt w' tab 18 19 xs ys) := Lib.hid (fun _ h => hE.later h)
  have HI : Hid ((Try.prog.info? 31).map (·.size) = some tab.size) := Lib.hid (by rw [hsz]; kernel_rfl)
  have HTQ := Lib.hid (fun w hE => torq_any tab xs ys o l 1 1 w hsz hE hok.cur hok.bd o0 o1 (by omega) (by omega) (by omega) (by omega))
  have HR := Lib.hid hrow
  clear hsz hE hok hrow o0 o1
  generalize tqV o (cval xs ys l) 1 1 = v at *
  go_enter Try.func54, Try.ntmps54
  go_wp2
  (refine wp_region_later (by kernel_rfl) (by kernel_rfl) ?_; (repeat (first | (refine wpQuiet_step (fun K hK => ?_); refine quiet_row_K rfl 31 (.tmp 1) rfl bT rfl 31 tab (0, 0) _ (fun W hW => by obtain ⟨e, rfl⟩ := hW; exact later_row e HR.out) Try.underlying31 rfl HI.out ?_; go_simp; refine hK _ ?_; clear hK K) | go_big_quiet_step ((go_at_call 37; exact later_call (HTQ.out _ (HE.out _ (by (repeat' (first | (with_reducible exact Below.refl _ _) | (with_reducible assumption) | (with_reducible refine below_alloc ?_ _) | (with_reducible refine Below.drew ?_) | (with_reducible refine below_drewN ?_ _) | (with_reducible refine below_step (by assumption) ?_) | (with_reducible refine below_later ?_ _) | (with_reducible refine Below.setCell ?_ ?_ _) | go_size))))))))); refine wpQuiet_nil ?_; rintro _ ⟨e1, rfl⟩; have e1s := e1.h.size; (try simp only [World.size_alloc, World.size_drewN, World.drewN_heap] at e1s); (try (have : w.heap.size < e1.w.heap.size := by omega)); (try (have : w.heap.size + 1 < e1.w.heap.size := by omega)); (try (have : w.heap.size + 1 + 1 < e1.w.heap.size := by omega)); (try (have : w.heap.size + 1 + 1 + 1 < e1.w.heap.size := by omega)); (try (have : bX < e1.w.heap.size := by omega)); (try (have : bY < e1.w.heap.size := by omega)); (try (have : bZ < e1.w.heap.size := by omega)))
  go_wp2
  go_ret
  exact ⟨rfl, by (repeat' (first | (with_reducible exact Below.refl _ _) | (with_reducible assumption) | (with_reducible refine below_alloc ?_ _) | (with_reducible refine Below.drew ?_) | (with_reducible refine below_drewN ?_ _) | (with_reducible refine below_step (by assumption) ?_) | (with_reducible refine below_later ?_ _) | (with_reducible refine Below.setCell ?_ ?_ _) | go_size))⟩

noncomputable def late2 (X Y : List Int) (Z : List (List Int)) (xs ys : List Int) (s c want : Int) : Int × Int :=
  if (opt2 X Y Z xs ys s c).2 = 0 then (if lateN xs ys (mval X Y Z s c) want = 0 then (0, 7) else ((lateN xs ys (mval X Y Z s c) want : Int) - 1, 0)) else (0, (opt2 X Y Z xs ys s c).2)
set_option maxRecDepth 100000 in
set_option maxHeartbeats 1000000 in
theorem tlate_any (tab : Array Value) (X Y : List Int) (Z : List (List Int)) (xs ys : List Int) (w : World) (hsz : tab.size = 24) (hM : MapAt w tab 6 7 8 X Y Z) (hE : CurAt w tab 18 19 xs ys) (s c want : Int) :
    Calls Try.prog 26 #[.agg tab, .int .i64 s, .int .i64 c, .int .i64 want] w fun e w' => e = .returned (tup2 (late2 X Y Z xs ys s c want)) ∧ Below w.heap.size w w' := by
  have HM : Hid (∀ w', Below w.heap.size w w' → MapAt w' tab 6 7 8 X Y Z) := Lib.hid (fun _ h => hM.later h)
  have HE : Hid (∀ w', Below w.heap.size w w' → CurAt w' tab 18 19 xs ys) := Lib.hid (fun _ h => hE.later h)
  have HI : Hid ((Try.prog.info? 31).map (·.size) = some tab.size) := Lib.hid (by rw [hsz]; kernel_rfl)
  have HSZ := Lib.hid hsz
  clear hsz
  clear hM hE
  rcases opt2_cases X Y Z xs ys s c with ⟨h, hn⟩ | ⟨h, hT, hn⟩ | ⟨h, hT, i1, i2, b1, b2⟩
  · have H := Lib.hid (show late2 X Y Z xs ys s c want = (0, 1) by simp [late2, h])
    clear hn
    go_enter Try.func26, Try.ntmps26
    go_wp2_with (first | (refine wpList_load_row rfl 31 (.tmp 4) rfl w.heap.size rfl 31 tab (0, 0) _ ((Below.block (show Below (w.alloc (.cells tab 31)).heap.size (w.alloc (.cells tab 31)) _ by (repeat' (first | (with_reducible exact Below.refl _ _) | (with_reducible assumption) | (with_reducible refine below_alloc ?_ _) | (with_reducible refine Below.drew ?_) | (with_reducible refine below_drewN ?_ _) | (with_reducible refine below_step (by assumption) ?_) | (with_reducible refine below_later ?_ _) | (with_reducible refine Below.setCell ?_ ?_ _) | go_size))) _ (by simp)).trans (heap_alloc_new _ _)) Try.underlying31 rfl HI.out ?_) | (go_at_call 13; refine (optimal_any _ _ _ _ _ _ _ HSZ.out (HM.out _ (by (repeat' (first | (with_reducible exact Below.refl _ _) | (with_reducible assumption) | (with_reducible refine below_alloc ?_ _) | (with_reducible refine Below.drew ?_) | (with_reducible refine below_drewN ?_ _) | (with_reducible refine below_step (by assumption) ?_) | (with_reducible refine below_later ?_ _) | (with_reducible refine Below.setCell ?_ ?_ _) | go_size)))) (HE.out _ (by (repeat' (first | (with_reducible exact Below.refl _ _) | (with_reducible assumption) | (with_reducible refine below_alloc ?_ _) | (with_reducible refine Below.drew ?_) | (with_reducible refine below_drewN ?_ _) | (with_reducible refine below_step (by assumption) ?_) | (with_reducible refine below_later ?_ _) | (with_reducible refine Below.setCell ?_ ?_ _) | go_size)))) _ _).mono ?_; rintro e hb1w ⟨rfl, hb1⟩; obtain ⟨hb1c, hb1f⟩ := bcell hb1; have hb1s := hb1.size; (try simp only [World.size_alloc] at hb1s); (try (have : w.heap.size < hb1w.heap.size := by omega)); (try (have : w.heap.size + 1 < hb1w.heap.size := by omega)); (try (have : w.heap.size + 1 + 1 < hb1w.heap.size := by omega)); (try (have : w.heap.size + 1 + 1 + 1 < hb1w.heap.size := by omega)); (try (have : bX < hb1w.heap.size := by omega)); (try (have : bY < hb1w.heap.size := by omega)); (try (have : bZ < hb1w.heap.size := by omega))))
    go_ret2
    exact ⟨by rw [H.out]; rfl, by (repeat' (first | (with_reducible exact Below.refl _ _) | (with_reducible assumption) | (with_reducible refine below_alloc ?_ _) | (with_reducible refine Below.drew ?_) | (with_reducible refine below_drewN ?_ _) | (with_reducible refine below_step (by assumption) ?_) | (with_reducible refine below_later ?_ _) | (with_reducible refine Below.setCell ?_ ?_ _) | go_size))⟩
  · have H := Lib.hid (show late2 X Y Z xs ys s c want = (0, 2) by simp [late2, h])
    clear hn hT
    go_enter Try.func26, Try.ntmps26
    go_wp2_with (first | (refine wpList_load_row rfl 31 (.tmp 4) rfl w.heap.size rfl 31 tab (0, 0) _ ((Below.block (show Below (w.alloc (.cells tab 31)).heap.size (w.alloc (.cells tab 31)) _ by (repeat' (first | (with_reducible exact Below.refl _ _) | (with_reducible assumption) | (with_reducible refine below_alloc ?_ _) | (with_reducible refine Below.drew ?_) | (with_reducible refine below_drewN ?_ _) | (with_reducible refine below_step (by assumption) ?_) | (with_reducible refine below_later ?_ _) | (with_reducible refine Below.setCell ?_ ?_ _) | go_size))) _ (by simp)).trans (heap_alloc_new _ _)) Try.underlying31 rfl HI.out ?_) | (go_at_call 13; refine (optimal_any _ _ _ _ _ _ _ HSZ.out (HM.out _ (by (repeat' (first | (with_reducible exact Below.refl _ _) | (with_reducible assumption) | (with_reducible refine below_alloc ?_ _) | (with_reducible refine Below.drew ?_) | (with_reducible refine below_drewN ?_ _) | (with_reducible refine below_step (by assumption) ?_) | (with_reducible refine below_later ?_ _) | (with_reducible refine Below.setCell ?_ ?_ _) | go_size)))) (HE.out _ (by (repeat' (first | (with_reducible exact Below.refl _ _) | (with_reducible assumption) | (with_reducible refine below_alloc ?_ _) | (with_reducible refine Below.drew ?_) | (with_reducible refine below_drewN ?_ _) | (with_reducible refine below_step (by assumption) ?_) | (with_reducible refine below_later ?_ _) | (with_reducible refine Below.setCell ?_ ?_ _) | go_size)))) _ _).mono ?_; rintro e hb1w ⟨rfl, hb1⟩; obtain ⟨hb1c, hb1f⟩ := bcell hb1; have hb1s := hb1.size; (try simp only [World.size_alloc] at hb1s); (try (have : w.heap.size < hb1w.heap.size := by omega)); (try (have : w.heap.size + 1 < hb1w.heap.size := by omega)); (try (have : w.heap.size + 1 + 1 < hb1w.heap.size := by omega)); (try (have : w.heap.size + 1 + 1 + 1 < hb1w.heap.size := by omega)); (try (have : bX < hb1w.heap.size := by omega)); (try (have : bY < hb1w.heap.size := by omega)); (try (have : bZ < hb1w.heap.size := by omega))))
    go_ret2
    exact ⟨by rw [H.out]; rfl, by (repeat' (first | (with_reducible exact Below.refl _ _) | (with_reducible assumption) | (with_reducible refine below_alloc ?_ _) | (with_reducible refine Below.drew ?_) | (with_reducible refine below_drewN ?_ _) | (with_reducible refine below_step (by assumption) ?_) | (with_reducible refine below_later ?_ _) | (with_reducible refine Below.setCell ?_ ?_ _) | go_size))⟩
  · have HV : Hid (late2 X Y Z xs ys s c want = if lateN xs ys (mval X Y Z s c) want = 0 then (0, 7) else ((lateN xs ys (mval X Y Z s c) want : Int) - 1, 0)) := Lib.hid (by simp [late2, h])
    obtain ⟨r1, r2, r3⟩ := lateN_spec hT (want := want) b1
    have HR2 := Lib.hid r2
    have HR3 := Lib.hid r3
    have HCL := Lib.hid (fun bT bO bL l w hE hrow => lateCl_any tab X Y Z xs ys bT bO bL (mval X Y Z s c) want l w HSZ.out hE hT b1 b2 hrow)
    clear hT r2 r3 i1 i2 b1 b2
    generalize lateN xs ys (mval X Y Z s c) want = r at *
    generalize mval X Y Z s c = o at *
    go_enter Try.func26, Try.ntmps26
    go_wp2_with (first | (refine wpList_load_row rfl 31 (.tmp 4) rfl w.heap.size rfl 31 tab (0, 0) _ ((Below.block (show Below (w.alloc (.cells tab 31)).heap.size (w.alloc (.cells tab 31)) _ by (repeat' (first | (with_reducible exact Below.refl _ _) | (with_reducible assumption) | (with_reducible refine below_alloc ?_ _) | (with_reducible refine Below.drew ?_) | (with_reducible refine below_drewN ?_ _) | (with_reducible refine below_step (by assumption) ?_) | (with_reducible refine below_later ?_ _) | (with_reducible refine Below.setCell ?_ ?_ _) | go_size))) _ (by simp)).trans (heap_alloc_new _ _)) Try.underlying31 rfl HI.out ?_) | (go_at_call 13; refine (optimal_any _ _ _ _ _ _ _ HSZ.out (HM.out _ (by (repeat' (first | (with_reducible exact Below.refl _ _) | (with_reducible assumption) | (with_reducible refine below_alloc ?_ _) | (with_reducible refine Below.drew ?_) | (with_reducible refine below_drewN ?_ _) | (with_reducible refine below_step (by assumption) ?_) | (with_reducible refine below_later ?_ _) | (with_reducible refine Below.setCell ?_ ?_ _) | go_size)))) (HE.out _ (by (repeat' (first | (with_reducible exact Below.refl _ _) | (with_reducible assumption) | (with_reducible refine below_alloc ?_ _) | (with_reducible refine Below.drew ?_) | (with_reducible refine below_drewN ?_ _) | (with_reducible refine below_step (by assumption) ?_) | (with_reducible refine below_later ?_ _) | (with_reducible refine Below.setCell ?_ ?_ _) | go_size)))) _ _).mono ?_; rintro e hb1w ⟨rfl, hb1⟩; obtain ⟨hb1c, hb1f⟩ := bcell hb1; have hb1s := hb1.size; (try simp only [World.size_alloc] at hb1s); (try (have : w.heap.size < hb1w.heap.size := by omega)); (try (have : w.heap.size + 1 < hb1w.heap.size := by omega)); (try (have : w.heap.size + 1 + 1 < hb1w.heap.size := by omega)); (try (have : w.heap.size + 1 + 1 + 1 < hb1w.heap.size := by omega)); (try (have : bX < hb1w.heap.size := by omega)); (try (have : bY < hb1w.heap.size := by omega)); (try (have : bZ < hb1w.heap.size := by omega))) | (go_at_call 51; refine (search_any 54 #[.pointer (some ⟨w.heap.size, 0, none⟩), .pointer (some ⟨hb1w.heap.size, 0, none⟩), .pointer (some ⟨w.heap.size + 1, 0, none⟩)] 2561 r (fun l => decide (tqV o (cval xs ys l) 1 1 < want)) _ (by rfl) (enters_of Try.func54 (by kernel_rfl) rfl) (by omega) (by omega) ?hf HR2.out HR3.out).mono ?_))
    case hf =>
      intro e l hl
      have hs := e.h.size
      simp only [World.size_alloc] at hs
      exact HCL.out w.heap.size hb1w.heap.size (w.heap.size + 1) l e.w (HE.out _ (by (repeat' (first | (with_reducible exact Below.refl _ _) | (with_reducible assumption) | (with_reducible refine below_alloc ?_ _) | (with_reducible refine Below.drew ?_) | (with_reducible refine below_drewN ?_ _) | (with_reducible refine below_step (by assumption) ?_) | (with_reducible refine below_later ?_ _) | (with_reducible refine Below.setCell ?_ ?_ _) | go_size)))) ((Below.block (show Below (w.alloc (.cells tab 31)).heap.size (w.alloc (.cells tab 31)) e.w by (repeat' (first | (with_reducible exact Below.refl _ _) | (with_reducible assumption) | (with_reducible refine below_alloc ?_ _) | (with_reducible refine Below.drew ?_) | (with_reducible refine below_drewN ?_ _) | (with_reducible refine below_step (by assumption) ?_) | (with_reducible refine below_later ?_ _) | (with_reducible refine Below.setCell ?_ ?_ _) | go_size))) _ (by simp)).trans (heap_alloc_new _ _)) (by rw [Later.cell _ (by go_size)]; simp [go_sem, *]) (by rw [Later.cell _ (by go_size)]; simp [go_sem, *]) (by omega) (by omega)
    rintro e hb2w ⟨rfl, hb2⟩
    by_cases hr0 : r = 0
    · have H := Lib.hid (HV.out.trans (if_pos hr0))
      subst hr0
      go_wp2
      go_ret2
      exact ⟨by rw [H.out]; rfl, by (repeat' (first | (with_reducible exact Below.refl _ _) | (with_reducible assumption) | (with_reducible refine below_alloc ?_ _) | (with_reducible refine Below.drew ?_) | (with_reducible refine below_drewN ?_ _) | (with_reducible refine below_step (by assumption) ?_) | (with_reducible refine below_later ?_ _) | (with_reducible refine Below.setCell ?_ ?_ _) | go_size))⟩
    · have H := Lib.hid (HV.out.trans (if_neg hr0))
      have hr1 : ¬ (r : Int) = 0 := by omega
      have hr2 : (1 : Int) ≤ r := by omega
      go_wp2
      go_ret2
      exact ⟨by rw [H.out]; rfl, by (repeat' (first | (with_reducible exact Below.refl _ _) | (with_reducible assumption) | (with_reducible refine below_alloc ?_ _) | (with_reducible refine Below.drew ?_) | (with_reducible refine below_drewN ?_ _) | (with_reducible refine below_step (by assumption) ?_) | (with_reducible refine below_later ?_ _) | (with_reducible refine Below.setCell ?_ ?_ _) | go_size))⟩
end Go.Proofs.Ytpmjnpbigppllaa
