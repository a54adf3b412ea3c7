/- Contract of the reference's Share of torque. Printed by a program. -/
import Derived.Test.YtpmjnpbigppllaaTorqF
namespace Go.Proofs.Ytpmjnpbigppllaa
set_option linter.unusedVariables false
set_option linter.unusedSimpArgs false
open Go.RowKit Go.ChangeShapes Go.WideShapes Go.ChangeAt

set_option maxRecDepth 100000 in
set_option maxHeartbeats 1000000 in
theorem r35share_any (tab : Array Value) (X Y : List Int) (Z : List (List Int)) (xs ys : List Int) (w : World) (hsz : tab.size = 24) (hM : MapAt w tab 6 7 8 X Y Z) (hE : CurAt w tab 18 19 xs ys) (s c most n : Int) (hok : TqOk X Y Z xs ys) (m0 : 0 ≤ most) (n0 : 1 ≤ n) (n1 : n ≤ 8) :
    Calls Try.prog 24 #[.agg tab, .int .i64 s, .int .i64 c, .int .i64 most, .int .i64 n] w fun e w' => e = .returned (tup2 ((shF xs ys (mval X Y Z s c) n most : Int), (shL xs ys (mval X Y Z s c) n most (shF xs ys (mval X Y Z s c) n most) : Int))) ∧ Below w.heap.size w w' := by
  have HM : Hid (∀ w', Below w.heap.size w w' → MapAt w' tab 6 7 8 X Y Z) := Lib.hid (fun _ h => hM.later h)
  have HE : Hid (∀ w', Below w.heap.size w w' → CurAt w' tab 18 19 xs ys) := Lib.hid (fun _ h => hE.later h)
  have HI : Hid ((Try.prog.info? 31).map (·.size) = some tab.size) := Lib.hid (by rw [hsz]; kernel_rfl)
  have HSZ := Lib.hid hsz
  clear hsz
  have ⟨b1, b2⟩ := tq_bd hok s c
  have HFD : Hid (shF xs ys (mval X Y Z s c) n most = downTo (shP xs ys (mval X Y Z s c) n most) n.toNat) := Lib.hid (by unfold shF; rfl)
  have HLS := Lib.hid (fun f => shL_spec hok (f := f) (most := most) b1 n0)
  have HL0 : Hid (shL xs ys (mval X Y Z s c) n most 0 = 0) := Lib.hid (by
    rcases Nat.eq_zero_or_pos (shL xs ys (mval X Y Z s c) n most 0) with h | h
    · exact h
    · have := (shL_spec hok (f := 0) (most := most) b1 n0).2.1 0 h
      rw [decide_eq_false_iff_not] at this
      unfold tqV at this
      simp at this
      omega)
  have HTQ := Lib.hid (fun (l : Int) (f : Nat) w hM hE (f1 : (f : Int) ≤ 8) => r35torq_any tab X Y Z xs ys w HSZ.out hM hE s c l f n hok (by omega) f1 n0 n1)
  have HP := Lib.hid (fun f => shP_eq xs ys (mval X Y Z s c) n most f)
  clear hM hE hok b1 b2
  generalize shF xs ys (mval X Y Z s c) n most = F at *
  generalize hq : shP xs ys (mval X Y Z s c) n most = p at *
  clear hq
  generalize mval X Y Z s c = o at *
  go_enter Try.func24, Try.ntmps24
  go_wp2
  go_loopg [12] 9 (fun kx s12 wr => ∃ (f : Nat) (e : Later (w.alloc (.cells tab 31))), s12 = .int .i64 f ∧ (f : Int) ≤ n ∧ f ≤ kx ∧ wr = e.w ∧ Hid (downTo p f = F))
  case atStart => exact ⟨n.toNat, ⟨_, Below.refl _ _⟩, by rw [show ((n.toNat : Nat) : Int) = n by omega], by omega, by omega, rfl, Lib.hid HFD.out.symm⟩
  case round =>
    obtain ⟨f, e, rfl, hfn, hfk, rfl, HD⟩ := hrel
    have hes := e.h.size
    simp only [World.size_alloc] at hes
    have hbo : w.heap.size < e.w.heap.size := by omega
    cases f with
    | zero =>
      obtain rfl : 0 = F := HD.out
      go_wp2
      go_ret2
      exact ⟨by rw [HL0.out]; rfl, by (repeat' (first | (with_reducible exact Below.refl _ _) | (with_reducible assumption) | (with_reducible refine below_alloc ?_ _) | (with_reducible refine Below.drew ?_) | (with_reducible refine below_drewN ?_ _) | (with_reducible refine below_step (by assumption) ?_) | (with_reducible refine below_later ?_ _) | (with_reducible refine Below.setCell ?_ ?_ _) | go_size))⟩
    | succ k =>
      have HTK := Lib.hid (fun l w hM hE => HTQ.out l (k + 1) w hM hE (by omega))
      have hpk := HP.out (k + 1)
      have HTL := Lib.hid (HTK.out 2560)
      have hk0 : (0 : Int) < ((k + 1 : Nat) : Int) := by omega
      have hk8 : ((k + 1 : Nat) : Int) ≤ 8 := by omega
      by_cases hv : tqV o (cval xs ys 2560) ((k + 1 : Nat) : Int) n ≤ most
      · have hF : k + 1 = F := by
          have := HD.out
          rw [downTo_here (by rw [hpk]; simpa using hv)] at this
          exact this
        obtain ⟨r1, r2, r3⟩ := HLS.out F
        rw [← hF] at r1 r2 r3
        have HL2 : Hid (∀ m : Int, 0 ≤ m → m < (shL xs ys o n most F : Int) → most < tqV o (cval xs ys m) ((k + 1 : Nat) : Int) n) := Lib.hid (fun m h1 h2 => by
          have := r2 m.toNat (by rw [hF]; omega)
          rw [show ((m.toNat : Nat) : Int) = m by omega, decide_eq_false_iff_not] at this
          omega)
        have HL3 : Hid (∀ m : Int, (shL xs ys o n most F : Int) ≤ m → m < 2560 → tqV o (cval xs ys m) ((k + 1 : Nat) : Int) n ≤ most) := Lib.hid (fun m h1 h2 => by
          have := r3 m.toNat (by rw [hF]; omega) (by omega)
          rwa [show ((m.toNat : Nat) : Int) = m by omega, decide_eq_true_eq] at this)
        rw [hF] at r1
        clear hpk HD HFD r2 r3 HLS HP HTQ HL0
        subst hF
        generalize hsr : shL xs ys o n most (k + 1) = r at *
        have HSR := Lib.hid hsr
        clear hsr
        generalize hki : ((k + 1 : Nat) : Int) = ki at *
        generalize tqV o (cval xs ys 2560) ki n = v0 at HTL hv
        go_wp2_with (first | (refine wpList_load_row rfl 31 (.tmp 5) rfl w.heap.size rfl 31 tab (0, 0) _ ((Below.block (show Below (w.alloc (.cells tab 31)).heap.size (w.alloc (.cells tab 31)) _ by (repeat' (first | (with_reducible exact Below.refl _ _) | (with_reducible assumption) | (with_reducible refine below_alloc ?_ _) | (with_reducible refine Below.drew ?_) | (with_reducible refine below_drewN ?_ _) | (with_reducible refine below_step (by assumption) ?_) | (with_reducible refine below_later ?_ _) | (with_reducible refine Below.setCell ?_ ?_ _) | go_size))) _ (by simp)).trans (heap_alloc_new _ _)) Try.underlying31 rfl HI.out ?_) | (go_at_call 20; refine (HTL.out _ (HM.out _ (by (repeat' (first | (with_reducible exact Below.refl _ _) | (with_reducible assumption) | (with_reducible refine below_alloc ?_ _) | (with_reducible refine Below.drew ?_) | (with_reducible refine below_drewN ?_ _) | (with_reducible refine below_step (by assumption) ?_) | (with_reducible refine below_later ?_ _) | (with_reducible refine Below.setCell ?_ ?_ _) | go_size)))) (HE.out _ (by (repeat' (first | (with_reducible exact Below.refl _ _) | (with_reducible assumption) | (with_reducible refine below_alloc ?_ _) | (with_reducible refine Below.drew ?_) | (with_reducible refine below_drewN ?_ _) | (with_reducible refine below_step (by assumption) ?_) | (with_reducible refine below_later ?_ _) | (with_reducible refine Below.setCell ?_ ?_ _) | go_size))))).mono ?_; rintro e hb1w ⟨rfl, hb1⟩; obtain ⟨hb1c, hb1f⟩ := bcell hb1; have hb1s := hb1.size; (try simp only [World.size_alloc] at hb1s); (try (have : w.heap.size < hb1w.heap.size := by omega)); (try (have : w.heap.size + 1 < hb1w.heap.size := by omega)); (try (have : w.heap.size + 1 + 1 < hb1w.heap.size := by omega)); (try (have : w.heap.size + 1 + 1 + 1 < hb1w.heap.size := by omega)); (try (have : bX < hb1w.heap.size := by omega)); (try (have : bY < hb1w.heap.size := by omega)); (try (have : bZ < hb1w.heap.size := by omega))))
        go_loopg [13, 14] 2561 (fun ky s13 s14 wq => ∃ (lo hi : Int) (q : Later hb1w), s13 = .int .i64 lo ∧ s14 = .int .i64 hi ∧ 0 ≤ lo ∧ lo ≤ (r : Int) ∧ (r : Int) ≤ hi ∧ hi ≤ 2560 ∧ (hi - lo).toNat ≤ ky ∧ wq = q.w)
        case atStart => exact ⟨0, 2560, ⟨_, Below.refl _ _⟩, rfl, rfl, by omega, by omega, by omega, by omega, by omega, rfl⟩
        case round =>
          obtain ⟨lo, hi, q, rfl, rfl, l0, l1, l2, l3, hqk, rfl⟩ := hrel
          have hqs := q.h.size
          have hbq : w.heap.size < q.w.heap.size := by omega
          by_cases hlt : lo < hi
          · have d2 : (0 : Int) ≤ lo + hi := by omega
            have d3 : lo ≤ (lo + hi) / 2 := by omega
            have d4 : (lo + hi) / 2 < hi := by omega
            have HOM := Lib.hid (HTK.out ((lo + hi) / 2))
            by_cases hp : (lo + hi) / 2 < (r : Int)
            · have hvm := HL2.out _ (by omega) hp
              generalize tqV o (cval xs ys ((lo + hi) / 2)) ki n = v at *
              go_wp2_with (first | (refine wpList_load_row rfl 31 (.tmp 5) rfl w.heap.size rfl 31 tab (0, 0) _ ((Below.block (show Below (w.alloc (.cells tab 31)).heap.size (w.alloc (.cells tab 31)) _ by (repeat' (first | (with_reducible exact Below.refl _ _) | (with_reducible assumption) | (with_reducible refine below_alloc ?_ _) | (with_reducible refine Below.drew ?_) | (with_reducible refine below_drewN ?_ _) | (with_reducible refine below_step (by assumption) ?_) | (with_reducible refine below_later ?_ _) | (with_reducible refine Below.setCell ?_ ?_ _) | go_size))) _ (by simp)).trans (heap_alloc_new _ _)) Try.underlying31 rfl HI.out ?_) | (go_at_call 20; refine (HOM.out _ (HM.out _ (by (repeat' (first | (with_reducible exact Below.refl _ _) | (with_reducible assumption) | (with_reducible refine below_alloc ?_ _) | (with_reducible refine Below.drew ?_) | (with_reducible refine below_drewN ?_ _) | (with_reducible refine below_step (by assumption) ?_) | (with_reducible refine below_later ?_ _) | (with_reducible refine Below.setCell ?_ ?_ _) | go_size)))) (HE.out _ (by (repeat' (first | (with_reducible exact Below.refl _ _) | (with_reducible assumption) | (with_reducible refine below_alloc ?_ _) | (with_reducible refine Below.drew ?_) | (with_reducible refine below_drewN ?_ _) | (with_reducible refine below_step (by assumption) ?_) | (with_reducible refine below_later ?_ _) | (with_reducible refine Below.setCell ?_ ?_ _) | go_size))))).mono ?_; rintro e hb2w ⟨rfl, hb2⟩; obtain ⟨hb2c, hb2f⟩ := bcell hb2; have hb2s := hb2.size; (try simp only [World.size_alloc] at hb2s); (try (have : w.heap.size < hb2w.heap.size := by omega)); (try (have : w.heap.size + 1 < hb2w.heap.size := by omega)); (try (have : w.heap.size + 1 + 1 < hb2w.heap.size := by omega)); (try (have : w.heap.size + 1 + 1 + 1 < hb2w.heap.size := by omega)); (try (have : bX < hb2w.heap.size := by omega)); (try (have : bY < hb2w.heap.size := by omega)); (try (have : bZ < hb2w.heap.size := by omega))))
              go_roundg (hi - ((lo + hi) / 2 + 1)).toNat
              case measure => omega
              case rel => exact ⟨(lo + hi) / 2 + 1, hi, ⟨hb2w, q.h.trans (hb2.mono q.h.size)⟩, rfl, rfl, by omega, by omega, by omega, by omega, by omega, rfl⟩
            · have hvm := HL3.out _ (show (r : Int) ≤ (lo + hi) / 2 by omega) (by omega)
              generalize tqV o (cval xs ys ((lo + hi) / 2)) ki n = v at *
              go_wp2_with (first | (refine wpList_load_row rfl 31 (.tmp 5) rfl w.heap.size rfl 31 tab (0, 0) _ ((Below.block (show Below (w.alloc (.cells tab 31)).heap.size (w.alloc (.cells tab 31)) _ by (repeat' (first | (with_reducible exact Below.refl _ _) | (with_reducible assumption) | (with_reducible refine below_alloc ?_ _) | (with_reducible refine Below.drew ?_) | (with_reducible refine below_drewN ?_ _) | (with_reducible refine below_step (by assumption) ?_) | (with_reducible refine below_later ?_ _) | (with_reducible refine Below.setCell ?_ ?_ _) | go_size))) _ (by simp)).trans (heap_alloc_new _ _)) Try.underlying31 rfl HI.out ?_) | (go_at_call 20; refine (HOM.out _ (HM.out _ (by (repeat' (first | (with_reducible exact Below.refl _ _) | (with_reducible assumption) | (with_reducible refine below_alloc ?_ _) | (with_reducible refine Below.drew ?_) | (with_reducible refine below_drewN ?_ _) | (with_reducible refine below_step (by assumption) ?_) | (with_reducible refine below_later ?_ _) | (with_reducible refine Below.setCell ?_ ?_ _) | go_size)))) (HE.out _ (by (repeat' (first | (with_reducible exact Below.refl _ _) | (with_reducible assumption) | (with_reducible refine below_alloc ?_ _) | (with_reducible refine Below.drew ?_) | (with_reducible refine below_drewN ?_ _) | (with_reducible refine below_step (by assumption) ?_) | (with_reducible refine below_later ?_ _) | (with_reducible refine Below.setCell ?_ ?_ _) | go_size))))).mono ?_; rintro e hb2w ⟨rfl, hb2⟩; obtain ⟨hb2c, hb2f⟩ := bcell hb2; have hb2s := hb2.size; (try simp only [World.size_alloc] at hb2s); (try (have : w.heap.size < hb2w.heap.size := by omega)); (try (have : w.heap.size + 1 < hb2w.heap.size := by omega)); (try (have : w.heap.size + 1 + 1 < hb2w.heap.size := by omega)); (try (have : w.heap.size + 1 + 1 + 1 < hb2w.heap.size := by omega)); (try (have : bX < hb2w.heap.size := by omega)); (try (have : bY < hb2w.heap.size := by omega)); (try (have : bZ < hb2w.heap.size := by omega))))
              go_roundg ((lo + hi) / 2 - lo).toNat
              case measure => omega
              case rel => exact ⟨lo, (lo + hi) / 2, ⟨hb2w, q.h.trans (hb2.mono q.h.size)⟩, rfl, rfl, by omega, by omega, by omega, by omega, by omega, rfl⟩
          · obtain rfl : lo = (r : Int) := by omega
            go_wp2
            go_ret2
            exact ⟨by rw [HSR.out]; first | done | rfl, by (repeat' (first | (with_reducible exact Below.refl _ _) | (with_reducible assumption) | (with_reducible refine below_alloc ?_ _) | (with_reducible refine Below.drew ?_) | (with_reducible refine below_drewN ?_ _) | (with_reducible refine below_step (by assumption) ?_) | (with_reducible refine below_later ?_ _) | (with_reducible refine Below.setCell ?_ ?_ _) | go_size))⟩
      · have hD2 : downTo p k = F := by rw [← HD.out, downTo_step (by rw [hpk]; simpa using hv)]
        have HD2 := Lib.hid hD2
        clear hpk HD HFD hD2 HLS HP HTQ HL0 HTK
        generalize hki : ((k + 1 : Nat) : Int) = ki at *
        generalize tqV o (cval xs ys 2560) ki n = v0 at *
        go_wp2_with (first | (refine wpList_load_row rfl 31 (.tmp 5) rfl w.heap.size rfl 31 tab (0, 0) _ ((Below.block (show Below (w.alloc (.cells tab 31)).heap.size (w.alloc (.cells tab 31)) _ by (repeat' (first | (with_reducible exact Below.refl _ _) | (with_reducible assumption) | (with_reducible refine below_alloc ?_ _) | (with_reducible refine Below.drew ?_) | (with_reducible refine below_drewN ?_ _) | (with_reducible refine below_step (by assumption) ?_) | (with_reducible refine below_later ?_ _) | (with_reducible refine Below.setCell ?_ ?_ _) | go_size))) _ (by simp)).trans (heap_alloc_new _ _)) Try.underlying31 rfl HI.out ?_) | (go_at_call 20; refine (HTL.out _ (HM.out _ (by (repeat' (first | (with_reducible exact Below.refl _ _) | (with_reducible assumption) | (with_reducible refine below_alloc ?_ _) | (with_reducible refine Below.drew ?_) | (with_reducible refine below_drewN ?_ _) | (with_reducible refine below_step (by assumption) ?_) | (with_reducible refine below_later ?_ _) | (with_reducible refine Below.setCell ?_ ?_ _) | go_size)))) (HE.out _ (by (repeat' (first | (with_reducible exact Below.refl _ _) | (with_reducible assumption) | (with_reducible refine below_alloc ?_ _) | (with_reducible refine Below.drew ?_) | (with_reducible refine below_drewN ?_ _) | (with_reducible refine below_step (by assumption) ?_) | (with_reducible refine below_later ?_ _) | (with_reducible refine Below.setCell ?_ ?_ _) | go_size))))).mono ?_; rintro e hb1w ⟨rfl, hb1⟩; obtain ⟨hb1c, hb1f⟩ := bcell hb1; have hb1s := hb1.size; (try simp only [World.size_alloc] at hb1s); (try (have : w.heap.size < hb1w.heap.size := by omega)); (try (have : w.heap.size + 1 < hb1w.heap.size := by omega)); (try (have : w.heap.size + 1 + 1 < hb1w.heap.size := by omega)); (try (have : w.heap.size + 1 + 1 + 1 < hb1w.heap.size := by omega)); (try (have : bX < hb1w.heap.size := by omega)); (try (have : bY < hb1w.heap.size := by omega)); (try (have : bZ < hb1w.heap.size := by omega))))
        go_roundg k
        case measure => omega
        case rel => exact ⟨k, ⟨hb1w, e.h.trans (hb1.mono e.h.size)⟩, by congr 1; omega, by omega, by omega, rfl, HD2⟩
end Go.Proofs.Ytpmjnpbigppllaa
