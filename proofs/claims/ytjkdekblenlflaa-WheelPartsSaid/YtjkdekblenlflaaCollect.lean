/- Contract of collect of wheels: the iterates of a function up to a limit. -/
import Derived.Test.YtjkdekblenlflaaWheelC
import Derived.Test.YtjkdekblenlflaaOwn
import Derived.Shelf.Abstract
namespace Go.Proofs.Ytjkdekblenlflaa
set_option linter.unusedVariables false
set_option linter.unusedSimpArgs false
open Go.RowKit Go.ChangeShapes Go.WideShapes Go.ChangeAt

def iterL (f : Int → Int) (b : Int) : Nat → Int → List Int
  | 0, _ => []
  | n + 1, p => if p ≤ b then p :: iterL f b n (f p) else []
def collL (f : Int → Int) (a b : Int) : List Int := iterL f b 1001 (f a)
def collV (f : Int → Int) (a b : Int) : List Int × Int :=
  if 0 ≤ a ∧ b ≤ 1099511627776 ∧ a ≤ b then (if (collL f a b).length ≤ 1000 then (collL f a b, 0) else ([], 5)) else ([], 2)
theorem iterL_out {f : Int → Int} {b p : Int} (h : ¬ p ≤ b) : ∀ n, iterL f b n p = []
  | 0 => rfl
  | n + 1 => by unfold iterL; rw [if_neg h]
theorem iterL_in {f : Int → Int} {b p : Int} (h : p ≤ b) (n : Nat) : iterL f b (n + 1) p = p :: iterL f b n (f p) := by
  rw [iterL, if_pos h]
theorem iterL_len (f : Int → Int) (b : Int) : ∀ n p, (iterL f b n p).length ≤ n
  | 0, _ => by simp [iterL]
  | n + 1, p => by
    unfold iterL
    split
    · have := iterL_len f b n (f p)
      simp; omega
    · simp

set_option maxHeartbeats 2000000 in
theorem collect_any (g : Nat) (cb : Array Value) (f : Int → Int) (a b : Int) (w : World) (eg : ∀ args w, (callFunc g args).run Try.prog w = .ok (.enter g args) w)
    (hf : 0 ≤ a → b ≤ 1099511627776 → ∀ (e : Later w) (p : Int), a ≤ p → p ≤ b → Calls Try.prog g (#[.int .i64 p] ++ cb) e.w fun x w' => x = .returned (.int .i64 (f p)) ∧ Below e.w.heap.size e.w w')
    (hm : 0 ≤ a → b ≤ 1099511627776 → ∀ p, a ≤ p → p ≤ b → p < f p ∧ f p ≤ 4398046511104) :
    Calls Try.prog 39 #[.int .i64 a, .int .i64 b, .func (.func g) #[] cb] w fun e w' => ∃ r cap, e = .returned (.tuple #[.slice r (collV f a b).1.length cap, .int .i64 (collV f a b).2]) ∧ IsInts w' r cap .i64 (collV f a b).1 ∧ Below w.heap.size w w' := by
  have HF := Lib.hid hf
  have HM := Lib.hid hm
  have HV : Hid (collV f a b = if 0 ≤ a ∧ b ≤ 1099511627776 ∧ a ≤ b then (if (collL f a b).length ≤ 1000 then (collL f a b, 0) else ([], 5)) else ([], 2)) := Lib.hid rfl
  clear hf hm
  have hbad : ¬ (0 ≤ a ∧ b ≤ 1099511627776 ∧ a ≤ b) → Calls Try.prog 39 #[.int .i64 a, .int .i64 b, .func (.func g) #[] cb] w fun e w' => ∃ r cap, e = .returned (.tuple #[.slice r (collV f a b).1.length cap, .int .i64 (collV f a b).2]) ∧ IsInts w' r cap .i64 (collV f a b).1 ∧ Below w.heap.size w w' := fun h => by
    have hv := HV.out.trans (if_neg h)
    have HB := Lib.hid h
    rw [hv]
    clear h hv
    cases h1 : posB a with
    | false =>
      go_enter Try.func39, Try.ntmps39
      go_wp2_with ((go_at_call 34; refine (pos_any _ _).mono ?_; rintro e w' ⟨rfl, rfl⟩))
      go_ret2
      exact ⟨none, 0, rfl, (OwnI.nil w w.heap.size).ints (by simp), by (repeat' (first | (with_reducible exact Below.refl _ _) | (with_reducible assumption) | (with_reducible refine below_alloc ?_ _) | (with_reducible refine Below.drew ?_) | (with_reducible refine below_drewN ?_ _) | (with_reducible refine below_step (by assumption) ?_) | (with_reducible refine below_later ?_ _) | (with_reducible refine Below.setCell ?_ ?_ _) | go_size))⟩
    | true =>
      cases h2 : posB b with
      | false =>
        go_enter Try.func39, Try.ntmps39
        go_wp2_with ((go_at_call 34; refine (pos_any _ _).mono ?_; rintro e w' ⟨rfl, rfl⟩))
        go_ret2
        exact ⟨none, 0, rfl, (OwnI.nil w w.heap.size).ints (by simp), by (repeat' (first | (with_reducible exact Below.refl _ _) | (with_reducible assumption) | (with_reducible refine below_alloc ?_ _) | (with_reducible refine Below.drew ?_) | (with_reducible refine below_drewN ?_ _) | (with_reducible refine below_step (by assumption) ?_) | (with_reducible refine below_later ?_ _) | (with_reducible refine Below.setCell ?_ ?_ _) | go_size))⟩
      | true =>
        have h3 : b < a := by
          have := posB_true.1 h1
          have := posB_true.1 h2
          have := HB.out
          omega
        go_enter Try.func39, Try.ntmps39
        go_wp2_with ((go_at_call 34; refine (pos_any _ _).mono ?_; rintro e w' ⟨rfl, rfl⟩))
        go_ret2
        exact ⟨none, 0, rfl, (OwnI.nil w w.heap.size).ints (by simp), by (repeat' (first | (with_reducible exact Below.refl _ _) | (with_reducible assumption) | (with_reducible refine below_alloc ?_ _) | (with_reducible refine Below.drew ?_) | (with_reducible refine below_drewN ?_ _) | (with_reducible refine below_step (by assumption) ?_) | (with_reducible refine below_later ?_ _) | (with_reducible refine Below.setCell ?_ ?_ _) | go_size))⟩
  by_cases hgood : 0 ≤ a ∧ b ≤ 1099511627776 ∧ a ≤ b
  · obtain ⟨a0, b0, hab⟩ := hgood
    clear hbad
    have HV2 := Lib.hid (HV.out.trans (if_pos ⟨a0, b0, hab⟩))
    clear HV
    have h1 : posB a = true := posB_true.2 (by omega)
    have h2 : posB b = true := posB_true.2 (by omega)
    have h3 : ¬ b < a := by omega
    have hfa := HF.out a0 b0 ⟨w, Below.refl _ _⟩ a (Int.le_refl _) hab
    have ⟨fa1, fa2⟩ := HM.out a0 b0 a (Int.le_refl _) hab
    have HL : Hid (collL f a b = [] ++ iterL f b (1001 - 0) (f a)) := Lib.hid rfl
    generalize hfa0 : f a = fa at *
    go_enter Try.func39, Try.ntmps39
    go_wp2_with (first | (go_at_call 34; refine (pos_any _ _).mono ?_; rintro e w' ⟨rfl, rfl⟩) | (go_at_fn g; refine hfa.mono ?_; rintro x hb1w ⟨rfl, hb1⟩; have hb1s := hb1.size))
    go_loopg [8, 9] 1001 (fun kx s8 s9 wr => ∃ (r : Option Addr) (cap : Nat) (out : List Int) (p : Int) (e : Later w), s8 = .slice r out.length cap ∧ s9 = .int .i64 p ∧ out.length ≤ 1000 ∧ a < p ∧ p ≤ 4398046511104 ∧ 1001 - out.length ≤ kx ∧ wr = e.w ∧ Hid (OwnI e.w w.heap.size r cap out) ∧ Hid (∀ x ∈ out, 0 ≤ x ∧ x ≤ 1099511627776) ∧ Hid (collL f a b = out ++ iterL f b (1001 - out.length) p))
    case atStart => exact ⟨none, 0, [], fa, ⟨hb1w, hb1⟩, rfl, rfl, by simp, by omega, by omega, by simp, rfl, Lib.hid (OwnI.nil _ _), Lib.hid (by simp), HL⟩
    case round =>
      obtain ⟨r, cap, out, p, e, rfl, rfl, hl, hp1, hp2, hkx, rfl, HO, HE, HQ⟩ := hrel
      have hes := e.h.size
      by_cases hpb : p ≤ b
      · by_cases hfull : out.length = 1000
        · have hfull2 : (out.length : Int) = 1000 := by omega
          have hv : collV f a b = ([], 5) := by
            rw [HV2.out, if_neg]
            rw [HQ.out, hfull, show 1001 - 1000 = 0 + 1 by omega, iterL_in hpb]
            simp [hfull]
          have HVV := Lib.hid hv
          clear hfull hv
          go_wp2
          go_ret2
          rw [HVV.out]
          exact ⟨none, 0, rfl, (OwnI.nil e.w w.heap.size).ints (by simp), e.h⟩
        · have hfull2 : ¬ (out.length : Int) = 1000 := by omega
          have ⟨fp1, fp2⟩ := HM.out a0 b0 p (by omega) hpb
          have HFP := Lib.hid (fun e => HF.out a0 b0 e p (by omega) hpb)
          have HQ2 : Hid (collL f a b = (out ++ [p]) ++ iterL f b (1001 - (out ++ [p]).length) (f p)) := Lib.hid (by
            rw [HQ.out, show 1001 - out.length = (1000 - out.length) + 1 by omega, iterL_in hpb]
            simp)
          have HE2 : Hid (∀ x ∈ out ++ [p], 0 ≤ x ∧ x ≤ 1099511627776) := Lib.hid (fun x hx => by
            rcases List.mem_append.1 hx with hx | hx
            · exact HE.out x hx
            · simp at hx; omega)
          generalize f p = fp at *
          clear hfull
          go_wp2_with (first | (at_builtin; refine wpList_append_int (by rfl) _ _ (by rfl) e.w w.heap.size r cap out p (by rfl) (by rfl) (by rfl) HO.out (by omega) (by omega) ?_; intro r' cap' w1 hown1 hbw1) | (go_at_fn g; refine (HFP.out ⟨w1, e.h.trans hbw1⟩).mono ?_; rintro x hb2w ⟨rfl, hb2⟩))
          go_roundg (1001 - (out ++ [p]).length)
          case measure => simp; omega
          case rel =>
            exact ⟨r', cap', out ++ [p], fp, ⟨hb2w, (e.h.trans hbw1).trans (hb2.mono (e.h.trans hbw1).size)⟩, by simp, rfl, by simp; omega, by omega, fp2, Nat.le_refl _, rfl, Lib.hid (hown1.below hb2 (Nat.le_refl _)), HE2, HQ2⟩
      · have hv : collV f a b = (out, 0) := by
          have e1 : collL f a b = out := by rw [HQ.out, iterL_out hpb]; simp
          rw [HV2.out, e1, if_pos hl]
        have HVV := Lib.hid hv
        clear hv
        go_wp2
        go_ret2
        rw [HVV.out]
        exact ⟨r, cap, rfl, HO.out.ints (fun x hx => by have := HE.out x hx; exact WalkArith.wf_i64 (by omega)), e.h⟩
  · exact hbad hgood
end Go.Proofs.Ytjkdekblenlflaa
