/- A body with its sum and zero bytes. Printed by a program. -/
import Derived.Test.YtfooefiaenlhmaaImgE
namespace Go.Proofs.Ytfooefiaenlhmaa
set_option linter.unusedVariables false
set_option linter.unusedSimpArgs false
open Go.RowKit Go.ChangeShapes Go.WideShapes Go.ChangeAt

/-- How many zero bytes follow n bytes. -/
def padN (n : Nat) : Nat := (4 - n % 4) % 4
def summed (xs : List Int) : List Int := xs ++ b4 (sumB xs)
/-- A body with its sum and zero bytes. -/
def sealL (xs : List Int) : List Int := summed xs ++ List.replicate (padN (summed xs).length) 0
theorem summed_len (xs : List Int) : (summed xs).length = xs.length + 4 := by unfold summed; rw [List.length_append, b4_len]
theorem sumB_u32 (xs : List Int) : 0 ≤ sumB xs ∧ sumB xs ≤ 4294967295 := by have := sumF_bd (s := 1) (by omega) xs; unfold sumB; omega
theorem padN_lt (n : Nat) : padN n ≤ 3 := by unfold padN; omega
theorem padN_mod {n k : Nat} (hk : k ≤ padN n) : ((n + k) % 4 = 0) ↔ k = padN n := by unfold padN at *; omega
theorem sealL_len (xs : List Int) : (sealL xs).length = xs.length + 4 + padN (xs.length + 4) := by unfold sealL; rw [List.length_append, List.length_replicate, summed_len]
theorem sealL_byte {xs : List Int} (h : ByteL xs) : ByteL (sealL xs) := by
  intro y hy
  simp only [sealL, summed, List.mem_append, List.mem_replicate] at hy
  rcases hy with (hy | hy) | ⟨_, rfl⟩
  · exact h y hy
  · exact b4_byte (sumB_u32 xs) y hy
  · omega
set_option maxRecDepth 100000 in
set_option maxHeartbeats 2000000 in
theorem sealed_any (base : Nat) (r : Option Addr) (cap : Nat) (xs : List Int) (w : World) (ho : OwnK .u8 5 w base r cap xs) (hb : ByteL xs) (hl : xs.length ≤ 90000000000) (hbase : base ≤ w.heap.size) : Calls Try.prog 35 #[.slice r xs.length cap] w fun e w' => ∃ ro co, e = .returned (.slice ro (sealL xs).length co) ∧ OwnK .u8 5 w' base ro co (sealL xs) ∧ Below base w w' := by
  have hx : IsInts w r cap .u8 xs := ho.ints (fun x hx => u8_wf (hb x hx).1 (hb x hx).2)
  have ⟨s0, s1⟩ := sumB_u32 xs
  have HO := Lib.hid ho
  clear ho
  have HM : Hid (∀ k, k ≤ padN (summed xs).length → ((((summed xs ++ List.replicate k (0 : Int)).length : Int)) % 4 = 0 ↔ k = padN (summed xs).length)) := Lib.hid (fun k hk => by
    rw [List.length_append, List.length_replicate]
    have := padN_mod (n := (summed xs).length) hk
    omega)
  have HL : Hid ((summed xs).length = xs.length + 4) := Lib.hid (summed_len xs)
  have HP : Hid (padN (summed xs).length ≤ 3) := Lib.hid (padN_lt _)
  have HE : Hid (sealL xs = summed xs ++ List.replicate (padN (summed xs).length) 0) := Lib.hid rfl
  have HU : Hid (summed xs = xs ++ b4 (sumB xs)) := Lib.hid rfl
  generalize sealL xs = res at *
  generalize padN (summed xs).length = pd at *
  generalize summed xs = sm at *
  go_enter Try.func35, Try.ntmps35
  generalize hsm : sumB xs = sv at *
  go_wp2_with (first | (go_at_call 11; refine (isum_any _ _ _ _ hx).mono ?_; rintro e w1 ⟨rfl, hb1⟩; rw [hsm]; have hbz : base ≤ w1.heap.size := Nat.le_trans hbase hb1.size) | (at_builtin; refine wpList_append_k Try.underlying29 infoU8 rfl (by omega) (by rfl) _ _ (by rfl) w1 base r cap xs (b4 sv) 4 rfl (by omega) (by first | rfl | (rw [← b4_wrap s0 s1]; rfl)) (by rfl) (by rfl) (HO.out.below hb1 (Nat.le_refl _)) (by omega) hbz ?_; intro r' c' w2 hown2 hbw2; have HO2 := Lib.hid hown2; clear hown2))
  have hlen : xs.length + 4 = sm.length := HL.out.symm
  rw [hlen]
  have hO3 : Hid (OwnK .u8 5 w2 base r' c' sm) := Lib.hid (by rw [HU.out]; exact HO2.out)
  have hbw : Below base w w2 := (hb1.mono hbase).trans hbw2
  clear HO2 HO
  have hsml : sm.length ≤ 90000000004 := by omega
  go_loopg [0] 4 (fun kx s0 wr => ∃ (k : Nat) (ro : Option Addr) (co : Nat) (out : List Int), s0 = .slice ro out.length co ∧ k ≤ pd ∧ pd - k ≤ kx ∧ Below base w wr ∧ Hid (OwnK .u8 5 wr base ro co out) ∧ Hid (out = sm ++ List.replicate k 0) ∧ out.length ≤ 90000000010)
  case atStart => exact ⟨0, _, _, sm, rfl, by omega, by have := HP.out; omega, hbw, hO3, Lib.hid (by simp), by omega⟩
  case round =>
    obtain ⟨k, ro, co, out, rfl, hk, hkx, hbr, HOr, HQ, hol⟩ := hrel
    have hbs : base ≤ wr.heap.size := Nat.le_trans hbase hbr.size
    have HMk := Lib.hid (HM.out k hk)
    rw [← HQ.out] at HMk
    by_cases hlt : k < pd
    · have hm : ¬ ((out.length : Int) % 4 = 0) := fun h => by have := HMk.out.1 h; omega
      go_wp2_with (at_builtin; refine wpList_append_k Try.underlying29 infoU8 rfl (by omega) (by rfl) _ _ (by rfl) wr base ro co out [0] 1 rfl (by omega) (by rfl) (by rfl) (by rfl) HOr.out (by omega) hbs ?_; intro r2 c2 w3 hown3 hbw3; have HO4 := Lib.hid hown3; clear hown3)
      go_roundg (pd - (k + 1))
      case measure => omega
      case rel => exact ⟨k + 1, r2, c2, out ++ [0], by simp, by omega, by omega, hbr.trans hbw3, HO4, Lib.hid (by rw [HQ.out, List.append_assoc, List.replicate_succ']), by have := HQ.out; have := HP.out; rw [HQ.out]; simp only [List.length_append, List.length_replicate, List.length_singleton]; omega⟩
    · obtain rfl : k = pd := by omega
      have hm : (out.length : Int) % 4 = 0 := HMk.out.2 rfl
      go_wp2
      go_ret
      have he : out = res := by rw [HE.out, HQ.out]
      subst he
      exact ⟨ro, co, rfl, HOr.out, hbr⟩
end Go.Proofs.Ytfooefiaenlhmaa
