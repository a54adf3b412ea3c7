/- The law ImageDecodes returns true for all bytes. No conditions. -/
import Derived.Test.YtfooefiaenlhmaaGreatGA1
import Derived.Test.YtfooefiaenlhmaaGreatGA23
namespace Go.Proofs.YtfooefiaenlhmaaGreat
set_option maxHeartbeats 16000000
open Go.RowKit Go.ChangeShapes Go.WideShapes Go.ChangeAt
set_option maxRecDepth 100000 in
theorem idc_long (r : Option Addr) (c : Nat) (bs : List Int) (w : World) (h : 20000 < bs.length) (hm : bs.length ≤ 9223372036854775807) : Calls Tryz.prog 5 #[.slice r bs.length c] w fun e w' => e = .returned (.bool true) ∧ Below w.heap.size w w' := by
 have h1 : (20000 : Int) < bs.length := by omega
 go_enter Tryz.func5, Tryz.ntmps5
 go_wp2_with (first | (go_at_call 6; refine (awake_any _).mono ?_; rintro e hb0w ⟨rfl, hb0⟩; obtain ⟨hb0c, hb0f⟩ := bcell hb0; have hb0s := hb0.size; (try simp only [zA] at hb0s); (try (have : w.heap.size < hb0w.heap.size := by omega)); (try (have : w.heap.size + 1 < hb0w.heap.size := by omega)); (try (have : w.heap.size + 1 + 1 < hb0w.heap.size := by omega)); (try (have : w.heap.size + 1 + 1 + 1 < hb0w.heap.size := by omega)); (try (have : bX < hb0w.heap.size := by omega)); (try (have : bY < hb0w.heap.size := by omega)); (try (have : bZ < hb0w.heap.size := by omega))))
 go_ret
 exact ⟨by first | rfl | (simp; done), bw⟩
set_option maxRecDepth 100000 in
theorem idc_main (r : Option Addr) (c : Nat) (bs : List Int) (w : World) (hx : IsInts w r c .u8 bs) (hl : bs.length ≤ 20000) : Calls Tryz.prog 5 #[.slice r bs.length c] w fun e w' => e = .returned (.bool true) ∧ Below w.heap.size w w' := by
 have h1 : ¬ (20000 : Int) < bs.length := by omega
 have HX := H! (fun W (h : Below w.heap.size w W) => hx.later h)
 have HD1 := H! (fun W (h : Below w.heap.size w W) => idecode_any r c bs W (HX.out W h) (by omega))
 have HD2 := H! (fun W (h : Below w.heap.size w W) => rdecode_any r c bs W (HX.out W h) (by omega))
 have HLN := H! (dec_len (bs := bs) (by omega))
 clear hx
 generalize decP bs = D at *
 obtain ⟨d, e⟩ := D
 simp only at HD1 HD2 HLN
 have HP : Hid (∀ p q : PV, ∀ W, IsP W p → IsP W q → p.p = d → q.p = d → Calls Tryz.prog 15 #[p.val, q.val] W fun e w' => e = .returned (.bool true) ∧ Below W.heap.size W w') := H! (fun p q W hp hq h1 h2 => by
  have := rsame_any p q W hp hq (by rw [h1]; exact HLN.out) (by rw [h2]; exact HLN.out)
  rw [h1, h2, show decide (d.body = d.body) = true by simp] at this
  exact this)
 go_enter Tryz.func5, Tryz.ntmps5
 go_wp2_with (first | (go_at_call 6; refine (awake_any _).mono ?_; rintro e hb0w ⟨rfl, hb0⟩; obtain ⟨hb0c, hb0f⟩ := bcell hb0; have hb0s := hb0.size; (try simp only [zA] at hb0s); (try (have : w.heap.size < hb0w.heap.size := by omega)); (try (have : w.heap.size + 1 < hb0w.heap.size := by omega)); (try (have : w.heap.size + 1 + 1 < hb0w.heap.size := by omega)); (try (have : w.heap.size + 1 + 1 + 1 < hb0w.heap.size := by omega)); (try (have : bX < hb0w.heap.size := by omega)); (try (have : bY < hb0w.heap.size := by omega)); (try (have : bZ < hb0w.heap.size := by omega))) | (go_at_call 16; refine (HD1.out _ bw).mono ?_; rintro _ w6 ⟨⟨rc, cc, code, rt, ct, tZ, rv, cv, vZ, rm, cm, maps, lZ, ri, ci, nZ, rs, cs, sZ, ro, co, oZ, rn, cn, iZ⟩, rfl, hp6, hq6, hb6⟩; simp only [PV.val]; have HP6 := H! hp6; have HQ6 := H! hq6; clear hp6 hq6; obtain ⟨hb6c, hb6f⟩ := bcell hb6; have hb6s := hb6.size; (try simp only [zA] at hb6s)) | (go_at_call 17; refine (HD2.out _ bw).mono ?_; rintro _ w7 ⟨⟨rc2, cc2, code2, rt2, ct2, tZ2, rv2, cv2, vZ2, rm2, cm2, maps2, lZ2, ri2, ci2, nZ2, rs2, cs2, sZ2, ro2, co2, oZ2, rn2, cn2, iZ2⟩, rfl, hp7, hq7, hb7⟩; simp only [PV.val]; have HP7 := H! hp7; have HQ7 := H! hq7; clear hp7 hq7; obtain ⟨hb7c, hb7f⟩ := bcell hb7; have hb7s := hb7.size; (try simp only [zA] at hb7s); have hx7 : w6.heap.size < w7.heap.size := (by omega)) | (go_at_call 15; refine (HP.out ⟨rc, cc, code, rt, ct, tZ, rv, cv, vZ, rm, cm, maps, lZ, ri, ci, nZ, rs, cs, sZ, ro, co, oZ, rn, cn, iZ⟩ ⟨rc2, cc2, code2, rt2, ct2, tZ2, rv2, cv2, vZ2, rm2, cm2, maps2, lZ2, ri2, ci2, nZ2, rs2, cs2, sZ2, ro2, co2, oZ2, rn2, cn2, iZ2⟩ _ (HP6.out.later bw) (HP7.out.later bw) HQ6.out HQ7.out).mono ?_; rintro _ w8 ⟨rfl, hb8⟩))
 go_ret
 exact ⟨by first | rfl | (simp; done), bw⟩
theorem idc_walk (r : Option Addr) (c : Nat) (bs : List Int) (w : World) (hx : IsInts w r c .u8 bs) : Calls Tryz.prog 5 #[.slice r bs.length c] w fun e w' => e = .returned (.bool true) ∧ Below w.heap.size w w' := by
 by_cases h : 20000 < bs.length
 ·
  exact idc_long r c bs w h hx.len
 ·
  exact idc_main r c bs w hx (by omega)
set_option maxRecDepth 100000 in
theorem idecodes_holds : Rows.ImageDecodesSaid :=
 OpenClaim.holds_of_wide 5 Tryz.f5 rfl rfl rfl rfl rfl rfl rfl ⟨rfl, rfl, rfl, rfl, rfl⟩ rfl rfl rfl rfl rfl (by kernel_rfl) Tryz.func5 (by kernel_rfl)
  (of_decide_eq_true (by kernel_rfl)) (by unfold Func.isWrapper; first | (rw [if_pos (by decide +kernel)]; kernel_rfl) | (rw [if_neg (by decide +kernel)]; exact ⟨rfl, rfl⟩))
  (fun os started H enc _ => by
   refine law_frame started (s := Rows.imageDecodesSpec) (conds := Rows.imageDecodesRow.domain) Tryz.func5 (by kernel_rfl) rfl 4 rfl Tryz.underlying4 (by decide +kernel) (fun ds h => ?_)
    (ChangeSpec.witness6 (enc := enc) (C := Tryz.checked) false ⟨#[], #[.slice none 0 0], []⟩ 12 (by kernel_rfl) (by kernel_rfl) (by kernel_rfl) (by kernel_rfl)) ?_
   ·
    match ds, h with
    | [_], _ => rfl
   ·
    intro W base args ds p hval hA _
    rw [Tryz.params5] at hA hval
    obtain ⟨v0, vs0, d0, ds0, p0, q0, hargs, rfl, rfl, h0, r0⟩ := trodAll_cons hA
    obtain ⟨rfl, rfl, rfl⟩ := trodAll_nil r0
    obtain rfl : args = #[v0] := by cases args; simp_all
    obtain ⟨r0, c0, b0, e0, w0⟩ := rd_ints Tryz.underlying43 Tryz.underlying5 (by kernel_rfl) (arg_slice Tryz.underlying43 (hval 0 _ v0 rfl rfl) h0)
    simp only [List.cons.injEq, and_true] at e0
    subst e0
    apply idc_walk <;> (first | assumption | rfl))
#print axioms idecodes_holds
end Go.Proofs.YtfooefiaenlhmaaGreat
