/- The law TopInverse returns true for all tables and numbers. No conditions. Printed by a program. -/
import Derived.Test.YtpmjnpbigppllaaTopI0
import Derived.Test.YtpmjnpbigppllaaTopI1
import Derived.Test.YtpmjnpbigppllaaTopI2
import Derived.Test.YtpmjnpbigppllaaTopI3
import Derived.Test.YtpmjnpbigppllaaFrame
namespace Go.Proofs.Ytpmjnpbigppllaa
set_option linter.unusedVariables false
set_option linter.unusedSimpArgs false
open Go.RowKit Go.ChangeShapes Go.WideShapes Go.ChangeAt

set_option maxRecDepth 100000 in
set_option maxHeartbeats 8000000 in
theorem topinv_walk (tab : Array Value) (rX rY rZ rx ry rA rB rC ru rv : Option Addr) (cX cY cZ cx cy cA cB cC cu cv : Nat) (X Y : List Int) (Z : List (List Int)) (xs ys : List Int) (A B : List Int) (C : List (List Int)) (us vs : List Int) (w : World) (hsz : tab.size = 24) (h6 : tab[6]? = some (.slice rX X.length cX)) (h7 : tab[7]? = some (.slice rY Y.length cY)) (h8 : tab[8]? = some (.slice rZ Z.length cZ)) (h18 : tab[18]? = some (.slice rx xs.length cx)) (h19 : tab[19]? = some (.slice ry ys.length cy)) (h0 : tab[0]? = some (.slice rA A.length cA)) (h1 : tab[1]? = some (.slice rB B.length cB)) (h2 : tab[2]? = some (.slice rC C.length cC)) (h12 : tab[12]? = some (.slice ru us.length cu)) (h13 : tab[13]? = some (.slice rv vs.length cv)) (hX : IsInts w rX cX .i64 X) (hY : IsInts w rY cY .i64 Y) (hZ : IsRows w rZ cZ Z) (hx : IsInts w rx cx .i64 xs) (hy : IsInts w ry cy .i64 ys) (hA : IsInts w rA cA .i64 A) (hB : IsInts w rB cB .i64 B) (hC : IsRows w rC cC C) (hu : IsInts w ru cu .i64 us) (hv : IsInts w rv cv .i64 vs) (s want t : Int)  : Calls Try.prog 11 #[.agg tab, .int .i64 s, .int .i64 want, .int .i64 t] w fun e w' => e = .returned (.bool true) ∧ Below w.heap.size w w' := by
  by_cases b1 : 40 < A.length
  · exact top_a1 tab rX rY rZ rx ry rA rB rC ru rv cX cY cZ cx cy cA cB cC cu cv X Y Z xs ys A B C us vs w hsz h6 h7 h8 h18 h19 h0 h1 h2 h12 h13 hX hY hZ hx hy hA hB hC hu hv s want t b1
  · by_cases b2 : 40 < B.length
    · exact top_a2 tab rX rY rZ rx ry rA rB rC ru rv cX cY cZ cx cy cA cB cC cu cv X Y Z xs ys A B C us vs w hsz h6 h7 h8 h18 h19 h0 h1 h2 h12 h13 hX hY hZ hx hy hA hB hC hu hv s want t b1 b2
    · by_cases b3 : 40 < X.length
      · exact top_a3 tab rX rY rZ rx ry rA rB rC ru rv cX cY cZ cx cy cA cB cC cu cv X Y Z xs ys A B C us vs w hsz h6 h7 h8 h18 h19 h0 h1 h2 h12 h13 hX hY hZ hx hy hA hB hC hu hv s want t b1 b2 b3
      · by_cases b4 : 40 < Y.length
        · exact top_a4 tab rX rY rZ rx ry rA rB rC ru rv cX cY cZ cx cy cA cB cC cu cv X Y Z xs ys A B C us vs w hsz h6 h7 h8 h18 h19 h0 h1 h2 h12 h13 hX hY hZ hx hy hA hB hC hu hv s want t b1 b2 b3 b4
        · obtain ⟨⟨q, e⟩, hq⟩ : ∃ x, charge2 X Y Z xs ys s want = x := ⟨_, rfl⟩
          by_cases he : e = 0
          · subst he
            obtain ⟨⟨p, f⟩, hp⟩ : ∃ x, aprs2 A B C us vs s q t = x := ⟨_, rfl⟩
            by_cases hf : f = 0
            · subst hf
              obtain ⟨p0, p1, r, hr, hqr, ⟨g, e, hg, he⟩ | ⟨g, hg, hw, rfl | ⟨hn, l, hl, hlq, ⟨v, e, hv', he⟩ | ⟨v, hv', hvw | ⟨hvw, h1Y, hqf⟩⟩⟩⟩⟩ := top_plain hq hp
              · exact top_C tab rX rY rZ rx ry rA rB rC ru rv cX cY cZ cx cy cA cB cC cu cv X Y Z xs ys A B C us vs w hsz h6 h7 h8 h18 h19 h0 h1 h2 h12 h13 hX hY hZ hx hy hA hB hC hu hv s want t b1 b2 b3 b4 q p r g e hq hp hr hqr hg he
              · exact top_D tab rX rY rZ rx ry rA rB rC ru rv cX cY cZ cx cy cA cB cC cu cv X Y Z xs ys A B C us vs w hsz h6 h7 h8 h18 h19 h0 h1 h2 h12 h13 hX hY hZ hx hy hA hB hC hu hv s want t b1 b2 b3 b4 q r g hq hp hr hqr hg hw
              · exact top_E tab rX rY rZ rx ry rA rB rC ru rv cX cY cZ cx cy cA cB cC cu cv X Y Z xs ys A B C us vs w hsz h6 h7 h8 h18 h19 h0 h1 h2 h12 h13 hX hY hZ hx hy hA hB hC hu hv s want t b1 b2 b3 b4 q p r g l v e hq hp hr hqr hg hw p0 p1 hn hl hlq hv' he
              · exact top_F tab rX rY rZ rx ry rA rB rC ru rv cX cY cZ cx cy cA cB cC cu cv X Y Z xs ys A B C us vs w hsz h6 h7 h8 h18 h19 h0 h1 h2 h12 h13 hX hY hZ hx hy hA hB hC hu hv s want t b1 b2 b3 b4 q p r g l v hq hp hr hqr hg hw p0 p1 hn hl hlq hv' hvw
              · obtain ⟨bY, oY, rfl, _, _⟩ := hY.cells (fun e => by rw [e] at h1Y; simp at h1Y)
                exact top_G tab rX rZ rx ry rA rB rC ru rv cX cY cZ cx cy cA cB cC cu cv X Y Z xs ys A B C us vs bY oY w hsz h6 h7 h8 h18 h19 h0 h1 h2 h12 h13 hX hY hZ hx hy hA hB hC hu hv s want t b1 b2 b3 b4 q p r g l v hq hp hr hqr hg hw p0 p1 hn hl hlq hv' hvw h1Y hqf
            · exact top_B tab rX rY rZ rx ry rA rB rC ru rv cX cY cZ cx cy cA cB cC cu cv X Y Z xs ys A B C us vs w hsz h6 h7 h8 h18 h19 h0 h1 h2 h12 h13 hX hY hZ hx hy hA hB hC hu hv s want t b1 b2 b3 b4 q p f hq hp hf
          · exact top_A tab rX rY rZ rx ry rA rB rC ru rv cX cY cZ cx cy cA cB cC cu cv X Y Z xs ys A B C us vs w hsz h6 h7 h8 h18 h19 h0 h1 h2 h12 h13 hX hY hZ hx hy hA hB hC hu hv s want t b1 b2 b3 b4 q e hq he

set_option maxRecDepth 100000 in
theorem top_holds : Rows.TopInverseSaid :=
  OpenClaim.holds_of_wide 11 Try.f11 rfl rfl rfl rfl rfl rfl rfl ⟨rfl, rfl, rfl, rfl, rfl⟩ rfl rfl rfl rfl rfl (by kernel_rfl) Try.func11 (by kernel_rfl)
    (of_decide_eq_true (by kernel_rfl)) (by unfold Func.isWrapper; first | (rw [if_pos (by decide +kernel)]; kernel_rfl) | (rw [if_neg (by decide +kernel)]; exact ⟨rfl, rfl⟩))
    (fun os started H enc _ => by
      refine law_frame started (s := Rows.topInverseSpec) (conds := Rows.topInverseRow.domain) Try.func11 (by kernel_rfl) rfl 4 rfl Try.underlying4 (by decide +kernel) (fun ds h => ?_)
        (ChangeSpec.witness6 (enc := enc) (C := Try.checked) false ⟨#[], #[.agg #[.slice none 0 0, .slice none 0 0, .slice none 0 0, .slice none 0 0, .slice none 0 0, .slice none 0 0, .slice none 0 0, .slice none 0 0, .slice none 0 0, .slice none 0 0, .slice none 0 0, .slice none 0 0, .slice none 0 0, .slice none 0 0, .slice none 0 0, .slice none 0 0, .slice none 0 0, .slice none 0 0, .slice none 0 0, .slice none 0 0, .int .i64 0, .int .i64 0, .int .i64 0, .int .i64 0], .int .i64 0, .int .i64 0, .int .i64 0], []⟩ 12 (by kernel_rfl) (by kernel_rfl) (by kernel_rfl) (by kernel_rfl)) ?_
      · match ds, h with
        | [_, _, _, _], _ => rfl
      · intro W base args ds p hval hA _
        rw [Try.params11] at hA hval
        obtain ⟨v0, vs0, d0, ds0, p0, q0, hargs, rfl, rfl, h0, r0⟩ := trodAll_cons hA
        obtain ⟨v1, vs1, d1, ds1, p1, q1, rfl, rfl, rfl, h1, r1⟩ := trodAll_cons r0
        obtain ⟨v2, vs2, d2, ds2, p2, q2, rfl, rfl, rfl, h2, r2⟩ := trodAll_cons r1
        obtain ⟨v3, vs3, d3, ds3, p3, q3, rfl, rfl, rfl, h3, r3⟩ := trodAll_cons r2
        obtain ⟨rfl, rfl, rfl⟩ := trodAll_nil r3
        obtain rfl : args = #[v0, v1, v2, v3] := by cases args; simp_all
        obtain ⟨cs0, rfl, k0⟩ := arg_agg Try.underlying31 (hval 0 _ v0 rfl rfl) h0
        obtain ⟨r0_0, c0_0, a0_0, r1_0, c1_0, a1_0, r2_0, c2_0, a2_0, r3_0, c3_0, a3_0, r4_0, c4_0, a4_0, r5_0, c5_0, a5_0, r6_0, c6_0, a6_0, r7_0, c7_0, a7_0, r8_0, c8_0, a8_0, r9_0, c9_0, a9_0, r10_0, c10_0, a10_0, r11_0, c11_0, a11_0, r12_0, c12_0, a12_0, r13_0, c13_0, a13_0, r14_0, c14_0, a14_0, r15_0, c15_0, a15_0, r16_0, c16_0, a16_0, r17_0, c17_0, a17_0, r18_0, c18_0, a18_0, r19_0, c19_0, a19_0, a20_0, a21_0, a22_0, a23_0, rfl, g0_0, g1_0, g2_0, g3_0, g4_0, g5_0, g6_0, g7_0, g8_0, g9_0, g10_0, g11_0, g12_0, g13_0, g14_0, g15_0, g16_0, g17_0, g18_0, g19_0, g20_0, g21_0, g22_0, g23_0⟩ := open_Tables k0
        obtain ⟨b1, rfl, rfl, rfl, w1⟩ := open_int Try.underlying3 (hval 1 _ v1 rfl rfl) h1
        obtain ⟨b2, rfl, rfl, rfl, w2⟩ := open_int Try.underlying3 (hval 2 _ v2 rfl rfl) h2
        obtain ⟨b3, rfl, rfl, rfl, w3⟩ := open_int Try.underlying3 (hval 3 _ v3 rfl rfl) h3
        apply topinv_walk <;> (first | assumption | rfl))
#print axioms top_holds

end Go.Proofs.Ytpmjnpbigppllaa
