/- Lemmas for the laws of package magnetolaw15: what its functions return, for any arguments that the lemmas name. -/
import Derived.Test.YtfooefiaenlhmaaGO9
import Derived.Test.YtfooefiaenlhmaaGO11
namespace Go.Proofs.Ytfooefiaenlhmaa
set_option linter.unusedVariables false
set_option linter.unusedSimpArgs false
set_option maxHeartbeats 16000000
open Go.RowKit Go.ChangeShapes Go.WideShapes Go.ChangeAt
theorem v1_any (b : Bool) (w : World) : Calls Try.prog 57 #[.bool b] w fun e w' => e = .returned (.bool (!b)) ∧ w' = w := by
 go_enter Try.func57, Try.ntmps57
 go_wp2
 go_ret
 exact ⟨rfl, rfl⟩
set_option maxRecDepth 100000 in
theorem v2_any (X : Nat) (t : Fx) (w : World) (hX : X < w.heap.size) (hc : w.cell? ⟨X, 0, none⟩ = some (.func (.func 57) #[] #[])) : Calls Try.prog 59 #[.agg #[.int .i64 t.bits, .bool t.sg, .int .i64 t.num, .int .i64 t.off, .int .i64 t.den, .int .i64 t.m, .int .i64 t.kg, .int .i64 t.s, .int .i64 t.a, .int .i64 t.k], .pointer (some ⟨X, 0, none⟩)] w fun e w' => e = .returned (.bool (!fxB t)) ∧ Below w.heap.size w w' := by
 obtain ⟨x0, x1, x2, x3, x4, x5, x6, x7, x8, x9⟩ := t
 have HV := H! (fun W => fvalid_any ⟨x0, x1, x2, x3, x4, x5, x6, x7, x8, x9⟩ W)
 generalize fxB ⟨x0, x1, x2, x3, x4, x5, x6, x7, x8, x9⟩ = R at *
 simp only at HV ⊢
 have hX1 : X < w.heap.size + 1 := by omega
 go_enter Try.func59, Try.ntmps59
 go_wp2
 go_region_with (first | (go_at_call 60; refine (HV.out _).mono ?_; rintro e w2 ⟨rfl, hb2⟩; obtain ⟨hb2c, hb2f⟩ := bcell hb2; have hb2s := hb2.size; (try simp only [zA, World.size_drew] at hb2s); have hx2 : X < w2.heap.size := (by omega)) | (go_at_call 57; refine (v1_any _ _).mono ?_; rintro e w3 ⟨rfl, rfl⟩))
 all_goals go_wp2
 all_goals go_ret
 all_goals exact ⟨rfl, bw⟩
noncomputable def cvB (c : Cv) : Bool := curveB c.X c.Y
noncomputable def mpB (m : Mp) : Bool := mapB m.X m.Y m.Z
set_option maxRecDepth 100000 in
theorem v3_any (X : Nat) (t : Cv) (w : World) (ht : t.ok w) (hX : X < w.heap.size) (hc : w.cell? ⟨X, 0, none⟩ = some (.func (.func 57) #[] #[])) : Calls Try.prog 61 #[.agg #[.slice t.rx t.X.length t.cx, .slice t.ry t.Y.length t.cy], .pointer (some ⟨X, 0, none⟩)] w fun e w' => e = .returned (.bool (!cvB t)) ∧ Below w.heap.size w w' := by
 obtain ⟨rx, cx, A, ry, cy, B⟩ := t
 obtain ⟨hA, hB⟩ := ht
 simp only at hA hB
 have HV := H! (fun W (h : Below w.heap.size w W) => curveValid_any rx ry cx cy A B W (hA.later h) (hB.later h))
 have HR : cvB ⟨rx, cx, A, ry, cy, B⟩ = curveB A B := rfl
 rw [HR]
 clear hA hB HR
 generalize curveB A B = R at *
 simp only at HV ⊢
 have hX1 : X < w.heap.size + 1 := by omega
 go_enter Try.func61, Try.ntmps61
 go_wp2
 go_region_with (first | (go_at_call 62; refine (HV.out _ bw).mono ?_; rintro e w2 ⟨rfl, hb2⟩; obtain ⟨hb2c, hb2f⟩ := bcell hb2; have hb2s := hb2.size; (try simp only [zA, World.size_drew] at hb2s); have hx2 : X < w2.heap.size := (by omega)) | (go_at_call 57; refine (v1_any _ _).mono ?_; rintro e w3 ⟨rfl, rfl⟩))
 all_goals go_wp2
 all_goals go_ret
 all_goals exact ⟨rfl, bw⟩
set_option maxRecDepth 100000 in
theorem v4_any (X : Nat) (t : Mp) (w : World) (ht : t.ok w) (hX : X < w.heap.size) (hc : w.cell? ⟨X, 0, none⟩ = some (.func (.func 57) #[] #[])) : Calls Try.prog 63 #[.agg #[.slice t.rx t.X.length t.cx, .slice t.ry t.Y.length t.cy, .slice t.rz t.Z.length t.cz], .pointer (some ⟨X, 0, none⟩)] w fun e w' => e = .returned (.bool (!mpB t)) ∧ Below w.heap.size w w' := by
 obtain ⟨rx, cx, A, ry, cy, B, rz, cz, Z⟩ := t
 obtain ⟨hA, hB, hZ⟩ := ht
 simp only at hA hB hZ
 have HV := H! (fun W (h : Below w.heap.size w W) => svalid_any rx ry rz cx cy cz A B Z W (hA.later h) (hB.later h) (hZ.later h))
 have HR : mpB ⟨rx, cx, A, ry, cy, B, rz, cz, Z⟩ = mapB A B Z := rfl
 rw [HR]
 clear hA hB hZ HR
 generalize mapB A B Z = R at *
 simp only at HV ⊢
 have hX1 : X < w.heap.size + 1 := by omega
 go_enter Try.func63, Try.ntmps63
 go_wp2
 go_region_with (first | (go_at_call 64; refine (HV.out _ bw).mono ?_; rintro e w2 ⟨rfl, hb2⟩; obtain ⟨hb2c, hb2f⟩ := bcell hb2; have hb2s := hb2.size; (try simp only [zA, World.size_drew] at hb2s); have hx2 : X < w2.heap.size := (by omega)) | (go_at_call 57; refine (v1_any _ _).mono ?_; rintro e w3 ⟨rfl, rfl⟩))
 all_goals go_wp2
 all_goals go_ret
 all_goals exact ⟨rfl, bw⟩
set_option maxRecDepth 100000 in
theorem v5_any (X B : Nat) (p : PV) (t : Ins) (w : World) (ht : t.ok) (hS : IsS 10 Fx.enc w p.rt p.ct p.types) (hX : X < w.heap.size) (hBs : B < w.heap.size) (hc : w.cell? ⟨X, 0, none⟩ = some (.func (.func 57) #[] #[]))
  (q0 : w.cell? ⟨B, 0, none⟩ = some (.slice p.rc p.code.length p.cc)) (q1 : w.cell? ⟨B, 1, none⟩ = some (.slice p.rt p.types.length p.ct)) (q2 : w.cell? ⟨B, 2, none⟩ = some (.slice p.rv p.curves.length p.cv)) (q3 : w.cell? ⟨B, 3, none⟩ = some (.slice p.rm p.maps.length p.cm)) (q4 : w.cell? ⟨B, 4, none⟩ = some (.int .i64 p.cells))
  (q5 : w.cell? ⟨B, 5, none⟩ = some (.slice p.ri p.inputs.length p.ci)) (q6 : w.cell? ⟨B, 6, none⟩ = some (.slice p.rs p.states.length p.cs)) (q7 : w.cell? ⟨B, 7, none⟩ = some (.slice p.ro p.outputs.length p.co)) (q8 : w.cell? ⟨B, 8, none⟩ = some (.slice p.rn p.initial.length p.cn)) :
  Calls Try.prog 66 #[.agg #[.int .i64 t.op, .int .i64 t.a, .int .i64 t.b, .int .i64 t.c, .int .i64 t.k], .pointer (some ⟨X, 0, none⟩), .pointer (some ⟨B, 0, none⟩)] w fun e w' => e = .returned (.bool (!fitB p.cells p.curves.length p.maps.length p.types t)) ∧ Below w.heap.size w w' := by
 obtain ⟨rc, cc, code, rt, ct, types, rv, cv, curves, rm, cm, maps, cells, ri, ci, inputs, rs, cs, states, ro, co, outputs, rn, cn, initial⟩ := p
 obtain ⟨op, a, b, c, k⟩ := t
 simp only at hS q0 q1 q2 q3 q4 q5 q6 q7 q8 ⊢
 have hk : I64 k := ht.2.2.2.2
 have HV := H! (fun W (h : Below w.heap.size w W) => fits_any rc code.length cc rt ct types rv curves.length cv rm maps.length cm cells ri inputs.length ci rs states.length cs ro outputs.length co rn initial.length cn op a b c k hk W (hS.later h))
 clear hS ht hk
 generalize fitB cells curves.length maps.length types ⟨op, a, b, c, k⟩ = R at *
 have hX1 : X < w.heap.size + 1 := by omega
 have hB1 : B < w.heap.size + 1 := by omega
 go_enter Try.func66, Try.ntmps66
 go_wp2
 go_region_with (first | (go_at_call 67; refine (HV.out _ bw).mono ?_; rintro e w2 ⟨rfl, hb2⟩; obtain ⟨hb2c, hb2f⟩ := bcell hb2; have hb2s := hb2.size; (try simp only [zA, World.size_drew] at hb2s); have hx2 : X < w2.heap.size := (by omega)) | (go_at_call 57; refine (v1_any _ _).mono ?_; rintro e w3 ⟨rfl, rfl⟩))
 all_goals go_wp2
 all_goals go_ret
 all_goals exact ⟨rfl, bw⟩
def badC (cells c : Int) : Bool := decide (c < 0 ∨ cells ≤ c)
def badN (n : Int) : Bool := decide (n < -1099511627776 ∨ 1099511627776 < n)
set_option maxRecDepth 100000 in
theorem v6_any (B : Nat) (c cells : Int) (w : World) (q4 : w.cell? ⟨B, 4, none⟩ = some (.int .i64 cells)) : Calls Try.prog 69 #[.int .i64 c, .pointer (some ⟨B, 0, none⟩)] w fun e w' => e = .returned (.bool (badC cells c)) ∧ Below w.heap.size w w' := by
 by_cases h0 : c < 0
 ·
  have H : Hid (badC cells c = true) := H! (by unfold badC; simp [h0])
  go_enter Try.func69, Try.ntmps69
  go_wp2
  go_ret
  exact ⟨by rw [H.out]; simp [h0], Below.refl _ _⟩
 ·
  by_cases h1 : cells ≤ c
  ·
   have H : Hid (badC cells c = true) := H! (by unfold badC; simp [h1])
   go_enter Try.func69, Try.ntmps69
   go_wp2
   go_ret
   exact ⟨by rw [H.out]; simp [h0, h1], Below.refl _ _⟩
  ·
   have H : Hid (badC cells c = false) := H! (by unfold badC; simp [h0, h1])
   go_enter Try.func69, Try.ntmps69
   go_wp2
   go_ret
   exact ⟨by rw [H.out]; simp [h0, h1], Below.refl _ _⟩
set_option maxRecDepth 100000 in
theorem v7_any (n : Int) (w : World) : Calls Try.prog 71 #[.int .i64 n] w fun e w' => e = .returned (.bool (badN n)) ∧ Below w.heap.size w w' := by
 by_cases h0 : n < -1099511627776
 ·
  have H : Hid (badN n = true) := H! (by unfold badN; simp [h0])
  go_enter Try.func71, Try.ntmps71
  go_wp2
  go_ret
  exact ⟨by rw [H.out]; simp [h0], Below.refl _ _⟩
 ·
  by_cases h1 : 1099511627776 < n
  ·
   have H : Hid (badN n = true) := H! (by unfold badN; simp [h1])
   go_enter Try.func71, Try.ntmps71
   go_wp2
   go_ret
   exact ⟨by rw [H.out]; simp [h0, h1], Below.refl _ _⟩
  ·
   have H : Hid (badN n = false) := H! (by unfold badN; simp [h0, h1])
   go_enter Try.func71, Try.ntmps71
   go_wp2
   go_ret
   exact ⟨by rw [H.out]; simp [h0, h1], Below.refl _ _⟩
end Go.Proofs.Ytfooefiaenlhmaa
