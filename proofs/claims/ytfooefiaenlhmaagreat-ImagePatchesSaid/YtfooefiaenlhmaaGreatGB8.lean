/- Lemmas for the laws of package magnetolaw15: what its functions return, for any arguments that the lemmas name. -/
import Derived.Test.YtfooefiaenlhmaaGreatGB1
import Derived.Test.YtfooefiaenlhmaaGreatGB6
import Derived.Test.YtfooefiaenlhmaaGreatGB7
import Derived.StillTailTactics
set_option maxRecDepth 100000
namespace Go.Proofs.YtfooefiaenlhmaaGreat
set_option linter.all false
set_option maxHeartbeats 16000000
open Go.RowKit Go.ChangeShapes Go.WideShapes Go.ChangeAt
def ynx (n : Nat) (Z : List (List Int)) : Prop := ∀ t, t < Z.length → (Z.getD t []).length = n ∧ (Z.getD t []).any farB = false
def yir (X Y : List Int) (Z : List (List Int)) : Prop := yce X ∧ yce Y ∧ Z.length = X.length ∧ ynx Y.length Z
open Classical in
noncomputable def mapB (X Y : List Int) (Z : List (List Int)) : Bool := decide (yir X Y Z)
theorem yje {X Y : List Int} {Z : List (List Int)} : mapB X Y Z = true ↔ yir X Y Z := by simp [mapB]
theorem ybw {X Y : List Int} {Z : List (List Int)} : mapB X Y Z = false ↔ ¬ yir X Y Z := by simp [mapB]
theorem ydc (x : Int) (w : World) : Calls Tryz.prog 104 #[.int .i64 x] w fun e w' => e = .returned (.bool (!farB x)) ∧ w = w' := by
 go_enter Tryz.func104, Tryz.ntmps104
 go_wp2
 all_goals go_ret
 all_goals exact ⟨yal (by grind [farB]), rfl⟩
theorem yin (x : Int) (w : World) : Calls Tryz.prog 103 #[.int .i64 x] w fun e w' => e = .returned (.bool (farB x)) ∧ w = w' := by
 go_enter Tryz.func103, Tryz.ntmps103
 go_wp2_with ((go_at_call 104; refine (ydc _ _).mono ?_; rintro e w' ⟨rfl, rfl⟩))
 go_ret
 exact ⟨by simp, rfl⟩
theorem ykp (r : Option Addr) (cap : Nat) (xs : List Int) (w : World) (hxs : IsInts w r cap .i64 xs) :
  Calls Tryz.prog 59 #[.slice r xs.length cap, .func (.func 103) #[] #[]] w fun e w' => e = .returned (.bool (xs.any farB)) ∧ Below w.heap.size w w' :=
 ybv 103 #[] r cap xs farB w (enters_of Tryz.func103 (by kernel_rfl) rfl) hxs (fun e x _ => yhx (yin x e.w))
theorem yez (r : Option Addr) (cap : Nat) (xs : List Int) (w : World) (hxs : IsInts w r cap .i64 xs) :
  Calls Tryz.prog 102 #[.slice r xs.length cap] w fun e w' => e = .returned (.bool (ydi xs)) ∧ Below w.heap.size w w' := by
 by_cases h2 : xs.length < 2
 ·
  have H := H! (yao.2 (fun h : yce xs => by have := h.1; omega))
  have h2' : (xs.length : Int) < 2 := by omega
  clear hxs h2
  go_enter Tryz.func102, Tryz.ntmps102
  go_wp2
  go_ret
  exact ⟨by rw [H.out]; first | done | rfl, bw⟩
 ·
  by_cases h3 : 32 < xs.length
  ·
   have H := H! (yao.2 (fun h : yce xs => by have := h.2.1; omega))
   have h2' : ¬ (xs.length : Int) < 2 := by omega
   have h3' : (32 : Int) < xs.length := by omega
   clear hxs h2 h3
   go_enter Tryz.func102, Tryz.ntmps102
   go_wp2
   go_ret
   exact ⟨by rw [H.out]; first | done | rfl, bw⟩
  ·
   have h2' : ¬ (xs.length : Int) < 2 := by omega
   have h3' : ¬ (32 : Int) < xs.length := by omega
   obtain ⟨bX, off, rfl, hb, hc⟩ := hxs.cells (fun e => by subst e; simp at h2)
   have HC := H! hc
   have HAX : Hid ((∀ t, t < xs.length → farB (xs.getD t 0) = false) → (∀ t, t + 1 < xs.length → xs.getD t 0 < xs.getD (t + 1) 0) → yce xs) := H! (fun g h => ⟨by omega, by omega, yhf g, h⟩)
   clear hc hxs
   generalize hn : xs.length = n at *
   have HN := H! hn
   clear hn
   go_enter Tryz.func102, Tryz.ntmps102
   go_wp2
   go_loopg [15] n (fun kx s15 wr => ∃ (k : Nat) (e : Later w), s15 = .int .i64 k ∧ k ≤ n ∧ n - k ≤ kx ∧ wr = e.w ∧ Hid (∀ t, t < k → farB (xs.getD t 0) = false) ∧ Hid (∀ t, t + 1 < k → xs.getD t 0 < xs.getD (t + 1) 0))
   case atStart => exact ⟨0, ⟨w, Below.refl _ _⟩, rfl, by omega, by omega, rfl, H! (fun t h => absurd h (Nat.not_lt_zero _)), H! (fun t h => absurd h (Nat.not_lt_zero _))⟩
   case round =>
    obtain ⟨k, e, rfl, hk, hkx, rfl, HP, HQ⟩ := hrel
    have hes := e.h.size
    have hbe : bX < e.w.heap.size := by omega
    by_cases hlt : k < n
    ·
     have hk1 : (0 : Int) ≤ (k : Int) := by omega
     have hk2 : (k : Int) < n := by omega
     have hc1 : e.w.cell? ⟨bX, off + k, none⟩ = some (.int .i64 (xs.getD k 0)) := by
      rw [Later.cell e hb]
      exact HC.out k (by have := HN.out; omega)
     have HF : Hid (farB (xs.getD k 0) = true → ydi xs = false) := H! (fun h => yao.2 (fun hh => by have := yhe (show k < xs.length by have := HN.out; omega) h; rw [hh.2.2.1] at this; cases this))
     cases hf : farB (xs.getD k 0) with
     | true =>
      have H := H! (HF.out hf)
      clear HF
      generalize xs.getD k 0 = x at hc1 hf
      go_wp2_with ((go_at_call 104; refine (ydc _ _).mono ?_; rintro e w' ⟨rfl, rfl⟩))
      go_ret
      exact ⟨by rw [H.out]; first | done | rfl, e.h⟩
     | false =>
      have HFK := H! hf
      clear HF
      by_cases hk0 : k = 0
      ·
       have hkd : decide ((0 : Int) < (k : Int)) = false := by simp; omega
       have hkd2 : decide (0 < k) = false := by simp; omega
       have HK := H! hk0
       clear hk0
       generalize hx : xs.getD k 0 = x at hc1 hf
       have HX := H! hx
       clear hx
       go_wp2_with ((go_at_call 104; refine (ydc _ _).mono ?_; rintro e w' ⟨rfl, rfl⟩))
       go_roundg (n - (k + 1))
       case measure => omega
       case rel =>
        have hkk := HK.out
        refine ⟨k + 1, e, by go_num, by omega, Nat.le_refl _, rfl, H! (fun t ht => ?_), H! (fun t ht => by omega)⟩
        obtain rfl : t = k := by omega
        exact HFK.out
      ·
       have hk3 : (0 : Int) < (k : Int) := by omega
       have hk6 : 0 < k := by omega
       have hw1 : IntKind.i64.wrap ((k : Int) - 1) = (k : Int) - 1 := IntWalk.i64_in _ (by omega)
       have hk4 : (0 : Int) ≤ (k : Int) - 1 := by omega
       have hk5 : (k : Int) - 1 < n := by omega
       have hc2 : e.w.cell? ⟨bX, off + (k - 1), none⟩ = some (.int .i64 (xs.getD (k - 1) 0)) := by
        rw [Later.cell e hb]
        exact HC.out (k - 1) (by have := HN.out; omega)
       have HV : Hid (∀ x y, xs.getD k 0 = x → xs.getD (k - 1) 0 = y → x ≤ y → ydi xs = false) := H! (fun x y h1 h2 h => yao.2 (fun hh => by
        have := hh.2.2.2 (k - 1) (by have := HN.out; omega)
        rw [show k - 1 + 1 = k by omega, h1, h2] at this
        omega))
       generalize hx : xs.getD k 0 = x at hc1 hf
       generalize hy : xs.getD (k - 1) 0 = y at hc2
       have HXY := H! (And.intro hx hy)
       clear hx hy
       by_cases hxy : x ≤ y
       ·
        have H := H! (HV.out x y HXY.out.1 HXY.out.2 hxy)
        go_wp2_with ((go_at_call 104; refine (ydc _ _).mono ?_; rintro e w' ⟨rfl, rfl⟩))
        go_ret
        exact ⟨by rw [H.out]; first | done | rfl, e.h⟩
       ·
        have hxy2 : y < x := by omega
        have HLT := H! hxy2
        go_wp2_with ((go_at_call 104; refine (ydc _ _).mono ?_; rintro e w' ⟨rfl, rfl⟩))
        go_roundg (n - (k + 1))
        case measure => omega
        case rel =>
         refine ⟨k + 1, e, by go_num, by omega, Nat.le_refl _, rfl, H! (fun t ht => ?_), H! (fun t ht => ?_)⟩
         ·
          by_cases h : t < k
          ·
           exact HP.out t h
          ·
           obtain rfl : t = k := by omega
           exact HFK.out
         ·
          by_cases h : t + 1 < k
          ·
           exact HQ.out t h
          ·
           obtain rfl : t = k - 1 := by omega
           rw [show k - 1 + 1 = k by omega, HXY.out.1, HXY.out.2]
           exact HLT.out
    ·
     obtain rfl : k = n := by omega
     go_wp2
     go_ret
     refine ⟨yal ?_, e.h⟩
     exact (ybd.2 (HAX.out HP.out HQ.out)).symm
theorem yld (rX rY rZ : Option Addr) (cX cY cZ : Nat) (X Y : List Int) (Z : List (List Int)) (w : World) (hX : IsInts w rX cX .i64 X) (hY : IsInts w rY cY .i64 Y) (hZ : IsRows w rZ cZ Z) :
  Calls Tryz.prog 55 #[.agg #[.slice rX X.length cX, .slice rY Y.length cY, .slice rZ Z.length cZ]] w fun e w' => e = .returned (.bool (mapB X Y Z)) ∧ Below w.heap.size w w' := by
 have HX : Hid (∀ w', Below w.heap.size w w' → IsInts w' rX cX .i64 X) := H! (fun _ h => hX.later h)
 have HY : Hid (∀ w', Below w.heap.size w w' → IsInts w' rY cY .i64 Y) := H! (fun _ h => hY.later h)
 have HZ : Hid (∀ w', Below w.heap.size w w' → IsRows w' rZ cZ Z) := H! (fun _ h => hZ.later h)
 have hmax := hZ.max
 have hle := hZ.le
 unfold maxLen at hmax
 cases ax : ydi X with
 | false =>
  have H := H! (ybw.2 (fun h : yir X Y Z => yao.1 ax h.1))
  clear hX hY hZ
  go_enter Tryz.func55, Tryz.ntmps55
  go_wp2_with ((go_at_call 102; refine (yez _ _ X _ (HX.out _ bw)).mono ?_; rintro e hb1w ⟨rfl, hb1⟩; obtain ⟨hb1c, hb1f⟩ := yah hb1; have hb1s := hb1.size; (try simp only [zA] at hb1s); (try (have : w.heap.size < hb1w.heap.size := by omega)); (try (have : w.heap.size + 1 < hb1w.heap.size := by omega)); (try (have : w.heap.size + 1 + 1 < hb1w.heap.size := by omega)); (try (have : w.heap.size + 1 + 1 + 1 < hb1w.heap.size := by omega)); (try (have : bX < hb1w.heap.size := by omega)); (try (have : bY < hb1w.heap.size := by omega)); (try (have : bZ < hb1w.heap.size := by omega))))
  go_ret
  exact ⟨by rw [H.out]; first | done | rfl, bw⟩
 | true =>
  cases ay : ydi Y with
  | false =>
   have H := H! (ybw.2 (fun h : yir X Y Z => yao.1 ay h.2.1))
   clear hX hY hZ
   go_enter Tryz.func55, Tryz.ntmps55
   go_wp2_with ((go_at_call 102; refine (yez _ _ _ _ (by first | exact HX.out _ bw | exact HY.out _ bw)).mono ?_; rintro e hb1w ⟨rfl, hb1⟩; obtain ⟨hb1c, hb1f⟩ := yah hb1; have hb1s := hb1.size; (try simp only [zA] at hb1s); (try (have : w.heap.size < hb1w.heap.size := by omega)); (try (have : w.heap.size + 1 < hb1w.heap.size := by omega)); (try (have : w.heap.size + 1 + 1 < hb1w.heap.size := by omega)); (try (have : w.heap.size + 1 + 1 + 1 < hb1w.heap.size := by omega)); (try (have : bX < hb1w.heap.size := by omega)); (try (have : bY < hb1w.heap.size := by omega)); (try (have : bZ < hb1w.heap.size := by omega))))
   go_ret
   exact ⟨by rw [H.out]; first | done | rfl, bw⟩
  | true =>
   by_cases hl : Z.length = X.length
   ·
    have hl' : ((Z.length : Int) == (X.length : Int)) = true := by simp [hl]
    have hl2 : (Z.length : Int) = (X.length : Int) := by omega
    have h2 := (ybd.1 ax).1
    obtain ⟨bZ, oZ, rfl, hbZ, hcZ⟩ := hZ.cells (fun e => by rw [e] at hl; simp at hl; omega)
    have HC := H! hcZ
    have HT : Hid (ynx Y.length Z → mapB X Y Z = true) := H! (fun h => yje.2 ⟨ybd.1 ax, ybd.1 ay, hl, h⟩)
    have HF : Hid (∀ t, t < Z.length → ¬ ((Z.getD t []).length = Y.length ∧ (Z.getD t []).any farB = false) → mapB X Y Z = false) := H! (fun t ht h => ybw.2 (fun hh => h (hh.2.2.2 t ht)))
    clear hX hY hZ hcZ
    generalize hn : Z.length = n at *
    have HN := H! hn
    clear hn
    go_enter Tryz.func55, Tryz.ntmps55
    go_wp2_with ((go_at_call 102; refine (yez _ _ _ _ (by first | exact HX.out _ bw | exact HY.out _ bw)).mono ?_; rintro e hb1w ⟨rfl, hb1⟩; obtain ⟨hb1c, hb1f⟩ := yah hb1; have hb1s := hb1.size; (try simp only [zA] at hb1s); (try (have : w.heap.size < hb1w.heap.size := by omega)); (try (have : w.heap.size + 1 < hb1w.heap.size := by omega)); (try (have : w.heap.size + 1 + 1 < hb1w.heap.size := by omega)); (try (have : w.heap.size + 1 + 1 + 1 < hb1w.heap.size := by omega)); (try (have : bX < hb1w.heap.size := by omega)); (try (have : bY < hb1w.heap.size := by omega)); (try (have : bZ < hb1w.heap.size := by omega))))
    go_loopg [27] n (fun kx s27 wr => ∃ (k : Nat) (e : Later hb1w), s27 = .int .i64 k ∧ k ≤ n ∧ n - k ≤ kx ∧ wr = e.w ∧ Hid (∀ t, t < k → (Z.getD t []).length = Y.length ∧ (Z.getD t []).any farB = false))
    case atStart => exact ⟨0, ⟨_, Below.refl _ _⟩, rfl, by omega, by omega, rfl, H! (fun t h => absurd h (Nat.not_lt_zero _))⟩
    case round =>
     obtain ⟨k, e, rfl, hk, hkx, rfl, HP⟩ := hrel
     have hes := e.h.size
     have hbo : w.heap.size < e.w.heap.size := by omega
     by_cases hlt : k < n
     ·
      have hbw : Below w.heap.size w e.w := bw
      have hkZ : k < Z.length := by have := HN.out; omega
      obtain ⟨ri, ci, g1, g2⟩ := HC.out k (by omega)
      have hc1 : e.w.cell? ⟨bZ, oZ + k, none⟩ = some (.slice ri (Z.getD k []).length ci) := by
       rw [hbw.cell (p := ⟨bZ, oZ + k, none⟩) hbZ]; exact g1
      have HR : Hid (∀ w', Below w.heap.size w w' → IsInts w' ri ci .i64 (Z.getD k [])) := H! (fun _ h => g2.later h)
      have hk1 : (0 : Int) ≤ (k : Int) := by omega
      have hk2 : (k : Int) < n := by omega
      have HB := H! (HF.out k hlt)
      have HG : Hid ((Z.getD k []).length = Y.length ∧ (Z.getD k []).any farB = false → ∀ t, t < k + 1 → (Z.getD t []).length = Y.length ∧ (Z.getD t []).any farB = false) := H! (fun h t ht => by
       by_cases e : t = k
       ·
        subst e; exact h
       ·
        exact HP.out t (by omega))
      clear g1 g2 hbw
      generalize Z.getD k [] = row at *
      by_cases hrl : row.length = Y.length
      ·
       have hr' : ((row.length : Int) == (Y.length : Int)) = true := by simp [hrl]
       have hr2 : (row.length : Int) = (Y.length : Int) := by omega
       cases hf : row.any farB with
       | true =>
        have H := H! (HB.out (fun h => by rw [hf] at h; cases h.2))
        clear hrl
        go_wp2_with ((go_at_call 59; refine (ykp _ _ _ _ (HR.out _ bw)).mono ?_; rintro e hb3w ⟨rfl, hb3⟩; obtain ⟨hb3c, hb3f⟩ := yah hb3; have hb3s := hb3.size; (try simp only [zA] at hb3s); (try (have : w.heap.size < hb3w.heap.size := by omega)); (try (have : w.heap.size + 1 < hb3w.heap.size := by omega)); (try (have : w.heap.size + 1 + 1 < hb3w.heap.size := by omega)); (try (have : w.heap.size + 1 + 1 + 1 < hb3w.heap.size := by omega)); (try (have : bX < hb3w.heap.size := by omega)); (try (have : bY < hb3w.heap.size := by omega)); (try (have : bZ < hb3w.heap.size := by omega))))
        go_ret
        exact ⟨by rw [H.out]; first | done | rfl, bw⟩
       | false =>
        have HG2 := H! (HG.out ⟨hrl, hf⟩)
        clear hrl
        go_wp2_with ((go_at_call 59; refine (ykp _ _ _ _ (HR.out _ bw)).mono ?_; rintro e hb3w ⟨rfl, hb3⟩; obtain ⟨hb3c, hb3f⟩ := yah hb3; have hb3s := hb3.size; (try simp only [zA] at hb3s); (try (have : w.heap.size < hb3w.heap.size := by omega)); (try (have : w.heap.size + 1 < hb3w.heap.size := by omega)); (try (have : w.heap.size + 1 + 1 < hb3w.heap.size := by omega)); (try (have : w.heap.size + 1 + 1 + 1 < hb3w.heap.size := by omega)); (try (have : bX < hb3w.heap.size := by omega)); (try (have : bY < hb3w.heap.size := by omega)); (try (have : bZ < hb3w.heap.size := by omega))))
        go_roundg (n - (k + 1))
        case measure => omega
        case rel => exact ⟨k + 1, ⟨hb3w, bw⟩, by go_num, by omega, by omega, rfl, HG2⟩
      ·
       have hr' : ((row.length : Int) == (Y.length : Int)) = false := by simp; omega
       have hr2 : ¬ (row.length : Int) = (Y.length : Int) := by omega
       have H := H! (HB.out (fun h => hrl h.1))
       clear hrl
       go_wp2
       go_ret
       exact ⟨by rw [H.out]; first | done | rfl, bw⟩
     ·
      obtain rfl : k = n := by omega
      have H := H! (HT.out (fun t ht => HP.out t (by have := HN.out; omega)))
      go_wp2
      go_ret
      exact ⟨by rw [H.out]; first | done | rfl, bw⟩
   ·
    have hl' : ((Z.length : Int) == (X.length : Int)) = false := by simp; omega
    have hl2 : ¬ (Z.length : Int) = (X.length : Int) := by omega
    have H := H! (ybw.2 (fun h : yir X Y Z => hl h.2.2.1))
    clear hX hY hZ hl
    go_enter Tryz.func55, Tryz.ntmps55
    go_wp2_with ((go_at_call 102; refine (yez _ _ _ _ (by first | exact HX.out _ bw | exact HY.out _ bw)).mono ?_; rintro e hb1w ⟨rfl, hb1⟩; obtain ⟨hb1c, hb1f⟩ := yah hb1; have hb1s := hb1.size; (try simp only [zA] at hb1s); (try (have : w.heap.size < hb1w.heap.size := by omega)); (try (have : w.heap.size + 1 < hb1w.heap.size := by omega)); (try (have : w.heap.size + 1 + 1 < hb1w.heap.size := by omega)); (try (have : w.heap.size + 1 + 1 + 1 < hb1w.heap.size := by omega)); (try (have : bX < hb1w.heap.size := by omega)); (try (have : bY < hb1w.heap.size := by omega)); (try (have : bZ < hb1w.heap.size := by omega))))
    go_ret
    exact ⟨by rw [H.out]; first | done | rfl, bw⟩
theorem ykk (b : Bool) (w : World) : Calls Tryz.prog 48 #[.bool b] w fun e w' => e = .returned (.bool (!b)) ∧ w' = w := by
 go_enter Tryz.func48, Tryz.ntmps48
 go_wp2
 go_ret
 exact ⟨rfl, rfl⟩
theorem v2_any (X : Nat) (t : Fx) (w : World) (hX : X < w.heap.size) (hc : w.cell? ⟨X, 0, none⟩ = some (.func (.func 48) #[] #[])) : Calls Tryz.prog 50 #[.agg #[.int .i64 t.bits, .bool t.sg, .int .i64 t.num, .int .i64 t.off, .int .i64 t.den, .int .i64 t.m, .int .i64 t.kg, .int .i64 t.s, .int .i64 t.a, .int .i64 t.k], .pointer (some ⟨X, 0, none⟩)] w fun e w' => e = .returned (.bool (!fxB t)) ∧ Below w.heap.size w w' := by
 obtain ⟨x0, x1, x2, x3, x4, x5, x6, x7, x8, x9⟩ := t
 have HV := H! (fun W => ylr ⟨x0, x1, x2, x3, x4, x5, x6, x7, x8, x9⟩ W)
 generalize fxB ⟨x0, x1, x2, x3, x4, x5, x6, x7, x8, x9⟩ = R at *
 simp only at HV ⊢
 have hX1 : X < w.heap.size + 1 := by omega
 go_enter Tryz.func50, Tryz.ntmps50
 go_wp2
 go_region_with (first | (go_at_call 51; refine (HV.out _).mono ?_; rintro e w2 ⟨rfl, hb2⟩; obtain ⟨hb2c, hb2f⟩ := yah hb2; have hb2s := hb2.size; (try simp only [zA, World.size_drew] at hb2s); have hx2 : X < w2.heap.size := (by omega)) | (go_at_call 48; refine (ykk _ _).mono ?_; rintro e w3 ⟨rfl, rfl⟩))
 all_goals go_wp2
 all_goals go_ret
 all_goals exact ⟨rfl, bw⟩
noncomputable def cvB (c : Cv) : Bool := ycg c.X c.Y
noncomputable def mpB (m : Mp) : Bool := mapB m.X m.Y m.Z
theorem v3_any (X : Nat) (t : Cv) (w : World) (ht : t.ok w) (hX : X < w.heap.size) (hc : w.cell? ⟨X, 0, none⟩ = some (.func (.func 48) #[] #[])) : Calls Tryz.prog 52 #[.agg #[.slice t.rx t.X.length t.cx, .slice t.ry t.Y.length t.cy], .pointer (some ⟨X, 0, none⟩)] w fun e w' => e = .returned (.bool (!cvB t)) ∧ Below w.heap.size w w' := by
 obtain ⟨rx, cx, A, ry, cy, B⟩ := t
 obtain ⟨hA, hB⟩ := ht
 simp only at hA hB
 have HV := H! (fun W (h : Below w.heap.size w W) => yhi rx ry cx cy A B W (hA.later h) (hB.later h))
 have HR : cvB ⟨rx, cx, A, ry, cy, B⟩ = ycg A B := rfl
 rw [HR]
 clear hA hB HR
 generalize ycg A B = R at *
 simp only at HV ⊢
 have hX1 : X < w.heap.size + 1 := by omega
 go_enter Tryz.func52, Tryz.ntmps52
 go_wp2
 go_region_with (first | (go_at_call 53; refine (HV.out _ bw).mono ?_; rintro e w2 ⟨rfl, hb2⟩; obtain ⟨hb2c, hb2f⟩ := yah hb2; have hb2s := hb2.size; (try simp only [zA, World.size_drew] at hb2s); have hx2 : X < w2.heap.size := (by omega)) | (go_at_call 48; refine (ykk _ _).mono ?_; rintro e w3 ⟨rfl, rfl⟩))
 all_goals go_wp2
 all_goals go_ret
 all_goals exact ⟨rfl, bw⟩
theorem v4_any (X : Nat) (t : Mp) (w : World) (ht : t.ok w) (hX : X < w.heap.size) (hc : w.cell? ⟨X, 0, none⟩ = some (.func (.func 48) #[] #[])) : Calls Tryz.prog 54 #[.agg #[.slice t.rx t.X.length t.cx, .slice t.ry t.Y.length t.cy, .slice t.rz t.Z.length t.cz], .pointer (some ⟨X, 0, none⟩)] w fun e w' => e = .returned (.bool (!mpB t)) ∧ Below w.heap.size w w' := by
 obtain ⟨rx, cx, A, ry, cy, B, rz, cz, Z⟩ := t
 obtain ⟨hA, hB, hZ⟩ := ht
 simp only at hA hB hZ
 have HV := H! (fun W (h : Below w.heap.size w W) => yld rx ry rz cx cy cz A B Z W (hA.later h) (hB.later h) (hZ.later h))
 have HR : mpB ⟨rx, cx, A, ry, cy, B, rz, cz, Z⟩ = mapB A B Z := rfl
 rw [HR]
 clear hA hB hZ HR
 generalize mapB A B Z = R at *
 simp only at HV ⊢
 have hX1 : X < w.heap.size + 1 := by omega
 go_enter Tryz.func54, Tryz.ntmps54
 go_wp2
 go_region_with (first | (go_at_call 55; refine (HV.out _ bw).mono ?_; rintro e w2 ⟨rfl, hb2⟩; obtain ⟨hb2c, hb2f⟩ := yah hb2; have hb2s := hb2.size; (try simp only [zA, World.size_drew] at hb2s); have hx2 : X < w2.heap.size := (by omega)) | (go_at_call 48; refine (ykk _ _).mono ?_; rintro e w3 ⟨rfl, rfl⟩))
 all_goals go_wp2
 all_goals go_ret
 all_goals exact ⟨rfl, bw⟩
theorem v5_any (X B : Nat) (p : PV) (t : Ins) (w : World) (ht : t.ok) (hS : IsS 10 Fx.enc w p.rt p.ct p.tY) (hX : X < w.heap.size) (hBs : B < w.heap.size) (hc : w.cell? ⟨X, 0, none⟩ = some (.func (.func 48) #[] #[]))
  (q0 : w.cell? ⟨B, 0, none⟩ = some (.slice p.rc p.xY.length p.cc)) (q1 : w.cell? ⟨B, 1, none⟩ = some (.slice p.rt p.tY.length p.ct)) (q2 : w.cell? ⟨B, 2, none⟩ = some (.slice p.rv p.zY.length p.cv)) (q3 : w.cell? ⟨B, 3, none⟩ = some (.slice p.rm p.mY.length p.cm)) (q4 : w.cell? ⟨B, 4, none⟩ = some (.int .i64 p.cells))
  (q5 : w.cell? ⟨B, 5, none⟩ = some (.slice p.ri p.qY.length p.ci)) (q6 : w.cell? ⟨B, 6, none⟩ = some (.slice p.rs p.sY.length p.cs)) (q7 : w.cell? ⟨B, 7, none⟩ = some (.slice p.ro p.oY.length p.co)) (q8 : w.cell? ⟨B, 8, none⟩ = some (.slice p.rn p.iY.length p.cn)) :
  Calls Tryz.prog 57 #[.agg #[.int .i64 t.op, .int .i64 t.a, .int .i64 t.b, .int .i64 t.c, .int .i64 t.k], .pointer (some ⟨X, 0, none⟩), .pointer (some ⟨B, 0, none⟩)] w fun e w' => e = .returned (.bool (!fitB p.cells p.zY.length p.mY.length p.tY t)) ∧ Below w.heap.size w w' := by
 obtain ⟨rc, cc, xY, rt, ct, tY, rv, cv, zY, rm, cm, mY, cells, ri, ci, qY, rs, cs, sY, ro, co, oY, rn, cn, iY⟩ := p
 obtain ⟨op, a, b, c, k⟩ := t
 simp only at hS q0 q1 q2 q3 q4 q5 q6 q7 q8 ⊢
 have hk : I64 k := ht.2.2.2.2
 have HV := H! (fun W (h : Below w.heap.size w W) => fits_any rc xY.length cc rt ct tY rv zY.length cv rm mY.length cm cells ri qY.length ci rs sY.length cs ro oY.length co rn iY.length cn op a b c k hk W (hS.later h))
 clear hS ht hk
 generalize fitB cells zY.length mY.length tY ⟨op, a, b, c, k⟩ = R at *
 have hX1 : X < w.heap.size + 1 := by omega
 have hB1 : B < w.heap.size + 1 := by omega
 go_enter Tryz.func57, Tryz.ntmps57
 go_wp2
 go_region_with (first | (go_at_call 58; refine (HV.out _ bw).mono ?_; rintro e w2 ⟨rfl, hb2⟩; obtain ⟨hb2c, hb2f⟩ := yah hb2; have hb2s := hb2.size; (try simp only [zA, World.size_drew] at hb2s); have hx2 : X < w2.heap.size := (by omega)) | (go_at_call 48; refine (ykk _ _).mono ?_; rintro e w3 ⟨rfl, rfl⟩))
 all_goals go_wp2
 all_goals go_ret
 all_goals exact ⟨rfl, bw⟩
def badC (cells c : Int) : Bool := decide (c < 0 ∨ cells ≤ c)
def badN (n : Int) : Bool := decide (n < -1099511627776 ∨ 1099511627776 < n)
theorem v6_any (B : Nat) (c cells : Int) (w : World) (q4 : w.cell? ⟨B, 4, none⟩ = some (.int .i64 cells)) : Calls Tryz.prog 60 #[.int .i64 c, .pointer (some ⟨B, 0, none⟩)] w fun e w' => e = .returned (.bool (badC cells c)) ∧ Below w.heap.size w w' := by
 by_cases h0 : c < 0
 ·
  have H : Hid (badC cells c = true) := H! (by unfold badC; simp [h0])
  go_enter Tryz.func60, Tryz.ntmps60
  go_wp2
  go_ret
  exact ⟨by rw [H.out]; simp [h0], Below.refl _ _⟩
 ·
  by_cases h1 : cells ≤ c
  ·
   have H : Hid (badC cells c = true) := H! (by unfold badC; simp [h1])
   go_enter Tryz.func60, Tryz.ntmps60
   go_wp2
   go_ret
   exact ⟨by rw [H.out]; simp [h0, h1], Below.refl _ _⟩
  ·
   have H : Hid (badC cells c = false) := H! (by unfold badC; simp [h0, h1])
   go_enter Tryz.func60, Tryz.ntmps60
   go_wp2
   go_ret
   exact ⟨by rw [H.out]; simp [h0, h1], Below.refl _ _⟩
theorem v7_any (n : Int) (w : World) : Calls Tryz.prog 62 #[.int .i64 n] w fun e w' => e = .returned (.bool (badN n)) ∧ Below w.heap.size w w' := by
 by_cases h0 : n < -1099511627776
 ·
  have H : Hid (badN n = true) := H! (by unfold badN; simp [h0])
  go_enter Tryz.func62, Tryz.ntmps62
  go_wp2
  go_ret
  exact ⟨by rw [H.out]; simp [h0], Below.refl _ _⟩
 ·
  by_cases h1 : 1099511627776 < n
  ·
   have H : Hid (badN n = true) := H! (by unfold badN; simp [h1])
   go_enter Tryz.func62, Tryz.ntmps62
   go_wp2
   go_ret
   exact ⟨by rw [H.out]; simp [h0, h1], Below.refl _ _⟩
  ·
   have H : Hid (badN n = false) := H! (by unfold badN; simp [h0, h1])
   go_enter Tryz.func62, Tryz.ntmps62
   go_wp2
   go_ret
   exact ⟨by rw [H.out]; simp [h0, h1], Below.refl _ _⟩
def inL (cells : Int) (l : List Int) : Bool := decide (l.length ≤ 1000) && !(l.any (badC cells))
def szP (p : PV) : Prop := p.xY.length ≤ 4000 ∧ p.tY.length ≤ 100 ∧ p.zY.length ≤ 100 ∧ p.mY.length ≤ 100 ∧ 0 ≤ p.cells ∧ p.cells ≤ 1000 ∧ p.iY.length = p.sY.length
instance (p : PV) : Decidable (szP p) := by unfold szP; infer_instance
noncomputable def yas (p : PV) : Bool :=
 decide (szP p) && (!(p.tY.any fun t => !fxB t) && (!(p.zY.any fun c => !cvB c) && (!(p.mY.any fun m => !mpB m) && (!(p.xY.any fun i => !fitB p.cells p.zY.length p.mY.length p.tY i) &&
  (inL p.cells p.qY && (inL p.cells p.oY && (inL p.cells p.sY && (decide (p.qY ++ p.sY).Nodup && !(p.iY.any badN)))))))))
section
variable (rc : Option Addr) (cc : Nat) (xY : List Ins) (rt : Option Addr) (ct : Nat) (tY : List Fx) (rv : Option Addr) (cv : Nat) (zY : List Cv) (rm : Option Addr) (cm : Nat) (mY : List Mp) (cells : Int) (ri : Option Addr) (ci : Nat) (qY : List Int) (rs : Option Addr) (cs : Nat) (sY : List Int) (ro : Option Addr) (co : Nat) (oY : List Int) (rn : Option Addr) (cn : Nat) (iY : List Int)
theorem mv_sz0 (n0 : ¬ xY.length ≤ 4000) (m0 : xY.length ≤ 9223372036854775807 ∧ tY.length ≤ 9223372036854775807 ∧ zY.length ≤ 9223372036854775807 ∧ mY.length ≤ 9223372036854775807 ∧ sY.length ≤ 9223372036854775807 ∧ iY.length ≤ 9223372036854775807) (w : World) : Calls Tryz.prog 26 #[.agg #[.slice rc xY.length cc, .slice rt tY.length ct, .slice rv zY.length cv, .slice rm mY.length cm, .int .i64 cells, .slice ri qY.length ci, .slice rs sY.length cs, .slice ro oY.length co, .slice rn iY.length cn]] w fun e w' => e = .returned (.bool false) ∧ Below w.heap.size w w' := by
 obtain ⟨m0, m1, m2, m3, m4, m5⟩ := m0
 have f0 : ((4000 : Int) < xY.length) := by omega
 go_enter Tryz.func26, Tryz.ntmps26
 go_wp2
 go_ret
 exact ⟨rfl, bw⟩
theorem mv_sz1 (h0 : xY.length ≤ 4000) (n1 : ¬ tY.length ≤ 100) (m0 : xY.length ≤ 9223372036854775807 ∧ tY.length ≤ 9223372036854775807 ∧ zY.length ≤ 9223372036854775807 ∧ mY.length ≤ 9223372036854775807 ∧ sY.length ≤ 9223372036854775807 ∧ iY.length ≤ 9223372036854775807) (w : World) : Calls Tryz.prog 26 #[.agg #[.slice rc xY.length cc, .slice rt tY.length ct, .slice rv zY.length cv, .slice rm mY.length cm, .int .i64 cells, .slice ri qY.length ci, .slice rs sY.length cs, .slice ro oY.length co, .slice rn iY.length cn]] w fun e w' => e = .returned (.bool false) ∧ Below w.heap.size w w' := by
 obtain ⟨m0, m1, m2, m3, m4, m5⟩ := m0
 have f0 : ¬ ((4000 : Int) < xY.length) := by omega
 have f1 : ((100 : Int) < tY.length) := by omega
 go_enter Tryz.func26, Tryz.ntmps26
 go_wp2
 go_ret
 exact ⟨rfl, bw⟩
theorem mv_sz2 (h0 : xY.length ≤ 4000) (h1 : tY.length ≤ 100) (n2 : ¬ zY.length ≤ 100) (m0 : xY.length ≤ 9223372036854775807 ∧ tY.length ≤ 9223372036854775807 ∧ zY.length ≤ 9223372036854775807 ∧ mY.length ≤ 9223372036854775807 ∧ sY.length ≤ 9223372036854775807 ∧ iY.length ≤ 9223372036854775807) (w : World) : Calls Tryz.prog 26 #[.agg #[.slice rc xY.length cc, .slice rt tY.length ct, .slice rv zY.length cv, .slice rm mY.length cm, .int .i64 cells, .slice ri qY.length ci, .slice rs sY.length cs, .slice ro oY.length co, .slice rn iY.length cn]] w fun e w' => e = .returned (.bool false) ∧ Below w.heap.size w w' := by
 obtain ⟨m0, m1, m2, m3, m4, m5⟩ := m0
 have f0 : ¬ ((4000 : Int) < xY.length) := by omega
 have f1 : ¬ ((100 : Int) < tY.length) := by omega
 have f2 : ((100 : Int) < zY.length) := by omega
 go_enter Tryz.func26, Tryz.ntmps26
 go_wp2
 go_ret
 exact ⟨rfl, bw⟩
theorem mv_sz3 (h0 : xY.length ≤ 4000) (h1 : tY.length ≤ 100) (h2 : zY.length ≤ 100) (n3 : ¬ mY.length ≤ 100) (m0 : xY.length ≤ 9223372036854775807 ∧ tY.length ≤ 9223372036854775807 ∧ zY.length ≤ 9223372036854775807 ∧ mY.length ≤ 9223372036854775807 ∧ sY.length ≤ 9223372036854775807 ∧ iY.length ≤ 9223372036854775807) (w : World) : Calls Tryz.prog 26 #[.agg #[.slice rc xY.length cc, .slice rt tY.length ct, .slice rv zY.length cv, .slice rm mY.length cm, .int .i64 cells, .slice ri qY.length ci, .slice rs sY.length cs, .slice ro oY.length co, .slice rn iY.length cn]] w fun e w' => e = .returned (.bool false) ∧ Below w.heap.size w w' := by
 obtain ⟨m0, m1, m2, m3, m4, m5⟩ := m0
 have f0 : ¬ ((4000 : Int) < xY.length) := by omega
 have f1 : ¬ ((100 : Int) < tY.length) := by omega
 have f2 : ¬ ((100 : Int) < zY.length) := by omega
 have f3 : ((100 : Int) < mY.length) := by omega
 go_enter Tryz.func26, Tryz.ntmps26
 go_wp2
 go_ret
 exact ⟨rfl, bw⟩
theorem mv_sz4 (h0 : xY.length ≤ 4000) (h1 : tY.length ≤ 100) (h2 : zY.length ≤ 100) (h3 : mY.length ≤ 100) (n4 : ¬ 0 ≤ cells) (m0 : xY.length ≤ 9223372036854775807 ∧ tY.length ≤ 9223372036854775807 ∧ zY.length ≤ 9223372036854775807 ∧ mY.length ≤ 9223372036854775807 ∧ sY.length ≤ 9223372036854775807 ∧ iY.length ≤ 9223372036854775807) (w : World) : Calls Tryz.prog 26 #[.agg #[.slice rc xY.length cc, .slice rt tY.length ct, .slice rv zY.length cv, .slice rm mY.length cm, .int .i64 cells, .slice ri qY.length ci, .slice rs sY.length cs, .slice ro oY.length co, .slice rn iY.length cn]] w fun e w' => e = .returned (.bool false) ∧ Below w.heap.size w w' := by
 obtain ⟨m0, m1, m2, m3, m4, m5⟩ := m0
 have f0 : ¬ ((4000 : Int) < xY.length) := by omega
 have f1 : ¬ ((100 : Int) < tY.length) := by omega
 have f2 : ¬ ((100 : Int) < zY.length) := by omega
 have f3 : ¬ ((100 : Int) < mY.length) := by omega
 have f4 : cells < 0 := by omega
 go_enter Tryz.func26, Tryz.ntmps26
 go_wp2
 go_ret
 exact ⟨rfl, bw⟩
theorem mv_sz5 (h0 : xY.length ≤ 4000) (h1 : tY.length ≤ 100) (h2 : zY.length ≤ 100) (h3 : mY.length ≤ 100) (h4 : 0 ≤ cells) (n5 : ¬ cells ≤ 1000) (m0 : xY.length ≤ 9223372036854775807 ∧ tY.length ≤ 9223372036854775807 ∧ zY.length ≤ 9223372036854775807 ∧ mY.length ≤ 9223372036854775807 ∧ sY.length ≤ 9223372036854775807 ∧ iY.length ≤ 9223372036854775807) (w : World) : Calls Tryz.prog 26 #[.agg #[.slice rc xY.length cc, .slice rt tY.length ct, .slice rv zY.length cv, .slice rm mY.length cm, .int .i64 cells, .slice ri qY.length ci, .slice rs sY.length cs, .slice ro oY.length co, .slice rn iY.length cn]] w fun e w' => e = .returned (.bool false) ∧ Below w.heap.size w w' := by
 obtain ⟨m0, m1, m2, m3, m4, m5⟩ := m0
 have f0 : ¬ ((4000 : Int) < xY.length) := by omega
 have f1 : ¬ ((100 : Int) < tY.length) := by omega
 have f2 : ¬ ((100 : Int) < zY.length) := by omega
 have f3 : ¬ ((100 : Int) < mY.length) := by omega
 have f4 : ¬ cells < 0 := by omega
 have f5 : 1000 < cells := by omega
 go_enter Tryz.func26, Tryz.ntmps26
 go_wp2
 go_ret
 exact ⟨rfl, bw⟩
theorem mv_sz6 (h0 : xY.length ≤ 4000) (h1 : tY.length ≤ 100) (h2 : zY.length ≤ 100) (h3 : mY.length ≤ 100) (h4 : 0 ≤ cells) (h5 : cells ≤ 1000) (n6 : ¬ iY.length = sY.length) (m0 : xY.length ≤ 9223372036854775807 ∧ tY.length ≤ 9223372036854775807 ∧ zY.length ≤ 9223372036854775807 ∧ mY.length ≤ 9223372036854775807 ∧ sY.length ≤ 9223372036854775807 ∧ iY.length ≤ 9223372036854775807) (w : World) : Calls Tryz.prog 26 #[.agg #[.slice rc xY.length cc, .slice rt tY.length ct, .slice rv zY.length cv, .slice rm mY.length cm, .int .i64 cells, .slice ri qY.length ci, .slice rs sY.length cs, .slice ro oY.length co, .slice rn iY.length cn]] w fun e w' => e = .returned (.bool false) ∧ Below w.heap.size w w' := by
 obtain ⟨m0, m1, m2, m3, m4, m5⟩ := m0
 have f0 : ¬ ((4000 : Int) < xY.length) := by omega
 have f1 : ¬ ((100 : Int) < tY.length) := by omega
 have f2 : ¬ ((100 : Int) < zY.length) := by omega
 have f3 : ¬ ((100 : Int) < mY.length) := by omega
 have f4 : ¬ cells < 0 := by omega
 have f5 : ¬ 1000 < cells := by omega
 have f6 : ¬ (iY.length : Int) = (sY.length : Int) := by omega
 go_enter Tryz.func26, Tryz.ntmps26
 go_wp2
 go_ret
 exact ⟨rfl, bw⟩
theorem mv_sz (p : PV) (w : World) (hp : IsP w p) (h : ¬ szP p) : Calls Tryz.prog 26 #[p.val] w fun e w' => e = .returned (.bool false) ∧ Below w.heap.size w w' := by
 have m0 := Nat.le_trans hp.xY.le hp.xY.max
 have m1 := Nat.le_trans hp.tY.le hp.tY.max
 have m2 := Nat.le_trans hp.zY.le hp.zY.max
 have m3 := Nat.le_trans hp.mY.le hp.mY.max
 have m4 := Nat.le_trans hp.sY.le hp.sY.max
 have m5 := Nat.le_trans hp.iY.le hp.iY.max
 unfold maxLen at m0 m1 m2 m3 m4 m5
 obtain ⟨rc, cc, xY, rt, ct, tY, rv, cv, zY, rm, cm, mY, cells, ri, ci, qY, rs, cs, sY, ro, co, oY, rn, cn, iY⟩ := p
 simp only [szP] at h
 simp only at m0 m1 m2 m3 m4 m5
 have m : xY.length ≤ 9223372036854775807 ∧ tY.length ≤ 9223372036854775807 ∧ zY.length ≤ 9223372036854775807 ∧ mY.length ≤ 9223372036854775807 ∧ sY.length ≤ 9223372036854775807 ∧ iY.length ≤ 9223372036854775807 := ⟨by omega, by omega, by omega, by omega, by omega, by omega⟩
 simp only [PV.val]
 by_cases h0 : xY.length ≤ 4000
 rotate_left
 ·
  exact mv_sz0 rc cc xY rt ct tY rv cv zY rm cm mY cells ri ci qY rs cs sY ro co oY rn cn iY  h0 m w
 by_cases h1 : tY.length ≤ 100
 rotate_left
 ·
  exact mv_sz1 rc cc xY rt ct tY rv cv zY rm cm mY cells ri ci qY rs cs sY ro co oY rn cn iY h0 h1 m w
 by_cases h2 : zY.length ≤ 100
 rotate_left
 ·
  exact mv_sz2 rc cc xY rt ct tY rv cv zY rm cm mY cells ri ci qY rs cs sY ro co oY rn cn iY h0 h1 h2 m w
 by_cases h3 : mY.length ≤ 100
 rotate_left
 ·
  exact mv_sz3 rc cc xY rt ct tY rv cv zY rm cm mY cells ri ci qY rs cs sY ro co oY rn cn iY h0 h1 h2 h3 m w
 by_cases h4 : 0 ≤ cells
 rotate_left
 ·
  exact mv_sz4 rc cc xY rt ct tY rv cv zY rm cm mY cells ri ci qY rs cs sY ro co oY rn cn iY h0 h1 h2 h3 h4 m w
 by_cases h5 : cells ≤ 1000
 rotate_left
 ·
  exact mv_sz5 rc cc xY rt ct tY rv cv zY rm cm mY cells ri ci qY rs cs sY ro co oY rn cn iY h0 h1 h2 h3 h4 h5 m w
 exact mv_sz6 rc cc xY rt ct tY rv cv zY rm cm mY cells ri ci qY rs cs sY ro co oY rn cn iY h0 h1 h2 h3 h4 h5 (fun h6 => h ⟨h0, h1, h2, h3, h4, h5, h6⟩) m w
end
theorem yfd (p : PV) (W : World) (hp : IsP W p) (X : Nat) (v : Bool) (hv : (p.tY.any fun t => !fxB t) = v) (hX : X < W.heap.size) (hc : W.cell? ⟨X, 0, none⟩ = some (.func (.func 48) #[] #[])) : Calls Tryz.prog 49 #[.slice p.rt p.tY.length p.ct, .func (.func 50) #[] #[.pointer (some ⟨X, 0, none⟩)]] W fun e w' => e = .returned (.bool v) ∧ Below W.heap.size W w' := by
 subst hv
 exact ynp _ _ p.rt p.ct p.tY (fun t => !fxB t) W (enters_of Tryz.func50 (by kernel_rfl) rfl) hp.tY (fun e x _ => v2_any X x e.w (Nat.lt_of_lt_of_le hX e.h.size) ((Later.cell e hX).trans hc))
theorem yfe (p : PV) (W : World) (hp : IsP W p) (X : Nat) (v : Bool) (hv : (p.zY.any fun t => !cvB t) = v) (hX : X < W.heap.size) (hc : W.cell? ⟨X, 0, none⟩ = some (.func (.func 48) #[] #[])) : Calls Tryz.prog 20 #[.slice p.rv p.zY.length p.cv, .func (.func 52) #[] #[.pointer (some ⟨X, 0, none⟩)]] W fun e w' => e = .returned (.bool v) ∧ Below W.heap.size W w' := by
 subst hv
 exact yjk _ _ p.rv p.cv p.zY (fun t => !cvB t) W (enters_of Tryz.func52 (by kernel_rfl) rfl) hp.zY (fun e x hx => v3_any X x e.w ((hp.curvesG x hx).later e.h) (Nat.lt_of_lt_of_le hX e.h.size) ((Later.cell e hX).trans hc))
theorem yka (p : PV) (W : World) (hp : IsP W p) (X : Nat) (v : Bool) (hv : (p.mY.any fun t => !mpB t) = v) (hX : X < W.heap.size) (hc : W.cell? ⟨X, 0, none⟩ = some (.func (.func 48) #[] #[])) : Calls Tryz.prog 22 #[.slice p.rm p.mY.length p.cm, .func (.func 54) #[] #[.pointer (some ⟨X, 0, none⟩)]] W fun e w' => e = .returned (.bool v) ∧ Below W.heap.size W w' := by
 subst hv
 exact ynn _ _ p.rm p.cm p.mY (fun t => !mpB t) W (enters_of Tryz.func54 (by kernel_rfl) rfl) hp.mY (fun e x hx => v4_any X x e.w ((hp.mapsG x hx).later e.h) (Nat.lt_of_lt_of_le hX e.h.size) ((Later.cell e hX).trans hc))
theorem ymz (p : PV) (W : World) (hp : IsP W p) (X B : Nat) (v : Bool) (hv : (p.xY.any fun i => !fitB p.cells p.zY.length p.mY.length p.tY i) = v) (hX : X < W.heap.size) (hB : B < W.heap.size) (hc : W.cell? ⟨X, 0, none⟩ = some (.func (.func 48) #[] #[])) (q0 : W.cell? ⟨B, 0, none⟩ = some (.slice p.rc p.xY.length p.cc)) (q1 : W.cell? ⟨B, 1, none⟩ = some (.slice p.rt p.tY.length p.ct)) (q2 : W.cell? ⟨B, 2, none⟩ = some (.slice p.rv p.zY.length p.cv)) (q3 : W.cell? ⟨B, 3, none⟩ = some (.slice p.rm p.mY.length p.cm)) (q4 : W.cell? ⟨B, 4, none⟩ = some (.int .i64 p.cells)) (q5 : W.cell? ⟨B, 5, none⟩ = some (.slice p.ri p.qY.length p.ci)) (q6 : W.cell? ⟨B, 6, none⟩ = some (.slice p.rs p.sY.length p.cs)) (q7 : W.cell? ⟨B, 7, none⟩ = some (.slice p.ro p.oY.length p.co)) (q8 : W.cell? ⟨B, 8, none⟩ = some (.slice p.rn p.iY.length p.cn)) : Calls Tryz.prog 56 #[.slice p.rc p.xY.length p.cc, .func (.func 57) #[] #[.pointer (some ⟨X, 0, none⟩), .pointer (some ⟨B, 0, none⟩)]] W fun e w' => e = .returned (.bool v) ∧ Below W.heap.size W w' := by
 subst hv
 exact yno _ _ p.rc p.cc p.xY (fun i => !fitB p.cells p.zY.length p.mY.length p.tY i) W (enters_of Tryz.func57 (by kernel_rfl) rfl) hp.xY (fun e x hx => v5_any X B p x e.w (hp.codeG x hx) (hp.tY.later e.h) (Nat.lt_of_lt_of_le hX e.h.size) (Nat.lt_of_lt_of_le hB e.h.size) ((Later.cell e hX).trans hc) ((Later.cell e hB).trans q0) ((Later.cell e hB).trans q1) ((Later.cell e hB).trans q2) ((Later.cell e hB).trans q3) ((Later.cell e hB).trans q4) ((Later.cell e hB).trans q5) ((Later.cell e hB).trans q6) ((Later.cell e hB).trans q7) ((Later.cell e hB).trans q8))
theorem yft (B : Nat) (cells : Int) (r : Option Addr) (cap : Nat) (l : List Int) (W : World) (hl : IsInts W r cap .i64 l) (v : Bool) (hv : l.any (badC cells) = v) (hB : B < W.heap.size) (q4 : W.cell? ⟨B, 4, none⟩ = some (.int .i64 cells)) : Calls Tryz.prog 59 #[.slice r l.length cap, .func (.func 60) #[] #[.pointer (some ⟨B, 0, none⟩)]] W fun e w' => e = .returned (.bool v) ∧ Below W.heap.size W w' := by
 subst hv
 exact ybv _ _ r cap l (badC cells) W (enters_of Tryz.func60 (by kernel_rfl) rfl) hl (fun e x _ => v6_any B x cells e.w ((Later.cell e hB).trans q4))
theorem mh_ini (r : Option Addr) (cap : Nat) (l : List Int) (W : World) (hl : IsInts W r cap .i64 l) (v : Bool) (hv : l.any badN = v) : Calls Tryz.prog 59 #[.slice r l.length cap, .func (.func 62) #[] #[]] W fun e w' => e = .returned (.bool v) ∧ Below W.heap.size W w' := by
 subst hv
 exact ybv _ _ r cap l badN W (enters_of Tryz.func62 (by kernel_rfl) rfl) hl (fun e x _ => v7_any x e.w)
section
variable (rc : Option Addr) (cc : Nat) (xY : List Ins) (rt : Option Addr) (ct : Nat) (tY : List Fx) (rv : Option Addr) (cv : Nat) (zY : List Cv) (rm : Option Addr) (cm : Nat) (mY : List Mp) (cells : Int) (ri : Option Addr) (ci : Nat) (qY : List Int) (rs : Option Addr) (cs : Nat) (sY : List Int) (ro : Option Addr) (co : Nat) (oY : List Int) (rn : Option Addr) (cn : Nat) (iY : List Int)
theorem mv_T (w : World) (hp : IsP w ⟨rc, cc, xY, rt, ct, tY, rv, cv, zY, rm, cm, mY, cells, ri, ci, qY, rs, cs, sY, ro, co, oY, rn, cn, iY⟩) (hsz : szP ⟨rc, cc, xY, rt, ct, tY, rv, cv, zY, rm, cm, mY, cells, ri, ci, qY, rs, cs, sY, ro, co, oY, rn, cn, iY⟩) (hT : (tY.any fun t => !fxB t) = true) : Calls Tryz.prog 26 #[.agg #[.slice rc xY.length cc, .slice rt tY.length ct, .slice rv zY.length cv, .slice rm mY.length cm, .int .i64 cells, .slice ri qY.length ci, .slice rs sY.length cs, .slice ro oY.length co, .slice rn iY.length cn]] w fun e w' => e = .returned (.bool false) ∧ Below w.heap.size w w' := by
 obtain ⟨z0, z1, z2, z3, z4, z5, z6⟩ := hsz
 simp only at z0 z1 z2 z3 z4 z5 z6
 have f0 : ¬ ((4000 : Int) < xY.length) := by omega
 have f1 : ¬ ((100 : Int) < tY.length) := by omega
 have f2 : ¬ ((100 : Int) < zY.length) := by omega
 have f3 : ¬ ((100 : Int) < mY.length) := by omega
 have hs01 : w.heap.size < w.heap.size + 1 + 1 := by omega
 have f4 : ¬ cells < 0 := by omega
 have f5 : ¬ 1000 < cells := by omega
 have HT : Hid (∀ W, Below w.heap.size w W → w.heap.size + 1 < W.heap.size → W.cell? ⟨w.heap.size + 1, 0, none⟩ = some (.func (.func 48) #[] #[]) → Calls Tryz.prog 49 #[.slice rt tY.length ct, .func (.func 50) #[] #[.pointer (some ⟨w.heap.size + 1, 0, none⟩)]] W fun e w' => e = .returned (.bool true) ∧ Below W.heap.size W w') := H! (fun W hW hs hc => yfd ⟨rc, cc, xY, rt, ct, tY, rv, cv, zY, rm, cm, mY, cells, ri, ci, qY, rs, cs, sY, ro, co, oY, rn, cn, iY⟩ W (hp.later hW) (w.heap.size + 1) true hT hs hc)
 clear hp hT
 go_enter Tryz.func26, Tryz.ntmps26
 go_wp2_with (first | (go_at_call 49; refine (HT.out _ bw (by first | omega | (simp only [zA]; omega)) (by first | go_keep | (simp [go_sem, *]; done))).mono ?_; rintro _ hb0w ⟨rfl, hb0⟩; obtain ⟨hb0c, hb0f⟩ := yah hb0; have hb0s := hb0.size; (try simp only [zA] at hb0s); have hx0 : w.heap.size < hb0w.heap.size := (by omega); have hy0 : w.heap.size + 1 < hb0w.heap.size := (by omega)))
 all_goals go_ret
 all_goals exact ⟨rfl, bw⟩
theorem mv_C (w : World) (hp : IsP w ⟨rc, cc, xY, rt, ct, tY, rv, cv, zY, rm, cm, mY, cells, ri, ci, qY, rs, cs, sY, ro, co, oY, rn, cn, iY⟩) (hsz : szP ⟨rc, cc, xY, rt, ct, tY, rv, cv, zY, rm, cm, mY, cells, ri, ci, qY, rs, cs, sY, ro, co, oY, rn, cn, iY⟩) (hT : (tY.any fun t => !fxB t) = false) (hC : (zY.any fun t => !cvB t) = true) : Calls Tryz.prog 26 #[.agg #[.slice rc xY.length cc, .slice rt tY.length ct, .slice rv zY.length cv, .slice rm mY.length cm, .int .i64 cells, .slice ri qY.length ci, .slice rs sY.length cs, .slice ro oY.length co, .slice rn iY.length cn]] w fun e w' => e = .returned (.bool false) ∧ Below w.heap.size w w' := by
 obtain ⟨z0, z1, z2, z3, z4, z5, z6⟩ := hsz
 simp only at z0 z1 z2 z3 z4 z5 z6
 have f0 : ¬ ((4000 : Int) < xY.length) := by omega
 have f1 : ¬ ((100 : Int) < tY.length) := by omega
 have f2 : ¬ ((100 : Int) < zY.length) := by omega
 have f3 : ¬ ((100 : Int) < mY.length) := by omega
 have hs01 : w.heap.size < w.heap.size + 1 + 1 := by omega
 have f4 : ¬ cells < 0 := by omega
 have f5 : ¬ 1000 < cells := by omega
 have HT : Hid (∀ W, Below w.heap.size w W → w.heap.size + 1 < W.heap.size → W.cell? ⟨w.heap.size + 1, 0, none⟩ = some (.func (.func 48) #[] #[]) → Calls Tryz.prog 49 #[.slice rt tY.length ct, .func (.func 50) #[] #[.pointer (some ⟨w.heap.size + 1, 0, none⟩)]] W fun e w' => e = .returned (.bool false) ∧ Below W.heap.size W w') := H! (fun W hW hs hc => yfd ⟨rc, cc, xY, rt, ct, tY, rv, cv, zY, rm, cm, mY, cells, ri, ci, qY, rs, cs, sY, ro, co, oY, rn, cn, iY⟩ W (hp.later hW) (w.heap.size + 1) false hT hs hc)
 have HC : Hid (∀ W, Below w.heap.size w W → w.heap.size + 1 < W.heap.size → W.cell? ⟨w.heap.size + 1, 0, none⟩ = some (.func (.func 48) #[] #[]) → Calls Tryz.prog 20 #[.slice rv zY.length cv, .func (.func 52) #[] #[.pointer (some ⟨w.heap.size + 1, 0, none⟩)]] W fun e w' => e = .returned (.bool true) ∧ Below W.heap.size W w') := H! (fun W hW hs hc => yfe ⟨rc, cc, xY, rt, ct, tY, rv, cv, zY, rm, cm, mY, cells, ri, ci, qY, rs, cs, sY, ro, co, oY, rn, cn, iY⟩ W (hp.later hW) (w.heap.size + 1) true hC hs hc)
 clear hp hT hC
 go_enter Tryz.func26, Tryz.ntmps26
 go_wp2_with (first | (go_at_call 49; refine (HT.out _ bw (by first | omega | (simp only [zA]; omega)) (by first | go_keep | (simp [go_sem, *]; done))).mono ?_; rintro _ hb0w ⟨rfl, hb0⟩; obtain ⟨hb0c, hb0f⟩ := yah hb0; have hb0s := hb0.size; (try simp only [zA] at hb0s); have hx0 : w.heap.size < hb0w.heap.size := (by omega); have hy0 : w.heap.size + 1 < hb0w.heap.size := (by omega)) | (go_at_call 20; refine (HC.out _ bw (by first | omega | (simp only [zA]; omega)) (by first | go_keep | (simp [go_sem, *]; done))).mono ?_; rintro _ hb1w ⟨rfl, hb1⟩; obtain ⟨hb1c, hb1f⟩ := yah hb1; have hb1s := hb1.size; (try simp only [zA] at hb1s); have hx1 : w.heap.size < hb1w.heap.size := (by omega); have hy1 : w.heap.size + 1 < hb1w.heap.size := (by omega)))
 all_goals go_ret
 all_goals exact ⟨rfl, bw⟩
theorem mv_M (w : World) (hp : IsP w ⟨rc, cc, xY, rt, ct, tY, rv, cv, zY, rm, cm, mY, cells, ri, ci, qY, rs, cs, sY, ro, co, oY, rn, cn, iY⟩) (hsz : szP ⟨rc, cc, xY, rt, ct, tY, rv, cv, zY, rm, cm, mY, cells, ri, ci, qY, rs, cs, sY, ro, co, oY, rn, cn, iY⟩) (hT : (tY.any fun t => !fxB t) = false) (hC : (zY.any fun t => !cvB t) = false) (hM : (mY.any fun t => !mpB t) = true) : Calls Tryz.prog 26 #[.agg #[.slice rc xY.length cc, .slice rt tY.length ct, .slice rv zY.length cv, .slice rm mY.length cm, .int .i64 cells, .slice ri qY.length ci, .slice rs sY.length cs, .slice ro oY.length co, .slice rn iY.length cn]] w fun e w' => e = .returned (.bool false) ∧ Below w.heap.size w w' := by
 obtain ⟨z0, z1, z2, z3, z4, z5, z6⟩ := hsz
 simp only at z0 z1 z2 z3 z4 z5 z6
 have f0 : ¬ ((4000 : Int) < xY.length) := by omega
 have f1 : ¬ ((100 : Int) < tY.length) := by omega
 have f2 : ¬ ((100 : Int) < zY.length) := by omega
 have f3 : ¬ ((100 : Int) < mY.length) := by omega
 have hs01 : w.heap.size < w.heap.size + 1 + 1 := by omega
 have f4 : ¬ cells < 0 := by omega
 have f5 : ¬ 1000 < cells := by omega
 have HT : Hid (∀ W, Below w.heap.size w W → w.heap.size + 1 < W.heap.size → W.cell? ⟨w.heap.size + 1, 0, none⟩ = some (.func (.func 48) #[] #[]) → Calls Tryz.prog 49 #[.slice rt tY.length ct, .func (.func 50) #[] #[.pointer (some ⟨w.heap.size + 1, 0, none⟩)]] W fun e w' => e = .returned (.bool false) ∧ Below W.heap.size W w') := H! (fun W hW hs hc => yfd ⟨rc, cc, xY, rt, ct, tY, rv, cv, zY, rm, cm, mY, cells, ri, ci, qY, rs, cs, sY, ro, co, oY, rn, cn, iY⟩ W (hp.later hW) (w.heap.size + 1) false hT hs hc)
 have HC : Hid (∀ W, Below w.heap.size w W → w.heap.size + 1 < W.heap.size → W.cell? ⟨w.heap.size + 1, 0, none⟩ = some (.func (.func 48) #[] #[]) → Calls Tryz.prog 20 #[.slice rv zY.length cv, .func (.func 52) #[] #[.pointer (some ⟨w.heap.size + 1, 0, none⟩)]] W fun e w' => e = .returned (.bool false) ∧ Below W.heap.size W w') := H! (fun W hW hs hc => yfe ⟨rc, cc, xY, rt, ct, tY, rv, cv, zY, rm, cm, mY, cells, ri, ci, qY, rs, cs, sY, ro, co, oY, rn, cn, iY⟩ W (hp.later hW) (w.heap.size + 1) false hC hs hc)
 have HM : Hid (∀ W, Below w.heap.size w W → w.heap.size + 1 < W.heap.size → W.cell? ⟨w.heap.size + 1, 0, none⟩ = some (.func (.func 48) #[] #[]) → Calls Tryz.prog 22 #[.slice rm mY.length cm, .func (.func 54) #[] #[.pointer (some ⟨w.heap.size + 1, 0, none⟩)]] W fun e w' => e = .returned (.bool true) ∧ Below W.heap.size W w') := H! (fun W hW hs hc => yka ⟨rc, cc, xY, rt, ct, tY, rv, cv, zY, rm, cm, mY, cells, ri, ci, qY, rs, cs, sY, ro, co, oY, rn, cn, iY⟩ W (hp.later hW) (w.heap.size + 1) true hM hs hc)
 clear hp hT hC hM
 go_enter Tryz.func26, Tryz.ntmps26
 go_wp2_with (first | (go_at_call 49; refine (HT.out _ bw (by first | omega | (simp only [zA]; omega)) (by first | go_keep | (simp [go_sem, *]; done))).mono ?_; rintro _ hb0w ⟨rfl, hb0⟩; obtain ⟨hb0c, hb0f⟩ := yah hb0; have hb0s := hb0.size; (try simp only [zA] at hb0s); have hx0 : w.heap.size < hb0w.heap.size := (by omega); have hy0 : w.heap.size + 1 < hb0w.heap.size := (by omega)) | (go_at_call 20; refine (HC.out _ bw (by first | omega | (simp only [zA]; omega)) (by first | go_keep | (simp [go_sem, *]; done))).mono ?_; rintro _ hb1w ⟨rfl, hb1⟩; obtain ⟨hb1c, hb1f⟩ := yah hb1; have hb1s := hb1.size; (try simp only [zA] at hb1s); have hx1 : w.heap.size < hb1w.heap.size := (by omega); have hy1 : w.heap.size + 1 < hb1w.heap.size := (by omega)) | (go_at_call 22; refine (HM.out _ bw (by first | omega | (simp only [zA]; omega)) (by first | go_keep | (simp [go_sem, *]; done))).mono ?_; rintro _ hb2w ⟨rfl, hb2⟩; obtain ⟨hb2c, hb2f⟩ := yah hb2; have hb2s := hb2.size; (try simp only [zA] at hb2s); have hx2 : w.heap.size < hb2w.heap.size := (by omega); have hy2 : w.heap.size + 1 < hb2w.heap.size := (by omega)))
 all_goals go_ret
 all_goals exact ⟨rfl, bw⟩
theorem mv_I (w : World) (hp : IsP w ⟨rc, cc, xY, rt, ct, tY, rv, cv, zY, rm, cm, mY, cells, ri, ci, qY, rs, cs, sY, ro, co, oY, rn, cn, iY⟩) (hsz : szP ⟨rc, cc, xY, rt, ct, tY, rv, cv, zY, rm, cm, mY, cells, ri, ci, qY, rs, cs, sY, ro, co, oY, rn, cn, iY⟩) (hT : (tY.any fun t => !fxB t) = false) (hC : (zY.any fun t => !cvB t) = false) (hM : (mY.any fun t => !mpB t) = false) (hI : (xY.any fun i => !fitB cells zY.length mY.length tY i) = true) : Calls Tryz.prog 26 #[.agg #[.slice rc xY.length cc, .slice rt tY.length ct, .slice rv zY.length cv, .slice rm mY.length cm, .int .i64 cells, .slice ri qY.length ci, .slice rs sY.length cs, .slice ro oY.length co, .slice rn iY.length cn]] w fun e w' => e = .returned (.bool false) ∧ Below w.heap.size w w' := by
 obtain ⟨z0, z1, z2, z3, z4, z5, z6⟩ := hsz
 simp only at z0 z1 z2 z3 z4 z5 z6
 have f0 : ¬ ((4000 : Int) < xY.length) := by omega
 have f1 : ¬ ((100 : Int) < tY.length) := by omega
 have f2 : ¬ ((100 : Int) < zY.length) := by omega
 have f3 : ¬ ((100 : Int) < mY.length) := by omega
 have hs01 : w.heap.size < w.heap.size + 1 + 1 := by omega
 have f4 : ¬ cells < 0 := by omega
 have f5 : ¬ 1000 < cells := by omega
 have HT : Hid (∀ W, Below w.heap.size w W → w.heap.size + 1 < W.heap.size → W.cell? ⟨w.heap.size + 1, 0, none⟩ = some (.func (.func 48) #[] #[]) → Calls Tryz.prog 49 #[.slice rt tY.length ct, .func (.func 50) #[] #[.pointer (some ⟨w.heap.size + 1, 0, none⟩)]] W fun e w' => e = .returned (.bool false) ∧ Below W.heap.size W w') := H! (fun W hW hs hc => yfd ⟨rc, cc, xY, rt, ct, tY, rv, cv, zY, rm, cm, mY, cells, ri, ci, qY, rs, cs, sY, ro, co, oY, rn, cn, iY⟩ W (hp.later hW) (w.heap.size + 1) false hT hs hc)
 have HC : Hid (∀ W, Below w.heap.size w W → w.heap.size + 1 < W.heap.size → W.cell? ⟨w.heap.size + 1, 0, none⟩ = some (.func (.func 48) #[] #[]) → Calls Tryz.prog 20 #[.slice rv zY.length cv, .func (.func 52) #[] #[.pointer (some ⟨w.heap.size + 1, 0, none⟩)]] W fun e w' => e = .returned (.bool false) ∧ Below W.heap.size W w') := H! (fun W hW hs hc => yfe ⟨rc, cc, xY, rt, ct, tY, rv, cv, zY, rm, cm, mY, cells, ri, ci, qY, rs, cs, sY, ro, co, oY, rn, cn, iY⟩ W (hp.later hW) (w.heap.size + 1) false hC hs hc)
 have HM : Hid (∀ W, Below w.heap.size w W → w.heap.size + 1 < W.heap.size → W.cell? ⟨w.heap.size + 1, 0, none⟩ = some (.func (.func 48) #[] #[]) → Calls Tryz.prog 22 #[.slice rm mY.length cm, .func (.func 54) #[] #[.pointer (some ⟨w.heap.size + 1, 0, none⟩)]] W fun e w' => e = .returned (.bool false) ∧ Below W.heap.size W w') := H! (fun W hW hs hc => yka ⟨rc, cc, xY, rt, ct, tY, rv, cv, zY, rm, cm, mY, cells, ri, ci, qY, rs, cs, sY, ro, co, oY, rn, cn, iY⟩ W (hp.later hW) (w.heap.size + 1) false hM hs hc)
 have HI : Hid (∀ W, Below w.heap.size w W → w.heap.size + 1 < W.heap.size → W.cell? ⟨w.heap.size + 1, 0, none⟩ = some (.func (.func 48) #[] #[]) → W.cell? ⟨w.heap.size, 0, none⟩ = some (.slice rc xY.length cc) → W.cell? ⟨w.heap.size, 1, none⟩ = some (.slice rt tY.length ct) → W.cell? ⟨w.heap.size, 2, none⟩ = some (.slice rv zY.length cv) → W.cell? ⟨w.heap.size, 3, none⟩ = some (.slice rm mY.length cm) → W.cell? ⟨w.heap.size, 4, none⟩ = some (.int .i64 cells) → W.cell? ⟨w.heap.size, 5, none⟩ = some (.slice ri qY.length ci) → W.cell? ⟨w.heap.size, 6, none⟩ = some (.slice rs sY.length cs) → W.cell? ⟨w.heap.size, 7, none⟩ = some (.slice ro oY.length co) → W.cell? ⟨w.heap.size, 8, none⟩ = some (.slice rn iY.length cn) → Calls Tryz.prog 56 #[.slice rc xY.length cc, .func (.func 57) #[] #[.pointer (some ⟨w.heap.size + 1, 0, none⟩), .pointer (some ⟨w.heap.size, 0, none⟩)]] W fun e w' => e = .returned (.bool true) ∧ Below W.heap.size W w') := H! (fun W hW hs hc q0 q1 q2 q3 q4 q5 q6 q7 q8 => ymz ⟨rc, cc, xY, rt, ct, tY, rv, cv, zY, rm, cm, mY, cells, ri, ci, qY, rs, cs, sY, ro, co, oY, rn, cn, iY⟩ W (hp.later hW) (w.heap.size + 1) w.heap.size true hI hs (by omega) hc q0 q1 q2 q3 q4 q5 q6 q7 q8)
 clear hp hT hC hM hI
 go_enter Tryz.func26, Tryz.ntmps26
 go_wp2_with (first | (go_at_call 49; refine (HT.out _ bw (by first | omega | (simp only [zA]; omega)) (by first | go_keep | (simp [go_sem, *]; done))).mono ?_; rintro _ hb0w ⟨rfl, hb0⟩; obtain ⟨hb0c, hb0f⟩ := yah hb0; have hb0s := hb0.size; (try simp only [zA] at hb0s); have hx0 : w.heap.size < hb0w.heap.size := (by omega); have hy0 : w.heap.size + 1 < hb0w.heap.size := (by omega)) | (go_at_call 20; refine (HC.out _ bw (by first | omega | (simp only [zA]; omega)) (by first | go_keep | (simp [go_sem, *]; done))).mono ?_; rintro _ hb1w ⟨rfl, hb1⟩; obtain ⟨hb1c, hb1f⟩ := yah hb1; have hb1s := hb1.size; (try simp only [zA] at hb1s); have hx1 : w.heap.size < hb1w.heap.size := (by omega); have hy1 : w.heap.size + 1 < hb1w.heap.size := (by omega)) | (go_at_call 22; refine (HM.out _ bw (by first | omega | (simp only [zA]; omega)) (by first | go_keep | (simp [go_sem, *]; done))).mono ?_; rintro _ hb2w ⟨rfl, hb2⟩; obtain ⟨hb2c, hb2f⟩ := yah hb2; have hb2s := hb2.size; (try simp only [zA] at hb2s); have hx2 : w.heap.size < hb2w.heap.size := (by omega); have hy2 : w.heap.size + 1 < hb2w.heap.size := (by omega)) | (go_at_call 56; refine (HI.out _ bw (by first | omega | (simp only [zA]; omega)) (by first | go_keep | (simp [go_sem, *]; done)) (by first | go_keep | (simp [go_sem, *]; done)) (by first | go_keep | (simp [go_sem, *]; done)) (by first | go_keep | (simp [go_sem, *]; done)) (by first | go_keep | (simp [go_sem, *]; done)) (by first | go_keep | (simp [go_sem, *]; done)) (by first | go_keep | (simp [go_sem, *]; done)) (by first | go_keep | (simp [go_sem, *]; done)) (by first | go_keep | (simp [go_sem, *]; done)) (by first | go_keep | (simp [go_sem, *]; done))).mono ?_; rintro _ hb3w ⟨rfl, hb3⟩; obtain ⟨hb3c, hb3f⟩ := yah hb3; have hb3s := hb3.size; (try simp only [zA] at hb3s); have hx3 : w.heap.size < hb3w.heap.size := (by omega); have hy3 : w.heap.size + 1 < hb3w.heap.size := (by omega)))
 all_goals go_ret
 all_goals exact ⟨rfl, bw⟩
end
end Go.Proofs.YtfooefiaenlhmaaGreat
