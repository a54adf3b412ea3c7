/- slices.Equal of words; the package's and the reference's Bytes. Printed by a program. -/
import Derived.Test.YtfooefiaenlhmaaImgB
import Derived.Deep.RegionHeld3
namespace Go.Proofs.Ytfooefiaenlhmaa
set_option linter.unusedVariables false
set_option linter.unusedSimpArgs false
open Go.RowKit Go.ChangeShapes Go.WideShapes Go.ChangeAt

theorem getD_ext {xs ys : List Int} (hl : xs.length = ys.length) (h : ∀ t, t < xs.length → xs.getD t 0 = ys.getD t 0) : xs = ys := by
  refine List.ext_getElem hl (fun i h1 h2 => ?_)
  have := h i h1
  simpa [List.getD, List.getElem?_eq_getElem h1, List.getElem?_eq_getElem h2] using this

set_option maxHeartbeats 1000000 in
theorem equalU_any (r q : Option Addr) (c d : Nat) (xs ys : List Int) (w : World) (hx : IsInts w r c .u32 xs) (hy : IsInts w q d .u32 ys) :
    Calls Try.prog 18 #[.slice r xs.length c, .slice q ys.length d] w fun e w' => e = .returned (.bool (decide (xs = ys))) ∧ Below w.heap.size w w' := by
  by_cases hl : xs.length = ys.length
  · by_cases hne : xs = []
    · subst hne
      obtain rfl : ys = [] := List.length_eq_zero_iff.1 hl.symm
      clear hx hy
      go_enter Try.func18, Try.ntmps18
      go_wp2
      go_rounds 1
      go_ret
      exact ⟨by simp, by (repeat' (first | (with_reducible exact Below.refl _ _) | (with_reducible assumption) | (with_reducible refine below_alloc ?_ _) | (with_reducible refine Below.drew ?_) | (with_reducible refine below_drewN ?_ _) | (with_reducible refine below_step (by assumption) ?_) | (with_reducible refine below_later ?_ _) | (with_reducible refine Below.setCell ?_ ?_ _) | go_size))⟩
    · have hney : ys ≠ [] := fun e => by subst e; exact hne (List.length_eq_zero_iff.1 hl)
      obtain ⟨bX, off, rfl, hb, hc⟩ := hx.cells hne
      obtain ⟨bY, ofy, rfl, hby, hcy⟩ := hy.cells hney
      have hmax := hx.max
      have hle := hx.le
      unfold maxLen at hmax
      have HC := Lib.hid hc
      have HCY := Lib.hid hcy
      have HT : Hid ((∀ t, t < xs.length → xs.getD t 0 = ys.getD t 0) → decide (xs = ys) = true) := Lib.hid (fun h => by simpa using getD_ext hl h)
      have HF : Hid (∀ t, xs.getD t 0 ≠ ys.getD t 0 → decide (xs = ys) = false) := Lib.hid (fun t h => by
        simp only [decide_eq_false_iff_not]
        intro e
        subst e
        exact h rfl)
      clear hc hcy hx hy hne hney
      rw [← hl] at HCY ⊢
      generalize hn : xs.length = n at *
      have HN := Lib.hid hn
      clear hn hl
      generalize decide (xs = ys) = res at *
      go_enter Try.func18, Try.ntmps18
      go_wp2
      go_loopg [13] n (fun kx s13 wr => ∃ (k : Nat) (e : Later w), s13 = .int .i64 k ∧ k ≤ n ∧ n - k ≤ kx ∧ wr = e.w ∧ Hid (∀ t, t < k → xs.getD t 0 = ys.getD t 0))
      case atStart => exact ⟨0, ⟨_, Below.refl _ _⟩, rfl, by omega, by omega, rfl, Lib.hid (fun t ht => absurd ht (Nat.not_lt_zero _))⟩
      case round =>
        obtain ⟨k, e, rfl, hk, hkx, rfl, HQ⟩ := hrel
        have hes := e.h.size
        by_cases hlt : k < n
        · have hc1 : e.w.cell? ⟨bX, off + k, none⟩ = some (.int .u32 (xs.getD k 0)) := by
            rw [e.h.cell (p := ⟨bX, off + k, none⟩) hb]
            exact HC.out k hlt
          have hc2 : e.w.cell? ⟨bY, ofy + k, none⟩ = some (.int .u32 (ys.getD k 0)) := by
            rw [e.h.cell (p := ⟨bY, ofy + k, none⟩) hby]
            exact HCY.out k hlt
          have hk1 : (0 : Int) ≤ (k : Int) := by omega
          have hk2 : (k : Int) < n := by omega
          have HG : Hid (xs.getD k 0 = ys.getD k 0 → ∀ t, t < k + 1 → xs.getD t 0 = ys.getD t 0) := Lib.hid (fun h t ht => by
            by_cases e : t = k
            · subst e; exact h
            · exact HQ.out t (by omega))
          have HB := Lib.hid (HF.out k)
          generalize xs.getD k 0 = x at hc1 HG HB
          generalize ys.getD k 0 = y at hc2 HG HB
          by_cases hxy : x = y
          · have HG2 := Lib.hid (HG.out hxy)
            go_wp2
            go_quiet (fail)
            go_wp2
            go_roundg (n - (k + 1))
            case measure => omega
            case rel => exact ⟨k + 1, ⟨_, below_drewN e.h _⟩, by go_num, by omega, by omega, rfl, HG2⟩
          · have H := Lib.hid (HB.out hxy)
            go_wp2
            go_quiet (fail)
            go_wp2
            go_ret
            exact ⟨by rw [H.out]; first | done | rfl, below_drewN e.h _⟩
        · obtain rfl : k = n := by omega
          have H := Lib.hid (HT.out HQ.out)
          go_wp2
          go_ret
          exact ⟨by rw [H.out]; first | done | rfl, e.h⟩
  · have H := Lib.hid (show decide (xs = ys) = false by simp only [decide_eq_false_iff_not]; intro e; subst e; exact hl rfl)
    have hl2 : ((xs.length : Int) == (ys.length : Int)) = false := by simp; omega
    have hl3 : ¬ (xs.length : Int) = (ys.length : Int) := by omega
    clear hx hy
    go_enter Try.func18, Try.ntmps18
    go_wp2
    go_ret
    exact ⟨by rw [H.out]; first | done | rfl, by (repeat' (first | (with_reducible exact Below.refl _ _) | (with_reducible assumption) | (with_reducible refine below_alloc ?_ _) | (with_reducible refine Below.drew ?_) | (with_reducible refine below_drewN ?_ _) | (with_reducible refine below_step (by assumption) ?_) | (with_reducible refine below_later ?_ _) | (with_reducible refine Below.setCell ?_ ?_ _) | go_size))⟩

/-- One operation of a region of open order by a law on lists of operations. -/
theorem step_of_list {P : Program} {ops : Array Oper} {o : Oper} {a : Act} {w : World} {K : Act → World → Prop} {Q : Exit → Act → World → Prop}
    (h : wpList P ops (fun e a w => e = .normal ∧ K a w) [o] a w) : if Region.wanted o (yielded ops a.tmps) = true then Oper.wp P o a w K Q else K (a.put o.dst undef) w := by
  unfold wpList at h
  split
  · rename_i hw
    rw [if_pos hw] at h
    rcases h with h | ⟨_, _, _, h, _⟩
    · unfold Oper.wp at h ⊢
      generalize (execOp a.eval o).run P w = r at *
      cases r with
      | ok n w' =>
        cases n <;> simp only [Oper.upon, wpList] at h ⊢
        case value => exact h.2
        case skip => exact h.2
        case defer => exact h.2
        case enter =>
          refine Calls.mono h fun e w'' he => ?_
          cases e with
          | returned u => exact he.2
          | panicked c => cases he.1
          | outgrown => obtain ⟨_, _, h, _⟩ := he; cases h
        case row => exact Rows.mono h fun u w'' he => he.2
      | halt x w' =>
        cases x <;> simp only [Oper.upon] at h ⊢
        case panic u => cases h.1
    · cases h
  · rename_i hw
    rw [if_neg hw] at h
    exact h.2
/-- The bytes of a word. -/
def b4 (x : Int) : List Int := [x / 16777216, x / 65536 % 256, x / 256 % 256, x % 256]
def bytesW (ws : List Int) : List Int := ws.flatMap b4
theorem b4_len (x : Int) : (b4 x).length = 4 := rfl
theorem bytesW_take {ws : List Int} {k : Nat} (hk : k < ws.length) : bytesW (ws.take (k + 1)) = bytesW (ws.take k) ++ b4 (ws.getD k 0) := by
  rw [List.take_add_one, List.getElem?_eq_getElem hk]
  unfold bytesW
  rw [List.flatMap_append]
  simp [List.getD, List.getElem?_eq_getElem hk]
theorem bytesW_len (ws : List Int) : (bytesW ws).length = 4 * ws.length := by
  induction ws with
  | nil => rfl
  | cons x ws ih => simp only [bytesW, List.flatMap_cons, List.length_append, b4_len, List.length_cons] at ih ⊢; omega
theorem b4_wrap {x : Int} (h0 : 0 ≤ x) (h1 : x ≤ 4294967295) : [IntKind.u8.wrap (x / 16777216), IntKind.u8.wrap (x / 65536), IntKind.u8.wrap (x / 256), IntKind.u8.wrap x] = b4 x := by
  have e : ∀ y : Int, IntKind.u8.wrap y = y % 256 := fun y => by simp [IntKind.wrap, IntKind.signed, IntKind.bits]
  rw [e, e, e, e]
  unfold b4
  rw [Int.emod_eq_of_lt (a := x / 16777216) (by omega) (by omega)]
theorem b4_byte {x : Int} (h : 0 ≤ x ∧ x ≤ 4294967295) : ByteL (b4 x) := by
  intro y hy
  simp only [b4, List.mem_cons, List.not_mem_nil, or_false] at hy
  rcases hy with rfl | rfl | rfl | rfl <;> omega
theorem bytesW_byte {ws : List Int} (h : ∀ x ∈ ws, 0 ≤ x ∧ x ≤ 4294967295) : ByteL (bytesW ws) := by
  intro y hy
  simp only [bytesW, List.mem_flatMap] at hy
  obtain ⟨x, hx, hy⟩ := hy
  exact b4_byte (h x hx) y hy

set_option maxRecDepth 100000 in
set_option maxHeartbeats 2000000 in
theorem ibytes_any (r : Option Addr) (cap : Nat) (ws : List Int) (w : World) (hx : IsInts w r cap .u32 ws) (hl : ws.length ≤ 100000) : Calls Try.prog 16 #[.slice r ws.length cap] w fun e w' => ∃ ro co, e = .returned (.tuple #[.slice ro (bytesW ws).length co, .int .i64 0]) ∧ OwnK .u8 5 w' w.heap.size ro co (bytesW ws) ∧ Below w.heap.size w w' := by
  have HX : Hid (ws = [] ∨ ∃ b off, r = some ⟨b, off, none⟩ ∧ b < w.heap.size ∧ ∀ i, i < ws.length → w.cell? ⟨b, off + i, none⟩ = some (.int .u32 (ws.getD i 0))) := Lib.hid (by
    by_cases e : ws = []
    · exact .inl e
    · exact .inr (hx.cells e))
  have HS : Hid (∀ k, k < ws.length → bytesW (ws.take (k + 1)) = bytesW (ws.take k) ++ b4 (ws.getD k 0)) := Lib.hid (fun k hk => bytesW_take hk)
  have HW : Hid (∀ k, k < ws.length → 0 ≤ ws.getD k 0 ∧ ws.getD k 0 ≤ 4294967295) := Lib.hid (fun k hk => wf_u32 (hx.wf _ (getD_mem' hk)))
  have HLN : Hid (∀ k, k ≤ ws.length → (bytesW (ws.take k)).length = 4 * k) := Lib.hid (fun k hk => by rw [bytesW_len, List.length_take]; omega)
  have HE : Hid (bytesW (ws.take ws.length) = bytesW ws) := Lib.hid (by rw [List.take_length])
  have HE2 : Hid ((bytesW ws).length = 4 * ws.length) := Lib.hid (bytesW_len ws)
  have hl2 : ¬ (100000 : Int) < ws.length := by omega
  clear hx
  generalize bytesW ws = res at *
  generalize hn : ws.length = n at *
  have HN := Lib.hid hn
  clear hn
  go_enter Try.func16, Try.ntmps16
  go_wp2
  go_loopg [4, 12] n (fun kx s4 s12 wr => ∃ (k : Nat) (e : Later w) (ro : Option Addr) (co : Nat) (out : List Int), s4 = .slice ro out.length co ∧ s12 = .int .i64 k ∧ k ≤ n ∧ n - k ≤ kx ∧ wr = e.w ∧ out.length ≤ 400000 ∧ Hid (OwnK .u8 5 e.w w.heap.size ro co out) ∧ Hid (out = bytesW (ws.take k)))
  case atStart => exact ⟨0, ⟨w, Below.refl _ _⟩, none, 0, [], rfl, rfl, by omega, by omega, rfl, by simp, Lib.hid (OwnK.nil _ _), Lib.hid rfl⟩
  case round =>
    obtain ⟨k, e, ro, co, out, rfl, rfl, hk, hkx, rfl, hol, HO, HQ⟩ := hrel
    have hes := e.h.size
    by_cases hlt : k < n
    · have hk1 : (0 : Int) ≤ (k : Int) := by omega
      have hk2 : (k : Int) < n := by omega
      obtain ⟨bX, off, rfl, hb, hc⟩ := HX.out.resolve_left (fun e => by have := HN.out; rw [e] at this; simp at this; omega)
      have hc1 : e.w.cell? ⟨bX, off + k, none⟩ = some (.int .u32 (ws.getD k 0)) := by
        rw [Later.cell e hb]; exact hc k hlt
      have ⟨x0, x1⟩ := HW.out k hlt
      have HQ2 := Lib.hid (HS.out k hlt)
      rw [← HQ.out] at HQ2
      have hl3 : (out ++ b4 (ws.getD k 0)).length ≤ 400000 := by rw [← HQ2.out, HLN.out _ (by omega)]; omega
      clear hc
      generalize ws.getD k 0 = x at *
      go_wp2_with (at_builtin; refine wpList_append_k Try.underlying29 infoU8 rfl (by omega) (by rfl) _ _ (by rfl) e.w w.heap.size ro co out (b4 x) 4 rfl (by omega) (by rfl) (by rfl) (by rfl) HO.out (by omega) (by omega) ?_; intro r' c' w1 hown1 hbw1)
      have HO1 := Lib.hid hown1
      clear hown1
      go_roundg (n - (k + 1))
      case measure => omega
      case rel => exact ⟨k + 1, ⟨w1, e.h.trans hbw1⟩, r', c', out ++ b4 x, by simp [b4], by go_num, by omega, by omega, rfl, hl3, HO1, Lib.hid HQ2.out.symm⟩
    · obtain rfl : k = n := by omega
      have HQ3 : Hid (out = res) := Lib.hid (HQ.out.trans HE.out)
      have hol2 := HQ3.out
      clear HQ
      go_wp2
      go_ret2
      refine ⟨ro, co, by first | rfl | (rw [hol2]; rfl), ?_, e.h⟩
      rw [← HQ3.out]
      exact HO.out

set_option maxRecDepth 100000 in
set_option maxHeartbeats 2000000 in
theorem rbytes_any (r : Option Addr) (cap : Nat) (ws : List Int) (w : World) (hx : IsInts w r cap .u32 ws) (hl : ws.length ≤ 100000) : Calls Try.prog 20 #[.slice r ws.length cap] w fun e w' => ∃ ro co, e = .returned (.slice ro (bytesW ws).length co) ∧ OwnK .u8 5 w' w.heap.size ro co (bytesW ws) ∧ Below w.heap.size w w' := by
  have HX : Hid (ws = [] ∨ ∃ b off, r = some ⟨b, off, none⟩ ∧ b < w.heap.size ∧ ∀ i, i < ws.length → w.cell? ⟨b, off + i, none⟩ = some (.int .u32 (ws.getD i 0))) := Lib.hid (by
    by_cases e : ws = []
    · exact .inl e
    · exact .inr (hx.cells e))
  have HS : Hid (∀ k, k < ws.length → bytesW (ws.take (k + 1)) = bytesW (ws.take k) ++ b4 (ws.getD k 0)) := Lib.hid (fun k hk => bytesW_take hk)
  have HW : Hid (∀ k, k < ws.length → 0 ≤ ws.getD k 0 ∧ ws.getD k 0 ≤ 4294967295) := Lib.hid (fun k hk => wf_u32 (hx.wf _ (getD_mem' hk)))
  have HLN : Hid (∀ k, k ≤ ws.length → (bytesW (ws.take k)).length = 4 * k) := Lib.hid (fun k hk => by rw [bytesW_len, List.length_take]; omega)
  have HE : Hid (bytesW (ws.take ws.length) = bytesW ws) := Lib.hid (by rw [List.take_length])
  have HE2 : Hid ((bytesW ws).length = 4 * ws.length) := Lib.hid (bytesW_len ws)
  have hl2 : ¬ (100000 : Int) < ws.length := by omega
  clear hx
  generalize bytesW ws = res at *
  generalize hn : ws.length = n at *
  have HN := Lib.hid hn
  clear hn
  go_enter Try.func20, Try.ntmps20
  go_wp2
  go_loopg [3, 4] n (fun kx s3 s4 wr => ∃ (k : Nat) (e : Later w) (ro : Option Addr) (co : Nat) (out : List Int), s3 = .slice ro out.length co ∧ s4 = .int .i64 k ∧ k ≤ n ∧ n - k ≤ kx ∧ wr = e.w ∧ out.length ≤ 400000 ∧ Hid (OwnK .u8 5 e.w w.heap.size ro co out) ∧ Hid (out = bytesW (ws.take k)))
  case atStart => exact ⟨0, ⟨w, Below.refl _ _⟩, none, 0, [], rfl, rfl, by omega, by omega, rfl, by simp, Lib.hid (OwnK.nil _ _), Lib.hid rfl⟩
  case round =>
    obtain ⟨k, e, ro, co, out, rfl, rfl, hk, hkx, rfl, hol, HO, HQ⟩ := hrel
    have hes := e.h.size
    by_cases hlt : k < n
    · have hk1 : (0 : Int) ≤ (k : Int) := by omega
      have hk2 : (k : Int) < n := by omega
      obtain ⟨bX, off, rfl, hb, hc⟩ := HX.out.resolve_left (fun e => by have := HN.out; rw [e] at this; simp at this; omega)
      have hc1 : e.w.cell? ⟨bX, off + k, none⟩ = some (.int .u32 (ws.getD k 0)) := by
        rw [Later.cell e hb]; exact hc k hlt
      have ⟨x0, x1⟩ := HW.out k hlt
      have HQ2 := Lib.hid (HS.out k hlt)
      rw [← HQ.out] at HQ2
      have hl3 : (out ++ b4 (ws.getD k 0)).length ≤ 400000 := by rw [← HQ2.out, HLN.out _ (by omega)]; omega
      clear hc
      generalize ws.getD k 0 = x at *
      go_wp2
      go_region_held3 (fun w' => w'.cell? ⟨bX, off + k, none⟩ = some (.int .u32 x)) (first | go_keep | assumption) (((refine step_of_list ?_); (refine wpList_append_k Try.underlying29 infoU8 rfl (by omega) (by rfl) _ _ (by rfl) e.w.drew w.heap.size ro co out (b4 x) 4 rfl (by omega) (by rw [← b4_wrap x0 x1]; rfl) (by rfl) (by rfl) (HO.out.below (Below.refl _ _).drew (Nat.le_refl _)) (by omega) hes ?_); (intro r' c' w1 hown1 hbw1); (have HO1 := Lib.hid hown1); (clear hown1); (have hcw1 : w1.cell? ⟨bX, off + k, none⟩ = some (.int .u32 x) := by rw [hbw1.cell (p := ⟨bX, off + k, none⟩) hb]; exact hc1); (refine ⟨rfl, ?_⟩)))
      go_wp2
      go_roundg (n - (k + 1))
      case measure => omega
      case rel => exact ⟨k + 1, ⟨w1, e.h.trans ((Below.refl _ _).drew.trans hbw1)⟩, r', c', out ++ b4 x, by simp [b4], by go_num, by omega, by omega, rfl, hl3, HO1, Lib.hid HQ2.out.symm⟩
    · obtain rfl : k = n := by omega
      have HQ3 : Hid (out = res) := Lib.hid (HQ.out.trans HE.out)
      have hol2 := HQ3.out
      clear HQ
      go_wp2
      go_ret
      refine ⟨ro, co, by first | rfl | (rw [hol2]; rfl), ?_, e.h⟩
      rw [← HQ3.out]
      exact HO.out
end Go.Proofs.Ytfooefiaenlhmaa
