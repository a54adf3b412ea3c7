/- Chunks of four bytes: the library's iterator. -/
import Derived.Test.YtfooefiaenlhmaaImgC
import Derived.RangeFuncNested
import Derived.RangeFuncBound
import Derived.RangeFuncCalls
import Derived.RangeFuncLeaves
import Derived.RangeFuncBox
import Derived.Shelf.Abstract
import Derived.Shelf.RegionOpen
import Derived.WalkKit
import Derived.OwnWalkIn
import Derived.TacticsInMore
import Derived.LoopNIn
import Derived.LoopIn
import Derived.Maps.AppendAt
namespace Go.Proofs.Ytfooefiaenlhmaa
set_option linter.unusedVariables false
set_option linter.unusedSimpArgs false
open Go.RowKit Go.ChangeShapes Go.WideShapes Go.ChangeAt Go.Shelf
attribute [local go_sem] Oper.semAt_some

/-- What lies below B stays, but for the block Bo. -/
structure KeepB (B Bo : Nat) (W W' : World) : Prop where
  zero : Below 0 W W'
  block : ∀ q, q < B → q ≠ Bo → W'.heap[q]? = W.heap[q]?
theorem KeepB.refl (B Bo : Nat) (W : World) : KeepB B Bo W W := ⟨Below.refl _ _, fun _ _ _ => rfl⟩
theorem KeepB.trans {B Bo : Nat} {W W' W'' : World} (h : KeepB B Bo W W') (k : KeepB B Bo W' W'') : KeepB B Bo W W'' :=
  ⟨h.zero.trans k.zero, fun q hq hn => (k.block q hq hn).trans (h.block q hq hn)⟩
theorem KeepB.put {B Bo : Nat} (W : World) (l : Nat) (o o' : Obj) (hl : B ≤ l) (h : W.heap[l]? = some o) : KeepB B Bo W (W.putObj l o') :=
  ⟨(Below.refl 0 W).grown (grownBy_putObj' W l o') (Nat.zero_le _) (fun k e => by cases e; exact Nat.zero_le _), fun q hq _ => World.putObj_heap_other (by omega)⟩
theorem KeepB.below {B Bo n : Nat} {W W' : World} (h : KeepB B Bo W W') (hn : n ≤ B) (ho : n ≤ Bo) : Below n W W' :=
  ⟨h.zero.os, h.zero.tape, h.zero.output, h.zero.size, fun k hk => h.block k (by omega) (by omega)⟩
theorem KeepB.cell {B Bo q o : Nat} {W W' : World} (h : KeepB B Bo W W') (hq : q < B) (hn : q ≠ Bo) : W'.cell? ⟨q, o, none⟩ = W.cell? ⟨q, o, none⟩ :=
  World.cell?_of_block (a := ⟨q, o, none⟩) (h.block q hq hn)
/-- The number of a chunk. -/
def Ch (n : Nat) : Type := { k : Nat // 4 * k < n }
def chEnc (b off n : Nat) (x : Ch n) : Array Value := #[.slice (some ⟨b, off + 4 * x.1, none⟩) (min 4 (n - 4 * x.1)) (min 4 (n - 4 * x.1))]
def chL (n k : Nat) : List (Ch n) := (List.range k).filterMap fun i => if h : 4 * i < n then some ⟨i, h⟩ else none
theorem chL_succ {n k : Nat} (h : 4 * k < n) : chL n (k + 1) = chL n k ++ [⟨k, h⟩] := by
  unfold chL
  rw [List.range_succ, List.filterMap_append]
  simp only [List.filterMap_cons, List.filterMap_nil, dif_pos h]
theorem chL_len {n k : Nat} (h : ∀ i, i < k → 4 * i < n) : (chL n k).length = k := by
  induction k with
  | zero => rfl
  | succ k ih => rw [chL_succ (h k (by omega)), List.length_append, ih (fun i hi => h i (by omega))]; rfl
theorem min4 {n k : Nat} : (min (4 : Int) ((n : Int) - (4 * k : Nat))).toNat = min 4 (n - 4 * k) := by omega

set_option maxRecDepth 100000 in
set_option maxHeartbeats 2000000 in
theorem chunk1_in (l B1 B2 B Bo b off n cap : Nat) (hn : 0 < n) (hcap : n ≤ cap) (hmax : n ≤ 1000000) (hb : b < B) (hbo : b ≠ Bo) (h1 : B1 < B) (h1o : B1 ≠ Bo) (h2 : B2 < B) (h2o : B2 ≠ Bo) (J Jx : List (Ch n) → World → Prop) (W : World) (hJa : AbidesFrom W.heap.size J)
    (hY : ∀ pre x W1, J pre W1 → pre.length < n → YieldAt Fence.wide (9 - 1) Try.prog l (chEnc b off n x) W1 fun e W' =>
      (e = .returned (.bool true) ∧ J (pre ++ [x]) W' ∧ KeepB B Bo W1 W') ∨ (e = .returned (.bool false) ∧ Jx (pre ++ [x]) W'))
    (hc1 : W.cell? ⟨B1, 0, none⟩ = some (.slice (some ⟨b, off, none⟩) n cap)) (hc2 : W.cell? ⟨B2, 0, none⟩ = some (.int .i64 4)) (h0 : J [] W) :
    CallsIn Fence.wide 9 Try.prog 84 #[.func (.yield l) #[] #[], .pointer (some ⟨B1, 0, none⟩), .pointer (some ⟨B2, 0, none⟩)] W fun e W' => (∃ v, e = .returned v) ∧
      ((∃ ys, ys = chL n ((n + 3) / 4) ∧ J ys W') ∨ (∃ pre, True ∧ Jx pre W')) := by
  have hmx : (Try.prog.follows .mixedOrders) = true := by kernel_rfl
  refine callsIn_of_wp Try.func84 rfl trivial ?_ rfl
  simp only [Try.ntmps84, List.size_toArray, List.length_cons, List.length_nil, Nat.reduceAdd, Nat.reduceSub, Array.replicate_succ, Array.replicate_zero, List.push_toArray, List.append_toArray, List.nil_append, List.cons_append]
  gi_wp2
  gi_loopw [4] (fun i wr => ∃ k : Nat, i = .int .i64 ((4 * k : Nat) : Int) ∧ k ≤ (n + 3) / 4 ∧ J (chL n k) wr ∧ KeepB B Bo W wr) (fun i _ => n + 4 - (intOf i).toNat)
  case atStart => exact ⟨0, rfl, Nat.zero_le _, h0, KeepB.refl _ _ _⟩
  case round =>
    obtain ⟨k, rfl, hk, hJs, hK⟩ := hrel
    have hc1 : wr.cell? ⟨B1, 0, none⟩ = some (.slice (some ⟨b, off, none⟩) n cap) := (hK.cell h1 h1o).trans hc1
    have hc2 : wr.cell? ⟨B2, 0, none⟩ = some (.int .i64 4) := (hK.cell h2 h2o).trans hc2
    by_cases hlt : 4 * k < n
    · have hJd : J (chL n k) wr.drew := hJa _ _ _ none hJs ⟨rfl, rfl, rfl, Nat.le_refl _, fun _ _ _ => rfl⟩ (fun r e => by cases e)
      obtain ⟨fn, tmps, assign, body, hy, hR⟩ := hY _ ⟨k, hlt⟩ wr.drew hJd (by rw [chL_len (fun i hi => by omega)]; omega)
      have hd1 : wr.drew.cell? ⟨B1, 0, none⟩ = some (.slice (some ⟨b, off, none⟩) n cap) := hc1
      have hd2 : wr.drew.cell? ⟨B2, 0, none⟩ = some (.int .i64 4) := hc2
      have hle : ((4 * k : Nat) : Int) < n := by omega
      simp only [chEnc] at hy
      by_cases h4 : 4 ≤ n - 4 * k
      · have hy2 := hy
        rw [show min 4 (n - 4 * k) = 4 by omega] at hy2
        rw [show min 4 (n - 4 * k) = (4 * (k : Int) + 4).toNat - 4 * k by omega] at hy
        gi_wp2
        gi_region_with_o (fail)
        all_goals first | (exfalso; omega) | skip
        all_goals
          gi_wp2
          refine hR.mono ?_
          rintro e W3 (⟨rfl, hJ3, hk3⟩ | ⟨rfl, hJx3⟩)
          · have hc2 : W3.cell? ⟨B2, 0, none⟩ = some (.int .i64 4) := (hk3.cell h2 h2o).trans hc2
            gi_wp2
            go_roundw
            case rel => exact ⟨k + 1, by go_num, by omega, by rw [chL_succ hlt]; exact hJ3, hK.trans (KeepB.trans ⟨(Below.refl _ _).drew, fun _ _ _ => rfl⟩ hk3)⟩
            case measure => simp [intOf]; omega
          · gi_wp2
            refine bodyPost_ret (results_none rfl _ _ _) rfl ?_
            exact ⟨⟨_, rfl⟩, .inr ⟨_, trivial, hJx3⟩⟩
      · have hy2 := hy
        rw [show min 4 (n - 4 * k) = n - 4 * k by omega] at hy2
        rw [show min 4 (n - 4 * k) = (4 * (k : Int) + ((n - 4 * k : Nat) : Int)).toNat - 4 * k by omega] at hy
        gi_wp2
        gi_region_with_o (fail)
        all_goals first | (exfalso; omega) | skip
        all_goals
          gi_wp2
          refine hR.mono ?_
          rintro e W3 (⟨rfl, hJ3, hk3⟩ | ⟨rfl, hJx3⟩)
          · have hc2 : W3.cell? ⟨B2, 0, none⟩ = some (.int .i64 4) := (hk3.cell h2 h2o).trans hc2
            gi_wp2
            go_roundw
            case rel => exact ⟨k + 1, by go_num, by omega, by rw [chL_succ hlt]; exact hJ3, hK.trans (KeepB.trans ⟨(Below.refl _ _).drew, fun _ _ _ => rfl⟩ hk3)⟩
            case measure => simp [intOf]; omega
          · gi_wp2
            refine bodyPost_ret (results_none rfl _ _ _) rfl ?_
            exact ⟨⟨_, rfl⟩, .inr ⟨_, trivial, hJx3⟩⟩
    · obtain rfl : k = (n + 3) / 4 := by omega
      have hle : ¬ (((4 * ((n + 3) / 4) : Nat) : Int) < n) := by omega
      gi_wp2
      go_end0
      exact ⟨⟨_, rfl⟩, .inl hJs⟩

set_option maxRecDepth 100000 in
set_option maxHeartbeats 2000000 in
theorem chunk0_in (l B1 B2 cap : Nat) (r : Option Addr) (J : List (Ch 0) → World → Prop) (W : World)
    (hc1 : W.cell? ⟨B1, 0, none⟩ = some (.slice r 0 cap)) (hc2 : W.cell? ⟨B2, 0, none⟩ = some (.int .i64 4)) (h0 : J [] W) :
    CallsIn Fence.wide 9 Try.prog 84 #[.func (.yield l) #[] #[], .pointer (some ⟨B1, 0, none⟩), .pointer (some ⟨B2, 0, none⟩)] W fun e W' => (∃ v, e = .returned v) ∧ J [] W' := by
  refine callsIn_of_wp Try.func84 rfl trivial ?_ rfl
  simp only [Try.ntmps84, List.size_toArray, List.length_cons, List.length_nil, Nat.reduceAdd, Nat.reduceSub, Array.replicate_succ, Array.replicate_zero, List.push_toArray, List.append_toArray, List.nil_append, List.cons_append]
  gi_wp2
  gi_loopw [4] (fun i wr => i = .int .i64 0 ∧ wr = W) (fun i _ => 0)
  case atStart => exact ⟨rfl, rfl⟩
  case round =>
    obtain ⟨rfl, rfl⟩ := hrel
    gi_wp2
    go_end0
    exact ⟨⟨_, rfl⟩, h0⟩

set_option maxRecDepth 100000 in
set_option maxHeartbeats 2000000 in
theorem chunk_in (r : Option Addr) (n cap : Nat) (w : World) :
    CallsIn Fence.wide 9 Try.prog 44 #[.slice r n cap, .int .i64 4] w fun e w' => e = .returned (.func (.func 84) #[] #[.pointer (some ⟨w.heap.size, 0, none⟩), .pointer (some ⟨w.heap.size + 1, 0, none⟩)]) ∧ w' = (w.alloc (.cells #[.slice r n cap] 29)).alloc (.cells #[.int .i64 4] 3) := by
  refine callsIn_of_wp Try.func44 rfl trivial ?_ rfl
  simp only [Try.ntmps44, List.size_toArray, List.length_cons, List.length_nil, Nat.reduceAdd, Nat.reduceSub, Array.replicate_succ, Array.replicate_zero, List.push_toArray, List.append_toArray, List.nil_append, List.cons_append]
  gi_wp2
  go_ret
  exact ⟨rfl, rfl⟩

/-- The chunks of a slice of bytes come one after the other. -/
theorem chunk_seq (B1 B2 B Bo cap : Nat) (r : Option Addr) (bs : List Int) (w : World) (hmax : bs.length ≤ 1000000) (hx : IsInts w r cap .u8 bs) (hB : w.heap.size ≤ B) (hob : bs ≠ [] → ∀ a, r = some a → a.block ≠ Bo)
    (h1 : B1 < w.heap.size) (h1o : B1 ≠ Bo) (h2 : B2 < w.heap.size) (h2o : B2 ≠ Bo) (hc1 : w.cell? ⟨B1, 0, none⟩ = some (.slice r bs.length cap)) (hc2 : w.cell? ⟨B2, 0, none⟩ = some (.int .i64 4)) :
    ∃ b off, (0 < bs.length → b < w.heap.size ∧ b ≠ Bo ∧ ∀ i, i < bs.length → w.cell? ⟨b, off + i, none⟩ = some (.int .u8 (bs.getD i 0))) ∧
      SeqStopsK Fence.wide 9 Try.prog 84 #[.pointer (some ⟨B1, 0, none⟩), .pointer (some ⟨B2, 0, none⟩)] (chEnc b off bs.length) (KeepB B Bo) (fun ys => ys = chL bs.length ((bs.length + 3) / 4)) (fun _ => True) bs.length w := by
  by_cases hne : bs = []
  · subst hne
    refine ⟨0, 0, fun h => absurd h (Nat.lt_irrefl 0), fun l J Jx W hW hJ hJx hY h0 => ?_⟩
    refine (chunk0_in l B1 B2 cap r J W ?_ ?_ h0).mono ?_
    · exact (hW.cell (p := ⟨B1, 0, none⟩) h1).trans hc1
    · exact (hW.cell (p := ⟨B2, 0, none⟩) h2).trans hc2
    · rintro e W' ⟨he, hj⟩
      exact ⟨he, .inl ⟨[], rfl, hj⟩⟩
  · obtain ⟨b, off, rfl, hb, hc⟩ := hx.cells hne
    have hlen : 0 < bs.length := List.length_pos_iff.2 hne
    refine ⟨b, off, fun _ => ⟨hb, hob hne _ rfl, hc⟩, fun l J Jx W hW hJ hJx hY h0 => ?_⟩
    exact chunk1_in l B1 B2 B Bo b off bs.length cap hlen hx.le hmax (by omega) (hob hne _ rfl) (by omega) h1o (by omega) h2o J Jx W hJ hY ((hW.cell (p := ⟨B1, 0, none⟩) h1).trans hc1) ((hW.cell (p := ⟨B2, 0, none⟩) h2).trans hc2) h0

/-- A collector's box: what a round keeps. -/
theorem box_append {W w1 : World} {B Bo : Nat} {t e : TypeId} {size : Nat} {v v' : Value} {k m : Nat} {xs ys : List Value} {tmp : Obj}
    (hv : Boxed W Bo t v) (hte : t ≠ e) (hrow : W.ownsRow B e size v k xs) (hB : B ≤ W.heap.size) (hown' : w1.ownsRow B e size v' m ys) (hgrow : (W.alloc tmp).grownBy w1 v.ownBlock) :
    Boxed w1 Bo t v ∧ Boxed (w1.setCell ⟨Bo, 0, none⟩ v') Bo t v' ∧ (w1.setCell ⟨Bo, 0, none⟩ v').ownsRow B e size v' m ys ∧ KeepsOthers W (w1.setCell ⟨Bo, 0, none⟩ v') ∧ KeepB B Bo W (w1.setCell ⟨Bo, 0, none⟩ v') := by
  have hv1 : Boxed w1 Bo t v := (hv.alloc tmp).kept hgrow (hv.not_row hte hrow)
  have hge : ∀ j, v.ownBlock = some j → B ≤ j := fun j ej => by
    rcases hrow.2 with ⟨rfl, _⟩ | ⟨g, cap, cur, rfl, hb, _, _⟩
    · simp [Value.ownBlock] at ej
    · obtain rfl : g = j := by simpa [Value.ownBlock] using ej
      exact hb
  refine ⟨hv1, hv1.set v', hown'.kept (grownBy_setCell' w1 Bo v') (.inr (hv1.not_row hte hown').symm), ?_, ?_, ?_⟩
  · refine ((KeepsOthers.alloc W tmp).trans (KeepsOthers.of_grownBy hgrow fun j o ej hj => ?_)).trans (KeepsOthers.setCell _ _ _)
    rcases (hrow.alloc tmp).2 with ⟨rfl, _⟩ | ⟨g, cap, cur, rfl, _, hgb, _⟩
    · simp [Value.ownBlock] at ej
    · obtain rfl : g = j := by simpa [Value.ownBlock] using ej
      rw [hgb] at hj; cases hj; rfl
  · exact (((Below.refl 0 W).alloc (Nat.zero_le _) tmp).grown hgrow (Nat.zero_le _) fun j ej => Nat.zero_le _).setCell (p := ⟨Bo, 0, none⟩) (Nat.zero_le _) v'
  · intro q hq hqo
    rw [Below.heap_setCell _ _ _ _ hqo, hgrow.block q (by rw [World.size_alloc]; omega) (fun e => by have := hge q e.symm; omega), Below.heap_alloc _ _ _ (by omega)]
end Go.Proofs.Ytfooefiaenlhmaa
