/- Contract of phase.Run. Printed by a program. -/
import Derived.Test.YtoninaidinnbgaaPhaseR
import Derived.Test.YtoninaidinnbgaaOwnS
import Derived.Deep.RegionHeld3
namespace Go.Proofs.Ytoninaidinnbgaa
set_option linter.unusedVariables false
set_option linter.unusedSimpArgs false
open Go.RowKit Go.ChangeShapes Go.WideShapes Go.ChangeAt

def phC (p : Ph) : List Value := [.bool p.known, .int .i64 p.half, .int .i64 p.count, .bool p.seen]
theorem phC_len (p : Ph) : (phC p).length = 4 := rfl
theorem phC_one (p : Ph) : ∀ u ∈ phC p, u.oneCell' = true := by
  intro u hu
  simp only [phC, List.mem_cons, List.not_mem_nil, or_false] at hu
  rcases hu with rfl | rfl | rfl | rfl <;> rfl
theorem infoPhase : (Try.prog.info? 34).map (fun i => (i.zero, i.size, i.bytes)) = some (some (.agg #[.bool false, .int .i64 0, .int .i64 0, .bool false]), 4, 32) := by kernel_rfl
theorem OwnR.set {α : Type} {t : TypeId} {sz : Nat} {enc : α → List Value} {W : World} {base : Nat} {r : Option Addr} {cap : Nat} {xs : List α} (h : OwnR t sz enc W base r cap xs) {a : Addr} (ha : a.block < base) (u : Value) : OwnR t sz enc (W.setCell a u) base r cap xs := ownsRow_setCell_below h ha u
theorem IsInts.set {W : World} {r : Option Addr} {cap : Nat} {k : IntKind} {xs : List Int} (h : IsInts W r cap k xs) {a : Addr} (ha : ∀ q, r = some q → a.block ≠ q.block) (u : Value) : IsInts (W.setCell a u) r cap k xs :=
  ⟨h.le, h.max, h.wf, fun hne => by
    obtain ⟨b, off, rfl, h2, h3⟩ := h.cells hne
    refine ⟨b, off, rfl, by simpa using h2, fun i hi => ?_⟩
    rw [World.cell?_setCell_far _ _ ⟨b, off + i, none⟩ _ (ha ⟨b, off, none⟩ rfl)]
    exact h3 i hi⟩
theorem IsInts.keep {W W' : World} {r : Option Addr} {cap : Nat} {k : IntKind} {xs : List Int} {L : Nat} (h : IsInts W r cap k xs) (hb : Below L W W') (hL : ∀ q, r = some q → q.block < L) : IsInts W' r cap k xs :=
  ⟨h.le, h.max, h.wf, fun hne => by
    obtain ⟨b, off, rfl, h2, h3⟩ := h.cells hne
    refine ⟨b, off, rfl, Nat.lt_of_lt_of_le h2 hb.size, fun i hi => ?_⟩
    rw [hb.cell (p := ⟨b, off + i, none⟩) (hL ⟨b, off, none⟩ rfl)]
    exact h3 i hi⟩
/-- A phase is stored. -/
abbrev set4 (W : World) (B : Nat) (k : Bool) (h c : Int) (s : Bool) : World := (((W.setCell ⟨B, 0, none⟩ (.bool k)).setCell ⟨B, 1, none⟩ (.int .i64 h)).setCell ⟨B, 2, none⟩ (.int .i64 c)).setCell ⟨B, 3, none⟩ (.bool s)
theorem OwnR.set4 {α : Type} {t : TypeId} {sz : Nat} {enc : α → List Value} {W : World} {base : Nat} {r : Option Addr} {cap : Nat} {xs : List α} (h : OwnR t sz enc W base r cap xs) {B : Nat} (hB : B < base) (k : Bool) (a c : Int) (s : Bool) : OwnR t sz enc (set4 W B k a c s) base r cap xs :=
  (((h.set (a := ⟨B, 0, none⟩) hB _).set (a := ⟨B, 1, none⟩) hB _).set (a := ⟨B, 2, none⟩) hB _).set (a := ⟨B, 3, none⟩) hB _
theorem IsInts.set4 {W : World} {r : Option Addr} {cap : Nat} {kk : IntKind} {xs : List Int} (h : IsInts W r cap kk xs) {B : Nat} (hB : ∀ q, r = some q → B ≠ q.block) (k : Bool) (a c : Int) (s : Bool) : IsInts (set4 W B k a c s) r cap kk xs :=
  (((h.set (a := ⟨B, 0, none⟩) hB _).set (a := ⟨B, 1, none⟩) hB _).set (a := ⟨B, 2, none⟩) hB _).set (a := ⟨B, 3, none⟩) hB _
theorem IsInts.tailOne {W : World} {b off : Nat} {cap : Nat} {k : IntKind} {x : Int} {xs : List Int} (h : IsInts W (some ⟨b, off, none⟩) cap k (x :: xs)) (hc : cap ≠ 1) : IsInts W (some ⟨b, off + 1, none⟩) (cap - 1) k xs :=
  ⟨by have := h.le; simp at this; omega, by have := h.max; omega, fun y hy => h.wf y (by simp [hy]), fun _ => by
    obtain ⟨b', off', e, h2, h3⟩ := h.cells (by simp)
    simp only [Option.some.injEq, Addr.mk.injEq, and_true] at e
    obtain ⟨rfl, rfl⟩ := e
    refine ⟨b, off + 1, rfl, h2, fun i hi => ?_⟩
    have := h3 (i + 1) (by simp; omega)
    rw [show off + 1 + i = off + (i + 1) by omega]
    simpa using this⟩
theorem IsInts.tailNil {W : World} {r r' : Option Addr} {cap : Nat} {k : IntKind} {x : Int} {xs : List Int} (h : IsInts W r cap k (x :: xs)) (hc : cap = 1) : xs = [] ∧ IsInts W r' 0 k xs := by
  have h1 := h.le
  have : xs = [] := by
    subst hc
    simp at h1
    exact h1
  subst this
  exact ⟨rfl, ⟨by simp, by simp, by simp, fun h => absurd rfl h⟩⟩
theorem phRun_cons (a b : Int) (p : Ph) (t : Int) (ts es : List Int) (q : Ph) (rest : List Int) (h : phEdges t p es = (q, rest)) : phRun a b p (t :: ts) es = q.turn a b :: phRun a b (q.turn a b) ts rest := by
  rw [phRun, h]
theorem max2_run (a b : Int) : ∃ m : Int, (∀ w, (Builtin.max_ #[3, 3] 3 #[.int .i64 a, .int .i64 b]).run Try.prog w = .ok (.int .i64 m) w) ∧ (m = a ∨ m = b) ∧ a ≤ m ∧ b ≤ m := by
  refine ⟨_, fun _ => rfl, ?_⟩
  split <;> omega
theorem run_arg (r r1 r2 : Option Addr) (cap c1 c2 : Nat) (xs ts es : List Int) (w : World) (hx : IsInts w r cap .i64 xs) (hc : camB xs = false) :
    Calls Try.prog 12 #[.agg #[.slice r xs.length cap], .slice r1 ts.length c1, .slice r2 es.length c2] w fun e w' => e = .returned (.tuple #[.slice none 0 0, .int .i64 1]) ∧ Below w.heap.size w w' := by
  have HX : Hid (∀ w', Below w.heap.size w w' → IsInts w' r cap .i64 xs) := Lib.hid (fun _ h => hx.later h)
  have HC := Lib.hid (fun w hx => cam_any r cap xs w hx)
  rw [hc] at HC
  clear hx hc
  go_enter Try.func12, Try.ntmps12
  go_wp2_with ((go_at_call 32; refine (HC.out _ (HX.out _ (by (repeat' (first | (with_reducible exact Below.refl _ _) | (with_reducible assumption) | (with_reducible refine below_alloc ?_ _) | (with_reducible refine Below.drew ?_) | (with_reducible refine below_drewN ?_ _) | (with_reducible refine below_step (by assumption) ?_) | (with_reducible refine below_later ?_ _) | (with_reducible refine Below.setCell ?_ ?_ _) | go_size))))).mono ?_; rintro e hb1w ⟨rfl, hb1⟩; obtain ⟨hb1c, hb1f⟩ := bcell hb1; have hb1s := hb1.size; (try simp only [World.size_alloc] at hb1s); (try (have : w.heap.size < hb1w.heap.size := by omega)); (try (have : w.heap.size + 1 < hb1w.heap.size := by omega)); (try (have : w.heap.size + 1 + 1 < hb1w.heap.size := by omega)); (try (have : w.heap.size + 1 + 1 + 1 < hb1w.heap.size := by omega)); (try (have : bX < hb1w.heap.size := by omega)); (try (have : bY < hb1w.heap.size := by omega)); (try (have : bZ < hb1w.heap.size := by omega))))
  go_ret2
  exact ⟨rfl, by (repeat' (first | (with_reducible exact Below.refl _ _) | (with_reducible assumption) | (with_reducible refine below_alloc ?_ _) | (with_reducible refine Below.drew ?_) | (with_reducible refine below_drewN ?_ _) | (with_reducible refine below_step (by assumption) ?_) | (with_reducible refine below_later ?_ _) | (with_reducible refine Below.setCell ?_ ?_ _) | go_size))⟩
theorem run_range (r r1 r2 : Option Addr) (cap c1 c2 : Nat) (xs ts es : List Int) (w : World) (hx : IsInts w r cap .i64 xs) (h1 : IsInts w r1 c1 .i64 ts) (h2 : IsInts w r2 c2 .i64 es) (hc : camB xs = true) (ha : (ascB ts && ascB es) = false) :
    Calls Try.prog 12 #[.agg #[.slice r xs.length cap], .slice r1 ts.length c1, .slice r2 es.length c2] w fun e w' => e = .returned (.tuple #[.slice none 0 0, .int .i64 2]) ∧ Below w.heap.size w w' := by
  have HX : Hid (∀ w', Below w.heap.size w w' → IsInts w' r cap .i64 xs) := Lib.hid (fun _ h => hx.later h)
  have H1 : Hid (∀ w', Below w.heap.size w w' → IsInts w' r1 c1 .i64 ts) := Lib.hid (fun _ h => h1.later h)
  have H2 : Hid (∀ w', Below w.heap.size w w' → IsInts w' r2 c2 .i64 es) := Lib.hid (fun _ h => h2.later h)
  have HC := Lib.hid (fun w hx => cam_any r cap xs w hx)
  rw [hc] at HC
  have HT := Lib.hid (fun w hx => asc_any r1 c1 ts w hx)
  have HE := Lib.hid (fun w hx => asc_any r2 c2 es w hx)
  clear hx h1 h2 hc
  cases h3 : ascB ts with
  | false =>
    rw [h3] at HT
    clear HE ha h3
    go_enter Try.func12, Try.ntmps12
    go_wp2_with (first | (go_at_call 32; refine (HC.out _ (HX.out _ (by (repeat' (first | (with_reducible exact Below.refl _ _) | (with_reducible assumption) | (with_reducible refine below_alloc ?_ _) | (with_reducible refine Below.drew ?_) | (with_reducible refine below_drewN ?_ _) | (with_reducible refine below_step (by assumption) ?_) | (with_reducible refine below_later ?_ _) | (with_reducible refine Below.setCell ?_ ?_ _) | go_size))))).mono ?_; rintro e hb1w ⟨rfl, hb1⟩; obtain ⟨hb1c, hb1f⟩ := bcell hb1; have hb1s := hb1.size; (try simp only [World.size_alloc] at hb1s); (try (have : w.heap.size < hb1w.heap.size := by omega)); (try (have : w.heap.size + 1 < hb1w.heap.size := by omega)); (try (have : w.heap.size + 1 + 1 < hb1w.heap.size := by omega)); (try (have : w.heap.size + 1 + 1 + 1 < hb1w.heap.size := by omega)); (try (have : bX < hb1w.heap.size := by omega)); (try (have : bY < hb1w.heap.size := by omega)); (try (have : bZ < hb1w.heap.size := by omega))) | (go_at_call 33; refine (HT.out _ (H1.out _ (by (repeat' (first | (with_reducible exact Below.refl _ _) | (with_reducible assumption) | (with_reducible refine below_alloc ?_ _) | (with_reducible refine Below.drew ?_) | (with_reducible refine below_drewN ?_ _) | (with_reducible refine below_step (by assumption) ?_) | (with_reducible refine below_later ?_ _) | (with_reducible refine Below.setCell ?_ ?_ _) | go_size))))).mono ?_; rintro e hb2w ⟨rfl, hb2⟩; obtain ⟨hb2c, hb2f⟩ := bcell hb2; have hb2s := hb2.size; (try simp only [World.size_alloc] at hb2s); (try (have : w.heap.size < hb2w.heap.size := by omega)); (try (have : w.heap.size + 1 < hb2w.heap.size := by omega)); (try (have : w.heap.size + 1 + 1 < hb2w.heap.size := by omega)); (try (have : w.heap.size + 1 + 1 + 1 < hb2w.heap.size := by omega)); (try (have : bX < hb2w.heap.size := by omega)); (try (have : bY < hb2w.heap.size := by omega)); (try (have : bZ < hb2w.heap.size := by omega))))
    go_ret2
    exact ⟨rfl, by (repeat' (first | (with_reducible exact Below.refl _ _) | (with_reducible assumption) | (with_reducible refine below_alloc ?_ _) | (with_reducible refine Below.drew ?_) | (with_reducible refine below_drewN ?_ _) | (with_reducible refine below_step (by assumption) ?_) | (with_reducible refine below_later ?_ _) | (with_reducible refine Below.setCell ?_ ?_ _) | go_size))⟩
  | true =>
    rw [h3, Bool.true_and] at ha
    rw [h3] at HT
    rw [ha] at HE
    clear ha h3
    have tok1 : True := trivial
    go_enter Try.func12, Try.ntmps12
    go_wp2_with (first | (go_at_call 32; refine (HC.out _ (HX.out _ (by (repeat' (first | (with_reducible exact Below.refl _ _) | (with_reducible assumption) | (with_reducible refine below_alloc ?_ _) | (with_reducible refine Below.drew ?_) | (with_reducible refine below_drewN ?_ _) | (with_reducible refine below_step (by assumption) ?_) | (with_reducible refine below_later ?_ _) | (with_reducible refine Below.setCell ?_ ?_ _) | go_size))))).mono ?_; rintro e hb1w ⟨rfl, hb1⟩; obtain ⟨hb1c, hb1f⟩ := bcell hb1; have hb1s := hb1.size; (try simp only [World.size_alloc] at hb1s); (try (have : w.heap.size < hb1w.heap.size := by omega)); (try (have : w.heap.size + 1 < hb1w.heap.size := by omega)); (try (have : w.heap.size + 1 + 1 < hb1w.heap.size := by omega)); (try (have : w.heap.size + 1 + 1 + 1 < hb1w.heap.size := by omega)); (try (have : bX < hb1w.heap.size := by omega)); (try (have : bY < hb1w.heap.size := by omega)); (try (have : bZ < hb1w.heap.size := by omega))) | ((have _t := tok1); (go_at_call 33; refine (HT.out _ (H1.out _ (by (repeat' (first | (with_reducible exact Below.refl _ _) | (with_reducible assumption) | (with_reducible refine below_alloc ?_ _) | (with_reducible refine Below.drew ?_) | (with_reducible refine below_drewN ?_ _) | (with_reducible refine below_step (by assumption) ?_) | (with_reducible refine below_later ?_ _) | (with_reducible refine Below.setCell ?_ ?_ _) | go_size))))).mono ?_; rintro e hb2w ⟨rfl, hb2⟩; obtain ⟨hb2c, hb2f⟩ := bcell hb2; have hb2s := hb2.size; (try simp only [World.size_alloc] at hb2s); (try (have : w.heap.size < hb2w.heap.size := by omega)); (try (have : w.heap.size + 1 < hb2w.heap.size := by omega)); (try (have : w.heap.size + 1 + 1 < hb2w.heap.size := by omega)); (try (have : w.heap.size + 1 + 1 + 1 < hb2w.heap.size := by omega)); (try (have : bX < hb2w.heap.size := by omega)); (try (have : bY < hb2w.heap.size := by omega)); (try (have : bZ < hb2w.heap.size := by omega))); clear tok1 _t) | (go_at_call 33; refine (HE.out _ (H2.out _ (by (repeat' (first | (with_reducible exact Below.refl _ _) | (with_reducible assumption) | (with_reducible refine below_alloc ?_ _) | (with_reducible refine Below.drew ?_) | (with_reducible refine below_drewN ?_ _) | (with_reducible refine below_step (by assumption) ?_) | (with_reducible refine below_later ?_ _) | (with_reducible refine Below.setCell ?_ ?_ _) | go_size))))).mono ?_; rintro e hb3w ⟨rfl, hb3⟩; obtain ⟨hb3c, hb3f⟩ := bcell hb3; have hb3s := hb3.size; (try simp only [World.size_alloc] at hb3s); (try (have : w.heap.size < hb3w.heap.size := by omega)); (try (have : w.heap.size + 1 < hb3w.heap.size := by omega)); (try (have : w.heap.size + 1 + 1 < hb3w.heap.size := by omega)); (try (have : w.heap.size + 1 + 1 + 1 < hb3w.heap.size := by omega)); (try (have : bX < hb3w.heap.size := by omega)); (try (have : bY < hb3w.heap.size := by omega)); (try (have : bZ < hb3w.heap.size := by omega))))
    go_ret2
    exact ⟨rfl, by (repeat' (first | (with_reducible exact Below.refl _ _) | (with_reducible assumption) | (with_reducible refine below_alloc ?_ _) | (with_reducible refine Below.drew ?_) | (with_reducible refine below_drewN ?_ _) | (with_reducible refine below_step (by assumption) ?_) | (with_reducible refine below_later ?_ _) | (with_reducible refine Below.setCell ?_ ?_ _) | go_size))⟩
theorem run_full (r r1 r2 : Option Addr) (cap c1 c2 : Nat) (xs ts es : List Int) (w : World) (hx : IsInts w r cap .i64 xs) (h1 : IsInts w r1 c1 .i64 ts) (h2 : IsInts w r2 c2 .i64 es) (hc : camB xs = true) (ha : ascB ts = true) (hb : ascB es = true) (hl : 1000 < ts.length ∨ 1000 < es.length) :
    Calls Try.prog 12 #[.agg #[.slice r xs.length cap], .slice r1 ts.length c1, .slice r2 es.length c2] w fun e w' => e = .returned (.tuple #[.slice none 0 0, .int .i64 5]) ∧ Below w.heap.size w w' := by
  have HX : Hid (∀ w', Below w.heap.size w w' → IsInts w' r cap .i64 xs) := Lib.hid (fun _ h => hx.later h)
  have H1 : Hid (∀ w', Below w.heap.size w w' → IsInts w' r1 c1 .i64 ts) := Lib.hid (fun _ h => h1.later h)
  have H2 : Hid (∀ w', Below w.heap.size w w' → IsInts w' r2 c2 .i64 es) := Lib.hid (fun _ h => h2.later h)
  have HC := Lib.hid (fun w hx => cam_any r cap xs w hx)
  rw [hc] at HC
  have HT := Lib.hid (fun w hx => asc_any r1 c1 ts w hx)
  have HE := Lib.hid (fun w hx => asc_any r2 c2 es w hx)
  rw [ha] at HT
  rw [hb] at HE
  obtain ⟨m, hmr, hme, hma, hmb⟩ := max2_run (ts.length : Int) (es.length : Int)
  have hm2 : (1000 : Int) < m := by omega
  clear hme hma hmb
  clear hx h1 h2 hc ha hb
  have tok1 : True := trivial
  go_enter Try.func12, Try.ntmps12
  go_wp2_with (first | (go_at_call 32; refine (HC.out _ (HX.out _ (by (repeat' (first | (with_reducible exact Below.refl _ _) | (with_reducible assumption) | (with_reducible refine below_alloc ?_ _) | (with_reducible refine Below.drew ?_) | (with_reducible refine below_drewN ?_ _) | (with_reducible refine below_step (by assumption) ?_) | (with_reducible refine below_later ?_ _) | (with_reducible refine Below.setCell ?_ ?_ _) | go_size))))).mono ?_; rintro e hb1w ⟨rfl, hb1⟩; obtain ⟨hb1c, hb1f⟩ := bcell hb1; have hb1s := hb1.size; (try simp only [World.size_alloc] at hb1s); (try (have : w.heap.size < hb1w.heap.size := by omega)); (try (have : w.heap.size + 1 < hb1w.heap.size := by omega)); (try (have : w.heap.size + 1 + 1 < hb1w.heap.size := by omega)); (try (have : w.heap.size + 1 + 1 + 1 < hb1w.heap.size := by omega)); (try (have : bX < hb1w.heap.size := by omega)); (try (have : bY < hb1w.heap.size := by omega)); (try (have : bZ < hb1w.heap.size := by omega))) | ((have _t := tok1); (go_at_call 33; refine (HT.out _ (H1.out _ (by (repeat' (first | (with_reducible exact Below.refl _ _) | (with_reducible assumption) | (with_reducible refine below_alloc ?_ _) | (with_reducible refine Below.drew ?_) | (with_reducible refine below_drewN ?_ _) | (with_reducible refine below_step (by assumption) ?_) | (with_reducible refine below_later ?_ _) | (with_reducible refine Below.setCell ?_ ?_ _) | go_size))))).mono ?_; rintro e hb2w ⟨rfl, hb2⟩; obtain ⟨hb2c, hb2f⟩ := bcell hb2; have hb2s := hb2.size; (try simp only [World.size_alloc] at hb2s); (try (have : w.heap.size < hb2w.heap.size := by omega)); (try (have : w.heap.size + 1 < hb2w.heap.size := by omega)); (try (have : w.heap.size + 1 + 1 < hb2w.heap.size := by omega)); (try (have : w.heap.size + 1 + 1 + 1 < hb2w.heap.size := by omega)); (try (have : bX < hb2w.heap.size := by omega)); (try (have : bY < hb2w.heap.size := by omega)); (try (have : bZ < hb2w.heap.size := by omega))); clear tok1 _t) | (go_at_call 33; refine (HE.out _ (H2.out _ (by (repeat' (first | (with_reducible exact Below.refl _ _) | (with_reducible assumption) | (with_reducible refine below_alloc ?_ _) | (with_reducible refine Below.drew ?_) | (with_reducible refine below_drewN ?_ _) | (with_reducible refine below_step (by assumption) ?_) | (with_reducible refine below_later ?_ _) | (with_reducible refine Below.setCell ?_ ?_ _) | go_size))))).mono ?_; rintro e hb3w ⟨rfl, hb3⟩; obtain ⟨hb3c, hb3f⟩ := bcell hb3; have hb3s := hb3.size; (try simp only [World.size_alloc] at hb3s); (try (have : w.heap.size < hb3w.heap.size := by omega)); (try (have : w.heap.size + 1 < hb3w.heap.size := by omega)); (try (have : w.heap.size + 1 + 1 < hb3w.heap.size := by omega)); (try (have : w.heap.size + 1 + 1 + 1 < hb3w.heap.size := by omega)); (try (have : bX < hb3w.heap.size := by omega)); (try (have : bY < hb3w.heap.size := by omega)); (try (have : bZ < hb3w.heap.size := by omega))))
  go_ret2
  exact ⟨rfl, by (repeat' (first | (with_reducible exact Below.refl _ _) | (with_reducible assumption) | (with_reducible refine below_alloc ?_ _) | (with_reducible refine Below.drew ?_) | (with_reducible refine below_drewN ?_ _) | (with_reducible refine below_step (by assumption) ?_) | (with_reducible refine below_later ?_ _) | (with_reducible refine Below.setCell ?_ ?_ _) | go_size))⟩

set_option maxRecDepth 100000 in
set_option maxHeartbeats 4000000 in
theorem run_ok (r r1 r2 : Option Addr) (cap c1 c2 : Nat) (xs ts es : List Int) (w : World) (hx : IsInts w r cap .i64 xs) (h1 : IsInts w r1 c1 .i64 ts) (h2 : IsInts w r2 c2 .i64 es) (hc : camB xs = true) (ha : ascB ts = true) (hb : ascB es = true) (hl1 : ts.length ≤ 1000) (hl2 : es.length ≤ 1000) :
    Calls Try.prog 12 #[.agg #[.slice r xs.length cap], .slice r1 ts.length c1, .slice r2 es.length c2] w fun e w' => ∃ ro co, e = .returned (.tuple #[.slice ro ts.length co, .int .i64 0]) ∧ OwnR 34 4 phC w' w.heap.size ro co (phRun (halfI xs).1 (halfI xs).2 phZero ts es) ∧ Below w.heap.size w w' := by
  have HX : Hid (∀ w', Below w.heap.size w w' → IsInts w' r cap .i64 xs) := Lib.hid (fun _ h => hx.later h)
  have H1 : Hid (∀ w', Below w.heap.size w w' → IsInts w' r1 c1 .i64 ts) := Lib.hid (fun _ h => h1.later h)
  have H2 : Hid (∀ w', Below w.heap.size w w' → IsInts w' r2 c2 .i64 es) := Lib.hid (fun _ h => h2.later h)
  have HC := Lib.hid (fun w hx => cam_any r cap xs w hx)
  rw [hc] at HC
  have HT := Lib.hid (fun w hx => asc_any r1 c1 ts w hx)
  have HE := Lib.hid (fun w hx => asc_any r2 c2 es w hx)
  rw [ha] at HT
  rw [hb] at HE
  have HN : Hid (∀ w, Calls Try.prog 16 #[] w fun e w' => e = .returned (.agg #[.bool false, .int .i64 0, .int .i64 0, .bool false]) ∧ Below w.heap.size w w') := Lib.hid (fun w => new_any w)
  have HCL := Lib.hid (fun w hx => cloneI_any r2 c2 es w hx (by omega))
  have HCP : Hid (∀ p : Ph, p.Ok → cphB xs p = true) := Lib.hid (fun p hp => by rw [cphB, hc, phB_true.2 hp]; rfl)
  have HL1 := Lib.hid hl1
  have HL2 := Lib.hid hl2
  have HTL : Hid (ts = [] ∨ ∃ b off, r1 = some ⟨b, off, none⟩ ∧ b < w.heap.size ∧ ∀ i, i < ts.length → w.cell? ⟨b, off + i, none⟩ = some (.int .i64 (ts.getD i 0))) := Lib.hid (by
    by_cases e : ts = []
    · exact .inl e
    · exact .inr (h1.cells e))
  have hm0 : ¬ (1000 : Int) < ts.length := by omega
  have hm1 : ¬ (1000 : Int) < es.length := by omega
  obtain ⟨m, hmr, hme, _, _⟩ := max2_run (ts.length : Int) (es.length : Int)
  have hm2 : ¬ (1000 : Int) < m := by omega
  clear hme
  clear hx h1 h2 hc ha hb hl1 hl2
  have tok1 : True := trivial
  generalize hn : ts.length = n at *
  have HNn := Lib.hid hn
  clear hn
  go_enter Try.func12, Try.ntmps12
  go_wp2_with (first | (go_at_call 32; refine (HC.out _ (HX.out _ (by (repeat' (first | (with_reducible exact Below.refl _ _) | (with_reducible assumption) | (with_reducible refine below_alloc ?_ _) | (with_reducible refine Below.drew ?_) | (with_reducible refine below_drewN ?_ _) | (with_reducible refine below_step (by assumption) ?_) | (with_reducible refine below_later ?_ _) | (with_reducible refine Below.setCell ?_ ?_ _) | go_size))))).mono ?_; rintro e hb1w ⟨rfl, hb1⟩; obtain ⟨hb1c, hb1f⟩ := bcell hb1; have hb1s := hb1.size; (try simp only [World.size_alloc] at hb1s); (try (have : w.heap.size < hb1w.heap.size := by omega)); (try (have : w.heap.size + 1 < hb1w.heap.size := by omega)); (try (have : w.heap.size + 1 + 1 < hb1w.heap.size := by omega)); (try (have : w.heap.size + 1 + 1 + 1 < hb1w.heap.size := by omega)); (try (have : bX < hb1w.heap.size := by omega)); (try (have : bY < hb1w.heap.size := by omega)); (try (have : bZ < hb1w.heap.size := by omega))) | ((have _t := tok1); (go_at_call 33; refine (HT.out _ (H1.out _ (by (repeat' (first | (with_reducible exact Below.refl _ _) | (with_reducible assumption) | (with_reducible refine below_alloc ?_ _) | (with_reducible refine Below.drew ?_) | (with_reducible refine below_drewN ?_ _) | (with_reducible refine below_step (by assumption) ?_) | (with_reducible refine below_later ?_ _) | (with_reducible refine Below.setCell ?_ ?_ _) | go_size))))).mono ?_; rintro e hb2w ⟨rfl, hb2⟩; obtain ⟨hb2c, hb2f⟩ := bcell hb2; have hb2s := hb2.size; (try simp only [World.size_alloc] at hb2s); (try (have : w.heap.size < hb2w.heap.size := by omega)); (try (have : w.heap.size + 1 < hb2w.heap.size := by omega)); (try (have : w.heap.size + 1 + 1 < hb2w.heap.size := by omega)); (try (have : w.heap.size + 1 + 1 + 1 < hb2w.heap.size := by omega)); (try (have : bX < hb2w.heap.size := by omega)); (try (have : bY < hb2w.heap.size := by omega)); (try (have : bZ < hb2w.heap.size := by omega))); clear tok1 _t) | (go_at_call 33; refine (HE.out _ (H2.out _ (by (repeat' (first | (with_reducible exact Below.refl _ _) | (with_reducible assumption) | (with_reducible refine below_alloc ?_ _) | (with_reducible refine Below.drew ?_) | (with_reducible refine below_drewN ?_ _) | (with_reducible refine below_step (by assumption) ?_) | (with_reducible refine below_later ?_ _) | (with_reducible refine Below.setCell ?_ ?_ _) | go_size))))).mono ?_; rintro e hb3w ⟨rfl, hb3⟩; obtain ⟨hb3c, hb3f⟩ := bcell hb3; have hb3s := hb3.size; (try simp only [World.size_alloc] at hb3s); (try (have : w.heap.size < hb3w.heap.size := by omega)); (try (have : w.heap.size + 1 < hb3w.heap.size := by omega)); (try (have : w.heap.size + 1 + 1 < hb3w.heap.size := by omega)); (try (have : w.heap.size + 1 + 1 + 1 < hb3w.heap.size := by omega)); (try (have : bX < hb3w.heap.size := by omega)); (try (have : bY < hb3w.heap.size := by omega)); (try (have : bZ < hb3w.heap.size := by omega))) | (go_at_call 16; refine (HN.out _).mono ?_; rintro e hb4w ⟨rfl, hb4⟩; obtain ⟨hb4c, hb4f⟩ := bcell hb4; have hb4s := hb4.size; (try simp only [World.size_alloc] at hb4s); (try (have : w.heap.size < hb4w.heap.size := by omega)); (try (have : w.heap.size + 1 < hb4w.heap.size := by omega)); (try (have : w.heap.size + 1 + 1 < hb4w.heap.size := by omega)); (try (have : w.heap.size + 1 + 1 + 1 < hb4w.heap.size := by omega)); (try (have : bX < hb4w.heap.size := by omega)); (try (have : bY < hb4w.heap.size := by omega)); (try (have : bZ < hb4w.heap.size := by omega))) | (go_at_call 26; refine (HCL.out _ (H2.out _ (by (repeat' (first | (with_reducible exact Below.refl _ _) | (with_reducible assumption) | (with_reducible refine below_alloc ?_ _) | (with_reducible refine Below.drew ?_) | (with_reducible refine below_drewN ?_ _) | (with_reducible refine below_step (by assumption) ?_) | (with_reducible refine below_later ?_ _) | (with_reducible refine Below.setCell ?_ ?_ _) | go_size))))).mono ?_; rintro e hb5w ⟨r5, k5, rfl, ho5, hi5, hb5⟩; have HI5 := Lib.hid hi5; clear hi5; have HO5 := Lib.hid ho5; clear ho5; obtain ⟨hb5c, hb5f⟩ := bcell hb5; have hb5s := hb5.size; (try simp only [World.size_alloc] at hb5s)))
  have hBL : hb4w.heap.size < hb5w.heap.size := by omega
  obtain ⟨L, hLd⟩ : ∃ L, L = hb5w.heap.size := ⟨_, rfl⟩
  go_loopg [8, 10, 38] n (fun kx s8 s10 s38 wr => ∃ (k : Nat) (ro : Option Addr) (co : Nat) (out : List Ph) (q : Later (w.alloc (.cells #[.slice r xs.length cap] 24))) (rr : Option Addr) (rc : Nat) (rest : List Int) (pk ps : Bool) (ph pc : Int), s8 = .slice ro out.length co ∧ s10 = .slice rr rest.length rc ∧ s38 = .int .i64 k ∧ k ≤ n ∧ n - k ≤ kx ∧ wr = q.w ∧ out.length ≤ 1000 ∧ Hid (out.length = k) ∧ Hid (OwnR 34 4 phC q.w L ro co out) ∧ Hid (IsInts q.w rr rc .i64 rest) ∧ (∀ z, rr = some z → hb4w.heap.size ≠ z.block ∧ z.block < L) ∧ q.w.cell? ⟨hb4w.heap.size, 0, none⟩ = some (.bool pk) ∧ q.w.cell? ⟨hb4w.heap.size, 1, none⟩ = some (.int .i64 ph) ∧ q.w.cell? ⟨hb4w.heap.size, 2, none⟩ = some (.int .i64 pc) ∧ q.w.cell? ⟨hb4w.heap.size, 3, none⟩ = some (.bool ps) ∧ q.w.frozen? ⟨hb4w.heap.size, 0, none⟩ = false ∧ q.w.frozen? ⟨hb4w.heap.size, 1, none⟩ = false ∧ q.w.frozen? ⟨hb4w.heap.size, 2, none⟩ = false ∧ q.w.frozen? ⟨hb4w.heap.size, 3, none⟩ = false ∧ L ≤ q.w.heap.size ∧ Hid (cphB xs ⟨pk, ph, pc, ps⟩ = true) ∧ Hid (rest.length ≤ 1000) ∧ Hid (phRun (halfI xs).1 (halfI xs).2 phZero ts es = out ++ phRun (halfI xs).1 (halfI xs).2 ⟨pk, ph, pc, ps⟩ (ts.drop k) rest))
  case atStart => exact ⟨0, none, 0, [], ⟨hb5w, by (repeat' (first | (with_reducible exact Below.refl _ _) | (with_reducible assumption) | (with_reducible refine below_alloc ?_ _) | (with_reducible refine Below.drew ?_) | (with_reducible refine below_drewN ?_ _) | (with_reducible refine below_step (by assumption) ?_) | (with_reducible refine below_later ?_ _) | (with_reducible refine Below.setCell ?_ ?_ _) | go_size))⟩, r5, k5, es, false, false, 0, 0, rfl, rfl, rfl, by omega, by omega, rfl, by simp, Lib.hid rfl, Lib.hid (OwnR.nil _ _), HI5, fun z hz => by (have hz1 := (HO5.out.lt z hz).1; have hz2 := (HO5.out.lt z hz).2; simp only [World.size_alloc] at hz1; omega), by simp [*], by simp [*], by simp [*], by simp [*], by simp [*], by simp [*], by simp [*], by simp [*], by show L ≤ hb5w.heap.size; omega, Lib.hid (HCP.out _ phZero_ok), HL2, Lib.hid rfl⟩
  case round =>
    obtain ⟨k, ro, co, out, q, rr, rc, rest, pk, ps, ph, pc, rfl, rfl, rfl, hk, hkx, rfl, ho8, HOUT, HO, HI, hrB, d0, d1, d2, d3, f0, f1, f2, f3, hL, HOK, HRL, HQ⟩ := hrel
    clear HO5 HI5
    by_cases hlt : k < n
    · have hk1 : (0 : Int) ≤ (k : Int) := by omega
      have hk2 : (k : Int) < n := by omega
      obtain ⟨bT, oT, rfl, hbT, hcT⟩ := HTL.out.resolve_left (fun e => by have := HNn.out; rw [e] at this; simp at this; omega)
      have hct : q.w.cell? ⟨bT, oT + k, none⟩ = some (.int .i64 (ts.getD k 0)) := by
        rw [(show Below w.heap.size w q.w by (repeat' (first | (with_reducible exact Below.refl _ _) | (with_reducible assumption) | (with_reducible refine below_alloc ?_ _) | (with_reducible refine Below.drew ?_) | (with_reducible refine below_drewN ?_ _) | (with_reducible refine below_step (by assumption) ?_) | (with_reducible refine below_later ?_ _) | (with_reducible refine Below.setCell ?_ ?_ _) | go_size))).cell (p := ⟨bT, oT + k, none⟩) hbT]
        exact hcT k (by have := HNn.out; omega)
      have HDROP : Hid (ts.drop k = ts.getD k 0 :: ts.drop (k + 1)) := Lib.hid (by
        have hkt : k < ts.length := by have := HNn.out; omega
        rw [List.drop_eq_getElem_cons hkt]
        simp [List.getD, List.getElem?_eq_getElem hkt])
      generalize ts.getD k 0 = t at hct HDROP
      clear hcT
      go_wp2
      clear hct
      go_loopg [10] 1000 (fun ky s10 wr => ∃ (q : Later (w.alloc (.cells #[.slice r xs.length cap] 24))) (rr : Option Addr) (rc : Nat) (rest2 : List Int) (pk2 ps2 : Bool) (ph2 pc2 : Int), s10 = .slice rr rest2.length rc ∧ rest2.length ≤ ky ∧ wr = q.w ∧ Hid (OwnR 34 4 phC q.w L ro co out) ∧ Hid (IsInts q.w rr rc .i64 rest2) ∧ (∀ z, rr = some z → hb4w.heap.size ≠ z.block ∧ z.block < L) ∧ q.w.cell? ⟨hb4w.heap.size, 0, none⟩ = some (.bool pk2) ∧ q.w.cell? ⟨hb4w.heap.size, 1, none⟩ = some (.int .i64 ph2) ∧ q.w.cell? ⟨hb4w.heap.size, 2, none⟩ = some (.int .i64 pc2) ∧ q.w.cell? ⟨hb4w.heap.size, 3, none⟩ = some (.bool ps2) ∧ q.w.frozen? ⟨hb4w.heap.size, 0, none⟩ = false ∧ q.w.frozen? ⟨hb4w.heap.size, 1, none⟩ = false ∧ q.w.frozen? ⟨hb4w.heap.size, 2, none⟩ = false ∧ q.w.frozen? ⟨hb4w.heap.size, 3, none⟩ = false ∧ L ≤ q.w.heap.size ∧ Hid (cphB xs ⟨pk2, ph2, pc2, ps2⟩ = true) ∧ Hid (rest2.length ≤ 1000) ∧ Hid (phEdges t ⟨pk, ph, pc, ps⟩ rest = phEdges t ⟨pk2, ph2, pc2, ps2⟩ rest2))
      case atStart => exact ⟨q, rr, rc, rest, pk, ps, ph, pc, rfl, HRL.out, rfl, HO, HI, hrB, d0, d1, d2, d3, f0, f1, f2, f3, hL, HOK, HRL, Lib.hid rfl⟩
      case round =>
        clear HO HI hrB d0 d1 d2 d3 f0 f1 f2 f3 hL HOK HRL
        clear q rr rc
        obtain ⟨q, rr, rc, rest2, pk2, ps2, ph2, pc2, rfl, hky, rfl, HO, HI, hrB, d0, d1, d2, d3, f0, f1, f2, f3, hL, HOK, HRL, HIN⟩ := hrel
        have hqs := q.h.size
        have hqo : w.heap.size < q.w.heap.size := by (try simp only [World.size_alloc] at hqs); omega
        have hqB : hb4w.heap.size < q.w.heap.size := by omega
        cases rest2 with
        | nil =>
          have HEND : Hid (phEdges t ⟨pk2, ph2, pc2, ps2⟩ [] = (⟨pk2, ph2, pc2, ps2⟩, [])) := Lib.hid (rfl)
          obtain ⟨tk, th, tc, tsn, htn⟩ : ∃ tk th tc tsn, (Ph.mk pk2 ph2 pc2 ps2).turn (halfI xs).1 (halfI xs).2 = ⟨tk, th, tc, tsn⟩ := ⟨_, _, _, _, rfl⟩
          have HTN := Lib.hid htn
          have HPT := Lib.hid (fun w hx => pTurn_any r cap xs pk2 ps2 tk tsn ph2 pc2 th tc w hx HOK.out HTN.out)
          have HOK2 : Hid (cphB xs ⟨tk, th, tc, tsn⟩ = true) := Lib.hid (by rw [← HTN.out]; exact HCP.out _ (Ph.turn_ok _ _ _))
          have HQ2 : Hid (phRun (halfI xs).1 (halfI xs).2 phZero ts es = (out ++ [(⟨tk, th, tc, tsn⟩ : Ph)]) ++ phRun (halfI xs).1 (halfI xs).2 ⟨tk, th, tc, tsn⟩ (ts.drop (k + 1)) []) := Lib.hid (by
            rw [HQ.out, HDROP.out, phRun_cons _ _ _ _ _ _ _ _ (HIN.out.trans HEND.out), HTN.out]; simp)
          clear htn
          have HOA : Hid (∀ W, Below q.w.heap.size q.w W → OwnR 34 4 phC (set4 W hb4w.heap.size tk th tc tsn) L ro co out) := Lib.hid (fun W hW => (HO.out.below hW (Nat.le_refl _)).set4 (by omega) _ _ _ _)
          clear HO
          go_wp2_with (first | (go_at_call 15; refine (HPT.out _ (HX.out _ (by (repeat' (first | (with_reducible exact Below.refl _ _) | (with_reducible assumption) | (with_reducible refine below_alloc ?_ _) | (with_reducible refine Below.drew ?_) | (with_reducible refine below_drewN ?_ _) | (with_reducible refine below_step (by assumption) ?_) | (with_reducible refine below_later ?_ _) | (with_reducible refine Below.setCell ?_ ?_ _) | go_size))))).mono ?_; rintro e hbtw ⟨rfl, hbt⟩; obtain ⟨hbtc, hbtf⟩ := bcell hbt; have hbts := hbt.size) | (at_builtin; refine wpList_append_row (enc := phC) Try.underlying29 infoPhase rfl (by omega) (by omega) (by rfl) _ _ (by rfl) (set4 hbtw hb4w.heap.size tk th tc tsn) L ro co out (⟨tk, th, tc, tsn⟩ : Ph) rfl (phC_one _) (by rfl) (by rfl) (by simp only [set4, World.size_setCell]; rfl) (HOA.out _ hbt) (by omega) (by show L ≤ (set4 hbtw hb4w.heap.size tk th tc tsn).heap.size; simp only [World.size_setCell]; omega) ?_; intro r' cap' w3 hown3 hb3))
          have hw3 : Below (w.alloc (.cells #[.slice r xs.length cap] 24)).heap.size (w.alloc (.cells #[.slice r xs.length cap] 24)) w3 := (show Below (w.alloc (.cells #[.slice r xs.length cap] 24)).heap.size (w.alloc (.cells #[.slice r xs.length cap] 24)) (set4 hbtw hb4w.heap.size tk th tc tsn) by (repeat' (first | (with_reducible exact Below.refl _ _) | (with_reducible assumption) | (with_reducible refine below_alloc ?_ _) | (with_reducible refine Below.drew ?_) | (with_reducible refine below_drewN ?_ _) | (with_reducible refine below_step (by assumption) ?_) | (with_reducible refine below_later ?_ _) | (with_reducible refine Below.setCell ?_ ?_ _) | go_size))).trans (hb3.mono (by simp only [World.size_alloc]; omega))
          have hw3s := hb3.size
          simp only [World.size_setCell] at hw3s
          have HOWN := Lib.hid hown3
          have HI3 : Hid (IsInts w3 rr rc .i64 []) := Lib.hid (((HI.out.later hbt).set4 (fun z hz => (hrB z hz).1) _ _ _ _).keep hb3 (fun z hz => (hrB z hz).2))
          clear hown3
          have e0 : w3.cell? ⟨hb4w.heap.size, 0, none⟩ = some (.bool tk) := by rw [hb3.cell (p := ⟨hb4w.heap.size, 0, none⟩) (by show hb4w.heap.size < L; omega)]; simp [set4, go_sem, *]
          have e1 : w3.cell? ⟨hb4w.heap.size, 1, none⟩ = some (.int .i64 th) := by rw [hb3.cell (p := ⟨hb4w.heap.size, 1, none⟩) (by show hb4w.heap.size < L; omega)]; simp [set4, go_sem, *]
          have e2 : w3.cell? ⟨hb4w.heap.size, 2, none⟩ = some (.int .i64 tc) := by rw [hb3.cell (p := ⟨hb4w.heap.size, 2, none⟩) (by show hb4w.heap.size < L; omega)]; simp [set4, go_sem, *]
          have e3 : w3.cell? ⟨hb4w.heap.size, 3, none⟩ = some (.bool tsn) := by rw [hb3.cell (p := ⟨hb4w.heap.size, 3, none⟩) (by show hb4w.heap.size < L; omega)]; simp [set4, go_sem, *]
          have g0 : w3.frozen? ⟨hb4w.heap.size, 0, none⟩ = false := by rw [hb3.frozen (p := ⟨hb4w.heap.size, 0, none⟩) (by show hb4w.heap.size < L; omega)]; simp [set4, go_sem, *]
          have g1 : w3.frozen? ⟨hb4w.heap.size, 1, none⟩ = false := by rw [hb3.frozen (p := ⟨hb4w.heap.size, 1, none⟩) (by show hb4w.heap.size < L; omega)]; simp [set4, go_sem, *]
          have g2 : w3.frozen? ⟨hb4w.heap.size, 2, none⟩ = false := by rw [hb3.frozen (p := ⟨hb4w.heap.size, 2, none⟩) (by show hb4w.heap.size < L; omega)]; simp [set4, go_sem, *]
          have g3 : w3.frozen? ⟨hb4w.heap.size, 3, none⟩ = false := by rw [hb3.frozen (p := ⟨hb4w.heap.size, 3, none⟩) (by show hb4w.heap.size < L; omega)]; simp [set4, go_sem, *]
          go_roundg (n - (k + 1))
          case measure => omega
          case rel => exact ⟨k + 1, r', cap', out ++ [(⟨tk, th, tc, tsn⟩ : Ph)], ⟨w3, hw3⟩, rr, rc, [], tk, tsn, th, tc, by simp, rfl, by go_num, by omega, by omega, rfl, by have := HOUT.out; simp; omega, Lib.hid (by have := HOUT.out; simp; omega), HOWN, HI3, hrB, e0, e1, e2, e3, g0, g1, g2, g3, by show L ≤ w3.heap.size; omega, HOK2, HRL, HQ2⟩

        | cons x rest2 =>
          obtain ⟨bR, oR, rfl, hbR, hcR⟩ := HI.out.cells (by simp)
          have hx0 := hcR 0 (by simp)
          simp only [List.getD_cons_zero, Nat.add_zero] at hx0
          clear hcR
          by_cases hxt : x ≤ t
          · obtain ⟨ek, eh, ec, es2, hed⟩ : ∃ ek eh ec es2, (Ph.mk pk2 ph2 pc2 ps2).edge = ⟨ek, eh, ec, es2⟩ := ⟨_, _, _, _, rfl⟩
            have HED := Lib.hid hed
            have HPC := Lib.hid (fun w hx => pCam_any r cap xs pk2 ps2 ek es2 ph2 pc2 eh ec w hx HOK.out HED.out)
            have HOK2 : Hid (cphB xs ⟨ek, eh, ec, es2⟩ = true) := Lib.hid (by
              rw [← HED.out]
              exact HCP.out _ (Ph.Ok.edge (phB_true.1 (by have := HOK.out; simp only [cphB, Bool.and_eq_true] at this; exact this.2))))
            have HIN2 : Hid (phEdges t ⟨pk, ph, pc, ps⟩ rest = phEdges t ⟨ek, eh, ec, es2⟩ rest2) := Lib.hid (by
              rw [HIN.out, phEdges, if_pos hxt, HED.out])
            clear hed
            by_cases hrc : rc = 1
            · go_wp2_with ((go_at_call 14; refine (HPC.out _ (HX.out _ (by (repeat' (first | (with_reducible exact Below.refl _ _) | (with_reducible assumption) | (with_reducible refine below_alloc ?_ _) | (with_reducible refine Below.drew ?_) | (with_reducible refine below_drewN ?_ _) | (with_reducible refine below_step (by assumption) ?_) | (with_reducible refine below_later ?_ _) | (with_reducible refine Below.setCell ?_ ?_ _) | go_size))))).mono ?_; rintro e hbew ⟨rfl, hbe⟩; obtain ⟨hbec, hbef⟩ := bcell hbe; have hbes := hbe.size; (try simp only [World.size_alloc] at hbes); (try (have : w.heap.size < hbew.heap.size := by omega)); (try (have : w.heap.size + 1 < hbew.heap.size := by omega)); (try (have : w.heap.size + 1 + 1 < hbew.heap.size := by omega)); (try (have : w.heap.size + 1 + 1 + 1 < hbew.heap.size := by omega)); (try (have : bX < hbew.heap.size := by omega)); (try (have : bY < hbew.heap.size := by omega)); (try (have : bZ < hbew.heap.size := by omega))))
              go_roundg rest2.length
              case measure => simp at hky; omega
              case rel =>
                have hw3 : Below (w.alloc (.cells #[.slice r xs.length cap] 24)).heap.size (w.alloc (.cells #[.slice r xs.length cap] 24)) (set4 hbew hb4w.heap.size ek eh ec es2) := by (repeat' (first | (with_reducible exact Below.refl _ _) | (with_reducible assumption) | (with_reducible refine below_alloc ?_ _) | (with_reducible refine Below.drew ?_) | (with_reducible refine below_drewN ?_ _) | (with_reducible refine below_step (by assumption) ?_) | (with_reducible refine below_later ?_ _) | (with_reducible refine Below.setCell ?_ ?_ _) | go_size))
                have hbes := hbe.size
                refine ⟨⟨set4 hbew hb4w.heap.size ek eh ec es2, hw3⟩, some ⟨bR, oR, none⟩, rc - 1, rest2, ek, es2, eh, ec, by simp [hrc, Addr.add], Nat.le_refl _, rfl, Lib.hid ((HO.out.below hbe (Nat.le_refl _)).set4 (by omega) _ _ _ _), Lib.hid ?_, hrB, by simp [set4, go_sem, *], by simp [set4, go_sem, *], by simp [set4, go_sem, *], by simp [set4, go_sem, *], by simp [set4, go_sem, *], by simp [set4, go_sem, *], by simp [set4, go_sem, *], by simp [set4, go_sem, *], ?_, HOK2, Lib.hid (by have := HRL.out; simp at this; omega), HIN2⟩
                · subst hrc; exact (((HI.out.later hbe).set4 (fun z hz => (hrB z hz).1) _ _ _ _).tailNil rfl).2
                · show L ≤ (set4 hbew hb4w.heap.size ek eh ec es2).heap.size
                  simp only [World.size_setCell]
                  omega
            · go_wp2_with ((go_at_call 14; refine (HPC.out _ (HX.out _ (by (repeat' (first | (with_reducible exact Below.refl _ _) | (with_reducible assumption) | (with_reducible refine below_alloc ?_ _) | (with_reducible refine Below.drew ?_) | (with_reducible refine below_drewN ?_ _) | (with_reducible refine below_step (by assumption) ?_) | (with_reducible refine below_later ?_ _) | (with_reducible refine Below.setCell ?_ ?_ _) | go_size))))).mono ?_; rintro e hbew ⟨rfl, hbe⟩; obtain ⟨hbec, hbef⟩ := bcell hbe; have hbes := hbe.size; (try simp only [World.size_alloc] at hbes); (try (have : w.heap.size < hbew.heap.size := by omega)); (try (have : w.heap.size + 1 < hbew.heap.size := by omega)); (try (have : w.heap.size + 1 + 1 < hbew.heap.size := by omega)); (try (have : w.heap.size + 1 + 1 + 1 < hbew.heap.size := by omega)); (try (have : bX < hbew.heap.size := by omega)); (try (have : bY < hbew.heap.size := by omega)); (try (have : bZ < hbew.heap.size := by omega))))
              go_roundg rest2.length
              case measure => simp at hky; omega
              case rel =>
                have hw3 : Below (w.alloc (.cells #[.slice r xs.length cap] 24)).heap.size (w.alloc (.cells #[.slice r xs.length cap] 24)) (set4 hbew hb4w.heap.size ek eh ec es2) := by (repeat' (first | (with_reducible exact Below.refl _ _) | (with_reducible assumption) | (with_reducible refine below_alloc ?_ _) | (with_reducible refine Below.drew ?_) | (with_reducible refine below_drewN ?_ _) | (with_reducible refine below_step (by assumption) ?_) | (with_reducible refine below_later ?_ _) | (with_reducible refine Below.setCell ?_ ?_ _) | go_size))
                have hbes := hbe.size
                refine ⟨⟨set4 hbew hb4w.heap.size ek eh ec es2, hw3⟩, some ⟨bR, oR + 1, none⟩, rc - 1, rest2, ek, es2, eh, ec, by simp [hrc, Addr.add], Nat.le_refl _, rfl, Lib.hid ((HO.out.below hbe (Nat.le_refl _)).set4 (by omega) _ _ _ _), Lib.hid ?_, fun z hz => by (simp only [Option.some.injEq] at hz; subst hz; exact hrB ⟨bR, oR, none⟩ rfl), by simp [set4, go_sem, *], by simp [set4, go_sem, *], by simp [set4, go_sem, *], by simp [set4, go_sem, *], by simp [set4, go_sem, *], by simp [set4, go_sem, *], by simp [set4, go_sem, *], by simp [set4, go_sem, *], ?_, HOK2, Lib.hid (by have := HRL.out; simp at this; omega), HIN2⟩
                · exact ((HI.out.later hbe).set4 (fun z hz => (hrB z hz).1) _ _ _ _).tailOne hrc
                · show L ≤ (set4 hbew hb4w.heap.size ek eh ec es2).heap.size
                  simp only [World.size_setCell]
                  omega
          · have hxt2 : ¬ x ≤ t := hxt
            have HEND : Hid (phEdges t ⟨pk2, ph2, pc2, ps2⟩ (x :: rest2) = (⟨pk2, ph2, pc2, ps2⟩, (x :: rest2))) := Lib.hid (by rw [phEdges, if_neg hxt2])
            obtain ⟨tk, th, tc, tsn, htn⟩ : ∃ tk th tc tsn, (Ph.mk pk2 ph2 pc2 ps2).turn (halfI xs).1 (halfI xs).2 = ⟨tk, th, tc, tsn⟩ := ⟨_, _, _, _, rfl⟩
            have HTN := Lib.hid htn
            have HPT := Lib.hid (fun w hx => pTurn_any r cap xs pk2 ps2 tk tsn ph2 pc2 th tc w hx HOK.out HTN.out)
            have HOK2 : Hid (cphB xs ⟨tk, th, tc, tsn⟩ = true) := Lib.hid (by rw [← HTN.out]; exact HCP.out _ (Ph.turn_ok _ _ _))
            have HQ2 : Hid (phRun (halfI xs).1 (halfI xs).2 phZero ts es = (out ++ [(⟨tk, th, tc, tsn⟩ : Ph)]) ++ phRun (halfI xs).1 (halfI xs).2 ⟨tk, th, tc, tsn⟩ (ts.drop (k + 1)) (x :: rest2)) := Lib.hid (by
              rw [HQ.out, HDROP.out, phRun_cons _ _ _ _ _ _ _ _ (HIN.out.trans HEND.out), HTN.out]; simp)
            clear htn
            have HOA : Hid (∀ W, Below q.w.heap.size q.w W → OwnR 34 4 phC (set4 W hb4w.heap.size tk th tc tsn) L ro co out) := Lib.hid (fun W hW => (HO.out.below hW (Nat.le_refl _)).set4 (by omega) _ _ _ _)
            clear HO
            go_wp2_with (first | (go_at_call 15; refine (HPT.out _ (HX.out _ (by (repeat' (first | (with_reducible exact Below.refl _ _) | (with_reducible assumption) | (with_reducible refine below_alloc ?_ _) | (with_reducible refine Below.drew ?_) | (with_reducible refine below_drewN ?_ _) | (with_reducible refine below_step (by assumption) ?_) | (with_reducible refine below_later ?_ _) | (with_reducible refine Below.setCell ?_ ?_ _) | go_size))))).mono ?_; rintro e hbtw ⟨rfl, hbt⟩; obtain ⟨hbtc, hbtf⟩ := bcell hbt; have hbts := hbt.size) | (at_builtin; refine wpList_append_row (enc := phC) Try.underlying29 infoPhase rfl (by omega) (by omega) (by rfl) _ _ (by rfl) (set4 hbtw hb4w.heap.size tk th tc tsn) L ro co out (⟨tk, th, tc, tsn⟩ : Ph) rfl (phC_one _) (by rfl) (by rfl) (by simp only [set4, World.size_setCell]; rfl) (HOA.out _ hbt) (by omega) (by show L ≤ (set4 hbtw hb4w.heap.size tk th tc tsn).heap.size; simp only [World.size_setCell]; omega) ?_; intro r' cap' w3 hown3 hb3))
            have hw3 : Below (w.alloc (.cells #[.slice r xs.length cap] 24)).heap.size (w.alloc (.cells #[.slice r xs.length cap] 24)) w3 := (show Below (w.alloc (.cells #[.slice r xs.length cap] 24)).heap.size (w.alloc (.cells #[.slice r xs.length cap] 24)) (set4 hbtw hb4w.heap.size tk th tc tsn) by (repeat' (first | (with_reducible exact Below.refl _ _) | (with_reducible assumption) | (with_reducible refine below_alloc ?_ _) | (with_reducible refine Below.drew ?_) | (with_reducible refine below_drewN ?_ _) | (with_reducible refine below_step (by assumption) ?_) | (with_reducible refine below_later ?_ _) | (with_reducible refine Below.setCell ?_ ?_ _) | go_size))).trans (hb3.mono (by simp only [World.size_alloc]; omega))
            have hw3s := hb3.size
            simp only [World.size_setCell] at hw3s
            have HOWN := Lib.hid hown3
            have HI3 : Hid (IsInts w3 (some ⟨bR, oR, none⟩) rc .i64 (x :: rest2)) := Lib.hid (((HI.out.later hbt).set4 (fun z hz => (hrB z hz).1) _ _ _ _).keep hb3 (fun z hz => (hrB z hz).2))
            clear hown3
            have e0 : w3.cell? ⟨hb4w.heap.size, 0, none⟩ = some (.bool tk) := by rw [hb3.cell (p := ⟨hb4w.heap.size, 0, none⟩) (by show hb4w.heap.size < L; omega)]; simp [set4, go_sem, *]
            have e1 : w3.cell? ⟨hb4w.heap.size, 1, none⟩ = some (.int .i64 th) := by rw [hb3.cell (p := ⟨hb4w.heap.size, 1, none⟩) (by show hb4w.heap.size < L; omega)]; simp [set4, go_sem, *]
            have e2 : w3.cell? ⟨hb4w.heap.size, 2, none⟩ = some (.int .i64 tc) := by rw [hb3.cell (p := ⟨hb4w.heap.size, 2, none⟩) (by show hb4w.heap.size < L; omega)]; simp [set4, go_sem, *]
            have e3 : w3.cell? ⟨hb4w.heap.size, 3, none⟩ = some (.bool tsn) := by rw [hb3.cell (p := ⟨hb4w.heap.size, 3, none⟩) (by show hb4w.heap.size < L; omega)]; simp [set4, go_sem, *]
            have g0 : w3.frozen? ⟨hb4w.heap.size, 0, none⟩ = false := by rw [hb3.frozen (p := ⟨hb4w.heap.size, 0, none⟩) (by show hb4w.heap.size < L; omega)]; simp [set4, go_sem, *]
            have g1 : w3.frozen? ⟨hb4w.heap.size, 1, none⟩ = false := by rw [hb3.frozen (p := ⟨hb4w.heap.size, 1, none⟩) (by show hb4w.heap.size < L; omega)]; simp [set4, go_sem, *]
            have g2 : w3.frozen? ⟨hb4w.heap.size, 2, none⟩ = false := by rw [hb3.frozen (p := ⟨hb4w.heap.size, 2, none⟩) (by show hb4w.heap.size < L; omega)]; simp [set4, go_sem, *]
            have g3 : w3.frozen? ⟨hb4w.heap.size, 3, none⟩ = false := by rw [hb3.frozen (p := ⟨hb4w.heap.size, 3, none⟩) (by show hb4w.heap.size < L; omega)]; simp [set4, go_sem, *]
            go_roundg (n - (k + 1))
            case measure => omega
            case rel => exact ⟨k + 1, r', cap', out ++ [(⟨tk, th, tc, tsn⟩ : Ph)], ⟨w3, hw3⟩, (some ⟨bR, oR, none⟩), rc, (x :: rest2), tk, tsn, th, tc, by simp, rfl, by go_num, by omega, by omega, rfl, by have := HOUT.out; simp; omega, Lib.hid (by have := HOUT.out; simp; omega), HOWN, HI3, hrB, e0, e1, e2, e3, g0, g1, g2, g3, by show L ≤ w3.heap.size; omega, HOK2, HRL, HQ2⟩

    · obtain rfl : k = n := by omega
      have HEQ : Hid (phRun (halfI xs).1 (halfI xs).2 phZero ts es = out) := Lib.hid (by
        rw [HQ.out, List.drop_eq_nil_of_le (by have := HNn.out; omega)]
        simp [phRun])
      have hol := HOUT.out
      have HOL := Lib.hid hol
      clear hol
      go_wp2
      go_ret2
      refine ⟨ro, co, by first | rfl | (rw [HOL.out]; rfl), ?_, by (repeat' (first | (with_reducible exact Below.refl _ _) | (with_reducible assumption) | (with_reducible refine below_alloc ?_ _) | (with_reducible refine Below.drew ?_) | (with_reducible refine below_drewN ?_ _) | (with_reducible refine below_step (by assumption) ?_) | (with_reducible refine below_later ?_ _) | (with_reducible refine Below.setCell ?_ ?_ _) | go_size))⟩
      rw [HEQ.out]
      exact HO.out.base (by omega)
end Go.Proofs.Ytoninaidinnbgaa
