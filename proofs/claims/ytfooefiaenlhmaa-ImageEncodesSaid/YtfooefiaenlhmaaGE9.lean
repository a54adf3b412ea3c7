/- Lemmas for the laws of package magnetolaw15: magnetoref03: in9, Unit, Valid. magnetoref13: Fields, uses, Types. magnetoref13.Formed. magnetoref13: Types; Formed out of bounds. magnetoref13.Formed: what an operation does not use is nothing. magnetoref13.Formed by operations. -/
import Derived.Test.YtfooefiaenlhmaaGE8
namespace Go.Proofs.Ytfooefiaenlhmaa
set_option linter.unusedVariables false
set_option linter.unusedSimpArgs false
open Go.RowKit Go.ChangeShapes Go.WideShapes Go.ChangeAt

set_option maxRecDepth 100000 in
set_option maxHeartbeats 2000000 in
theorem runit_any (m kg s a k : Int) (w : World) : Calls Try.prog 75 #[.agg #[.int .i64 m, .int .i64 kg, .int .i64 s, .int .i64 a, .int .i64 k]] w fun e w' => e = .returned (.bool (unitB m kg s a k)) ∧ Below w.heap.size w w' := by
  have HR : Hid (unitB m kg s a k = (in9 m && (in9 kg && (in9 s && (in9 a && in9 k))))) := Lib.hid rfl
  generalize unitB m kg s a k = R at *
  by_cases n0 : -9 ≤ m
  rotate_left
  · obtain rfl : R = false := by rw [HR.out, in9_bad (x := m) (.inl (by omega))]; simp
    clear HR
    go_enter Try.func75, Try.ntmps75
    go_wp2
    go_ret
    exact ⟨rfl, by (repeat' (first | (with_reducible exact Below.refl _ _) | (with_reducible assumption) | (with_reducible refine below_alloc ?_ _) | (with_reducible refine Below.drew ?_) | (with_reducible refine below_drewN ?_ _) | (with_reducible refine below_step (by assumption) ?_) | (with_reducible refine below_later ?_ _) | (with_reducible refine Below.setCell ?_ ?_ _) | go_size))⟩
  by_cases u0 : m ≤ 9
  rotate_left
  · obtain rfl : R = false := by rw [HR.out, in9_bad (x := m) (.inr (by omega))]; simp
    clear HR
    go_enter Try.func75, Try.ntmps75
    go_wp2
    go_ret
    exact ⟨rfl, by (repeat' (first | (with_reducible exact Below.refl _ _) | (with_reducible assumption) | (with_reducible refine below_alloc ?_ _) | (with_reducible refine Below.drew ?_) | (with_reducible refine below_drewN ?_ _) | (with_reducible refine below_step (by assumption) ?_) | (with_reducible refine below_later ?_ _) | (with_reducible refine Below.setCell ?_ ?_ _) | go_size))⟩
  by_cases n1 : -9 ≤ kg
  rotate_left
  · obtain rfl : R = false := by rw [HR.out, in9_bad (x := kg) (.inl (by omega))]; simp
    clear HR
    go_enter Try.func75, Try.ntmps75
    go_wp2
    go_ret
    exact ⟨rfl, by (repeat' (first | (with_reducible exact Below.refl _ _) | (with_reducible assumption) | (with_reducible refine below_alloc ?_ _) | (with_reducible refine Below.drew ?_) | (with_reducible refine below_drewN ?_ _) | (with_reducible refine below_step (by assumption) ?_) | (with_reducible refine below_later ?_ _) | (with_reducible refine Below.setCell ?_ ?_ _) | go_size))⟩
  by_cases u1 : kg ≤ 9
  rotate_left
  · obtain rfl : R = false := by rw [HR.out, in9_bad (x := kg) (.inr (by omega))]; simp
    clear HR
    go_enter Try.func75, Try.ntmps75
    go_wp2
    go_ret
    exact ⟨rfl, by (repeat' (first | (with_reducible exact Below.refl _ _) | (with_reducible assumption) | (with_reducible refine below_alloc ?_ _) | (with_reducible refine Below.drew ?_) | (with_reducible refine below_drewN ?_ _) | (with_reducible refine below_step (by assumption) ?_) | (with_reducible refine below_later ?_ _) | (with_reducible refine Below.setCell ?_ ?_ _) | go_size))⟩
  by_cases n2 : -9 ≤ s
  rotate_left
  · obtain rfl : R = false := by rw [HR.out, in9_bad (x := s) (.inl (by omega))]; simp
    clear HR
    go_enter Try.func75, Try.ntmps75
    go_wp2
    go_ret
    exact ⟨rfl, by (repeat' (first | (with_reducible exact Below.refl _ _) | (with_reducible assumption) | (with_reducible refine below_alloc ?_ _) | (with_reducible refine Below.drew ?_) | (with_reducible refine below_drewN ?_ _) | (with_reducible refine below_step (by assumption) ?_) | (with_reducible refine below_later ?_ _) | (with_reducible refine Below.setCell ?_ ?_ _) | go_size))⟩
  by_cases u2 : s ≤ 9
  rotate_left
  · obtain rfl : R = false := by rw [HR.out, in9_bad (x := s) (.inr (by omega))]; simp
    clear HR
    go_enter Try.func75, Try.ntmps75
    go_wp2
    go_ret
    exact ⟨rfl, by (repeat' (first | (with_reducible exact Below.refl _ _) | (with_reducible assumption) | (with_reducible refine below_alloc ?_ _) | (with_reducible refine Below.drew ?_) | (with_reducible refine below_drewN ?_ _) | (with_reducible refine below_step (by assumption) ?_) | (with_reducible refine below_later ?_ _) | (with_reducible refine Below.setCell ?_ ?_ _) | go_size))⟩
  by_cases n3 : -9 ≤ a
  rotate_left
  · obtain rfl : R = false := by rw [HR.out, in9_bad (x := a) (.inl (by omega))]; simp
    clear HR
    go_enter Try.func75, Try.ntmps75
    go_wp2
    go_ret
    exact ⟨rfl, by (repeat' (first | (with_reducible exact Below.refl _ _) | (with_reducible assumption) | (with_reducible refine below_alloc ?_ _) | (with_reducible refine Below.drew ?_) | (with_reducible refine below_drewN ?_ _) | (with_reducible refine below_step (by assumption) ?_) | (with_reducible refine below_later ?_ _) | (with_reducible refine Below.setCell ?_ ?_ _) | go_size))⟩
  by_cases u3 : a ≤ 9
  rotate_left
  · obtain rfl : R = false := by rw [HR.out, in9_bad (x := a) (.inr (by omega))]; simp
    clear HR
    go_enter Try.func75, Try.ntmps75
    go_wp2
    go_ret
    exact ⟨rfl, by (repeat' (first | (with_reducible exact Below.refl _ _) | (with_reducible assumption) | (with_reducible refine below_alloc ?_ _) | (with_reducible refine Below.drew ?_) | (with_reducible refine below_drewN ?_ _) | (with_reducible refine below_step (by assumption) ?_) | (with_reducible refine below_later ?_ _) | (with_reducible refine Below.setCell ?_ ?_ _) | go_size))⟩
  by_cases n4 : -9 ≤ k
  rotate_left
  · obtain rfl : R = false := by rw [HR.out, in9_bad (x := k) (.inl (by omega))]; simp
    clear HR
    go_enter Try.func75, Try.ntmps75
    go_wp2
    go_ret
    exact ⟨rfl, by (repeat' (first | (with_reducible exact Below.refl _ _) | (with_reducible assumption) | (with_reducible refine below_alloc ?_ _) | (with_reducible refine Below.drew ?_) | (with_reducible refine below_drewN ?_ _) | (with_reducible refine below_step (by assumption) ?_) | (with_reducible refine below_later ?_ _) | (with_reducible refine Below.setCell ?_ ?_ _) | go_size))⟩
  by_cases u4 : k ≤ 9
  rotate_left
  · obtain rfl : R = false := by rw [HR.out, in9_bad (x := k) (.inr (by omega))]; simp
    clear HR
    go_enter Try.func75, Try.ntmps75
    go_wp2
    go_ret
    exact ⟨rfl, by (repeat' (first | (with_reducible exact Below.refl _ _) | (with_reducible assumption) | (with_reducible refine below_alloc ?_ _) | (with_reducible refine Below.drew ?_) | (with_reducible refine below_drewN ?_ _) | (with_reducible refine below_step (by assumption) ?_) | (with_reducible refine below_later ?_ _) | (with_reducible refine Below.setCell ?_ ?_ _) | go_size))⟩
  obtain rfl : R = true := by rw [HR.out, in9_good (x := m) (by omega) (by omega), in9_good (x := kg) (by omega) (by omega), in9_good (x := s) (by omega) (by omega), in9_good (x := a) (by omega) (by omega), in9_good (x := k) (by omega) (by omega)]; rfl
  clear HR
  go_enter Try.func75, Try.ntmps75
  go_wp2
  go_ret
  exact ⟨rfl, by (repeat' (first | (with_reducible exact Below.refl _ _) | (with_reducible assumption) | (with_reducible refine below_alloc ?_ _) | (with_reducible refine Below.drew ?_) | (with_reducible refine below_drewN ?_ _) | (with_reducible refine below_step (by assumption) ?_) | (with_reducible refine below_later ?_ _) | (with_reducible refine Below.setCell ?_ ?_ _) | go_size))⟩
theorem fxb0 {t : Fx} (h : ¬ (t.bits = 8 ∨ t.bits = 16 ∨ t.bits = 32)) : fxB t = false := by unfold fxB; rw [decide_eq_false h]; rfl
theorem fxb1 {t : Fx} (h : ¬ (1 ≤ t.num ∧ t.num ≤ 1048576)) : fxB t = false := by unfold fxB; rw [decide_eq_false h]; simp
theorem fxb2 {t : Fx} (h : ¬ (1 ≤ t.den ∧ t.den ≤ 1048576)) : fxB t = false := by unfold fxB; rw [decide_eq_false h]; simp
theorem fxb3 {t : Fx} (h : ¬ (-1073741824 ≤ t.off ∧ t.off ≤ 1073741824)) : fxB t = false := by unfold fxB; rw [decide_eq_false h]; simp
theorem fxb4 {t : Fx} (h0 : t.bits = 8 ∨ t.bits = 16 ∨ t.bits = 32) (h1 : 1 ≤ t.num ∧ t.num ≤ 1048576) (h2 : 1 ≤ t.den ∧ t.den ≤ 1048576) (h3 : -1073741824 ≤ t.off ∧ t.off ≤ 1073741824) : fxB t = unitB t.m t.kg t.s t.a t.k := by
  unfold fxB; rw [decide_eq_true h0, decide_eq_true h1, decide_eq_true h2, decide_eq_true h3]; rfl
set_option maxRecDepth 100000 in
set_option maxHeartbeats 4000000 in
theorem r3valid_any (t : Fx) (w : World) : Calls Try.prog 37 #[.agg #[.int .i64 t.bits, .bool t.sg, .int .i64 t.num, .int .i64 t.off, .int .i64 t.den, .int .i64 t.m, .int .i64 t.kg, .int .i64 t.s, .int .i64 t.a, .int .i64 t.k]] w fun e w' => e = .returned (.bool (fxB t)) ∧ Below w.heap.size w w' := by
  have F0 := Lib.hid (@fxb0 t)
  have F1 := Lib.hid (@fxb1 t)
  have F2 := Lib.hid (@fxb2 t)
  have F3 := Lib.hid (@fxb3 t)
  have F4 := Lib.hid (@fxb4 t)
  have HU := Lib.hid (fun W => runit_any t.m t.kg t.s t.a t.k W)
  obtain ⟨bits, sg, num, off, den, m, kg, s, a, k⟩ := t
  simp only at F0 F1 F2 F3 F4 HU ⊢
  generalize unitB m kg s a k = U at *
  generalize fxB ⟨bits, sg, num, off, den, m, kg, s, a, k⟩ = R at *
  by_cases hb : bits = 8 ∨ bits = 16 ∨ bits = 32
  rotate_left
  · obtain rfl := F0.out hb
    have b0 : ¬ bits = 8 := by omega
    have b1 : ¬ bits = 16 := by omega
    have b2 : ¬ bits = 32 := by omega
    have c0 : (bits != 8) = true := by simp [b0]
    have c1 : (bits != 16) = true := by simp [b1]
    have c2 : (bits != 32) = true := by simp [b2]
    clear F0 F1 F2 F3 F4 HU hb
    go_enter Try.func37, Try.ntmps37
    go_wp2
    go_ret
    exact ⟨rfl, by (repeat' (first | (with_reducible exact Below.refl _ _) | (with_reducible assumption) | (with_reducible refine below_alloc ?_ _) | (with_reducible refine Below.drew ?_) | (with_reducible refine below_drewN ?_ _) | (with_reducible refine below_step (by assumption) ?_) | (with_reducible refine below_later ?_ _) | (with_reducible refine Below.setCell ?_ ?_ _) | go_size))⟩
  by_cases l0 : 1 ≤ num
  rotate_left
  · obtain rfl := F1.out (by omega)
    clear F0 F1 F2 F3 F4 HU
    rcases hb with rfl | rfl | rfl
    all_goals (go_enter Try.func37, Try.ntmps37)
    all_goals go_wp2
    all_goals go_ret
    all_goals exact ⟨rfl, by (repeat' (first | (with_reducible exact Below.refl _ _) | (with_reducible assumption) | (with_reducible refine below_alloc ?_ _) | (with_reducible refine Below.drew ?_) | (with_reducible refine below_drewN ?_ _) | (with_reducible refine below_step (by assumption) ?_) | (with_reducible refine below_later ?_ _) | (with_reducible refine Below.setCell ?_ ?_ _) | go_size))⟩
  by_cases u0 : num ≤ 1048576
  rotate_left
  · obtain rfl := F1.out (by omega)
    clear F0 F1 F2 F3 F4 HU
    rcases hb with rfl | rfl | rfl
    all_goals (go_enter Try.func37, Try.ntmps37)
    all_goals go_wp2
    all_goals go_ret
    all_goals exact ⟨rfl, by (repeat' (first | (with_reducible exact Below.refl _ _) | (with_reducible assumption) | (with_reducible refine below_alloc ?_ _) | (with_reducible refine Below.drew ?_) | (with_reducible refine below_drewN ?_ _) | (with_reducible refine below_step (by assumption) ?_) | (with_reducible refine below_later ?_ _) | (with_reducible refine Below.setCell ?_ ?_ _) | go_size))⟩
  by_cases l1 : 1 ≤ den
  rotate_left
  · obtain rfl := F2.out (by omega)
    clear F0 F1 F2 F3 F4 HU
    rcases hb with rfl | rfl | rfl
    all_goals (go_enter Try.func37, Try.ntmps37)
    all_goals go_wp2
    all_goals go_ret
    all_goals exact ⟨rfl, by (repeat' (first | (with_reducible exact Below.refl _ _) | (with_reducible assumption) | (with_reducible refine below_alloc ?_ _) | (with_reducible refine Below.drew ?_) | (with_reducible refine below_drewN ?_ _) | (with_reducible refine below_step (by assumption) ?_) | (with_reducible refine below_later ?_ _) | (with_reducible refine Below.setCell ?_ ?_ _) | go_size))⟩
  by_cases u1 : den ≤ 1048576
  rotate_left
  · obtain rfl := F2.out (by omega)
    clear F0 F1 F2 F3 F4 HU
    rcases hb with rfl | rfl | rfl
    all_goals (go_enter Try.func37, Try.ntmps37)
    all_goals go_wp2
    all_goals go_ret
    all_goals exact ⟨rfl, by (repeat' (first | (with_reducible exact Below.refl _ _) | (with_reducible assumption) | (with_reducible refine below_alloc ?_ _) | (with_reducible refine Below.drew ?_) | (with_reducible refine below_drewN ?_ _) | (with_reducible refine below_step (by assumption) ?_) | (with_reducible refine below_later ?_ _) | (with_reducible refine Below.setCell ?_ ?_ _) | go_size))⟩
  by_cases l2 : -1073741824 ≤ off
  rotate_left
  · obtain rfl := F3.out (by omega)
    clear F0 F1 F2 F3 F4 HU
    rcases hb with rfl | rfl | rfl
    all_goals (go_enter Try.func37, Try.ntmps37)
    all_goals go_wp2
    all_goals go_ret
    all_goals exact ⟨rfl, by (repeat' (first | (with_reducible exact Below.refl _ _) | (with_reducible assumption) | (with_reducible refine below_alloc ?_ _) | (with_reducible refine Below.drew ?_) | (with_reducible refine below_drewN ?_ _) | (with_reducible refine below_step (by assumption) ?_) | (with_reducible refine below_later ?_ _) | (with_reducible refine Below.setCell ?_ ?_ _) | go_size))⟩
  by_cases u2 : off ≤ 1073741824
  rotate_left
  · obtain rfl := F3.out (by omega)
    clear F0 F1 F2 F3 F4 HU
    rcases hb with rfl | rfl | rfl
    all_goals (go_enter Try.func37, Try.ntmps37)
    all_goals go_wp2
    all_goals go_ret
    all_goals exact ⟨rfl, by (repeat' (first | (with_reducible exact Below.refl _ _) | (with_reducible assumption) | (with_reducible refine below_alloc ?_ _) | (with_reducible refine Below.drew ?_) | (with_reducible refine below_drewN ?_ _) | (with_reducible refine below_step (by assumption) ?_) | (with_reducible refine below_later ?_ _) | (with_reducible refine Below.setCell ?_ ?_ _) | go_size))⟩
  obtain rfl := F4.out hb ⟨l0, u0⟩ ⟨l1, u1⟩ ⟨l2, u2⟩
  clear F0 F1 F2 F3 F4
  rcases hb with rfl | rfl | rfl
  all_goals (go_enter Try.func37, Try.ntmps37)
  all_goals (go_wp2_with ((go_at_call 75; refine (HU.out _).mono ?_; rintro e hb1w ⟨rfl, hb1⟩; obtain ⟨hb1c, hb1f⟩ := bcell hb1; have hb1s := hb1.size; (try simp only [World.size_alloc] at hb1s); (try (have : w.heap.size < hb1w.heap.size := by omega)); (try (have : w.heap.size + 1 < hb1w.heap.size := by omega)); (try (have : w.heap.size + 1 + 1 < hb1w.heap.size := by omega)); (try (have : w.heap.size + 1 + 1 + 1 < hb1w.heap.size := by omega)); (try (have : bX < hb1w.heap.size := by omega)); (try (have : bY < hb1w.heap.size := by omega)); (try (have : bZ < hb1w.heap.size := by omega)))))
  all_goals go_ret
  all_goals exact ⟨rfl, by (repeat' (first | (with_reducible exact Below.refl _ _) | (with_reducible assumption) | (with_reducible refine below_alloc ?_ _) | (with_reducible refine Below.drew ?_) | (with_reducible refine below_drewN ?_ _) | (with_reducible refine below_step (by assumption) ?_) | (with_reducible refine below_later ?_ _) | (with_reducible refine Below.setCell ?_ ?_ _) | go_size))⟩
end Go.Proofs.Ytfooefiaenlhmaa
namespace Go.Proofs.Ytfooefiaenlhmaa
set_option linter.unusedVariables false
set_option linter.unusedSimpArgs false
open Go.RowKit Go.ChangeShapes Go.WideShapes Go.ChangeAt

set_option maxRecDepth 100000 in
set_option maxHeartbeats 4000000 in
theorem rfields_v (op : Nat) (h1 : 1 ≤ op) (h2 : op ≤ 22) (w : World) : Calls Try.prog 80 #[.int .i64 op] w fun e w' => e = .returned (.string (rowF op)) ∧ w' = w := by
  obtain rfl | rfl | rfl | rfl | rfl | rfl | rfl | rfl | rfl | rfl | rfl | rfl | rfl | rfl | rfl | rfl | rfl | rfl | rfl | rfl | rfl | rfl : op = 1 ∨ op = 2 ∨ op = 3 ∨ op = 4 ∨ op = 5 ∨ op = 6 ∨ op = 7 ∨ op = 8 ∨ op = 9 ∨ op = 10 ∨ op = 11 ∨ op = 12 ∨ op = 13 ∨ op = 14 ∨ op = 15 ∨ op = 16 ∨ op = 17 ∨ op = 18 ∨ op = 19 ∨ op = 20 ∨ op = 21 ∨ op = 22 := by omega
  all_goals (go_enter Try.func80, Try.ntmps80)
  all_goals go_wp2
  all_goals go_ret
  all_goals exact ⟨rfl, rfl⟩
/-- A text holds a byte. -/
def holds (s : ByteArray) (c : Int) : Bool := s.data.toList.any fun x => decide ((x.toNat : Int) = c)
theorem holds_at {s : ByteArray} {c : Int} (k : Nat) (hk : k < s.size) (h : ((s[k]'hk).toNat : Int) = c) : holds s c = true := by
  unfold holds
  rw [List.any_eq_true]
  exact ⟨s[k]'hk, by
    rw [show s[k]'hk = s.data[k]'hk from rfl]
    exact Array.getElem_mem_toList hk, by simpa using h⟩
theorem holds_not {s : ByteArray} {c : Int} (h : ∀ k, ∀ hk : k < s.size, ¬ ((s[k]'hk).toNat : Int) = c) : holds s c = false := by
  unfold holds
  rw [List.any_eq_false]
  intro x hx
  obtain ⟨k, hk, rfl⟩ := List.mem_iff_getElem.1 hx
  have := h k hk
  rw [show s[k]'hk = s.data[k]'hk from rfl] at this
  simpa using this
set_option maxRecDepth 100000 in
set_option maxHeartbeats 1000000 in
theorem ruses_any (s : ByteArray) (hs : s.size ≤ 1000) (c : Int) (w : World) : Calls Try.prog 81 #[.string s, .int .u8 c] w fun e w' => e = .returned (.bool (holds s c)) ∧ w' = w := by
  have HT := Lib.hid (@holds_at s c)
  have HF := Lib.hid (@holds_not s c)
  generalize holds s c = R at *
  go_enter Try.func81, Try.ntmps81
  go_wp2
  go_loopg [5] s.size (fun kx s5 wr => ∃ (k : Nat), s5 = .int .i64 k ∧ k ≤ s.size ∧ s.size - k ≤ kx ∧ wr = w ∧ Hid (∀ j, ∀ hj : j < s.size, j < k → ¬ ((s[j]'hj).toNat : Int) = c))
  case atStart => exact ⟨0, rfl, by omega, by omega, rfl, Lib.hid (fun j _ h => absurd h (by omega))⟩
  case round =>
    obtain ⟨k, rfl, hk, hkx, rfl, HN⟩ := hrel
    by_cases hlt : k < s.size
    · have hix : ∀ W, (Instr.index 9 (.string s) (.int .i64 k)).run Try.prog W = .ok (.int .u8 ((s[k]'hlt).toNat : Nat)) W := fun W => by
        rw [run_index_string W 9 s .i64 k Try.underlying9, dif_pos ⟨by omega, by omega⟩]
        rfl
      have hk1 : (k : Int) < s.size := by omega
      by_cases hc : ((s[k]'hlt).toNat : Int) = c
      · obtain rfl := HT.out k hlt hc
        clear HT HF
        generalize ((s[k]'hlt).toNat : Int) = x at *
        go_wp2
        go_ret
        exact ⟨rfl, rfl⟩
      · have HC := Lib.hid hc
        clear HT
        generalize hx : ((s[k]'hlt).toNat : Int) = x at *
        go_wp2
        go_roundg (s.size - (k + 1))
        case measure => omega
        case rel =>
          refine ⟨k + 1, by go_num, by omega, by omega, rfl, Lib.hid (fun j hj hjk => ?_)⟩
          by_cases e : j = k
          · subst e
            rw [hx]
            exact HC.out
          · exact HN.out j hj (by omega)
    · obtain rfl : k = s.size := by omega
      obtain rfl := HF.out (fun j hj => HN.out j hj hj)
      clear HT HF
      go_wp2
      go_ret
      exact ⟨rfl, rfl⟩
end Go.Proofs.Ytfooefiaenlhmaa
namespace Go.Proofs.Ytfooefiaenlhmaa
set_option linter.unusedVariables false
set_option linter.unusedSimpArgs false
open Go.RowKit Go.ChangeShapes Go.WideShapes Go.ChangeAt

theorem holds_row (n : Nat) (h1 : 1 ≤ n) (h2 : n ≤ 22) : holds (rowF n) 66 = decide (0 ≤ ixB n 66) ∧ holds (rowF n) 67 = decide (0 ≤ ixB n 67) ∧ holds (rowF n) 75 = hasK n ∧ 0 ≤ ixB n 65 ∧ (rowF n).size ≤ 1000 := by
  obtain rfl | rfl | rfl | rfl | rfl | rfl | rfl | rfl | rfl | rfl | rfl | rfl | rfl | rfl | rfl | rfl | rfl | rfl | rfl | rfl | rfl | rfl : n = 1 ∨ n = 2 ∨ n = 3 ∨ n = 4 ∨ n = 5 ∨ n = 6 ∨ n = 7 ∨ n = 8 ∨ n = 9 ∨ n = 10 ∨ n = 11 ∨ n = 12 ∨ n = 13 ∨ n = 14 ∨ n = 15 ∨ n = 16 ∨ n = 17 ∨ n = 18 ∨ n = 19 ∨ n = 20 ∨ n = 21 ∨ n = 22 := by omega
  all_goals decide
/-- Formed, as the reference has it. -/
theorem formB_eq (n : Nat) (h1 : 1 ≤ n) (h2 : n ≤ 22) (a b c k : Int) : formB n a b c k = (decide (0 ≤ a ∧ a ≤ 15) && (decide (0 ≤ b ∧ b ≤ 15) && (decide (0 ≤ c ∧ c ≤ 15) && ((holds (rowF n) 66 || decide (b = 0)) && ((holds (rowF n) 67 || decide (c = 0)) && ((holds (rowF n) 75 || decide (k = 0)) && (!(holds (rowF n) 75) || kOk n k))))))) := by
  obtain ⟨e1, e2, e3, e4, _⟩ := holds_row n h1 h2
  unfold formB opB regB
  rw [e1, e2, e3, Int.toNat_natCast]
  have t : decide (1 ≤ (n : Int) ∧ (n : Int) ≤ 22) = true := by simp; omega
  rw [t]
  cases hasK n <;> cases kOk (n : Int) k
  all_goals (rw [Bool.eq_iff_iff]; simp only [Bool.and_eq_true, Bool.or_eq_true, decide_eq_true_eq, Bool.true_and, Bool.false_eq_true, if_true, if_false, Bool.not_true, Bool.not_false, and_true, and_false, true_or, false_or, or_false, or_true, Bool.and_true, Bool.and_false])
  all_goals omega
end Go.Proofs.Ytfooefiaenlhmaa
namespace Go.Proofs.Ytfooefiaenlhmaa
set_option linter.unusedVariables false
set_option linter.unusedSimpArgs false
open Go.RowKit Go.ChangeShapes Go.WideShapes Go.ChangeAt

theorem max0_run (k : Int) : ∃ m : Int, (∀ w, (Builtin.max_ #[3, 3] 3 #[.int .i64 k, .int .i64 0]).run Try.prog w = .ok (.int .i64 m) w) ∧ m = max k 0 := by
  refine ⟨_, fun _ => rfl, ?_⟩
  split <;> omega
set_option maxRecDepth 100000 in
set_option maxHeartbeats 1000000 in
theorem rtypes_any (q : Int) (h0 : 0 ≤ q) (hk : I64 q) (w : World) : Calls Try.prog 82 #[.int .i64 q] w fun e w' => e = .returned (.tuple #[.int .i64 (q / 16384), .int .i64 (q / 128 % 128), .int .i64 (q % 128)]) ∧ w' = w := by
  unfold I64 at hk
  simp [Lit.wf, IntKind.min, IntKind.max, IntKind.bits, IntKind.signed] at hk
  have d1 : q.tdiv 16384 = q / 16384 := Int.tdiv_eq_ediv_of_nonneg h0
  have d2 : q.tdiv 128 = q / 128 := Int.tdiv_eq_ediv_of_nonneg h0
  have d3 : (q / 128).tmod 128 = q / 128 % 128 := Int.tmod_eq_emod_of_nonneg (by omega)
  have d4 : q.tmod 128 = q % 128 := Int.tmod_eq_emod_of_nonneg h0
  have v1 : IntKind.i64.wrap (q / 16384) = q / 16384 := IntWalk.i64_in _ (by omega)
  have v2 : IntKind.i64.wrap (q / 128) = q / 128 := IntWalk.i64_in _ (by omega)
  have v3 : IntKind.i64.wrap (q / 128 % 128) = q / 128 % 128 := IntWalk.i64_in _ (by omega)
  have v4 : IntKind.i64.wrap (q % 128) = q % 128 := IntWalk.i64_in _ (by omega)
  go_enter Try.func82, Try.ntmps82
  go_wp2
  go_ret3
  exact ⟨by first | rfl | (simp [*]; done), rfl⟩
theorem formB_bad (op a b c k : Int) (h : ¬ (1 ≤ op ∧ op ≤ 22 ∧ 0 ≤ a ∧ a ≤ 15 ∧ 0 ≤ b ∧ b ≤ 15 ∧ 0 ≤ c ∧ c ≤ 15)) : formB op a b c k = false := by
  unfold formB opB regB
  cases hq : (if hasK op.toNat = true then kOk op k else decide (k = 0))
  · simp
  · rw [Bool.eq_false_iff]
    intro hh
    simp only [Bool.and_eq_true, decide_eq_true_eq, and_true] at hh
    omega
set_option maxRecDepth 100000 in
set_option maxHeartbeats 4000000 in
theorem rform_bad (op a b c k : Int) (h : ¬ (1 ≤ op ∧ op ≤ 22 ∧ 0 ≤ a ∧ a ≤ 15 ∧ 0 ≤ b ∧ b ≤ 15 ∧ 0 ≤ c ∧ c ≤ 15)) (w : World) : Calls Try.prog 40 #[.agg #[.int .i64 op, .int .i64 a, .int .i64 b, .int .i64 c, .int .i64 k]] w fun e w' => e = .returned (.bool (formB op a b c k)) ∧ Below w.heap.size w w' := by
  rw [formB_bad op a b c k h]
  by_cases n0 : 1 ≤ op
  rotate_left
  · clear h
    go_enter Try.func40, Try.ntmps40
    go_wp2
    go_ret
    exact ⟨rfl, by (repeat' (first | (with_reducible exact Below.refl _ _) | (with_reducible assumption) | (with_reducible refine below_alloc ?_ _) | (with_reducible refine Below.drew ?_) | (with_reducible refine below_drewN ?_ _) | (with_reducible refine below_step (by assumption) ?_) | (with_reducible refine below_later ?_ _) | (with_reducible refine Below.setCell ?_ ?_ _) | go_size))⟩
  by_cases n1 : op ≤ 22
  rotate_left
  · clear h
    go_enter Try.func40, Try.ntmps40
    go_wp2
    go_ret
    exact ⟨rfl, by (repeat' (first | (with_reducible exact Below.refl _ _) | (with_reducible assumption) | (with_reducible refine below_alloc ?_ _) | (with_reducible refine Below.drew ?_) | (with_reducible refine below_drewN ?_ _) | (with_reducible refine below_step (by assumption) ?_) | (with_reducible refine below_later ?_ _) | (with_reducible refine Below.setCell ?_ ?_ _) | go_size))⟩
  by_cases n2 : 0 ≤ a
  rotate_left
  · clear h
    go_enter Try.func40, Try.ntmps40
    go_wp2
    go_ret
    exact ⟨rfl, by (repeat' (first | (with_reducible exact Below.refl _ _) | (with_reducible assumption) | (with_reducible refine below_alloc ?_ _) | (with_reducible refine Below.drew ?_) | (with_reducible refine below_drewN ?_ _) | (with_reducible refine below_step (by assumption) ?_) | (with_reducible refine below_later ?_ _) | (with_reducible refine Below.setCell ?_ ?_ _) | go_size))⟩
  by_cases n3 : a ≤ 15
  rotate_left
  · clear h
    go_enter Try.func40, Try.ntmps40
    go_wp2
    go_ret
    exact ⟨rfl, by (repeat' (first | (with_reducible exact Below.refl _ _) | (with_reducible assumption) | (with_reducible refine below_alloc ?_ _) | (with_reducible refine Below.drew ?_) | (with_reducible refine below_drewN ?_ _) | (with_reducible refine below_step (by assumption) ?_) | (with_reducible refine below_later ?_ _) | (with_reducible refine Below.setCell ?_ ?_ _) | go_size))⟩
  by_cases n4 : 0 ≤ b
  rotate_left
  · clear h
    go_enter Try.func40, Try.ntmps40
    go_wp2
    go_ret
    exact ⟨rfl, by (repeat' (first | (with_reducible exact Below.refl _ _) | (with_reducible assumption) | (with_reducible refine below_alloc ?_ _) | (with_reducible refine Below.drew ?_) | (with_reducible refine below_drewN ?_ _) | (with_reducible refine below_step (by assumption) ?_) | (with_reducible refine below_later ?_ _) | (with_reducible refine Below.setCell ?_ ?_ _) | go_size))⟩
  by_cases n5 : b ≤ 15
  rotate_left
  · clear h
    go_enter Try.func40, Try.ntmps40
    go_wp2
    go_ret
    exact ⟨rfl, by (repeat' (first | (with_reducible exact Below.refl _ _) | (with_reducible assumption) | (with_reducible refine below_alloc ?_ _) | (with_reducible refine Below.drew ?_) | (with_reducible refine below_drewN ?_ _) | (with_reducible refine below_step (by assumption) ?_) | (with_reducible refine below_later ?_ _) | (with_reducible refine Below.setCell ?_ ?_ _) | go_size))⟩
  by_cases n6 : 0 ≤ c
  rotate_left
  · clear h
    go_enter Try.func40, Try.ntmps40
    go_wp2
    go_ret
    exact ⟨rfl, by (repeat' (first | (with_reducible exact Below.refl _ _) | (with_reducible assumption) | (with_reducible refine below_alloc ?_ _) | (with_reducible refine Below.drew ?_) | (with_reducible refine below_drewN ?_ _) | (with_reducible refine below_step (by assumption) ?_) | (with_reducible refine below_later ?_ _) | (with_reducible refine Below.setCell ?_ ?_ _) | go_size))⟩
  by_cases n7 : c ≤ 15
  rotate_left
  · clear h
    go_enter Try.func40, Try.ntmps40
    go_wp2
    go_ret
    exact ⟨rfl, by (repeat' (first | (with_reducible exact Below.refl _ _) | (with_reducible assumption) | (with_reducible refine below_alloc ?_ _) | (with_reducible refine Below.drew ?_) | (with_reducible refine below_drewN ?_ _) | (with_reducible refine below_step (by assumption) ?_) | (with_reducible refine below_later ?_ _) | (with_reducible refine Below.setCell ?_ ?_ _) | go_size))⟩
  exact absurd ⟨n0, n1, n2, n3, n4, n5, n6, n7⟩ h
end Go.Proofs.Ytfooefiaenlhmaa
namespace Go.Proofs.Ytfooefiaenlhmaa
set_option linter.unusedVariables false
set_option linter.unusedSimpArgs false
open Go.RowKit Go.ChangeShapes Go.WideShapes Go.ChangeAt

set_option maxRecDepth 100000 in
set_option maxHeartbeats 2000000 in
theorem rfo_b (n : Nat) (n0 : 1 ≤ n) (n1 : n ≤ 22) (a b c k : Int) (n2 : 0 ≤ a) (n3 : a ≤ 15) (n4 : 0 ≤ b) (n5 : b ≤ 15) (n6 : 0 ≤ c) (n7 : c ≤ 15) (hb : holds (rowF n) 66 = false) (zb : ¬ b = 0) (w : World) : Calls Try.prog 40 #[.agg #[.int .i64 n, .int .i64 a, .int .i64 b, .int .i64 c, .int .i64 k]] w fun e w' => e = .returned (.bool false) ∧ Below w.heap.size w w' := by
  have hsz := (holds_row n n0 n1).2.2.2.2
  have HFD : Hid (∀ W, Calls Try.prog 80 #[.int .i64 n] W fun e w' => e = .returned (.string (rowF n)) ∧ w' = W) := Lib.hid (fun W => rfields_v n n0 n1 W)
  have HUB : Hid (∀ W, Calls Try.prog 81 #[.string (rowF n), .int .u8 66] W fun e w' => e = .returned (.bool false) ∧ w' = W) := Lib.hid (fun W => by have := ruses_any (rowF n) hsz 66 W; rwa [hb] at this)
  generalize rowF n = s at *
  clear hb hsz
  go_enter Try.func40, Try.ntmps40
  go_wp2_with (first | (go_at_call 80; refine (HFD.out _).mono ?_; rintro _ _ ⟨rfl, rfl⟩) | (go_at_call 81; with_reducible (refine (HUB.out _).mono ?_); rintro _ _ ⟨rfl, rfl⟩))
  go_ret
  exact ⟨rfl, by (repeat' (first | (with_reducible exact Below.refl _ _) | (with_reducible assumption) | (with_reducible refine below_alloc ?_ _) | (with_reducible refine Below.drew ?_) | (with_reducible refine below_drewN ?_ _) | (with_reducible refine below_step (by assumption) ?_) | (with_reducible refine below_later ?_ _) | (with_reducible refine Below.setCell ?_ ?_ _) | go_size))⟩
set_option maxRecDepth 100000 in
set_option maxHeartbeats 2000000 in
theorem rfo_c_true (n : Nat) (n0 : 1 ≤ n) (n1 : n ≤ 22) (a b c k : Int) (n2 : 0 ≤ a) (n3 : a ≤ 15) (n4 : 0 ≤ b) (n5 : b ≤ 15) (n6 : 0 ≤ c) (n7 : c ≤ 15) (hb : holds (rowF n) 66 = true) (hc : holds (rowF n) 67 = false) (zc : ¬ c = 0) (w : World) : Calls Try.prog 40 #[.agg #[.int .i64 n, .int .i64 a, .int .i64 b, .int .i64 c, .int .i64 k]] w fun e w' => e = .returned (.bool false) ∧ Below w.heap.size w w' := by
  have hsz := (holds_row n n0 n1).2.2.2.2
  have HFD : Hid (∀ W, Calls Try.prog 80 #[.int .i64 n] W fun e w' => e = .returned (.string (rowF n)) ∧ w' = W) := Lib.hid (fun W => rfields_v n n0 n1 W)
  have HUB : Hid (∀ W, Calls Try.prog 81 #[.string (rowF n), .int .u8 66] W fun e w' => e = .returned (.bool true) ∧ w' = W) := Lib.hid (fun W => by have := ruses_any (rowF n) hsz 66 W; rwa [hb] at this)
  have HUC : Hid (∀ W, Calls Try.prog 81 #[.string (rowF n), .int .u8 67] W fun e w' => e = .returned (.bool false) ∧ w' = W) := Lib.hid (fun W => by have := ruses_any (rowF n) hsz 67 W; rwa [hc] at this)
  generalize rowF n = s at *
  clear hb hc hsz
  go_enter Try.func40, Try.ntmps40
  go_wp2_with (first | (go_at_call 80; refine (HFD.out _).mono ?_; rintro _ _ ⟨rfl, rfl⟩) | (go_at_call 81; with_reducible (refine (HUB.out _).mono ?_); rintro _ _ ⟨rfl, rfl⟩) | (go_at_call 81; with_reducible (refine (HUC.out _).mono ?_); rintro _ _ ⟨rfl, rfl⟩))
  go_ret
  exact ⟨rfl, by (repeat' (first | (with_reducible exact Below.refl _ _) | (with_reducible assumption) | (with_reducible refine below_alloc ?_ _) | (with_reducible refine Below.drew ?_) | (with_reducible refine below_drewN ?_ _) | (with_reducible refine below_step (by assumption) ?_) | (with_reducible refine below_later ?_ _) | (with_reducible refine Below.setCell ?_ ?_ _) | go_size))⟩
set_option maxRecDepth 100000 in
set_option maxHeartbeats 2000000 in
theorem rfo_c_false (n : Nat) (n0 : 1 ≤ n) (n1 : n ≤ 22) (a b c k : Int) (n2 : 0 ≤ a) (n3 : a ≤ 15) (n4 : 0 ≤ b) (n5 : b ≤ 15) (n6 : 0 ≤ c) (n7 : c ≤ 15) (hb : holds (rowF n) 66 = false) (zb : b = 0) (hc : holds (rowF n) 67 = false) (zc : ¬ c = 0) (w : World) : Calls Try.prog 40 #[.agg #[.int .i64 n, .int .i64 a, .int .i64 b, .int .i64 c, .int .i64 k]] w fun e w' => e = .returned (.bool false) ∧ Below w.heap.size w w' := by
  have hsz := (holds_row n n0 n1).2.2.2.2
  have HFD : Hid (∀ W, Calls Try.prog 80 #[.int .i64 n] W fun e w' => e = .returned (.string (rowF n)) ∧ w' = W) := Lib.hid (fun W => rfields_v n n0 n1 W)
  have HUB : Hid (∀ W, Calls Try.prog 81 #[.string (rowF n), .int .u8 66] W fun e w' => e = .returned (.bool false) ∧ w' = W) := Lib.hid (fun W => by have := ruses_any (rowF n) hsz 66 W; rwa [hb] at this)
  have HUC : Hid (∀ W, Calls Try.prog 81 #[.string (rowF n), .int .u8 67] W fun e w' => e = .returned (.bool false) ∧ w' = W) := Lib.hid (fun W => by have := ruses_any (rowF n) hsz 67 W; rwa [hc] at this)
  generalize rowF n = s at *
  clear hb hc hsz
  subst zb
  go_enter Try.func40, Try.ntmps40
  go_wp2_with (first | (go_at_call 80; refine (HFD.out _).mono ?_; rintro _ _ ⟨rfl, rfl⟩) | (go_at_call 81; with_reducible (refine (HUB.out _).mono ?_); rintro _ _ ⟨rfl, rfl⟩) | (go_at_call 81; with_reducible (refine (HUC.out _).mono ?_); rintro _ _ ⟨rfl, rfl⟩))
  go_ret
  exact ⟨rfl, by (repeat' (first | (with_reducible exact Below.refl _ _) | (with_reducible assumption) | (with_reducible refine below_alloc ?_ _) | (with_reducible refine Below.drew ?_) | (with_reducible refine below_drewN ?_ _) | (with_reducible refine below_step (by assumption) ?_) | (with_reducible refine below_later ?_ _) | (with_reducible refine Below.setCell ?_ ?_ _) | go_size))⟩
set_option maxRecDepth 100000 in
set_option maxHeartbeats 2000000 in
theorem rfo_k_true_true (n : Nat) (n0 : 1 ≤ n) (n1 : n ≤ 22) (a b c k : Int) (n2 : 0 ≤ a) (n3 : a ≤ 15) (n4 : 0 ≤ b) (n5 : b ≤ 15) (n6 : 0 ≤ c) (n7 : c ≤ 15) (hb : holds (rowF n) 66 = true) (hc : holds (rowF n) 67 = true) (hk : holds (rowF n) 75 = false) (zk : ¬ k = 0) (w : World) : Calls Try.prog 40 #[.agg #[.int .i64 n, .int .i64 a, .int .i64 b, .int .i64 c, .int .i64 k]] w fun e w' => e = .returned (.bool false) ∧ Below w.heap.size w w' := by
  have hsz := (holds_row n n0 n1).2.2.2.2
  have HFD : Hid (∀ W, Calls Try.prog 80 #[.int .i64 n] W fun e w' => e = .returned (.string (rowF n)) ∧ w' = W) := Lib.hid (fun W => rfields_v n n0 n1 W)
  have HUB : Hid (∀ W, Calls Try.prog 81 #[.string (rowF n), .int .u8 66] W fun e w' => e = .returned (.bool true) ∧ w' = W) := Lib.hid (fun W => by have := ruses_any (rowF n) hsz 66 W; rwa [hb] at this)
  have HUC : Hid (∀ W, Calls Try.prog 81 #[.string (rowF n), .int .u8 67] W fun e w' => e = .returned (.bool true) ∧ w' = W) := Lib.hid (fun W => by have := ruses_any (rowF n) hsz 67 W; rwa [hc] at this)
  have HUK : Hid (∀ W, Calls Try.prog 81 #[.string (rowF n), .int .u8 75] W fun e w' => e = .returned (.bool false) ∧ w' = W) := Lib.hid (fun W => by have := ruses_any (rowF n) hsz 75 W; rwa [hk] at this)
  generalize rowF n = s at *
  clear hb hc hk hsz
  go_enter Try.func40, Try.ntmps40
  go_wp2_with (first | (go_at_call 80; refine (HFD.out _).mono ?_; rintro _ _ ⟨rfl, rfl⟩) | (go_at_call 81; with_reducible (refine (HUB.out _).mono ?_); rintro _ _ ⟨rfl, rfl⟩) | (go_at_call 81; with_reducible (refine (HUC.out _).mono ?_); rintro _ _ ⟨rfl, rfl⟩) | (go_at_call 81; with_reducible (refine (HUK.out _).mono ?_); rintro _ _ ⟨rfl, rfl⟩))
  go_ret
  exact ⟨rfl, by (repeat' (first | (with_reducible exact Below.refl _ _) | (with_reducible assumption) | (with_reducible refine below_alloc ?_ _) | (with_reducible refine Below.drew ?_) | (with_reducible refine below_drewN ?_ _) | (with_reducible refine below_step (by assumption) ?_) | (with_reducible refine below_later ?_ _) | (with_reducible refine Below.setCell ?_ ?_ _) | go_size))⟩
set_option maxRecDepth 100000 in
set_option maxHeartbeats 2000000 in
theorem rfo_k_true_false (n : Nat) (n0 : 1 ≤ n) (n1 : n ≤ 22) (a b c k : Int) (n2 : 0 ≤ a) (n3 : a ≤ 15) (n4 : 0 ≤ b) (n5 : b ≤ 15) (n6 : 0 ≤ c) (n7 : c ≤ 15) (hb : holds (rowF n) 66 = true) (hc : holds (rowF n) 67 = false) (zc : c = 0) (hk : holds (rowF n) 75 = false) (zk : ¬ k = 0) (w : World) : Calls Try.prog 40 #[.agg #[.int .i64 n, .int .i64 a, .int .i64 b, .int .i64 c, .int .i64 k]] w fun e w' => e = .returned (.bool false) ∧ Below w.heap.size w w' := by
  have hsz := (holds_row n n0 n1).2.2.2.2
  have HFD : Hid (∀ W, Calls Try.prog 80 #[.int .i64 n] W fun e w' => e = .returned (.string (rowF n)) ∧ w' = W) := Lib.hid (fun W => rfields_v n n0 n1 W)
  have HUB : Hid (∀ W, Calls Try.prog 81 #[.string (rowF n), .int .u8 66] W fun e w' => e = .returned (.bool true) ∧ w' = W) := Lib.hid (fun W => by have := ruses_any (rowF n) hsz 66 W; rwa [hb] at this)
  have HUC : Hid (∀ W, Calls Try.prog 81 #[.string (rowF n), .int .u8 67] W fun e w' => e = .returned (.bool false) ∧ w' = W) := Lib.hid (fun W => by have := ruses_any (rowF n) hsz 67 W; rwa [hc] at this)
  have HUK : Hid (∀ W, Calls Try.prog 81 #[.string (rowF n), .int .u8 75] W fun e w' => e = .returned (.bool false) ∧ w' = W) := Lib.hid (fun W => by have := ruses_any (rowF n) hsz 75 W; rwa [hk] at this)
  generalize rowF n = s at *
  clear hb hc hk hsz
  subst zc
  go_enter Try.func40, Try.ntmps40
  go_wp2_with (first | (go_at_call 80; refine (HFD.out _).mono ?_; rintro _ _ ⟨rfl, rfl⟩) | (go_at_call 81; with_reducible (refine (HUB.out _).mono ?_); rintro _ _ ⟨rfl, rfl⟩) | (go_at_call 81; with_reducible (refine (HUC.out _).mono ?_); rintro _ _ ⟨rfl, rfl⟩) | (go_at_call 81; with_reducible (refine (HUK.out _).mono ?_); rintro _ _ ⟨rfl, rfl⟩))
  go_ret
  exact ⟨rfl, by (repeat' (first | (with_reducible exact Below.refl _ _) | (with_reducible assumption) | (with_reducible refine below_alloc ?_ _) | (with_reducible refine Below.drew ?_) | (with_reducible refine below_drewN ?_ _) | (with_reducible refine below_step (by assumption) ?_) | (with_reducible refine below_later ?_ _) | (with_reducible refine Below.setCell ?_ ?_ _) | go_size))⟩
set_option maxRecDepth 100000 in
set_option maxHeartbeats 2000000 in
theorem rfo_k_false_true (n : Nat) (n0 : 1 ≤ n) (n1 : n ≤ 22) (a b c k : Int) (n2 : 0 ≤ a) (n3 : a ≤ 15) (n4 : 0 ≤ b) (n5 : b ≤ 15) (n6 : 0 ≤ c) (n7 : c ≤ 15) (hb : holds (rowF n) 66 = false) (zb : b = 0) (hc : holds (rowF n) 67 = true) (hk : holds (rowF n) 75 = false) (zk : ¬ k = 0) (w : World) : Calls Try.prog 40 #[.agg #[.int .i64 n, .int .i64 a, .int .i64 b, .int .i64 c, .int .i64 k]] w fun e w' => e = .returned (.bool false) ∧ Below w.heap.size w w' := by
  have hsz := (holds_row n n0 n1).2.2.2.2
  have HFD : Hid (∀ W, Calls Try.prog 80 #[.int .i64 n] W fun e w' => e = .returned (.string (rowF n)) ∧ w' = W) := Lib.hid (fun W => rfields_v n n0 n1 W)
  have HUB : Hid (∀ W, Calls Try.prog 81 #[.string (rowF n), .int .u8 66] W fun e w' => e = .returned (.bool false) ∧ w' = W) := Lib.hid (fun W => by have := ruses_any (rowF n) hsz 66 W; rwa [hb] at this)
  have HUC : Hid (∀ W, Calls Try.prog 81 #[.string (rowF n), .int .u8 67] W fun e w' => e = .returned (.bool true) ∧ w' = W) := Lib.hid (fun W => by have := ruses_any (rowF n) hsz 67 W; rwa [hc] at this)
  have HUK : Hid (∀ W, Calls Try.prog 81 #[.string (rowF n), .int .u8 75] W fun e w' => e = .returned (.bool false) ∧ w' = W) := Lib.hid (fun W => by have := ruses_any (rowF n) hsz 75 W; rwa [hk] at this)
  generalize rowF n = s at *
  clear hb hc hk hsz
  subst zb
  go_enter Try.func40, Try.ntmps40
  go_wp2_with (first | (go_at_call 80; refine (HFD.out _).mono ?_; rintro _ _ ⟨rfl, rfl⟩) | (go_at_call 81; with_reducible (refine (HUB.out _).mono ?_); rintro _ _ ⟨rfl, rfl⟩) | (go_at_call 81; with_reducible (refine (HUC.out _).mono ?_); rintro _ _ ⟨rfl, rfl⟩) | (go_at_call 81; with_reducible (refine (HUK.out _).mono ?_); rintro _ _ ⟨rfl, rfl⟩))
  go_ret
  exact ⟨rfl, by (repeat' (first | (with_reducible exact Below.refl _ _) | (with_reducible assumption) | (with_reducible refine below_alloc ?_ _) | (with_reducible refine Below.drew ?_) | (with_reducible refine below_drewN ?_ _) | (with_reducible refine below_step (by assumption) ?_) | (with_reducible refine below_later ?_ _) | (with_reducible refine Below.setCell ?_ ?_ _) | go_size))⟩
set_option maxRecDepth 100000 in
set_option maxHeartbeats 2000000 in
theorem rfo_k_false_false (n : Nat) (n0 : 1 ≤ n) (n1 : n ≤ 22) (a b c k : Int) (n2 : 0 ≤ a) (n3 : a ≤ 15) (n4 : 0 ≤ b) (n5 : b ≤ 15) (n6 : 0 ≤ c) (n7 : c ≤ 15) (hb : holds (rowF n) 66 = false) (zb : b = 0) (hc : holds (rowF n) 67 = false) (zc : c = 0) (hk : holds (rowF n) 75 = false) (zk : ¬ k = 0) (w : World) : Calls Try.prog 40 #[.agg #[.int .i64 n, .int .i64 a, .int .i64 b, .int .i64 c, .int .i64 k]] w fun e w' => e = .returned (.bool false) ∧ Below w.heap.size w w' := by
  have hsz := (holds_row n n0 n1).2.2.2.2
  have HFD : Hid (∀ W, Calls Try.prog 80 #[.int .i64 n] W fun e w' => e = .returned (.string (rowF n)) ∧ w' = W) := Lib.hid (fun W => rfields_v n n0 n1 W)
  have HUB : Hid (∀ W, Calls Try.prog 81 #[.string (rowF n), .int .u8 66] W fun e w' => e = .returned (.bool false) ∧ w' = W) := Lib.hid (fun W => by have := ruses_any (rowF n) hsz 66 W; rwa [hb] at this)
  have HUC : Hid (∀ W, Calls Try.prog 81 #[.string (rowF n), .int .u8 67] W fun e w' => e = .returned (.bool false) ∧ w' = W) := Lib.hid (fun W => by have := ruses_any (rowF n) hsz 67 W; rwa [hc] at this)
  have HUK : Hid (∀ W, Calls Try.prog 81 #[.string (rowF n), .int .u8 75] W fun e w' => e = .returned (.bool false) ∧ w' = W) := Lib.hid (fun W => by have := ruses_any (rowF n) hsz 75 W; rwa [hk] at this)
  generalize rowF n = s at *
  clear hb hc hk hsz
  subst zb
  subst zc
  go_enter Try.func40, Try.ntmps40
  go_wp2_with (first | (go_at_call 80; refine (HFD.out _).mono ?_; rintro _ _ ⟨rfl, rfl⟩) | (go_at_call 81; with_reducible (refine (HUB.out _).mono ?_); rintro _ _ ⟨rfl, rfl⟩) | (go_at_call 81; with_reducible (refine (HUC.out _).mono ?_); rintro _ _ ⟨rfl, rfl⟩) | (go_at_call 81; with_reducible (refine (HUK.out _).mono ?_); rintro _ _ ⟨rfl, rfl⟩))
  go_ret
  exact ⟨rfl, by (repeat' (first | (with_reducible exact Below.refl _ _) | (with_reducible assumption) | (with_reducible refine below_alloc ?_ _) | (with_reducible refine Below.drew ?_) | (with_reducible refine below_drewN ?_ _) | (with_reducible refine below_step (by assumption) ?_) | (with_reducible refine below_later ?_ _) | (with_reducible refine Below.setCell ?_ ?_ _) | go_size))⟩
end Go.Proofs.Ytfooefiaenlhmaa
namespace Go.Proofs.Ytfooefiaenlhmaa
set_option linter.unusedVariables false
set_option linter.unusedSimpArgs false
open Go.RowKit Go.ChangeShapes Go.WideShapes Go.ChangeAt

set_option maxRecDepth 100000 in
set_option maxHeartbeats 2000000 in
theorem rfo_1_0 (a k : Int) (hk : I64 k) (n2 : 0 ≤ a) (n3 : a ≤ 15) (z0 : ¬ (-1099511627776 ≤ k)) (w : World) : Calls Try.prog 40 #[.agg #[.int .i64 1, .int .i64 a, .int .i64 0, .int .i64 0, .int .i64 k]] w fun e w' => e = .returned (.bool false) ∧ Below w.heap.size w w' := by
  have HFD : Hid (∀ W, Calls Try.prog 80 #[.int .i64 1] W fun e w' => e = .returned (.string (rowF 1)) ∧ w' = W) := Lib.hid (fun W => rfields_v 1 (by omega) (by omega) W)
  have HUB : Hid (∀ W, Calls Try.prog 81 #[.string (rowF 1), .int .u8 66] W fun e w' => e = .returned (.bool false) ∧ w' = W) := Lib.hid (fun W => by have := ruses_any (rowF 1) (by decide) 66 W; rwa [show holds (rowF 1) 66 = false by decide] at this)
  have HUC : Hid (∀ W, Calls Try.prog 81 #[.string (rowF 1), .int .u8 67] W fun e w' => e = .returned (.bool false) ∧ w' = W) := Lib.hid (fun W => by have := ruses_any (rowF 1) (by decide) 67 W; rwa [show holds (rowF 1) 67 = false by decide] at this)
  have HUK : Hid (∀ W, Calls Try.prog 81 #[.string (rowF 1), .int .u8 75] W fun e w' => e = .returned (.bool true) ∧ w' = W) := Lib.hid (fun W => by have := ruses_any (rowF 1) (by decide) 75 W; rwa [show holds (rowF 1) 75 = true by decide] at this)
  generalize rowF 1 = s at *
  obtain ⟨m, HM, hm⟩ := max0_run k
  have hk2 := hk
  unfold I64 at hk2
  simp [Lit.wf, IntKind.min, IntKind.max, IntKind.bits, IntKind.signed] at hk2
  have HTY := Lib.hid (fun W => rtypes_any m (by omega) (by first | exact hk | (exact (by rfl)) | (unfold I64; simp [Lit.wf, IntKind.min, IntKind.max, IntKind.bits, IntKind.signed]; omega)) W)
  clear hm
  go_enter Try.func40, Try.ntmps40
  go_wp2_with (first | (go_at_call 80; refine (HFD.out _).mono ?_; rintro _ _ ⟨rfl, rfl⟩) | (go_at_call 81; with_reducible (refine (HUB.out _).mono ?_); rintro _ _ ⟨rfl, rfl⟩) | (go_at_call 81; with_reducible (refine (HUC.out _).mono ?_); rintro _ _ ⟨rfl, rfl⟩) | (go_at_call 81; with_reducible (refine (HUK.out _).mono ?_); rintro _ _ ⟨rfl, rfl⟩) | (go_at_call 82; refine (HTY.out _).mono ?_; rintro _ _ ⟨rfl, rfl⟩))
  all_goals go_ret
  all_goals exact ⟨by first | rfl | (simp [*]; done), by (repeat' (first | (with_reducible exact Below.refl _ _) | (with_reducible assumption) | (with_reducible refine below_alloc ?_ _) | (with_reducible refine Below.drew ?_) | (with_reducible refine below_drewN ?_ _) | (with_reducible refine below_step (by assumption) ?_) | (with_reducible refine below_later ?_ _) | (with_reducible refine Below.setCell ?_ ?_ _) | go_size))⟩
set_option maxRecDepth 100000 in
set_option maxHeartbeats 2000000 in
theorem rfo_1_1 (a k : Int) (hk : I64 k) (n2 : 0 ≤ a) (n3 : a ≤ 15) (c0 : -1099511627776 ≤ k) (z1 : ¬ (k ≤ 1099511627776)) (w : World) : Calls Try.prog 40 #[.agg #[.int .i64 1, .int .i64 a, .int .i64 0, .int .i64 0, .int .i64 k]] w fun e w' => e = .returned (.bool false) ∧ Below w.heap.size w w' := by
  have HFD : Hid (∀ W, Calls Try.prog 80 #[.int .i64 1] W fun e w' => e = .returned (.string (rowF 1)) ∧ w' = W) := Lib.hid (fun W => rfields_v 1 (by omega) (by omega) W)
  have HUB : Hid (∀ W, Calls Try.prog 81 #[.string (rowF 1), .int .u8 66] W fun e w' => e = .returned (.bool false) ∧ w' = W) := Lib.hid (fun W => by have := ruses_any (rowF 1) (by decide) 66 W; rwa [show holds (rowF 1) 66 = false by decide] at this)
  have HUC : Hid (∀ W, Calls Try.prog 81 #[.string (rowF 1), .int .u8 67] W fun e w' => e = .returned (.bool false) ∧ w' = W) := Lib.hid (fun W => by have := ruses_any (rowF 1) (by decide) 67 W; rwa [show holds (rowF 1) 67 = false by decide] at this)
  have HUK : Hid (∀ W, Calls Try.prog 81 #[.string (rowF 1), .int .u8 75] W fun e w' => e = .returned (.bool true) ∧ w' = W) := Lib.hid (fun W => by have := ruses_any (rowF 1) (by decide) 75 W; rwa [show holds (rowF 1) 75 = true by decide] at this)
  generalize rowF 1 = s at *
  obtain ⟨m, HM, hm⟩ := max0_run k
  have hk2 := hk
  unfold I64 at hk2
  simp [Lit.wf, IntKind.min, IntKind.max, IntKind.bits, IntKind.signed] at hk2
  have HTY := Lib.hid (fun W => rtypes_any m (by omega) (by first | exact hk | (exact (by rfl)) | (unfold I64; simp [Lit.wf, IntKind.min, IntKind.max, IntKind.bits, IntKind.signed]; omega)) W)
  clear hm
  go_enter Try.func40, Try.ntmps40
  go_wp2_with (first | (go_at_call 80; refine (HFD.out _).mono ?_; rintro _ _ ⟨rfl, rfl⟩) | (go_at_call 81; with_reducible (refine (HUB.out _).mono ?_); rintro _ _ ⟨rfl, rfl⟩) | (go_at_call 81; with_reducible (refine (HUC.out _).mono ?_); rintro _ _ ⟨rfl, rfl⟩) | (go_at_call 81; with_reducible (refine (HUK.out _).mono ?_); rintro _ _ ⟨rfl, rfl⟩) | (go_at_call 82; refine (HTY.out _).mono ?_; rintro _ _ ⟨rfl, rfl⟩))
  all_goals go_ret
  all_goals exact ⟨by first | rfl | (simp [*]; done), by (repeat' (first | (with_reducible exact Below.refl _ _) | (with_reducible assumption) | (with_reducible refine below_alloc ?_ _) | (with_reducible refine Below.drew ?_) | (with_reducible refine below_drewN ?_ _) | (with_reducible refine below_step (by assumption) ?_) | (with_reducible refine below_later ?_ _) | (with_reducible refine Below.setCell ?_ ?_ _) | go_size))⟩
set_option maxRecDepth 100000 in
set_option maxHeartbeats 2000000 in
theorem rfo_1_2 (a k : Int) (hk : I64 k) (n2 : 0 ≤ a) (n3 : a ≤ 15) (c0 : -1099511627776 ≤ k) (c1 : k ≤ 1099511627776) (w : World) : Calls Try.prog 40 #[.agg #[.int .i64 1, .int .i64 a, .int .i64 0, .int .i64 0, .int .i64 k]] w fun e w' => e = .returned (.bool true) ∧ Below w.heap.size w w' := by
  have HFD : Hid (∀ W, Calls Try.prog 80 #[.int .i64 1] W fun e w' => e = .returned (.string (rowF 1)) ∧ w' = W) := Lib.hid (fun W => rfields_v 1 (by omega) (by omega) W)
  have HUB : Hid (∀ W, Calls Try.prog 81 #[.string (rowF 1), .int .u8 66] W fun e w' => e = .returned (.bool false) ∧ w' = W) := Lib.hid (fun W => by have := ruses_any (rowF 1) (by decide) 66 W; rwa [show holds (rowF 1) 66 = false by decide] at this)
  have HUC : Hid (∀ W, Calls Try.prog 81 #[.string (rowF 1), .int .u8 67] W fun e w' => e = .returned (.bool false) ∧ w' = W) := Lib.hid (fun W => by have := ruses_any (rowF 1) (by decide) 67 W; rwa [show holds (rowF 1) 67 = false by decide] at this)
  have HUK : Hid (∀ W, Calls Try.prog 81 #[.string (rowF 1), .int .u8 75] W fun e w' => e = .returned (.bool true) ∧ w' = W) := Lib.hid (fun W => by have := ruses_any (rowF 1) (by decide) 75 W; rwa [show holds (rowF 1) 75 = true by decide] at this)
  generalize rowF 1 = s at *
  obtain ⟨m, HM, hm⟩ := max0_run k
  have hk2 := hk
  unfold I64 at hk2
  simp [Lit.wf, IntKind.min, IntKind.max, IntKind.bits, IntKind.signed] at hk2
  have HTY := Lib.hid (fun W => rtypes_any m (by omega) (by first | exact hk | (exact (by rfl)) | (unfold I64; simp [Lit.wf, IntKind.min, IntKind.max, IntKind.bits, IntKind.signed]; omega)) W)
  clear hm
  go_enter Try.func40, Try.ntmps40
  go_wp2_with (first | (go_at_call 80; refine (HFD.out _).mono ?_; rintro _ _ ⟨rfl, rfl⟩) | (go_at_call 81; with_reducible (refine (HUB.out _).mono ?_); rintro _ _ ⟨rfl, rfl⟩) | (go_at_call 81; with_reducible (refine (HUC.out _).mono ?_); rintro _ _ ⟨rfl, rfl⟩) | (go_at_call 81; with_reducible (refine (HUK.out _).mono ?_); rintro _ _ ⟨rfl, rfl⟩) | (go_at_call 82; refine (HTY.out _).mono ?_; rintro _ _ ⟨rfl, rfl⟩))
  all_goals go_ret
  all_goals exact ⟨by first | rfl | (simp [*]; done), by (repeat' (first | (with_reducible exact Below.refl _ _) | (with_reducible assumption) | (with_reducible refine below_alloc ?_ _) | (with_reducible refine Below.drew ?_) | (with_reducible refine below_drewN ?_ _) | (with_reducible refine below_step (by assumption) ?_) | (with_reducible refine below_later ?_ _) | (with_reducible refine Below.setCell ?_ ?_ _) | go_size))⟩
set_option maxRecDepth 100000 in
set_option maxHeartbeats 2000000 in
theorem rfo_2_0 (a k : Int) (hk : I64 k) (n2 : 0 ≤ a) (n3 : a ≤ 15) (z0 : ¬ (0 ≤ k)) (w : World) : Calls Try.prog 40 #[.agg #[.int .i64 2, .int .i64 a, .int .i64 0, .int .i64 0, .int .i64 k]] w fun e w' => e = .returned (.bool false) ∧ Below w.heap.size w w' := by
  have HFD : Hid (∀ W, Calls Try.prog 80 #[.int .i64 2] W fun e w' => e = .returned (.string (rowF 2)) ∧ w' = W) := Lib.hid (fun W => rfields_v 2 (by omega) (by omega) W)
  have HUB : Hid (∀ W, Calls Try.prog 81 #[.string (rowF 2), .int .u8 66] W fun e w' => e = .returned (.bool false) ∧ w' = W) := Lib.hid (fun W => by have := ruses_any (rowF 2) (by decide) 66 W; rwa [show holds (rowF 2) 66 = false by decide] at this)
  have HUC : Hid (∀ W, Calls Try.prog 81 #[.string (rowF 2), .int .u8 67] W fun e w' => e = .returned (.bool false) ∧ w' = W) := Lib.hid (fun W => by have := ruses_any (rowF 2) (by decide) 67 W; rwa [show holds (rowF 2) 67 = false by decide] at this)
  have HUK : Hid (∀ W, Calls Try.prog 81 #[.string (rowF 2), .int .u8 75] W fun e w' => e = .returned (.bool true) ∧ w' = W) := Lib.hid (fun W => by have := ruses_any (rowF 2) (by decide) 75 W; rwa [show holds (rowF 2) 75 = true by decide] at this)
  generalize rowF 2 = s at *
  obtain ⟨m, HM, hm⟩ := max0_run k
  have hk2 := hk
  unfold I64 at hk2
  simp [Lit.wf, IntKind.min, IntKind.max, IntKind.bits, IntKind.signed] at hk2
  have hm0 : m = 0 := by omega
  rw [hm0] at HM
  clear hm0
  have HTY := Lib.hid (fun W => rtypes_any 0 (by omega) (by first | exact hk | (exact (by rfl)) | (unfold I64; simp [Lit.wf, IntKind.min, IntKind.max, IntKind.bits, IntKind.signed]; omega)) W)
  clear hm
  go_enter Try.func40, Try.ntmps40
  go_wp2_with (first | (go_at_call 80; refine (HFD.out _).mono ?_; rintro _ _ ⟨rfl, rfl⟩) | (go_at_call 81; with_reducible (refine (HUB.out _).mono ?_); rintro _ _ ⟨rfl, rfl⟩) | (go_at_call 81; with_reducible (refine (HUC.out _).mono ?_); rintro _ _ ⟨rfl, rfl⟩) | (go_at_call 81; with_reducible (refine (HUK.out _).mono ?_); rintro _ _ ⟨rfl, rfl⟩) | (go_at_call 82; refine (HTY.out _).mono ?_; rintro _ _ ⟨rfl, rfl⟩))
  all_goals go_ret
  all_goals exact ⟨by first | rfl | (simp [*]; done), by (repeat' (first | (with_reducible exact Below.refl _ _) | (with_reducible assumption) | (with_reducible refine below_alloc ?_ _) | (with_reducible refine Below.drew ?_) | (with_reducible refine below_drewN ?_ _) | (with_reducible refine below_step (by assumption) ?_) | (with_reducible refine below_later ?_ _) | (with_reducible refine Below.setCell ?_ ?_ _) | go_size))⟩
set_option maxRecDepth 100000 in
set_option maxHeartbeats 2000000 in
theorem rfo_2_1 (a k : Int) (hk : I64 k) (n2 : 0 ≤ a) (n3 : a ≤ 15) (c0 : 0 ≤ k) (z1 : ¬ (k ≤ 32767)) (w : World) : Calls Try.prog 40 #[.agg #[.int .i64 2, .int .i64 a, .int .i64 0, .int .i64 0, .int .i64 k]] w fun e w' => e = .returned (.bool false) ∧ Below w.heap.size w w' := by
  have HFD : Hid (∀ W, Calls Try.prog 80 #[.int .i64 2] W fun e w' => e = .returned (.string (rowF 2)) ∧ w' = W) := Lib.hid (fun W => rfields_v 2 (by omega) (by omega) W)
  have HUB : Hid (∀ W, Calls Try.prog 81 #[.string (rowF 2), .int .u8 66] W fun e w' => e = .returned (.bool false) ∧ w' = W) := Lib.hid (fun W => by have := ruses_any (rowF 2) (by decide) 66 W; rwa [show holds (rowF 2) 66 = false by decide] at this)
  have HUC : Hid (∀ W, Calls Try.prog 81 #[.string (rowF 2), .int .u8 67] W fun e w' => e = .returned (.bool false) ∧ w' = W) := Lib.hid (fun W => by have := ruses_any (rowF 2) (by decide) 67 W; rwa [show holds (rowF 2) 67 = false by decide] at this)
  have HUK : Hid (∀ W, Calls Try.prog 81 #[.string (rowF 2), .int .u8 75] W fun e w' => e = .returned (.bool true) ∧ w' = W) := Lib.hid (fun W => by have := ruses_any (rowF 2) (by decide) 75 W; rwa [show holds (rowF 2) 75 = true by decide] at this)
  generalize rowF 2 = s at *
  obtain ⟨m, HM, hm⟩ := max0_run k
  have hk2 := hk
  unfold I64 at hk2
  simp [Lit.wf, IntKind.min, IntKind.max, IntKind.bits, IntKind.signed] at hk2
  have hm0 : m = k := by omega
  rw [hm0] at HM
  clear hm0
  have HTY := Lib.hid (fun W => rtypes_any k (by omega) (by first | exact hk | (exact (by rfl)) | (unfold I64; simp [Lit.wf, IntKind.min, IntKind.max, IntKind.bits, IntKind.signed]; omega)) W)
  clear hm
  go_enter Try.func40, Try.ntmps40
  go_wp2_with (first | (go_at_call 80; refine (HFD.out _).mono ?_; rintro _ _ ⟨rfl, rfl⟩) | (go_at_call 81; with_reducible (refine (HUB.out _).mono ?_); rintro _ _ ⟨rfl, rfl⟩) | (go_at_call 81; with_reducible (refine (HUC.out _).mono ?_); rintro _ _ ⟨rfl, rfl⟩) | (go_at_call 81; with_reducible (refine (HUK.out _).mono ?_); rintro _ _ ⟨rfl, rfl⟩) | (go_at_call 82; refine (HTY.out _).mono ?_; rintro _ _ ⟨rfl, rfl⟩))
  all_goals go_ret
  all_goals exact ⟨by first | rfl | (simp [*]; done), by (repeat' (first | (with_reducible exact Below.refl _ _) | (with_reducible assumption) | (with_reducible refine below_alloc ?_ _) | (with_reducible refine Below.drew ?_) | (with_reducible refine below_drewN ?_ _) | (with_reducible refine below_step (by assumption) ?_) | (with_reducible refine below_later ?_ _) | (with_reducible refine Below.setCell ?_ ?_ _) | go_size))⟩
set_option maxRecDepth 100000 in
set_option maxHeartbeats 2000000 in
theorem rfo_2_2 (a k : Int) (hk : I64 k) (n2 : 0 ≤ a) (n3 : a ≤ 15) (c0 : 0 ≤ k) (c1 : k ≤ 32767) (w : World) : Calls Try.prog 40 #[.agg #[.int .i64 2, .int .i64 a, .int .i64 0, .int .i64 0, .int .i64 k]] w fun e w' => e = .returned (.bool true) ∧ Below w.heap.size w w' := by
  have HFD : Hid (∀ W, Calls Try.prog 80 #[.int .i64 2] W fun e w' => e = .returned (.string (rowF 2)) ∧ w' = W) := Lib.hid (fun W => rfields_v 2 (by omega) (by omega) W)
  have HUB : Hid (∀ W, Calls Try.prog 81 #[.string (rowF 2), .int .u8 66] W fun e w' => e = .returned (.bool false) ∧ w' = W) := Lib.hid (fun W => by have := ruses_any (rowF 2) (by decide) 66 W; rwa [show holds (rowF 2) 66 = false by decide] at this)
  have HUC : Hid (∀ W, Calls Try.prog 81 #[.string (rowF 2), .int .u8 67] W fun e w' => e = .returned (.bool false) ∧ w' = W) := Lib.hid (fun W => by have := ruses_any (rowF 2) (by decide) 67 W; rwa [show holds (rowF 2) 67 = false by decide] at this)
  have HUK : Hid (∀ W, Calls Try.prog 81 #[.string (rowF 2), .int .u8 75] W fun e w' => e = .returned (.bool true) ∧ w' = W) := Lib.hid (fun W => by have := ruses_any (rowF 2) (by decide) 75 W; rwa [show holds (rowF 2) 75 = true by decide] at this)
  generalize rowF 2 = s at *
  obtain ⟨m, HM, hm⟩ := max0_run k
  have hk2 := hk
  unfold I64 at hk2
  simp [Lit.wf, IntKind.min, IntKind.max, IntKind.bits, IntKind.signed] at hk2
  have hm0 : m = k := by omega
  rw [hm0] at HM
  clear hm0
  have HTY := Lib.hid (fun W => rtypes_any k (by omega) (by first | exact hk | (exact (by rfl)) | (unfold I64; simp [Lit.wf, IntKind.min, IntKind.max, IntKind.bits, IntKind.signed]; omega)) W)
  clear hm
  go_enter Try.func40, Try.ntmps40
  go_wp2_with (first | (go_at_call 80; refine (HFD.out _).mono ?_; rintro _ _ ⟨rfl, rfl⟩) | (go_at_call 81; with_reducible (refine (HUB.out _).mono ?_); rintro _ _ ⟨rfl, rfl⟩) | (go_at_call 81; with_reducible (refine (HUC.out _).mono ?_); rintro _ _ ⟨rfl, rfl⟩) | (go_at_call 81; with_reducible (refine (HUK.out _).mono ?_); rintro _ _ ⟨rfl, rfl⟩) | (go_at_call 82; refine (HTY.out _).mono ?_; rintro _ _ ⟨rfl, rfl⟩))
  all_goals go_ret
  all_goals exact ⟨by first | rfl | (simp [*]; done), by (repeat' (first | (with_reducible exact Below.refl _ _) | (with_reducible assumption) | (with_reducible refine below_alloc ?_ _) | (with_reducible refine Below.drew ?_) | (with_reducible refine below_drewN ?_ _) | (with_reducible refine below_step (by assumption) ?_) | (with_reducible refine below_later ?_ _) | (with_reducible refine Below.setCell ?_ ?_ _) | go_size))⟩
set_option maxRecDepth 100000 in
set_option maxHeartbeats 2000000 in
theorem rfo_3_0 (a k : Int) (hk : I64 k) (n2 : 0 ≤ a) (n3 : a ≤ 15) (z0 : ¬ (0 ≤ k)) (w : World) : Calls Try.prog 40 #[.agg #[.int .i64 3, .int .i64 a, .int .i64 0, .int .i64 0, .int .i64 k]] w fun e w' => e = .returned (.bool false) ∧ Below w.heap.size w w' := by
  have HFD : Hid (∀ W, Calls Try.prog 80 #[.int .i64 3] W fun e w' => e = .returned (.string (rowF 3)) ∧ w' = W) := Lib.hid (fun W => rfields_v 3 (by omega) (by omega) W)
  have HUB : Hid (∀ W, Calls Try.prog 81 #[.string (rowF 3), .int .u8 66] W fun e w' => e = .returned (.bool false) ∧ w' = W) := Lib.hid (fun W => by have := ruses_any (rowF 3) (by decide) 66 W; rwa [show holds (rowF 3) 66 = false by decide] at this)
  have HUC : Hid (∀ W, Calls Try.prog 81 #[.string (rowF 3), .int .u8 67] W fun e w' => e = .returned (.bool false) ∧ w' = W) := Lib.hid (fun W => by have := ruses_any (rowF 3) (by decide) 67 W; rwa [show holds (rowF 3) 67 = false by decide] at this)
  have HUK : Hid (∀ W, Calls Try.prog 81 #[.string (rowF 3), .int .u8 75] W fun e w' => e = .returned (.bool true) ∧ w' = W) := Lib.hid (fun W => by have := ruses_any (rowF 3) (by decide) 75 W; rwa [show holds (rowF 3) 75 = true by decide] at this)
  generalize rowF 3 = s at *
  obtain ⟨m, HM, hm⟩ := max0_run k
  have hk2 := hk
  unfold I64 at hk2
  simp [Lit.wf, IntKind.min, IntKind.max, IntKind.bits, IntKind.signed] at hk2
  have hm0 : m = 0 := by omega
  rw [hm0] at HM
  clear hm0
  have HTY := Lib.hid (fun W => rtypes_any 0 (by omega) (by first | exact hk | (exact (by rfl)) | (unfold I64; simp [Lit.wf, IntKind.min, IntKind.max, IntKind.bits, IntKind.signed]; omega)) W)
  clear hm
  go_enter Try.func40, Try.ntmps40
  go_wp2_with (first | (go_at_call 80; refine (HFD.out _).mono ?_; rintro _ _ ⟨rfl, rfl⟩) | (go_at_call 81; with_reducible (refine (HUB.out _).mono ?_); rintro _ _ ⟨rfl, rfl⟩) | (go_at_call 81; with_reducible (refine (HUC.out _).mono ?_); rintro _ _ ⟨rfl, rfl⟩) | (go_at_call 81; with_reducible (refine (HUK.out _).mono ?_); rintro _ _ ⟨rfl, rfl⟩) | (go_at_call 82; refine (HTY.out _).mono ?_; rintro _ _ ⟨rfl, rfl⟩))
  all_goals go_ret
  all_goals exact ⟨by first | rfl | (simp [*]; done), by (repeat' (first | (with_reducible exact Below.refl _ _) | (with_reducible assumption) | (with_reducible refine below_alloc ?_ _) | (with_reducible refine Below.drew ?_) | (with_reducible refine below_drewN ?_ _) | (with_reducible refine below_step (by assumption) ?_) | (with_reducible refine below_later ?_ _) | (with_reducible refine Below.setCell ?_ ?_ _) | go_size))⟩
set_option maxRecDepth 100000 in
set_option maxHeartbeats 2000000 in
theorem rfo_3_1 (a k : Int) (hk : I64 k) (n2 : 0 ≤ a) (n3 : a ≤ 15) (c0 : 0 ≤ k) (z1 : ¬ (k ≤ 32767)) (w : World) : Calls Try.prog 40 #[.agg #[.int .i64 3, .int .i64 a, .int .i64 0, .int .i64 0, .int .i64 k]] w fun e w' => e = .returned (.bool false) ∧ Below w.heap.size w w' := by
  have HFD : Hid (∀ W, Calls Try.prog 80 #[.int .i64 3] W fun e w' => e = .returned (.string (rowF 3)) ∧ w' = W) := Lib.hid (fun W => rfields_v 3 (by omega) (by omega) W)
  have HUB : Hid (∀ W, Calls Try.prog 81 #[.string (rowF 3), .int .u8 66] W fun e w' => e = .returned (.bool false) ∧ w' = W) := Lib.hid (fun W => by have := ruses_any (rowF 3) (by decide) 66 W; rwa [show holds (rowF 3) 66 = false by decide] at this)
  have HUC : Hid (∀ W, Calls Try.prog 81 #[.string (rowF 3), .int .u8 67] W fun e w' => e = .returned (.bool false) ∧ w' = W) := Lib.hid (fun W => by have := ruses_any (rowF 3) (by decide) 67 W; rwa [show holds (rowF 3) 67 = false by decide] at this)
  have HUK : Hid (∀ W, Calls Try.prog 81 #[.string (rowF 3), .int .u8 75] W fun e w' => e = .returned (.bool true) ∧ w' = W) := Lib.hid (fun W => by have := ruses_any (rowF 3) (by decide) 75 W; rwa [show holds (rowF 3) 75 = true by decide] at this)
  generalize rowF 3 = s at *
  obtain ⟨m, HM, hm⟩ := max0_run k
  have hk2 := hk
  unfold I64 at hk2
  simp [Lit.wf, IntKind.min, IntKind.max, IntKind.bits, IntKind.signed] at hk2
  have hm0 : m = k := by omega
  rw [hm0] at HM
  clear hm0
  have HTY := Lib.hid (fun W => rtypes_any k (by omega) (by first | exact hk | (exact (by rfl)) | (unfold I64; simp [Lit.wf, IntKind.min, IntKind.max, IntKind.bits, IntKind.signed]; omega)) W)
  clear hm
  go_enter Try.func40, Try.ntmps40
  go_wp2_with (first | (go_at_call 80; refine (HFD.out _).mono ?_; rintro _ _ ⟨rfl, rfl⟩) | (go_at_call 81; with_reducible (refine (HUB.out _).mono ?_); rintro _ _ ⟨rfl, rfl⟩) | (go_at_call 81; with_reducible (refine (HUC.out _).mono ?_); rintro _ _ ⟨rfl, rfl⟩) | (go_at_call 81; with_reducible (refine (HUK.out _).mono ?_); rintro _ _ ⟨rfl, rfl⟩) | (go_at_call 82; refine (HTY.out _).mono ?_; rintro _ _ ⟨rfl, rfl⟩))
  all_goals go_ret
  all_goals exact ⟨by first | rfl | (simp [*]; done), by (repeat' (first | (with_reducible exact Below.refl _ _) | (with_reducible assumption) | (with_reducible refine below_alloc ?_ _) | (with_reducible refine Below.drew ?_) | (with_reducible refine below_drewN ?_ _) | (with_reducible refine below_step (by assumption) ?_) | (with_reducible refine below_later ?_ _) | (with_reducible refine Below.setCell ?_ ?_ _) | go_size))⟩
set_option maxRecDepth 100000 in
set_option maxHeartbeats 2000000 in
theorem rfo_3_2 (a k : Int) (hk : I64 k) (n2 : 0 ≤ a) (n3 : a ≤ 15) (c0 : 0 ≤ k) (c1 : k ≤ 32767) (w : World) : Calls Try.prog 40 #[.agg #[.int .i64 3, .int .i64 a, .int .i64 0, .int .i64 0, .int .i64 k]] w fun e w' => e = .returned (.bool true) ∧ Below w.heap.size w w' := by
  have HFD : Hid (∀ W, Calls Try.prog 80 #[.int .i64 3] W fun e w' => e = .returned (.string (rowF 3)) ∧ w' = W) := Lib.hid (fun W => rfields_v 3 (by omega) (by omega) W)
  have HUB : Hid (∀ W, Calls Try.prog 81 #[.string (rowF 3), .int .u8 66] W fun e w' => e = .returned (.bool false) ∧ w' = W) := Lib.hid (fun W => by have := ruses_any (rowF 3) (by decide) 66 W; rwa [show holds (rowF 3) 66 = false by decide] at this)
  have HUC : Hid (∀ W, Calls Try.prog 81 #[.string (rowF 3), .int .u8 67] W fun e w' => e = .returned (.bool false) ∧ w' = W) := Lib.hid (fun W => by have := ruses_any (rowF 3) (by decide) 67 W; rwa [show holds (rowF 3) 67 = false by decide] at this)
  have HUK : Hid (∀ W, Calls Try.prog 81 #[.string (rowF 3), .int .u8 75] W fun e w' => e = .returned (.bool true) ∧ w' = W) := Lib.hid (fun W => by have := ruses_any (rowF 3) (by decide) 75 W; rwa [show holds (rowF 3) 75 = true by decide] at this)
  generalize rowF 3 = s at *
  obtain ⟨m, HM, hm⟩ := max0_run k
  have hk2 := hk
  unfold I64 at hk2
  simp [Lit.wf, IntKind.min, IntKind.max, IntKind.bits, IntKind.signed] at hk2
  have hm0 : m = k := by omega
  rw [hm0] at HM
  clear hm0
  have HTY := Lib.hid (fun W => rtypes_any k (by omega) (by first | exact hk | (exact (by rfl)) | (unfold I64; simp [Lit.wf, IntKind.min, IntKind.max, IntKind.bits, IntKind.signed]; omega)) W)
  clear hm
  go_enter Try.func40, Try.ntmps40
  go_wp2_with (first | (go_at_call 80; refine (HFD.out _).mono ?_; rintro _ _ ⟨rfl, rfl⟩) | (go_at_call 81; with_reducible (refine (HUB.out _).mono ?_); rintro _ _ ⟨rfl, rfl⟩) | (go_at_call 81; with_reducible (refine (HUC.out _).mono ?_); rintro _ _ ⟨rfl, rfl⟩) | (go_at_call 81; with_reducible (refine (HUK.out _).mono ?_); rintro _ _ ⟨rfl, rfl⟩) | (go_at_call 82; refine (HTY.out _).mono ?_; rintro _ _ ⟨rfl, rfl⟩))
  all_goals go_ret
  all_goals exact ⟨by first | rfl | (simp [*]; done), by (repeat' (first | (with_reducible exact Below.refl _ _) | (with_reducible assumption) | (with_reducible refine below_alloc ?_ _) | (with_reducible refine Below.drew ?_) | (with_reducible refine below_drewN ?_ _) | (with_reducible refine below_step (by assumption) ?_) | (with_reducible refine below_later ?_ _) | (with_reducible refine Below.setCell ?_ ?_ _) | go_size))⟩
set_option maxRecDepth 100000 in
set_option maxHeartbeats 2000000 in
theorem rfo_4_0 (a b : Int) (n2 : 0 ≤ a) (n3 : a ≤ 15) (n4 : 0 ≤ b) (n5 : b ≤ 15) (w : World) : Calls Try.prog 40 #[.agg #[.int .i64 4, .int .i64 a, .int .i64 b, .int .i64 0, .int .i64 0]] w fun e w' => e = .returned (.bool true) ∧ Below w.heap.size w w' := by
  have HFD : Hid (∀ W, Calls Try.prog 80 #[.int .i64 4] W fun e w' => e = .returned (.string (rowF 4)) ∧ w' = W) := Lib.hid (fun W => rfields_v 4 (by omega) (by omega) W)
  have HUB : Hid (∀ W, Calls Try.prog 81 #[.string (rowF 4), .int .u8 66] W fun e w' => e = .returned (.bool true) ∧ w' = W) := Lib.hid (fun W => by have := ruses_any (rowF 4) (by decide) 66 W; rwa [show holds (rowF 4) 66 = true by decide] at this)
  have HUC : Hid (∀ W, Calls Try.prog 81 #[.string (rowF 4), .int .u8 67] W fun e w' => e = .returned (.bool false) ∧ w' = W) := Lib.hid (fun W => by have := ruses_any (rowF 4) (by decide) 67 W; rwa [show holds (rowF 4) 67 = false by decide] at this)
  have HUK : Hid (∀ W, Calls Try.prog 81 #[.string (rowF 4), .int .u8 75] W fun e w' => e = .returned (.bool false) ∧ w' = W) := Lib.hid (fun W => by have := ruses_any (rowF 4) (by decide) 75 W; rwa [show holds (rowF 4) 75 = false by decide] at this)
  generalize rowF 4 = s at *
  obtain ⟨m, HM, hm⟩ := max0_run 0
  have hm0 : m = 0 := by omega
  rw [hm0] at HM
  clear hm0
  have HTY := Lib.hid (fun W => rtypes_any 0 (by omega) (by rfl) W)
  clear hm
  go_enter Try.func40, Try.ntmps40
  go_wp2_with (first | (go_at_call 80; refine (HFD.out _).mono ?_; rintro _ _ ⟨rfl, rfl⟩) | (go_at_call 81; with_reducible (refine (HUB.out _).mono ?_); rintro _ _ ⟨rfl, rfl⟩) | (go_at_call 81; with_reducible (refine (HUC.out _).mono ?_); rintro _ _ ⟨rfl, rfl⟩) | (go_at_call 81; with_reducible (refine (HUK.out _).mono ?_); rintro _ _ ⟨rfl, rfl⟩) | (go_at_call 82; refine (HTY.out _).mono ?_; rintro _ _ ⟨rfl, rfl⟩))
  all_goals go_ret
  all_goals exact ⟨by first | rfl | (simp [*]; done), by (repeat' (first | (with_reducible exact Below.refl _ _) | (with_reducible assumption) | (with_reducible refine below_alloc ?_ _) | (with_reducible refine Below.drew ?_) | (with_reducible refine below_drewN ?_ _) | (with_reducible refine below_step (by assumption) ?_) | (with_reducible refine below_later ?_ _) | (with_reducible refine Below.setCell ?_ ?_ _) | go_size))⟩
set_option maxRecDepth 100000 in
set_option maxHeartbeats 2000000 in
theorem rfo_11_0 (a b c : Int) (n2 : 0 ≤ a) (n3 : a ≤ 15) (n4 : 0 ≤ b) (n5 : b ≤ 15) (n6 : 0 ≤ c) (n7 : c ≤ 15) (w : World) : Calls Try.prog 40 #[.agg #[.int .i64 11, .int .i64 a, .int .i64 b, .int .i64 c, .int .i64 0]] w fun e w' => e = .returned (.bool true) ∧ Below w.heap.size w w' := by
  have HFD : Hid (∀ W, Calls Try.prog 80 #[.int .i64 11] W fun e w' => e = .returned (.string (rowF 11)) ∧ w' = W) := Lib.hid (fun W => rfields_v 11 (by omega) (by omega) W)
  have HUB : Hid (∀ W, Calls Try.prog 81 #[.string (rowF 11), .int .u8 66] W fun e w' => e = .returned (.bool true) ∧ w' = W) := Lib.hid (fun W => by have := ruses_any (rowF 11) (by decide) 66 W; rwa [show holds (rowF 11) 66 = true by decide] at this)
  have HUC : Hid (∀ W, Calls Try.prog 81 #[.string (rowF 11), .int .u8 67] W fun e w' => e = .returned (.bool true) ∧ w' = W) := Lib.hid (fun W => by have := ruses_any (rowF 11) (by decide) 67 W; rwa [show holds (rowF 11) 67 = true by decide] at this)
  have HUK : Hid (∀ W, Calls Try.prog 81 #[.string (rowF 11), .int .u8 75] W fun e w' => e = .returned (.bool false) ∧ w' = W) := Lib.hid (fun W => by have := ruses_any (rowF 11) (by decide) 75 W; rwa [show holds (rowF 11) 75 = false by decide] at this)
  generalize rowF 11 = s at *
  obtain ⟨m, HM, hm⟩ := max0_run 0
  have hm0 : m = 0 := by omega
  rw [hm0] at HM
  clear hm0
  have HTY := Lib.hid (fun W => rtypes_any 0 (by omega) (by rfl) W)
  clear hm
  go_enter Try.func40, Try.ntmps40
  go_wp2_with (first | (go_at_call 80; refine (HFD.out _).mono ?_; rintro _ _ ⟨rfl, rfl⟩) | (go_at_call 81; with_reducible (refine (HUB.out _).mono ?_); rintro _ _ ⟨rfl, rfl⟩) | (go_at_call 81; with_reducible (refine (HUC.out _).mono ?_); rintro _ _ ⟨rfl, rfl⟩) | (go_at_call 81; with_reducible (refine (HUK.out _).mono ?_); rintro _ _ ⟨rfl, rfl⟩) | (go_at_call 82; refine (HTY.out _).mono ?_; rintro _ _ ⟨rfl, rfl⟩))
  all_goals go_ret
  all_goals exact ⟨by first | rfl | (simp [*]; done), by (repeat' (first | (with_reducible exact Below.refl _ _) | (with_reducible assumption) | (with_reducible refine below_alloc ?_ _) | (with_reducible refine Below.drew ?_) | (with_reducible refine below_drewN ?_ _) | (with_reducible refine below_step (by assumption) ?_) | (with_reducible refine below_later ?_ _) | (with_reducible refine Below.setCell ?_ ?_ _) | go_size))⟩
set_option maxRecDepth 100000 in
set_option maxHeartbeats 2000000 in
theorem rfo_12_0 (a b c : Int) (n2 : 0 ≤ a) (n3 : a ≤ 15) (n4 : 0 ≤ b) (n5 : b ≤ 15) (n6 : 0 ≤ c) (n7 : c ≤ 15) (w : World) : Calls Try.prog 40 #[.agg #[.int .i64 12, .int .i64 a, .int .i64 b, .int .i64 c, .int .i64 0]] w fun e w' => e = .returned (.bool true) ∧ Below w.heap.size w w' := by
  have HFD : Hid (∀ W, Calls Try.prog 80 #[.int .i64 12] W fun e w' => e = .returned (.string (rowF 12)) ∧ w' = W) := Lib.hid (fun W => rfields_v 12 (by omega) (by omega) W)
  have HUB : Hid (∀ W, Calls Try.prog 81 #[.string (rowF 12), .int .u8 66] W fun e w' => e = .returned (.bool true) ∧ w' = W) := Lib.hid (fun W => by have := ruses_any (rowF 12) (by decide) 66 W; rwa [show holds (rowF 12) 66 = true by decide] at this)
  have HUC : Hid (∀ W, Calls Try.prog 81 #[.string (rowF 12), .int .u8 67] W fun e w' => e = .returned (.bool true) ∧ w' = W) := Lib.hid (fun W => by have := ruses_any (rowF 12) (by decide) 67 W; rwa [show holds (rowF 12) 67 = true by decide] at this)
  have HUK : Hid (∀ W, Calls Try.prog 81 #[.string (rowF 12), .int .u8 75] W fun e w' => e = .returned (.bool false) ∧ w' = W) := Lib.hid (fun W => by have := ruses_any (rowF 12) (by decide) 75 W; rwa [show holds (rowF 12) 75 = false by decide] at this)
  generalize rowF 12 = s at *
  obtain ⟨m, HM, hm⟩ := max0_run 0
  have hm0 : m = 0 := by omega
  rw [hm0] at HM
  clear hm0
  have HTY := Lib.hid (fun W => rtypes_any 0 (by omega) (by rfl) W)
  clear hm
  go_enter Try.func40, Try.ntmps40
  go_wp2_with (first | (go_at_call 80; refine (HFD.out _).mono ?_; rintro _ _ ⟨rfl, rfl⟩) | (go_at_call 81; with_reducible (refine (HUB.out _).mono ?_); rintro _ _ ⟨rfl, rfl⟩) | (go_at_call 81; with_reducible (refine (HUC.out _).mono ?_); rintro _ _ ⟨rfl, rfl⟩) | (go_at_call 81; with_reducible (refine (HUK.out _).mono ?_); rintro _ _ ⟨rfl, rfl⟩) | (go_at_call 82; refine (HTY.out _).mono ?_; rintro _ _ ⟨rfl, rfl⟩))
  all_goals go_ret
  all_goals exact ⟨by first | rfl | (simp [*]; done), by (repeat' (first | (with_reducible exact Below.refl _ _) | (with_reducible assumption) | (with_reducible refine below_alloc ?_ _) | (with_reducible refine Below.drew ?_) | (with_reducible refine below_drewN ?_ _) | (with_reducible refine below_step (by assumption) ?_) | (with_reducible refine below_later ?_ _) | (with_reducible refine Below.setCell ?_ ?_ _) | go_size))⟩
end Go.Proofs.Ytfooefiaenlhmaa
