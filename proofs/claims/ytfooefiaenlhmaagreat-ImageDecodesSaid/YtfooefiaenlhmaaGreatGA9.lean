/- Lemmas for the laws of package magnetolaw15: what its functions return, for any arguments that the lemmas name. -/
import Derived.Test.YtfooefiaenlhmaaGreatGA1
import Derived.Test.YtfooefiaenlhmaaGreatGA4
import Derived.Test.YtfooefiaenlhmaaGreatGA7
import Derived.Test.YtfooefiaenlhmaaGreatGA8
import Derived.Deep.Cut
import Derived.Lib.AppendZeros
namespace Go.Proofs.YtfooefiaenlhmaaGreat
set_option linter.unusedVariables false
set_option linter.unusedSimpArgs false
set_option maxHeartbeats 16000000
open Go.RowKit Go.ChangeShapes Go.WideShapes Go.ChangeAt
theorem inL_bad {cells : Int} {l : List Int} (h : 1000 < l.length ∨ l.any (badC cells) = true) : inL cells l = false := by
 unfold inL
 rcases h with h | h
 ·
  rw [show decide (l.length ≤ 1000) = false by simp; omega, Bool.false_and]
 ·
  rw [h]; simp
theorem inL_good {cells : Int} {l : List Int} (h0 : l.length ≤ 1000) (h1 : l.any (badC cells) = false) : inL cells l = true := by
 unfold inL
 rw [h1]; simp [h0]
theorem inL_bd {cells : Int} {l : List Int} (h : inL cells l = true) : l.length ≤ 1000 ∧ ∀ c ∈ l, 0 ≤ c ∧ c < cells := by
 unfold inL at h
 simp only [Bool.and_eq_true, decide_eq_true_eq, Bool.not_eq_true', List.any_eq_false] at h
 refine ⟨h.1, fun c hc => ?_⟩
 have := h.2 c hc
 unfold badC at this
 simp only [decide_eq_true_eq] at this
 omega
theorem nodup_bad {l : List Int} {k : Nat} (hk : k < l.length) (h : l.getD k 0 ∈ l.take k) : ¬ l.Nodup := fun hn => by
 rw [← List.take_append_drop k l] at hn
 have := (List.nodup_append.1 hn).2.2
 refine this _ h (l.getD k 0) ?_ rfl
 rw [List.mem_iff_getElem?]
 exact ⟨0, by simp [List.getElem?_drop, List.getD, List.getElem?_eq_getElem hk]⟩
theorem nodup_good {l : List Int} (h : ∀ k, k < l.length → l.getD k 0 ∉ l.take k) : l.Nodup := by
 have key : ∀ k, k ≤ l.length → (l.take k).Nodup := fun k => by
  induction k with
  | zero => intro _; simp
  | succ k ih =>
   intro hk
   rw [List.take_add_one, List.getElem?_eq_getElem (by omega)]
   refine List.nodup_append.2 ⟨ih (by omega), by simp, fun a ha b hb => ?_⟩
   obtain rfl : b = l[k] := by simpa using hb
   have := h k (by omega)
   rw [List.getD_eq_getElem?_getD, List.getElem?_eq_getElem (by omega)] at this
   exact fun e => this (by rw [e] at ha; exact ha)
 have := key l.length (Nat.le_refl _)
 rwa [List.take_length] at this
theorem concat2A (b : Nat) (r1 r2 : Option Addr) (c1 c2 : Nat) (xs ys all : List Int) (w : World) (hal : xs ++ ys = all) (hb : b < w.heap.size) (d0 : w.cell? ⟨b, 0, none⟩ = some (.slice r1 xs.length c1)) (d1 : w.cell? ⟨b, 1, none⟩ = some (.slice r2 ys.length c2))
  (hx : IsInts w r1 c1 .i64 xs) (hy : IsInts w r2 c2 .i64 ys) (hl : xs.length + ys.length ≤ 100000) (hw : ∀ x ∈ xs ++ ys, (Lit.int .i64 x).wf = true) :
  Calls Tryz.prog 61 #[.slice (some ⟨b, 0, none⟩) 2 2] w fun e w' => ∃ r cap, e = .returned (.slice r all.length cap) ∧ IsInts w' r cap .i64 all ∧ Below w.heap.size w w' := by
 subst hal
 exact concat2I b r1 r2 c1 c2 xs ys w hb d0 d1 hx hy hl hw
theorem lt_of_row {W : World} {g : Nat} {o : Obj} (h : W.heap[g]? = some o) : g < W.heap.size := by
 rcases Nat.lt_or_ge g W.heap.size with hh | hh
 ·
  exact hh
 ·
  rw [Array.getElem?_eq_none hh] at h; cases h
theorem made_b {W : World} {base g n : Nat} (h : W.ownsRow base 4 1 (.slice (some ⟨g, 0, none⟩) n n) n (madeCells (Value.bool false).cells (n * 1)).toList) : ∃ cur : Array Value, W.heap[g]? = some (.cells cur 4) ∧ cur.size = n ∧ ∀ t, t < n → cur[t]? = some (.bool false) := by
 rw [Nat.mul_one] at h
 have e : (madeCells (Value.bool false).cells n).toList = List.replicate n (Value.bool false) := toList_madeCells_one _ _
 rw [e] at h
 obtain ⟨_, ho⟩ := h
 rcases ho with ⟨hbad, _⟩ | ⟨g', cap, cur, he, _, hrow, _, _, hsz, hx⟩
 ·
  cases hbad
 simp only [Value.slice.injEq, Option.some.injEq, Addr.mk.injEq, and_true, true_and] at he
 obtain ⟨rfl, rfl⟩ := he
 rw [Nat.mul_one] at hsz hx
 refine ⟨cur, hrow, hsz, fun t ht => ?_⟩
 have := congrArg (fun l : List Value => l[t]?) hx
 simp only [List.getElem?_take_of_lt ht, Array.getElem?_toList, List.getElem?_replicate, ht, if_true] at this
 exact this
theorem row_store2 {W : World} {g k : Nat} {arr : Array Value} {t : TypeId} (h : W.heap[g]? = some (.cells arr t)) (v : Value) : (W.setCell ⟨g, k, none⟩ v).heap[g]? = some (.cells (arr.setIfInBounds k v) t) := by
 simp [World.setCell, Array.getElem?_modify, h]
set_option maxRecDepth 100000 in
theorem mv_main (rc : Option Addr) (cc : Nat) (code : List Ins) (rt : Option Addr) (ct : Nat) (types : List Fx) (rv : Option Addr) (cv : Nat) (curves : List Cv) (rm : Option Addr) (cm : Nat) (maps : List Mp) (cells : Int) (ri : Option Addr) (ci : Nat) (inputs : List Int) (rs : Option Addr) (cs : Nat) (states : List Int) (ro : Option Addr) (co : Nat) (outputs : List Int) (rn : Option Addr) (cn : Nat) (initial : List Int) (w : World) (hp : IsP w ⟨rc, cc, code, rt, ct, types, rv, cv, curves, rm, cm, maps, cells, ri, ci, inputs, rs, cs, states, ro, co, outputs, rn, cn, initial⟩) (hsz : szP ⟨rc, cc, code, rt, ct, types, rv, cv, curves, rm, cm, maps, cells, ri, ci, inputs, rs, cs, states, ro, co, outputs, rn, cn, initial⟩) (hT : (types.any fun t => !fxB t) = false) (hC : (curves.any fun t => !cvB t) = false) (hM : (maps.any fun t => !mpB t) = false) (hI : (code.any fun i => !fitB cells curves.length maps.length types i) = false) :
  Calls Tryz.prog 26 #[.agg #[.slice rc code.length cc, .slice rt types.length ct, .slice rv curves.length cv, .slice rm maps.length cm, .int .i64 cells, .slice ri inputs.length ci, .slice rs states.length cs, .slice ro outputs.length co, .slice rn initial.length cn]] w fun e w' => e = .returned (.bool (inL cells inputs && (inL cells outputs && (inL cells states && (decide (inputs ++ states).Nodup && !(initial.any badN)))))) ∧ Below w.heap.size w w' := by
 obtain ⟨R, hR⟩ : ∃ R, R = (inL cells inputs && (inL cells outputs && (inL cells states && (decide (inputs ++ states).Nodup && !(initial.any badN))))) := ⟨_, rfl⟩
 rw [← hR]
 have HR := H! hR
 clear hR
 have hin := hp.inputs
 have hout := hp.outputs
 have hst := hp.states
 have hini := hp.initial
 have HP := H! hp
 simp only at hin hout hst hini
 have mi := Nat.le_trans hin.le hin.max
 have mo := Nat.le_trans hout.le hout.max
 have ms := Nat.le_trans hst.le hst.max
 unfold maxLen at mi mo ms
 have HIN := H! hin
 have HOUT := H! hout
 have HST := H! hst
 have HINI := H! hini
 clear hin hout hst hini
 obtain ⟨z0, z1, z2, z3, z4, z5, z6⟩ := hsz
 simp only at z0 z1 z2 z3 z4 z5 z6
 have f0 : ¬ ((4000 : Int) < code.length) := by omega
 have f1 : ¬ ((100 : Int) < types.length) := by omega
 have f2 : ¬ ((100 : Int) < curves.length) := by omega
 have f3 : ¬ ((100 : Int) < maps.length) := by omega
 have hs01 : w.heap.size < w.heap.size + 1 + 1 := by omega
 have f4 : ¬ cells < 0 := by omega
 have f5 : ¬ 1000 < cells := by omega
 have HT : Hid (∀ W, Below w.heap.size w W → w.heap.size + 1 < W.heap.size → W.cell? ⟨w.heap.size + 1, 0, none⟩ = some (.func (.func 48) #[] #[]) → Calls Tryz.prog 49 #[.slice rt types.length ct, .func (.func 50) #[] #[.pointer (some ⟨w.heap.size + 1, 0, none⟩)]] W fun e w' => e = .returned (.bool false) ∧ Below W.heap.size W w') := H! (fun W hW hs hc => mh_types ⟨rc, cc, code, rt, ct, types, rv, cv, curves, rm, cm, maps, cells, ri, ci, inputs, rs, cs, states, ro, co, outputs, rn, cn, initial⟩ W (HP.out.later hW) (w.heap.size + 1) false hT hs hc)
 have HC : Hid (∀ W, Below w.heap.size w W → w.heap.size + 1 < W.heap.size → W.cell? ⟨w.heap.size + 1, 0, none⟩ = some (.func (.func 48) #[] #[]) → Calls Tryz.prog 20 #[.slice rv curves.length cv, .func (.func 52) #[] #[.pointer (some ⟨w.heap.size + 1, 0, none⟩)]] W fun e w' => e = .returned (.bool false) ∧ Below W.heap.size W w') := H! (fun W hW hs hc => mh_curves ⟨rc, cc, code, rt, ct, types, rv, cv, curves, rm, cm, maps, cells, ri, ci, inputs, rs, cs, states, ro, co, outputs, rn, cn, initial⟩ W (HP.out.later hW) (w.heap.size + 1) false hC hs hc)
 have HM : Hid (∀ W, Below w.heap.size w W → w.heap.size + 1 < W.heap.size → W.cell? ⟨w.heap.size + 1, 0, none⟩ = some (.func (.func 48) #[] #[]) → Calls Tryz.prog 22 #[.slice rm maps.length cm, .func (.func 54) #[] #[.pointer (some ⟨w.heap.size + 1, 0, none⟩)]] W fun e w' => e = .returned (.bool false) ∧ Below W.heap.size W w') := H! (fun W hW hs hc => mh_maps ⟨rc, cc, code, rt, ct, types, rv, cv, curves, rm, cm, maps, cells, ri, ci, inputs, rs, cs, states, ro, co, outputs, rn, cn, initial⟩ W (HP.out.later hW) (w.heap.size + 1) false hM hs hc)
 have HI : Hid (∀ W, Below w.heap.size w W → w.heap.size + 1 < W.heap.size → W.cell? ⟨w.heap.size + 1, 0, none⟩ = some (.func (.func 48) #[] #[]) → W.cell? ⟨w.heap.size, 0, none⟩ = some (.slice rc code.length cc) → W.cell? ⟨w.heap.size, 1, none⟩ = some (.slice rt types.length ct) → W.cell? ⟨w.heap.size, 2, none⟩ = some (.slice rv curves.length cv) → W.cell? ⟨w.heap.size, 3, none⟩ = some (.slice rm maps.length cm) → W.cell? ⟨w.heap.size, 4, none⟩ = some (.int .i64 cells) → W.cell? ⟨w.heap.size, 5, none⟩ = some (.slice ri inputs.length ci) → W.cell? ⟨w.heap.size, 6, none⟩ = some (.slice rs states.length cs) → W.cell? ⟨w.heap.size, 7, none⟩ = some (.slice ro outputs.length co) → W.cell? ⟨w.heap.size, 8, none⟩ = some (.slice rn initial.length cn) → Calls Tryz.prog 56 #[.slice rc code.length cc, .func (.func 57) #[] #[.pointer (some ⟨w.heap.size + 1, 0, none⟩), .pointer (some ⟨w.heap.size, 0, none⟩)]] W fun e w' => e = .returned (.bool false) ∧ Below W.heap.size W w') := H! (fun W hW hs hc q0 q1 q2 q3 q4 q5 q6 q7 q8 => mh_code ⟨rc, cc, code, rt, ct, types, rv, cv, curves, rm, cm, maps, cells, ri, ci, inputs, rs, cs, states, ro, co, outputs, rn, cn, initial⟩ W (HP.out.later hW) (w.heap.size + 1) w.heap.size false hI hs (by omega) hc q0 q1 q2 q3 q4 q5 q6 q7 q8)
 clear hp hT hC hM hI
 have Z6 := H! z6
 go_enter Tryz.func26, Tryz.ntmps26
 go_wp2_with (first | (go_at_call 49; refine (HT.out _ bw (by first | omega | (simp only [zA]; omega)) (by first | go_keep | (simp [go_sem, *]; done))).mono ?_; rintro _ hb0w ⟨rfl, hb0⟩; obtain ⟨hb0c, hb0f⟩ := bcell hb0; have hb0s := hb0.size; (try simp only [zA] at hb0s); have hx0 : w.heap.size < hb0w.heap.size := (by omega); have hy0 : w.heap.size + 1 < hb0w.heap.size := (by omega)) | (go_at_call 20; refine (HC.out _ bw (by first | omega | (simp only [zA]; omega)) (by first | go_keep | (simp [go_sem, *]; done))).mono ?_; rintro _ hb1w ⟨rfl, hb1⟩; obtain ⟨hb1c, hb1f⟩ := bcell hb1; have hb1s := hb1.size; (try simp only [zA] at hb1s); have hx1 : w.heap.size < hb1w.heap.size := (by omega); have hy1 : w.heap.size + 1 < hb1w.heap.size := (by omega)) | (go_at_call 22; refine (HM.out _ bw (by first | omega | (simp only [zA]; omega)) (by first | go_keep | (simp [go_sem, *]; done))).mono ?_; rintro _ hb2w ⟨rfl, hb2⟩; obtain ⟨hb2c, hb2f⟩ := bcell hb2; have hb2s := hb2.size; (try simp only [zA] at hb2s); have hx2 : w.heap.size < hb2w.heap.size := (by omega); have hy2 : w.heap.size + 1 < hb2w.heap.size := (by omega)) | (go_at_call 56; refine (HI.out _ bw (by first | omega | (simp only [zA]; omega)) (by first | go_keep | (simp [go_sem, *]; done)) (by first | go_keep | (simp [go_sem, *]; done)) (by first | go_keep | (simp [go_sem, *]; done)) (by first | go_keep | (simp [go_sem, *]; done)) (by first | go_keep | (simp [go_sem, *]; done)) (by first | go_keep | (simp [go_sem, *]; done)) (by first | go_keep | (simp [go_sem, *]; done)) (by first | go_keep | (simp [go_sem, *]; done)) (by first | go_keep | (simp [go_sem, *]; done)) (by first | go_keep | (simp [go_sem, *]; done))).mono ?_; rintro _ hb3w ⟨rfl, hb3⟩; obtain ⟨hb3c, hb3f⟩ := bcell hb3; have hb3s := hb3.size; (try simp only [zA] at hb3s); have hx3 : w.heap.size < hb3w.heap.size := (by omega); have hy3 : w.heap.size + 1 < hb3w.heap.size := (by omega)))
 have hq : ∀ o, (hb3w.alloc (.cells #[.slice ri inputs.length ci, .slice ro outputs.length co, .slice rs states.length cs] 26)).cell? ⟨w.heap.size, o, none⟩ = hb0w.cell? ⟨w.heap.size, o, none⟩ := fun o => by
  rw [((Below.refl hb3w.heap.size hb3w).alloc (Nat.le_refl _) _).cell (p := ⟨w.heap.size, o, none⟩) (by show w.heap.size < hb3w.heap.size; omega), hb3c _ _ (by omega), hb2c _ _ (by omega), hb1c _ _ (by omega)]
 have q4 : (hb3w.alloc (.cells #[.slice ri inputs.length ci, .slice ro outputs.length co, .slice rs states.length cs] 26)).cell? ⟨w.heap.size, 4, none⟩ = some (.int .i64 cells) := by rw [hq, hb0c _ _ (by simp only [zA]; omega)]; first | go_keep | (simp; done) | (simp [Z6.out]; done)
 have q5 : (hb3w.alloc (.cells #[.slice ri inputs.length ci, .slice ro outputs.length co, .slice rs states.length cs] 26)).cell? ⟨w.heap.size, 5, none⟩ = some (.slice ri inputs.length ci) := by rw [hq, hb0c _ _ (by simp only [zA]; omega)]; first | go_keep | (simp; done) | (simp [Z6.out]; done)
 have q6 : (hb3w.alloc (.cells #[.slice ri inputs.length ci, .slice ro outputs.length co, .slice rs states.length cs] 26)).cell? ⟨w.heap.size, 6, none⟩ = some (.slice rs states.length cs) := by rw [hq, hb0c _ _ (by simp only [zA]; omega)]; first | go_keep | (simp; done) | (simp [Z6.out]; done)
 have q8 : (hb3w.alloc (.cells #[.slice ri inputs.length ci, .slice ro outputs.length co, .slice rs states.length cs] 26)).cell? ⟨w.heap.size, 8, none⟩ = some (.slice rn initial.length cn) := by rw [hq, hb0c _ _ (by simp only [zA]; omega)]; first | go_keep | (simp; done) | (simp [Z6.out]; done)
 clear z6
 have l0 : (hb3w.alloc (.cells #[.slice ri inputs.length ci, .slice ro outputs.length co, .slice rs states.length cs] 26)).cell? ⟨hb3w.heap.size, 0, none⟩ = some (.slice ri inputs.length ci) := by go_keep
 have l1 : (hb3w.alloc (.cells #[.slice ri inputs.length ci, .slice ro outputs.length co, .slice rs states.length cs] 26)).cell? ⟨hb3w.heap.size, 1, none⟩ = some (.slice ro outputs.length co) := by go_keep
 have l2 : (hb3w.alloc (.cells #[.slice ri inputs.length ci, .slice ro outputs.length co, .slice rs states.length cs] 26)).cell? ⟨hb3w.heap.size, 2, none⟩ = some (.slice rs states.length cs) := by go_keep
 have hbW : Below w.heap.size w (hb3w.alloc (.cells #[.slice ri inputs.length ci, .slice ro outputs.length co, .slice rs states.length cs] 26)) := bw
 have z1 : w.heap.size < (hb3w.alloc (.cells #[.slice ri inputs.length ci, .slice ro outputs.length co, .slice rs states.length cs] 26)).heap.size := by rw [zA]; omega
 have z2 : hb3w.heap.size < (hb3w.alloc (.cells #[.slice ri inputs.length ci, .slice ro outputs.length co, .slice rs states.length cs] 26)).heap.size := by rw [zA]; omega
 generalize hb3w.alloc (.cells #[.slice ri inputs.length ci, .slice ro outputs.length co, .slice rs states.length cs] 26) = W3 at *
 generalize hb3w.heap.size = bl at *
 clear hq hb0c hb1c hb2c hb3c hb0f hb1f hb2f hb3f hb0 hb1 hb2 hb3 HT HC HM HI
 go_loopg [78] 3 (fun kx s78 wr => ∃ (k : Nat) (e : Later W3), s78 = .int .i64 k ∧ k ≤ 3 ∧ 3 - k ≤ kx ∧ wr = e.w ∧ Hid ((1 ≤ k → inL cells inputs = true) ∧ (2 ≤ k → inL cells outputs = true) ∧ (3 ≤ k → inL cells states = true)))
 case atStart => exact ⟨0, ⟨W3, Below.refl _ _⟩, rfl, by omega, by omega, rfl, H! ⟨fun h => absurd h (by omega), fun h => absurd h (by omega), fun h => absurd h (by omega)⟩⟩
 case round =>
  obtain ⟨k, e, rfl, hk, hkx, rfl, HG⟩ := hrel
  have hes := e.h.size
  by_cases hk3 : k < 3
  ·
   obtain rfl | rfl | rfl : k = 0 ∨ k = 1 ∨ k = 2 := by omega
   ·
    by_cases n0 : 1000 < inputs.length
    ·
     have HB : Hid (R = false) := H! (by rw [HR.out, inL_bad (.inl n0)]; simp)
     have n0i : (1000 : Int) < inputs.length := by omega
     go_wp2
     go_ret
     exact ⟨ret_bool HB.out.symm, hbW.trans (e.h.mono (by omega))⟩
    ·
     have n0i : ¬ (1000 : Int) < inputs.length := by omega
     cases hb : inputs.any (badC cells)
     ·
      have HGD := H! (inL_good (cells := cells) (by omega) hb)
      go_wp2_with (go_at_call 59; refine (mh_list w.heap.size cells ri ci inputs e.w (HIN.out.later (hbW.trans (e.h.mono (by omega)))) false hb (Nat.lt_of_lt_of_le z1 hes) ((Later.cell e z1).trans q4)).mono ?_; rintro _ w5 ⟨rfl, hb5⟩; obtain ⟨e5, rfl⟩ := e.next hb5)
      go_roundg (3 - (0 + 1))
      case measure => omega
      case rel => exact ⟨0 + 1, e5, by go_num, by omega, by omega, rfl, H! ⟨fun _ => HGD.out, fun h => absurd h (by omega), fun h => absurd h (by omega)⟩⟩
     ·
      have HB : Hid (R = false) := H! (by rw [HR.out, inL_bad (.inr hb)]; simp)
      go_wp2_with (go_at_call 59; refine (mh_list w.heap.size cells ri ci inputs e.w (HIN.out.later (hbW.trans (e.h.mono (by omega)))) true hb (Nat.lt_of_lt_of_le z1 hes) ((Later.cell e z1).trans q4)).mono ?_; rintro _ w5 ⟨rfl, hb5⟩; obtain ⟨e5, rfl⟩ := e.next hb5)
      go_ret
      exact ⟨ret_bool HB.out.symm, hbW.trans (e5.h.mono (by omega))⟩
   ·
    by_cases n0 : 1000 < outputs.length
    ·
     have HB : Hid (R = false) := H! (by rw [HR.out, HG.out.1 (by omega), inL_bad (.inl n0)]; simp)
     have n0i : (1000 : Int) < outputs.length := by omega
     go_wp2
     go_ret
     exact ⟨ret_bool HB.out.symm, hbW.trans (e.h.mono (by omega))⟩
    ·
     have n0i : ¬ (1000 : Int) < outputs.length := by omega
     cases hb : outputs.any (badC cells)
     ·
      have HGD := H! (inL_good (cells := cells) (by omega) hb)
      go_wp2_with (go_at_call 59; refine (mh_list w.heap.size cells ro co outputs e.w (HOUT.out.later (hbW.trans (e.h.mono (by omega)))) false hb (Nat.lt_of_lt_of_le z1 hes) ((Later.cell e z1).trans q4)).mono ?_; rintro _ w5 ⟨rfl, hb5⟩; obtain ⟨e5, rfl⟩ := e.next hb5)
      go_roundg (3 - (1 + 1))
      case measure => omega
      case rel => exact ⟨1 + 1, e5, by go_num, by omega, by omega, rfl, H! ⟨fun _ => HG.out.1 (by omega), fun _ => HGD.out, fun h => absurd h (by omega)⟩⟩
     ·
      have HB : Hid (R = false) := H! (by rw [HR.out, HG.out.1 (by omega), inL_bad (.inr hb)]; simp)
      go_wp2_with (go_at_call 59; refine (mh_list w.heap.size cells ro co outputs e.w (HOUT.out.later (hbW.trans (e.h.mono (by omega)))) true hb (Nat.lt_of_lt_of_le z1 hes) ((Later.cell e z1).trans q4)).mono ?_; rintro _ w5 ⟨rfl, hb5⟩; obtain ⟨e5, rfl⟩ := e.next hb5)
      go_ret
      exact ⟨ret_bool HB.out.symm, hbW.trans (e5.h.mono (by omega))⟩
   ·
    by_cases n0 : 1000 < states.length
    ·
     have HB : Hid (R = false) := H! (by rw [HR.out, HG.out.1 (by omega), HG.out.2.1 (by omega), inL_bad (.inl n0)]; simp)
     have n0i : (1000 : Int) < states.length := by omega
     go_wp2
     go_ret
     exact ⟨ret_bool HB.out.symm, hbW.trans (e.h.mono (by omega))⟩
    ·
     have n0i : ¬ (1000 : Int) < states.length := by omega
     cases hb : states.any (badC cells)
     ·
      have HGD := H! (inL_good (cells := cells) (by omega) hb)
      go_wp2_with (go_at_call 59; refine (mh_list w.heap.size cells rs cs states e.w (HST.out.later (hbW.trans (e.h.mono (by omega)))) false hb (Nat.lt_of_lt_of_le z1 hes) ((Later.cell e z1).trans q4)).mono ?_; rintro _ w5 ⟨rfl, hb5⟩; obtain ⟨e5, rfl⟩ := e.next hb5)
      go_roundg (3 - (2 + 1))
      case measure => omega
      case rel => exact ⟨2 + 1, e5, by go_num, by omega, by omega, rfl, H! ⟨fun _ => HG.out.1 (by omega), fun _ => HG.out.2.1 (by omega), fun _ => HGD.out⟩⟩
     ·
      have HB : Hid (R = false) := H! (by rw [HR.out, HG.out.1 (by omega), HG.out.2.1 (by omega), inL_bad (.inr hb)]; simp)
      go_wp2_with (go_at_call 59; refine (mh_list w.heap.size cells rs cs states e.w (HST.out.later (hbW.trans (e.h.mono (by omega)))) true hb (Nat.lt_of_lt_of_le z1 hes) ((Later.cell e z1).trans q4)).mono ?_; rintro _ w5 ⟨rfl, hb5⟩; obtain ⟨e5, rfl⟩ := e.next hb5)
      go_ret
      exact ⟨ret_bool HB.out.symm, hbW.trans (e5.h.mono (by omega))⟩
  ·
   obtain rfl : k = 3 := by omega
   obtain ⟨G1, G2, G3⟩ := HG.out
   have g1 := G1 (by omega)
   have g2 := G2 (by omega)
   have g3 := G3 (by omega)
   clear G1 G2 G3 HG l0 l1 l2
   have z3 : w.heap.size < e.w.heap.size := Nat.lt_of_lt_of_le z1 hes
   obtain ⟨m, rfl⟩ : ∃ m : Nat, cells = m := ⟨cells.toNat, by omega⟩
   have hle : inputs.length + states.length ≤ 100000 := by
    have := (inL_bd g1).1
    have := (inL_bd g3).1
    omega
   obtain ⟨i0, hi, hz0, hz1, hz2⟩ := info_parts infoBool
   have hbe : Below w.heap.size w e.w := hbW.trans (e.h.mono (by omega))
   obtain ⟨all, hal⟩ : ∃ all, inputs ++ states = all := ⟨_, rfl⟩
   have HAL := H! hal
   have hlm : all.length ≤ 100000 := by rw [← hal, List.length_append]; exact hle
   rw [hal] at HR
   have HM : Hid (∀ c ∈ all, 0 ≤ c ∧ c < (m : Int)) := H! (fun c hc => (List.mem_append.1 (hal ▸ hc)).elim ((inL_bd g1).2 c) ((inL_bd g3).2 c))
   clear hal
   have u4 := (Later.cell e z1).trans q4
   have u5 := (Later.cell e z1).trans q5
   have u6 := (Later.cell e z1).trans q6
   have u8 := (Later.cell e z1).trans q8
   have G := H! (And.intro g1 (And.intro g2 g3))
   clear g1 g2 g3 q4 q5 q6 q8
   go_wp2_with (first | (at_make; refine wpList_make_full _ (by rfl) _ _ _ (by rfl) e.w.heap.size 4 i0 (.bool false) 1 Tryz.underlying77 hi hz0 hz1 .i64 .i64 _ _ m (by rfl) (by rfl) (by rfl) (by rfl) (by rw [hz2]; omega) (by unfold maxLen; omega) (Nat.le_refl _) ?_; intro w4 hown hgrow; have hb4 : Below e.w.heap.size e.w w4 := (Below.refl _ _).grown hgrow (Nat.le_refl _) (fun k hk => by cases hk); obtain ⟨cur, hrow, hsz, hcur⟩ := made_b hown; clear hown hgrow; have z4 : e.w.heap.size < w4.heap.size := lt_of_row hrow; have z5 : w.heap.size < w4.heap.size := (by omega); have r5 := (hb4.cell (p := ⟨w.heap.size, 5, none⟩) z3).trans u5; have r6 := (hb4.cell (p := ⟨w.heap.size, 6, none⟩) z3).trans u6; have r8 := (hb4.cell (p := ⟨w.heap.size, 8, none⟩) z3).trans u8; have hbw4 : Below w.heap.size w w4 := hbe.trans (hb4.mono (by omega))) | (go_at_call 61; refine (concat2A w4.heap.size ri rs ci cs inputs states all _ HAL.out (by rw [zA]; omega) (by simp) (by simp) (HIN.out.later (hbw4.trans (((Below.refl w4.heap.size w4).alloc (Nat.le_refl _) _).mono (by omega)))) (HST.out.later (hbw4.trans (((Below.refl w4.heap.size w4).alloc (Nat.le_refl _) _).mono (by omega)))) hle (fun x hx => (List.mem_append.1 hx).elim (HIN.out.wf x) (HST.out.wf x))).mono ?_; rintro _ w5 ⟨ra, ca, rfl, hall, hb5⟩; have hb5' := hb5; rw [zA] at hb5'; have z6 : w4.heap.size < w5.heap.size := (by have hsz5 := hb5'.size; rw [zA] at hsz5; omega); have hrow5 : w5.heap[e.w.heap.size]? = some (.cells cur 4) := ((hb5'.block e.w.heap.size (by omega)).trans (((Below.refl w4.heap.size w4).alloc (Nat.le_refl _) _).block e.w.heap.size (by omega))).trans hrow; have r8b := (hb5'.cell (p := ⟨w.heap.size, 8, none⟩) (show w.heap.size < w4.heap.size + 1 from (by omega))).trans ((((Below.refl w4.heap.size w4).alloc (Nat.le_refl _) _).cell (p := ⟨w.heap.size, 8, none⟩) z5).trans r8); have hbz : Below w.heap.size w w5 := hbw4.trans ((((Below.refl w4.heap.size w4).alloc (Nat.le_refl _) _).mono (by omega)).trans (hb5'.mono (by omega)))))
   have HALL := H! hall
   clear hall
   generalize hgt : e.w.heap.size = gT at *
   go_loopg [8, 101] all.length (fun kx s8 s101 wr => ∃ (k : Nat) (arr : Array Value), s101 = .int .i64 k ∧ k ≤ all.length ∧ all.length - k ≤ kx ∧ KeepB w5.heap.size gT w5 wr ∧ Hid (wr.heap[gT]? = some (.cells arr 4)) ∧ arr.size = m ∧ Hid (∀ t : Nat, t < m → arr[t]? = some (.bool (decide ((t : Int) ∈ all.take k)))) ∧ Hid (∀ j, j < k → all.getD j 0 ∉ all.take j))
   case atStart => exact ⟨0, cur, rfl, by omega, by omega, KeepB.refl _ _ _, H! hrow5, hsz, H! (fun t ht => by rw [hcur t ht]; simp), H! (fun j hj => absurd hj (by omega))⟩
   case round =>
    obtain ⟨k, arr, rfl, hk, hkx, hK, HR2, hasz, HA, HN⟩ := hrel
    have hbr : Below w.heap.size w wr := hbz.trans (hK.below (by omega) (by omega))
    by_cases hlt : k < all.length
    ·
     obtain ⟨b5, o5, rfl, hb5b, hcells⟩ := HALL.out.cells (by intro h; rw [h] at hlt; simp at hlt)
     have hc5 := hcells k hlt
     have hmem : all.getD k 0 ∈ all := by rw [List.getD_eq_getElem?_getD, List.getElem?_eq_getElem hlt]; exact List.getElem_mem hlt
     obtain ⟨c0, c1⟩ := HM.out _ hmem
     obtain ⟨t, ht⟩ : ∃ t : Nat, all.getD k 0 = t := ⟨(all.getD k 0).toNat, by omega⟩
     have hne : b5 ≠ gT := fun h => by
      subst h
      rw [cell_of_row w5 b5 (o5 + k) cur _ _ hrow5] at hc5
      have hlt2 : o5 + k < m := by
       rcases Nat.lt_or_ge (o5 + k) m with hh | hh
       ·
        exact hh
       ·
        rw [Array.getElem?_eq_none (by omega)] at hc5; cases hc5
      rw [hcur _ hlt2] at hc5
      cases hc5
     have hcw : wr.cell? ⟨b5, o5 + k, none⟩ = some (.int .i64 t) := by rw [hK.cell hb5b hne, hc5, ht]
     have HT2 := H! ht
     rw [ht] at c0 c1
     have htm : t < m := by omega
     have hct : wr.cell? ⟨gT, t, none⟩ = some (.bool (decide ((t : Int) ∈ all.take k))) := by rw [cell_of_row wr gT t arr _ _ HR2.out, HA.out t htm]
     have hft : wr.frozen? ⟨gT, t, none⟩ = false := by simp [World.frozen?, HR2.out]
     have hk1 : (0 : Int) ≤ (k : Int) := by omega
     have hk2 : (k : Int) < all.length := by omega
     clear ht hc5 hcells hmem
     cases hd : decide ((t : Int) ∈ all.take k)
     ·
      rw [hd] at hct
      have HD := H! hd
      clear hd
      go_wp2
      go_roundg (all.length - (k + 1))
      case measure => omega
      case rel =>
       refine ⟨k + 1, arr.setIfInBounds t (.bool true), by go_num, by omega, by omega, hK.trans (KeepB.setC _ _ _), H! (row_store2 HR2.out _), by simpa using hasz, H! (fun u hu => ?_), H! (fun j hj => ?_)⟩
       ·
        have hadd : all.take (k + 1) = all.take k ++ [(t : Int)] := by
         have hh := HT2.out
         rw [List.getD_eq_getElem?_getD, List.getElem?_eq_getElem hlt] at hh
         rw [List.take_add_one, List.getElem?_eq_getElem hlt, ← hh]; rfl
        rw [Array.getElem?_setIfInBounds, hadd]
        by_cases he : t = u
        ·
         subst he
         simp [hasz, htm]
        ·
         rw [if_neg he, HA.out u hu]
         have : ¬ (u : Int) = t := by omega
         simp [this]
       ·
        by_cases hjk : j = k
        ·
         subst hjk
         rw [HT2.out]
         exact of_decide_eq_false HD.out
        ·
         exact HN.out j (by omega)
     ·
      rw [hd] at hct
      have HB : Hid (R = false) := H! (by
       have hm : ¬ all.Nodup := nodup_bad hlt (by rw [HT2.out]; exact of_decide_eq_true hd)
       rw [HR.out, decide_eq_false hm]; simp)
      clear hd
      go_wp2
      go_ret
      exact ⟨ret_bool HB.out.symm, hbr⟩
    ·
     obtain rfl : k = all.length := by omega
     have hnd : all.Nodup := nodup_good (fun j hj => HN.out j hj)
     have HE : Hid (R = !(initial.any badN)) := H! (by
      rw [HR.out, G.out.1, G.out.2.1, G.out.2.2, decide_eq_true hnd]; rfl)
     have hcr : wr.cell? ⟨w.heap.size, 8, none⟩ = some (.slice rn initial.length cn) := by rw [hK.cell (by omega) (by omega)]; exact r8b
     have hini2 := HINI.out.later hbr
     have HI2 := H! (mh_ini rn cn initial wr hini2 _ rfl)
     clear hini2 hnd
     generalize initial.any badN = bi at *
     go_wp2_with (go_at_call 59; refine HI2.out.mono ?_; rintro _ w6 ⟨rfl, hb6⟩)
     go_ret
     exact ⟨ret_bool HE.out.symm, hbr.trans (hb6.mono hbr.size)⟩
theorem mvalid_any (p : PV) (w : World) (hp : IsP w p) : Calls Tryz.prog 26 #[p.val] w fun e w' => e = .returned (.bool (validB p)) ∧ Below w.heap.size w w' := by
 by_cases hsz : szP p
 rotate_left
 ·
  have e : validB p = false := by unfold validB; rw [decide_eq_false hsz]; rfl
  rw [e]
  exact mv_sz p w hp hsz
 have e0 : decide (szP p) = true := decide_eq_true hsz
 cases hT : (p.types.any fun t => !fxB t)
 rotate_left
 ·
  have e : validB p = false := by unfold validB; rw [hT]; simp
  rw [e]
  obtain ⟨rc, cc, code, rt, ct, types, rv, cv, curves, rm, cm, maps, cells, ri, ci, inputs, rs, cs, states, ro, co, outputs, rn, cn, initial⟩ := p
  simp only [PV.val]
  exact mv_T _ _ _ _ _ _ _ _ _ _ _ _ _ _ _ _ _ _ _ _ _ _ _ _ _ w hp hsz hT
 cases hC : (p.curves.any fun t => !cvB t)
 rotate_left
 ·
  have e : validB p = false := by unfold validB; rw [hC]; simp
  rw [e]
  obtain ⟨rc, cc, code, rt, ct, types, rv, cv, curves, rm, cm, maps, cells, ri, ci, inputs, rs, cs, states, ro, co, outputs, rn, cn, initial⟩ := p
  simp only [PV.val]
  exact mv_C _ _ _ _ _ _ _ _ _ _ _ _ _ _ _ _ _ _ _ _ _ _ _ _ _ w hp hsz hT hC
 cases hM : (p.maps.any fun t => !mpB t)
 rotate_left
 ·
  have e : validB p = false := by unfold validB; rw [hM]; simp
  rw [e]
  obtain ⟨rc, cc, code, rt, ct, types, rv, cv, curves, rm, cm, maps, cells, ri, ci, inputs, rs, cs, states, ro, co, outputs, rn, cn, initial⟩ := p
  simp only [PV.val]
  exact mv_M _ _ _ _ _ _ _ _ _ _ _ _ _ _ _ _ _ _ _ _ _ _ _ _ _ w hp hsz hT hC hM
 cases hI : (p.code.any fun i => !fitB p.cells p.curves.length p.maps.length p.types i)
 rotate_left
 ·
  have e : validB p = false := by unfold validB; rw [hI]; simp
  rw [e]
  obtain ⟨rc, cc, code, rt, ct, types, rv, cv, curves, rm, cm, maps, cells, ri, ci, inputs, rs, cs, states, ro, co, outputs, rn, cn, initial⟩ := p
  simp only [PV.val]
  exact mv_I _ _ _ _ _ _ _ _ _ _ _ _ _ _ _ _ _ _ _ _ _ _ _ _ _ w hp hsz hT hC hM hI
 have e : validB p = (inL p.cells p.inputs && (inL p.cells p.outputs && (inL p.cells p.states && (decide (p.inputs ++ p.states).Nodup && !(p.initial.any badN))))) := by
  unfold validB
  rw [e0, hT, hC, hM, hI]
  simp only [Bool.not_false, Bool.true_and]
 rw [e]
 obtain ⟨rc, cc, code, rt, ct, types, rv, cv, curves, rm, cm, maps, cells, ri, ci, inputs, rs, cs, states, ro, co, outputs, rn, cn, initial⟩ := p
 simp only [PV.val]
 exact mv_main _ _ _ _ _ _ _ _ _ _ _ _ _ _ _ _ _ _ _ _ _ _ _ _ _ w hp hsz hT hC hM hI
set_option maxRecDepth 100000 in
theorem menc_any (op a b c k : Int) (hk : I64 k) (hf : formB op a b c k = true) (w : World) : Calls Tryz.prog 96 #[.agg #[.int .i64 op, .int .i64 a, .int .i64 b, .int .i64 c, .int .i64 k]] w fun e w' => ∃ ro co, e = .returned (.tuple #[.slice ro 12 co, .int .i64 0]) ∧ OwnK .u8 5 w' w.heap.size ro co (encI op a b c k) ∧ Below w.heap.size w w' := by
 have HFM := H! (fun W => formed_v hk hf W)
 have HO : Hid (∀ v : World, OwnK .u8 5 (v.alloc (.cells #[.int .u8 (op % 256), .int .u8 (a % 256), .int .u8 (b % 256), .int .u8 (c % 256)] 5)) v.heap.size (some ⟨v.heap.size, 0, none⟩) 4 [op % 256, a % 256, b % 256, c % 256]) := H! (fun v => own_built .u8 5 v v.heap.size [op % 256, a % 256, b % 256, c % 256] (Nat.le_refl _) (by simp [maxLen]))
 go_enter Tryz.func96, Tryz.ntmps96
 go_wp2_with (first | (go_at_call 106; refine (HFM.out _).mono ?_; rintro _ w1 ⟨rfl, hb1⟩; obtain ⟨hb1c, hb1f⟩ := bcell hb1; have hb1s := hb1.size; (try simp only [zA] at hb1s); have hx1 : w.heap.size < w1.heap.size := (by omega)))
 have hB1 : Below w.heap.size w w1 := bw
 have hc4 : (w1.alloc (.cells #[.int .u8 (op % 256), .int .u8 (a % 256), .int .u8 (b % 256), .int .u8 (c % 256)] 5)).cell? ⟨w.heap.size, 4, none⟩ = some (.int .i64 k) := by
  rw [((Below.refl w1.heap.size w1).alloc (Nat.le_refl _) _).cell (p := ⟨w.heap.size, 4, none⟩) hx1, hb1c _ _ (by simp only [zA]; omega)]
  first | go_keep | simp
 have HO2 := H! (HO.out w1)
 have hz : (w1.alloc (.cells #[.int .u8 (op % 256), .int .u8 (a % 256), .int .u8 (b % 256), .int .u8 (c % 256)] 5)).heap.size = w1.heap.size + 1 := zA _ _
 have hB2 : Below w.heap.size w (w1.alloc (.cells #[.int .u8 (op % 256), .int .u8 (a % 256), .int .u8 (b % 256), .int .u8 (c % 256)] 5)) := hB1.alloc (by omega) _
 generalize w1.alloc (.cells #[.int .u8 (op % 256), .int .u8 (a % 256), .int .u8 (b % 256), .int .u8 (c % 256)] 5) = W2 at *
 clear HO HFM hb1c hb1f hb1 hB1
 go_loopg [4, 5] 8 (fun kx s4 s5 wr => ∃ (j : Nat) (r : Option Addr) (co : Nat) (out : List Int) (kk : Int), s4 = .slice r out.length co ∧ s5 = .int .i64 kk ∧ kk = 56 - 8 * (j : Int) ∧ j ≤ 8 ∧ 8 - j ≤ kx ∧ Below w1.heap.size W2 wr ∧ Hid (OwnK .u8 5 wr w1.heap.size r co out) ∧ Hid (out = [op % 256, a % 256, b % 256, c % 256] ++ (num8 k).take j) ∧ Hid (out.length = 4 + j))
 case atStart => exact ⟨0, some ⟨w1.heap.size, 0, none⟩, 4, [op % 256, a % 256, b % 256, c % 256], 56, rfl, by first | rfl | go_num, by omega, by omega, by omega, Below.refl _ _, HO2, H! (by simp), H! rfl⟩
 case round =>
  clear HO2
  obtain ⟨j, r, co, out, kk, rfl, rfl, hkk, hj, hkx, hbr, HO, HQ, HL⟩ := hrel
  have hrs := hbr.size
  by_cases hlt : j < 8
  ·
   have hk1 : (0 : Int) ≤ kk := by omega
   have hk2 : IntKind.i64.wrap (kk - 8) = kk - 8 := IntWalk.i64_in _ (by omega)
   have hk4 : min kk.toNat 64 = kk.toNat := by omega
   have hv : IntKind.u8.wrap (IntKind.u64.wrap k / 2 ^ kk.toNat) = byteAt k j := by rw [hkk]; exact shr_byte k hlt
   have HQ2 := H! (num8_take (n := k) hlt)
   have hol : out.length ≤ 12 := by have := HL.out; omega
   have hc4w : wr.cell? ⟨w.heap.size, 4, none⟩ = some (.int .i64 k) := (hbr.cell (p := ⟨w.heap.size, 4, none⟩) hx1).trans hc4
   have HKK := H! hkk
   clear hkk hc4
   generalize byteAt k j = x at *
   go_wp2_with (at_builtin; refine wpList_append_k Tryz.underlying43 infoU8 rfl (by omega) (by rfl) _ _ (by rfl) wr w1.heap.size r co out [x] 1 rfl (by omega) (by rfl) (by rfl) (by rfl) HO.out (by omega) (by omega) ?_; intro r' c' w3 hown1 hbw1)
   have HO1 := H! hown1
   clear hown1
   go_roundg (8 - (j + 1))
   case measure => omega
   case rel => exact ⟨j + 1, r', c', out ++ [x], kk - 8, by simp, by go_num, by have := HKK.out; omega, by omega, by omega, hbr.trans hbw1, HO1, H! (by rw [HQ.out, HQ2.out, List.append_assoc]), H! (by rw [List.length_append, HL.out]; rfl)⟩
  ·
   obtain rfl : j = 8 := by omega
   obtain rfl : kk = -8 := by omega
   go_wp2
   have hol2 : out.length = 12 := HL.out
   refine bodyPost_ret (by simp [results, Tryz.results96, go_sem, *]; try rfl) rfl ?_
   refine ⟨r, co, by first | rfl | (rw [hol2]; rfl), ?_, hB2.trans (hbr.mono (by omega))⟩
   have := HO.out
   rw [HQ.out] at this
   exact this.base (by omega)
theorem Wr.later {w w' : World} {b : Nat} {xs : List Int} (h : Wr w b xs) (hb : Below w.heap.size w w') : Wr w' b xs := by
 obtain ⟨r, cap, h1, h2, h3, h4⟩ := h
 exact ⟨r, cap, Nat.lt_of_lt_of_le h1 hb.size, (hb.cell (p := ⟨b, 0, none⟩) h1).trans h2, (hb.frozen (p := ⟨b, 0, none⟩) h1).trans h3, h4.below hb (Nat.le_refl _)⟩
theorem wr_put {w2 w3 : World} {b : Nat} {out ys : List Int} {r r' : Option Addr} {c c' : Nat} (hb : b < w2.heap.size) (hc : w2.cell? ⟨b, 0, none⟩ = some (.slice r out.length c)) (hf : w2.frozen? ⟨b, 0, none⟩ = false) (hown : OwnK .u8 5 w3 (b + 1) r' c' (out ++ ys)) (hbw : Below (b + 1) w2 w3) :
  ∀ n, n = (out ++ ys).length → Wr (w3.setCell ⟨b, 0, none⟩ (.slice r' n c')) b (out ++ ys) ∧ Below b w2 (w3.setCell ⟨b, 0, none⟩ (.slice r' n c')) := by
 rintro n rfl
 have hc3 : w3.cell? ⟨b, 0, none⟩ = some (.slice r out.length c) := (hbw.cell (p := ⟨b, 0, none⟩) (Nat.lt_succ_self b)).trans hc
 refine ⟨⟨r', c', ?_, ?_, ?_, hown.set (Nat.lt_succ_self b) _⟩, (hbw.mono (Nat.le_succ b)).setCell (Nat.le_refl b) _⟩
 ·
  rw [zS]; exact Nat.lt_of_lt_of_le hb hbw.size
 ·
  rw [World.cell?_setCell_same' _ _ _ (by rw [hc3]; rfl)]
 ·
  rw [World.frozen?_setCell, hbw.frozen (p := ⟨b, 0, none⟩) (Nat.lt_succ_self b)]; exact hf
set_option maxRecDepth 100000 in
theorem ibody_main (rc : Option Addr) (cc : Nat) (code : List Ins) (rt : Option Addr) (ct : Nat) (types : List Fx) (rv : Option Addr) (cv : Nat) (curves : List Cv) (rm : Option Addr) (cm : Nat) (maps : List Mp) (cells : Int) (ri : Option Addr) (ci : Nat) (inputs : List Int) (rs : Option Addr) (cs : Nat) (states : List Int) (ro : Option Addr) (co : Nat) (outputs : List Int) (rn : Option Addr) (cn : Nat) (initial : List Int) (w : World) (hp : IsP w ⟨rc, cc, code, rt, ct, types, rv, cv, curves, rm, cm, maps, cells, ri, ci, inputs, rs, cs, states, ro, co, outputs, rn, cn, initial⟩) (hfm : ∀ i ∈ code, formB i.op i.a i.b i.c i.k = true) (hl : (num8 code.length ++ code.flatMap Ins.by8 ++ num8 types.length ++ types.flatMap Fx.by8 ++ num8 curves.length ++ curves.flatMap (fun c => curveB8 c.p) ++ num8 maps.length ++ maps.flatMap (fun m => mapB8 m.p) ++ num8 cells ++ list8 inputs ++ list8 states ++ list8 outputs ++ list8 initial).length ≤ 10000000000) : Calls Tryz.prog 44 #[.agg #[.slice rc code.length cc, .slice rt types.length ct, .slice rv curves.length cv, .slice rm maps.length cm, .int .i64 cells, .slice ri inputs.length ci, .slice rs states.length cs, .slice ro outputs.length co, .slice rn initial.length cn]] w fun e w' => ∃ r c out, e = .returned (.slice r out.length c) ∧ OwnK .u8 5 w' w.heap.size r c out ∧ Below w.heap.size w w' ∧ out = num8 code.length ++ code.flatMap Ins.by8 ++ num8 types.length ++ types.flatMap Fx.by8 ++ num8 curves.length ++ curves.flatMap (fun c => curveB8 c.p) ++ num8 maps.length ++ maps.flatMap (fun m => mapB8 m.p) ++ num8 cells ++ list8 inputs ++ list8 states ++ list8 outputs ++ list8 initial := by
 have hs1 := hp.code
 have hg1 := hp.codeG
 have hs2 := hp.types
 have hg2 := hp.typesG
 have hs3 := hp.curves
 have hg3 := hp.curvesG
 have hs4 := hp.maps
 have hg4 := hp.mapsG
 have hcl := hp.cells
 have hi1 := hp.inputs
 have hi2 := hp.states
 have hi3 := hp.outputs
 have hi4 := hp.initial
 simp only at hs1 hg1 hs2 hg2 hs3 hg3 hs4 hg4 hcl hi1 hi2 hi3 hi4
 simp only [List.length_append, num8_len, list8_len] at hl
 have HS1 := H! hs1
 have HS2 := H! hs2
 have HS3 := H! hs3
 have HS4 := H! hs4
 have HG1 := H! (fun x hx => And.intro (hg1 x hx) (hfm x hx))
 have HG2 := H! hg2
 have HG3 := H! hg3
 have HG4 := H! hg4
 have HI1 := H! hi1
 have HI2 := H! hi2
 have HI3 := H! hi3
 have HI4 := H! hi4
 clear hs1 hs2 hs3 hs4 hg1 hg2 hg3 hg4 hi1 hi2 hi3 hi4 hp hfm
 have hmc1 := Nat.le_trans HS1.out.le HS1.out.max
 have hmc2 := Nat.le_trans HS2.out.le HS2.out.max
 have hmc3 := Nat.le_trans HS3.out.le HS3.out.max
 have hmc4 := Nat.le_trans HS4.out.le HS4.out.max
 unfold maxLen at hmc1 hmc2 hmc3 hmc4
 have hn1 : I64 (code.length : Int) := i64_nat (by omega)
 have hn2 : I64 (types.length : Int) := i64_nat (by omega)
 have hn3 : I64 (curves.length : Int) := i64_nat (by omega)
 have hn4 : I64 (maps.length : Int) := i64_nat (by omega)
 have H0 : Hid (Wr ((w.alloc (.cells #[.slice rc code.length cc, .slice rt types.length ct, .slice rv curves.length cv, .slice rm maps.length cm, .int .i64 cells, .slice ri inputs.length ci, .slice rs states.length cs, .slice ro outputs.length co, .slice rn initial.length cn] 28)).alloc (.cells #[.slice none 0 0] 135)) (w.heap.size + 1) []) := H! ⟨none, 0, by rw [zA, zA]; omega, by rw [← zA w (.cells #[.slice rc code.length cc, .slice rt types.length ct, .slice rv curves.length cv, .slice rm maps.length cm, .int .i64 cells, .slice ri inputs.length ci, .slice rs states.length cs, .slice ro outputs.length co, .slice rn initial.length cn] 28), World.cell?_alloc_new]; rfl, by simp, OwnK.nil _ _⟩
 have hBW : Below w.heap.size w ((w.alloc (.cells #[.slice rc code.length cc, .slice rt types.length ct, .slice rv curves.length cv, .slice rm maps.length cm, .int .i64 cells, .slice ri inputs.length ci, .slice rs states.length cs, .slice ro outputs.length co, .slice rn initial.length cn] 28)).alloc (.cells #[.slice none 0 0] 135)) := ((Below.refl _ _).alloc (Nat.le_refl _) _).alloc (by rw [zA]; omega) _
 have hz1 : ((w.alloc (.cells #[.slice rc code.length cc, .slice rt types.length ct, .slice rv curves.length cv, .slice rm maps.length cm, .int .i64 cells, .slice ri inputs.length ci, .slice rs states.length cs, .slice ro outputs.length co, .slice rn initial.length cn] 28)).alloc (.cells #[.slice none 0 0] 135)).heap.size = w.heap.size + 2 := by simp only [zA]
 have q0 : ((w.alloc (.cells #[.slice rc code.length cc, .slice rt types.length ct, .slice rv curves.length cv, .slice rm maps.length cm, .int .i64 cells, .slice ri inputs.length ci, .slice rs states.length cs, .slice ro outputs.length co, .slice rn initial.length cn] 28)).alloc (.cells #[.slice none 0 0] 135)).cell? ⟨w.heap.size, 0, none⟩ = some (.slice rc code.length cc) := by first | go_keep | simp
 have q1 : ((w.alloc (.cells #[.slice rc code.length cc, .slice rt types.length ct, .slice rv curves.length cv, .slice rm maps.length cm, .int .i64 cells, .slice ri inputs.length ci, .slice rs states.length cs, .slice ro outputs.length co, .slice rn initial.length cn] 28)).alloc (.cells #[.slice none 0 0] 135)).cell? ⟨w.heap.size, 1, none⟩ = some (.slice rt types.length ct) := by first | go_keep | simp
 have q2 : ((w.alloc (.cells #[.slice rc code.length cc, .slice rt types.length ct, .slice rv curves.length cv, .slice rm maps.length cm, .int .i64 cells, .slice ri inputs.length ci, .slice rs states.length cs, .slice ro outputs.length co, .slice rn initial.length cn] 28)).alloc (.cells #[.slice none 0 0] 135)).cell? ⟨w.heap.size, 2, none⟩ = some (.slice rv curves.length cv) := by first | go_keep | simp
 have q3 : ((w.alloc (.cells #[.slice rc code.length cc, .slice rt types.length ct, .slice rv curves.length cv, .slice rm maps.length cm, .int .i64 cells, .slice ri inputs.length ci, .slice rs states.length cs, .slice ro outputs.length co, .slice rn initial.length cn] 28)).alloc (.cells #[.slice none 0 0] 135)).cell? ⟨w.heap.size, 3, none⟩ = some (.slice rm maps.length cm) := by first | go_keep | simp
 have q4 : ((w.alloc (.cells #[.slice rc code.length cc, .slice rt types.length ct, .slice rv curves.length cv, .slice rm maps.length cm, .int .i64 cells, .slice ri inputs.length ci, .slice rs states.length cs, .slice ro outputs.length co, .slice rn initial.length cn] 28)).alloc (.cells #[.slice none 0 0] 135)).cell? ⟨w.heap.size, 4, none⟩ = some (.int .i64 cells) := by first | go_keep | simp
 have q5 : ((w.alloc (.cells #[.slice rc code.length cc, .slice rt types.length ct, .slice rv curves.length cv, .slice rm maps.length cm, .int .i64 cells, .slice ri inputs.length ci, .slice rs states.length cs, .slice ro outputs.length co, .slice rn initial.length cn] 28)).alloc (.cells #[.slice none 0 0] 135)).cell? ⟨w.heap.size, 5, none⟩ = some (.slice ri inputs.length ci) := by first | go_keep | simp
 have q6 : ((w.alloc (.cells #[.slice rc code.length cc, .slice rt types.length ct, .slice rv curves.length cv, .slice rm maps.length cm, .int .i64 cells, .slice ri inputs.length ci, .slice rs states.length cs, .slice ro outputs.length co, .slice rn initial.length cn] 28)).alloc (.cells #[.slice none 0 0] 135)).cell? ⟨w.heap.size, 6, none⟩ = some (.slice rs states.length cs) := by first | go_keep | simp
 have q7 : ((w.alloc (.cells #[.slice rc code.length cc, .slice rt types.length ct, .slice rv curves.length cv, .slice rm maps.length cm, .int .i64 cells, .slice ri inputs.length ci, .slice rs states.length cs, .slice ro outputs.length co, .slice rn initial.length cn] 28)).alloc (.cells #[.slice none 0 0] 135)).cell? ⟨w.heap.size, 7, none⟩ = some (.slice ro outputs.length co) := by first | go_keep | simp
 have q8 : ((w.alloc (.cells #[.slice rc code.length cc, .slice rt types.length ct, .slice rv curves.length cv, .slice rm maps.length cm, .int .i64 cells, .slice ri inputs.length ci, .slice rs states.length cs, .slice ro outputs.length co, .slice rn initial.length cn] 28)).alloc (.cells #[.slice none 0 0] 135)).cell? ⟨w.heap.size, 8, none⟩ = some (.slice rn initial.length cn) := by first | go_keep | simp
 go_enter Tryz.func44, Tryz.ntmps44
 go_wp2_with (go_at_call 95; refine (wint_any (w.heap.size + 1) _ [] _ H0.out (by simp)).mono ?_; rintro x v1 ⟨rfl, hw1, hb1, hk1⟩; have HW1 := H! hw1; clear hw1 hk1; have y0 := (hb1.cell (p := ⟨w.heap.size, 0, none⟩) (Nat.lt_succ_self _)).trans q0)
 have hB1 : Below (w.heap.size + 1) ((w.alloc (.cells #[.slice rc code.length cc, .slice rt types.length ct, .slice rv curves.length cv, .slice rm maps.length cm, .int .i64 cells, .slice ri inputs.length ci, .slice rs states.length cs, .slice ro outputs.length co, .slice rn initial.length cn] 28)).alloc (.cells #[.slice none 0 0] 135)) v1 := hb1
 generalize (w.alloc (.cells #[.slice rc code.length cc, .slice rt types.length ct, .slice rv curves.length cv, .slice rm maps.length cm, .int .i64 cells, .slice ri inputs.length ci, .slice rs states.length cs, .slice ro outputs.length co, .slice rn initial.length cn] 28)).alloc (.cells #[.slice none 0 0] 135) = W1 at *
 clear H0 hb1
 have HLB0 : Hid (∀ k, (num8 code.length ++ (code.take k).flatMap Ins.by8).length ≤ 10000000000) := H! (fun k => by have := flat_le Ins.by8 code k; simp only [List.length_append, num8_len]; omega)
 go_loopg [31] code.length (fun kx s31 wr => ∃ (k : Nat) (out : List Int), s31 = .int .i64 k ∧ k ≤ code.length ∧ code.length - k ≤ kx ∧ Below (w.heap.size + 1) W1 wr ∧ Hid (Wr wr (w.heap.size + 1) out) ∧ Hid (out = num8 code.length ++ (code.take k).flatMap Ins.by8))
 case atStart => exact ⟨0, num8 code.length, rfl, by omega, by omega, hB1, HW1, H! (by simp)⟩
 case round =>
  obtain ⟨k, out, rfl, hk, hkx, hBr, HW, HQ⟩ := hrel
  have hBs := hBr.size
  have hbR : Below w.heap.size w wr := hBW.trans (hBr.mono (Nat.le_succ _))
  have hbRs := hbR.size
  have u0 : wr.cell? ⟨w.heap.size, 0, none⟩ = some (.slice rc code.length cc) := (hBr.cell (p := ⟨w.heap.size, 0, none⟩) (Nat.lt_succ_self _)).trans q0
  have u1 : wr.cell? ⟨w.heap.size, 1, none⟩ = some (.slice rt types.length ct) := (hBr.cell (p := ⟨w.heap.size, 1, none⟩) (Nat.lt_succ_self _)).trans q1
  have u2 : wr.cell? ⟨w.heap.size, 2, none⟩ = some (.slice rv curves.length cv) := (hBr.cell (p := ⟨w.heap.size, 2, none⟩) (Nat.lt_succ_self _)).trans q2
  have u3 : wr.cell? ⟨w.heap.size, 3, none⟩ = some (.slice rm maps.length cm) := (hBr.cell (p := ⟨w.heap.size, 3, none⟩) (Nat.lt_succ_self _)).trans q3
  have u4 : wr.cell? ⟨w.heap.size, 4, none⟩ = some (.int .i64 cells) := (hBr.cell (p := ⟨w.heap.size, 4, none⟩) (Nat.lt_succ_self _)).trans q4
  have u5 : wr.cell? ⟨w.heap.size, 5, none⟩ = some (.slice ri inputs.length ci) := (hBr.cell (p := ⟨w.heap.size, 5, none⟩) (Nat.lt_succ_self _)).trans q5
  have u6 : wr.cell? ⟨w.heap.size, 6, none⟩ = some (.slice rs states.length cs) := (hBr.cell (p := ⟨w.heap.size, 6, none⟩) (Nat.lt_succ_self _)).trans q6
  have u7 : wr.cell? ⟨w.heap.size, 7, none⟩ = some (.slice ro outputs.length co) := (hBr.cell (p := ⟨w.heap.size, 7, none⟩) (Nat.lt_succ_self _)).trans q7
  have u8 : wr.cell? ⟨w.heap.size, 8, none⟩ = some (.slice rn initial.length cn) := (hBr.cell (p := ⟨w.heap.size, 8, none⟩) (Nat.lt_succ_self _)).trans q8
  by_cases hlt : k < code.length
  ·
   have hk1 : (0 : Int) ≤ (k : Int) := by omega
   have hk2 : (k : Int) < code.length := by omega
   have HQ2 : Hid (out ++ Ins.by8 (code.getD k default) = num8 code.length ++ (code.take (k + 1)).flatMap Ins.by8) := H! (by rw [HQ.out, flat_take Ins.by8 hlt, List.append_assoc])
   have hbd : out.length + (Ins.by8 (code.getD k default)).length ≤ 10000000000 := by rw [← List.length_append, HQ2.out]; exact HLB0.out _
   obtain ⟨bX, off, rfl, hb, hc⟩ := HS1.out.at_ hlt
   have hc0 : wr.cell? ⟨bX, off + k * 5, none⟩ = some (.int .i64 (code.getD k default).op) := (hbR.cell (p := ⟨bX, off + k * 5, none⟩) hb).trans (hc 0 _ rfl)
   have hc1 : wr.cell? ⟨bX, off + k * 5 + 1, none⟩ = some (.int .i64 (code.getD k default).a) := (hbR.cell (p := ⟨bX, off + k * 5 + 1, none⟩) hb).trans (hc 1 _ rfl)
   have hc2 : wr.cell? ⟨bX, off + k * 5 + 2, none⟩ = some (.int .i64 (code.getD k default).b) := (hbR.cell (p := ⟨bX, off + k * 5 + 2, none⟩) hb).trans (hc 2 _ rfl)
   have hc3 : wr.cell? ⟨bX, off + k * 5 + 3, none⟩ = some (.int .i64 (code.getD k default).c) := (hbR.cell (p := ⟨bX, off + k * 5 + 3, none⟩) hb).trans (hc 3 _ rfl)
   have hc4 : wr.cell? ⟨bX, off + k * 5 + 4, none⟩ = some (.int .i64 (code.getD k default).k) := (hbR.cell (p := ⟨bX, off + k * 5 + 4, none⟩) hb).trans (hc 4 _ rfl)
   clear hc
   obtain ⟨hok, hform⟩ := HG1.out _ (getD_mem_of hlt)
   generalize code.getD k default = x at *
   obtain ⟨xo, xa, xb, xc, xk⟩ := x
   simp only at hc0 hc1 hc2 hc3 hc4
   have hbd2 : out.length + 12 ≤ 10000000000 := hbd
   have HEN := H! (fun W => menc_any xo xa xb xc xk hok.2.2.2.2 hform W)
   clear hok hform
   go_wp2_with (first | (go_at_call 96; refine (HEN.out _).mono ?_; rintro _ w2 ⟨r2, c2, rfl, ho2, hb2⟩; have HO2 := H! (ints_b ho2 (encI_byte _ _ _ _ _)); clear ho2; obtain ⟨rw2, cw2, hw2b, hw2c, hw2f, hw2o⟩ := (HW.out.new (.cells #[.int .i64 xo, .int .i64 xa, .int .i64 xb, .int .i64 xc, .int .i64 xk] 42)).1.later hb2; have HWO := H! hw2o; clear hw2o; have hB2 : Below (w.heap.size + 1) W1 w2 := (hBr.trans (((Below.refl _ _).alloc (Nat.le_refl _) _).mono (by omega))).trans (hb2.mono (by simp only [zA]; omega))) | (at_builtin; refine wpList_append_ks Tryz.underlying43 infoU8 rfl (by omega) (by rfl) _ _ (by rfl) (w.heap.size + 1 + 1) rw2 r2 cw2 c2 out (encI xo xa xb xc xk) (by rfl) (by rfl) HWO.out HO2.out (by rw [encI_len]; omega) (by omega) ?_; intro r' c' w3 hown3 hbw3; have hc3 : w3.cell? ⟨w.heap.size + 1, 0, none⟩ = some (.slice rw2 out.length cw2) := (hbw3.cell (p := ⟨w.heap.size + 1, 0, none⟩) (Nat.lt_succ_self _)).trans hw2c; have hf3 : w3.frozen? ⟨w.heap.size + 1, 0, none⟩ = false := (hbw3.frozen (p := ⟨w.heap.size + 1, 0, none⟩) (Nat.lt_succ_self _)).trans hw2f; have HP := H! (wr_put hw2b hw2c hw2f hown3 hbw3); clear hown3))
   go_roundg (code.length - (k + 1))
   case measure => omega
   case rel => exact ⟨k + 1, out ++ encI xo xa xb xc xk, by go_num, by omega, by omega, hB2.trans (HP.out _ (by simp [encI_len])).2, H! (HP.out _ (by simp [encI_len])).1, HQ2⟩
  ·
   obtain rfl : k = code.length := by omega
   have HQ1 : Hid (out = num8 code.length ++ code.flatMap Ins.by8) := H! (by rw [HQ.out, List.take_length])
   have hol : out.length ≤ 10000000000 := by have h := HLB0.out code.length; rw [List.take_length, ← HQ1.out] at h; exact h
   clear HQ hkx hlt hk HLB0
   go_wp2_with (go_at_call 95; refine (wint_any (w.heap.size + 1) _ out _ HW.out (by omega)).mono ?_; rintro _ v2 ⟨rfl, hw2, hb2, hk2⟩; have HW2 := H! hw2; clear hw2 hk2; have hB2 : Below (w.heap.size + 1) W1 v2 := hBr.trans hb2; have y2 : v2.cell? ⟨w.heap.size, 1, none⟩ = some (.slice rt types.length ct) := (hB2.cell (p := ⟨w.heap.size, 1, none⟩) (Nat.lt_succ_self _)).trans q1)
   have HLB1 : Hid (∀ k, (num8 code.length ++ code.flatMap Ins.by8 ++ num8 types.length ++ (types.take k).flatMap Fx.by8).length ≤ 10000000000) := H! (fun k => by have := flat_le Fx.by8 types k; simp only [List.length_append, num8_len]; omega)
   go_loopg [58] types.length (fun kx s58 wr => ∃ (k : Nat) (out : List Int), s58 = .int .i64 k ∧ k ≤ types.length ∧ types.length - k ≤ kx ∧ Below (w.heap.size + 1) W1 wr ∧ Hid (Wr wr (w.heap.size + 1) out) ∧ Hid (out = num8 code.length ++ code.flatMap Ins.by8 ++ num8 types.length ++ (types.take k).flatMap Fx.by8))
   case atStart => exact ⟨0, out ++ num8 types.length, rfl, by omega, by omega, hB2, HW2, H! (by rw [HQ1.out]; simp)⟩
   case round =>
    obtain ⟨k, out, rfl, hk, hkx, hBr, HW, HQ⟩ := hrel
    have hBs := hBr.size
    have hbR : Below w.heap.size w wr := hBW.trans (hBr.mono (Nat.le_succ _))
    have hbRs := hbR.size
    have u0 : wr.cell? ⟨w.heap.size, 0, none⟩ = some (.slice rc code.length cc) := (hBr.cell (p := ⟨w.heap.size, 0, none⟩) (Nat.lt_succ_self _)).trans q0
    have u1 : wr.cell? ⟨w.heap.size, 1, none⟩ = some (.slice rt types.length ct) := (hBr.cell (p := ⟨w.heap.size, 1, none⟩) (Nat.lt_succ_self _)).trans q1
    have u2 : wr.cell? ⟨w.heap.size, 2, none⟩ = some (.slice rv curves.length cv) := (hBr.cell (p := ⟨w.heap.size, 2, none⟩) (Nat.lt_succ_self _)).trans q2
    have u3 : wr.cell? ⟨w.heap.size, 3, none⟩ = some (.slice rm maps.length cm) := (hBr.cell (p := ⟨w.heap.size, 3, none⟩) (Nat.lt_succ_self _)).trans q3
    have u4 : wr.cell? ⟨w.heap.size, 4, none⟩ = some (.int .i64 cells) := (hBr.cell (p := ⟨w.heap.size, 4, none⟩) (Nat.lt_succ_self _)).trans q4
    have u5 : wr.cell? ⟨w.heap.size, 5, none⟩ = some (.slice ri inputs.length ci) := (hBr.cell (p := ⟨w.heap.size, 5, none⟩) (Nat.lt_succ_self _)).trans q5
    have u6 : wr.cell? ⟨w.heap.size, 6, none⟩ = some (.slice rs states.length cs) := (hBr.cell (p := ⟨w.heap.size, 6, none⟩) (Nat.lt_succ_self _)).trans q6
    have u7 : wr.cell? ⟨w.heap.size, 7, none⟩ = some (.slice ro outputs.length co) := (hBr.cell (p := ⟨w.heap.size, 7, none⟩) (Nat.lt_succ_self _)).trans q7
    have u8 : wr.cell? ⟨w.heap.size, 8, none⟩ = some (.slice rn initial.length cn) := (hBr.cell (p := ⟨w.heap.size, 8, none⟩) (Nat.lt_succ_self _)).trans q8
    by_cases hlt : k < types.length
    ·
     have hk1 : (0 : Int) ≤ (k : Int) := by omega
     have hk2 : (k : Int) < types.length := by omega
     have HQ2 : Hid (out ++ Fx.by8 (types.getD k default) = num8 code.length ++ code.flatMap Ins.by8 ++ num8 types.length ++ (types.take (k + 1)).flatMap Fx.by8) := H! (by rw [HQ.out, flat_take Fx.by8 hlt, List.append_assoc])
     have hbd : out.length + (Fx.by8 (types.getD k default)).length ≤ 10000000000 := by rw [← List.length_append, HQ2.out]; exact HLB1.out _
     obtain ⟨bX, off, rfl, hb, hc⟩ := HS2.out.at_ hlt
     have hc0 : wr.cell? ⟨bX, off + k * 10, none⟩ = some (.int .i64 (types.getD k default).bits) := (hbR.cell (p := ⟨bX, off + k * 10, none⟩) hb).trans (hc 0 _ rfl)
     have hc1 : wr.cell? ⟨bX, off + k * 10 + 1, none⟩ = some (.bool (types.getD k default).sg) := (hbR.cell (p := ⟨bX, off + k * 10 + 1, none⟩) hb).trans (hc 1 _ rfl)
     have hc2 : wr.cell? ⟨bX, off + k * 10 + 2, none⟩ = some (.int .i64 (types.getD k default).num) := (hbR.cell (p := ⟨bX, off + k * 10 + 2, none⟩) hb).trans (hc 2 _ rfl)
     have hc3 : wr.cell? ⟨bX, off + k * 10 + 3, none⟩ = some (.int .i64 (types.getD k default).off) := (hbR.cell (p := ⟨bX, off + k * 10 + 3, none⟩) hb).trans (hc 3 _ rfl)
     have hc4 : wr.cell? ⟨bX, off + k * 10 + 4, none⟩ = some (.int .i64 (types.getD k default).den) := (hbR.cell (p := ⟨bX, off + k * 10 + 4, none⟩) hb).trans (hc 4 _ rfl)
     have hc5 : wr.cell? ⟨bX, off + k * 10 + 5, none⟩ = some (.int .i64 (types.getD k default).m) := (hbR.cell (p := ⟨bX, off + k * 10 + 5, none⟩) hb).trans (hc 5 _ rfl)
     have hc6 : wr.cell? ⟨bX, off + k * 10 + 6, none⟩ = some (.int .i64 (types.getD k default).kg) := (hbR.cell (p := ⟨bX, off + k * 10 + 6, none⟩) hb).trans (hc 6 _ rfl)
     have hc7 : wr.cell? ⟨bX, off + k * 10 + 7, none⟩ = some (.int .i64 (types.getD k default).s) := (hbR.cell (p := ⟨bX, off + k * 10 + 7, none⟩) hb).trans (hc 7 _ rfl)
     have hc8 : wr.cell? ⟨bX, off + k * 10 + 8, none⟩ = some (.int .i64 (types.getD k default).a) := (hbR.cell (p := ⟨bX, off + k * 10 + 8, none⟩) hb).trans (hc 8 _ rfl)
     have hc9 : wr.cell? ⟨bX, off + k * 10 + 9, none⟩ = some (.int .i64 (types.getD k default).k) := (hbR.cell (p := ⟨bX, off + k * 10 + 9, none⟩) hb).trans (hc 9 _ rfl)
     clear hc
     have hok := HG2.out _ (getD_mem_of hlt)
     generalize types.getD k default = x at *
     obtain ⟨x0, x1, x2, x3, x4, x5, x6, x7, x8, x9⟩ := x
     simp only at hc0 hc1 hc2 hc3 hc4 hc5 hc6 hc7 hc8 hc9
     cases x1
     ·
      have HOK : Hid (∀ y ∈ [x0, 0, x2, x3, x4, x5, x6, x7, x8, x9], I64 y) := H! (by
       obtain ⟨o0, o2, o3, o4, o5, o6, o7, o8, o9⟩ := hok
       simp only at o0 o2 o3 o4 o5 o6 o7 o8 o9
       have ob : I64 (0 : Int) := by rfl
       intro y hy
       simp only [List.mem_cons, List.not_mem_nil, or_false] at hy
       rcases hy with rfl | rfl | rfl | rfl | rfl | rfl | rfl | rfl | rfl | rfl <;> assumption)
      have HQ3 : Hid (out ++ nums8 [x0, 0, x2, x3, x4, x5, x6, x7, x8, x9] = num8 code.length ++ code.flatMap Ins.by8 ++ num8 types.length ++ (types.take (k + 1)).flatMap Fx.by8) := H! HQ2.out
      have hbd2 : out.length + 80 ≤ 10000000000 := hbd
      clear hok HQ2 hbd
      go_wp2
      have HNW := H! ((HW.out.new (.cells #[.int .i64 x0, .bool false, .int .i64 x2, .int .i64 x3, .int .i64 x4, .int .i64 x5, .int .i64 x6, .int .i64 x7, .int .i64 x8, .int .i64 x9] 73)).1.new (.cells #[.int .i64 x0, .int .i64 0, .int .i64 x2, .int .i64 x3, .int .i64 x4, .int .i64 x5, .int .i64 x6, .int .i64 x7, .int .i64 x8, .int .i64 x9] 3))
      have hbA : Below (w.heap.size + 1) W1 ((wr.alloc (.cells #[.int .i64 x0, .bool false, .int .i64 x2, .int .i64 x3, .int .i64 x4, .int .i64 x5, .int .i64 x6, .int .i64 x7, .int .i64 x8, .int .i64 x9] 73)).alloc (.cells #[.int .i64 x0, .int .i64 0, .int .i64 x2, .int .i64 x3, .int .i64 x4, .int .i64 x5, .int .i64 x6, .int .i64 x7, .int .i64 x8, .int .i64 x9] 3)) := (hBr.alloc (by omega) _).alloc (by rw [zA]; omega) _
      have hzA : (wr.alloc (.cells #[.int .i64 x0, .bool false, .int .i64 x2, .int .i64 x3, .int .i64 x4, .int .i64 x5, .int .i64 x6, .int .i64 x7, .int .i64 x8, .int .i64 x9] 73)).heap.size = wr.heap.size + 1 := zA _ _
      rw [hzA] at HNW
      have HCL : Hid (∀ j, j < 10 → ((wr.alloc (.cells #[.int .i64 x0, .bool false, .int .i64 x2, .int .i64 x3, .int .i64 x4, .int .i64 x5, .int .i64 x6, .int .i64 x7, .int .i64 x8, .int .i64 x9] 73)).alloc (.cells #[.int .i64 x0, .int .i64 0, .int .i64 x2, .int .i64 x3, .int .i64 x4, .int .i64 x5, .int .i64 x6, .int .i64 x7, .int .i64 x8, .int .i64 x9] 3)).cell? ⟨wr.heap.size + 1, j, none⟩ = some (.int .i64 (([x0, 0, x2, x3, x4, x5, x6, x7, x8, x9] : List Int).getD j 0))) := H! (fun j hj => by
       rw [← hzA, World.cell?_alloc_new]
       obtain rfl | rfl | rfl | rfl | rfl | rfl | rfl | rfl | rfl | rfl : j = 0 ∨ j = 1 ∨ j = 2 ∨ j = 3 ∨ j = 4 ∨ j = 5 ∨ j = 6 ∨ j = 7 ∨ j = 8 ∨ j = 9 := by omega
       all_goals rfl)
      generalize (wr.alloc (.cells #[.int .i64 x0, .bool false, .int .i64 x2, .int .i64 x3, .int .i64 x4, .int .i64 x5, .int .i64 x6, .int .i64 x7, .int .i64 x8, .int .i64 x9] 73)).alloc (.cells #[.int .i64 x0, .int .i64 0, .int .i64 x2, .int .i64 x3, .int .i64 x4, .int .i64 x5, .int .i64 x6, .int .i64 x7, .int .i64 x8, .int .i64 x9] 3) = W3 at *
      generalize wr.heap.size = T at *
      have HLL : Hid (([x0, 0, x2, x3, x4, x5, x6, x7, x8, x9] : List Int).length = 10) := H! rfl
      generalize ([x0, 0, x2, x3, x4, x5, x6, x7, x8, x9] : List Int) = L at *
      clear hc0 hc1 hc2 hc3 hc4 hc5 hc6 hc7 hc8 hc9 hzA
      go_loopg [90] 10 (fun kx s90 wr => ∃ (j : Nat) (out2 : List Int), s90 = .int .i64 j ∧ j ≤ 10 ∧ 10 - j ≤ kx ∧ Below (w.heap.size + 1) W1 wr ∧ Hid (KeepW W3 wr (w.heap.size + 1)) ∧ Hid (Wr wr (w.heap.size + 1) out2) ∧ Hid (out2 = out ++ nums8 (L.take j)) ∧ Hid (out2.length = out.length + 8 * j))
      case atStart => exact ⟨0, out, rfl, by omega, by omega, hbA, H! (KeepW.refl _ _), H! HNW.out.1, H! (by simp [nums8]), H! (by omega)⟩
      case round =>
       clear HW
       obtain ⟨j, out2, rfl, hj, hjx, hBz, HKZ, HWz, HQj, HLj⟩ := hrel
       by_cases hjl : j < 10
       ·
        have hj1 : (0 : Int) ≤ (j : Int) := by omega
        have hj2 : (j : Int) < 10 := by omega
        have hcj : wr.cell? ⟨T + 1, j, none⟩ = some (.int .i64 (L.getD j 0)) := (World.cell?_of_block (a := ⟨T + 1, j, none⟩) (HKZ.out _ HNW.out.2).2).trans (HCL.out j hjl)
        have HQn := H! (nums8_take (l := L) (k := j) (by rw [HLL.out]; exact hjl))
        generalize L.getD j 0 = y at *
        have hol2 : out2.length ≤ 10000000000 := by have := HLj.out; omega
        go_wp2_with (first | (go_at_call 95; refine (wint_any (w.heap.size + 1) _ out2 _ HWz.out (by omega)).mono ?_; rintro _ v4 ⟨rfl, hw4, hb4, hk4⟩; have HW4 := H! hw4; have HK4 := H! (HKZ.out.trans hk4); clear hw4 hk4))
        go_roundg (10 - (j + 1))
        case measure => omega
        case rel => exact ⟨j + 1, out2 ++ num8 y, by go_num, by omega, by omega, hBz.trans hb4, HK4, HW4, H! (by rw [HQj.out, HQn.out, List.append_assoc]), H! (by rw [List.length_append, num8_len, HLj.out]; omega)⟩
       ·
        obtain rfl : j = 10 := by omega
        have HQe : Hid (out2 = out ++ nums8 L) := H! (by rw [HQj.out, List.take_of_length_le (by rw [HLL.out]; exact Nat.le_refl _)])
        clear HQj
        go_wp2
        go_roundg (types.length - (k + 1))
        case measure => omega
        case rel => exact ⟨k + 1, out2, by go_num, by omega, by omega, hBz, HWz, H! (by rw [HQe.out]; exact HQ3.out)⟩
     ·
      have HOK : Hid (∀ y ∈ [x0, 1, x2, x3, x4, x5, x6, x7, x8, x9], I64 y) := H! (by
       obtain ⟨o0, o2, o3, o4, o5, o6, o7, o8, o9⟩ := hok
       simp only at o0 o2 o3 o4 o5 o6 o7 o8 o9
       have ob : I64 (1 : Int) := by rfl
       intro y hy
       simp only [List.mem_cons, List.not_mem_nil, or_false] at hy
       rcases hy with rfl | rfl | rfl | rfl | rfl | rfl | rfl | rfl | rfl | rfl <;> assumption)
      have HQ3 : Hid (out ++ nums8 [x0, 1, x2, x3, x4, x5, x6, x7, x8, x9] = num8 code.length ++ code.flatMap Ins.by8 ++ num8 types.length ++ (types.take (k + 1)).flatMap Fx.by8) := H! HQ2.out
      have hbd2 : out.length + 80 ≤ 10000000000 := hbd
      clear hok HQ2 hbd
      go_wp2
      have HNW := H! ((HW.out.new (.cells #[.int .i64 x0, .bool true, .int .i64 x2, .int .i64 x3, .int .i64 x4, .int .i64 x5, .int .i64 x6, .int .i64 x7, .int .i64 x8, .int .i64 x9] 73)).1.new (.cells #[.int .i64 x0, .int .i64 1, .int .i64 x2, .int .i64 x3, .int .i64 x4, .int .i64 x5, .int .i64 x6, .int .i64 x7, .int .i64 x8, .int .i64 x9] 3))
      have hbA : Below (w.heap.size + 1) W1 ((wr.alloc (.cells #[.int .i64 x0, .bool true, .int .i64 x2, .int .i64 x3, .int .i64 x4, .int .i64 x5, .int .i64 x6, .int .i64 x7, .int .i64 x8, .int .i64 x9] 73)).alloc (.cells #[.int .i64 x0, .int .i64 1, .int .i64 x2, .int .i64 x3, .int .i64 x4, .int .i64 x5, .int .i64 x6, .int .i64 x7, .int .i64 x8, .int .i64 x9] 3)) := (hBr.alloc (by omega) _).alloc (by rw [zA]; omega) _
      have hzA : (wr.alloc (.cells #[.int .i64 x0, .bool true, .int .i64 x2, .int .i64 x3, .int .i64 x4, .int .i64 x5, .int .i64 x6, .int .i64 x7, .int .i64 x8, .int .i64 x9] 73)).heap.size = wr.heap.size + 1 := zA _ _
      rw [hzA] at HNW
      have HCL : Hid (∀ j, j < 10 → ((wr.alloc (.cells #[.int .i64 x0, .bool true, .int .i64 x2, .int .i64 x3, .int .i64 x4, .int .i64 x5, .int .i64 x6, .int .i64 x7, .int .i64 x8, .int .i64 x9] 73)).alloc (.cells #[.int .i64 x0, .int .i64 1, .int .i64 x2, .int .i64 x3, .int .i64 x4, .int .i64 x5, .int .i64 x6, .int .i64 x7, .int .i64 x8, .int .i64 x9] 3)).cell? ⟨wr.heap.size + 1, j, none⟩ = some (.int .i64 (([x0, 1, x2, x3, x4, x5, x6, x7, x8, x9] : List Int).getD j 0))) := H! (fun j hj => by
       rw [← hzA, World.cell?_alloc_new]
       obtain rfl | rfl | rfl | rfl | rfl | rfl | rfl | rfl | rfl | rfl : j = 0 ∨ j = 1 ∨ j = 2 ∨ j = 3 ∨ j = 4 ∨ j = 5 ∨ j = 6 ∨ j = 7 ∨ j = 8 ∨ j = 9 := by omega
       all_goals rfl)
      generalize (wr.alloc (.cells #[.int .i64 x0, .bool true, .int .i64 x2, .int .i64 x3, .int .i64 x4, .int .i64 x5, .int .i64 x6, .int .i64 x7, .int .i64 x8, .int .i64 x9] 73)).alloc (.cells #[.int .i64 x0, .int .i64 1, .int .i64 x2, .int .i64 x3, .int .i64 x4, .int .i64 x5, .int .i64 x6, .int .i64 x7, .int .i64 x8, .int .i64 x9] 3) = W3 at *
      generalize wr.heap.size = T at *
      have HLL : Hid (([x0, 1, x2, x3, x4, x5, x6, x7, x8, x9] : List Int).length = 10) := H! rfl
      generalize ([x0, 1, x2, x3, x4, x5, x6, x7, x8, x9] : List Int) = L at *
      clear hc0 hc1 hc2 hc3 hc4 hc5 hc6 hc7 hc8 hc9 hzA
      go_loopg [90] 10 (fun kx s90 wr => ∃ (j : Nat) (out2 : List Int), s90 = .int .i64 j ∧ j ≤ 10 ∧ 10 - j ≤ kx ∧ Below (w.heap.size + 1) W1 wr ∧ Hid (KeepW W3 wr (w.heap.size + 1)) ∧ Hid (Wr wr (w.heap.size + 1) out2) ∧ Hid (out2 = out ++ nums8 (L.take j)) ∧ Hid (out2.length = out.length + 8 * j))
      case atStart => exact ⟨0, out, rfl, by omega, by omega, hbA, H! (KeepW.refl _ _), H! HNW.out.1, H! (by simp [nums8]), H! (by omega)⟩
      case round =>
       clear HW
       obtain ⟨j, out2, rfl, hj, hjx, hBz, HKZ, HWz, HQj, HLj⟩ := hrel
       by_cases hjl : j < 10
       ·
        have hj1 : (0 : Int) ≤ (j : Int) := by omega
        have hj2 : (j : Int) < 10 := by omega
        have hcj : wr.cell? ⟨T + 1, j, none⟩ = some (.int .i64 (L.getD j 0)) := (World.cell?_of_block (a := ⟨T + 1, j, none⟩) (HKZ.out _ HNW.out.2).2).trans (HCL.out j hjl)
        have HQn := H! (nums8_take (l := L) (k := j) (by rw [HLL.out]; exact hjl))
        generalize L.getD j 0 = y at *
        have hol2 : out2.length ≤ 10000000000 := by have := HLj.out; omega
        go_wp2_with (first | (go_at_call 95; refine (wint_any (w.heap.size + 1) _ out2 _ HWz.out (by omega)).mono ?_; rintro _ v4 ⟨rfl, hw4, hb4, hk4⟩; have HW4 := H! hw4; have HK4 := H! (HKZ.out.trans hk4); clear hw4 hk4))
        go_roundg (10 - (j + 1))
        case measure => omega
        case rel => exact ⟨j + 1, out2 ++ num8 y, by go_num, by omega, by omega, hBz.trans hb4, HK4, HW4, H! (by rw [HQj.out, HQn.out, List.append_assoc]), H! (by rw [List.length_append, num8_len, HLj.out]; omega)⟩
       ·
        obtain rfl : j = 10 := by omega
        have HQe : Hid (out2 = out ++ nums8 L) := H! (by rw [HQj.out, List.take_of_length_le (by rw [HLL.out]; exact Nat.le_refl _)])
        clear HQj
        go_wp2
        go_roundg (types.length - (k + 1))
        case measure => omega
        case rel => exact ⟨k + 1, out2, by go_num, by omega, by omega, hBz, HWz, H! (by rw [HQe.out]; exact HQ3.out)⟩
    ·
     obtain rfl : k = types.length := by omega
     have HQ1 : Hid (out = num8 code.length ++ code.flatMap Ins.by8 ++ num8 types.length ++ types.flatMap Fx.by8) := H! (by rw [HQ.out, List.take_length])
     have hol : out.length ≤ 10000000000 := by have h := HLB1.out types.length; rw [List.take_length, ← HQ1.out] at h; exact h
     clear HQ hkx hlt hk HLB1
     go_wp2_with (go_at_call 95; refine (wint_any (w.heap.size + 1) _ out _ HW.out (by omega)).mono ?_; rintro _ v3 ⟨rfl, hw3, hb3, hk3⟩; have HW3 := H! hw3; clear hw3 hk3; have hB3 : Below (w.heap.size + 1) W1 v3 := hBr.trans hb3; have y3 : v3.cell? ⟨w.heap.size, 2, none⟩ = some (.slice rv curves.length cv) := (hB3.cell (p := ⟨w.heap.size, 2, none⟩) (Nat.lt_succ_self _)).trans q2)
     have HLB2 : Hid (∀ k, (num8 code.length ++ code.flatMap Ins.by8 ++ num8 types.length ++ types.flatMap Fx.by8 ++ num8 curves.length ++ (curves.take k).flatMap (fun c : Cv => curveB8 c.p)).length ≤ 10000000000) := H! (fun k => by have := flat_le (fun c : Cv => curveB8 c.p) curves k; simp only [List.length_append, num8_len]; omega)
     go_loopg [107] curves.length (fun kx s107 wr => ∃ (k : Nat) (out : List Int), s107 = .int .i64 k ∧ k ≤ curves.length ∧ curves.length - k ≤ kx ∧ Below (w.heap.size + 1) W1 wr ∧ Hid (Wr wr (w.heap.size + 1) out) ∧ Hid (out = num8 code.length ++ code.flatMap Ins.by8 ++ num8 types.length ++ types.flatMap Fx.by8 ++ num8 curves.length ++ (curves.take k).flatMap (fun c : Cv => curveB8 c.p)))
     case atStart => exact ⟨0, out ++ num8 curves.length, rfl, by omega, by omega, hB3, HW3, H! (by rw [HQ1.out]; simp)⟩
     case round =>
      obtain ⟨k, out, rfl, hk, hkx, hBr, HW, HQ⟩ := hrel
      have hBs := hBr.size
      have hbR : Below w.heap.size w wr := hBW.trans (hBr.mono (Nat.le_succ _))
      have hbRs := hbR.size
      have u0 : wr.cell? ⟨w.heap.size, 0, none⟩ = some (.slice rc code.length cc) := (hBr.cell (p := ⟨w.heap.size, 0, none⟩) (Nat.lt_succ_self _)).trans q0
      have u1 : wr.cell? ⟨w.heap.size, 1, none⟩ = some (.slice rt types.length ct) := (hBr.cell (p := ⟨w.heap.size, 1, none⟩) (Nat.lt_succ_self _)).trans q1
      have u2 : wr.cell? ⟨w.heap.size, 2, none⟩ = some (.slice rv curves.length cv) := (hBr.cell (p := ⟨w.heap.size, 2, none⟩) (Nat.lt_succ_self _)).trans q2
      have u3 : wr.cell? ⟨w.heap.size, 3, none⟩ = some (.slice rm maps.length cm) := (hBr.cell (p := ⟨w.heap.size, 3, none⟩) (Nat.lt_succ_self _)).trans q3
      have u4 : wr.cell? ⟨w.heap.size, 4, none⟩ = some (.int .i64 cells) := (hBr.cell (p := ⟨w.heap.size, 4, none⟩) (Nat.lt_succ_self _)).trans q4
      have u5 : wr.cell? ⟨w.heap.size, 5, none⟩ = some (.slice ri inputs.length ci) := (hBr.cell (p := ⟨w.heap.size, 5, none⟩) (Nat.lt_succ_self _)).trans q5
      have u6 : wr.cell? ⟨w.heap.size, 6, none⟩ = some (.slice rs states.length cs) := (hBr.cell (p := ⟨w.heap.size, 6, none⟩) (Nat.lt_succ_self _)).trans q6
      have u7 : wr.cell? ⟨w.heap.size, 7, none⟩ = some (.slice ro outputs.length co) := (hBr.cell (p := ⟨w.heap.size, 7, none⟩) (Nat.lt_succ_self _)).trans q7
      have u8 : wr.cell? ⟨w.heap.size, 8, none⟩ = some (.slice rn initial.length cn) := (hBr.cell (p := ⟨w.heap.size, 8, none⟩) (Nat.lt_succ_self _)).trans q8
      by_cases hlt : k < curves.length
      ·
       have hk1 : (0 : Int) ≤ (k : Int) := by omega
       have hk2 : (k : Int) < curves.length := by omega
       have HQ2 : Hid (out ++ (fun c : Cv => curveB8 c.p) (curves.getD k default) = num8 code.length ++ code.flatMap Ins.by8 ++ num8 types.length ++ types.flatMap Fx.by8 ++ num8 curves.length ++ (curves.take (k + 1)).flatMap (fun c : Cv => curveB8 c.p)) := H! (by rw [HQ.out, flat_take (fun c : Cv => curveB8 c.p) hlt, List.append_assoc])
       have hbd : out.length + ((fun c : Cv => curveB8 c.p) (curves.getD k default)).length ≤ 10000000000 := by rw [← List.length_append, HQ2.out]; exact HLB2.out _
       obtain ⟨bX, off, rfl, hb, hc⟩ := HS3.out.at_ hlt
       have hc0 : wr.cell? ⟨bX, off + k * 2, none⟩ = some (.slice (curves.getD k default).rx (curves.getD k default).X.length (curves.getD k default).cx) := (hbR.cell (p := ⟨bX, off + k * 2, none⟩) hb).trans (hc 0 _ rfl)
       have hc1 : wr.cell? ⟨bX, off + k * 2 + 1, none⟩ = some (.slice (curves.getD k default).ry (curves.getD k default).Y.length (curves.getD k default).cy) := (hbR.cell (p := ⟨bX, off + k * 2 + 1, none⟩) hb).trans (hc 1 _ rfl)
       clear hc
       have HXY := H! (HG3.out _ (getD_mem_of hlt))
       generalize curves.getD k default = x at *
       obtain ⟨xr, xc, X, yr, yc, Y⟩ := x
       simp only [Cv.ok] at hc0 hc1 HXY
       simp only [curveB8, Cv.p, List.length_append, list8_len] at hbd
       have HQ3 : Hid ((out ++ list8 X) ++ list8 Y = num8 code.length ++ code.flatMap Ins.by8 ++ num8 types.length ++ types.flatMap Fx.by8 ++ num8 curves.length ++ (curves.take (k + 1)).flatMap (fun c : Cv => curveB8 c.p)) := H! (by rw [List.append_assoc]; exact HQ2.out)
       clear HQ2
       go_upto_region 26 with fail
       have HNW := H! (HW.out.new (.cells #[.slice xr X.length xc, .slice yr Y.length yc] 55))
       have hbA : Below (w.heap.size + 1) W1 (wr.alloc (.cells #[.slice xr X.length xc, .slice yr Y.length yc] 55)) := hBr.alloc (by omega) _
       have g1 : (wr.alloc (.cells #[.slice xr X.length xc, .slice yr Y.length yc] 55)).cell? ⟨wr.heap.size, 1, none⟩ = some (.slice yr Y.length yc) := World.cell?_alloc_new _ _ _ _
       have g0 : (wr.alloc (.cells #[.slice xr X.length xc, .slice yr Y.length yc] 55)).cell? ⟨wr.heap.size, 0, none⟩ = some (.slice xr X.length xc) := World.cell?_alloc_new _ _ _ _
       generalize wr.alloc (.cells #[.slice xr X.length xc, .slice yr Y.length yc] 55) = W2 at *
       have hbA2 : Below w.heap.size w W2 := hBW.trans (hbA.mono (Nat.le_succ _))
       have tk0 : True := trivial
       have tk1 : True := trivial
       go_wp2_with (first | (have _t := tk0; go_at_call 97; refine (wlist_any (w.heap.size + 1) xr xc X out w _ HXY.out.1 (Nat.le_succ _) hbA2 HNW.out.1 (by omega)).mono ?_; rintro _ xX ⟨rfl, hxX, hyX, hkX⟩; have HXX := H! hxX; have HKX := H! hkX; clear hxX hkX tk0 _t; have h1 : xX.cell? ⟨wr.heap.size, 1, none⟩ = some (.slice yr Y.length yc) := (World.cell?_of_block (a := ⟨wr.heap.size, 1, none⟩) (HKX.out _ HNW.out.2).2).trans g1; have hyX2 : Below w.heap.size w xX := hbA2.trans (hyX.mono (Nat.le_succ _)); have hxl : (out ++ list8 X).length = out.length + (8 + 8 * X.length) := (by rw [List.length_append, list8_len])) | (have _t := tk1; go_at_call 97; refine (wlist_any (w.heap.size + 1) yr yc Y (out ++ list8 X) w _ HXY.out.2 (Nat.le_succ _) hyX2 HXX.out (by omega)).mono ?_; rintro _ xY ⟨rfl, hxY, hyY, hkY⟩; have HXYW := H! hxY; have HKY := H! hkY; clear hxY hkY tk1 _t; skip))
       go_roundg (curves.length - (k + 1))
       case measure => omega
       case rel => exact ⟨k + 1, out ++ list8 X ++ list8 Y, by go_num, by omega, by omega, (hbA.trans hyX).trans hyY, HXYW, HQ3⟩
      ·
       obtain rfl : k = curves.length := by omega
       have HQ1 : Hid (out = num8 code.length ++ code.flatMap Ins.by8 ++ num8 types.length ++ types.flatMap Fx.by8 ++ num8 curves.length ++ curves.flatMap (fun c => curveB8 c.p)) := H! (by rw [HQ.out, List.take_length])
       have hol : out.length ≤ 10000000000 := by have h := HLB2.out curves.length; rw [List.take_length, ← HQ1.out] at h; exact h
       clear HQ hkx hlt hk HLB2
       go_wp2_with (go_at_call 95; refine (wint_any (w.heap.size + 1) _ out _ HW.out (by omega)).mono ?_; rintro _ v4 ⟨rfl, hw4, hb4, hk4⟩; have HW4 := H! hw4; clear hw4 hk4; have hB4 : Below (w.heap.size + 1) W1 v4 := hBr.trans hb4; have y4 : v4.cell? ⟨w.heap.size, 3, none⟩ = some (.slice rm maps.length cm) := (hB4.cell (p := ⟨w.heap.size, 3, none⟩) (Nat.lt_succ_self _)).trans q3)
       have HLB3 : Hid (∀ k, (num8 code.length ++ code.flatMap Ins.by8 ++ num8 types.length ++ types.flatMap Fx.by8 ++ num8 curves.length ++ curves.flatMap (fun c => curveB8 c.p) ++ num8 maps.length ++ (maps.take k).flatMap (fun m : Mp => mapB8 m.p)).length ≤ 10000000000) := H! (fun k => by have := flat_le (fun m : Mp => mapB8 m.p) maps k; simp only [List.length_append, num8_len]; omega)
       go_loopg [128] maps.length (fun kx s128 wr => ∃ (k : Nat) (out : List Int), s128 = .int .i64 k ∧ k ≤ maps.length ∧ maps.length - k ≤ kx ∧ Below (w.heap.size + 1) W1 wr ∧ Hid (Wr wr (w.heap.size + 1) out) ∧ Hid (out = num8 code.length ++ code.flatMap Ins.by8 ++ num8 types.length ++ types.flatMap Fx.by8 ++ num8 curves.length ++ curves.flatMap (fun c => curveB8 c.p) ++ num8 maps.length ++ (maps.take k).flatMap (fun m : Mp => mapB8 m.p)))
       case atStart => exact ⟨0, out ++ num8 maps.length, rfl, by omega, by omega, hB4, HW4, H! (by rw [HQ1.out]; simp)⟩
       case round =>
        obtain ⟨k, out, rfl, hk, hkx, hBr, HW, HQ⟩ := hrel
        have hBs := hBr.size
        have hbR : Below w.heap.size w wr := hBW.trans (hBr.mono (Nat.le_succ _))
        have hbRs := hbR.size
        have u0 : wr.cell? ⟨w.heap.size, 0, none⟩ = some (.slice rc code.length cc) := (hBr.cell (p := ⟨w.heap.size, 0, none⟩) (Nat.lt_succ_self _)).trans q0
        have u1 : wr.cell? ⟨w.heap.size, 1, none⟩ = some (.slice rt types.length ct) := (hBr.cell (p := ⟨w.heap.size, 1, none⟩) (Nat.lt_succ_self _)).trans q1
        have u2 : wr.cell? ⟨w.heap.size, 2, none⟩ = some (.slice rv curves.length cv) := (hBr.cell (p := ⟨w.heap.size, 2, none⟩) (Nat.lt_succ_self _)).trans q2
        have u3 : wr.cell? ⟨w.heap.size, 3, none⟩ = some (.slice rm maps.length cm) := (hBr.cell (p := ⟨w.heap.size, 3, none⟩) (Nat.lt_succ_self _)).trans q3
        have u4 : wr.cell? ⟨w.heap.size, 4, none⟩ = some (.int .i64 cells) := (hBr.cell (p := ⟨w.heap.size, 4, none⟩) (Nat.lt_succ_self _)).trans q4
        have u5 : wr.cell? ⟨w.heap.size, 5, none⟩ = some (.slice ri inputs.length ci) := (hBr.cell (p := ⟨w.heap.size, 5, none⟩) (Nat.lt_succ_self _)).trans q5
        have u6 : wr.cell? ⟨w.heap.size, 6, none⟩ = some (.slice rs states.length cs) := (hBr.cell (p := ⟨w.heap.size, 6, none⟩) (Nat.lt_succ_self _)).trans q6
        have u7 : wr.cell? ⟨w.heap.size, 7, none⟩ = some (.slice ro outputs.length co) := (hBr.cell (p := ⟨w.heap.size, 7, none⟩) (Nat.lt_succ_self _)).trans q7
        have u8 : wr.cell? ⟨w.heap.size, 8, none⟩ = some (.slice rn initial.length cn) := (hBr.cell (p := ⟨w.heap.size, 8, none⟩) (Nat.lt_succ_self _)).trans q8
        by_cases hlt : k < maps.length
        ·
         have hk1 : (0 : Int) ≤ (k : Int) := by omega
         have hk2 : (k : Int) < maps.length := by omega
         have HQ2 : Hid (out ++ (fun m : Mp => mapB8 m.p) (maps.getD k default) = num8 code.length ++ code.flatMap Ins.by8 ++ num8 types.length ++ types.flatMap Fx.by8 ++ num8 curves.length ++ curves.flatMap (fun c => curveB8 c.p) ++ num8 maps.length ++ (maps.take (k + 1)).flatMap (fun m : Mp => mapB8 m.p)) := H! (by rw [HQ.out, flat_take (fun m : Mp => mapB8 m.p) hlt, List.append_assoc])
         have hbd : out.length + ((fun m : Mp => mapB8 m.p) (maps.getD k default)).length ≤ 10000000000 := by rw [← List.length_append, HQ2.out]; exact HLB3.out _
         obtain ⟨bX, off, rfl, hb, hc⟩ := HS4.out.at_ hlt
         have hc0 : wr.cell? ⟨bX, off + k * 3, none⟩ = some (.slice (maps.getD k default).rx (maps.getD k default).X.length (maps.getD k default).cx) := (hbR.cell (p := ⟨bX, off + k * 3, none⟩) hb).trans (hc 0 _ rfl)
         have hc1 : wr.cell? ⟨bX, off + k * 3 + 1, none⟩ = some (.slice (maps.getD k default).ry (maps.getD k default).Y.length (maps.getD k default).cy) := (hbR.cell (p := ⟨bX, off + k * 3 + 1, none⟩) hb).trans (hc 1 _ rfl)
         have hc2 : wr.cell? ⟨bX, off + k * 3 + 2, none⟩ = some (.slice (maps.getD k default).rz (maps.getD k default).Z.length (maps.getD k default).cz) := (hbR.cell (p := ⟨bX, off + k * 3 + 2, none⟩) hb).trans (hc 2 _ rfl)
         clear hc
         have HXY := H! (HG4.out _ (getD_mem_of hlt))
         generalize maps.getD k default = x at *
         obtain ⟨xr, xc, X, yr, yc, Y, zr, zc, Z⟩ := x
         simp only [Mp.ok] at hc0 hc1 hc2 HXY
         simp only [mapB8, Mp.p, List.length_append, list8_len] at hbd
         have hzl := Nat.le_trans HXY.out.2.2.le HXY.out.2.2.max
         unfold maxLen at hzl
         have HQ3 : Hid (((out ++ list8 X) ++ list8 Y) ++ Z.flatMap list8 = num8 code.length ++ code.flatMap Ins.by8 ++ num8 types.length ++ types.flatMap Fx.by8 ++ num8 curves.length ++ curves.flatMap (fun c => curveB8 c.p) ++ num8 maps.length ++ (maps.take (k + 1)).flatMap (fun m : Mp => mapB8 m.p)) := H! (by refine Eq.trans ?_ HQ2.out; show _ = out ++ (list8 X ++ list8 Y ++ Z.flatMap list8); simp only [List.append_assoc])
         clear HQ2
         go_upto_region 33 with fail
         have HNW := H! (HW.out.new (.cells #[.slice xr X.length xc, .slice yr Y.length yc, .slice zr Z.length zc] 60))
         have hbA : Below (w.heap.size + 1) W1 (wr.alloc (.cells #[.slice xr X.length xc, .slice yr Y.length yc, .slice zr Z.length zc] 60)) := hBr.alloc (by omega) _
         have g0 : (wr.alloc (.cells #[.slice xr X.length xc, .slice yr Y.length yc, .slice zr Z.length zc] 60)).cell? ⟨wr.heap.size, 0, none⟩ = some (.slice xr X.length xc) := World.cell?_alloc_new _ _ _ _
         have g1 : (wr.alloc (.cells #[.slice xr X.length xc, .slice yr Y.length yc, .slice zr Z.length zc] 60)).cell? ⟨wr.heap.size, 1, none⟩ = some (.slice yr Y.length yc) := World.cell?_alloc_new _ _ _ _
         have g2 : (wr.alloc (.cells #[.slice xr X.length xc, .slice yr Y.length yc, .slice zr Z.length zc] 60)).cell? ⟨wr.heap.size, 2, none⟩ = some (.slice zr Z.length zc) := World.cell?_alloc_new _ _ _ _
         generalize wr.alloc (.cells #[.slice xr X.length xc, .slice yr Y.length yc, .slice zr Z.length zc] 60) = W2 at *
         have hbA2 : Below w.heap.size w W2 := hBW.trans (hbA.mono (Nat.le_succ _))
         have tk0 : True := trivial
         have tk1 : True := trivial
         go_wp2_with (first | (have _t := tk0; go_at_call 97; refine (wlist_any (w.heap.size + 1) xr xc X out w _ HXY.out.1 (Nat.le_succ _) hbA2 HNW.out.1 (by omega)).mono ?_; rintro _ xX ⟨rfl, hxX, hyX, hkX⟩; have HXX := H! hxX; have HKX := H! hkX; clear hxX hkX tk0 _t; have h1 : xX.cell? ⟨wr.heap.size, 1, none⟩ = some (.slice yr Y.length yc) := (World.cell?_of_block (a := ⟨wr.heap.size, 1, none⟩) (HKX.out _ HNW.out.2).2).trans g1; have HS2 := H! (HKX.out _ HNW.out.2); have h2 : xX.cell? ⟨wr.heap.size, 2, none⟩ = some (.slice zr Z.length zc) := (World.cell?_of_block (a := ⟨wr.heap.size, 2, none⟩) (HKX.out _ HNW.out.2).2).trans g2; have hyX2 : Below w.heap.size w xX := hbA2.trans (hyX.mono (Nat.le_succ _)); have hxl : (out ++ list8 X).length = out.length + (8 + 8 * X.length) := (by rw [List.length_append, list8_len])) | (have _t := tk1; go_at_call 97; refine (wlist_any (w.heap.size + 1) yr yc Y (out ++ list8 X) w _ HXY.out.2.1 (Nat.le_succ _) hyX2 HXX.out (by omega)).mono ?_; rintro _ xY ⟨rfl, hxY, hyY, hkY⟩; have HXYW := H! hxY; have HKY := H! hkY; clear hxY hkY tk1 _t; have h3 : xY.cell? ⟨wr.heap.size, 2, none⟩ = some (.slice zr Z.length zc) := (World.cell?_of_block (a := ⟨wr.heap.size, 2, none⟩) (HKY.out _ HS2.out.1).2).trans h2))
         have hB3 : Below (w.heap.size + 1) W1 xY := (hbA.trans hyX).trans hyY
         have HLZ : Hid (∀ j, (out ++ list8 X ++ list8 Y ++ (Z.take j).flatMap list8).length ≤ 10000000000) := H! (fun j => by
          have h1 := flat_le list8 Z j
          simp only [List.length_append, list8_len]
          omega)
         go_loopg [143] Z.length (fun kx s143 wr => ∃ (j : Nat) (out2 : List Int), s143 = .int .i64 j ∧ j ≤ Z.length ∧ Z.length - j ≤ kx ∧ Below (w.heap.size + 1) W1 wr ∧ Hid (Wr wr (w.heap.size + 1) out2) ∧ Hid (out2 = out ++ list8 X ++ list8 Y ++ (Z.take j).flatMap list8))
         case atStart => exact ⟨0, _, rfl, by omega, by omega, hB3, HXYW, H! (by simp)⟩
         case round =>
          clear HXYW HW
          obtain ⟨j, out2, rfl, hj, hjx, hBz, HWz, HQj⟩ := hrel
          have hbZ : Below w.heap.size w wr := hBW.trans (hBz.mono (Nat.le_succ _))
          by_cases hjl : j < Z.length
          ·
           have hj1 : (0 : Int) ≤ (j : Int) := by omega
           have hj2 : (j : Int) < Z.length := by omega
           obtain ⟨bZ, ofZ, rfl, hzb, hcZ⟩ := HXY.out.2.2.cells (fun e => by subst e; simp at hjl)
           obtain ⟨ri2, ci2, hcz, hzI⟩ := hcZ j hjl
           have hczz : wr.cell? ⟨bZ, ofZ + j, none⟩ = some (.slice ri2 (Z.getD j []).length ci2) := (hbZ.cell (p := ⟨bZ, ofZ + j, none⟩) hzb).trans hcz
           clear hcZ hcz
           have HQn : Hid ((Z.take (j + 1)).flatMap list8 = (Z.take j).flatMap list8 ++ list8 (Z.getD j [])) := H! (flat_take list8 hjl)
           have hbd2 : out2.length + (8 + 8 * (Z.getD j []).length) ≤ 10000000000 := by
            have := HLZ.out (j + 1)
            rw [HQn.out, ← List.append_assoc, ← HQj.out, List.length_append, list8_len] at this
            exact this
           have HZI := H! hzI
           clear hzI
           generalize Z.getD j [] = row at *
           have tk0 : True := trivial
           go_wp2_with (first | (have _t := tk0; go_at_call 97; refine (wlist_any (w.heap.size + 1) ri2 ci2 row out2 w _ HZI.out (Nat.le_succ _) hbZ HWz.out (by omega)).mono ?_; rintro _ xR ⟨rfl, hxR, hyR, hkR⟩; have HXR := H! hxR; have HKR := H! hkR; clear hxR hkR tk0 _t))
           go_roundg (Z.length - (j + 1))
           case measure => omega
           case rel => exact ⟨j + 1, out2 ++ list8 row, by go_num, by omega, by omega, hBz.trans hyR, HXR, H! (by rw [HQj.out, HQn.out, List.append_assoc])⟩
          ·
           obtain rfl : j = Z.length := by omega
           have HQe : Hid (out2 = out ++ list8 X ++ list8 Y ++ Z.flatMap list8) := H! (by rw [HQj.out, List.take_length])
           clear HQj HLZ
           go_wp2
           go_roundg (maps.length - (k + 1))
           case measure => omega
           case rel => exact ⟨k + 1, out2, by go_num, by omega, by omega, hBz, HWz, H! (by rw [HQe.out]; exact HQ3.out)⟩
        ·
         obtain rfl : k = maps.length := by omega
         have HQ1 : Hid (out = num8 code.length ++ code.flatMap Ins.by8 ++ num8 types.length ++ types.flatMap Fx.by8 ++ num8 curves.length ++ curves.flatMap (fun c => curveB8 c.p) ++ num8 maps.length ++ maps.flatMap (fun m => mapB8 m.p)) := H! (by rw [HQ.out, List.take_length])
         have hol : out.length ≤ 10000000000 := by have h := HLB3.out maps.length; rw [List.take_length, ← HQ1.out] at h; exact h
         clear HQ hkx hlt hk HLB3
         have HLnO : Hid (out.length = 8 + (code.flatMap Ins.by8).length + 8 + (types.flatMap Fx.by8).length + 8 + (curves.flatMap (fun c => curveB8 c.p)).length + 8 + (maps.flatMap (fun m => mapB8 m.p)).length) := H! (by rw [HQ1.out]; simp only [List.length_append, num8_len])
         go_wp2_with (go_at_call 95; refine (wint_any (w.heap.size + 1) _ out _ HW.out (by omega)).mono ?_; rintro _ v5 ⟨rfl, hw5, hb5, hk5⟩; have HW5 := H! hw5; clear hw5 hk5; have hB5 : Below (w.heap.size + 1) W1 v5 := hBr.trans hb5; have y5 : v5.cell? ⟨w.heap.size, 5, none⟩ = some (.slice ri inputs.length ci) := (hB5.cell (p := ⟨w.heap.size, 5, none⟩) (Nat.lt_succ_self _)).trans q5; have y6 : v5.cell? ⟨w.heap.size, 6, none⟩ = some (.slice rs states.length cs) := (hB5.cell (p := ⟨w.heap.size, 6, none⟩) (Nat.lt_succ_self _)).trans q6; have y7 : v5.cell? ⟨w.heap.size, 7, none⟩ = some (.slice ro outputs.length co) := (hB5.cell (p := ⟨w.heap.size, 7, none⟩) (Nat.lt_succ_self _)).trans q7; have y8 : v5.cell? ⟨w.heap.size, 8, none⟩ = some (.slice rn initial.length cn) := (hB5.cell (p := ⟨w.heap.size, 8, none⟩) (Nat.lt_succ_self _)).trans q8)
         have hB5s := hB5.size
         have HNW := H! (HW5.out.new (.cells #[.slice ri inputs.length ci, .slice rs states.length cs, .slice ro outputs.length co, .slice rn initial.length cn] 26))
         have hbA : Below (w.heap.size + 1) W1 (v5.alloc (.cells #[.slice ri inputs.length ci, .slice rs states.length cs, .slice ro outputs.length co, .slice rn initial.length cn] 26)) := hB5.alloc (by omega) _
         have l0 : (v5.alloc (.cells #[.slice ri inputs.length ci, .slice rs states.length cs, .slice ro outputs.length co, .slice rn initial.length cn] 26)).cell? ⟨v5.heap.size, 0, none⟩ = some (.slice ri inputs.length ci) := World.cell?_alloc_new _ _ _ _
         have l1 : (v5.alloc (.cells #[.slice ri inputs.length ci, .slice rs states.length cs, .slice ro outputs.length co, .slice rn initial.length cn] 26)).cell? ⟨v5.heap.size, 1, none⟩ = some (.slice rs states.length cs) := World.cell?_alloc_new _ _ _ _
         have l2 : (v5.alloc (.cells #[.slice ri inputs.length ci, .slice rs states.length cs, .slice ro outputs.length co, .slice rn initial.length cn] 26)).cell? ⟨v5.heap.size, 2, none⟩ = some (.slice ro outputs.length co) := World.cell?_alloc_new _ _ _ _
         have l3 : (v5.alloc (.cells #[.slice ri inputs.length ci, .slice rs states.length cs, .slice ro outputs.length co, .slice rn initial.length cn] 26)).cell? ⟨v5.heap.size, 3, none⟩ = some (.slice rn initial.length cn) := World.cell?_alloc_new _ _ _ _
         generalize v5.alloc (.cells #[.slice ri inputs.length ci, .slice rs states.length cs, .slice ro outputs.length co, .slice rn initial.length cn] 26) = W6 at *
         generalize v5.heap.size = Lb at *
         have holn : out.length ≤ 10000000000 := by have := HLnO.out; omega
         go_loopg [166] 4 (fun kx s166 wr => ∃ (j : Nat), s166 = .int .i64 j ∧ j ≤ 4 ∧ 4 - j ≤ kx ∧ Below (w.heap.size + 1) W1 wr ∧ Hid (KeepW W6 wr (w.heap.size + 1)) ∧ Hid ((j = 0 → Wr wr (w.heap.size + 1) (out ++ num8 cells)) ∧ (j = 1 → Wr wr (w.heap.size + 1) (out ++ num8 cells ++ list8 inputs)) ∧ (j = 2 → Wr wr (w.heap.size + 1) (out ++ num8 cells ++ list8 inputs ++ list8 states)) ∧ (j = 3 → Wr wr (w.heap.size + 1) (out ++ num8 cells ++ list8 inputs ++ list8 states ++ list8 outputs)) ∧ (j = 4 → Wr wr (w.heap.size + 1) (out ++ num8 cells ++ list8 inputs ++ list8 states ++ list8 outputs ++ list8 initial))))
         case atStart => exact ⟨0, rfl, by omega, by omega, hbA, H! (KeepW.refl _ _), H! ⟨fun _ => HNW.out.1, fun h => absurd h (by omega), fun h => absurd h (by omega), fun h => absurd h (by omega), fun h => absurd h (by omega)⟩⟩
         case round =>
          clear HW HW5
          obtain ⟨j, rfl, hj, hjx, hBz, HKZ, HWz⟩ := hrel
          have hbZ : Below w.heap.size w wr := hBW.trans (hBz.mono (Nat.le_succ _))
          by_cases hjl : j < 4
          ·
           obtain rfl | rfl | rfl | rfl : j = 0 ∨ j = 1 ∨ j = 2 ∨ j = 3 := by omega
           ·
            have hc : wr.cell? ⟨Lb, 0, none⟩ = some (.slice ri inputs.length ci) := (World.cell?_of_block (a := ⟨Lb, 0, none⟩) (HKZ.out _ HNW.out.2).2).trans l0
            have HWj := H! (HWz.out.1 rfl)
            have hlj : (out ++ num8 cells).length = out.length + (8) := by simp only [List.length_append, num8_len, list8_len]; (try omega)
            have hlk := HLnO.out
            go_wp2_with (go_at_call 97; refine (wlist_any (w.heap.size + 1) ri ci inputs (out ++ num8 cells) w _ HI1.out (Nat.le_succ _) hbZ HWj.out (by omega)).mono ?_; rintro _ v6 ⟨rfl, hw6, hb6, hk6⟩; have HW6 := H! hw6; have HK6 := H! (HKZ.out.trans hk6); clear hw6 hk6)
            go_roundg 3
            case measure => omega
            case rel => exact ⟨1, by go_num, by omega, by omega, hBz.trans hb6, HK6, H! ⟨fun h => absurd h (by omega), fun _ => HW6.out, fun h => absurd h (by omega), fun h => absurd h (by omega), fun h => absurd h (by omega)⟩⟩
           ·
            have hc : wr.cell? ⟨Lb, 1, none⟩ = some (.slice rs states.length cs) := (World.cell?_of_block (a := ⟨Lb, 1, none⟩) (HKZ.out _ HNW.out.2).2).trans l1
            have HWj := H! (HWz.out.2.1 rfl)
            have hlj : (out ++ num8 cells ++ list8 inputs).length = out.length + (8 + (8 + 8 * inputs.length)) := by simp only [List.length_append, num8_len, list8_len]; (try omega)
            have hlk := HLnO.out
            go_wp2_with (go_at_call 97; refine (wlist_any (w.heap.size + 1) rs cs states (out ++ num8 cells ++ list8 inputs) w _ HI2.out (Nat.le_succ _) hbZ HWj.out (by omega)).mono ?_; rintro _ v6 ⟨rfl, hw6, hb6, hk6⟩; have HW6 := H! hw6; have HK6 := H! (HKZ.out.trans hk6); clear hw6 hk6)
            go_roundg 2
            case measure => omega
            case rel => exact ⟨2, by go_num, by omega, by omega, hBz.trans hb6, HK6, H! ⟨fun h => absurd h (by omega), fun h => absurd h (by omega), fun _ => HW6.out, fun h => absurd h (by omega), fun h => absurd h (by omega)⟩⟩
           ·
            have hc : wr.cell? ⟨Lb, 2, none⟩ = some (.slice ro outputs.length co) := (World.cell?_of_block (a := ⟨Lb, 2, none⟩) (HKZ.out _ HNW.out.2).2).trans l2
            have HWj := H! (HWz.out.2.2.1 rfl)
            have hlj : (out ++ num8 cells ++ list8 inputs ++ list8 states).length = out.length + (8 + (8 + 8 * inputs.length) + (8 + 8 * states.length)) := by simp only [List.length_append, num8_len, list8_len]; (try omega)
            have hlk := HLnO.out
            go_wp2_with (go_at_call 97; refine (wlist_any (w.heap.size + 1) ro co outputs (out ++ num8 cells ++ list8 inputs ++ list8 states) w _ HI3.out (Nat.le_succ _) hbZ HWj.out (by omega)).mono ?_; rintro _ v6 ⟨rfl, hw6, hb6, hk6⟩; have HW6 := H! hw6; have HK6 := H! (HKZ.out.trans hk6); clear hw6 hk6)
            go_roundg 1
            case measure => omega
            case rel => exact ⟨3, by go_num, by omega, by omega, hBz.trans hb6, HK6, H! ⟨fun h => absurd h (by omega), fun h => absurd h (by omega), fun h => absurd h (by omega), fun _ => HW6.out, fun h => absurd h (by omega)⟩⟩
           ·
            have hc : wr.cell? ⟨Lb, 3, none⟩ = some (.slice rn initial.length cn) := (World.cell?_of_block (a := ⟨Lb, 3, none⟩) (HKZ.out _ HNW.out.2).2).trans l3
            have HWj := H! (HWz.out.2.2.2.1 rfl)
            have hlj : (out ++ num8 cells ++ list8 inputs ++ list8 states ++ list8 outputs).length = out.length + (8 + (8 + 8 * inputs.length) + (8 + 8 * states.length) + (8 + 8 * outputs.length)) := by simp only [List.length_append, num8_len, list8_len]; (try omega)
            have hlk := HLnO.out
            go_wp2_with (go_at_call 97; refine (wlist_any (w.heap.size + 1) rn cn initial (out ++ num8 cells ++ list8 inputs ++ list8 states ++ list8 outputs) w _ HI4.out (Nat.le_succ _) hbZ HWj.out (by omega)).mono ?_; rintro _ v6 ⟨rfl, hw6, hb6, hk6⟩; have HW6 := H! hw6; have HK6 := H! (HKZ.out.trans hk6); clear hw6 hk6)
            go_roundg 0
            case measure => omega
            case rel => exact ⟨4, by go_num, by omega, by omega, hBz.trans hb6, HK6, H! ⟨fun h => absurd h (by omega), fun h => absurd h (by omega), fun h => absurd h (by omega), fun h => absurd h (by omega), fun _ => HW6.out⟩⟩
          ·
           obtain rfl : j = 4 := by omega
           obtain ⟨rq, cq, hqb, hqc, hqf, hqo⟩ := HWz.out.2.2.2.2 rfl
           have HQO := H! hqo
           clear hqo HLnO
           have he : out ++ num8 cells ++ list8 inputs ++ list8 states ++ list8 outputs ++ list8 initial = num8 code.length ++ code.flatMap Ins.by8 ++ num8 types.length ++ types.flatMap Fx.by8 ++ num8 curves.length ++ curves.flatMap (fun c => curveB8 c.p) ++ num8 maps.length ++ maps.flatMap (fun m => mapB8 m.p) ++ num8 cells ++ list8 inputs ++ list8 states ++ list8 outputs ++ list8 initial := by rw [HQ1.out]
           have HEQ := H! he
           clear he
           go_wp2
           go_ret
           exact ⟨rq, cq, out ++ num8 cells ++ list8 inputs ++ list8 states ++ list8 outputs ++ list8 initial, by first | rfl | (simp only [List.length_append, num8_len, list8_len]; done) | (simp; done), HQO.out.base (by omega), hbZ, by first | exact HEQ.out | (rw [HEQ.out]; simp only [List.append_assoc])⟩
theorem ibody_any (p : PV) (w : World) (hp : IsP w p) (hfm : ∀ i ∈ p.code, formB i.op i.a i.b i.c i.k = true) (hl : p.p.body.length ≤ 10000000000) : Calls Tryz.prog 44 #[p.val] w fun e w' => ∃ r c, e = .returned (.slice r p.p.body.length c) ∧ OwnK .u8 5 w' w.heap.size r c p.p.body ∧ Below w.heap.size w w' := by
 obtain ⟨rc, cc, code, rt, ct, types, rv, cv, curves, rm, cm, maps, cells, ri, ci, inputs, rs, cs, states, ro, co, outputs, rn, cn, initial⟩ := p
 have HE : PP.body (PV.p ⟨rc, cc, code, rt, ct, types, rv, cv, curves, rm, cm, maps, cells, ri, ci, inputs, rs, cs, states, ro, co, outputs, rn, cn, initial⟩) = num8 code.length ++ code.flatMap Ins.by8 ++ num8 types.length ++ types.flatMap Fx.by8 ++ num8 curves.length ++ curves.flatMap (fun c => curveB8 c.p) ++ num8 maps.length ++ maps.flatMap (fun m => mapB8 m.p) ++ num8 cells ++ list8 inputs ++ list8 states ++ list8 outputs ++ list8 initial := by unfold PP.body PV.p; simp only [List.length_map]; rw [flat_curves, flat_maps]
 rw [HE] at hl ⊢
 refine (ibody_main rc cc code rt ct types rv cv curves rm cm maps cells ri ci inputs rs cs states ro co outputs rn cn initial w hp hfm hl).mono ?_
 rintro e w' ⟨r, c, out, h1, h2, h3, rfl⟩
 exact ⟨r, c, h1, h2, h3⟩
theorem valid_form {p : PV} (h : validB p = true) : ∀ i ∈ p.code, formB i.op i.a i.b i.c i.k = true := fun i hi => by
 unfold validB at h
 simp only [Bool.and_eq_true] at h
 have h4 := h.2.2.2.2.1
 simp only [Bool.not_eq_true', List.any_eq_false] at h4
 have := h4 i hi
 simp only [Bool.not_eq_true', Bool.not_eq_false] at this
 rw [show ∀ a b c d e, fitB a b c d e = (formB e.op e.a e.b e.c e.k && _) from fun _ _ _ _ _ => rfl] at this
 simp only [Bool.and_eq_true] at this
 exact this.1
set_option maxRecDepth 100000 in
theorem iencode_bad (p : PV) (w : World) (hp : IsP w p) (hv : validB p = false) : Calls Tryz.prog 18 #[p.val] w fun e w' => e = .returned (.tuple #[.slice none 0 0, .int .i64 1]) ∧ Below w.heap.size w w' := by
 have HV := H! (fun W (h : Below w.heap.size w W) => mvalid_any p W (hp.later h))
 rw [hv] at HV
 clear hv hp
 obtain ⟨rc, cc, code, rt, ct, types, rv, cv, curves, rm, cm, maps, cells, ri, ci, inputs, rs, cs, states, ro, co, outputs, rn, cn, initial⟩ := p
 simp only [PV.val] at HV ⊢
 go_enter Tryz.func18, Tryz.ntmps18
 go_wp2_with (first | (go_at_call 26; refine (HV.out _ bw).mono ?_; rintro _ w1 ⟨rfl, hb1⟩))
 refine bodyPost_ret (by simp [results, Tryz.results18, go_sem, *]; try rfl) rfl ?_
 exact ⟨rfl, bw⟩
set_option maxRecDepth 100000 in
theorem iencode_ok (p : PV) (w : World) (hp : IsP w p) (hv : validB p = true) (hl : p.p.body.length ≤ 10000000000) : Calls Tryz.prog 18 #[p.val] w fun e w' => ∃ r c, e = .returned (.tuple #[.slice r (sealL p.p.body).length c, .int .i64 0]) ∧ OwnK .u8 5 w' w.heap.size r c (sealL p.p.body) ∧ Below w.heap.size w w' := by
 have HV := H! (fun W (h : Below w.heap.size w W) => mvalid_any p W (hp.later h))
 have hf := valid_form hv
 rw [hv] at HV
 have HB := H! (fun W (h : Below w.heap.size w W) => ibody_any p W (hp.later h) hf hl)
 have HBY := H! (body_byte p.p)
 clear hv hp hf
 obtain ⟨rc, cc, code, rt, ct, types, rv, cv, curves, rm, cm, maps, cells, ri, ci, inputs, rs, cs, states, ro, co, outputs, rn, cn, initial⟩ := p
 simp only [PV.val] at HV HB ⊢
 generalize PP.body _ = bd at *
 go_enter Tryz.func18, Tryz.ntmps18
 go_wp2_with (first | (go_at_call 26; refine (HV.out _ bw).mono ?_; rintro _ w1 ⟨rfl, hb1⟩; obtain ⟨hb1c, hb1f⟩ := bcell hb1; have hb1s := hb1.size; (try simp only [zA] at hb1s); have hx1 : w.heap.size < w1.heap.size := (by omega); have hB1 : Below w.heap.size w w1 := bw) | (go_at_call 44; refine (HB.out _ hB1).mono ?_; rintro _ w2 ⟨r2, c2, rfl, ho2, hb2⟩; have HO2 := H! ho2; have hb2s := hb2.size; clear ho2) | (go_at_call 43; refine (sealed_any w1.heap.size r2 c2 bd w2 HO2.out HBY.out (by omega) (by omega)).mono ?_; rintro _ w3 ⟨r3, c3, rfl, ho3, hb3⟩; have HO3 := H! ho3; clear ho3))
 refine bodyPost_ret (by simp [results, Tryz.results18, go_sem, *]; try rfl) rfl ?_
 exact ⟨r3, c3, rfl, HO3.out.base (by omega), (hB1.trans (hb2.mono (by omega))).trans (hb3.mono (by omega))⟩
set_option maxRecDepth 100000 in
theorem rsealed_any (r : Option Addr) (cap : Nat) (xs : List Int) (w : World) (hx : IsInts w r cap .u8 xs) (hl : xs.length ≤ 90000000000) : Calls Tryz.prog 94 #[.slice r xs.length cap] w fun e w' => ∃ ro co, e = .returned (.slice ro (sealL xs).length co) ∧ OwnK .u8 5 w' w.heap.size ro co (sealL xs) ∧ Below w.heap.size w w' := by
 have ⟨s0, s1⟩ := sumB_u32 xs
 have HM : Hid (∀ k, k ≤ padN (summed xs).length → ((((summed xs ++ List.replicate k (0 : Int)).length : Int)) % 4 = 0 ↔ k = padN (summed xs).length)) := H! (fun k hk => by
  rw [List.length_append, List.length_replicate]
  have := padN_mod (n := (summed xs).length) hk
  omega)
 have HL : Hid ((summed xs).length = xs.length + 4) := H! (summed_len xs)
 have HP : Hid (padN (summed xs).length ≤ 3) := H! (padN_lt _)
 have HE : Hid (sealL xs = summed xs ++ List.replicate (padN (summed xs).length) 0) := H! rfl
 have HU : Hid (summed xs = xs ++ b4 (sumB xs)) := H! rfl
 have HX := H! (fun W (h : Below w.heap.size w W) => hx.later h)
 clear hx
 generalize sealL xs = res at *
 generalize padN (summed xs).length = pd at *
 generalize summed xs = sm at *
 have t0 : True := trivial
 go_enter Tryz.func94, Tryz.ntmps94
 generalize hsm : sumB xs = sv at *
 go_wp2_with (first | (go_at_call 40; refine (rsum_any _ _ _ _ (HX.out _ (Below.refl _ _))).mono ?_; rintro e w1 ⟨rfl, hb1⟩; rw [hsm]; have hbz : w.heap.size ≤ w1.heap.size := hb1.size; have OW0 : Hid (OwnK .u8 5 (w1.alloc (.cells #[] 5)) w.heap.size (some ⟨w1.heap.size, 0, none⟩) 0 []) := H! (own_built .u8 5 w1 w.heap.size [] hbz (by simp [maxLen])); have hBa : Below w.heap.size w (w1.alloc (.cells #[] 5)) := hb1.alloc hbz _) | (have _t := t0; at_builtin; refine wpList_append_ks Tryz.underlying43 infoU8 rfl (by omega) (by rfl) _ _ (by rfl) w.heap.size (some ⟨w1.heap.size, 0, none⟩) r 0 cap [] xs (by rfl) (by rfl) OW0.out (HX.out _ hBa) (by simp only [List.length_nil]; omega) (by simp only [zA]; omega) ?_; intro ra ca w2 howna hbwa; have HOA : Hid (OwnK .u8 5 w2 w.heap.size ra ca xs) := H! (by simpa using howna); clear howna t0 _t; have hB2 : Below w.heap.size w w2 := hBa.trans hbwa; have hB2s := hB2.size) | (at_builtin; refine wpList_append_k Tryz.underlying43 infoU8 rfl (by omega) (by rfl) _ _ (by rfl) w2 w.heap.size ra ca xs (b4 sv) 4 rfl (by omega) (by first | rfl | (rw [← b4_wrap s0 s1]; rfl)) (by first | rfl | simp) (by rfl) HOA.out (by omega) hB2s ?_; intro r' c' w3 hown3 hbw3; have HO3 := H! hown3; clear hown3))
 have hlen : xs.length + 4 = sm.length := HL.out.symm
 rw [hlen]
 have hO3 : Hid (OwnK .u8 5 w3 w.heap.size r' c' sm) := H! (by rw [HU.out]; exact HO3.out)
 have hbw : Below w.heap.size w w3 := hB2.trans hbw3
 clear HO3 HOA OW0
 have hsml : sm.length ≤ 90000000004 := by omega
 go_loopg [4] 4 (fun kx s4 wr => ∃ (k : Nat) (ro : Option Addr) (co : Nat) (out : List Int), s4 = .slice ro out.length co ∧ k ≤ pd ∧ pd - k ≤ kx ∧ Below w.heap.size w wr ∧ Hid (OwnK .u8 5 wr w.heap.size ro co out) ∧ Hid (out = sm ++ List.replicate k 0) ∧ out.length ≤ 90000000010)
 case atStart => exact ⟨0, _, _, sm, rfl, by omega, by have := HP.out; omega, hbw, hO3, H! (by simp), by omega⟩
 case round =>
  obtain ⟨k, ro, co, out, rfl, hk, hkx, hbr, HOr, HQ, hol⟩ := hrel
  have hbs : w.heap.size ≤ wr.heap.size := hbr.size
  have HMk := H! (HM.out k hk)
  rw [← HQ.out] at HMk
  by_cases hlt : k < pd
  ·
   have hm : ¬ ((out.length : Int) % 4 = 0) := fun h => by have := HMk.out.1 h; omega
   go_wp2_with (at_builtin; refine wpList_append_k Tryz.underlying43 infoU8 rfl (by omega) (by rfl) _ _ (by rfl) wr w.heap.size ro co out [0] 1 rfl (by omega) (by rfl) (by rfl) (by rfl) HOr.out (by omega) hbs ?_; intro r2 c2 w4 hown4 hbw4; have HO4 := H! hown4; clear hown4)
   go_roundg (pd - (k + 1))
   case measure => omega
   case rel => exact ⟨k + 1, r2, c2, out ++ [0], by simp, by omega, by omega, hbr.trans hbw4, HO4, H! (by rw [HQ.out, List.append_assoc, List.replicate_succ']), by have := HQ.out; have := HP.out; rw [HQ.out]; simp only [List.length_append, List.length_replicate, List.length_singleton]; omega⟩
  ·
   obtain rfl : k = pd := by omega
   have hm : (out.length : Int) % 4 = 0 := HMk.out.2 rfl
   go_wp2
   go_ret
   have he : out = res := by rw [HE.out, HQ.out]
   subst he
   exact ⟨ro, co, rfl, HOr.out, hbr⟩
set_option maxRecDepth 100000 in
theorem rencode_any (p : PV) (w : World) (hp : IsP w p) (hl : p.p.body.length ≤ 10000000000) : Calls Tryz.prog 42 #[p.val] w fun e w' => ∃ r c, e = .returned (.slice r (sealL p.p.body).length c) ∧ OwnK .u8 5 w' w.heap.size r c (sealL p.p.body) ∧ Below w.heap.size w w' := by
 have HB := H! (fun W (h : Below w.heap.size w W) => rbody_any p W (hp.later h) hl)
 have HBY := H! (body_byte p.p)
 clear hp
 obtain ⟨rc, cc, code, rt, ct, types, rv, cv, curves, rm, cm, maps, cells, ri, ci, inputs, rs, cs, states, ro, co, outputs, rn, cn, initial⟩ := p
 simp only [PV.val] at HB ⊢
 generalize PP.body _ = bd at *
 go_enter Tryz.func42, Tryz.ntmps42
 go_wp2_with (first | (go_at_call 37; refine (HB.out _ bw).mono ?_; rintro _ w2 ⟨r2, c2, rfl, ho2, hb2⟩; have HO2 := H! (ints_b ho2 HBY.out); have hb2s := hb2.size; (try simp only [zA] at hb2s); clear ho2; have hB2 : Below w.heap.size w w2 := bw) | (go_at_call 94; refine (rsealed_any r2 c2 bd w2 HO2.out (by omega)).mono ?_; rintro _ w3 ⟨r3, c3, rfl, ho3, hb3⟩; have HO3 := H! ho3; clear ho3))
 go_ret
 exact ⟨r3, c3, rfl, HO3.out.base (by omega), hB2.trans (hb3.mono (by omega))⟩
def cv0 (c : List Int × List Int) : Cv := ⟨none, 0, c.1, none, 0, c.2⟩
def mp0 (m : List Int × List Int × List (List Int)) : Mp := ⟨none, 0, m.1, none, 0, m.2.1, none, 0, m.2.2⟩
def PP.v (p : PP) : PV := ⟨none, 0, p.code, none, 0, p.types, none, 0, p.curves.map cv0, none, 0, p.maps.map mp0, p.cells, none, 0, p.inputs, none, 0, p.states, none, 0, p.outputs, none, 0, p.initial⟩
noncomputable def okP (p : PP) : Bool := validB p.v
theorem okP_eq (p : PV) : okP p.p = validB p := by
 have hs : decide (szP p.p.v) = decide (szP p) := decide_eq_decide.2 (by simp [szP, PV.p, PP.v])
 have e1 : (p.p.v.curves.any fun c => !cvB c) = p.curves.any fun c => !cvB c := by
  simp only [PV.p, PP.v, List.any_map]; rfl
 have e2 : (p.p.v.maps.any fun c => !mpB c) = p.maps.any fun c => !mpB c := by
  simp only [PV.p, PP.v, List.any_map]; rfl
 unfold okP validB
 rw [hs, e1, e2]
 simp only [PV.p, PP.v, List.length_map]
 rfl
theorem IsS.len {α : Type} {sz : Nat} {enc : α → List Value} {W : World} {r : Option Addr} {c : Nat} {xs : List α} (h : IsS sz enc W r c xs) : xs.length ≤ 9223372036854775807 := by have := h.le; have := h.max; unfold maxLen at this; omega
def pv0 : PV := ⟨none, 0, [], none, 0, [], none, 0, [], none, 0, [], 0, none, 0, [], none, 0, [], none, 0, [], none, 0, []⟩
theorem ints0 (W : World) (k : IntKind) : IsInts W none 0 k [] := ⟨Nat.le_refl _, Nat.zero_le _, by simp, fun h => absurd rfl h⟩
theorem isS0 {α : Type} (sz : Nat) (enc : α → List Value) (W : World) : IsS sz enc W none 0 [] := ⟨Nat.le_refl _, Nat.zero_le _, fun h => absurd rfl h⟩
theorem isP0 (W : World) : IsP W pv0 := ⟨isS0 _ _ _, by simp [pv0], isS0 _ _ _, by simp [pv0], isS0 _ _ _, by simp [pv0], isS0 _ _ _, by simp [pv0], i64_0, ints0 _ _, ints0 _ _, ints0 _ _, ints0 _ _⟩
def Cons {α : Type} (f : Sx → α × Sx) (enc : α → List Int) : Prop := ∀ s bs', (f s).2 = some bs' → ∃ bs, s = some bs ∧ bs.length = (enc (f s).1).length + bs'.length
theorem cons_int : Cons pInt num8 := fun s bs' h => by
 cases s with
 | none => cases h
 | some bs =>
  unfold pInt at h
  simp only at h
  split at h
  ·
   rename_i h8
   simp only [Option.some.injEq] at h
   subst h
   exact ⟨bs, rfl, by rw [num8_len, List.length_drop]; omega⟩
  ·
   cases h
theorem cons_rep {α : Type} {f : Sx → α × Sx} {enc : α → List Int} (hf : Cons f enc) (n : Nat) : Cons (pRep f n) (List.flatMap enc) := by
 induction n with
 | zero => intro s bs' h; exact ⟨bs', h, by simp [pRep]⟩
 | succ n ih =>
  intro s bs' h
  obtain ⟨b1, h1, h2⟩ := hf _ _ h
  obtain ⟨b2, h3, h4⟩ := ih _ _ h1
  refine ⟨b2, h3, ?_⟩
  simp only [pRep, List.flatMap_append, List.length_append, List.flatMap_cons, List.flatMap_nil, List.append_nil]
  omega
theorem cons_count {size : Nat} {s : Sx} {bs' : List Int} (h : (pCount size s).2 = some bs') : ∃ bs, s = some bs ∧ bs.length = 8 + bs'.length := by
 rw [pCount_eq] at h
 cases ht : (pInt s).2 with
 | none => rw [ht] at h; cases h
 | some bs =>
  rw [ht] at h
  simp only at h
  split at h
  ·
   simp only [Option.some.injEq] at h
   subst h
   obtain ⟨b, h1, h2⟩ := cons_int _ _ ht
   exact ⟨b, h1, by rw [h2, num8_len]⟩
  ·
   cases h
theorem cons_many {α : Type} {f : Sx → α × Sx} {enc : α → List Int} (hf : Cons f enc) (size : Nat) : Cons (pMany f size) (fun l => num8 l.length ++ l.flatMap enc) := fun s bs' h => by
 obtain ⟨b1, h1, h2⟩ := cons_rep hf _ _ _ h
 obtain ⟨b2, h3, h4⟩ := cons_count h1
 refine ⟨b2, h3, ?_⟩
 simp only [List.length_append, num8_len, pMany]
 omega
theorem cons_list : Cons pList list8 := cons_many cons_int 8
theorem cons_ins : Cons pIns Ins.by8 := fun s bs' h => by
 cases s with
 | none => cases h
 | some bs =>
  unfold pIns at h
  simp only at h
  split at h
  ·
   split at h
   ·
    rename_i h12 _
    simp only [Option.some.injEq] at h
    subst h
    refine ⟨bs, rfl, ?_⟩
    show _ = 12 + _
    rw [List.length_drop]
    omega
   ·
    cases h
  ·
   cases h
theorem cons_fx : Cons pFx Fx.by8 := fun s bs' h => by
 unfold pFx at h
 simp only at h
 split at h
 ·
  obtain ⟨b, h1, h2⟩ := cons_rep cons_int 10 _ _ h
  refine ⟨b, h1, ?_⟩
  show _ = 80 + _
  have e := pRep_len pInt 10 s
  have e2 : ((pRep pInt 10 s).1.flatMap num8).length = 8 * (pRep pInt 10 s).1.length := by
   have := list8_len (pRep pInt 10 s).1
   unfold list8 nums8 at this
   rw [List.length_append, num8_len] at this
   omega
  omega
 ·
  cases h
theorem Cons.use {α : Type} {f : Sx → α × Sx} {enc : α → List Int} (hc : Cons f enc) {s s' : Sx} {x : α} {bs' : List Int} (he : f s = (x, s')) (h : s' = some bs') : ∃ bs, s = some bs ∧ bs.length = (enc x).length + bs'.length := by
 have := hc s bs' (by rw [he]; exact h)
 rwa [he] at this
theorem cons_cv : Cons pCv curveB8 := fun s bs' h => by
 obtain ⟨⟨X, s1⟩, h1⟩ : ∃ x, pList s = x := ⟨_, rfl⟩
 obtain ⟨⟨Y, s2⟩, h2⟩ : ∃ x, pList s1 = x := ⟨_, rfl⟩
 have e : pCv s = ((X, Y), s2) := by unfold pCv; rw [h1]; simp only; rw [h2]
 rw [e] at h ⊢
 obtain ⟨b2, r2, l2⟩ := cons_list.use h2 h
 obtain ⟨b1, r1, l1⟩ := cons_list.use h1 r2
 refine ⟨b1, r1, ?_⟩
 unfold curveB8
 rw [List.length_append]
 simp only
 omega
theorem cons_mp : Cons pMp mapB8 := fun s bs' h => by
 obtain ⟨⟨X, s1⟩, h1⟩ : ∃ x, pList s = x := ⟨_, rfl⟩
 obtain ⟨⟨Y, s2⟩, h2⟩ : ∃ x, pList s1 = x := ⟨_, rfl⟩
 obtain ⟨⟨Z, s3⟩, h3⟩ : ∃ x, pRep pList X.length s2 = x := ⟨_, rfl⟩
 have e : pMp s = ((X, Y, Z), s3) := by unfold pMp; rw [h1]; simp only; rw [h2]; simp only; rw [h3]
 rw [e] at h ⊢
 obtain ⟨b3, r3, l3⟩ := (cons_rep cons_list _).use h3 h
 obtain ⟨b2, r2, l2⟩ := cons_list.use h2 r3
 obtain ⟨b1, r1, l1⟩ := cons_list.use h1 r2
 refine ⟨b1, r1, ?_⟩
 unfold mapB8
 rw [List.length_append, List.length_append]
 simp only
 omega
theorem cons_prg : Cons pPrg PP.body := fun s bs' h => by
 obtain ⟨⟨code, s1⟩, h1⟩ : ∃ x, pMany pIns 12 s = x := ⟨_, rfl⟩
 obtain ⟨⟨types, s2⟩, h2⟩ : ∃ x, pMany pFx 80 s1 = x := ⟨_, rfl⟩
 obtain ⟨⟨curves, s3⟩, h3⟩ : ∃ x, pMany pCv 16 s2 = x := ⟨_, rfl⟩
 obtain ⟨⟨maps, s4⟩, h4⟩ : ∃ x, pMany pMp 16 s3 = x := ⟨_, rfl⟩
 obtain ⟨⟨cells, s5⟩, h5⟩ : ∃ x, pInt s4 = x := ⟨_, rfl⟩
 obtain ⟨⟨inputs, s6⟩, h6⟩ : ∃ x, pList s5 = x := ⟨_, rfl⟩
 obtain ⟨⟨states, s7⟩, h7⟩ : ∃ x, pList s6 = x := ⟨_, rfl⟩
 obtain ⟨⟨outputs, s8⟩, h8⟩ : ∃ x, pList s7 = x := ⟨_, rfl⟩
 obtain ⟨⟨initial, s9⟩, h9⟩ : ∃ x, pList s8 = x := ⟨_, rfl⟩
 have e : pPrg s = (⟨code, types, curves, maps, cells, inputs, states, outputs, initial⟩, s9) := by
  unfold pPrg
  rw [h1]; simp only
  rw [h2]; simp only
  rw [h3]; simp only
  rw [h4]; simp only
  rw [h5]; simp only
  rw [h6]; simp only
  rw [h7]; simp only
  rw [h8]; simp only
  rw [h9]
 rw [e] at h ⊢
 obtain ⟨b9, r9, l9⟩ := cons_list.use h9 h
 obtain ⟨b8, r8, l8⟩ := cons_list.use h8 r9
 obtain ⟨b7, r7, l7⟩ := cons_list.use h7 r8
 obtain ⟨b6, r6, l6⟩ := cons_list.use h6 r7
 obtain ⟨b5, r5, l5⟩ := cons_int.use h5 r6
 obtain ⟨b4, r4, l4⟩ := (cons_many cons_mp 16).use h4 r5
 obtain ⟨b3, r3, l3⟩ := (cons_many cons_cv 16).use h3 r4
 obtain ⟨b2, r2, l2⟩ := (cons_many cons_fx 80).use h2 r3
 obtain ⟨b1, r1, l1⟩ := (cons_many cons_ins 12).use h1 r2
 refine ⟨b1, r1, ?_⟩
 simp only [List.length_append] at l1 l2 l3 l4
 unfold PP.body
 simp only [List.length_append]
 omega
def pp0 : PP := ⟨[], [], [], [], 0, [], [], [], []⟩
def partZ (bs : List Int) (z : Nat) : List Int := bs.take (bs.length - 4 - z)
def endZ (bs : List Int) (z : Nat) : List Int := b4 (sumB (partZ bs z)) ++ List.replicate z 0
def fndZ (bs : List Int) (z : Nat) : Bool := decide (bs.drop (bs.length - 4 - z) = endZ bs z)
def prgZ (bs : List Int) (z : Nat) : PP × Sx := pPrg (some (partZ bs z))
noncomputable def hitZ (bs : List Int) (z : Nat) : Bool := fndZ bs z && (decide ((prgZ bs z).2 = some []) && (okP (prgZ bs z).1 && decide (sealL (prgZ bs z).1.body = bs)))
noncomputable def decF (bs : List Int) : Nat → Bool → PP × Int
 | 0, found => (pp0, if found then 3 else 14)
 | n + 1, found => if hitZ bs (3 - n) = true then ((prgZ bs (3 - n)).1, 0) else decF bs n (found || fndZ bs (3 - n))
noncomputable def decP (bs : List Int) : PP × Int := if bs.length < 12 ∨ bs.length % 4 ≠ 0 then (pp0, 3) else decF bs 4 false
theorem prgZ_len {bs : List Int} {z : Nat} {t : List Int} (h : (prgZ bs z).2 = some t) : (prgZ bs z).1.body.length ≤ bs.length := by
 obtain ⟨b, h1, h2⟩ := cons_prg _ _ h
 simp only [Option.some.injEq] at h1
 subst h1
 have : (partZ bs z).length ≤ bs.length := by unfold partZ; rw [List.length_take]; omega
 unfold prgZ
 omega
theorem decF_ok {bs : List Int} : ∀ n f, (decF bs n f).2 = 0 → okP (decF bs n f).1 = true ∧ sealL (decF bs n f).1.body = bs := by
 intro n
 induction n with
 | zero => intro f h; cases f <;> simp [decF] at h
 | succ n ih =>
  intro f h
  by_cases hh : hitZ bs (3 - n) = true
  ·
   have e : decF bs (n + 1) f = ((prgZ bs (3 - n)).1, 0) := if_pos hh
   rw [e]
   unfold hitZ at hh
   generalize prgZ bs (3 - n) = pg at *
   simp only [Bool.and_eq_true, decide_eq_true_eq] at hh
   exact hh.2.2
  ·
   have e : decF bs (n + 1) f = decF bs n (f || fndZ bs (3 - n)) := if_neg hh
   rw [e] at h ⊢
   exact ih _ h
theorem decF_no {bs : List Int} : ∀ n f, (decF bs n f).2 ≠ 0 → (decF bs n f).1 = pp0 := by
 intro n
 induction n with
 | zero => intro f h; rfl
 | succ n ih =>
  intro f h
  unfold decF at h ⊢
  by_cases hh : hitZ bs (3 - n) = true
  ·
   rw [if_pos hh] at h
   exact absurd rfl h
  ·
   rw [if_neg hh] at h ⊢
   exact ih _ h
theorem dec_ok {bs : List Int} (h : (decP bs).2 = 0) : okP (decP bs).1 = true ∧ sealL (decP bs).1.body = bs := by
 unfold decP at h ⊢
 split at h
 ·
  cases h
 ·
  rename_i hn
  rw [if_neg hn]
  exact decF_ok _ _ h
theorem dec_no {bs : List Int} (h : (decP bs).2 ≠ 0) : (decP bs).1 = pp0 := by
 unfold decP at h ⊢
 split at h
 ·
  rename_i hn
  rw [if_pos hn]
 ·
  rename_i hn
  rw [if_neg hn]
  exact decF_no _ _ h
theorem run_append_z (w : World) (ty : TypeId) (i : TypeInfo) (hi : Tryz.prog.info? 5 = some i) (hz : i.zero = some (.int .u8 0)) (h1 : i.size = 1) (h2 : i.bytes = 1) (b : Addr) (xs : List Value) (hl : xs.length = 4) (hc : ∀ j v, xs[j]? = some v → w.cell? (b.add j) = some v) (z : Nat) (h0 : 0 < z) (hz3 : z ≤ 3) :
  (Builtin.append_ #[43, 3] ty #[.slice (some b) 4 4, .int .i64 z]).run Tryz.prog w = .ok (.slice (some ⟨w.heap.size, 0, none⟩) (4 + z) (grownCap w (4 + z) 4 5)) (w.drew.alloc (.cells (xs.toArray ++ Builtin.zeroCells (Value.int .u8 0).cells z ++ Builtin.zeroCells (Value.int .u8 0).cells (grownCap w (4 + z) 4 5 - (4 + z))) 5)) := by
 have hw : IntKind.i64.wrap (z : Int) = z := by rw [IntKind.wrap_i64]; omega
 have hneg : ¬ ((z : Int) < 0) := by omega
 have hz1 : ¬ z = 0 := by omega
 have hn : ¬ (4 + z ≤ 4) := by omega
 have h63 : ¬ (9223372036854775807 < ((4 : Int) + z)) := by omega
 have h48 : ¬ (281474976710656 < Builtin.nextslicecap (4 + z) 4 * i.bytes) := by have := nextslicecap_le (need := 4 + z) (old := 4) (by omega); rw [h2]; omega
 have h48i : ¬ (281474976710656 < (z : Int) * (i.bytes : Int)) := by rw [h2]; omega
 have hns : ¬ (z * i.size = 0) := by rw [h1]; omega
 have hf := run_firstCells_some (P := Tryz.prog) w.drew i.size 4 b 4 4 xs (by rw [h1, hl]) (by simpa using hc)
 simp [Builtin.append_, run_underlying Tryz.underlying43, run_underlying Tryz.underlying3, sizeOf, typeInfo, zeroValue, hi, hz, asInt, asIntOf, hw, hneg, hz1, hns, h63, h48, h48i, Question.forced, hf, newRow, grownCap]
 intro h
 omega
theorem run_append_z0 (w : World) (ty : TypeId) (i : TypeInfo) (hi : Tryz.prog.info? 5 = some i) (b : Addr) :
  (Builtin.append_ #[43, 3] ty #[.slice (some b) 4 4, .int .i64 0]).run Tryz.prog w = .ok (.slice (some b) 4 4) w := by
 simp [Builtin.append_, run_underlying Tryz.underlying43, run_underlying Tryz.underlying3, sizeOf, typeInfo, zeroValue, hi, asInt, asIntOf, IntKind.wrap_i64, storeCells]
theorem zeros_u8 {z : Nat} (hz : z ≤ 3) : (Builtin.zeroCells (Value.int .u8 0).cells z).toList = (List.replicate z (0 : Int)).map (Value.int .u8) := by
 obtain rfl | rfl | rfl | rfl : z = 0 ∨ z = 1 ∨ z = 2 ∨ z = 3 := by omega
 all_goals simp [Builtin.zeroCells, Value.cells, List.range, List.range.loop]
theorem wpList_append_z {ops : Array Oper} {rest : List Oper} {o : Oper} {a : Act} {Q : Exit → Act → World → Prop} {w : World} (hgd : o.guard = none) (s x : Operand)
  (ho : o.op = .call { callee := .builtin .append, args := #[s, x], argTypes := #[43, 3] }) (w0 : World) (xs : List Int) (h4 : xs.length = 4) (z : Nat) (hz : z ≤ 3)
  (hw : w = w0.alloc (.cells (xs.map (Value.int .u8)).toArray 5)) (hs : a.eval s = .slice (some ⟨w0.heap.size, 0, none⟩) 4 4) (hx : a.eval x = .int .i64 z)
  (h : ∀ r' c' w', OwnK .u8 5 w' w0.heap.size r' c' (xs ++ List.replicate z 0) → Below w0.heap.size w0 w' → wpList Tryz.prog ops Q rest (a.put o.dst (.slice r' (4 + z) c')) w') : wpList Tryz.prog ops Q (o :: rest) a w := by
 obtain ⟨i0, hi, hz0, hz1, hz2⟩ := info_parts infoU8
 by_cases h0 : z = 0
 ·
  subst h0
  refine Lib.wpList_append_run w hgd s x _ _ ho _ _ hs hx _ w (run_append_z0 w _ i0 hi _) ?_
  have hO := own_built .u8 5 w0 w0.heap.size xs (Nat.le_refl _) (by unfold maxLen; omega)
  rw [← hw] at hO
  rw [h4] at hO
  have := h _ 4 w (by simpa using hO) (by rw [hw]; exact (Below.refl _ _).alloc (Nat.le_refl _) _)
  simpa using this
 ·
  have hc : ∀ j v, (xs.map (Value.int .u8))[j]? = some v → w.cell? ((⟨w0.heap.size, 0, none⟩ : Addr).add j) = some v := fun j v hj => by
   have : (⟨w0.heap.size, 0, none⟩ : Addr).add j = ⟨w0.heap.size, j, none⟩ := by
    by_cases hj0 : j = 0
    ·
     subst hj0; simp [Addr.add]
    ·
     simp [Addr.add, hj0]
   rw [this, hw, World.cell?_alloc_new]
   simpa using hj
  refine Lib.wpList_append_run w hgd s x _ _ ho _ _ hs hx _ _ (run_append_z w _ i0 hi hz0 hz1 hz2 _ _ (by simpa using h4) hc z (by omega) hz) ?_
  have hge := grownCap_ge w (4 + z) 4 5
  have hb : Below w0.heap.size w0 w := by rw [hw]; exact (Below.refl _ _).alloc (Nat.le_refl _) _
  refine h _ _ _ ?_ (hb.drew.alloc hb.drew.size _)
  have hzl := zeros_u8 hz
  have hsz : (Builtin.zeroCells (Value.int .u8 0).cells z).size = z := by rw [← Array.length_toList, hzl]; simp
  have hsz2 : ∀ n, (Builtin.zeroCells (Value.int .u8 0).cells n).size = n := fun n => by rw [size_zeroCells]; exact Nat.mul_one n
  refine ⟨by simp, Or.inr ⟨w.heap.size, grownCap w (4 + z) 4 5, _, by simp [h4], hb.size, heap_alloc_new w.drew _, by simp [h4]; omega, grownCap_le_maxLen w (4 + z) 4 5 (by unfold maxLen; omega), ?_, ?_⟩⟩
  ·
   simp only [Array.size_append, hsz2, List.size_toArray, List.length_map, h4]
   omega
  ·
   rw [Array.toList_append, Array.toList_append, hzl, ← List.map_append, Nat.mul_one]
   exact List.take_left' (by simp)
end Go.Proofs.YtfooefiaenlhmaaGreat
