/- Words of bytes: the package's Words. -/
import Derived.Test.YtfooefiaenlhmaaImgL
import Derived.Laws.BitsAllLaws
namespace Go.Proofs.Ytfooefiaenlhmaa
set_option linter.unusedVariables false
set_option linter.unusedSimpArgs false
open Go.RowKit Go.ChangeShapes Go.WideShapes Go.ChangeAt Go.Shelf
attribute [local go_sem] Oper.semAt_some

/-- The value of the first k of some bytes. -/
def wAcc (f : Nat → Int) : Nat → Int
  | 0 => 0
  | k + 1 => wAcc f k * 256 + f k
theorem wAcc_bd {f : Nat → Int} (hf : ∀ i, 0 ≤ f i ∧ f i ≤ 255) : ∀ k, 0 ≤ wAcc f k ∧ wAcc f k < 256 ^ k
  | 0 => by simp [wAcc]
  | k + 1 => by
    have h := wAcc_bd hf k
    have g := hf k
    have e : (256 : Int) ^ (k + 1) = 256 ^ k * 256 := Int.pow_succ _ _
    simp only [wAcc]
    rw [e]
    omega
theorem wAcc4 {f : Nat → Int} (hf : ∀ i, 0 ≤ f i ∧ f i ≤ 255) : ∀ k, k < 4 → 0 ≤ wAcc f k ∧ wAcc f k < 16777216 := by
  intro k hk
  have h := wAcc_bd hf k
  obtain rfl | rfl | rfl | rfl : k = 0 ∨ k = 1 ∨ k = 2 ∨ k = 3 := by omega
  all_goals (constructor; exact h.1; have := h.2; omega)
def byteOf (bs : List Int) (i : Nat) : Int := bs.getD i 0
theorem byteOf_bd {bs : List Int} (h : ByteL bs) (i : Nat) : 0 ≤ byteOf bs i ∧ byteOf bs i ≤ 255 := by
  unfold byteOf
  by_cases hi : i < bs.length
  · exact h _ (getD_mem' hi)
  · rw [List.getD_eq_getElem?_getD, List.getElem?_eq_none (by omega)]
    simp
theorem byteOf_out {bs : List Int} {i : Nat} (h : bs.length ≤ i) : byteOf bs i = 0 := by
  unfold byteOf
  rw [List.getD_eq_getElem?_getD, List.getElem?_eq_none h]
  rfl
/-- A word of bytes. -/
def wordAt (bs : List Int) (k : Nat) : Int := wAcc (fun i => byteOf bs (4 * k + i)) 4
def wordsB (bs : List Int) : List Int := (List.range ((bs.length + 3) / 4)).map (wordAt bs)
theorem wordsB_len (bs : List Int) : (wordsB bs).length = (bs.length + 3) / 4 := by simp [wordsB]
theorem or_low {a b : Int} (h0 : 0 ≤ a) (h1 : a < 16777216) (b0 : 0 ≤ b) (b1 : b ≤ 255) : bits .or .u32 (a * 256) b = a * 256 + b := by
  rw [u32_or _ _ (by omega) (by omega) (by omega) (by omega)]
  have e : (a * 256).toNat = 2 ^ 8 * a.toNat := by omega
  rw [e, ← Nat.two_pow_add_eq_or_of_lt (by omega : b.toNat < 2 ^ 8)]
  omega
theorem wordAt_bd {bs : List Int} (h : ByteL bs) (k : Nat) : 0 ≤ wordAt bs k ∧ wordAt bs k ≤ 4294967295 := by
  have := wAcc_bd (f := fun i => byteOf bs (4 * k + i)) (fun i => byteOf_bd h _) 4
  unfold wordAt
  omega
theorem wordsB_bd {bs : List Int} (h : ByteL bs) : ∀ x ∈ wordsB bs, 0 ≤ x ∧ x ≤ 4294967295 := by
  intro x hx
  simp only [wordsB, List.mem_map] at hx
  obtain ⟨k, _, rfl⟩ := hx
  exact wordAt_bd h k
theorem chL_map {n k : Nat} (h : ∀ i, i < k → 4 * i < n) (f : Nat → Int) : (chL n k).map (fun x => f x.1) = (List.range k).map f := by
  induction k with
  | zero => rfl
  | succ k ih => rw [chL_succ (h k (by omega)), List.map_append, ih (fun i hi => h i (by omega)), List.range_succ, List.map_append]; rfl

theorem ownFrom_keepB {β : Type} {B Bo D : Nat} {w₀ : World} (hB : B ≤ D) (h0 : B ≤ w₀.heap.size := by exact Nat.le_refl _) : OwnFrom D (fun (_ : β) W => KeepB B Bo w₀ W) := fun _ X Y row hs hg hr =>
  ⟨hs.zero.grown hg (Nat.zero_le _) (fun k e => Nat.zero_le _), fun q hq hn => by
    rw [hg.block q (by have := hs.zero.size; omega) (fun e => by have := (hr q e.symm).1; omega)]
    exact hs.block q hq hn⟩
def wordsI (n : Nat) (f : Nat → Int) (B Bo : Nat) (pre : List (Ch n)) (W : World) : Prop := ∃ v, Boxed W Bo 40 v ∧ W.ownsRow B 35 1 v pre.length ((pre.map (fun x => f x.1)).map (Value.int .u32)) ∧ True
theorem wordsI_own (n : Nat) (f : Nat → Int) (B Bo : Nat) : Own (wordsI n f B Bo) := holdsRow_own B Bo 40 35 1 (fun pre : List (Ch n) => pre.length) (fun pre : List (Ch n) => (pre.map (fun x : Ch n => f x.1)).map (Value.int .u32)) (fun _ _ => True)
theorem wordsI_snoc {n : Nat} {f : Nat → Int} {B Bo : Nat} {pre : List (Ch n)} {x : Ch n} {W : World} {v : Value} (h1 : Boxed W Bo 40 v) (h2 : W.ownsRow B 35 1 v (pre.length + 1) ((pre.map (fun x : Ch n => f x.1)).map (Value.int .u32) ++ [.int .u32 (f x.1)])) : wordsI n f B Bo (pre ++ [x]) W :=
  ⟨v, h1, by simpa using h2, trivial⟩
set_option maxRecDepth 100000 in
set_option maxHeartbeats 400000 in
theorem iwords_any (r : Option Addr) (cap : Nat) (bs : List Int) (w : World) (hx : IsInts w r cap .u8 bs) (hl : bs.length ≤ 1000000) : Calls Try.prog 17 #[.slice r bs.length cap] w fun e w' => ∃ ro co, e = .returned (.slice ro (wordsB bs).length co) ∧ OwnK .u32 35 w' w.heap.size ro co (wordsB bs) ∧ Below w.heap.size w w' := by
  have hby : ByteL bs := fun x h => wf_u8 (hx.wf x h)
  obtain ⟨i0, hi0, hz0, hz1, hz2⟩ := info_parts infoU32
  refine (callsIn_wide (n := 10)).1 ?_
  refine callsIn_of_wp_marks Try.func17 rfl trivial ?_ rfl
  simp only [Try.ntmps17, List.size_toArray, List.length_cons, List.length_nil, Nat.reduceAdd, Nat.reduceSub, Array.replicate_succ, Array.replicate_zero, List.push_toArray, List.append_toArray, List.nil_append, List.cons_append]
  gi_wp2_with (refine ⟨trivial, ?_⟩; gi_at_call 44; refine (chunk_in _ _ _ _).mono ?_; rintro e w' ⟨rfl, rfl⟩)
  have bO := Boxed.new w 40 (.slice none 0 0)
  have hB0 : Below w.heap.size w (((w.alloc (.cells #[.slice none 0 0] 40)).alloc (.cells #[.slice r bs.length cap] 29)).alloc (.cells #[.int .i64 4] 3)) := ((((Below.refl _ w).alloc (Nat.le_refl _) _).alloc (by simp) _).alloc (by simp; omega) _)
  have hz : (((w.alloc (.cells #[.slice none 0 0] 40)).alloc (.cells #[.slice r bs.length cap] 29)).alloc (.cells #[.int .i64 4] 3)).heap.size = w.heap.size + 3 := by simp
  have bO3 := (bO.alloc (.cells #[.slice r bs.length cap] 29)).alloc (.cells #[.int .i64 4] 3)
  have c1 := ((Boxed.new (w.alloc (.cells #[.slice none 0 0] 40)) 29 (.slice r bs.length cap)).alloc (.cells #[.int .i64 4] 3)).cell
  have c2 := (Boxed.new ((w.alloc (.cells #[.slice none 0 0] 40)).alloc (.cells #[.slice r bs.length cap] 29)) 3 (.int .i64 4)).cell
  rw [World.size_alloc] at c1
  rw [World.size_alloc, World.size_alloc] at c2
  generalize hW0 : ((w.alloc (.cells #[.slice none 0 0] 40)).alloc (.cells #[.slice r bs.length cap] 29)).alloc (.cells #[.int .i64 4] 3) = W0 at *
  have hra1 : bs ≠ [] → ∀ a, r = some a → a.block ≠ w.heap.size := fun hne a ha => by
    obtain ⟨b, off, h1, h2, _⟩ := hx.cells hne
    rw [ha] at h1
    simp only [Option.some.injEq] at h1
    subst h1
    exact Nat.ne_of_lt h2
  obtain ⟨b, off, hcell, hseq⟩ := chunk_seq (w.heap.size + 1) (w.heap.size + 1 + 1) W0.heap.size w.heap.size cap r bs W0 hl (hx.later hB0) (Nat.le_refl _) hra1 (by omega) (by omega) (by omega) (by omega) c1 c2
  refine wpIn_rangeFunc_ownG (F := Fence.wide) (n := 10) rfl (by omega) (gf := 84) (lb := #[.pointer (some ⟨w.heap.size + 1, 0, none⟩), .pointer (some ⟨w.heap.size + 1 + 1, 0, none⟩)]) rfl trivial (enters_of Try.func84 (by kernel_rfl) rfl)
    hseq KeepB.trans (fun W l o o' hl h _ _ => KeepB.put W l o o' hl h) (Below.refl _ _) (fun _ => rfl)
    (fun pre W => wordsI bs.length (wordAt bs) W0.heap.size w.heap.size pre W ∧ KeepB W0.heap.size w.heap.size W0 W)
    (fun _ _ _ => False) ?hI (fun _ _ _ _ _ hs _ _ => hs) ?h0 ?a1 ?assign ?body ?done ?stop
  case assign =>
    intro l x W K hK
    gi_wp2
    exact hK
  case hI =>
    exact OwnFrom.and (Own.from (wordsI_own _ _ _ _) _) (ownFrom_keepB (Nat.le_refl _))
  case h0 =>
    exact ⟨⟨_, bO3, World.ownsRow_nil _ _ _ _, trivial⟩, KeepB.refl _ _ _⟩
  case body =>
    intro l pre x W hI1 hlt
    obtain ⟨⟨v, hv, hrow, hnil⟩, hB⟩ := hI1
    clear hnil
    have hc := hv.cell
    have hk : 4 * x.1 < bs.length := x.2
    have HFIN : Hid (∀ W' v', Boxed W' w.heap.size 40 v' → W'.ownsRow W0.heap.size 35 1 v' (pre.length + 1) ((pre.map (fun x : Ch bs.length => wordAt bs x.1)).map (Value.int .u32) ++ [.int .u32 (wAcc (fun i => byteOf bs (4 * x.1 + i)) 4)]) → wordsI bs.length (wordAt bs) W0.heap.size w.heap.size (pre ++ [x]) W') := Lib.hid (fun _ _ h1 h2 => wordsI_snoc h1 h2)
    simp only [chEnc]
    generalize x.1 = k at *
    generalize (pre.map (fun x : Ch bs.length => wordAt bs x.1)).map (Value.int .u32) = L at *
    obtain ⟨hb, hbo, hcl⟩ := hcell (by omega)
    have hcw : Hid (∀ i, 4 * k + i < bs.length → W.cell? ⟨b, off + 4 * k + i, none⟩ = some (.int .u8 (byteOf bs (4 * k + i)))) := Lib.hid (fun i hi => by
      rw [hB.cell hb hbo, Nat.add_assoc]
      exact hcl _ hi)
    have HF : Hid (∀ i, 0 ≤ byteOf bs (4 * k + i) ∧ byteOf bs (4 * k + i) ≤ 255) := Lib.hid (fun i => byteOf_bd hby _)
    have HA : Hid (∀ i, i < 4 → 0 ≤ wAcc (fun i => byteOf bs (4 * k + i)) i ∧ wAcc (fun i => byteOf bs (4 * k + i)) i < 16777216) := Lib.hid (wAcc4 HF.out)
    have HOut : Hid (∀ i, bs.length ≤ 4 * k + i → byteOf bs (4 * k + i) = 0) := Lib.hid (fun i hi => byteOf_out hi)
    have hm1 : min 4 (bs.length - 4 * k) ≤ 4 := by omega
    have hm2 : 4 * k + min 4 (bs.length - 4 * k) ≤ bs.length := by omega
    have hm3 : min 4 (bs.length - 4 * k) < 4 → 4 * k + min 4 (bs.length - 4 * k) = bs.length := by omega
    generalize min 4 (bs.length - 4 * k) = m at *
    clear hcl hcell hseq
    gi_wp2
    gi_loopw [5, 10] (fun s5 s10 wr => ∃ i : Nat, i ≤ 4 ∧ s10 = .int .i64 i ∧ s5 = .int .u32 (wAcc (fun i => byteOf bs (4 * k + i)) i) ∧ wr = W) (fun _ s10 _ => 4 - (intOf s10).toNat)
    case atStart => exact ⟨0, by omega, rfl, rfl, rfl⟩
    case round =>
      obtain ⟨i, hi, rfl, rfl, rfl⟩ := hrel
      by_cases hi4 : i < 4
      · have hA := HA.out i hi4
        have hF := HF.out i
        have hi5 : (i : Int) < 4 := by omega
        have e1 : wAcc (fun i => byteOf bs (4 * k + i)) (i + 1) = wAcc (fun i => byteOf bs (4 * k + i)) i * 256 + byteOf bs (4 * k + i) := rfl
        have H1 := Lib.hid e1
        clear e1
        have hO := HOut.out i
        have hcc := hcw.out i
        have hor := or_low hA.1 hA.2 hF.1 hF.2
        generalize wAcc (fun i => byteOf bs (4 * k + i)) i = a at *
        generalize byteOf bs (4 * k + i) = x at *
        have hwr : IntKind.u32.wrap (a * 256) = a * 256 := by simp [IntKind.wrap, IntKind.signed, IntKind.bits]; omega
        by_cases him : i < m
        · have hcc := hcc (by omega)
          have him2 : (i : Int) < m := by omega
          gi_wp2
          go_roundw
          case rel => exact ⟨i + 1, by omega, by go_num, by rw [H1.out], trivial⟩
          case measure => simp [intOf]; omega
        · have hO := hO (by omega)
          have him2 : ¬ (i : Int) < m := by omega
          gi_wp2
          go_roundw
          case rel => exact ⟨i + 1, by omega, by go_num, by rw [H1.out, hO, Int.add_zero], trivial⟩
          case measure => simp [intOf]; omega
      · obtain rfl : i = 4 := by omega
        gi_wp2_with (gi_at_builtin; refine wpListIn_append_own _ rfl _ _ 40 rfl W0.heap.size 35 i0 (.int .u32 0) 1 4 Try.underlying40 hi0 hz0 hz1 hz2 rfl (by decide) _ _ _ rfl (hrow.alloc _) ⟨wr.heap.size, 0, none⟩ 1 1 [.int .u32 _] rfl rfl (cell_one_new _ _ _) (by simp [Value.oneCell']) (by unfold maxLen; omega) (by omega) (by have := hB.zero.size; simp; omega) ?_; intro v' w1 hown' hgrow _; obtain ⟨g', cap', rfl⟩ := ownsRow_succ hown'; obtain ⟨hv1, hv2, hr2, hk2, hb2⟩ := box_append hv (by decide) hrow hB.zero.size hown' hgrow; have hc1 := hv1.cell; have hf1 := hv1.frozen)
        exact ⟨hk2.from _, hb2, HFIN.out _ _ hv2 hr2, hB.trans hb2⟩
  case done =>
    rintro D ys W hD rfl ⟨⟨v, hv, hrow, hnil⟩, hB⟩ hK
    have hc := hv.cell
    gi_wp2
    refine ⟨by simp, .inl ⟨_, _, rfl, run_takeDeferred hK, ?_⟩⟩
    have hB2 : Below w.heap.size w (W.putObj D (.deferred none)) := hB0.trans ((hB.below (by omega) (Nat.le_refl _)).trans (belowK_b (w := W0) (by omega) W D _ _ hD hK rfl rfl))
    have hrow2 := ownsRow_putObj hrow (.deferred none) hK rfl
    have hn3 : ∀ i, i < (bs.length + 3) / 4 → 4 * i < bs.length := fun i hi => by omega
    rw [chL_map hn3, chL_len hn3] at hrow2
    have hvv : ∃ ro co, v = .slice ro (wordsB bs).length co := by
      rw [wordsB_len]
      rcases hrow2.2 with ⟨h1, h3⟩ | ⟨g, c, cur, h1, _⟩
      · exact ⟨none, 0, by rw [h1, h3]⟩
      · exact ⟨_, _, by rw [h1]⟩
    obtain ⟨ro, co, rfl⟩ := hvv
    refine ⟨_, results_tmp rfl _ _ _, ro, co, rfl, OwnK.base ?_ (by omega : w.heap.size ≤ W0.heap.size), hB2⟩
    unfold OwnK
    rw [wordsB_len] at hrow2 ⊢
    exact hrow2
  case stop =>
    rintro D c pre W _ _ h _
    exact h.elim
end Go.Proofs.Ytfooefiaenlhmaa
