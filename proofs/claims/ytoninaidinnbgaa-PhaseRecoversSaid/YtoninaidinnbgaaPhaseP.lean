/- Phases in plain terms: the edges and turns of a phase, a run of them, and the reference's form of each. -/
import Derived.Test.YtoninaidinnbgaaLib
namespace Go.Proofs.Ytoninaidinnbgaa
set_option linter.unusedVariables false
set_option linter.unusedSimpArgs false

structure Ph where
  known : Bool
  half : Int
  count : Int
  seen : Bool
deriving DecidableEq
def phZero : Ph := ⟨false, 0, 0, false⟩
structure Ph.Ok (p : Ph) : Prop where
  cnt : 0 ≤ p.count ∧ p.count ≤ 16
  half : p.half = 0 ∨ p.half = 1
  seen : p.seen = false → p.count = 0 ∧ p.known = false
  known : p.known = false → p.half = 0
def Ph.edge (p : Ph) : Ph := if p.seen = true then { p with count := min (p.count + 1) 16 } else p
def Ph.turn (a b : Int) (p : Ph) : Ph :=
  if p.seen = false then ⟨false, 0, 0, true⟩
  else if p.count = a then
    (if p.known = true ∧ p.half = 1 then ⟨false, 0, 0, true⟩ else ⟨true, 1, 0, true⟩)
  else if p.count = b then
    (if p.known = true ∧ p.half = 0 then ⟨false, 0, 0, true⟩ else ⟨true, 0, 0, true⟩)
  else ⟨false, 0, 0, true⟩
theorem phZero_ok : phZero.Ok := ⟨by simp [phZero], Or.inl rfl, fun _ => ⟨rfl, rfl⟩, fun _ => rfl⟩
theorem Ph.Ok.edge {p : Ph} (h : p.Ok) : p.edge.Ok := by
  unfold Ph.edge
  split
  · rename_i hs
    have h1 := h.cnt
    refine ⟨⟨?_, ?_⟩, h.half, ?_, h.known⟩
    · show 0 ≤ min (p.count + 1) 16
      omega
    · show min (p.count + 1) 16 ≤ 16
      omega
    · intro h2
      change p.seen = false at h2
      rw [hs] at h2
      cases h2
  · exact h
theorem Ph.turn_ok (a b : Int) (p : Ph) : (p.turn a b).Ok := by
  unfold Ph.turn
  split
  · exact ⟨by simp, Or.inl rfl, fun h => (by cases h), fun _ => rfl⟩
  · split
    · split
      · exact ⟨by simp, Or.inl rfl, fun h => (by cases h), fun _ => rfl⟩
      · exact ⟨by simp, Or.inr rfl, fun h => (by cases h), fun h => (by cases h)⟩
    · split
      · split
        · exact ⟨by simp, Or.inl rfl, fun h => (by cases h), fun _ => rfl⟩
        · exact ⟨by simp, Or.inl rfl, fun h => (by cases h), fun h => (by cases h)⟩
      · exact ⟨by simp, Or.inl rfl, fun h => (by cases h), fun _ => rfl⟩
/-- The edges up to a time: the phase after them, and those that are left. -/
def phEdges (t : Int) : Ph → List Int → Ph × List Int
  | p, [] => (p, [])
  | p, x :: xs => if x ≤ t then phEdges t p.edge xs else (p, x :: xs)
def phRun (a b : Int) : Ph → List Int → List Int → List Ph
  | _, [], _ => []
  | p, t :: ts, es =>
    (phEdges t p es).1.turn a b :: phRun a b ((phEdges t p es).1.turn a b) ts (phEdges t p es).2
theorem phRun_len (a b : Int) : ∀ (ts es : List Int) (p : Ph), (phRun a b p ts es).length = ts.length
  | [], _, _ => rfl
  | _ :: ts, es, p => by simp [phRun, phRun_len a b ts]
theorem phEdges_ok (t : Int) : ∀ (es : List Int) (p : Ph), p.Ok → (phEdges t p es).1.Ok
  | [], _, h => h
  | x :: xs, p, h => by
    unfold phEdges
    split
    · exact phEdges_ok t xs _ h.edge
    · exact h
theorem phRun_ok (a b : Int) : ∀ (ts es : List Int) (p : Ph), ∀ q ∈ phRun a b p ts es, q.Ok
  | [], _, _, q, h => by simp [phRun] at h
  | t :: ts, es, p, q, h => by
    simp only [phRun, List.mem_cons] at h
    rcases h with rfl | h
    · exact Ph.turn_ok _ _ _
    · exact phRun_ok a b ts _ _ q h
end Go.Proofs.Ytoninaidinnbgaa
