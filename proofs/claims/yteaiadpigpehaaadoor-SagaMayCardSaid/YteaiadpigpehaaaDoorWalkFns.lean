/-
  The tests of saga's walk walked: wrongPhase, wrongStep, wrongTry, wrongCode. Conditions: none.
-/
import Derived.Test.YteaiadpigpehaaaDoorCells
namespace Go.Proofs.YteaiadpigpehaaaDoor
open Go.RowKit

/-- A walk's words at a block: the saga's, then the record's. -/
structure WalkIn (w : World) (g : Nat) (s : SagaV) (r : RecV) : Prop where
  s : SagaIn w g 0 s
  r : RecIn w g 16 r
theorem WalkIn.below {w w' : World} {g : Nat} {s : SagaV} {r : RecV} (h : WalkIn w g s r) (hb : Below w.heap.size w w') : WalkIn w' g s r := ⟨h.s.below hb, h.r.below hb⟩

def wrongPhaseB (s : SagaV) (r : RecV) : Bool :=
  if r.kind = 2 ∨ r.kind = 3 then s.phase == 2 else if r.kind = 5 ∨ r.kind = 6 then s.phase == 1 else if r.kind = 4 then (s.phase == 2 && r.last == 1) else false
def wrongStepB (s : SagaV) (r : RecV) : Bool :=
  if r.kind = 7 ∧ s.phase = 1 then s.next != s.count else if r.kind = 7 then s.next != 0 else if s.phase = 1 then (r.step != s.next || s.next == s.count) else r.step != wrap64 (s.next - 1)
def wrongTryB (s : SagaV) (r : RecV) : Bool := (r.kind == 2 || r.kind == 5) && (r.try_ != min (s.tries + 1) 1000)
def wrongCodeB (s : SagaV) (r : RecV) : Bool := if r.kind ≠ 7 ∨ r.code = 0 then false else r.code != s.phase

set_option maxRecDepth 100000 in
theorem wrongPhase_any (g : Nat) (s : SagaV) (r : RecV) (w : World) (h : WalkIn w g s r) :
    Calls Tryd.prog 74 #[.pointer (some ⟨g, 0, none⟩)] w fun e w' => e = .returned (.bool (wrongPhaseB s r)) ∧ w' = w := by
  have h7 := h.s.c7
  have k1 := h.r.c1
  have k6 := h.r.c6
  simp only [Nat.zero_add, Nat.reduceAdd] at h7 k1 k6
  clear h
  unfold wrongPhaseB
  obtain ⟨phase, hp⟩ : ∃ x, s.phase = x := ⟨_, rfl⟩
  obtain ⟨kind, hk⟩ : ∃ x, r.kind = x := ⟨_, rfl⟩
  obtain ⟨last, hl⟩ : ∃ x, r.last = x := ⟨_, rfl⟩
  rw [hp] at h7
  rw [hk] at k1
  rw [hl] at k6
  rw [hp, hk, hl]
  clear hp hk hl
  go_enter Tryd.func74, Tryd.ntmps74
  go_wp2
  all_goals go_ret
  all_goals refine ⟨ret_bool ?_, rfl⟩
  all_goals simp_all

set_option maxRecDepth 100000 in
theorem wrongCode_any (g : Nat) (s : SagaV) (r : RecV) (w : World) (h : WalkIn w g s r) :
    Calls Tryd.prog 78 #[.pointer (some ⟨g, 0, none⟩)] w fun e w' => e = .returned (.bool (wrongCodeB s r)) ∧ Drawn w w' := by
  have s7 := h.s.c7
  have r1 := h.r.c1
  have r7 := h.r.c7
  simp only [Nat.zero_add, Nat.reduceAdd] at s7 r1 r7
  clear h
  unfold wrongCodeB
  obtain ⟨xphase, ephase⟩ : ∃ x, s.phase = x := ⟨_, rfl⟩
  rw [ephase] at s7
  obtain ⟨ykind, fkind⟩ : ∃ x, r.kind = x := ⟨_, rfl⟩
  rw [fkind] at r1
  obtain ⟨ycode, fcode⟩ : ∃ x, r.code = x := ⟨_, rfl⟩
  rw [fcode] at r7
  rw [ephase, fkind, fcode]
  clear ephase fkind fcode
  go_enter Tryd.func78, Tryd.ntmps78
  go_wp2
  all_goals try (go_quiet (fail); go_wp2)
  all_goals try (go_quiet (fail); go_wp2)
  all_goals go_ret
  all_goals refine ⟨ret_bool ?_, by first | exact Drawn.refl _ | exact ⟨⟨_, rfl⟩⟩⟩
  all_goals simp_all
end Go.Proofs.YteaiadpigpehaaaDoor
