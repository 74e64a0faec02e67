/-
  The function that saga.turn picks, at a walk whose words are read as plain data. Conditions: none.
-/
import Derived.Test.YteaiadpigpehaaaDoorTurn
import Derived.Test.YteaiadpigpehaaaDoorMoves
namespace Go.Proofs.YteaiadpigpehaaaDoor
open Go.RowKit

/-- A walk at a block, read as plain data. -/
structure WalkD (w : World) (B g : Nat) (D : SagaD) (X : RecD) (s : SagaV) (x : RecV) : Prop where
  eqs : s = D.words s.input s.outs s.undos s.fail
  eqx : x = X.words x.data
  own : WalkOwn w B g s D.held x X.data
theorem WalkD.sagaOwn {w : World} {B g : Nat} {D : SagaD} {X : RecD} {s : SagaV} {x : RecV} (k : WalkD w B g D X s x) : SagaOwn w B s D := ⟨k.eqs, k.own.own⟩
theorem WalkD.through {w w' : World} {B g : Nat} {D : SagaD} {X : RecD} {s : SagaV} {x : RecV} (k : WalkD w B g D X s x) (hb : Below w.heap.size w w') : WalkD w' B g D X s x := ⟨k.eqs, k.eqx, k.own.through hb⟩

theorem act_any (B g : Nat) (D : SagaD) (X : RecD) (s : SagaV) (x : RecV) (w : World) (k : WalkD w B g D X s x) (hn : 0 ≤ D.next ∧ D.next ≤ 1000) (ho : D.outs.length ≤ 1000) (hu : D.undos.length ≤ 1000) :
    Calls Tryd.prog (turnF X.kind) #[.pointer (some ⟨g, 0, none⟩)] w fun e w' => ∃ s' : SagaV, e = .returned (.tuple #[]) ∧ WalkD w' B g (turnD D X) X s' x ∧ Below B w w' := by
  obtain ⟨e1, e2, k⟩ := k
  have n1 : s.next = D.next := by rw [e1]
  have x1 : x.last = X.last := by rw [e2]
  unfold turnF turnD
  split
  · refine (begun_any B g s D.held x X.data w k).mono ?_
    rintro e w' ⟨rfl, h1, h2⟩
    exact ⟨_, rfl, ⟨by rw [e1, e2], e2, h1⟩, h2⟩
  · split
    · refine (done_any B g s D.held x X.data w k (by rw [n1]; exact hn) ho).mono ?_
      rintro e w' ⟨o, rfl, h1, h2⟩
      exact ⟨_, rfl, ⟨by rw [e1], e2, h1⟩, h2⟩
    · split
      · refine (failed_any B g s D.held x X.data w k).mono ?_
        rintro e w' ⟨rfl, h1, h2⟩
        rw [x1] at h1
        split at h1
        · next h0 =>
          rw [if_pos h0]
          exact ⟨_, rfl, ⟨by rw [e1], e2, h1⟩, h2⟩
        · next h0 =>
          rw [if_neg h0]
          exact ⟨_, rfl, ⟨by unfold failS; rw [e1, e2], e2, h1⟩, h2⟩
      · split
        · refine (undone_any B g s D.held x X.data w k (by rw [n1]; exact hn) hu).mono ?_
          rintro e w' ⟨o, rfl, h1, h2⟩
          exact ⟨_, rfl, ⟨by rw [e1], e2, h1⟩, h2⟩
        · refine (ended_any B g s D.held x X.data w k).mono ?_
          rintro e w' ⟨rfl, h1, h2⟩
          exact ⟨_, rfl, ⟨by unfold endPhase; rw [e1], e2, h1⟩, h2⟩
end Go.Proofs.YteaiadpigpehaaaDoor
