/-
  saga.forward, back walked. Conditions: none.
-/
import Derived.Test.YteaiadpigpehaaaDoorCells
namespace Go.Proofs.YteaiadpigpehaaaDoor
open Go.RowKit

def forwardB (s : SagaV) : Bool := decide (s.undos.n = 0 ∧ s.failStep = 0 ∧ s.failCode = 0 ∧ s.fail.n = 0 ∧ 0 ≤ s.next ∧ s.next ≤ s.count ∧ (s.outs.n : Int) = s.next ∧ (s.phase = 3 → s.next = s.count) ∧ (s.next = s.count → s.tries = 0) ∧ (s.next ≠ s.count → (s.next > 0 ∨ s.tries > 0 ∨ s.at_ = s.begun)))
def backB (s : SagaV) : Bool := decide (s.failStep = s.outs.n ∧ s.failStep < s.count ∧ (s.pivot > 0 → s.failStep < s.pivot) ∧ 0 ≤ s.next ∧ s.next ≤ s.failStep ∧ (s.undos.n : Int) = s.failStep - s.next ∧ (s.phase = 4 → s.next = 0) ∧ (s.next > 0 ∨ s.tries = 0))

set_option maxRecDepth 100000 in
set_option maxHeartbeats 4000000 in
theorem forward_any (s : SagaV) (w : World) : Calls Tryd.prog 52 #[s.val] w fun e w' => e = .returned (.bool (forwardB s)) ∧ Below w.heap.size w w' := by
  have hb : Below w.heap.size w w := Below.refl _ _
  obtain ⟨id, name, count, pivot, begun, at_, ⟨ia, il, ic⟩, phase, next, flight, tries, ⟨oa, ol, oc⟩, ⟨ua, ul, uc⟩, fs, fc, ⟨fa, fl, fcap⟩⟩ := s
  go_enter Tryd.func52, Tryd.ntmps52
  go_wp2
  all_goals go_ret
  all_goals refine ⟨ret_bool ?_, boxd hb⟩
  all_goals (rw [Bool.eq_iff_iff]; simp [forwardB] at *; omega)

set_option maxRecDepth 100000 in
set_option maxHeartbeats 4000000 in
theorem back_any (s : SagaV) (w : World) (h1 : s.next ≤ 9223372036854775807) (h2 : s.failStep ≤ 9223372036854775807): Calls Tryd.prog 53 #[s.val] w fun e w' => e = .returned (.bool (backB s)) ∧ Below w.heap.size w w' := by
  have hb : Below w.heap.size w w := Below.refl _ _
  obtain ⟨id, name, count, pivot, begun, at_, ⟨ia, il, ic⟩, phase, next, flight, tries, ⟨oa, ol, oc⟩, ⟨ua, ul, uc⟩, fs, fc, ⟨fa, fl, fcap⟩⟩ := s
  go_enter Tryd.func53, Tryd.ntmps53
  go_wp2
  all_goals go_ret
  all_goals refine ⟨ret_bool ?_, boxd hb⟩
  all_goals (rw [Bool.eq_iff_iff]; simp [backB] at *; (try unfold wrap64 at *); omega)
end Go.Proofs.YteaiadpigpehaaaDoor
