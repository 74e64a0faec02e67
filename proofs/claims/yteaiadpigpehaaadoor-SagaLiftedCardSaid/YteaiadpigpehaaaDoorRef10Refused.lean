/-
  annalsref10.refused walked. Conditions: a saga's next and tries from 0 to 1000, a kind from 1 to 7. (Printed by wip/gen_ref10refused.py.)
-/
import Derived.Test.YteaiadpigpehaaaDoorRef10RefA
import Derived.Test.YteaiadpigpehaaaDoorRef10RefB
import Derived.Test.YteaiadpigpehaaaDoorRef10RefC
namespace Go.Proofs.YteaiadpigpehaaaDoor
open Go.RowKit

theorem ref10Refused_any (s : SagaV) (r : RecV) (w : World) (hn : 0 ≤ s.next ∧ s.next ≤ 1000) (ht : 0 ≤ s.tries ∧ s.tries ≤ 1000) (hk : 1 ≤ r.kind ∧ r.kind ≤ 7) :
    Calls Tryd.prog 92 #[s.val, r.val] w fun e w' => e = .returned (.int .i64 (refN s r)) ∧ Below w.heap.size w w' := by
  have hcases : r.kind = 1 ∨ r.kind = 2 ∨ r.kind = 3 ∨ r.kind = 4 ∨ r.kind = 5 ∨ r.kind = 6 ∨ r.kind = 7 := by omega
  rcases hcases with h | h | h | h | h | h | h
  · exact refRefused_1 s r w hn ht h
  · exact refRefused_2 s r w hn ht h
  · exact refRefused_3 s r w hn ht h
  · exact refRefused_4 s r w hn ht h
  · exact refRefused_5 s r w hn ht h
  · exact refRefused_6 s r w hn ht h
  · exact refRefused_7 s r w hn ht h
end Go.Proofs.YteaiadpigpehaaaDoor
