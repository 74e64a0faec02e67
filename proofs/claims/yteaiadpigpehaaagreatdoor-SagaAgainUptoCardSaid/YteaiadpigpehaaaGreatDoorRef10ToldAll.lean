/-
  annalsref10.told lays the story of any saga whose bounds are kept. Conditions: lists that may be copied.
-/
import Derived.Test.YteaiadpigpehaaaGreatDoorRef10ToldP1
import Derived.Test.YteaiadpigpehaaaGreatDoorRef10ToldP2
import Derived.Test.YteaiadpigpehaaaGreatDoorRef10ToldP3
import Derived.Test.YteaiadpigpehaaaGreatDoorRef10ToldP4
namespace Go.Proofs.YteaiadpigpehaaaGreatDoor
open Go.RowKit

theorem told_sized {D : SagaD} (hm : D.held.Small) (hz : sizedD D = true) : ToldOk D := by
  obtain ⟨_, _, _, _, z5, z6, z7, z8, z9, z10, _⟩ := of_decide_eq_true hz
  intro s w hs
  have h : D.phase = 1 ∨ D.phase = 2 ∨ D.phase = 3 ∨ D.phase = 4 := by omega
  rcases h with h | h | h | h
  · exact told_1 s D w hs hm h z9 z10 ⟨z5, z6⟩
  · exact told_2 s D w hs hm h z9 z10 ⟨z5, z6⟩
  · exact told_3 s D w hs hm h z9 z10 ⟨z5, z6⟩
  · exact told_4 s D w hs hm h z9 z10 ⟨z5, z6⟩
end Go.Proofs.YteaiadpigpehaaaGreatDoor
