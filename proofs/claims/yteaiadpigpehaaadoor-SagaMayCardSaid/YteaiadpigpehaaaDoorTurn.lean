/-
  saga.turn walked. Conditions: none.
-/
import Derived.Test.YteaiadpigpehaaaDoorUndone
namespace Go.Proofs.YteaiadpigpehaaaDoor
open Go.RowKit

def turnF (k : Int) : FuncId := if k = 2 ∨ k = 5 then 79 else if k = 3 then 80 else if k = 4 then 81 else if k = 6 then 82 else 83

set_option maxRecDepth 100000 in
theorem turn_any (k : Int) (w : World) : Calls Tryd.prog 48 #[.int .i64 k] w fun e w' => e = .returned (.func (.func (turnF k)) #[] #[]) ∧ w' = w := by
  obtain ⟨V, hV⟩ : ∃ x, turnF k = x := ⟨_, rfl⟩
  rw [hV]
  have HV := Lib.hid hV
  clear hV
  by_cases h2 : k = 2
  · subst h2
    obtain rfl : V = 79 := HV.out.symm
    go_enter Tryd.func48, Tryd.ntmps48
    go_wp2
    all_goals go_ret
    all_goals exact ⟨rfl, rfl⟩
  by_cases h5 : k = 5
  · subst h5
    obtain rfl : V = 79 := HV.out.symm
    go_enter Tryd.func48, Tryd.ntmps48
    go_wp2
    all_goals go_ret
    all_goals exact ⟨rfl, rfl⟩
  by_cases h3 : k = 3
  · subst h3
    obtain rfl : V = 80 := HV.out.symm
    go_enter Tryd.func48, Tryd.ntmps48
    go_wp2
    all_goals go_ret
    all_goals exact ⟨rfl, rfl⟩
  by_cases h4 : k = 4
  · subst h4
    obtain rfl : V = 81 := HV.out.symm
    go_enter Tryd.func48, Tryd.ntmps48
    go_wp2
    all_goals go_ret
    all_goals exact ⟨rfl, rfl⟩
  by_cases h6 : k = 6
  · subst h6
    obtain rfl : V = 82 := HV.out.symm
    go_enter Tryd.func48, Tryd.ntmps48
    go_wp2
    all_goals go_ret
    all_goals exact ⟨rfl, rfl⟩
  · obtain rfl : V = 83 := by rw [← HV.out]; unfold turnF; rw [if_neg (by omega), if_neg h3, if_neg h4, if_neg h6]
    clear HV
    go_enter Tryd.func48, Tryd.ntmps48
    go_wp2
    all_goals go_ret
    all_goals exact ⟨rfl, rfl⟩
end Go.Proofs.YteaiadpigpehaaaDoor
