/-
  wrongStep of saga's walk walked. Conditions: none.
-/
import Derived.Test.YteaiadpigpehaaaDoorWalkFns
namespace Go.Proofs.YteaiadpigpehaaaDoor
open Go.RowKit

set_option maxRecDepth 100000 in
theorem wrongStep_any (g : Nat) (s : SagaV) (r : RecV) (w : World) (h : WalkIn w g s r) :
    Calls Tryd.prog 76 #[.pointer (some ⟨g, 0, none⟩)] w fun e w' => e = .returned (.bool (wrongStepB s r)) ∧ Drawn w w' := by
  have s7 := h.s.c7
  have s8 := h.s.c8
  have s2 := h.s.c2
  have r1 := h.r.c1
  have r3 := h.r.c3
  simp only [Nat.zero_add, Nat.reduceAdd] at s7 s8 s2 r1 r3
  clear h
  unfold wrongStepB
  obtain ⟨xphase, ephase⟩ : ∃ x, s.phase = x := ⟨_, rfl⟩
  rw [ephase] at s7
  obtain ⟨xnext, enext⟩ : ∃ x, s.next = x := ⟨_, rfl⟩
  rw [enext] at s8
  obtain ⟨xcount, ecount⟩ : ∃ x, s.count = x := ⟨_, rfl⟩
  rw [ecount] at s2
  obtain ⟨ykind, fkind⟩ : ∃ x, r.kind = x := ⟨_, rfl⟩
  rw [fkind] at r1
  obtain ⟨ystep, fstep⟩ : ∃ x, r.step = x := ⟨_, rfl⟩
  rw [fstep] at r3
  rw [ephase, enext, ecount, fkind, fstep]
  clear ephase enext ecount fkind fstep
  by_cases h7 : ykind = 7
  · by_cases h1 : xphase = 1
    · subst h7 h1
      go_enter Tryd.func76, Tryd.ntmps76
      go_wp2
      all_goals try (go_quiet (fail); go_wp2)
      all_goals try (go_quiet (fail); go_wp2)
      all_goals go_ret
      all_goals refine ⟨ret_bool ?_, by first | exact Drawn.refl _ | exact ⟨⟨_, rfl⟩⟩⟩
      all_goals simp_all
    · subst h7
      go_enter Tryd.func76, Tryd.ntmps76
      go_wp2
      all_goals try (go_quiet (fail); go_wp2)
      all_goals try (go_quiet (fail); go_wp2)
      all_goals go_ret
      all_goals refine ⟨ret_bool ?_, by first | exact Drawn.refl _ | exact ⟨⟨_, rfl⟩⟩⟩
      all_goals simp_all
  · by_cases h1 : xphase = 1
    · subst h1
      by_cases h2 : ystep = xnext
      · subst h2
        go_enter Tryd.func76, Tryd.ntmps76
        go_wp2
        all_goals try (go_quiet (fail); go_wp2)
        all_goals try (go_quiet (fail); go_wp2)
        all_goals go_ret
        all_goals refine ⟨ret_bool ?_, by first | exact Drawn.refl _ | exact ⟨⟨_, rfl⟩⟩⟩
        all_goals simp_all
      · have h2' : (ystep != xnext) = true := by rw [bne_iff_ne]; exact h2
        go_enter Tryd.func76, Tryd.ntmps76
        go_wp2
        all_goals try (go_quiet (fail); go_wp2)
        all_goals try (go_quiet (fail); go_wp2)
        all_goals go_ret
        all_goals refine ⟨ret_bool ?_, by first | exact Drawn.refl _ | exact ⟨⟨_, rfl⟩⟩⟩
        all_goals simp_all
    · go_enter Tryd.func76, Tryd.ntmps76
      go_wp2
      all_goals try (go_quiet (fail); go_wp2)
      all_goals try (go_quiet (fail); go_wp2)
      all_goals go_ret
      all_goals refine ⟨ret_bool ?_, by first | exact Drawn.refl _ | exact ⟨⟨_, rfl⟩⟩⟩
      all_goals simp_all

end Go.Proofs.YteaiadpigpehaaaDoor
