/-
  wrongTry and wrongFlight of saga's walk walked. Conditions: the table of the landing kinds as laid.
-/
import Derived.Test.YteaiadpigpehaaaDoorWalkFns
namespace Go.Proofs.YteaiadpigpehaaaDoor
open Go.RowKit

def landsL : List Bool := [false, false, false, true, true, false, true, false]
def LandsAt (w : World) : Prop := ∀ i, i < 8 → w.cell? ⟨2, i, none⟩ = some (.bool (landsL.getD i false))
theorem LandsAt.below {w w' : World} (h : LandsAt w) (hb : Below w.heap.size w w') : LandsAt w' := fun i hi => (hb.cell (World.block_lt_of_cell? w _ (h i hi))).trans (h i hi)
def wrongFlightB (s : SagaV) (k : Nat) : Bool := s.flight != landsL.getD k false

set_option maxRecDepth 100000 in
theorem wrongFlight_any (g : Nat) (s : SagaV) (r : RecV) (k : Nat) (hk : r.kind = k) (hk8 : k < 8) (w : World) (h : WalkIn w g s r) (hl : LandsAt w) :
    Calls Tryd.prog 75 #[.pointer (some ⟨g, 0, none⟩)] w fun e w' => e = .returned (.bool (wrongFlightB s k)) ∧ Drawn w w' := by
  have h9 := h.s.c9
  have k1 := h.r.c1
  have hc := hl k hk8
  simp only [Nat.zero_add, Nat.reduceAdd] at h9 k1
  rw [hk] at k1
  unfold wrongFlightB
  obtain ⟨F, hF⟩ : ∃ x, s.flight = x := ⟨_, rfl⟩
  obtain ⟨L, hL⟩ : ∃ x, landsL.getD k false = x := ⟨_, rfl⟩
  rw [hF] at h9
  rw [hL] at hc
  rw [hF, hL]
  clear h hl hF hL hk
  go_enter Tryd.func75, Tryd.ntmps75
  go_wp2
  all_goals try (go_quiet (fail); go_wp2)
  all_goals go_ret
  all_goals refine ⟨ret_bool ?_, by first | exact Drawn.refl _ | exact ⟨⟨_, rfl⟩⟩⟩
  all_goals (cases F <;> cases L <;> simp_all)

set_option maxRecDepth 100000 in
theorem wrongTry_any (g : Nat) (s : SagaV) (r : RecV) (w : World) (h : WalkIn w g s r) (ht : 0 ≤ s.tries ∧ s.tries ≤ 1000) :
    Calls Tryd.prog 77 #[.pointer (some ⟨g, 0, none⟩)] w fun e w' => e = .returned (.bool (wrongTryB s r)) ∧ Drawn w w' := by
  have h10 := h.s.c10
  have k1 := h.r.c1
  have k4 := h.r.c4
  simp only [Nat.zero_add, Nat.reduceAdd] at h10 k1 k4
  clear h
  unfold wrongTryB
  obtain ⟨tries, ht'⟩ : ∃ x, s.tries = x := ⟨_, rfl⟩
  obtain ⟨kind, hk⟩ : ∃ x, r.kind = x := ⟨_, rfl⟩
  obtain ⟨try_, hy⟩ : ∃ x, r.try_ = x := ⟨_, rfl⟩
  rw [ht'] at h10 ht
  rw [hk] at k1
  rw [hy] at k4
  rw [ht', hk, hy]
  clear ht' hk hy
  obtain ⟨ht0, ht1⟩ := ht
  by_cases h2 : kind = 2
  · subst h2
    go_enter Tryd.func77, Tryd.ntmps77
    go_wp2
    all_goals try (go_quiet (fail); go_wp2)
    all_goals go_ret
    all_goals refine ⟨ret_bool ?_, by first | exact Drawn.refl _ | exact ⟨⟨_, rfl⟩⟩⟩
    all_goals simp_all
  by_cases h5 : kind = 5
  · subst h5
    go_enter Tryd.func77, Tryd.ntmps77
    go_wp2
    all_goals try (go_quiet (fail); go_wp2)
    all_goals go_ret
    all_goals refine ⟨ret_bool ?_, by first | exact Drawn.refl _ | exact ⟨⟨_, rfl⟩⟩⟩
    all_goals simp_all
  · go_enter Tryd.func77, Tryd.ntmps77
    go_wp2
    all_goals try (go_quiet (fail); go_wp2)
    all_goals go_ret
    all_goals refine ⟨ret_bool ?_, by first | exact Drawn.refl _ | exact ⟨⟨_, rfl⟩⟩⟩
    all_goals simp_all
end Go.Proofs.YteaiadpigpehaaaDoor
