/-
  refused of saga's walk walked: why a record may not come. Conditions: the table of the landing kinds as laid.
-/
import Derived.Test.YteaiadpigpehaaaDoorWalkTry
import Derived.Test.YteaiadpigpehaaaDoorWalkStep
namespace Go.Proofs.YteaiadpigpehaaaDoor
open Go.RowKit

def pivotB (s : SagaV) (r : RecV) : Bool := decide (r.kind = 4 ∧ r.last = 1 ∧ 0 < s.pivot ∧ s.pivot ≤ r.step)
def refusedN (s : SagaV) (r : RecV) : Int :=
  if r.saga ≠ s.id then 101 else if r.kind = 1 then 102 else if s.phase ≠ 1 ∧ s.phase ≠ 2 then 103
  else if wrongPhaseB s r = true then 104 else if wrongFlightB s r.kind.toNat = true then 105 else if wrongStepB s r = true then 106
  else if wrongTryB s r = true then 107 else if pivotB s r = true then 108 else if wrongCodeB s r = true then 109 else 0

set_option maxRecDepth 10000000 in
set_option maxHeartbeats 4000000 in
theorem refused_any (g : Nat) (s : SagaV) (r : RecV) (w : World) (h : WalkIn w g s r) (hl : LandsAt w) (hk : 1 ≤ r.kind ∧ r.kind ≤ 7) (ht : 0 ≤ s.tries ∧ s.tries ≤ 1000) :
    Calls Tryd.prog 47 #[.pointer (some ⟨g, 0, none⟩)] w fun e w' => e = .returned (.int .i64 (refusedN s r)) ∧ Drawn w w' := by
  have hd0 := Drawn.refl w
  obtain ⟨b1, e1⟩ : ∃ x, wrongPhaseB s r = x := ⟨_, rfl⟩
  obtain ⟨b2, e2⟩ : ∃ x, wrongFlightB s r.kind.toNat = x := ⟨_, rfl⟩
  obtain ⟨b3, e3⟩ : ∃ x, wrongStepB s r = x := ⟨_, rfl⟩
  obtain ⟨b4, e4⟩ : ∃ x, wrongTryB s r = x := ⟨_, rfl⟩
  obtain ⟨b5, e5⟩ : ∃ x, wrongCodeB s r = x := ⟨_, rfl⟩
  have WD : ∀ w', Drawn w w' → WalkIn w' g s r := fun w' hd => h.below hd.below
  have LD : ∀ w', Drawn w w' → LandsAt w' := fun w' hd => hl.below hd.below
  have C1 := Lib.hid (fun w' hd => wrongPhase_any g s r w' (WD w' hd))
  have C2 := Lib.hid (fun w' hd => wrongFlight_any g s r r.kind.toNat (by omega) (by omega) w' (WD w' hd) (LD w' hd))
  have C3 := Lib.hid (fun w' hd => wrongStep_any g s r w' (WD w' hd))
  have C4 := Lib.hid (fun w' hd => wrongTry_any g s r w' (WD w' hd) ht)
  have C5 := Lib.hid (fun w' hd => wrongCode_any g s r w' (WD w' hd))
  rw [e1] at C1
  rw [e2] at C2
  rw [e3] at C3
  rw [e4] at C4
  rw [e5] at C5
  have hv : refusedN s r = if r.saga ≠ s.id then 101 else if r.kind = 1 then 102 else if s.phase ≠ 1 ∧ s.phase ≠ 2 then 103
    else if b1 = true then 104 else if b2 = true then 105 else if b3 = true then 106 else if b4 = true then 107 else if pivotB s r = true then 108 else if b5 = true then 109 else 0 := by
    unfold refusedN; rw [e1, e2, e3, e4, e5]
  obtain ⟨V, hV⟩ : ∃ x, refusedN s r = x := ⟨_, rfl⟩
  rw [hV] at hv
  rw [hV]
  have hp : pivotB s r = decide (r.kind = 4 ∧ r.last = 1 ∧ 0 < s.pivot ∧ s.pivot ≤ r.step) := rfl
  rw [hp] at hv
  clear hV hp e1 e2 e3 e4 e5 WD LD ht hl hk
  have HW := Lib.hid (fun w' (hd : Drawn w w') => h.below hd.below)
  clear h
  obtain ⟨id, name, count, pivot, begun, at_, ⟨ia, il, ic⟩, phase, next, flight, tries, ⟨oa, ol, oc⟩, ⟨ua, ul, uc⟩, fs, fc, ⟨fa, fl, fcap⟩⟩ := s
  obtain ⟨rv, kind, rsaga, rstep, rtry, rat, rlast, rcode, rcount, rpivot, rname, ⟨da, dn, dc⟩⟩ := r
  simp only at hv
  have HV := Lib.hid hv
  clear hv
  have h := HW.out w hd0
  have a0 := h.s.c0; have a3 := h.s.c3; have a7 := h.s.c7
  have r1 := h.r.c1; have r2 := h.r.c2; have r3 := h.r.c3; have r6 := h.r.c6
  simp only [Nat.zero_add, Nat.reduceAdd] at a0 a3 a7 r1 r2 r3 r6
  clear h
  go_enter Tryd.func47, Tryd.ntmps47
  go_wp2
  go_quiet (fail)
  have hd1 : Drawn w (w.drewN nq) := ⟨⟨_, rfl⟩⟩
  go_wp2_with (first
    | (go_at_call 74; (with_reducible refine (C1.out _ hd1).mono ?_); rintro e w1 ⟨rfl, rfl⟩)
    | (go_at_call 75; (with_reducible refine (C2.out _ hd1).mono ?_); rintro e w2 ⟨rfl, hd⟩; have hd2 := hd1.trans hd; clear hd; have h := HW.out w2 hd2; have a0 := h.s.c0; have a3 := h.s.c3; have a7 := h.s.c7; have r1 := h.r.c1; have r2 := h.r.c2; have r3 := h.r.c3; have r6 := h.r.c6; simp only [Nat.zero_add, Nat.reduceAdd] at a0 a3 a7 r1 r2 r3 r6; clear h)
    | (go_at_call 76; (with_reducible refine (C3.out _ hd2).mono ?_); rintro e w3 ⟨rfl, hd⟩; have hd3 := hd2.trans hd; clear hd; have h := HW.out w3 hd3; have a0 := h.s.c0; have a3 := h.s.c3; have a7 := h.s.c7; have r1 := h.r.c1; have r2 := h.r.c2; have r3 := h.r.c3; have r6 := h.r.c6; simp only [Nat.zero_add, Nat.reduceAdd] at a0 a3 a7 r1 r2 r3 r6; clear h)
    | (go_at_call 77; (with_reducible refine (C4.out _ hd3).mono ?_); rintro e w4 ⟨rfl, hd⟩; have hd4 := hd3.trans hd; clear hd; have h := HW.out w4 hd4; have a0 := h.s.c0; have a3 := h.s.c3; have a7 := h.s.c7; have r1 := h.r.c1; have r2 := h.r.c2; have r3 := h.r.c3; have r6 := h.r.c6; simp only [Nat.zero_add, Nat.reduceAdd] at a0 a3 a7 r1 r2 r3 r6; clear h)
    | (go_at_call 78; (with_reducible refine (C5.out _ hd4).mono ?_); rintro e w5 ⟨rfl, hd⟩; have hd5 := hd4.trans hd; clear hd))
  all_goals try (go_quiet (fail); go_wp2)
  all_goals try (go_quiet (fail); go_wp2)
  all_goals first
    | (go_ret; refine ⟨ret_int ?_, by first | exact hd1 | exact hd2 | exact hd3 | exact hd4 | exact hd5⟩; rw [HV.out]; simp_all; done)
    | skip
  all_goals
    have q : (kind == 4) = false ∨ (kind = 4 ∧ (rlast == 1) = false) ∨ (kind = 4 ∧ rlast = 1 ∧ decide (0 < pivot) = false) ∨ (kind = 4 ∧ rlast = 1 ∧ decide (0 < pivot) = true ∧ decide (pivot ≤ rstep) = false) ∨ (kind = 4 ∧ rlast = 1 ∧ decide (0 < pivot) = true ∧ decide (pivot ≤ rstep) = true) := by
      simp only [beq_eq_false_iff_ne, decide_eq_false_iff_not, decide_eq_true_eq, ne_eq]
      omega
    rcases q with q | ⟨rfl, q⟩ | ⟨rfl, rfl, q⟩ | ⟨rfl, rfl, q1, q2⟩ | ⟨rfl, rfl, q1, q2⟩
  all_goals
    go_quiet (fail)
    have hd5 := hd4.step nq
    go_wp2_with (go_at_call 78; (with_reducible refine (C5.out _ hd5).mono ?_); rintro e w6 ⟨rfl, hd⟩; have hd6 := hd5.trans hd; clear hd)
  all_goals go_ret
  all_goals refine ⟨ret_int ?_, by first | exact hd6 | exact hd5⟩
  all_goals (rw [HV.out]; (try simp at q q1 q2); (try simp at q1 q2); (try simp at q); simp_all <;> omega)
end Go.Proofs.YteaiadpigpehaaaDoor
