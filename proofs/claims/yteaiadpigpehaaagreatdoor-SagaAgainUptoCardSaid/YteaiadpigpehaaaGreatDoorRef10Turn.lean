/-
  annalsref10.turn walked; what annalsref10.refused answers. Conditions: a saga's next from 0 to 1000 and its tries from 0 to 1000; a kind from 1 to 7. (Printed by wip/gen_ref10refused.py.)
-/
import Derived.Test.YteaiadpigpehaaaGreatDoorRef10Begin
namespace Go.Proofs.YteaiadpigpehaaaGreatDoor
open Go.RowKit

def turnB (s : SagaV) (r : RecV) : Bool :=
  decide (if r.kind = 7 ∧ s.phase = 1 then s.next = s.count else if r.kind = 7 then s.next = 0 else if s.phase = 1 then s.next < s.count ∧ r.step = s.next else 0 < s.next ∧ r.step = s.next - 1)
set_option maxRecDepth 100000 in
set_option maxHeartbeats 4000000 in
theorem ref10Turn_any (s : SagaV) (r : RecV) (w : World) (hn : 0 ≤ s.next ∧ s.next ≤ 1000) :
    Calls Tryz.prog 94 #[s.val, r.val] w fun e w' => e = .returned (.bool (turnB s r)) ∧ Below w.heap.size w w' := by
  have hb : Below w.heap.size w w := Below.refl _ _
  obtain ⟨id, name, count, pivot, begun, at_, ⟨ia, il, ic⟩, phase, next, flight, tries, ⟨oa, ol, oc⟩, ⟨ua, ul, uc⟩, fs, fc, ⟨fa, fl, fcap⟩⟩ := s
  obtain ⟨v, kind, saga, step, try_, rat, last, code, rcount, rpivot, rname, ⟨da, dn, dc⟩⟩ := r
  simp only at hn
  have hw : wrap64 (next - 1) = next - 1 := wrap_small (by omega) (by omega)
  have HN := Lib.hid hn
  have HW := Lib.hid hw
  clear hn hw
  go_enter Tryz.func94, Tryz.ntmps94
  go_wp2
  all_goals go_ret
  all_goals refine ⟨ret_bool ?_, boxd (boxd hb)⟩
  all_goals (have hw := HW.out; have hn := HN.out; rw [Bool.eq_iff_iff]; simp [turnB] at *; (try simp [*]); (try omega))
def refNum (B : Bool) (id phase tries pivot : Int) (flight : Bool) (saga kind step try_ last code : Int) : Int :=
  if saga ≠ id then 101 else if kind = 1 then 102 else if phase = 3 ∨ phase = 4 then 103
  else if (phase = 2 ∧ (kind = 2 ∨ kind = 3 ∨ (kind = 4 ∧ last = 1))) ∨ (phase = 1 ∧ (kind = 5 ∨ kind = 6)) then 104
  else if decide (kind = 3 ∨ kind = 4 ∨ kind = 6) ≠ flight then 105 else if B = false then 106
  else if (kind = 2 ∨ kind = 5) ∧ try_ ≠ min (tries + 1) 1000 then 107 else if kind = 4 ∧ last = 1 ∧ 0 < pivot ∧ pivot ≤ step then 108
  else if kind = 7 ∧ code ≠ 0 ∧ code ≠ phase then 109 else 0
def refN (s : SagaV) (r : RecV) : Int := refNum (turnB s r) s.id s.phase s.tries s.pivot s.flight r.saga r.kind r.step r.try_ r.last r.code
end Go.Proofs.YteaiadpigpehaaaGreatDoor
