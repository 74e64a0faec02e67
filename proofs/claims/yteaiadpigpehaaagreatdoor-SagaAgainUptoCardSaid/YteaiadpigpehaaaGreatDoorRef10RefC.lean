/-
  annalsref10.refused walked for the kinds 5, 6, 7. Conditions: a saga's next and tries from 0 to 1000. (Printed by wip/gen_ref10refused.py.)
-/
import Derived.Test.YteaiadpigpehaaaGreatDoorRef10Turn
namespace Go.Proofs.YteaiadpigpehaaaGreatDoor
open Go.RowKit

set_option maxRecDepth 100000 in
set_option maxHeartbeats 8000000 in
theorem refRefused_5 (s : SagaV) (r : RecV) (w : World) (hn : 0 ≤ s.next ∧ s.next ≤ 1000) (ht : 0 ≤ s.tries ∧ s.tries ≤ 1000) (hk : r.kind = 5) :
    Calls Tryz.prog 78 #[s.val, r.val] w fun e w' => e = .returned (.int .i64 (refN s r)) ∧ Below w.heap.size w w' := by
  have KB := (BlkAt.new w (sagaArr s) 29).push (.cells (recArr r) 31)
  have KR := BlkAt.new (w.alloc (.cells (sagaArr s) 29)) (recArr r) 31
  rw [World.size_alloc] at KR
  have hb1 : Below w.heap.size w ((w.alloc (.cells (sagaArr s) 29)).alloc (.cells (recArr r) 31)) := boxd (boxd (Below.refl _ _))
  obtain ⟨w1, hw1⟩ : ∃ q, (w.alloc (.cells (sagaArr s) 29)).alloc (.cells (recArr r) 31) = q := ⟨_, rfl⟩
  have hs1 : w.heap.size + 2 ≤ w1.heap.size := by rw [← hw1]; simp
  rw [hw1] at KB KR hb1
  have cT := Lib.hid (ref10Turn_any s r w1 hn)
  have hw : wrap64 (s.tries + 1) = s.tries + 1 := by unfold wrap64; omega
  obtain ⟨id, name, count, pivot, begun, at_, ⟨ia, il, ic⟩, phase, next, flight, tries, ⟨oa, ol, oc⟩, ⟨ua, ul, uc⟩, fs, fc, ⟨fa, fl, fcap⟩⟩ := s
  obtain ⟨v, kind, saga, step, try_, rat, last, code, rcount, rpivot, rname, ⟨da, dn, dc⟩⟩ := r
  simp only at hn ht hk hw
  have HB := Lib.hid hb1
  have HW := Lib.hid hw
  have HT := Lib.hid ht
  have HKB := Lib.hid KB
  have HKR := Lib.hid KR
  clear hn hw ht hb1 KB KR
  dsimp only [recArr, sagaArr, Sl.v] at hw1
  have HW1 := Lib.hid hw1
  clear hw1
  subst hk
  generalize hR : refN _ _ = RN
  have HRN := Lib.hid hR
  clear hR
  generalize hB : turnB _ _ = B at cT
  have HBB := Lib.hid hB
  clear hB
  dsimp only [SagaV.val, RecV.val, Sl.v] at cT ⊢
  go_enter Tryz.func78, Tryz.ntmps78
  go_upto_region 1 with fail
  rw [HW1.out]
  clear HW1
  have b0 := HKB.out.cell 0; have b3 := HKB.out.cell 3; have b7 := HKB.out.cell 7; have b9 := HKB.out.cell 9; have b10 := HKB.out.cell 10; have r1 := HKR.out.cell 1; have r2 := HKR.out.cell 2; have r3 := HKR.out.cell 3; have r4 := HKR.out.cell 4; have r6 := HKR.out.cell 6; have r7 := HKR.out.cell 7; simp only [sagaArr, recArr, List.getElem?_toArray, List.getElem?_cons_zero, List.getElem?_cons_succ] at b0 b3 b7 b9 b10 r1 r2 r3 r4 r6 r7
  go_upto_region 7 with fail
  all_goals clear b0 b3 b7 b9 b10 r1 r2 r3 r4 r6 r7
  all_goals go_wp2_with (first
    | (refine wpList_load_blk rfl 29 _ rfl _ rfl _ _ HKB.out rowSaga ?_)
    | (refine wpList_load_blk rfl 31 _ rfl _ rfl _ _ HKR.out rowRec ?_))
  all_goals refine cT.out.mono ?_
  all_goals rintro e w2 ⟨rfl, hb⟩
  all_goals (have HKB2 := Lib.hid (HKB.out.below hb (by omega)); have HKR2 := Lib.hid (HKR.out.below hb (by omega)); have HB2 := Lib.hid (then_ HB.out hb); clear hb HKB HKR cT HB)
  all_goals (
  have b0 := HKB2.out.cell 0; have b3 := HKB2.out.cell 3; have b7 := HKB2.out.cell 7; have b9 := HKB2.out.cell 9; have b10 := HKB2.out.cell 10; have r1 := HKR2.out.cell 1; have r2 := HKR2.out.cell 2; have r3 := HKR2.out.cell 3; have r4 := HKR2.out.cell 4; have r6 := HKR2.out.cell 6; have r7 := HKR2.out.cell 7; simp only [sagaArr, recArr, List.getElem?_toArray, List.getElem?_cons_zero, List.getElem?_cons_succ] at b0 b3 b7 b9 b10 r1 r2 r3 r4 r6 r7)
  all_goals clear HKB2 HKR2
  all_goals go_wp2
  all_goals go_ret
  all_goals refine ⟨?_, HB2.out⟩
  all_goals (have hw := HW.out; have ht := HT.out; have hB := HBB.out; clear HW HT HBB HB2 b0 b3 b7 b9 b10 r1 r2 r3 r4 r6 r7 hs1; refine congrArg Ending.returned (congrArg (Value.int .i64) ?_); rw [← HRN.out]; clear HRN; unfold refN; rw [hB]; clear hB; dsimp only; first | (simp [refNum, *]; done) | (simp only [hw] at *; clear hw; unfold refNum; simp at *; (repeat' split) <;> first | rfl | omega | (simp_all; done) | (simp_all; omega)))
set_option maxRecDepth 100000 in
set_option maxHeartbeats 8000000 in
theorem refRefused_6 (s : SagaV) (r : RecV) (w : World) (hn : 0 ≤ s.next ∧ s.next ≤ 1000) (ht : 0 ≤ s.tries ∧ s.tries ≤ 1000) (hk : r.kind = 6) :
    Calls Tryz.prog 78 #[s.val, r.val] w fun e w' => e = .returned (.int .i64 (refN s r)) ∧ Below w.heap.size w w' := by
  have KB := (BlkAt.new w (sagaArr s) 29).push (.cells (recArr r) 31)
  have KR := BlkAt.new (w.alloc (.cells (sagaArr s) 29)) (recArr r) 31
  rw [World.size_alloc] at KR
  have hb1 : Below w.heap.size w ((w.alloc (.cells (sagaArr s) 29)).alloc (.cells (recArr r) 31)) := boxd (boxd (Below.refl _ _))
  obtain ⟨w1, hw1⟩ : ∃ q, (w.alloc (.cells (sagaArr s) 29)).alloc (.cells (recArr r) 31) = q := ⟨_, rfl⟩
  have hs1 : w.heap.size + 2 ≤ w1.heap.size := by rw [← hw1]; simp
  rw [hw1] at KB KR hb1
  have cT := Lib.hid (ref10Turn_any s r w1 hn)
  have hw : wrap64 (s.tries + 1) = s.tries + 1 := by unfold wrap64; omega
  obtain ⟨id, name, count, pivot, begun, at_, ⟨ia, il, ic⟩, phase, next, flight, tries, ⟨oa, ol, oc⟩, ⟨ua, ul, uc⟩, fs, fc, ⟨fa, fl, fcap⟩⟩ := s
  obtain ⟨v, kind, saga, step, try_, rat, last, code, rcount, rpivot, rname, ⟨da, dn, dc⟩⟩ := r
  simp only at hn ht hk hw
  have HB := Lib.hid hb1
  have HW := Lib.hid hw
  have HT := Lib.hid ht
  have HKB := Lib.hid KB
  have HKR := Lib.hid KR
  clear hn hw ht hb1 KB KR
  dsimp only [recArr, sagaArr, Sl.v] at hw1
  have HW1 := Lib.hid hw1
  clear hw1
  subst hk
  generalize hR : refN _ _ = RN
  have HRN := Lib.hid hR
  clear hR
  generalize hB : turnB _ _ = B at cT
  have HBB := Lib.hid hB
  clear hB
  dsimp only [SagaV.val, RecV.val, Sl.v] at cT ⊢
  go_enter Tryz.func78, Tryz.ntmps78
  go_upto_region 1 with fail
  rw [HW1.out]
  clear HW1
  have b0 := HKB.out.cell 0; have b3 := HKB.out.cell 3; have b7 := HKB.out.cell 7; have b9 := HKB.out.cell 9; have b10 := HKB.out.cell 10; have r1 := HKR.out.cell 1; have r2 := HKR.out.cell 2; have r3 := HKR.out.cell 3; have r4 := HKR.out.cell 4; have r6 := HKR.out.cell 6; have r7 := HKR.out.cell 7; simp only [sagaArr, recArr, List.getElem?_toArray, List.getElem?_cons_zero, List.getElem?_cons_succ] at b0 b3 b7 b9 b10 r1 r2 r3 r4 r6 r7
  go_upto_region 7 with fail
  all_goals clear b0 b3 b7 b9 b10 r1 r2 r3 r4 r6 r7
  all_goals go_wp2_with (first
    | (refine wpList_load_blk rfl 29 _ rfl _ rfl _ _ HKB.out rowSaga ?_)
    | (refine wpList_load_blk rfl 31 _ rfl _ rfl _ _ HKR.out rowRec ?_))
  all_goals refine cT.out.mono ?_
  all_goals rintro e w2 ⟨rfl, hb⟩
  all_goals (have HKB2 := Lib.hid (HKB.out.below hb (by omega)); have HKR2 := Lib.hid (HKR.out.below hb (by omega)); have HB2 := Lib.hid (then_ HB.out hb); clear hb HKB HKR cT HB)
  all_goals (
  have b0 := HKB2.out.cell 0; have b3 := HKB2.out.cell 3; have b7 := HKB2.out.cell 7; have b9 := HKB2.out.cell 9; have b10 := HKB2.out.cell 10; have r1 := HKR2.out.cell 1; have r2 := HKR2.out.cell 2; have r3 := HKR2.out.cell 3; have r4 := HKR2.out.cell 4; have r6 := HKR2.out.cell 6; have r7 := HKR2.out.cell 7; simp only [sagaArr, recArr, List.getElem?_toArray, List.getElem?_cons_zero, List.getElem?_cons_succ] at b0 b3 b7 b9 b10 r1 r2 r3 r4 r6 r7)
  all_goals clear HKB2 HKR2
  all_goals go_wp2
  all_goals go_ret
  all_goals refine ⟨?_, HB2.out⟩
  all_goals (have hw := HW.out; have ht := HT.out; have hB := HBB.out; clear HW HT HBB HB2 b0 b3 b7 b9 b10 r1 r2 r3 r4 r6 r7 hs1; refine congrArg Ending.returned (congrArg (Value.int .i64) ?_); rw [← HRN.out]; clear HRN; unfold refN; rw [hB]; clear hB; dsimp only; first | (simp [refNum, *]; done) | (simp only [hw] at *; clear hw; unfold refNum; simp at *; (repeat' split) <;> first | rfl | omega | (simp_all; done) | (simp_all; omega)))
set_option maxRecDepth 100000 in
set_option maxHeartbeats 8000000 in
theorem refRefused_7 (s : SagaV) (r : RecV) (w : World) (hn : 0 ≤ s.next ∧ s.next ≤ 1000) (ht : 0 ≤ s.tries ∧ s.tries ≤ 1000) (hk : r.kind = 7) :
    Calls Tryz.prog 78 #[s.val, r.val] w fun e w' => e = .returned (.int .i64 (refN s r)) ∧ Below w.heap.size w w' := by
  have KB := (BlkAt.new w (sagaArr s) 29).push (.cells (recArr r) 31)
  have KR := BlkAt.new (w.alloc (.cells (sagaArr s) 29)) (recArr r) 31
  rw [World.size_alloc] at KR
  have hb1 : Below w.heap.size w ((w.alloc (.cells (sagaArr s) 29)).alloc (.cells (recArr r) 31)) := boxd (boxd (Below.refl _ _))
  obtain ⟨w1, hw1⟩ : ∃ q, (w.alloc (.cells (sagaArr s) 29)).alloc (.cells (recArr r) 31) = q := ⟨_, rfl⟩
  have hs1 : w.heap.size + 2 ≤ w1.heap.size := by rw [← hw1]; simp
  rw [hw1] at KB KR hb1
  have cT := Lib.hid (ref10Turn_any s r w1 hn)
  have hw : wrap64 (s.tries + 1) = s.tries + 1 := by unfold wrap64; omega
  obtain ⟨id, name, count, pivot, begun, at_, ⟨ia, il, ic⟩, phase, next, flight, tries, ⟨oa, ol, oc⟩, ⟨ua, ul, uc⟩, fs, fc, ⟨fa, fl, fcap⟩⟩ := s
  obtain ⟨v, kind, saga, step, try_, rat, last, code, rcount, rpivot, rname, ⟨da, dn, dc⟩⟩ := r
  simp only at hn ht hk hw
  have HB := Lib.hid hb1
  have HW := Lib.hid hw
  have HT := Lib.hid ht
  have HKB := Lib.hid KB
  have HKR := Lib.hid KR
  clear hn hw ht hb1 KB KR
  dsimp only [recArr, sagaArr, Sl.v] at hw1
  have HW1 := Lib.hid hw1
  clear hw1
  subst hk
  generalize hR : refN _ _ = RN
  have HRN := Lib.hid hR
  clear hR
  generalize hB : turnB _ _ = B at cT
  have HBB := Lib.hid hB
  clear hB
  dsimp only [SagaV.val, RecV.val, Sl.v] at cT ⊢
  go_enter Tryz.func78, Tryz.ntmps78
  go_upto_region 1 with fail
  rw [HW1.out]
  clear HW1
  have b0 := HKB.out.cell 0; have b3 := HKB.out.cell 3; have b7 := HKB.out.cell 7; have b9 := HKB.out.cell 9; have b10 := HKB.out.cell 10; have r1 := HKR.out.cell 1; have r2 := HKR.out.cell 2; have r3 := HKR.out.cell 3; have r4 := HKR.out.cell 4; have r6 := HKR.out.cell 6; have r7 := HKR.out.cell 7; simp only [sagaArr, recArr, List.getElem?_toArray, List.getElem?_cons_zero, List.getElem?_cons_succ] at b0 b3 b7 b9 b10 r1 r2 r3 r4 r6 r7
  go_upto_region 7 with fail
  all_goals clear b0 b3 b7 b9 b10 r1 r2 r3 r4 r6 r7
  all_goals go_wp2_with (first
    | (refine wpList_load_blk rfl 29 _ rfl _ rfl _ _ HKB.out rowSaga ?_)
    | (refine wpList_load_blk rfl 31 _ rfl _ rfl _ _ HKR.out rowRec ?_))
  all_goals refine cT.out.mono ?_
  all_goals rintro e w2 ⟨rfl, hb⟩
  all_goals (have HKB2 := Lib.hid (HKB.out.below hb (by omega)); have HKR2 := Lib.hid (HKR.out.below hb (by omega)); have HB2 := Lib.hid (then_ HB.out hb); clear hb HKB HKR cT HB)
  all_goals (
  have b0 := HKB2.out.cell 0; have b3 := HKB2.out.cell 3; have b7 := HKB2.out.cell 7; have b9 := HKB2.out.cell 9; have b10 := HKB2.out.cell 10; have r1 := HKR2.out.cell 1; have r2 := HKR2.out.cell 2; have r3 := HKR2.out.cell 3; have r4 := HKR2.out.cell 4; have r6 := HKR2.out.cell 6; have r7 := HKR2.out.cell 7; simp only [sagaArr, recArr, List.getElem?_toArray, List.getElem?_cons_zero, List.getElem?_cons_succ] at b0 b3 b7 b9 b10 r1 r2 r3 r4 r6 r7)
  all_goals clear HKB2 HKR2
  all_goals go_wp2
  all_goals go_ret
  all_goals refine ⟨?_, HB2.out⟩
  all_goals (have hw := HW.out; have ht := HT.out; have hB := HBB.out; clear HW HT HBB HB2 b0 b3 b7 b9 b10 r1 r2 r3 r4 r6 r7 hs1; refine congrArg Ending.returned (congrArg (Value.int .i64) ?_); rw [← HRN.out]; clear HRN; unfold refN; rw [hB]; clear hB; dsimp only; first | (simp [refNum, *]; done) | (simp only [hw] at *; clear hw; unfold refNum; simp at *; (repeat' split) <;> first | rfl | omega | (simp_all; done) | (simp_all; omega)))
end Go.Proofs.YteaiadpigpehaaaGreatDoor
