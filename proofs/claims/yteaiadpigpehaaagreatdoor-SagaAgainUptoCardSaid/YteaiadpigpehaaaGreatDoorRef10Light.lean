/-
  annalsref10.light walked: a saga's fields moved by a record. Conditions: a saga in blocks of one's own; a record of the kinds 2 to 7. (Printed by wip/gen_ref10light.py.)
-/
import Derived.Test.YteaiadpigpehaaaGreatDoorRef10Begin
namespace Go.Proofs.YteaiadpigpehaaaGreatDoor
open Go.RowKit

/-- What light makes of a saga. -/
def lightD (D : SagaD) (X : RecD) : SagaD :=
  if X.kind = 2 ∨ X.kind = 5 then { D with at_ := X.at_, flight := true, tries := X.try_ }
  else if X.kind = 3 then { D with at_ := X.at_, flight := false, tries := 0, next := D.next + 1, outs := D.outs ++ [X.data] }
  else if X.kind = 4 then (if X.last = 1 then { D with at_ := X.at_, flight := false, tries := 0, phase := 2, failStep := X.step, failCode := X.code, fail := X.data } else { D with at_ := X.at_, flight := false })
  else if X.kind = 6 then { D with at_ := X.at_, flight := false, tries := 0, next := D.next - 1, undos := D.undos ++ [X.data] }
  else if X.kind = 7 then { D with at_ := X.at_, flight := false, phase := D.phase + 2 } else { D with at_ := X.at_, flight := false }
theorem size_bool : (Tryz.prog.info? 4).map (·.size) = some 1 := by kernel_rfl

set_option maxRecDepth 10000000 in
set_option maxHeartbeats 2000000 in
theorem light_2 (s : SagaV) (D : SagaD) (x : RecV) (X : RecD) (B : Nat) (w : World) (hs : SagaOwn w B s D) (_hB : B ≤ w.heap.size) (hx : RecRd w x X) (hk : X.kind = 2) :
    Calls Tryz.prog 79 #[s.val, x.val] w fun e w' => ∃ s' : SagaV, e = .returned s'.val ∧ SagaOwn w' B s' (lightD D X) ∧ Below w.heap.size w w' := by
  obtain ⟨si, so, su, sf, rfl⟩ : ∃ i o u f, s = D.words i o u f := ⟨_, _, _, _, hs.eq⟩
  obtain ⟨rd, rfl⟩ : ∃ rd, x = X.words rd := ⟨_, hx.eq⟩
  obtain ⟨id, name, count, pivot, begun, at_, input, phase, next, flight, tries, outs, undos, fs, fc, fail⟩ := D
  obtain ⟨v, kind, saga, step, try_, rat, last, code, rcount, rpivot, rname, data⟩ := X
  simp only at hk
  subst hk
  have KB0 := ((BlkAt.new w (sagaArr (⟨id, name, count, pivot, begun, at_, si, phase, next, flight, tries, so, su, fs, fc, sf⟩ : SagaV)) 29).push (.cells (recArr (⟨v, 2, saga, step, try_, rat, last, code, rcount, rpivot, rname, rd⟩ : RecV)) 31)).push (.cells zeroSagaArr 29)
  have KR0 := (BlkAt.new (w.alloc (.cells (sagaArr (⟨id, name, count, pivot, begun, at_, si, phase, next, flight, tries, so, su, fs, fc, sf⟩ : SagaV)) 29)) (recArr (⟨v, 2, saga, step, try_, rat, last, code, rcount, rpivot, rname, rd⟩ : RecV)) 31).push (.cells zeroSagaArr 29)
  have KZ0 := BlkAt.new ((w.alloc (.cells (sagaArr (⟨id, name, count, pivot, begun, at_, si, phase, next, flight, tries, so, su, fs, fc, sf⟩ : SagaV)) 29)).alloc (.cells (recArr (⟨v, 2, saga, step, try_, rat, last, code, rcount, rpivot, rname, rd⟩ : RecV)) 31)) zeroSagaArr 29
  simp only [World.size_alloc] at KR0 KZ0
  have hb1 : Below w.heap.size w (((w.alloc (.cells (sagaArr (⟨id, name, count, pivot, begun, at_, si, phase, next, flight, tries, so, su, fs, fc, sf⟩ : SagaV)) 29)).alloc (.cells (recArr (⟨v, 2, saga, step, try_, rat, last, code, rcount, rpivot, rname, rd⟩ : RecV)) 31)).alloc (.cells zeroSagaArr 29)) := boxd (boxd (boxd (Below.refl _ _)))
  obtain ⟨w1, hw1⟩ : ∃ q, ((w.alloc (.cells (sagaArr (⟨id, name, count, pivot, begun, at_, si, phase, next, flight, tries, so, su, fs, fc, sf⟩ : SagaV)) 29)).alloc (.cells (recArr (⟨v, 2, saga, step, try_, rat, last, code, rcount, rpivot, rname, rd⟩ : RecV)) 31)).alloc (.cells zeroSagaArr 29) = q := ⟨_, rfl⟩
  rw [hw1] at KB0 KR0 KZ0 hb1
  have hs1 : w.heap.size + 3 ≤ w1.heap.size := by rw [← hw1]; simp
  have KB := Lib.hid KB0
  have KR := Lib.hid KR0
  have KZ := Lib.hid KZ0
  have HB := Lib.hid hb1
  have HS := Lib.hid hs
  have HX := Lib.hid hx
  clear KB0 KR0 KZ0 hb1 hs hx
  dsimp only [recArr, sagaArr, Sl.v, zeroSagaArr] at hw1
  have HW1 := Lib.hid hw1
  clear hw1
  dsimp only [SagaD.words, RecD.words, SagaV.val, RecV.val, Sl.v]
  go_enter Tryz.func79, Tryz.ntmps79
  go_upto_region 1 with fail
  rw [HW1.out]
  clear HW1
  go_wp2_with (first
    | (refine wpList_load_field rfl _ _ rfl _ 5 rfl _ _ KR.out (.int .i64 rat) rfl one_int ?_)
    | (refine wpList_load_field rfl _ _ rfl _ 1 rfl _ _ KR.out (.int .i64 2) rfl one_int ?_)
    | (refine wpList_load_field_g (by rfl) _ _ rfl _ 1 rfl _ _ KR.out (.int .i64 2) rfl one_int ?_)
    | (refine wpList_load_field rfl _ _ rfl _ 4 rfl _ _ KR.out (.int .i64 try_) rfl one_int ?_)
    | (refine wpList_store_one rfl _ _ _ rfl _ 5 rfl (.int .i64 rat) rfl _ _ KB.out (by simp [sagaArr]) rfl size_int ?_; intro wS hw K; have KR := Lib.hid (hw.blk KR.out (by omega)); have KZ := Lib.hid (hw.blk KZ.out (by omega)); have HB := Lib.hid (hw.below HB.out (by omega)); clear KB; have KB := Lib.hid K; clear hw K)
    | (refine wpList_store_one rfl _ _ _ rfl _ 9 rfl (.bool true) rfl _ _ KB.out (by simp [sagaArr]) rfl size_bool ?_; intro wS hw K; have KR := Lib.hid (hw.blk KR.out (by omega)); have KZ := Lib.hid (hw.blk KZ.out (by omega)); have HB := Lib.hid (hw.below HB.out (by omega)); clear KB; have KB := Lib.hid K; clear hw K)
    | (refine wpList_store_one rfl _ _ _ rfl _ 10 rfl (.int .i64 try_) rfl _ _ KB.out (by simp [sagaArr]) rfl size_int ?_; intro wS hw K; have KR := Lib.hid (hw.blk KR.out (by omega)); have KZ := Lib.hid (hw.blk KZ.out (by omega)); have HB := Lib.hid (hw.below HB.out (by omega)); clear KB; have KB := Lib.hid K; clear hw K)
    | (refine wpList_load_blk rfl _ _ rfl _ rfl _ _ KB.out (by exact rowSaga) ?_)
    | (refine wpList_store_blk rfl _ _ _ rfl _ rfl (sagaArr (⟨id, name, count, pivot, begun, rat, si, phase, next, true, try_, so, su, fs, fc, sf⟩ : SagaV)) rfl _ _ KZ.out (by rfl) (by simp [sagaArr, Value.oneCell']) rowSaga ?_; intro w9 hw9 K9; have KE := Lib.hid K9; have HE := Lib.hid (hw9.below HB.out (by omega)); clear hw9 K9))
  have hq := HS.out.through HE.out
  exact bodyPost_ret (results_row rfl _ _ _ _ _ rfl KE.out rowSaga) rfl ⟨(⟨id, name, count, pivot, begun, rat, si, phase, next, true, try_, so, su, fs, fc, sf⟩ : SagaV), rfl, ⟨rfl, ⟨hq.held.input, hq.held.outs, hq.held.undos, hq.held.fail, hq.held.apart⟩⟩, HE.out⟩

set_option maxRecDepth 10000000 in
set_option maxHeartbeats 2000000 in
theorem light_5 (s : SagaV) (D : SagaD) (x : RecV) (X : RecD) (B : Nat) (w : World) (hs : SagaOwn w B s D) (_hB : B ≤ w.heap.size) (hx : RecRd w x X) (hk : X.kind = 5) :
    Calls Tryz.prog 79 #[s.val, x.val] w fun e w' => ∃ s' : SagaV, e = .returned s'.val ∧ SagaOwn w' B s' (lightD D X) ∧ Below w.heap.size w w' := by
  obtain ⟨si, so, su, sf, rfl⟩ : ∃ i o u f, s = D.words i o u f := ⟨_, _, _, _, hs.eq⟩
  obtain ⟨rd, rfl⟩ : ∃ rd, x = X.words rd := ⟨_, hx.eq⟩
  obtain ⟨id, name, count, pivot, begun, at_, input, phase, next, flight, tries, outs, undos, fs, fc, fail⟩ := D
  obtain ⟨v, kind, saga, step, try_, rat, last, code, rcount, rpivot, rname, data⟩ := X
  simp only at hk
  subst hk
  have KB0 := ((BlkAt.new w (sagaArr (⟨id, name, count, pivot, begun, at_, si, phase, next, flight, tries, so, su, fs, fc, sf⟩ : SagaV)) 29).push (.cells (recArr (⟨v, 5, saga, step, try_, rat, last, code, rcount, rpivot, rname, rd⟩ : RecV)) 31)).push (.cells zeroSagaArr 29)
  have KR0 := (BlkAt.new (w.alloc (.cells (sagaArr (⟨id, name, count, pivot, begun, at_, si, phase, next, flight, tries, so, su, fs, fc, sf⟩ : SagaV)) 29)) (recArr (⟨v, 5, saga, step, try_, rat, last, code, rcount, rpivot, rname, rd⟩ : RecV)) 31).push (.cells zeroSagaArr 29)
  have KZ0 := BlkAt.new ((w.alloc (.cells (sagaArr (⟨id, name, count, pivot, begun, at_, si, phase, next, flight, tries, so, su, fs, fc, sf⟩ : SagaV)) 29)).alloc (.cells (recArr (⟨v, 5, saga, step, try_, rat, last, code, rcount, rpivot, rname, rd⟩ : RecV)) 31)) zeroSagaArr 29
  simp only [World.size_alloc] at KR0 KZ0
  have hb1 : Below w.heap.size w (((w.alloc (.cells (sagaArr (⟨id, name, count, pivot, begun, at_, si, phase, next, flight, tries, so, su, fs, fc, sf⟩ : SagaV)) 29)).alloc (.cells (recArr (⟨v, 5, saga, step, try_, rat, last, code, rcount, rpivot, rname, rd⟩ : RecV)) 31)).alloc (.cells zeroSagaArr 29)) := boxd (boxd (boxd (Below.refl _ _)))
  obtain ⟨w1, hw1⟩ : ∃ q, ((w.alloc (.cells (sagaArr (⟨id, name, count, pivot, begun, at_, si, phase, next, flight, tries, so, su, fs, fc, sf⟩ : SagaV)) 29)).alloc (.cells (recArr (⟨v, 5, saga, step, try_, rat, last, code, rcount, rpivot, rname, rd⟩ : RecV)) 31)).alloc (.cells zeroSagaArr 29) = q := ⟨_, rfl⟩
  rw [hw1] at KB0 KR0 KZ0 hb1
  have hs1 : w.heap.size + 3 ≤ w1.heap.size := by rw [← hw1]; simp
  have KB := Lib.hid KB0
  have KR := Lib.hid KR0
  have KZ := Lib.hid KZ0
  have HB := Lib.hid hb1
  have HS := Lib.hid hs
  have HX := Lib.hid hx
  clear KB0 KR0 KZ0 hb1 hs hx
  dsimp only [recArr, sagaArr, Sl.v, zeroSagaArr] at hw1
  have HW1 := Lib.hid hw1
  clear hw1
  dsimp only [SagaD.words, RecD.words, SagaV.val, RecV.val, Sl.v]
  go_enter Tryz.func79, Tryz.ntmps79
  go_upto_region 1 with fail
  rw [HW1.out]
  clear HW1
  go_wp2_with (first
    | (refine wpList_load_field rfl _ _ rfl _ 5 rfl _ _ KR.out (.int .i64 rat) rfl one_int ?_)
    | (refine wpList_load_field rfl _ _ rfl _ 1 rfl _ _ KR.out (.int .i64 5) rfl one_int ?_)
    | (refine wpList_load_field_g (by rfl) _ _ rfl _ 1 rfl _ _ KR.out (.int .i64 5) rfl one_int ?_)
    | (refine wpList_load_field rfl _ _ rfl _ 4 rfl _ _ KR.out (.int .i64 try_) rfl one_int ?_)
    | (refine wpList_store_one rfl _ _ _ rfl _ 5 rfl (.int .i64 rat) rfl _ _ KB.out (by simp [sagaArr]) rfl size_int ?_; intro wS hw K; have KR := Lib.hid (hw.blk KR.out (by omega)); have KZ := Lib.hid (hw.blk KZ.out (by omega)); have HB := Lib.hid (hw.below HB.out (by omega)); clear KB; have KB := Lib.hid K; clear hw K)
    | (refine wpList_store_one rfl _ _ _ rfl _ 9 rfl (.bool true) rfl _ _ KB.out (by simp [sagaArr]) rfl size_bool ?_; intro wS hw K; have KR := Lib.hid (hw.blk KR.out (by omega)); have KZ := Lib.hid (hw.blk KZ.out (by omega)); have HB := Lib.hid (hw.below HB.out (by omega)); clear KB; have KB := Lib.hid K; clear hw K)
    | (refine wpList_store_one rfl _ _ _ rfl _ 10 rfl (.int .i64 try_) rfl _ _ KB.out (by simp [sagaArr]) rfl size_int ?_; intro wS hw K; have KR := Lib.hid (hw.blk KR.out (by omega)); have KZ := Lib.hid (hw.blk KZ.out (by omega)); have HB := Lib.hid (hw.below HB.out (by omega)); clear KB; have KB := Lib.hid K; clear hw K)
    | (refine wpList_load_blk rfl _ _ rfl _ rfl _ _ KB.out (by exact rowSaga) ?_)
    | (refine wpList_store_blk rfl _ _ _ rfl _ rfl (sagaArr (⟨id, name, count, pivot, begun, rat, si, phase, next, true, try_, so, su, fs, fc, sf⟩ : SagaV)) rfl _ _ KZ.out (by rfl) (by simp [sagaArr, Value.oneCell']) rowSaga ?_; intro w9 hw9 K9; have KE := Lib.hid K9; have HE := Lib.hid (hw9.below HB.out (by omega)); clear hw9 K9))
  have hq := HS.out.through HE.out
  exact bodyPost_ret (results_row rfl _ _ _ _ _ rfl KE.out rowSaga) rfl ⟨(⟨id, name, count, pivot, begun, rat, si, phase, next, true, try_, so, su, fs, fc, sf⟩ : SagaV), rfl, ⟨rfl, ⟨hq.held.input, hq.held.outs, hq.held.undos, hq.held.fail, hq.held.apart⟩⟩, HE.out⟩

set_option maxRecDepth 10000000 in
set_option maxHeartbeats 2000000 in
theorem light_7 (s : SagaV) (D : SagaD) (x : RecV) (X : RecD) (B : Nat) (w : World) (hs : SagaOwn w B s D) (_hB : B ≤ w.heap.size) (hx : RecRd w x X) (hk : X.kind = 7) (hp : 1 ≤ D.phase ∧ D.phase ≤ 4) :
    Calls Tryz.prog 79 #[s.val, x.val] w fun e w' => ∃ s' : SagaV, e = .returned s'.val ∧ SagaOwn w' B s' (lightD D X) ∧ Below w.heap.size w w' := by
  obtain ⟨si, so, su, sf, rfl⟩ : ∃ i o u f, s = D.words i o u f := ⟨_, _, _, _, hs.eq⟩
  obtain ⟨rd, rfl⟩ : ∃ rd, x = X.words rd := ⟨_, hx.eq⟩
  obtain ⟨id, name, count, pivot, begun, at_, input, phase, next, flight, tries, outs, undos, fs, fc, fail⟩ := D
  obtain ⟨v, kind, saga, step, try_, rat, last, code, rcount, rpivot, rname, data⟩ := X
  simp only at hk hp
  have hwp : wrap64 (phase + 2) = phase + 2 := by unfold wrap64; omega
  subst hk
  have KB0 := ((BlkAt.new w (sagaArr (⟨id, name, count, pivot, begun, at_, si, phase, next, flight, tries, so, su, fs, fc, sf⟩ : SagaV)) 29).push (.cells (recArr (⟨v, 7, saga, step, try_, rat, last, code, rcount, rpivot, rname, rd⟩ : RecV)) 31)).push (.cells zeroSagaArr 29)
  have KR0 := (BlkAt.new (w.alloc (.cells (sagaArr (⟨id, name, count, pivot, begun, at_, si, phase, next, flight, tries, so, su, fs, fc, sf⟩ : SagaV)) 29)) (recArr (⟨v, 7, saga, step, try_, rat, last, code, rcount, rpivot, rname, rd⟩ : RecV)) 31).push (.cells zeroSagaArr 29)
  have KZ0 := BlkAt.new ((w.alloc (.cells (sagaArr (⟨id, name, count, pivot, begun, at_, si, phase, next, flight, tries, so, su, fs, fc, sf⟩ : SagaV)) 29)).alloc (.cells (recArr (⟨v, 7, saga, step, try_, rat, last, code, rcount, rpivot, rname, rd⟩ : RecV)) 31)) zeroSagaArr 29
  simp only [World.size_alloc] at KR0 KZ0
  have hb1 : Below w.heap.size w (((w.alloc (.cells (sagaArr (⟨id, name, count, pivot, begun, at_, si, phase, next, flight, tries, so, su, fs, fc, sf⟩ : SagaV)) 29)).alloc (.cells (recArr (⟨v, 7, saga, step, try_, rat, last, code, rcount, rpivot, rname, rd⟩ : RecV)) 31)).alloc (.cells zeroSagaArr 29)) := boxd (boxd (boxd (Below.refl _ _)))
  obtain ⟨w1, hw1⟩ : ∃ q, ((w.alloc (.cells (sagaArr (⟨id, name, count, pivot, begun, at_, si, phase, next, flight, tries, so, su, fs, fc, sf⟩ : SagaV)) 29)).alloc (.cells (recArr (⟨v, 7, saga, step, try_, rat, last, code, rcount, rpivot, rname, rd⟩ : RecV)) 31)).alloc (.cells zeroSagaArr 29) = q := ⟨_, rfl⟩
  rw [hw1] at KB0 KR0 KZ0 hb1
  have hs1 : w.heap.size + 3 ≤ w1.heap.size := by rw [← hw1]; simp
  have KB := Lib.hid KB0
  have KR := Lib.hid KR0
  have KZ := Lib.hid KZ0
  have HB := Lib.hid hb1
  have HS := Lib.hid hs
  have HX := Lib.hid hx
  clear KB0 KR0 KZ0 hb1 hs hx
  dsimp only [recArr, sagaArr, Sl.v, zeroSagaArr] at hw1
  have HW1 := Lib.hid hw1
  clear hw1
  dsimp only [SagaD.words, RecD.words, SagaV.val, RecV.val, Sl.v]
  go_enter Tryz.func79, Tryz.ntmps79
  go_upto_region 1 with fail
  rw [HW1.out]
  clear HW1
  go_wp2_with (first
    | (refine wpList_load_field rfl _ _ rfl _ 5 rfl _ _ KR.out (.int .i64 rat) rfl one_int ?_)
    | (refine wpList_load_field rfl _ _ rfl _ 1 rfl _ _ KR.out (.int .i64 7) rfl one_int ?_)
    | (refine wpList_load_field_g (by rfl) _ _ rfl _ 1 rfl _ _ KR.out (.int .i64 7) rfl one_int ?_)
    | (refine wpList_load_field rfl _ _ rfl _ 7 rfl _ _ KB.out (.int .i64 phase) rfl one_int ?_)
    | (refine wpList_store_one rfl _ _ _ rfl _ 5 rfl (.int .i64 rat) rfl _ _ KB.out (by simp [sagaArr]) rfl size_int ?_; intro wS hw K; have KR := Lib.hid (hw.blk KR.out (by omega)); have KZ := Lib.hid (hw.blk KZ.out (by omega)); have HB := Lib.hid (hw.below HB.out (by omega)); clear KB; have KB := Lib.hid K; clear hw K)
    | (refine wpList_store_one rfl _ _ _ rfl _ 9 rfl (.bool false) rfl _ _ KB.out (by simp [sagaArr]) rfl size_bool ?_; intro wS hw K; have KR := Lib.hid (hw.blk KR.out (by omega)); have KZ := Lib.hid (hw.blk KZ.out (by omega)); have HB := Lib.hid (hw.below HB.out (by omega)); clear KB; have KB := Lib.hid K; clear hw K)
    | (refine wpList_store_one rfl _ _ _ rfl _ 7 rfl (.int .i64 (phase + 2)) rfl _ _ KB.out (by simp [sagaArr]) rfl size_int ?_; intro wS hw K; have KR := Lib.hid (hw.blk KR.out (by omega)); have KZ := Lib.hid (hw.blk KZ.out (by omega)); have HB := Lib.hid (hw.below HB.out (by omega)); clear KB; have KB := Lib.hid K; clear hw K)
    | (refine wpList_load_blk rfl _ _ rfl _ rfl _ _ KB.out (by exact rowSaga) ?_)
    | (refine wpList_store_blk rfl _ _ _ rfl _ rfl (sagaArr (⟨id, name, count, pivot, begun, rat, si, (phase + 2), next, false, tries, so, su, fs, fc, sf⟩ : SagaV)) rfl _ _ KZ.out (by rfl) (by simp [sagaArr, Value.oneCell']) rowSaga ?_; intro w9 hw9 K9; have KE := Lib.hid K9; have HE := Lib.hid (hw9.below HB.out (by omega)); clear hw9 K9))
  have hq := HS.out.through HE.out
  exact bodyPost_ret (results_row rfl _ _ _ _ _ rfl KE.out rowSaga) rfl ⟨(⟨id, name, count, pivot, begun, rat, si, (phase + 2), next, false, tries, so, su, fs, fc, sf⟩ : SagaV), rfl, ⟨rfl, ⟨hq.held.input, hq.held.outs, hq.held.undos, hq.held.fail, hq.held.apart⟩⟩, HE.out⟩

set_option maxRecDepth 10000000 in
set_option maxHeartbeats 2000000 in
theorem light_4 (s : SagaV) (D : SagaD) (x : RecV) (X : RecD) (B : Nat) (w : World) (hs : SagaOwn w B s D) (_hB : B ≤ w.heap.size) (hx : RecRd w x X) (hk : X.kind = 4) (hdl : X.data.length ≤ 1073741824) :
    Calls Tryz.prog 79 #[s.val, x.val] w fun e w' => ∃ s' : SagaV, e = .returned s'.val ∧ SagaOwn w' B s' (lightD D X) ∧ Below w.heap.size w w' := by
  obtain ⟨si, so, su, sf, rfl⟩ : ∃ i o u f, s = D.words i o u f := ⟨_, _, _, _, hs.eq⟩
  obtain ⟨rd, rfl⟩ : ∃ rd, x = X.words rd := ⟨_, hx.eq⟩
  obtain ⟨id, name, count, pivot, begun, at_, input, phase, next, flight, tries, outs, undos, fs, fc, fail⟩ := D
  obtain ⟨v, kind, saga, step, try_, rat, last, code, rcount, rpivot, rname, data⟩ := X
  simp only at hk hdl
  subst hk
  have KB0 := ((BlkAt.new w (sagaArr (⟨id, name, count, pivot, begun, at_, si, phase, next, flight, tries, so, su, fs, fc, sf⟩ : SagaV)) 29).push (.cells (recArr (⟨v, 4, saga, step, try_, rat, last, code, rcount, rpivot, rname, rd⟩ : RecV)) 31)).push (.cells zeroSagaArr 29)
  have KR0 := (BlkAt.new (w.alloc (.cells (sagaArr (⟨id, name, count, pivot, begun, at_, si, phase, next, flight, tries, so, su, fs, fc, sf⟩ : SagaV)) 29)) (recArr (⟨v, 4, saga, step, try_, rat, last, code, rcount, rpivot, rname, rd⟩ : RecV)) 31).push (.cells zeroSagaArr 29)
  have KZ0 := BlkAt.new ((w.alloc (.cells (sagaArr (⟨id, name, count, pivot, begun, at_, si, phase, next, flight, tries, so, su, fs, fc, sf⟩ : SagaV)) 29)).alloc (.cells (recArr (⟨v, 4, saga, step, try_, rat, last, code, rcount, rpivot, rname, rd⟩ : RecV)) 31)) zeroSagaArr 29
  simp only [World.size_alloc] at KR0 KZ0
  have hb1 : Below w.heap.size w (((w.alloc (.cells (sagaArr (⟨id, name, count, pivot, begun, at_, si, phase, next, flight, tries, so, su, fs, fc, sf⟩ : SagaV)) 29)).alloc (.cells (recArr (⟨v, 4, saga, step, try_, rat, last, code, rcount, rpivot, rname, rd⟩ : RecV)) 31)).alloc (.cells zeroSagaArr 29)) := boxd (boxd (boxd (Below.refl _ _)))
  obtain ⟨w1, hw1⟩ : ∃ q, ((w.alloc (.cells (sagaArr (⟨id, name, count, pivot, begun, at_, si, phase, next, flight, tries, so, su, fs, fc, sf⟩ : SagaV)) 29)).alloc (.cells (recArr (⟨v, 4, saga, step, try_, rat, last, code, rcount, rpivot, rname, rd⟩ : RecV)) 31)).alloc (.cells zeroSagaArr 29) = q := ⟨_, rfl⟩
  rw [hw1] at KB0 KR0 KZ0 hb1
  have hs1 : w.heap.size + 3 ≤ w1.heap.size := by rw [← hw1]; simp
  have KB := Lib.hid KB0
  have KR := Lib.hid KR0
  have KZ := Lib.hid KZ0
  have HB := Lib.hid hb1
  have HS := Lib.hid hs
  have HX := Lib.hid hx
  clear KB0 KR0 KZ0 hb1 hs hx
  dsimp only [recArr, sagaArr, Sl.v, zeroSagaArr] at hw1
  have HW1 := Lib.hid hw1
  clear hw1
  dsimp only [SagaD.words, RecD.words, SagaV.val, RecV.val, Sl.v]
  go_enter Tryz.func79, Tryz.ntmps79
  go_upto_region 1 with fail
  rw [HW1.out]
  clear HW1
  by_cases hl : last = 1
  · subst hl
    go_upto_region 2 with (first
      | (refine wpList_load_field rfl _ _ rfl _ 5 rfl _ _ KR.out (.int .i64 rat) rfl one_int ?_)
      | (refine wpList_store_one rfl _ _ _ rfl _ 5 rfl (.int .i64 rat) rfl _ _ KB.out (by simp [sagaArr]) rfl size_int ?_; intro wS hw K; have KR := Lib.hid (hw.blk KR.out (by omega)); have KZ := Lib.hid (hw.blk KZ.out (by omega)); have HB := Lib.hid (hw.below HB.out (by omega)); clear KB; have KB := Lib.hid K; clear hw K))
    have KB9 := KB.out
    clear KB
    have KB := Lib.hid (show BlkAt _ w.heap.size (sagaArr (⟨id, name, count, pivot, begun, rat, si, phase, next, flight, tries, so, su, fs, fc, sf⟩ : SagaV)) 29 from KB9)
    clear KB9
    go_upto_region 3 with (first
      | (refine wpList_load_field rfl _ _ rfl _ 1 rfl _ _ KR.out (.int .i64 4) rfl one_int ?_)
      | (refine wpList_load_field_g (by rfl) _ _ rfl _ 1 rfl _ _ KR.out (.int .i64 4) rfl one_int ?_)
      | (refine wpList_store_one rfl _ _ _ rfl _ 9 rfl (.bool false) rfl _ _ KB.out (by simp [sagaArr]) rfl size_bool ?_; intro wS hw K; have KR := Lib.hid (hw.blk KR.out (by omega)); have KZ := Lib.hid (hw.blk KZ.out (by omega)); have HB := Lib.hid (hw.below HB.out (by omega)); clear KB; have KB := Lib.hid K; clear hw K))
    have KB9 := KB.out
    clear KB
    have KB := Lib.hid (show BlkAt _ w.heap.size (sagaArr (⟨id, name, count, pivot, begun, rat, si, phase, next, false, tries, so, su, fs, fc, sf⟩ : SagaV)) 29 from KB9)
    clear KB9
    go_upto_region 13 with (first
      | (refine wpList_load_field rfl _ _ rfl _ 1 rfl _ _ KR.out (.int .i64 4) rfl one_int ?_)
      | (refine wpList_load_field rfl _ _ rfl _ 6 rfl _ _ KR.out (.int .i64 1) rfl one_int ?_))
    go_upto_region 14 with (first
      | (refine wpList_store_one rfl _ _ _ rfl _ 10 rfl (.int .i64 0) rfl _ _ KB.out (by simp [sagaArr]) rfl size_int ?_; intro wS hw K; have KR := Lib.hid (hw.blk KR.out (by omega)); have KZ := Lib.hid (hw.blk KZ.out (by omega)); have HB := Lib.hid (hw.below HB.out (by omega)); clear KB; have KB := Lib.hid K; clear hw K))
    have KB9 := KB.out
    clear KB
    have KB := Lib.hid (show BlkAt _ w.heap.size (sagaArr (⟨id, name, count, pivot, begun, rat, si, phase, next, false, 0, so, su, fs, fc, sf⟩ : SagaV)) 29 from KB9)
    clear KB9
    go_upto_region 15 with (first
      | (refine wpList_store_one rfl _ _ _ rfl _ 7 rfl (.int .i64 2) rfl _ _ KB.out (by simp [sagaArr]) rfl size_int ?_; intro wS hw K; have KR := Lib.hid (hw.blk KR.out (by omega)); have KZ := Lib.hid (hw.blk KZ.out (by omega)); have HB := Lib.hid (hw.below HB.out (by omega)); clear KB; have KB := Lib.hid K; clear hw K))
    have KB9 := KB.out
    clear KB
    have KB := Lib.hid (show BlkAt _ w.heap.size (sagaArr (⟨id, name, count, pivot, begun, rat, si, 2, next, false, 0, so, su, fs, fc, sf⟩ : SagaV)) 29 from KB9)
    clear KB9
    go_upto_region 16 with (first
      | (refine wpList_load_field rfl _ _ rfl _ 3 rfl _ _ KR.out (.int .i64 step) rfl one_int ?_)
      | (refine wpList_store_one rfl _ _ _ rfl _ 13 rfl (.int .i64 step) rfl _ _ KB.out (by simp [sagaArr]) rfl size_int ?_; intro wS hw K; have KR := Lib.hid (hw.blk KR.out (by omega)); have KZ := Lib.hid (hw.blk KZ.out (by omega)); have HB := Lib.hid (hw.below HB.out (by omega)); clear KB; have KB := Lib.hid K; clear hw K))
    have KB9 := KB.out
    clear KB
    have KB := Lib.hid (show BlkAt _ w.heap.size (sagaArr (⟨id, name, count, pivot, begun, rat, si, 2, next, false, 0, so, su, step, fc, sf⟩ : SagaV)) 29 from KB9)
    clear KB9
    go_upto_region 17 with (first
      | (refine wpList_load_field rfl _ _ rfl _ 7 rfl _ _ KR.out (.int .i64 code) rfl one_int ?_)
      | (refine wpList_store_one rfl _ _ _ rfl _ 14 rfl (.int .i64 code) rfl _ _ KB.out (by simp [sagaArr]) rfl size_int ?_; intro wS hw K; have KR := Lib.hid (hw.blk KR.out (by omega)); have KZ := Lib.hid (hw.blk KZ.out (by omega)); have HB := Lib.hid (hw.below HB.out (by omega)); clear KB; have KB := Lib.hid K; clear hw K))
    have KB9 := KB.out
    clear KB
    have KB := Lib.hid (show BlkAt _ w.heap.size (sagaArr (⟨id, name, count, pivot, begun, rat, si, 2, next, false, 0, so, su, step, code, sf⟩ : SagaV)) 29 from KB9)
    clear KB9
    go_wp2_with (refine wpList_load_field rfl _ _ rfl _ 11 rfl _ _ KR.out (.slice rd.a rd.n rd.c) rfl one_bytes ?_)
    refine (refBytes_any rd data _ (HX.out.below HB.out).data hdl).mono ?_
    rintro e w2 ⟨vv, rfl, ho, hb⟩
    obtain ⟨⟨qa, qn, qc⟩, rfl, -⟩ := ho.at (by omega)
    have hsz := HB.out.size
    have hsk := blk_lt KZ.out
    have hle := hb.size
    have KB := Lib.hid (KB.out.below hb (by omega))
    have KR := Lib.hid (KR.out.below hb (by omega))
    have KZ := Lib.hid (KZ.out.below hb (by omega))
    have HO := Lib.hid (ho.lower (base := B) (by omega))
    have HB := Lib.hid (then_ HB.out hb)
    clear ho hb
    dsimp only [Sl.v]
    go_wp2_with (first
      | (refine wpList_store_one rfl _ _ _ rfl _ 15 rfl (.slice qa qn qc) rfl _ _ KB.out (by simp [sagaArr]) rfl size_bytes ?_; intro wS hw K; have KR := Lib.hid (hw.blk KR.out (by omega)); have KZ := Lib.hid (hw.blk KZ.out (by omega)); have HB := Lib.hid (hw.below HB.out (by omega)); have HO := Lib.hid (HO.out.keep (hw.rows KB.out (by decide) (by decide))); clear KB; have KB := Lib.hid K; clear hw K)
      | (refine wpList_load_blk rfl _ _ rfl _ rfl _ _ KB.out (by exact rowSaga) ?_)
      | (refine wpList_store_blk rfl _ _ _ rfl _ rfl (sagaArr (⟨id, name, count, pivot, begun, rat, si, 2, next, false, 0, so, su, step, code, ⟨qa, qn, qc⟩⟩ : SagaV)) rfl _ _ KZ.out (by rfl) (by simp [sagaArr, Value.oneCell']) rowSaga ?_; intro w9 hw9 K9; have KE := Lib.hid K9; have HE := Lib.hid (hw9.below HB.out (by omega)); have HF := Lib.hid (HO.out.keep (hw9.rows KZ.out (by decide) (by decide))); clear hw9 K9))
    have hq := HS.out.through HE.out
    exact bodyPost_ret (results_row rfl _ _ _ _ _ rfl KE.out rowSaga) rfl ⟨(⟨id, name, count, pivot, begun, rat, si, 2, next, false, 0, so, su, step, code, ⟨qa, qn, qc⟩⟩ : SagaV), rfl, ⟨rfl, ⟨hq.held.input, hq.held.outs, hq.held.undos, HF.out, hq.held.apart⟩⟩, HE.out⟩
  · have hl' : (last == 1) = false := by rw [beq_eq_false_iff_ne]; exact hl
    have he : lightD ⟨id, name, count, pivot, begun, at_, input, phase, next, flight, tries, outs, undos, fs, fc, fail⟩ ⟨v, 4, saga, step, try_, rat, last, code, rcount, rpivot, rname, data⟩ = ⟨id, name, count, pivot, begun, rat, input, phase, next, false, tries, outs, undos, fs, fc, fail⟩ := by
      unfold lightD; simp [hl]
    clear hl
    go_wp2_with (first
      | (refine wpList_load_field rfl _ _ rfl _ 5 rfl _ _ KR.out (.int .i64 rat) rfl one_int ?_)
      | (refine wpList_load_field rfl _ _ rfl _ 1 rfl _ _ KR.out (.int .i64 4) rfl one_int ?_)
      | (refine wpList_load_field_g (by rfl) _ _ rfl _ 1 rfl _ _ KR.out (.int .i64 4) rfl one_int ?_)
      | (refine wpList_load_field rfl _ _ rfl _ 6 rfl _ _ KR.out (.int .i64 last) rfl one_int ?_)
      | (refine wpList_store_one rfl _ _ _ rfl _ 5 rfl (.int .i64 rat) rfl _ _ KB.out (by simp [sagaArr]) rfl size_int ?_; intro wS hw K; have KR := Lib.hid (hw.blk KR.out (by omega)); have KZ := Lib.hid (hw.blk KZ.out (by omega)); have HB := Lib.hid (hw.below HB.out (by omega)); clear KB; have KB := Lib.hid K; clear hw K)
      | (refine wpList_store_one rfl _ _ _ rfl _ 9 rfl (.bool false) rfl _ _ KB.out (by simp [sagaArr]) rfl size_bool ?_; intro wS hw K; have KR := Lib.hid (hw.blk KR.out (by omega)); have KZ := Lib.hid (hw.blk KZ.out (by omega)); have HB := Lib.hid (hw.below HB.out (by omega)); clear KB; have KB := Lib.hid K; clear hw K)
      | (refine wpList_load_blk rfl _ _ rfl _ rfl _ _ KB.out (by exact rowSaga) ?_)
      | (refine wpList_store_blk rfl _ _ _ rfl _ rfl (sagaArr (⟨id, name, count, pivot, begun, rat, si, phase, next, false, tries, so, su, fs, fc, sf⟩ : SagaV)) rfl _ _ KZ.out (by rfl) (by simp [sagaArr, Value.oneCell']) rowSaga ?_; intro w9 hw9 K9; have KE := Lib.hid K9; have HE := Lib.hid (hw9.below HB.out (by omega)); clear hw9 K9))
    have hq := HS.out.through HE.out
    exact bodyPost_ret (results_row rfl _ _ _ _ _ rfl KE.out rowSaga) rfl ⟨(⟨id, name, count, pivot, begun, rat, si, phase, next, false, tries, so, su, fs, fc, sf⟩ : SagaV), rfl, (by rw [he]; exact ⟨rfl, ⟨hq.held.input, hq.held.outs, hq.held.undos, hq.held.fail, hq.held.apart⟩⟩), HE.out⟩
end Go.Proofs.YteaiadpigpehaaaGreatDoor
