/-
  annalsref10.Apply walked: it answers as saga.Apply does. Conditions: as for annalsref10.Check; a record of texts of at most 2^40 bytes. (Printed by wip/gen_ref10apply.py.)
-/
import Derived.Test.YteaiadpigpehaaaGreatDoorRef10Check
namespace Go.Proofs.YteaiadpigpehaaaGreatDoor
open Go.RowKit

/-- A saga that the reference can read. -/
structure RefSaga (D : SagaD) : Prop where
  small : D.held.Small
  name : D.name.size ≤ 1099511627776
  begun : D.begun ≤ 9223372036854775807
  at_ : D.at_ ≤ 9223372036854775807
  told : sizedD D = true → ToldOk D
set_option maxRecDepth 10000000 in
set_option maxHeartbeats 2000000 in
theorem ref10Apply_any (s : SagaV) (D : SagaD) (r : RecV) (R : RecD) (w : World) (ht : RefTabs w) (hs : SagaRd w s D) (hr : RecRd w r R) (hf : RefSaga D) (fr : RefFits R) :
    Calls Tryz.prog 26 #[s.val, r.val] w fun e w' => ∃ s' : SagaV, e = .returned (.tuple #[s'.val, .int .i64 (applyN D R)]) ∧ SagaOwn w' w.heap.size s' (applyD D R) ∧ Below w.heap.size w w' := by
  have cC := fun W (h : Below w.heap.size w W) => ref10Check_any s D W (ht.below h) (hs.below h) hf.small hf.name hf.begun hf.at_ hf.told
  have cA := fun (h0 : checkD D = 0) W (h : Below w.heap.size w W) => step_any s D r R W (ht.below h) (hs.below h) (hr.below h) fr ((checkD_iff D).1 h0)
  have hN : checkD D ≠ 0 → applyN D R = checkD D := fun h => by unfold applyN; rw [if_pos h, checkD_not h]
  have hND : checkD D ≠ 0 → applyD D R = zeroD := fun h => by unfold applyD; rw [if_pos (by rw [hN h]; exact h)]
  have CC := Lib.hid cC
  have CA := Lib.hid cA
  have HN := Lib.hid hN
  have HND := Lib.hid hND
  clear cC cA hN hND ht hs hr hf fr
  generalize applyN D R = AN at CA HN HND ⊢
  generalize applyD D R = AD at CA HND ⊢
  generalize checkD D = C at CC CA HN HND
  clear D R
  obtain ⟨id, name, count, pivot, begun, at_, si, phase, next, flight, tries, so, su, fs, fc, sf⟩ := s
  obtain ⟨v, kind, saga, step, try_, rat, last, code, rcount, rpivot, rname, rd⟩ := r
  have KB0 := ((BlkAt.new w (sagaArr (⟨id, name, count, pivot, begun, at_, si, phase, next, flight, tries, so, su, fs, fc, sf⟩ : SagaV)) 29).push (.cells (recArr (⟨v, kind, saga, step, try_, rat, last, code, rcount, rpivot, rname, rd⟩ : RecV)) 31)).push (.cells zeroSagaArr 29)
  have KR0 := (BlkAt.new (w.alloc (.cells (sagaArr (⟨id, name, count, pivot, begun, at_, si, phase, next, flight, tries, so, su, fs, fc, sf⟩ : SagaV)) 29)) (recArr (⟨v, kind, saga, step, try_, rat, last, code, rcount, rpivot, rname, rd⟩ : RecV)) 31).push (.cells zeroSagaArr 29)
  have KZ0 := BlkAt.new ((w.alloc (.cells (sagaArr (⟨id, name, count, pivot, begun, at_, si, phase, next, flight, tries, so, su, fs, fc, sf⟩ : SagaV)) 29)).alloc (.cells (recArr (⟨v, kind, saga, step, try_, rat, last, code, rcount, rpivot, rname, rd⟩ : RecV)) 31)) zeroSagaArr 29
  simp only [World.size_alloc] at KR0 KZ0
  have hb1 : Below w.heap.size w (((w.alloc (.cells (sagaArr (⟨id, name, count, pivot, begun, at_, si, phase, next, flight, tries, so, su, fs, fc, sf⟩ : SagaV)) 29)).alloc (.cells (recArr (⟨v, kind, saga, step, try_, rat, last, code, rcount, rpivot, rname, rd⟩ : RecV)) 31)).alloc (.cells zeroSagaArr 29)) := boxd (boxd (boxd (Below.refl _ _)))
  obtain ⟨w1, hw1⟩ : ∃ q, ((w.alloc (.cells (sagaArr (⟨id, name, count, pivot, begun, at_, si, phase, next, flight, tries, so, su, fs, fc, sf⟩ : SagaV)) 29)).alloc (.cells (recArr (⟨v, kind, saga, step, try_, rat, last, code, rcount, rpivot, rname, rd⟩ : RecV)) 31)).alloc (.cells zeroSagaArr 29) = q := ⟨_, rfl⟩
  rw [hw1] at KB0 KR0 KZ0 hb1
  have hs1 : w.heap.size + 3 ≤ w1.heap.size := by rw [← hw1]; simp
  have KB := Lib.hid KB0
  have KR := Lib.hid KR0
  have KZ := Lib.hid KZ0
  have HB := Lib.hid hb1
  clear KB0 KR0 KZ0 hb1
  dsimp only [recArr, sagaArr, Sl.v, zeroSagaArr] at hw1
  have HW1 := Lib.hid hw1
  clear hw1
  dsimp only [SagaV.val, RecV.val, Sl.v] at CC CA ⊢
  go_enter Tryz.func26, Tryz.ntmps26
  go_upto_region 1 with fail
  rw [HW1.out]
  clear HW1
  go_wp2_with (refine wpList_load_blk rfl _ _ rfl _ rfl _ _ KB.out rowSaga ?_)
  refine (CC.out _ HB.out).mono ?_
  clear CC
  rintro e wa ⟨rfl, hb⟩
  have KB := Lib.hid (KB.out.below hb (by omega))
  have KR := Lib.hid (KR.out.below hb (by omega))
  have KZ := Lib.hid (KZ.out.below hb (by omega))
  have hsa : w.heap.size + 3 ≤ wa.heap.size := by have := hb.size; omega
  have HB := Lib.hid (then_ HB.out hb)
  clear hb hs1
  by_cases h0 : C = 0
  · subst h0
    have CAX := Lib.hid (CA.out rfl wa HB.out)
    clear CA HN HND
    go_wp2_with (first | (refine wpList_load_blk rfl _ _ rfl _ rfl _ _ KB.out rowSaga ?_) | (refine wpList_load_blk rfl _ _ rfl _ rfl _ _ KR.out rowRec ?_))
    refine CAX.out.mono ?_
    rintro e w5 ⟨s6, rfl, ho, hb⟩
    have KZ := Lib.hid (KZ.out.below hb (by omega))
    have HB := Lib.hid (then_ HB.out hb)
    have HO6 := Lib.hid (ho.lower (c := w.heap.size) (by omega))
    clear hb ho CAX KB KR
    go_wp2_with (refine wpList_store_blk rfl _ _ _ rfl _ rfl (sagaArr s6) rfl _ _ KZ.out (by rfl) (by simp [sagaArr, Value.oneCell']) rowSaga ?_; intro w9 hw9 K9; have KE := Lib.hid K9; have HE := Lib.hid (hw9.below HB.out (by omega)); have hw9r := Lib.hid (hw9.rows KZ.out (by decide) (by decide)); clear hw9 K9)
    exact bodyPost_ret (results_row2 rfl _ _ _ _ _ rfl KE.out rowSaga) rfl ⟨s6, rfl, HO6.out.keep hw9r.out, HE.out⟩
  · have e1 : AN = C := HN.out h0
    have e2 : AD = zeroD := HND.out h0
    subst e1 e2
    clear HN HND CA
    have hk1 : (AN != 0) = true := by rw [bne_iff_ne]; exact h0
    clear h0
    go_wp2_with (refine wpList_store_blk rfl _ _ _ rfl _ rfl (zeroSagaArr) rfl _ _ KZ.out (by rfl) (by simp [Value.oneCell']) rowSaga ?_; intro w9 hw9 K9; have KE := Lib.hid K9; have HE := Lib.hid (hw9.below HB.out (by omega)); have hw9r := Lib.hid (hw9.rows KZ.out (by decide) (by decide)); clear hw9 K9)
    exact bodyPost_ret (results_row2 rfl _ _ _ _ _ rfl KE.out rowSaga) rfl ⟨zeroSagaV, rfl, SagaOwn.zero _ _, HE.out⟩
end Go.Proofs.YteaiadpigpehaaaGreatDoor
