/-
  saga.Apply walked. Conditions: the tables that saga.Check, lift.Up and the walk read, as laid. (Printed by wip/gen_apply.py.)
-/
import Derived.Test.YteaiadpigpehaaaDoorAct
import Derived.Test.YteaiadpigpehaaaDoorRow
import Derived.Deep.RegionHeld3
namespace Go.Proofs.YteaiadpigpehaaaDoor
open Go.RowKit

def sagaArr (s : SagaV) : Array Value := #[.int .i64 s.id, .string s.name, .int .i64 s.count, .int .i64 s.pivot, .int .i64 s.begun, .int .i64 s.at_, s.input.v, .int .i64 s.phase, .int .i64 s.next, .bool s.flight, .int .i64 s.tries, s.outs.v, s.undos.v, .int .i64 s.failStep, .int .i64 s.failCode, s.fail.v]
@[reducible] def zeroSagaArr : Array Value := #[.int .i64 0, .string ⟨#[]⟩, .int .i64 0, .int .i64 0, .int .i64 0, .int .i64 0, .slice none 0 0, .int .i64 0, .int .i64 0, .bool false, .int .i64 0, .slice none 0 0, .slice none 0 0, .int .i64 0, .int .i64 0, .slice none 0 0]
def zeroSagaV : SagaV := ⟨0, ⟨#[]⟩, 0, 0, 0, 0, ⟨none, 0, 0⟩, 0, 0, false, 0, ⟨none, 0, 0⟩, ⟨none, 0, 0⟩, 0, 0, ⟨none, 0, 0⟩⟩
theorem SagaOwn.zero (w : World) (b : Nat) : SagaOwn w b zeroSagaV zeroD := ⟨rfl, ⟨World.ownsRow_nil _ _ _ _, OwnLists.nil _ _, OwnLists.nil _ _, World.ownsRow_nil _ _ _ _, .inl rfl⟩⟩
/-- Numbers as Go has them. -/
structure SagaFits (D : SagaD) : Prop where
  name : D.name.size ≤ 4611686018427387904
  next : D.next ≤ 9223372036854775807
  step : D.failStep ≤ 9223372036854775807
structure RecFits (R : RecD) : Prop where
  name : R.name.size ≤ 4611686018427387904
  len : R.data.length ≤ 4611686018427387904
theorem checkD_not {D : SagaD} (h : ¬ checkD D = 0) : checkD D = 100 := (checkD_or D).resolve_left h
theorem up_rd (r : RecV) (R : RecD) (w : World) (ht : Tables w) (hok : RecOk w r R.data) (hr : r = R.words r.data) (hN : recN r R.data = recD R) (he : recD R = 0) :
    Calls Tryd.prog 13 #[r.val, .int .i64 3] w fun e w' => ∃ t : Sl, e = .returned (.tuple #[((up3 R).words t).val, .int .i64 0]) ∧ OwnBytes w' w.heap.size t.v (up3 R).data ∧ Below w.heap.size w w' := by
  refine (up_good r R.data w ht hok (hN.trans he)).mono ?_
  rintro e w' ⟨s, rfl, ho, hb⟩
  obtain ⟨t, ht, h⟩ := finish_rd ho
  refine ⟨t, ?_, h, hb⟩
  rw [← ht]
  have e : ({ r with data := s } : RecV) = R.words s := by rw [hr]
  rw [e]
theorem clone_rd (s : SagaV) (D : SagaD) (w : World) (k : SagaRd w s D) (hs : D.held.Small) : Calls Tryd.prog 34 #[s.val] w fun e w' => ∃ s' : SagaV, e = .returned s'.val ∧ SagaOwn w' w.heap.size s' D ∧ Below w.heap.size w w' := by
  refine (sagaClone_any s D.held w k.held hs).mono ?_
  rintro e w' ⟨s', rfl, h1, h2, h3⟩
  refine ⟨s', rfl, ⟨?_, h2⟩, h3⟩
  rw [k.eq] at h1
  exact h1
theorem saga_at {s : SagaV} {D : SagaD} (h : s = D.words s.input s.outs s.undos s.fail) (n : Int) : ({ s with at_ := n } : SagaV) = ({ D with at_ := n } : SagaD).words s.input s.outs s.undos s.fail := by rw [h]
theorem GoodD.next0 {D : SagaD} (h : GoodD D) : 0 ≤ D.next := by
  by_cases k : D.phase = 1 ∨ D.phase = 3
  · exact (h.fw k).next0
  · exact (h.bk k).next0
theorem GoodD.next1000 {D : SagaD} (h : GoodD D) : D.next ≤ 1000 := by
  have hp := h.plain.count32
  by_cases k : D.phase = 1 ∨ D.phase = 3
  · have := (h.fw k).next; omega
  · have := (h.bk k).next; have := (h.bk k).count; omega
theorem GoodD.outs1000 {D : SagaD} (h : GoodD D) : D.outs.length ≤ 1000 := by
  have hp := h.plain.count32
  by_cases k : D.phase = 1 ∨ D.phase = 3
  · have := (h.fw k).next; have := (h.fw k).outs; omega
  · have := (h.bk k).failStep; have := (h.bk k).count; omega
theorem GoodD.undos1000 {D : SagaD} (h : GoodD D) : D.undos.length ≤ 1000 := by
  have hp := h.plain.count32
  by_cases k : D.phase = 1 ∨ D.phase = 3
  · rw [(h.fw k).undos]; simp
  · have := (h.bk k).undos; have := (h.bk k).count; have := (h.bk k).next0; have := (h.bk k).next; omega
theorem turnF_or (k : Int) : turnF k = 79 ∨ turnF k = 80 ∨ turnF k = 81 ∨ turnF k = 82 ∨ turnF k = 83 := by
  unfold turnF
  (repeat' split) <;> simp
theorem refusedN_of {s : SagaV} {D : SagaD} {x : RecV} {X : RecD} {i o u f t : Sl} (h : s = D.words i o u f) (hx : x = X.words t) : refusedN s x = refusedD D X := by rw [h, hx]; rfl

set_option maxRecDepth 10000000 in
set_option maxHeartbeats 4000000 in
theorem apply_1 (s : SagaV) (D : SagaD) (r : RecV) (R : RecD) (w : World) (ht : Tables w) (hl : LandsAt w) (hs : SagaRd w s D) (hr : RecRd w r R) (fs : SagaFits D) (fr : RecFits R) (h1 : ¬ checkD D = 0) :
    Calls Tryd.prog 16 #[s.val, r.val] w fun e w' => ∃ s', e = .returned (.tuple #[SagaV.val s', .int .i64 (applyN D R)]) ∧ SagaOwn w' w.heap.size s' (applyD D R) ∧ Below w.heap.size w w' := by
  have e1 : applyN D R = 100 := if_pos h1
  have e2 : applyD D R = zeroD := if_pos (by rw [e1]; decide)
  rw [e1, e2]
  obtain ⟨os, us, po, pu, pc⟩ := hs.parts
  have hok : SagaOk w s os us := ⟨by rw [hs.eq]; exact fs.name, by rw [hs.eq]; exact fs.next, by rw [hs.eq]; exact fs.step, po, pu⟩
  have hR : RecOk w r R.data := ⟨by rw [hr.eq]; exact fr.name, fr.len, hr.data⟩
  have hRN := hr.recEq
  have hb0 := Below.refl w.heap.size w
  have hb1 := boxd (o := .cells (sagaArr s) 25) hb0
  have hb2 := boxd (o := .cells (recArr r) 27) hb1
  have hb3 := boxd (o := .cells zeroSagaArr 25) hb2
  have k0 := ((BlkAt.new w (sagaArr s) 25).push (.cells (recArr r) 27)).push (.cells zeroSagaArr 25)
  have k1 := (BlkAt.new (w.alloc (.cells (sagaArr s) 25)) (recArr r) 27).push (.cells zeroSagaArr 25)
  have k2 := BlkAt.new ((w.alloc (.cells (sagaArr s) 25)).alloc (.cells (recArr r) 27)) zeroSagaArr 25
  have cC := sagaCheck_any s os us _ (ht.below hb3).tabs (hok.below hb3)
  rw [pc] at cC
  have HT := Lib.hid ht
  have HL := Lib.hid hl
  have HS := Lib.hid hs
  have HR := Lib.hid hR
  have CC := Lib.hid cC
  have HB := Lib.hid hb3
  clear hb0 hb1 hb2 hb3 po pu pc hok hR ht hl hs hr cC
  rw [checkD_not h1] at CC
  clear h1 e1 e2 hRN fs fr
  dsimp only [SagaV.val, RecV.val, Sl.v, sagaArr, recArr, zeroSagaArr] at CC k0 k1 k2 HB
  dsimp only [SagaV.val, RecV.val, Sl.v]
  go_enter Tryd.func16, Tryd.ntmps16
  go_wp2_with (refine wpList_load_blk rfl _ _ rfl _ rfl _ _ k0 rowSaga ?_)
  refine CC.out.mono ?_
  rintro e w2 ⟨rfl, hb⟩
  have K2 := k2.below hb (by simp)
  have K1 := k1.below hb (by simp)
  have K0 := k0.below hb (by simp; omega)
  simp only [World.size_alloc] at K2 K1
  have hsz : w.heap.size + 3 ≤ w2.heap.size := by have := hb.size; simp at this; omega
  have HB2 := Lib.hid (then_ HB.out hb)
  clear hb k0 k1 k2 HB CC
  go_wp2_with (refine wpList_store_part rfl _ _ _ rfl _ 0 rfl _ rfl _ _ K2 (Nat.le_refl _) (by simp [Value.oneCell']) rowSaga ?_; intro w9 hw9 K9)
  have K9' : BlkAt w9 (w.heap.size + 2) zeroSagaArr 25 := K9
  (try simp only [Exit.inBlock, Exit.then])
  exact bodyPost_ret (results_row2 rfl _ _ _ _ _ rfl K9' rowSaga) rfl ⟨zeroSagaV, rfl, SagaOwn.zero _ _, hw9.below HB2.out (by omega)⟩

set_option maxRecDepth 10000000 in
set_option maxHeartbeats 4000000 in
theorem apply_2 (s : SagaV) (D : SagaD) (r : RecV) (R : RecD) (w : World) (ht : Tables w) (hl : LandsAt w) (hs : SagaRd w s D) (hr : RecRd w r R) (fs : SagaFits D) (fr : RecFits R) (h1 : checkD D = 0) (h2 : ¬ recD R = 0) :
    Calls Tryd.prog 16 #[s.val, r.val] w fun e w' => ∃ s', e = .returned (.tuple #[SagaV.val s', .int .i64 (applyN D R)]) ∧ SagaOwn w' w.heap.size s' (applyD D R) ∧ Below w.heap.size w w' := by
  have e1 : applyN D R = recD R := by unfold applyN; rw [if_neg (by simp [h1]), if_pos h2]
  have e2 : applyD D R = zeroD := if_pos (by rw [e1]; exact h2)
  rw [e1, e2]
  obtain ⟨os, us, po, pu, pc⟩ := hs.parts
  have hok : SagaOk w s os us := ⟨by rw [hs.eq]; exact fs.name, by rw [hs.eq]; exact fs.next, by rw [hs.eq]; exact fs.step, po, pu⟩
  have hR : RecOk w r R.data := ⟨by rw [hr.eq]; exact fr.name, fr.len, hr.data⟩
  have hRN := hr.recEq
  have hb0 := Below.refl w.heap.size w
  have hb1 := boxd (o := .cells (sagaArr s) 25) hb0
  have hb2 := boxd (o := .cells (recArr r) 27) hb1
  have hb3 := boxd (o := .cells zeroSagaArr 25) hb2
  have k0 := ((BlkAt.new w (sagaArr s) 25).push (.cells (recArr r) 27)).push (.cells zeroSagaArr 25)
  have k1 := (BlkAt.new (w.alloc (.cells (sagaArr s) 25)) (recArr r) 27).push (.cells zeroSagaArr 25)
  have k2 := BlkAt.new ((w.alloc (.cells (sagaArr s) 25)).alloc (.cells (recArr r) 27)) zeroSagaArr 25
  have cC := sagaCheck_any s os us _ (ht.below hb3).tabs (hok.below hb3)
  rw [pc] at cC
  have HT := Lib.hid ht
  have HL := Lib.hid hl
  have HS := Lib.hid hs
  have HR := Lib.hid hR
  have CC := Lib.hid cC
  have HB := Lib.hid hb3
  clear hb0 hb1 hb2 hb3 po pu pc hok hR ht hl hs hr cC
  rw [h1] at CC
  have CU := Lib.hid (fun w (ht : Tables w) (hR : RecOk w r R.data) => up_bad r R.data w ht hR (by rw [hRN]; exact h2))
  rw [hRN] at CU
  obtain ⟨E, hE⟩ : ∃ x, recD R = x := ⟨_, rfl⟩
  rw [hE] at CU h2
  rw [hE]
  have H2 : (E != 0) = true := by rw [bne_iff_ne]; exact h2
  clear h1 e1 e2 hRN fs fr hE h2
  dsimp only [SagaV.val, RecV.val, Sl.v, sagaArr, recArr, zeroSagaArr] at CC k0 k1 k2 HB CU
  dsimp only [SagaV.val, RecV.val, Sl.v]
  go_enter Tryd.func16, Tryd.ntmps16
  go_wp2_with (refine wpList_load_blk rfl _ _ rfl _ rfl _ _ k0 rowSaga ?_)
  refine CC.out.mono ?_
  rintro e w2 ⟨rfl, hb⟩
  have K2 := k2.below hb (by simp)
  have K1 := k1.below hb (by simp)
  have K0 := k0.below hb (by simp; omega)
  simp only [World.size_alloc] at K2 K1
  have hsz : w.heap.size + 3 ≤ w2.heap.size := by have := hb.size; simp at this; omega
  have HB2 := Lib.hid (then_ HB.out hb)
  clear hb k0 k1 k2 HB CC
  go_wp2_with (refine wpList_load_blk rfl _ _ rfl _ rfl _ _ K1 rowRec ?_)
  refine (CU.out _ (HT.out.below HB2.out) (HR.out.below HB2.out)).mono ?_
  rintro e w4 ⟨rfl, hb⟩
  have K24 := (K2.below hb (by omega)).push (.cells zeroRec 27)
  have hsz4 := hb.size
  have HB4 := Lib.hid (then_ HB2.out hb)
  dsimp only [zeroRecV, RecV.val, Sl.v]
  clear hb K2 K1 K0 HB2 CU HT HR
  go_wp2_with (refine wpList_store_part rfl _ _ _ rfl _ 0 rfl _ rfl _ _ K24 (Nat.le_refl _) (by simp [Value.oneCell']) rowSaga ?_; intro w9 hw9 K9)
  have K9' : BlkAt w9 (w.heap.size + 2) zeroSagaArr 25 := K9
  (try simp only [Exit.inBlock, Exit.then])
  exact bodyPost_ret (results_row2 rfl _ _ _ _ _ rfl K9' rowSaga) rfl ⟨zeroSagaV, rfl, SagaOwn.zero _ _, hw9.below (boxd HB4.out) (by omega)⟩

end Go.Proofs.YteaiadpigpehaaaDoor
