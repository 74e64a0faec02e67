/-
  saga.Apply walked.
  saga.Apply walked: the ways on which the record is lifted.
  saga.Begin walked.
  saga.Finished and saga.Allowed walked.
  Conditions: as each theorem says. (Joined by wip/tools/pack.py.)
-/
import Derived.Test.YtfbaliimjmimhaaDoorPkTurn
import Derived.Deep.RegionHeld3
namespace Go.Proofs.YtfbaliimjmimhaaDoor
open Go.RowKit

def sagaArr (s : SagaV) : Array Value := #[.int .i64 s.id, .string s.name, .int .i64 s.count, .int .i64 s.pivot, .int .i64 s.begun, .int .i64 s.at_, s.input.v, .int .i64 s.phase, .int .i64 s.next, .bool s.flight, .int .i64 s.tries, s.outs.v, s.undos.v, .int .i64 s.failStep, .int .i64 s.failCode, s.fail.v]
@[reducible] def zeroSagaArr : Array Value := #[.int .i64 0, .string ⟨#[]⟩, .int .i64 0, .int .i64 0, .int .i64 0, .int .i64 0, .slice none 0 0, .int .i64 0, .int .i64 0, .bool false, .int .i64 0, .slice none 0 0, .slice none 0 0, .int .i64 0, .int .i64 0, .slice none 0 0]
def zeroSagaV : SagaV := ⟨0, ⟨#[]⟩, 0, 0, 0, 0, ⟨none, 0, 0⟩, 0, 0, false, 0, ⟨none, 0, 0⟩, ⟨none, 0, 0⟩, 0, 0, ⟨none, 0, 0⟩⟩
theorem SagaOwn.zero (w : World) (b : Nat) : SagaOwn w b zeroSagaV zeroD := ⟨rfl, ⟨World.ownsRow_nil _ _ _ _, OwnLists.nil _ _, OwnLists.nil _ _, World.ownsRow_nil _ _ _ _, .inl rfl⟩⟩
/-- Numbers as Go has them. -/
structure SagaFits (D : SagaD) : Prop where
  name : D.name.size ≤ 4611686018427387904
  next : D.next ≤ 9223372036854775807
  step : D.failStep ≤ 9223372036854775807
structure RecFits (R : RecD) : Prop where
  name : R.name.size ≤ 4611686018427387904
  len : R.data.length ≤ 4611686018427387904
theorem checkD_not {D : SagaD} (h : ¬ checkD D = 0) : checkD D = 100 := (checkD_or D).resolve_left h
theorem up_rd (r : RecV) (R : RecD) (w : World) (ht : Tables w) (hok : RecOk w r R.data) (hr : r = R.words r.data) (hN : recN r R.data = recD R) (he : recD R = 0) :
    Calls Tryd.prog 16 #[r.val, .int .i64 3] w fun e w' => ∃ t : Sl, e = .returned (.tuple #[((up3 R).words t).val, .int .i64 0]) ∧ OwnBytes w' w.heap.size t.v (up3 R).data ∧ Below w.heap.size w w' := by
  refine (up_good r R.data w ht hok (hN.trans he)).mono ?_
  rintro e w' ⟨s, rfl, ho, hb⟩
  obtain ⟨t, ht, h⟩ := finish_rd ho
  refine ⟨t, ?_, h, hb⟩
  rw [← ht]
  have e : ({ r with data := s } : RecV) = R.words s := by rw [hr]
  rw [e]
theorem clone_rd (s : SagaV) (D : SagaD) (w : World) (k : SagaRd w s D) (hs : D.held.Small) : Calls Tryd.prog 40 #[s.val] w fun e w' => ∃ s' : SagaV, e = .returned s'.val ∧ SagaOwn w' w.heap.size s' D ∧ Below w.heap.size w w' := by
  refine (sagaClone_any s D.held w k.held hs).mono ?_
  rintro e w' ⟨s', rfl, h1, h2, h3⟩
  refine ⟨s', rfl, ⟨?_, h2⟩, h3⟩
  rw [k.eq] at h1
  exact h1
theorem saga_at {s : SagaV} {D : SagaD} (h : s = D.words s.input s.outs s.undos s.fail) (n : Int) : ({ s with at_ := n } : SagaV) = ({ D with at_ := n } : SagaD).words s.input s.outs s.undos s.fail := by rw [h]
theorem GoodD.next0 {D : SagaD} (h : GoodD D) : 0 ≤ D.next := by
  by_cases k : D.phase = 1 ∨ D.phase = 3
  · exact (h.fw k).next0
  · exact (h.bk k).next0
theorem GoodD.next1000 {D : SagaD} (h : GoodD D) : D.next ≤ 1000 := by
  have hp := h.plain.count32
  by_cases k : D.phase = 1 ∨ D.phase = 3
  · have := (h.fw k).next; omega
  · have := (h.bk k).next; have := (h.bk k).count; omega
theorem GoodD.outs1000 {D : SagaD} (h : GoodD D) : D.outs.length ≤ 1000 := by
  have hp := h.plain.count32
  by_cases k : D.phase = 1 ∨ D.phase = 3
  · have := (h.fw k).next; have := (h.fw k).outs; omega
  · have := (h.bk k).failStep; have := (h.bk k).count; omega
theorem GoodD.undos1000 {D : SagaD} (h : GoodD D) : D.undos.length ≤ 1000 := by
  have hp := h.plain.count32
  by_cases k : D.phase = 1 ∨ D.phase = 3
  · rw [(h.fw k).undos]; simp
  · have := (h.bk k).undos; have := (h.bk k).count; have := (h.bk k).next0; have := (h.bk k).next; omega
theorem turnF_or (k : Int) : turnF k = 67 ∨ turnF k = 68 ∨ turnF k = 69 ∨ turnF k = 70 ∨ turnF k = 71 := by
  unfold turnF
  (repeat' split) <;> simp
theorem refusedN_of {s : SagaV} {D : SagaD} {x : RecV} {X : RecD} {i o u f t : Sl} (h : s = D.words i o u f) (hx : x = X.words t) : refusedN s x = refusedD D X := by rw [h, hx]; rfl

set_option maxRecDepth 10000000 in
set_option maxHeartbeats 4000000 in
theorem apply_1 (s : SagaV) (D : SagaD) (r : RecV) (R : RecD) (w : World) (ht : Tables w) (hl : LandsAt w) (hs : SagaRd w s D) (hr : RecRd w r R) (fs : SagaFits D) (fr : RecFits R) (h1 : ¬ checkD D = 0) :
    Calls Tryd.prog 37 #[s.val, r.val] w fun e w' => ∃ s', e = .returned (.tuple #[SagaV.val s', .int .i64 (applyN D R)]) ∧ SagaOwn w' w.heap.size s' (applyD D R) ∧ Below w.heap.size w w' := by
  have e1 : applyN D R = 100 := if_pos h1
  have e2 : applyD D R = zeroD := if_pos (by rw [e1]; decide)
  rw [e1, e2]
  obtain ⟨os, us, po, pu, pc⟩ := hs.parts
  have hok : SagaOk w s os us := ⟨by rw [hs.eq]; exact fs.name, by rw [hs.eq]; exact fs.next, by rw [hs.eq]; exact fs.step, po, pu⟩
  have hR : RecOk w r R.data := ⟨by rw [hr.eq]; exact fr.name, fr.len, hr.data⟩
  have hRN := hr.recEq
  have hb0 := Below.refl w.heap.size w
  have hb1 := boxd (o := .cells (sagaArr s) 40) hb0
  have hb2 := boxd (o := .cells (recArr r) 44) hb1
  have hb3 := boxd (o := .cells zeroSagaArr 40) hb2
  have k0 := ((BlkAt.new w (sagaArr s) 40).push (.cells (recArr r) 44)).push (.cells zeroSagaArr 40)
  have k1 := (BlkAt.new (w.alloc (.cells (sagaArr s) 40)) (recArr r) 44).push (.cells zeroSagaArr 40)
  have k2 := BlkAt.new ((w.alloc (.cells (sagaArr s) 40)).alloc (.cells (recArr r) 44)) zeroSagaArr 40
  have cC := sagaCheck_any s os us _ (ht.below hb3).tabs (hok.below hb3)
  rw [pc] at cC
  have HT := Lib.hid ht
  have HL := Lib.hid hl
  have HS := Lib.hid hs
  have HR := Lib.hid hR
  have CC := Lib.hid cC
  have HB := Lib.hid hb3
  clear hb0 hb1 hb2 hb3 po pu pc hok hR ht hl hs hr cC
  rw [checkD_not h1] at CC
  clear h1 e1 e2 hRN fs fr
  dsimp only [SagaV.val, RecV.val, Sl.v, sagaArr, recArr, zeroSagaArr] at CC k0 k1 k2 HB
  dsimp only [SagaV.val, RecV.val, Sl.v]
  go_enter Tryd.func37, Tryd.ntmps37
  go_wp2_with (refine wpList_load_blk rfl _ _ rfl _ rfl _ _ k0 rowSaga ?_)
  refine CC.out.mono ?_
  rintro e w2 ⟨rfl, hb⟩
  have K2 := k2.below hb (by simp)
  have K1 := k1.below hb (by simp)
  have K0 := k0.below hb (by simp; omega)
  simp only [World.size_alloc] at K2 K1
  have hsz : w.heap.size + 3 ≤ w2.heap.size := by have := hb.size; simp at this; omega
  have HB2 := Lib.hid (then_ HB.out hb)
  clear hb k0 k1 k2 HB CC
  go_wp2_with (refine wpList_store_part rfl _ _ _ rfl _ 0 rfl _ rfl _ _ K2 (Nat.le_refl _) (by simp [Value.oneCell']) rowSaga ?_; intro w9 hw9 K9)
  have K9' : BlkAt w9 (w.heap.size + 2) zeroSagaArr 40 := K9
  (try simp only [Exit.inBlock, Exit.then])
  exact bodyPost_ret (results_row2 rfl _ _ _ _ _ rfl K9' rowSaga) rfl ⟨zeroSagaV, rfl, SagaOwn.zero _ _, hw9.below HB2.out (by omega)⟩

set_option maxRecDepth 10000000 in
set_option maxHeartbeats 4000000 in
theorem apply_2 (s : SagaV) (D : SagaD) (r : RecV) (R : RecD) (w : World) (ht : Tables w) (hl : LandsAt w) (hs : SagaRd w s D) (hr : RecRd w r R) (fs : SagaFits D) (fr : RecFits R) (h1 : checkD D = 0) (h2 : ¬ recD R = 0) :
    Calls Tryd.prog 37 #[s.val, r.val] w fun e w' => ∃ s', e = .returned (.tuple #[SagaV.val s', .int .i64 (applyN D R)]) ∧ SagaOwn w' w.heap.size s' (applyD D R) ∧ Below w.heap.size w w' := by
  have e1 : applyN D R = recD R := by unfold applyN; rw [if_neg (by simp [h1]), if_pos h2]
  have e2 : applyD D R = zeroD := if_pos (by rw [e1]; exact h2)
  rw [e1, e2]
  obtain ⟨os, us, po, pu, pc⟩ := hs.parts
  have hok : SagaOk w s os us := ⟨by rw [hs.eq]; exact fs.name, by rw [hs.eq]; exact fs.next, by rw [hs.eq]; exact fs.step, po, pu⟩
  have hR : RecOk w r R.data := ⟨by rw [hr.eq]; exact fr.name, fr.len, hr.data⟩
  have hRN := hr.recEq
  have hb0 := Below.refl w.heap.size w
  have hb1 := boxd (o := .cells (sagaArr s) 40) hb0
  have hb2 := boxd (o := .cells (recArr r) 44) hb1
  have hb3 := boxd (o := .cells zeroSagaArr 40) hb2
  have k0 := ((BlkAt.new w (sagaArr s) 40).push (.cells (recArr r) 44)).push (.cells zeroSagaArr 40)
  have k1 := (BlkAt.new (w.alloc (.cells (sagaArr s) 40)) (recArr r) 44).push (.cells zeroSagaArr 40)
  have k2 := BlkAt.new ((w.alloc (.cells (sagaArr s) 40)).alloc (.cells (recArr r) 44)) zeroSagaArr 40
  have cC := sagaCheck_any s os us _ (ht.below hb3).tabs (hok.below hb3)
  rw [pc] at cC
  have HT := Lib.hid ht
  have HL := Lib.hid hl
  have HS := Lib.hid hs
  have HR := Lib.hid hR
  have CC := Lib.hid cC
  have HB := Lib.hid hb3
  clear hb0 hb1 hb2 hb3 po pu pc hok hR ht hl hs hr cC
  rw [h1] at CC
  have CU := Lib.hid (fun w (ht : Tables w) (hR : RecOk w r R.data) => up_bad r R.data w ht hR (by rw [hRN]; exact h2))
  rw [hRN] at CU
  obtain ⟨E, hE⟩ : ∃ x, recD R = x := ⟨_, rfl⟩
  rw [hE] at CU h2
  rw [hE]
  have H2 : (E != 0) = true := by rw [bne_iff_ne]; exact h2
  clear h1 e1 e2 hRN fs fr hE h2
  dsimp only [SagaV.val, RecV.val, Sl.v, sagaArr, recArr, zeroSagaArr] at CC k0 k1 k2 HB CU
  dsimp only [SagaV.val, RecV.val, Sl.v]
  go_enter Tryd.func37, Tryd.ntmps37
  go_wp2_with (refine wpList_load_blk rfl _ _ rfl _ rfl _ _ k0 rowSaga ?_)
  refine CC.out.mono ?_
  rintro e w2 ⟨rfl, hb⟩
  have K2 := k2.below hb (by simp)
  have K1 := k1.below hb (by simp)
  have K0 := k0.below hb (by simp; omega)
  simp only [World.size_alloc] at K2 K1
  have hsz : w.heap.size + 3 ≤ w2.heap.size := by have := hb.size; simp at this; omega
  have HB2 := Lib.hid (then_ HB.out hb)
  clear hb k0 k1 k2 HB CC
  go_wp2_with (refine wpList_load_blk rfl _ _ rfl _ rfl _ _ K1 rowRec ?_)
  refine (CU.out _ (HT.out.below HB2.out) (HR.out.below HB2.out)).mono ?_
  rintro e w4 ⟨rfl, hb⟩
  have K24 := (K2.below hb (by omega)).push (.cells zeroRec 44)
  have hsz4 := hb.size
  have HB4 := Lib.hid (then_ HB2.out hb)
  dsimp only [zeroRecV, RecV.val, Sl.v]
  clear hb K2 K1 K0 HB2 CU HT HR
  go_wp2_with (refine wpList_store_part rfl _ _ _ rfl _ 0 rfl _ rfl _ _ K24 (Nat.le_refl _) (by simp [Value.oneCell']) rowSaga ?_; intro w9 hw9 K9)
  have K9' : BlkAt w9 (w.heap.size + 2) zeroSagaArr 40 := K9
  (try simp only [Exit.inBlock, Exit.then])
  exact bodyPost_ret (results_row2 rfl _ _ _ _ _ rfl K9' rowSaga) rfl ⟨zeroSagaV, rfl, SagaOwn.zero _ _, hw9.below (boxd HB4.out) (by omega)⟩

end Go.Proofs.YtfbaliimjmimhaaDoor
namespace Go.Proofs.YtfbaliimjmimhaaDoor
open Go.RowKit

theorem walk_saga (s : SagaV) (x : RecV) : ∀ i, i < (sagaArr s).size → (walkArr s x)[0 + i]? = (sagaArr s)[i]? := by
  intro i hi
  rw [Nat.zero_add]
  have e : walkArr s x = sagaArr s ++ #[Value.int .i64 x.v, .int .i64 x.kind, .int .i64 x.saga, .int .i64 x.step, .int .i64 x.try_, .int .i64 x.at_, .int .i64 x.last, .int .i64 x.code, .int .i64 x.count, .int .i64 x.pivot, .string x.name, x.data.v] := rfl
  rw [e, Array.getElem?_append_left hi]
theorem SagaOwn.keep {w w' : World} {b : Nat} {s : SagaV} {D : SagaD} (h : SagaOwn w b s D) (k : RowsKept w w') : SagaOwn w' b s D := ⟨h.eq, h.held.keep k⟩

set_option maxRecDepth 10000000 in
set_option maxHeartbeats 4000000 in
theorem apply_3 (s : SagaV) (D : SagaD) (r : RecV) (R : RecD) (w : World) (ht : Tables w) (hl : LandsAt w) (hs : SagaRd w s D) (hr : RecRd w r R) (fs : SagaFits D) (fr : RecFits R) (h1 : checkD D = 0) (h2 : recD R = 0) (h3 : ¬ refusedD D (up3 R) = 0) :
    Calls Tryd.prog 37 #[s.val, r.val] w fun e w' => ∃ s', e = .returned (.tuple #[SagaV.val s', .int .i64 (applyN D R)]) ∧ SagaOwn w' w.heap.size s' (applyD D R) ∧ Below w.heap.size w w' := by
  have e1 : applyN D R = refusedD D (up3 R) := by unfold applyN; rw [if_neg (by simp [h1]), if_neg (by simp [h2])]
  have e2 : applyD D R = zeroD := if_pos (by rw [e1]; exact h3)
  rw [e1, e2]
  clear e1 e2
  obtain ⟨E, hE⟩ : ∃ x, refusedD D (up3 R) = x := ⟨_, rfl⟩
  have hE0 : E ≠ 0 := by rw [← hE]; exact h3
  have hE0 := Lib.hid hE0
  rw [hE]
  clear h3
  have h3 := hE
  clear hE
  have HRR := hr.eq
  obtain ⟨os, us, po, pu, pc⟩ := hs.parts
  have hok : SagaOk w s os us := ⟨by rw [hs.eq]; exact fs.name, by rw [hs.eq]; exact fs.next, by rw [hs.eq]; exact fs.step, po, pu⟩
  have hR : RecOk w r R.data := ⟨by rw [hr.eq]; exact fr.name, fr.len, hr.data⟩
  have hRN := hr.recEq
  have hb0 := Below.refl w.heap.size w
  have hb1 := boxd (o := .cells (sagaArr s) 40) hb0
  have hb2 := boxd (o := .cells (recArr r) 44) hb1
  have hb3 := boxd (o := .cells zeroSagaArr 40) hb2
  have k0 := ((BlkAt.new w (sagaArr s) 40).push (.cells (recArr r) 44)).push (.cells zeroSagaArr 40)
  have k1 := (BlkAt.new (w.alloc (.cells (sagaArr s) 40)) (recArr r) 44).push (.cells zeroSagaArr 40)
  have k2 := BlkAt.new ((w.alloc (.cells (sagaArr s) 40)).alloc (.cells (recArr r) 44)) zeroSagaArr 40
  have cC := sagaCheck_any s os us _ (ht.below hb3).tabs (hok.below hb3)
  rw [pc] at cC
  have HT := Lib.hid ht
  have HL := Lib.hid hl
  have HS := Lib.hid hs
  have HR := Lib.hid hR
  have CC := Lib.hid cC
  have HB := Lib.hid hb3
  clear hb0 hb1 hb2 hb3 po pu pc hok hR ht hl hs hr cC
  rw [h1] at CC
  have CU := Lib.hid (fun w (ht : Tables w) (hR : RecOk w r R.data) => up_rd r R w ht hR HRR hRN h2)
  have HG := Lib.hid (recGood h2)
  have HGD := Lib.hid ((checkD_iff D).1 h1)
  have CL := Lib.hid (fun w (k : SagaRd w s D) => clone_rd s D w k HGD.out.small)
  obtain ⟨X, hX⟩ : ∃ x, up3 R = x := ⟨_, rfl⟩
  rw [hX] at CU HG h3
  try rw [hX]
  have H3 := Lib.hid h3
  clear h1 h2 hRN fs fr hX h3 HRR
  dsimp only [SagaV.val, RecV.val, Sl.v, sagaArr, recArr, zeroSagaArr] at CC k0 k1 k2 HB CU CL
  dsimp only [SagaV.val, RecV.val, Sl.v]
  go_enter Tryd.func37, Tryd.ntmps37
  go_wp2_with (refine wpList_load_blk rfl _ _ rfl _ rfl _ _ k0 rowSaga ?_)
  refine CC.out.mono ?_
  rintro e w2 ⟨rfl, hb⟩
  have K2 := k2.below hb (by simp)
  have K1 := k1.below hb (by simp)
  have K0 := k0.below hb (by simp; omega)
  simp only [World.size_alloc] at K2 K1
  have hsz : w.heap.size + 3 ≤ w2.heap.size := by have := hb.size; simp at this; omega
  have HB2 := Lib.hid (then_ HB.out hb)
  clear hb k0 k1 k2 HB CC
  go_wp2_with (refine wpList_load_blk rfl _ _ rfl _ rfl _ _ K1 rowRec ?_)
  refine (CU.out _ (HT.out.below HB2.out) (HR.out.below HB2.out)).mono ?_
  rintro e w4 ⟨t, rfl, ho, hb⟩
  try dsimp only [RecD.words, RecV.val, Sl.v] at ho
  try dsimp only [RecD.words, RecV.val, Sl.v]
  obtain ⟨x, hx⟩ : ∃ x : RecV, x = X.words t := ⟨_, rfl⟩
  have hbX := boxd (o := .cells (recArr (X.words t)) 44) (Below.refl w4.heap.size w4)
  have K24 := (K2.below hb (by omega)).push (.cells (recArr (X.words t)) 44)
  have K04 := (K0.below hb (by omega)).push (.cells (recArr (X.words t)) 44)
  have KX := BlkAt.new w4 (recArr (X.words t)) 44
  have hsz4 := hb.size
  have HB4 := Lib.hid (boxd (o := .cells (recArr (X.words t)) 44) (then_ HB2.out hb))
  have HO := Lib.hid (OwnBytes.through ho hbX)
  have HH := Lib.hid (HS.out.below HB4.out)
  try dsimp only [recArr, RecD.words, Sl.v] at K24 K04 KX HB4 HO HH
  clear ho hb K2 K1 K0 HB2 CU HT HR HS hbX hx x
  go_wp2_with fail
  obtain ⟨Q, hQ⟩ : ∃ x, w4.heap.size = x := ⟨_, rfl⟩
  rw [hQ] at KX hsz4
  rw [hQ]
  obtain ⟨w5, hw5⟩ : ∃ x, w4.alloc (.cells #[.int .i64 X.v, .int .i64 X.kind, .int .i64 X.saga, .int .i64 X.step, .int .i64 X.try_, .int .i64 X.at_, .int .i64 X.last, .int .i64 X.code, .int .i64 X.count, .int .i64 X.pivot, .string X.name, .slice t.a t.n t.c] 44) = x := ⟨_, rfl⟩
  have hs5 : w5.heap.size = Q + 1 := by rw [← hw5, ← hQ]; simp
  rw [hw5] at K24 K04 KX HB4 HO HH
  rw [hw5]
  have CL5 := Lib.hid (CL.out w5.drew (HH.out.below (Below.refl _ _).drew))
  clear hw5 hQ w4 CL
  have b0 := K04.cell 0
  have b1 := K04.cell 1
  have b2 := K04.cell 2
  have b3 := K04.cell 3
  have b4 := K04.cell 4
  have b5 := K04.cell 5
  have b6 := K04.cell 6
  have b7 := K04.cell 7
  have b8 := K04.cell 8
  have b9 := K04.cell 9
  have b10 := K04.cell 10
  have b11 := K04.cell 11
  have b12 := K04.cell 12
  have b13 := K04.cell 13
  have b14 := K04.cell 14
  have b15 := K04.cell 15
  simp only [List.getElem?_toArray, List.getElem?_cons_zero, List.getElem?_cons_succ] at b0 b1 b2 b3 b4 b5 b6 b7 b8 b9 b10 b11 b12 b13 b14 b15
  have x0 := KX.cell 0
  have x1 := KX.cell 1
  have x2 := KX.cell 2
  have x3 := KX.cell 3
  have x4 := KX.cell 4
  have x5 := KX.cell 5
  have x6 := KX.cell 6
  have x7 := KX.cell 7
  have x8 := KX.cell 8
  have x9 := KX.cell 9
  have x10 := KX.cell 10
  have x11 := KX.cell 11
  simp only [List.getElem?_toArray, List.getElem?_cons_zero, List.getElem?_cons_succ] at x0 x1 x2 x3 x4 x5 x6 x7 x8 x9 x10 x11
  have HKX : Hid (BlkAt w5.drew Q _ 44) := Lib.hid KX
  have HK04 : Hid (BlkAt w5.drew w.heap.size _ 40) := Lib.hid K04
  have HK24 := Lib.hid K24
  clear K04 KX K24
  go_region_held3 (fun w' => w'.cell? ⟨w.heap.size, 0, none⟩ = some (Value.int .i64 s.id) ∧ w'.cell? ⟨w.heap.size, 1, none⟩ = some (Value.string s.name) ∧ w'.cell? ⟨w.heap.size, 2, none⟩ = some (Value.int .i64 s.count) ∧ w'.cell? ⟨w.heap.size, 3, none⟩ = some (Value.int .i64 s.pivot) ∧ w'.cell? ⟨w.heap.size, 4, none⟩ = some (Value.int .i64 s.begun) ∧ w'.cell? ⟨w.heap.size, 5, none⟩ = some (Value.int .i64 s.at_) ∧ w'.cell? ⟨w.heap.size, 6, none⟩ = some (Value.slice s.input.a s.input.n s.input.c) ∧ w'.cell? ⟨w.heap.size, 7, none⟩ = some (Value.int .i64 s.phase) ∧ w'.cell? ⟨w.heap.size, 8, none⟩ = some (Value.int .i64 s.next) ∧ w'.cell? ⟨w.heap.size, 9, none⟩ = some (Value.bool s.flight) ∧ w'.cell? ⟨w.heap.size, 10, none⟩ = some (Value.int .i64 s.tries) ∧ w'.cell? ⟨w.heap.size, 11, none⟩ = some (Value.slice s.outs.a s.outs.n s.outs.c) ∧ w'.cell? ⟨w.heap.size, 12, none⟩ = some (Value.slice s.undos.a s.undos.n s.undos.c) ∧ w'.cell? ⟨w.heap.size, 13, none⟩ = some (Value.int .i64 s.failStep) ∧ w'.cell? ⟨w.heap.size, 14, none⟩ = some (Value.int .i64 s.failCode) ∧ w'.cell? ⟨w.heap.size, 15, none⟩ = some (Value.slice s.fail.a s.fail.n s.fail.c) ∧ w'.cell? ⟨Q, 0, none⟩ = some (Value.int .i64 X.v) ∧ w'.cell? ⟨Q, 1, none⟩ = some (Value.int .i64 X.kind) ∧ w'.cell? ⟨Q, 2, none⟩ = some (Value.int .i64 X.saga) ∧ w'.cell? ⟨Q, 3, none⟩ = some (Value.int .i64 X.step) ∧ w'.cell? ⟨Q, 4, none⟩ = some (Value.int .i64 X.try_) ∧ w'.cell? ⟨Q, 5, none⟩ = some (Value.int .i64 X.at_) ∧ w'.cell? ⟨Q, 6, none⟩ = some (Value.int .i64 X.last) ∧ w'.cell? ⟨Q, 7, none⟩ = some (Value.int .i64 X.code) ∧ w'.cell? ⟨Q, 8, none⟩ = some (Value.int .i64 X.count) ∧ w'.cell? ⟨Q, 9, none⟩ = some (Value.int .i64 X.pivot) ∧ w'.cell? ⟨Q, 10, none⟩ = some (Value.string X.name) ∧ w'.cell? ⟨Q, 11, none⟩ = some (Value.slice t.a t.n t.c))
    (first | go_keep | (refine ⟨?_, ?_, ?_, ?_, ?_, ?_, ?_, ?_, ?_, ?_, ?_, ?_, ?_, ?_, ?_, ?_, ?_, ?_, ?_, ?_, ?_, ?_, ?_, ?_, ?_, ?_, ?_, ?_⟩ <;> assumption))
    ((go_at_call 40; (with_reducible refine CL5.out.mono ?_); rintro e w6 ⟨s', rfl, ho6, hb6⟩; have KX6 := HKX.out.below hb6 (by show Q < w5.heap.size; omega); have KS6 := HK04.out.below hb6 (by show w.heap.size < w5.heap.size; omega); have y0 := KX6.cell 0; have y1 := KX6.cell 1; have y2 := KX6.cell 2; have y3 := KX6.cell 3; have y4 := KX6.cell 4; have y5 := KX6.cell 5; have y6 := KX6.cell 6; have y7 := KX6.cell 7; have y8 := KX6.cell 8; have y9 := KX6.cell 9; have y10 := KX6.cell 10; have y11 := KX6.cell 11; simp only [List.getElem?_toArray, List.getElem?_cons_zero, List.getElem?_cons_succ] at y0 y1 y2 y3 y4 y5 y6 y7 y8 y9 y10 y11; have z0 := KS6.cell 0; have z1 := KS6.cell 1; have z2 := KS6.cell 2; have z3 := KS6.cell 3; have z4 := KS6.cell 4; have z5 := KS6.cell 5; have z6 := KS6.cell 6; have z7 := KS6.cell 7; have z8 := KS6.cell 8; have z9 := KS6.cell 9; have z10 := KS6.cell 10; have z11 := KS6.cell 11; have z12 := KS6.cell 12; have z13 := KS6.cell 13; have z14 := KS6.cell 14; have z15 := KS6.cell 15; simp only [List.getElem?_toArray, List.getElem?_cons_zero, List.getElem?_cons_succ] at z0 z1 z2 z3 z4 z5 z6 z7 z8 z9 z10 z11 z12 z13 z14 z15; have hsz6 : Q < w6.heap.size := (by have := hb6.size; have h' : w5.drew.heap.size = w5.heap.size := rfl; omega); have HKX6 := Lib.hid KX6; have HO6 := Lib.hid ho6; have HB6 := Lib.hid hb6; clear KX6 KS6 ho6 hb6))
  clear b0 b1 b2 b3 b4 b5 b6 b7 b8 b9 b10 b11 b12 b13 b14 b15 x0 x1 x2 x3 x4 x5 x6 x7 x8 x9 x10 x11 y0 y1 y2 y3 y4 y5 y6 y7 y8 y9 y10 y11 z0 z1 z2 z3 z4 z5 z6 z7 z8 z9 z10 z11 z12 z13 z14 z15 HK04
  go_wp2_with fail
  have h56 := HB6.out.size
  have h5d : w5.drew.heap.size = w5.heap.size := rfl
  have hbW : Below w6.heap.size w6 (w6.alloc (.cells (walkArr s' (X.words t)) 100)) := (Below.refl _ _).alloc (Nat.le_refl _) _
  have K7 : WalkD (w6.alloc (.cells (walkArr s' (X.words t)) 100)) (w.heap.size + 3) w6.heap.size D X s' (X.words t) :=
    ⟨HO6.out.eq, rfl, BlkAt.new _ _ _, ((HO6.out.lower (by omega)).through hbW).held, ((HO.out.through ((Below.refl _ _).drew)).through HB6.out).lower (by omega) |>.through hbW, by omega⟩
  have HB7 := Lib.hid (boxd (o := .cells (walkArr s' (X.words t)) 100) (then_ HB4.out (show Below w5.heap.size w5 w6 from ((Below.refl _ _).drew).trans HB6.out)))
  have K27 := BlkAt.push (BlkAt.below (w := w5.drew) HK24.out HB6.out (by omega)) (.cells (walkArr s' (X.words t)) 100)
  have KX7 := HKX6.out.push (.cells (walkArr s' (X.words t)) 100)
  obtain ⟨g, hg⟩ : ∃ x, w6.heap.size = x := ⟨_, rfl⟩
  have hlt2 : w.heap.size + 3 ≤ g := by omega
  have hgQ : Q < g := by omega
  obtain ⟨w7, hw7⟩ : ∃ x, w6.alloc (.cells (walkArr s' (X.words t)) 100) = x := ⟨_, rfl⟩
  have hw7' := hw7
  dsimp only [walkArr, Sl.v, RecD.words] at hw7'
  rw [hw7] at K7 HB7 K27 KX7
  rw [hg] at K7
  rw [hw7', hg]
  have RF := refused_any g _ _ w7 K7.own.walkIn (HL.out.below HB7.out) ⟨HG.out.kind1, HG.out.kind7⟩ (by
    have e := congrArg SagaV.tries K7.eqs
    have h := HGD.out.plain
    simp only at e
    rw [e]
    exact ⟨h.tries0, h.tries1000⟩)
  rw [refusedN_of K7.eqs rfl] at RF
  rw [H3.out] at RF
  have h7s := HB7.out.size
  have hs7 : w7.heap.size = g + 1 := by rw [← hw7, ← hg]; simp
  clear hw7 hw7' hbW hg h56 h5d HB6 HO6 HKX6 HO HB4 CL5 HKX HH HL hs5 hsz4 hsz HK24 H3
  refine RF.mono ?_
  rintro e w8 ⟨rfl, hd⟩
  have HB8 := Lib.hid (then_ HB7.out hd.below)
  have K28 := K27.below hd.below (by omega)
  have KX8 := KX7.below hd.below (by omega)
  have K8 := K7.through hd.below
  have hs8 := hd.below.size
  clear hd RF K27 KX7 K7
  have H2 : (E != 0) = true := by rw [bne_iff_ne]; exact hE0.out
  clear hE0 HG HGD KX8 K8
  go_wp2_with (refine wpList_store_part rfl _ _ _ rfl _ 0 rfl _ rfl _ _ K28 (Nat.le_refl _) (by simp [Value.oneCell']) rowSaga ?_; intro w9 hw9 K9)
  have K9' : BlkAt w9 (w.heap.size + 2) zeroSagaArr 40 := K9
  (try simp only [Exit.inBlock, Exit.then])
  exact bodyPost_ret (results_row2 rfl _ _ _ _ _ rfl K9' rowSaga) rfl ⟨zeroSagaV, rfl, SagaOwn.zero _ _, hw9.below HB8.out (by omega)⟩

set_option maxRecDepth 10000000 in
set_option maxHeartbeats 4000000 in
theorem apply_4 (s : SagaV) (D : SagaD) (r : RecV) (R : RecD) (w : World) (ht : Tables w) (hl : LandsAt w) (hs : SagaRd w s D) (hr : RecRd w r R) (fs : SagaFits D) (fr : RecFits R) (h1 : checkD D = 0) (h2 : recD R = 0) (h3 : refusedD D (up3 R) = 0) :
    Calls Tryd.prog 37 #[s.val, r.val] w fun e w' => ∃ s', e = .returned (.tuple #[SagaV.val s', .int .i64 (applyN D R)]) ∧ SagaOwn w' w.heap.size s' (applyD D R) ∧ Below w.heap.size w w' := by
  have e1 : applyN D R = 0 := by unfold applyN; rw [if_neg (by simp [h1]), if_neg (by simp [h2]), h3]
  have e2 : applyD D R = movedD D (up3 R) := if_neg (by rw [e1]; simp)
  rw [e1, e2]
  clear e1 e2
  have HRR := hr.eq
  obtain ⟨os, us, po, pu, pc⟩ := hs.parts
  have hok : SagaOk w s os us := ⟨by rw [hs.eq]; exact fs.name, by rw [hs.eq]; exact fs.next, by rw [hs.eq]; exact fs.step, po, pu⟩
  have hR : RecOk w r R.data := ⟨by rw [hr.eq]; exact fr.name, fr.len, hr.data⟩
  have hRN := hr.recEq
  have hb0 := Below.refl w.heap.size w
  have hb1 := boxd (o := .cells (sagaArr s) 40) hb0
  have hb2 := boxd (o := .cells (recArr r) 44) hb1
  have hb3 := boxd (o := .cells zeroSagaArr 40) hb2
  have k0 := ((BlkAt.new w (sagaArr s) 40).push (.cells (recArr r) 44)).push (.cells zeroSagaArr 40)
  have k1 := (BlkAt.new (w.alloc (.cells (sagaArr s) 40)) (recArr r) 44).push (.cells zeroSagaArr 40)
  have k2 := BlkAt.new ((w.alloc (.cells (sagaArr s) 40)).alloc (.cells (recArr r) 44)) zeroSagaArr 40
  have cC := sagaCheck_any s os us _ (ht.below hb3).tabs (hok.below hb3)
  rw [pc] at cC
  have HT := Lib.hid ht
  have HL := Lib.hid hl
  have HS := Lib.hid hs
  have HR := Lib.hid hR
  have CC := Lib.hid cC
  have HB := Lib.hid hb3
  clear hb0 hb1 hb2 hb3 po pu pc hok hR ht hl hs hr cC
  rw [h1] at CC
  have CU := Lib.hid (fun w (ht : Tables w) (hR : RecOk w r R.data) => up_rd r R w ht hR HRR hRN h2)
  have HG := Lib.hid (recGood h2)
  have HGD := Lib.hid ((checkD_iff D).1 h1)
  have CL := Lib.hid (fun w (k : SagaRd w s D) => clone_rd s D w k HGD.out.small)
  obtain ⟨X, hX⟩ : ∃ x, up3 R = x := ⟨_, rfl⟩
  rw [hX] at CU HG h3
  try rw [hX]
  have H3 := Lib.hid h3
  clear h1 h2 hRN fs fr hX h3 HRR
  dsimp only [SagaV.val, RecV.val, Sl.v, sagaArr, recArr, zeroSagaArr] at CC k0 k1 k2 HB CU CL
  dsimp only [SagaV.val, RecV.val, Sl.v]
  go_enter Tryd.func37, Tryd.ntmps37
  go_wp2_with (refine wpList_load_blk rfl _ _ rfl _ rfl _ _ k0 rowSaga ?_)
  refine CC.out.mono ?_
  rintro e w2 ⟨rfl, hb⟩
  have K2 := k2.below hb (by simp)
  have K1 := k1.below hb (by simp)
  have K0 := k0.below hb (by simp; omega)
  simp only [World.size_alloc] at K2 K1
  have hsz : w.heap.size + 3 ≤ w2.heap.size := by have := hb.size; simp at this; omega
  have HB2 := Lib.hid (then_ HB.out hb)
  clear hb k0 k1 k2 HB CC
  go_wp2_with (refine wpList_load_blk rfl _ _ rfl _ rfl _ _ K1 rowRec ?_)
  refine (CU.out _ (HT.out.below HB2.out) (HR.out.below HB2.out)).mono ?_
  rintro e w4 ⟨t, rfl, ho, hb⟩
  try dsimp only [RecD.words, RecV.val, Sl.v] at ho
  try dsimp only [RecD.words, RecV.val, Sl.v]
  obtain ⟨x, hx⟩ : ∃ x : RecV, x = X.words t := ⟨_, rfl⟩
  have hbX := boxd (o := .cells (recArr (X.words t)) 44) (Below.refl w4.heap.size w4)
  have K24 := (K2.below hb (by omega)).push (.cells (recArr (X.words t)) 44)
  have K04 := (K0.below hb (by omega)).push (.cells (recArr (X.words t)) 44)
  have KX := BlkAt.new w4 (recArr (X.words t)) 44
  have hsz4 := hb.size
  have HB4 := Lib.hid (boxd (o := .cells (recArr (X.words t)) 44) (then_ HB2.out hb))
  have HO := Lib.hid (OwnBytes.through ho hbX)
  have HH := Lib.hid (HS.out.below HB4.out)
  try dsimp only [recArr, RecD.words, Sl.v] at K24 K04 KX HB4 HO HH
  clear ho hb K2 K1 K0 HB2 CU HT HR HS hbX hx x
  go_wp2_with fail
  obtain ⟨Q, hQ⟩ : ∃ x, w4.heap.size = x := ⟨_, rfl⟩
  rw [hQ] at KX hsz4
  rw [hQ]
  obtain ⟨w5, hw5⟩ : ∃ x, w4.alloc (.cells #[.int .i64 X.v, .int .i64 X.kind, .int .i64 X.saga, .int .i64 X.step, .int .i64 X.try_, .int .i64 X.at_, .int .i64 X.last, .int .i64 X.code, .int .i64 X.count, .int .i64 X.pivot, .string X.name, .slice t.a t.n t.c] 44) = x := ⟨_, rfl⟩
  have hs5 : w5.heap.size = Q + 1 := by rw [← hw5, ← hQ]; simp
  rw [hw5] at K24 K04 KX HB4 HO HH
  rw [hw5]
  have CL5 := Lib.hid (CL.out w5.drew (HH.out.below (Below.refl _ _).drew))
  clear hw5 hQ w4 CL
  have b0 := K04.cell 0
  have b1 := K04.cell 1
  have b2 := K04.cell 2
  have b3 := K04.cell 3
  have b4 := K04.cell 4
  have b5 := K04.cell 5
  have b6 := K04.cell 6
  have b7 := K04.cell 7
  have b8 := K04.cell 8
  have b9 := K04.cell 9
  have b10 := K04.cell 10
  have b11 := K04.cell 11
  have b12 := K04.cell 12
  have b13 := K04.cell 13
  have b14 := K04.cell 14
  have b15 := K04.cell 15
  simp only [List.getElem?_toArray, List.getElem?_cons_zero, List.getElem?_cons_succ] at b0 b1 b2 b3 b4 b5 b6 b7 b8 b9 b10 b11 b12 b13 b14 b15
  have x0 := KX.cell 0
  have x1 := KX.cell 1
  have x2 := KX.cell 2
  have x3 := KX.cell 3
  have x4 := KX.cell 4
  have x5 := KX.cell 5
  have x6 := KX.cell 6
  have x7 := KX.cell 7
  have x8 := KX.cell 8
  have x9 := KX.cell 9
  have x10 := KX.cell 10
  have x11 := KX.cell 11
  simp only [List.getElem?_toArray, List.getElem?_cons_zero, List.getElem?_cons_succ] at x0 x1 x2 x3 x4 x5 x6 x7 x8 x9 x10 x11
  have HKX : Hid (BlkAt w5.drew Q _ 44) := Lib.hid KX
  have HK04 : Hid (BlkAt w5.drew w.heap.size _ 40) := Lib.hid K04
  have HK24 := Lib.hid K24
  clear K04 KX K24
  go_region_held3 (fun w' => w'.cell? ⟨w.heap.size, 0, none⟩ = some (Value.int .i64 s.id) ∧ w'.cell? ⟨w.heap.size, 1, none⟩ = some (Value.string s.name) ∧ w'.cell? ⟨w.heap.size, 2, none⟩ = some (Value.int .i64 s.count) ∧ w'.cell? ⟨w.heap.size, 3, none⟩ = some (Value.int .i64 s.pivot) ∧ w'.cell? ⟨w.heap.size, 4, none⟩ = some (Value.int .i64 s.begun) ∧ w'.cell? ⟨w.heap.size, 5, none⟩ = some (Value.int .i64 s.at_) ∧ w'.cell? ⟨w.heap.size, 6, none⟩ = some (Value.slice s.input.a s.input.n s.input.c) ∧ w'.cell? ⟨w.heap.size, 7, none⟩ = some (Value.int .i64 s.phase) ∧ w'.cell? ⟨w.heap.size, 8, none⟩ = some (Value.int .i64 s.next) ∧ w'.cell? ⟨w.heap.size, 9, none⟩ = some (Value.bool s.flight) ∧ w'.cell? ⟨w.heap.size, 10, none⟩ = some (Value.int .i64 s.tries) ∧ w'.cell? ⟨w.heap.size, 11, none⟩ = some (Value.slice s.outs.a s.outs.n s.outs.c) ∧ w'.cell? ⟨w.heap.size, 12, none⟩ = some (Value.slice s.undos.a s.undos.n s.undos.c) ∧ w'.cell? ⟨w.heap.size, 13, none⟩ = some (Value.int .i64 s.failStep) ∧ w'.cell? ⟨w.heap.size, 14, none⟩ = some (Value.int .i64 s.failCode) ∧ w'.cell? ⟨w.heap.size, 15, none⟩ = some (Value.slice s.fail.a s.fail.n s.fail.c) ∧ w'.cell? ⟨Q, 0, none⟩ = some (Value.int .i64 X.v) ∧ w'.cell? ⟨Q, 1, none⟩ = some (Value.int .i64 X.kind) ∧ w'.cell? ⟨Q, 2, none⟩ = some (Value.int .i64 X.saga) ∧ w'.cell? ⟨Q, 3, none⟩ = some (Value.int .i64 X.step) ∧ w'.cell? ⟨Q, 4, none⟩ = some (Value.int .i64 X.try_) ∧ w'.cell? ⟨Q, 5, none⟩ = some (Value.int .i64 X.at_) ∧ w'.cell? ⟨Q, 6, none⟩ = some (Value.int .i64 X.last) ∧ w'.cell? ⟨Q, 7, none⟩ = some (Value.int .i64 X.code) ∧ w'.cell? ⟨Q, 8, none⟩ = some (Value.int .i64 X.count) ∧ w'.cell? ⟨Q, 9, none⟩ = some (Value.int .i64 X.pivot) ∧ w'.cell? ⟨Q, 10, none⟩ = some (Value.string X.name) ∧ w'.cell? ⟨Q, 11, none⟩ = some (Value.slice t.a t.n t.c))
    (first | go_keep | (refine ⟨?_, ?_, ?_, ?_, ?_, ?_, ?_, ?_, ?_, ?_, ?_, ?_, ?_, ?_, ?_, ?_, ?_, ?_, ?_, ?_, ?_, ?_, ?_, ?_, ?_, ?_, ?_, ?_⟩ <;> assumption))
    ((go_at_call 40; (with_reducible refine CL5.out.mono ?_); rintro e w6 ⟨s', rfl, ho6, hb6⟩; have KX6 := HKX.out.below hb6 (by show Q < w5.heap.size; omega); have KS6 := HK04.out.below hb6 (by show w.heap.size < w5.heap.size; omega); have y0 := KX6.cell 0; have y1 := KX6.cell 1; have y2 := KX6.cell 2; have y3 := KX6.cell 3; have y4 := KX6.cell 4; have y5 := KX6.cell 5; have y6 := KX6.cell 6; have y7 := KX6.cell 7; have y8 := KX6.cell 8; have y9 := KX6.cell 9; have y10 := KX6.cell 10; have y11 := KX6.cell 11; simp only [List.getElem?_toArray, List.getElem?_cons_zero, List.getElem?_cons_succ] at y0 y1 y2 y3 y4 y5 y6 y7 y8 y9 y10 y11; have z0 := KS6.cell 0; have z1 := KS6.cell 1; have z2 := KS6.cell 2; have z3 := KS6.cell 3; have z4 := KS6.cell 4; have z5 := KS6.cell 5; have z6 := KS6.cell 6; have z7 := KS6.cell 7; have z8 := KS6.cell 8; have z9 := KS6.cell 9; have z10 := KS6.cell 10; have z11 := KS6.cell 11; have z12 := KS6.cell 12; have z13 := KS6.cell 13; have z14 := KS6.cell 14; have z15 := KS6.cell 15; simp only [List.getElem?_toArray, List.getElem?_cons_zero, List.getElem?_cons_succ] at z0 z1 z2 z3 z4 z5 z6 z7 z8 z9 z10 z11 z12 z13 z14 z15; have hsz6 : Q < w6.heap.size := (by have := hb6.size; have h' : w5.drew.heap.size = w5.heap.size := rfl; omega); have HKX6 := Lib.hid KX6; have HO6 := Lib.hid ho6; have HB6 := Lib.hid hb6; clear KX6 KS6 ho6 hb6))
  clear b0 b1 b2 b3 b4 b5 b6 b7 b8 b9 b10 b11 b12 b13 b14 b15 x0 x1 x2 x3 x4 x5 x6 x7 x8 x9 x10 x11 y0 y1 y2 y3 y4 y5 y6 y7 y8 y9 y10 y11 z0 z1 z2 z3 z4 z5 z6 z7 z8 z9 z10 z11 z12 z13 z14 z15 HK04
  go_wp2_with fail
  have h56 := HB6.out.size
  have h5d : w5.drew.heap.size = w5.heap.size := rfl
  have hbW : Below w6.heap.size w6 (w6.alloc (.cells (walkArr s' (X.words t)) 100)) := (Below.refl _ _).alloc (Nat.le_refl _) _
  have K7 : WalkD (w6.alloc (.cells (walkArr s' (X.words t)) 100)) (w.heap.size + 3) w6.heap.size D X s' (X.words t) :=
    ⟨HO6.out.eq, rfl, BlkAt.new _ _ _, ((HO6.out.lower (by omega)).through hbW).held, ((HO.out.through ((Below.refl _ _).drew)).through HB6.out).lower (by omega) |>.through hbW, by omega⟩
  have HB7 := Lib.hid (boxd (o := .cells (walkArr s' (X.words t)) 100) (then_ HB4.out (show Below w5.heap.size w5 w6 from ((Below.refl _ _).drew).trans HB6.out)))
  have K27 := BlkAt.push (BlkAt.below (w := w5.drew) HK24.out HB6.out (by omega)) (.cells (walkArr s' (X.words t)) 100)
  have KX7 := HKX6.out.push (.cells (walkArr s' (X.words t)) 100)
  obtain ⟨g, hg⟩ : ∃ x, w6.heap.size = x := ⟨_, rfl⟩
  have hlt2 : w.heap.size + 3 ≤ g := by omega
  have hgQ : Q < g := by omega
  obtain ⟨w7, hw7⟩ : ∃ x, w6.alloc (.cells (walkArr s' (X.words t)) 100) = x := ⟨_, rfl⟩
  have hw7' := hw7
  dsimp only [walkArr, Sl.v, RecD.words] at hw7'
  rw [hw7] at K7 HB7 K27 KX7
  rw [hg] at K7
  rw [hw7', hg]
  have RF := refused_any g _ _ w7 K7.own.walkIn (HL.out.below HB7.out) ⟨HG.out.kind1, HG.out.kind7⟩ (by
    have e := congrArg SagaV.tries K7.eqs
    have h := HGD.out.plain
    simp only at e
    rw [e]
    exact ⟨h.tries0, h.tries1000⟩)
  rw [refusedN_of K7.eqs rfl] at RF
  rw [H3.out] at RF
  have h7s := HB7.out.size
  have hs7 : w7.heap.size = g + 1 := by rw [← hw7, ← hg]; simp
  clear hw7 hw7' hbW hg h56 h5d HB6 HO6 HKX6 HO HB4 CL5 HKX HH HL hs5 hsz4 hsz HK24 H3
  refine RF.mono ?_
  rintro e w8 ⟨rfl, hd⟩
  have HB8 := Lib.hid (then_ HB7.out hd.below)
  have K28 := K27.below hd.below (by omega)
  have KX8 := KX7.below hd.below (by omega)
  have K8 := K7.through hd.below
  have hs8 := hd.below.size
  clear hd RF K27 KX7 K7
  have x1 := KX8.cell 1
  have x5 := KX8.cell 5
  have g5 := K8.own.blk.cell 5
  simp only [List.getElem?_toArray, List.getElem?_cons_zero, List.getElem?_cons_succ] at x1 x5 g5
  have gf := K8.own.blk.frozen
  have hgQ' : ¬ g = Q := by omega
  have hgQ2 : ¬ Q = g := by omega
  have K9 := K8.own.num (i := 5) { s' with at_ := X.at_ } rfl rfl rfl rfl rfl
  have SQ := Lib.hid (saga_at K8.eqs X.at_)
  have KX9 : BlkAt (w8.setCell ⟨g, 5, none⟩ (.int .i64 X.at_)) Q _ _ := KX8.other (a := ⟨g, 5, none⟩) hgQ' _
  have K29 : BlkAt (w8.setCell ⟨g, 5, none⟩ (.int .i64 X.at_)) (w.heap.size + 2) _ _ := K28.other (a := ⟨g, 5, none⟩) (by simp only; omega) _
  have HB9 := Lib.hid (HB8.out.setCell (p := ⟨g, 5, none⟩) (by simp only; omega) (.int .i64 X.at_))
  clear KX8 K28 HB8 K8
  go_wp2_with fail
  obtain ⟨w9, hw9⟩ : ∃ x, w8.setCell ⟨g, 5, none⟩ (.int .i64 X.at_) = x := ⟨_, rfl⟩
  rw [hw9] at KX9 K29 HB9 K9
  rw [hw9]
  have hs9 : w9.heap.size = w8.heap.size := by rw [← hw9]; simp
  clear hw9 x1 x5 g5 gf
  have z1 := KX9.cell 1
  simp only [List.getElem?_toArray, List.getElem?_cons_zero, List.getElem?_cons_succ] at z1
  have cT := turn_any X.kind w9
  have AC := act_any (w.heap.size + 3) g { D with at_ := X.at_ } X { s' with at_ := X.at_ } (X.words t) w9 ⟨by rw [SQ.out], rfl, K9⟩ ⟨HGD.out.next0, HGD.out.next1000⟩ HGD.out.outs1000 HGD.out.undos1000
  have hFo := turnF_or X.kind
  obtain ⟨F, hF⟩ : ∃ x, turnF X.kind = x := ⟨_, rfl⟩
  rw [hF] at cT AC hFo
  have AC := Lib.hid AC
  clear hF HGD HG K9 KX9 SQ
  refine cT.mono ?_
  rintro e w10 ⟨rfl, rfl⟩
  rcases hFo with rfl | rfl | rfl | rfl | rfl
  all_goals as_aux_lemma =>
    go_wp2_with fail
    refine AC.out.mono ?_
    rintro e w11 ⟨s2, rfl, k, hb⟩
    have K2x := K29.below hb (by omega)
    have KW := k.own.blk
    have KO := Lib.hid k.sagaOwn
    have HBX := Lib.hid (HB9.out.trans (hb.mono (by omega)))
    clear k hb AC K29 cT
    go_wp2_with (first
      | (refine wpList_load_part rfl _ _ rfl _ 0 rfl _ _ (sagaArr s2) KW (walk_saga s2 _) rowSaga ?_)
      | (refine wpList_store_part rfl _ _ _ rfl _ 0 rfl _ rfl _ _ K2x (Nat.le_refl _) (by simp [Value.oneCell', sagaArr]) rowSaga ?_; intro w12 hw12 K12))
    have K12' : BlkAt w12 (w.heap.size + 2) (sagaArr s2) 40 := K12
    (try simp only [Exit.inBlock, Exit.then])
    exact bodyPost_ret (results_row2 rfl _ _ _ _ _ rfl K12' rowSaga) rfl ⟨s2, rfl, ((KO.out.keep (hw12.rows K2x (by decide) (by decide))).lower (by omega)), hw12.below HBX.out (by omega)⟩

theorem apply_any (s : SagaV) (D : SagaD) (r : RecV) (R : RecD) (w : World) (ht : Tables w) (hl : LandsAt w) (hs : SagaRd w s D) (hr : RecRd w r R) (fs : SagaFits D) (fr : RecFits R)  :
    Calls Tryd.prog 37 #[s.val, r.val] w fun e w' => ∃ s', e = .returned (.tuple #[SagaV.val s', .int .i64 (applyN D R)]) ∧ SagaOwn w' w.heap.size s' (applyD D R) ∧ Below w.heap.size w w' := by
  by_cases h1 : checkD D = 0
  · by_cases h2 : recD R = 0
    · by_cases h3 : refusedD D (up3 R) = 0
      · exact apply_4 s D r R w ht hl hs hr fs fr h1 h2 h3
      · exact apply_3 s D r R w ht hl hs hr fs fr h1 h2 h3
    · exact apply_2 s D r R w ht hl hs hr fs fr h1 h2
  · exact apply_1 s D r R w ht hl hs hr fs fr h1
end Go.Proofs.YtfbaliimjmimhaaDoor
namespace Go.Proofs.YtfbaliimjmimhaaDoor
open Go.RowKit

@[reducible] def begunV (X : RecD) (t : Sl) : SagaV := ⟨X.saga, X.name, X.count, X.pivot, X.at_, X.at_, t, 1, 0, false, 0, ⟨none, 0, 0⟩, ⟨none, 0, 0⟩, 0, 0, ⟨none, 0, 0⟩⟩
theorem BeginPre {r : RecV} {R : RecD} {w : World} (hr : RecRd w r R) (fr : RecFits R) : RecOk w r R.data := ⟨by rw [hr.eq]; exact fr.name, fr.len, hr.data⟩

set_option maxRecDepth 10000000 in
set_option maxHeartbeats 4000000 in
theorem begin_any (r : RecV) (R : RecD) (w : World) (ht : Tables w) (hr : RecRd w r R) (fr : RecFits R) :
    Calls Tryd.prog 38 #[r.val] w fun e w' => ∃ s' : SagaV, e = .returned (.tuple #[s'.val, .int .i64 (beginN R)]) ∧ SagaOwn w' w.heap.size s' (beginD R) ∧ Below w.heap.size w w' := by
  have hR := BeginPre hr fr
  have hRN := hr.recEq
  have HRR := hr.eq
  have hb0 := Below.refl w.heap.size w
  have hb1 := boxd (o := .cells (recArr r) 44) hb0
  have hb2 := boxd (o := .cells zeroSagaArr 40) hb1
  have k0 := (BlkAt.new w (recArr r) 44).push (.cells zeroSagaArr 40)
  have k1 := BlkAt.new (w.alloc (.cells (recArr r) 44)) zeroSagaArr 40
  simp only [World.size_alloc] at k1
  have HT := Lib.hid (ht.below hb2)
  have HR := Lib.hid (hR.below hb2)
  have HB := Lib.hid hb2
  clear hb0 hb1 hb2 hR ht hr
  by_cases h2 : recD R = 0
  · have CU := Lib.hid (fun w (ht : Tables w) (hR : RecOk w r R.data) => up_rd r R w ht hR HRR hRN h2)
    obtain ⟨X, hX⟩ : ∃ x, up3 R = x := ⟨_, rfl⟩
    have hk : X.kind = R.kind := by rw [← hX]; exact up3_kind R
    rw [hX] at CU
    by_cases h1 : R.kind = 1
    · have e1 : beginN R = 0 := by unfold beginN; rw [if_neg (by simp [h2]), if_neg (by simp [h1])]
      have e2 : beginD R = begunD X := by unfold beginD; rw [if_neg (by simp [e1]), hX]
      rw [e1, e2]
      rw [h1] at hk
      have hk1 : (X.kind != 1) = false := by rw [hk]; rfl
      have HK := Lib.hid hk
      clear e1 e2 h1 hk hX h2 hRN HRR
      dsimp only [SagaV.val, RecV.val, Sl.v, recArr, zeroSagaArr] at k0 k1 HB CU
      dsimp only [RecV.val, Sl.v]
      go_enter Tryd.func38, Tryd.ntmps38
      go_wp2_with (refine wpList_load_blk rfl _ _ rfl _ rfl _ _ k0 rowRec ?_)
      refine (CU.out _ HT.out HR.out).mono ?_
      rintro e w4 ⟨t, rfl, ho, hb⟩
      have K2 := (k1.below hb (by simp)).push (.cells (recArr (X.words t)) 44)
      have hsz4 := hb.size
      simp only [World.size_alloc] at hsz4
      have HB4 := Lib.hid (boxd (o := .cells (recArr (X.words t)) 44) (then_ HB.out hb))
      have HO := Lib.hid (OwnBytes.through ho (boxd (o := .cells (recArr (X.words t)) 44) (Below.refl _ _)))
      simp only [World.size_alloc] at HO
      try dsimp only [recArr, RecD.words, Sl.v] at K2 HB4 HO
      try dsimp only [RecD.words, RecV.val, Sl.v]
      clear ho hb k0 k1 HB CU HT HR
      go_wp2_with (refine wpList_store_part rfl _ _ _ rfl _ 0 rfl _ rfl _ _ K2 (Nat.le_refl _) (by simp [Value.oneCell']) rowSaga ?_; intro w9 hw9 K9)
      have K9' : BlkAt w9 (w.heap.size + 1) (sagaArr (begunV X t)) 40 := K9
      (try simp only [Exit.inBlock, Exit.then])
      refine bodyPost_ret (results_row2 rfl _ _ _ _ _ rfl K9' rowSaga) rfl ⟨begunV X t, rfl, ⟨rfl, ?_⟩, hw9.below HB4.out (by omega)⟩
      have HO9 := HO.out.keep (hw9.rows K2 (by decide) (by decide))
      exact ⟨HO9.lower (by omega), OwnLists.nil _ _, OwnLists.nil _ _, World.ownsRow_nil _ _ _ _, .inl rfl⟩
    · have e1 : beginN R = 102 := by unfold beginN; rw [if_neg (by simp [h2]), if_pos h1]
      have e2 : beginD R = zeroD := by unfold beginD; rw [if_pos (by simp [e1])]
      rw [e1, e2]
      have hk1 : (X.kind != 1) = true := by rw [hk, bne_iff_ne]; exact h1
      clear e1 e2 h1 hk hX h2 hRN HRR
      dsimp only [SagaV.val, RecV.val, Sl.v, recArr, zeroSagaArr] at k0 k1 HB CU
      dsimp only [RecV.val, Sl.v]
      go_enter Tryd.func38, Tryd.ntmps38
      go_wp2_with (refine wpList_load_blk rfl _ _ rfl _ rfl _ _ k0 rowRec ?_)
      refine (CU.out _ HT.out HR.out).mono ?_
      rintro e w4 ⟨t, rfl, ho, hb⟩
      have K2 := (k1.below hb (by simp)).push (.cells (recArr (X.words t)) 44)
      have hsz4 := hb.size
      simp only [World.size_alloc] at hsz4
      have HB4 := Lib.hid (boxd (o := .cells (recArr (X.words t)) 44) (then_ HB.out hb))
      try dsimp only [recArr, RecD.words, Sl.v] at K2 HB4
      try dsimp only [RecD.words, RecV.val, Sl.v]
      clear ho hb k0 k1 HB CU HT HR
      go_wp2_with (refine wpList_store_part rfl _ _ _ rfl _ 0 rfl _ rfl _ _ K2 (Nat.le_refl _) (by simp [Value.oneCell']) rowSaga ?_; intro w9 hw9 K9)
      have K9' : BlkAt w9 (w.heap.size + 1) zeroSagaArr 40 := K9
      (try simp only [Exit.inBlock, Exit.then])
      exact bodyPost_ret (results_row2 rfl _ _ _ _ _ rfl K9' rowSaga) rfl ⟨zeroSagaV, rfl, SagaOwn.zero _ _, hw9.below HB4.out (by omega)⟩
  · have e1 : beginN R = recD R := by unfold beginN; rw [if_pos h2]
    have e2 : beginD R = zeroD := by unfold beginD; rw [e1, if_pos h2]
    rw [e1, e2]
    have CU := Lib.hid (fun w (ht : Tables w) (hR : RecOk w r R.data) => up_bad r R.data w ht hR (by rw [hRN]; exact h2))
    rw [hRN] at CU
    obtain ⟨E, hE⟩ : ∃ x, recD R = x := ⟨_, rfl⟩
    rw [hE] at CU h2
    rw [hE]
    have H2 : (E != 0) = true := by rw [bne_iff_ne]; exact h2
    clear e1 e2 hRN hE h2 HRR
    dsimp only [SagaV.val, RecV.val, Sl.v, recArr, zeroSagaArr] at k0 k1 HB CU
    dsimp only [RecV.val, Sl.v]
    go_enter Tryd.func38, Tryd.ntmps38
    go_wp2_with (refine wpList_load_blk rfl _ _ rfl _ rfl _ _ k0 rowRec ?_)
    refine (CU.out _ HT.out HR.out).mono ?_
    rintro e w4 ⟨rfl, hb⟩
    have K2 := (k1.below hb (by simp)).push (.cells zeroRec 44)
    have hsz4 := hb.size
    simp only [World.size_alloc] at hsz4
    have HB4 := Lib.hid (then_ HB.out hb)
    dsimp only [zeroRecV, RecV.val, Sl.v]
    clear hb k0 k1 HB CU HT HR
    go_wp2_with (refine wpList_store_part rfl _ _ _ rfl _ 0 rfl _ rfl _ _ K2 (Nat.le_refl _) (by simp [Value.oneCell']) rowSaga ?_; intro w9 hw9 K9)
    have K9' : BlkAt w9 (w.heap.size + 1) zeroSagaArr 40 := K9
    (try simp only [Exit.inBlock, Exit.then])
    exact bodyPost_ret (results_row2 rfl _ _ _ _ _ rfl K9' rowSaga) rfl ⟨zeroSagaV, rfl, SagaOwn.zero _ _, hw9.below (boxd HB4.out) (by omega)⟩
end Go.Proofs.YtfbaliimjmimhaaDoor
namespace Go.Proofs.YtfbaliimjmimhaaDoor
open Go.RowKit

theorem sagaCheck_rd (s : SagaV) (D : SagaD) (w : World) (ht : Tabs w) (hs : SagaRd w s D) (fs : SagaFits D) :
    Calls Tryd.prog 17 #[s.val] w fun e w' => e = .returned (.int .i64 (checkD D)) ∧ Below w.heap.size w w' := by
  obtain ⟨os, us, po, pu, pc⟩ := hs.parts
  have := sagaCheck_any s os us w ht ⟨by rw [hs.eq]; exact fs.name, by rw [hs.eq]; exact fs.next, by rw [hs.eq]; exact fs.step, po, pu⟩
  rwa [pc] at this

/-- A row of whole numbers of one's own. -/
def OwnInts (w : World) (base : Nat) (v : Value) (l : List Int) : Prop := w.ownsRow base 3 1 v l.length (l.map (Value.int .i64))
theorem OwnInts.nil (w : World) (base : Nat) : OwnInts w base (.slice none 0 0) [] := World.ownsRow_nil _ _ _ _
theorem OwnInts.new (w : World) (l : List Int) (h : l.length ≤ maxLen) : OwnInts (w.alloc (.cells (l.map (Value.int .i64)).toArray 3)) w.heap.size (.slice (some ⟨w.heap.size, 0, none⟩) l.length l.length) l := by
  have := World.ownsRow_lit (base := w.heap.size) (e := 3) (size := 1) w (l.map (Value.int .i64)).toArray l.length (Nat.le_refl _) h (by simp)
  simpa [OwnInts] using this
theorem OwnInts.lower {w : World} {b c : Nat} {v : Value} {l : List Int} (h : OwnInts w b v l) (hc : c ≤ b) : OwnInts w c v l := own_lower h hc
theorem OwnInts.through {w w' : World} {b : Nat} {v : Value} {l : List Int} (h : OwnInts w b v l) (hb : Below w.heap.size w w') : OwnInts w' b v l := own_through h hb

end Go.Proofs.YtfbaliimjmimhaaDoor
