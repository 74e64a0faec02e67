/-
  annalsref10.light, moved, step walked: the saga behind a record. Conditions: a saga that may be; a record of bounded texts. (Printed by wip/gen_ref10moved.py.)
-/
import Derived.Test.YteaiadpigpehaaaGreatDoorRef10Light2
import Derived.Test.YteaiadpigpehaaaGreatDoorPkRefLaw
import Derived.Test.YteaiadpigpehaaaGreatDoorPkRefLaid
import Derived.Maps.RangeWalk
namespace Go.Proofs.YteaiadpigpehaaaGreatDoor
open Go.RowKit

theorem light_any (s : SagaV) (D : SagaD) (x : RecV) (X : RecD) (B : Nat) (w : World) (hs : SagaOwn w B s D) (hB : B ≤ w.heap.size) (hx : RecRd w x X) (hk : 2 ≤ X.kind ∧ X.kind ≤ 7) (hdl : X.data.length ≤ 1073741824)
    (hp : 1 ≤ D.phase ∧ D.phase ≤ 4) (hn : 0 ≤ D.next ∧ D.next ≤ 1000) (hl : D.outs.length ≤ 1000 ∧ D.undos.length ≤ 1000) (g0 : Nat) (cs0 : Array Value) (hbx : BlkAt w g0 cs0 29) :
    Calls Tryz.prog 79 #[s.val, x.val] w fun e w' => ∃ s' : SagaV, e = .returned s'.val ∧ SagaOwn w' B s' (lightD D X) ∧ Below B w w' ∧ BlkAt w' g0 cs0 29 := by
  have h : X.kind = 2 ∨ X.kind = 3 ∨ X.kind = 4 ∨ X.kind = 5 ∨ X.kind = 6 ∨ X.kind = 7 := by omega
  have key : ∀ {e w'}, (∃ s' : SagaV, e = Ending.returned s'.val ∧ SagaOwn w' B s' (lightD D X) ∧ Below w.heap.size w w') → ∃ s' : SagaV, e = .returned s'.val ∧ SagaOwn w' B s' (lightD D X) ∧ Below B w w' ∧ BlkAt w' g0 cs0 29 := by
    rintro e w' ⟨s', h1, h2, h3⟩
    exact ⟨s', h1, h2, h3.mono hB, hbx.below h3 (blk_lt hbx)⟩
  rcases h with h | h | h | h | h | h
  · exact (light_2 s D x X B w hs hB hx h).mono fun _ _ => key
  · exact light_3 s D x X B w hs hB hx h hdl hn hl.1 g0 cs0 hbx
  · exact (light_4 s D x X B w hs hB hx h hdl).mono fun _ _ => key
  · exact (light_5 s D x X B w hs hB hx h).mono fun _ _ => key
  · exact light_6 s D x X B w hs hB hx h hdl hn hl.2 g0 cs0 hbx
  · exact (light_7 s D x X B w hs hB hx h hp).mono fun _ _ => key
/-- What is taken moves the saga as the program moves it. -/
theorem lightD_moved {D : SagaD} {X : RecD} (ht : TakenD D X) (hx : RecGood X) : lightD D X = movedD D X := by
  have hk1 := ht.kind
  have hk2 := hx.kind1
  have hk3 := hx.kind7
  have h : X.kind = 2 ∨ X.kind = 3 ∨ X.kind = 4 ∨ X.kind = 5 ∨ X.kind = 6 ∨ X.kind = 7 := by omega
  unfold lightD movedD turnD
  rcases h with h | h | h | h | h | h
  · simp [h]
  · simp [h]
  · have hl := hx.last h
    have hl : X.last = 0 ∨ X.last = 1 := by omega
    rcases hl with hl | hl <;> simp [h, hl]
  · simp [h]
  · simp [h]
  · have hf : D.flight = false := by rw [ht.flight]; simp [h]
    rcases ht.phase with hp | hp <;> simp [h, hp, hf]
/-- light for a record that is taken. -/
theorem light_taken (s : SagaV) (D : SagaD) (x : RecV) (X : RecD) (B : Nat) (w : World) (hs : SagaOwn w B s D) (hB : B ≤ w.heap.size) (hx : RecRd w x X) (hg : GoodD D) (hX : RecGood X) (ht : TakenD D X) (g0 : Nat) (cs0 : Array Value) (hbx : BlkAt w g0 cs0 29) :
    Calls Tryz.prog 79 #[s.val, x.val] w fun e w' => ∃ s' : SagaV, e = .returned s'.val ∧ SagaOwn w' B s' (movedD D X) ∧ Below B w w' ∧ BlkAt w' g0 cs0 29 := by
  rw [← lightD_moved ht hX]
  have := hX.kind1
  have := ht.kind
  have := hX.data
  have := hg.outs32
  have := hg.undos32
  exact light_any s D x X B w hs hB hx ⟨by omega, hX.kind7⟩ (by omega) ⟨hg.plain.phase1, hg.plain.phase4⟩ hg.nextb ⟨by omega, by omega⟩ g0 cs0 hbx

set_option maxRecDepth 10000000 in
set_option maxHeartbeats 2000000 in
theorem moved_any (s : SagaV) (D : SagaD) (x : RecV) (X : RecD) (w : World) (hs : SagaRd w s D) (hx : RecRd w x X) (hg : GoodD D) (hX : RecGood X) (ht : TakenD D X) :
    Calls Tryz.prog 80 #[s.val, x.val] w fun e w' => ∃ s' : SagaV, e = .returned s'.val ∧ SagaOwn w' w.heap.size s' (movedD D X) ∧ Below w.heap.size w w' := by
  have cC := fun W (h : Below w.heap.size w W) => ref10Clone_any s D W (hs.below h) hg.small
  have cL := fun B W (s5 : SagaV) (h : SagaOwn W B s5 D) (hB : B ≤ W.heap.size) (hb : Below w.heap.size w W) (g0 : Nat) (cs0 : Array Value) (hbx : BlkAt W g0 cs0 29) => light_taken s5 D x X B W h hB (hx.below hb) hg hX ht g0 cs0 hbx
  clear hs hx hg hX ht
  generalize movedD D X = M at cL ⊢
  have CC := Lib.hid cC
  have CL := Lib.hid cL
  clear cC cL
  obtain ⟨id, name, count, pivot, begun, at_, si, phase, next, flight, tries, so, su, fs, fc, sf⟩ := s
  obtain ⟨v, kind, saga, step, try_, rat, last, code, rcount, rpivot, rname, rd⟩ := x
  have KB0 := ((BlkAt.new w (sagaArr (⟨id, name, count, pivot, begun, at_, si, phase, next, flight, tries, so, su, fs, fc, sf⟩ : SagaV)) 29).push (.cells (recArr (⟨v, kind, saga, step, try_, rat, last, code, rcount, rpivot, rname, rd⟩ : RecV)) 31)).push (.cells zeroSagaArr 29)
  have KR0 := (BlkAt.new (w.alloc (.cells (sagaArr (⟨id, name, count, pivot, begun, at_, si, phase, next, flight, tries, so, su, fs, fc, sf⟩ : SagaV)) 29)) (recArr (⟨v, kind, saga, step, try_, rat, last, code, rcount, rpivot, rname, rd⟩ : RecV)) 31).push (.cells zeroSagaArr 29)
  have KZ0 := BlkAt.new ((w.alloc (.cells (sagaArr (⟨id, name, count, pivot, begun, at_, si, phase, next, flight, tries, so, su, fs, fc, sf⟩ : SagaV)) 29)).alloc (.cells (recArr (⟨v, kind, saga, step, try_, rat, last, code, rcount, rpivot, rname, rd⟩ : RecV)) 31)) zeroSagaArr 29
  simp only [World.size_alloc] at KR0 KZ0
  have hb1 : Below w.heap.size w (((w.alloc (.cells (sagaArr (⟨id, name, count, pivot, begun, at_, si, phase, next, flight, tries, so, su, fs, fc, sf⟩ : SagaV)) 29)).alloc (.cells (recArr (⟨v, kind, saga, step, try_, rat, last, code, rcount, rpivot, rname, rd⟩ : RecV)) 31)).alloc (.cells zeroSagaArr 29)) := boxd (boxd (boxd (Below.refl _ _)))
  obtain ⟨w1, hw1⟩ : ∃ q, ((w.alloc (.cells (sagaArr (⟨id, name, count, pivot, begun, at_, si, phase, next, flight, tries, so, su, fs, fc, sf⟩ : SagaV)) 29)).alloc (.cells (recArr (⟨v, kind, saga, step, try_, rat, last, code, rcount, rpivot, rname, rd⟩ : RecV)) 31)).alloc (.cells zeroSagaArr 29) = q := ⟨_, rfl⟩
  rw [hw1] at KB0 KR0 KZ0 hb1
  have hs1 : w.heap.size + 3 ≤ w1.heap.size := by rw [← hw1]; simp
  have KB := Lib.hid KB0
  have KR := Lib.hid KR0
  have KZ := Lib.hid KZ0
  have HB := Lib.hid hb1
  clear KB0 KR0 KZ0 hb1
  dsimp only [recArr, sagaArr, Sl.v, zeroSagaArr] at hw1
  have HW1 := Lib.hid hw1
  clear hw1
  dsimp only [SagaV.val, RecV.val, Sl.v]
  go_enter Tryz.func80, Tryz.ntmps80
  go_upto_region 1 with fail
  rw [HW1.out]
  clear HW1
  refine wp_region_held_drew (S := (fun W => BlkAt W w.heap.size (sagaArr (⟨id, name, count, pivot, begun, at_, si, phase, next, flight, tries, so, su, fs, fc, sf⟩ : SagaV)) 29 ∧ BlkAt W (w.heap.size + 1) (recArr (⟨v, kind, saga, step, try_, rat, last, code, rcount, rpivot, rname, rd⟩ : RecV)) 31)) (by kernel_rfl) ((show BlkAt w1.drew w.heap.size (sagaArr (⟨id, name, count, pivot, begun, at_, si, phase, next, flight, tries, so, su, fs, fc, sf⟩ : SagaV)) 29 ∧ BlkAt w1.drew (w.heap.size + 1) (recArr (⟨v, kind, saga, step, try_, rat, last, code, rcount, rpivot, rname, rd⟩ : RecV)) 31 from ⟨KB.out, KR.out⟩)) (fun hHeld => ?_)
  refine wpAnyH_take (i := 0) (oi := { dst := some 5, op := Op.load 29 (Operand.tmp 2), type := 29, pos := "annalsref10.go:186", after := #[], guard := none }) (v := .agg (sagaArr (⟨id, name, count, pivot, begun, at_, si, phase, next, flight, tries, so, su, fs, fc, sf⟩ : SagaV))) rfl (by kernel_rfl) (by kernel_rfl) (by kernel_rfl) (fun _ _ _ h => h) (yl_blk rfl _ _ rfl _ rfl _ _ (fun w' h => h.1) rowSaga) (by assumption) ?_
  try go_frame
  refine wpAnyH_take (i := 2) (oi := { dst := some 7, op := Op.load 31 (Operand.tmp 3), type := 31, pos := "annalsref10.go:186", after := #[], guard := none }) (v := .agg (recArr (⟨v, kind, saga, step, try_, rat, last, code, rcount, rpivot, rname, rd⟩ : RecV))) rfl (by kernel_rfl) (by kernel_rfl) (by kernel_rfl) (fun _ _ _ h => h) (yl_blk rfl _ _ rfl _ rfl _ _ (fun w' h => h.2) rowRec) (by assumption) ?_
  try go_frame
  refine wpAnyH_ready (rs := [1]) (by kernel_rfl) (by simp) ?_
  refine AllReadyH.cons (o := { dst := some 6, op := Op.call { callee := Callee.value (Operand.func 10), args := #[Operand.tmp 5], argTypes := #[29] }, type := 29, pos := "annalsref10.go:186", after := #[{ on := 0, ground := Ground.data }], guard := none }) rfl (fun K hK => ?_) ?_
  · go_simp
    refine (CC.out _ HB.out.drew).mono ?_
    rintro e w5 ⟨s5, rfl, ho5, hb5⟩
    have hs5 : w1.heap.size ≤ w5.heap.size := hb5.size
    have HO5 := Lib.hid (show SagaOwn w5 w1.heap.size s5 D from ho5)
    have KZ5 := Lib.hid (BlkAt.below (show BlkAt w1.drew (w.heap.size + 2) zeroSagaArr 29 from KZ.out) hb5 (blk_lt KZ.out))
    have HB5 := Lib.hid (then_ HB.out.drew hb5)
    clear ho5
    try go_wp2_with fail
    refine hK.out _ _ (⟨hHeld.1.below hb5 (blk_lt hHeld.1), hHeld.2.below hb5 (blk_lt hHeld.2)⟩) (fun hHeld => ?_)
    clear hK K
    try go_frame
    refine wpAnyH_ready (rs := [3]) (by kernel_rfl) (by simp) ?_
    refine AllReadyH.cons (o := { dst := some 8, op := Op.call { callee := Callee.value (Operand.func 79), args := #[Operand.tmp 6, Operand.tmp 7], argTypes := #[29, 31] }, type := 29, pos := "annalsref10.go:186", after := #[{ on := 1, ground := Ground.data }, { on := 2, ground := Ground.data }, { on := 1, ground := Ground.chain }], guard := none }) rfl (fun K hK => ?_) ?_
    · go_simp
      refine (CL.out w1.heap.size _ s5 HO5.out hs5 HB5.out _ _ KZ5.out).mono ?_
      rintro e w6 ⟨s6, rfl, ho6, hb6, -⟩
      have HO6 := Lib.hid ho6
      have KZ6 := Lib.hid (KZ5.out.below hb6 (by omega))
      have HB6 := Lib.hid (HB5.out.trans (hb6.mono (by omega)))
      clear ho6
      try go_wp2_with fail
      refine hK.out _ _ (⟨hHeld.1.below hb6 (by omega), hHeld.2.below hb6 (by omega)⟩) (fun hHeld => ?_)
      clear hK K
      try go_frame
      refine wpAnyH_ready (rs := [4]) (by kernel_rfl) (by simp) ?_
      refine AllReadyH.cons (o := { dst := none, op := Op.store 29 (Operand.tmp 4) (Operand.tmp 8), type := 0, pos := "annalsref10.go:186", after := #[{ on := 3, ground := Ground.data }, { on := 3, ground := Ground.chain }, { on := 0, ground := Ground.phase }, { on := 1, ground := Ground.phase }, { on := 2, ground := Ground.phase }, { on := 3, ground := Ground.phase }], guard := none }) rfl (fun K hK => ?_) ?_
      · refine step_store_blk rfl _ _ _ rfl _ rfl (sagaArr s6) rfl _ _ KZ6.out (by rfl) (by simp [sagaArr, Value.oneCell']) rowSaga ?_
        intro w7 hw7 KS7
        have HS7 := Lib.hid KS7
        have HO7 := Lib.hid ((HO6.out.lower (c := w.heap.size) (by omega)).keep (hw7.rows KZ6.out (by decide) (by decide)))
        have HB7 := Lib.hid (hw7.below HB6.out (by omega))
        clear KS7
        refine hK.out _ _ (⟨hw7.blk hHeld.1 (by omega), hw7.blk hHeld.2 (by omega)⟩) (fun hHeld => ?_)
        clear hK K
        try go_frame
        refine wpAnyH_done (by kernel_rfl) ?_ _
        clear hHeld
        go_wp2_with fail
        exact bodyPost_ret (results_row rfl _ _ _ _ _ rfl HS7.out rowSaga) rfl ⟨s6, rfl, HO7.out, HB7.out⟩
      exact AllReadyH.nil
    exact AllReadyH.nil
  exact AllReadyH.nil

set_option maxRecDepth 10000000 in
set_option maxHeartbeats 2000000 in
theorem step_any (s : SagaV) (D : SagaD) (r : RecV) (R : RecD) (w : World) (ht : RefTabs w) (hs : SagaRd w s D) (hr : RecRd w r R) (fr : RefFits R) (hg : GoodD D) :
    Calls Tryz.prog 45 #[s.val, r.val] w fun e w' => ∃ s' : SagaV, e = .returned (.tuple #[s'.val, .int .i64 (applyN D R)]) ∧ SagaOwn w' w.heap.size s' (applyD D R) ∧ Below w.heap.size w w' := by
  obtain ⟨si, so, su, sf, rfl⟩ : ∃ i o u f, s = D.words i o u f := ⟨_, _, _, _, hs.eq⟩
  obtain ⟨rd, rfl⟩ : ∃ rd, r = R.words rd := ⟨_, hr.eq⟩
  have hc := (checkD_iff D).2 hg
  have cC := fun W (h : Below w.heap.size w W) => ref3Check_any (R.words rd) R.data W (ht.below h) fr.name fr.len (hr.below h).data
  rw [hr.recEq] at cC
  have cT := fun (h0 : recD R = 0) W (h : Below w.heap.size w W) => third_any R rd W (ht.below h) fr.name (hr.below h) h0
  have hdu : recD R = 0 → (up3 R).data.length ≤ 1073741824 := fun h0 => by have := (recGood h0).data; omega
  have cF : ∀ (h0 : recD R = 0) (t : Sl) W, Calls Tryz.prog 78 #[(D.words si so su sf).val, ((up3 R).words t).val] W fun e w' => e = .returned (.int .i64 (refusedD D (up3 R))) ∧ Below W.heap.size W w' := fun h0 t W => by
    have hx := recGood h0
    have := ref10Refused_any (D.words si so su sf) ((up3 R).words t) W hg.nextb ⟨hg.plain.tries0, hg.plain.tries1000⟩ ⟨hx.kind1, hx.kind7⟩
    rw [refN_eq hg hx] at this
    exact this
  have cM : ∀ (h0 : recD R = 0) (h1 : refusedD D (up3 R) = 0) (t : Sl) W (h : Below w.heap.size w W), RecRd W ((up3 R).words t) (up3 R) → Calls Tryz.prog 80 #[(D.words si so su sf).val, ((up3 R).words t).val] W fun e w' => ∃ s' : SagaV, e = .returned s'.val ∧ SagaOwn w' W.heap.size s' (movedD D (up3 R)) ∧ Below W.heap.size W w' := fun h0 h1 t W h hx =>
    have hG := recGood h0
    moved_any _ D _ (up3 R) W (hs.below h) hx hg hG ((refused_iff ⟨hG.kind1, hG.kind7⟩ hg.nextb).1 h1)
  have hN : applyN D R = if recD R ≠ 0 then recD R else refusedD D (up3 R) := by unfold applyN; rw [if_neg (by simp [hc])]
  have hND : applyD D R = if applyN D R ≠ 0 then zeroD else movedD D (up3 R) := rfl
  have CC := Lib.hid cC
  have CT := Lib.hid cT
  have CF := Lib.hid cF
  have CM := Lib.hid cM
  have HN := Lib.hid hN
  have HND := Lib.hid hND
  have HDU := Lib.hid hdu
  clear cC cT cF cM hN hND hdu hc hg hs hr fr ht
  generalize applyN D R = AN at HN HND ⊢
  generalize applyD D R = AD at HND ⊢
  generalize refusedD D (up3 R) = F at CF CM HN
  generalize movedD D (up3 R) = M at CM HND
  generalize recD R = N at CC CT CF CM HN HDU
  generalize up3 R = U at CT CF CM HDU
  obtain ⟨id, name, count, pivot, begun, at_, input, phase, next, flight, tries, outs, undos, fs, fc, fail⟩ := D
  obtain ⟨v, kind, saga, step, try_, rat, last, code, rcount, rpivot, rname, data⟩ := R
  have KB0 := ((BlkAt.new w (sagaArr (⟨id, name, count, pivot, begun, at_, si, phase, next, flight, tries, so, su, fs, fc, sf⟩ : SagaV)) 29).push (.cells (recArr (⟨v, kind, saga, step, try_, rat, last, code, rcount, rpivot, rname, rd⟩ : RecV)) 31)).push (.cells zeroSagaArr 29)
  have KR0 := (BlkAt.new (w.alloc (.cells (sagaArr (⟨id, name, count, pivot, begun, at_, si, phase, next, flight, tries, so, su, fs, fc, sf⟩ : SagaV)) 29)) (recArr (⟨v, kind, saga, step, try_, rat, last, code, rcount, rpivot, rname, rd⟩ : RecV)) 31).push (.cells zeroSagaArr 29)
  have KZ0 := BlkAt.new ((w.alloc (.cells (sagaArr (⟨id, name, count, pivot, begun, at_, si, phase, next, flight, tries, so, su, fs, fc, sf⟩ : SagaV)) 29)).alloc (.cells (recArr (⟨v, kind, saga, step, try_, rat, last, code, rcount, rpivot, rname, rd⟩ : RecV)) 31)) zeroSagaArr 29
  simp only [World.size_alloc] at KR0 KZ0
  have hb1 : Below w.heap.size w (((w.alloc (.cells (sagaArr (⟨id, name, count, pivot, begun, at_, si, phase, next, flight, tries, so, su, fs, fc, sf⟩ : SagaV)) 29)).alloc (.cells (recArr (⟨v, kind, saga, step, try_, rat, last, code, rcount, rpivot, rname, rd⟩ : RecV)) 31)).alloc (.cells zeroSagaArr 29)) := boxd (boxd (boxd (Below.refl _ _)))
  obtain ⟨w1, hw1⟩ : ∃ q, ((w.alloc (.cells (sagaArr (⟨id, name, count, pivot, begun, at_, si, phase, next, flight, tries, so, su, fs, fc, sf⟩ : SagaV)) 29)).alloc (.cells (recArr (⟨v, kind, saga, step, try_, rat, last, code, rcount, rpivot, rname, rd⟩ : RecV)) 31)).alloc (.cells zeroSagaArr 29) = q := ⟨_, rfl⟩
  rw [hw1] at KB0 KR0 KZ0 hb1
  have hs1 : w.heap.size + 3 ≤ w1.heap.size := by rw [← hw1]; simp
  have KB := Lib.hid KB0
  have KR := Lib.hid KR0
  have KZ := Lib.hid KZ0
  have HB := Lib.hid hb1
  clear KB0 KR0 KZ0 hb1
  dsimp only [recArr, sagaArr, Sl.v, zeroSagaArr] at hw1
  have HW1 := Lib.hid hw1
  clear hw1
  dsimp only [SagaD.words, RecD.words, SagaV.val, RecV.val, Sl.v] at CC CT CF CM ⊢
  go_enter Tryz.func45, Tryz.ntmps45
  go_upto_region 1 with fail
  rw [HW1.out]
  clear HW1
  go_wp2_with (refine wpList_load_blk rfl _ _ rfl _ rfl _ _ KR.out rowRec ?_)
  refine (CC.out _ HB.out).mono ?_
  clear CC
  rintro e wa ⟨rfl, hb⟩
  have KB := Lib.hid (KB.out.below hb (by omega))
  have KR := Lib.hid (KR.out.below hb (by omega))
  have KZ := Lib.hid (KZ.out.below hb (by omega))
  have hsa : w.heap.size + 3 ≤ wa.heap.size := by have := hb.size; omega
  have HB := Lib.hid (then_ HB.out hb)
  clear hb hs1
  by_cases h0 : N = 0
  · subst h0
    have CTX := Lib.hid (CT.out rfl wa HB.out)
    have CFX := Lib.hid (CF.out rfl)
    have CMX := Lib.hid (CM.out rfl)
    have HDX := Lib.hid (HDU.out rfl)
    have e1 : AN = F := by have := HN.out; simpa using this
    subst e1
    clear CT CF CM HN HDU
    obtain ⟨v', kind', saga', step', try', at', last', code', count', pivot', name', data'⟩ := U
    dsimp only [RecD.words, RecV.val, Sl.v] at CTX CFX CMX HDX
    go_wp2_with (refine wpList_load_blk rfl _ _ rfl _ rfl _ _ KR.out rowRec ?_)
    refine CTX.out.mono ?_
    rintro e w2 ⟨s, rfl, ho, hb⟩
    obtain ⟨w3, hw3⟩ : ∃ q, w2.alloc (.cells (recArr (⟨v', kind', saga', step', try', at', last', code', count', pivot', name', s⟩ : RecV)) 31) = q := ⟨_, rfl⟩
    have hb3 : Below w2.heap.size w2 w3 := by rw [← hw3]; exact boxd (Below.refl _ _)
    have hs3 : w2.heap.size + 1 ≤ w3.heap.size := by rw [← hw3]; simp
    have hs2 : w.heap.size + 3 ≤ w2.heap.size := by have := hb.size; omega
    have KB := Lib.hid ((KB.out.below hb (by omega)).below hb3 (by omega))
    have KZ := Lib.hid ((KZ.out.below hb (by omega)).below hb3 (by omega))
    have KQ : Hid (BlkAt w3 w2.heap.size (recArr (⟨v', kind', saga', step', try', at', last', code', count', pivot', name', s⟩ : RecV)) 31) := Lib.hid (by rw [← hw3]; exact BlkAt.new _ _ _)
    have HB := Lib.hid (then_ (then_ HB.out hb) hb3)
    have HO := Lib.hid ((ho.through hb3).bytes (by have := HDX.out; omega))
    dsimp only [recArr, Sl.v] at hw3
    have HW3 := Lib.hid hw3
    clear hw3 hb3 hb ho KR CTX
    dsimp only [RecV.val, Sl.v]
    go_upto_region 5 with fail
    rw [HW3.out]
    clear HW3
    go_wp2_with (first | (refine wpList_load_blk rfl _ _ rfl _ rfl _ _ KB.out rowSaga ?_) | (refine wpList_load_blk rfl _ _ rfl _ rfl _ _ KQ.out rowRec ?_))
    refine (CFX.out _ _).mono ?_
    rintro e w4 ⟨rfl, hb⟩
    have hs4 : w3.heap.size ≤ w4.heap.size := hb.size
    have KB := Lib.hid (KB.out.below hb (by omega))
    have KZ := Lib.hid (KZ.out.below hb (by omega))
    have KQ := Lib.hid (KQ.out.below hb (by omega))
    have HB := Lib.hid (then_ HB.out hb)
    have HO := Lib.hid (HO.out.below hb)
    clear hb CFX
    by_cases h1 : AN = 0
    · subst h1
      have e2 : AD = M := by have := HND.out; rw [if_neg (by simp)] at this; exact this
      subst e2
      clear HND
      go_wp2_with (first | (refine wpList_load_blk rfl _ _ rfl _ rfl _ _ KB.out rowSaga ?_) | (refine wpList_load_blk rfl _ _ rfl _ rfl _ _ KQ.out rowRec ?_))
      refine (CMX.out trivial s _ HB.out ⟨rfl, HO.out⟩).mono ?_
      rintro e w5 ⟨s6, rfl, ho, hb⟩
      have KZ := Lib.hid (KZ.out.below hb (by omega))
      have HB := Lib.hid (then_ HB.out hb)
      have HO6 := Lib.hid (ho.lower (c := w.heap.size) (by omega))
      clear hb ho CMX HO KB KQ
      go_wp2_with (refine wpList_store_blk rfl _ _ _ rfl _ rfl (sagaArr s6) rfl _ _ KZ.out (by rfl) (by simp [sagaArr, Value.oneCell']) rowSaga ?_; intro w9 hw9 K9; have KE := Lib.hid K9; have HE := Lib.hid (hw9.below HB.out (by omega)); have hw9r := Lib.hid (hw9.rows KZ.out (by decide) (by decide)); clear hw9 K9)
      exact bodyPost_ret (results_row2 rfl _ _ _ _ _ rfl KE.out rowSaga) rfl ⟨s6, rfl, HO6.out.keep hw9r.out, HE.out⟩
    · have e2 : AD = zeroD := by have := HND.out; rw [if_pos (by simp [h1])] at this; exact this
      subst e2
      clear HND CMX HO KB KQ
      have hk1 : (AN != 0) = true := by rw [bne_iff_ne]; exact h1
      clear h1
      go_wp2_with (refine wpList_store_blk rfl _ _ _ rfl _ rfl (zeroSagaArr) rfl _ _ KZ.out (by rfl) (by simp [Value.oneCell']) rowSaga ?_; intro w9 hw9 K9; have KE := Lib.hid K9; have HE := Lib.hid (hw9.below HB.out (by omega)); have hw9r := Lib.hid (hw9.rows KZ.out (by decide) (by decide)); clear hw9 K9)
      exact bodyPost_ret (results_row2 rfl _ _ _ _ _ rfl KE.out rowSaga) rfl ⟨zeroSagaV, rfl, SagaOwn.zero _ _, HE.out⟩
  · have e1 : AN = N := by have := HN.out; simpa [h0] using this
    have e2 : AD = zeroD := by have := HND.out; rw [if_pos (by simp [e1, h0])] at this; exact this
    subst e1 e2
    clear HN HND CT CF CM HDU
    have hk1 : (AN != 0) = true := by rw [bne_iff_ne]; exact h0
    clear h0
    go_wp2_with (refine wpList_store_blk rfl _ _ _ rfl _ rfl (zeroSagaArr) rfl _ _ KZ.out (by rfl) (by simp [Value.oneCell']) rowSaga ?_; intro w9 hw9 K9; have KE := Lib.hid K9; have HE := Lib.hid (hw9.below HB.out (by omega)); have hw9r := Lib.hid (hw9.rows KZ.out (by decide) (by decide)); clear hw9 K9)
    exact bodyPost_ret (results_row2 rfl _ _ _ _ _ rfl KE.out rowSaga) rfl ⟨zeroSagaV, rfl, SagaOwn.zero _ _, HE.out⟩
end Go.Proofs.YteaiadpigpehaaaGreatDoor
