/-
  What annalslaw10.plays' walk needs: beginnings of lists that are handed on, a part of a block behind a guard.
  annalslaw10.plays walked: it answers true.
  annalslaw10.upTo walked: it answers true.
  annalslaw10.SagaMoves, SagaAsks, SagaStories, SagaPlays walked: they answer true.
  Conditions: as each theorem says. (Joined by wip/tools/pack.py.)
-/
import Derived.Test.YteaiadpigpehaaaGreatDoorPkLaid
import Derived.Test.YteaiadpigpehaaaGreatDoorAnswered
namespace Go.Proofs.YteaiadpigpehaaaGreatDoor
open Go.RowKit

theorem wpList_load_part_g {P : Program} {ops : Array Oper} {rest : List Oper} {o : Oper} {a : Act} {w : World} {Q : Exit → Act → World → Prop} (hw : Region.wanted o (yielded ops a.tmps) = true) (ty : TypeId) (x : Operand) (ho : o.op = .load ty x)
    (g k : Nat) (hx : a.eval x = .pointer (some ⟨g, k, none⟩)) (t : TypeId) (cs vs : Array Value) (hg : BlkAt w g cs t) (hv : ∀ i, i < vs.size → cs[k + i]? = vs[i]?) (hu : RowTy P ty vs.size)
    (h : wpList P ops Q rest (a.put o.dst (.agg vs)) w) : wpList P ops Q (o :: rest) a w :=
  BigFrame.wpList_want hw fun _ hK => by
    unfold Oper.wp execOp
    simp only [ho, hx, Instr.loadAt, Instr.sureAddr, Sem.run_bind, Sem.run_pure, Result.andThen_ok, run_loadVar_part w g k t ty cs vs hg hv hu]
    exact hK _ _ h
theorem PreBytes.lower {w : World} {b c : Nat} {u : Sl} {d : List Int} (h : PreBytes w b u d) (hb : c ≤ b) : PreBytes w c u d := by
  obtain ⟨v, f, h1, h2, h3⟩ := h
  exact ⟨v, f, h1.lower hb, h2, h3⟩
theorem PreLists.lower {w : World} {b c : Nat} {v : Value} {ls : List (List Int)} (h : PreLists w b v ls) (hb : c ≤ b) : PreLists w c v ls := by
  obtain ⟨vs, h1, h2, h3⟩ := h
  exact ⟨vs, own_lower h1 hb, h2, fun i a b => (h3 i a b).lower hb⟩
theorem PreBytes.keep {w w' : World} {b : Nat} {u : Sl} {d : List Int} (h : PreBytes w b u d) (k : RowsKept w w') : PreBytes w' b u d := by
  obtain ⟨v, f, h1, h2, h3⟩ := h
  exact ⟨v, f, h1.keep k, h2, h3⟩
theorem PreLists.keep {w w' : World} {b : Nat} {v : Value} {ls : List (List Int)} (h : PreLists w b v ls) (k : RowsKept w w') : PreLists w' b v ls := by
  obtain ⟨vs, h1, h2, h3⟩ := h
  exact ⟨vs, own_heap h1 k.lists, h2, fun i a b => (h3 i a b).keep k⟩
theorem PreLists.form {w : World} {B : Nat} {v : Value} {ls : List (List Int)} (h : PreLists w B v ls) (h0 : 0 < ls.length) : ∃ g c, v = .slice (some ⟨g, 0, none⟩) ls.length c ∧ ls.length ≤ c ∧ c ≤ maxLen := by
  obtain ⟨vs, h1, _⟩ := h
  rcases h1.2 with ⟨_, e⟩ | ⟨g, cap, cur, e, _, _, q⟩
  · omega
  · exact ⟨g, cap, e, q.1, q.2.1⟩
theorem OwnBytes.form {w : World} {B : Nat} {v : Value} {d : List Int} (h : OwnBytes w B v d) (h0 : 0 < d.length) : ∃ g c, v = .slice (some ⟨g, 0, none⟩) d.length c ∧ d.length ≤ c ∧ c ≤ maxLen := by
  rcases h.2 with ⟨_, e⟩ | ⟨g, cap, cur, e, _, _, q⟩
  · omega
  · exact ⟨g, cap, e, q.1, q.2.1⟩
/-- The first of them, as a slice of its own. -/
theorem PreLists.take {w : World} {B g c n : Nat} {l m : List (List Int)} (h : PreLists w B (.slice (some ⟨g, 0, none⟩) n c) (l ++ m)) (hl : (l ++ m).length ≤ 4294967296) : ListsAt w ⟨some ⟨g, 0, none⟩, l.length, c⟩ l := by
  obtain ⟨s, e, vs, ⟨q1, ⟨q2, q3⟩, q4⟩, h2, h3⟩ := h.at hl
  obtain ⟨a, n', c'⟩ := s
  simp only [Sl.v, Value.slice.injEq] at e
  obtain ⟨rfl, rfl, rfl⟩ := e
  simp only [List.length_map] at q1
  have hvl : vs.length = l.length + m.length := by rw [h2, List.length_append]
  refine ⟨vs.take l.length, ⟨by simp; omega, ⟨by simp only; omega, fun h => by cases h⟩, fun h0 => ?_⟩, by simp; omega, fun i a b => ?_⟩
  · simp only at h0
    obtain ⟨b, o, e, hc⟩ := q4 (by simp only; omega)
    refine ⟨b, o, e, fun i hi => ?_⟩
    simp only at hi
    rw [hc i (by simp only; omega)]
    simp [hi]
  · have := h3 i (by simp at a; omega) (by rw [List.length_append]; omega)
    rw [List.getElem_append_left b] at this
    rw [List.getElem_take]
    exact this
/-- One of the rest. -/
theorem PreLists.get {w : World} {B g c n : Nat} {l : List (List Int)} (h : PreLists w B (.slice (some ⟨g, 0, none⟩) n c) (l ++ moreL)) (hl : (l ++ moreL).length ≤ 4294967296) (i : Nat) (hi : i < 20) : ∃ u : Sl, w.cell? ⟨g, l.length + i, none⟩ = some u.v ∧ BytesAt w u [206] := by
  obtain ⟨s, e, vs, ⟨q1, ⟨q2, q3⟩, q4⟩, h2, h3⟩ := h.at hl
  obtain ⟨a, n', c'⟩ := s
  simp only [Sl.v, Value.slice.injEq] at e
  obtain ⟨rfl, rfl, rfl⟩ := e
  simp only [List.length_map] at q1
  have hm : moreL.length = 20 := by simp [moreL]
  have hvl : vs.length = l.length + 20 := by rw [h2, List.length_append, hm]
  obtain ⟨b, o, e, hc⟩ := q4 (by simp only; omega)
  simp only [Option.some.injEq, Addr.mk.injEq] at e
  obtain ⟨rfl, rfl, _⟩ := e
  have hj : l.length + i < vs.length := by omega
  refine ⟨vs[l.length + i], ?_, ?_⟩
  · have := hc (l.length + i) (by simp only; omega)
    rw [Nat.zero_add] at this
    rw [this]
    simp [hj]
  · have := h3 (l.length + i) hj (by rw [List.length_append, hm]; omega)
    rw [List.getElem_append_right (by omega)] at this
    have e2 : moreL[l.length + i - l.length]'(by rw [hm]; omega) = [206] := List.getElem_replicate _
    rw [e2] at this
    exact this
theorem OwnBytes.take {w : World} {B g c n : Nat} {d : List Int} (h : OwnBytes w B (.slice (some ⟨g, 0, none⟩) n c) (fullD d)) (hl : d.length ≤ 1073741824) : BytesAt w ⟨some ⟨g, 0, none⟩, d.length, c⟩ d :=
  PreBytes.bytes (B := B) ⟨⟨some ⟨g, 0, none⟩, n, c⟩, marksL, h, rfl, by show (fullD d).length ≤ _; rw [fullD_len]; omega⟩
theorem sameLists_eq (s t : Sl) (l : List (List Int)) (w : World) (h : ListsAt w s l) (k : ListsAt w t l) : Calls Tryz.prog 33 #[s.v, t.v] w fun e w' => e = .returned (.bool true) ∧ Below w.heap.size w w' :=
  (sameLists_any s t l l w h k).mono fun _ _ h => ⟨by simpa using h.1, Drawn.below h.2⟩
theorem alike_eq (s t : Sl) (l : List Int) (w : World) (h : BytesAt w s l) (k : BytesAt w t l) : Calls Tryz.prog 32 #[s.v, t.v] w fun e w' => e = .returned (.bool true) ∧ Below w.heap.size w w' :=
  (alike_any s t l l w h k).mono fun _ _ h => ⟨by simpa using h.1, Drawn.below h.2⟩
theorem saga_with {s : SagaV} {D : SagaD} (h : s = D.words s.input s.outs s.undos s.fail) (i o u f : Sl) : ({ s with input := i, outs := o, undos := u, fail := f } : SagaV) = D.words i o u f := by rw [h]
theorem rec_with {r : RecV} {R : RecD} (h : r = R.words r.data) (d : Sl) : ({ r with data := d } : RecV) = R.words d := by rw [h]
/-- Small enough to be played. -/
structure PlaySmall (O : OpD) : Prop where
  outs : O.s.outs.length ≤ 1048576
  outs2 : ∀ d ∈ O.s.outs, d.length ≤ 1048576
  undos : O.s.undos.length ≤ 1048576
  undos2 : ∀ d ∈ O.s.undos, d.length ≤ 1048576
  input : O.s.input.length ≤ 1048576
  fail : O.s.fail.length ≤ 1048576
  data : O.r.data.length ≤ 1048576
theorem PlaySmall.held {O : OpD} (h : PlaySmall O) : O.s.held.Small := ⟨by have := h.input; simp; omega, h.outs, fun d hd => by have := h.outs2 d hd; omega, h.undos, fun d hd => by have := h.undos2 d hd; omega, by have := h.fail; simp; omega⟩
theorem full_small {l : List (List Int)} (h : ∀ d ∈ l, d.length ≤ 1048576) : ∀ d ∈ l.map fullD, d.length ≤ 1073741824 := by
  intro d hd
  obtain ⟨x, hx, rfl⟩ := List.mem_map.1 hd
  rw [fullD_len]
  have := h x hx
  omega
/-- What plays has made. -/
structure PlAt (w wr : World) (O : OpD) (s : SagaV) (r : RecV) (gs gr : Nat) (om ow um uw vi vf vd : Sl) : Prop where
  below : Below w.heap.size w wr
  ks : BlkAt wr gs (sagaArr s) 29
  kr : BlkAt wr gr (recArr r) 31
  gs0 : w.heap.size < gs
  gr0 : w.heap.size < gr
  s : SagaOwn wr w.heap.size s O.s
  req : r = O.r.words r.data
  r : OwnBytes wr w.heap.size r.data.v O.r.data
  om : PreLists wr w.heap.size om.v (O.s.outs ++ moreL)
  ow : OwnLists wr w.heap.size ow.v (O.s.outs.map fullD)
  um : PreLists wr w.heap.size um.v (O.s.undos ++ moreL)
  uw : OwnLists wr w.heap.size uw.v (O.s.undos.map fullD)
  vi : OwnBytes wr w.heap.size vi.v (fullD O.s.input)
  vf : OwnBytes wr w.heap.size vf.v (fullD O.s.fail)
  vd : OwnBytes wr w.heap.size vd.v (fullD O.r.data)
section
variable {w wr w' : World} {O : OpD} {s : SagaV} {r : RecV} {gs gr : Nat} {om ow um uw vi vf vd : Sl}
theorem PlAt.bl (h : PlAt w wr O s r gs gr om ow um uw vi vf vd) (hb : Below wr.heap.size wr w') : PlAt w w' O s r gs gr om ow um uw vi vf vd :=
  ⟨then_ h.below hb, h.ks.below hb (blk_lt h.ks), h.kr.below hb (blk_lt h.kr), h.gs0, h.gr0, h.s.through hb, h.req, h.r.through hb, h.om.through hb, h.ow.through hb, h.um.through hb, h.uw.through hb, h.vi.through hb, h.vf.through hb, h.vd.through hb⟩
theorem PlAt.wrote (h : PlAt w wr O s r gs gr om ow um uw vi vf vd) {cs : Array Value} (hk : BlkAt wr w.heap.size cs 37) (hw : Wrote wr w' w.heap.size) : PlAt w w' O s r gs gr om ow um uw vi vf vd :=
  have k := hw.rows hk (by decide) (by decide)
  ⟨hw.below h.below (Nat.le_refl _), hw.blk h.ks (by have := h.gs0; omega), hw.blk h.kr (by have := h.gr0; omega), h.gs0, h.gr0, h.s.keep k, h.req, h.r.keep k, h.om.keep k, h.ow.keep k, h.um.keep k, h.uw.keep k, h.vi.keep k, h.vf.keep k, h.vd.keep k⟩
theorem PlAt.rdS (h : PlAt w wr O s r gs gr om ow um uw vi vf vd) (hp : PlaySmall O) : SagaRd wr s O.s := h.s.rd hp.held
theorem PlAt.rdR (h : PlAt w wr O s r gs gr om ow um uw vi vf vd) (hp : PlaySmall O) : RecRd wr r O.r := ⟨h.req, h.r.bytes (by have := hp.data; omega)⟩
theorem PlAt.opRd {k : Int} {s0 : SagaV} {r0 : RecV} {gm nm cm gu nu cu gi ni ci gf nf cf gd nd cd : Nat} (h : PlAt w wr O s r gs gr ⟨some ⟨gm, 0, none⟩, nm, cm⟩ ow ⟨some ⟨gu, 0, none⟩, nu, cu⟩ uw ⟨some ⟨gi, 0, none⟩, ni, ci⟩ ⟨some ⟨gf, 0, none⟩, nf, cf⟩ ⟨some ⟨gd, 0, none⟩, nd, cd⟩) (ho : OpRd w ⟨k, s0, r0⟩ O) (hp : PlaySmall O)
    (hlo : (O.s.outs ++ moreL).length ≤ 4294967296) (hlu : (O.s.undos ++ moreL).length ≤ 4294967296) :
    OpRd wr ⟨k, { s0 with outs := ⟨some ⟨gm, 0, none⟩, O.s.outs.length, cm⟩, undos := ⟨some ⟨gu, 0, none⟩, O.s.undos.length, cu⟩, input := ⟨some ⟨gi, 0, none⟩, O.s.input.length, ci⟩, fail := ⟨some ⟨gf, 0, none⟩, O.s.fail.length, cf⟩ }, { r0 with data := ⟨some ⟨gd, 0, none⟩, O.r.data.length, cd⟩ }⟩ O :=
  ⟨ho.k, ⟨saga_with ho.s.eq _ _ _ _, ⟨OwnBytes.take h.vi (by have := hp.input; omega), PreLists.take h.om hlo, PreLists.take h.um hlu, OwnBytes.take h.vf (by have := hp.fail; omega)⟩⟩, ⟨rec_with ho.r.eq _, OwnBytes.take h.vd (by have := hp.data; omega)⟩⟩
end
end Go.Proofs.YteaiadpigpehaaaGreatDoor
namespace Go.Proofs.YteaiadpigpehaaaGreatDoor
open Go.RowKit

set_option maxRecDepth 10000000 in
set_option maxHeartbeats 16000000 in
theorem plays_any (o : OpV) (O : OpD) (w : World) (ht : Tables w) (hl : LandsAt w) (hrt : RefTabs w) (ho : OpRd w o O) (fs : SagaFits O.s) (fr : RecFits O.r) (hf : RefSaga O.s) (fx : RefFits O.r) (hp : PlaySmall O) :
    Calls Tryz.prog 20 #[o.val] w fun e w' => e = .returned (.bool true) ∧ Below w.heap.size w w' := by
  have cA := fun (q : OpV) W (h : Below w.heap.size w W) (hq : OpRd W q O) => answered_any q O W (ht.below h) (hl.below h) (hrt.below h) hq fs fr hf fx
  have CA := Lib.hid cA
  have HP := Lib.hid hp
  have hlo : (O.s.outs ++ moreL).length ≤ 4294967296 := by have := hp.outs; simp [moreL]; omega
  have hlu : (O.s.undos ++ moreL).length ≤ 4294967296 := by have := hp.undos; simp [moreL]; omega
  have HLO := Lib.hid hlo
  have HLU := Lib.hid hlu
  have hno := hp.outs
  have hnu := hp.undos
  have hm20 : moreL.length = 20 := by simp [moreL]
  clear cA ht hl hrt fs fr hf fx hlo hlu
  obtain ⟨k, s0, r0⟩ := o
  have HO := Lib.hid ho
  have k0 := BlkAt.new w (opArr ⟨k, s0, r0⟩) 37
  have hb1 := boxd (o := .cells (opArr ⟨k, s0, r0⟩) 37) (Below.refl w.heap.size w)
  have C1 := Lib.hid (ref10Clone_any s0 O.s _ (ho.s.below hb1) hp.held)
  have HB := Lib.hid hb1
  clear ho hb1 hp
  go_enter Tryz.func20, Tryz.ntmps20
  go_wp2_with ((with_reducible refine wpList_load_part ?_ _ (.tmp 14) ?_ w.heap.size 1 ?_ 37 (opArr ⟨k, s0, r0⟩) (sagaArr s0) k0 (op_saga ⟨k, s0, r0⟩) rowSaga ?_); rotate_left; exact rfl; exact rfl; rotate_left; exact rfl)
  refine C1.out.mono ?_
  clear C1
  rintro e wa ⟨s1, rfl, hs, hb⟩
  obtain ⟨si, ⟨oa, on, oc⟩, ⟨ua, un, uc⟩, sf, rfl⟩ : ∃ i o u f, s1 = O.s.words i o u f := ⟨_, _, _, _, hs.eq⟩
  have hz0 := hb.size
  rw [World.size_alloc] at hz0
  have hrd := hs.rd HP.out.held
  obtain rfl : on = O.s.outs.length := hrd.held.outs.len
  obtain rfl : un = O.s.undos.length := hrd.held.undos.len
  obtain ⟨wb, hwB⟩ : ∃ q, wa.alloc (.cells (sagaArr (O.s.words si ⟨oa, O.s.outs.length, oc⟩ ⟨ua, O.s.undos.length, uc⟩ sf)) 29) = q := ⟨_, rfl⟩
  have hbB : Below wa.heap.size wa wb := by rw [← hwB]; exact boxd (Below.refl _ _)
  have hbT := then_ hb hbB
  have KO := Lib.hid (k0.below hbT (by simp))
  have KS : Hid (BlkAt wb wa.heap.size (sagaArr (O.s.words si ⟨oa, O.s.outs.length, oc⟩ ⟨ua, O.s.undos.length, uc⟩ sf)) 29) := Lib.hid (by rw [← hwB]; exact BlkAt.new _ _ _)
  have SO := Lib.hid ((hs.through hbB).lower (c := w.heap.size) (by rw [World.size_alloc]; omega))
  have HB2 := Lib.hid (then_ HB.out hbT)
  have hg3 : w.heap.size < wa.heap.size := by omega
  have C2 := Lib.hid (ref3Clone_any r0 O.r.data wb (HO.out.r.data.below HB2.out) (by have := HP.out.data; omega))
  have hzb : wb.heap.size = wa.heap.size + 1 := by rw [← hwB]; simp
  obtain ⟨gs, hgs⟩ : ∃ q, wa.heap.size = q := ⟨_, rfl⟩
  rw [hgs] at KS hg3 hzb
  dsimp only [SagaD.words, sagaArr, Sl.v] at hwB
  have HWB := Lib.hid hwB
  clear hwB hbB hs hbT hb hz0 hrd k0 HB
  dsimp only [SagaD.words, SagaV.val, Sl.v]
  go_upto_region 2 with fail
  rw [HWB.out]
  clear HWB hgs
  go_wp2_with ((with_reducible refine wpList_load_part ?_ _ (.tmp 17) ?_ w.heap.size 17 ?_ 37 (opArr ⟨k, s0, r0⟩) (recArr r0) KO.out (op_rec ⟨k, s0, r0⟩) rowRec ?_); rotate_left; exact rfl; exact rfl; rotate_left; exact rfl)
  refine C2.out.mono ?_
  clear C2
  rintro e wa ⟨rs, rfl, hr, hb⟩
  obtain ⟨wc, hwC⟩ : ∃ q, wa.alloc (.cells (recArr { r0 with data := rs }) 31) = q := ⟨_, rfl⟩
  have hbB : Below wa.heap.size wa wc := by rw [← hwC]; exact boxd (Below.refl _ _)
  have hbT := then_ hb hbB
  have hzc := hb.size
  have K1 := Lib.hid (KO.out.below hbT (blk_lt KO.out))
  have KS1 := Lib.hid (KS.out.below hbT (blk_lt KS.out))
  have KR : Hid (BlkAt wc wa.heap.size (recArr { r0 with data := rs }) 31) := Lib.hid (by rw [← hwC]; exact BlkAt.new _ _ _)
  have SO1 := Lib.hid (SO.out.through hbT)
  have RO := Lib.hid ((hr.through hbB).lower (base := w.heap.size) (by omega))
  have HB3 := Lib.hid (then_ HB2.out hbT)
  have hg4 : w.heap.size < wa.heap.size := by omega
  have hreq : ({ r0 with data := rs } : RecV) = O.r.words rs := rec_with HO.out.r.eq rs
  obtain ⟨gr, hgr⟩ : ∃ q, wa.heap.size = q := ⟨_, rfl⟩
  rw [hgr] at KR hg4
  dsimp only [recArr, Sl.v] at hwC
  have HWC := Lib.hid hwC
  clear hwC hbB hr hbT hb KO KS SO HB2 hzb hzc
  dsimp only [RecV.val, Sl.v]
  go_upto_region 3 with fail
  rw [HWC.out]
  clear HWC hgr
  have CL := Lib.hid (laid_any ⟨oa, O.s.outs.length, oc⟩ O.s.outs _ (OwnLists.lists SO1.out.held.outs HP.out.outs HP.out.held.outs2) HP.out.outs HP.out.held.outs2)
  dsimp only [Sl.v] at CL
  have hsz := HB3.out.size
  go_wp2_with ((with_reducible refine wpList_load_field ?_ _ (.tmp 21) ?_ gs 11 ?_ 29 (sagaArr (O.s.words si ⟨oa, O.s.outs.length, oc⟩ ⟨ua, O.s.undos.length, uc⟩ sf)) KS1.out (.slice oa O.s.outs.length oc) ?_ one_lists ?_); rotate_left; exact rfl; exact rfl; exact rfl; rotate_left; exact rfl)
  refine CL.out.mono ?_
  clear CL
  rintro e wd ⟨vm, vw, rfl, hL⟩
  have hb := hL.below
  have OM := Lib.hid (hL.m.lower (c := w.heap.size) hsz)
  have OW := Lib.hid (hL.ws.lower (base := w.heap.size) hsz)
  obtain ⟨gm, cm, rfl, gm1, gm2⟩ := OM.out.form (by simp [moreL])
  obtain ⟨swo, rfl, -⟩ := OW.out.at (by rw [List.length_map]; exact HP.out.outs) (full_small HP.out.outs2)
  have K1_ := Lib.hid (K1.out.below hb (blk_lt K1.out))
  have KS1_ := Lib.hid (KS1.out.below hb (blk_lt KS1.out))
  have KR_ := Lib.hid (KR.out.below hb (blk_lt KR.out))
  have SO1_ := Lib.hid (SO1.out.through hb)
  have RO_ := Lib.hid (RO.out.through hb)
  have HB4 := Lib.hid (then_ HB3.out hb)
  clear K1 KS1 KR SO1 RO HB3
  have K1 := K1_
  have KS1 := KS1_
  have KR := KR_
  have SO1 := SO1_
  have RO := RO_
  clear K1_ KS1_ KR_ SO1_ RO_
  clear hb hL hsz
  go_upto_region 4 with fail
  have CL := Lib.hid (laid_any ⟨ua, O.s.undos.length, uc⟩ O.s.undos _ (OwnLists.lists SO1.out.held.undos HP.out.undos HP.out.held.undos2) HP.out.undos HP.out.held.undos2)
  dsimp only [Sl.v] at CL
  have hsz := HB4.out.size
  go_wp2_with ((with_reducible refine wpList_load_field ?_ _ (.tmp 27) ?_ gs 12 ?_ 29 (sagaArr (O.s.words si ⟨oa, O.s.outs.length, oc⟩ ⟨ua, O.s.undos.length, uc⟩ sf)) KS1.out (.slice ua O.s.undos.length uc) ?_ one_lists ?_); rotate_left; exact rfl; exact rfl; exact rfl; rotate_left; exact rfl)
  refine CL.out.mono ?_
  clear CL
  rintro e wd ⟨vm, vw, rfl, hL⟩
  have hb := hL.below
  have UM := Lib.hid (hL.m.lower (c := w.heap.size) hsz)
  have UW := Lib.hid (hL.ws.lower (base := w.heap.size) hsz)
  obtain ⟨gu, cu, rfl, gu1, gu2⟩ := UM.out.form (by simp [moreL])
  obtain ⟨swu, rfl, -⟩ := UW.out.at (by rw [List.length_map]; exact HP.out.undos) (full_small HP.out.undos2)
  have K1_ := Lib.hid (K1.out.below hb (blk_lt K1.out))
  have KS1_ := Lib.hid (KS1.out.below hb (blk_lt KS1.out))
  have KR_ := Lib.hid (KR.out.below hb (blk_lt KR.out))
  have SO1_ := Lib.hid (SO1.out.through hb)
  have RO_ := Lib.hid (RO.out.through hb)
  have OM_ := Lib.hid (OM.out.through hb)
  have OW_ := Lib.hid (OW.out.through hb)
  have HB5 := Lib.hid (then_ HB4.out hb)
  clear K1 KS1 KR SO1 RO OM OW HB4
  have K1 := K1_
  have KS1 := KS1_
  have KR := KR_
  have SO1 := SO1_
  have RO := RO_
  have OM := OM_
  have OW := OW_
  clear K1_ KS1_ KR_ SO1_ RO_ OM_ OW_
  clear hb hL hsz
  go_upto_region 5 with fail
  have CL := Lib.hid (roomy_any si O.s.input _ (OwnBytes.bytes (s := si) SO1.out.held.input (by have := HP.out.input; omega)) (by have := HP.out.input; omega))
  dsimp only [Sl.v] at CL
  have hsz := HB5.out.size
  go_wp2_with ((with_reducible refine wpList_load_field ?_ _ (.tmp 32) ?_ gs 6 ?_ 29 (sagaArr (O.s.words si ⟨oa, O.s.outs.length, oc⟩ ⟨ua, O.s.undos.length, uc⟩ sf)) KS1.out (.slice si.a si.n si.c) ?_ one_bytes ?_); rotate_left; exact rfl; exact rfl; exact rfl; rotate_left; exact rfl)
  refine CL.out.mono ?_
  clear CL
  rintro e wd ⟨vv, rfl, hv, hb⟩
  have VI := Lib.hid (hv.lower (base := w.heap.size) hsz)
  obtain ⟨gi, ci, rfl, gi1, gi2⟩ := VI.out.form (by rw [fullD_len]; omega)
  rw [fullD_len] at gi1
  have K1_ := Lib.hid (K1.out.below hb (blk_lt K1.out))
  have KS1_ := Lib.hid (KS1.out.below hb (blk_lt KS1.out))
  have KR_ := Lib.hid (KR.out.below hb (blk_lt KR.out))
  have SO1_ := Lib.hid (SO1.out.through hb)
  have RO_ := Lib.hid (RO.out.through hb)
  have OM_ := Lib.hid (OM.out.through hb)
  have OW_ := Lib.hid (OW.out.through hb)
  have UM_ := Lib.hid (UM.out.through hb)
  have UW_ := Lib.hid (UW.out.through hb)
  have HB6 := Lib.hid (then_ HB5.out hb)
  clear K1 KS1 KR SO1 RO OM OW UM UW HB5
  have K1 := K1_
  have KS1 := KS1_
  have KR := KR_
  have SO1 := SO1_
  have RO := RO_
  have OM := OM_
  have OW := OW_
  have UM := UM_
  have UW := UW_
  clear K1_ KS1_ KR_ SO1_ RO_ OM_ OW_ UM_ UW_
  clear hb hv hsz
  go_upto_region 6 with fail
  have CL := Lib.hid (roomy_any sf O.s.fail _ (OwnBytes.bytes (s := sf) SO1.out.held.fail (by have := HP.out.fail; omega)) (by have := HP.out.fail; omega))
  dsimp only [Sl.v] at CL
  have hsz := HB6.out.size
  go_wp2_with ((with_reducible refine wpList_load_field ?_ _ (.tmp 35) ?_ gs 15 ?_ 29 (sagaArr (O.s.words si ⟨oa, O.s.outs.length, oc⟩ ⟨ua, O.s.undos.length, uc⟩ sf)) KS1.out (.slice sf.a sf.n sf.c) ?_ one_bytes ?_); rotate_left; exact rfl; exact rfl; exact rfl; rotate_left; exact rfl)
  refine CL.out.mono ?_
  clear CL
  rintro e wd ⟨vv, rfl, hv, hb⟩
  have VF := Lib.hid (hv.lower (base := w.heap.size) hsz)
  obtain ⟨gf, cf, rfl, gf1, gf2⟩ := VF.out.form (by rw [fullD_len]; omega)
  rw [fullD_len] at gf1
  have K1_ := Lib.hid (K1.out.below hb (blk_lt K1.out))
  have KS1_ := Lib.hid (KS1.out.below hb (blk_lt KS1.out))
  have KR_ := Lib.hid (KR.out.below hb (blk_lt KR.out))
  have SO1_ := Lib.hid (SO1.out.through hb)
  have RO_ := Lib.hid (RO.out.through hb)
  have OM_ := Lib.hid (OM.out.through hb)
  have OW_ := Lib.hid (OW.out.through hb)
  have UM_ := Lib.hid (UM.out.through hb)
  have UW_ := Lib.hid (UW.out.through hb)
  have VI_ := Lib.hid (VI.out.through hb)
  have HB7 := Lib.hid (then_ HB6.out hb)
  clear K1 KS1 KR SO1 RO OM OW UM UW VI HB6
  have K1 := K1_
  have KS1 := KS1_
  have KR := KR_
  have SO1 := SO1_
  have RO := RO_
  have OM := OM_
  have OW := OW_
  have UM := UM_
  have UW := UW_
  have VI := VI_
  clear K1_ KS1_ KR_ SO1_ RO_ OM_ OW_ UM_ UW_ VI_
  clear hb hv hsz
  go_upto_region 7 with fail
  have CL := Lib.hid (roomy_any rs O.r.data _ (OwnBytes.bytes (s := rs) RO.out (by have := HP.out.data; omega)) (by have := HP.out.data; omega))
  dsimp only [Sl.v] at CL
  have hsz := HB7.out.size
  go_wp2_with ((with_reducible refine wpList_load_field ?_ _ (.tmp 38) ?_ gr 11 ?_ 31 (recArr { r0 with data := rs }) KR.out (.slice rs.a rs.n rs.c) ?_ one_bytes ?_); rotate_left; exact rfl; exact rfl; exact rfl; rotate_left; exact rfl)
  refine CL.out.mono ?_
  clear CL
  rintro e wd ⟨vv, rfl, hv, hb⟩
  have VD := Lib.hid (hv.lower (base := w.heap.size) hsz)
  obtain ⟨gd, cd, rfl, gd1, gd2⟩ := VD.out.form (by rw [fullD_len]; omega)
  rw [fullD_len] at gd1
  have K1_ := Lib.hid (K1.out.below hb (blk_lt K1.out))
  have KS1_ := Lib.hid (KS1.out.below hb (blk_lt KS1.out))
  have KR_ := Lib.hid (KR.out.below hb (blk_lt KR.out))
  have SO1_ := Lib.hid (SO1.out.through hb)
  have RO_ := Lib.hid (RO.out.through hb)
  have OM_ := Lib.hid (OM.out.through hb)
  have OW_ := Lib.hid (OW.out.through hb)
  have UM_ := Lib.hid (UM.out.through hb)
  have UW_ := Lib.hid (UW.out.through hb)
  have VI_ := Lib.hid (VI.out.through hb)
  have VF_ := Lib.hid (VF.out.through hb)
  have HB8 := Lib.hid (then_ HB7.out hb)
  clear K1 KS1 KR SO1 RO OM OW UM UW VI VF HB7
  have K1 := K1_
  have KS1 := KS1_
  have KR := KR_
  have SO1 := SO1_
  have RO := RO_
  have OM := OM_
  have OW := OW_
  have UM := UM_
  have UW := UW_
  have VI := VI_
  have VF := VF_
  clear K1_ KS1_ KR_ SO1_ RO_ OM_ OW_ UM_ UW_ VI_ VF_
  clear hb hv hsz
  go_upto_region 8 with fail
  have hall : PlAt w _ O (O.s.words si ⟨oa, O.s.outs.length, oc⟩ ⟨ua, O.s.undos.length, uc⟩ sf) { r0 with data := rs } gs gr ⟨some ⟨gm, 0, none⟩, (O.s.outs ++ moreL).length, cm⟩ swo ⟨some ⟨gu, 0, none⟩, (O.s.undos ++ moreL).length, cu⟩ swu ⟨some ⟨gi, 0, none⟩, (fullD O.s.input).length, ci⟩ ⟨some ⟨gf, 0, none⟩, (fullD O.s.fail).length, cf⟩ ⟨some ⟨gd, 0, none⟩, (fullD O.r.data).length, cd⟩ := ⟨HB8.out, KS1.out, KR.out, hg3, hg4, SO1.out, hreq, RO.out, OM.out, OW.out, UM.out, UW.out, VI.out, VF.out, VD.out⟩
  have PA := Lib.hid hall
  have lin : si.n = O.s.input.length := (hall.rdS HP.out).held.input.len
  have lfa : sf.n = O.s.fail.length := (hall.rdS HP.out).held.fail.len
  have lda : rs.n = O.r.data.length := (hall.rdR HP.out).data.len
  have hmo : (O.s.outs ++ moreL).length = O.s.outs.length + 20 := by rw [List.length_append]; simp [moreL]
  have hmu : (O.s.undos ++ moreL).length = O.s.undos.length + 20 := by rw [List.length_append]; simp [moreL]
  have cmo : O.s.outs.length ≤ cm := by omega
  have cmu : O.s.undos.length ≤ cu := by omega
  have cmi : O.s.input.length ≤ ci := by omega
  have cmf : O.s.fail.length ≤ cf := by omega
  have cmd : O.r.data.length ≤ cd := by omega
  clear hall hreq KS1 KR SO1 RO OM OW UM UW VI VF VD HB8
  have KO := K1
  clear K1
  have LIN : Hid ((sagaArr (O.s.words si ⟨oa, O.s.outs.length, oc⟩ ⟨ua, O.s.undos.length, uc⟩ sf))[6]? = some (.slice si.a O.s.input.length si.c)) := Lib.hid (by rw [← lin]; rfl)
  have LFA : Hid ((sagaArr (O.s.words si ⟨oa, O.s.outs.length, oc⟩ ⟨ua, O.s.undos.length, uc⟩ sf))[15]? = some (.slice sf.a O.s.fail.length sf.c)) := Lib.hid (by rw [← lfa]; rfl)
  have LDA : Hid ((recArr { r0 with data := rs })[11]? = some (.slice rs.a O.r.data.length rs.c)) := Lib.hid (by rw [← lda]; rfl)
  clear lin lfa lda
  go_upto_region 9 with (first
    | ((with_reducible refine wpList_load_field ?_ _ (.tmp 42) ?_ gs 11 ?_ 29 (sagaArr (O.s.words si ⟨oa, O.s.outs.length, oc⟩ ⟨ua, O.s.undos.length, uc⟩ sf)) PA.out.ks (.slice oa O.s.outs.length oc) ?_ one_lists ?_); rotate_left; exact rfl; exact rfl; exact rfl; rotate_left; exact rfl)
    | ((with_reducible refine wpList_store_one ?_ _ (.tmp 47) (.tmp 45) ?_ w.heap.size 12 ?_ (.slice (some ⟨gm, 0, none⟩) O.s.outs.length cm) ?_ 37 (opArr (⟨k, s0, r0⟩ : OpV)) KO.out ?_ ?_ size_lists ?_); rotate_left; exact rfl; exact rfl; exact rfl; exact (show 12 < 29 by omega); exact rfl; rotate_left; exact rfl; intro wS hwS K; have PB := Lib.hid (PA.out.wrote KO.out hwS); have KP : Hid (BlkAt wS w.heap.size (opArr (⟨k, { s0 with outs := ⟨some ⟨gm, 0, none⟩, O.s.outs.length, cm⟩ }, r0⟩ : OpV)) 37) := Lib.hid K; clear hwS K PA KO))
  have PA := PB
  have KO := KP
  clear PB KP
  go_upto_region 10 with (first
    | ((with_reducible refine wpList_load_field ?_ _ (.tmp 49) ?_ gs 12 ?_ 29 (sagaArr (O.s.words si ⟨oa, O.s.outs.length, oc⟩ ⟨ua, O.s.undos.length, uc⟩ sf)) PA.out.ks (.slice ua O.s.undos.length uc) ?_ one_lists ?_); rotate_left; exact rfl; exact rfl; exact rfl; rotate_left; exact rfl)
    | ((with_reducible refine wpList_store_one ?_ _ (.tmp 54) (.tmp 52) ?_ w.heap.size 13 ?_ (.slice (some ⟨gu, 0, none⟩) O.s.undos.length cu) ?_ 37 (opArr (⟨k, { s0 with outs := ⟨some ⟨gm, 0, none⟩, O.s.outs.length, cm⟩ }, r0⟩ : OpV)) KO.out ?_ ?_ size_lists ?_); rotate_left; exact rfl; exact rfl; exact rfl; exact (show 13 < 29 by omega); exact rfl; rotate_left; exact rfl; intro wS hwS K; have PB := Lib.hid (PA.out.wrote KO.out hwS); have KP : Hid (BlkAt wS w.heap.size (opArr (⟨k, { s0 with outs := ⟨some ⟨gm, 0, none⟩, O.s.outs.length, cm⟩, undos := ⟨some ⟨gu, 0, none⟩, O.s.undos.length, cu⟩ }, r0⟩ : OpV)) 37) := Lib.hid K; clear hwS K PA KO))
  have PA := PB
  have KO := KP
  clear PB KP
  go_upto_region 11 with (first
    | ((with_reducible refine wpList_load_field ?_ _ (.tmp 56) ?_ gs 6 ?_ 29 (sagaArr (O.s.words si ⟨oa, O.s.outs.length, oc⟩ ⟨ua, O.s.undos.length, uc⟩ sf)) PA.out.ks (.slice si.a O.s.input.length si.c) ?_ one_bytes ?_); rotate_left; exact rfl; exact rfl; exact LIN.out; rotate_left; exact rfl)
    | ((with_reducible refine wpList_store_one ?_ _ (.tmp 61) (.tmp 59) ?_ w.heap.size 7 ?_ (.slice (some ⟨gi, 0, none⟩) O.s.input.length ci) ?_ 37 (opArr (⟨k, { s0 with outs := ⟨some ⟨gm, 0, none⟩, O.s.outs.length, cm⟩, undos := ⟨some ⟨gu, 0, none⟩, O.s.undos.length, cu⟩ }, r0⟩ : OpV)) KO.out ?_ ?_ size_bytes ?_); rotate_left; exact rfl; exact rfl; exact rfl; exact (show 7 < 29 by omega); exact rfl; rotate_left; exact rfl; intro wS hwS K; have PB := Lib.hid (PA.out.wrote KO.out hwS); have KP : Hid (BlkAt wS w.heap.size (opArr (⟨k, { s0 with outs := ⟨some ⟨gm, 0, none⟩, O.s.outs.length, cm⟩, undos := ⟨some ⟨gu, 0, none⟩, O.s.undos.length, cu⟩, input := ⟨some ⟨gi, 0, none⟩, O.s.input.length, ci⟩ }, r0⟩ : OpV)) 37) := Lib.hid K; clear hwS K PA KO))
  have PA := PB
  have KO := KP
  clear PB KP
  go_upto_region 12 with (first
    | ((with_reducible refine wpList_load_field ?_ _ (.tmp 63) ?_ gs 15 ?_ 29 (sagaArr (O.s.words si ⟨oa, O.s.outs.length, oc⟩ ⟨ua, O.s.undos.length, uc⟩ sf)) PA.out.ks (.slice sf.a O.s.fail.length sf.c) ?_ one_bytes ?_); rotate_left; exact rfl; exact rfl; exact LFA.out; rotate_left; exact rfl)
    | ((with_reducible refine wpList_store_one ?_ _ (.tmp 68) (.tmp 66) ?_ w.heap.size 16 ?_ (.slice (some ⟨gf, 0, none⟩) O.s.fail.length cf) ?_ 37 (opArr (⟨k, { s0 with outs := ⟨some ⟨gm, 0, none⟩, O.s.outs.length, cm⟩, undos := ⟨some ⟨gu, 0, none⟩, O.s.undos.length, cu⟩, input := ⟨some ⟨gi, 0, none⟩, O.s.input.length, ci⟩ }, r0⟩ : OpV)) KO.out ?_ ?_ size_bytes ?_); rotate_left; exact rfl; exact rfl; exact rfl; exact (show 16 < 29 by omega); exact rfl; rotate_left; exact rfl; intro wS hwS K; have PB := Lib.hid (PA.out.wrote KO.out hwS); have KP : Hid (BlkAt wS w.heap.size (opArr (⟨k, { s0 with outs := ⟨some ⟨gm, 0, none⟩, O.s.outs.length, cm⟩, undos := ⟨some ⟨gu, 0, none⟩, O.s.undos.length, cu⟩, input := ⟨some ⟨gi, 0, none⟩, O.s.input.length, ci⟩, fail := ⟨some ⟨gf, 0, none⟩, O.s.fail.length, cf⟩ }, r0⟩ : OpV)) 37) := Lib.hid K; clear hwS K PA KO))
  have PA := PB
  have KO := KP
  clear PB KP
  go_upto_region 13 with (first
    | ((with_reducible refine wpList_load_field ?_ _ (.tmp 70) ?_ gr 11 ?_ 31 (recArr { r0 with data := rs }) PA.out.kr (.slice rs.a O.r.data.length rs.c) ?_ one_bytes ?_); rotate_left; exact rfl; exact rfl; exact LDA.out; rotate_left; exact rfl)
    | ((with_reducible refine wpList_store_one ?_ _ (.tmp 75) (.tmp 73) ?_ w.heap.size 28 ?_ (.slice (some ⟨gd, 0, none⟩) O.r.data.length cd) ?_ 37 (opArr (⟨k, { s0 with outs := ⟨some ⟨gm, 0, none⟩, O.s.outs.length, cm⟩, undos := ⟨some ⟨gu, 0, none⟩, O.s.undos.length, cu⟩, input := ⟨some ⟨gi, 0, none⟩, O.s.input.length, ci⟩, fail := ⟨some ⟨gf, 0, none⟩, O.s.fail.length, cf⟩ }, r0⟩ : OpV)) KO.out ?_ ?_ size_bytes ?_); rotate_left; exact rfl; exact rfl; exact rfl; exact (show 28 < 29 by omega); exact rfl; rotate_left; exact rfl; intro wS hwS K; have PB := Lib.hid (PA.out.wrote KO.out hwS); have KP : Hid (BlkAt wS w.heap.size (opArr (⟨k, { s0 with outs := ⟨some ⟨gm, 0, none⟩, O.s.outs.length, cm⟩, undos := ⟨some ⟨gu, 0, none⟩, O.s.undos.length, cu⟩, input := ⟨some ⟨gi, 0, none⟩, O.s.input.length, ci⟩, fail := ⟨some ⟨gf, 0, none⟩, O.s.fail.length, cf⟩ }, { r0 with data := ⟨some ⟨gd, 0, none⟩, O.r.data.length, cd⟩ }⟩ : OpV)) 37) := Lib.hid K; clear hwS K PA KO))
  have PA := PB
  have KO := KP
  clear PB KP
  have hrd := PA.out.opRd HO.out HP.out HLO.out HLU.out
  have CQ := Lib.hid (CA.out _ _ PA.out.below hrd)
  have HRD := Lib.hid hrd
  clear CA hrd LIN LFA LDA
  go_wp2_with ((with_reducible refine wpList_load_blk ?_ _ (.tmp 1) ?_ w.heap.size ?_ 37 (opArr (⟨k, { s0 with outs := ⟨some ⟨gm, 0, none⟩, O.s.outs.length, cm⟩, undos := ⟨some ⟨gu, 0, none⟩, O.s.undos.length, cu⟩, input := ⟨some ⟨gi, 0, none⟩, O.s.input.length, ci⟩, fail := ⟨some ⟨gf, 0, none⟩, O.s.fail.length, cf⟩ }, { r0 with data := ⟨some ⟨gd, 0, none⟩, O.r.data.length, cd⟩ }⟩ : OpV)) KO.out rowOp ?_); rotate_left; exact rfl; exact rfl; rotate_left; exact rfl)
  refine CQ.out.mono ?_
  clear CQ
  rintro e w2 ⟨rfl, hb⟩
  have PA2 := Lib.hid (PA.out.bl hb)
  have KO2 := Lib.hid (KO.out.below hb (blk_lt KO.out))
  have RD2 := Lib.hid (HRD.out.below hb)
  clear hb PA KO HRD
  have cS := fun W (h : Below w2.heap.size w2 W) => same_any (O.s.words si ⟨oa, O.s.outs.length, oc⟩ ⟨ua, O.s.undos.length, uc⟩ sf) { s0 with outs := ⟨some ⟨gm, 0, none⟩, O.s.outs.length, cm⟩, undos := ⟨some ⟨gu, 0, none⟩, O.s.undos.length, cu⟩, input := ⟨some ⟨gi, 0, none⟩, O.s.input.length, ci⟩, fail := ⟨some ⟨gf, 0, none⟩, O.s.fail.length, cf⟩ } O.s O.s W ((PA2.out.bl h).rdS HP.out) (RD2.out.below h).s
  rw [sameB_refl] at cS
  have CS := Lib.hid cS
  have CR := Lib.hid (fun W (h : Below w2.heap.size w2 W) => recSame_eq { r0 with data := rs } { r0 with data := ⟨some ⟨gd, 0, none⟩, O.r.data.length, cd⟩ } O.r W ((PA2.out.bl h).rdR HP.out) (RD2.out.below h).r)
  clear cS
  go_upto_region 16 with (first
    | (go_at_call 14; refine (CR.out _ HB3.out).mono ?_; rintro e w4 ⟨rfl, hb⟩; have PA4 := Lib.hid (PA3.out.bl hb); clear hb HB3)
    | ((with_reducible refine wpList_load_part_g ?_ _ (.tmp 89) ?_ w.heap.size 17 ?_ 37 (opArr (⟨k, { s0 with outs := ⟨some ⟨gm, 0, none⟩, O.s.outs.length, cm⟩, undos := ⟨some ⟨gu, 0, none⟩, O.s.undos.length, cu⟩, input := ⟨some ⟨gi, 0, none⟩, O.s.input.length, ci⟩, fail := ⟨some ⟨gf, 0, none⟩, O.s.fail.length, cf⟩ }, { r0 with data := ⟨some ⟨gd, 0, none⟩, O.r.data.length, cd⟩ }⟩ : OpV)) (recArr { r0 with data := ⟨some ⟨gd, 0, none⟩, O.r.data.length, cd⟩ }) KO3.out (op_rec (⟨k, { s0 with outs := ⟨some ⟨gm, 0, none⟩, O.s.outs.length, cm⟩, undos := ⟨some ⟨gu, 0, none⟩, O.s.undos.length, cu⟩, input := ⟨some ⟨gi, 0, none⟩, O.s.input.length, ci⟩, fail := ⟨some ⟨gf, 0, none⟩, O.s.fail.length, cf⟩ }, { r0 with data := ⟨some ⟨gd, 0, none⟩, O.r.data.length, cd⟩ }⟩ : OpV)) rowRec ?_); rotate_left; exact rfl; exact rfl; rotate_left; kernel_rfl)
    | ((with_reducible refine wpList_load_blk_g ?_ _ (.tmp 4) ?_ gr ?_ 31 (recArr { r0 with data := rs }) PA3.out.kr rowRec ?_); rotate_left; exact rfl; exact rfl; rotate_left; kernel_rfl)
    | (go_at_call 13; refine (CS.out _ (Below.refl _ _)).mono ?_; rintro e w3 ⟨rfl, hb⟩; have PA3 := Lib.hid (PA2.out.bl hb); have KO3 := Lib.hid (KO2.out.below hb (blk_lt KO2.out)); have HB3 := Lib.hid hb; clear hb)
    | ((with_reducible refine wpList_load_part_g ?_ _ (.tmp 82) ?_ w.heap.size 1 ?_ 37 (opArr (⟨k, { s0 with outs := ⟨some ⟨gm, 0, none⟩, O.s.outs.length, cm⟩, undos := ⟨some ⟨gu, 0, none⟩, O.s.undos.length, cu⟩, input := ⟨some ⟨gi, 0, none⟩, O.s.input.length, ci⟩, fail := ⟨some ⟨gf, 0, none⟩, O.s.fail.length, cf⟩ }, { r0 with data := ⟨some ⟨gd, 0, none⟩, O.r.data.length, cd⟩ }⟩ : OpV)) (sagaArr { s0 with outs := ⟨some ⟨gm, 0, none⟩, O.s.outs.length, cm⟩, undos := ⟨some ⟨gu, 0, none⟩, O.s.undos.length, cu⟩, input := ⟨some ⟨gi, 0, none⟩, O.s.input.length, ci⟩, fail := ⟨some ⟨gf, 0, none⟩, O.s.fail.length, cf⟩ }) KO2.out (op_saga (⟨k, { s0 with outs := ⟨some ⟨gm, 0, none⟩, O.s.outs.length, cm⟩, undos := ⟨some ⟨gu, 0, none⟩, O.s.undos.length, cu⟩, input := ⟨some ⟨gi, 0, none⟩, O.s.input.length, ci⟩, fail := ⟨some ⟨gf, 0, none⟩, O.s.fail.length, cf⟩ }, { r0 with data := ⟨some ⟨gd, 0, none⟩, O.r.data.length, cd⟩ }⟩ : OpV)) rowSaga ?_); rotate_left; exact rfl; exact rfl; rotate_left; kernel_rfl)
    | ((with_reducible refine wpList_load_blk_g ?_ _ (.tmp 3) ?_ gs ?_ 29 (sagaArr (O.s.words si ⟨oa, O.s.outs.length, oc⟩ ⟨ua, O.s.undos.length, uc⟩ sf)) PA2.out.ks rowSaga ?_); rotate_left; exact rfl; exact rfl; rotate_left; kernel_rfl))
  clear CS CR PA2 KO2 PA3 KO3
  have hw4 : ∃ q : World, q = w4 := ⟨_, rfl⟩
  have CF1 := Lib.hid (fun W (h : Below w4.heap.size w4 W) => full_any ⟨oa, O.s.outs.length, oc⟩ O.s.outs W (OwnLists.lists (s := ⟨oa, O.s.outs.length, oc⟩) (PA4.out.bl h).s.held.outs HP.out.outs HP.out.held.outs2) HP.out.outs HP.out.held.outs2)
  have CF2 := Lib.hid (fun W (h : Below w4.heap.size w4 W) => full_any ⟨ua, O.s.undos.length, uc⟩ O.s.undos W (OwnLists.lists (s := ⟨ua, O.s.undos.length, uc⟩) (PA4.out.bl h).s.held.undos HP.out.undos HP.out.held.undos2) HP.out.undos HP.out.held.undos2)
  dsimp only [Sl.v] at CF1 CF2
  clear hw4
  go_wp2_with (first
    | (go_at_call 33; refine (sameLists_eq swu ⟨a7, n7, c7⟩ _ w7 (OwnLists.lists PA7.out.uw (by rw [List.length_map]; exact HP.out.undos) (full_small HP.out.undos2)) L7.out).mono ?_; rintro e w8 ⟨rfl, hb⟩; have PA8 := Lib.hid (PA7.out.bl hb); clear hb)
    | (go_at_call 38; refine (CF2.out _ HB6.out).mono ?_; rintro e w7 ⟨v7, rfl, hv, hb⟩; obtain ⟨⟨a7, n7, c7⟩, rfl, l7⟩ := hv.at (by rw [List.length_map]; exact HP.out.undos) (full_small HP.out.undos2); have L7 := Lib.hid l7; have PA7 := Lib.hid (PA6.out.bl hb); have HB7 := Lib.hid hb; clear hv hb l7)
    | (go_at_call 33; refine (sameLists_eq swo ⟨a5, n5, c5⟩ _ w5 (OwnLists.lists PA5.out.ow (by rw [List.length_map]; exact HP.out.outs) (full_small HP.out.outs2)) L5.out).mono ?_; rintro e w6 ⟨rfl, hb⟩; have PA6 := Lib.hid (PA5.out.bl hb); have HB6 := Lib.hid (then_ HB5.out hb); clear hb)
    | (go_at_call 38; refine (CF1.out _ (Below.refl _ _)).mono ?_; rintro e w5 ⟨v5, rfl, hv, hb⟩; obtain ⟨⟨a5, n5, c5⟩, rfl, l5⟩ := hv.at (by rw [List.length_map]; exact HP.out.outs) (full_small HP.out.outs2); have L5 := Lib.hid l5; have PA5 := Lib.hid (PA4.out.bl hb); have HB5 := Lib.hid hb; clear hv hb l5)
    | ((with_reducible refine wpList_load_field_g ?_ _ (.tmp 102) ?_ gs 12 ?_ 29 (sagaArr (O.s.words si ⟨oa, O.s.outs.length, oc⟩ ⟨ua, O.s.undos.length, uc⟩ sf)) PA6.out.ks (.slice ua O.s.undos.length uc) ?_ one_lists ?_); rotate_left; exact rfl; exact rfl; exact rfl; rotate_left; kernel_rfl)
    | ((with_reducible refine wpList_load_field ?_ _ (.tmp 95) ?_ gs 11 ?_ 29 (sagaArr (O.s.words si ⟨oa, O.s.outs.length, oc⟩ ⟨ua, O.s.undos.length, uc⟩ sf)) PA4.out.ks (.slice oa O.s.outs.length oc) ?_ one_lists ?_); rotate_left; exact rfl; exact rfl; exact rfl; rotate_left; exact rfl))
  clear CF1 CF2 PA4 PA5 PA6 PA7 L5 L7 HB5 HB6 HB7
  go_loopw [13] (fun c wr => ∃ j : Nat, j ≤ 20 ∧ c = .int .i64 j ∧ Hid (PlAt w wr O (O.s.words si ⟨oa, O.s.outs.length, oc⟩ ⟨ua, O.s.undos.length, uc⟩ sf) { r0 with data := rs } gs gr ⟨some ⟨gm, 0, none⟩, (O.s.outs ++ moreL).length, cm⟩ swo ⟨some ⟨gu, 0, none⟩, (O.s.undos ++ moreL).length, cu⟩ swu ⟨some ⟨gi, 0, none⟩, (fullD O.s.input).length, ci⟩ ⟨some ⟨gf, 0, none⟩, (fullD O.s.fail).length, cf⟩ ⟨some ⟨gd, 0, none⟩, (fullD O.r.data).length, cd⟩)) (fun c _ => 20 - (intOf c).toNat)
  case atStart => exact ⟨0, by omega, rfl, PA8⟩
  case round =>
    clear PA8
    obtain ⟨j, hj, rfl, PA⟩ := hrel
    by_cases hlt : j < 20
    · obtain ⟨⟨xa, xn, xc⟩, hc1, hu1⟩ := PA.out.om.get HLO.out j hlt
      obtain ⟨⟨ya, yn, yc⟩, hc2, hu2⟩ := PA.out.um.get HLU.out j hlt
      dsimp only [Sl.v] at hc1 hc2
      have HC2 := Lib.hid hc2
      have CX := Lib.hid (alike_eq ⟨xa, xn, xc⟩ ⟨some ⟨wr.heap.size, 0, none⟩, 1, 1⟩ [206] (wr.alloc (.cells #[.int .u8 206] 5)) (hu1.below (boxd (Below.refl _ _))) (RowAt.of_lit1 wr _ _))
      have CY := Lib.hid (fun W (h : Below wr.heap.size wr W) => alike_eq ⟨ya, yn, yc⟩ ⟨some ⟨W.heap.size, 0, none⟩, 1, 1⟩ [206] (W.alloc (.cells #[.int .u8 206] 5)) (hu2.below (boxd (o := (.cells #[.int .u8 206] 5)) h)) (RowAt.of_lit1 W _ _))
      have HBA := Lib.hid (boxd (o := (.cells #[.int .u8 206] 5)) (Below.refl wr.heap.size wr))
      dsimp only [Sl.v] at CX CY
      have hix : O.s.outs.length + j < O.s.outs.length + 20 := by omega
      have hiy : O.s.undos.length + j < O.s.undos.length + 20 := by omega
      clear hu1 hu2 hc2
      go_wp2_with (first
    | (go_at_call 32; refine (CY.out _ HBB.out).mono ?_; rintro e w6 ⟨rfl, hb⟩; have PC := Lib.hid (PA.out.bl (then_ (boxd (o := (.cells #[.int .u8 206] 5)) HBB.out) hb)); clear hb)
    | (go_at_call 32; refine CX.out.mono ?_; rintro e w5 ⟨rfl, hb⟩; have HBB := Lib.hid (then_ HBA.out hb); have PB := Lib.hid (PA.out.bl HBB.out); have hc5 := (HBB.out.cell (World.block_lt_of_cell? _ _ HC2.out)).trans HC2.out; clear hb)
    | ((with_reducible refine wpList_load_field_g ?_ _ (.tmp 125) ?_ gs 12 ?_ 29 (sagaArr (O.s.words si ⟨oa, O.s.outs.length, oc⟩ ⟨ua, O.s.undos.length, uc⟩ sf)) PB.out.ks (.slice ua O.s.undos.length uc) ?_ one_lists ?_); rotate_left; exact rfl; exact rfl; exact rfl; rotate_left; kernel_rfl)
    | ((with_reducible refine wpList_load_field ?_ _ (.tmp 113) ?_ gs 11 ?_ 29 (sagaArr (O.s.words si ⟨oa, O.s.outs.length, oc⟩ ⟨ua, O.s.undos.length, uc⟩ sf)) PA.out.ks (.slice oa O.s.outs.length oc) ?_ one_lists ?_); rotate_left; exact rfl; exact rfl; exact rfl; rotate_left; exact rfl))
      all_goals go_roundw
      case rel => exact ⟨j + 1, by omega, by go_num, PC⟩
      case measure => simp [intOf]; omega
    · have hk : j = 20 := by omega
      subst hk
      have CY1 := Lib.hid (fun W (h : Below wr.heap.size wr W) => roomy_any si O.s.input W (OwnBytes.bytes (s := si) (PA.out.bl h).s.held.input (by have := HP.out.input; omega)) (by have := HP.out.input; omega))
      have CY2 := Lib.hid (fun W (h : Below wr.heap.size wr W) => roomy_any sf O.s.fail W (OwnBytes.bytes (s := sf) (PA.out.bl h).s.held.fail (by have := HP.out.fail; omega)) (by have := HP.out.fail; omega))
      have CY3 := Lib.hid (fun W (h : Below wr.heap.size wr W) => roomy_any rs O.r.data W (OwnBytes.bytes (s := rs) (PA.out.bl h).r (by have := HP.out.data; omega)) (by have := HP.out.data; omega))
      dsimp only [Sl.v] at CY1 CY2 CY3
      have fl1 : (fullD O.s.input).length ≤ 9223372036854775807 := by rw [fullD_len]; have := HP.out.input; omega
      have fl2 : (fullD O.s.fail).length ≤ 9223372036854775807 := by rw [fullD_len]; have := HP.out.fail; omega
      have fl3 : (fullD O.r.data).length ≤ 9223372036854775807 := by rw [fullD_len]; have := HP.out.data; omega
      go_wp2_with (first
    | (go_at_call 32; refine (alike_eq ⟨some ⟨gd, 0, none⟩, (fullD O.r.data).length, cd⟩ ⟨a3, n3, c3⟩ _ y3 (OwnBytes.bytes PY3.out.vd fl3) L3.out).mono ?_; rintro e z3 ⟨rfl, hb⟩; have PZ3 := Lib.hid (PY3.out.bl hb); have HZ3 := Lib.hid (then_ HY3.out hb); clear hb)
    | (go_at_call 37; refine (CY3.out _ HZ2.out).mono ?_; rintro e y3 ⟨v3, rfl, hv, hb⟩; obtain ⟨⟨a3, n3, c3⟩, rfl, l3⟩ := hv.at fl3; have L3 := Lib.hid l3; have PY3 := Lib.hid (PZ2.out.bl hb); have HY3 := Lib.hid (then_ HZ2.out hb); clear hv hb l3)
    | (go_at_call 32; refine (alike_eq ⟨some ⟨gf, 0, none⟩, (fullD O.s.fail).length, cf⟩ ⟨a2, n2, c2⟩ _ y2 (OwnBytes.bytes PY2.out.vf fl2) L2.out).mono ?_; rintro e z2 ⟨rfl, hb⟩; have PZ2 := Lib.hid (PY2.out.bl hb); have HZ2 := Lib.hid (then_ HY2.out hb); clear hb)
    | (go_at_call 37; refine (CY2.out _ HZ1.out).mono ?_; rintro e y2 ⟨v2, rfl, hv, hb⟩; obtain ⟨⟨a2, n2, c2⟩, rfl, l2⟩ := hv.at fl2; have L2 := Lib.hid l2; have PY2 := Lib.hid (PZ1.out.bl hb); have HY2 := Lib.hid (then_ HZ1.out hb); clear hv hb l2)
    | (go_at_call 32; refine (alike_eq ⟨some ⟨gi, 0, none⟩, (fullD O.s.input).length, ci⟩ ⟨a1, n1, c1⟩ _ y1 (OwnBytes.bytes PY1.out.vi fl1) L1.out).mono ?_; rintro e z1 ⟨rfl, hb⟩; have PZ1 := Lib.hid (PY1.out.bl hb); have HZ1 := Lib.hid (then_ HY1.out hb); clear hb)
    | (go_at_call 37; refine (CY1.out _ (Below.refl _ _)).mono ?_; rintro e y1 ⟨v1, rfl, hv, hb⟩; obtain ⟨⟨a1, n1, c1⟩, rfl, l1⟩ := hv.at fl1; have L1 := Lib.hid l1; have PY1 := Lib.hid (PA.out.bl hb); have HY1 := Lib.hid (hb); clear hv hb l1)
    | ((with_reducible refine wpList_load_field_g ?_ _ (.tmp 150) ?_ gr 11 ?_ 31 (recArr { r0 with data := rs }) PZ2.out.kr (.slice rs.a rs.n rs.c) ?_ one_bytes ?_); rotate_left; exact rfl; exact rfl; exact rfl; rotate_left; kernel_rfl)
    | ((with_reducible refine wpList_load_field_g ?_ _ (.tmp 143) ?_ gs 15 ?_ 29 (sagaArr (O.s.words si ⟨oa, O.s.outs.length, oc⟩ ⟨ua, O.s.undos.length, uc⟩ sf)) PZ1.out.ks (.slice sf.a sf.n sf.c) ?_ one_bytes ?_); rotate_left; exact rfl; exact rfl; exact rfl; rotate_left; kernel_rfl)
    | ((with_reducible refine wpList_load_field ?_ _ (.tmp 137) ?_ gs 6 ?_ 29 (sagaArr (O.s.words si ⟨oa, O.s.outs.length, oc⟩ ⟨ua, O.s.undos.length, uc⟩ sf)) PA.out.ks (.slice si.a si.n si.c) ?_ one_bytes ?_); rotate_left; exact rfl; exact rfl; exact rfl; rotate_left; exact rfl))
      all_goals go_ret
      all_goals exact ⟨by simp, PZ3.out.below⟩
end Go.Proofs.YteaiadpigpehaaaGreatDoor
namespace Go.Proofs.YteaiadpigpehaaaGreatDoor
open Go.RowKit

/-- What a call must be to be played. -/
structure OpOk (O : OpD) : Prop where
  fs : SagaFits O.s
  fr : RecFits O.r
  hf : RefSaga O.s
  fx : RefFits O.r
  hp : PlaySmall O
/-- The calls that a slice holds. -/
def OpsAt (w : World) (s : Sl) (Os : List OpD) : Prop :=
  ∃ os : List OpV, s.n = os.length ∧ os.length = Os.length ∧ (s.n ≤ 9223372036854775807 ∧ (s.a = none → s.c = 0)) ∧ (0 < s.n → ∃ b o, s.a = some ⟨b, o, none⟩ ∧ ∀ i (h1 : i < os.length), ∀ j, j < 29 → w.cell? ⟨b, o + i * 29 + j, none⟩ = (opArr os[i])[j]?) ∧ ∀ i (h1 : i < os.length) (h2 : i < Os.length), OpRd w os[i] Os[i]
theorem opArr_size (o : OpV) : (opArr o).size = 29 := rfl
theorem ops_ld {w : World} {b o : Nat} {os : List OpV} (h : ∀ i (h1 : i < os.length), ∀ j, j < 29 → w.cell? ⟨b, o + i * 29 + j, none⟩ = (opArr os[i])[j]?) : ∀ i (h : i < os.length) W, Below w.heap.size w W → ∀ j, j < (opArr os[i]).size → W.cell? ⟨b, o + i * 29 + j, none⟩ = (opArr os[i])[j]? := by
  intro i hi W hW j hj
  have h1 := h i hi j hj
  rw [Array.getElem?_eq_getElem hj] at h1 ⊢
  exact (hW.cell (World.block_lt_of_cell? w _ h1)).trans h1
theorem OpsAt.below {w w' : World} {s : Sl} {Os : List OpD} (h : OpsAt w s Os) (hb : Below w.heap.size w w') : OpsAt w' s Os := by
  obtain ⟨os, q1, q2, q3, q4, q5⟩ := h
  refine ⟨os, q1, q2, q3, fun h0 => ?_, fun i a b => (q5 i a b).below hb⟩
  obtain ⟨b, o, e, hc⟩ := q4 h0
  exact ⟨b, o, e, fun i hi j hj => ops_ld hc i hi w' hb j hj⟩
set_option maxRecDepth 1000000 in
set_option maxHeartbeats 4000000 in
theorem upTo_any (s : Sl) (Os : List OpD) (lo hi : Int) (w : World) (ht : Tables w) (hl : LandsAt w) (hrt : RefTabs w) (h : OpsAt w s Os) (hq : ∀ O ∈ Os, OpOk O) :
    Calls Tryz.prog 9 #[s.v, .int .i64 lo, .int .i64 hi] w fun e w' => e = .returned (.bool true) ∧ Below w.heap.size w w' := by
  obtain ⟨os, q1, q2, q3, q4, q5⟩ := h
  obtain ⟨a, n, c⟩ := s
  simp only at q1 q3 q4
  have hn : n = Os.length := by omega
  subst hn
  have hmax := q3.1
  have HA := Lib.hid q4
  have HR := Lib.hid q5
  have HQ2 := Lib.hid q2
  have CP := Lib.hid (fun (o : OpV) (O : OpD) W (h : Below w.heap.size w W) (ho : OpRd W o O) (k : OpOk O) => plays_any o O W (ht.below h) (hl.below h) (hrt.below h) ho k.fs k.fr k.hf k.fx k.hp)
  have HQ := Lib.hid hq
  clear q4 q5 q3 q1 q2 ht hl hrt hq
  dsimp only [Sl.v]
  go_enter Tryz.func9, Tryz.ntmps9
  go_wp2
  go_loopw [7] (fun i wr => ∃ j : Nat, j ≤ Os.length ∧ i = .int .i64 j ∧ Hid (Below w.heap.size w wr)) (fun i _ => Os.length - (intOf i).toNat)
  case atStart => exact ⟨0, by omega, rfl, Lib.hid (Below.refl _ _)⟩
  case round =>
    obtain ⟨j, hj, rfl, HBL⟩ := hrel
    by_cases hlt : j < Os.length
    · obtain ⟨b0, o0, e0, hc0⟩ := HA.out (by omega)
      subst e0
      have ja : j < os.length := by have := HQ2.out; omega
      have lda := ops_ld hc0 j ja
      have ra := HR.out j ja hlt
      have hin := HQ.out Os[j] (List.getElem_mem hlt)
      obtain ⟨x, hx⟩ : ∃ q, os[j] = q := ⟨_, rfl⟩
      obtain ⟨O, hO⟩ : ∃ q, Os[j] = q := ⟨_, rfl⟩
      rw [hx] at lda ra
      rw [hO] at ra hin
      have LDA := Lib.hid (lda wr HBL.out)
      have CQ := Lib.hid (CP.out x O wr HBL.out (ra.below HBL.out) hin)
      obtain ⟨k, hk⟩ : ∃ q, x.k = q := ⟨_, rfl⟩
      have hc := LDA.out 0 (by rw [opArr_size]; omega)
      rw [show (opArr x)[0]? = some (Value.int .i64 x.k) from rfl, hk, Nat.add_zero] at hc
      clear hx hO hk lda ra hin ja hc0
      by_cases h1 : lo ≤ k
      · by_cases h2 : k ≤ hi
        · go_wp2_with (refine wpList_load_at rfl _ _ rfl _ _ rfl (opArr x) LDA.out rowOp ?_)
          refine CQ.out.mono ?_
          rintro e w2 ⟨rfl, hb⟩
          have HB2 := Lib.hid (then_ HBL.out hb)
          clear hb CQ LDA HBL hc
          go_wp2
          all_goals go_roundw
          case rel => exact ⟨j + 1, by omega, by go_num, HB2⟩
          case measure => simp [intOf]; omega
        · clear CQ LDA
          go_wp2
          all_goals go_roundw
          case rel => exact ⟨j + 1, by omega, by go_num, HBL⟩
          case measure => simp [intOf]; omega
      · clear CQ LDA
        go_wp2
        all_goals go_roundw
        case rel => exact ⟨j + 1, by omega, by go_num, HBL⟩
        case measure => simp [intOf]; omega
    · have hk : j = Os.length := by omega
      subst hk
      go_wp2
      all_goals go_ret
      all_goals exact ⟨rfl, HBL.out⟩
end Go.Proofs.YteaiadpigpehaaaGreatDoor
namespace Go.Proofs.YteaiadpigpehaaaGreatDoor
open Go.RowKit

set_option maxRecDepth 1000000 in
set_option maxHeartbeats 4000000 in
theorem sagaMoves.walk (s : Sl) (Os : List OpD) (w : World) (ht : Tables w) (hl : LandsAt w) (hrt : RefTabs w) (h : OpsAt w s Os) (hq : ∀ O ∈ Os, OpOk O) :
    Calls Tryz.prog 3 #[s.v] w fun e w' => e = .returned (.bool true) ∧ Below w.heap.size w w' := by
  have C1 := Lib.hid (started_any w ht hl hrt)
  have C2 := Lib.hid (fun W (hb : Below w.heap.size w W) => upTo_any s Os 1 2 W (ht.below hb) (hl.below hb) (hrt.below hb) (OpsAt.below h hb) hq)
  clear ht hl hrt h hq
  go_enter Tryz.func3, Tryz.ntmps3
  go_wp2_with (first
    | (go_at_call 9; refine (C2.out _ HB.out).mono ?_; rintro e w3 ⟨rfl, hb⟩; have HB3 := Lib.hid (then_ HB.out hb); clear hb)
    | (go_at_call 8; refine C1.out.mono ?_; rintro e w2 ⟨rfl, hb⟩; have HB := Lib.hid hb; clear hb))
  all_goals go_ret
  all_goals exact ⟨by simp, HB3.out⟩

set_option maxRecDepth 1000000 in
set_option maxHeartbeats 4000000 in
theorem sagaAsks.walk (s : Sl) (Os : List OpD) (w : World) (ht : Tables w) (hl : LandsAt w) (hrt : RefTabs w) (h : OpsAt w s Os) (hq : ∀ O ∈ Os, OpOk O) :
    Calls Tryz.prog 4 #[s.v] w fun e w' => e = .returned (.bool true) ∧ Below w.heap.size w w' := by
  have C1 := Lib.hid (started_any w ht hl hrt)
  have C2 := Lib.hid (fun W (hb : Below w.heap.size w W) => upTo_any s Os 3 6 W (ht.below hb) (hl.below hb) (hrt.below hb) (OpsAt.below h hb) hq)
  clear ht hl hrt h hq
  go_enter Tryz.func4, Tryz.ntmps4
  go_wp2_with (first
    | (go_at_call 9; refine (C2.out _ HB.out).mono ?_; rintro e w3 ⟨rfl, hb⟩; have HB3 := Lib.hid (then_ HB.out hb); clear hb)
    | (go_at_call 8; refine C1.out.mono ?_; rintro e w2 ⟨rfl, hb⟩; have HB := Lib.hid hb; clear hb))
  all_goals go_ret
  all_goals exact ⟨by simp, HB3.out⟩

set_option maxRecDepth 1000000 in
set_option maxHeartbeats 4000000 in
theorem sagaStories.walk (s : Sl) (Os : List OpD) (w : World) (ht : Tables w) (hl : LandsAt w) (hrt : RefTabs w) (h : OpsAt w s Os) (hq : ∀ O ∈ Os, OpOk O) :
    Calls Tryz.prog 5 #[s.v] w fun e w' => e = .returned (.bool true) ∧ Below w.heap.size w w' := by
  have C1 := Lib.hid (started_any w ht hl hrt)
  have C2 := Lib.hid (fun W (hb : Below w.heap.size w W) => upTo_any s Os 7 8 W (ht.below hb) (hl.below hb) (hrt.below hb) (OpsAt.below h hb) hq)
  clear ht hl hrt h hq
  go_enter Tryz.func5, Tryz.ntmps5
  go_wp2_with (first
    | (go_at_call 9; refine (C2.out _ HB.out).mono ?_; rintro e w3 ⟨rfl, hb⟩; have HB3 := Lib.hid (then_ HB.out hb); clear hb)
    | (go_at_call 8; refine C1.out.mono ?_; rintro e w2 ⟨rfl, hb⟩; have HB := Lib.hid hb; clear hb))
  all_goals go_ret
  all_goals exact ⟨by simp, HB3.out⟩

set_option maxRecDepth 1000000 in
set_option maxHeartbeats 4000000 in
theorem sagaPlays.walk (s : Sl) (Os : List OpD) (w : World) (ht : Tables w) (hl : LandsAt w) (hrt : RefTabs w) (h : OpsAt w s Os) (hq : ∀ O ∈ Os, OpOk O) :
    Calls Tryz.prog 6 #[s.v] w fun e w' => e = .returned (.bool true) ∧ Below w.heap.size w w' := by
  have C1 := Lib.hid (started_any w ht hl hrt)
  have C2 := Lib.hid (fun W (hb : Below w.heap.size w W) => upTo_any s Os 1 8 W (ht.below hb) (hl.below hb) (hrt.below hb) (OpsAt.below h hb) hq)
  clear ht hl hrt h hq
  go_enter Tryz.func6, Tryz.ntmps6
  go_wp2_with (first
    | (go_at_call 9; refine (C2.out _ HB.out).mono ?_; rintro e w3 ⟨rfl, hb⟩; have HB3 := Lib.hid (then_ HB.out hb); clear hb)
    | (go_at_call 8; refine C1.out.mono ?_; rintro e w2 ⟨rfl, hb⟩; have HB := Lib.hid hb; clear hb))
  all_goals go_ret
  all_goals exact ⟨by simp, HB3.out⟩
end Go.Proofs.YteaiadpigpehaaaGreatDoor
