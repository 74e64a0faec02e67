/-
  annalsref10.light walked for the kinds 3 and 6: a list grows. Conditions: a saga in blocks of one's own. (Printed by wip/gen_ref10light.py.)
-/
import Derived.Test.YteaiadpigpehaaaGreatDoorRef10Light
import Derived.Maps.RangeWalk
namespace Go.Proofs.YteaiadpigpehaaaGreatDoor
open Go.RowKit

theorem grown_outs {w4 w5 w6 : World} {B : Nat} {s : SagaV} {H : Held} {d : List Int} {x : Obj} {q o : Sl} {vs : List Sl} (h : OwnHeld w4 B s H) (hb : Below w4.heap.size w4 w5) (hq : OwnBytes w5 B q.v d)
    (o1 : w4.ownsRow B 26 1 s.outs.v H.outs.length (vs.map Sl.v)) (o2 : vs.length = H.outs.length) (o3 : ∀ i (h1 : i < vs.length) (h2 : i < H.outs.length), OwnBytes w4 B (vs[i]).v H.outs[i])
    (hg : (w5.alloc x).grownBy w6 s.outs.v.ownBlock) (hown : w6.ownsRow B 26 1 o.v (H.outs.length + 1) (vs.map Sl.v ++ [q.v])) (hat : ∃ gg, o.v.ownBlock = some gg ∧ (s.outs.v.ownBlock = some gg ∨ gg = w5.heap.size + 1)) :
    OwnHeld w6 B { s with outs := o } { H with outs := H.outs ++ [d] } := by
  have hbW : Below w4.heap.size w4 (w5.alloc x) := boxd hb
  have hbA : Below w5.heap.size w5 (w5.alloc x) := boxd (Below.refl _ _)
  have p1 := own_through o1 hbW
  refine ⟨bytes_kept (h.input.through hbW) p1 hg, OwnLists.grown (s := q) o2 (fun i a b => (o3 i a b).through hbW) p1 (hq.through hbA) hown hg, lists_kept (h.undos.through hbW) p1 hg (apart_sym h.apart), bytes_kept (h.fail.through hbW) p1 hg, ?_⟩
  obtain ⟨gg, e, hat⟩ := hat
  rcases hat with hat | hat
  · show o.v.ownBlock = none ∨ o.v.ownBlock ≠ s.undos.v.ownBlock
    rw [e, ← hat]
    exact h.apart
  · refine .inr fun e' => ?_
    have h1 := (h.undos.lt gg (by rw [← show o.v.ownBlock = _ from e']; exact e)).2
    have := hb.size
    omega
theorem grown_undos {w4 w5 w6 : World} {B : Nat} {s : SagaV} {H : Held} {d : List Int} {x : Obj} {q o : Sl} {vs : List Sl} (h : OwnHeld w4 B s H) (hb : Below w4.heap.size w4 w5) (hq : OwnBytes w5 B q.v d)
    (o1 : w4.ownsRow B 26 1 s.undos.v H.undos.length (vs.map Sl.v)) (o2 : vs.length = H.undos.length) (o3 : ∀ i (h1 : i < vs.length) (h2 : i < H.undos.length), OwnBytes w4 B (vs[i]).v H.undos[i])
    (hg : (w5.alloc x).grownBy w6 s.undos.v.ownBlock) (hown : w6.ownsRow B 26 1 o.v (H.undos.length + 1) (vs.map Sl.v ++ [q.v])) (hat : ∃ gg, o.v.ownBlock = some gg ∧ (s.undos.v.ownBlock = some gg ∨ gg = w5.heap.size + 1)) :
    OwnHeld w6 B { s with undos := o } { H with undos := H.undos ++ [d] } := by
  have hbW : Below w4.heap.size w4 (w5.alloc x) := boxd hb
  have hbA : Below w5.heap.size w5 (w5.alloc x) := boxd (Below.refl _ _)
  have p1 := own_through o1 hbW
  refine ⟨bytes_kept (h.input.through hbW) p1 hg, lists_kept (h.outs.through hbW) p1 hg h.apart, OwnLists.grown (s := q) o2 (fun i a b => (o3 i a b).through hbW) p1 (hq.through hbA) hown hg, bytes_kept (h.fail.through hbW) p1 hg, ?_⟩
  obtain ⟨gg, e, hat⟩ := hat
  refine apart_sym ?_
  rcases hat with hat | hat
  · show o.v.ownBlock = none ∨ o.v.ownBlock ≠ s.outs.v.ownBlock
    rw [e, ← hat]
    exact apart_sym h.apart
  · refine .inr fun e' => ?_
    have h1 := (h.outs.lt gg (by rw [← show o.v.ownBlock = _ from e']; exact e)).2
    have := hb.size
    omega
theorem step_load_cell {P : Program} {ops : Array Oper} {o : Oper} {a : Act} {w : World} {K : Act → World → Prop} {Q : Exit → Act → World → Prop} {E : Prop} (hgd : o.guard = none) (ty : TypeId) (x : Operand) (ho : o.op = .load ty x)
    (ad : Addr) (hx : a.eval x = .pointer (some ad)) (v : Value) (hv : w.cell? ad = some v) (hu : OneTy P ty)
    (h : K (a.put o.dst v) w) : if Region.wanted o (yielded ops a.tmps) = true then Oper.wp P o a w K Q else E := by
  have hw : Region.wanted o (yielded ops a.tmps) = true := by simp [Region.wanted, hgd]
  rw [if_pos hw]
  unfold Oper.wp execOp
  simp only [ho, hx, Instr.loadAt, Instr.sureAddr, Sem.run_bind, Sem.run_pure, Result.andThen_ok, run_loadVar_one hu w ad v hv]
  exact h
theorem OwnHeld.kept_row {w w' : World} {B : Nat} {s : SagaV} {H : Held} (h : OwnHeld w B s H) (k : RowsKept w w') : OwnHeld w' B s H := ⟨h.input.keep k, h.outs.keep k, h.undos.keep k, h.fail.keep k, h.apart⟩

set_option maxRecDepth 10000000 in
set_option maxHeartbeats 2000000 in
theorem light_3 (s : SagaV) (D : SagaD) (x : RecV) (X : RecD) (B : Nat) (w : World) (hs : SagaOwn w B s D) (hB : B ≤ w.heap.size) (hx : RecRd w x X) (hk : X.kind = 3) (hdl : X.data.length ≤ 1073741824) (hn : 0 ≤ D.next ∧ D.next ≤ 1000) (hl : D.outs.length ≤ 1000) (g0 : Nat) (cs0 : Array Value) (hbx : BlkAt w g0 cs0 29) :
    Calls Tryz.prog 79 #[s.val, x.val] w fun e w' => ∃ s' : SagaV, e = .returned s'.val ∧ SagaOwn w' B s' (lightD D X) ∧ Below B w w' ∧ BlkAt w' g0 cs0 29 := by
  obtain ⟨si, so, su, sf, rfl⟩ : ∃ i o u f, s = D.words i o u f := ⟨_, _, _, _, hs.eq⟩
  obtain ⟨rd, rfl⟩ : ∃ rd, x = X.words rd := ⟨_, hx.eq⟩
  obtain ⟨id, name, count, pivot, begun, at_, input, phase, next, flight, tries, outs, undos, fs, fc, fail⟩ := D
  obtain ⟨v, kind, saga, step, try_, rat, last, code, rcount, rpivot, rname, data⟩ := X
  simp only at hk hdl hn hl
  have HBX := Lib.hid hbx
  have hbl := blk_lt hbx
  clear hbx
  have hwn : wrap64 (next + 1) = (next + 1) := by unfold wrap64; omega
  obtain ⟨i0, hi0, hz0, hz1, hz2⟩ := info_parts infoBytes
  subst hk
  have KB0 := ((BlkAt.new w (sagaArr (⟨id, name, count, pivot, begun, at_, si, phase, next, flight, tries, so, su, fs, fc, sf⟩ : SagaV)) 29).push (.cells (recArr (⟨v, 3, saga, step, try_, rat, last, code, rcount, rpivot, rname, rd⟩ : RecV)) 31)).push (.cells zeroSagaArr 29)
  have KR0 := (BlkAt.new (w.alloc (.cells (sagaArr (⟨id, name, count, pivot, begun, at_, si, phase, next, flight, tries, so, su, fs, fc, sf⟩ : SagaV)) 29)) (recArr (⟨v, 3, saga, step, try_, rat, last, code, rcount, rpivot, rname, rd⟩ : RecV)) 31).push (.cells zeroSagaArr 29)
  have KZ0 := BlkAt.new ((w.alloc (.cells (sagaArr (⟨id, name, count, pivot, begun, at_, si, phase, next, flight, tries, so, su, fs, fc, sf⟩ : SagaV)) 29)).alloc (.cells (recArr (⟨v, 3, saga, step, try_, rat, last, code, rcount, rpivot, rname, rd⟩ : RecV)) 31)) zeroSagaArr 29
  simp only [World.size_alloc] at KR0 KZ0
  have hb1 : Below w.heap.size w (((w.alloc (.cells (sagaArr (⟨id, name, count, pivot, begun, at_, si, phase, next, flight, tries, so, su, fs, fc, sf⟩ : SagaV)) 29)).alloc (.cells (recArr (⟨v, 3, saga, step, try_, rat, last, code, rcount, rpivot, rname, rd⟩ : RecV)) 31)).alloc (.cells zeroSagaArr 29)) := boxd (boxd (boxd (Below.refl _ _)))
  obtain ⟨w1, hw1⟩ : ∃ q, ((w.alloc (.cells (sagaArr (⟨id, name, count, pivot, begun, at_, si, phase, next, flight, tries, so, su, fs, fc, sf⟩ : SagaV)) 29)).alloc (.cells (recArr (⟨v, 3, saga, step, try_, rat, last, code, rcount, rpivot, rname, rd⟩ : RecV)) 31)).alloc (.cells zeroSagaArr 29) = q := ⟨_, rfl⟩
  rw [hw1] at KB0 KR0 KZ0 hb1
  have hs1 : w.heap.size + 3 ≤ w1.heap.size := by rw [← hw1]; simp
  have KB := Lib.hid KB0
  have KR := Lib.hid KR0
  have KZ := Lib.hid KZ0
  have HB := Lib.hid hb1
  have HS := Lib.hid hs
  have HX := Lib.hid hx
  clear KB0 KR0 KZ0 hb1 hs hx
  dsimp only [recArr, sagaArr, Sl.v, zeroSagaArr] at hw1
  have HW1 := Lib.hid hw1
  clear hw1
  dsimp only [SagaD.words, RecD.words, SagaV.val, RecV.val, Sl.v]
  go_enter Tryz.func79, Tryz.ntmps79
  go_upto_region 1 with fail
  rw [HW1.out]
  clear HW1
  go_upto_region 2 with (first
    | (refine wpList_load_field rfl _ _ rfl _ 5 rfl _ _ KR.out (.int .i64 rat) rfl one_int ?_)
    | (refine wpList_store_one rfl _ _ _ rfl _ 5 rfl (.int .i64 rat) rfl _ _ KB.out (by simp [sagaArr]) rfl size_int ?_; intro wS hw K; have KR := Lib.hid (hw.blk KR.out (by omega)); have KZ := Lib.hid (hw.blk KZ.out (by omega)); have HB := Lib.hid (hw.below HB.out (by omega)); clear KB; have KB := Lib.hid K; clear hw K))
  have KB9 := KB.out
  clear KB
  have KB := Lib.hid (show BlkAt _ w.heap.size (sagaArr (⟨id, name, count, pivot, begun, rat, si, phase, next, flight, tries, so, su, fs, fc, sf⟩ : SagaV)) 29 from KB9)
  clear KB9
  go_upto_region 3 with (first
    | (refine wpList_load_field rfl _ _ rfl _ 1 rfl _ _ KR.out (.int .i64 3) rfl one_int ?_)
    | (refine wpList_load_field_g (by rfl) _ _ rfl _ 1 rfl _ _ KR.out (.int .i64 3) rfl one_int ?_)
    | (refine wpList_store_one rfl _ _ _ rfl _ 9 rfl (.bool false) rfl _ _ KB.out (by simp [sagaArr]) rfl size_bool ?_; intro wS hw K; have KR := Lib.hid (hw.blk KR.out (by omega)); have KZ := Lib.hid (hw.blk KZ.out (by omega)); have HB := Lib.hid (hw.below HB.out (by omega)); clear KB; have KB := Lib.hid K; clear hw K))
  have KB9 := KB.out
  clear KB
  have KB := Lib.hid (show BlkAt _ w.heap.size (sagaArr (⟨id, name, count, pivot, begun, rat, si, phase, next, false, tries, so, su, fs, fc, sf⟩ : SagaV)) 29 from KB9)
  clear KB9
  go_upto_region 9 with (first
    | (refine wpList_load_field rfl _ _ rfl _ 1 rfl _ _ KR.out (.int .i64 3) rfl one_int ?_)
    | (refine wpList_load_field rfl _ _ rfl _ 8 rfl _ _ KB.out (.int .i64 next) rfl one_int ?_)
    | (refine wpList_store_one rfl _ _ _ rfl _ 8 rfl (.int .i64 (next + 1)) rfl _ _ KB.out (by simp [sagaArr]) rfl size_int ?_; intro wS hw K; have KR := Lib.hid (hw.blk KR.out (by omega)); have KZ := Lib.hid (hw.blk KZ.out (by omega)); have HB := Lib.hid (hw.below HB.out (by omega)); clear KB; have KB := Lib.hid K; clear hw K))
  have KB9 := KB.out
  clear KB
  have KB := Lib.hid (show BlkAt _ w.heap.size (sagaArr (⟨id, name, count, pivot, begun, rat, si, phase, (next + 1), false, tries, so, su, fs, fc, sf⟩ : SagaV)) 29 from KB9)
  clear KB9
  go_upto_region 10 with (first
    | (refine wpList_store_one rfl _ _ _ rfl _ 10 rfl (.int .i64 0) rfl _ _ KB.out (by simp [sagaArr]) rfl size_int ?_; intro wS hw K; have KR := Lib.hid (hw.blk KR.out (by omega)); have KZ := Lib.hid (hw.blk KZ.out (by omega)); have HB := Lib.hid (hw.below HB.out (by omega)); clear KB; have KB := Lib.hid K; clear hw K))
  have KB9 := KB.out
  clear KB
  have KB := Lib.hid (show BlkAt _ w.heap.size (sagaArr (⟨id, name, count, pivot, begun, rat, si, phase, (next + 1), false, 0, so, su, fs, fc, sf⟩ : SagaV)) 29 from KB9)
  clear KB9
  obtain ⟨w4, hw4⟩ : ∃ q, q = wS := ⟨_, rfl⟩
  rw [← hw4] at KB KR KZ HB ⊢
  clear hw4
  have hown := (HS.out.through HB.out).held
  obtain ⟨vs, o1, o2, o3⟩ := hown.outs
  have O1 := Lib.hid o1
  have O2 := Lib.hid o2
  have O3 := Lib.hid o3
  have HOWN := Lib.hid hown
  have hs4 := HB.out.size
  have hs5 := blk_lt KZ.out
  clear o1 o2 o3 hown
  refine wp_region_held_drew (S := (fun W => BlkAt W (w.heap.size + 1) (recArr (⟨v, 3, saga, step, try_, rat, last, code, rcount, rpivot, rname, rd⟩ : RecV)) 31)) (by kernel_rfl) ((show BlkAt w4.drew (w.heap.size + 1) (recArr (⟨v, 3, saga, step, try_, rat, last, code, rcount, rpivot, rname, rd⟩ : RecV)) 31 from KR.out)) (fun hHeld => ?_)
  refine wpAnyH_take (i := 0) (oi := { dst := some 32, op := Op.fieldAddr 29 (Operand.tmp 2) 11, type := 0, pos := "annalsref10.go:165", after := #[], guard := none }) (v := ?_) rfl (by kernel_rfl) (by kernel_rfl) (by kernel_rfl) (fun _ _ _ h => h) (Or.inl ⟨by rfl, ?_⟩) (by assumption) ?_
  rotate_left 1
  focus (intro w hSw; (try clear hSw); go_simp; try (with_reducible rfl))
  try go_frame
  refine wpAnyH_take (i := 2) (oi := { dst := some 34, op := Op.fieldAddr 31 (Operand.tmp 3) 11, type := 0, pos := "annalsref10.go:165", after := #[], guard := none }) (v := ?_) rfl (by kernel_rfl) (by kernel_rfl) (by kernel_rfl) (fun _ _ _ h => h) (Or.inl ⟨by rfl, ?_⟩) (by assumption) ?_
  rotate_left 1
  focus (intro w hSw; (try clear hSw); go_simp; try (with_reducible rfl))
  try go_frame
  refine wpAnyH_take (i := 3) (oi := { dst := some 35, op := Op.load 26 (Operand.tmp 34), type := 26, pos := "annalsref10.go:165", after := #[{ on := 2, ground := Ground.data }], guard := none }) (v := .slice rd.a rd.n rd.c) rfl (by kernel_rfl) (by kernel_rfl) (by kernel_rfl) (fun _ _ _ h => h) (yl_cell rfl _ _ rfl _ rfl (.slice rd.a rd.n rd.c) (fun w' h => (h.cell 11).trans rfl) one_bytes) (by assumption) ?_
  try go_frame
  refine wpAnyH_ready (rs := [1, 4]) (by kernel_rfl) (by simp) ?_
  refine AllReadyH.cons (o := { dst := some 33, op := Op.load 27 (Operand.tmp 32), type := 27, pos := "annalsref10.go:165", after := #[{ on := 0, ground := Ground.data }], guard := none }) rfl (fun K hK => ?_) ?_
  · refine step_load_cell rfl _ _ rfl _ rfl (.slice so.a so.n so.c) (((show BlkAt w4.drew w.heap.size (sagaArr (⟨id, name, count, pivot, begun, rat, si, phase, (next + 1), false, 0, so, su, fs, fc, sf⟩ : SagaV)) 29 from KB.out).cell 11).trans rfl) one_lists ?_
    refine hK.out _ _ (hHeld) (fun hHeld => ?_)
    clear hK K
    try go_frame
    refine wpAnyH_ready (rs := [4]) (by kernel_rfl) (by simp) ?_
    refine AllReadyH.cons (o := { dst := some 36, op := Op.call { callee := Callee.value (Operand.func 21), args := #[Operand.tmp 35], argTypes := #[26] }, type := 26, pos := "annalsref10.go:165", after := #[{ on := 3, ground := Ground.data }], guard := none }) rfl (fun K hK => ?_) ?_
    · go_simp
      refine (refBytes_any rd data _ (HX.out.below HB.out.drew).data hdl).mono ?_
      rintro e w5 ⟨vv, rfl, ho5, hb5⟩
      obtain ⟨⟨qa, qn, qc⟩, rfl, -⟩ := ho5.at (by omega)
      have hs6 : w4.heap.size ≤ w5.heap.size := hb5.size
      have HO5 := Lib.hid (ho5.lower (base := B) (by show B ≤ w4.heap.size; omega))
      have KB5 := Lib.hid (BlkAt.below (show BlkAt w4.drew w.heap.size (sagaArr (⟨id, name, count, pivot, begun, rat, si, phase, (next + 1), false, 0, so, su, fs, fc, sf⟩ : SagaV)) 29 from KB.out) hb5 (blk_lt KB.out))
      have KZ5 := Lib.hid (BlkAt.below (show BlkAt w4.drew (w.heap.size + 2) zeroSagaArr 29 from KZ.out) hb5 (blk_lt KZ.out))
      have HB5 := Lib.hid (then_ HB.out.drew hb5)
      have HBX5 := Lib.hid (HBX.out.below HB5.out hbl)
      have P1 := Lib.hid (own_through (own_through O1.out (Below.refl w4.heap.size w4).drew) hb5)
      clear ho5
      dsimp only [Sl.v]
      try go_wp2_with fail
      refine hK.out _ _ (hHeld.below hb5 (blk_lt hHeld)) (fun hHeld => ?_)
      clear hK K
      try go_frame
      refine wpAnyH_ready (rs := [5]) (by kernel_rfl) (by simp) ?_
      refine AllReadyH.cons (o := { dst := some 37, op := Op.buildSlice 27 1 #[(0, Operand.tmp 36)], type := 27, pos := "annalsref10.go:165", after := #[{ on := 4, ground := Ground.data }], guard := none }) rfl (fun K hK => ?_) ?_
      · go_simp
        have KB5p := Lib.hid (KB5.out.push (.cells #[.slice qa qn qc] 26))
        have KZ5p := Lib.hid (KZ5.out.push (.cells #[.slice qa qn qc] 26))
        have HBX5p := Lib.hid (HBX5.out.push (.cells #[.slice qa qn qc] 26))
        refine hK.out _ _ (hHeld.push _) (fun hHeld => ?_)
        clear hK K
        try go_frame
        refine wpAnyH_ready (rs := [6]) (by kernel_rfl) (by simp) ?_
        refine AllReadyH.cons (o := { dst := some 38, op := Op.call { callee := Callee.builtin Builtin.append, args := #[Operand.tmp 33, Operand.tmp 37], argTypes := #[27, 27] }, type := 27, pos := "annalsref10.go:165", after := #[{ on := 1, ground := Ground.data }, { on := 5, ground := Ground.data }, { on := 4, ground := Ground.chain }], guard := none }) rfl (fun K hK => ?_) ?_
        · refine step_append_lies _ (by rfl) _ _ _ (by rfl) B 26 i0 _ 1 24 Tryz.underlying27 hi0 hz0 hz1 hz2 rfl (by omega) (.slice so.a so.n so.c) outs.length (vs.map Sl.v) (by rfl) (P1.out.alloc _) ⟨w5.heap.size, 0, none⟩ 1 1 [.slice qa qn qc] (by rfl) (by rfl) (World.news_of_block (cs := #[.slice qa qn qc]) (t := 26) (fr := (0, 0)) (heap_alloc_new w5 _)) (by simp [Value.oneCell']) (by omega) (by simp only [maxLen]; omega) (by omega) (by simp; omega) (w5.heap.size + 1) (by simp) ?_
          intro gg cap w6 hown6 hgrow hat hlt
          have KB6 := Lib.hid (blk_grown KB5p.out hgrow (Ne.symm (own_ne_blk (P1.out.alloc _) KB5p.out (by decide))))
          have KR6 := Lib.hid (blk_grown hHeld hgrow (Ne.symm (own_ne_blk (P1.out.alloc _) hHeld (by decide))))
          have KZ6 := Lib.hid (blk_grown KZ5p.out hgrow (Ne.symm (own_ne_blk (P1.out.alloc _) KZ5p.out (by decide))))
          have HBX6 := Lib.hid (blk_grown HBX5p.out hgrow (Ne.symm (own_ne_blk (P1.out.alloc _) HBX5p.out (by decide))))
          have HB6 := Lib.hid (((HB5.out.mono hB).alloc (by omega) _).grown hgrow (by simp; omega) (fun q hq => (P1.out.lt q hq).1))
          have HO6 := Lib.hid (grown_outs (q := ⟨qa, qn, qc⟩) (o := ⟨some ⟨gg, 0, none⟩, outs.length + 1, cap⟩) HOWN.out ((Below.refl w4.heap.size w4).drew.trans hb5) HO5.out O1.out O2.out O3.out hgrow hown6 ⟨gg, rfl, hat⟩)
          refine hK.out _ _ (KR6.out) (fun hHeld => ?_)
          clear hK K
          try go_frame
          refine wpAnyH_take (i := 7) (oi := { dst := some 39, op := Op.fieldAddr 29 (Operand.tmp 2) 11, type := 0, pos := "annalsref10.go:165", after := #[{ on := 0, ground := Ground.phase }, { on := 1, ground := Ground.phase }, { on := 2, ground := Ground.phase }, { on := 3, ground := Ground.phase }, { on := 4, ground := Ground.phase }, { on := 5, ground := Ground.phase }, { on := 6, ground := Ground.phase }], guard := none }) (v := ?_) rfl (by kernel_rfl) (by kernel_rfl) (by kernel_rfl) (fun _ _ _ h => h) (Or.inl ⟨by rfl, ?_⟩) (by assumption) ?_
          rotate_left 1
          focus (intro w hSw; (try clear hSw); go_simp; try (with_reducible rfl))
          try go_frame
          refine wpAnyH_ready (rs := [8]) (by kernel_rfl) (by simp) ?_
          refine AllReadyH.cons (o := { dst := none, op := Op.store 27 (Operand.tmp 39) (Operand.tmp 38), type := 0, pos := "annalsref10.go:165", after := #[{ on := 7, ground := Ground.data }, { on := 6, ground := Ground.data }, { on := 6, ground := Ground.chain }, { on := 0, ground := Ground.phase }, { on := 1, ground := Ground.phase }, { on := 2, ground := Ground.phase }, { on := 3, ground := Ground.phase }, { on := 4, ground := Ground.phase }, { on := 5, ground := Ground.phase }, { on := 6, ground := Ground.phase }], guard := none }) rfl (fun K hK => ?_) ?_
          · refine step_store_one rfl _ _ _ rfl _ 11 rfl (.slice (some ⟨gg, 0, none⟩) (outs.length + 1) cap) rfl _ _ KB6.out (by simp [sagaArr]) rfl size_lists ?_
            intro w7 hw7 K7
            have KB7 := Lib.hid (show BlkAt w7 w.heap.size (sagaArr (⟨id, name, count, pivot, begun, rat, si, phase, (next + 1), false, 0, ⟨some ⟨gg, 0, none⟩, outs.length + 1, cap⟩, su, fs, fc, sf⟩ : SagaV)) 29 from K7)
            have KZ7 := Lib.hid (hw7.blk KZ6.out (by omega))
            have HBX7 := Lib.hid (hw7.blk HBX6.out (by omega))
            have HB7 := Lib.hid (hw7.below HB6.out hB)
            have HO7 := Lib.hid (HO6.out.kept_row (hw7.rows KB6.out (by decide) (by decide)))
            clear K7
            refine hK.out _ _ (hw7.blk KR6.out (by omega)) (fun hHeld => ?_)
            clear hK K
            try go_frame
            refine wpAnyH_done (by kernel_rfl) ?_ _
            clear hHeld
            go_wp2_with (first
              | (refine wpList_load_blk rfl _ _ rfl _ rfl _ _ KB7.out (by exact rowSaga) ?_)
              | (refine wpList_store_blk rfl _ _ _ rfl _ rfl (sagaArr (⟨id, name, count, pivot, begun, rat, si, phase, (next + 1), false, 0, ⟨some ⟨gg, 0, none⟩, outs.length + 1, cap⟩, su, fs, fc, sf⟩ : SagaV)) rfl _ _ KZ7.out (by rfl) (by simp [sagaArr, Value.oneCell']) rowSaga ?_; intro w9 hw9 K9; have KE := Lib.hid K9; have HE := Lib.hid (hw9.below HB7.out (by omega)); have HF := Lib.hid (HO7.out.kept_row (hw9.rows KZ7.out (by decide) (by decide))); have HBX9 := Lib.hid (hw9.blk HBX7.out (by omega)); clear hw9 K9))
            exact bodyPost_ret (results_row rfl _ _ _ _ _ rfl KE.out rowSaga) rfl ⟨(⟨id, name, count, pivot, begun, rat, si, phase, (next + 1), false, 0, ⟨some ⟨gg, 0, none⟩, outs.length + 1, cap⟩, su, fs, fc, sf⟩ : SagaV), rfl, ⟨rfl, ⟨HF.out.input, HF.out.outs, HF.out.undos, HF.out.fail, HF.out.apart⟩⟩, HE.out, HBX9.out⟩
          exact AllReadyH.nil
        exact AllReadyH.nil
      exact AllReadyH.nil
    exact AllReadyH.nil
  refine AllReadyH.cons (o := { dst := some 36, op := Op.call { callee := Callee.value (Operand.func 21), args := #[Operand.tmp 35], argTypes := #[26] }, type := 26, pos := "annalsref10.go:165", after := #[{ on := 3, ground := Ground.data }], guard := none }) rfl (fun K hK => ?_) ?_
  · go_simp
    refine (refBytes_any rd data _ (HX.out.below HB.out.drew).data hdl).mono ?_
    rintro e w5 ⟨vv, rfl, ho5, hb5⟩
    obtain ⟨⟨qa, qn, qc⟩, rfl, -⟩ := ho5.at (by omega)
    have hs6 : w4.heap.size ≤ w5.heap.size := hb5.size
    have HO5 := Lib.hid (ho5.lower (base := B) (by show B ≤ w4.heap.size; omega))
    have KB5 := Lib.hid (BlkAt.below (show BlkAt w4.drew w.heap.size (sagaArr (⟨id, name, count, pivot, begun, rat, si, phase, (next + 1), false, 0, so, su, fs, fc, sf⟩ : SagaV)) 29 from KB.out) hb5 (blk_lt KB.out))
    have KZ5 := Lib.hid (BlkAt.below (show BlkAt w4.drew (w.heap.size + 2) zeroSagaArr 29 from KZ.out) hb5 (blk_lt KZ.out))
    have HB5 := Lib.hid (then_ HB.out.drew hb5)
    have HBX5 := Lib.hid (HBX.out.below HB5.out hbl)
    have P1 := Lib.hid (own_through (own_through O1.out (Below.refl w4.heap.size w4).drew) hb5)
    clear ho5
    dsimp only [Sl.v]
    try go_wp2_with fail
    refine hK.out _ _ (hHeld.below hb5 (blk_lt hHeld)) (fun hHeld => ?_)
    clear hK K
    try go_frame
    refine wpAnyH_ready (rs := [1, 5]) (by kernel_rfl) (by simp) ?_
    refine AllReadyH.cons (o := { dst := some 33, op := Op.load 27 (Operand.tmp 32), type := 27, pos := "annalsref10.go:165", after := #[{ on := 0, ground := Ground.data }], guard := none }) rfl (fun K hK => ?_) ?_
    · refine step_load_cell rfl _ _ rfl _ rfl (.slice so.a so.n so.c) (((show BlkAt w5 w.heap.size (sagaArr (⟨id, name, count, pivot, begun, rat, si, phase, (next + 1), false, 0, so, su, fs, fc, sf⟩ : SagaV)) 29 from KB5.out).cell 11).trans rfl) one_lists ?_
      refine hK.out _ _ (hHeld) (fun hHeld => ?_)
      clear hK K
      try go_frame
      refine wpAnyH_ready (rs := [5]) (by kernel_rfl) (by simp) ?_
      refine AllReadyH.cons (o := { dst := some 37, op := Op.buildSlice 27 1 #[(0, Operand.tmp 36)], type := 27, pos := "annalsref10.go:165", after := #[{ on := 4, ground := Ground.data }], guard := none }) rfl (fun K hK => ?_) ?_
      · go_simp
        have KB5p := Lib.hid (KB5.out.push (.cells #[.slice qa qn qc] 26))
        have KZ5p := Lib.hid (KZ5.out.push (.cells #[.slice qa qn qc] 26))
        have HBX5p := Lib.hid (HBX5.out.push (.cells #[.slice qa qn qc] 26))
        refine hK.out _ _ (hHeld.push _) (fun hHeld => ?_)
        clear hK K
        try go_frame
        refine wpAnyH_ready (rs := [6]) (by kernel_rfl) (by simp) ?_
        refine AllReadyH.cons (o := { dst := some 38, op := Op.call { callee := Callee.builtin Builtin.append, args := #[Operand.tmp 33, Operand.tmp 37], argTypes := #[27, 27] }, type := 27, pos := "annalsref10.go:165", after := #[{ on := 1, ground := Ground.data }, { on := 5, ground := Ground.data }, { on := 4, ground := Ground.chain }], guard := none }) rfl (fun K hK => ?_) ?_
        · refine step_append_lies _ (by rfl) _ _ _ (by rfl) B 26 i0 _ 1 24 Tryz.underlying27 hi0 hz0 hz1 hz2 rfl (by omega) (.slice so.a so.n so.c) outs.length (vs.map Sl.v) (by rfl) (P1.out.alloc _) ⟨w5.heap.size, 0, none⟩ 1 1 [.slice qa qn qc] (by rfl) (by rfl) (World.news_of_block (cs := #[.slice qa qn qc]) (t := 26) (fr := (0, 0)) (heap_alloc_new w5 _)) (by simp [Value.oneCell']) (by omega) (by simp only [maxLen]; omega) (by omega) (by simp; omega) (w5.heap.size + 1) (by simp) ?_
          intro gg cap w6 hown6 hgrow hat hlt
          have KB6 := Lib.hid (blk_grown KB5p.out hgrow (Ne.symm (own_ne_blk (P1.out.alloc _) KB5p.out (by decide))))
          have KR6 := Lib.hid (blk_grown hHeld hgrow (Ne.symm (own_ne_blk (P1.out.alloc _) hHeld (by decide))))
          have KZ6 := Lib.hid (blk_grown KZ5p.out hgrow (Ne.symm (own_ne_blk (P1.out.alloc _) KZ5p.out (by decide))))
          have HBX6 := Lib.hid (blk_grown HBX5p.out hgrow (Ne.symm (own_ne_blk (P1.out.alloc _) HBX5p.out (by decide))))
          have HB6 := Lib.hid (((HB5.out.mono hB).alloc (by omega) _).grown hgrow (by simp; omega) (fun q hq => (P1.out.lt q hq).1))
          have HO6 := Lib.hid (grown_outs (q := ⟨qa, qn, qc⟩) (o := ⟨some ⟨gg, 0, none⟩, outs.length + 1, cap⟩) HOWN.out ((Below.refl w4.heap.size w4).drew.trans hb5) HO5.out O1.out O2.out O3.out hgrow hown6 ⟨gg, rfl, hat⟩)
          refine hK.out _ _ (KR6.out) (fun hHeld => ?_)
          clear hK K
          try go_frame
          refine wpAnyH_take (i := 7) (oi := { dst := some 39, op := Op.fieldAddr 29 (Operand.tmp 2) 11, type := 0, pos := "annalsref10.go:165", after := #[{ on := 0, ground := Ground.phase }, { on := 1, ground := Ground.phase }, { on := 2, ground := Ground.phase }, { on := 3, ground := Ground.phase }, { on := 4, ground := Ground.phase }, { on := 5, ground := Ground.phase }, { on := 6, ground := Ground.phase }], guard := none }) (v := ?_) rfl (by kernel_rfl) (by kernel_rfl) (by kernel_rfl) (fun _ _ _ h => h) (Or.inl ⟨by rfl, ?_⟩) (by assumption) ?_
          rotate_left 1
          focus (intro w hSw; (try clear hSw); go_simp; try (with_reducible rfl))
          try go_frame
          refine wpAnyH_ready (rs := [8]) (by kernel_rfl) (by simp) ?_
          refine AllReadyH.cons (o := { dst := none, op := Op.store 27 (Operand.tmp 39) (Operand.tmp 38), type := 0, pos := "annalsref10.go:165", after := #[{ on := 7, ground := Ground.data }, { on := 6, ground := Ground.data }, { on := 6, ground := Ground.chain }, { on := 0, ground := Ground.phase }, { on := 1, ground := Ground.phase }, { on := 2, ground := Ground.phase }, { on := 3, ground := Ground.phase }, { on := 4, ground := Ground.phase }, { on := 5, ground := Ground.phase }, { on := 6, ground := Ground.phase }], guard := none }) rfl (fun K hK => ?_) ?_
          · refine step_store_one rfl _ _ _ rfl _ 11 rfl (.slice (some ⟨gg, 0, none⟩) (outs.length + 1) cap) rfl _ _ KB6.out (by simp [sagaArr]) rfl size_lists ?_
            intro w7 hw7 K7
            have KB7 := Lib.hid (show BlkAt w7 w.heap.size (sagaArr (⟨id, name, count, pivot, begun, rat, si, phase, (next + 1), false, 0, ⟨some ⟨gg, 0, none⟩, outs.length + 1, cap⟩, su, fs, fc, sf⟩ : SagaV)) 29 from K7)
            have KZ7 := Lib.hid (hw7.blk KZ6.out (by omega))
            have HBX7 := Lib.hid (hw7.blk HBX6.out (by omega))
            have HB7 := Lib.hid (hw7.below HB6.out hB)
            have HO7 := Lib.hid (HO6.out.kept_row (hw7.rows KB6.out (by decide) (by decide)))
            clear K7
            refine hK.out _ _ (hw7.blk KR6.out (by omega)) (fun hHeld => ?_)
            clear hK K
            try go_frame
            refine wpAnyH_done (by kernel_rfl) ?_ _
            clear hHeld
            go_wp2_with (first
              | (refine wpList_load_blk rfl _ _ rfl _ rfl _ _ KB7.out (by exact rowSaga) ?_)
              | (refine wpList_store_blk rfl _ _ _ rfl _ rfl (sagaArr (⟨id, name, count, pivot, begun, rat, si, phase, (next + 1), false, 0, ⟨some ⟨gg, 0, none⟩, outs.length + 1, cap⟩, su, fs, fc, sf⟩ : SagaV)) rfl _ _ KZ7.out (by rfl) (by simp [sagaArr, Value.oneCell']) rowSaga ?_; intro w9 hw9 K9; have KE := Lib.hid K9; have HE := Lib.hid (hw9.below HB7.out (by omega)); have HF := Lib.hid (HO7.out.kept_row (hw9.rows KZ7.out (by decide) (by decide))); have HBX9 := Lib.hid (hw9.blk HBX7.out (by omega)); clear hw9 K9))
            exact bodyPost_ret (results_row rfl _ _ _ _ _ rfl KE.out rowSaga) rfl ⟨(⟨id, name, count, pivot, begun, rat, si, phase, (next + 1), false, 0, ⟨some ⟨gg, 0, none⟩, outs.length + 1, cap⟩, su, fs, fc, sf⟩ : SagaV), rfl, ⟨rfl, ⟨HF.out.input, HF.out.outs, HF.out.undos, HF.out.fail, HF.out.apart⟩⟩, HE.out, HBX9.out⟩
          exact AllReadyH.nil
        exact AllReadyH.nil
      exact AllReadyH.nil
    refine AllReadyH.cons (o := { dst := some 37, op := Op.buildSlice 27 1 #[(0, Operand.tmp 36)], type := 27, pos := "annalsref10.go:165", after := #[{ on := 4, ground := Ground.data }], guard := none }) rfl (fun K hK => ?_) ?_
    · go_simp
      have KB5p := Lib.hid (KB5.out.push (.cells #[.slice qa qn qc] 26))
      have KZ5p := Lib.hid (KZ5.out.push (.cells #[.slice qa qn qc] 26))
      have HBX5p := Lib.hid (HBX5.out.push (.cells #[.slice qa qn qc] 26))
      refine hK.out _ _ (hHeld.push _) (fun hHeld => ?_)
      clear hK K
      try go_frame
      refine wpAnyH_ready (rs := [1]) (by kernel_rfl) (by simp) ?_
      refine AllReadyH.cons (o := { dst := some 33, op := Op.load 27 (Operand.tmp 32), type := 27, pos := "annalsref10.go:165", after := #[{ on := 0, ground := Ground.data }], guard := none }) rfl (fun K hK => ?_) ?_
      · refine step_load_cell rfl _ _ rfl _ rfl (.slice so.a so.n so.c) (((show BlkAt (w5.alloc (.cells #[.slice qa qn qc] 26)) w.heap.size (sagaArr (⟨id, name, count, pivot, begun, rat, si, phase, (next + 1), false, 0, so, su, fs, fc, sf⟩ : SagaV)) 29 from KB5p.out).cell 11).trans rfl) one_lists ?_
        refine hK.out _ _ (hHeld) (fun hHeld => ?_)
        clear hK K
        try go_frame
        refine wpAnyH_ready (rs := [6]) (by kernel_rfl) (by simp) ?_
        refine AllReadyH.cons (o := { dst := some 38, op := Op.call { callee := Callee.builtin Builtin.append, args := #[Operand.tmp 33, Operand.tmp 37], argTypes := #[27, 27] }, type := 27, pos := "annalsref10.go:165", after := #[{ on := 1, ground := Ground.data }, { on := 5, ground := Ground.data }, { on := 4, ground := Ground.chain }], guard := none }) rfl (fun K hK => ?_) ?_
        · refine step_append_lies _ (by rfl) _ _ _ (by rfl) B 26 i0 _ 1 24 Tryz.underlying27 hi0 hz0 hz1 hz2 rfl (by omega) (.slice so.a so.n so.c) outs.length (vs.map Sl.v) (by rfl) (P1.out.alloc _) ⟨w5.heap.size, 0, none⟩ 1 1 [.slice qa qn qc] (by rfl) (by rfl) (World.news_of_block (cs := #[.slice qa qn qc]) (t := 26) (fr := (0, 0)) (heap_alloc_new w5 _)) (by simp [Value.oneCell']) (by omega) (by simp only [maxLen]; omega) (by omega) (by simp; omega) (w5.heap.size + 1) (by simp) ?_
          intro gg cap w6 hown6 hgrow hat hlt
          have KB6 := Lib.hid (blk_grown KB5p.out hgrow (Ne.symm (own_ne_blk (P1.out.alloc _) KB5p.out (by decide))))
          have KR6 := Lib.hid (blk_grown hHeld hgrow (Ne.symm (own_ne_blk (P1.out.alloc _) hHeld (by decide))))
          have KZ6 := Lib.hid (blk_grown KZ5p.out hgrow (Ne.symm (own_ne_blk (P1.out.alloc _) KZ5p.out (by decide))))
          have HBX6 := Lib.hid (blk_grown HBX5p.out hgrow (Ne.symm (own_ne_blk (P1.out.alloc _) HBX5p.out (by decide))))
          have HB6 := Lib.hid (((HB5.out.mono hB).alloc (by omega) _).grown hgrow (by simp; omega) (fun q hq => (P1.out.lt q hq).1))
          have HO6 := Lib.hid (grown_outs (q := ⟨qa, qn, qc⟩) (o := ⟨some ⟨gg, 0, none⟩, outs.length + 1, cap⟩) HOWN.out ((Below.refl w4.heap.size w4).drew.trans hb5) HO5.out O1.out O2.out O3.out hgrow hown6 ⟨gg, rfl, hat⟩)
          refine hK.out _ _ (KR6.out) (fun hHeld => ?_)
          clear hK K
          try go_frame
          refine wpAnyH_take (i := 7) (oi := { dst := some 39, op := Op.fieldAddr 29 (Operand.tmp 2) 11, type := 0, pos := "annalsref10.go:165", after := #[{ on := 0, ground := Ground.phase }, { on := 1, ground := Ground.phase }, { on := 2, ground := Ground.phase }, { on := 3, ground := Ground.phase }, { on := 4, ground := Ground.phase }, { on := 5, ground := Ground.phase }, { on := 6, ground := Ground.phase }], guard := none }) (v := ?_) rfl (by kernel_rfl) (by kernel_rfl) (by kernel_rfl) (fun _ _ _ h => h) (Or.inl ⟨by rfl, ?_⟩) (by assumption) ?_
          rotate_left 1
          focus (intro w hSw; (try clear hSw); go_simp; try (with_reducible rfl))
          try go_frame
          refine wpAnyH_ready (rs := [8]) (by kernel_rfl) (by simp) ?_
          refine AllReadyH.cons (o := { dst := none, op := Op.store 27 (Operand.tmp 39) (Operand.tmp 38), type := 0, pos := "annalsref10.go:165", after := #[{ on := 7, ground := Ground.data }, { on := 6, ground := Ground.data }, { on := 6, ground := Ground.chain }, { on := 0, ground := Ground.phase }, { on := 1, ground := Ground.phase }, { on := 2, ground := Ground.phase }, { on := 3, ground := Ground.phase }, { on := 4, ground := Ground.phase }, { on := 5, ground := Ground.phase }, { on := 6, ground := Ground.phase }], guard := none }) rfl (fun K hK => ?_) ?_
          · refine step_store_one rfl _ _ _ rfl _ 11 rfl (.slice (some ⟨gg, 0, none⟩) (outs.length + 1) cap) rfl _ _ KB6.out (by simp [sagaArr]) rfl size_lists ?_
            intro w7 hw7 K7
            have KB7 := Lib.hid (show BlkAt w7 w.heap.size (sagaArr (⟨id, name, count, pivot, begun, rat, si, phase, (next + 1), false, 0, ⟨some ⟨gg, 0, none⟩, outs.length + 1, cap⟩, su, fs, fc, sf⟩ : SagaV)) 29 from K7)
            have KZ7 := Lib.hid (hw7.blk KZ6.out (by omega))
            have HBX7 := Lib.hid (hw7.blk HBX6.out (by omega))
            have HB7 := Lib.hid (hw7.below HB6.out hB)
            have HO7 := Lib.hid (HO6.out.kept_row (hw7.rows KB6.out (by decide) (by decide)))
            clear K7
            refine hK.out _ _ (hw7.blk KR6.out (by omega)) (fun hHeld => ?_)
            clear hK K
            try go_frame
            refine wpAnyH_done (by kernel_rfl) ?_ _
            clear hHeld
            go_wp2_with (first
              | (refine wpList_load_blk rfl _ _ rfl _ rfl _ _ KB7.out (by exact rowSaga) ?_)
              | (refine wpList_store_blk rfl _ _ _ rfl _ rfl (sagaArr (⟨id, name, count, pivot, begun, rat, si, phase, (next + 1), false, 0, ⟨some ⟨gg, 0, none⟩, outs.length + 1, cap⟩, su, fs, fc, sf⟩ : SagaV)) rfl _ _ KZ7.out (by rfl) (by simp [sagaArr, Value.oneCell']) rowSaga ?_; intro w9 hw9 K9; have KE := Lib.hid K9; have HE := Lib.hid (hw9.below HB7.out (by omega)); have HF := Lib.hid (HO7.out.kept_row (hw9.rows KZ7.out (by decide) (by decide))); have HBX9 := Lib.hid (hw9.blk HBX7.out (by omega)); clear hw9 K9))
            exact bodyPost_ret (results_row rfl _ _ _ _ _ rfl KE.out rowSaga) rfl ⟨(⟨id, name, count, pivot, begun, rat, si, phase, (next + 1), false, 0, ⟨some ⟨gg, 0, none⟩, outs.length + 1, cap⟩, su, fs, fc, sf⟩ : SagaV), rfl, ⟨rfl, ⟨HF.out.input, HF.out.outs, HF.out.undos, HF.out.fail, HF.out.apart⟩⟩, HE.out, HBX9.out⟩
          exact AllReadyH.nil
        exact AllReadyH.nil
      exact AllReadyH.nil
    exact AllReadyH.nil
  exact AllReadyH.nil

set_option maxRecDepth 10000000 in
set_option maxHeartbeats 2000000 in
theorem light_6 (s : SagaV) (D : SagaD) (x : RecV) (X : RecD) (B : Nat) (w : World) (hs : SagaOwn w B s D) (hB : B ≤ w.heap.size) (hx : RecRd w x X) (hk : X.kind = 6) (hdl : X.data.length ≤ 1073741824) (hn : 0 ≤ D.next ∧ D.next ≤ 1000) (hl : D.undos.length ≤ 1000) (g0 : Nat) (cs0 : Array Value) (hbx : BlkAt w g0 cs0 29) :
    Calls Tryz.prog 79 #[s.val, x.val] w fun e w' => ∃ s' : SagaV, e = .returned s'.val ∧ SagaOwn w' B s' (lightD D X) ∧ Below B w w' ∧ BlkAt w' g0 cs0 29 := by
  obtain ⟨si, so, su, sf, rfl⟩ : ∃ i o u f, s = D.words i o u f := ⟨_, _, _, _, hs.eq⟩
  obtain ⟨rd, rfl⟩ : ∃ rd, x = X.words rd := ⟨_, hx.eq⟩
  obtain ⟨id, name, count, pivot, begun, at_, input, phase, next, flight, tries, outs, undos, fs, fc, fail⟩ := D
  obtain ⟨v, kind, saga, step, try_, rat, last, code, rcount, rpivot, rname, data⟩ := X
  simp only at hk hdl hn hl
  have HBX := Lib.hid hbx
  have hbl := blk_lt hbx
  clear hbx
  have hwn : wrap64 (next - 1) = (next - 1) := by unfold wrap64; omega
  obtain ⟨i0, hi0, hz0, hz1, hz2⟩ := info_parts infoBytes
  subst hk
  have KB0 := ((BlkAt.new w (sagaArr (⟨id, name, count, pivot, begun, at_, si, phase, next, flight, tries, so, su, fs, fc, sf⟩ : SagaV)) 29).push (.cells (recArr (⟨v, 6, saga, step, try_, rat, last, code, rcount, rpivot, rname, rd⟩ : RecV)) 31)).push (.cells zeroSagaArr 29)
  have KR0 := (BlkAt.new (w.alloc (.cells (sagaArr (⟨id, name, count, pivot, begun, at_, si, phase, next, flight, tries, so, su, fs, fc, sf⟩ : SagaV)) 29)) (recArr (⟨v, 6, saga, step, try_, rat, last, code, rcount, rpivot, rname, rd⟩ : RecV)) 31).push (.cells zeroSagaArr 29)
  have KZ0 := BlkAt.new ((w.alloc (.cells (sagaArr (⟨id, name, count, pivot, begun, at_, si, phase, next, flight, tries, so, su, fs, fc, sf⟩ : SagaV)) 29)).alloc (.cells (recArr (⟨v, 6, saga, step, try_, rat, last, code, rcount, rpivot, rname, rd⟩ : RecV)) 31)) zeroSagaArr 29
  simp only [World.size_alloc] at KR0 KZ0
  have hb1 : Below w.heap.size w (((w.alloc (.cells (sagaArr (⟨id, name, count, pivot, begun, at_, si, phase, next, flight, tries, so, su, fs, fc, sf⟩ : SagaV)) 29)).alloc (.cells (recArr (⟨v, 6, saga, step, try_, rat, last, code, rcount, rpivot, rname, rd⟩ : RecV)) 31)).alloc (.cells zeroSagaArr 29)) := boxd (boxd (boxd (Below.refl _ _)))
  obtain ⟨w1, hw1⟩ : ∃ q, ((w.alloc (.cells (sagaArr (⟨id, name, count, pivot, begun, at_, si, phase, next, flight, tries, so, su, fs, fc, sf⟩ : SagaV)) 29)).alloc (.cells (recArr (⟨v, 6, saga, step, try_, rat, last, code, rcount, rpivot, rname, rd⟩ : RecV)) 31)).alloc (.cells zeroSagaArr 29) = q := ⟨_, rfl⟩
  rw [hw1] at KB0 KR0 KZ0 hb1
  have hs1 : w.heap.size + 3 ≤ w1.heap.size := by rw [← hw1]; simp
  have KB := Lib.hid KB0
  have KR := Lib.hid KR0
  have KZ := Lib.hid KZ0
  have HB := Lib.hid hb1
  have HS := Lib.hid hs
  have HX := Lib.hid hx
  clear KB0 KR0 KZ0 hb1 hs hx
  dsimp only [recArr, sagaArr, Sl.v, zeroSagaArr] at hw1
  have HW1 := Lib.hid hw1
  clear hw1
  dsimp only [SagaD.words, RecD.words, SagaV.val, RecV.val, Sl.v]
  go_enter Tryz.func79, Tryz.ntmps79
  go_upto_region 1 with fail
  rw [HW1.out]
  clear HW1
  go_upto_region 2 with (first
    | (refine wpList_load_field rfl _ _ rfl _ 5 rfl _ _ KR.out (.int .i64 rat) rfl one_int ?_)
    | (refine wpList_store_one rfl _ _ _ rfl _ 5 rfl (.int .i64 rat) rfl _ _ KB.out (by simp [sagaArr]) rfl size_int ?_; intro wS hw K; have KR := Lib.hid (hw.blk KR.out (by omega)); have KZ := Lib.hid (hw.blk KZ.out (by omega)); have HB := Lib.hid (hw.below HB.out (by omega)); clear KB; have KB := Lib.hid K; clear hw K))
  have KB9 := KB.out
  clear KB
  have KB := Lib.hid (show BlkAt _ w.heap.size (sagaArr (⟨id, name, count, pivot, begun, rat, si, phase, next, flight, tries, so, su, fs, fc, sf⟩ : SagaV)) 29 from KB9)
  clear KB9
  go_upto_region 3 with (first
    | (refine wpList_load_field rfl _ _ rfl _ 1 rfl _ _ KR.out (.int .i64 6) rfl one_int ?_)
    | (refine wpList_load_field_g (by rfl) _ _ rfl _ 1 rfl _ _ KR.out (.int .i64 6) rfl one_int ?_)
    | (refine wpList_store_one rfl _ _ _ rfl _ 9 rfl (.bool false) rfl _ _ KB.out (by simp [sagaArr]) rfl size_bool ?_; intro wS hw K; have KR := Lib.hid (hw.blk KR.out (by omega)); have KZ := Lib.hid (hw.blk KZ.out (by omega)); have HB := Lib.hid (hw.below HB.out (by omega)); clear KB; have KB := Lib.hid K; clear hw K))
  have KB9 := KB.out
  clear KB
  have KB := Lib.hid (show BlkAt _ w.heap.size (sagaArr (⟨id, name, count, pivot, begun, rat, si, phase, next, false, tries, so, su, fs, fc, sf⟩ : SagaV)) 29 from KB9)
  clear KB9
  go_upto_region 20 with (first
    | (refine wpList_load_field rfl _ _ rfl _ 1 rfl _ _ KR.out (.int .i64 6) rfl one_int ?_)
    | (refine wpList_load_field rfl _ _ rfl _ 8 rfl _ _ KB.out (.int .i64 next) rfl one_int ?_)
    | (refine wpList_store_one rfl _ _ _ rfl _ 8 rfl (.int .i64 (next - 1)) rfl _ _ KB.out (by simp [sagaArr]) rfl size_int ?_; intro wS hw K; have KR := Lib.hid (hw.blk KR.out (by omega)); have KZ := Lib.hid (hw.blk KZ.out (by omega)); have HB := Lib.hid (hw.below HB.out (by omega)); clear KB; have KB := Lib.hid K; clear hw K))
  have KB9 := KB.out
  clear KB
  have KB := Lib.hid (show BlkAt _ w.heap.size (sagaArr (⟨id, name, count, pivot, begun, rat, si, phase, (next - 1), false, tries, so, su, fs, fc, sf⟩ : SagaV)) 29 from KB9)
  clear KB9
  go_upto_region 21 with (first
    | (refine wpList_store_one rfl _ _ _ rfl _ 10 rfl (.int .i64 0) rfl _ _ KB.out (by simp [sagaArr]) rfl size_int ?_; intro wS hw K; have KR := Lib.hid (hw.blk KR.out (by omega)); have KZ := Lib.hid (hw.blk KZ.out (by omega)); have HB := Lib.hid (hw.below HB.out (by omega)); clear KB; have KB := Lib.hid K; clear hw K))
  have KB9 := KB.out
  clear KB
  have KB := Lib.hid (show BlkAt _ w.heap.size (sagaArr (⟨id, name, count, pivot, begun, rat, si, phase, (next - 1), false, 0, so, su, fs, fc, sf⟩ : SagaV)) 29 from KB9)
  clear KB9
  obtain ⟨w4, hw4⟩ : ∃ q, q = wS := ⟨_, rfl⟩
  rw [← hw4] at KB KR KZ HB ⊢
  clear hw4
  have hown := (HS.out.through HB.out).held
  obtain ⟨vs, o1, o2, o3⟩ := hown.undos
  have O1 := Lib.hid o1
  have O2 := Lib.hid o2
  have O3 := Lib.hid o3
  have HOWN := Lib.hid hown
  have hs4 := HB.out.size
  have hs5 := blk_lt KZ.out
  clear o1 o2 o3 hown
  refine wp_region_held_drew (S := (fun W => BlkAt W (w.heap.size + 1) (recArr (⟨v, 6, saga, step, try_, rat, last, code, rcount, rpivot, rname, rd⟩ : RecV)) 31)) (by kernel_rfl) ((show BlkAt w4.drew (w.heap.size + 1) (recArr (⟨v, 6, saga, step, try_, rat, last, code, rcount, rpivot, rname, rd⟩ : RecV)) 31 from KR.out)) (fun hHeld => ?_)
  refine wpAnyH_take (i := 0) (oi := { dst := some 64, op := Op.fieldAddr 29 (Operand.tmp 2) 12, type := 0, pos := "annalsref10.go:177", after := #[], guard := none }) (v := ?_) rfl (by kernel_rfl) (by kernel_rfl) (by kernel_rfl) (fun _ _ _ h => h) (Or.inl ⟨by rfl, ?_⟩) (by assumption) ?_
  rotate_left 1
  focus (intro w hSw; (try clear hSw); go_simp; try (with_reducible rfl))
  try go_frame
  refine wpAnyH_take (i := 2) (oi := { dst := some 66, op := Op.fieldAddr 31 (Operand.tmp 3) 11, type := 0, pos := "annalsref10.go:177", after := #[], guard := none }) (v := ?_) rfl (by kernel_rfl) (by kernel_rfl) (by kernel_rfl) (fun _ _ _ h => h) (Or.inl ⟨by rfl, ?_⟩) (by assumption) ?_
  rotate_left 1
  focus (intro w hSw; (try clear hSw); go_simp; try (with_reducible rfl))
  try go_frame
  refine wpAnyH_take (i := 3) (oi := { dst := some 67, op := Op.load 26 (Operand.tmp 66), type := 26, pos := "annalsref10.go:177", after := #[{ on := 2, ground := Ground.data }], guard := none }) (v := .slice rd.a rd.n rd.c) rfl (by kernel_rfl) (by kernel_rfl) (by kernel_rfl) (fun _ _ _ h => h) (yl_cell rfl _ _ rfl _ rfl (.slice rd.a rd.n rd.c) (fun w' h => (h.cell 11).trans rfl) one_bytes) (by assumption) ?_
  try go_frame
  refine wpAnyH_ready (rs := [1, 4]) (by kernel_rfl) (by simp) ?_
  refine AllReadyH.cons (o := { dst := some 65, op := Op.load 27 (Operand.tmp 64), type := 27, pos := "annalsref10.go:177", after := #[{ on := 0, ground := Ground.data }], guard := none }) rfl (fun K hK => ?_) ?_
  · refine step_load_cell rfl _ _ rfl _ rfl (.slice su.a su.n su.c) (((show BlkAt w4.drew w.heap.size (sagaArr (⟨id, name, count, pivot, begun, rat, si, phase, (next - 1), false, 0, so, su, fs, fc, sf⟩ : SagaV)) 29 from KB.out).cell 12).trans rfl) one_lists ?_
    refine hK.out _ _ (hHeld) (fun hHeld => ?_)
    clear hK K
    try go_frame
    refine wpAnyH_ready (rs := [4]) (by kernel_rfl) (by simp) ?_
    refine AllReadyH.cons (o := { dst := some 68, op := Op.call { callee := Callee.value (Operand.func 21), args := #[Operand.tmp 67], argTypes := #[26] }, type := 26, pos := "annalsref10.go:177", after := #[{ on := 3, ground := Ground.data }], guard := none }) rfl (fun K hK => ?_) ?_
    · go_simp
      refine (refBytes_any rd data _ (HX.out.below HB.out.drew).data hdl).mono ?_
      rintro e w5 ⟨vv, rfl, ho5, hb5⟩
      obtain ⟨⟨qa, qn, qc⟩, rfl, -⟩ := ho5.at (by omega)
      have hs6 : w4.heap.size ≤ w5.heap.size := hb5.size
      have HO5 := Lib.hid (ho5.lower (base := B) (by show B ≤ w4.heap.size; omega))
      have KB5 := Lib.hid (BlkAt.below (show BlkAt w4.drew w.heap.size (sagaArr (⟨id, name, count, pivot, begun, rat, si, phase, (next - 1), false, 0, so, su, fs, fc, sf⟩ : SagaV)) 29 from KB.out) hb5 (blk_lt KB.out))
      have KZ5 := Lib.hid (BlkAt.below (show BlkAt w4.drew (w.heap.size + 2) zeroSagaArr 29 from KZ.out) hb5 (blk_lt KZ.out))
      have HB5 := Lib.hid (then_ HB.out.drew hb5)
      have HBX5 := Lib.hid (HBX.out.below HB5.out hbl)
      have P1 := Lib.hid (own_through (own_through O1.out (Below.refl w4.heap.size w4).drew) hb5)
      clear ho5
      dsimp only [Sl.v]
      try go_wp2_with fail
      refine hK.out _ _ (hHeld.below hb5 (blk_lt hHeld)) (fun hHeld => ?_)
      clear hK K
      try go_frame
      refine wpAnyH_ready (rs := [5]) (by kernel_rfl) (by simp) ?_
      refine AllReadyH.cons (o := { dst := some 69, op := Op.buildSlice 27 1 #[(0, Operand.tmp 68)], type := 27, pos := "annalsref10.go:177", after := #[{ on := 4, ground := Ground.data }], guard := none }) rfl (fun K hK => ?_) ?_
      · go_simp
        have KB5p := Lib.hid (KB5.out.push (.cells #[.slice qa qn qc] 26))
        have KZ5p := Lib.hid (KZ5.out.push (.cells #[.slice qa qn qc] 26))
        have HBX5p := Lib.hid (HBX5.out.push (.cells #[.slice qa qn qc] 26))
        refine hK.out _ _ (hHeld.push _) (fun hHeld => ?_)
        clear hK K
        try go_frame
        refine wpAnyH_ready (rs := [6]) (by kernel_rfl) (by simp) ?_
        refine AllReadyH.cons (o := { dst := some 70, op := Op.call { callee := Callee.builtin Builtin.append, args := #[Operand.tmp 65, Operand.tmp 69], argTypes := #[27, 27] }, type := 27, pos := "annalsref10.go:177", after := #[{ on := 1, ground := Ground.data }, { on := 5, ground := Ground.data }, { on := 4, ground := Ground.chain }], guard := none }) rfl (fun K hK => ?_) ?_
        · refine step_append_lies _ (by rfl) _ _ _ (by rfl) B 26 i0 _ 1 24 Tryz.underlying27 hi0 hz0 hz1 hz2 rfl (by omega) (.slice su.a su.n su.c) undos.length (vs.map Sl.v) (by rfl) (P1.out.alloc _) ⟨w5.heap.size, 0, none⟩ 1 1 [.slice qa qn qc] (by rfl) (by rfl) (World.news_of_block (cs := #[.slice qa qn qc]) (t := 26) (fr := (0, 0)) (heap_alloc_new w5 _)) (by simp [Value.oneCell']) (by omega) (by simp only [maxLen]; omega) (by omega) (by simp; omega) (w5.heap.size + 1) (by simp) ?_
          intro gg cap w6 hown6 hgrow hat hlt
          have KB6 := Lib.hid (blk_grown KB5p.out hgrow (Ne.symm (own_ne_blk (P1.out.alloc _) KB5p.out (by decide))))
          have KR6 := Lib.hid (blk_grown hHeld hgrow (Ne.symm (own_ne_blk (P1.out.alloc _) hHeld (by decide))))
          have KZ6 := Lib.hid (blk_grown KZ5p.out hgrow (Ne.symm (own_ne_blk (P1.out.alloc _) KZ5p.out (by decide))))
          have HBX6 := Lib.hid (blk_grown HBX5p.out hgrow (Ne.symm (own_ne_blk (P1.out.alloc _) HBX5p.out (by decide))))
          have HB6 := Lib.hid (((HB5.out.mono hB).alloc (by omega) _).grown hgrow (by simp; omega) (fun q hq => (P1.out.lt q hq).1))
          have HO6 := Lib.hid (grown_undos (q := ⟨qa, qn, qc⟩) (o := ⟨some ⟨gg, 0, none⟩, undos.length + 1, cap⟩) HOWN.out ((Below.refl w4.heap.size w4).drew.trans hb5) HO5.out O1.out O2.out O3.out hgrow hown6 ⟨gg, rfl, hat⟩)
          refine hK.out _ _ (KR6.out) (fun hHeld => ?_)
          clear hK K
          try go_frame
          refine wpAnyH_take (i := 7) (oi := { dst := some 71, op := Op.fieldAddr 29 (Operand.tmp 2) 12, type := 0, pos := "annalsref10.go:177", after := #[{ on := 0, ground := Ground.phase }, { on := 1, ground := Ground.phase }, { on := 2, ground := Ground.phase }, { on := 3, ground := Ground.phase }, { on := 4, ground := Ground.phase }, { on := 5, ground := Ground.phase }, { on := 6, ground := Ground.phase }], guard := none }) (v := ?_) rfl (by kernel_rfl) (by kernel_rfl) (by kernel_rfl) (fun _ _ _ h => h) (Or.inl ⟨by rfl, ?_⟩) (by assumption) ?_
          rotate_left 1
          focus (intro w hSw; (try clear hSw); go_simp; try (with_reducible rfl))
          try go_frame
          refine wpAnyH_ready (rs := [8]) (by kernel_rfl) (by simp) ?_
          refine AllReadyH.cons (o := { dst := none, op := Op.store 27 (Operand.tmp 71) (Operand.tmp 70), type := 0, pos := "annalsref10.go:177", after := #[{ on := 7, ground := Ground.data }, { on := 6, ground := Ground.data }, { on := 6, ground := Ground.chain }, { on := 0, ground := Ground.phase }, { on := 1, ground := Ground.phase }, { on := 2, ground := Ground.phase }, { on := 3, ground := Ground.phase }, { on := 4, ground := Ground.phase }, { on := 5, ground := Ground.phase }, { on := 6, ground := Ground.phase }], guard := none }) rfl (fun K hK => ?_) ?_
          · refine step_store_one rfl _ _ _ rfl _ 12 rfl (.slice (some ⟨gg, 0, none⟩) (undos.length + 1) cap) rfl _ _ KB6.out (by simp [sagaArr]) rfl size_lists ?_
            intro w7 hw7 K7
            have KB7 := Lib.hid (show BlkAt w7 w.heap.size (sagaArr (⟨id, name, count, pivot, begun, rat, si, phase, (next - 1), false, 0, so, ⟨some ⟨gg, 0, none⟩, undos.length + 1, cap⟩, fs, fc, sf⟩ : SagaV)) 29 from K7)
            have KZ7 := Lib.hid (hw7.blk KZ6.out (by omega))
            have HBX7 := Lib.hid (hw7.blk HBX6.out (by omega))
            have HB7 := Lib.hid (hw7.below HB6.out hB)
            have HO7 := Lib.hid (HO6.out.kept_row (hw7.rows KB6.out (by decide) (by decide)))
            clear K7
            refine hK.out _ _ (hw7.blk KR6.out (by omega)) (fun hHeld => ?_)
            clear hK K
            try go_frame
            refine wpAnyH_done (by kernel_rfl) ?_ _
            clear hHeld
            go_wp2_with (first
              | (refine wpList_load_blk rfl _ _ rfl _ rfl _ _ KB7.out (by exact rowSaga) ?_)
              | (refine wpList_store_blk rfl _ _ _ rfl _ rfl (sagaArr (⟨id, name, count, pivot, begun, rat, si, phase, (next - 1), false, 0, so, ⟨some ⟨gg, 0, none⟩, undos.length + 1, cap⟩, fs, fc, sf⟩ : SagaV)) rfl _ _ KZ7.out (by rfl) (by simp [sagaArr, Value.oneCell']) rowSaga ?_; intro w9 hw9 K9; have KE := Lib.hid K9; have HE := Lib.hid (hw9.below HB7.out (by omega)); have HF := Lib.hid (HO7.out.kept_row (hw9.rows KZ7.out (by decide) (by decide))); have HBX9 := Lib.hid (hw9.blk HBX7.out (by omega)); clear hw9 K9))
            exact bodyPost_ret (results_row rfl _ _ _ _ _ rfl KE.out rowSaga) rfl ⟨(⟨id, name, count, pivot, begun, rat, si, phase, (next - 1), false, 0, so, ⟨some ⟨gg, 0, none⟩, undos.length + 1, cap⟩, fs, fc, sf⟩ : SagaV), rfl, ⟨rfl, ⟨HF.out.input, HF.out.outs, HF.out.undos, HF.out.fail, HF.out.apart⟩⟩, HE.out, HBX9.out⟩
          exact AllReadyH.nil
        exact AllReadyH.nil
      exact AllReadyH.nil
    exact AllReadyH.nil
  refine AllReadyH.cons (o := { dst := some 68, op := Op.call { callee := Callee.value (Operand.func 21), args := #[Operand.tmp 67], argTypes := #[26] }, type := 26, pos := "annalsref10.go:177", after := #[{ on := 3, ground := Ground.data }], guard := none }) rfl (fun K hK => ?_) ?_
  · go_simp
    refine (refBytes_any rd data _ (HX.out.below HB.out.drew).data hdl).mono ?_
    rintro e w5 ⟨vv, rfl, ho5, hb5⟩
    obtain ⟨⟨qa, qn, qc⟩, rfl, -⟩ := ho5.at (by omega)
    have hs6 : w4.heap.size ≤ w5.heap.size := hb5.size
    have HO5 := Lib.hid (ho5.lower (base := B) (by show B ≤ w4.heap.size; omega))
    have KB5 := Lib.hid (BlkAt.below (show BlkAt w4.drew w.heap.size (sagaArr (⟨id, name, count, pivot, begun, rat, si, phase, (next - 1), false, 0, so, su, fs, fc, sf⟩ : SagaV)) 29 from KB.out) hb5 (blk_lt KB.out))
    have KZ5 := Lib.hid (BlkAt.below (show BlkAt w4.drew (w.heap.size + 2) zeroSagaArr 29 from KZ.out) hb5 (blk_lt KZ.out))
    have HB5 := Lib.hid (then_ HB.out.drew hb5)
    have HBX5 := Lib.hid (HBX.out.below HB5.out hbl)
    have P1 := Lib.hid (own_through (own_through O1.out (Below.refl w4.heap.size w4).drew) hb5)
    clear ho5
    dsimp only [Sl.v]
    try go_wp2_with fail
    refine hK.out _ _ (hHeld.below hb5 (blk_lt hHeld)) (fun hHeld => ?_)
    clear hK K
    try go_frame
    refine wpAnyH_ready (rs := [1, 5]) (by kernel_rfl) (by simp) ?_
    refine AllReadyH.cons (o := { dst := some 65, op := Op.load 27 (Operand.tmp 64), type := 27, pos := "annalsref10.go:177", after := #[{ on := 0, ground := Ground.data }], guard := none }) rfl (fun K hK => ?_) ?_
    · refine step_load_cell rfl _ _ rfl _ rfl (.slice su.a su.n su.c) (((show BlkAt w5 w.heap.size (sagaArr (⟨id, name, count, pivot, begun, rat, si, phase, (next - 1), false, 0, so, su, fs, fc, sf⟩ : SagaV)) 29 from KB5.out).cell 12).trans rfl) one_lists ?_
      refine hK.out _ _ (hHeld) (fun hHeld => ?_)
      clear hK K
      try go_frame
      refine wpAnyH_ready (rs := [5]) (by kernel_rfl) (by simp) ?_
      refine AllReadyH.cons (o := { dst := some 69, op := Op.buildSlice 27 1 #[(0, Operand.tmp 68)], type := 27, pos := "annalsref10.go:177", after := #[{ on := 4, ground := Ground.data }], guard := none }) rfl (fun K hK => ?_) ?_
      · go_simp
        have KB5p := Lib.hid (KB5.out.push (.cells #[.slice qa qn qc] 26))
        have KZ5p := Lib.hid (KZ5.out.push (.cells #[.slice qa qn qc] 26))
        have HBX5p := Lib.hid (HBX5.out.push (.cells #[.slice qa qn qc] 26))
        refine hK.out _ _ (hHeld.push _) (fun hHeld => ?_)
        clear hK K
        try go_frame
        refine wpAnyH_ready (rs := [6]) (by kernel_rfl) (by simp) ?_
        refine AllReadyH.cons (o := { dst := some 70, op := Op.call { callee := Callee.builtin Builtin.append, args := #[Operand.tmp 65, Operand.tmp 69], argTypes := #[27, 27] }, type := 27, pos := "annalsref10.go:177", after := #[{ on := 1, ground := Ground.data }, { on := 5, ground := Ground.data }, { on := 4, ground := Ground.chain }], guard := none }) rfl (fun K hK => ?_) ?_
        · refine step_append_lies _ (by rfl) _ _ _ (by rfl) B 26 i0 _ 1 24 Tryz.underlying27 hi0 hz0 hz1 hz2 rfl (by omega) (.slice su.a su.n su.c) undos.length (vs.map Sl.v) (by rfl) (P1.out.alloc _) ⟨w5.heap.size, 0, none⟩ 1 1 [.slice qa qn qc] (by rfl) (by rfl) (World.news_of_block (cs := #[.slice qa qn qc]) (t := 26) (fr := (0, 0)) (heap_alloc_new w5 _)) (by simp [Value.oneCell']) (by omega) (by simp only [maxLen]; omega) (by omega) (by simp; omega) (w5.heap.size + 1) (by simp) ?_
          intro gg cap w6 hown6 hgrow hat hlt
          have KB6 := Lib.hid (blk_grown KB5p.out hgrow (Ne.symm (own_ne_blk (P1.out.alloc _) KB5p.out (by decide))))
          have KR6 := Lib.hid (blk_grown hHeld hgrow (Ne.symm (own_ne_blk (P1.out.alloc _) hHeld (by decide))))
          have KZ6 := Lib.hid (blk_grown KZ5p.out hgrow (Ne.symm (own_ne_blk (P1.out.alloc _) KZ5p.out (by decide))))
          have HBX6 := Lib.hid (blk_grown HBX5p.out hgrow (Ne.symm (own_ne_blk (P1.out.alloc _) HBX5p.out (by decide))))
          have HB6 := Lib.hid (((HB5.out.mono hB).alloc (by omega) _).grown hgrow (by simp; omega) (fun q hq => (P1.out.lt q hq).1))
          have HO6 := Lib.hid (grown_undos (q := ⟨qa, qn, qc⟩) (o := ⟨some ⟨gg, 0, none⟩, undos.length + 1, cap⟩) HOWN.out ((Below.refl w4.heap.size w4).drew.trans hb5) HO5.out O1.out O2.out O3.out hgrow hown6 ⟨gg, rfl, hat⟩)
          refine hK.out _ _ (KR6.out) (fun hHeld => ?_)
          clear hK K
          try go_frame
          refine wpAnyH_take (i := 7) (oi := { dst := some 71, op := Op.fieldAddr 29 (Operand.tmp 2) 12, type := 0, pos := "annalsref10.go:177", after := #[{ on := 0, ground := Ground.phase }, { on := 1, ground := Ground.phase }, { on := 2, ground := Ground.phase }, { on := 3, ground := Ground.phase }, { on := 4, ground := Ground.phase }, { on := 5, ground := Ground.phase }, { on := 6, ground := Ground.phase }], guard := none }) (v := ?_) rfl (by kernel_rfl) (by kernel_rfl) (by kernel_rfl) (fun _ _ _ h => h) (Or.inl ⟨by rfl, ?_⟩) (by assumption) ?_
          rotate_left 1
          focus (intro w hSw; (try clear hSw); go_simp; try (with_reducible rfl))
          try go_frame
          refine wpAnyH_ready (rs := [8]) (by kernel_rfl) (by simp) ?_
          refine AllReadyH.cons (o := { dst := none, op := Op.store 27 (Operand.tmp 71) (Operand.tmp 70), type := 0, pos := "annalsref10.go:177", after := #[{ on := 7, ground := Ground.data }, { on := 6, ground := Ground.data }, { on := 6, ground := Ground.chain }, { on := 0, ground := Ground.phase }, { on := 1, ground := Ground.phase }, { on := 2, ground := Ground.phase }, { on := 3, ground := Ground.phase }, { on := 4, ground := Ground.phase }, { on := 5, ground := Ground.phase }, { on := 6, ground := Ground.phase }], guard := none }) rfl (fun K hK => ?_) ?_
          · refine step_store_one rfl _ _ _ rfl _ 12 rfl (.slice (some ⟨gg, 0, none⟩) (undos.length + 1) cap) rfl _ _ KB6.out (by simp [sagaArr]) rfl size_lists ?_
            intro w7 hw7 K7
            have KB7 := Lib.hid (show BlkAt w7 w.heap.size (sagaArr (⟨id, name, count, pivot, begun, rat, si, phase, (next - 1), false, 0, so, ⟨some ⟨gg, 0, none⟩, undos.length + 1, cap⟩, fs, fc, sf⟩ : SagaV)) 29 from K7)
            have KZ7 := Lib.hid (hw7.blk KZ6.out (by omega))
            have HBX7 := Lib.hid (hw7.blk HBX6.out (by omega))
            have HB7 := Lib.hid (hw7.below HB6.out hB)
            have HO7 := Lib.hid (HO6.out.kept_row (hw7.rows KB6.out (by decide) (by decide)))
            clear K7
            refine hK.out _ _ (hw7.blk KR6.out (by omega)) (fun hHeld => ?_)
            clear hK K
            try go_frame
            refine wpAnyH_done (by kernel_rfl) ?_ _
            clear hHeld
            go_wp2_with (first
              | (refine wpList_load_blk rfl _ _ rfl _ rfl _ _ KB7.out (by exact rowSaga) ?_)
              | (refine wpList_store_blk rfl _ _ _ rfl _ rfl (sagaArr (⟨id, name, count, pivot, begun, rat, si, phase, (next - 1), false, 0, so, ⟨some ⟨gg, 0, none⟩, undos.length + 1, cap⟩, fs, fc, sf⟩ : SagaV)) rfl _ _ KZ7.out (by rfl) (by simp [sagaArr, Value.oneCell']) rowSaga ?_; intro w9 hw9 K9; have KE := Lib.hid K9; have HE := Lib.hid (hw9.below HB7.out (by omega)); have HF := Lib.hid (HO7.out.kept_row (hw9.rows KZ7.out (by decide) (by decide))); have HBX9 := Lib.hid (hw9.blk HBX7.out (by omega)); clear hw9 K9))
            exact bodyPost_ret (results_row rfl _ _ _ _ _ rfl KE.out rowSaga) rfl ⟨(⟨id, name, count, pivot, begun, rat, si, phase, (next - 1), false, 0, so, ⟨some ⟨gg, 0, none⟩, undos.length + 1, cap⟩, fs, fc, sf⟩ : SagaV), rfl, ⟨rfl, ⟨HF.out.input, HF.out.outs, HF.out.undos, HF.out.fail, HF.out.apart⟩⟩, HE.out, HBX9.out⟩
          exact AllReadyH.nil
        exact AllReadyH.nil
      exact AllReadyH.nil
    refine AllReadyH.cons (o := { dst := some 69, op := Op.buildSlice 27 1 #[(0, Operand.tmp 68)], type := 27, pos := "annalsref10.go:177", after := #[{ on := 4, ground := Ground.data }], guard := none }) rfl (fun K hK => ?_) ?_
    · go_simp
      have KB5p := Lib.hid (KB5.out.push (.cells #[.slice qa qn qc] 26))
      have KZ5p := Lib.hid (KZ5.out.push (.cells #[.slice qa qn qc] 26))
      have HBX5p := Lib.hid (HBX5.out.push (.cells #[.slice qa qn qc] 26))
      refine hK.out _ _ (hHeld.push _) (fun hHeld => ?_)
      clear hK K
      try go_frame
      refine wpAnyH_ready (rs := [1]) (by kernel_rfl) (by simp) ?_
      refine AllReadyH.cons (o := { dst := some 65, op := Op.load 27 (Operand.tmp 64), type := 27, pos := "annalsref10.go:177", after := #[{ on := 0, ground := Ground.data }], guard := none }) rfl (fun K hK => ?_) ?_
      · refine step_load_cell rfl _ _ rfl _ rfl (.slice su.a su.n su.c) (((show BlkAt (w5.alloc (.cells #[.slice qa qn qc] 26)) w.heap.size (sagaArr (⟨id, name, count, pivot, begun, rat, si, phase, (next - 1), false, 0, so, su, fs, fc, sf⟩ : SagaV)) 29 from KB5p.out).cell 12).trans rfl) one_lists ?_
        refine hK.out _ _ (hHeld) (fun hHeld => ?_)
        clear hK K
        try go_frame
        refine wpAnyH_ready (rs := [6]) (by kernel_rfl) (by simp) ?_
        refine AllReadyH.cons (o := { dst := some 70, op := Op.call { callee := Callee.builtin Builtin.append, args := #[Operand.tmp 65, Operand.tmp 69], argTypes := #[27, 27] }, type := 27, pos := "annalsref10.go:177", after := #[{ on := 1, ground := Ground.data }, { on := 5, ground := Ground.data }, { on := 4, ground := Ground.chain }], guard := none }) rfl (fun K hK => ?_) ?_
        · refine step_append_lies _ (by rfl) _ _ _ (by rfl) B 26 i0 _ 1 24 Tryz.underlying27 hi0 hz0 hz1 hz2 rfl (by omega) (.slice su.a su.n su.c) undos.length (vs.map Sl.v) (by rfl) (P1.out.alloc _) ⟨w5.heap.size, 0, none⟩ 1 1 [.slice qa qn qc] (by rfl) (by rfl) (World.news_of_block (cs := #[.slice qa qn qc]) (t := 26) (fr := (0, 0)) (heap_alloc_new w5 _)) (by simp [Value.oneCell']) (by omega) (by simp only [maxLen]; omega) (by omega) (by simp; omega) (w5.heap.size + 1) (by simp) ?_
          intro gg cap w6 hown6 hgrow hat hlt
          have KB6 := Lib.hid (blk_grown KB5p.out hgrow (Ne.symm (own_ne_blk (P1.out.alloc _) KB5p.out (by decide))))
          have KR6 := Lib.hid (blk_grown hHeld hgrow (Ne.symm (own_ne_blk (P1.out.alloc _) hHeld (by decide))))
          have KZ6 := Lib.hid (blk_grown KZ5p.out hgrow (Ne.symm (own_ne_blk (P1.out.alloc _) KZ5p.out (by decide))))
          have HBX6 := Lib.hid (blk_grown HBX5p.out hgrow (Ne.symm (own_ne_blk (P1.out.alloc _) HBX5p.out (by decide))))
          have HB6 := Lib.hid (((HB5.out.mono hB).alloc (by omega) _).grown hgrow (by simp; omega) (fun q hq => (P1.out.lt q hq).1))
          have HO6 := Lib.hid (grown_undos (q := ⟨qa, qn, qc⟩) (o := ⟨some ⟨gg, 0, none⟩, undos.length + 1, cap⟩) HOWN.out ((Below.refl w4.heap.size w4).drew.trans hb5) HO5.out O1.out O2.out O3.out hgrow hown6 ⟨gg, rfl, hat⟩)
          refine hK.out _ _ (KR6.out) (fun hHeld => ?_)
          clear hK K
          try go_frame
          refine wpAnyH_take (i := 7) (oi := { dst := some 71, op := Op.fieldAddr 29 (Operand.tmp 2) 12, type := 0, pos := "annalsref10.go:177", after := #[{ on := 0, ground := Ground.phase }, { on := 1, ground := Ground.phase }, { on := 2, ground := Ground.phase }, { on := 3, ground := Ground.phase }, { on := 4, ground := Ground.phase }, { on := 5, ground := Ground.phase }, { on := 6, ground := Ground.phase }], guard := none }) (v := ?_) rfl (by kernel_rfl) (by kernel_rfl) (by kernel_rfl) (fun _ _ _ h => h) (Or.inl ⟨by rfl, ?_⟩) (by assumption) ?_
          rotate_left 1
          focus (intro w hSw; (try clear hSw); go_simp; try (with_reducible rfl))
          try go_frame
          refine wpAnyH_ready (rs := [8]) (by kernel_rfl) (by simp) ?_
          refine AllReadyH.cons (o := { dst := none, op := Op.store 27 (Operand.tmp 71) (Operand.tmp 70), type := 0, pos := "annalsref10.go:177", after := #[{ on := 7, ground := Ground.data }, { on := 6, ground := Ground.data }, { on := 6, ground := Ground.chain }, { on := 0, ground := Ground.phase }, { on := 1, ground := Ground.phase }, { on := 2, ground := Ground.phase }, { on := 3, ground := Ground.phase }, { on := 4, ground := Ground.phase }, { on := 5, ground := Ground.phase }, { on := 6, ground := Ground.phase }], guard := none }) rfl (fun K hK => ?_) ?_
          · refine step_store_one rfl _ _ _ rfl _ 12 rfl (.slice (some ⟨gg, 0, none⟩) (undos.length + 1) cap) rfl _ _ KB6.out (by simp [sagaArr]) rfl size_lists ?_
            intro w7 hw7 K7
            have KB7 := Lib.hid (show BlkAt w7 w.heap.size (sagaArr (⟨id, name, count, pivot, begun, rat, si, phase, (next - 1), false, 0, so, ⟨some ⟨gg, 0, none⟩, undos.length + 1, cap⟩, fs, fc, sf⟩ : SagaV)) 29 from K7)
            have KZ7 := Lib.hid (hw7.blk KZ6.out (by omega))
            have HBX7 := Lib.hid (hw7.blk HBX6.out (by omega))
            have HB7 := Lib.hid (hw7.below HB6.out hB)
            have HO7 := Lib.hid (HO6.out.kept_row (hw7.rows KB6.out (by decide) (by decide)))
            clear K7
            refine hK.out _ _ (hw7.blk KR6.out (by omega)) (fun hHeld => ?_)
            clear hK K
            try go_frame
            refine wpAnyH_done (by kernel_rfl) ?_ _
            clear hHeld
            go_wp2_with (first
              | (refine wpList_load_blk rfl _ _ rfl _ rfl _ _ KB7.out (by exact rowSaga) ?_)
              | (refine wpList_store_blk rfl _ _ _ rfl _ rfl (sagaArr (⟨id, name, count, pivot, begun, rat, si, phase, (next - 1), false, 0, so, ⟨some ⟨gg, 0, none⟩, undos.length + 1, cap⟩, fs, fc, sf⟩ : SagaV)) rfl _ _ KZ7.out (by rfl) (by simp [sagaArr, Value.oneCell']) rowSaga ?_; intro w9 hw9 K9; have KE := Lib.hid K9; have HE := Lib.hid (hw9.below HB7.out (by omega)); have HF := Lib.hid (HO7.out.kept_row (hw9.rows KZ7.out (by decide) (by decide))); have HBX9 := Lib.hid (hw9.blk HBX7.out (by omega)); clear hw9 K9))
            exact bodyPost_ret (results_row rfl _ _ _ _ _ rfl KE.out rowSaga) rfl ⟨(⟨id, name, count, pivot, begun, rat, si, phase, (next - 1), false, 0, so, ⟨some ⟨gg, 0, none⟩, undos.length + 1, cap⟩, fs, fc, sf⟩ : SagaV), rfl, ⟨rfl, ⟨HF.out.input, HF.out.outs, HF.out.undos, HF.out.fail, HF.out.apart⟩⟩, HE.out, HBX9.out⟩
          exact AllReadyH.nil
        exact AllReadyH.nil
      exact AllReadyH.nil
    exact AllReadyH.nil
  exact AllReadyH.nil
end Go.Proofs.YteaiadpigpehaaaGreatDoor
