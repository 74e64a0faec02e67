/-
  saga.Story walked: the records that it hands out. Conditions: the tables that saga.Check reads, as laid. (Printed by wip/gen_story.py.)
-/
import Derived.Test.YtfbaliimjmimhaaDoorReg2
import Derived.Test.YtfbaliimjmimhaaDoorTell
import Derived.Test.YtfbaliimjmimhaaDoorStoryLaw
import Derived.Deep.DeepCutAuto
import Derived.Deep.CutBlock
import Derived.Maps.RangeWalk
namespace Go.Proofs.YtfbaliimjmimhaaDoor
open Go.RowKit

theorem blk_ne' {w : World} {b g : Nat} {cs ds : Array Value} {t u : TypeId} (h : BlkAt w g cs t) (k : BlkAt w b ds u) (hne : t ≠ u) : g ≠ b := by
  intro e
  subst e
  have := (show w.heap[g]? = _ from h).symm.trans k
  simp at this
  exact hne this.2
def toldD (D : SagaD) (R : RecD) : RecD := { R with v := 3, saga := D.id, at_ := D.at_ }
/-- How a story that is being told stands. -/
structure TellSt (w0 w : World) (b g : Nat) (s : SagaV) (D : SagaD) (v : Sl) (Rs : List RecD) : Prop where
  own : TellOwn w g g s v Rs
  box : BlkAt w b (sagaArr s) 40
  low : w0.heap.size ≤ b ∧ b < g
  below : Below w0.heap.size w0 w
  id : s.id = D.id
  at_ : s.at_ = D.at_
theorem TellSt.bl {w0 w : World} {b g : Nat} {s : SagaV} {D : SagaD} {v : Sl} {Rs : List RecD} (h : TellSt w0 w b g s D v Rs) {w' : World} (hb : Below w.heap.size w w') : TellSt w0 w' b g s D v Rs :=
  ⟨h.own.through hb, h.box.below hb (blk_lt h.box), h.low, then_ h.below hb, h.id, h.at_⟩
theorem add_st {w0 w : World} {b g : Nat} {s : SagaV} {D : SagaD} {v : Sl} {Rs : List RecD} (h : TellSt w0 w b g s D v Rs) (r : RecV) (R : RecD) (hr : RecRd w0 r R) (hd : R.data.length ≤ 16384) (hlen : Rs.length ≤ 5000) :
    Calls Tryd.prog 33 #[.pointer (some ⟨g, 0, none⟩), r.val] w fun e w' => ∃ v', e = .returned (.tuple #[]) ∧ TellSt w0 w' b g s D v' (Rs ++ [toldD D R]) := by
  refine (add_any g g s v Rs r R w h.own (hr.below h.below) hd hlen).mono ?_
  rintro e w' ⟨v', rfl, ho, hb⟩
  have e : toldR s R = toldD D R := by unfold toldR toldD; rw [h.id, h.at_]
  rw [e] at ho
  exact ⟨v', rfl, ho, h.box.below hb h.low.2, h.low, h.below.trans (hb.mono (by have := h.low; omega)), h.id, h.at_⟩
theorem turn_at {w0 wA w7 : World} {b g gg cap : Nat} {cur : Array Value} {s : SagaV} {D : SagaD} {v1 : Sl} (h : TellSt w0 wA b g s D v1 ([] ++ [toldD D ⟨0, 1, 0, 0, 0, 0, 0, 0, D.count, D.pivot, D.name, D.input⟩])) (hone : OneRec wA g v1.v (toldD D ⟨0, 1, 0, 0, 0, 0, 0, 0, D.count, D.pivot, D.name, D.input⟩) gg cap cur)
    (hw : Wrote wA.drew w7 gg) (hk : BlkAt w7 gg (cur.setIfInBounds 5 (.int .i64 s.begun)) 44) (hb : s.begun = D.begun) : TellSt w0 w7 b g s D v1 [beginR D] := by
  have hw' : Wrote wA w7 gg := ⟨hw.os, hw.tape, hw.output, hw.size, hw.other⟩
  have n1 := blk_ne' h.own.blk hone.blk (by decide)
  have n2 := blk_ne' h.box hone.blk (by decide)
  have hr := hone.turned w7 s.begun hw' hk
  rw [hb] at hr
  exact ⟨⟨hw'.blk h.own.blk n1, hr, h.own.le⟩, hw'.blk h.box n2, h.low, hw'.below h.below (by have := h.low; have := hone.ge; omega), h.id, h.at_⟩
theorem outsL_len (D : SagaD) (n : Nat) : (outsL D n).length = 2 * n := by
  induction n with
  | zero => rfl
  | succ n ih => rw [outsL_succ, List.length_append, ih]; simp; omega
theorem undosL_len (D : SagaD) (n : Nat) : (undosL D n).length = 2 * n := by
  induction n with
  | zero => rfl
  | succ n ih => rw [undosL_succ, List.length_append, ih]; simp; omega
theorem triesL_len (D : SagaD) (k st : Int) (n : Nat) : (triesL D k st n).length ≤ 2 * n := by
  induction n with
  | zero => simp [triesL]
  | succ n ih => rw [triesL_succ, List.length_append]; split <;> simp <;> omega
theorem GoodD.outs32 {D : SagaD} (h : GoodD D) : D.outs.length ≤ 32 := by
  have hp := h.plain.count32
  by_cases k : D.phase = 1 ∨ D.phase = 3
  · have := (h.fw k).next; have := (h.fw k).outs; omega
  · have := (h.bk k).failStep; have := (h.bk k).count; omega
theorem GoodD.undos32 {D : SagaD} (h : GoodD D) : D.undos.length ≤ 32 := by
  have hp := h.plain.count32
  by_cases k : D.phase = 1 ∨ D.phase = 3
  · rw [(h.fw k).undos]; simp
  · have := (h.bk k).undos; have := (h.bk k).count; have := (h.bk k).next0; have := (h.bk k).next; omega
theorem midL_len {D : SagaD} (h : D.undos.length ≤ 32) : (midL D).length ≤ 66 := by
  unfold midL
  split
  · rw [List.length_append, undosL_len]; simp; omega
  · simp
theorem RecRd.nil (w : World) (R : RecD) (h : R.data = []) : RecRd w (R.words nilSl) R := ⟨rfl, by rw [h]; exact RowAt.nil _ _ _ (fun _ => rfl)⟩
theorem one_any {P : Program} {ty : TypeId} (h : OneTy P ty) : OneTy P ty := h
/-- What the story's way reads of the saga. -/
structure TellIn (w : World) (s : SagaV) (D : SagaD) : Prop where
  rd : SagaRd w s D
  good : GoodD D

/-- What a story's way needs of the saga that it tells. -/
structure TellCtx (w : World) (s : SagaV) (D : SagaD) (oa : Option Addr) (on oc : Nat) (ua : Option Addr) (un uc : Nat) (vs us : List Sl) (ph trs nx fst : Int) (flg : Bool) : Prop where
  h11 : (sagaArr s)[11]? = some (.slice oa on oc)
  h12 : (sagaArr s)[12]? = some (.slice ua un uc)
  h7 : (sagaArr s)[7]? = some (.int .i64 ph)
  h8 : (sagaArr s)[8]? = some (.int .i64 nx)
  h9 : (sagaArr s)[9]? = some (.bool flg)
  h10 : (sagaArr s)[10]? = some (.int .i64 trs)
  h13 : (sagaArr s)[13]? = some (.int .i64 fst)
  qph : D.phase = ph
  qnx : D.next = nx
  qflg : D.flight = flg
  qtrs : D.tries = trs
  qfst : D.failStep = fst
  good : GoodD D
  rd : SagaRd w s D
  qon : on = D.outs.length
  qun : un = D.undos.length
  ro : 0 < on → ∃ b o, oa = some ⟨b, o, none⟩ ∧ ∀ i, i < on → w.cell? ⟨b, o + i, none⟩ = (vs.map Sl.v)[i]?
  ru : 0 < un → ∃ b o, ua = some ⟨b, o, none⟩ ∧ ∀ i, i < un → w.cell? ⟨b, o + i, none⟩ = (us.map Sl.v)[i]?
  rol : vs.length = D.outs.length
  rul : us.length = D.undos.length
  rob : ∀ i (h1 : i < vs.length) (h2 : i < D.outs.length), BytesAt w vs[i] D.outs[i]
  rub : ∀ i (h1 : i < us.length) (h2 : i < D.undos.length), BytesAt w us[i] D.undos[i]
  rb : RecRd w ⟨0, 1, 0, 0, 0, 0, 0, 0, s.count, s.pivot, s.name, s.input⟩ ⟨0, 1, 0, 0, 0, 0, 0, 0, D.count, D.pivot, D.name, D.input⟩
  rf : RecRd w ⟨0, 4, 0, fst, 0, 0, 1, s.failCode, 0, 0, ⟨#[]⟩, s.fail⟩ ⟨0, 4, 0, D.failStep, 0, 0, 1, D.failCode, 0, 0, ⟨#[]⟩, D.fail⟩
  id : s.id = D.id
  at_ : s.at_ = D.at_
  begun : s.begun = D.begun
theorem tell_ctx {w : World} {s : SagaV} {D : SagaD} (hs : SagaRd w s D) (hg : GoodD D) : ∃ oa on oc ua un uc vs us ph trs nx fst flg, TellCtx w s D oa on oc ua un uc vs us ph trs nx fst flg := by
  obtain ⟨oa, hoa⟩ : ∃ q, s.outs = q := ⟨_, rfl⟩
  obtain ⟨ua, hua⟩ : ∃ q, s.undos = q := ⟨_, rfl⟩
  obtain ⟨oa, on, oc⟩ := oa
  obtain ⟨ua, un, uc⟩ := ua
  have hlo := hs.held.outs
  have hlu := hs.held.undos
  rw [hoa] at hlo
  rw [hua] at hlu
  obtain ⟨vs, ro, rol, rob⟩ := hlo
  obtain ⟨us, ru, rul, rub⟩ := hlu
  have e := hs.eq
  have e1 : s.count = D.count := by rw [e]
  have e2 : s.pivot = D.pivot := by rw [e]
  have e3 : s.name = D.name := by rw [e]
  have e4 : s.failCode = D.failCode := by rw [e]
  have e5 : s.phase = D.phase := by rw [e]
  have e6 : s.next = D.next := by rw [e]
  have e7 : s.flight = D.flight := by rw [e]
  have e8 : s.tries = D.tries := by rw [e]
  have e9 : s.failStep = D.failStep := by rw [e]
  refine ⟨oa, on, oc, ua, un, uc, vs, us, _, _, _, _, _, ⟨?_, ?_, ?_, ?_, ?_, ?_, ?_, rfl, rfl, rfl, rfl, rfl, hg, hs, ?_, ?_, ro.2.2, ru.2.2, rol, rul, rob, rub, ⟨?_, hs.held.input⟩, ⟨?_, hs.held.fail⟩, by rw [e], by rw [e], by rw [e]⟩⟩
  · show some s.outs.v = _; rw [hoa]
  · show some s.undos.v = _; rw [hua]
  · show some (Value.int .i64 s.phase) = _; rw [e5]
  · show some (Value.int .i64 s.next) = _; rw [e6]
  · show some (Value.bool s.flight) = _; rw [e7]
  · show some (Value.int .i64 s.tries) = _; rw [e8]
  · show some (Value.int .i64 s.failStep) = _; rw [e9]
  · have := ro.len; simp at this; rw [this]; exact rol
  · have := ru.len; simp at this; rw [this]; exact rul
  · rw [e1, e2, e3]
  · rw [e4]

set_option maxRecDepth 10000000 in
set_option maxHeartbeats 1000000 in
theorem story_no (s : SagaV) (D : SagaD) (w : World) (ht : Tables w) (hs : SagaRd w s D) (fs : SagaFits D) (h0 : ¬ checkD D = 0) :
    Calls Tryd.prog 18 #[s.val] w fun e w' => e = .returned (.tuple #[.slice none 0 0, .int .i64 (checkD D)]) ∧ Below w.heap.size w w' := by
  have hb1 := boxd (o := .cells (sagaArr s) 40) (Below.refl w.heap.size w)
  have k0 := BlkAt.new w (sagaArr s) 40
  have cC := Lib.hid (sagaCheck_rd s D _ (ht.tabs.below hb1) (hs.below hb1) fs)
  have HB := Lib.hid hb1
  obtain ⟨E, hE⟩ : ∃ x, checkD D = x := ⟨_, rfl⟩
  rw [hE] at cC h0 ⊢
  have h0' : (E != 0) = true := by rw [bne_iff_ne]; exact h0
  clear hb1 ht hs hE
  go_enter Tryd.func18, Tryd.ntmps18
  go_wp2_with (refine wpList_load_blk rfl _ _ rfl _ rfl _ _ k0 rowSaga ?_)
  refine cC.out.mono ?_
  rintro e w2 ⟨rfl, hb⟩
  have HB2 := Lib.hid (then_ HB.out hb)
  clear hb k0 HB cC
  go_wp2
  all_goals go_ret2
  all_goals exact ⟨rfl, HB2.out⟩

set_option maxRecDepth 10000000 in
set_option maxHeartbeats 8000000 in
theorem story_yes (s : SagaV) (D : SagaD) (w : World) (ht : Tables w) (hs : SagaRd w s D) (fs : SagaFits D) (h0 : checkD D = 0) :
    Calls Tryd.prog 18 #[s.val] w fun e w' => ∃ v : Sl, e = .returned (.tuple #[v.v, .int .i64 0]) ∧ OwnRecs w' w.heap.size v.v (storyL D) ∧ Below w.heap.size w w' := by
  have hb1 := boxd (o := .cells (sagaArr s) 40) (Below.refl w.heap.size w)
  have k0 := BlkAt.new w (sagaArr s) 40
  have hC := sagaCheck_rd s D _ (ht.tabs.below hb1) (hs.below hb1) fs
  rw [h0] at hC
  have cC := Lib.hid hC
  have HB := Lib.hid hb1
  have hg := (checkD_iff D).1 h0
  obtain ⟨oa, on, oc, ua, un, uc, vs, us, ph, trs, nx, fst, flg, hX⟩ := tell_ctx hs hg
  have HX := Lib.hid hX
  have HP := Lib.hid hg.plain
  have hon1 : on ≤ 32 := by have := hg.outs32; have := hX.qon; omega
  have hun1 : un ≤ 32 := by have := hg.undos32; have := hX.qun; omega
  have hn0 : 0 ≤ nx := by have := hg.next0; rw [hX.qnx] at this; exact this
  have hn1 : nx ≤ 1000 := by have := hg.next1000; rw [hX.qnx] at this; exact this
  have ht0 : 0 ≤ trs := by have := hg.plain.tries0; rw [hX.qtrs] at this; exact this
  have ht1 : trs ≤ 1000 := by have := hg.plain.tries1000; rw [hX.qtrs] at this; exact this
  clear hb1 ht hs hC hg hX
  go_enter Tryd.func18, Tryd.ntmps18
  go_wp2_with (refine wpList_load_blk rfl _ _ rfl _ rfl _ _ k0 rowSaga ?_)
  refine cC.out.mono ?_
  rintro e w2 ⟨rfl, hb⟩
  have hsz := hb.size
  have K2 := Lib.hid (k0.below hb (by simp))
  have HB2 := Lib.hid (then_ HB.out hb)
  clear hb k0 HB cC
  have hbg : w.heap.size < w2.heap.size := by rw [World.size_alloc] at hsz; omega
  obtain ⟨w3, hw3⟩ : ∃ q, w2.alloc (.cells (tellArr s nilSl) 69) = q := ⟨_, rfl⟩
  have tt : TellSt w w3 w.heap.size w2.heap.size s D nilSl [] := by
    rw [← hw3]
    exact ⟨⟨BlkAt.new _ _ _, OwnRecs.nil _ _, Nat.le_refl _⟩, K2.out.push _, ⟨Nat.le_refl _, hbg⟩, boxd HB2.out, HX.out.id, HX.out.at_⟩
  have TO := Lib.hid tt
  dsimp only [tellArr, nilSl, Sl.v] at hw3
  have HW3 := Lib.hid hw3
  clear tt hsz hw3
  have k2 := K2.out
  dsimp only [sagaArr, Sl.v] at k2
  go_upto_region 5 with (refine wpList_load_blk rfl _ _ rfl _ rfl _ _ k2 rowSaga ?_)
  clear k2
  rw [HW3.out]
  clear HW3 K2 HB2
  go_wp2_with (first | (refine wpList_load_field rfl _ _ rfl _ 1 rfl _ _ TO.out.box (.string s.name) rfl one_str ?_) | (refine wpList_load_field rfl _ _ rfl _ 2 rfl _ _ TO.out.box (.int .i64 s.count) rfl one_int ?_) | (refine wpList_load_field rfl _ _ rfl _ 3 rfl _ _ TO.out.box (.int .i64 s.pivot) rfl one_int ?_) | (refine wpList_load_field rfl _ _ rfl _ 6 rfl _ _ TO.out.box (.slice s.input.a s.input.n s.input.c) rfl one_bytes ?_) | (refine wpList_load_field rfl _ _ rfl _ 14 rfl _ _ TO.out.box (.int .i64 s.failCode) rfl one_int ?_) | (refine wpList_load_field rfl _ _ rfl _ 15 rfl _ _ TO.out.box (.slice s.fail.a s.fail.n s.fail.c) rfl one_bytes ?_))
  obtain ⟨g, hgq⟩ : ∃ q, w2.heap.size = q := ⟨_, rfl⟩
  rw [hgq] at TO hbg ⊢
  clear hgq
  refine (add_st TO.out ⟨0, 1, 0, 0, 0, 0, 0, 0, s.count, s.pivot, s.name, s.input⟩ _ HX.out.rb HP.out.input (by simp)).mono ?_
  rintro e wA ⟨v1, rfl, hT⟩
  clear TO
  obtain ⟨gg, cap, cur, hone⟩ := hT.own.recs.one
  have TO := Lib.hid hT
  have HONE := Lib.hid hone
  clear hT hone
  go_wp2_with fail
  go_upto_region 6 with fail
  go_cut [5] (fun s5 wx => s5 = .pointer (some ⟨g, 0, none⟩) ∧ ∃ v, Hid (TellSt w wx w.heap.size g s D v [beginR D]))
  case first =>
    refine wp_region_held_drew (S := (fun w' => BlkAt w' g (tellArr s v1) 69 ∧ BlkAt w' w.heap.size (sagaArr s) 40)) (by kernel_rfl) (⟨TO.out.own.blk, TO.out.box⟩) (fun hHeld => ?_)
    refine wpAnyH_take (i := 0) (oi := { dst := some 32, op := Op.move (Operand.tmp 5), type := 67, pos := "check.go:114", after := #[], guard := none }) (v := ?_) rfl (by kernel_rfl) (by kernel_rfl) (by kernel_rfl) (fun _ _ _ h => h) (Or.inl ⟨by rfl, ?_⟩) (by assumption) ?_
    rotate_left 1
    focus (intro w hSw; (try clear hSw); go_simp; try (with_reducible rfl))
    try go_frame
    refine wpAnyH_take (i := 1) (oi := { dst := some 33, op := Op.nilCheck (Operand.tmp 32), type := 0, pos := "check.go:114", after := #[{ on := 0, ground := Ground.data }], guard := none }) (v := ?_) rfl (by kernel_rfl) (by kernel_rfl) (by kernel_rfl) (fun _ _ _ h => h) (Or.inl ⟨by rfl, ?_⟩) (by assumption) ?_
    rotate_left 1
    focus (intro w hSw; (try clear hSw); go_simp; try (with_reducible rfl))
    try go_frame
    refine wpAnyH_take (i := 2) (oi := { dst := some 34, op := Op.fieldAddr 69 (Operand.tmp 33) 1, type := 0, pos := "check.go:114", after := #[{ on := 1, ground := Ground.data }], guard := none }) (v := ?_) rfl (by kernel_rfl) (by kernel_rfl) (by kernel_rfl) (fun _ _ _ h => h) (Or.inl ⟨by rfl, ?_⟩) (by assumption) ?_
    rotate_left 1
    focus (intro w hSw; (try clear hSw); go_simp; try (with_reducible rfl))
    try go_frame
    refine wpAnyH_take (i := 3) (oi := { dst := some 35, op := Op.load 22 (Operand.tmp 34), type := 22, pos := "check.go:114", after := #[{ on := 2, ground := Ground.data }], guard := none }) (v := .slice (some ⟨gg, 0, none⟩) 1 cap) rfl (by kernel_rfl) (by kernel_rfl) (by kernel_rfl) (fun _ _ _ h => h) (yl_cell rfl _ _ rfl _ rfl (.slice (some ⟨gg, 0, none⟩) 1 cap) (fun w' h => (h.1.cell 16).trans (congrArg some HONE.out.val)) one_recs) (by assumption) ?_
    try go_frame
    refine wpAnyH_take (i := 4) (oi := { dst := some 36, op := Op.fieldAddr 40 (Operand.tmp 1) 4, type := 0, pos := "check.go:114", after := #[], guard := none }) (v := ?_) rfl (by kernel_rfl) (by kernel_rfl) (by kernel_rfl) (fun _ _ _ h => h) (Or.inl ⟨by rfl, ?_⟩) (by assumption) ?_
    rotate_left 1
    focus (intro w hSw; (try clear hSw); go_simp; try (with_reducible rfl))
    try go_frame
    refine wpAnyH_take (i := 5) (oi := { dst := some 37, op := Op.load 3 (Operand.tmp 36), type := 3, pos := "check.go:114", after := #[{ on := 4, ground := Ground.data }], guard := none }) (v := .int .i64 s.begun) rfl (by kernel_rfl) (by kernel_rfl) (by kernel_rfl) (fun _ _ _ h => h) (yl_cell rfl _ _ rfl _ rfl (.int .i64 s.begun) (fun w' h => h.2.cell 4) one_int) (by assumption) ?_
    try go_frame
    refine wpAnyH_take (i := 6) (oi := { dst := some 38, op := Op.indexAddr 22 (Operand.tmp 35) (Operand.const (Value.int IntKind.i64 0)), type := 0, pos := "check.go:114", after := #[{ on := 3, ground := Ground.data }, { on := 0, ground := Ground.phase }, { on := 1, ground := Ground.phase }, { on := 2, ground := Ground.phase }, { on := 3, ground := Ground.phase }, { on := 4, ground := Ground.phase }, { on := 5, ground := Ground.phase }], guard := none }) (v := ?_) rfl (by kernel_rfl) (by kernel_rfl) (by kernel_rfl) (fun _ _ _ h => h) (Or.inl ⟨by rfl, ?_⟩) (by assumption) ?_
    rotate_left 1
    focus (intro w hSw; (try clear hSw); go_simp; try (with_reducible rfl))
    try go_frame
    refine wpAnyH_take (i := 7) (oi := { dst := some 39, op := Op.fieldAddr 44 (Operand.tmp 38) 5, type := 0, pos := "check.go:114", after := #[{ on := 6, ground := Ground.data }, { on := 0, ground := Ground.phase }, { on := 1, ground := Ground.phase }, { on := 2, ground := Ground.phase }, { on := 3, ground := Ground.phase }, { on := 4, ground := Ground.phase }, { on := 5, ground := Ground.phase }], guard := none }) (v := ?_) rfl (by kernel_rfl) (by kernel_rfl) (by kernel_rfl) (fun _ _ _ h => h) (Or.inl ⟨by rfl, ?_⟩) (by assumption) ?_
    rotate_left 1
    focus (intro w hSw; (try clear hSw); go_simp; try (with_reducible rfl))
    try go_frame
    refine wpAnyH_ready (rs := [8]) (by kernel_rfl) (by simp) ?_
    refine AllReadyH.cons (o := { dst := none, op := Op.store 3 (Operand.tmp 39) (Operand.tmp 37), type := 0, pos := "check.go:114", after := #[{ on := 7, ground := Ground.data }, { on := 5, ground := Ground.data }, { on := 0, ground := Ground.phase }, { on := 1, ground := Ground.phase }, { on := 2, ground := Ground.phase }, { on := 3, ground := Ground.phase }, { on := 4, ground := Ground.phase }, { on := 5, ground := Ground.phase }], guard := none }) rfl (fun K hK => ?_) ?_
    · refine step_store_one rfl _ _ _ rfl _ _ rfl (.int .i64 s.begun) rfl _ _ (show BlkAt wA.drew gg cur _ from HONE.out.blk) (by have := HONE.out.size; omega) rfl size_int ?_
      intro w7 hw7 KS7
      refine hK.out _ _ (⟨hw7.blk hHeld.1 (blk_ne' TO.out.own.blk HONE.out.blk (by decide)), hw7.blk hHeld.2 (blk_ne' TO.out.box HONE.out.blk (by decide))⟩) (fun hHeld => ?_)
      clear hK K
      try go_frame
      refine wpAnyH_done (by kernel_rfl) ?_ _
      try go_wp2_with fail
      go_meet
      exact ⟨rfl, v1, Lib.hid (turn_at TO.out HONE.out hw7 KS7 HX.out.begun)⟩
    exact AllReadyH.nil
  case rest =>
    obtain ⟨wx, rfl⟩ : ∃ q : World, q = wc := ⟨_, rfl⟩
    obtain ⟨rfl, v2, TO⟩ := hcut
    clear HONE
    go_wp2_with (first
      | (refine wpList_load_field rfl _ _ rfl _ 11 rfl _ _ TO.out.box _ HX.out.h11 one_lists ?_))
    go_loopw [43] (fun i wr => ∃ (j : Nat) (v : Sl), j ≤ on ∧ i = .int .i64 j ∧ Hid (TellSt w wr w.heap.size g s D v (beginR D :: outsL D j))) (fun i _ => on - (intOf i).toNat)
    case atStart => exact ⟨0, v2, by omega, rfl, TO⟩
    case round =>
      obtain ⟨j, v, hj, rfl, TO⟩ := hrel
      by_cases hlt : j < on
      · as_aux_lemma =>
        obtain ⟨bo, oo, e, hc⟩ := HX.out.ro (by omega)
        subst e
        have hj1 : j < vs.length := by have := HX.out.rol; have := HX.out.qon; omega
        have hj2 : j < D.outs.length := by have := HX.out.qon; omega
        obtain ⟨x, hx⟩ : ∃ q, vs[j] = q := ⟨_, rfl⟩
        have hcj : w.cell? ⟨bo, oo + j, none⟩ = some (.slice x.a x.n x.c) := by rw [hc j hlt]; simp [hj1, hx]
        have he : ∀ W, Below w.heap.size w W → W.cell? ⟨bo, oo + j, none⟩ = some (.slice x.a x.n x.c) := fun W hb => (hb.cell (World.block_lt_of_cell? w _ hcj)).trans hcj
        have hB := HX.out.rob j hj1 hj2
        rw [hx, show D.outs[j] = D.outs.getD j [] by simp [List.getD, hj2]] at hB
        have HE := Lib.hid he
        have HBY := Lib.hid hB
        have HLN : Hid ((D.outs.getD j []).length ≤ 16384) := Lib.hid (getD_len HP.out.outs j)
        have hol := outsL_len D j
        clear hc hx hcj he hB hj1 hj2
        go_wp2_with (first
          | (refine wpList_load_cell rfl _ _ rfl _ rfl _ (HE.out _ TO.out.below) one_bytes ?_))
        refine (add_st TO.out (RecD.words ⟨0, 2, 0, j, 1, 0, 0, 0, 0, 0, ⟨#[]⟩, []⟩ nilSl) _ (RecRd.nil _ _ rfl) (by simp) (by simp only [List.length_cons]; omega)).mono ?_
        rintro e wB ⟨vB, rfl, hT⟩
        clear TO
        have TO := Lib.hid hT
        clear hT
        go_wp2_with fail
        refine (add_st TO.out (RecD.words ⟨0, 3, 0, j, 0, 0, 0, 0, 0, 0, ⟨#[]⟩, D.outs.getD j []⟩ x) _ ⟨rfl, HBY.out⟩ HLN.out (by simp only [List.length_cons, List.length_append, List.length_nil]; omega)).mono ?_
        rintro e wC ⟨vC, rfl, hT⟩
        clear TO
        have eL : beginR D :: outsL D j ++ [toldD D ⟨0, 2, 0, j, 1, 0, 0, 0, 0, 0, ⟨#[]⟩, []⟩] ++ [toldD D ⟨0, 3, 0, j, 0, 0, 0, 0, 0, 0, ⟨#[]⟩, D.outs.getD j []⟩] = beginR D :: outsL D (j + 1) := by
          rw [outsL_succ]; simp [toldD]
        rw [eL] at hT
        have TO := Lib.hid hT
        clear hT eL hol
        go_wp2
        all_goals go_roundw
        case rel => exact ⟨j + 1, vC, by omega, by go_num, TO⟩
        case measure => simp [intOf]; omega
      · have hj' : j = on := by omega
        subst hj'
        clear hlt hj
        obtain ⟨bk, hbkq⟩ : ∃ q, decide (ph = 2 ∨ ph = 4) = q := ⟨_, rfl⟩
        have HBQ := Lib.hid hbkq
        clear hbkq
        go_upto_region 14 with (refine wpList_load_field rfl _ _ rfl _ 8 rfl _ _ TO.out.box _ HX.out.h8 one_int ?_)
        go_cut [67] (fun s67 wz => s67 = .bool bk ∧ Hid (TellSt w wz w.heap.size g s D v (beginR D :: outsL D j)))
        case first =>
          have hph1 := HP.out.phase1
          have hph4 := HP.out.phase4
          rw [HX.out.qph] at hph1 hph4
          have hcase : ph = 1 ∨ ph = 2 ∨ ph = 3 ∨ ph = 4 := by omega
          clear hph1 hph4
          rcases hcase with rfl | rfl | rfl | rfl
          all_goals
            go_wp2_with (first | (refine wpList_load_field rfl _ _ rfl _ 7 rfl _ _ TO.out.box _ HX.out.h7 one_int ?_) | (refine wpList_load_field_g rfl _ _ rfl _ 7 rfl _ _ TO.out.box _ HX.out.h7 one_int ?_))
            go_meet
            exact ⟨by rw [← HBQ.out]; rfl, TO⟩
        case rest =>
        obtain ⟨wz, rfl⟩ : ∃ q : World, q = wc := ⟨_, rfl⟩
        obtain ⟨rfl, TO⟩ := hcut
        go_upto_if 67 with fail
        go_cut [8, 9] (fun s8 s9 wy => ∃ (st kd : Int) (v : Sl), s8 = .int .i64 st ∧ s9 = .int .i64 kd ∧ st = (if backP D then nx - 1 else nx) ∧ kd = (if backP D then 5 else 2) ∧ Hid (TellSt w wy w.heap.size g s D v (beginR D :: (outsL D j ++ midL D))))
        case first =>
          cases bk with
          | true =>
            have hbk := of_decide_eq_true HBQ.out
            have hB : backP D := by unfold backP; rw [HX.out.qph]; exact hbk
            have hfb := HX.out.good.bk (by rw [HX.out.qph]; omega)
            have hf0 : 0 ≤ fst := by have := hfb.next; have := hfb.next0; rw [HX.out.qfst] at *; omega
            have hf1 : fst ≤ 1000 := by have := hfb.count; have := HP.out.count32; rw [HX.out.qfst] at *; omega
            have HBK := Lib.hid hB
            clear hB hfb
            have HFA := Lib.hid hf0
            have HFB := Lib.hid hf1
            have hol := outsL_len D j
            clear hbk
            · go_wp2_with (first | (refine wpList_load_field rfl _ _ rfl _ 8 rfl _ _ TO.out.box _ HX.out.h8 one_int ?_) | (refine wpList_load_field rfl _ _ rfl _ 13 rfl _ _ TO.out.box _ HX.out.h13 one_int ?_))
              refine (add_st TO.out (RecD.words ⟨0, 2, 0, fst, 1, 0, 0, 0, 0, 0, ⟨#[]⟩, []⟩ nilSl) _ (RecRd.nil _ _ rfl) (by simp) (by simp only [List.length_cons]; omega)).mono ?_
              rintro e wB ⟨vB, rfl, hT⟩
              clear TO
              have TO := Lib.hid hT
              clear hT
              go_wp2_with (first | (refine wpList_load_field rfl _ _ rfl _ 13 rfl _ _ TO.out.box _ HX.out.h13 one_int ?_) | (refine wpList_load_field rfl _ _ rfl _ 1 rfl _ _ TO.out.box (.string s.name) rfl one_str ?_) | (refine wpList_load_field rfl _ _ rfl _ 2 rfl _ _ TO.out.box (.int .i64 s.count) rfl one_int ?_) | (refine wpList_load_field rfl _ _ rfl _ 3 rfl _ _ TO.out.box (.int .i64 s.pivot) rfl one_int ?_) | (refine wpList_load_field rfl _ _ rfl _ 6 rfl _ _ TO.out.box (.slice s.input.a s.input.n s.input.c) rfl one_bytes ?_) | (refine wpList_load_field rfl _ _ rfl _ 14 rfl _ _ TO.out.box (.int .i64 s.failCode) rfl one_int ?_) | (refine wpList_load_field rfl _ _ rfl _ 15 rfl _ _ TO.out.box (.slice s.fail.a s.fail.n s.fail.c) rfl one_bytes ?_))
              refine (add_st TO.out ⟨0, 4, 0, fst, 0, 0, 1, s.failCode, 0, 0, ⟨#[]⟩, s.fail⟩ _ HX.out.rf HP.out.fail (by simp only [List.length_cons, List.length_append, List.length_nil]; omega)).mono ?_
              rintro e wC ⟨vC, rfl, hT⟩
              clear TO
              have eL : beginR D :: outsL D j ++ [toldD D ⟨0, 2, 0, fst, 1, 0, 0, 0, 0, 0, ⟨#[]⟩, []⟩] ++ [toldD D ⟨0, 4, 0, D.failStep, 0, 0, 1, D.failCode, 0, 0, ⟨#[]⟩, D.fail⟩] = beginR D :: (outsL D j ++ ([startR D 2 D.failStep 1, failR D D.failStep 1 D.failCode D.fail] ++ undosL D 0)) := by
                rw [← HX.out.qfst]; simp [toldD, undosL]
              rw [eL] at hT
              have TO := Lib.hid hT
              clear hT eL
              go_wp2_with (first | (refine wpList_load_field rfl _ _ rfl _ 12 rfl _ _ TO.out.box _ HX.out.h12 one_lists ?_))
              go_loopw [88] (fun i wr => ∃ (q : Nat) (v : Sl), q ≤ un ∧ i = .int .i64 q ∧ Hid (TellSt w wr w.heap.size g s D v (beginR D :: (outsL D j ++ ([startR D 2 D.failStep 1, failR D D.failStep 1 D.failCode D.fail] ++ undosL D q))))) (fun i _ => un - (intOf i).toNat)
              case atStart => exact ⟨0, vC, by omega, rfl, TO⟩
              case round =>
                obtain ⟨q, v, hq, rfl, TO⟩ := hrel
                by_cases hlt : q < un
                · as_aux_lemma =>
                  obtain ⟨bo, oo, e, hc⟩ := HX.out.ru (by omega)
                  subst e
                  have hj1 : q < us.length := by have := HX.out.rul; have := HX.out.qun; omega
                  have hj2 : q < D.undos.length := by have := HX.out.qun; omega
                  obtain ⟨x, hx⟩ : ∃ z, us[q] = z := ⟨_, rfl⟩
                  have hcj : w.cell? ⟨bo, oo + q, none⟩ = some (.slice x.a x.n x.c) := by rw [hc q hlt]; simp [hj1, hx]
                  have he : ∀ W, Below w.heap.size w W → W.cell? ⟨bo, oo + q, none⟩ = some (.slice x.a x.n x.c) := fun W hb => (hb.cell (World.block_lt_of_cell? w _ hcj)).trans hcj
                  have hB := HX.out.rub q hj1 hj2
                  rw [hx, show D.undos[q] = D.undos.getD q [] by simp [List.getD, hj2]] at hB
                  have HE := Lib.hid he
                  have HBY := Lib.hid hB
                  have HLN : Hid ((D.undos.getD q []).length ≤ 16384) := Lib.hid (getD_len HP.out.undos q)
                  have hul := undosL_len D q
                  clear hc hx hcj he hB hj1 hj2
                  go_wp2_with (first
                    | (refine wpList_load_field rfl _ _ rfl _ 13 rfl _ _ TO.out.box _ HX.out.h13 one_int ?_)
                    | (refine wpList_load_cell rfl _ _ rfl _ rfl _ (HE.out _ TO.out.below) one_bytes ?_))
                  refine (add_st TO.out (RecD.words ⟨0, 5, 0, fst - 1 - (q : Int), 1, 0, 0, 0, 0, 0, ⟨#[]⟩, []⟩ nilSl) _ (RecRd.nil _ _ rfl) (by simp) (by simp only [List.length_cons, List.length_append, List.length_nil]; omega)).mono ?_
                  rintro e wD ⟨vD, rfl, hT⟩
                  clear TO
                  have TO := Lib.hid hT
                  clear hT
                  go_wp2_with (first | (refine wpList_load_field rfl _ _ rfl _ 13 rfl _ _ TO.out.box _ HX.out.h13 one_int ?_))
                  refine (add_st TO.out (RecD.words ⟨0, 6, 0, fst - 1 - (q : Int), 0, 0, 0, 0, 0, 0, ⟨#[]⟩, D.undos.getD q []⟩ x) _ ⟨rfl, HBY.out⟩ HLN.out (by simp only [List.length_cons, List.length_append, List.length_nil]; omega)).mono ?_
                  rintro e wE ⟨vE, rfl, hT⟩
                  clear TO
                  have eL : beginR D :: (outsL D j ++ ([startR D 2 D.failStep 1, failR D D.failStep 1 D.failCode D.fail] ++ undosL D q)) ++ [toldD D ⟨0, 5, 0, fst - 1 - (q : Int), 1, 0, 0, 0, 0, 0, ⟨#[]⟩, []⟩] ++ [toldD D ⟨0, 6, 0, fst - 1 - (q : Int), 0, 0, 0, 0, 0, 0, ⟨#[]⟩, D.undos.getD q []⟩] = beginR D :: (outsL D j ++ ([startR D 2 D.failStep 1, failR D D.failStep 1 D.failCode D.fail] ++ undosL D (q + 1))) := by
                    rw [undosL_succ, ← HX.out.qfst]; simp [toldD]
                  rw [eL] at hT
                  have TO := Lib.hid hT
                  clear hT eL hul
                  go_wp2
                  all_goals go_roundw
                  case rel => exact ⟨q + 1, vE, by omega, by go_num, TO⟩
                  case measure => simp [intOf]; omega
                · have hq' : q = un := by omega
                  subst hq'
                  have em : midL D = [startR D 2 D.failStep 1, failR D D.failStep 1 D.failCode D.fail] ++ undosL D q := by rw [HX.out.qun]; exact if_pos HBK.out
                  rw [← em] at TO
                  have e1 : nx - 1 = (if backP D then nx - 1 else nx) := (if_pos HBK.out).symm
                  have e2 : (5 : Int) = (if backP D then 5 else 2) := (if_pos HBK.out).symm
                  have E1 := Lib.hid e1
                  have E2 := Lib.hid e2
                  clear em e1 e2 hol
                  go_wp2_with fail
                  all_goals go_meet
                  all_goals exact ⟨nx - 1, 5, v, rfl, rfl, E1.out, E2.out, TO⟩
          | false =>
            have hbk : ¬ (ph = 2 ∨ ph = 4) := of_decide_eq_false HBQ.out
            have hB : ¬ backP D := by unfold backP; rw [HX.out.qph]; exact hbk
            have hm : midL D = [] := if_neg hB
            have e1 : nx = (if backP D then nx - 1 else nx) := (if_neg hB).symm
            have e2 : (2 : Int) = (if backP D then 5 else 2) := (if_neg hB).symm
            have E1 := Lib.hid e1
            have E2 := Lib.hid e2
            have TO2 : Hid (TellSt w wz w.heap.size g s D v (beginR D :: (outsL D j ++ midL D))) := by rw [hm, List.append_nil]; exact TO
            clear hB hm e1 e2 hbk
            go_wp2_with fail
            all_goals go_meet
            all_goals exact ⟨nx, 2, v, rfl, rfl, E1.out, E2.out, TO2⟩
        case rest =>
          obtain ⟨wy, rfl⟩ : ∃ q : World, q = wc := ⟨_, rfl⟩
          obtain ⟨st, kd, vY, rfl, rfl, hst, hkd, TO⟩ := hcut
          have HST := Lib.hid hst
          have HKD := Lib.hid hkd
          have hml : (outsL D j ++ midL D).length ≤ 200 := by
            have := outsL_len D j
            have := midL_len (D := D) (by have := HX.out.qun; omega)
            rw [List.length_append]; omega
          obtain ⟨base, hbase⟩ : ∃ q, outsL D j ++ midL D = q := ⟨_, rfl⟩
          rw [hbase] at hml TO
          have HBASE := Lib.hid hbase
          clear hst hkd hbase
          go_wp2_with fail
          go_loopw [12] (fun i wr => ∃ (q : Nat) (v : Sl), (q : Int) ≤ trs ∧ i = .int .i64 ((q : Int) + 1) ∧ Hid (TellSt w wr w.heap.size g s D v (beginR D :: (base ++ triesL D kd st q)))) (fun i _ => (trs + 1 - intOf i).toNat)
          case atStart => exact ⟨0, vY, by omega, rfl, by rw [show triesL D kd st 0 = [] from rfl, List.append_nil]; exact TO⟩
          case round =>
            obtain ⟨q, v, hq, rfl, TO⟩ := hrel
            by_cases hlt : (q : Int) + 1 ≤ trs
            · as_aux_lemma =>
              have htl := triesL_len D kd st q
              have E0 := triesL_succ D kd st q
              rw [HX.out.qtrs, HX.out.qflg] at E0
              have EE := Lib.hid E0
              clear E0
              go_wp2_with (first | (refine wpList_load_field rfl _ _ rfl _ 10 rfl _ _ TO.out.box _ HX.out.h10 one_int ?_))
              refine (add_st TO.out (RecD.words ⟨0, kd, 0, st, (q : Int) + 1, 0, 0, 0, 0, 0, ⟨#[]⟩, []⟩ nilSl) _ (RecRd.nil _ _ rfl) (by simp) (by simp only [List.length_cons, List.length_append]; omega)).mono ?_
              rintro e wB ⟨vB, rfl, hT⟩
              clear TO
              by_cases c1 : (q : Int) + 1 < trs
              · have TO := Lib.hid hT
                clear hT
                go_wp2_with (first | (refine wpList_load_field rfl _ _ rfl _ 10 rfl _ _ TO.out.box _ HX.out.h10 one_int ?_))
                refine (add_st TO.out (RecD.words ⟨0, 4, 0, st, 0, 0, 0, 0, 0, 0, ⟨#[]⟩, []⟩ nilSl) _ (RecRd.nil _ _ rfl) (by simp) (by simp only [List.length_cons, List.length_append, List.length_nil]; omega)).mono ?_
                rintro e wC ⟨vC, rfl, hT⟩
                clear TO
                have eL : beginR D :: (base ++ triesL D kd st q) ++ [toldD D ⟨0, kd, 0, st, (q : Int) + 1, 0, 0, 0, 0, 0, ⟨#[]⟩, []⟩] ++ [toldD D ⟨0, 4, 0, st, 0, 0, 0, 0, 0, 0, ⟨#[]⟩, []⟩] = beginR D :: (base ++ triesL D kd st (q + 1)) := by
                  rw [EE.out, if_pos (.inl c1)]; simp [toldD]
                rw [eL] at hT
                have TO := Lib.hid hT
                clear hT eL htl
                go_wp2
                all_goals go_roundw
                case rel => exact ⟨q + 1, vC, by omega, by go_num, TO⟩
                case measure => simp [intOf]; omega
              · have c1' : decide ((q : Int) + 1 < trs) = false := decide_eq_false c1
                cases flg with
                | false =>
                  have TO := Lib.hid hT
                  clear hT
                  go_wp2_with (first | (refine wpList_load_field rfl _ _ rfl _ 10 rfl _ _ TO.out.box _ HX.out.h10 one_int ?_) | (refine wpList_load_field_g rfl _ _ rfl _ 9 rfl _ _ TO.out.box (.bool false) HX.out.h9 one_bool ?_))
                  refine (add_st TO.out (RecD.words ⟨0, 4, 0, st, 0, 0, 0, 0, 0, 0, ⟨#[]⟩, []⟩ nilSl) _ (RecRd.nil _ _ rfl) (by simp) (by simp only [List.length_cons, List.length_append, List.length_nil]; omega)).mono ?_
                  rintro e wC ⟨vC, rfl, hT⟩
                  clear TO
                  have eL : beginR D :: (base ++ triesL D kd st q) ++ [toldD D ⟨0, kd, 0, st, (q : Int) + 1, 0, 0, 0, 0, 0, ⟨#[]⟩, []⟩] ++ [toldD D ⟨0, 4, 0, st, 0, 0, 0, 0, 0, 0, ⟨#[]⟩, []⟩] = beginR D :: (base ++ triesL D kd st (q + 1)) := by
                    rw [EE.out, if_pos (.inr (by trivial))]; simp [toldD]
                  rw [eL] at hT
                  have TO := Lib.hid hT
                  clear hT eL htl
                  go_wp2
                  all_goals go_roundw
                  case rel => exact ⟨q + 1, vC, by omega, by go_num, TO⟩
                  case measure => simp [intOf]; omega
                | true =>
                  have eL : beginR D :: (base ++ triesL D kd st q) ++ [toldD D ⟨0, kd, 0, st, (q : Int) + 1, 0, 0, 0, 0, 0, ⟨#[]⟩, []⟩] = beginR D :: (base ++ triesL D kd st (q + 1)) := by
                    rw [EE.out, if_neg (by simp; omega)]; simp [toldD]
                  rw [eL] at hT
                  have TO := Lib.hid hT
                  clear hT eL htl
                  go_wp2_with (first | (refine wpList_load_field rfl _ _ rfl _ 10 rfl _ _ TO.out.box _ HX.out.h10 one_int ?_) | (refine wpList_load_field_g rfl _ _ rfl _ 9 rfl _ _ TO.out.box (.bool true) HX.out.h9 one_bool ?_))
                  all_goals go_roundw
                  case rel => exact ⟨q + 1, vB, by omega, by go_num, TO⟩
                  case measure => simp [intOf]; omega
            · as_aux_lemma =>
              have hq' : (q : Int) = trs := by omega
              have htl := triesL_len D kd st q
              have eq1 : base ++ triesL D kd st q = outsL D D.outs.length ++ (midL D ++ lastL D) := by
                have h1 : lastL D = triesL D kd st q := by
                  unfold lastL
                  rw [HX.out.qtrs, HX.out.qnx, ← HST.out, ← HKD.out, ← hq', Int.toNat_natCast]
                rw [h1, ← HBASE.out, HX.out.qon, List.append_assoc]
              have EQ := Lib.hid eq1
              have hph1 := HP.out.phase1
              have hph4 := HP.out.phase4
              rw [HX.out.qph] at hph1 hph4
              clear eq1 hq'
              have hcase : ph = 1 ∨ ph = 2 ∨ ph = 3 ∨ ph = 4 := by omega
              clear hph1 hph4
              rcases hcase with rfl | rfl | rfl | rfl
              · have eS : beginR D :: (base ++ triesL D kd st q) = storyL D := by
                  rw [EQ.out]; unfold storyL tellD endL; rw [HX.out.qph]; simp
                rw [eS] at TO
                clear eS
                go_wp2_with (first | (refine wpList_load_field rfl _ _ rfl _ 10 rfl _ _ TO.out.box _ HX.out.h10 one_int ?_) | (refine wpList_load_field rfl _ _ rfl _ 7 rfl _ _ TO.out.box _ HX.out.h7 one_int ?_) | (refine wpList_load_field rfl _ _ rfl _ 16 rfl _ _ TO.out.own.blk (.slice v.a v.n v.c) rfl one_recs ?_))
                all_goals go_ret2
                all_goals exact ⟨v, rfl, TO.out.own.recs.lower (by have := TO.out.low; omega), TO.out.below⟩
              · have eS : beginR D :: (base ++ triesL D kd st q) = storyL D := by
                  rw [EQ.out]; unfold storyL tellD endL; rw [HX.out.qph]; simp
                rw [eS] at TO
                clear eS
                go_wp2_with (first | (refine wpList_load_field rfl _ _ rfl _ 10 rfl _ _ TO.out.box _ HX.out.h10 one_int ?_) | (refine wpList_load_field rfl _ _ rfl _ 7 rfl _ _ TO.out.box _ HX.out.h7 one_int ?_) | (refine wpList_load_field rfl _ _ rfl _ 16 rfl _ _ TO.out.own.blk (.slice v.a v.n v.c) rfl one_recs ?_))
                all_goals go_ret2
                all_goals exact ⟨v, rfl, TO.out.own.recs.lower (by have := TO.out.low; omega), TO.out.below⟩
              · go_wp2_with (first | (refine wpList_load_field rfl _ _ rfl _ 10 rfl _ _ TO.out.box _ HX.out.h10 one_int ?_) | (refine wpList_load_field rfl _ _ rfl _ 7 rfl _ _ TO.out.box _ HX.out.h7 one_int ?_))
                refine (add_st TO.out (RecD.words ⟨0, 7, 0, 0, 0, 0, 0, 1, 0, 0, ⟨#[]⟩, []⟩ nilSl) _ (RecRd.nil _ _ rfl) (by simp) (by simp only [List.length_cons, List.length_append]; omega)).mono ?_
                rintro e wB ⟨vB, rfl, hT⟩
                clear TO
                have eS : beginR D :: (base ++ triesL D kd st q) ++ [toldD D ⟨0, 7, 0, 0, 0, 0, 0, 1, 0, 0, ⟨#[]⟩, []⟩] = storyL D := by
                  rw [EQ.out]; unfold storyL tellD endL; rw [HX.out.qph]; simp [toldD]
                rw [eS] at hT
                have TO := Lib.hid hT
                clear hT eS
                go_wp2_with (refine wpList_load_field rfl _ _ rfl _ 16 rfl _ _ TO.out.own.blk (.slice vB.a vB.n vB.c) rfl one_recs ?_)
                all_goals go_ret2
                all_goals exact ⟨vB, rfl, TO.out.own.recs.lower (by have := TO.out.low; omega), TO.out.below⟩
              · go_wp2_with (first | (refine wpList_load_field rfl _ _ rfl _ 10 rfl _ _ TO.out.box _ HX.out.h10 one_int ?_) | (refine wpList_load_field rfl _ _ rfl _ 7 rfl _ _ TO.out.box _ HX.out.h7 one_int ?_))
                refine (add_st TO.out (RecD.words ⟨0, 7, 0, 0, 0, 0, 0, 2, 0, 0, ⟨#[]⟩, []⟩ nilSl) _ (RecRd.nil _ _ rfl) (by simp) (by simp only [List.length_cons, List.length_append]; omega)).mono ?_
                rintro e wB ⟨vB, rfl, hT⟩
                clear TO
                have eS : beginR D :: (base ++ triesL D kd st q) ++ [toldD D ⟨0, 7, 0, 0, 0, 0, 0, 2, 0, 0, ⟨#[]⟩, []⟩] = storyL D := by
                  rw [EQ.out]; unfold storyL tellD endL; rw [HX.out.qph]; simp [toldD]
                rw [eS] at hT
                have TO := Lib.hid hT
                clear hT eS
                go_wp2_with (refine wpList_load_field rfl _ _ rfl _ 16 rfl _ _ TO.out.own.blk (.slice vB.a vB.n vB.c) rfl one_recs ?_)
                all_goals go_ret2
                all_goals exact ⟨vB, rfl, TO.out.own.recs.lower (by have := TO.out.low; omega), TO.out.below⟩
theorem story_any (s : SagaV) (D : SagaD) (w : World) (ht : Tables w) (hs : SagaRd w s D) (fs : SagaFits D) :
    Calls Tryd.prog 18 #[s.val] w fun e w' => ∃ v : Sl, e = .returned (.tuple #[v.v, .int .i64 (checkD D)]) ∧ OwnRecs w' w.heap.size v.v (if checkD D = 0 then storyL D else []) ∧ Below w.heap.size w w' := by
  by_cases h : checkD D = 0
  · rw [h, if_pos rfl]; exact story_yes s D w ht hs fs h
  · rw [if_neg h]
    refine (story_no s D w ht hs fs h).mono ?_
    rintro e w' ⟨rfl, hb⟩
    exact ⟨nilSl, rfl, OwnRecs.nil _ _, hb⟩
end Go.Proofs.YtfbaliimjmimhaaDoor
