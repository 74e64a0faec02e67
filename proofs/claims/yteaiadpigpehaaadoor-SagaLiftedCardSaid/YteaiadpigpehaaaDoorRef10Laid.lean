/-
  What annalsref10.told's walk needs: how a story that is laid stands, a record behind it. Conditions: none. (Printed by wip/gen_ref10told.py.)
-/
import Derived.Test.YteaiadpigpehaaaDoorRef10Play
import Derived.Test.YteaiadpigpehaaaDoorRefCopy
import Derived.Test.YteaiadpigpehaaaDoorReg3
import Derived.Maps.RangeWalk
import Derived.Deep.DeepCutAuto
import Derived.Deep.CutBlock
import Derived.Laws.OwnMore
namespace Go.Proofs.YteaiadpigpehaaaDoor
open Go.RowKit

/-- How a story that the reference lays stands. -/
structure LaidSt (w0 w : World) (s : SagaV) (v : Value) (Rs : List RecD) : Prop where
  own : OwnRecs w w0.heap.size v Rs
  box : BlkAt w w0.heap.size (sagaArr s) 25
  below : Below w0.heap.size w0 w
theorem LaidSt.bl {w0 w w' : World} {s : SagaV} {v : Value} {Rs : List RecD} (h : LaidSt w0 w s v Rs) (hb : Below w.heap.size w w') : LaidSt w0 w' s v Rs := ⟨h.own.through hb, h.box.below hb (blk_lt h.box), then_ h.below hb⟩
theorem laid_end {w0 w w1 : World} {s : SagaV} {v o : Value} {Rs : List RecD} {rs : List RecV} {R : RecD} {sl : Sl} (h : LaidSt w0 w s v Rs) (o2 : rs.length = Rs.length) (o3 : ∀ i (h1 : i < rs.length) (h2 : i < Rs.length), rs[i] = Rs[i].words (rs[i]).data ∧ OwnBytes w w0.heap.size (rs[i]).data.v Rs[i].data)
    (o1 : w.ownsRow w0.heap.size 27 12 v Rs.length (rs.flatMap RecV.cells)) (hd : OwnBytes w w0.heap.size sl.v R.data) (hg : (w.alloc (.cells (recArr (R.words sl)) 27)).grownBy w1 v.ownBlock)
    (hn : w1.ownsRow w0.heap.size 27 12 o (Rs.length + 1) (rs.flatMap RecV.cells ++ (R.words sl).cells)) : LaidSt w0 w1 s o (Rs ++ [R]) := by
  have hb : Below w.heap.size w (w.alloc (.cells (recArr (R.words sl)) 27)) := boxd (Below.refl _ _)
  have p1 := own_through o1 hb
  have kb := h.box.below hb (blk_lt h.box)
  have hlt := blk_lt h.box
  refine ⟨OwnRecs.grown (r := R.words sl) o2 (fun i a b => ⟨(o3 i a b).1, (o3 i a b).2.through hb⟩) p1 rfl (hd.through hb) hn hg, blk_grown kb hg (Ne.symm (own_ne_blk' p1 kb (by decide))), ?_⟩
  exact (then_ h.below hb).grown hg (by simp; omega) (fun q hq => (p1.lt q hq).1)
section
variable {ops : Array Oper} {o : Oper} {a : Act} {Q : Exit → Act → World → Prop} {w0 w W : World} {s : SagaV} {v : Value} {Rs : List RecD}
theorem wpList_rec {rest : List Oper} (hgd : o.guard = none) (x y : Operand) (ho : o.op = .call { callee := .builtin .append, args := #[x, y], argTypes := #[38, 38] }) (h : LaidSt w0 w s v Rs) (R : RecD) (sl : Sl) (hW : W = w.alloc (.cells (recArr (R.words sl)) 27)) (hx : a.eval x = v) (hd : OwnBytes w w0.heap.size sl.v R.data)
    (hy : a.eval y = .slice (some ⟨w.heap.size, 0, none⟩) 1 1) (hlen : Rs.length ≤ 5000) (k : ∀ v' w', LaidSt w0 w' s v' (Rs ++ [R]) → wpList Tryd.prog ops Q rest (a.put o.dst v') w') : wpList Tryd.prog ops Q (o :: rest) a W := by
  subst hW
  obtain ⟨i0, hi0, hz0, hz1, hz2⟩ := info_parts infoRec
  obtain ⟨rs, o1, o2, o3⟩ := h.own
  have hlt := blk_lt h.box
  refine wpList_append_lies _ hgd x y _ ho w0.heap.size 27 i0 _ 12 120 Tryd.underlying38 hi0 hz0 hz1 hz2 rfl (by omega) v Rs.length (rs.flatMap RecV.cells) hx (o1.alloc _) ⟨w.heap.size, 0, none⟩ 1 1 (R.words sl).cells hy rfl
    (World.news_of_block (cs := recArr (R.words sl)) (t := 27) (fr := (0, 0)) (heap_alloc_new w _)) (by simp [RecV.cells, Value.oneCell']) (by omega) (by simp only [maxLen]; omega) (by omega) (by simp; omega) (w.heap.size + 1) (by simp) ?_
  intro gg cap w' hn hg hat hl
  exact k _ _ (laid_end h o2 o3 o1 hd hg hn)
theorem step_rec {K : Act → World → Prop} {E : Prop} (hgd : o.guard = none) (x y : Operand) (ho : o.op = .call { callee := .builtin .append, args := #[x, y], argTypes := #[38, 38] }) (h : LaidSt w0 w s v Rs) (R : RecD) (sl : Sl) (hW : W = w.alloc (.cells (recArr (R.words sl)) 27)) (hx : a.eval x = v) (hd : OwnBytes w w0.heap.size sl.v R.data)
    (hy : a.eval y = .slice (some ⟨w.heap.size, 0, none⟩) 1 1) (hlen : Rs.length ≤ 5000) (k : ∀ v' w', LaidSt w0 w' s v' (Rs ++ [R]) → K (a.put o.dst v') w') : if Region.wanted o (yielded ops a.tmps) = true then Oper.wp Tryd.prog o a W K Q else E := by
  subst hW
  obtain ⟨i0, hi0, hz0, hz1, hz2⟩ := info_parts infoRec
  obtain ⟨rs, o1, o2, o3⟩ := h.own
  have hlt := blk_lt h.box
  refine step_append_lies _ hgd x y _ ho w0.heap.size 27 i0 _ 12 120 Tryd.underlying38 hi0 hz0 hz1 hz2 rfl (by omega) v Rs.length (rs.flatMap RecV.cells) hx (o1.alloc _) ⟨w.heap.size, 0, none⟩ 1 1 (R.words sl).cells hy rfl
    (World.news_of_block (cs := recArr (R.words sl)) (t := 27) (fr := (0, 0)) (heap_alloc_new w _)) (by simp [RecV.cells, Value.oneCell']) (by omega) (by simp only [maxLen]; omega) (by omega) (by simp; omega) (w.heap.size + 1) (by simp) ?_
  intro gg cap w' hn hg hat hl
  exact k _ _ (laid_end h o2 o3 o1 hd hg hn)
end
theorem laid_lit {w0 w : World} {s : SagaV} (hbox : BlkAt w w0.heap.size (sagaArr s) 25) (hb : Below w0.heap.size w0 w) (R : RecD) (sl : Sl) (hd : OwnBytes w w0.heap.size sl.v R.data) : LaidSt w0 (w.alloc (.cells (recArr (R.words sl)) 27)) s (.slice (some ⟨w.heap.size, 0, none⟩) 1 1) [R] := by
  have hlt := blk_lt hbox
  have hb1 : Below w.heap.size w (w.alloc (.cells (recArr (R.words sl)) 27)) := boxd (Below.refl _ _)
  refine ⟨⟨[R.words sl], ?_, rfl, fun i h1 h2 => ?_⟩, hbox.push _, then_ hb hb1⟩
  · have := World.ownsRow_lit (e := 27) (size := 12) (base := w0.heap.size) w (recArr (R.words sl)) 1 (by omega) (by simp [maxLen]) rfl
    rw [show [R.words sl].flatMap RecV.cells = (recArr (R.words sl)).toList from List.append_nil _]; exact this
  · have e : i = 0 := by simp at h1; omega
    subst e
    exact ⟨rfl, hd.through hb1⟩
theorem own_nilB (w : World) (b : Nat) : OwnBytes w b nilSl.v [] := World.ownsRow_nil _ _ _ _

/-- What a story's way needs of the saga that it tells. -/
structure LayCtx (w : World) (s : SagaV) (D : SagaD) (oa : Option Addr) (on oc : Nat) (ua : Option Addr) (un uc : Nat) (vs us : List Sl) (ph trs nx fst : Int) (flg : Bool) : Prop where
  h0 : (sagaArr s)[0]? = some (.int .i64 D.id)
  h1 : (sagaArr s)[1]? = some (.string D.name)
  h2 : (sagaArr s)[2]? = some (.int .i64 D.count)
  h3 : (sagaArr s)[3]? = some (.int .i64 D.pivot)
  h4 : (sagaArr s)[4]? = some (.int .i64 D.begun)
  h5 : (sagaArr s)[5]? = some (.int .i64 D.at_)
  h6 : (sagaArr s)[6]? = some s.input.v
  h7 : (sagaArr s)[7]? = some (.int .i64 ph)
  h8 : (sagaArr s)[8]? = some (.int .i64 nx)
  h9 : (sagaArr s)[9]? = some (.bool flg)
  h10 : (sagaArr s)[10]? = some (.int .i64 trs)
  h11 : (sagaArr s)[11]? = some (.slice oa on oc)
  h12 : (sagaArr s)[12]? = some (.slice ua un uc)
  h13 : (sagaArr s)[13]? = some (.int .i64 fst)
  h14 : (sagaArr s)[14]? = some (.int .i64 D.failCode)
  h15 : (sagaArr s)[15]? = some s.fail.v
  qph : D.phase = ph
  qnx : D.next = nx
  qflg : D.flight = flg
  qtrs : D.tries = trs
  qfst : D.failStep = fst
  qon : on = D.outs.length
  qun : un = D.undos.length
  ro : 0 < on → ∃ b o, oa = some ⟨b, o, none⟩ ∧ ∀ i, i < on → w.cell? ⟨b, o + i, none⟩ = (vs.map Sl.v)[i]?
  ru : 0 < un → ∃ b o, ua = some ⟨b, o, none⟩ ∧ ∀ i, i < un → w.cell? ⟨b, o + i, none⟩ = (us.map Sl.v)[i]?
  rol : vs.length = D.outs.length
  rul : us.length = D.undos.length
  rob : ∀ i (h1 : i < vs.length) (h2 : i < D.outs.length), BytesAt w vs[i] D.outs[i]
  rub : ∀ i (h1 : i < us.length) (h2 : i < D.undos.length), BytesAt w us[i] D.undos[i]
  ri : BytesAt w s.input D.input
  rf : BytesAt w s.fail D.fail
  small : D.held.Small
theorem lay_ctx {w : World} {s : SagaV} {D : SagaD} (hs : SagaRd w s D) (hm : D.held.Small) : ∃ oa on oc ua un uc vs us ph trs nx fst flg, LayCtx w s D oa on oc ua un uc vs us ph trs nx fst flg := by
  obtain ⟨si, so, su, sf, rfl⟩ : ∃ i o u f, s = D.words i o u f := ⟨_, _, _, _, hs.eq⟩
  obtain ⟨vs, ro, rol, rob⟩ := hs.held.outs
  obtain ⟨us, ru, rul, rub⟩ := hs.held.undos
  refine ⟨so.a, so.n, so.c, su.a, su.n, su.c, vs, us, _, _, _, _, _, ⟨rfl, rfl, rfl, rfl, rfl, rfl, rfl, rfl, rfl, rfl, rfl, rfl, rfl, rfl, rfl, rfl, rfl, rfl, rfl, rfl, rfl, ?_, ?_, ro.2.2, ru.2.2, rol, rul, rob, rub, hs.held.input, hs.held.fail, hm⟩⟩
  · have := ro.len; simp at this; rw [this]; exact rol
  · have := ru.len; simp at this; rw [this]; exact rul
theorem i64_wrap (n : Int) : IntKind.i64.wrap n = wrap64 n := by rw [IntKind.wrap_i64]; unfold wrap64; rfl
theorem getD_small {l : List (List Int)} (h : ∀ d ∈ l, d.length ≤ 1073741824) (n : Nat) : (l.getD n []).length ≤ 1073741824 := by
  by_cases k : n < l.length
  · rw [List.getD_eq_getElem?_getD, List.getElem?_eq_getElem k]; exact h _ (List.getElem_mem k)
  · rw [List.getD_eq_getElem?_getD, List.getElem?_eq_none (by omega)]; simp
theorem undosW_len (D : SagaD) (n : Nat) : (undosW D n).length = 2 * n := by
  induction n with
  | zero => rfl
  | succ n ih => rw [undosW_succ, List.length_append, ih]; simp; omega
theorem midW_len {D : SagaD} (h : D.undos.length ≤ 32) : (midW D).length ≤ 66 := by
  unfold midW
  split
  · rw [List.length_append, undosW_len]; simp; omega
  · simp

/-- The reference's told lays the story of this saga. -/
def ToldOk (D : SagaD) : Prop := ∀ (s : SagaV) (w : World), SagaRd w s D → Calls Tryd.prog 91 #[s.val] w fun e w' => ∃ v, e = .returned v ∧ OwnRecs w' w.heap.size v (beginR D :: tellW D) ∧ Below w.heap.size w w'
end Go.Proofs.YteaiadpigpehaaaDoor
