/-
  What the reference's Check plays: a story that is taken, record upon record, leads to a saga that may be.
  What annalsref10.told's walk needs: how a story that is laid stands, a record behind it.
  Conditions: as each theorem says. (Joined by wip/tools/pack.py.)
-/
import Derived.Test.YteaiadpigpehaaaGreatDoorStoryWalk
import Derived.Test.YteaiadpigpehaaaGreatDoorPkLaw
import Derived.Test.YteaiadpigpehaaaGreatDoorRefCopy
import Derived.Test.YteaiadpigpehaaaGreatDoorPkReg
import Derived.Maps.RangeWalk
import Derived.Deep.DeepCutAuto
import Derived.Deep.CutBlock
import Derived.Laws.OwnMore
namespace Go.Proofs.YteaiadpigpehaaaGreatDoor
open Go.RowKit

theorem GoodD.nextb {D : SagaD} (h : GoodD D) : 0 ≤ D.next ∧ D.next ≤ 1000 := by
  have hp := h.plain.count32
  by_cases k : D.phase = 1 ∨ D.phase = 3
  · have := (h.fw k).next; have := (h.fw k).next0; omega
  · have := (h.bk k).next; have := (h.bk k).count; have := (h.bk k).next0; omega
/-- The reference's play: the error, and the saga where it stops. -/
def playR : SagaD → List RecD → Int × SagaD
  | D, [] => (0, D)
  | D, X :: l => if recD X ≠ 0 then (recD X, D) else if refusedD D X ≠ 0 then (refusedD D X, D) else playR (movedD D X) l
theorem playR_err {D : SagaD} {X : RecD} {l : List RecD} (h : recD X ≠ 0) : playR D (X :: l) = (recD X, D) := by unfold playR; rw [if_pos h]
theorem playR_ref {D : SagaD} {X : RecD} {l : List RecD} (h : recD X = 0) (h2 : refusedD D X ≠ 0) : playR D (X :: l) = (refusedD D X, D) := by unfold playR; rw [if_neg (by simp [h]), if_pos h2]
theorem playR_step {D : SagaD} {X : RecD} {l : List RecD} (h : recD X = 0) (h2 : refusedD D X = 0) : playR D (X :: l) = playR (movedD D X) l := by
  show (if recD X ≠ 0 then _ else _) = _
  rw [if_neg (by simp [h]), if_neg (by simp [h2])]
theorem taken_good {D : SagaD} {X : RecD} (hg : GoodD D) (hv : X.v = 3) (h : recD X = 0) (h2 : refusedD D X = 0) : RecGood X ∧ TakenD D X ∧ GoodD (movedD D X) := by
  have hx := recGood h
  rw [up3_3 hv] at hx
  have ht := (refused_iff ⟨hx.kind1, hx.kind7⟩ hg.nextb).1 h2
  exact ⟨hx, ht, good_step hg hx ht⟩
theorem playR_good {l : List RecD} : ∀ {S : SagaD}, GoodD S → (∀ X ∈ l, X.v = 3) → (playR S l).1 = 0 → GoodD (playR S l).2 := by
  induction l with
  | nil => intro S hg _ _; exact hg
  | cons X l ih =>
    intro S hg hv h
    by_cases h1 : recD X = 0
    · by_cases h2 : refusedD S X = 0
      · rw [playR_step h1 h2] at h ⊢
        exact ih (taken_good hg (hv X (by simp)) h1 h2).2.2 (fun Y hY => hv Y (by simp [hY])) h
      · rw [playR_ref h1 h2] at h; exact absurd h h2
    · rw [playR_err h1] at h; exact absurd h h1
theorem playR_plays {l : List RecD} : ∀ {S E : SagaD}, (∀ X ∈ l, X.v = 3) → PlaysD S l E → playR S l = (0, E) := by
  induction l with
  | nil => intro S E _ h; cases h; rfl
  | cons X l ih =>
    intro S E hv h
    obtain ⟨h1, h2⟩ := h
    have e := up3_3 (hv X (by simp))
    obtain ⟨_, a2, a3⟩ := applyN_0 h1
    have a4 := (apply_taken h1).2.2.2.1
    rw [e] at a3 a4
    rw [playR_step a2 a3, ← a4]
    exact ih (fun Y hY => hv Y (by simp [hY])) h2
/-- Are a story's bounds kept? -/
def sizedD (D : SagaD) : Bool := decide ((nameA D.name).1 = 0 ∧ 1 ≤ D.id ∧ 1 ≤ D.count ∧ D.count ≤ 32 ∧ 0 ≤ D.tries ∧ D.tries ≤ 1000 ∧ 1 ≤ D.phase ∧ D.phase ≤ 4 ∧ D.outs.length ≤ 32 ∧ D.undos.length ≤ 32 ∧ (0 < D.tries ∨ D.flight = false))
theorem GoodD.sized {D : SagaD} (h : GoodD D) : sizedD D = true := by
  have p := h.plain
  refine decide_eq_true ⟨p.name, p.id, p.count1, p.count32, p.tries0, p.tries1000, p.phase1, p.phase4, h.outs32, h.undos32, ?_⟩
  cases hf : D.flight with
  | false => exact .inr rfl
  | true => have := p.flight hf; have := p.tries0; exact .inl (by omega)
/-- The story as the reference lays it: its numbers wrap. -/
def undosW (D : SagaD) (n : Nat) : List RecD := (List.range n).flatMap fun (j : Nat) => [startR D 5 (wrap64 (wrap64 (D.failStep - 1) - (j : Int))) 1, doneR D 6 (wrap64 (wrap64 (D.failStep - 1) - (j : Int))) (D.undos.getD j [])]
def midW (D : SagaD) : List RecD := if backP D then [startR D 2 D.failStep 1, failR D D.failStep 1 D.failCode D.fail] ++ undosW D D.undos.length else []
def lastW (D : SagaD) : List RecD := triesL D (if backP D then 5 else 2) (if backP D then wrap64 (D.next - 1) else D.next) D.tries.toNat
def tellW (D : SagaD) : List RecD := outsL D D.outs.length ++ (midW D ++ (lastW D ++ endL D))
theorem undosW_succ (D : SagaD) (n : Nat) : undosW D (n + 1) = undosW D n ++ [startR D 5 (wrap64 (wrap64 (D.failStep - 1) - (n : Int))) 1, doneR D 6 (wrap64 (wrap64 (D.failStep - 1) - (n : Int))) (D.undos.getD n [])] := by
  unfold undosW; rw [List.range_succ, List.flatMap_append]; simp
theorem undosW_eq {D : SagaD} (h : 0 ≤ D.failStep ∧ D.failStep ≤ 1000) : ∀ n : Nat, n ≤ 1000 → undosW D n = undosL D n := by
  intro n
  induction n with
  | zero => intro _; rfl
  | succ n ih =>
    intro hn
    have e : wrap64 (wrap64 (D.failStep - 1) - (n : Int)) = D.failStep - 1 - (n : Int) := by unfold wrap64; omega
    rw [undosW_succ, undosL_succ, ih (by omega), e]
theorem GoodD.failb {D : SagaD} (h : GoodD D) : 0 ≤ D.failStep ∧ D.failStep ≤ 1000 := by
  have hp := h.plain.count32
  by_cases k : D.phase = 1 ∨ D.phase = 3
  · rw [(h.fw k).failStep]; omega
  · have := (h.bk k).failStep; have := (h.bk k).count; omega
theorem tellW_eq {D : SagaD} (h : GoodD D) : tellW D = tellD D := by
  have hn := h.nextb
  have hu := h.undos32
  have e : wrap64 (D.next - 1) = D.next - 1 := by unfold wrap64; omega
  unfold tellW tellD midW midL lastW lastL
  rw [undosW_eq h.failb _ (by omega), e]
theorem all_v3 {l m : List RecD} (h : ∀ X ∈ l, X.v = 3) (k : ∀ X ∈ m, X.v = 3) : ∀ X ∈ l ++ m, X.v = 3 := fun X hX => (List.mem_append.1 hX).elim (h X) (k X)
theorem tellW_v3 (D : SagaD) : ∀ X ∈ tellW D, X.v = 3 := by
  unfold tellW
  refine all_v3 ?_ (all_v3 ?_ (all_v3 ?_ ?_))
  · intro X hX
    obtain ⟨i, _, h⟩ := List.mem_flatMap.1 hX
    simp at h
    rcases h with rfl | rfl <;> rfl
  · unfold midW
    split
    · refine all_v3 (fun X hX => ?_) (fun X hX => ?_)
      · simp at hX
        rcases hX with rfl | rfl <;> rfl
      · obtain ⟨i, _, h⟩ := List.mem_flatMap.1 hX
        simp at h
        rcases h with rfl | rfl <;> rfl
    · intro X hX; cases hX
  · intro X hX
    obtain ⟨i, _, h⟩ := List.mem_flatMap.1 hX
    simp only [List.mem_cons] at h
    rcases h with rfl | h
    · rfl
    · split at h
      · simp at h; rw [h]
      · cases h
  · unfold endL
    intro X hX
    split at hX
    · simp at hX; rw [hX]
    · split at hX
      · simp at hX; rw [hX]
      · cases hX
/-- What the reference's Check answers. -/
def refCheckN (D : SagaD) : Int := if sizedD D = false then 100 else if beginN (beginR D) ≠ 0 then 100 else if (playR (beginD (beginR D)) (tellW D)).1 ≠ 0 then 100 else if sameB (playR (beginD (beginR D)) (tellW D)).2 D = false then 100 else 0
/-- **The reference checks as the program does.** -/
theorem refCheck_eq {D : SagaD} (hb : D.begun ≤ 9223372036854775807) (ha : D.at_ ≤ 9223372036854775807) : refCheckN D = checkD D := by
  by_cases hc : checkD D = 0
  · have hg := (checkD_iff D).1 hc
    obtain ⟨b1, b2⟩ := begin_story hg hb
    have hp := playR_plays (tellW_v3 D) (by rw [tellW_eq hg]; exact story_plays hg hb ha : PlaysD (startD D) (tellW D) D)
    unfold refCheckN
    rw [if_neg (by simp [hg.sized]), if_neg (by simp [b1]), b2, hp, if_neg (by simp), if_neg (by simp [sameB_refl]), hc]
  · rw [checkD_not hc]
    unfold refCheckN
    by_cases h1 : sizedD D = false
    · rw [if_pos h1]
    · rw [if_neg h1]
      by_cases h2 : beginN (beginR D) ≠ 0
      · rw [if_pos h2]
      · rw [if_neg h2]
        have h2' : beginN (beginR D) = 0 := by simpa using h2
        by_cases h3 : (playR (beginD (beginR D)) (tellW D)).1 ≠ 0
        · rw [if_pos h3]
        · rw [if_neg h3]
          have h3' : (playR (beginD (beginR D)) (tellW D)).1 = 0 := by simpa using h3
          have hg := playR_good (begin_taken h2').2.2.2 (tellW_v3 D) h3'
          rw [if_pos]
          cases hs : sameB (playR (beginD (beginR D)) (tellW D)).2 D with
          | false => rfl
          | true => rw [sameB_iff.1 hs] at hg; exact absurd ((checkD_iff D).2 hg) hc
end Go.Proofs.YteaiadpigpehaaaGreatDoor
namespace Go.Proofs.YteaiadpigpehaaaGreatDoor
open Go.RowKit

/-- How a story that the reference lays stands. -/
structure LaidSt (w0 w : World) (s : SagaV) (v : Value) (Rs : List RecD) : Prop where
  own : OwnRecs w w0.heap.size v Rs
  box : BlkAt w w0.heap.size (sagaArr s) 29
  below : Below w0.heap.size w0 w
theorem LaidSt.bl {w0 w w' : World} {s : SagaV} {v : Value} {Rs : List RecD} (h : LaidSt w0 w s v Rs) (hb : Below w.heap.size w w') : LaidSt w0 w' s v Rs := ⟨h.own.through hb, h.box.below hb (blk_lt h.box), then_ h.below hb⟩
theorem laid_end {w0 w w1 : World} {s : SagaV} {v o : Value} {Rs : List RecD} {rs : List RecV} {R : RecD} {sl : Sl} (h : LaidSt w0 w s v Rs) (o2 : rs.length = Rs.length) (o3 : ∀ i (h1 : i < rs.length) (h2 : i < Rs.length), rs[i] = Rs[i].words (rs[i]).data ∧ OwnBytes w w0.heap.size (rs[i]).data.v Rs[i].data)
    (o1 : w.ownsRow w0.heap.size 31 12 v Rs.length (rs.flatMap RecV.cells)) (hd : OwnBytes w w0.heap.size sl.v R.data) (hg : (w.alloc (.cells (recArr (R.words sl)) 31)).grownBy w1 v.ownBlock)
    (hn : w1.ownsRow w0.heap.size 31 12 o (Rs.length + 1) (rs.flatMap RecV.cells ++ (R.words sl).cells)) : LaidSt w0 w1 s o (Rs ++ [R]) := by
  have hb : Below w.heap.size w (w.alloc (.cells (recArr (R.words sl)) 31)) := boxd (Below.refl _ _)
  have p1 := own_through o1 hb
  have kb := h.box.below hb (blk_lt h.box)
  have hlt := blk_lt h.box
  refine ⟨OwnRecs.grown (r := R.words sl) o2 (fun i a b => ⟨(o3 i a b).1, (o3 i a b).2.through hb⟩) p1 rfl (hd.through hb) hn hg, blk_grown kb hg (Ne.symm (own_ne_blk' p1 kb (by decide))), ?_⟩
  exact (then_ h.below hb).grown hg (by simp; omega) (fun q hq => (p1.lt q hq).1)
section
variable {ops : Array Oper} {o : Oper} {a : Act} {Q : Exit → Act → World → Prop} {w0 w W : World} {s : SagaV} {v : Value} {Rs : List RecD}
theorem wpList_rec {rest : List Oper} (hgd : o.guard = none) (x y : Operand) (ho : o.op = .call { callee := .builtin .append, args := #[x, y], argTypes := #[57, 57] }) (h : LaidSt w0 w s v Rs) (R : RecD) (sl : Sl) (hW : W = w.alloc (.cells (recArr (R.words sl)) 31)) (hx : a.eval x = v) (hd : OwnBytes w w0.heap.size sl.v R.data)
    (hy : a.eval y = .slice (some ⟨w.heap.size, 0, none⟩) 1 1) (hlen : Rs.length ≤ 5000) (k : ∀ v' w', LaidSt w0 w' s v' (Rs ++ [R]) → wpList Tryz.prog ops Q rest (a.put o.dst v') w') : wpList Tryz.prog ops Q (o :: rest) a W := by
  subst hW
  obtain ⟨i0, hi0, hz0, hz1, hz2⟩ := info_parts infoRec
  obtain ⟨rs, o1, o2, o3⟩ := h.own
  have hlt := blk_lt h.box
  refine wpList_append_lies _ hgd x y _ ho w0.heap.size 31 i0 _ 12 120 Tryz.underlying57 hi0 hz0 hz1 hz2 rfl (by omega) v Rs.length (rs.flatMap RecV.cells) hx (o1.alloc _) ⟨w.heap.size, 0, none⟩ 1 1 (R.words sl).cells hy rfl
    (World.news_of_block (cs := recArr (R.words sl)) (t := 31) (fr := (0, 0)) (heap_alloc_new w _)) (by simp [RecV.cells, Value.oneCell']) (by omega) (by simp only [maxLen]; omega) (by omega) (by simp; omega) (w.heap.size + 1) (by simp) ?_
  intro gg cap w' hn hg hat hl
  exact k _ _ (laid_end h o2 o3 o1 hd hg hn)
theorem step_rec {K : Act → World → Prop} {E : Prop} (hgd : o.guard = none) (x y : Operand) (ho : o.op = .call { callee := .builtin .append, args := #[x, y], argTypes := #[57, 57] }) (h : LaidSt w0 w s v Rs) (R : RecD) (sl : Sl) (hW : W = w.alloc (.cells (recArr (R.words sl)) 31)) (hx : a.eval x = v) (hd : OwnBytes w w0.heap.size sl.v R.data)
    (hy : a.eval y = .slice (some ⟨w.heap.size, 0, none⟩) 1 1) (hlen : Rs.length ≤ 5000) (k : ∀ v' w', LaidSt w0 w' s v' (Rs ++ [R]) → K (a.put o.dst v') w') : if Region.wanted o (yielded ops a.tmps) = true then Oper.wp Tryz.prog o a W K Q else E := by
  subst hW
  obtain ⟨i0, hi0, hz0, hz1, hz2⟩ := info_parts infoRec
  obtain ⟨rs, o1, o2, o3⟩ := h.own
  have hlt := blk_lt h.box
  refine step_append_lies _ hgd x y _ ho w0.heap.size 31 i0 _ 12 120 Tryz.underlying57 hi0 hz0 hz1 hz2 rfl (by omega) v Rs.length (rs.flatMap RecV.cells) hx (o1.alloc _) ⟨w.heap.size, 0, none⟩ 1 1 (R.words sl).cells hy rfl
    (World.news_of_block (cs := recArr (R.words sl)) (t := 31) (fr := (0, 0)) (heap_alloc_new w _)) (by simp [RecV.cells, Value.oneCell']) (by omega) (by simp only [maxLen]; omega) (by omega) (by simp; omega) (w.heap.size + 1) (by simp) ?_
  intro gg cap w' hn hg hat hl
  exact k _ _ (laid_end h o2 o3 o1 hd hg hn)
end
theorem laid_lit {w0 w : World} {s : SagaV} (hbox : BlkAt w w0.heap.size (sagaArr s) 29) (hb : Below w0.heap.size w0 w) (R : RecD) (sl : Sl) (hd : OwnBytes w w0.heap.size sl.v R.data) : LaidSt w0 (w.alloc (.cells (recArr (R.words sl)) 31)) s (.slice (some ⟨w.heap.size, 0, none⟩) 1 1) [R] := by
  have hlt := blk_lt hbox
  have hb1 : Below w.heap.size w (w.alloc (.cells (recArr (R.words sl)) 31)) := boxd (Below.refl _ _)
  refine ⟨⟨[R.words sl], ?_, rfl, fun i h1 h2 => ?_⟩, hbox.push _, then_ hb hb1⟩
  · have := World.ownsRow_lit (e := 31) (size := 12) (base := w0.heap.size) w (recArr (R.words sl)) 1 (by omega) (by simp [maxLen]) rfl
    rw [show [R.words sl].flatMap RecV.cells = (recArr (R.words sl)).toList from List.append_nil _]; exact this
  · have e : i = 0 := by simp at h1; omega
    subst e
    exact ⟨rfl, hd.through hb1⟩
theorem own_nilB (w : World) (b : Nat) : OwnBytes w b nilSl.v [] := World.ownsRow_nil _ _ _ _

/-- What a story's way needs of the saga that it tells. -/
structure LayCtx (w : World) (s : SagaV) (D : SagaD) (oa : Option Addr) (on oc : Nat) (ua : Option Addr) (un uc : Nat) (vs us : List Sl) (ph trs nx fst : Int) (flg : Bool) : Prop where
  h0 : (sagaArr s)[0]? = some (.int .i64 D.id)
  h1 : (sagaArr s)[1]? = some (.string D.name)
  h2 : (sagaArr s)[2]? = some (.int .i64 D.count)
  h3 : (sagaArr s)[3]? = some (.int .i64 D.pivot)
  h4 : (sagaArr s)[4]? = some (.int .i64 D.begun)
  h5 : (sagaArr s)[5]? = some (.int .i64 D.at_)
  h6 : (sagaArr s)[6]? = some s.input.v
  h7 : (sagaArr s)[7]? = some (.int .i64 ph)
  h8 : (sagaArr s)[8]? = some (.int .i64 nx)
  h9 : (sagaArr s)[9]? = some (.bool flg)
  h10 : (sagaArr s)[10]? = some (.int .i64 trs)
  h11 : (sagaArr s)[11]? = some (.slice oa on oc)
  h12 : (sagaArr s)[12]? = some (.slice ua un uc)
  h13 : (sagaArr s)[13]? = some (.int .i64 fst)
  h14 : (sagaArr s)[14]? = some (.int .i64 D.failCode)
  h15 : (sagaArr s)[15]? = some s.fail.v
  qph : D.phase = ph
  qnx : D.next = nx
  qflg : D.flight = flg
  qtrs : D.tries = trs
  qfst : D.failStep = fst
  qon : on = D.outs.length
  qun : un = D.undos.length
  ro : 0 < on → ∃ b o, oa = some ⟨b, o, none⟩ ∧ ∀ i, i < on → w.cell? ⟨b, o + i, none⟩ = (vs.map Sl.v)[i]?
  ru : 0 < un → ∃ b o, ua = some ⟨b, o, none⟩ ∧ ∀ i, i < un → w.cell? ⟨b, o + i, none⟩ = (us.map Sl.v)[i]?
  rol : vs.length = D.outs.length
  rul : us.length = D.undos.length
  rob : ∀ i (h1 : i < vs.length) (h2 : i < D.outs.length), BytesAt w vs[i] D.outs[i]
  rub : ∀ i (h1 : i < us.length) (h2 : i < D.undos.length), BytesAt w us[i] D.undos[i]
  ri : BytesAt w s.input D.input
  rf : BytesAt w s.fail D.fail
  small : D.held.Small
theorem lay_ctx {w : World} {s : SagaV} {D : SagaD} (hs : SagaRd w s D) (hm : D.held.Small) : ∃ oa on oc ua un uc vs us ph trs nx fst flg, LayCtx w s D oa on oc ua un uc vs us ph trs nx fst flg := by
  obtain ⟨si, so, su, sf, rfl⟩ : ∃ i o u f, s = D.words i o u f := ⟨_, _, _, _, hs.eq⟩
  obtain ⟨vs, ro, rol, rob⟩ := hs.held.outs
  obtain ⟨us, ru, rul, rub⟩ := hs.held.undos
  refine ⟨so.a, so.n, so.c, su.a, su.n, su.c, vs, us, _, _, _, _, _, ⟨rfl, rfl, rfl, rfl, rfl, rfl, rfl, rfl, rfl, rfl, rfl, rfl, rfl, rfl, rfl, rfl, rfl, rfl, rfl, rfl, rfl, ?_, ?_, ro.2.2, ru.2.2, rol, rul, rob, rub, hs.held.input, hs.held.fail, hm⟩⟩
  · have := ro.len; simp at this; rw [this]; exact rol
  · have := ru.len; simp at this; rw [this]; exact rul
theorem i64_wrap (n : Int) : IntKind.i64.wrap n = wrap64 n := by rw [IntKind.wrap_i64]; unfold wrap64; rfl
theorem getD_small {l : List (List Int)} (h : ∀ d ∈ l, d.length ≤ 1073741824) (n : Nat) : (l.getD n []).length ≤ 1073741824 := by
  by_cases k : n < l.length
  · rw [List.getD_eq_getElem?_getD, List.getElem?_eq_getElem k]; exact h _ (List.getElem_mem k)
  · rw [List.getD_eq_getElem?_getD, List.getElem?_eq_none (by omega)]; simp
theorem undosW_len (D : SagaD) (n : Nat) : (undosW D n).length = 2 * n := by
  induction n with
  | zero => rfl
  | succ n ih => rw [undosW_succ, List.length_append, ih]; simp; omega
theorem midW_len {D : SagaD} (h : D.undos.length ≤ 32) : (midW D).length ≤ 66 := by
  unfold midW
  split
  · rw [List.length_append, undosW_len]; simp; omega
  · simp

/-- The reference's told lays the story of this saga. -/
def ToldOk (D : SagaD) : Prop := ∀ (s : SagaV) (w : World), SagaRd w s D → Calls Tryz.prog 54 #[s.val] w fun e w' => ∃ v, e = .returned v ∧ OwnRecs w' w.heap.size v (beginR D :: tellW D) ∧ Below w.heap.size w w'
end Go.Proofs.YteaiadpigpehaaaGreatDoor
