/-
  ReplayEnded: how its loop stands. Conditions: as each theorem says.
-/
import Derived.Test.YtfbaliimjmimhaaDoorFoldUse
namespace Go.Proofs.YtfbaliimjmimhaaDoor
open Go.RowKit

/-- A row of sagas grows: no row of bytes, lists, records turns. -/
theorem recs_row {w w' : World} {b n : Nat} {v : Value} {xs : List Value} (h : w.ownsRow b 40 16 v n xs) (hg : w.grownBy w' v.ownBlock) : RecsKept w w' := by
  refine ⟨rows_row h hg, fun k cur hc => hg.block k (Array.getElem?_eq_some_iff.1 hc).1 (fun e' => ?_)⟩
  rcases h.2 with ⟨rfl, _⟩ | ⟨g, cap, c2, rfl, _, hgg, _⟩
  · cases e'
  · simp only [Value.ownBlock, Option.some.injEq] at e'
    subst e'
    rw [hgg] at hc
    simp at hc
theorem RecsKept.below {w w' : World} (h : Below w.heap.size w w') : RecsKept w w' := ⟨RowsKept.below h, fun k _ hc => h.block k (Array.getElem?_eq_some_iff.1 hc).1⟩
/-- The cells of a row of sagas of one's own. -/
theorem OwnSagas.cells {w : World} {B : Nat} {va : Option Addr} {vn vc : Nat} {Ss : List SagaD} (h : OwnSagas w B (.slice va vn vc) Ss) : vn = Ss.length ∧ ∃ ss : List SagaV, ss.length = Ss.length ∧ (0 < vn → ∃ b o, va = some ⟨b, o, none⟩ ∧ ∀ i (h1 : i < ss.length), ∀ j, j < 16 → w.cell? ⟨b, o + i * 16 + j, none⟩ = (ss[i]).cells[j]?) ∧ ∀ i (h1 : i < ss.length) (h2 : i < Ss.length), SagaOwn w B ss[i] Ss[i] := by
  obtain ⟨rs, ⟨hl, h1⟩, h2, h3⟩ := h
  rcases h1 with ⟨e, h0⟩ | ⟨g, cap, cur, e, hb, hh, hc, hm, hz, ht⟩
  · simp only [Value.slice.injEq] at e
    obtain ⟨rfl, rfl, rfl⟩ := e
    exact ⟨h0.symm, rs, h2, fun h => by simp at h, h3⟩
  · simp only [Value.slice.injEq] at e
    obtain ⟨rfl, rfl, rfl⟩ := e
    refine ⟨rfl, rs, h2, fun _ => ⟨g, 0, rfl, fun i hi j hj => ?_⟩, h3⟩
    have hlt : i * 16 + j < Ss.length * 16 := by omega
    have e2 : w.cell? ⟨g, 0 + i * 16 + j, none⟩ = cur[i * 16 + j]? := by
      rw [Nat.zero_add]
      exact BlkAt.cell (show BlkAt w g cur _ from hh) _
    rw [e2, ← Array.getElem?_toList, ← flat_sagas rs i j hi hj, ← ht, List.getElem?_take, if_pos hlt]
theorem cut16o_any (s : Sl) (Rs : List RecD) (w : World) (h : RecsAt w s Rs) (hsc : s.n ≤ s.c) (hd : ∀ R ∈ Rs, LawRec R) :
    Calls Tryd.prog 8 #[.slice s.a s.n s.c, .int .i64 16385] w fun e w' => ∃ v : Sl, e = .returned (.slice v.a v.n v.c) ∧ v.n = (cutL 16385 Rs).length ∧ OwnRecs w' w.heap.size (.slice v.a v.n v.c) (cutL 16385 Rs) ∧ Below w.heap.size w w' := by
  refine (cut_any s Rs 16385 w h hsc (fun R hR => (hd R hR).len) (by decide)).mono ?_
  rintro e w' ⟨v, rfl, ho, hb⟩
  exact ⟨v, rfl, ho.recsIn.len, ho, hb⟩
theorem left_legal {l : List RecD} (Ss : List SagaD) (h : (foldB noBag l).2 = l.length) : (foldB noBag (leftL Ss l)).2 = (leftL Ss l).length := (fold_left (f := noBag) (fun id => !endedB Ss id) h).1
theorem leftL_mem {l : List RecD} {Ss : List SagaD} {R : RecD} (h : R ∈ leftL Ss l) : R ∈ l := (List.mem_filter.1 h).1
theorem leftL_len (l : List RecD) (Ss : List SagaD) : (leftL Ss l).length ≤ l.length := List.length_filter_le _ _
theorem sum_ge {g : SagaD → Nat} : ∀ {Ts : List SagaD}, (∀ D ∈ Ts, 1 ≤ g D) → Ts.length ≤ (Ts.map g).sum
  | [], _ => Nat.le_refl _
  | D :: Ts, h => by
    have := sum_ge (Ts := Ts) (fun E hE => h E (List.mem_cons_of_mem _ hE))
    have := h D (by simp)
    rw [List.map_cons, List.sum_cons, List.length_cons]; omega
theorem state_len {l : List RecD} {Ss : List SagaD} (h : (foldB noBag l).2 = l.length) (hg : GoodBag (foldB noBag l).1) (hs : StateOf (foldB noBag l).1 Ss) : Ss.length ≤ l.length := by
  rw [← state_sum h hg hs]
  refine sum_ge (fun D hD => ?_)
  have e := (hs.mem D).1 hD
  rw [fold_at l noBag h] at e
  cases hl : ofB D.id l with
  | nil => rw [hl] at e; cases e
  | cons X m => simp
theorem But.cell {w w' : World} {b m : Nat} {a : Addr} (h : But w w' b m) (hl : a.block < w.heap.size) (h1 : a.block ≠ b) (h2 : a.block ≠ m) : w'.cell? a = w.cell? a := by
  unfold World.cell?
  rw [h.block _ hl h1 h2]
theorem size_int11 : (Tryd.prog.info? 3).map (·.size) = some 1 := by kernel_rfl
structure EndSt (X wr : World) (B j : Nat) (left : Value) (u : Sl) (Ss : List SagaD) (G : List RecD) : Prop where
  left : OwnRecs wr B left (leftL (Ss.take j) G)
  box : BlkAt wr X.heap.size #[.int .i64 0, .slice u.a u.n u.c] 27
  row : ∃ ss : List SagaV, wr.ownsRow X.heap.size 40 16 (.slice u.a u.n u.c) (liveL (Ss.take j)).length (ss.flatMap SagaV.cells) ∧ ss.length = (liveL (Ss.take j)).length ∧ ∀ i (h1 : i < ss.length) (h2 : i < (liveL (Ss.take j)).length), SagaOwn wr B ss[i] (liveL (Ss.take j))[i]
  below : Below X.heap.size X wr
theorem EndSt.own {X wr : World} {B j : Nat} {left : Value} {u : Sl} {Ss : List SagaD} {G : List RecD} (h : EndSt X wr B j left u Ss G) (hB : B ≤ X.heap.size) : OwnSagas wr B (.slice u.a u.n u.c) (liveL (Ss.take j)) := by
  obtain ⟨ss, h1, h2, h3⟩ := h.row
  exact ⟨ss, own_lower h1 hB, h2, h3⟩
theorem EndSt.ended {X wr w' : World} {B j : Nat} {left v : Value} {u : Sl} {Ss : List SagaD} {G : List RecD} {D : SagaD} (h : EndSt X wr B j left u Ss G) (hj : j < Ss.length) (hD : Ss[j] = D) (hp : 3 ≤ D.phase) (ho : OwnRecs w' B v (ofP D.id true (leftL (Ss.take j) G))) (hb : Below wr.heap.size wr w') : EndSt X w' B (j + 1) v u Ss G := by
  have e := List.take_succ_eq_append_getElem hj
  rw [hD] at e
  obtain ⟨ss, h1, h2, h3⟩ := h.row
  refine ⟨?_, h.box.below hb (blk_lt h.box), ?_, then_ h.below hb⟩
  · rw [e, leftL_snoc, if_pos hp, ← ofP_true]; exact ho
  · rw [e, liveL_snoc, if_pos hp]
    exact ⟨ss, own_through h1 hb, h2, fun i a b => (h3 i a b).through hb⟩
theorem EndSt.live {X wr w5 w6 w7 : World} {B j gg cap LN : Nat} {left : Value} {u : Sl} {Ss : List SagaD} {G : List RecD} {ss : List SagaV} {s : SagaV} {D : SagaD} {x : Obj} (h : EndSt X wr B j left u Ss G) (hj : j < Ss.length) (hD : Ss[j] = D) (hp : ¬ 3 ≤ D.phase) (hLN : (liveL (Ss.take j)).length = LN)
    (hb : Below wr.heap.size wr w5) (ho : SagaOwn w5 B s D) (h1 : w5.ownsRow X.heap.size 40 16 (.slice u.a u.n u.c) LN (ss.flatMap SagaV.cells)) (h2 : ss.length = (liveL (Ss.take j)).length) (h3 : ∀ i (h1 : i < ss.length) (h2 : i < (liveL (Ss.take j)).length), SagaOwn w5 B ss[i] (liveL (Ss.take j))[i])
    (hn : w6.ownsRow X.heap.size 40 16 (.slice (some ⟨gg, 0, none⟩) (LN + 1) cap) (LN + 1) (ss.flatMap SagaV.cells ++ s.cells)) (hg : (w5.alloc x).grownBy w6 (Value.slice u.a u.n u.c).ownBlock)
    (hw : Wrote w6 w7 X.heap.size) (hB7 : BlkAt w7 X.heap.size #[.int .i64 0, .slice (some ⟨gg, 0, none⟩) (LN + 1) cap] 27) :
    EndSt X w7 B (j + 1) left ⟨some ⟨gg, 0, none⟩, LN + 1, cap⟩ Ss G := by
  subst hLN
  have e := List.take_succ_eq_append_getElem hj
  rw [hD] at e
  have hbp : Below w5.heap.size w5 (w5.alloc x) := boxd (Below.refl _ _)
  have p1 := own_through h1 hbp
  have K6 : BlkAt w6 X.heap.size _ _ := blk_grown ((h.box.below hb (blk_lt h.box)).push x) hg (Ne.symm (own_no_blk p1 ((h.box.below hb (blk_lt h.box)).push x) (by decide)))
  have r6 := recs_row p1 hg
  have r7 := hw.recs K6 (by decide) (by decide) (by decide)
  refine ⟨?_, hB7, ?_, ?_⟩
  · rw [e, leftL_snoc, if_neg hp]
    exact (((h.left.through hb).through hbp).keep r6).keep r7
  · rw [e, liveL_snoc, if_neg hp]
    refine ⟨ss ++ [s], ?_, by simp [h2], fun i a b => ?_⟩
    · have : w7.ownsRow X.heap.size 40 16 (.slice (some ⟨gg, 0, none⟩) ((liveL (Ss.take j)).length + 1) cap) ((liveL (Ss.take j)).length + 1) (ss.flatMap SagaV.cells ++ s.cells) := own_heap hn (fun k cur hc => hw.other k (fun e' => by
        subst e'
        rw [show w6.heap[X.heap.size]? = _ from K6] at hc
        simp at hc))
      simpa using this
    · have kp : ∀ {t : SagaV} {E : SagaD}, SagaOwn w5 B t E → SagaOwn w7 B t E := fun k => ((k.through hbp).keep r6.rows).keep r7.rows
      by_cases e2 : i < ss.length
      · rw [List.getElem_append_left e2, List.getElem_append_left (by omega)]
        exact kp (h3 i e2 (by omega))
      · have e1 : i = ss.length := by simp at a; omega
        subst e1
        rw [List.getElem_append_right (by omega), List.getElem_append_right (by omega)]
        simp only [h2, Nat.sub_self, List.getElem_cons_zero]
        exact kp ho
  · have b5 := then_ h.below hb
    exact hw.below (((b5.alloc b5.size x).grown hg (by simp; have := b5.size; omega) (fun q hq => (p1.lt q hq).1))) (Nat.le_refl _)
end Go.Proofs.YtfbaliimjmimhaaDoor
