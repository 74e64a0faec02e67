/-
  A folder's map in memory, the sagas in it in blocks of one's own; a state: a row of sagas of one's own. Conditions: as each theorem says.
-/
import Derived.Test.YtfbaliimjmimhaaDoorFoldLaw
import Derived.Test.YtfbaliimjmimhaaDoorRecs
import Derived.Maps.RangeWalk
namespace Go.Proofs.YtfbaliimjmimhaaDoor
open Go.RowKit

/-- How an element of a folder's map reads: as itself. -/
def heldR (v : Value) : Option (DataW Value × List MemPlace) := some (.held v, [])
theorem key_int : Maps.Keyed Tryd.prog 3 := Maps.int_keyed Tryd.underlying3

/-- Of what was there no block has turned but two. -/
structure But (w w' : World) (b m : Nat) : Prop where
  os : w'.os = w.os
  tape : w'.tape = w.tape
  output : w'.output = w.output
  size : w.heap.size ≤ w'.heap.size
  block : ∀ k, k < w.heap.size → k ≠ b → k ≠ m → w'.heap[k]? = w.heap[k]?
theorem But.of {w w' : World} {b m : Nat} (h : Below w.heap.size w w') : But w w' b m := ⟨h.os, h.tape, h.output, h.size, fun k hk _ _ => h.block k hk⟩
theorem But.trans {w w' w'' : World} {b m : Nat} (h : But w w' b m) (k : But w' w'' b m) : But w w'' b m :=
  ⟨k.os.trans h.os, k.tape.trans h.tape, k.output.trans h.output, Nat.le_trans h.size k.size, fun i hi h1 h2 => (k.block i (Nat.lt_of_lt_of_le hi h.size) h1 h2).trans (h.block i hi h1 h2)⟩
theorem But.grown {w w' : World} {b m : Nat} (h : w.grownBy w' (some m)) : But w w' b m := ⟨h.os, h.tape, h.output, h.size, fun k hk _ h2 => h.block k hk (fun e => h2 (by cases e; rfl))⟩
theorem But.wrote {w w' : World} {b m : Nat} (h : Wrote w w' b) : But w w' b m := ⟨h.os, h.tape, h.output, by rw [h.size]; exact Nat.le_refl _, fun k _ h1 _ => h.other k h1⟩
theorem But.below {w0 w w' : World} {b m B : Nat} (h : But w w' b m) (hb : Below B w0 w) (h0 : B ≤ w.heap.size) (h1 : B ≤ b) (h2 : B ≤ m) : Below B w0 w' :=
  ⟨h.os.trans hb.os, h.tape.trans hb.tape, h.output.trans hb.output, Nat.le_trans hb.size h.size, fun k hk => (h.block k (by omega) (by omega) (by omega)).trans (hb.block k hk)⟩
theorem But.blk {w w' : World} {b m g : Nat} {cs : Array Value} {t : TypeId} (h : But w w' b m) (hk : BlkAt w g cs t) (h1 : g ≠ b) (h2 : g ≠ m) : BlkAt w' g cs t :=
  (h.block g (Array.getElem?_eq_some_iff.1 hk).1 h1 h2).trans hk

/-- What the map's datum says of a bag. -/
structure BagD (w : World) (base : Nat) (f : Bag) (D : DataW Value) : Prop where
  has : ∀ id, (Lit.int .i64 id).wf = true → (Maps.has D (.int .i64 id) = true ↔ f id ≠ none)
  at_ : ∀ id E, f id = some E → (Lit.int .i64 id).wf = true ∧ ∃ s : SagaV, (∀ zd, D.atKey (.int .i64 id) zd = .held s.val) ∧ SagaOwn w base s E
/-- Block m holds a bag of sagas, at most n of them. -/
def BagAt (w : World) (base m n : Nat) (f : Bag) : Prop := base ≤ m ∧ ∃ D : DataW Value, w.ownsMap Tryd.prog 3 heldR m n D ∧ BagD w base f D

theorem BagD.keep {w w' : World} {base : Nat} {f : Bag} {D : DataW Value} (h : BagD w base f D) (k : RowsKept w w') : BagD w' base f D :=
  ⟨h.has, fun id E e => by obtain ⟨h1, s, h2, h3⟩ := h.at_ id E e; exact ⟨h1, s, h2, h3.keep k⟩⟩
theorem BagAt.heap {w w' : World} {base m n : Nat} {f : Bag} (h : BagAt w base m n f) (hm : w'.heap[m]? = w.heap[m]?) (k : RowsKept w w') : BagAt w' base m n f := by
  obtain ⟨h0, D, ⟨es, clock, hb, rest⟩, hd⟩ := h
  exact ⟨h0, D, ⟨es, clock, hm.trans hb, rest⟩, hd.keep k⟩
theorem BagAt.lt {w : World} {base m n : Nat} {f : Bag} (h : BagAt w base m n f) : m < w.heap.size := by
  obtain ⟨_, D, ho, _⟩ := h
  exact ho.lt
theorem BagAt.below {w w' : World} {base m n : Nat} {f : Bag} (h : BagAt w base m n f) (hb : Below w.heap.size w w') : BagAt w' base m n f :=
  h.heap (hb.block m h.lt) (RowsKept.below hb)
theorem BagAt.wrote {w w' : World} {base m n g : Nat} {f : Bag} {cs : Array Value} {t : TypeId} (h : BagAt w base m n f) (hw : Wrote w w' g) (hk : BlkAt w g cs t) (h1 : t ≠ 5) (h2 : t ≠ 37) : BagAt w' base m n f := by
  refine h.heap (hw.other m (fun e => ?_)) (hw.rows hk h1 h2)
  obtain ⟨_, D, ⟨es, clock, hb, _⟩, _⟩ := h
  subst e
  rw [show w.heap[m]? = _ from hk] at hb
  cases hb
theorem BagAt.blk_ne {w : World} {base m n g : Nat} {f : Bag} {cs : Array Value} {t : TypeId} (h : BagAt w base m n f) (hk : BlkAt w g cs t) : g ≠ m := by
  obtain ⟨_, D, ⟨es, clock, hb, _⟩, _⟩ := h
  rintro rfl
  rw [show w.heap[g]? = _ from hk] at hb
  cases hb
theorem BagAt.made (w : World) {base : Nat} (h : base ≤ w.heap.size) : BagAt (w.alloc (.map #[] 0)) base w.heap.size 0 (fun _ => none) :=
  ⟨h, _, World.ownsMap_made w Tryd.prog 3 heldR, ⟨(fun id _ => by simp [Maps.has]), (fun id E e => by cases e)⟩⟩
/-- A map is written: no row turns. -/
theorem rows_map {w w' : World} {m n : Nat} {D : DataW Value} (h : w.ownsMap Tryd.prog 3 heldR m n D) (hg : w.grownBy w' (some m)) : RowsKept w w' := by
  obtain ⟨es, clock, hb, _⟩ := h
  have key : ∀ (e : TypeId) (k : Nat) (cur : Array Value), w.heap[k]? = some (Obj.cells cur e) → w'.heap[k]? = w.heap[k]? := by
    intro e k cur hc
    refine hg.block k (Array.getElem?_eq_some_iff.1 hc).1 (fun e' => ?_)
    cases e'
    rw [hb] at hc
    cases hc
  exact ⟨key _, key _⟩
theorem BagD.put {w w' : World} {base m n : Nat} {f : Bag} {D : DataW Value} {id : Int} {s : SagaV} {E : SagaD} (h : BagD w base f D) (ho : w.ownsMap Tryd.prog 3 heldR m n D) (hw : (Lit.int .i64 id).wf = true) (hs : SagaOwn w base s E)
    (hg : w.grownBy w' (some m)) : BagD w' base (putB f id E) (D.put (.int .i64 id) (.held s.val)) := by
  have hk := rows_map ho hg
  have hD := ho.isMap
  have hkl : ∀ j : Int, WideAt.IsKeyLit (.int .i64 j) := fun j => by first | trivial | simp [WideAt.IsKeyLit]
  refine ⟨fun j hj => ?_, fun j F e => ?_⟩
  · unfold putB
    by_cases e : j = id
    · subst e
      rw [Maps.has_put_same hD (hkl _), if_pos rfl]; simp
    · rw [Maps.has_put_other (by simpa using e), if_neg e]
      exact h.has j hj
  · unfold putB at e
    by_cases e1 : j = id
    · subst e1
      rw [if_pos rfl] at e
      cases e
      exact ⟨hw, s, fun zd => Maps.atKey_put_same hD (hkl _) _ _, hs.keep hk⟩
    · rw [if_neg e1] at e
      obtain ⟨k1, u, k2, k3⟩ := h.at_ j F e
      exact ⟨k1, u, fun zd => by rw [Maps.atKey_put_other (by simpa using e1)]; exact k2 zd, k3.keep hk⟩

/-- A bag that folding makes. -/
structure GoodBag (f : Bag) : Prop where
  good : ∀ id E, f id = some E → GoodD E
  id : ∀ id E, f id = some E → E.id = id
  name : ∀ id E, f id = some E → E.name.size ≤ 4611686018427387904
theorem GoodBag.empty : GoodBag (fun _ => none) := ⟨(fun _ _ h => by cases h), (fun _ _ h => by cases h), (fun _ _ h => by cases h)⟩
theorem GoodBag.fits {f : Bag} {id : Int} {E : SagaD} (h : GoodBag f) (e : f id = some E) : SagaFits E := by
  obtain ⟨h1, h2, h3⟩ := (h.good id E e).fits (h.name id E e)
  exact ⟨h1, h2, h3⟩
theorem moved_id (D : SagaD) (X : RecD) : (movedD D X).id = D.id := by unfold movedD turnD; (repeat' split) <;> rfl
theorem moved_name (D : SagaD) (X : RecD) : (movedD D X).name = D.name := by unfold movedD turnD; (repeat' split) <;> rfl
theorem up3_name_le' {R : RecD} (h : RecFits R) : (up3 R).name.size ≤ 4611686018427387904 := by
  have h1 := h.name
  have h2 := h.len
  unfold up3
  split
  · split
    · show (strOfNums R.data).size ≤ _
      rw [strOfNums_size]; omega
    · split
      · exact h1
      · split <;> exact h1
  · exact h1
theorem one_good {f : Bag} {R : RecD} (h : GoodBag f) (hR : RecFits R) (e : addN f R = 0) : GoodD (oneD (f R.saga) R) ∧ (oneD (f R.saga) R).id = R.saga ∧ (oneD (f R.saga) R).name.size ≤ 4611686018427387904 := by
  unfold addN oneN at e
  split at e
  · next k => exact absurd e k
  · next k =>
    unfold oneD
    cases hs : f R.saga with
    | some D =>
      rw [hs] at e
      simp only at e ⊢
      obtain ⟨_, _, _, a4, a5⟩ := apply_taken e
      refine ⟨a5, ?_, ?_⟩
      · rw [a4, moved_id]; exact h.id _ _ hs
      · rw [a4, moved_name]; exact h.name _ _ hs
    | none =>
      rw [hs] at e
      simp only at e ⊢
      obtain ⟨_, _, a3, a4⟩ := begin_taken e
      refine ⟨a4, ?_, ?_⟩
      · rw [a3]; exact up3_saga R
      · rw [a3]; exact up3_name_le' hR
theorem GoodBag.add {f : Bag} {R : RecD} (h : GoodBag f) (hR : RecFits R) : GoodBag (addB f R) := by
  unfold addB
  split
  · exact h
  · next k =>
    have e : addN f R = 0 := by simpa using k
    obtain ⟨g1, g2, g3⟩ := one_good h hR e
    refine ⟨fun id E q => ?_, fun id E q => ?_, fun id E q => ?_⟩ <;> unfold putB at q <;> split at q
    · cases q; exact g1
    · exact h.good _ _ q
    · next k' => cases q; rw [k']; exact g2
    · exact h.id _ _ q
    · cases q; exact g3
    · exact h.name _ _ q

/-- A row of sagas of one's own. -/
@[reducible] def SagaV.cells (s : SagaV) : List Value := [.int .i64 s.id, .string s.name, .int .i64 s.count, .int .i64 s.pivot, .int .i64 s.begun, .int .i64 s.at_, s.input.v, .int .i64 s.phase, .int .i64 s.next, .bool s.flight, .int .i64 s.tries, s.outs.v, s.undos.v, .int .i64 s.failStep, .int .i64 s.failCode, s.fail.v]
def OwnSagas (w : World) (base : Nat) (v : Value) (Ss : List SagaD) : Prop :=
  ∃ ss : List SagaV, w.ownsRow base 40 16 v Ss.length (ss.flatMap SagaV.cells) ∧ ss.length = Ss.length ∧ ∀ i (h1 : i < ss.length) (h2 : i < Ss.length), SagaOwn w base ss[i] Ss[i]
theorem OwnSagas.nil (w : World) (base : Nat) : OwnSagas w base (.slice none 0 0) [] := ⟨[], World.ownsRow_nil _ _ _ _, rfl, fun i h => by simp at h⟩
theorem OwnSagas.through {w w' : World} {base : Nat} {v : Value} {Ss : List SagaD} (h : OwnSagas w base v Ss) (hb : Below w.heap.size w w') : OwnSagas w' base v Ss := by
  obtain ⟨ss, h1, h2, h3⟩ := h
  exact ⟨ss, own_through h1 hb, h2, fun i a b => (h3 i a b).through hb⟩
theorem OwnSagas.lower {w : World} {b c : Nat} {v : Value} {Ss : List SagaD} (h : OwnSagas w b v Ss) (hb : c ≤ b) : OwnSagas w c v Ss := by
  obtain ⟨ss, h1, h2, h3⟩ := h
  exact ⟨ss, own_lower h1 hb, h2, fun i a b => (h3 i a b).lower hb⟩
theorem OwnSagas.wrote {w w' : World} {b g : Nat} {v : Value} {Ss : List SagaD} {cs : Array Value} {t : TypeId} (h : OwnSagas w b v Ss) (hw : Wrote w w' g) (hk : BlkAt w g cs t) (h1 : t ≠ 5) (h2 : t ≠ 37) (h3 : t ≠ 40) : OwnSagas w' b v Ss := by
  obtain ⟨ss, k1, k2, k3⟩ := h
  refine ⟨ss, own_heap k1 (fun k cur hc => hw.other k (fun e' => ?_)), k2, fun i a b => (k3 i a b).keep (hw.rows hk h1 h2)⟩
  subst e'
  rw [show w.heap[k]? = _ from hk] at hc
  simp at hc
  exact h3 hc.2
/-- A row of sagas grows: no row of bytes or lists turns. -/
theorem rows_row {w w' : World} {b n : Nat} {v : Value} {xs : List Value} (h : w.ownsRow b 40 16 v n xs) (hg : w.grownBy w' v.ownBlock) : RowsKept w w' := by
  have key : ∀ (e : TypeId), e ≠ 40 → ∀ (k : Nat) (cur : Array Value), w.heap[k]? = some (Obj.cells cur e) → w'.heap[k]? = w.heap[k]? := by
    intro e he k cur hc
    refine hg.block k (Array.getElem?_eq_some_iff.1 hc).1 (fun e' => ?_)
    rcases h.2 with ⟨rfl, _⟩ | ⟨g, cap, c2, rfl, _, hgg, _⟩
    · cases e'
    · simp only [Value.ownBlock, Option.some.injEq] at e'
      subst e'
      rw [hgg] at hc
      simp at hc
      exact he hc.2.symm
  exact ⟨key _ (by decide), key _ (by decide)⟩
theorem OwnSagas.grown {w w' : World} {base : Nat} {v v' : Value} {Ss : List SagaD} {s : SagaV} {E : SagaD} {ss : List SagaV} (h1 : w.ownsRow base 40 16 v Ss.length (ss.flatMap SagaV.cells)) (h2 : ss.length = Ss.length) (h3 : ∀ i (h1 : i < ss.length) (h2 : i < Ss.length), SagaOwn w base ss[i] Ss[i])
    (hs : SagaOwn w base s E) (hn : w'.ownsRow base 40 16 v' (Ss.length + 1) (ss.flatMap SagaV.cells ++ s.cells)) (hg : w.grownBy w' v.ownBlock) : OwnSagas w' base v' (Ss ++ [E]) := by
  have hk := rows_row h1 hg
  refine ⟨ss ++ [s], by simpa using hn, by simp [h2], fun i a b => ?_⟩
  by_cases e : i < ss.length
  · rw [List.getElem_append_left e, List.getElem_append_left (by omega)]
    exact (h3 i e (by omega)).keep hk
  · have e1 : i = ss.length := by simp at a; omega
    subst e1
    rw [List.getElem_append_right (by omega), List.getElem_append_right (by omega)]
    simp only [h2, Nat.sub_self, List.getElem_cons_zero]
    exact hs.keep hk
/-- The sagas that a slice holds. -/
def SagasAt (w : World) (s : Sl) (Ss : List SagaD) : Prop :=
  ∃ ss : List SagaV, s.n = ss.length ∧ ss.length = Ss.length ∧ (s.n ≤ 9223372036854775807 ∧ (s.a = none → s.c = 0)) ∧ (0 < s.n → ∃ b o, s.a = some ⟨b, o, none⟩ ∧ ∀ i (h1 : i < ss.length), ∀ j, j < 16 → w.cell? ⟨b, o + i * 16 + j, none⟩ = (ss[i]).cells[j]?) ∧ ∀ i (h1 : i < ss.length) (h2 : i < Ss.length), SagaRd w ss[i] Ss[i]
theorem SagasAt.below {w w' : World} {s : Sl} {Ss : List SagaD} (h : SagasAt w s Ss) (hb : Below w.heap.size w w') : SagasAt w' s Ss := by
  obtain ⟨rs, h1, h2, h3, h4, h5⟩ := h
  refine ⟨rs, h1, h2, h3, fun h0 => ?_, fun i a b => (h5 i a b).below hb⟩
  obtain ⟨b, o, e, hc⟩ := h4 h0
  refine ⟨b, o, e, fun i hi j hj => ?_⟩
  have hci := hc i hi j hj
  have hl : (rs[i]).cells.length = 16 := rfl
  rw [List.getElem?_eq_getElem (by omega)] at hci ⊢
  exact (hb.cell (World.block_lt_of_cell? w _ hci)).trans hci
theorem SagasAt.len {w : World} {s : Sl} {Ss : List SagaD} (h : SagasAt w s Ss) : s.n = Ss.length := by
  obtain ⟨rs, h1, h2, _⟩ := h
  omega
theorem flat_sagas : ∀ (rs : List SagaV) (i j : Nat) (h : i < rs.length), j < 16 → (rs.flatMap SagaV.cells)[i * 16 + j]? = (rs[i]).cells[j]?
  | [], i, j, h, _ => absurd h (by simp)
  | r :: rs, 0, j, h, hj => by
    rw [List.flatMap_cons, Nat.zero_mul, Nat.zero_add, List.getElem?_append_left (by show j < 16; exact hj)]
    rfl
  | r :: rs, i + 1, j, h, hj => by
    rw [List.flatMap_cons, List.getElem?_append_right (by show 16 ≤ _; omega)]
    have e : (i + 1) * 16 + j - (r.cells).length = i * 16 + j := by show (i + 1) * 16 + j - 16 = _; omega
    rw [e, flat_sagas rs i j (by simpa using h) hj]
    rfl
theorem OwnSagas.sagasAt {w : World} {B : Nat} {v : Sl} {Ss : List SagaD} (h : OwnSagas w B v.v Ss) (hd : ∀ E ∈ Ss, GoodD E) : SagasAt w v Ss := by
  obtain ⟨rs, ⟨hl, h1⟩, h2, h3⟩ := h
  obtain ⟨va, vn, vc⟩ := v
  rcases h1 with ⟨e, h0⟩ | ⟨g, cap, cur, e, hb, hh, hc, hm, hz, ht⟩
  · simp only [Sl.v, Value.slice.injEq] at e
    obtain ⟨rfl, rfl, rfl⟩ := e
    have : rs = [] := List.eq_nil_of_length_eq_zero (by omega)
    subst this
    exact ⟨[], rfl, by simpa using h2, ⟨by simp, fun _ => rfl⟩, fun h => by simp at h, fun i h => by simp at h⟩
  · simp only [Sl.v, Value.slice.injEq] at e
    obtain ⟨rfl, rfl, rfl⟩ := e
    refine ⟨rs, h2.symm, h2, ⟨by simp only; unfold maxLen at hm; omega, fun h => by cases h⟩, fun _ => ⟨g, 0, rfl, fun i hi j hj => ?_⟩, fun i a b => (h3 i a b).rd (hd _ (List.getElem_mem b)).small⟩
    have hlt : i * 16 + j < Ss.length * 16 := by omega
    have e2 : w.cell? ⟨g, 0 + i * 16 + j, none⟩ = cur[i * 16 + j]? := by
      rw [Nat.zero_add]
      exact BlkAt.cell (show BlkAt w g cur _ from hh) _
    rw [e2, ← Array.getElem?_toList, ← flat_sagas rs i j hi hj, ← ht, List.getElem?_take, if_pos hlt]
/-- The slice that such a row is. -/
theorem OwnSagas.sl {w : World} {B : Nat} {v : Value} {Ss : List SagaD} (h : OwnSagas w B v Ss) : ∃ s : Sl, v = s.v ∧ s.n = Ss.length := by
  obtain ⟨rs, ⟨hl, h1⟩, h2, h3⟩ := h
  rcases h1 with ⟨e, h0⟩ | ⟨g, cap, cur, e, hb, hh, hc, hm, hz, ht⟩
  · exact ⟨⟨none, 0, 0⟩, e, h0.symm⟩
  · exact ⟨⟨_, _, _⟩, e, rfl⟩
end Go.Proofs.YtfbaliimjmimhaaDoor
