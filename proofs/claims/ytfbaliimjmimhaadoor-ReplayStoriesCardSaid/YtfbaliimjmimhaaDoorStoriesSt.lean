/-
  ReplayStories: its plain law, and how its loops stand. Conditions: as each theorem says.
-/
import Derived.Test.YtfbaliimjmimhaaDoorEndedSt
import Derived.Test.YtfbaliimjmimhaaDoorMingSt
import Derived.Test.YtfbaliimjmimhaaDoorFoldStory
import Derived.Test.YtfbaliimjmimhaaDoorToldLaw
import Derived.Test.YtfbaliimjmimhaaDoorStoryWalk
namespace Go.Proofs.YtfbaliimjmimhaaDoor
open Go.RowKit

/-- What the law asks of a saga that is handed in. -/
structure LawSaga (D : SagaD) : Prop where
  fits : SagaFits D
  wf : (Lit.int .i64 D.id).wf = true
  begun : D.begun ≤ 9223372036854775807
  at_ : D.at_ ≤ 9223372036854775807
theorem story_ok {D : SagaD} (hg : GoodD D) (hl : LawSaga D) : ∀ X ∈ storyL D, FoldOk X ∧ X.data.length ≤ 9223372036854775807 := fun X hX =>
  ⟨⟨tell_fits hg hl.fits.name hX, by rw [story_id hg X hX]; exact hl.wf⟩, by have := (tell_small hg X hX).1; omega⟩
theorem story_len {D : SagaD} (hg : GoodD D) : (storyL D).length ≤ 4000 := by
  have h1 := hg.outs32
  have h2 : D.undos.length ≤ 32 := hg.undos32
  have h3 := hg.plain.tries1000
  have h4 := midL_len h2
  have h5 := triesL_len D (if backP D then 5 else 2) (if backP D then D.next - 1 else D.next) D.tries.toNat
  have h6 : (endL D).length ≤ 1 := by unfold endL; split; simp; split <;> simp
  unfold storyL tellD
  rw [List.length_cons, List.length_append, List.length_append, List.length_append, outsL_len]
  unfold lastL
  omega
/-- The stories of sagas with unlike ids fold to just these sagas. -/
theorem stories_state {Ds : List SagaD} (h : ∀ D ∈ Ds, GoodD D ∧ LawSaga D) (hp : Ds.Pairwise (fun D E => D.id ≠ E.id)) :
    (foldB noBag (Ds.flatMap storyL)).2 = (Ds.flatMap storyL).length ∧ ∀ Ws : List SagaD, Ws.Pairwise (fun D E => D.id < E.id) → (∀ D, D ∈ Ws ↔ D ∈ Ds) → StateOf (foldB noBag (Ds.flatMap storyL)).1 Ws := by
  have hs : ∀ D ∈ Ds, GoodD D ∧ D.begun ≤ 9223372036854775807 ∧ D.at_ ≤ 9223372036854775807 := fun D hD => ⟨(h D hD).1, (h D hD).2.begun, (h D hD).2.at_⟩
  have hl : (foldB noBag (Ds.flatMap storyL)).2 = (Ds.flatMap storyL).length := (legal_iff _ noBag).2 (fun id => (stories_fold hs hp id).1)
  refine ⟨hl, fun Ws hr hm => ⟨hr, fun D => ?_⟩⟩
  rw [hm, fold_at _ noBag hl]
  obtain ⟨_, h2, h3⟩ := stories_fold hs hp D.id
  constructor
  · intro hD
    exact h2 D hD rfl
  · intro k
    by_cases e : ∃ E ∈ Ds, E.id = D.id
    · obtain ⟨E, hE, he⟩ := e
      have := h2 E hE he
      rw [show (noBag D.id : Option SagaD) = none from rfl] at k
      rw [this] at k
      cases k
      exact hE
    · rw [h3 (fun E hE he => e ⟨E, hE, he⟩)] at k
      cases k
theorem flat_take : ∀ (ss : List SagaV) (k : Nat), (ss.take k).flatMap SagaV.cells = (ss.flatMap SagaV.cells).take (k * 16)
  | [], k => by simp
  | s :: ss, 0 => by simp
  | s :: ss, k + 1 => by
    rw [List.take_succ_cons, List.flatMap_cons, List.flatMap_cons, flat_take ss k, List.take_append]
    simp only [show (s.cells).length = 16 from rfl, show (k + 1) * 16 - 16 = k * 16 by omega]
    rw [List.take_of_length_le (show (s.cells).length ≤ (k + 1) * 16 by show 16 ≤ _; omega)]
theorem flat_drop : ∀ (ss : List SagaV) (k : Nat), (ss.drop k).flatMap SagaV.cells = (ss.flatMap SagaV.cells).drop (k * 16)
  | [], k => by simp
  | s :: ss, 0 => by simp
  | s :: ss, k + 1 => by
    rw [List.drop_succ_cons, List.flatMap_cons, flat_drop ss k, List.drop_append]
    simp only [show (s.cells).length = 16 from rfl, show (k + 1) * 16 - 16 = k * 16 by omega]
    rw [List.drop_eq_nil_of_le (show (s.cells).length ≤ (k + 1) * 16 by show 16 ≤ _; omega), List.nil_append]
theorem flat_len (ss : List SagaV) : (ss.flatMap SagaV.cells).length = ss.length * 16 := by
  induction ss with
  | nil => rfl
  | cons r rs ih => rw [List.flatMap_cons, List.length_append, ih]; show 16 + _ = _; simp; omega
/-- A row of sagas of one's own, in its block. -/
def SRow (wr : World) (g cap : Nat) (ss : List SagaV) : Prop := ∃ cur : Array Value, BlkAt wr g cur 40 ∧ cur.size = cap * 16 ∧ ss.length ≤ cap ∧ cap ≤ maxLen ∧ cur.toList.take (ss.length * 16) = ss.flatMap SagaV.cells
theorem SRow.own {wr : World} {g cap B : Nat} {ss : List SagaV} (h : SRow wr g cap ss) (hB : B ≤ g) : wr.ownsRow B 40 16 (.slice (some ⟨g, 0, none⟩) ss.length cap) ss.length (ss.flatMap SagaV.cells) := by
  obtain ⟨cur, k, hz, hl, hm, ht⟩ := h
  exact ⟨flat_len ss, .inr ⟨g, cap, cur, rfl, hB, k, hl, hm, hz, ht⟩⟩
theorem SRow.of {wr : World} {g cap B n : Nat} {ss : List SagaV} (h : wr.ownsRow B 40 16 (.slice (some ⟨g, 0, none⟩) n cap) n (ss.flatMap SagaV.cells)) (hn : ss.length = n) : SRow wr g cap ss ∧ B ≤ g := by
  obtain ⟨_, h1⟩ := h
  rcases h1 with ⟨e, _⟩ | ⟨g', cap', cur, e, hb, hh, hc, hm, hz, ht⟩
  · cases e
  · simp only [Value.slice.injEq, Option.some.injEq, Addr.mk.injEq, true_and, and_true] at e
    obtain ⟨rfl, rfl⟩ := e
    subst hn
    exact ⟨⟨cur, hh, hz, hc, hm, ht⟩, hb⟩
theorem SRow.cell {wr : World} {g cap : Nat} {ss : List SagaV} (h : SRow wr g cap ss) (i : Nat) (hi : i < ss.length) (j : Nat) (hj : j < 16) : wr.cell? ⟨g, i * 16 + j, none⟩ = (ss[i]).cells[j]? := by
  obtain ⟨cur, k, hz, hl, hm, ht⟩ := h
  rw [k.cell, ← Array.getElem?_toList, ← flat_sagas ss i j hi hj, ← ht, List.getElem?_take, if_pos (by omega)]
theorem SRow.heap {wr w' : World} {g cap : Nat} {ss : List SagaV} (h : SRow wr g cap ss) (hh : w'.heap[g]? = wr.heap[g]?) : SRow w' g cap ss := by
  obtain ⟨cur, k, r⟩ := h
  exact ⟨cur, hh.trans k, r⟩
theorem SRow.lt {wr : World} {g cap : Nat} {ss : List SagaV} (h : SRow wr g cap ss) : g < wr.heap.size := by
  obtain ⟨cur, k, _⟩ := h
  exact blk_lt k
theorem SRow.below {wr w' : World} {g cap : Nat} {ss : List SagaV} (h : SRow wr g cap ss) (hb : Below wr.heap.size wr w') : SRow w' g cap ss := h.heap (hb.block g h.lt)
/-- One of its elements is written. -/
theorem wpList_store_saga {ops : Array Oper} {rest : List Oper} {o : Oper} {a : Act} {w : World} {Q : Exit → Act → World → Prop} (hgd : o.guard = none) (x y : Operand) (ho : o.op = .store 40 x y)
    (g k : Nat) (hx : a.eval x = .pointer (some ⟨g, k * 16, none⟩)) (t : SagaV) (hy : a.eval y = .agg (sagaArr t)) (cap : Nat) (ss : List SagaV) (hr : SRow w g cap ss) (hk : k < ss.length)
    (h : ∀ w', Wrote w w' g → SRow w' g cap (ss.set k t) → wpList Tryd.prog ops Q rest (a.put o.dst undef) w') : wpList Tryd.prog ops Q (o :: rest) a w := by
  obtain ⟨cur, kb, hz, hl, hm, ht⟩ := hr
  refine wpList_store_part hgd _ x y ho g (k * 16) hx (sagaArr t) hy _ cur kb (by show k * 16 + 16 ≤ _; omega) (by simp [sagaArr, Value.oneCell']) rowSaga ?_
  intro w' hw hK
  refine h w' hw ⟨_, hK, ?_, by simpa using hl, hm, ?_⟩
  · simp [sagaArr]; omega
  · have hs : ss.set k t = ss.take k ++ t :: ss.drop (k + 1) := by rw [List.set_eq_take_append_cons_drop, if_pos hk]
    have e1 : cur.toList.take (k * 16) = (ss.take k).flatMap SagaV.cells := by rw [flat_take, ← ht, List.take_take, Nat.min_eq_left (by omega)]
    have e2 : (cur.toList.drop (k * 16 + 16)).take ((ss.length - (k + 1)) * 16) = (ss.drop (k + 1)).flatMap SagaV.cells := by
      rw [flat_drop, ← ht, List.drop_take, show (k + 1) * 16 = k * 16 + 16 by omega]
      congr 1
      omega
    have lt : ((ss.take k).flatMap SagaV.cells).length = k * 16 := by rw [flat_len, List.length_take, Nat.min_eq_left (by omega)]
    have lc : (sagaArr t).toList = t.cells := by simp [sagaArr]
    rw [List.length_set, hs, List.flatMap_append, List.flatMap_cons, e1, lc, show (sagaArr t).size = 16 from rfl, ← e2]
    rw [List.take_append, List.take_append, List.length_append, lt, show (t.cells).length = 16 from rfl, List.take_of_length_le (by rw [lt]; omega), List.take_of_length_le (show (t.cells).length ≤ _ by show 16 ≤ _; omega), List.append_assoc]
    congr 3
    omega
/-- An element put in at a place. -/
def insL {α : Type} (W : List α) (D : α) (k : Nat) : List α := W.take k ++ D :: W.drop k
theorem insL_end {α : Type} (W : List α) (D : α) : insL W D W.length = W ++ [D] := by unfold insL; rw [List.take_length, List.drop_length]
theorem insL_len {α : Type} (W : List α) (D : α) (k : Nat) : (insL W D k).length = W.length + 1 := by
  unfold insL
  rw [List.length_append, List.length_cons, List.length_take, List.length_drop]
  omega
theorem insL_mem {α : Type} (W : List α) (D : α) (k : Nat) (X : α) : X ∈ insL W D k ↔ X = D ∨ X ∈ W := by
  unfold insL
  rw [List.mem_append, List.mem_cons]
  conv => rhs; rw [← List.take_append_drop k W, List.mem_append]
  constructor
  · rintro (h | h | h)
    · exact .inr (.inl h)
    · exact .inl h
    · exact .inr (.inr h)
  · rintro (h | h | h)
    · exact .inr (.inl h)
    · exact .inl h
    · exact .inr (.inr h)
theorem insL_at {α : Type} (W : List α) (D : α) (k : Nat) (hk : k ≤ W.length) : (insL W D k)[k]'(by rw [insL_len]; omega) = D := by
  unfold insL
  have : (W.take k).length = k := by simp; omega
  rw [List.getElem_append_right (by omega)]
  simp [this]
theorem insL_ahead {α : Type} (W : List α) (D : α) (k i : Nat) (hk : k ≤ W.length) (hi : i < k) : (insL W D k)[i]'(by rw [insL_len]; omega) = W[i] := by
  unfold insL
  have : (W.take k).length = k := by simp; omega
  rw [List.getElem_append_left (by omega), List.getElem_take]
theorem insL_swap {α : Type} (W : List α) (D : α) (q : Nat) (hq : q < W.length) : ((insL W D (q + 1)).set (q + 1) W[q]).set q D = insL W D q := by
  have h1 : insL W D (q + 1) = W.take q ++ (W[q] :: D :: W.drop (q + 1)) := by unfold insL; rw [List.take_succ_eq_append_getElem hq, List.append_assoc]; rfl
  have h2 : insL W D q = W.take q ++ (D :: W[q] :: W.drop (q + 1)) := by unfold insL; rw [List.getElem_cons_drop]
  have hl : (W.take q).length = q := by simp; omega
  rw [h1, h2, List.set_append_right (h := by omega), List.set_append_right (h := by omega), hl]
  simp
theorem rel_set {P : SagaV → SagaD → Prop} {ss : List SagaV} {Ws : List SagaD} (h : ∀ i (h1 : i < ss.length) (h2 : i < Ws.length), P ss[i] Ws[i]) {k : Nat} {t : SagaV} {E : SagaD} (ht : P t E) : ∀ i (h1 : i < (ss.set k t).length) (h2 : i < (Ws.set k E).length), P (ss.set k t)[i] (Ws.set k E)[i] := by
  intro i h1 h2
  rw [List.getElem_set, List.getElem_set]
  split
  · exact ht
  · exact h i (by simpa using h1) (by simpa using h2)
/-- The sagas that are wanted, a new one at its place so far. -/
structure InsAt (X wr : World) (B g cap : Nat) (W : List SagaD) (D : SagaD) (k : Nat) : Prop where
  row : ∃ ss : List SagaV, SRow wr g cap ss ∧ ss.length = W.length + 1 ∧ ∀ i (h1 : i < ss.length) (h2 : i < (insL W D k).length), SagaRd X ss[i] (insL W D k)[i]
  le : B ≤ g
/-- The row of the sagas that are wanted. -/
def WantAt (X wr : World) (B : Nat) (v : Value) (Ws : List SagaD) : Prop :=
  ∃ ss : List SagaV, wr.ownsRow B 40 16 v Ws.length (ss.flatMap SagaV.cells) ∧ ss.length = Ws.length ∧ ∀ i (h1 : i < ss.length) (h2 : i < Ws.length), SagaRd X ss[i] Ws[i]
theorem InsAt.want {X wr : World} {B g cap k : Nat} {W : List SagaD} {D : SagaD} (h : InsAt X wr B g cap W D k) : WantAt X wr B (.slice (some ⟨g, 0, none⟩) (W.length + 1) cap) (insL W D k) := by
  obtain ⟨ss, h1, h2, h3⟩ := h.row
  refine ⟨ss, ?_, by rw [insL_len]; exact h2, h3⟩
  have := h1.own h.le
  rw [insL_len, ← h2]
  exact this
theorem WantAt.through {X wr w' : World} {B : Nat} {v : Value} {Ws : List SagaD} (h : WantAt X wr B v Ws) (hb : Below wr.heap.size wr w') : WantAt X w' B v Ws := by
  obtain ⟨ss, h1, h2, h3⟩ := h
  exact ⟨ss, own_through h1 hb, h2, h3⟩
theorem WantAt.nil (X wr : World) (B : Nat) : WantAt X wr B (.slice none 0 0) [] := ⟨[], World.ownsRow_nil _ _ _ _, rfl, fun i h => by simp at h⟩
theorem WantAt.sl {X wr : World} {B : Nat} {v : Value} {Ws : List SagaD} (h : WantAt X wr B v Ws) : ∃ s : Sl, v = s.v ∧ s.n = Ws.length := by
  obtain ⟨ss, ⟨hl, h1⟩, h2, h3⟩ := h
  rcases h1 with ⟨e, h0⟩ | ⟨g, cap, cur, e, hb, hh, hc, hm, hz, ht⟩
  · exact ⟨⟨none, 0, 0⟩, e, h0.symm⟩
  · exact ⟨⟨_, _, _⟩, e, rfl⟩
theorem WantAt.sagasAt {X wr : World} {B : Nat} {v : Sl} {Ws : List SagaD} (h : WantAt X wr B v.v Ws) (hb : Below X.heap.size X wr) : SagasAt wr v Ws := by
  obtain ⟨rs, ⟨hl, h1⟩, h2, h3⟩ := h
  obtain ⟨va, vn, vc⟩ := v
  rcases h1 with ⟨e, h0⟩ | ⟨g, cap, cur, e, hg, hh, hc, hm, hz, ht⟩
  · simp only [Sl.v, Value.slice.injEq] at e
    obtain ⟨rfl, rfl, rfl⟩ := e
    have : rs = [] := List.eq_nil_of_length_eq_zero (by omega)
    subst this
    exact ⟨[], rfl, by simpa using h2, ⟨by simp, fun _ => rfl⟩, fun h => by simp at h, fun i h => by simp at h⟩
  · simp only [Sl.v, Value.slice.injEq] at e
    obtain ⟨rfl, rfl, rfl⟩ := e
    refine ⟨rs, h2.symm, h2, ⟨by simp only; unfold maxLen at hm; omega, fun h => by cases h⟩, fun _ => ⟨g, 0, rfl, fun i hi j hj => ?_⟩, fun i a b => (h3 i a b).below hb⟩
    have hlt : i * 16 + j < Ws.length * 16 := by omega
    have e2 : wr.cell? ⟨g, 0 + i * 16 + j, none⟩ = cur[i * 16 + j]? := by
      rw [Nat.zero_add]
      exact BlkAt.cell (show BlkAt wr g cur _ from hh) _
    rw [e2, ← Array.getElem?_toList, ← flat_sagas rs i j hi hj, ← ht, List.getElem?_take, if_pos hlt]
/-- How the outer loop stands. -/
structure SSt (X wr : World) (log want : Value) (Ds Ws : List SagaD) : Prop where
  log : OwnRecs wr X.heap.size log (Ds.flatMap storyL)
  want : WantAt X wr X.heap.size want Ws
  below : Below X.heap.size X wr
  mem : ∀ D, D ∈ Ws ↔ D ∈ Ds
  rise : Ws.Pairwise (fun D E => D.id < E.id)
  ne : Ds.Pairwise (fun D E => D.id ≠ E.id)
  good : ∀ D ∈ Ds, GoodD D ∧ LawSaga D
  len : Ws.length = Ds.length
theorem SSt.start (X : World) : SSt X X (.slice none 0 0) (.slice none 0 0) [] [] :=
  ⟨OwnRecs.nil _ _, WantAt.nil _ _ _, Below.refl _ _, fun _ => Iff.rfl, .nil, .nil, (fun _ h => by cases h), rfl⟩
theorem SSt.call {X wr w' : World} {log want : Value} {Ds Ws : List SagaD} (h : SSt X wr log want Ds Ws) (hb : Below wr.heap.size wr w') : SSt X w' log want Ds Ws :=
  ⟨h.log.through hb, h.want.through hb, then_ h.below hb, h.mem, h.rise, h.ne, h.good, h.len⟩
/-- A new saga at its place: the ids rise. -/
theorem rise_ins {W : List SagaD} {D : SagaD} {k : Nat} (h : W.Pairwise (fun D E => D.id < E.id)) (hk : k ≤ W.length) (ha : ∀ i (hi : i < k), (W[i]'(by omega)).id < D.id) (hc : ∀ i (hi : i < W.length), k ≤ i → D.id < W[i].id) : (insL W D k).Pairwise (fun D E => D.id < E.id) := by
  unfold insL
  rw [List.pairwise_append, List.pairwise_cons]
  refine ⟨h.sublist (List.take_sublist _ _), ⟨fun E hE => ?_, h.sublist (List.drop_sublist _ _)⟩, fun A hA E hE => ?_⟩
  · obtain ⟨i, hi, rfl⟩ := List.getElem_of_mem hE
    simp at hi
    rw [List.getElem_drop]
    exact hc _ (by omega) (by omega)
  · obtain ⟨i, hi, rfl⟩ := List.getElem_of_mem hA
    simp at hi
    rw [List.getElem_take]
    rcases List.mem_cons.1 hE with rfl | hE
    · exact ha i (by omega)
    · obtain ⟨j, hj, rfl⟩ := List.getElem_of_mem hE
      simp at hj
      rw [List.getElem_drop]
      exact List.pairwise_iff_getElem.1 h i (k + j) (by omega) (by omega) (by omega)
end Go.Proofs.YtfbaliimjmimhaaDoor
