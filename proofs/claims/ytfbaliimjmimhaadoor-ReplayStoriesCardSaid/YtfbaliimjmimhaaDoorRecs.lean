/-
  Rows of records: of one's own, and handed in. Conditions: none.
-/
import Derived.Test.YtfbaliimjmimhaaDoorPkApply
namespace Go.Proofs.YtfbaliimjmimhaaDoor
open Go.RowKit

/-- A row of records of one's own. -/
def OwnRecs (w : World) (base : Nat) (v : Value) (Rs : List RecD) : Prop :=
  ∃ rs : List RecV, w.ownsRow base 44 12 v Rs.length (rs.flatMap RecV.cells) ∧ rs.length = Rs.length ∧ ∀ i (h1 : i < rs.length) (h2 : i < Rs.length), rs[i] = Rs[i].words (rs[i]).data ∧ OwnBytes w base (rs[i]).data.v Rs[i].data
theorem OwnRecs.nil (w : World) (base : Nat) : OwnRecs w base (.slice none 0 0) [] := ⟨[], World.ownsRow_nil _ _ _ _, rfl, fun i h => by simp at h⟩
theorem OwnRecs.through {w w' : World} {base : Nat} {v : Value} {Rs : List RecD} (h : OwnRecs w base v Rs) (hb : Below w.heap.size w w') : OwnRecs w' base v Rs := by
  obtain ⟨rs, h1, h2, h3⟩ := h
  exact ⟨rs, own_through h1 hb, h2, fun i a b => ⟨(h3 i a b).1, (h3 i a b).2.through hb⟩⟩
theorem OwnRecs.lower {w : World} {b c : Nat} {v : Value} {Rs : List RecD} (h : OwnRecs w b v Rs) (hb : c ≤ b) : OwnRecs w c v Rs := by
  obtain ⟨rs, h1, h2, h3⟩ := h
  exact ⟨rs, own_lower h1 hb, h2, fun i a b => ⟨(h3 i a b).1, (h3 i a b).2.lower hb⟩⟩
/-- Rows of bytes and of records are as they were. -/
structure RecsKept (w w' : World) : Prop where
  rows : RowsKept w w'
  recs : ∀ (k : Nat) (cur : Array Value), w.heap[k]? = some (Obj.cells cur 44) → w'.heap[k]? = w.heap[k]?
theorem OwnRecs.keep {w w' : World} {b : Nat} {v : Value} {Rs : List RecD} (h : OwnRecs w b v Rs) (k : RecsKept w w') : OwnRecs w' b v Rs := by
  obtain ⟨rs, h1, h2, h3⟩ := h
  exact ⟨rs, own_heap h1 k.recs, h2, fun i a b => ⟨(h3 i a b).1, (h3 i a b).2.keep k.rows⟩⟩
theorem Wrote.recs {w w' : World} {g : Nat} {cs : Array Value} {t : TypeId} (h : Wrote w w' g) (hk : BlkAt w g cs t) (h1 : t ≠ 5) (h2 : t ≠ 37) (h3 : t ≠ 44) : RecsKept w w' := by
  refine ⟨h.rows hk h1 h2, fun k cur hc => h.other k (fun e' => ?_)⟩
  subst e'
  rw [show w.heap[k]? = _ from hk] at hc
  simp at hc
  exact h3 hc.2
/-- Bytes and a row of records lie in blocks of different types. -/
theorem own_apart_rec {w : World} {b b' : Nat} {v u : Value} {d : List Int} {n : Nat} {xs : List Value} (h : OwnBytes w b v d) (k : w.ownsRow b' 44 12 u n xs) : v.ownBlock = none ∨ v.ownBlock ≠ u.ownBlock := by
  rcases h.2 with ⟨rfl, _⟩ | ⟨g, cap, cur, rfl, _, hg, _⟩
  · exact .inl rfl
  · refine .inr fun e => ?_
    rcases k.2 with ⟨rfl, _⟩ | ⟨g', cap', cur', rfl, _, hg', _⟩
    · cases e
    · simp only [Value.ownBlock, Option.some.injEq] at e
      subst e
      rw [hg] at hg'
      simp at hg'
theorem OwnRecs.grown {w w' : World} {base : Nat} {v v' : Value} {Rs : List RecD} {r : RecV} {R : RecD} {rs : List RecV} (h2 : rs.length = Rs.length) (h3 : ∀ i (h1 : i < rs.length) (h2 : i < Rs.length), rs[i] = Rs[i].words (rs[i]).data ∧ OwnBytes w base (rs[i]).data.v Rs[i].data)
    (h1 : w.ownsRow base 44 12 v Rs.length (rs.flatMap RecV.cells)) (hr : r = R.words r.data) (hd : OwnBytes w base r.data.v R.data) (hn : w'.ownsRow base 44 12 v' (Rs.length + 1) (rs.flatMap RecV.cells ++ r.cells)) (hg : w.grownBy w' v.ownBlock) : OwnRecs w' base v' (Rs ++ [R]) := by
  refine ⟨rs ++ [r], by simpa using hn, by simp [h2], fun i a b => ?_⟩
  have keep : ∀ {x : Sl} {y : List Int}, OwnBytes w base x.v y → OwnBytes w' base x.v y := fun hx => World.ownsRow.kept hx hg (own_apart_rec hx h1)
  by_cases e : i < rs.length
  · rw [List.getElem_append_left e, List.getElem_append_left (by omega)]
    exact ⟨(h3 i e (by omega)).1, keep (h3 i e (by omega)).2⟩
  · have e1 : i = rs.length := by simp at a; omega
    subst e1
    rw [List.getElem_append_right (by omega), List.getElem_append_right (by omega)]
    simp only [h2, Nat.sub_self, List.getElem_cons_zero]
    exact ⟨hr, keep hd⟩

/-- The records that a slice holds. -/
def RecsAt (w : World) (s : Sl) (Rs : List RecD) : Prop :=
  ∃ rs : List RecV, s.n = rs.length ∧ rs.length = Rs.length ∧ (s.n ≤ 9223372036854775807 ∧ (s.a = none → s.c = 0)) ∧ (0 < s.n → ∃ b o, s.a = some ⟨b, o, none⟩ ∧ ∀ i (h1 : i < rs.length), ∀ j, j < 12 → w.cell? ⟨b, o + i * 12 + j, none⟩ = (rs[i]).cells[j]?) ∧ ∀ i (h1 : i < rs.length) (h2 : i < Rs.length), RecRd w rs[i] Rs[i]
theorem RecsAt.below {w w' : World} {s : Sl} {Rs : List RecD} (h : RecsAt w s Rs) (hb : Below w.heap.size w w') : RecsAt w' s Rs := by
  obtain ⟨rs, h1, h2, h3, h4, h5⟩ := h
  refine ⟨rs, h1, h2, h3, fun h0 => ?_, fun i a b => (h5 i a b).below hb⟩
  obtain ⟨b, o, e, hc⟩ := h4 h0
  refine ⟨b, o, e, fun i hi j hj => ?_⟩
  have hci := hc i hi j hj
  have hl : (rs[i]).cells.length = 12 := rfl
  rw [List.getElem?_eq_getElem (by omega)] at hci ⊢
  exact (hb.cell (World.block_lt_of_cell? w _ hci)).trans hci
theorem RecsAt.len {w : World} {s : Sl} {Rs : List RecD} (h : RecsAt w s Rs) : s.n = Rs.length := by
  obtain ⟨rs, h1, h2, _⟩ := h
  omega
end Go.Proofs.YtfbaliimjmimhaaDoor
