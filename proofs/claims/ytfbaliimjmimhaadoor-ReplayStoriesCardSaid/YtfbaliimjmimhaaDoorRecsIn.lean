/-
  Rows of records whose data lie in blocks of one's own: parts of them, one behind the other. Conditions: none.
-/
import Derived.Test.YtfbaliimjmimhaaDoorBagAt
namespace Go.Proofs.YtfbaliimjmimhaaDoor
open Go.RowKit

/-- The records that a slice holds, their data in blocks from base on. -/
def RecsIn (w : World) (base : Nat) (s : Sl) (Rs : List RecD) : Prop :=
  ∃ rs : List RecV, s.n = rs.length ∧ rs.length = Rs.length ∧ (s.n ≤ s.c ∧ s.c ≤ 9223372036854775807 ∧ (s.a = none → s.c = 0)) ∧ (0 < s.n → ∃ b o, s.a = some ⟨b, o, none⟩ ∧ ∀ i (h1 : i < rs.length), ∀ j, j < 12 → w.cell? ⟨b, o + i * 12 + j, none⟩ = (rs[i]).cells[j]?) ∧ ∀ i (h1 : i < rs.length) (h2 : i < Rs.length), rs[i] = Rs[i].words (rs[i]).data ∧ OwnBytes w base (rs[i]).data.v Rs[i].data
theorem RecsIn.len {w : World} {B : Nat} {s : Sl} {Rs : List RecD} (h : RecsIn w B s Rs) : s.n = Rs.length := by
  obtain ⟨rs, h1, h2, _⟩ := h
  omega
theorem RecsIn.lower {w : World} {b c : Nat} {s : Sl} {Rs : List RecD} (h : RecsIn w b s Rs) (hb : c ≤ b) : RecsIn w c s Rs := by
  obtain ⟨rs, h1, h2, h3, h4, h5⟩ := h
  exact ⟨rs, h1, h2, h3, h4, fun i p q => ⟨(h5 i p q).1, (h5 i p q).2.lower hb⟩⟩
theorem RecsIn.nil (w : World) (B : Nat) : RecsIn w B ⟨none, 0, 0⟩ [] := ⟨[], rfl, rfl, ⟨by simp, by simp, fun _ => rfl⟩, fun h => by simp at h, fun i h => by simp at h⟩
/-- It stands wherever its cells and its bytes do. -/
theorem RecsIn.heap {w w' : World} {B : Nat} {s : Sl} {Rs : List RecD} (h : RecsIn w B s Rs) (hc : ∀ a : Addr, s.a = some a → w'.heap[a.block]? = w.heap[a.block]?) (hk : RowsKept w w') : RecsIn w' B s Rs := by
  obtain ⟨rs, h1, h2, h3, h4, h5⟩ := h
  refine ⟨rs, h1, h2, h3, fun h0 => ?_, fun i p q => ⟨(h5 i p q).1, (h5 i p q).2.keep hk⟩⟩
  obtain ⟨b, o, e, k⟩ := h4 h0
  refine ⟨b, o, e, fun i hi j hj => ?_⟩
  rw [← k i hi j hj]
  have := hc _ e
  unfold World.cell?
  simp only at this ⊢
  rw [this]
theorem RecsIn.below {w w' : World} {B : Nat} {s : Sl} {Rs : List RecD} (h : RecsIn w B s Rs) (hb : Below w.heap.size w w') : RecsIn w' B s Rs := by
  obtain ⟨rs, h1, h2, h3, h4, h5⟩ := h
  refine ⟨rs, h1, h2, h3, fun h0 => ?_, fun i p q => ⟨(h5 i p q).1, (h5 i p q).2.through hb⟩⟩
  obtain ⟨b, o, e, hc⟩ := h4 h0
  refine ⟨b, o, e, fun i hi j hj => ?_⟩
  have hci := hc i hi j hj
  have hl : (rs[i]).cells.length = 12 := rfl
  rw [List.getElem?_eq_getElem (by omega)] at hci ⊢
  exact (hb.cell (World.block_lt_of_cell? w _ hci)).trans hci
theorem RecsIn.recsAt {w : World} {B : Nat} {s : Sl} {Rs : List RecD} (h : RecsIn w B s Rs) (hd : ∀ R ∈ Rs, R.data.length ≤ 9223372036854775807) : RecsAt w s Rs := by
  obtain ⟨rs, h1, h2, h3, h4, h5⟩ := h
  refine ⟨rs, h1, h2, ⟨by omega, h3.2.2⟩, h4, fun i p q => ⟨(h5 i p q).1, ?_⟩⟩
  obtain ⟨t, e, k⟩ := (h5 i p q).2.at (hd _ (List.getElem_mem q))
  obtain ⟨a, n, c⟩ := t
  generalize (rs[i]).data = z at e ⊢
  obtain ⟨a', n', c'⟩ := z
  simp only [Sl.v, Value.slice.injEq] at e
  obtain ⟨rfl, rfl, rfl⟩ := e
  exact k
theorem flat_recs : ∀ (rs : List RecV) (i j : Nat) (h : i < rs.length), j < 12 → (rs.flatMap RecV.cells)[i * 12 + j]? = (rs[i]).cells[j]?
  | [], i, j, h, _ => absurd h (by simp)
  | r :: rs, 0, j, h, hj => by
    rw [List.flatMap_cons, Nat.zero_mul, Nat.zero_add, List.getElem?_append_left (by show j < 12; exact hj)]
    rfl
  | r :: rs, i + 1, j, h, hj => by
    rw [List.flatMap_cons, List.getElem?_append_right (by show 12 ≤ _; omega)]
    have e : (i + 1) * 12 + j - (r.cells).length = i * 12 + j := by show (i + 1) * 12 + j - 12 = _; omega
    rw [e, flat_recs rs i j (by simpa using h) hj]
    rfl
theorem OwnRecs.sl {w : World} {B : Nat} {v : Value} {Rs : List RecD} (h : OwnRecs w B v Rs) : ∃ s : Sl, v = s.v ∧ s.n = Rs.length := by
  obtain ⟨rs, ⟨hl, h1⟩, h2, h3⟩ := h
  rcases h1 with ⟨e, h0⟩ | ⟨g, cap, cur, e, hb, hh, hc, hm, hz, ht⟩
  · exact ⟨⟨none, 0, 0⟩, e, h0.symm⟩
  · exact ⟨⟨_, _, _⟩, e, rfl⟩
theorem OwnRecs.recsIn {w : World} {B : Nat} {v : Sl} {Rs : List RecD} (h : OwnRecs w B v.v Rs) : RecsIn w B v Rs := by
  obtain ⟨rs, ⟨hl, h1⟩, h2, h3⟩ := h
  obtain ⟨va, vn, vc⟩ := v
  rcases h1 with ⟨e, h0⟩ | ⟨g, cap, cur, e, hb, hh, hc, hm, hz, ht⟩
  · simp only [Sl.v, Value.slice.injEq] at e
    obtain ⟨rfl, rfl, rfl⟩ := e
    have : rs = [] := List.eq_nil_of_length_eq_zero (by omega)
    subst this
    exact ⟨[], rfl, by simpa using h2, ⟨by simp, by simp, fun _ => rfl⟩, fun h => by simp at h, fun i h => by simp at h⟩
  · simp only [Sl.v, Value.slice.injEq] at e
    obtain ⟨rfl, rfl, rfl⟩ := e
    refine ⟨rs, h2.symm, h2, ⟨hc, by simp only; unfold maxLen at hm; omega, fun h => by cases h⟩, fun _ => ⟨g, 0, rfl, fun i hi j hj => ?_⟩, h3⟩
    have hlt : i * 12 + j < Rs.length * 12 := by omega
    have e2 : w.cell? ⟨g, 0 + i * 12 + j, none⟩ = cur[i * 12 + j]? := by
      rw [Nat.zero_add]
      exact BlkAt.cell (show BlkAt w g cur _ from hh) _
    rw [e2, ← Array.getElem?_toList, ← flat_recs rs i j hi hj, ← ht, List.getElem?_take, if_pos hlt]
/-- Its first part. -/
theorem RecsIn.take {w : World} {B k : Nat} {a : Option Addr} {n c : Nat} {Rs : List RecD} (h : RecsIn w B ⟨a, n, c⟩ Rs) (hk : k ≤ n) : RecsIn w B ⟨a, k, c⟩ (Rs.take k) := by
  obtain ⟨rs, h1, h2, h3, h4, h5⟩ := h
  simp only at h1 h3 h4
  refine ⟨rs.take k, by simp; omega, by simp [h2], ⟨by simp only; omega, h3.2⟩, fun h0 => ?_, fun i p q => ?_⟩
  · simp only at h0
    obtain ⟨b, o, e, hc⟩ := h4 (by omega)
    refine ⟨b, o, e, fun i hi j hj => ?_⟩
    rw [List.getElem_take]
    exact hc i (by simp at hi; omega) j hj
  · simp at p q
    rw [List.getElem_take, List.getElem_take]
    exact h5 i (by omega) (by omega)
/-- Its last part. -/
theorem RecsIn.drop {w : World} {B k : Nat} {b o : Nat} {n c : Nat} {Rs : List RecD} (h : RecsIn w B ⟨some ⟨b, o, none⟩, n, c⟩ Rs) (hk : k ≤ n) : RecsIn w B ⟨some ⟨b, o + k * 12, none⟩, n - k, c - k⟩ (Rs.drop k) := by
  obtain ⟨rs, h1, h2, h3, h4, h5⟩ := h
  simp only at h1 h3 h4
  refine ⟨rs.drop k, by simp; omega, by simp [h2], ⟨by simp only; omega, by simp only; omega, fun h => by cases h⟩, fun h0 => ?_, fun i p q => ?_⟩
  · simp only at h0
    obtain ⟨b', o', e, hc⟩ := h4 (by omega)
    cases e
    refine ⟨b, o + k * 12, rfl, fun i hi j hj => ?_⟩
    rw [List.getElem_drop, show o + k * 12 + i * 12 + j = o + (k + i) * 12 + j by omega]
    exact hc (k + i) (by simp at hi; omega) j hj
  · simp at p q
    rw [List.getElem_drop, List.getElem_drop]
    exact h5 (k + i) (by omega) (by omega)
/-- Its first part is one's own too. -/
theorem OwnRecs.take {w : World} {B k : Nat} {a : Option Addr} {n c : Nat} {Rs : List RecD} (h : OwnRecs w B (.slice a n c) Rs) (hk : k ≤ n) : OwnRecs w B (.slice a k c) (Rs.take k) := by
  obtain ⟨rs, ⟨hl, h1⟩, h2, h3⟩ := h
  have key : ∀ (rs : List RecV) (k : Nat), (rs.take k).flatMap RecV.cells = (rs.flatMap RecV.cells).take (k * 12) := by
    intro rs
    induction rs with
    | nil => intro k; simp
    | cons r rs ih =>
      intro k
      cases k with
      | zero => simp
      | succ k => rw [List.take_succ_cons, List.flatMap_cons, List.flatMap_cons, ih, List.take_append]; simp only [show (r.cells).length = 12 from rfl, show (k + 1) * 12 - 12 = k * 12 by omega]; rw [List.take_of_length_le (show (r.cells).length ≤ (k + 1) * 12 by show 12 ≤ _; omega)]
  rcases h1 with ⟨e, h0⟩ | ⟨g, cap, cur, e, hb, hh, hc, hm, hz, ht⟩
  · simp only [Value.slice.injEq] at e
    obtain ⟨rfl, rfl, rfl⟩ := e
    have hk0 : k = 0 := by omega
    subst hk0
    rw [List.take_zero]
    exact OwnRecs.nil _ _
  · simp only [Value.slice.injEq] at e
    obtain ⟨rfl, rfl, rfl⟩ := e
    have hkl : (Rs.take k).length = k := by simp; omega
    refine ⟨rs.take k, ⟨?_, .inr ⟨g, c, cur, by rw [hkl], hb, hh, by omega, hm, hz, ?_⟩⟩, by simp [h2], fun i p q => ?_⟩
    · rw [key, List.length_take, hl, hkl]; omega
    · rw [hkl, key, ← ht, List.take_take, Nat.min_eq_left (by omega)]
    · simp at p q
      rw [List.getElem_take, List.getElem_take]
      exact h3 i (by omega) (by omega)
/-- One record in a block. -/
theorem RecsIn.one {w : World} {B g : Nat} {r : RecV} {R : RecD} (k : BlkAt w g (recArr r) 44) (hr : r = R.words r.data) (hd : OwnBytes w B r.data.v R.data) : RecsIn w B ⟨some ⟨g, 0, none⟩, 1, 1⟩ [R] := by
  refine ⟨[r], rfl, rfl, ⟨by simp, by simp, fun h => by cases h⟩, fun _ => ⟨g, 0, rfl, fun i hi j hj => ?_⟩, fun i p q => ?_⟩
  · have : i = 0 := by simpa using hi
    subst this
    simp only [Nat.zero_mul, Nat.zero_add]
    rw [BlkAt.cell k]
    simp [recArr]
  · have : i = 0 := by simpa using p
    subst this
    exact ⟨hr, hd⟩
/-- The first part of bytes of one's own. -/
theorem OwnBytes.take {w : World} {B k : Nat} {a : Option Addr} {n c : Nat} {d : List Int} (h : OwnBytes w B (.slice a n c) d) (hk : k ≤ n) : OwnBytes w B (.slice a k c) (d.take k) := by
  obtain ⟨hl, h1⟩ := h
  rcases h1 with ⟨e, h0⟩ | ⟨g, cap, cur, e, hb, hh, hc, hm, hz, ht⟩
  · simp only [Value.slice.injEq] at e
    obtain ⟨rfl, rfl, rfl⟩ := e
    have hk0 : k = 0 := by omega
    subst hk0
    rw [List.take_zero]
    exact World.ownsRow_nil _ _ _ _
  · simp only [Value.slice.injEq] at e
    obtain ⟨rfl, rfl, rfl⟩ := e
    have hkl : (d.take k).length = k := by simp; omega
    refine ⟨by simp [byteCells], .inr ⟨g, c, cur, by rw [hkl], hb, hh, by omega, hm, hz, ?_⟩⟩
    have : byteCells (d.take k) = (byteCells d).take (k * 1) := by simp [byteCells, List.map_take]
    rw [hkl, this, ← ht, List.take_take, Nat.min_eq_left (by omega)]
theorem OwnBytes.room {w : World} {B : Nat} {a : Option Addr} {n c : Nat} {d : List Int} (h : OwnBytes w B (.slice a n c) d) : n = d.length ∧ n ≤ c ∧ c ≤ 9223372036854775807 ∧ (0 < n → ∃ g, a = some ⟨g, 0, none⟩) := by
  obtain ⟨hl, h1⟩ := h
  rcases h1 with ⟨e, h0⟩ | ⟨g, cap, cur, e, hb, hh, hc, hm, hz, ht⟩
  · simp only [Value.slice.injEq] at e
    obtain ⟨rfl, rfl, rfl⟩ := e
    exact ⟨h0.symm, by simp, by simp, fun h => by simp at h⟩
  · simp only [Value.slice.injEq] at e
    obtain ⟨rfl, rfl, rfl⟩ := e
    exact ⟨rfl, hc, by unfold maxLen at hm; omega, fun _ => ⟨g, rfl⟩⟩
theorem infoRec : (Tryd.prog.info? 44).map (fun i => (i.zero, i.size, i.bytes)) = some (some (.agg #[.int .i64 0, .int .i64 0, .int .i64 0, .int .i64 0, .int .i64 0, .int .i64 0, .int .i64 0, .int .i64 0, .int .i64 0, .int .i64 0, .string ⟨#[]⟩, .slice none 0 0]), 12, 120) := by kernel_rfl
theorem cells_one (rs : List RecV) : ∀ u ∈ rs.flatMap RecV.cells, u.oneCell' = true := by
  intro u hu
  obtain ⟨r, _, h⟩ := List.mem_flatMap.1 hu
  simp at h
  rcases h with rfl | rfl | rfl | rfl | rfl | rfl | rfl | rfl | rfl | rfl | rfl | rfl <;> rfl
theorem cells_len (rs : List RecV) : (rs.flatMap RecV.cells).length = rs.length * 12 := by
  induction rs with
  | nil => rfl
  | cons r rs ih => rw [List.flatMap_cons, List.length_append, ih]; show 12 + _ = _; simp; omega
theorem flat_at : ∀ (rs : List RecV) (k : Nat) (u : Value), (rs.flatMap RecV.cells)[k]? = some u → ∃ i, ∃ h : i < rs.length, ∃ j, j < 12 ∧ k = i * 12 + j ∧ (rs[i]).cells[j]? = some u
  | [], k, u, h => by simp at h
  | r :: rs, k, u, h => by
    rw [List.flatMap_cons] at h
    by_cases hk : k < 12
    · rw [List.getElem?_append_left (by show k < 12; exact hk)] at h
      exact ⟨0, by simp, k, hk, by omega, h⟩
    · rw [List.getElem?_append_right (by show 12 ≤ k; omega)] at h
      obtain ⟨i, hi, j, hj, e, q⟩ := flat_at rs (k - 12) u h
      exact ⟨i + 1, by simp; omega, j, hj, by omega, q⟩
theorem addr_add0 (b o k : Nat) : (⟨b, o, none⟩ : Addr).add k = ⟨b, o + k, none⟩ := by unfold Addr.add; split <;> simp_all
/-- append of a list of records onto a row of one's own. -/
theorem wpList_append_recs (w : World) {ops : Array Oper} {rest : List Oper} {o : Oper} {a : Act} {Q : Exit → Act → World → Prop} (hgd : o.guard = none) (s x : Operand)
    (ho : o.op = .call { callee := .builtin .append, args := #[s, x], argTypes := #[22, 22] })
    (base : Nat) (v : Value) (Rs : List RecD) (hs : a.eval s = v) (hown : OwnRecs w base v Rs) (src : Sl) (Xs : List RecD) (hx : a.eval x = src.v) (hr : RecsIn w base src Xs)
    (hn : Rs.length + Xs.length ≤ 1048576) (hbase : base ≤ w.heap.size)
    (h : ∀ (v' : Sl) w', OwnRecs w' base v'.v (Rs ++ Xs) → w.grownBy w' v.ownBlock → (v'.v.ownBlock = v.ownBlock ∨ v'.v.ownBlock = some w.heap.size) → v'.n = Rs.length + Xs.length → wpList Tryd.prog ops Q rest (a.put o.dst v'.v) w') : wpList Tryd.prog ops Q (o :: rest) a w := by
  obtain ⟨i, hi, hzz⟩ := Option.map_eq_some_iff.1 infoRec
  simp only [Prod.mk.injEq] at hzz
  obtain ⟨hz, hsz, hby⟩ := hzz
  obtain ⟨rs, o1, o2, o3⟩ := hown
  obtain ⟨xs, x1, x2, x3, x4, x5⟩ := hr
  obtain ⟨A, m, c⟩ := src
  simp only at x1 x3 x4
  cases A with
  | none =>
    have hc := x3.2.2 rfl
    have hm : m = 0 := by
      rcases Nat.eq_zero_or_pos m with h0 | h0
      · exact h0
      · obtain ⟨_, _, h', _⟩ := x4 h0
        cases h'
    subst hc hm
    have hX : Xs = [] := List.eq_nil_of_length_eq_zero (by omega)
    subst hX
    refine wpList_append_own_none hgd s x _ ho base _ i 12 Tryd.underlying22 hi v _ _ hs o1 hx ?_
    obtain ⟨sl, e, en⟩ := OwnRecs.sl ⟨rs, o1, o2, o3⟩
    subst e
    exact h sl w (by rw [List.append_nil]; exact ⟨rs, o1, o2, o3⟩) (World.grownBy.refl _ _) (.inl rfl) (by simpa using en)
  | some ad =>
    have hl : (xs.flatMap RecV.cells).length = m * 12 := by rw [cells_len, x1]
    refine wpList_append_own_at w hgd s x _ ho base _ i _ 12 120 Tryd.underlying22 hi hz hsz hby rfl (by decide) v _ _ hs o1 ad m c (xs.flatMap RecV.cells) hx hl ?_ (cells_one xs) (by simp only [maxLen]; omega) (by omega) hbase ?_
    · intro k u hu
      obtain ⟨q, hq, j, hj, rfl, e⟩ := flat_at xs k u hu
      obtain ⟨b, o', e', hc⟩ := x4 (by omega)
      obtain rfl : ad = ⟨b, o', none⟩ := Option.some.inj e'
      rw [addr_add0, ← Nat.add_assoc, hc q hq j hj]
      exact e
    · intro v' w' p1 p2 _ p4
      have keep : ∀ {x : Sl} {y : List Int}, OwnBytes w base x.v y → OwnBytes w' base x.v y := fun hx => World.ownsRow.kept hx p2 (own_apart_rec hx o1)
      have hO : OwnRecs w' base v' (Rs ++ Xs) := by
        refine ⟨rs ++ xs, ?_, by simp [o2, x2], fun i a b => ?_⟩
        · rw [List.flatMap_append, List.length_append, ← x2, ← x1]; exact p1
        · by_cases e : i < rs.length
          · rw [List.getElem_append_left e, List.getElem_append_left (by omega)]
            exact ⟨(o3 i e (by omega)).1, keep (o3 i e (by omega)).2⟩
          · rw [List.getElem_append_right (by omega), List.getElem_append_right (by omega)]
            simp only [o2]
            have ha : i - Rs.length < xs.length := by simp at a; omega
            have hb : i - Rs.length < Xs.length := by omega
            exact ⟨(x5 _ ha hb).1, keep (x5 _ ha hb).2⟩
      obtain ⟨sl, e, en⟩ := hO.sl
      subst e
      exact h sl w' hO p2 p4 (by rw [en, List.length_append])
end Go.Proofs.YtfbaliimjmimhaaDoor
