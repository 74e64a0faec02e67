/-
  annalslaw11.mingled: how its loop stands. Conditions: as each theorem says.
-/
import Derived.Test.YtfbaliimjmimhaaDoorFoldUse
import Derived.Laws.BitsLemmas
import Derived.Deep.AppendLies
namespace Go.Proofs.YtfbaliimjmimhaaDoor
open Go.RowKit

theorem and40 (x : Int) : 0 ≤ bits .and .i64 x 1099511627775 ∧ bits .and .i64 x 1099511627775 ≤ 1099511627775 := by
  have h : (BitVec.ofInt 64 x &&& BitVec.ofInt 64 1099511627775).toNat ≤ 1099511627775 := by
    rw [BitVec.toNat_and]
    exact Nat.le_trans Nat.and_le_right (by decide)
  have e : bits .and .i64 x 1099511627775 = IntKind.i64.wrap ((BitVec.ofInt 64 x &&& BitVec.ofInt 64 1099511627775).toNat : Nat) := rfl
  rw [e, IntKind.wrap_i64]
  omega
/-- append of a list of records at a step of a region that draws. -/
theorem step_append_recs {w : World} {ops : Array Oper} {o : Oper} {a : Act} {K : Act → World → Prop} {Q : Exit → Act → World → Prop} {E : Prop} (hgd : o.guard = none) (s x : Operand)
    (ho : o.op = .call { callee := .builtin .append, args := #[s, x], argTypes := #[22, 22] })
    (base : Nat) (v : Value) (Rs : List RecD) (hs : a.eval s = v) (hown : OwnRecs w base v Rs) (src : Sl) (Xs : List RecD) (hx : a.eval x = src.v) (hr : RecsIn w base src Xs)
    (hn : Rs.length + Xs.length ≤ 1048576) (hbase : base ≤ w.heap.size)
    (h : ∀ (v' : Sl) w', OwnRecs w' base v'.v (Rs ++ Xs) → w.grownBy w' v.ownBlock → (v'.v.ownBlock = v.ownBlock ∨ v'.v.ownBlock = some w.heap.size) → v'.n = Rs.length + Xs.length → K (a.put o.dst v'.v) w') : if Region.wanted o (yielded ops a.tmps) = true then Oper.wp Tryd.prog o a w K Q else E := by
  have hw : Region.wanted o (yielded ops a.tmps) = true := by simp [Region.wanted, hgd]
  rw [if_pos hw]
  obtain ⟨i, hi, hzz⟩ := Option.map_eq_some_iff.1 infoRec
  simp only [Prod.mk.injEq] at hzz
  obtain ⟨hz, hsz, hby⟩ := hzz
  obtain ⟨rs, o1, o2, o3⟩ := hown
  obtain ⟨xs, x1, x2, x3, x4, x5⟩ := hr
  obtain ⟨A, m, c⟩ := src
  simp only at x1 x3 x4
  cases A with
  | none =>
    have hc := x3.2.2 rfl
    have hm : m = 0 := by
      rcases Nat.eq_zero_or_pos m with h0 | h0
      · exact h0
      · obtain ⟨_, _, h', _⟩ := x4 h0
        cases h'
    subst hc hm
    have hX : Xs = [] := List.eq_nil_of_length_eq_zero (by omega)
    subst hX
    have hrun := run_append_owned_none (P := Tryd.prog) (w := w) base 22 o.type _ i 12 Tryd.underlying22 hi v _ _ o1
    obtain ⟨sl, e, en⟩ := OwnRecs.sl ⟨rs, o1, o2, o3⟩
    subst e
    unfold Oper.wp execOp
    simp only [ho, resolve, invoke, builtin, Sem.run_bind, Sem.run_pure, Result.andThen_ok, List.map_toArray, List.map_cons, List.map_nil, hs, hx, Sl.v] at hrun ⊢
    rw [hrun]
    exact h sl w (by rw [List.append_nil]; exact ⟨rs, o1, o2, o3⟩) (World.grownBy.refl _ _) (.inl rfl) (by simpa using en)
  | some ad =>
    have hl : (xs.flatMap RecV.cells).length = m * 12 := by rw [cells_len, x1]
    obtain ⟨v', w', hrun, p1, p2, _, p4⟩ := run_append_own_at (P := Tryd.prog) w base 22 o.type _ i _ 12 120 Tryd.underlying22 hi hz hsz hby rfl (by decide) v _ _ o1 ad m c (xs.flatMap RecV.cells) hl (fun k u hu => by
      obtain ⟨q, hq, j, hj, rfl, e⟩ := flat_at xs k u hu
      obtain ⟨b, o', e', hc⟩ := x4 (by omega)
      obtain rfl : ad = ⟨b, o', none⟩ := Option.some.inj e'
      rw [addr_add0, ← Nat.add_assoc, hc q hq j hj]
      exact e) (cells_one xs) (by simp only [maxLen]; omega) (by omega) hbase
    have keep : ∀ {x : Sl} {y : List Int}, OwnBytes w base x.v y → OwnBytes w' base x.v y := fun hx => World.ownsRow.kept hx p2 (own_apart_rec hx o1)
    have hO : OwnRecs w' base v' (Rs ++ Xs) := by
      refine ⟨rs ++ xs, ?_, by simp [o2, x2], fun i a b => ?_⟩
      · rw [List.flatMap_append, List.length_append, ← x2, ← x1]; exact p1
      · by_cases e : i < rs.length
        · rw [List.getElem_append_left e, List.getElem_append_left (by omega)]
          exact ⟨(o3 i e (by omega)).1, keep (o3 i e (by omega)).2⟩
        · rw [List.getElem_append_right (by omega), List.getElem_append_right (by omega)]
          simp only [o2]
          have ha : i - Rs.length < xs.length := by simp at a; omega
          have hb : i - Rs.length < Xs.length := by omega
          exact ⟨(x5 _ ha hb).1, keep (x5 _ ha hb).2⟩
    obtain ⟨sl, e, en⟩ := hO.sl
    subst e
    unfold Oper.wp execOp
    simp only [ho, resolve, invoke, builtin, Sem.run_bind, Sem.run_pure, Result.andThen_ok, List.map_toArray, List.map_cons, List.map_nil, hs, hx, Sl.v] at hrun ⊢
    rw [hrun]
    exact h sl w' hO p2 p4 (by rw [en, List.length_append])
/-- A row of records grows: no row of bytes, lists turns. -/
theorem rows_rec {w w' : World} {b n : Nat} {v : Value} {xs : List Value} (h : w.ownsRow b 44 12 v n xs) (hg : w.grownBy w' v.ownBlock) : RowsKept w w' := by
  have key : ∀ (e : TypeId), e ≠ 44 → ∀ (k : Nat) (cur : Array Value), w.heap[k]? = some (Obj.cells cur e) → w'.heap[k]? = w.heap[k]? := by
    intro e he k cur hc
    refine hg.block k (Array.getElem?_eq_some_iff.1 hc).1 (fun e' => ?_)
    rcases h.2 with ⟨rfl, _⟩ | ⟨g, cap, c2, rfl, _, hgg, _⟩
    · cases e'
    · simp only [Value.ownBlock, Option.some.injEq] at e'
      subst e'
      rw [hgg] at hc
      simp at hc
      exact he hc.2.symm
  exact ⟨key _ (by decide), key _ (by decide)⟩
theorem RecsIn.none {w : World} {B n c : Nat} {a : Option Addr} {Rs : List RecD} (hn : n = 0) (hr : Rs.length = 0) (hc : c ≤ 9223372036854775807) (ha : a = Option.none → c = 0) : RecsIn w B ⟨a, n, c⟩ Rs := by
  obtain rfl : Rs = [] := List.eq_nil_of_length_eq_zero hr
  subst hn
  exact ⟨[], rfl, rfl, ⟨by simp, hc, ha⟩, fun h => by simp at h, fun i h => by simp at h⟩
/-- How the loop stands. -/
structure MSt (w wr : World) (B : Nat) (out : Value) (sl : Sl) (L Ro Rl : List RecD) : Prop where
  row : RowSt w wr B out Ro
  l : RecsIn wr B sl Rl
  apart : ∀ ad, sl.a = some ad → out.ownBlock ≠ some ad.block
  ming : Mingled L Ro Rl
  len : Ro.length + Rl.length = L.length
/-- Behind the append to out. -/
theorem MSt.out {w wr w' : World} {B H : Nat} {out : Value} {sl v : Sl} {L Ro Rl Ts : List RecD} {x : Obj} (h : MSt w wr B out sl L Ro Rl) (h0 : 0 < Rl.length) (ho : OwnRecs w' B v.v Ts) (hg : (wr.alloc x).grownBy w' out.ownBlock) (hH : (wr.alloc x).heap.size ≤ H) (hat : v.v.ownBlock = out.ownBlock ∨ v.v.ownBlock = some H) :
    RowSt w w' B v.v Ts ∧ RecsIn w' B sl Rl := by
  have hr : RowSt w (wr.alloc x) B out Ro := h.row.call (boxd (Below.refl _ _))
  have hl := h.l.below (boxd (o := x) (Below.refl _ _))
  refine ⟨hr.put ho hg hH hat, hl.heap (fun ad e => ?_) ?_⟩
  · refine hg.block _ ?_ (fun e' => h.apart ad e e'.symm)
    obtain ⟨rs, q1, q2, q3, q4, q5⟩ := hl
    obtain ⟨b, o, e2, hc⟩ := q4 (by omega)
    rw [e] at e2
    cases e2
    have h1 := hc 0 (by omega) 0 (by omega)
    exact World.block_lt_of_cell? _ _ (h1.trans (List.getElem?_eq_getElem (by show 0 < 12; omega)))
  · obtain ⟨rs, o1, _⟩ := hr.own
    exact rows_rec o1 hg
/-- Behind the round. -/
theorem MSt.next {w wr w1 w3 : World} {B i : Nat} {out v1 : Value} {sl v : Sl} {L Ro Rl : List RecD} (h : MSt w wr B out sl L Ro Rl) (hi : i < Rl.length) (hf : ∀ k (hk : k < i), Rl[k].saga ≠ Rl[i].saga) (hr : RowSt w w1 B v1 (Ro ++ [Rl[i]])) (hb : Below w1.heap.size w1 w3) (ho : OwnRecs w3 B v.v (Rl.take i ++ Rl.drop (i + 1))) (hn : ∀ g, v.v.ownBlock = some g → w1.heap.size ≤ g) :
    MSt w w3 B v1 v L (Ro ++ [Rl[i]]) (Rl.take i ++ Rl.drop (i + 1)) := by
  refine ⟨hr.call hb, ho.recsIn, fun ad e e' => ?_, h.ming.step hi hf, Mingled.len h.len hi _⟩
  obtain ⟨va, vn, vc⟩ := v
  simp only at e
  subst e
  have := hn _ rfl
  exact hr.ne this e'
end Go.Proofs.YtfbaliimjmimhaaDoor
