/-
  saga.lists walked: a copy of a list of lists of bytes, in new memory. Conditions: none.
-/
import Derived.Test.YteaiadpigpehaaaDoorClone
import Derived.Test.YteaiadpigpehaaaDoorSmall
namespace Go.Proofs.YteaiadpigpehaaaDoor
open Go.RowKit

/-- A row of rows of bytes of one's own. -/
def OwnLists (w : World) (base : Nat) (v : Value) (ls : List (List Int)) : Prop :=
  ∃ vs : List Sl, w.ownsRow base 22 1 v ls.length (vs.map Sl.v) ∧ vs.length = ls.length ∧ ∀ i (h1 : i < vs.length) (h2 : i < ls.length), OwnBytes w base (vs[i]).v ls[i]
theorem OwnLists.nil (w : World) (base : Nat) : OwnLists w base (.slice none 0 0) [] := ⟨[], World.ownsRow_nil _ _ _ _, rfl, fun i h => by simp at h⟩
theorem OwnLists.through {w w' : World} {base : Nat} {v : Value} {ls : List (List Int)} (h : OwnLists w base v ls) (hb : Below w.heap.size w w') : OwnLists w' base v ls := by
  obtain ⟨vs, h1, h2, h3⟩ := h
  exact ⟨vs, own_through h1 hb, h2, fun i a b => (h3 i a b).through hb⟩
/-- Bytes and a row of rows lie in blocks of different types. -/
theorem own_apart {w : World} {b b' : Nat} {v u : Value} {d : List Int} {n : Nat} {xs : List Value} (h : OwnBytes w b v d) (k : w.ownsRow b' 22 1 u n xs) : v.ownBlock = none ∨ v.ownBlock ≠ u.ownBlock := by
  rcases h.2 with ⟨rfl, _⟩ | ⟨g, cap, cur, rfl, _, hg, _⟩
  · exact .inl rfl
  · refine .inr fun e => ?_
    rcases k.2 with ⟨rfl, _⟩ | ⟨g', cap', cur', rfl, _, hg', _⟩
    · cases e
    · simp only [Value.ownBlock, Option.some.injEq] at e
      subst e
      rw [hg] at hg'
      simp at hg'
theorem OwnLists.grown {w w' : World} {base : Nat} {v v' : Value} {ls : List (List Int)} {s : Sl} {d : List Int} {vs : List Sl} (h2 : vs.length = ls.length) (h3 : ∀ i (h1 : i < vs.length) (h2 : i < ls.length), OwnBytes w base (vs[i]).v ls[i])
    (h1 : w.ownsRow base 22 1 v ls.length (vs.map Sl.v)) (hs : OwnBytes w base s.v d) (hn : w'.ownsRow base 22 1 v' (ls.length + 1) (vs.map Sl.v ++ [s.v])) (hg : w.grownBy w' v.ownBlock) : OwnLists w' base v' (ls ++ [d]) := by
  refine ⟨vs ++ [s], by simpa using hn, by simp [h2], fun i a b => ?_⟩
  have keep : ∀ {x : Sl} {y : List Int}, OwnBytes w base x.v y → OwnBytes w' base x.v y := fun hx => World.ownsRow.kept hx hg (own_apart hx h1)
  by_cases e : i < vs.length
  · rw [List.getElem_append_left e, List.getElem_append_left (by omega)]
    exact keep (h3 i e (by omega))
  · have e1 : i = vs.length := by simp at a; omega
    subst e1
    rw [List.getElem_append_right (by omega), List.getElem_append_right (by omega)]
    simpa using keep hs

theorem RowAt.of_lit1 (w : World) (a : Value) (t : TypeId) : RowAt (w.alloc (.cells #[a] t)) ⟨some ⟨w.heap.size, 0, none⟩, 1, 1⟩ [a] := by
  refine ⟨rfl, ⟨by simp, fun h => by cases h⟩, fun _ => ⟨w.heap.size, 0, rfl, fun i hi => ?_⟩⟩
  match i, hi with
  | 0, _ => simp
theorem take_snoc {α : Type} (l : List α) (j : Nat) (h : j < l.length) : l.take (j + 1) = l.take j ++ [l[j]] := by rw [List.take_succ_eq_append_getElem h]

set_option maxRecDepth 100000 in
set_option maxHeartbeats 1000000 in
theorem lists_any (l : Sl) (ls : List (List Int)) (w : World) (h : ListsAt w l ls) (hn : ls.length ≤ 1048576) (hd : ∀ d ∈ ls, d.length ≤ 1073741824) :
    Calls Tryd.prog 66 #[l.v] w fun e w' => ∃ v, e = .returned v ∧ OwnLists w' w.heap.size v ls ∧ Below w.heap.size w w' := by
  obtain ⟨vs, h1, h2, h3⟩ := h
  have hl := h1.1
  rw [List.length_map] at hl
  have hmax := h1.2.1.1
  have H := Lib.hid (fun j hj => row_get h1 (j := j) hj)
  have H3 := Lib.hid h3
  clear h1 h3
  obtain ⟨a, n, c⟩ := l
  simp only at hl hmax
  subst hl
  dsimp only [Sl.v]
  go_enter Tryd.func66, Tryd.ntmps66
  go_wp2
  go_loopw [3, 8] (fun v c wr => ∃ j : Nat, j ≤ vs.length ∧ c = .int .i64 j ∧ Hid (OwnLists wr w.heap.size v (ls.take j)) ∧ Hid (Below w.heap.size w wr)) (fun _ c _ => vs.length - (intOf c).toNat)
  case atStart => exact ⟨0, by omega, rfl, Lib.hid (OwnLists.nil _ _), Lib.hid (Below.refl _ _)⟩
  case round =>
    obtain ⟨j, hj, rfl, HO, HB⟩ := hrel
    by_cases hlt : j < vs.length
    · obtain ⟨b, o, hA, hc⟩ := H.out j hlt
      have hc := (HB.out.cell (World.block_lt_of_cell? _ _ hc)).trans hc
      subst hA
      have hbs := H3.out j hlt (by omega)
      have hj2 : j < ls.length := by omega
      have hgd : vs.getD j nilSl = vs[j] := by simp [List.getD, hlt]
      rw [hgd] at hc
      have cB := Lib.hid (bytesOf_any vs[j] ls[j] wr (hbs.below HB.out) (hd _ (List.getElem_mem _)))
      have hsn := take_snoc ls j hj2
      have hDl := hd ls[j] (List.getElem_mem _)
      obtain ⟨D, hD⟩ : ∃ x, ls[j] = x := ⟨_, rfl⟩
      rw [hD] at cB hsn hDl
      obtain ⟨⟨va, vn, vc⟩, hv⟩ : ∃ x, vs[j] = x := ⟨_, rfl⟩
      rw [hv] at hc cB
      dsimp only [Sl.v] at hc cB
      have hlen : (ls.take j).length = j := by rw [List.length_take]; omega
      have HS := Lib.hid hsn
      clear hv hD hbs hgd hsn
      go_wp2_with fail
      refine cB.out.mono ?_
      rintro e w2 ⟨v, rfl, hov, hb⟩
      obtain ⟨⟨sa, sn, sc⟩, rfl, -⟩ := hov.at (by omega)
      dsimp only [Sl.v] at hov
      have hsz := HB.out.size
      have hov2 := hov.lower (base := w.heap.size) hsz
      obtain ⟨us, o1, o2, o3⟩ := HO.out.through hb
      have hb1 := boxd (o := .cells #[.slice sa sn sc] 22) (Below.refl w2.heap.size w2)
      have HB2 := Lib.hid (boxd (o := .cells #[.slice sa sn sc] 22) (then_ HB.out hb))
      have O1 := Lib.hid (o1.alloc (.cells #[.slice sa sn sc] 22))
      have O3 := Lib.hid (fun i a b => (o3 i a b).through hb1)
      have OV := Lib.hid (hov2.through hb1)
      have hb2 := hb.size
      have OL := Lib.hid o2
      clear hov hov2 o1 o3 hb1 hb HO o2
      go_wp2_with (at_builtin; refine wpList_append_row _ rfl (.tmp 12) (.tmp 15) 23 rfl w.heap.size 22 (.slice none 0 0) 24 Tryd.underlying23 infoBytes rfl _ _ _ rfl O1.out ⟨some ⟨w2.heap.size, 0, none⟩, 1, 1⟩ [.slice sa sn sc] rfl (RowAt.of_lit1 w2 _ _) (by simp [Value.oneCell']) ?c1 ?c2 ?c3 ?_)
      case c1 => simp only [maxLen]; omega
      case c2 => omega
      case c3 => simp; omega
      intro v' w3 hown hgr
      have HG : Hid (OwnLists w3 w.heap.size v' (ls.take j ++ [D])) := Lib.hid (OwnLists.grown (s := ⟨sa, sn, sc⟩) OL.out O3.out O1.out OV.out (by rw [hlen]; exact hown) hgr)
      rw [← HS.out] at HG
      have HB3 : Hid (Below w.heap.size w w3) := Lib.hid (HB2.out.grown hgr (by simp; omega) (fun k hk => (O1.out.lt k hk).1))
      clear hown hgr O1 O3 OV HB2 OL
      go_wp2
      all_goals go_roundw
      case rel => exact ⟨j + 1, by omega, by go_num, HG, HB3⟩
      case measure => simp [intOf]; omega
    · obtain rfl : j = vs.length := by omega
      have HO2 : Hid (OwnLists wr w.heap.size _ ls) := Lib.hid (by have := HO.out; rwa [h2, List.take_length] at this)
      go_wp2
      all_goals go_ret
      all_goals exact ⟨_, rfl, HO2.out, HB.out⟩
end Go.Proofs.YteaiadpigpehaaaDoor
