/-
  lift.turned walked (up to version 3). Conditions: the table of ways as laid.
-/
import Derived.Test.YteaiadpigpehaaaDoorLiftNext
namespace Go.Proofs.YteaiadpigpehaaaDoor
open Go.RowKit

/-- A block of cells that may be written. -/
def BlkAt (w : World) (g : Nat) (cs : Array Value) (t : TypeId) : Prop := w.heap[g]? = some (.cells cs t)
theorem BlkAt.below {w w' : World} {B g : Nat} {cs : Array Value} {t : TypeId} (h : BlkAt w g cs t) (hb : Below B w w') (hg : g < B) : BlkAt w' g cs t := by
  unfold BlkAt; rw [hb.block g hg]; exact h
theorem BlkAt.cell {w : World} {g : Nat} {cs : Array Value} {t : TypeId} (h : BlkAt w g cs t) (i : Nat) : w.cell? ⟨g, i, none⟩ = cs[i]? := by simp [World.cell?, show w.heap[g]? = _ from h]
theorem BlkAt.frozen {w : World} {g : Nat} {cs : Array Value} {t : TypeId} (h : BlkAt w g cs t) (i : Nat) : w.frozen? ⟨g, i, none⟩ = false := by simp [World.frozen?, show w.heap[g]? = _ from h]
theorem BlkAt.new (w : World) (cs : Array Value) (t : TypeId) : BlkAt (w.alloc (.cells cs t)) w.heap.size cs t := by
  show (w.heap.push (.cells cs t))[w.heap.size]? = _
  simp
theorem BlkAt.push {w : World} {g : Nat} {cs : Array Value} {t : TypeId} (h : BlkAt w g cs t) (o : Obj) : BlkAt (w.alloc o) g cs t := by
  have hlt : g < w.heap.size := (Array.getElem?_eq_some_iff.1 h).1
  show (w.heap.push o)[g]? = _
  rw [Array.getElem?_push_lt hlt]
  rw [← h, Array.getElem?_eq_getElem hlt]
theorem BlkAt.set {w : World} {g i : Nat} {cs : Array Value} {t : TypeId} (h : BlkAt w g cs t) (u : Value) : BlkAt (w.setCell ⟨g, i, none⟩ u) g (cs.setIfInBounds i u) t := by
  rw [setCell_eq_setRow w g i cs t (0, 0) u h]
  exact setRow_heap w g cs _ t (0, 0) h
theorem BlkAt.other {w : World} {g : Nat} {cs : Array Value} {t : TypeId} (h : BlkAt w g cs t) {a : Addr} (ha : a.block ≠ g) (u : Value) : BlkAt (w.setCell a u) g cs t := by
  unfold BlkAt
  rw [Below.heap_setCell w a u g (Ne.symm ha)]
  exact h

@[reducible] def zeroRec : Array Value := #[.int .i64 0, .int .i64 0, .int .i64 0, .int .i64 0, .int .i64 0, .int .i64 0, .int .i64 0, .int .i64 0, .int .i64 0, .int .i64 0, .string ⟨#[]⟩, .slice none 0 0]
def recArr (r : RecV) : Array Value := #[.int .i64 r.v, .int .i64 r.kind, .int .i64 r.saga, .int .i64 r.step, .int .i64 r.try_, .int .i64 r.at_, .int .i64 r.last, .int .i64 r.code, .int .i64 r.count, .int .i64 r.pivot, .string r.name, r.data.v]
def finish (r : RecV) (d : List Int) : RecV := if r.v = 1 then { fillV r d with v := 3 } else { r with v := 3 }
theorem finish_3 {r : RecV} {d : List Int} (h : r.v = 3) : finish r d = r := by
  obtain ⟨v, kind, saga, step, try_, at_, last, code, count, pivot, name, data⟩ := r
  simp only at h
  subst h
  rfl
theorem finish_2 {r : RecV} {d : List Int} (h : r.v = 2) : finish { r with v := 3 } d = finish r d := by
  unfold finish
  rw [if_neg (by show ¬ (3 : Int) = 1; decide), if_neg (by rw [h]; decide)]
theorem fillV_v (r : RecV) (d : List Int) (x : Int) : fillV { r with v := x } d = { fillV r d with v := x } := by
  unfold fillV
  simp only
  split
  · rfl
  · split
    · rfl
    · split <;> rfl
theorem finish_1 {r : RecV} {d : List Int} (h : r.v = 1) : finish { fillV r d with v := 2 } d = finish r d := by
  unfold finish
  rw [if_neg (by show ¬ (2 : Int) = 1; decide), if_pos h]

theorem blk_write {w : World} {g : Nat} {t : TypeId} {x0 x1 x2 x3 x4 x5 x6 x7 x8 x9 x10 x11 v0 v1 v2 v3 v4 v5 v6 v7 v8 v9 v10 v11 : Value} (h : BlkAt w g #[x0, x1, x2, x3, x4, x5, x6, x7, x8, x9, x10, x11] t) : BlkAt ((((((((((((w.setCell ⟨g, 0, none⟩ v0).setCell ⟨g, 1, none⟩ v1).setCell ⟨g, 2, none⟩ v2).setCell ⟨g, 3, none⟩ v3).setCell ⟨g, 4, none⟩ v4).setCell ⟨g, 5, none⟩ v5).setCell ⟨g, 6, none⟩ v6).setCell ⟨g, 7, none⟩ v7).setCell ⟨g, 8, none⟩ v8).setCell ⟨g, 9, none⟩ v9).setCell ⟨g, 10, none⟩ v10).setCell ⟨g, 11, none⟩ v11) g #[v0, v1, v2, v3, v4, v5, v6, v7, v8, v9, v10, v11] t := by
  have := ((((((((((((h.set (i := 0) v0).set (i := 1) v1).set (i := 2) v2).set (i := 3) v3).set (i := 4) v4).set (i := 5) v5).set (i := 6) v6).set (i := 7) v7).set (i := 8) v8).set (i := 9) v9).set (i := 10) v10).set (i := 11) v11)
  simpa using this
/-- How lift.turned stands at a round. -/
structure TurnInv (w wr : World) (R : RecV) (s : Sl) (d : List Int) : Prop where
  blk0 : BlkAt wr w.heap.size (recArr R) 27
  blk1 : BlkAt wr (w.heap.size + 1) zeroRec 27
  own : OwnBytes wr (w.heap.size + 2) s.v d
  below : Below w.heap.size w wr
  size : w.heap.size + 2 ≤ wr.heap.size

set_option maxRecDepth 100000 in
set_option maxHeartbeats 4000000 in
theorem turned_any (r : RecV) (d : List Int) (w : World) (hv : 1 ≤ r.v ∧ r.v ≤ 3) (hw : WaysAt w) (h : BytesAt w r.data d) (hd : d.length ≤ 1073741824) :
    Calls Tryd.prog 46 #[r.val, .int .i64 3] w fun e w' => ∃ s : Sl, e = .returned (.tuple #[(finish { r with data := s } d).val, .bool true]) ∧ OwnBytes w' w.heap.size s.v d ∧ Below w.heap.size w w' := by
  have hb0 := Below.refl w.heap.size w
  have hb1 := boxd (o := .cells (recArr r) 27) hb0
  have hb2 := boxd (o := .cells zeroRec 27) hb1
  have k0 := Lib.hid ((BlkAt.new w (recArr r) 27).push (.cells zeroRec 27))
  have k1 := Lib.hid (BlkAt.new (w.alloc (.cells (recArr r) 27)) zeroRec 27)
  have cC := Lib.hid (recClone_any r d _ (h.below hb2) hd)
  have HB := Lib.hid hb2
  have HW := Lib.hid hw
  clear hb0 hb1 hb2 h hw
  obtain ⟨v, kind, saga, step, try_, at_, last, code, count, pivot, name, ⟨da, dn, dc⟩⟩ := r
  dsimp only [RecV.val, Sl.v, recArr] at cC k0 k1 HB
  dsimp only [RecV.val, Sl.v]
  go_enter Tryd.func46, Tryd.ntmps46
  go_wp2_with fail
  refine cC.out.mono ?_
  rintro e w2 ⟨⟨sa, sn, sc⟩, rfl, ho, hb⟩
  have K0 := k0.out.below hb (by simp; omega)
  have K1' := k1.out.below hb (by simp)
  have K1 : BlkAt w2 (w.heap.size + 1) zeroRec 27 := by simpa using K1'
  clear K1'
  have HBB := Lib.hid (then_ HB.out hb)
  have HO := Lib.hid (ho.lower (base := w.heap.size + 2) (by simp))
  have hsz : w.heap.size + 2 ≤ w2.heap.size := by have := hb.size; simp at this; omega
  have a0 := K0.cell 0; have a1 := K0.cell 1; have a2 := K0.cell 2; have a3 := K0.cell 3; have a4 := K0.cell 4; have a5 := K0.cell 5; have a6 := K0.cell 6; have a7 := K0.cell 7; have a8 := K0.cell 8; have a9 := K0.cell 9; have a10 := K0.cell 10; have a11 := K0.cell 11
  simp only [List.getElem?_toArray, List.getElem?_cons_zero, List.getElem?_cons_succ] at a0 a1 a2 a3 a4 a5 a6 a7 a8 a9 a10 a11
  have f0 := K0.frozen
  have HK0 := Lib.hid K0
  have HK1 := Lib.hid K1
  clear K0 K1 ho hb k0 k1 HB cC
  dsimp only [Sl.v]
  go_wp2
  obtain ⟨T, hT⟩ : ∃ x, finish ⟨v, kind, saga, step, try_, at_, last, code, count, pivot, name, ⟨sa, sn, sc⟩⟩ d = x := ⟨_, rfl⟩
  go_loopw [] (fun wr => ∃ R : RecV, (1 ≤ R.v ∧ R.v ≤ 3) ∧ (R.v = 1 → R.data = ⟨sa, sn, sc⟩) ∧ finish R d = T ∧ Hid (TurnInv w wr R ⟨sa, sn, sc⟩ d)) (fun wr => (3 - intOf ((wr.cell? ⟨w.heap.size, 0, none⟩).getD undef)).toNat)
  case atStart =>
    refine ⟨⟨v, kind, saga, step, try_, at_, last, code, count, pivot, name, ⟨sa, sn, sc⟩⟩, hv, fun _ => rfl, hT, Lib.hid ⟨blk_write HK0.out, ?_, ?_, ?_, ?_⟩⟩
    · repeat (refine BlkAt.other ?_ (by simp only; omega) _)
      exact HK1.out
    · repeat (refine OwnBytes.set ?_ (by simp only; omega))
      exact HO.out
    · repeat (refine Below.set ?_ (by simp only; omega))
      exact HBB.out
    · simpa using hsz
  case round =>
    obtain ⟨⟨v, kind, saga, step, try_, at_, last, code, count, pivot, name, ⟨da, dn, dc⟩⟩, hRv, hRd, hfin, HI⟩ := hrel
    simp only at hRv hRd
    have hcases : v = 1 ∨ v = 2 ∨ v = 3 := by omega
    rcases hcases with rfl | rfl | rfl
    · obtain ⟨rfl, rfl, rfl⟩ := Sl.mk.inj (hRd rfl)
      clear hRd hRv
      obtain ⟨⟨v', kind', saga', step', try', at', last', code', count', pivot', name', ⟨da', dn', dc'⟩⟩, hF⟩ : ∃ x, fillV ⟨1, kind, saga, step, try_, at_, last, code, count, pivot, name, ⟨da, dn, dc⟩⟩ d = x := ⟨_, rfl⟩
      have cF := fun w h => fill_any ⟨1, kind, saga, step, try_, at_, last, code, count, pivot, name, ⟨da, dn, dc⟩⟩ d w h
      rw [hF] at cF
      dsimp only [RecV.val, Sl.v] at cF
      have hfin2 : finish ⟨2, kind', saga', step', try', at', last', code', count', pivot', name', ⟨da', dn', dc'⟩⟩ d = T := by
        have := finish_1 (r := ⟨1, kind, saga, step, try_, at_, last, code, count, pivot, name, ⟨da, dn, dc⟩⟩) (d := d) rfl
        rw [hF] at this
        exact this.trans hfin
      have CF := Lib.hid cF
      clear cF hF
      have I := HI.out
      have B0 := I.blk0
      dsimp only [recArr, Sl.v] at B0
      have b0 := B0.cell 0; have b1 := B0.cell 1; have b2 := B0.cell 2; have b3 := B0.cell 3; have b4 := B0.cell 4; have b5 := B0.cell 5; have b6 := B0.cell 6; have b7 := B0.cell 7; have b8 := B0.cell 8; have b9 := B0.cell 9; have b10 := B0.cell 10; have b11 := B0.cell 11; simp only [List.getElem?_toArray, List.getElem?_cons_zero, List.getElem?_cons_succ] at b0 b1 b2 b3 b4 b5 b6 b7 b8 b9 b10 b11; have bf := B0.frozen
      have HIB := Lib.hid B0
      have cX := Lib.hid (next_1 wr (HW.out.below I.below))
      have I5 := I.size
      clear B0
      go_wp2_with (first
        | (go_at_call 73; (with_reducible refine cX.out.mono ?_); rintro e w3 ⟨rfl, hb3⟩; have A3 := HIB.out.below hb3 (by omega); have HQ3 := Lib.hid hb3; clear b0 b1 b2 b3 b4 b5 b6 b7 b8 b9 b10 b11 bf; have a0 := A3.cell 0; have a1 := A3.cell 1; have a2 := A3.cell 2; have a3 := A3.cell 3; have a4 := A3.cell 4; have a5 := A3.cell 5; have a6 := A3.cell 6; have a7 := A3.cell 7; have a8 := A3.cell 8; have a9 := A3.cell 9; have a10 := A3.cell 10; have a11 := A3.cell 11; simp only [List.getElem?_toArray, List.getElem?_cons_zero, List.getElem?_cons_succ] at a0 a1 a2 a3 a4 a5 a6 a7 a8 a9 a10 a11; have af := A3.frozen; have HA4 := Lib.hid (A3.push (.cells #[.int .i64 1, .int .i64 2, .string ⟨#[49, 116, 111, 50]⟩, .func (.func 110) #[] #[]] 109)); have c0 := HA4.out.cell 0; have c1 := HA4.out.cell 1; have c2 := HA4.out.cell 2; have c3 := HA4.out.cell 3; have c4 := HA4.out.cell 4; have c5 := HA4.out.cell 5; have c6 := HA4.out.cell 6; have c7 := HA4.out.cell 7; have c8 := HA4.out.cell 8; have c9 := HA4.out.cell 9; have c10 := HA4.out.cell 10; have c11 := HA4.out.cell 11; simp only [List.getElem?_toArray, List.getElem?_cons_zero, List.getElem?_cons_succ] at c0 c1 c2 c3 c4 c5 c6 c7 c8 c9 c10 c11; have cf := HA4.out.frozen; clear hb3 A3)
        | (go_at_call 110; (with_reducible refine (CF.out _ (BytesAt.below (BytesAt.below (HI.out.own.bytes (by omega)) HQ3.out) (boxd (Below.refl _ _)))).mono ?_); rintro e w5 ⟨rfl, hb5⟩; have h35 := HQ3.out.size; have h3w : w.heap.size < w3.heap.size := (by omega); have A5 := HA4.out.below hb5 (Nat.lt_of_lt_of_le h3w (by simp)); have HQ5 := Lib.hid hb5; have S5 := (BlkAt.new w3 #[.int .i64 1, .int .i64 2, .string ⟨#[49, 116, 111, 50]⟩, .func (.func 110) #[] #[]] 109).below hb5 (by simp); clear a0 a1 a2 a3 a4 a5 a6 a7 a8 a9 a10 a11 af c0 c1 c2 c3 c4 c5 c6 c7 c8 c9 c10 c11 cf; have d0 := A5.cell 0; have d1 := A5.cell 1; have d2 := A5.cell 2; have d3 := A5.cell 3; have d4 := A5.cell 4; have d5 := A5.cell 5; have d6 := A5.cell 6; have d7 := A5.cell 7; have d8 := A5.cell 8; have d9 := A5.cell 9; have d10 := A5.cell 10; have d11 := A5.cell 11; simp only [List.getElem?_toArray, List.getElem?_cons_zero, List.getElem?_cons_succ] at d0 d1 d2 d3 d4 d5 d6 d7 d8 d9 d10 d11; have df := A5.frozen; have s1 := S5.cell 1; simp only [List.getElem?_toArray, List.getElem?_cons_zero, List.getElem?_cons_succ] at s1; have hne : ¬ w3.heap.size = w.heap.size := (by omega); have hne2 : ¬ w.heap.size = w3.heap.size := (by omega); have h55 := hb5.size; have HA5 := Lib.hid A5; clear hb5 A5 S5))
      all_goals go_roundw
      case rel =>
        refine ⟨⟨2, kind', saga', step', try', at', last', code', count', pivot', name', ⟨da', dn', dc'⟩⟩, by simp, (fun h => by simp at h), hfin2, Lib.hid ⟨?_, ?_, ?_, ?_, ?_⟩⟩
        · simpa [recArr] using (blk_write HA5.out).set (i := 0) (.int .i64 2)
        · repeat (refine BlkAt.other ?_ (by simp only; omega) _)
          exact ((HI.out.blk1.below HQ3.out (by omega)).push _).below HQ5.out (by simp; omega)
        · repeat (refine OwnBytes.set ?_ (by simp only; omega))
          exact OwnBytes.through (OwnBytes.through (OwnBytes.through HI.out.own HQ3.out) (boxd (Below.refl _ _))) HQ5.out
        · repeat (refine Below.set ?_ (by simp only; omega))
          exact then_ (boxd (then_ HI.out.below HQ3.out)) HQ5.out
        · simp at h55; simp; omega
      case measure =>
        have e0 := HI.out.blk0.cell 0
        simp only [recArr] at e0
        rw [((blk_write HA5.out).set (i := 0) (.int .i64 2)).cell 0, e0]
        simp [intOf]
    · clear hRd hRv
      have hfin2 : finish ⟨3, kind, saga, step, try_, at_, last, code, count, pivot, name, ⟨da, dn, dc⟩⟩ d = T := (finish_2 (r := ⟨2, kind, saga, step, try_, at_, last, code, count, pivot, name, ⟨da, dn, dc⟩⟩) (d := d) rfl).trans hfin
      have cF := fun w => stay_any ⟨2, kind, saga, step, try_, at_, last, code, count, pivot, name, ⟨da, dn, dc⟩⟩ w
      dsimp only [RecV.val, Sl.v] at cF
      have CF := Lib.hid cF
      clear cF
      have I := HI.out
      have B0 := I.blk0
      dsimp only [recArr, Sl.v] at B0
      have b0 := B0.cell 0; have b1 := B0.cell 1; have b2 := B0.cell 2; have b3 := B0.cell 3; have b4 := B0.cell 4; have b5 := B0.cell 5; have b6 := B0.cell 6; have b7 := B0.cell 7; have b8 := B0.cell 8; have b9 := B0.cell 9; have b10 := B0.cell 10; have b11 := B0.cell 11; simp only [List.getElem?_toArray, List.getElem?_cons_zero, List.getElem?_cons_succ] at b0 b1 b2 b3 b4 b5 b6 b7 b8 b9 b10 b11; have bf := B0.frozen
      have HIB := Lib.hid B0
      have cX := Lib.hid (next_2 wr (HW.out.below I.below))
      have I5 := I.size
      clear B0
      go_wp2_with (first
        | (go_at_call 73; (with_reducible refine cX.out.mono ?_); rintro e w3 ⟨rfl, hb3⟩; have A3 := HIB.out.below hb3 (by omega); have HQ3 := Lib.hid hb3; clear b0 b1 b2 b3 b4 b5 b6 b7 b8 b9 b10 b11 bf; have a0 := A3.cell 0; have a1 := A3.cell 1; have a2 := A3.cell 2; have a3 := A3.cell 3; have a4 := A3.cell 4; have a5 := A3.cell 5; have a6 := A3.cell 6; have a7 := A3.cell 7; have a8 := A3.cell 8; have a9 := A3.cell 9; have a10 := A3.cell 10; have a11 := A3.cell 11; simp only [List.getElem?_toArray, List.getElem?_cons_zero, List.getElem?_cons_succ] at a0 a1 a2 a3 a4 a5 a6 a7 a8 a9 a10 a11; have af := A3.frozen; have HA4 := Lib.hid (A3.push (.cells #[.int .i64 2, .int .i64 3, .string ⟨#[50, 116, 111, 51]⟩, .func (.func 99) #[] #[]] 109)); have c0 := HA4.out.cell 0; have c1 := HA4.out.cell 1; have c2 := HA4.out.cell 2; have c3 := HA4.out.cell 3; have c4 := HA4.out.cell 4; have c5 := HA4.out.cell 5; have c6 := HA4.out.cell 6; have c7 := HA4.out.cell 7; have c8 := HA4.out.cell 8; have c9 := HA4.out.cell 9; have c10 := HA4.out.cell 10; have c11 := HA4.out.cell 11; simp only [List.getElem?_toArray, List.getElem?_cons_zero, List.getElem?_cons_succ] at c0 c1 c2 c3 c4 c5 c6 c7 c8 c9 c10 c11; have cf := HA4.out.frozen; clear hb3 A3)
        | (go_at_call 99; (with_reducible refine (CF.out _).mono ?_); rintro e w5 ⟨rfl, hb5⟩; have h35 := HQ3.out.size; have h3w : w.heap.size < w3.heap.size := (by omega); have A5 := HA4.out.below hb5 (Nat.lt_of_lt_of_le h3w (by simp)); have HQ5 := Lib.hid hb5; have S5 := (BlkAt.new w3 #[.int .i64 2, .int .i64 3, .string ⟨#[50, 116, 111, 51]⟩, .func (.func 99) #[] #[]] 109).below hb5 (by simp); clear a0 a1 a2 a3 a4 a5 a6 a7 a8 a9 a10 a11 af c0 c1 c2 c3 c4 c5 c6 c7 c8 c9 c10 c11 cf; have d0 := A5.cell 0; have d1 := A5.cell 1; have d2 := A5.cell 2; have d3 := A5.cell 3; have d4 := A5.cell 4; have d5 := A5.cell 5; have d6 := A5.cell 6; have d7 := A5.cell 7; have d8 := A5.cell 8; have d9 := A5.cell 9; have d10 := A5.cell 10; have d11 := A5.cell 11; simp only [List.getElem?_toArray, List.getElem?_cons_zero, List.getElem?_cons_succ] at d0 d1 d2 d3 d4 d5 d6 d7 d8 d9 d10 d11; have df := A5.frozen; have s1 := S5.cell 1; simp only [List.getElem?_toArray, List.getElem?_cons_zero, List.getElem?_cons_succ] at s1; have hne : ¬ w3.heap.size = w.heap.size := (by omega); have hne2 : ¬ w.heap.size = w3.heap.size := (by omega); have h55 := hb5.size; have HA5 := Lib.hid A5; clear hb5 A5 S5))
      all_goals go_roundw
      case rel =>
        refine ⟨⟨3, kind, saga, step, try_, at_, last, code, count, pivot, name, ⟨da, dn, dc⟩⟩, by simp, (fun h => by simp at h), hfin2, Lib.hid ⟨?_, ?_, ?_, ?_, ?_⟩⟩
        · simpa [recArr] using (blk_write HA5.out).set (i := 0) (.int .i64 3)
        · repeat (refine BlkAt.other ?_ (by simp only; omega) _)
          exact ((HI.out.blk1.below HQ3.out (by omega)).push _).below HQ5.out (by simp; omega)
        · repeat (refine OwnBytes.set ?_ (by simp only; omega))
          exact OwnBytes.through (OwnBytes.through (OwnBytes.through HI.out.own HQ3.out) (boxd (Below.refl _ _))) HQ5.out
        · repeat (refine Below.set ?_ (by simp only; omega))
          exact then_ (boxd (then_ HI.out.below HQ3.out)) HQ5.out
        · simp at h55; simp; omega
      case measure =>
        have e0 := HI.out.blk0.cell 0
        simp only [recArr] at e0
        rw [((blk_write HA5.out).set (i := 0) (.int .i64 3)).cell 0, e0]
        simp [intOf]
    · have hT2 := hfin
      rw [finish_3 rfl] at hT2
      rw [← hT2] at hT
      have HT := Lib.hid hT
      have I := HI.out
      have B0 := I.blk0
      have B1 := I.blk1
      dsimp only [recArr, Sl.v] at B0
      dsimp only [zeroRec] at B1
      have b0 := B0.cell 0
      have b1 := B0.cell 1
      have b2 := B0.cell 2
      have b3 := B0.cell 3
      have b4 := B0.cell 4
      have b5 := B0.cell 5
      have b6 := B0.cell 6
      have b7 := B0.cell 7
      have b8 := B0.cell 8
      have b9 := B0.cell 9
      have b10 := B0.cell 10
      have b11 := B0.cell 11
      simp only [List.getElem?_toArray, List.getElem?_cons_zero, List.getElem?_cons_succ] at b0 b1 b2 b3 b4 b5 b6 b7 b8 b9 b10 b11
      have bf := B0.frozen
      have z0 := B1.cell 0
      have z1 := B1.cell 1
      have z2 := B1.cell 2
      have z3 := B1.cell 3
      have z4 := B1.cell 4
      have z5 := B1.cell 5
      have z6 := B1.cell 6
      have z7 := B1.cell 7
      have z8 := B1.cell 8
      have z9 := B1.cell 9
      have z10 := B1.cell 10
      have z11 := B1.cell 11
      simp only [List.getElem?_toArray, List.getElem?_cons_zero, List.getElem?_cons_succ] at z0 z1 z2 z3 z4 z5 z6 z7 z8 z9 z10 z11
      have zf := B1.frozen
      have I5 := I.size
      clear B0 B1 I hT hT2 hfin hRd hRv
      go_wp2
      refine bodyPost_ret (v := .tuple #[.agg #[.int .i64 3, .int .i64 kind, .int .i64 saga, .int .i64 step, .int .i64 try_, .int .i64 at_, .int .i64 last, .int .i64 code, .int .i64 count, .int .i64 pivot, .string name, .slice da dn dc], .bool true]) (by simp [results, Tryd.results46, go_sem, *]) rfl ⟨⟨sa, sn, sc⟩, ?_, ?_, ?_⟩
      · rw [HT.out]
      · refine OwnBytes.lower (b := w.heap.size + 2) ?_ (by omega)
        repeat (refine OwnBytes.set ?_ (by simp only; omega))
        exact HI.out.own
      · repeat (refine Below.set ?_ (by simp only; omega))
        exact HI.out.below
end Go.Proofs.YteaiadpigpehaaaDoor
