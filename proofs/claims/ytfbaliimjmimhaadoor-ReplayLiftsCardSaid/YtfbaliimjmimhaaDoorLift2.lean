/-
  lift.Up to version 2 walked. Conditions: the tables, as laid. (Printed by wip/gen_lift2.py.)
-/
import Derived.Test.YtfbaliimjmimhaaDoorUpLaw2
namespace Go.Proofs.YtfbaliimjmimhaaDoor
open Go.RowKit

set_option maxRecDepth 100000 in
theorem next_12 (w : World) (h : WaysAt w) : Calls Tryd.prog 45 #[.int .i64 1, .int .i64 2] w fun e w' => e = .returned (.agg #[.int .i64 1, .int .i64 2, .string ⟨#[49, 116, 111, 50]⟩, .func (.func 83) #[] #[]]) ∧ Below w.heap.size w w' := by
  have hb0 := Below.refl w.heap.size w
  have hc := Lib.hid (fun w => does_1 w)
  have hW := h.below (boxd (o := .cells #[.int .i64 0, .int .i64 0, .string ⟨#[]⟩, .nilFunc] 93) hb0)
  have HW := Lib.hid hW
  clear h hW
  go_enter Tryd.func45, Tryd.ntmps45
  go_wp2
  go_loopw [6] (fun c wr => c = .int .i64 0 ∧ wr = w.alloc (.cells #[.int .i64 0, .int .i64 0, .string ⟨#[]⟩, .nilFunc] 93)) (fun _ _ => 0)
  case atStart => exact ⟨rfl, rfl⟩
  case round =>
    obtain ⟨rfl, rfl⟩ := hrel
    obtain ⟨f0, t0, n0, f1, t1, n1⟩ := HW.out
    go_wp2_with (go_at_call 57; (with_reducible refine (hc.out _).mono ?_); rintro e w2 ⟨rfl, hb⟩; obtain ⟨hA, fA⟩ := after_one hb; have a0 := hA 0; have a1 := hA 1; have a2 := hA 2; have a3 := hA 3; simp only [List.getElem?_toArray, List.getElem?_cons_zero, List.getElem?_cons_succ] at a0 a1 a2 a3; have HB := Lib.hid (then_ (boxd hb0) hb); clear hb hA)
    refine bodyPost_ret (v := .agg #[.int .i64 1, .int .i64 2, .string ⟨#[49, 116, 111, 50]⟩, .func (.func 83) #[] #[]]) (by simp [results, Tryd.results45, go_sem, *]) rfl ⟨rfl, ?_⟩
    repeat (refine Below.set ?_ (by simp only; omega))
    exact HB.out


def finish2 (r : RecV) (d : List Int) : RecV := if r.v = 1 then { fillV r d with v := 2 } else r
theorem finish2_2 {r : RecV} {d : List Int} (h : r.v = 2) : finish2 r d = r := by
  unfold finish2
  rw [if_neg (by rw [h]; decide)]
theorem finish2_1 {r : RecV} {d : List Int} (h : r.v = 1) : finish2 { fillV r d with v := 2 } d = finish2 r d := by
  unfold finish2
  rw [if_neg (by show ¬ (2 : Int) = 1; decide), if_pos h]
set_option maxRecDepth 100000 in
set_option maxHeartbeats 4000000 in
theorem turned2_any (r : RecV) (d : List Int) (w : World) (hv : 1 ≤ r.v ∧ r.v ≤ 2) (hw : WaysAt w) (h : BytesAt w r.data d) (hd : d.length ≤ 1073741824) :
    Calls Tryd.prog 29 #[r.val, .int .i64 2] w fun e w' => ∃ s : Sl, e = .returned (.tuple #[(finish2 { r with data := s } d).val, .bool true]) ∧ OwnBytes w' w.heap.size s.v d ∧ Below w.heap.size w w' := by
  have hb0 := Below.refl w.heap.size w
  have hb1 := boxd (o := .cells (recArr r) 44) hb0
  have hb2 := boxd (o := .cells zeroRec 44) hb1
  have k0 := Lib.hid ((BlkAt.new w (recArr r) 44).push (.cells zeroRec 44))
  have k1 := Lib.hid (BlkAt.new (w.alloc (.cells (recArr r) 44)) zeroRec 44)
  have cC := Lib.hid (recClone_any r d _ (h.below hb2) hd)
  have HB := Lib.hid hb2
  have HW := Lib.hid hw
  clear hb0 hb1 hb2 h hw
  obtain ⟨v, kind, saga, step, try_, at_, last, code, count, pivot, name, ⟨da, dn, dc⟩⟩ := r
  dsimp only [RecV.val, Sl.v, recArr] at cC k0 k1 HB
  dsimp only [RecV.val, Sl.v]
  go_enter Tryd.func29, Tryd.ntmps29
  go_wp2_with fail
  refine cC.out.mono ?_
  rintro e w2 ⟨⟨sa, sn, sc⟩, rfl, ho, hb⟩
  have K0 := k0.out.below hb (by simp; omega)
  have K1' := k1.out.below hb (by simp)
  have K1 : BlkAt w2 (w.heap.size + 1) zeroRec 44 := by simpa using K1'
  clear K1'
  have HBB := Lib.hid (then_ HB.out hb)
  have HO := Lib.hid (ho.lower (base := w.heap.size + 2) (by simp))
  have hsz : w.heap.size + 2 ≤ w2.heap.size := by have := hb.size; simp at this; omega
  have a0 := K0.cell 0; have a1 := K0.cell 1; have a2 := K0.cell 2; have a3 := K0.cell 3; have a4 := K0.cell 4; have a5 := K0.cell 5; have a6 := K0.cell 6; have a7 := K0.cell 7; have a8 := K0.cell 8; have a9 := K0.cell 9; have a10 := K0.cell 10; have a11 := K0.cell 11
  simp only [List.getElem?_toArray, List.getElem?_cons_zero, List.getElem?_cons_succ] at a0 a1 a2 a3 a4 a5 a6 a7 a8 a9 a10 a11
  have f0 := K0.frozen
  have HK0 := Lib.hid K0
  have HK1 := Lib.hid K1
  clear K0 K1 ho hb k0 k1 HB cC
  dsimp only [Sl.v]
  go_wp2
  obtain ⟨T, hT⟩ : ∃ x, finish2 ⟨v, kind, saga, step, try_, at_, last, code, count, pivot, name, ⟨sa, sn, sc⟩⟩ d = x := ⟨_, rfl⟩
  go_loopw [] (fun wr => ∃ R : RecV, (1 ≤ R.v ∧ R.v ≤ 2) ∧ (R.v = 1 → R.data = ⟨sa, sn, sc⟩) ∧ finish2 R d = T ∧ Hid (TurnInv w wr R ⟨sa, sn, sc⟩ d)) (fun wr => (2 - intOf ((wr.cell? ⟨w.heap.size, 0, none⟩).getD undef)).toNat)
  case atStart =>
    refine ⟨⟨v, kind, saga, step, try_, at_, last, code, count, pivot, name, ⟨sa, sn, sc⟩⟩, hv, fun _ => rfl, hT, Lib.hid ⟨blk_write HK0.out, ?_, ?_, ?_, ?_⟩⟩
    · repeat (refine BlkAt.other ?_ (by simp only; omega) _)
      exact HK1.out
    · repeat (refine OwnBytes.set ?_ (by simp only; omega))
      exact HO.out
    · repeat (refine Below.set ?_ (by simp only; omega))
      exact HBB.out
    · simpa using hsz
  case round =>
    obtain ⟨⟨v, kind, saga, step, try_, at_, last, code, count, pivot, name, ⟨da, dn, dc⟩⟩, hRv, hRd, hfin, HI⟩ := hrel
    simp only at hRv hRd
    have hcases : v = 1 ∨ v = 2 := by omega
    rcases hcases with rfl | rfl
    · obtain ⟨rfl, rfl, rfl⟩ := Sl.mk.inj (hRd rfl)
      clear hRd hRv
      obtain ⟨⟨v', kind', saga', step', try', at', last', code', count', pivot', name', ⟨da', dn', dc'⟩⟩, hF⟩ : ∃ x, fillV ⟨1, kind, saga, step, try_, at_, last, code, count, pivot, name, ⟨da, dn, dc⟩⟩ d = x := ⟨_, rfl⟩
      have cF := fun w h => fill_any ⟨1, kind, saga, step, try_, at_, last, code, count, pivot, name, ⟨da, dn, dc⟩⟩ d w h
      rw [hF] at cF
      dsimp only [RecV.val, Sl.v] at cF
      have hfin2 : finish2 ⟨2, kind', saga', step', try', at', last', code', count', pivot', name', ⟨da', dn', dc'⟩⟩ d = T := by
        have := finish2_1 (r := ⟨1, kind, saga, step, try_, at_, last, code, count, pivot, name, ⟨da, dn, dc⟩⟩) (d := d) rfl
        rw [hF] at this
        exact this.trans hfin
      have CF := Lib.hid cF
      clear cF hF
      have I := HI.out
      have B0 := I.blk0
      dsimp only [recArr, Sl.v] at B0
      have b0 := B0.cell 0; have b1 := B0.cell 1; have b2 := B0.cell 2; have b3 := B0.cell 3; have b4 := B0.cell 4; have b5 := B0.cell 5; have b6 := B0.cell 6; have b7 := B0.cell 7; have b8 := B0.cell 8; have b9 := B0.cell 9; have b10 := B0.cell 10; have b11 := B0.cell 11; simp only [List.getElem?_toArray, List.getElem?_cons_zero, List.getElem?_cons_succ] at b0 b1 b2 b3 b4 b5 b6 b7 b8 b9 b10 b11; have bf := B0.frozen
      have HIB := Lib.hid B0
      have cX := Lib.hid (next_12 wr (HW.out.below I.below))
      have I5 := I.size
      clear B0
      go_wp2_with (first
        | (go_at_call 45; (with_reducible refine cX.out.mono ?_); rintro e w3 ⟨rfl, hb3⟩; have A3 := HIB.out.below hb3 (by omega); have HQ3 := Lib.hid hb3; clear b0 b1 b2 b3 b4 b5 b6 b7 b8 b9 b10 b11 bf; have a0 := A3.cell 0; have a1 := A3.cell 1; have a2 := A3.cell 2; have a3 := A3.cell 3; have a4 := A3.cell 4; have a5 := A3.cell 5; have a6 := A3.cell 6; have a7 := A3.cell 7; have a8 := A3.cell 8; have a9 := A3.cell 9; have a10 := A3.cell 10; have a11 := A3.cell 11; simp only [List.getElem?_toArray, List.getElem?_cons_zero, List.getElem?_cons_succ] at a0 a1 a2 a3 a4 a5 a6 a7 a8 a9 a10 a11; have af := A3.frozen; have HA4 := Lib.hid (A3.push (.cells #[.int .i64 1, .int .i64 2, .string ⟨#[49, 116, 111, 50]⟩, .func (.func 83) #[] #[]] 93)); have c0 := HA4.out.cell 0; have c1 := HA4.out.cell 1; have c2 := HA4.out.cell 2; have c3 := HA4.out.cell 3; have c4 := HA4.out.cell 4; have c5 := HA4.out.cell 5; have c6 := HA4.out.cell 6; have c7 := HA4.out.cell 7; have c8 := HA4.out.cell 8; have c9 := HA4.out.cell 9; have c10 := HA4.out.cell 10; have c11 := HA4.out.cell 11; simp only [List.getElem?_toArray, List.getElem?_cons_zero, List.getElem?_cons_succ] at c0 c1 c2 c3 c4 c5 c6 c7 c8 c9 c10 c11; have cf := HA4.out.frozen; clear hb3 A3)
        | (go_at_call 83; (with_reducible refine (CF.out _ (BytesAt.below (BytesAt.below (HI.out.own.bytes (by omega)) HQ3.out) (boxd (Below.refl _ _)))).mono ?_); rintro e w5 ⟨rfl, hb5⟩; have h35 := HQ3.out.size; have h3w : w.heap.size < w3.heap.size := (by omega); have A5 := HA4.out.below hb5 (Nat.lt_of_lt_of_le h3w (by simp)); have HQ5 := Lib.hid hb5; have S5 := (BlkAt.new w3 #[.int .i64 1, .int .i64 2, .string ⟨#[49, 116, 111, 50]⟩, .func (.func 83) #[] #[]] 93).below hb5 (by simp); clear a0 a1 a2 a3 a4 a5 a6 a7 a8 a9 a10 a11 af c0 c1 c2 c3 c4 c5 c6 c7 c8 c9 c10 c11 cf; have d0 := A5.cell 0; have d1 := A5.cell 1; have d2 := A5.cell 2; have d3 := A5.cell 3; have d4 := A5.cell 4; have d5 := A5.cell 5; have d6 := A5.cell 6; have d7 := A5.cell 7; have d8 := A5.cell 8; have d9 := A5.cell 9; have d10 := A5.cell 10; have d11 := A5.cell 11; simp only [List.getElem?_toArray, List.getElem?_cons_zero, List.getElem?_cons_succ] at d0 d1 d2 d3 d4 d5 d6 d7 d8 d9 d10 d11; have df := A5.frozen; have s1 := S5.cell 1; simp only [List.getElem?_toArray, List.getElem?_cons_zero, List.getElem?_cons_succ] at s1; have hne : ¬ w3.heap.size = w.heap.size := (by omega); have hne2 : ¬ w.heap.size = w3.heap.size := (by omega); have h55 := hb5.size; have HA5 := Lib.hid A5; clear hb5 A5 S5))
      all_goals go_roundw
      case rel =>
        refine ⟨⟨2, kind', saga', step', try', at', last', code', count', pivot', name', ⟨da', dn', dc'⟩⟩, by simp, (fun h => by simp at h), hfin2, Lib.hid ⟨?_, ?_, ?_, ?_, ?_⟩⟩
        · simpa [recArr] using (blk_write HA5.out).set (i := 0) (.int .i64 2)
        · repeat (refine BlkAt.other ?_ (by simp only; omega) _)
          exact ((HI.out.blk1.below HQ3.out (by omega)).push _).below HQ5.out (by simp; omega)
        · repeat (refine OwnBytes.set ?_ (by simp only; omega))
          exact OwnBytes.through (OwnBytes.through (OwnBytes.through HI.out.own HQ3.out) (boxd (Below.refl _ _))) HQ5.out
        · repeat (refine Below.set ?_ (by simp only; omega))
          exact then_ (boxd (then_ HI.out.below HQ3.out)) HQ5.out
        · simp at h55; simp; omega
      case measure =>
        have e0 := HI.out.blk0.cell 0
        simp only [recArr] at e0
        rw [((blk_write HA5.out).set (i := 0) (.int .i64 2)).cell 0, e0]
        simp [intOf]
    · have hT2 := hfin
      rw [finish2_2 rfl] at hT2
      rw [← hT2] at hT
      have HT := Lib.hid hT
      have I := HI.out
      have B0 := I.blk0
      have B1 := I.blk1
      dsimp only [recArr, Sl.v] at B0
      dsimp only [zeroRec] at B1
      have b0 := B0.cell 0
      have b1 := B0.cell 1
      have b2 := B0.cell 2
      have b3 := B0.cell 3
      have b4 := B0.cell 4
      have b5 := B0.cell 5
      have b6 := B0.cell 6
      have b7 := B0.cell 7
      have b8 := B0.cell 8
      have b9 := B0.cell 9
      have b10 := B0.cell 10
      have b11 := B0.cell 11
      simp only [List.getElem?_toArray, List.getElem?_cons_zero, List.getElem?_cons_succ] at b0 b1 b2 b3 b4 b5 b6 b7 b8 b9 b10 b11
      have bf := B0.frozen
      have z0 := B1.cell 0
      have z1 := B1.cell 1
      have z2 := B1.cell 2
      have z3 := B1.cell 3
      have z4 := B1.cell 4
      have z5 := B1.cell 5
      have z6 := B1.cell 6
      have z7 := B1.cell 7
      have z8 := B1.cell 8
      have z9 := B1.cell 9
      have z10 := B1.cell 10
      have z11 := B1.cell 11
      simp only [List.getElem?_toArray, List.getElem?_cons_zero, List.getElem?_cons_succ] at z0 z1 z2 z3 z4 z5 z6 z7 z8 z9 z10 z11
      have zf := B1.frozen
      have I5 := I.size
      clear B0 B1 I hT hT2 hfin hRd hRv
      go_wp2
      refine bodyPost_ret (v := .tuple #[.agg #[.int .i64 2, .int .i64 kind, .int .i64 saga, .int .i64 step, .int .i64 try_, .int .i64 at_, .int .i64 last, .int .i64 code, .int .i64 count, .int .i64 pivot, .string name, .slice da dn dc], .bool true]) (by simp [results, Tryd.results29, go_sem, *]) rfl ⟨⟨sa, sn, sc⟩, ?_, ?_, ?_⟩
      · rw [HT.out]
      · refine OwnBytes.lower (b := w.heap.size + 2) ?_ (by omega)
        repeat (refine OwnBytes.set ?_ (by simp only; omega))
        exact HI.out.own
      · repeat (refine Below.set ?_ (by simp only; omega))
        exact HI.out.below
set_option maxRecDepth 100000 in
set_option maxHeartbeats 1000000 in
theorem up2_good (r : RecV) (d : List Int) (w : World) (ht : Tables w) (hok : RecOk w r d) (he : recN r d = 0) (h2 : r.v ≤ 2) :
    Calls Tryd.prog 16 #[r.val, .int .i64 2] w fun e w' => ∃ s : Sl, e = .returned (.tuple #[(finish2 { r with data := s } d).val, .int .i64 0]) ∧ OwnBytes w' w.heap.size s.v d ∧ Below w.heap.size w w' := by
  have hb0 := Below.refl w.heap.size w
  have hb1 := boxd (o := .cells (recArr r) 44) hb0
  have hb2 := boxd (o := .cells zeroRec 44) hb1
  have k0 := Lib.hid ((BlkAt.new w (recArr r) 44).push (.cells zeroRec 44))
  have k1 := Lib.hid (BlkAt.new (w.alloc (.cells (recArr r) 44)) zeroRec 44)
  have cC := recCheck_any r d _ (ht.below hb2).tabs (ht.below hb2).may (hok.below hb2)
  have hv := recN_0 he
  have hdl : d.length ≤ 1073741824 := by have := recN_len he; have := hok.data.len; omega
  have cT := fun w hw h => turned2_any r d w ⟨hv.1, h2⟩ hw h hdl
  rw [he] at cC
  have cC := Lib.hid cC
  have CT := Lib.hid cT
  have HW := Lib.hid (ht.below hb2).ways
  have HD := Lib.hid (hok.below hb2).data
  have HB := Lib.hid hb2
  have hv3 : ¬ (2 : Int) < r.v := by omega
  clear hb0 hb1 hb2 ht hok he cT hv h2
  obtain ⟨v, kind, saga, step, try_, at_, last, code, count, pivot, name, ⟨da, dn, dc⟩⟩ := r
  simp only at hv3
  dsimp only [RecV.val, Sl.v, recArr] at cC k1 HB k0 CT HW HD
  dsimp only [RecV.val, Sl.v]
  go_enter Tryd.func16, Tryd.ntmps16
  go_wp2_with fail
  refine cC.out.mono ?_
  rintro e w2 ⟨rfl, hb⟩
  have K0 := k0.out.below hb (by simp; omega)
  have b0 := K0.cell 0; have b1 := K0.cell 1; have b2 := K0.cell 2; have b3 := K0.cell 3; have b4 := K0.cell 4; have b5 := K0.cell 5; have b6 := K0.cell 6; have b7 := K0.cell 7; have b8 := K0.cell 8; have b9 := K0.cell 9; have b10 := K0.cell 10; have b11 := K0.cell 11; simp only [List.getElem?_toArray, List.getElem?_cons_zero, List.getElem?_cons_succ] at b0 b1 b2 b3 b4 b5 b6 b7 b8 b9 b10 b11; have bf := K0.frozen
  have K1' := k1.out.below hb (by simp)
  have HK1 : Hid (BlkAt w2 (w.heap.size + 1) zeroRec 44) := Lib.hid (by simpa using K1')
  have hsz : w.heap.size + 2 ≤ w2.heap.size := by have := hb.size; simp at this; omega
  have HBB := Lib.hid (then_ HB.out hb)
  have HH := Lib.hid hb
  clear K0 K1' hb HB cC k1 k0
  go_wp2_with (go_at_call 28; (with_reducible refine (known_any _ _).mono ?_); rintro e w3 ⟨rfl, hw3⟩; rw [hw3]; clear hw3)
  refine (CT.out _ (HW.out.below HH.out) (HD.out.below HH.out)).mono ?_
  rintro e w4 ⟨⟨sa, sn, sc⟩, rfl, ho, hb⟩
  obtain ⟨⟨v', kind', saga', step', try', at', last', code', count', pivot', name', ⟨da', dn', dc'⟩⟩, hF⟩ : ∃ x, finish2 ⟨v, kind, saga, step, try_, at_, last, code, count, pivot, name, ⟨sa, sn, sc⟩⟩ d = x := ⟨_, rfl⟩
  rw [hF]
  dsimp only [RecV.val, Sl.v]
  have HF := Lib.hid hF
  have HO := Lib.hid ho
  have H4 := Lib.hid hb
  have K4 := (HK1.out.below hb (by omega)).push (.cells #[.int .i64 v', .int .i64 kind', .int .i64 saga', .int .i64 step', .int .i64 try', .int .i64 at', .int .i64 last', .int .i64 code', .int .i64 count', .int .i64 pivot', .string name', .slice da' dn' dc'] 44)
  have h4s := hb.size
  dsimp only [zeroRec] at K4
  clear bf hF ho hb b0 b1 b2 b3 b4 b5 b6 b7 b8 b9 b10 b11
  have z0 := K4.cell 0
  have z1 := K4.cell 1
  have z2 := K4.cell 2
  have z3 := K4.cell 3
  have z4 := K4.cell 4
  have z5 := K4.cell 5
  have z6 := K4.cell 6
  have z7 := K4.cell 7
  have z8 := K4.cell 8
  have z9 := K4.cell 9
  have z10 := K4.cell 10
  have z11 := K4.cell 11
  simp only [List.getElem?_toArray, List.getElem?_cons_zero, List.getElem?_cons_succ] at z0 z1 z2 z3 z4 z5 z6 z7 z8 z9 z10 z11
  have zf := K4.frozen
  clear K4
  have hne : ¬ w.heap.size + 1 = w4.heap.size := by omega
  have hne2 : ¬ w4.heap.size = w.heap.size + 1 := by omega
  go_wp2
  refine bodyPost_ret (v := .tuple #[.agg #[.int .i64 v', .int .i64 kind', .int .i64 saga', .int .i64 step', .int .i64 try', .int .i64 at', .int .i64 last', .int .i64 code', .int .i64 count', .int .i64 pivot', .string name', .slice da' dn' dc'], .int .i64 0]) (by simp [results, Tryd.results16, go_sem, *]) rfl ⟨⟨sa, sn, sc⟩, ?_, ?_, ?_⟩
  · rw [HF.out]
  · refine OwnBytes.lower (b := w2.heap.size) ?_ (by omega)
    repeat (refine OwnBytes.set ?_ (by simp only; omega))
    exact OwnBytes.through HO.out (boxd (Below.refl _ _))
  · repeat (refine Below.set ?_ (by simp only; omega))
    exact boxd (then_ HBB.out H4.out)
set_option maxRecDepth 100000 in
set_option maxHeartbeats 4000000 in
theorem up2_bad (r : RecV) (d : List Int) (w : World) (ht : Tables w) (hok : RecOk w r d) (he : recN r d ≠ 0) :
    Calls Tryd.prog 16 #[r.val, .int .i64 2] w fun e w' => e = .returned (.tuple #[zeroRecV.val, .int .i64 (recN r d)]) ∧ Below w.heap.size w w' := by
  have hb0 := Below.refl w.heap.size w
  have hb1 := boxd (o := .cells (recArr r) 44) hb0
  have hb2 := boxd (o := .cells zeroRec 44) hb1
  have k1 := Lib.hid (BlkAt.new (w.alloc (.cells (recArr r) 44)) zeroRec 44)
  have cC := recCheck_any r d _ (ht.below hb2).tabs (ht.below hb2).may (hok.below hb2)
  obtain ⟨E, hE⟩ : ∃ x, recN r d = x := ⟨_, rfl⟩
  rw [hE] at cC he
  rw [hE]
  have cC := Lib.hid cC
  have HB := Lib.hid hb2
  clear hb0 hb1 hb2 ht hok hE
  obtain ⟨v, kind, saga, step, try_, at_, last, code, count, pivot, name, ⟨da, dn, dc⟩⟩ := r
  dsimp only [RecV.val, Sl.v, recArr] at cC k1 HB
  dsimp only [RecV.val, Sl.v, zeroRecV]
  go_enter Tryd.func16, Tryd.ntmps16
  go_wp2_with fail
  refine cC.out.mono ?_
  rintro e w2 ⟨rfl, hb⟩
  have K1' := k1.out.below hb (by simp)
  have K1 : BlkAt w2 (w.heap.size + 1) zeroRec 44 := by simpa using K1'
  have HBB := Lib.hid (then_ HB.out hb)
  dsimp only [zeroRec] at K1
  have z0 := K1.cell 0; have z1 := K1.cell 1; have z2 := K1.cell 2; have z3 := K1.cell 3; have z4 := K1.cell 4; have z5 := K1.cell 5; have z6 := K1.cell 6; have z7 := K1.cell 7; have z8 := K1.cell 8; have z9 := K1.cell 9; have z10 := K1.cell 10; have z11 := K1.cell 11
  simp only [List.getElem?_toArray, List.getElem?_cons_zero, List.getElem?_cons_succ] at z0 z1 z2 z3 z4 z5 z6 z7 z8 z9 z10 z11
  have zf := K1.frozen
  clear K1 K1' hb HB cC k1
  go_wp2
  refine bodyPost_ret (v := .tuple #[.agg #[.int .i64 0, .int .i64 0, .int .i64 0, .int .i64 0, .int .i64 0, .int .i64 0, .int .i64 0, .int .i64 0, .int .i64 0, .int .i64 0, .string ⟨#[]⟩, .slice none 0 0], .int .i64 E]) (by simp [results, Tryd.results16, go_sem, *]) rfl ⟨rfl, ?_⟩
  repeat (refine Below.set ?_ (by simp only; omega))
  exact HBB.out

set_option maxRecDepth 100000 in
set_option maxHeartbeats 4000000 in
theorem up2_way (r : RecV) (d : List Int) (w : World) (ht : Tables w) (hok : RecOk w r d) (he : recN r d = 0) (h3 : r.v = 3) :
    Calls Tryd.prog 16 #[r.val, .int .i64 2] w fun e w' => (∃ E : Int, E ≠ 0 ∧ e = .returned (.tuple #[zeroRecV.val, .int .i64 E])) ∧ Below w.heap.size w w' := by
  have hb0 := Below.refl w.heap.size w
  have hb1 := boxd (o := .cells (recArr r) 44) hb0
  have hb2 := boxd (o := .cells zeroRec 44) hb1
  have k1 := Lib.hid (BlkAt.new (w.alloc (.cells (recArr r) 44)) zeroRec 44)
  have cC := recCheck_any r d _ (ht.below hb2).tabs (ht.below hb2).may (hok.below hb2)
  rw [he] at cC
  have k0 := Lib.hid ((BlkAt.new w (recArr r) 44).push (.cells zeroRec 44))
  have cC := Lib.hid cC
  have HB := Lib.hid hb2
  clear hb0 hb1 hb2 ht hok he
  obtain ⟨v, kind, saga, step, try_, at_, last, code, count, pivot, name, ⟨da, dn, dc⟩⟩ := r
  simp only at h3
  subst h3
  dsimp only [RecV.val, Sl.v, recArr] at cC k1 HB k0
  dsimp only [RecV.val, Sl.v, zeroRecV]
  go_enter Tryd.func16, Tryd.ntmps16
  go_wp2_with fail
  refine cC.out.mono ?_
  rintro e w2 ⟨rfl, hb⟩
  have K1' := k1.out.below hb (by simp)
  have K1 : BlkAt w2 (w.heap.size + 1) zeroRec 44 := by simpa using K1'
  have HBB := Lib.hid (then_ HB.out hb)
  have K0 := k0.out.below hb (by simp; omega)
  have b0 := K0.cell 0
  simp only [List.getElem?_toArray, List.getElem?_cons_zero] at b0
  dsimp only [zeroRec] at K1
  have z0 := K1.cell 0; have z1 := K1.cell 1; have z2 := K1.cell 2; have z3 := K1.cell 3; have z4 := K1.cell 4; have z5 := K1.cell 5; have z6 := K1.cell 6; have z7 := K1.cell 7; have z8 := K1.cell 8; have z9 := K1.cell 9; have z10 := K1.cell 10; have z11 := K1.cell 11
  simp only [List.getElem?_toArray, List.getElem?_cons_zero, List.getElem?_cons_succ] at z0 z1 z2 z3 z4 z5 z6 z7 z8 z9 z10 z11
  have zf := K1.frozen
  clear K1 K1' hb HB cC k1 k0 K0
  go_wp2_with (go_at_call 28; (with_reducible refine (known_any _ _).mono ?_); rintro e w3 ⟨rfl, hw3⟩; rw [hw3]; clear hw3)
  refine bodyPost_ret (v := .tuple #[.agg #[.int .i64 0, .int .i64 0, .int .i64 0, .int .i64 0, .int .i64 0, .int .i64 0, .int .i64 0, .int .i64 0, .int .i64 0, .int .i64 0, .string ⟨#[]⟩, .slice none 0 0], .int .i64 41]) (by simp [results, Tryd.results16, go_sem, *]) rfl ⟨⟨41, by decide, rfl⟩, ?_⟩
  repeat (refine Below.set ?_ (by simp only; omega))
  exact HBB.out

theorem finish2_rd {w : World} {b : Nat} {s : Sl} {R : RecD} (ho : OwnBytes w b s.v R.data) : ∃ t : Sl, finish2 (R.words s) R.data = (up2 R).words t ∧ OwnBytes w b t.v (up2 R).data := by
  unfold finish2 up2 up3 fillV
  simp only
  split
  · split
    · exact ⟨⟨none, 0, 0⟩, rfl, World.ownsRow_nil _ _ _ _⟩
    · split
      · exact ⟨s, rfl, ho⟩
      · split
        · exact ⟨s, rfl, ho⟩
        · exact ⟨s, rfl, ho⟩
  · exact ⟨s, rfl, ho⟩
end Go.Proofs.YtfbaliimjmimhaaDoor
