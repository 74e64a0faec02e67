/-
  lift.Up walked (to version 3). Conditions: the tables of letters, of unicode/utf8, of the tags and of the ways as laid.
-/
import Derived.Test.YteaiadpigpehaaaDoorLiftTurned
namespace Go.Proofs.YteaiadpigpehaaaDoor
open Go.RowKit

/-- The tables that a record's way up reads. -/
structure Tables (w : World) : Prop where
  tabs : Tabs w
  may : MayAt w
  ways : WaysAt w
theorem Tables.below {w w' : World} (h : Tables w) (hb : Below w.heap.size w w') : Tables w' := ⟨h.tabs.below hb, h.may.below hb, h.ways.below hb⟩

def upD (r : RecV) (d : List Int) : List Int := if r.v = 1 ∧ r.kind = 1 then [] else d
theorem recN_0 {r : RecV} {d : List Int} (h : recN r d = 0) : 1 ≤ r.v ∧ r.v ≤ 3 ∧ 1 ≤ r.kind ∧ r.kind ≤ 7 ∧ 1 ≤ r.saga := by
  unfold recN at h
  split at h
  · cases h
  · split at h
    · cases h
    · split at h
      · cases h
      · omega
def zeroRecV : RecV := ⟨0, 0, 0, 0, 0, 0, 0, 0, 0, 0, ⟨#[]⟩, ⟨none, 0, 0⟩⟩

set_option maxRecDepth 100000 in
set_option maxHeartbeats 4000000 in
theorem up_bad (r : RecV) (d : List Int) (w : World) (ht : Tables w) (hok : RecOk w r d) (he : recN r d ≠ 0) :
    Calls Tryd.prog 13 #[r.val, .int .i64 3] w fun e w' => e = .returned (.tuple #[zeroRecV.val, .int .i64 (recN r d)]) ∧ Below w.heap.size w w' := by
  have hb0 := Below.refl w.heap.size w
  have hb1 := boxd (o := .cells (recArr r) 27) hb0
  have hb2 := boxd (o := .cells zeroRec 27) hb1
  have k1 := Lib.hid (BlkAt.new (w.alloc (.cells (recArr r) 27)) zeroRec 27)
  have cC := recCheck_any r d _ (ht.below hb2).tabs (ht.below hb2).may (hok.below hb2)
  obtain ⟨E, hE⟩ : ∃ x, recN r d = x := ⟨_, rfl⟩
  rw [hE] at cC he
  rw [hE]
  have cC := Lib.hid cC
  have HB := Lib.hid hb2
  clear hb0 hb1 hb2 ht hok hE
  obtain ⟨v, kind, saga, step, try_, at_, last, code, count, pivot, name, ⟨da, dn, dc⟩⟩ := r
  dsimp only [RecV.val, Sl.v, recArr] at cC k1 HB
  dsimp only [RecV.val, Sl.v, zeroRecV]
  go_enter Tryd.func13, Tryd.ntmps13
  go_wp2_with fail
  refine cC.out.mono ?_
  rintro e w2 ⟨rfl, hb⟩
  have K1' := k1.out.below hb (by simp)
  have K1 : BlkAt w2 (w.heap.size + 1) zeroRec 27 := by simpa using K1'
  have HBB := Lib.hid (then_ HB.out hb)
  dsimp only [zeroRec] at K1
  have z0 := K1.cell 0; have z1 := K1.cell 1; have z2 := K1.cell 2; have z3 := K1.cell 3; have z4 := K1.cell 4; have z5 := K1.cell 5; have z6 := K1.cell 6; have z7 := K1.cell 7; have z8 := K1.cell 8; have z9 := K1.cell 9; have z10 := K1.cell 10; have z11 := K1.cell 11
  simp only [List.getElem?_toArray, List.getElem?_cons_zero, List.getElem?_cons_succ] at z0 z1 z2 z3 z4 z5 z6 z7 z8 z9 z10 z11
  have zf := K1.frozen
  clear K1 K1' hb HB cC k1
  go_wp2
  refine bodyPost_ret (v := .tuple #[.agg #[.int .i64 0, .int .i64 0, .int .i64 0, .int .i64 0, .int .i64 0, .int .i64 0, .int .i64 0, .int .i64 0, .int .i64 0, .int .i64 0, .string ⟨#[]⟩, .slice none 0 0], .int .i64 E]) (by simp [results, Tryd.results13, go_sem, *]) rfl ⟨rfl, ?_⟩
  repeat (refine Below.set ?_ (by simp only; omega))
  exact HBB.out

theorem recFrom_all {r : RecV} {d : List Int} {T : Nat} : ∀ (f tag : Nat), recFrom r d T f tag = 0 → ∀ j, tag ≤ j → j < tag + f → tagErr r d T j = 0
  | 0, tag, _, j, h1, h2 => by omega
  | f + 1, tag, h, j, h1, h2 => by
    rw [recFrom] at h
    split at h
    · next h0 =>
      by_cases e : j = tag
      · rw [e]; exact h0
      · exact recFrom_all f (tag + 1) h j (by omega) (by omega)
    · next h0 => exact absurd h h0
theorem recN_len {r : RecV} {d : List Int} (h : recN r d = 0) : r.data.n ≤ 16384 := by
  have hh := recN_0 h
  unfold recN at h
  rw [if_neg (by omega), if_neg (by omega), if_neg (by omega)] at h
  have h11 := recFrom_all 9 3 h 11 (by omega) (by omega)
  unfold tagErr at h11
  split at h11
  · unfold boundsN at h11
    simp only [show (11 : Nat) ≠ 3 by decide, show (11 : Nat) ≠ 4 by decide, show (11 : Nat) ≠ 5 by decide, show (11 : Nat) ≠ 6 by decide, show (11 : Nat) ≠ 7 by decide, show (11 : Nat) ≠ 8 by decide, show (11 : Nat) ≠ 9 by decide, show (11 : Nat) ≠ 10 by decide, if_false] at h11
    split at h11
    · cases h11
    · omega
  · split at h11
    · next hz =>
      unfold zeroB at hz
      simp at hz
      omega
    · cases h11

set_option maxRecDepth 100000 in
set_option maxHeartbeats 1000000 in
theorem up_good (r : RecV) (d : List Int) (w : World) (ht : Tables w) (hok : RecOk w r d) (he : recN r d = 0) :
    Calls Tryd.prog 13 #[r.val, .int .i64 3] w fun e w' => ∃ s : Sl, e = .returned (.tuple #[(finish { r with data := s } d).val, .int .i64 0]) ∧ OwnBytes w' w.heap.size s.v d ∧ Below w.heap.size w w' := by
  have hb0 := Below.refl w.heap.size w
  have hb1 := boxd (o := .cells (recArr r) 27) hb0
  have hb2 := boxd (o := .cells zeroRec 27) hb1
  have k0 := Lib.hid ((BlkAt.new w (recArr r) 27).push (.cells zeroRec 27))
  have k1 := Lib.hid (BlkAt.new (w.alloc (.cells (recArr r) 27)) zeroRec 27)
  have cC := recCheck_any r d _ (ht.below hb2).tabs (ht.below hb2).may (hok.below hb2)
  have hv := recN_0 he
  have hdl : d.length ≤ 1073741824 := by have := recN_len he; have := hok.data.len; omega
  have cT := fun w hw h => turned_any r d w ⟨hv.1, hv.2.1⟩ hw h hdl
  rw [he] at cC
  have cC := Lib.hid cC
  have CT := Lib.hid cT
  have HW := Lib.hid (ht.below hb2).ways
  have HD := Lib.hid (hok.below hb2).data
  have HB := Lib.hid hb2
  have hv3 : ¬ (3 : Int) < r.v := by omega
  clear hb0 hb1 hb2 ht hok he cT hv
  obtain ⟨v, kind, saga, step, try_, at_, last, code, count, pivot, name, ⟨da, dn, dc⟩⟩ := r
  simp only at hv3
  dsimp only [RecV.val, Sl.v, recArr] at cC k1 HB k0 CT HW HD
  dsimp only [RecV.val, Sl.v]
  go_enter Tryd.func13, Tryd.ntmps13
  go_wp2_with fail
  refine cC.out.mono ?_
  rintro e w2 ⟨rfl, hb⟩
  have K0 := k0.out.below hb (by simp; omega)
  have b0 := K0.cell 0; have b1 := K0.cell 1; have b2 := K0.cell 2; have b3 := K0.cell 3; have b4 := K0.cell 4; have b5 := K0.cell 5; have b6 := K0.cell 6; have b7 := K0.cell 7; have b8 := K0.cell 8; have b9 := K0.cell 9; have b10 := K0.cell 10; have b11 := K0.cell 11; simp only [List.getElem?_toArray, List.getElem?_cons_zero, List.getElem?_cons_succ] at b0 b1 b2 b3 b4 b5 b6 b7 b8 b9 b10 b11; have bf := K0.frozen
  have K1' := k1.out.below hb (by simp)
  have HK1 : Hid (BlkAt w2 (w.heap.size + 1) zeroRec 27) := Lib.hid (by simpa using K1')
  have hsz : w.heap.size + 2 ≤ w2.heap.size := by have := hb.size; simp at this; omega
  have HBB := Lib.hid (then_ HB.out hb)
  have HH := Lib.hid hb
  clear K0 K1' hb HB cC k1 k0
  go_wp2_with (go_at_call 45; (with_reducible refine (known_any _ _).mono ?_); rintro e w3 ⟨rfl, hw3⟩; rw [hw3]; clear hw3)
  refine (CT.out _ (HW.out.below HH.out) (HD.out.below HH.out)).mono ?_
  rintro e w4 ⟨⟨sa, sn, sc⟩, rfl, ho, hb⟩
  obtain ⟨⟨v', kind', saga', step', try', at', last', code', count', pivot', name', ⟨da', dn', dc'⟩⟩, hF⟩ : ∃ x, finish ⟨v, kind, saga, step, try_, at_, last, code, count, pivot, name, ⟨sa, sn, sc⟩⟩ d = x := ⟨_, rfl⟩
  rw [hF]
  dsimp only [RecV.val, Sl.v]
  have HF := Lib.hid hF
  have HO := Lib.hid ho
  have H4 := Lib.hid hb
  have K4 := (HK1.out.below hb (by omega)).push (.cells #[.int .i64 v', .int .i64 kind', .int .i64 saga', .int .i64 step', .int .i64 try', .int .i64 at', .int .i64 last', .int .i64 code', .int .i64 count', .int .i64 pivot', .string name', .slice da' dn' dc'] 27)
  have h4s := hb.size
  dsimp only [zeroRec] at K4
  clear bf hF ho hb b0 b1 b2 b3 b4 b5 b6 b7 b8 b9 b10 b11
  have z0 := K4.cell 0
  have z1 := K4.cell 1
  have z2 := K4.cell 2
  have z3 := K4.cell 3
  have z4 := K4.cell 4
  have z5 := K4.cell 5
  have z6 := K4.cell 6
  have z7 := K4.cell 7
  have z8 := K4.cell 8
  have z9 := K4.cell 9
  have z10 := K4.cell 10
  have z11 := K4.cell 11
  simp only [List.getElem?_toArray, List.getElem?_cons_zero, List.getElem?_cons_succ] at z0 z1 z2 z3 z4 z5 z6 z7 z8 z9 z10 z11
  have zf := K4.frozen
  clear K4
  have hne : ¬ w.heap.size + 1 = w4.heap.size := by omega
  have hne2 : ¬ w4.heap.size = w.heap.size + 1 := by omega
  go_wp2
  refine bodyPost_ret (v := .tuple #[.agg #[.int .i64 v', .int .i64 kind', .int .i64 saga', .int .i64 step', .int .i64 try', .int .i64 at', .int .i64 last', .int .i64 code', .int .i64 count', .int .i64 pivot', .string name', .slice da' dn' dc'], .int .i64 0]) (by simp [results, Tryd.results13, go_sem, *]) rfl ⟨⟨sa, sn, sc⟩, ?_, ?_, ?_⟩
  · rw [HF.out]
  · refine OwnBytes.lower (b := w2.heap.size) ?_ (by omega)
    repeat (refine OwnBytes.set ?_ (by simp only; omega))
    exact OwnBytes.through HO.out (boxd (Below.refl _ _))
  · repeat (refine Below.set ?_ (by simp only; omega))
    exact boxd (then_ HBB.out H4.out)
end Go.Proofs.YteaiadpigpehaaaDoor
