/-
  saga.Check and saga.Finished walked. Conditions: the tables of letters and of unicode/utf8 as laid.
-/
import Derived.Test.YteaiadpigpehaaaDoorPlain
import Derived.Test.YteaiadpigpehaaaDoorCheckFns
namespace Go.Proofs.YteaiadpigpehaaaDoor
open Go.RowKit

def fitB (s : SagaV) (outs undos : List Sl) : Bool := plainB s outs undos && (if s.phase = 1 ∨ s.phase = 3 then forwardB s else backB s)
def checkN (s : SagaV) (outs undos : List Sl) : Int := if fitB s outs undos = true then 0 else 100

/-- What a saga handed in is to be: its name and numbers as Go has them, its two rows of lists as they stand. -/
structure SagaOk (w : World) (s : SagaV) (outs undos : List Sl) : Prop where
  name : s.name.size ≤ 4611686018427387904
  next : s.next ≤ 9223372036854775807
  step : s.failStep ≤ 9223372036854775807
  outs : RowAt w s.outs (outs.map Sl.v)
  undos : RowAt w s.undos (undos.map Sl.v)
theorem SagaOk.below {w w' : World} {s : SagaV} {outs undos : List Sl} (h : SagaOk w s outs undos) (hb : Below w.heap.size w w') : SagaOk w' s outs undos := ⟨h.name, h.next, h.step, h.outs.below hb, h.undos.below hb⟩
/-- The tables that text.Name reads. -/
structure Tabs (w : World) : Prop where
  u8 : U8 w
  lt : LT w
theorem Tabs.below {w w' : World} (h : Tabs w) (hb : Below w.heap.size w w') : Tabs w' := ⟨u8_below h.u8 hb, PairsAt.below h.lt hb⟩

theorem plain_is {s : SagaV} {outs undos : List Sl} {b : Bool} (hb : plainB s outs undos = b) (w : World) (ht : Tabs w) (h : SagaOk w s outs undos) :
    Calls Tryd.prog 51 #[s.val] w fun e w' => e = .returned (.bool b) ∧ Below w.heap.size w w' := by
  rw [← hb]; exact plain_any s outs undos w h.name ht.u8 ht.lt h.outs h.undos

set_option maxRecDepth 10000000 in
set_option maxHeartbeats 4000000 in
theorem sagaCheck_any (s : SagaV) (outs undos : List Sl) (w : World) (ht : Tabs w) (h : SagaOk w s outs undos) :
    Calls Tryd.prog 25 #[s.val] w fun e w' => e = .returned (.int .i64 (checkN s outs undos)) ∧ Below w.heap.size w w' := by
  have HT := Lib.hid ht
  have HO := Lib.hid h
  have hn1 := h.next
  have hn2 := h.step
  clear ht h
  have hS := Lib.hid (SagaIn.new w s 25)
  obtain ⟨b1, hb1⟩ : ∃ x, plainB s outs undos = x := ⟨_, rfl⟩
  obtain ⟨b2, hb2⟩ : ∃ x, forwardB s = x := ⟨_, rfl⟩
  obtain ⟨b3, hb3⟩ : ∃ x, backB s = x := ⟨_, rfl⟩
  have c1 := Lib.hid (fun w ht h => plain_is hb1 w ht h)
  have c2 := Lib.hid (fun w => forward_any s w)
  have c3 := Lib.hid (fun w => back_any s w hn1 hn2)
  rw [hb2] at c2
  rw [hb3] at c3
  have hv : checkN s outs undos = if (b1 && (if s.phase = 1 ∨ s.phase = 3 then b2 else b3)) = true then 0 else 100 := by unfold checkN fitB; rw [hb1, hb2, hb3]
  rw [hv]
  clear hb1 hb2 hb3 hv hn1 hn2
  obtain ⟨id, name, count, pivot, begun, at_, ⟨ia, il, ic⟩, phase, next, flight, tries, ⟨oa, ol, oc⟩, ⟨ua, ul, uc⟩, fs, fc, ⟨fa, fl, fcap⟩⟩ := s
  dsimp only [SagaV.val, Sl.v] at c1 c2 c3 hS
  dsimp only [SagaV.val, Sl.v]
  go_enter Tryd.func25, Tryd.ntmps25
  go_wp2_with fail
  refine (c1.out _ (HT.out.below (boxd (Below.refl _ _))) (HO.out.below (boxd (Below.refl _ _)))).mono ?_
  rintro e w2 ⟨rfl, hb⟩
  have HB2 := Lib.hid (then_ (boxd (Below.refl _ _)) hb)
  have HI := Lib.hid (SagaIn.below hS.out hb)
  obtain ⟨i0, i1, i2, i3, i4, i5, i6, i7, i8, i9, i10, i11, i12, i13, i14, i15⟩ := HI.out
  simp only [Nat.zero_add] at i0 i1 i2 i3 i4 i5 i6 i7 i8 i9 i10 i11 i12 i13 i14 i15
  dsimp only [Sl.v] at i6 i11 i12 i15
  clear hb hS c1 HT HO
  cases b1 with
  | false =>
    go_wp2
    all_goals go_ret
    all_goals exact ⟨ret_int (by simp), HB2.out⟩
  | true =>
    by_cases h1 : phase = 1
    · subst h1
      cases b2
      all_goals
        go_wp2_with (first
          | (go_at_call 52; (with_reducible refine (c2.out _).mono ?_); rintro e w3 ⟨rfl, hb⟩; have HB3 := Lib.hid (then_ HB2.out hb); clear HB2 hb; have HB2 := HB3; clear HB3)
          | (go_at_call 53; (with_reducible refine (c3.out _).mono ?_); rintro e w3 ⟨rfl, hb⟩; have HB3 := Lib.hid (then_ HB2.out hb); clear HB2 hb; have HB2 := HB3; clear HB3))
        all_goals go_ret
        all_goals refine ⟨ret_int ?_, HB2.out⟩
        all_goals simp_all
    by_cases h3 : phase = 3
    · subst h3
      cases b2
      all_goals
        go_wp2_with (first
          | (go_at_call 52; (with_reducible refine (c2.out _).mono ?_); rintro e w3 ⟨rfl, hb⟩; have HB3 := Lib.hid (then_ HB2.out hb); clear HB2 hb; have HB2 := HB3; clear HB3)
          | (go_at_call 53; (with_reducible refine (c3.out _).mono ?_); rintro e w3 ⟨rfl, hb⟩; have HB3 := Lib.hid (then_ HB2.out hb); clear HB2 hb; have HB2 := HB3; clear HB3))
        all_goals go_ret
        all_goals refine ⟨ret_int ?_, HB2.out⟩
        all_goals simp_all
    cases b3
    all_goals
      go_wp2_with (first
        | (go_at_call 52; (with_reducible refine (c2.out _).mono ?_); rintro e w3 ⟨rfl, hb⟩; have HB3 := Lib.hid (then_ HB2.out hb); clear HB2 hb; have HB2 := HB3; clear HB3)
        | (go_at_call 53; (with_reducible refine (c3.out _).mono ?_); rintro e w3 ⟨rfl, hb⟩; have HB3 := Lib.hid (then_ HB2.out hb); clear HB2 hb; have HB2 := HB3; clear HB3))
      all_goals go_ret
      all_goals refine ⟨ret_int ?_, HB2.out⟩
      all_goals simp_all
end Go.Proofs.YteaiadpigpehaaaDoor
