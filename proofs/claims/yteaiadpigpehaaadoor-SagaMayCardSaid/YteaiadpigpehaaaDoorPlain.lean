/-
  saga.plain walked: whether the fields of a saga keep their bounds. Conditions: the tables of letters and of unicode/utf8 as laid.
-/
import Derived.Test.YteaiadpigpehaaaDoorSmall
namespace Go.Proofs.YteaiadpigpehaaaDoor
open Go.RowKit

def plainNum (s : SagaV) : Bool := decide (1 ≤ s.id ∧ (nameA s.name).1 = 0 ∧ 1 ≤ s.count ∧ s.count ≤ 32 ∧ 0 ≤ s.pivot ∧ s.pivot ≤ s.count ∧ 0 ≤ s.begun ∧ 0 ≤ s.at_ ∧ 1 ≤ s.phase ∧ s.phase ≤ 4 ∧ 0 ≤ s.tries ∧ s.tries ≤ 1000 ∧ (s.flight = true → s.tries ≠ 0))
def plainB (s : SagaV) (outs undos : List Sl) : Bool := plainNum s && (smallB [s.input, s.fail] && (smallB outs && smallB undos))
theorem small_is {l : Sl} {vs : List Sl} {b : Bool} (hb : smallB vs = b) (w : World) (h : RowAt w l (vs.map Sl.v)) : Calls Tryd.prog 85 #[l.v] w fun e w' => e = .returned (.bool b) ∧ w' = w := by
  rw [← hb]; exact small_any l vs w h

set_option maxRecDepth 10000000 in
set_option maxHeartbeats 4000000 in
theorem plain_any (s : SagaV) (outs undos : List Sl) (w : World) (hn : s.name.size ≤ 4611686018427387904) (hu : U8 w) (ht : LT w) (ho : RowAt w s.outs (outs.map Sl.v)) (hv : RowAt w s.undos (undos.map Sl.v)) :
    Calls Tryd.prog 51 #[s.val] w fun e w' => e = .returned (.bool (plainB s outs undos)) ∧ Below w.heap.size w w' := by
  have HU := Lib.hid hu
  have HT := Lib.hid ht
  have HO := Lib.hid ho
  have HV := Lib.hid hv
  clear hu ht ho hv
  have hS := Lib.hid (SagaIn.new w s 25)
  have cN := fun w hu ht => name_any s.name w hn hu ht
  obtain ⟨b1, hb1⟩ : ∃ x, smallB [s.input, s.fail] = x := ⟨_, rfl⟩
  obtain ⟨b2, hb2⟩ : ∃ x, smallB outs = x := ⟨_, rfl⟩
  obtain ⟨b3, hb3⟩ : ∃ x, smallB undos = x := ⟨_, rfl⟩
  have c1 := Lib.hid (fun w => small_is (l := ⟨some ⟨w.heap.size, 0, none⟩, 2, 2⟩) hb1 (w.alloc (.cells #[s.input.v, s.fail.v] 22)) (RowAt.of_lit2 w _ _ _))
  have c2 := Lib.hid (fun w h => small_is (l := s.outs) hb2 w h)
  have c3 := Lib.hid (fun w h => small_is (l := s.undos) hb3 w h)
  have hp : plainB s outs undos = (plainNum s && (b1 && (b2 && b3))) := by unfold plainB; rw [hb1, hb2, hb3]
  rw [hp]
  clear hb1 hb2 hb3 hp
  have hnum : plainNum s = plainNum s := rfl
  conv at hnum => rhs; unfold plainNum
  obtain ⟨E, hE⟩ : ∃ x, (nameA s.name).1 = x := ⟨_, rfl⟩
  obtain ⟨E2, hE2⟩ : ∃ x, (nameA s.name).2 = x := ⟨_, rfl⟩
  rw [hE] at hnum
  rw [hE, hE2] at cN
  have CN := Lib.hid cN
  clear cN hE hE2
  obtain ⟨N, hN⟩ : ∃ x, plainNum s = x := ⟨_, rfl⟩
  rw [hN] at hnum
  rw [hN]
  clear hN
  obtain ⟨id, name, count, pivot, begun, at_, ⟨ia, il, ic⟩, phase, next, flight, tries, ⟨oa, ol, oc⟩, ⟨ua, ul, uc⟩, fs, fc, ⟨fa, fl, fcap⟩⟩ := s
  simp only at hnum
  dsimp only [Sl.v] at c1 c2 c3 hS
  dsimp only [SagaV.val, Sl.v]
  have HQ := Lib.hid hnum
  clear hnum
  go_enter Tryd.func51, Tryd.ntmps51
  go_wp2_with fail
  refine (CN.out _ (u8_below HU.out (boxd (Below.refl _ _))) (PairsAt.below HT.out (boxd (Below.refl _ _)))).mono ?_
  rintro e w2 ⟨rfl, hb⟩
  have HB2 := Lib.hid (then_ (boxd (Below.refl _ _)) hb)
  have HI := Lib.hid (SagaIn.below hS.out hb)
  obtain ⟨i0, i1, i2, i3, i4, i5, i6, i7, i8, i9, i10, i11, i12, i13, i14, i15⟩ := HI.out
  simp only [Nat.zero_add] at i0 i1 i2 i3 i4 i5 i6 i7 i8 i9 i10 i11 i12 i13 i14 i15
  dsimp only [Sl.v] at i6 i11 i12 i15
  clear hb hS
  go_wp2_with (first
    | (go_at_call 85; (with_reducible refine (c1.out _).mono ?_); rintro e w3 ⟨rfl, rfl⟩; have HJ : SagaIn (w2.alloc (.cells #[.slice ia il ic, .slice fa fl fcap] 22)) w.heap.size 0 _ := SagaIn.below HI.out (boxd (Below.refl _ _)); have j11 := HJ.c11; have j12 := HJ.c12; clear HJ; simp only [Nat.zero_add] at j11 j12; dsimp only [Sl.v] at j11 j12)
    | (go_at_call 85; (with_reducible refine (c2.out _ (RowAt.below HO.out (boxd HB2.out))).mono ?_); rintro e w3 ⟨rfl, rfl⟩)
    | (go_at_call 85; (with_reducible refine (c3.out _ (RowAt.below HV.out (boxd HB2.out))).mono ?_); rintro e w3 ⟨rfl, rfl⟩))
  all_goals go_ret
  all_goals refine ⟨ret_bool ?_, by first | exact HB2.out | exact boxd HB2.out⟩
  all_goals (have hq := HQ.out; clear HQ HB2 HI HO HV HU HT CN c1 c2 c3 i0 i1 i2 i3 i4 i5 i6 i7 i8 i9 i10 i11 i12 i13 i14 i15)
  all_goals cases N
  all_goals simp at hq
  all_goals first
    | rfl
    | (simp_all; done)
    | (exfalso; omega)
    | (exfalso; simp at *; omega)
    | (exfalso; simp_all; done)
    | (exfalso; simp_all; omega)
    | (exfalso; cases flight <;> simp_all <;> omega)
end Go.Proofs.YteaiadpigpehaaaDoor
