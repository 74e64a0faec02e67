/-
  annalslaw10.SagaMay walked: it answers true, of any saga and any record. Conditions: the tables that saga.Check, lift.Up and the walk read, as laid.
-/
import Derived.Test.YteaiadpigpehaaaDoorApplyB
import Derived.Test.YteaiadpigpehaaaDoorTaken
import Derived.Test.YteaiadpigpehaaaDoorLawFns
namespace Go.Proofs.YteaiadpigpehaaaDoor
open Go.RowKit

theorem firstD_eq : firstD = firstD' := rfl
theorem fits_first : SagaFits firstD := ⟨by decide, by decide, by decide⟩
theorem allowed_first : allowedD firstD = [2] := by
  have h : checkD firstD = 0 := checkD_first
  unfold allowedD
  rw [h]
  rfl
theorem ListsAt.nil (w : World) : ListsAt w nilSl [] := ⟨[], RowAt.nil _ _ _ (fun _ => rfl), rfl, fun i h => by simp at h⟩
theorem first_rd {w : World} {u : Sl} (h : BytesAt w u [105, 110]) : SagaRd w (firstD.words u nilSl nilSl nilSl) firstD := ⟨rfl, h, ListsAt.nil w, ListsAt.nil w, RowAt.nil _ _ _ (fun _ => rfl)⟩
theorem IntsAt.of_nil (w : World) : IntsAt w nilSl [] := RowAt.nil _ _ _ (fun _ => rfl)

namespace sagaMay
set_option maxRecDepth 100000 in
set_option maxHeartbeats 4000000 in
theorem walk (s : SagaV) (D : SagaD) (r : RecV) (R : RecD) (w : World) (ht : Tables w) (hl : LandsAt w) (hs : SagaRd w s D) (hr : RecRd w r R) (fs : SagaFits D) (fr : RecFits R) :
    Calls Tryd.prog 5 #[s.val, r.val] w fun e w' => e = .returned (.bool true) ∧ Below w.heap.size w w' := by
  have hb1 := boxd (o := .cells (recArr r) 27) (boxd (o := .cells (sagaArr s) 25) (Below.refl w.heap.size w))
  have K0 := (BlkAt.new w (sagaArr s) 25).push (.cells (recArr r) 27)
  have K1 := BlkAt.new (w.alloc (.cells (sagaArr s) 25)) (recArr r) 27
  rw [World.size_alloc] at K1
  have HT := Lib.hid (ht.below hb1)
  have HL := Lib.hid (hl.below hb1)
  have HS := Lib.hid (hs.below hb1)
  have HR := Lib.hid (hr.below hb1)
  have HB1 := Lib.hid hb1
  have hk : r.kind = R.kind := by rw [hr.eq]
  have HK := Lib.hid hk
  clear ht hl hs hr hb1 hk
  dsimp only [SagaV.val, RecV.val, Sl.v, sagaArr, recArr] at K0 K1 HT HL HS HR HB1
  dsimp only [SagaV.val, RecV.val, Sl.v]
  go_enter Tryd.func5, Tryd.ntmps5
  go_wp2_with fail
  obtain ⟨w1, hw1⟩ : ∃ x, (w.alloc (.cells #[.int .i64 s.id, .string s.name, .int .i64 s.count, .int .i64 s.pivot, .int .i64 s.begun, .int .i64 s.at_, .slice s.input.a s.input.n s.input.c, .int .i64 s.phase, .int .i64 s.next, .bool s.flight, .int .i64 s.tries, .slice s.outs.a s.outs.n s.outs.c, .slice s.undos.a s.undos.n s.undos.c, .int .i64 s.failStep, .int .i64 s.failCode, .slice s.fail.a s.fail.n s.fail.c] 25)).alloc (.cells #[.int .i64 r.v, .int .i64 r.kind, .int .i64 r.saga, .int .i64 r.step, .int .i64 r.try_, .int .i64 r.at_, .int .i64 r.last, .int .i64 r.code, .int .i64 r.count, .int .i64 r.pivot, .string r.name, .slice r.data.a r.data.n r.data.c] 27) = x := ⟨_, rfl⟩
  have hs1 : w1.heap.size = w.heap.size + 2 := by rw [← hw1]; simp
  rw [hw1] at K0 K1 HT HL HS HR HB1
  rw [hw1]
  clear hw1
  have hl0 : w.heap.size < w1.heap.size := by omega
  have hl1 : w.heap.size + 1 < w1.heap.size := by omega
  refine (first_any w1).mono ?_
  rintro e w2 ⟨t, u, rfl, bt, bu, hb⟩
  have HX := Lib.hid hb
  have HU := Lib.hid bu
  clear hb bt bu
  dsimp only [RecD.words, SagaD.words, RecV.val, SagaV.val, firstR, firstD, nilSl, Sl.v]
  go_wp2_with fail
  refine (allowed_any (firstD.words u nilSl nilSl nilSl) firstD _ ((HT.out.tabs.below HX.out).below (boxd (boxd (Below.refl _ _)))) (first_rd (HU.out.below (boxd (boxd (Below.refl _ _))))) fits_first).mono ?_
  rintro e w3 ⟨v, rfl, ho, hb⟩
  obtain ⟨a, rfl, ha⟩ := ho.at (by rw [allowed_first]; simp)
  rw [allowed_first] at ha
  have HX3 := Lib.hid (then_ (boxd (boxd HX.out)) hb)
  have HA := Lib.hid ha
  clear ho ha hb HU
  dsimp only [Sl.v]
  go_wp2_with fail
  refine (sameInts_any a ⟨some ⟨w3.heap.size, 0, none⟩, 1, 1⟩ [2] [2] _ (HA.out.below (boxd (Below.refl _ _))) (IntsAt.of_lit1 _ _ _)).mono ?_
  rintro e w4 ⟨rfl, hd⟩
  have HX4 := Lib.hid (then_ (boxd HX3.out) hd.below)
  clear hd HX3 HA HX
  go_wp2_with (first
    | (refine wpList_load_blk rfl _ _ rfl _ rfl _ _ (BlkAt.below K0 HX4.out hl0) rowSaga ?_)
    | (refine wpList_load_blk rfl _ _ rfl _ rfl _ _ (BlkAt.below K1 HX4.out hl1) rowRec ?_))
  refine (apply_any s D r R _ (HT.out.below HX4.out) (HL.out.below HX4.out) (HS.out.below HX4.out) (HR.out.below HX4.out) fs fr).mono ?_
  rintro e w5 ⟨s', rfl, ho, hb⟩
  have HX5 := Lib.hid (boxd (o := .cells (sagaArr s') 25) (then_ HX4.out hb))
  dsimp only [SagaV.val, Sl.v]
  dsimp only [sagaArr, Sl.v] at HX5
  have hN := @may_kind D R
  have hN1 := allowed_no1 D
  have hN2 := allowed_len D
  obtain ⟨N, hNe⟩ : ∃ x, applyN D R = x := ⟨_, rfl⟩
  rw [hNe] at hN
  obtain ⟨L, hL⟩ : ∃ x, allowedD D = x := ⟨_, rfl⟩
  rw [hL] at hN hN1 hN2
  rw [← HK.out] at hN
  have HN := Lib.hid hN
  have HN1 := Lib.hid hN1
  have HLL := Lib.hid hL
  rw [hNe]
  clear ho hb HX4 hN hN1 hL hNe HR fr HL
  go_wp2_with (refine wpList_load_blk rfl _ _ rfl _ rfl _ _ (BlkAt.below K0 HX5.out hl0) rowSaga ?_)
  refine (allowed_any s D _ (HT.out.tabs.below HX5.out) (HS.out.below HX5.out) fs).mono ?_
  rintro e w6 ⟨v, rfl, ho, hb⟩
  rw [HLL.out] at ho
  obtain ⟨⟨aa, an, ac⟩, rfl, ha⟩ := ho.at (by omega)
  have han := ha.len
  simp only at han
  subst han
  have HX6 := Lib.hid (then_ HX5.out hb)
  have HA := Lib.hid ha
  have k1 := (BlkAt.below K1 HX6.out hl1).cell 1
  simp only [List.getElem?_toArray, List.getElem?_cons_zero, List.getElem?_cons_succ] at k1
  have hB := then_ HB1.out HX6.out
  have HBB := Lib.hid hB
  clear ho hb ha HX5 hB HT HS K0 K1 HLL
  dsimp only [Sl.v]
  by_cases h0 : N = 0
  · subst h0
    have cO := of_any ⟨aa, L.length, ac⟩ L r.kind w6 HA.out
    rw [HN.out rfl] at cO
    have CO := Lib.hid cO
    clear cO
    go_wp2_with (first
      | (go_at_call 14; (with_reducible refine (num_any _ _).mono ?_); rintro e w7 ⟨rfl, rfl⟩)
      | (go_at_call 23; (with_reducible refine CO.out.mono ?_); rintro e w7 ⟨rfl, rfl⟩))
    all_goals go_ret
    all_goals exact ⟨rfl, HBB.out⟩
  · have h0' : (N == 0) = false := by rw [beq_eq_false_iff_ne]; exact h0
    have cO := of_any ⟨aa, L.length, ac⟩ L 1 w6 HA.out
    rw [HN1.out] at cO
    have CO := Lib.hid cO
    have hle : decide (L.length ≤ 2) = true := by simp [hN2]
    clear cO
    go_wp2_with (first
      | (go_at_call 14; (with_reducible refine (num_any _ _).mono ?_); rintro e w7 ⟨rfl, rfl⟩)
      | (go_at_call 23; (with_reducible refine CO.out.mono ?_); rintro e w7 ⟨rfl, rfl⟩))
    all_goals go_ret
    all_goals exact ⟨by simp, HBB.out⟩
end sagaMay
end Go.Proofs.YteaiadpigpehaaaDoor
