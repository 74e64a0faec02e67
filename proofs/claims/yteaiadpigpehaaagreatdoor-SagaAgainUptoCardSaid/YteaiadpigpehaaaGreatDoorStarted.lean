/-
  annalslaw10.started walked: it answers true. Conditions: the tables, as laid. (Printed by wip/gen_lifted.py.)
-/
import Derived.Test.YteaiadpigpehaaaGreatDoorBoth
namespace Go.Proofs.YteaiadpigpehaaaGreatDoor
open Go.RowKit

/-- A saga that was answered, in its box. -/
structure Ans (wr : World) (g : Nat) (s : SagaV) (D : SagaD) : Prop where
  blk : BlkAt wr g (sagaArr s) 29
  rd : SagaRd wr s D
theorem Ans.bl {wr w' : World} {g : Nat} {s : SagaV} {D : SagaD} (h : Ans wr g s D) (hb : Below wr.heap.size wr w') : Ans w' g s D := ⟨h.blk.below hb (blk_lt h.blk), h.rd.below hb⟩
theorem zeroD_small : zeroD.held.Small := ⟨by decide, by decide, (fun d h => by cases h), by decide, (fun d h => by cases h), by decide⟩
theorem applyD_small (D : SagaD) (R : RecD) : (applyD D R).held.Small := by
  by_cases h : applyN D R = 0
  · exact (apply_taken h).2.2.2.2.small
  · unfold applyD; rw [if_pos h]; exact zeroD_small
theorem beginD_small (R : RecD) : (beginD R).held.Small := by
  by_cases h : beginN R = 0
  · exact (begin_taken h).2.2.2.small
  · unfold beginD; rw [if_pos h]; exact zeroD_small
set_option maxRecDepth 10000000 in
set_option maxHeartbeats 4000000 in
theorem started_any (w : World) (ht : Tables w) (hl : LandsAt w) (hr : RefTabs w) : Calls Tryz.prog 8 #[] w fun e w' => e = .returned (.bool true) ∧ Below w.heap.size w w' := by
  have cO := fun W (h : Below w.heap.size w W) => both_any W (ht.below h) (hl.below h) (hr.below h)
  have CO := Lib.hid cO
  have HT := Lib.hid ht
  clear cO ht hl hr
  go_enter Tryz.func8, Tryz.ntmps8
  go_wp2_with fail
  refine (first_any w).mono ?_
  rintro e w2 ⟨t, u, rfl, bt, bu, hb⟩
  obtain ⟨w3, hw3⟩ : ∃ q, (w2.alloc (.cells (recArr (firstR.words t)) 31)).alloc (.cells (sagaArr (firstD.words u nilSl nilSl nilSl)) 29) = q := ⟨_, rfl⟩
  have hb3 : Below w2.heap.size w2 w3 := by rw [← hw3]; exact boxd (boxd (Below.refl _ _))
  have KB3 : Hid (BlkAt w3 w2.heap.size (recArr (firstR.words t)) 31) := Lib.hid (by rw [← hw3]; exact (BlkAt.new _ _ _).push _)
  have KZ3 : Hid (BlkAt w3 (w2.heap.size + 1) (sagaArr (firstD.words u nilSl nilSl nilSl)) 29) := Lib.hid (by
    rw [← hw3]
    have := BlkAt.new (w2.alloc (.cells (recArr (firstR.words t)) 31)) (sagaArr (firstD.words u nilSl nilSl nilSl)) 29
    rw [World.size_alloc] at this
    exact this)
  have HB3 := Lib.hid (then_ hb hb3)
  have AZ := Lib.hid (show Ans w3 (w2.heap.size + 1) (firstD.words u nilSl nilSl nilSl) firstD from ⟨KZ3.out, first_rd (bu.below hb3)⟩)
  have cB := begin_any (firstR.words t) firstR w3 (HT.out.below HB3.out) ⟨rfl, bt.below hb3⟩ ⟨by decide, by decide⟩
  rw [begin_first, begin_firstD] at cB
  have CB := Lib.hid cB
  dsimp only [RecD.words, SagaD.words, recArr, sagaArr, firstR, firstD, nilSl, Sl.v] at hw3
  have HW3 := Lib.hid hw3
  clear hw3 hb hb3 bt bu cB
  dsimp only [RecD.words, SagaD.words, RecV.val, SagaV.val, firstR, firstD, nilSl, Sl.v]
  go_upto_region 2 with fail
  rw [HW3.out]
  clear HW3
  go_wp2_with (refine wpList_load_blk rfl _ _ rfl _ rfl _ _ KB3.out rowRec ?_)
  refine CB.out.mono ?_
  rintro e w4 ⟨s5, rfl, ho, hb⟩
  obtain ⟨w5, hw5⟩ : ∃ q, w4.alloc (.cells (sagaArr s5) 29) = q := ⟨_, rfl⟩
  have hb5 : Below w4.heap.size w4 w5 := by rw [← hw5]; exact boxd (Below.refl _ _)
  have hT := then_ hb hb5
  have A5 := Lib.hid (show Ans w5 w4.heap.size s5 firstD from ⟨by rw [← hw5]; exact BlkAt.new _ _ _, (ho.rd good_first.small).below hb5⟩)
  have AZ5 := Lib.hid (AZ.out.bl hT)
  have HB5 := Lib.hid (then_ HB3.out hT)
  dsimp only [sagaArr, Sl.v] at hw5
  have HW5 := Lib.hid hw5
  clear hw5 hb5 hb ho hT CB KB3 KZ3 AZ HB3
  dsimp only [SagaV.val, Sl.v]
  go_upto_region 3 with fail
  rw [HW5.out]
  clear HW5
  have cM := same_any (firstD.words u nilSl nilSl nilSl) s5 firstD firstD w5 AZ5.out.rd A5.out.rd
  rw [sameB_refl] at cM
  have CM := Lib.hid cM
  clear cM
  go_wp2_with (first
    | (go_at_call 18; (with_reducible refine (num_keep2 _ _).mono ?_); rintro e w9 ⟨rfl, rfl⟩)
    | ((with_reducible refine wpList_load_blk_g ?_ _ (.tmp 2) ?_ _ ?_ _ _ AZ5.out.blk rowSaga ?_); rotate_left; exact rfl; exact rfl; rotate_left; kernel_rfl)
    | ((with_reducible refine wpList_load_blk_g ?_ _ (.tmp 3) ?_ _ ?_ _ _ A5.out.blk rowSaga ?_); rotate_left; exact rfl; exact rfl; rotate_left; kernel_rfl)
    | (go_at_call 13; refine CM.out.mono ?_; rintro e w6 ⟨rfl, hb⟩; have HB6 := Lib.hid (then_ HB5.out hb); clear hb)
    | (go_at_call 19; refine (CO.out _ HB6.out).mono ?_; rintro e w7 ⟨rfl, hb⟩; have HB7 := Lib.hid (then_ HB6.out hb); clear hb))
  all_goals go_ret
  all_goals exact ⟨rfl, HB7.out⟩
end Go.Proofs.YteaiadpigpehaaaGreatDoor
