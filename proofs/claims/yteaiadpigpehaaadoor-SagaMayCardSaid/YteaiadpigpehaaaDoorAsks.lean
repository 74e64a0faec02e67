/-
  saga.Finished and saga.Allowed walked. Conditions: the tables that saga.Check reads, as laid.
-/
import Derived.Test.YteaiadpigpehaaaDoorApply
namespace Go.Proofs.YteaiadpigpehaaaDoor
open Go.RowKit

theorem sagaCheck_rd (s : SagaV) (D : SagaD) (w : World) (ht : Tabs w) (hs : SagaRd w s D) (fs : SagaFits D) :
    Calls Tryd.prog 25 #[s.val] w fun e w' => e = .returned (.int .i64 (checkD D)) ∧ Below w.heap.size w w' := by
  obtain ⟨os, us, po, pu, pc⟩ := hs.parts
  have := sagaCheck_any s os us w ht ⟨by rw [hs.eq]; exact fs.name, by rw [hs.eq]; exact fs.next, by rw [hs.eq]; exact fs.step, po, pu⟩
  rwa [pc] at this

set_option maxRecDepth 10000000 in
set_option maxHeartbeats 4000000 in
theorem finished_any (s : SagaV) (D : SagaD) (w : World) (ht : Tabs w) (hs : SagaRd w s D) (fs : SagaFits D) :
    Calls Tryd.prog 20 #[s.val] w fun e w' => e = .returned (.bool (finishedD D)) ∧ Below w.heap.size w w' := by
  have hb0 := Below.refl w.heap.size w
  have hb1 := boxd (o := .cells (sagaArr s) 25) hb0
  have k0 := BlkAt.new w (sagaArr s) 25
  have cC := Lib.hid (sagaCheck_rd s D _ (ht.below hb1) (hs.below hb1) fs)
  have hph : s.phase = D.phase := by rw [hs.eq]
  unfold finishedD
  obtain ⟨E, hE⟩ : ∃ x, checkD D = x := ⟨_, rfl⟩
  have hEo := checkD_or D
  rw [hE] at cC hEo
  rw [hE, ← hph]
  have HB := Lib.hid hb1
  clear hb0 hb1 hE hph ht hs fs
  dsimp only [SagaV.val, Sl.v, sagaArr] at k0 HB cC
  dsimp only [SagaV.val, Sl.v]
  obtain ⟨B, hB⟩ : ∃ x, decide (E = 0 ∧ (s.phase = 3 ∨ s.phase = 4)) = x := ⟨_, rfl⟩
  rw [hB]
  have HQ := Lib.hid hB
  clear hB
  rcases hEo with rfl | rfl
  all_goals
    go_enter Tryd.func20, Tryd.ntmps20
    go_wp2_with (refine wpList_load_blk rfl _ _ rfl _ rfl _ _ k0 rowSaga ?_)
    refine cC.out.mono ?_
    rintro e w2 ⟨rfl, hb⟩
    have K := k0.below hb (by simp)
    have b7 := K.cell 7
    simp only [List.getElem?_toArray, List.getElem?_cons_zero, List.getElem?_cons_succ] at b7
    have HB2 := Lib.hid (then_ HB.out hb)
    clear hb k0 HB cC K
    go_wp2
    all_goals go_ret
    all_goals refine ⟨ret_bool ?_, HB2.out⟩
    all_goals (rw [← HQ.out, Bool.eq_iff_iff]; simp_all)

/-- A row of whole numbers of one's own. -/
def OwnInts (w : World) (base : Nat) (v : Value) (l : List Int) : Prop := w.ownsRow base 3 1 v l.length (l.map (Value.int .i64))
theorem OwnInts.nil (w : World) (base : Nat) : OwnInts w base (.slice none 0 0) [] := World.ownsRow_nil _ _ _ _
theorem OwnInts.new (w : World) (l : List Int) (h : l.length ≤ maxLen) : OwnInts (w.alloc (.cells (l.map (Value.int .i64)).toArray 3)) w.heap.size (.slice (some ⟨w.heap.size, 0, none⟩) l.length l.length) l := by
  have := World.ownsRow_lit (base := w.heap.size) (e := 3) (size := 1) w (l.map (Value.int .i64)).toArray l.length (Nat.le_refl _) h (by simp)
  simpa [OwnInts] using this
theorem OwnInts.lower {w : World} {b c : Nat} {v : Value} {l : List Int} (h : OwnInts w b v l) (hc : c ≤ b) : OwnInts w c v l := own_lower h hc
theorem OwnInts.through {w w' : World} {b : Nat} {v : Value} {l : List Int} (h : OwnInts w b v l) (hb : Below w.heap.size w w') : OwnInts w' b v l := own_through h hb

set_option maxRecDepth 10000000 in
set_option maxHeartbeats 4000000 in
theorem allowed_any (s : SagaV) (D : SagaD) (w : World) (ht : Tabs w) (hs : SagaRd w s D) (fs : SagaFits D) :
    Calls Tryd.prog 22 #[s.val] w fun e w' => ∃ v, e = .returned v ∧ OwnInts w' w.heap.size v (allowedD D) ∧ Below w.heap.size w w' := by
  have hb0 := Below.refl w.heap.size w
  have hb1 := boxd (o := .cells (sagaArr s) 25) hb0
  have k0 := BlkAt.new w (sagaArr s) 25
  have cC := Lib.hid (sagaCheck_rd s D _ (ht.below hb1) (hs.below hb1) fs)
  have hph : s.phase = D.phase := by rw [hs.eq]
  have hfl : s.flight = D.flight := by rw [hs.eq]
  have hnx : s.next = D.next := by rw [hs.eq]
  have hct : s.count = D.count := by rw [hs.eq]
  unfold allowedD
  obtain ⟨E, hE⟩ : ∃ x, checkD D = x := ⟨_, rfl⟩
  have hEo := checkD_or D
  rw [hE] at cC hEo
  rw [hE, ← hph, ← hfl, ← hnx, ← hct]
  have HB := Lib.hid hb1
  clear hb0 hb1 hE hph ht hs fs hfl hnx hct
  dsimp only [SagaV.val, Sl.v, sagaArr] at k0 HB cC
  dsimp only [SagaV.val, Sl.v]
  obtain ⟨B, hB⟩ : ∃ x, (if E ≠ 0 ∨ s.phase = 3 ∨ s.phase = 4 then [] else if s.flight = true ∧ s.phase = 1 then [3, 4] else if s.flight = true then [4, 6]
    else if s.phase = 1 ∧ s.next < s.count then [2] else if s.phase = 2 ∧ s.next > 0 then [5] else [7] : List Int) = x := ⟨_, rfl⟩
  rw [hB]
  have HQ := Lib.hid hB
  clear hB
  rcases hEo with rfl | rfl
  all_goals
    go_enter Tryd.func22, Tryd.ntmps22
    go_wp2_with (refine wpList_load_blk rfl _ _ rfl _ rfl _ _ k0 rowSaga ?_)
    refine cC.out.mono ?_
    rintro e w2 ⟨rfl, hb⟩
    have K := k0.below hb (by simp)
    have b2 := K.cell 2
    have b7 := K.cell 7
    have b8 := K.cell 8
    have b9 := K.cell 9
    simp only [List.getElem?_toArray, List.getElem?_cons_zero, List.getElem?_cons_succ] at b2 b7 b8 b9
    have HB2 := Lib.hid (then_ HB.out hb)
    have hsz := HB2.out.size
    clear hb k0 HB cC K
    go_wp2
    all_goals go_ret
    all_goals refine ⟨_, rfl, ?_, by first | exact HB2.out | exact boxd HB2.out⟩
    all_goals first
      | (have hq : B = [] := by rw [← HQ.out]; simp_all
         rw [hq]; exact OwnInts.nil _ _)
      | (have hq : B = [3, 4] := by rw [← HQ.out]; (first | (simp_all; done) | (simp_all <;> omega))
         rw [hq]; exact (OwnInts.new w2 [3, 4] (by simp [maxLen])).lower hsz)
      | (have hq : B = [4, 6] := by rw [← HQ.out]; (first | (simp_all; done) | (simp_all <;> omega))
         rw [hq]; exact (OwnInts.new w2 [4, 6] (by simp [maxLen])).lower hsz)
      | (have hq : B = [2] := by rw [← HQ.out]; (first | (simp_all; done) | (simp_all <;> omega))
         rw [hq]; exact (OwnInts.new w2 [2] (by simp [maxLen])).lower hsz)
      | (have hq : B = [5] := by rw [← HQ.out]; (first | (simp_all; done) | (simp_all <;> omega))
         rw [hq]; exact (OwnInts.new w2 [5] (by simp [maxLen])).lower hsz)
      | (have hq : B = [7] := by rw [← HQ.out]; (first | (simp_all; done) | (simp_all <;> omega))
         rw [hq]; exact (OwnInts.new w2 [7] (by simp [maxLen])).lower hsz)
end Go.Proofs.YteaiadpigpehaaaDoor
