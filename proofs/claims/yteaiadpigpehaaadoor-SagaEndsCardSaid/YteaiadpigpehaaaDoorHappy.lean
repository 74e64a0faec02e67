/-
  annalslaw10.happy walked. Conditions: the tables that saga.Check reads, as laid. (Printed by wip/gen_happy.py.)
-/
import Derived.Test.YteaiadpigpehaaaDoorPkLaw
import Derived.BigRegion
namespace Go.Proofs.YteaiadpigpehaaaDoor
open Go.RowKit

set_option maxRecDepth 10000000 in
set_option maxHeartbeats 4000000 in
theorem happy_31 (s : SagaV) (D : SagaD) (w : World) (ht : Tabs w) (hs : SagaRd w s D) (fs : SagaFits D) (hal : allowedD D = [3, 4]) (hn : 0 ≤ D.next ∧ D.next ≤ 1000) (hr : 0 ≤ D.tries ∧ D.tries ≤ 1000) :
    Calls Tryd.prog 24 #[s.val] w fun e w' => e = .returned (.tuple #[((⟨3, 3, D.id, D.next, 0, 9, 0, 0, 0, 0, ⟨#[]⟩, []⟩ : RecD).words nilSl).val, .bool true]) ∧ Below w.heap.size w w' := by
  have hb1 := boxd (o := .cells zeroRec 27) (boxd (o := .cells (sagaArr s) 25) (Below.refl w.heap.size w))
  have k0 := (BlkAt.new w (sagaArr s) 25).push (.cells zeroRec 27)
  have k1 := BlkAt.new (w.alloc (.cells (sagaArr s) 25)) zeroRec 27
  rw [World.size_alloc] at k1
  have cA := Lib.hid (allowed_any s D _ (ht.below hb1) (hs.below hb1) fs)
  rw [hal] at cA
  have e0 : s.id = D.id := by rw [hs.eq]
  have e8 : s.next = D.next := by rw [hs.eq]
  have e10 : s.tries = D.tries := by rw [hs.eq]
  rw [← e0]
  try rw [← e8]
  try rw [← e10]
  rw [← e8] at hn
  rw [← e10] at hr
  have HB := Lib.hid hb1
  clear ht hs fs hal hb1 e0 e8 e10
  obtain ⟨hn0, hn1⟩ := hn
  obtain ⟨hr0, hr1⟩ := hr
  dsimp only [SagaV.val, Sl.v, sagaArr] at k0 k1 HB cA
  dsimp only [SagaV.val, RecV.val, RecD.words, Sl.v, nilSl]
  go_enter Tryd.func24, Tryd.ntmps24
  go_wp2_with (refine wpList_load_blk rfl _ _ rfl _ rfl _ _ k0 rowSaga ?_)
  refine cA.out.mono ?_
  rintro e w3 ⟨v, rfl, ho, hb⟩
  obtain ⟨⟨a, n, c⟩, rfl, ha⟩ := ho.at (by decide)
  have hlen := ha.len
  simp only [List.length_cons, List.length_nil, Nat.zero_add, Nat.reduceAdd] at hlen
  subst hlen

  obtain ⟨b0, o0, hA0, c0⟩ := ha.get (j := 0) (by decide)
  simp only at hA0
  subst hA0
  simp only [List.getElem_cons_zero, Nat.add_zero] at c0
  have K0 := k0.below hb (by simp; omega)
  have K1 := k1.below hb (by simp)
  have b0' := K0.cell 0
  have b8' := K0.cell 8
  have b10' := K0.cell 10
  simp only [List.getElem?_toArray, List.getElem?_cons_zero, List.getElem?_cons_succ] at b0' b8' b10'
  have HB3 := Lib.hid (then_ HB.out hb)
  have hsz : w.heap.size + 2 ≤ w3.heap.size := by have := hb.size; simp at this; omega
  have hne : ¬ w.heap.size + 1 = w3.heap.size := by omega
  have hne2 : ¬ w3.heap.size = w.heap.size + 1 := by omega
  have hne3 : ¬ w.heap.size = w3.heap.size := by omega
  have hne4 : ¬ w3.heap.size = w.heap.size := by omega
  clear ho ha hb k0 k1 HB cA K0
  dsimp only [Sl.v]
  go_wp2
  go_loopw [5] (fun c wr => ∃ j : Nat, j ≤ 0 ∧ c = .int .i64 j ∧ wr = w3) (fun c _ => 1 - (intOf c).toNat)
  case atStart => exact ⟨0, by omega, rfl, rfl⟩
  case round =>
    obtain ⟨j, hj, rfl, rfl⟩ := hrel
    obtain rfl : j = 0 := by omega
    · go_wp2
      have q0 : ∀ o : Obj, (wr.alloc o).cell? ⟨w.heap.size, 0, none⟩ = some (.int .i64 s.id) := fun o => ((boxd (o := o) (Below.refl wr.heap.size wr)).cell (World.block_lt_of_cell? wr _ b0')).trans b0'
      have q1 : ∀ o : Obj, (wr.alloc o).cell? ⟨b0, o0, none⟩ = some (.int .i64 3) := fun o => ((boxd (o := o) (Below.refl wr.heap.size wr)).cell (World.block_lt_of_cell? wr _ c0)).trans c0
      have q8 : ∀ o : Obj, (wr.alloc o).cell? ⟨w.heap.size, 8, none⟩ = some (.int .i64 s.next) := fun o => ((boxd (o := o) (Below.refl wr.heap.size wr)).cell (World.block_lt_of_cell? wr _ b8')).trans b8'
      have q10 : ∀ o : Obj, (wr.alloc o).cell? ⟨w.heap.size, 10, none⟩ = some (.int .i64 s.tries) := fun o => ((boxd (o := o) (Below.refl wr.heap.size wr)).cell (World.block_lt_of_cell? wr _ b10')).trans b10'
      go_region
      all_goals
        go_wp2_with (refine wpList_store_part rfl _ _ _ rfl _ 0 rfl _ rfl _ _ (show BlkAt ((wr.alloc _).drew) _ _ _ from K1.push _) (Nat.le_refl _) (by simp [Value.oneCell']) rowRec ?_; intro w9 hw9 K9)
        all_goals (try simp only [Exit.inBlock, Exit.then])
        all_goals refine bodyPost_ret (results_row2 rfl _ _ _ _ _ rfl K9 rowRec) rfl ⟨?_, hw9.below (boxd HB3.out).drew (by omega)⟩
        all_goals first
          | rfl
          | (rw [Int.min_eq_left (by omega)]; rfl)
          | (rw [Int.min_eq_right (by omega)]; rfl)

set_option maxRecDepth 10000000 in
set_option maxHeartbeats 4000000 in
theorem happy_46 (s : SagaV) (D : SagaD) (w : World) (ht : Tabs w) (hs : SagaRd w s D) (fs : SagaFits D) (hal : allowedD D = [4, 6]) (hn : 0 ≤ D.next ∧ D.next ≤ 1000) (hr : 0 ≤ D.tries ∧ D.tries ≤ 1000) :
    Calls Tryd.prog 24 #[s.val] w fun e w' => e = .returned (.tuple #[((⟨3, 6, D.id, (D.next - 1), 0, 9, 0, 0, 0, 0, ⟨#[]⟩, []⟩ : RecD).words nilSl).val, .bool true]) ∧ Below w.heap.size w w' := by
  have hb1 := boxd (o := .cells zeroRec 27) (boxd (o := .cells (sagaArr s) 25) (Below.refl w.heap.size w))
  have k0 := (BlkAt.new w (sagaArr s) 25).push (.cells zeroRec 27)
  have k1 := BlkAt.new (w.alloc (.cells (sagaArr s) 25)) zeroRec 27
  rw [World.size_alloc] at k1
  have cA := Lib.hid (allowed_any s D _ (ht.below hb1) (hs.below hb1) fs)
  rw [hal] at cA
  have e0 : s.id = D.id := by rw [hs.eq]
  have e8 : s.next = D.next := by rw [hs.eq]
  have e10 : s.tries = D.tries := by rw [hs.eq]
  rw [← e0]
  try rw [← e8]
  try rw [← e10]
  rw [← e8] at hn
  rw [← e10] at hr
  have HB := Lib.hid hb1
  clear ht hs fs hal hb1 e0 e8 e10
  obtain ⟨hn0, hn1⟩ := hn
  obtain ⟨hr0, hr1⟩ := hr
  dsimp only [SagaV.val, Sl.v, sagaArr] at k0 k1 HB cA
  dsimp only [SagaV.val, RecV.val, RecD.words, Sl.v, nilSl]
  go_enter Tryd.func24, Tryd.ntmps24
  go_wp2_with (refine wpList_load_blk rfl _ _ rfl _ rfl _ _ k0 rowSaga ?_)
  refine cA.out.mono ?_
  rintro e w3 ⟨v, rfl, ho, hb⟩
  obtain ⟨⟨a, n, c⟩, rfl, ha⟩ := ho.at (by decide)
  have hlen := ha.len
  simp only [List.length_cons, List.length_nil, Nat.zero_add, Nat.reduceAdd] at hlen
  subst hlen

  obtain ⟨b0, o0, hA0, c0⟩ := ha.get (j := 0) (by decide)
  obtain ⟨b1, o1, hA1, c1⟩ := ha.get (j := 1) (by decide)
  simp only at hA0
  obtain ⟨rfl, rfl⟩ : b1 = b0 ∧ o1 = o0 := by
    have := hA1.symm.trans hA0
    simpa using this
  subst hA0
  simp only [List.getElem_cons_zero, List.getElem_cons_succ, Nat.add_zero] at c0 c1
  have K0 := k0.below hb (by simp; omega)
  have K1 := k1.below hb (by simp)
  have b0' := K0.cell 0
  have b8' := K0.cell 8
  have b10' := K0.cell 10
  simp only [List.getElem?_toArray, List.getElem?_cons_zero, List.getElem?_cons_succ] at b0' b8' b10'
  have HB3 := Lib.hid (then_ HB.out hb)
  have hsz : w.heap.size + 2 ≤ w3.heap.size := by have := hb.size; simp at this; omega
  have hne : ¬ w.heap.size + 1 = w3.heap.size := by omega
  have hne2 : ¬ w3.heap.size = w.heap.size + 1 := by omega
  have hne3 : ¬ w.heap.size = w3.heap.size := by omega
  have hne4 : ¬ w3.heap.size = w.heap.size := by omega
  clear ho ha hb k0 k1 HB cA K0 hA1
  dsimp only [Sl.v]
  go_wp2
  go_loopw [5] (fun c wr => ∃ j : Nat, j ≤ 1 ∧ c = .int .i64 j ∧ wr = w3) (fun c _ => 2 - (intOf c).toNat)
  case atStart => exact ⟨0, by omega, rfl, rfl⟩
  case round =>
    obtain ⟨j, hj, rfl, rfl⟩ := hrel
    have hj' : j = 0 ∨ j = 1 := by omega
    rcases hj' with rfl | rfl
    · go_wp2
      all_goals go_roundw
      case rel => exact ⟨1, by omega, by go_num, by first | rfl | trivial⟩
      case measure => simp [intOf]
    · go_wp2
      have q0 : ∀ o : Obj, (wr.alloc o).cell? ⟨w.heap.size, 0, none⟩ = some (.int .i64 s.id) := fun o => ((boxd (o := o) (Below.refl wr.heap.size wr)).cell (World.block_lt_of_cell? wr _ b0')).trans b0'
      have q1 : ∀ o : Obj, (wr.alloc o).cell? ⟨b1, o1 + 1, none⟩ = some (.int .i64 6) := fun o => ((boxd (o := o) (Below.refl wr.heap.size wr)).cell (World.block_lt_of_cell? wr _ c1)).trans c1
      have q8 : ∀ o : Obj, (wr.alloc o).cell? ⟨w.heap.size, 8, none⟩ = some (.int .i64 s.next) := fun o => ((boxd (o := o) (Below.refl wr.heap.size wr)).cell (World.block_lt_of_cell? wr _ b8')).trans b8'
      have q10 : ∀ o : Obj, (wr.alloc o).cell? ⟨w.heap.size, 10, none⟩ = some (.int .i64 s.tries) := fun o => ((boxd (o := o) (Below.refl wr.heap.size wr)).cell (World.block_lt_of_cell? wr _ b10')).trans b10'
      go_region
      all_goals
        go_wp2_with (refine wpList_store_part rfl _ _ _ rfl _ 0 rfl _ rfl _ _ (show BlkAt ((wr.alloc _).drew) _ _ _ from K1.push _) (Nat.le_refl _) (by simp [Value.oneCell']) rowRec ?_; intro w9 hw9 K9)
        all_goals (try simp only [Exit.inBlock, Exit.then])
        all_goals refine bodyPost_ret (results_row2 rfl _ _ _ _ _ rfl K9 rowRec) rfl ⟨?_, hw9.below (boxd HB3.out).drew (by omega)⟩
        all_goals first
          | rfl
          | (rw [Int.min_eq_left (by omega)]; rfl)
          | (rw [Int.min_eq_right (by omega)]; rfl)

set_option maxRecDepth 10000000 in
set_option maxHeartbeats 4000000 in
theorem happy_2 (s : SagaV) (D : SagaD) (w : World) (ht : Tabs w) (hs : SagaRd w s D) (fs : SagaFits D) (hal : allowedD D = [2]) (hn : 0 ≤ D.next ∧ D.next ≤ 1000) (hr : 0 ≤ D.tries ∧ D.tries ≤ 1000) :
    Calls Tryd.prog 24 #[s.val] w fun e w' => e = .returned (.tuple #[((⟨3, 2, D.id, D.next, (min (D.tries + 1) 1000), 9, 0, 0, 0, 0, ⟨#[]⟩, []⟩ : RecD).words nilSl).val, .bool true]) ∧ Below w.heap.size w w' := by
  have hb1 := boxd (o := .cells zeroRec 27) (boxd (o := .cells (sagaArr s) 25) (Below.refl w.heap.size w))
  have k0 := (BlkAt.new w (sagaArr s) 25).push (.cells zeroRec 27)
  have k1 := BlkAt.new (w.alloc (.cells (sagaArr s) 25)) zeroRec 27
  rw [World.size_alloc] at k1
  have cA := Lib.hid (allowed_any s D _ (ht.below hb1) (hs.below hb1) fs)
  rw [hal] at cA
  have e0 : s.id = D.id := by rw [hs.eq]
  have e8 : s.next = D.next := by rw [hs.eq]
  have e10 : s.tries = D.tries := by rw [hs.eq]
  rw [← e0]
  try rw [← e8]
  try rw [← e10]
  rw [← e8] at hn
  rw [← e10] at hr
  have HB := Lib.hid hb1
  clear ht hs fs hal hb1 e0 e8 e10
  obtain ⟨hn0, hn1⟩ := hn
  obtain ⟨hr0, hr1⟩ := hr
  dsimp only [SagaV.val, Sl.v, sagaArr] at k0 k1 HB cA
  dsimp only [SagaV.val, RecV.val, RecD.words, Sl.v, nilSl]
  go_enter Tryd.func24, Tryd.ntmps24
  go_wp2_with (refine wpList_load_blk rfl _ _ rfl _ rfl _ _ k0 rowSaga ?_)
  refine cA.out.mono ?_
  rintro e w3 ⟨v, rfl, ho, hb⟩
  obtain ⟨⟨a, n, c⟩, rfl, ha⟩ := ho.at (by decide)
  have hlen := ha.len
  simp only [List.length_cons, List.length_nil, Nat.zero_add] at hlen
  subst hlen

  obtain ⟨b0, o0, hA0, c0⟩ := ha.get (j := 0) (by decide)
  simp only at hA0
  subst hA0
  simp only [List.getElem_cons_zero, Nat.add_zero] at c0
  have K0 := k0.below hb (by simp; omega)
  have K1 := k1.below hb (by simp)
  have b0' := K0.cell 0
  have b8' := K0.cell 8
  have b10' := K0.cell 10
  simp only [List.getElem?_toArray, List.getElem?_cons_zero, List.getElem?_cons_succ] at b0' b8' b10'
  have HB3 := Lib.hid (then_ HB.out hb)
  have hsz : w.heap.size + 2 ≤ w3.heap.size := by have := hb.size; simp at this; omega
  have hne : ¬ w.heap.size + 1 = w3.heap.size := by omega
  have hne2 : ¬ w3.heap.size = w.heap.size + 1 := by omega
  have hne3 : ¬ w.heap.size = w3.heap.size := by omega
  have hne4 : ¬ w3.heap.size = w.heap.size := by omega
  clear ho ha hb k0 k1 HB cA K0
  dsimp only [Sl.v]
  go_wp2
  go_loopw [5] (fun c wr => ∃ j : Nat, j ≤ 0 ∧ c = .int .i64 j ∧ wr = w3) (fun c _ => 1 - (intOf c).toNat)
  case atStart => exact ⟨0, by omega, rfl, rfl⟩
  case round =>
    obtain ⟨j, hj, rfl, rfl⟩ := hrel
    obtain rfl : j = 0 := by omega
    · go_wp2
      have q0 : ∀ o : Obj, (wr.alloc o).cell? ⟨w.heap.size, 0, none⟩ = some (.int .i64 s.id) := fun o => ((boxd (o := o) (Below.refl wr.heap.size wr)).cell (World.block_lt_of_cell? wr _ b0')).trans b0'
      have q1 : ∀ o : Obj, (wr.alloc o).cell? ⟨b0, o0, none⟩ = some (.int .i64 2) := fun o => ((boxd (o := o) (Below.refl wr.heap.size wr)).cell (World.block_lt_of_cell? wr _ c0)).trans c0
      have q8 : ∀ o : Obj, (wr.alloc o).cell? ⟨w.heap.size, 8, none⟩ = some (.int .i64 s.next) := fun o => ((boxd (o := o) (Below.refl wr.heap.size wr)).cell (World.block_lt_of_cell? wr _ b8')).trans b8'
      have q10 : ∀ o : Obj, (wr.alloc o).cell? ⟨w.heap.size, 10, none⟩ = some (.int .i64 s.tries) := fun o => ((boxd (o := o) (Below.refl wr.heap.size wr)).cell (World.block_lt_of_cell? wr _ b10')).trans b10'
      go_region
      all_goals
        go_wp2_with (refine wpList_store_part rfl _ _ _ rfl _ 0 rfl _ rfl _ _ (show BlkAt ((wr.alloc _).drew) _ _ _ from K1.push _) (Nat.le_refl _) (by simp [Value.oneCell']) rowRec ?_; intro w9 hw9 K9)
        all_goals (try simp only [Exit.inBlock, Exit.then])
        all_goals refine bodyPost_ret (results_row2 rfl _ _ _ _ _ rfl K9 rowRec) rfl ⟨?_, hw9.below (boxd HB3.out).drew (by omega)⟩
        all_goals first
          | rfl
          | (rw [Int.min_eq_left (by omega)]; rfl)
          | (rw [Int.min_eq_right (by omega)]; rfl)

set_option maxRecDepth 10000000 in
set_option maxHeartbeats 4000000 in
theorem happy_5 (s : SagaV) (D : SagaD) (w : World) (ht : Tabs w) (hs : SagaRd w s D) (fs : SagaFits D) (hal : allowedD D = [5]) (hn : 0 ≤ D.next ∧ D.next ≤ 1000) (hr : 0 ≤ D.tries ∧ D.tries ≤ 1000) :
    Calls Tryd.prog 24 #[s.val] w fun e w' => e = .returned (.tuple #[((⟨3, 5, D.id, (D.next - 1), (min (D.tries + 1) 1000), 9, 0, 0, 0, 0, ⟨#[]⟩, []⟩ : RecD).words nilSl).val, .bool true]) ∧ Below w.heap.size w w' := by
  have hb1 := boxd (o := .cells zeroRec 27) (boxd (o := .cells (sagaArr s) 25) (Below.refl w.heap.size w))
  have k0 := (BlkAt.new w (sagaArr s) 25).push (.cells zeroRec 27)
  have k1 := BlkAt.new (w.alloc (.cells (sagaArr s) 25)) zeroRec 27
  rw [World.size_alloc] at k1
  have cA := Lib.hid (allowed_any s D _ (ht.below hb1) (hs.below hb1) fs)
  rw [hal] at cA
  have e0 : s.id = D.id := by rw [hs.eq]
  have e8 : s.next = D.next := by rw [hs.eq]
  have e10 : s.tries = D.tries := by rw [hs.eq]
  rw [← e0]
  try rw [← e8]
  try rw [← e10]
  rw [← e8] at hn
  rw [← e10] at hr
  have HB := Lib.hid hb1
  clear ht hs fs hal hb1 e0 e8 e10
  obtain ⟨hn0, hn1⟩ := hn
  obtain ⟨hr0, hr1⟩ := hr
  dsimp only [SagaV.val, Sl.v, sagaArr] at k0 k1 HB cA
  dsimp only [SagaV.val, RecV.val, RecD.words, Sl.v, nilSl]
  go_enter Tryd.func24, Tryd.ntmps24
  go_wp2_with (refine wpList_load_blk rfl _ _ rfl _ rfl _ _ k0 rowSaga ?_)
  refine cA.out.mono ?_
  rintro e w3 ⟨v, rfl, ho, hb⟩
  obtain ⟨⟨a, n, c⟩, rfl, ha⟩ := ho.at (by decide)
  have hlen := ha.len
  simp only [List.length_cons, List.length_nil, Nat.zero_add] at hlen
  subst hlen

  obtain ⟨b0, o0, hA0, c0⟩ := ha.get (j := 0) (by decide)
  simp only at hA0
  subst hA0
  simp only [List.getElem_cons_zero, Nat.add_zero] at c0
  have K0 := k0.below hb (by simp; omega)
  have K1 := k1.below hb (by simp)
  have b0' := K0.cell 0
  have b8' := K0.cell 8
  have b10' := K0.cell 10
  simp only [List.getElem?_toArray, List.getElem?_cons_zero, List.getElem?_cons_succ] at b0' b8' b10'
  have HB3 := Lib.hid (then_ HB.out hb)
  have hsz : w.heap.size + 2 ≤ w3.heap.size := by have := hb.size; simp at this; omega
  have hne : ¬ w.heap.size + 1 = w3.heap.size := by omega
  have hne2 : ¬ w3.heap.size = w.heap.size + 1 := by omega
  have hne3 : ¬ w.heap.size = w3.heap.size := by omega
  have hne4 : ¬ w3.heap.size = w.heap.size := by omega
  clear ho ha hb k0 k1 HB cA K0
  dsimp only [Sl.v]
  go_wp2
  go_loopw [5] (fun c wr => ∃ j : Nat, j ≤ 0 ∧ c = .int .i64 j ∧ wr = w3) (fun c _ => 1 - (intOf c).toNat)
  case atStart => exact ⟨0, by omega, rfl, rfl⟩
  case round =>
    obtain ⟨j, hj, rfl, rfl⟩ := hrel
    obtain rfl : j = 0 := by omega
    · go_wp2
      have q0 : ∀ o : Obj, (wr.alloc o).cell? ⟨w.heap.size, 0, none⟩ = some (.int .i64 s.id) := fun o => ((boxd (o := o) (Below.refl wr.heap.size wr)).cell (World.block_lt_of_cell? wr _ b0')).trans b0'
      have q1 : ∀ o : Obj, (wr.alloc o).cell? ⟨b0, o0, none⟩ = some (.int .i64 5) := fun o => ((boxd (o := o) (Below.refl wr.heap.size wr)).cell (World.block_lt_of_cell? wr _ c0)).trans c0
      have q8 : ∀ o : Obj, (wr.alloc o).cell? ⟨w.heap.size, 8, none⟩ = some (.int .i64 s.next) := fun o => ((boxd (o := o) (Below.refl wr.heap.size wr)).cell (World.block_lt_of_cell? wr _ b8')).trans b8'
      have q10 : ∀ o : Obj, (wr.alloc o).cell? ⟨w.heap.size, 10, none⟩ = some (.int .i64 s.tries) := fun o => ((boxd (o := o) (Below.refl wr.heap.size wr)).cell (World.block_lt_of_cell? wr _ b10')).trans b10'
      go_region
      all_goals
        go_wp2_with (refine wpList_store_part rfl _ _ _ rfl _ 0 rfl _ rfl _ _ (show BlkAt ((wr.alloc _).drew) _ _ _ from K1.push _) (Nat.le_refl _) (by simp [Value.oneCell']) rowRec ?_; intro w9 hw9 K9)
        all_goals (try simp only [Exit.inBlock, Exit.then])
        all_goals refine bodyPost_ret (results_row2 rfl _ _ _ _ _ rfl K9 rowRec) rfl ⟨?_, hw9.below (boxd HB3.out).drew (by omega)⟩
        all_goals first
          | rfl
          | (rw [Int.min_eq_left (by omega)]; rfl)
          | (rw [Int.min_eq_right (by omega)]; rfl)

set_option maxRecDepth 10000000 in
set_option maxHeartbeats 4000000 in
theorem happy_7 (s : SagaV) (D : SagaD) (w : World) (ht : Tabs w) (hs : SagaRd w s D) (fs : SagaFits D) (hal : allowedD D = [7]) (hn : 0 ≤ D.next ∧ D.next ≤ 1000) (hr : 0 ≤ D.tries ∧ D.tries ≤ 1000) :
    Calls Tryd.prog 24 #[s.val] w fun e w' => e = .returned (.tuple #[((⟨3, 7, D.id, 0, 0, 9, 0, 0, 0, 0, ⟨#[]⟩, []⟩ : RecD).words nilSl).val, .bool true]) ∧ Below w.heap.size w w' := by
  have hb1 := boxd (o := .cells zeroRec 27) (boxd (o := .cells (sagaArr s) 25) (Below.refl w.heap.size w))
  have k0 := (BlkAt.new w (sagaArr s) 25).push (.cells zeroRec 27)
  have k1 := BlkAt.new (w.alloc (.cells (sagaArr s) 25)) zeroRec 27
  rw [World.size_alloc] at k1
  have cA := Lib.hid (allowed_any s D _ (ht.below hb1) (hs.below hb1) fs)
  rw [hal] at cA
  have e0 : s.id = D.id := by rw [hs.eq]
  have e8 : s.next = D.next := by rw [hs.eq]
  have e10 : s.tries = D.tries := by rw [hs.eq]
  rw [← e0]
  try rw [← e8]
  try rw [← e10]
  rw [← e8] at hn
  rw [← e10] at hr
  have HB := Lib.hid hb1
  clear ht hs fs hal hb1 e0 e8 e10
  obtain ⟨hn0, hn1⟩ := hn
  obtain ⟨hr0, hr1⟩ := hr
  dsimp only [SagaV.val, Sl.v, sagaArr] at k0 k1 HB cA
  dsimp only [SagaV.val, RecV.val, RecD.words, Sl.v, nilSl]
  go_enter Tryd.func24, Tryd.ntmps24
  go_wp2_with (refine wpList_load_blk rfl _ _ rfl _ rfl _ _ k0 rowSaga ?_)
  refine cA.out.mono ?_
  rintro e w3 ⟨v, rfl, ho, hb⟩
  obtain ⟨⟨a, n, c⟩, rfl, ha⟩ := ho.at (by decide)
  have hlen := ha.len
  simp only [List.length_cons, List.length_nil, Nat.zero_add] at hlen
  subst hlen

  obtain ⟨b0, o0, hA0, c0⟩ := ha.get (j := 0) (by decide)
  simp only at hA0
  subst hA0
  simp only [List.getElem_cons_zero, Nat.add_zero] at c0
  have K0 := k0.below hb (by simp; omega)
  have K1 := k1.below hb (by simp)
  have b0' := K0.cell 0
  have b8' := K0.cell 8
  have b10' := K0.cell 10
  simp only [List.getElem?_toArray, List.getElem?_cons_zero, List.getElem?_cons_succ] at b0' b8' b10'
  have HB3 := Lib.hid (then_ HB.out hb)
  have hsz : w.heap.size + 2 ≤ w3.heap.size := by have := hb.size; simp at this; omega
  have hne : ¬ w.heap.size + 1 = w3.heap.size := by omega
  have hne2 : ¬ w3.heap.size = w.heap.size + 1 := by omega
  have hne3 : ¬ w.heap.size = w3.heap.size := by omega
  have hne4 : ¬ w3.heap.size = w.heap.size := by omega
  clear ho ha hb k0 k1 HB cA K0
  dsimp only [Sl.v]
  go_wp2
  go_loopw [5] (fun c wr => ∃ j : Nat, j ≤ 0 ∧ c = .int .i64 j ∧ wr = w3) (fun c _ => 1 - (intOf c).toNat)
  case atStart => exact ⟨0, by omega, rfl, rfl⟩
  case round =>
    obtain ⟨j, hj, rfl, rfl⟩ := hrel
    obtain rfl : j = 0 := by omega
    · go_wp2
      have q0 : ∀ o : Obj, (wr.alloc o).cell? ⟨w.heap.size, 0, none⟩ = some (.int .i64 s.id) := fun o => ((boxd (o := o) (Below.refl wr.heap.size wr)).cell (World.block_lt_of_cell? wr _ b0')).trans b0'
      have q1 : ∀ o : Obj, (wr.alloc o).cell? ⟨b0, o0, none⟩ = some (.int .i64 7) := fun o => ((boxd (o := o) (Below.refl wr.heap.size wr)).cell (World.block_lt_of_cell? wr _ c0)).trans c0
      have q8 : ∀ o : Obj, (wr.alloc o).cell? ⟨w.heap.size, 8, none⟩ = some (.int .i64 s.next) := fun o => ((boxd (o := o) (Below.refl wr.heap.size wr)).cell (World.block_lt_of_cell? wr _ b8')).trans b8'
      have q10 : ∀ o : Obj, (wr.alloc o).cell? ⟨w.heap.size, 10, none⟩ = some (.int .i64 s.tries) := fun o => ((boxd (o := o) (Below.refl wr.heap.size wr)).cell (World.block_lt_of_cell? wr _ b10')).trans b10'
      go_region
      all_goals
        go_wp2_with (refine wpList_store_part rfl _ _ _ rfl _ 0 rfl _ rfl _ _ (show BlkAt ((wr.alloc _).drew) _ _ _ from K1.push _) (Nat.le_refl _) (by simp [Value.oneCell']) rowRec ?_; intro w9 hw9 K9)
        all_goals (try simp only [Exit.inBlock, Exit.then])
        all_goals refine bodyPost_ret (results_row2 rfl _ _ _ _ _ rfl K9 rowRec) rfl ⟨?_, hw9.below (boxd HB3.out).drew (by omega)⟩
        all_goals first
          | rfl
          | (rw [Int.min_eq_left (by omega)]; rfl)
          | (rw [Int.min_eq_right (by omega)]; rfl)

theorem happy_any (s : SagaV) (D : SagaD) (w : World) (ht : Tabs w) (hs : SagaRd w s D) (fs : SagaFits D) (hg : GoodD D) (hp : D.phase = 1 ∨ D.phase = 2) :
    Calls Tryd.prog 24 #[s.val] w fun e w' => e = .returned (.tuple #[((happyR D).words nilSl).val, .bool true]) ∧ Below w.heap.size w w' := by
  have hc := (checkD_iff D).2 hg
  have hn : 0 ≤ D.next ∧ D.next ≤ 1000 := ⟨hg.next0, hg.next1000⟩
  have hr : 0 ≤ D.tries ∧ D.tries ≤ 1000 := ⟨hg.plain.tries0, hg.plain.tries1000⟩
  rcases hp with hp | hp
  · cases hf : D.flight with
    | true =>
      have ha := allowed_31 hc hf hp
      have hk : happyK D = 3 := by unfold happyK; rw [ha]; rfl
      have e : happyR D = ⟨3, 3, D.id, D.next, 0, 9, 0, 0, 0, 0, ⟨#[]⟩, []⟩ := by unfold happyR; rw [hk]; rfl
      rw [e]
      exact happy_31 s D w ht hs fs ha hn hr
    | false =>
      by_cases hlt : D.next < D.count
      · have ha := allowed_1 hc hf hp hlt
        have hk : happyK D = 2 := by unfold happyK; rw [ha]; rfl
        have e : happyR D = ⟨3, 2, D.id, D.next, min (D.tries + 1) 1000, 9, 0, 0, 0, 0, ⟨#[]⟩, []⟩ := by unfold happyR; rw [hk]; rfl
        rw [e]
        exact happy_2 s D w ht hs fs ha hn hr
      · have ha := allowed_17 hc hf hp hlt
        have hk : happyK D = 7 := by unfold happyK; rw [ha]; rfl
        have e : happyR D = ⟨3, 7, D.id, 0, 0, 9, 0, 0, 0, 0, ⟨#[]⟩, []⟩ := by unfold happyR; rw [hk]; rfl
        rw [e]
        exact happy_7 s D w ht hs fs ha hn hr
  · cases hf : D.flight with
    | true =>
      have ha := allowed_32 hc hf hp
      have hk : happyK D = 6 := by unfold happyK; rw [ha]; rfl
      have e : happyR D = ⟨3, 6, D.id, D.next - 1, 0, 9, 0, 0, 0, 0, ⟨#[]⟩, []⟩ := by unfold happyR; rw [hk]; rfl
      rw [e]
      exact happy_46 s D w ht hs fs ha hn hr
    | false =>
      by_cases hlt : D.next > 0
      · have ha := allowed_2 hc hf hp hlt
        have hk : happyK D = 5 := by unfold happyK; rw [ha]; rfl
        have e : happyR D = ⟨3, 5, D.id, D.next - 1, min (D.tries + 1) 1000, 9, 0, 0, 0, 0, ⟨#[]⟩, []⟩ := by unfold happyR; rw [hk]; rfl
        rw [e]
        exact happy_5 s D w ht hs fs ha hn hr
      · have ha := allowed_27 hc hf hp hlt
        have hk : happyK D = 7 := by unfold happyK; rw [ha]; rfl
        have e : happyR D = ⟨3, 7, D.id, 0, 0, 9, 0, 0, 0, 0, ⟨#[]⟩, []⟩ := by unfold happyR; rw [hk]; rfl
        rw [e]
        exact happy_7 s D w ht hs fs ha hn hr

end Go.Proofs.YteaiadpigpehaaaDoor
