/-
  annalslaw10.answered walked: it answers true. Conditions: the tables, as laid; a saga that the reference can read. (Printed by wip/gen_answered.py.)
-/
import Derived.Test.YteaiadpigpehaaaGreatDoorPkOps
import Derived.Test.YteaiadpigpehaaaGreatDoorPkTold
import Derived.Test.YteaiadpigpehaaaGreatDoorStarted
namespace Go.Proofs.YteaiadpigpehaaaGreatDoor
open Go.RowKit

theorem story_small (D : SagaD) : ∀ R ∈ (if checkD D = 0 then storyL D else []), R.data.length ≤ 1073741824 := by
  split
  · next h =>
    have hg := (checkD_iff D).1 h
    have hs := laid_small hg.small
    have e : storyL D = beginR D :: tellW D := by rw [tellW_eq hg]; rfl
    rw [e]
    exact fun R hR => (hs R hR).data
  · simp

set_option maxRecDepth 10000000 in
set_option maxHeartbeats 8000000 in
theorem answered_1 (o : OpV) (O : OpD) (w : World) (ht : Tables w) (hrt : RefTabs w) (ho : OpRd w o O) (fr : RecFits O.r) (fx : RefFits O.r) (hk : o.k = 1) :
    Calls Tryz.prog 12 #[o.val] w fun e w' => e = .returned (.bool true) ∧ Below w.heap.size w w' := by
  have e0 : OpAt w (w.alloc (.cells (opArr o) 37)) w.heap.size o O := OpAt.new ho
  have E1 := Lib.hid e0
  have C1 := Lib.hid (fun W (h : Below w.heap.size w W) => begin_any o.r O.r W (ht.below h) (ho.r.below h) fr)
  have C2 := Lib.hid (fun W (h : Below w.heap.size w W) => ref10Begin_any o.r O.r W (hrt.below h) (ho.r.below h) fx)
  have HSM := Lib.hid (beginD_small O.r)
  clear ht hrt ho fr fx e0
  obtain ⟨k, hk2⟩ : ∃ q, o.k = q := ⟨_, rfl⟩
  have hk0 : (opArr o)[0]? = some (.int .i64 k) := by rw [← hk2]; rfl
  have HK := Lib.hid hk0
  have h1 : k = 1 := by rw [← hk2]; exact hk
  clear hk hk2 hk0
  obtain ⟨M, hM⟩ : ∃ q, beginN O.r = q := ⟨_, rfl⟩
  obtain ⟨DD, hDD⟩ : ∃ q, beginD O.r = q := ⟨_, rfl⟩
  rw [hM, hDD] at C1 C2
  rw [hDD] at HSM
  clear hM hDD
  go_enter Tryz.func12, Tryz.ntmps12
  subst h1
  go_wp2_with (first
    | ((with_reducible refine wpList_load_field ?_ _ (.tmp 16) ?_ w.heap.size 0 ?_ 37 (opArr o) E1.out.blk (.int .i64 1) ?_ one_int ?_); rotate_left; exact rfl; exact rfl; exact HK.out; rotate_left; exact rfl)
    | ((with_reducible refine wpList_load_part ?_ _ (.tmp 21) ?_ w.heap.size 17 ?_ 37 (opArr o) (recArr o.r) E1.out.blk (op_rec o) rowRec ?_); rotate_left; exact rfl; exact rfl; rotate_left; exact rfl))
  refine (C1.out _ E1.out.below).mono ?_
  rintro e wa1 ⟨s1, rfl, ho, hb⟩
  obtain ⟨wb1, hwB⟩ : ∃ q, wa1.alloc (.cells (sagaArr s1) 29) = q := ⟨_, rfl⟩
  have hbB : Below wa1.heap.size wa1 wb1 := by rw [← hwB]; exact boxd (Below.refl _ _)
  have hbT := then_ hb hbB
  have A1 := Lib.hid (show Ans wb1 wa1.heap.size s1 DD from ⟨by rw [← hwB]; exact BlkAt.new _ _ _, (ho.rd HSM.out).below hbB⟩)
  have E2 := Lib.hid (E1.out.bl hbT)
  dsimp only [sagaArr, Sl.v] at hwB
  have HWB := Lib.hid hwB
  clear hwB hbB hb ho hbT
  dsimp only [SagaV.val, Sl.v]
  go_upto_region 4 with fail
  rw [HWB.out]
  clear HWB
  go_wp2_with (first
    | ((with_reducible refine wpList_load_part ?_ _ (.tmp 27) ?_ w.heap.size 17 ?_ 37 (opArr o) (recArr o.r) E2.out.blk (op_rec o) rowRec ?_); rotate_left; exact rfl; exact rfl; rotate_left; exact rfl))
  refine (C2.out _ E2.out.below).mono ?_
  rintro e wa2 ⟨s2, rfl, ho, hb⟩
  obtain ⟨wb2, hwB⟩ : ∃ q, wa2.alloc (.cells (sagaArr s2) 29) = q := ⟨_, rfl⟩
  have hbB : Below wa2.heap.size wa2 wb2 := by rw [← hwB]; exact boxd (Below.refl _ _)
  have hbT := then_ hb hbB
  have A2 := Lib.hid (show Ans wb2 wa2.heap.size s2 DD from ⟨by rw [← hwB]; exact BlkAt.new _ _ _, (ho.rd HSM.out).below hbB⟩)
  have E3 := Lib.hid (E2.out.bl hbT)
  have A12 := Lib.hid (A1.out.bl hbT)
  dsimp only [sagaArr, Sl.v] at hwB
  have HWB := Lib.hid hwB
  clear hwB hbB hb ho hbT A1 E2
  dsimp only [SagaV.val, Sl.v]
  go_upto_region 5 with fail
  rw [HWB.out]
  clear HWB
  have cM := same_any s1 s2 DD DD wb2 A12.out.rd A2.out.rd
  rw [sameB_refl] at cM
  have CM := Lib.hid cM
  clear cM
  go_wp2_with (first
    | (go_at_call 18; (with_reducible refine (num_keep2 _ _).mono ?_); rintro e w9 ⟨rfl, rfl⟩)
    | ((with_reducible refine wpList_load_blk ?_ _ (.tmp 3) ?_ _ ?_ _ _ A12.out.blk rowSaga ?_); rotate_left; exact rfl; exact rfl; rotate_left; exact rfl)
    | ((with_reducible refine wpList_load_blk ?_ _ (.tmp 5) ?_ _ ?_ _ _ A2.out.blk rowSaga ?_); rotate_left; exact rfl; exact rfl; rotate_left; exact rfl)
    | (go_at_call 13; refine CM.out.mono ?_; rintro e w6 ⟨rfl, hb⟩; have HB6 := Lib.hid hb; clear hb))
  all_goals go_ret
  all_goals exact ⟨by simp, (E3.out.bl HB6.out).below⟩

set_option maxRecDepth 10000000 in
set_option maxHeartbeats 8000000 in
theorem answered_2 (o : OpV) (O : OpD) (w : World) (ht : Tables w) (hl : LandsAt w) (hrt : RefTabs w) (ho : OpRd w o O) (fs : SagaFits O.s) (fr : RecFits O.r) (hf : RefSaga O.s) (fx : RefFits O.r) (hk : o.k = 2) :
    Calls Tryz.prog 12 #[o.val] w fun e w' => e = .returned (.bool true) ∧ Below w.heap.size w w' := by
  have e0 : OpAt w (w.alloc (.cells (opArr o) 37)) w.heap.size o O := OpAt.new ho
  have E1 := Lib.hid e0
  have C1 := Lib.hid (fun W (h : Below w.heap.size w W) => apply_any o.s O.s o.r O.r W (ht.below h) (hl.below h) (ho.s.below h) (ho.r.below h) fs fr)
  have C2 := Lib.hid (fun W (h : Below w.heap.size w W) => ref10Apply_any o.s O.s o.r O.r W (hrt.below h) (ho.s.below h) (ho.r.below h) hf fx)
  have HSM := Lib.hid (applyD_small O.s O.r)
  clear ht hl hrt ho fs fr hf fx e0
  obtain ⟨k, hk2⟩ : ∃ q, o.k = q := ⟨_, rfl⟩
  have hk0 : (opArr o)[0]? = some (.int .i64 k) := by rw [← hk2]; rfl
  have HK := Lib.hid hk0
  have h2 : k = 2 := by rw [← hk2]; exact hk
  clear hk hk2 hk0
  obtain ⟨M, hM⟩ : ∃ q, applyN O.s O.r = q := ⟨_, rfl⟩
  obtain ⟨DD, hDD⟩ : ∃ q, applyD O.s O.r = q := ⟨_, rfl⟩
  rw [hM, hDD] at C1 C2
  rw [hDD] at HSM
  clear hM hDD
  go_enter Tryz.func12, Tryz.ntmps12
  subst h2
  go_wp2_with (first
    | ((with_reducible refine wpList_load_field ?_ _ (.tmp 16) ?_ w.heap.size 0 ?_ 37 (opArr o) E1.out.blk (.int .i64 2) ?_ one_int ?_); rotate_left; exact rfl; exact rfl; exact HK.out; rotate_left; exact rfl)
    | ((with_reducible refine wpList_load_part ?_ _ (.tmp 44) ?_ w.heap.size 1 ?_ 37 (opArr o) (sagaArr o.s) E1.out.blk (op_saga o) rowSaga ?_); rotate_left; exact rfl; exact rfl; rotate_left; exact rfl)
    | ((with_reducible refine wpList_load_part ?_ _ (.tmp 46) ?_ w.heap.size 17 ?_ 37 (opArr o) (recArr o.r) E1.out.blk (op_rec o) rowRec ?_); rotate_left; exact rfl; exact rfl; rotate_left; exact rfl))
  refine (C1.out _ E1.out.below).mono ?_
  rintro e wa1 ⟨s1, rfl, ho, hb⟩
  obtain ⟨wb1, hwB⟩ : ∃ q, wa1.alloc (.cells (sagaArr s1) 29) = q := ⟨_, rfl⟩
  have hbB : Below wa1.heap.size wa1 wb1 := by rw [← hwB]; exact boxd (Below.refl _ _)
  have hbT := then_ hb hbB
  have A1 := Lib.hid (show Ans wb1 wa1.heap.size s1 DD from ⟨by rw [← hwB]; exact BlkAt.new _ _ _, (ho.rd HSM.out).below hbB⟩)
  have E2 := Lib.hid (E1.out.bl hbT)
  dsimp only [sagaArr, Sl.v] at hwB
  have HWB := Lib.hid hwB
  clear hwB hbB hb ho hbT
  dsimp only [SagaV.val, Sl.v]
  go_upto_region 8 with fail
  rw [HWB.out]
  clear HWB
  go_wp2_with (first
    | ((with_reducible refine wpList_load_part ?_ _ (.tmp 52) ?_ w.heap.size 1 ?_ 37 (opArr o) (sagaArr o.s) E2.out.blk (op_saga o) rowSaga ?_); rotate_left; exact rfl; exact rfl; rotate_left; exact rfl)
    | ((with_reducible refine wpList_load_part ?_ _ (.tmp 54) ?_ w.heap.size 17 ?_ 37 (opArr o) (recArr o.r) E2.out.blk (op_rec o) rowRec ?_); rotate_left; exact rfl; exact rfl; rotate_left; exact rfl))
  refine (C2.out _ E2.out.below).mono ?_
  rintro e wa2 ⟨s2, rfl, ho, hb⟩
  obtain ⟨wb2, hwB⟩ : ∃ q, wa2.alloc (.cells (sagaArr s2) 29) = q := ⟨_, rfl⟩
  have hbB : Below wa2.heap.size wa2 wb2 := by rw [← hwB]; exact boxd (Below.refl _ _)
  have hbT := then_ hb hbB
  have A2 := Lib.hid (show Ans wb2 wa2.heap.size s2 DD from ⟨by rw [← hwB]; exact BlkAt.new _ _ _, (ho.rd HSM.out).below hbB⟩)
  have E3 := Lib.hid (E2.out.bl hbT)
  have A12 := Lib.hid (A1.out.bl hbT)
  dsimp only [sagaArr, Sl.v] at hwB
  have HWB := Lib.hid hwB
  clear hwB hbB hb ho hbT A1 E2
  dsimp only [SagaV.val, Sl.v]
  go_upto_region 9 with fail
  rw [HWB.out]
  clear HWB
  have cM := same_any s1 s2 DD DD wb2 A12.out.rd A2.out.rd
  rw [sameB_refl] at cM
  have CM := Lib.hid cM
  clear cM
  go_wp2_with (first
    | (go_at_call 18; (with_reducible refine (num_keep2 _ _).mono ?_); rintro e w9 ⟨rfl, rfl⟩)
    | ((with_reducible refine wpList_load_blk ?_ _ (.tmp 7) ?_ _ ?_ _ _ A12.out.blk rowSaga ?_); rotate_left; exact rfl; exact rfl; rotate_left; exact rfl)
    | ((with_reducible refine wpList_load_blk ?_ _ (.tmp 9) ?_ _ ?_ _ _ A2.out.blk rowSaga ?_); rotate_left; exact rfl; exact rfl; rotate_left; exact rfl)
    | (go_at_call 13; refine CM.out.mono ?_; rintro e w6 ⟨rfl, hb⟩; have HB6 := Lib.hid hb; clear hb))
  all_goals go_ret
  all_goals exact ⟨by simp, (E3.out.bl HB6.out).below⟩

set_option maxRecDepth 10000000 in
set_option maxHeartbeats 8000000 in
theorem answered_3 (o : OpV) (O : OpD) (w : World) (ht : Tables w) (hrt : RefTabs w) (ho : OpRd w o O) (fs : SagaFits O.s) (hf : RefSaga O.s) (hk : o.k = 3) :
    Calls Tryz.prog 12 #[o.val] w fun e w' => e = .returned (.bool true) ∧ Below w.heap.size w w' := by
  have e0 : OpAt w (w.alloc (.cells (opArr o) 37)) w.heap.size o O := OpAt.new ho
  have E1 := Lib.hid e0
  have C1 := Lib.hid (fun W (h : Below w.heap.size w W) => asked_any o O W (ht.below h) (hrt.below h) (ho.below h) fs hf)
  clear ht hrt ho fs hf e0
  obtain ⟨k, hk2⟩ : ∃ q, o.k = q := ⟨_, rfl⟩
  have hk0 : (opArr o)[0]? = some (.int .i64 k) := by rw [← hk2]; rfl
  have HK := Lib.hid hk0
  have h3 : k = 3 := by rw [← hk2]; exact hk
  clear hk hk2 hk0
  go_enter Tryz.func12, Tryz.ntmps12
  subst h3
  go_wp2_with (first
    | ((with_reducible refine wpList_load_field ?_ _ (.tmp 16) ?_ w.heap.size 0 ?_ 37 (opArr o) E1.out.blk (.int .i64 3) ?_ one_int ?_); rotate_left; exact rfl; exact rfl; exact HK.out; rotate_left; exact rfl)
    | ((with_reducible refine wpList_load_blk ?_ _ (.tmp 1) ?_ w.heap.size ?_ 37 (opArr o) E1.out.blk rowOp ?_); rotate_left; exact rfl; exact rfl; rotate_left; exact rfl))
  refine (C1.out _ E1.out.below).mono ?_
  rintro e w2 ⟨rfl, hb⟩
  have HB2 := Lib.hid (E1.out.bl hb).below
  clear hb
  go_wp2
  all_goals go_ret
  all_goals exact ⟨rfl, HB2.out⟩

set_option maxRecDepth 10000000 in
set_option maxHeartbeats 8000000 in
theorem answered_4 (o : OpV) (O : OpD) (w : World) (ht : Tables w) (hrt : RefTabs w) (ho : OpRd w o O) (fs : SagaFits O.s) (hf : RefSaga O.s) (hk : o.k = 4) :
    Calls Tryz.prog 12 #[o.val] w fun e w' => e = .returned (.bool true) ∧ Below w.heap.size w w' := by
  have e0 : OpAt w (w.alloc (.cells (opArr o) 37)) w.heap.size o O := OpAt.new ho
  have E1 := Lib.hid e0
  have C1 := Lib.hid (fun W (h : Below w.heap.size w W) => asked_any o O W (ht.below h) (hrt.below h) (ho.below h) fs hf)
  clear ht hrt ho fs hf e0
  obtain ⟨k, hk2⟩ : ∃ q, o.k = q := ⟨_, rfl⟩
  have hk0 : (opArr o)[0]? = some (.int .i64 k) := by rw [← hk2]; rfl
  have HK := Lib.hid hk0
  have h4 : k = 4 := by rw [← hk2]; exact hk
  clear hk hk2 hk0
  go_enter Tryz.func12, Tryz.ntmps12
  subst h4
  go_wp2_with (first
    | ((with_reducible refine wpList_load_field ?_ _ (.tmp 16) ?_ w.heap.size 0 ?_ 37 (opArr o) E1.out.blk (.int .i64 4) ?_ one_int ?_); rotate_left; exact rfl; exact rfl; exact HK.out; rotate_left; exact rfl)
    | ((with_reducible refine wpList_load_blk ?_ _ (.tmp 1) ?_ w.heap.size ?_ 37 (opArr o) E1.out.blk rowOp ?_); rotate_left; exact rfl; exact rfl; rotate_left; exact rfl))
  refine (C1.out _ E1.out.below).mono ?_
  rintro e w2 ⟨rfl, hb⟩
  have HB2 := Lib.hid (E1.out.bl hb).below
  clear hb
  go_wp2
  all_goals go_ret
  all_goals exact ⟨rfl, HB2.out⟩

set_option maxRecDepth 10000000 in
set_option maxHeartbeats 8000000 in
theorem answered_5 (o : OpV) (O : OpD) (w : World) (ht : Tables w) (hrt : RefTabs w) (ho : OpRd w o O) (fs : SagaFits O.s) (hf : RefSaga O.s) (hk : o.k = 5) :
    Calls Tryz.prog 12 #[o.val] w fun e w' => e = .returned (.bool true) ∧ Below w.heap.size w w' := by
  have e0 : OpAt w (w.alloc (.cells (opArr o) 37)) w.heap.size o O := OpAt.new ho
  have E1 := Lib.hid e0
  have C1 := Lib.hid (fun W (h : Below w.heap.size w W) => asked_any o O W (ht.below h) (hrt.below h) (ho.below h) fs hf)
  clear ht hrt ho fs hf e0
  obtain ⟨k, hk2⟩ : ∃ q, o.k = q := ⟨_, rfl⟩
  have hk0 : (opArr o)[0]? = some (.int .i64 k) := by rw [← hk2]; rfl
  have HK := Lib.hid hk0
  have h5 : k = 5 := by rw [← hk2]; exact hk
  clear hk hk2 hk0
  go_enter Tryz.func12, Tryz.ntmps12
  subst h5
  go_wp2_with (first
    | ((with_reducible refine wpList_load_field ?_ _ (.tmp 16) ?_ w.heap.size 0 ?_ 37 (opArr o) E1.out.blk (.int .i64 5) ?_ one_int ?_); rotate_left; exact rfl; exact rfl; exact HK.out; rotate_left; exact rfl)
    | ((with_reducible refine wpList_load_blk ?_ _ (.tmp 1) ?_ w.heap.size ?_ 37 (opArr o) E1.out.blk rowOp ?_); rotate_left; exact rfl; exact rfl; rotate_left; exact rfl))
  refine (C1.out _ E1.out.below).mono ?_
  rintro e w2 ⟨rfl, hb⟩
  have HB2 := Lib.hid (E1.out.bl hb).below
  clear hb
  go_wp2
  all_goals go_ret
  all_goals exact ⟨rfl, HB2.out⟩

set_option maxRecDepth 10000000 in
set_option maxHeartbeats 8000000 in
theorem answered_6 (o : OpV) (O : OpD) (w : World) (ht : Tables w) (hrt : RefTabs w) (ho : OpRd w o O) (fs : SagaFits O.s) (hf : RefSaga O.s) (hk : o.k = 6) :
    Calls Tryz.prog 12 #[o.val] w fun e w' => e = .returned (.bool true) ∧ Below w.heap.size w w' := by
  have e0 : OpAt w (w.alloc (.cells (opArr o) 37)) w.heap.size o O := OpAt.new ho
  have E1 := Lib.hid e0
  have C1 := Lib.hid (fun W (h : Below w.heap.size w W) => asked_any o O W (ht.below h) (hrt.below h) (ho.below h) fs hf)
  clear ht hrt ho fs hf e0
  obtain ⟨k, hk2⟩ : ∃ q, o.k = q := ⟨_, rfl⟩
  have hk0 : (opArr o)[0]? = some (.int .i64 k) := by rw [← hk2]; rfl
  have HK := Lib.hid hk0
  have h6 : k = 6 := by rw [← hk2]; exact hk
  clear hk hk2 hk0
  go_enter Tryz.func12, Tryz.ntmps12
  subst h6
  go_wp2_with (first
    | ((with_reducible refine wpList_load_field ?_ _ (.tmp 16) ?_ w.heap.size 0 ?_ 37 (opArr o) E1.out.blk (.int .i64 6) ?_ one_int ?_); rotate_left; exact rfl; exact rfl; exact HK.out; rotate_left; exact rfl)
    | ((with_reducible refine wpList_load_blk ?_ _ (.tmp 1) ?_ w.heap.size ?_ 37 (opArr o) E1.out.blk rowOp ?_); rotate_left; exact rfl; exact rfl; rotate_left; exact rfl))
  refine (C1.out _ E1.out.below).mono ?_
  rintro e w2 ⟨rfl, hb⟩
  have HB2 := Lib.hid (E1.out.bl hb).below
  clear hb
  go_wp2
  all_goals go_ret
  all_goals exact ⟨rfl, HB2.out⟩

set_option maxRecDepth 10000000 in
set_option maxHeartbeats 8000000 in
theorem answered_8 (o : OpV) (O : OpD) (w : World) (ho : OpRd w o O) (hf : RefSaga O.s) (hk : o.k = 8) :
    Calls Tryz.prog 12 #[o.val] w fun e w' => e = .returned (.bool true) ∧ Below w.heap.size w w' := by
  have e0 : OpAt w (w.alloc (.cells (opArr o) 37)) w.heap.size o O := OpAt.new ho
  have E1 := Lib.hid e0
  have C1 := Lib.hid (fun W (h : Below w.heap.size w W) => clone_rd o.s O.s W (ho.s.below h) hf.small)
  have HSM := Lib.hid hf.small
  clear ho hf e0
  obtain ⟨k, hk2⟩ : ∃ q, o.k = q := ⟨_, rfl⟩
  have hk0 : (opArr o)[0]? = some (.int .i64 k) := by rw [← hk2]; rfl
  have HK := Lib.hid hk0
  have h8 : k = 8 := by rw [← hk2]; exact hk
  clear hk hk2 hk0
  go_enter Tryz.func12, Tryz.ntmps12
  subst h8
  go_wp2_with (first
    | ((with_reducible refine wpList_load_field ?_ _ (.tmp 16) ?_ w.heap.size 0 ?_ 37 (opArr o) E1.out.blk (.int .i64 8) ?_ one_int ?_); rotate_left; exact rfl; exact rfl; exact HK.out; rotate_left; exact rfl)
    | ((with_reducible refine wpList_load_part ?_ _ (.tmp 100) ?_ w.heap.size 1 ?_ 37 (opArr o) (sagaArr o.s) E1.out.blk (op_saga o) rowSaga ?_); rotate_left; exact rfl; exact rfl; rotate_left; exact rfl))
  refine (C1.out _ E1.out.below).mono ?_
  rintro e wa1 ⟨s1, rfl, ho, hb⟩
  obtain ⟨wb1, hwB⟩ : ∃ q, wa1.alloc (.cells (sagaArr s1) 29) = q := ⟨_, rfl⟩
  have hbB : Below wa1.heap.size wa1 wb1 := by rw [← hwB]; exact boxd (Below.refl _ _)
  have hbT := then_ hb hbB
  have A1 := Lib.hid (show Ans wb1 wa1.heap.size s1 O.s from ⟨by rw [← hwB]; exact BlkAt.new _ _ _, (ho.rd HSM.out).below hbB⟩)
  have E2 := Lib.hid (E1.out.bl hbT)
  dsimp only [sagaArr, Sl.v] at hwB
  have HWB := Lib.hid hwB
  clear hwB hbB hb ho hbT
  dsimp only [SagaV.val, Sl.v]
  go_upto_region 21 with fail
  rw [HWB.out]
  clear HWB
  have cM := same_any s1 o.s O.s O.s wb1 A1.out.rd E2.out.rd.s
  rw [sameB_refl] at cM
  have CM := Lib.hid cM
  clear cM
  go_wp2_with (first
    | ((with_reducible refine wpList_load_blk ?_ _ (.tmp 15) ?_ _ ?_ _ _ A1.out.blk rowSaga ?_); rotate_left; exact rfl; exact rfl; rotate_left; exact rfl)
    | ((with_reducible refine wpList_load_part ?_ _ (.tmp 104) ?_ w.heap.size 1 ?_ 37 (opArr o) (sagaArr o.s) E2.out.blk (op_saga o) rowSaga ?_); rotate_left; exact rfl; exact rfl; rotate_left; exact rfl))
  refine CM.out.mono ?_
  rintro e w6 ⟨rfl, hb⟩
  have E3 := Lib.hid (E2.out.bl hb)
  clear hb
  go_wp2
  all_goals go_ret
  all_goals exact ⟨rfl, E3.out.below⟩

set_option maxRecDepth 10000000 in
set_option maxHeartbeats 8000000 in
theorem answered_7 (o : OpV) (O : OpD) (w : World) (ht : Tables w) (hrt : RefTabs w) (ho : OpRd w o O) (fs : SagaFits O.s) (hf : RefSaga O.s) (hk : o.k = 7) :
    Calls Tryz.prog 12 #[o.val] w fun e w' => e = .returned (.bool true) ∧ Below w.heap.size w w' := by
  have e0 : OpAt w (w.alloc (.cells (opArr o) 37)) w.heap.size o O := OpAt.new ho
  have E1 := Lib.hid e0
  have C1 := Lib.hid (fun W (h : Below w.heap.size w W) => story_any o.s O.s W (ht.below h) (ho.s.below h) fs)
  have C2 := Lib.hid (fun W (h : Below w.heap.size w W) => ref10Story_any o.s O.s W (hrt.below h) (ho.s.below h) hf)
  have HSM := Lib.hid (story_small O.s)
  clear ht hrt ho fs hf e0
  obtain ⟨k, hk2⟩ : ∃ q, o.k = q := ⟨_, rfl⟩
  have hk0 : (opArr o)[0]? = some (.int .i64 k) := by rw [← hk2]; rfl
  have HK := Lib.hid hk0
  have h7 : k = 7 := by rw [← hk2]; exact hk
  clear hk hk2 hk0
  obtain ⟨L, hL⟩ : ∃ q, (if checkD O.s = 0 then storyL O.s else []) = q := ⟨_, rfl⟩
  obtain ⟨M, hM⟩ : ∃ q, checkD O.s = q := ⟨_, rfl⟩
  rw [hL] at C1 C2 HSM
  rw [hM] at C1 C2
  clear hL hM
  go_enter Tryz.func12, Tryz.ntmps12
  subst h7
  go_wp2_with (first
    | ((with_reducible refine wpList_load_field ?_ _ (.tmp 16) ?_ w.heap.size 0 ?_ 37 (opArr o) E1.out.blk (.int .i64 7) ?_ one_int ?_); rotate_left; exact rfl; exact rfl; exact HK.out; rotate_left; exact rfl)
    | ((with_reducible refine wpList_load_part ?_ _ (.tmp 78) ?_ w.heap.size 1 ?_ 37 (opArr o) (sagaArr o.s) E1.out.blk (op_saga o) rowSaga ?_); rotate_left; exact rfl; exact rfl; rotate_left; exact rfl))
  refine (C1.out _ E1.out.below).mono ?_
  rintro e w2 ⟨x1, rfl, hov, hb⟩
  have E2 := Lib.hid (E1.out.bl hb)
  have HO := Lib.hid hov
  clear hb hov
  go_wp2_with (first
    | ((with_reducible refine wpList_load_part ?_ _ (.tmp 84) ?_ w.heap.size 1 ?_ 37 (opArr o) (sagaArr o.s) E2.out.blk (op_saga o) rowSaga ?_); rotate_left; exact rfl; exact rfl; rotate_left; exact rfl))
  refine (C2.out _ E2.out.below).mono ?_
  rintro e w3 ⟨u, rfl, hou, hb⟩
  have E3 := Lib.hid (E2.out.bl hb)
  have i1 := (HO.out.through hb).recsAt HSM.out
  obtain ⟨x2, rfl⟩ := OwnRecs.sl hou
  have i2 := hou.recsAt HSM.out
  have CS := Lib.hid (sameAll_eq x1 x2 L w3 i1 i2)
  clear hb hou i1 i2 HO
  go_wp2_with (first
    | (go_at_call 18; (with_reducible refine (num_keep2 _ _).mono ?_); rintro e w9 ⟨rfl, rfl⟩)
    | (go_at_call 30; refine CS.out.mono ?_; rintro e w6 ⟨rfl, hb⟩; have HB6 := Lib.hid hb; clear hb))
  all_goals go_ret
  all_goals exact ⟨by simp, (E3.out.bl HB6.out).below⟩

set_option maxRecDepth 10000000 in
set_option maxHeartbeats 8000000 in
theorem answered_no (o : OpV) (O : OpD) (w : World) (ho : OpRd w o O) (hk : o.k < 1 ∨ 8 < o.k) :
    Calls Tryz.prog 12 #[o.val] w fun e w' => e = .returned (.bool true) ∧ Below w.heap.size w w' := by
  have e0 : OpAt w (w.alloc (.cells (opArr o) 37)) w.heap.size o O := OpAt.new ho
  have E1 := Lib.hid e0
  obtain ⟨k, hk2⟩ : ∃ q, o.k = q := ⟨_, rfl⟩
  have hk0 : (opArr o)[0]? = some (.int .i64 k) := by rw [← hk2]; rfl
  have HK := Lib.hid hk0
  rw [hk2] at hk
  have n1 : (k == 1) = false := by rw [beq_eq_false_iff_ne]; omega
  have n2 : (k == 2) = false := by rw [beq_eq_false_iff_ne]; omega
  have n3 : (k == 3) = false := by rw [beq_eq_false_iff_ne]; omega
  have n4 : (k == 4) = false := by rw [beq_eq_false_iff_ne]; omega
  have n5 : (k == 5) = false := by rw [beq_eq_false_iff_ne]; omega
  have n6 : (k == 6) = false := by rw [beq_eq_false_iff_ne]; omega
  have n7 : (k == 7) = false := by rw [beq_eq_false_iff_ne]; omega
  have n8 : (k == 8) = false := by rw [beq_eq_false_iff_ne]; omega
  clear hk hk2 hk0 e0 ho
  go_enter Tryz.func12, Tryz.ntmps12
  go_wp2_with ((with_reducible refine wpList_load_field ?_ _ (.tmp 16) ?_ w.heap.size 0 ?_ 37 (opArr o) E1.out.blk (.int .i64 k) ?_ one_int ?_); rotate_left; exact rfl; exact rfl; exact HK.out; rotate_left; exact rfl)
  all_goals go_ret
  all_goals exact ⟨rfl, E1.out.below⟩
/-- **answered: every call's answer is the document's.** -/
theorem answered_any (o : OpV) (O : OpD) (w : World) (ht : Tables w) (hl : LandsAt w) (hrt : RefTabs w) (ho : OpRd w o O) (fs : SagaFits O.s) (fr : RecFits O.r) (hf : RefSaga O.s) (fx : RefFits O.r) :
    Calls Tryz.prog 12 #[o.val] w fun e w' => e = .returned (.bool true) ∧ Below w.heap.size w w' := by
  by_cases h : o.k < 1 ∨ 8 < o.k
  · exact answered_no o O w ho h
  · have hc : o.k = 1 ∨ o.k = 2 ∨ o.k = 3 ∨ o.k = 4 ∨ o.k = 5 ∨ o.k = 6 ∨ o.k = 7 ∨ o.k = 8 := by omega
    rcases hc with h | h | h | h | h | h | h | h
    · exact answered_1 o O w ht hrt ho fr fx h
    · exact answered_2 o O w ht hl hrt ho fs fr hf fx h
    · exact answered_3 o O w ht hrt ho fs hf h
    · exact answered_4 o O w ht hrt ho fs hf h
    · exact answered_5 o O w ht hrt ho fs hf h
    · exact answered_6 o O w ht hrt ho fs hf h
    · exact answered_7 o O w ht hrt ho fs hf h
    · exact answered_8 o O w ho hf h
end Go.Proofs.YteaiadpigpehaaaGreatDoor
