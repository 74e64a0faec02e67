/-
  annalslaw10.SagaLifted walked: it answers true, of any saga and any record. Conditions: the tables, as laid. (Printed by wip/gen_lifted.py.)
-/
import Derived.Test.YteaiadpigpehaaaDoorStarted
import Derived.Test.YteaiadpigpehaaaDoorUpLaw
import Derived.Test.YteaiadpigpehaaaDoorWholeLaw
namespace Go.Proofs.YteaiadpigpehaaaDoor
open Go.RowKit
namespace sagaLifted

/-- The boxes of what was handed in. -/
structure LiEnv (w wr : World) (s : SagaV) (r : RecV) : Prop where
  ks : BlkAt wr w.heap.size (sagaArr s) 25
  kr : BlkAt wr (w.heap.size + 1) (recArr r) 27
  below : Below w.heap.size w wr
theorem LiEnv.bl {w wr w' : World} {s : SagaV} {r : RecV} (h : LiEnv w wr s r) (hb : Below wr.heap.size wr w') : LiEnv w w' s r := ⟨h.ks.below hb (blk_lt h.ks), h.kr.below hb (blk_lt h.kr), then_ h.below hb⟩
/-- The lifted record, in its box. -/
structure LiRec (wr : World) (g : Nat) (q : RecV) (X : RecD) : Prop where
  blk : BlkAt wr g (recArr q) 27
  rd : RecRd wr q X
theorem LiRec.bl {wr w' : World} {g : Nat} {q : RecV} {X : RecD} (h : LiRec wr g q X) (hb : Below wr.heap.size wr w') : LiRec w' g q X := ⟨h.blk.below hb (blk_lt h.blk), h.rd.below hb⟩
theorem up3_len {R : RecD} (h : RecFits R) : (up3 R).data.length ≤ 4611686018427387904 := by
  have h2 := h.len
  unfold up3
  (repeat' split) <;> simp <;> omega
set_option maxRecDepth 10000000 in
set_option maxHeartbeats 8000000 in
theorem walk (s : SagaV) (D : SagaD) (r : RecV) (R : RecD) (w : World) (ht : Tables w) (hl : LandsAt w) (hrt : RefTabs w) (hs : SagaRd w s D) (hr : RecRd w r R) (fs : SagaFits D) (fr : RecFits R) :
    Calls Tryd.prog 3 #[s.val, r.val] w fun e w' => e = .returned (.bool true) ∧ Below w.heap.size w w' := by
  have KK : LiEnv w ((w.alloc (.cells (sagaArr s) 25)).alloc (.cells (recArr r) 27)) s r := by
    refine ⟨(BlkAt.new w (sagaArr s) _).push _, ?_, boxd (boxd (Below.refl _ _))⟩
    have := BlkAt.new (w.alloc (.cells (sagaArr s) 25)) (recArr r) 27
    rw [World.size_alloc] at this
    exact this
  obtain ⟨w1, hw1⟩ : ∃ q, (w.alloc (.cells (sagaArr s) 25)).alloc (.cells (recArr r) 27) = q := ⟨_, rfl⟩
  rw [hw1] at KK
  dsimp only [recArr, sagaArr, Sl.v] at hw1
  have HW1 := Lib.hid hw1
  have E1 := Lib.hid KK
  have HT := Lib.hid ht
  have HL := Lib.hid hl
  have HS := Lib.hid hs
  have HR := Lib.hid hr
  have CST := Lib.hid (started_any w1 (ht.below E1.out.below) (hl.below E1.out.below) (hrt.below E1.out.below))
  clear hw1 KK ht hl hs hr hrt
  dsimp only [RecV.val, SagaV.val, Sl.v]
  go_enter Tryd.func3, Tryd.ntmps3
  go_upto_region 1 with fail
  rw [HW1.out]
  clear HW1
  go_wp2_with fail
  refine CST.out.mono ?_
  clear CST
  rintro e w2 ⟨rfl, hb⟩
  have E2 := Lib.hid (E1.out.bl hb)
  clear hb E1
  by_cases h0 : recD R = 0
  · have cU := up_rd r R w2 (HT.out.below E2.out.below) (BeginPre (HR.out.below E2.out.below) fr) HR.out.eq HR.out.recEq h0
    have CU := Lib.hid cU
    have hlf := lifted (D := D) h0
    have HLF := Lib.hid hlf
    have fx : RecFits (up3 R) := ⟨up3_name_le fr, up3_len fr⟩
    have hul : (up3 R).data.length ≤ 1073741824 := by have := (recGood h0).data; omega
    obtain ⟨U, hU⟩ : ∃ q, up3 R = q := ⟨_, rfl⟩
    rw [hU] at CU fx hul
    have HU := Lib.hid hU
    obtain ⟨N, hN⟩ : ∃ q, applyN D R = q := ⟨_, rfl⟩
    obtain ⟨M, hM⟩ : ∃ q, beginN R = q := ⟨_, rfl⟩
    have HN := Lib.hid hN
    have HM := Lib.hid hM
    clear cU hlf hU hN hM
    go_wp2_with (refine wpList_load_blk rfl _ _ rfl _ rfl _ _ E2.out.kr rowRec ?_)
    refine CU.out.mono ?_
    clear CU
    rintro e w3 ⟨t, rfl, ho, hb⟩
    obtain ⟨wb0, hwB⟩ : ∃ q, w3.alloc (.cells (recArr (U.words t)) 27) = q := ⟨_, rfl⟩
    have hbB : Below w3.heap.size w3 wb0 := by rw [← hwB]; exact boxd (Below.refl _ _)
    have hbT := then_ hb hbB
    have Q0 := Lib.hid (show LiRec wb0 w3.heap.size (U.words t) U from ⟨by rw [← hwB]; exact BlkAt.new _ _ _, ⟨rfl, (ho.through hbB).bytes (by omega)⟩⟩)
    have E0 := Lib.hid (E2.out.bl hbT)
    dsimp only [RecD.words, recArr, Sl.v] at hwB
    have HWB := Lib.hid hwB
    clear hwB hbB hb ho hbT E2
    dsimp only [RecD.words, RecV.val, Sl.v]
    go_upto_region 3 with fail
    rw [HWB.out]
    clear HWB
    have c1 := apply_any s D r R wb0 (HT.out.below E0.out.below) (HL.out.below E0.out.below) (HS.out.below E0.out.below) (HR.out.below E0.out.below) fs fr
    rw [HN.out] at c1
    have C1 := Lib.hid c1
    clear c1
    go_wp2_with (first
      | (go_at_call 14; (with_reducible refine (num_keep2 _ _).mono ?_); rintro e w9 ⟨rfl, rfl⟩)
      | (refine wpList_load_blk rfl _ _ rfl _ rfl _ _ E0.out.ks rowSaga ?_)
      | (refine wpList_load_blk rfl _ _ rfl _ rfl _ _ E0.out.kr rowRec ?_))
    refine (C1.out).mono ?_
    rintro e wa1 ⟨s1, rfl, ho, hb⟩
    obtain ⟨wb1, hwB⟩ : ∃ q, wa1.alloc (.cells (sagaArr s1) 25) = q := ⟨_, rfl⟩
    have hbB : Below wa1.heap.size wa1 wb1 := by rw [← hwB]; exact boxd (Below.refl _ _)
    have hbT := then_ hb hbB
    have A1 := Lib.hid (show Ans wb1 wa1.heap.size s1 (applyD D R) from ⟨by rw [← hwB]; exact BlkAt.new _ _ _, (ho.rd (applyD_small D R)).below hbB⟩)
    have E1 := Lib.hid (E0.out.bl hbT)
    have Q1 := Lib.hid (Q0.out.bl hbT)
    dsimp only [sagaArr, Sl.v] at hwB
    have HWB := Lib.hid hwB
    clear hwB hbB hb ho hbT
    dsimp only [SagaV.val, Sl.v]
    go_upto_region 7 with fail
    rw [HWB.out]
    clear HWB
    have c2 := apply_any s D (U.words t) U wb1 (HT.out.below E1.out.below) (HL.out.below E1.out.below) (HS.out.below E1.out.below) Q1.out.rd fs fx
    rw [← HU.out, HLF.out.n, HLF.out.to, HN.out] at c2
    rw [HU.out] at c2
    have C2 := Lib.hid c2
    clear c2
    go_wp2_with (first
      | (refine wpList_load_blk rfl _ _ rfl _ rfl _ _ E1.out.ks rowSaga ?_)
      | (refine wpList_load_blk rfl _ _ rfl _ rfl _ _ Q1.out.blk rowRec ?_))
    refine (C2.out).mono ?_
    rintro e wa2 ⟨s2, rfl, ho, hb⟩
    obtain ⟨wb2, hwB⟩ : ∃ q, wa2.alloc (.cells (sagaArr s2) 25) = q := ⟨_, rfl⟩
    have hbB : Below wa2.heap.size wa2 wb2 := by rw [← hwB]; exact boxd (Below.refl _ _)
    have hbT := then_ hb hbB
    have A2 := Lib.hid (show Ans wb2 wa2.heap.size s2 (applyD D R) from ⟨by rw [← hwB]; exact BlkAt.new _ _ _, (ho.rd (applyD_small D R)).below hbB⟩)
    have E2 := Lib.hid (E1.out.bl hbT)
    have Q2 := Lib.hid (Q1.out.bl hbT)
    have A1_2 := Lib.hid (A1.out.bl hbT)
    dsimp only [sagaArr, Sl.v] at hwB
    have HWB := Lib.hid hwB
    clear hwB hbB hb ho hbT
    dsimp only [SagaV.val, Sl.v]
    go_upto_region 8 with fail
    rw [HWB.out]
    clear HWB
    have c3 := begin_any r R wb2 (HT.out.below E2.out.below) (HR.out.below E2.out.below) fr
    rw [HM.out] at c3
    have C3 := Lib.hid c3
    clear c3
    go_wp2_with (first
      | (refine wpList_load_blk rfl _ _ rfl _ rfl _ _ E2.out.kr rowRec ?_))
    refine (C3.out).mono ?_
    rintro e wa3 ⟨s3, rfl, ho, hb⟩
    obtain ⟨wb3, hwB⟩ : ∃ q, wa3.alloc (.cells (sagaArr s3) 25) = q := ⟨_, rfl⟩
    have hbB : Below wa3.heap.size wa3 wb3 := by rw [← hwB]; exact boxd (Below.refl _ _)
    have hbT := then_ hb hbB
    have A3 := Lib.hid (show Ans wb3 wa3.heap.size s3 (beginD R) from ⟨by rw [← hwB]; exact BlkAt.new _ _ _, (ho.rd (beginD_small R)).below hbB⟩)
    have E3 := Lib.hid (E2.out.bl hbT)
    have Q3 := Lib.hid (Q2.out.bl hbT)
    have A1_3 := Lib.hid (A1_2.out.bl hbT)
    have A2_3 := Lib.hid (A2.out.bl hbT)
    dsimp only [sagaArr, Sl.v] at hwB
    have HWB := Lib.hid hwB
    clear hwB hbB hb ho hbT
    dsimp only [SagaV.val, Sl.v]
    go_upto_region 9 with fail
    rw [HWB.out]
    clear HWB
    have c4 := begin_any (U.words t) U wb3 (HT.out.below E3.out.below) Q3.out.rd fx
    rw [← HU.out, HLF.out.bn, HLF.out.bto, HM.out] at c4
    rw [HU.out] at c4
    have C4 := Lib.hid c4
    clear c4
    go_wp2_with (first
      | (refine wpList_load_blk rfl _ _ rfl _ rfl _ _ Q3.out.blk rowRec ?_))
    refine (C4.out).mono ?_
    rintro e wa4 ⟨s4, rfl, ho, hb⟩
    obtain ⟨wb4, hwB⟩ : ∃ q, wa4.alloc (.cells (sagaArr s4) 25) = q := ⟨_, rfl⟩
    have hbB : Below wa4.heap.size wa4 wb4 := by rw [← hwB]; exact boxd (Below.refl _ _)
    have hbT := then_ hb hbB
    have A4 := Lib.hid (show Ans wb4 wa4.heap.size s4 (beginD R) from ⟨by rw [← hwB]; exact BlkAt.new _ _ _, (ho.rd (beginD_small R)).below hbB⟩)
    have E4 := Lib.hid (E3.out.bl hbT)
    have Q4 := Lib.hid (Q3.out.bl hbT)
    have A1_4 := Lib.hid (A1_3.out.bl hbT)
    have A2_4 := Lib.hid (A2_3.out.bl hbT)
    have A3_4 := Lib.hid (A3.out.bl hbT)
    dsimp only [sagaArr, Sl.v] at hwB
    have HWB := Lib.hid hwB
    clear hwB hbB hb ho hbT
    dsimp only [SagaV.val, Sl.v]
    go_upto_region 10 with fail
    rw [HWB.out]
    clear HWB
    have cM1 := fun W (h : Below wb4.heap.size wb4 W) => same_any s1 s2 (applyD D R) (applyD D R) W (A1_4.out.rd.below h) (A2_4.out.rd.below h)
    have cM2 := fun W (h : Below wb4.heap.size wb4 W) => same_any s3 s4 (beginD R) (beginD R) W (A3_4.out.rd.below h) (A4.out.rd.below h)
    rw [sameB_refl] at cM1 cM2
    have CM1 := Lib.hid cM1
    have CM2 := Lib.hid cM2
    clear cM1 cM2
    go_wp2_with (first
      | (go_at_call 14; (with_reducible refine (num_keep2 _ _).mono ?_); rintro e w9 ⟨rfl, rfl⟩)
      | ((with_reducible refine wpList_load_blk_g ?_ _ (.tmp 10) ?_ _ ?_ _ _ A1_4.out.blk rowSaga ?_); rotate_left; exact rfl; exact rfl; rotate_left; kernel_rfl)
      | ((with_reducible refine wpList_load_blk_g ?_ _ (.tmp 12) ?_ _ ?_ _ _ A2_4.out.blk rowSaga ?_); rotate_left; exact rfl; exact rfl; rotate_left; kernel_rfl)
      | ((with_reducible refine wpList_load_blk_g ?_ _ (.tmp 14) ?_ _ ?_ _ _ (A3_4.out.blk.below HB6.out (blk_lt A3_4.out.blk)) rowSaga ?_); rotate_left; exact rfl; exact rfl; rotate_left; kernel_rfl)
      | ((with_reducible refine wpList_load_blk_g ?_ _ (.tmp 16) ?_ _ ?_ _ _ (A4.out.blk.below HB6.out (blk_lt A4.out.blk)) rowSaga ?_); rotate_left; exact rfl; exact rfl; rotate_left; kernel_rfl)
      | (go_at_call 17; refine (CM2.out _ HB6.out).mono ?_; rintro e w7 ⟨rfl, hb⟩; have HB7 := Lib.hid (then_ HB6.out hb); clear hb)
      | (go_at_call 17; refine (CM1.out _ (Below.refl _ _)).mono ?_; rintro e w6 ⟨rfl, hb⟩; have HB6 := Lib.hid hb; clear hb))
    all_goals go_ret
    all_goals exact ⟨by simp, then_ E4.out.below HB7.out⟩
  · have cU := up_bad r R.data w2 (HT.out.below E2.out.below) (BeginPre (HR.out.below E2.out.below) fr) (by rw [HR.out.recEq]; exact h0)
    rw [HR.out.recEq] at cU
    have CU := Lib.hid cU
    have hB : beginN R = recD R := by unfold beginN; rw [if_pos h0]
    obtain ⟨N, hN⟩ : ∃ q, recD R = q := ⟨_, rfl⟩
    rw [hN] at CU hB h0
    have HBN := Lib.hid hB
    have h1 : (N != 0) = true := by rw [bne_iff_ne]; exact h0
    clear cU hB hN
    go_wp2_with (refine wpList_load_blk rfl _ _ rfl _ rfl _ _ E2.out.kr rowRec ?_)
    refine CU.out.mono ?_
    clear CU
    rintro e w3 ⟨rfl, hb⟩
    obtain ⟨wb0, hwB⟩ : ∃ q, w3.alloc (.cells (recArr zeroRecV) 27) = q := ⟨_, rfl⟩
    have hbB : Below w3.heap.size w3 wb0 := by rw [← hwB]; exact boxd (Below.refl _ _)
    have hbT := then_ hb hbB
    have E0 := Lib.hid (E2.out.bl hbT)
    dsimp only [zeroRecV, recArr, Sl.v] at hwB
    have HWB := Lib.hid hwB
    clear hwB hbB hb hbT E2
    dsimp only [zeroRecV, RecV.val, Sl.v]
    go_upto_region 3 with fail
    rw [HWB.out]
    clear HWB
    have cB := begin_any r R wb0 (HT.out.below E0.out.below) (HR.out.below E0.out.below) fr
    rw [HBN.out] at cB
    have CB := Lib.hid cB
    clear cB
    go_wp2_with (first
      | (go_at_call 14; (with_reducible refine (num_keep2 _ _).mono ?_); rintro e w9 ⟨rfl, rfl⟩)
      | (refine wpList_load_blk rfl _ _ rfl _ rfl _ _ E0.out.kr rowRec ?_))
    refine CB.out.mono ?_
    rintro e w4 ⟨s1, rfl, ho, hb⟩
    have HBE := Lib.hid (boxd (o := .cells (sagaArr s1) 25) (then_ E0.out.below hb))
    clear ho hb CB
    dsimp only [sagaArr, SagaV.val, Sl.v] at HBE ⊢
    go_wp2_with (go_at_call 14; (with_reducible refine (num_keep2 _ _).mono ?_); rintro e w9 ⟨rfl, rfl⟩)
    all_goals go_ret
    all_goals exact ⟨by simp, HBE.out⟩
end sagaLifted
end Go.Proofs.YteaiadpigpehaaaDoor
