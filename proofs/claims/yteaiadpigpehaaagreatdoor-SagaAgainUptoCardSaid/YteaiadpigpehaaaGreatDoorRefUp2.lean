/-
  annalsref4.Up walked to version 3 and annalsref10.third: a valid record as one of version 3. Conditions: the tables that annalsref3.Check reads, as laid; a name of at most 2^40 bytes. (Printed by wip/gen_refup2.py.)
-/
import Derived.Test.YteaiadpigpehaaaGreatDoorRefUp
namespace Go.Proofs.YteaiadpigpehaaaGreatDoor
open Go.RowKit

theorem up3_else {R : RecD} (h : ¬ R.v = 1) : up3 R = { R with v := 3 } := by
  unfold up3
  rw [if_neg h]
set_option maxRecDepth 1000000 in
set_option maxHeartbeats 2000000 in
theorem refUp_good (R : RecD) (rd : Sl) (w : World) (ht : RefTabs w) (hn : R.name.size ≤ 1099511627776) (hr : RecRd w (R.words rd) R) (hg : recD R = 0) :
    Calls Tryz.prog 63 #[(R.words rd).val, .int .i64 3] w fun e w' => ∃ s : Sl, e = .returned (.tuple #[((up3 R).words s).val, .int .i64 0]) ∧ OwnBytes w' w.heap.size s.v (up3 R).data ∧ Below w.heap.size w w' := by
  have hN := hr.recEq
  rw [hg] at hN
  have h0 := recN_0 hN
  have hd := hr.data
  have hdl : R.data.length ≤ 1073741824 := by have := recN_len hN; have := hd.len; omega
  clear hr hg
  obtain ⟨v, kind, saga, step, try_, at_, last, code, count, pivot, name, data⟩ := R
  simp only at hd hdl hn hN h0
  have h1 : 1 ≤ v := h0.1
  have h3 : ¬ (3 : Int) < v := by have := h0.2.1; omega
  clear h0
  obtain ⟨w1, hw1⟩ : ∃ q, (w.alloc (.cells (recArr (⟨v, kind, saga, step, try_, at_, last, code, count, pivot, name, rd⟩ : RecV)) 31)).alloc (.cells #[.int .i64 0, .int .i64 0, .int .i64 0, .int .i64 0, .int .i64 0, .int .i64 0, .int .i64 0, .int .i64 0, .int .i64 0, .int .i64 0, .string ⟨#[]⟩, .slice none 0 0] 31) = q := ⟨_, rfl⟩
  have hb1 : Below w.heap.size w w1 := by rw [← hw1]; exact boxd (boxd (Below.refl _ _))
  have KB : Hid (BlkAt w1 w.heap.size (recArr (⟨v, kind, saga, step, try_, at_, last, code, count, pivot, name, rd⟩ : RecV)) 31) := Lib.hid (by rw [← hw1]; exact (BlkAt.new _ _ _).push _)
  have KZ : Hid (BlkAt w1 (w.heap.size + 1) #[.int .i64 0, .int .i64 0, .int .i64 0, .int .i64 0, .int .i64 0, .int .i64 0, .int .i64 0, .int .i64 0, .int .i64 0, .int .i64 0, .string ⟨#[]⟩, .slice none 0 0] 31) := Lib.hid (by
    rw [← hw1]
    have := BlkAt.new (w.alloc (.cells (recArr (⟨v, kind, saga, step, try_, at_, last, code, count, pivot, name, rd⟩ : RecV)) 31)) #[.int .i64 0, .int .i64 0, .int .i64 0, .int .i64 0, .int .i64 0, .int .i64 0, .int .i64 0, .int .i64 0, .int .i64 0, .int .i64 0, .string ⟨#[]⟩, .slice none 0 0] 31
    rw [World.size_alloc] at this
    exact this)
  have HB := Lib.hid hb1
  have hs1 : w.heap.size + 2 ≤ w1.heap.size := by rw [← hw1]; simp
  have HD := Lib.hid (hd.below hb1)
  dsimp only [recArr, Sl.v] at hw1
  have HW1 := Lib.hid hw1
  clear hw1 hb1
  dsimp only [RecD.words, RecV.val, Sl.v]
  generalize hU : up3 _ = U
  have HU := Lib.hid hU
  clear hU
  have HT := Lib.hid (ht.below (HB.out))
  have cC := Lib.hid (ref3Check_any (⟨v, kind, saga, step, try_, at_, last, code, count, pivot, name, rd⟩ : RecV) data w1 HT.out hn (by omega) HD.out)
  go_enter Tryz.func63, Tryz.ntmps63
  go_upto_region 1 with fail
  rw [HW1.out]
  clear HW1
  go_wp2_with (refine wpList_load_blk rfl _ _ rfl _ rfl _ _ KB.out rowRec ?_)
  refine cC.out.mono ?_
  clear cC
  rintro e wa ⟨rfl, hb⟩
  rw [show recN _ data = 0 from hN]
  have KB := Lib.hid (KB.out.below hb (by omega))
  have KZ := Lib.hid (KZ.out.below hb (by omega))
  have HD := Lib.hid (HD.out.below hb)
  have hsa : w.heap.size + 2 ≤ wa.heap.size := by have := hb.size; omega
  have HB := Lib.hid (then_ HB.out hb)
  clear hb HT ht hN hs1
  go_upto_region 8 with (refine wpList_load_field rfl _ _ rfl _ 0 rfl _ _ KB.out (.int .i64 v) rfl one_int ?_)
  go_wp2_with (refine wpList_load_blk rfl _ _ rfl _ rfl _ _ KB.out rowRec ?_)
  refine (ref3Clone_any (⟨v, kind, saga, step, try_, at_, last, code, count, pivot, name, rd⟩ : RecV) data _ HD.out hdl).mono ?_
  rintro e w2 ⟨s, rfl, ho, hb⟩
  obtain ⟨w3, hw3⟩ : ∃ q, w2.alloc (.cells (recArr (⟨v, kind, saga, step, try_, at_, last, code, count, pivot, name, s⟩ : RecV)) 31) = q := ⟨_, rfl⟩
  have hb3 : Below w2.heap.size w2 w3 := by rw [← hw3]; exact boxd (Below.refl _ _)
  have hs2 : w.heap.size + 2 ≤ w2.heap.size := by have := hb.size; omega
  have hs3 : w2.heap.size + 1 ≤ w3.heap.size := by rw [← hw3]; simp
  have KB := Lib.hid ((KB.out.below hb (by omega)).below hb3 (by omega))
  have KZ := Lib.hid ((KZ.out.below hb (by omega)).below hb3 (by omega))
  have KQ : Hid (BlkAt w3 w2.heap.size (recArr (⟨v, kind, saga, step, try_, at_, last, code, count, pivot, name, s⟩ : RecV)) 31) := Lib.hid (by rw [← hw3]; exact BlkAt.new _ _ _)
  have HB := Lib.hid (then_ (then_ HB.out hb) hb3)
  have HO := Lib.hid ((ho.through hb3).lower (b := wa.heap.size) (base := w.heap.size + 2) hsa)
  dsimp only [recArr, Sl.v] at hw3
  have HW3 := Lib.hid hw3
  clear hw3 hb3 hb ho
  dsimp only [RecV.val, Sl.v]
  go_upto_region 9 with fail
  rw [HW3.out]
  clear HW3
  by_cases hv : v = 1
  · subst hv
    as_aux_lemma =>
      have HV := Lib.hid (HU.out.symm.trans (up3_sec rfl))
      go_upto_region 10 with (refine wpList_load_field rfl _ _ rfl _ 0 rfl _ _ KQ.out (.int .i64 1) rfl one_int ?_)
      go_wp2_with (refine wpList_load_blk rfl _ _ rfl _ rfl _ _ KQ.out rowRec ?_)
      have HR : Hid (BytesAt w3 s data) := Lib.hid (HO.out.bytes (by omega))
      refine (second_any ⟨1, kind, saga, step, try_, at_, last, code, count, pivot, name, data⟩ s w3 HR.out hdl).mono ?_
      rintro e w4 ⟨s4, rfl, ho, hb⟩
      have KB := Lib.hid (KB.out.below hb (by omega))
      have KZ := Lib.hid (KZ.out.below hb (by omega))
      have KQ := Lib.hid (KQ.out.below hb (by omega))
      have HB := Lib.hid (then_ HB.out hb)
      have HO := Lib.hid (ho.lower (b := w3.heap.size) (base := w.heap.size + 2) (by omega))
      clear ho hb HR
      clear HU
      generalize hS : secD ⟨1, kind, saga, step, try_, at_, last, code, count, pivot, name, data⟩ = S at HO HV ⊢
      clear hS
      obtain ⟨v', kind', saga', step', try', at', last', code', count', pivot', name', data'⟩ := S
      dsimp only [RecD.words, RecV.val, Sl.v]
      go_wp2_with (first
        | (refine wpList_store_blk rfl _ _ _ rfl _ rfl (recArr ⟨v', kind', saga', step', try', at', last', code', count', pivot', name', s4⟩) rfl _ _ KQ.out (by rfl) (by simp [recArr, Value.oneCell']) rowRec ?_; intro wS hw K; have KB := Lib.hid (hw.blk KB.out (by omega)); have KZ := Lib.hid (hw.blk KZ.out (by omega)); have HB := Lib.hid (hw.below HB.out (by omega)); have HO := Lib.hid (HO.out.keep (hw.rows KQ.out (by decide) (by decide))); clear KQ; have KQ := Lib.hid K; clear hw K)
        | (refine wpList_store_one rfl _ _ _ rfl _ _ rfl (_) rfl _ _ KQ.out (by simp [recArr]) rfl size_int ?_; intro wS hw K; have KB := Lib.hid (hw.blk KB.out (by omega)); have KZ := Lib.hid (hw.blk KZ.out (by omega)); have HB := Lib.hid (hw.below HB.out (by omega)); have HO := Lib.hid (HO.out.keep (hw.rows KQ.out (by decide) (by decide))); clear KQ; have KQ := Lib.hid K; clear hw K)
        | (refine wpList_load_blk rfl _ _ rfl _ rfl _ _ KQ.out rowRec ?_)
        | (refine wpList_store_blk rfl _ _ _ rfl _ rfl (recArr ⟨3, kind', saga', step', try', at', last', code', count', pivot', name', s4⟩) rfl _ _ KZ.out (by rfl) (by simp [recArr, Value.oneCell']) rowRec ?_; intro w9 hw9 K9; have KE := Lib.hid K9; have HE := Lib.hid (hw9.below HB.out (by omega)); have HF := Lib.hid (HO.out.keep (hw9.rows KZ.out (by decide) (by decide))); clear hw9 K9))
      exact bodyPost_ret (results_row2 rfl _ _ _ _ _ rfl KE.out rowRec) rfl ⟨s4, by rw [HV.out]; rfl, by rw [HV.out]; exact HF.out.lower (by omega), HE.out⟩
  · have hv' : (v == 1) = false := by rw [beq_eq_false_iff_ne]; exact hv
    as_aux_lemma =>
      have HV := Lib.hid (HU.out.symm.trans (up3_else hv))
      clear hv
      go_wp2_with (first
        | (refine wpList_load_field rfl _ _ rfl _ 0 rfl _ _ KQ.out (.int .i64 v) rfl one_int ?_)
        | (refine wpList_store_one rfl _ _ _ rfl _ _ rfl (_) rfl _ _ KQ.out (by simp [recArr]) rfl size_int ?_; intro wS hw K; have KB := Lib.hid (hw.blk KB.out (by omega)); have KZ := Lib.hid (hw.blk KZ.out (by omega)); have HB := Lib.hid (hw.below HB.out (by omega)); have HO := Lib.hid (HO.out.keep (hw.rows KQ.out (by decide) (by decide))); clear KQ; have KQ := Lib.hid K; clear hw K)
        | (refine wpList_load_blk rfl _ _ rfl _ rfl _ _ KQ.out rowRec ?_)
        | (refine wpList_store_blk rfl _ _ _ rfl _ rfl (recArr ⟨3, kind, saga, step, try_, at_, last, code, count, pivot, name, s⟩) rfl _ _ KZ.out (by rfl) (by simp [recArr, Value.oneCell']) rowRec ?_; intro w9 hw9 K9; have KE := Lib.hid K9; have HE := Lib.hid (hw9.below HB.out (by omega)); have HF := Lib.hid (HO.out.keep (hw9.rows KZ.out (by decide) (by decide))); clear hw9 K9))
      exact bodyPost_ret (results_row2 rfl _ _ _ _ _ rfl KE.out rowRec) rfl ⟨s, by rw [HV.out]; rfl, by rw [HV.out]; exact HF.out.lower (by omega), HE.out⟩
end Go.Proofs.YteaiadpigpehaaaGreatDoor
