/-
  annalsref4.second and Up walked, annalsref10.third: a valid record as one of version 3. Conditions: the tables that annalsref3.Check reads, as laid; texts of at most 2^40 bytes, data of at most 2^30. (Printed by wip/gen_refup.py.)
-/
import Derived.Test.YteaiadpigpehaaaGreatDoorRefCopy
namespace Go.Proofs.YteaiadpigpehaaaGreatDoor
open Go.RowKit

theorem BytesAt.kept_rows {w w' : World} {s : Sl} {d : List Int} (h : BytesAt w s d) (k : ∀ b o, s.a = some ⟨b, o, none⟩ → 0 < s.n → w'.heap[b]? = w.heap[b]?) : BytesAt w' s d := by
  refine ⟨h.1, h.2.1, fun h0 => ?_⟩
  obtain ⟨b, o, e, hc⟩ := h.2.2 h0
  refine ⟨b, o, e, fun i hi => ?_⟩
  rw [← hc i hi]
  simp only [World.cell?, k b o e h0]
/-- A record of version 1 as one of version 2. -/
def secD (R : RecD) : RecD :=
  if R.kind = 1 then { R with v := 2, name := strOfNums R.data, data := [], count := R.step, step := 0 }
  else if R.kind = 2 ∨ R.kind = 5 then { R with v := 2, try_ := 1 }
  else if R.kind = 4 then { R with v := 2, last := 1 } else { R with v := 2 }
theorem up3_sec {R : RecD} (h : R.v = 1) : up3 R = { secD R with v := 3 } := by
  unfold up3 secD
  rw [if_pos h]
  split
  · rfl
  · split
    · rfl
    · split <;> rfl

set_option maxRecDepth 1000000 in
set_option maxHeartbeats 2000000 in
theorem second_any (R : RecD) (rd : Sl) (w : World) (hd : BytesAt w rd R.data) (hdl : R.data.length ≤ 1073741824) :
    Calls Tryz.prog 89 #[(R.words rd).val] w fun e w' => ∃ s : Sl, e = .returned ((secD R).words s).val ∧ OwnBytes w' w.heap.size s.v (secD R).data ∧ Below w.heap.size w w' := by
  obtain ⟨v, kind, saga, step, try_, at_, last, code, count, pivot, name, data⟩ := R
  simp only at hd hdl
  obtain ⟨w1, hw1⟩ : ∃ q, (w.alloc (.cells (recArr (⟨v, kind, saga, step, try_, at_, last, code, count, pivot, name, rd⟩ : RecV)) 31)).alloc (.cells #[.int .i64 0, .int .i64 0, .int .i64 0, .int .i64 0, .int .i64 0, .int .i64 0, .int .i64 0, .int .i64 0, .int .i64 0, .int .i64 0, .string ⟨#[]⟩, .slice none 0 0] 31) = q := ⟨_, rfl⟩
  have hb1 : Below w.heap.size w w1 := by rw [← hw1]; exact boxd (boxd (Below.refl _ _))
  have KB : Hid (BlkAt w1 w.heap.size (recArr (⟨v, kind, saga, step, try_, at_, last, code, count, pivot, name, rd⟩ : RecV)) 31) := Lib.hid (by rw [← hw1]; exact (BlkAt.new _ _ _).push _)
  have KZ : Hid (BlkAt w1 (w.heap.size + 1) #[.int .i64 0, .int .i64 0, .int .i64 0, .int .i64 0, .int .i64 0, .int .i64 0, .int .i64 0, .int .i64 0, .int .i64 0, .int .i64 0, .string ⟨#[]⟩, .slice none 0 0] 31) := Lib.hid (by
    rw [← hw1]
    have := BlkAt.new (w.alloc (.cells (recArr (⟨v, kind, saga, step, try_, at_, last, code, count, pivot, name, rd⟩ : RecV)) 31)) #[.int .i64 0, .int .i64 0, .int .i64 0, .int .i64 0, .int .i64 0, .int .i64 0, .int .i64 0, .int .i64 0, .int .i64 0, .int .i64 0, .string ⟨#[]⟩, .slice none 0 0] 31
    rw [World.size_alloc] at this
    exact this)
  have HB := Lib.hid hb1
  have hs1 : w.heap.size + 2 ≤ w1.heap.size := by rw [← hw1]; simp
  have HD := Lib.hid (hd.below hb1)
  dsimp only [recArr, Sl.v] at hw1
  have HW1 := Lib.hid hw1
  clear hw1 hb1
  dsimp only [RecD.words, RecV.val, Sl.v]
  go_enter Tryz.func89, Tryz.ntmps89
  go_upto_region 1 with fail
  rw [HW1.out]
  clear HW1
  go_wp2_with (refine wpList_load_blk rfl _ _ rfl _ rfl _ _ KB.out rowRec ?_)
  refine (ref3Clone_any (⟨v, kind, saga, step, try_, at_, last, code, count, pivot, name, rd⟩ : RecV) data _ HD.out hdl).mono ?_
  rintro e w2 ⟨s, rfl, ho, hb⟩
  obtain ⟨w3, hw3⟩ : ∃ q, w2.alloc (.cells (recArr (⟨v, kind, saga, step, try_, at_, last, code, count, pivot, name, s⟩ : RecV)) 31) = q := ⟨_, rfl⟩
  have hb3 : Below w2.heap.size w2 w3 := by rw [← hw3]; exact boxd (Below.refl _ _)
  have hs2 : w.heap.size + 2 ≤ w2.heap.size := by have := hb.size; omega
  have KB := Lib.hid ((KB.out.below hb (by omega)).below hb3 (by omega))
  have KZ := Lib.hid ((KZ.out.below hb (by omega)).below hb3 (by omega))
  have KQ : Hid (BlkAt w3 w2.heap.size (recArr (⟨v, kind, saga, step, try_, at_, last, code, count, pivot, name, s⟩ : RecV)) 31) := Lib.hid (by rw [← hw3]; exact BlkAt.new _ _ _)
  have HB := Lib.hid (then_ (then_ HB.out hb) hb3)
  have HO := Lib.hid ((ho.through hb3).lower (b := w1.heap.size) (base := w.heap.size + 2) hs1)
  have HD := Lib.hid ((HD.out.below hb).below hb3)
  dsimp only [recArr, Sl.v] at hw3
  have HW3 := Lib.hid hw3
  clear hw3 hb3 hb ho
  dsimp only [RecV.val, Sl.v]
  go_upto_region 2 with fail
  rw [HW3.out]
  clear HW3
  have hcase : kind = 1 ∨ kind = 2 ∨ kind = 5 ∨ kind = 4 ∨ (¬ kind = 1 ∧ ¬ kind = 2 ∧ ¬ kind = 5 ∧ ¬ kind = 4) := by omega
  rcases hcase with rfl | rfl | rfl | rfl | ⟨n1, n2, n5, n4⟩
  · as_aux_lemma =>
    have hcvx : ∀ W, BytesAt W rd data → (convert 26 9 rd.v).run Tryz.prog W = .ok (.string (strOfNums data)) W := fun W h => bytes_string (P := Tryz.prog) (dst := 9) h Tryz.underlying26 Tryz.underlying5 Tryz.underlying9
    have HCV := Lib.hid hcvx
    clear hcvx
    have hDlt : ∀ k o, rd.a = some ⟨k, o, none⟩ → 0 < rd.n → k < w.heap.size := fun k o e h0 => by
      obtain ⟨b, o', e', hc⟩ := hd.2.2 h0
      rw [e] at e'
      have h1 : k = b := by cases e'; rfl
      subst h1
      have hl := hd.len
      have := hc 0 h0
      have h2 : o' = o := by cases e'; rfl
      subst h2
      rw [List.getElem?_eq_getElem (by simp [byteCells]; omega)] at this
      exact World.block_lt_of_cell? w _ this
    have HDL := Lib.hid hDlt
    clear hDlt
    go_upto_region 6 with (first
      | (refine wpList_store_one rfl _ _ _ rfl _ _ rfl (_) rfl _ _ KQ.out (by simp [recArr]) rfl size_int ?_; intro wS hw K; have KB := Lib.hid (hw.blk KB.out (by omega)); have KZ := Lib.hid (hw.blk KZ.out (by omega)); have HB := Lib.hid (hw.below HB.out (by omega)); have HO := Lib.hid (HO.out.keep (hw.rows KQ.out (by decide) (by decide))); have HD := Lib.hid (BytesAt.kept_rows HD.out (fun b o e h0 => hw.other b (by have := HDL.out b o e h0; omega))); clear KQ; have KQ := Lib.hid K; clear hw K)
      | (refine wpList_load_field rfl _ _ rfl _ 1 rfl _ _ KB.out (.int .i64 1) rfl one_int ?_)
      | (refine wpList_load_field rfl _ _ rfl _ 3 rfl _ _ KB.out (.int .i64 step) rfl one_int ?_))
    have hcv := HCV.out _ HD.out
    dsimp only [Sl.v] at hcv
    go_wp2_with (first
      | (refine wpList_store_one rfl _ _ _ rfl _ _ rfl (_) rfl _ _ KQ.out (by simp [recArr]) rfl size_int ?_; intro wS hw K; have KB := Lib.hid (hw.blk KB.out (by omega)); have KZ := Lib.hid (hw.blk KZ.out (by omega)); have HB := Lib.hid (hw.below HB.out (by omega)); have HO := Lib.hid (HO.out.keep (hw.rows KQ.out (by decide) (by decide))); clear KQ; have KQ := Lib.hid K; clear hw K)
      | (refine wpList_store_one rfl _ _ _ rfl _ _ rfl (_) rfl _ _ KQ.out (by simp [recArr]) rfl size_str ?_; intro wS hw K; have KB := Lib.hid (hw.blk KB.out (by omega)); have KZ := Lib.hid (hw.blk KZ.out (by omega)); have HB := Lib.hid (hw.below HB.out (by omega)); have HO := Lib.hid (HO.out.keep (hw.rows KQ.out (by decide) (by decide))); clear KQ; have KQ := Lib.hid K; clear hw K)
      | (refine wpList_store_one rfl _ _ _ rfl _ _ rfl (_) rfl _ _ KQ.out (by simp [recArr]) rfl size_bytes ?_; intro wS hw K; have KB := Lib.hid (hw.blk KB.out (by omega)); have KZ := Lib.hid (hw.blk KZ.out (by omega)); have HB := Lib.hid (hw.below HB.out (by omega)); have HO := Lib.hid (HO.out.keep (hw.rows KQ.out (by decide) (by decide))); clear KQ; have KQ := Lib.hid K; clear hw K)
      | (refine wpList_load_field rfl _ _ rfl _ 11 rfl _ _ KB.out (.slice rd.a rd.n rd.c) rfl one_bytes ?_)
      | (refine wpList_load_blk rfl _ _ rfl _ rfl _ _ KQ.out rowRec ?_)
      | (refine wpList_store_blk rfl _ _ _ rfl _ rfl (recArr ((secD ⟨v, 1, saga, step, try_, at_, last, code, count, pivot, name, data⟩).words nilSl)) rfl _ _ KZ.out (by rfl) (by simp [recArr, Value.oneCell']) rowRec ?_; intro w9 hw9 K9; have KE := Lib.hid K9; have HE := Lib.hid (hw9.below HB.out (by omega)); have HF := Lib.hid (HO.out.keep (hw9.rows KZ.out (by decide) (by decide))); clear hw9 K9))
    exact bodyPost_ret (results_row rfl _ _ _ _ _ rfl KE.out rowRec) rfl ⟨nilSl, rfl, World.ownsRow_nil _ _ _ _, HE.out⟩
  · as_aux_lemma =>
    go_wp2_with (first
      | (refine wpList_store_one rfl _ _ _ rfl _ _ rfl (_) rfl _ _ KQ.out (by simp [recArr]) rfl size_int ?_; intro wS hw K; have KB := Lib.hid (hw.blk KB.out (by omega)); have KZ := Lib.hid (hw.blk KZ.out (by omega)); have HB := Lib.hid (hw.below HB.out (by omega)); have HO := Lib.hid (HO.out.keep (hw.rows KQ.out (by decide) (by decide))); clear KQ; have KQ := Lib.hid K; clear hw K)
      | (refine wpList_load_field rfl _ _ rfl _ 1 rfl _ _ KB.out (.int .i64 2) rfl one_int ?_)
      | (refine wpList_load_blk rfl _ _ rfl _ rfl _ _ KQ.out rowRec ?_)
      | (refine wpList_store_blk rfl _ _ _ rfl _ rfl (recArr ((secD ⟨v, 2, saga, step, try_, at_, last, code, count, pivot, name, data⟩).words s)) rfl _ _ KZ.out (by rfl) (by simp [recArr, Value.oneCell']) rowRec ?_; intro w9 hw9 K9; have KE := Lib.hid K9; have HE := Lib.hid (hw9.below HB.out (by omega)); have HF := Lib.hid (HO.out.keep (hw9.rows KZ.out (by decide) (by decide))); clear hw9 K9))
    exact bodyPost_ret (results_row rfl _ _ _ _ _ rfl KE.out rowRec) rfl ⟨s, rfl, HF.out.lower (by omega), HE.out⟩
  · as_aux_lemma =>
    go_wp2_with (first
      | (refine wpList_store_one rfl _ _ _ rfl _ _ rfl (_) rfl _ _ KQ.out (by simp [recArr]) rfl size_int ?_; intro wS hw K; have KB := Lib.hid (hw.blk KB.out (by omega)); have KZ := Lib.hid (hw.blk KZ.out (by omega)); have HB := Lib.hid (hw.below HB.out (by omega)); have HO := Lib.hid (HO.out.keep (hw.rows KQ.out (by decide) (by decide))); clear KQ; have KQ := Lib.hid K; clear hw K)
      | (refine wpList_load_field rfl _ _ rfl _ 1 rfl _ _ KB.out (.int .i64 5) rfl one_int ?_)
      | (refine wpList_load_blk rfl _ _ rfl _ rfl _ _ KQ.out rowRec ?_)
      | (refine wpList_store_blk rfl _ _ _ rfl _ rfl (recArr ((secD ⟨v, 5, saga, step, try_, at_, last, code, count, pivot, name, data⟩).words s)) rfl _ _ KZ.out (by rfl) (by simp [recArr, Value.oneCell']) rowRec ?_; intro w9 hw9 K9; have KE := Lib.hid K9; have HE := Lib.hid (hw9.below HB.out (by omega)); have HF := Lib.hid (HO.out.keep (hw9.rows KZ.out (by decide) (by decide))); clear hw9 K9))
    exact bodyPost_ret (results_row rfl _ _ _ _ _ rfl KE.out rowRec) rfl ⟨s, rfl, HF.out.lower (by omega), HE.out⟩
  · as_aux_lemma =>
    go_wp2_with (first
      | (refine wpList_store_one rfl _ _ _ rfl _ _ rfl (_) rfl _ _ KQ.out (by simp [recArr]) rfl size_int ?_; intro wS hw K; have KB := Lib.hid (hw.blk KB.out (by omega)); have KZ := Lib.hid (hw.blk KZ.out (by omega)); have HB := Lib.hid (hw.below HB.out (by omega)); have HO := Lib.hid (HO.out.keep (hw.rows KQ.out (by decide) (by decide))); clear KQ; have KQ := Lib.hid K; clear hw K)
      | (refine wpList_load_field rfl _ _ rfl _ 1 rfl _ _ KB.out (.int .i64 4) rfl one_int ?_)
      | (refine wpList_load_blk rfl _ _ rfl _ rfl _ _ KQ.out rowRec ?_)
      | (refine wpList_store_blk rfl _ _ _ rfl _ rfl (recArr ((secD ⟨v, 4, saga, step, try_, at_, last, code, count, pivot, name, data⟩).words s)) rfl _ _ KZ.out (by rfl) (by simp [recArr, Value.oneCell']) rowRec ?_; intro w9 hw9 K9; have KE := Lib.hid K9; have HE := Lib.hid (hw9.below HB.out (by omega)); have HF := Lib.hid (HO.out.keep (hw9.rows KZ.out (by decide) (by decide))); clear hw9 K9))
    exact bodyPost_ret (results_row rfl _ _ _ _ _ rfl KE.out rowRec) rfl ⟨s, rfl, HF.out.lower (by omega), HE.out⟩
  · as_aux_lemma =>
    have k1' : (kind == 1) = false := by rw [beq_eq_false_iff_ne]; exact n1
    have k2' : (kind == 2) = false := by rw [beq_eq_false_iff_ne]; exact n2
    have k5' : (kind == 5) = false := by rw [beq_eq_false_iff_ne]; exact n5
    have k4' : (kind == 4) = false := by rw [beq_eq_false_iff_ne]; exact n4
    have es : secD ⟨v, kind, saga, step, try_, at_, last, code, count, pivot, name, data⟩ = ⟨2, kind, saga, step, try_, at_, last, code, count, pivot, name, data⟩ := by
      unfold secD; simp only; rw [if_neg n1, if_neg (by omega), if_neg n4]

    clear n1 n2 n5 n4
    go_wp2_with (first
      | (refine wpList_store_one rfl _ _ _ rfl _ _ rfl (_) rfl _ _ KQ.out (by simp [recArr]) rfl size_int ?_; intro wS hw K; have KB := Lib.hid (hw.blk KB.out (by omega)); have KZ := Lib.hid (hw.blk KZ.out (by omega)); have HB := Lib.hid (hw.below HB.out (by omega)); have HO := Lib.hid (HO.out.keep (hw.rows KQ.out (by decide) (by decide))); clear KQ; have KQ := Lib.hid K; clear hw K)
      | (refine wpList_load_field rfl _ _ rfl _ 1 rfl _ _ KB.out (.int .i64 kind) rfl one_int ?_)
      | (refine wpList_load_blk rfl _ _ rfl _ rfl _ _ KQ.out rowRec ?_)
      | (refine wpList_store_blk rfl _ _ _ rfl _ rfl (recArr ((⟨2, kind, saga, step, try_, at_, last, code, count, pivot, name, data⟩ : RecD).words s)) rfl _ _ KZ.out (by rfl) (by simp [recArr, Value.oneCell']) rowRec ?_; intro w9 hw9 K9; have KE := Lib.hid K9; have HE := Lib.hid (hw9.below HB.out (by omega)); have HF := Lib.hid (HO.out.keep (hw9.rows KZ.out (by decide) (by decide))); clear hw9 K9))
    exact bodyPost_ret (results_row rfl _ _ _ _ _ rfl KE.out rowRec) rfl ⟨s, (by rw [es]; rfl), (by rw [es]; exact HF.out.lower (by omega)), HE.out⟩
end Go.Proofs.YteaiadpigpehaaaGreatDoor
