/-
  annalsref3.Same of two records that hold the same, walked: it answers true.
  What SagaTold's way needs beside the walks: a row of records of one's own is read; the story's records are small; the first saga's story.
  annalsref3.SameAll of two lists of records that hold the same, walked: it answers true.
  Conditions: as each theorem says. (Joined by wip/tools/pack.py.)
-/
import Derived.Test.YteaiadpigpehaaaGreatDoorPkReg
import Derived.Test.YteaiadpigpehaaaGreatDoorPkLaw
import Derived.Deep.DeepCutAuto
import Derived.Test.YteaiadpigpehaaaGreatDoorPkStory
import Derived.Test.YteaiadpigpehaaaGreatDoorPkRecs
import Derived.Maps.RangeWalk
import Derived.Deep.CutBlock
namespace Go.Proofs.YteaiadpigpehaaaGreatDoor
open Go.RowKit

def numV (r : RecV) (t : Int) : Int := if t = 1 then r.kind else if t = 2 then r.saga else if t = 3 then r.step else if t = 4 then r.try_ else if t = 5 then r.at_ else if t = 6 then r.last else if t = 7 then r.code else if t = 8 then r.count else r.pivot
theorem numV_words (R : RecD) (s u : Sl) (t : Int) : numV (R.words s) t = numV (R.words u) t := rfl
theorem rowTen : RowTy Tryz.prog 88 10 := RowTy.mk' Tryz.underlying88 rfl (by kernel_rfl)
set_option maxRecDepth 1000000 in
set_option maxHeartbeats 400000 in
theorem refNumber_1 (r : RecV) (w : World) :
    Calls Tryz.prog 34 #[r.val, .int .i64 1] w fun e w' => e = .returned (.int .i64 (numV r 1)) ∧ Below w.heap.size w w' := by
  dsimp only [RecV.val, Sl.v]
  go_enter Tryz.func34, Tryz.ntmps34
  go_wp2
  go_ret
  exact ⟨rfl, boxd (boxd (Below.refl _ _))⟩
set_option maxRecDepth 1000000 in
set_option maxHeartbeats 400000 in
theorem refNumber_2 (r : RecV) (w : World) :
    Calls Tryz.prog 34 #[r.val, .int .i64 2] w fun e w' => e = .returned (.int .i64 (numV r 2)) ∧ Below w.heap.size w w' := by
  dsimp only [RecV.val, Sl.v]
  go_enter Tryz.func34, Tryz.ntmps34
  go_wp2
  go_ret
  exact ⟨rfl, boxd (boxd (Below.refl _ _))⟩
set_option maxRecDepth 1000000 in
set_option maxHeartbeats 400000 in
theorem refNumber_3 (r : RecV) (w : World) :
    Calls Tryz.prog 34 #[r.val, .int .i64 3] w fun e w' => e = .returned (.int .i64 (numV r 3)) ∧ Below w.heap.size w w' := by
  dsimp only [RecV.val, Sl.v]
  go_enter Tryz.func34, Tryz.ntmps34
  go_wp2
  go_ret
  exact ⟨rfl, boxd (boxd (Below.refl _ _))⟩
set_option maxRecDepth 1000000 in
set_option maxHeartbeats 400000 in
theorem refNumber_4 (r : RecV) (w : World) :
    Calls Tryz.prog 34 #[r.val, .int .i64 4] w fun e w' => e = .returned (.int .i64 (numV r 4)) ∧ Below w.heap.size w w' := by
  dsimp only [RecV.val, Sl.v]
  go_enter Tryz.func34, Tryz.ntmps34
  go_wp2
  go_ret
  exact ⟨rfl, boxd (boxd (Below.refl _ _))⟩
set_option maxRecDepth 1000000 in
set_option maxHeartbeats 400000 in
theorem refNumber_5 (r : RecV) (w : World) :
    Calls Tryz.prog 34 #[r.val, .int .i64 5] w fun e w' => e = .returned (.int .i64 (numV r 5)) ∧ Below w.heap.size w w' := by
  dsimp only [RecV.val, Sl.v]
  go_enter Tryz.func34, Tryz.ntmps34
  go_wp2
  go_ret
  exact ⟨rfl, boxd (boxd (Below.refl _ _))⟩
set_option maxRecDepth 1000000 in
set_option maxHeartbeats 400000 in
theorem refNumber_6 (r : RecV) (w : World) :
    Calls Tryz.prog 34 #[r.val, .int .i64 6] w fun e w' => e = .returned (.int .i64 (numV r 6)) ∧ Below w.heap.size w w' := by
  dsimp only [RecV.val, Sl.v]
  go_enter Tryz.func34, Tryz.ntmps34
  go_wp2
  go_ret
  exact ⟨rfl, boxd (boxd (Below.refl _ _))⟩
set_option maxRecDepth 1000000 in
set_option maxHeartbeats 400000 in
theorem refNumber_7 (r : RecV) (w : World) :
    Calls Tryz.prog 34 #[r.val, .int .i64 7] w fun e w' => e = .returned (.int .i64 (numV r 7)) ∧ Below w.heap.size w w' := by
  dsimp only [RecV.val, Sl.v]
  go_enter Tryz.func34, Tryz.ntmps34
  go_wp2
  go_ret
  exact ⟨rfl, boxd (boxd (Below.refl _ _))⟩
set_option maxRecDepth 1000000 in
set_option maxHeartbeats 400000 in
theorem refNumber_8 (r : RecV) (w : World) :
    Calls Tryz.prog 34 #[r.val, .int .i64 8] w fun e w' => e = .returned (.int .i64 (numV r 8)) ∧ Below w.heap.size w w' := by
  dsimp only [RecV.val, Sl.v]
  go_enter Tryz.func34, Tryz.ntmps34
  go_wp2
  go_ret
  exact ⟨rfl, boxd (boxd (Below.refl _ _))⟩
set_option maxRecDepth 1000000 in
set_option maxHeartbeats 400000 in
theorem refNumber_9 (r : RecV) (w : World) :
    Calls Tryz.prog 34 #[r.val, .int .i64 9] w fun e w' => e = .returned (.int .i64 (numV r 9)) ∧ Below w.heap.size w w' := by
  dsimp only [RecV.val, Sl.v]
  go_enter Tryz.func34, Tryz.ntmps34
  go_wp2
  go_ret
  exact ⟨rfl, boxd (boxd (Below.refl _ _))⟩
theorem refNumber_any (r : RecV) (t : Int) (h1 : 1 ≤ t) (h9 : t ≤ 9) (w : World) :
    Calls Tryz.prog 34 #[r.val, .int .i64 t] w fun e w' => e = .returned (.int .i64 (numV r t)) ∧ Below w.heap.size w w' := by
  have hc : t = 1 ∨ t = 2 ∨ t = 3 ∨ t = 4 ∨ t = 5 ∨ t = 6 ∨ t = 7 ∨ t = 8 ∨ t = 9 := by omega
  rcases hc with rfl | rfl | rfl | rfl | rfl | rfl | rfl | rfl | rfl
  · exact refNumber_1 r w
  · exact refNumber_2 r w
  · exact refNumber_3 r w
  · exact refNumber_4 r w
  · exact refNumber_5 r w
  · exact refNumber_6 r w
  · exact refNumber_7 r w
  · exact refNumber_8 r w
  · exact refNumber_9 r w

/-- Two records' boxes. -/
structure Boxes2 (w wr : World) (g0 g1 : Nat) (a b : RecV) : Prop where
  b0 : BlkAt wr g0 (recArr a) 31
  b1 : BlkAt wr g1 (recArr b) 31
  below : Below w.heap.size w wr
theorem Boxes2.bl {w wr w' : World} {g0 g1 : Nat} {a b : RecV} (h : Boxes2 w wr g0 g1 a b) (hb : Below wr.heap.size wr w') : Boxes2 w w' g0 g1 a b := ⟨h.b0.below hb (blk_lt h.b0), h.b1.below hb (blk_lt h.b1), then_ h.below hb⟩
set_option maxRecDepth 1000000 in
set_option maxHeartbeats 2000000 in
theorem recSame_eq (a b : RecV) (R : RecD) (w : World) (ha : RecRd w a R) (hb : RecRd w b R) :
    Calls Tryz.prog 14 #[a.val, b.val] w fun e w' => e = .returned (.bool true) ∧ Below w.heap.size w w' := by
  have KK : Boxes2 w ((w.alloc (.cells (recArr a) 31)).alloc (.cells (recArr b) 31)) w.heap.size (w.heap.size + 1) a b := by
    refine ⟨(BlkAt.new w (recArr a) _).push _, ?_, boxd (boxd (Below.refl _ _))⟩
    have := BlkAt.new (w.alloc (.cells (recArr a) 31)) (recArr b) 31
    rw [World.size_alloc] at this
    exact this
  obtain ⟨w0, hw0⟩ : ∃ q, (w.alloc (.cells (recArr a) 31)).alloc (.cells (recArr b) 31) = q := ⟨_, rfl⟩
  rw [hw0] at KK
  dsimp only [recArr, Sl.v] at hw0
  have HW0 := Lib.hid hw0
  have TO := Lib.hid KK
  have e1 : a.v = R.v := by rw [ha.eq]
  have e2 : b.v = R.v := by rw [hb.eq]
  have e3 : a.name = R.name := by rw [ha.eq]
  have e4 : b.name = R.name := by rw [hb.eq]
  have f1 : (recArr a)[0]? = some (.int .i64 R.v) := by show some (Value.int .i64 a.v) = _; rw [e1]
  have f2 : (recArr b)[0]? = some (.int .i64 R.v) := by show some (Value.int .i64 b.v) = _; rw [e2]
  have f3 : (recArr a)[10]? = some (.string R.name) := by show some (Value.string a.name) = _; rw [e3]
  have f4 : (recArr b)[10]? = some (.string R.name) := by show some (Value.string b.name) = _; rw [e4]
  have F1 := Lib.hid f1
  have F2 := Lib.hid f2
  have F3 := Lib.hid f3
  have F4 := Lib.hid f4
  have hn : ∀ t, numV a t = numV b t := by
    intro t
    have h1 : numV a t = numV (R.words a.data) t := congrArg (numV · t) ha.eq
    have h2 : numV b t = numV (R.words b.data) t := congrArg (numV · t) hb.eq
    rw [h1, h2, numV_words R a.data b.data]
  have HN := Lib.hid hn
  have HA := Lib.hid ha
  have HB := Lib.hid hb
  clear hw0 KK e1 e2 e3 e4 f1 f2 f3 f4 hn ha hb
  dsimp only [RecV.val, Sl.v]
  go_enter Tryz.func14, Tryz.ntmps14
  go_upto_region 1 with fail
  rw [HW0.out]
  clear HW0
  go_wp2_with fail
  go_loopw [5] (fun i wr => ∃ k : Nat, k ≤ 9 ∧ i = .int .i64 ((k : Int) + 1) ∧ Hid (Boxes2 w wr w.heap.size (w.heap.size + 1) a b)) (fun i _ => (10 - intOf i).toNat)
  case atStart => exact ⟨0, by omega, rfl, TO⟩
  case round =>
    clear TO
    obtain ⟨k, hk, rfl, TO⟩ := hrel
    by_cases hlt : k < 9
    · go_wp2_with (refine wpList_load_blk rfl _ _ rfl _ rfl _ _ TO.out.b0 rowRec ?_)
      refine (refNumber_any a ((k : Int) + 1) (by omega) (by omega) _).mono ?_
      rintro e w1 ⟨rfl, hb⟩
      have TP := Lib.hid (TO.out.bl hb)
      clear TO hb
      go_wp2_with (refine wpList_load_blk rfl _ _ rfl _ rfl _ _ TP.out.b1 rowRec ?_)
      refine (refNumber_any b ((k : Int) + 1) (by omega) (by omega) _).mono ?_
      rintro e w2 ⟨rfl, hb⟩
      have TO := Lib.hid (TP.out.bl hb)
      clear TP hb
      rw [HN.out]
      go_wp2
      all_goals go_roundw
      case rel => exact ⟨k + 1, by omega, by go_num, TO⟩
      case measure => simp [intOf]; omega
    · have hk' : k = 9 := by omega
      subst hk'
      go_wp2_with (first
        | (refine wpList_load_field rfl _ _ rfl _ 0 rfl _ _ TO.out.b0 _ F1.out one_int ?_)
        | (refine wpList_load_field rfl _ _ rfl _ 0 rfl _ _ TO.out.b1 _ F2.out one_int ?_)
        | (refine wpList_load_field_g rfl _ _ rfl _ 10 rfl _ _ TO.out.b0 _ F3.out one_str ?_)
        | (refine wpList_load_field_g rfl _ _ rfl _ 10 rfl _ _ TO.out.b1 _ F4.out one_str ?_)
        | (refine wpList_load_field_g rfl _ _ rfl _ 11 rfl _ _ TO.out.b0 (.slice a.data.a a.data.n a.data.c) rfl one_bytes ?_)
        | (refine wpList_load_field_g rfl _ _ rfl _ 11 rfl _ _ TO.out.b1 (.slice b.data.a b.data.n b.data.c) rfl one_bytes ?_)
        | (go_at_call 32; refine (alike_any a.data b.data R.data R.data _ (HA.out.data.below TO.out.below) (HB.out.data.below TO.out.below)).mono ?_; rintro e w5 ⟨rfl, hd⟩; have HD := Lib.hid hd; clear hd))
      go_ret
      exact ⟨by simp, then_ TO.out.below HD.out.below⟩
end Go.Proofs.YteaiadpigpehaaaGreatDoor
namespace Go.Proofs.YteaiadpigpehaaaGreatDoor
open Go.RowKit

theorem flat_cells : ∀ (rs : List RecV) (i j : Nat) (h : i < rs.length), j < 12 → (rs.flatMap RecV.cells)[i * 12 + j]? = (rs[i]).cells[j]?
  | [], i, j, h, _ => absurd h (by simp)
  | r :: rs, 0, j, h, hj => by
    rw [List.flatMap_cons, Nat.zero_mul, Nat.zero_add, List.getElem?_append_left (by show j < 12; exact hj)]
    rfl
  | r :: rs, i + 1, j, h, hj => by
    rw [List.flatMap_cons, List.getElem?_append_right (by show 12 ≤ _; omega)]
    have e : (i + 1) * 12 + j - (r.cells).length = i * 12 + j := by show (i + 1) * 12 + j - 12 = _; omega
    rw [e, flat_cells rs i j (by simpa using h) hj]
    rfl
theorem OwnRecs.recsAt {w : World} {B : Nat} {v : Sl} {Rs : List RecD} (h : OwnRecs w B v.v Rs) (hd : ∀ R ∈ Rs, R.data.length ≤ 1073741824) : RecsAt w v Rs := by
  obtain ⟨rs, ⟨hl, h1⟩, h2, h3⟩ := h
  obtain ⟨va, vn, vc⟩ := v
  rcases h1 with ⟨e, h0⟩ | ⟨g, cap, cur, e, hb, hh, hc, hm, hz, ht⟩
  · simp only [Sl.v, Value.slice.injEq] at e
    obtain ⟨rfl, rfl, rfl⟩ := e
    have : rs = [] := List.eq_nil_of_length_eq_zero (by omega)
    subst this
    exact ⟨[], rfl, by simpa using h2, ⟨by simp, fun _ => rfl⟩, fun h => by simp at h, fun i h => by simp at h⟩
  · simp only [Sl.v, Value.slice.injEq] at e
    obtain ⟨rfl, rfl, rfl⟩ := e
    refine ⟨rs, h2.symm, h2, ⟨by simp only; unfold maxLen at hm; omega, fun h => by cases h⟩, fun _ => ⟨g, 0, rfl, fun i hi j hj => ?_⟩, fun i a b => ⟨(h3 i a b).1, ?_⟩⟩
    · have hlt : i * 12 + j < Rs.length * 12 := by omega
      have e2 : w.cell? ⟨g, 0 + i * 12 + j, none⟩ = cur[i * 12 + j]? := by
        rw [Nat.zero_add]
        exact BlkAt.cell (show BlkAt w g cur _ from hh) _
      rw [e2, ← Array.getElem?_toList, ← flat_cells rs i j hi hj, ← ht, List.getElem?_take, if_pos hlt]
    · exact (h3 i a b).2.bytes (by have := hd _ (List.getElem_mem b); omega)

theorem tell_small {D : SagaD} (hg : GoodD D) : ∀ R ∈ storyL D, R.data.length ≤ 16384 ∧ (R.name = D.name ∨ R.name = ⟨#[]⟩) := by
  have p := hg.plain
  intro R hR
  unfold storyL tellD at hR
  simp only [List.mem_cons, List.mem_append] at hR
  rcases hR with rfl | h | h | h | h
  · exact ⟨p.input, .inl rfl⟩
  · unfold outsL at h
    simp only [List.mem_flatMap, List.mem_cons, List.not_mem_nil, or_false] at h
    obtain ⟨i, _, rfl | rfl⟩ := h
    · exact ⟨by simp, .inr rfl⟩
    · exact ⟨getD_len p.outs i, .inr rfl⟩
  · unfold midL at h
    split at h
    · unfold undosL at h
      simp only [List.mem_append, List.mem_flatMap, List.mem_cons, List.not_mem_nil, or_false] at h
      rcases h with (rfl | rfl) | ⟨i, _, rfl | rfl⟩
      · exact ⟨by simp, .inr rfl⟩
      · exact ⟨p.fail, .inr rfl⟩
      · exact ⟨by simp, .inr rfl⟩
      · exact ⟨getD_len p.undos i, .inr rfl⟩
    · cases h
  · unfold lastL triesL at h
    simp only [List.mem_flatMap, List.mem_cons] at h
    obtain ⟨i, _, rfl | h⟩ := h
    · exact ⟨by simp, .inr rfl⟩
    · split at h
      · rw [List.mem_singleton] at h; subst h; exact ⟨by simp, .inr rfl⟩
      · cases h
  · unfold endL at h
    split at h
    · rw [List.mem_singleton] at h; subst h; exact ⟨by simp, .inr rfl⟩
    · split at h
      · rw [List.mem_singleton] at h; subst h; exact ⟨by simp, .inr rfl⟩
      · cases h
theorem tell_fits {D : SagaD} (hg : GoodD D) (hn : D.name.size ≤ 4611686018427387904) {R : RecD} (h : R ∈ storyL D) : RecFits R := by
  obtain ⟨h1, h2⟩ := tell_small hg R h
  refine ⟨?_, by omega⟩
  rcases h2 with e | e
  · rw [e]; exact hn
  · rw [e]; decide
theorem storyL_first : storyL firstD = [firstR] := by rfl
theorem tell_len {D : SagaD} : (storyL D).length = (tellD D).length + 1 := rfl
end Go.Proofs.YteaiadpigpehaaaGreatDoor
namespace Go.Proofs.YteaiadpigpehaaaGreatDoor
open Go.RowKit

theorem recs_ld {w : World} {b o : Nat} {rs : List RecV} (h : ∀ i (h1 : i < rs.length), ∀ j, j < 12 → w.cell? ⟨b, o + i * 12 + j, none⟩ = (rs[i]).cells[j]?) : ∀ i (h : i < rs.length) W, Below w.heap.size w W → ∀ j, j < (recArr rs[i]).size → W.cell? ⟨b, o + i * 12 + j, none⟩ = (recArr rs[i])[j]? := by
  intro i hi W hW j hj
  have h1 := h i hi j hj
  have h2 : (rs[i]).cells[j]? = (recArr rs[i])[j]? := by simp [recArr]
  rw [h2, Array.getElem?_eq_getElem hj] at h1
  rw [Array.getElem?_eq_getElem hj]
  exact (hW.cell (World.block_lt_of_cell? w _ h1)).trans h1
set_option maxRecDepth 1000000 in
set_option maxHeartbeats 2000000 in
theorem sameAll_eq (s t : Sl) (Rs : List RecD) (w : World) (h : RecsAt w s Rs) (k : RecsAt w t Rs) :
    Calls Tryz.prog 30 #[s.v, t.v] w fun e w' => e = .returned (.bool true) ∧ Below w.heap.size w w' := by
  obtain ⟨rs, q1, q2, q3, q4, q5⟩ := h
  obtain ⟨us, p1, p2, p3, p4, p5⟩ := k
  obtain ⟨a, n, c⟩ := s
  obtain ⟨b, m, d⟩ := t
  simp only at q1 q3 q4 p1 p3 p4
  have hm : m = Rs.length := by omega
  have hn : n = Rs.length := by omega
  subst hm hn
  have hmax := q3.1
  have HA := Lib.hid q4
  have HB := Lib.hid p4
  have HRA := Lib.hid q5
  have HRB := Lib.hid p5
  have HQ2 := Lib.hid q2
  have HP2 := Lib.hid p2
  clear q4 p4 q5 p5 q3 p3 q1 p1 q2 p2
  dsimp only [Sl.v]
  go_enter Tryz.func30, Tryz.ntmps30
  go_wp2
  go_loopw [5] (fun i wr => ∃ j : Nat, j ≤ Rs.length ∧ i = .int .i64 j ∧ Hid (Below w.heap.size w wr)) (fun i _ => Rs.length - (intOf i).toNat)
  case atStart => exact ⟨0, by omega, rfl, Lib.hid (Below.refl _ _)⟩
  case round =>
    obtain ⟨j, hj, rfl, HBL⟩ := hrel
    by_cases hlt : j < Rs.length
    · obtain ⟨b0, o0, e0, hc0⟩ := HA.out (by omega)
      obtain ⟨b1, o1, e1, hc1⟩ := HB.out (by omega)
      subst e0 e1
      have ja : j < rs.length := by have := HQ2.out; omega
      have jb : j < us.length := by have := HP2.out; omega
      have lda := recs_ld hc0 j ja
      have ldb := recs_ld hc1 j jb
      have ra := HRA.out j ja hlt
      have rb := HRB.out j jb hlt
      obtain ⟨x, hx⟩ : ∃ q, rs[j] = q := ⟨_, rfl⟩
      obtain ⟨y, hy⟩ : ∃ q, us[j] = q := ⟨_, rfl⟩
      obtain ⟨R, hR⟩ : ∃ q, Rs[j] = q := ⟨_, rfl⟩
      rw [hx] at lda ra
      rw [hy] at ldb rb
      rw [hR] at ra rb
      have LDA : Hid (∀ W, Since wr W → ∀ i, i < (recArr x).size → W.cell? ⟨b0, o0 + j * 12 + i, none⟩ = (recArr x)[i]?) := Lib.hid (fun W hW => lda W (then_ HBL.out hW.out))
      have LDB : Hid (∀ W, Since wr W → ∀ i, i < (recArr y).size → W.cell? ⟨b1, o1 + j * 12 + i, none⟩ = (recArr y)[i]?) := Lib.hid (fun W hW => ldb W (then_ HBL.out hW.out))
      have RA := Lib.hid (ra.below HBL.out)
      have RB := Lib.hid (rb.below HBL.out)
      clear hx hy hR lda ldb ra rb hc0 hc1 ja jb
      go_upto_region 6 with fail
      go_cut [6] (fun s0 wx => s0 = .bool true ∧ Hid (Since wr wx))
      case first =>
        refine wp_region_held_drew (S := Since wr) (by kernel_rfl) ((Since.refl wr).drew) (fun hHeld => ?_)
        refine wpAnyH_take (i := 0) (oi := { dst := some 18, op := Op.move (Operand.tmp 0), type := 57, pos := "annalsref3.go:321", after := #[], guard := none }) (v := ?_) rfl (by kernel_rfl) (by kernel_rfl) (by kernel_rfl) (fun _ _ _ h => h) (Or.inl ⟨by rfl, ?_⟩) (by assumption) ?_
        rotate_left 1
        focus (intro w hSw; (try clear hSw); go_simp; try (with_reducible rfl))
        try go_frame
        refine wpAnyH_take (i := 1) (oi := { dst := some 19, op := Op.move (Operand.tmp 5), type := 3, pos := "annalsref3.go:321", after := #[], guard := none }) (v := ?_) rfl (by kernel_rfl) (by kernel_rfl) (by kernel_rfl) (fun _ _ _ h => h) (Or.inl ⟨by rfl, ?_⟩) (by assumption) ?_
        rotate_left 1
        focus (intro w hSw; (try clear hSw); go_simp; try (with_reducible rfl))
        try go_frame
        refine wpAnyH_take (i := 2) (oi := { dst := some 20, op := Op.indexAddr 57 (Operand.tmp 18) (Operand.tmp 19), type := 0, pos := "annalsref3.go:321", after := #[{ on := 0, ground := Ground.data }, { on := 1, ground := Ground.data }], guard := none }) (v := ?_) rfl (by kernel_rfl) (by kernel_rfl) (by kernel_rfl) (fun _ _ _ h => h) (Or.inl ⟨by rfl, ?_⟩) (by assumption) ?_
        rotate_left 1
        focus (intro w hSw; (try clear hSw); go_simp; try (with_reducible rfl))
        try go_frame
        refine wpAnyH_take (i := 3) (oi := { dst := some 21, op := Op.load 31 (Operand.tmp 20), type := 31, pos := "annalsref3.go:321", after := #[{ on := 2, ground := Ground.data }], guard := none }) (v := .agg (recArr x)) rfl (by kernel_rfl) (by kernel_rfl) (by kernel_rfl) (fun _ _ _ h => h) (yl_at rfl _ _ rfl _ _ rfl _ (fun w' h => LDA.out w' h) rowRec) (by assumption) ?_
        try go_frame
        refine wpAnyH_take (i := 4) (oi := { dst := some 22, op := Op.move (Operand.tmp 1), type := 57, pos := "annalsref3.go:321", after := #[], guard := none }) (v := ?_) rfl (by kernel_rfl) (by kernel_rfl) (by kernel_rfl) (fun _ _ _ h => h) (Or.inl ⟨by rfl, ?_⟩) (by assumption) ?_
        rotate_left 1
        focus (intro w hSw; (try clear hSw); go_simp; try (with_reducible rfl))
        try go_frame
        refine wpAnyH_take (i := 5) (oi := { dst := some 23, op := Op.move (Operand.tmp 5), type := 3, pos := "annalsref3.go:321", after := #[], guard := none }) (v := ?_) rfl (by kernel_rfl) (by kernel_rfl) (by kernel_rfl) (fun _ _ _ h => h) (Or.inl ⟨by rfl, ?_⟩) (by assumption) ?_
        rotate_left 1
        focus (intro w hSw; (try clear hSw); go_simp; try (with_reducible rfl))
        try go_frame
        refine wpAnyH_take (i := 6) (oi := { dst := some 24, op := Op.indexAddr 57 (Operand.tmp 22) (Operand.tmp 23), type := 0, pos := "annalsref3.go:321", after := #[{ on := 4, ground := Ground.data }, { on := 5, ground := Ground.data }], guard := none }) (v := ?_) rfl (by kernel_rfl) (by kernel_rfl) (by kernel_rfl) (fun _ _ _ h => h) (Or.inl ⟨by rfl, ?_⟩) (by assumption) ?_
        rotate_left 1
        focus (intro w hSw; (try clear hSw); go_simp; try (with_reducible rfl))
        try go_frame
        refine wpAnyH_take (i := 7) (oi := { dst := some 25, op := Op.load 31 (Operand.tmp 24), type := 31, pos := "annalsref3.go:321", after := #[{ on := 6, ground := Ground.data }], guard := none }) (v := .agg (recArr y)) rfl (by kernel_rfl) (by kernel_rfl) (by kernel_rfl) (fun _ _ _ h => h) (yl_at rfl _ _ rfl _ _ rfl _ (fun w' h => LDB.out w' h) rowRec) (by assumption) ?_
        try go_frame
        refine wpAnyH_ready (rs := [8]) (by kernel_rfl) (by simp) ?_
        refine AllReadyH.cons (o := { dst := some 26, op := Op.call { callee := Callee.value (Operand.func 14), args := #[Operand.tmp 21, Operand.tmp 25], argTypes := #[31, 31] }, type := 4, pos := "annalsref3.go:321", after := #[{ on := 3, ground := Ground.data }, { on := 7, ground := Ground.data }], guard := none }) rfl (fun K hK => ?_) ?_
        · go_simp
          refine (recSame_eq x y R _ (RA.out.below hHeld.out) (RB.out.below hHeld.out)).mono ?_
          rintro e w9 ⟨rfl, hb⟩
          try go_wp2_with fail
          refine hK.out _ _ (hHeld.call hb) (fun hHeld => ?_)
          clear hK K
          try go_frame
          refine wpAnyH_ready (rs := [9]) (by kernel_rfl) (by simp) ?_
          refine AllReadyH.cons (o := { dst := some 6, op := Op.assign (Operand.tmp 26), type := 4, pos := "annalsref3.go:321", after := #[{ on := 8, ground := Ground.data }, { on := 8, ground := Ground.chain }, { on := 0, ground := Ground.phase }, { on := 1, ground := Ground.phase }, { on := 2, ground := Ground.phase }, { on := 3, ground := Ground.phase }, { on := 4, ground := Ground.phase }, { on := 5, ground := Ground.phase }, { on := 6, ground := Ground.phase }, { on := 7, ground := Ground.phase }, { on := 8, ground := Ground.phase }], guard := none }) rfl (fun K hK => ?_) ?_
          · go_simp
            refine hK.out _ _ (by assumption) (fun hHeld => ?_)
            clear hK K
            try go_frame
            refine wpAnyH_done (by kernel_rfl) ?_ _
            try go_wp2_with fail
            go_meet
            exact ⟨rfl, Lib.hid hHeld⟩
          exact AllReadyH.nil
        exact AllReadyH.nil
      case rest =>
      obtain ⟨wx, rfl⟩ : ∃ q : World, q = wc := ⟨_, rfl⟩
      obtain ⟨rfl, HS⟩ := hcut
      have HB2 := Lib.hid (then_ HBL.out HS.out.out)
      clear HS HBL LDA LDB RA RB
      go_wp2_with fail
      all_goals go_roundw
      case rel => exact ⟨j + 1, by omega, by go_num, HB2⟩
      case measure => simp [intOf]; omega
    · have hk : j = Rs.length := by omega
      subst hk
      go_wp2
      all_goals go_ret
      all_goals exact ⟨rfl, HBL.out⟩
end Go.Proofs.YteaiadpigpehaaaGreatDoor
