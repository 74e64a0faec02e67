/-
  annalsref3.Same of two records that hold the same, walked: it answers true. Conditions: none.
-/
import Derived.Test.YteaiadpigpehaaaDoorReg2
import Derived.Test.YteaiadpigpehaaaDoorPkLaw
import Derived.Deep.DeepCutAuto
namespace Go.Proofs.YteaiadpigpehaaaDoor
open Go.RowKit

def numV (r : RecV) (t : Int) : Int := if t = 1 then r.kind else if t = 2 then r.saga else if t = 3 then r.step else if t = 4 then r.try_ else if t = 5 then r.at_ else if t = 6 then r.last else if t = 7 then r.code else if t = 8 then r.count else r.pivot
theorem numV_words (R : RecD) (s u : Sl) (t : Int) : numV (R.words s) t = numV (R.words u) t := rfl
theorem rowTen : RowTy Tryd.prog 121 10 := RowTy.mk' Tryd.underlying121 rfl (by kernel_rfl)
set_option maxRecDepth 1000000 in
set_option maxHeartbeats 400000 in
theorem refNumber_1 (r : RecV) (w : World) :
    Calls Tryd.prog 63 #[r.val, .int .i64 1] w fun e w' => e = .returned (.int .i64 (numV r 1)) ∧ Below w.heap.size w w' := by
  dsimp only [RecV.val, Sl.v]
  go_enter Tryd.func63, Tryd.ntmps63
  go_wp2
  go_ret
  exact ⟨rfl, boxd (boxd (Below.refl _ _))⟩
set_option maxRecDepth 1000000 in
set_option maxHeartbeats 400000 in
theorem refNumber_2 (r : RecV) (w : World) :
    Calls Tryd.prog 63 #[r.val, .int .i64 2] w fun e w' => e = .returned (.int .i64 (numV r 2)) ∧ Below w.heap.size w w' := by
  dsimp only [RecV.val, Sl.v]
  go_enter Tryd.func63, Tryd.ntmps63
  go_wp2
  go_ret
  exact ⟨rfl, boxd (boxd (Below.refl _ _))⟩
set_option maxRecDepth 1000000 in
set_option maxHeartbeats 400000 in
theorem refNumber_3 (r : RecV) (w : World) :
    Calls Tryd.prog 63 #[r.val, .int .i64 3] w fun e w' => e = .returned (.int .i64 (numV r 3)) ∧ Below w.heap.size w w' := by
  dsimp only [RecV.val, Sl.v]
  go_enter Tryd.func63, Tryd.ntmps63
  go_wp2
  go_ret
  exact ⟨rfl, boxd (boxd (Below.refl _ _))⟩
set_option maxRecDepth 1000000 in
set_option maxHeartbeats 400000 in
theorem refNumber_4 (r : RecV) (w : World) :
    Calls Tryd.prog 63 #[r.val, .int .i64 4] w fun e w' => e = .returned (.int .i64 (numV r 4)) ∧ Below w.heap.size w w' := by
  dsimp only [RecV.val, Sl.v]
  go_enter Tryd.func63, Tryd.ntmps63
  go_wp2
  go_ret
  exact ⟨rfl, boxd (boxd (Below.refl _ _))⟩
set_option maxRecDepth 1000000 in
set_option maxHeartbeats 400000 in
theorem refNumber_5 (r : RecV) (w : World) :
    Calls Tryd.prog 63 #[r.val, .int .i64 5] w fun e w' => e = .returned (.int .i64 (numV r 5)) ∧ Below w.heap.size w w' := by
  dsimp only [RecV.val, Sl.v]
  go_enter Tryd.func63, Tryd.ntmps63
  go_wp2
  go_ret
  exact ⟨rfl, boxd (boxd (Below.refl _ _))⟩
set_option maxRecDepth 1000000 in
set_option maxHeartbeats 400000 in
theorem refNumber_6 (r : RecV) (w : World) :
    Calls Tryd.prog 63 #[r.val, .int .i64 6] w fun e w' => e = .returned (.int .i64 (numV r 6)) ∧ Below w.heap.size w w' := by
  dsimp only [RecV.val, Sl.v]
  go_enter Tryd.func63, Tryd.ntmps63
  go_wp2
  go_ret
  exact ⟨rfl, boxd (boxd (Below.refl _ _))⟩
set_option maxRecDepth 1000000 in
set_option maxHeartbeats 400000 in
theorem refNumber_7 (r : RecV) (w : World) :
    Calls Tryd.prog 63 #[r.val, .int .i64 7] w fun e w' => e = .returned (.int .i64 (numV r 7)) ∧ Below w.heap.size w w' := by
  dsimp only [RecV.val, Sl.v]
  go_enter Tryd.func63, Tryd.ntmps63
  go_wp2
  go_ret
  exact ⟨rfl, boxd (boxd (Below.refl _ _))⟩
set_option maxRecDepth 1000000 in
set_option maxHeartbeats 400000 in
theorem refNumber_8 (r : RecV) (w : World) :
    Calls Tryd.prog 63 #[r.val, .int .i64 8] w fun e w' => e = .returned (.int .i64 (numV r 8)) ∧ Below w.heap.size w w' := by
  dsimp only [RecV.val, Sl.v]
  go_enter Tryd.func63, Tryd.ntmps63
  go_wp2
  go_ret
  exact ⟨rfl, boxd (boxd (Below.refl _ _))⟩
set_option maxRecDepth 1000000 in
set_option maxHeartbeats 400000 in
theorem refNumber_9 (r : RecV) (w : World) :
    Calls Tryd.prog 63 #[r.val, .int .i64 9] w fun e w' => e = .returned (.int .i64 (numV r 9)) ∧ Below w.heap.size w w' := by
  dsimp only [RecV.val, Sl.v]
  go_enter Tryd.func63, Tryd.ntmps63
  go_wp2
  go_ret
  exact ⟨rfl, boxd (boxd (Below.refl _ _))⟩
theorem refNumber_any (r : RecV) (t : Int) (h1 : 1 ≤ t) (h9 : t ≤ 9) (w : World) :
    Calls Tryd.prog 63 #[r.val, .int .i64 t] w fun e w' => e = .returned (.int .i64 (numV r t)) ∧ Below w.heap.size w w' := by
  have hc : t = 1 ∨ t = 2 ∨ t = 3 ∨ t = 4 ∨ t = 5 ∨ t = 6 ∨ t = 7 ∨ t = 8 ∨ t = 9 := by omega
  rcases hc with rfl | rfl | rfl | rfl | rfl | rfl | rfl | rfl | rfl
  · exact refNumber_1 r w
  · exact refNumber_2 r w
  · exact refNumber_3 r w
  · exact refNumber_4 r w
  · exact refNumber_5 r w
  · exact refNumber_6 r w
  · exact refNumber_7 r w
  · exact refNumber_8 r w
  · exact refNumber_9 r w

/-- Two records' boxes. -/
structure Boxes2 (w wr : World) (g0 g1 : Nat) (a b : RecV) : Prop where
  b0 : BlkAt wr g0 (recArr a) 27
  b1 : BlkAt wr g1 (recArr b) 27
  below : Below w.heap.size w wr
theorem Boxes2.bl {w wr w' : World} {g0 g1 : Nat} {a b : RecV} (h : Boxes2 w wr g0 g1 a b) (hb : Below wr.heap.size wr w') : Boxes2 w w' g0 g1 a b := ⟨h.b0.below hb (blk_lt h.b0), h.b1.below hb (blk_lt h.b1), then_ h.below hb⟩
set_option maxRecDepth 1000000 in
set_option maxHeartbeats 2000000 in
theorem recSame_eq (a b : RecV) (R : RecD) (w : World) (ha : RecRd w a R) (hb : RecRd w b R) :
    Calls Tryd.prog 30 #[a.val, b.val] w fun e w' => e = .returned (.bool true) ∧ Below w.heap.size w w' := by
  have KK : Boxes2 w ((w.alloc (.cells (recArr a) 27)).alloc (.cells (recArr b) 27)) w.heap.size (w.heap.size + 1) a b := by
    refine ⟨(BlkAt.new w (recArr a) _).push _, ?_, boxd (boxd (Below.refl _ _))⟩
    have := BlkAt.new (w.alloc (.cells (recArr a) 27)) (recArr b) 27
    rw [World.size_alloc] at this
    exact this
  obtain ⟨w0, hw0⟩ : ∃ q, (w.alloc (.cells (recArr a) 27)).alloc (.cells (recArr b) 27) = q := ⟨_, rfl⟩
  rw [hw0] at KK
  dsimp only [recArr, Sl.v] at hw0
  have HW0 := Lib.hid hw0
  have TO := Lib.hid KK
  have e1 : a.v = R.v := by rw [ha.eq]
  have e2 : b.v = R.v := by rw [hb.eq]
  have e3 : a.name = R.name := by rw [ha.eq]
  have e4 : b.name = R.name := by rw [hb.eq]
  have f1 : (recArr a)[0]? = some (.int .i64 R.v) := by show some (Value.int .i64 a.v) = _; rw [e1]
  have f2 : (recArr b)[0]? = some (.int .i64 R.v) := by show some (Value.int .i64 b.v) = _; rw [e2]
  have f3 : (recArr a)[10]? = some (.string R.name) := by show some (Value.string a.name) = _; rw [e3]
  have f4 : (recArr b)[10]? = some (.string R.name) := by show some (Value.string b.name) = _; rw [e4]
  have F1 := Lib.hid f1
  have F2 := Lib.hid f2
  have F3 := Lib.hid f3
  have F4 := Lib.hid f4
  have hn : ∀ t, numV a t = numV b t := by
    intro t
    have h1 : numV a t = numV (R.words a.data) t := congrArg (numV · t) ha.eq
    have h2 : numV b t = numV (R.words b.data) t := congrArg (numV · t) hb.eq
    rw [h1, h2, numV_words R a.data b.data]
  have HN := Lib.hid hn
  have HA := Lib.hid ha
  have HB := Lib.hid hb
  clear hw0 KK e1 e2 e3 e4 f1 f2 f3 f4 hn ha hb
  dsimp only [RecV.val, Sl.v]
  go_enter Tryd.func30, Tryd.ntmps30
  go_upto_region 1 with fail
  rw [HW0.out]
  clear HW0
  go_wp2_with fail
  go_loopw [5] (fun i wr => ∃ k : Nat, k ≤ 9 ∧ i = .int .i64 ((k : Int) + 1) ∧ Hid (Boxes2 w wr w.heap.size (w.heap.size + 1) a b)) (fun i _ => (10 - intOf i).toNat)
  case atStart => exact ⟨0, by omega, rfl, TO⟩
  case round =>
    clear TO
    obtain ⟨k, hk, rfl, TO⟩ := hrel
    by_cases hlt : k < 9
    · go_wp2_with (refine wpList_load_blk rfl _ _ rfl _ rfl _ _ TO.out.b0 rowRec ?_)
      refine (refNumber_any a ((k : Int) + 1) (by omega) (by omega) _).mono ?_
      rintro e w1 ⟨rfl, hb⟩
      have TP := Lib.hid (TO.out.bl hb)
      clear TO hb
      go_wp2_with (refine wpList_load_blk rfl _ _ rfl _ rfl _ _ TP.out.b1 rowRec ?_)
      refine (refNumber_any b ((k : Int) + 1) (by omega) (by omega) _).mono ?_
      rintro e w2 ⟨rfl, hb⟩
      have TO := Lib.hid (TP.out.bl hb)
      clear TP hb
      rw [HN.out]
      go_wp2
      all_goals go_roundw
      case rel => exact ⟨k + 1, by omega, by go_num, TO⟩
      case measure => simp [intOf]; omega
    · have hk' : k = 9 := by omega
      subst hk'
      go_wp2_with (first
        | (refine wpList_load_field rfl _ _ rfl _ 0 rfl _ _ TO.out.b0 _ F1.out one_int ?_)
        | (refine wpList_load_field rfl _ _ rfl _ 0 rfl _ _ TO.out.b1 _ F2.out one_int ?_)
        | (refine wpList_load_field_g rfl _ _ rfl _ 10 rfl _ _ TO.out.b0 _ F3.out one_str ?_)
        | (refine wpList_load_field_g rfl _ _ rfl _ 10 rfl _ _ TO.out.b1 _ F4.out one_str ?_)
        | (refine wpList_load_field_g rfl _ _ rfl _ 11 rfl _ _ TO.out.b0 (.slice a.data.a a.data.n a.data.c) rfl one_bytes ?_)
        | (refine wpList_load_field_g rfl _ _ rfl _ 11 rfl _ _ TO.out.b1 (.slice b.data.a b.data.n b.data.c) rfl one_bytes ?_)
        | (go_at_call 49; refine (alike_any a.data b.data R.data R.data _ (HA.out.data.below TO.out.below) (HB.out.data.below TO.out.below)).mono ?_; rintro e w5 ⟨rfl, hd⟩; have HD := Lib.hid hd; clear hd))
      go_ret
      exact ⟨by simp, then_ TO.out.below HD.out.below⟩
end Go.Proofs.YteaiadpigpehaaaDoor
