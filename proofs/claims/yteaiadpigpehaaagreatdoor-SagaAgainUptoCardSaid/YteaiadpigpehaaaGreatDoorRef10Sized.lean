/-
  annalsref10.sized walked: are a story's bounds kept? Conditions: the tables that annalsref2.Name reads, as laid; a name of at most 2^40 bytes. (Printed by wip/gen_ref10sized.py.)
-/
import Derived.Test.YteaiadpigpehaaaGreatDoorPkRefLaid
import Derived.Test.YteaiadpigpehaaaGreatDoorRefCopy
import Derived.Test.YteaiadpigpehaaaGreatDoorPkReg
import Derived.Maps.RangeWalk
import Derived.Deep.DeepCutAuto
import Derived.Deep.CutBlock
namespace Go.Proofs.YteaiadpigpehaaaGreatDoor
open Go.RowKit

theorem skip_at {P : Program} {ops : Array Oper} {Q : Exit → Act → World → Prop} {a : Act} {w : World} {rest : List Oper} {o : Oper} (n : Nat) (_hd : o.dst = some n) (hw : Region.wanted o (yielded ops a.tmps) = false) (h : wpList P ops Q rest (a.put o.dst undef) w) :
    wpList P ops Q (o :: rest) a w := wpList_skip hw h
set_option maxRecDepth 10000000 in
set_option maxHeartbeats 20000000 in
theorem sized_any (s : SagaV) (D : SagaD) (w : World) (ht : RefTabs w) (hs : SagaRd w s D) (hn : D.name.size ≤ 1099511627776) :
    Calls Tryz.prog 77 #[s.val] w fun e w' => e = .returned (.bool (sizedD D)) ∧ Below w.heap.size w w' := by
  obtain ⟨si, so, su, sf, rfl⟩ : ∃ i o u f, s = D.words i o u f := ⟨_, _, _, _, hs.eq⟩
  have lo : D.outs.length = so.n := hs.held.outs.len.symm
  have lu : D.undos.length = su.n := hs.held.undos.len.symm
  have hb1 := boxd (o := .cells (sagaArr (D.words si so su sf)) 29) (Below.refl w.heap.size w)
  have cN := Lib.hid (refName_any D.name hn _ (ht.below hb1).lr)
  obtain ⟨Z, hZ⟩ : ∃ z, sizedD D = z := ⟨_, rfl⟩
  rw [hZ]
  unfold sizedD at hZ
  rw [lo, lu] at hZ
  clear hs ht hn lo lu
  have KB := Lib.hid (BlkAt.new w (sagaArr (D.words si so su sf)) 29)
  have HB := Lib.hid hb1
  clear hb1
  generalize (nameA D.name).1 = N at cN hZ
  generalize (nameA D.name).2 = N2 at cN
  obtain ⟨id, name, count, pivot, begun, at_, input, phase, next, flight, tries, outs, undos, fs, fc, fail⟩ := D
  dsimp only [SagaD.words, SagaV.val, Sl.v, sagaArr] at *
  have HZ := Lib.hid hZ
  clear hZ
  go_enter Tryz.func77, Tryz.ntmps77
  go_wp2_with (refine wpList_load_field rfl _ _ rfl _ 1 rfl _ _ KB.out (.string name) rfl one_str ?_)
  refine cN.out.mono ?_
  rintro e w2 ⟨rfl, hb⟩
  have KB := Lib.hid (KB.out.below hb (by simp))
  have HB2 := Lib.hid (then_ HB.out hb)
  clear hb cN HB
  by_cases c0 : N = 0
  case neg =>
    have k : (N != 0) = true := by rw [bne_iff_ne]; exact c0
    have e : Z = false := by rw [← HZ.out]; simp only [decide_eq_false_iff_not]; rintro ⟨_, _, _, _, _, _, _, _, _, _, _⟩; omega
    subst e
    clear HZ
    go_wp2_with fail
    all_goals go_ret
    all_goals exact ⟨rfl, HB2.out⟩
  subst c0
  by_cases c1 : ¬ id < 1
  case neg =>
    have k : id < 1 := by omega
    have d : decide (id < 1) = true := by simp only [decide_eq_true_eq]; omega
    have e : Z = false := by rw [← HZ.out]; simp only [decide_eq_false_iff_not]; rintro ⟨_, _, _, _, _, _, _, _, _, _, _⟩; omega
    subst e
    clear HZ
    go_wp2_with (first | ((with_reducible refine wpList_load_field_g ?_ _ (.tmp 14) ?_ _ 0 ?_ _ _ KB.out (.int .i64 id) ?_ one_int ?_); rotate_left; exact rfl; exact rfl; exact rfl; rotate_left; kernel_rfl))
    all_goals go_ret
    all_goals exact ⟨rfl, HB2.out⟩
  have d1 : decide (id < 1) = false := by simp only [decide_eq_false_iff_not]; omega
  by_cases c2 : ¬ count < 1
  case neg =>
    have k : count < 1 := by omega
    have d : decide (count < 1) = true := by simp only [decide_eq_true_eq]; omega
    have e : Z = false := by rw [← HZ.out]; simp only [decide_eq_false_iff_not]; rintro ⟨_, _, _, _, _, _, _, _, _, _, _⟩; omega
    subst e
    clear HZ
    go_wp2_with (first | ((with_reducible refine wpList_load_field_g ?_ _ (.tmp 14) ?_ _ 0 ?_ _ _ KB.out (.int .i64 id) ?_ one_int ?_); rotate_left; exact rfl; exact rfl; exact rfl; rotate_left; kernel_rfl) | ((with_reducible refine wpList_load_field_g ?_ _ (.tmp 19) ?_ _ 2 ?_ _ _ KB.out (.int .i64 count) ?_ one_int ?_); rotate_left; exact rfl; exact rfl; exact rfl; rotate_left; kernel_rfl))
    all_goals go_ret
    all_goals exact ⟨rfl, HB2.out⟩
  have d2 : decide (count < 1) = false := by simp only [decide_eq_false_iff_not]; omega
  by_cases c3 : ¬ 32 < count
  case neg =>
    have k : 32 < count := by omega
    have d : decide (32 < count) = true := by simp only [decide_eq_true_eq]; omega
    have e : Z = false := by rw [← HZ.out]; simp only [decide_eq_false_iff_not]; rintro ⟨_, _, _, _, _, _, _, _, _, _, _⟩; omega
    subst e
    clear HZ
    go_wp2_with (first | ((with_reducible refine wpList_load_field_g ?_ _ (.tmp 14) ?_ _ 0 ?_ _ _ KB.out (.int .i64 id) ?_ one_int ?_); rotate_left; exact rfl; exact rfl; exact rfl; rotate_left; kernel_rfl) | ((with_reducible refine wpList_load_field_g ?_ _ (.tmp 19) ?_ _ 2 ?_ _ _ KB.out (.int .i64 count) ?_ one_int ?_); rotate_left; exact rfl; exact rfl; exact rfl; rotate_left; kernel_rfl) | ((with_reducible refine wpList_load_field_g ?_ _ (.tmp 24) ?_ _ 2 ?_ _ _ KB.out (.int .i64 count) ?_ one_int ?_); rotate_left; exact rfl; exact rfl; exact rfl; rotate_left; kernel_rfl))
    all_goals go_ret
    all_goals exact ⟨rfl, HB2.out⟩
  have d3 : decide (32 < count) = false := by simp only [decide_eq_false_iff_not]; omega
  by_cases c4 : ¬ tries < 0
  case neg =>
    have k : tries < 0 := by omega
    have d : decide (tries < 0) = true := by simp only [decide_eq_true_eq]; omega
    have e : Z = false := by rw [← HZ.out]; simp only [decide_eq_false_iff_not]; rintro ⟨_, _, _, _, _, _, _, _, _, _, _⟩; omega
    subst e
    clear HZ
    go_wp2_with (first | ((with_reducible refine wpList_load_field_g ?_ _ (.tmp 14) ?_ _ 0 ?_ _ _ KB.out (.int .i64 id) ?_ one_int ?_); rotate_left; exact rfl; exact rfl; exact rfl; rotate_left; kernel_rfl) | ((with_reducible refine wpList_load_field_g ?_ _ (.tmp 19) ?_ _ 2 ?_ _ _ KB.out (.int .i64 count) ?_ one_int ?_); rotate_left; exact rfl; exact rfl; exact rfl; rotate_left; kernel_rfl) | ((with_reducible refine wpList_load_field_g ?_ _ (.tmp 24) ?_ _ 2 ?_ _ _ KB.out (.int .i64 count) ?_ one_int ?_); rotate_left; exact rfl; exact rfl; exact rfl; rotate_left; kernel_rfl) | ((with_reducible refine wpList_load_field_g ?_ _ (.tmp 29) ?_ _ 10 ?_ _ _ KB.out (.int .i64 tries) ?_ one_int ?_); rotate_left; exact rfl; exact rfl; exact rfl; rotate_left; kernel_rfl))
    all_goals go_ret
    all_goals exact ⟨rfl, HB2.out⟩
  have d4 : decide (tries < 0) = false := by simp only [decide_eq_false_iff_not]; omega
  by_cases c5 : ¬ 1000 < tries
  case neg =>
    have k : 1000 < tries := by omega
    have d : decide (1000 < tries) = true := by simp only [decide_eq_true_eq]; omega
    have e : Z = false := by rw [← HZ.out]; simp only [decide_eq_false_iff_not]; rintro ⟨_, _, _, _, _, _, _, _, _, _, _⟩; omega
    subst e
    clear HZ
    go_wp2_with (first | ((with_reducible refine wpList_load_field_g ?_ _ (.tmp 14) ?_ _ 0 ?_ _ _ KB.out (.int .i64 id) ?_ one_int ?_); rotate_left; exact rfl; exact rfl; exact rfl; rotate_left; kernel_rfl) | ((with_reducible refine wpList_load_field_g ?_ _ (.tmp 19) ?_ _ 2 ?_ _ _ KB.out (.int .i64 count) ?_ one_int ?_); rotate_left; exact rfl; exact rfl; exact rfl; rotate_left; kernel_rfl) | ((with_reducible refine wpList_load_field_g ?_ _ (.tmp 24) ?_ _ 2 ?_ _ _ KB.out (.int .i64 count) ?_ one_int ?_); rotate_left; exact rfl; exact rfl; exact rfl; rotate_left; kernel_rfl) | ((with_reducible refine wpList_load_field_g ?_ _ (.tmp 29) ?_ _ 10 ?_ _ _ KB.out (.int .i64 tries) ?_ one_int ?_); rotate_left; exact rfl; exact rfl; exact rfl; rotate_left; kernel_rfl) | ((with_reducible refine wpList_load_field_g ?_ _ (.tmp 34) ?_ _ 10 ?_ _ _ KB.out (.int .i64 tries) ?_ one_int ?_); rotate_left; exact rfl; exact rfl; exact rfl; rotate_left; kernel_rfl))
    all_goals go_ret
    all_goals exact ⟨rfl, HB2.out⟩
  have d5 : decide (1000 < tries) = false := by simp only [decide_eq_false_iff_not]; omega
  by_cases c6 : 1 ≤ phase
  case neg =>
    have k : ¬ 1 ≤ phase := by omega
    have d : decide (1 ≤ phase) = false := by simp only [decide_eq_false_iff_not]; omega
    have e : Z = false := by rw [← HZ.out]; simp only [decide_eq_false_iff_not]; rintro ⟨_, _, _, _, _, _, _, _, _, _, _⟩; omega
    subst e
    clear HZ
    go_upto_region 4 with (first | ((with_reducible refine wpList_load_field_g ?_ _ (.tmp 14) ?_ _ 0 ?_ _ _ KB.out (.int .i64 id) ?_ one_int ?_); rotate_left; exact rfl; exact rfl; exact rfl; rotate_left; kernel_rfl) | ((with_reducible refine wpList_load_field_g ?_ _ (.tmp 19) ?_ _ 2 ?_ _ _ KB.out (.int .i64 count) ?_ one_int ?_); rotate_left; exact rfl; exact rfl; exact rfl; rotate_left; kernel_rfl) | ((with_reducible refine wpList_load_field_g ?_ _ (.tmp 24) ?_ _ 2 ?_ _ _ KB.out (.int .i64 count) ?_ one_int ?_); rotate_left; exact rfl; exact rfl; exact rfl; rotate_left; kernel_rfl) | ((with_reducible refine wpList_load_field_g ?_ _ (.tmp 29) ?_ _ 10 ?_ _ _ KB.out (.int .i64 tries) ?_ one_int ?_); rotate_left; exact rfl; exact rfl; exact rfl; rotate_left; kernel_rfl) | ((with_reducible refine wpList_load_field_g ?_ _ (.tmp 34) ?_ _ 10 ?_ _ _ KB.out (.int .i64 tries) ?_ one_int ?_); rotate_left; exact rfl; exact rfl; exact rfl; rotate_left; kernel_rfl))
    go_wp2_with (first | ((with_reducible refine skip_at 42 ?_ ?_ ?_); exact rfl; kernel_rfl) | ((with_reducible refine skip_at 43 ?_ ?_ ?_); exact rfl; kernel_rfl) | ((with_reducible refine skip_at 44 ?_ ?_ ?_); exact rfl; kernel_rfl) | ((with_reducible refine skip_at 47 ?_ ?_ ?_); exact rfl; kernel_rfl) | ((with_reducible refine skip_at 48 ?_ ?_ ?_); exact rfl; kernel_rfl) | ((with_reducible refine skip_at 49 ?_ ?_ ?_); exact rfl; kernel_rfl) | ((with_reducible refine skip_at 50 ?_ ?_ ?_); exact rfl; kernel_rfl) | ((with_reducible refine skip_at 53 ?_ ?_ ?_); exact rfl; kernel_rfl) | ((with_reducible refine skip_at 54 ?_ ?_ ?_); exact rfl; kernel_rfl) | ((with_reducible refine skip_at 55 ?_ ?_ ?_); exact rfl; kernel_rfl) | ((with_reducible refine skip_at 56 ?_ ?_ ?_); exact rfl; kernel_rfl) | ((with_reducible refine skip_at 59 ?_ ?_ ?_); exact rfl; kernel_rfl) | ((with_reducible refine skip_at 60 ?_ ?_ ?_); exact rfl; kernel_rfl) | ((with_reducible refine skip_at 61 ?_ ?_ ?_); exact rfl; kernel_rfl) | ((with_reducible refine skip_at 62 ?_ ?_ ?_); exact rfl; kernel_rfl) | ((with_reducible refine skip_at 63 ?_ ?_ ?_); exact rfl; kernel_rfl) | ((with_reducible refine skip_at 64 ?_ ?_ ?_); exact rfl; kernel_rfl) | ((with_reducible refine skip_at 65 ?_ ?_ ?_); exact rfl; kernel_rfl) | ((with_reducible refine skip_at 66 ?_ ?_ ?_); exact rfl; kernel_rfl) | ((with_reducible refine wpList_load_field ?_ _ (.tmp 38) ?_ _ 7 ?_ _ _ KB.out (.int .i64 phase) ?_ one_int ?_); rotate_left; exact rfl; exact rfl; exact rfl; rotate_left; exact rfl))
    all_goals go_ret
    all_goals exact ⟨rfl, HB2.out⟩
  have d6 : decide (1 ≤ phase) = true := by simp only [decide_eq_true_eq]; omega
  by_cases c7 : phase ≤ 4
  case neg =>
    have k : ¬ phase ≤ 4 := by omega
    have d : decide (phase ≤ 4) = false := by simp only [decide_eq_false_iff_not]; omega
    have e : Z = false := by rw [← HZ.out]; simp only [decide_eq_false_iff_not]; rintro ⟨_, _, _, _, _, _, _, _, _, _, _⟩; omega
    subst e
    clear HZ
    go_upto_region 4 with (first | ((with_reducible refine wpList_load_field_g ?_ _ (.tmp 14) ?_ _ 0 ?_ _ _ KB.out (.int .i64 id) ?_ one_int ?_); rotate_left; exact rfl; exact rfl; exact rfl; rotate_left; kernel_rfl) | ((with_reducible refine wpList_load_field_g ?_ _ (.tmp 19) ?_ _ 2 ?_ _ _ KB.out (.int .i64 count) ?_ one_int ?_); rotate_left; exact rfl; exact rfl; exact rfl; rotate_left; kernel_rfl) | ((with_reducible refine wpList_load_field_g ?_ _ (.tmp 24) ?_ _ 2 ?_ _ _ KB.out (.int .i64 count) ?_ one_int ?_); rotate_left; exact rfl; exact rfl; exact rfl; rotate_left; kernel_rfl) | ((with_reducible refine wpList_load_field_g ?_ _ (.tmp 29) ?_ _ 10 ?_ _ _ KB.out (.int .i64 tries) ?_ one_int ?_); rotate_left; exact rfl; exact rfl; exact rfl; rotate_left; kernel_rfl) | ((with_reducible refine wpList_load_field_g ?_ _ (.tmp 34) ?_ _ 10 ?_ _ _ KB.out (.int .i64 tries) ?_ one_int ?_); rotate_left; exact rfl; exact rfl; exact rfl; rotate_left; kernel_rfl))
    go_wp2_with (first | ((with_reducible refine skip_at 47 ?_ ?_ ?_); exact rfl; kernel_rfl) | ((with_reducible refine skip_at 48 ?_ ?_ ?_); exact rfl; kernel_rfl) | ((with_reducible refine skip_at 49 ?_ ?_ ?_); exact rfl; kernel_rfl) | ((with_reducible refine skip_at 50 ?_ ?_ ?_); exact rfl; kernel_rfl) | ((with_reducible refine skip_at 53 ?_ ?_ ?_); exact rfl; kernel_rfl) | ((with_reducible refine skip_at 54 ?_ ?_ ?_); exact rfl; kernel_rfl) | ((with_reducible refine skip_at 55 ?_ ?_ ?_); exact rfl; kernel_rfl) | ((with_reducible refine skip_at 56 ?_ ?_ ?_); exact rfl; kernel_rfl) | ((with_reducible refine skip_at 59 ?_ ?_ ?_); exact rfl; kernel_rfl) | ((with_reducible refine skip_at 60 ?_ ?_ ?_); exact rfl; kernel_rfl) | ((with_reducible refine skip_at 61 ?_ ?_ ?_); exact rfl; kernel_rfl) | ((with_reducible refine skip_at 62 ?_ ?_ ?_); exact rfl; kernel_rfl) | ((with_reducible refine skip_at 63 ?_ ?_ ?_); exact rfl; kernel_rfl) | ((with_reducible refine skip_at 64 ?_ ?_ ?_); exact rfl; kernel_rfl) | ((with_reducible refine skip_at 65 ?_ ?_ ?_); exact rfl; kernel_rfl) | ((with_reducible refine skip_at 66 ?_ ?_ ?_); exact rfl; kernel_rfl) | ((with_reducible refine wpList_load_field ?_ _ (.tmp 38) ?_ _ 7 ?_ _ _ KB.out (.int .i64 phase) ?_ one_int ?_); rotate_left; exact rfl; exact rfl; exact rfl; rotate_left; exact rfl) | ((with_reducible refine wpList_load_field_g ?_ _ (.tmp 42) ?_ _ 7 ?_ _ _ KB.out (.int .i64 phase) ?_ one_int ?_); rotate_left; exact rfl; exact rfl; exact rfl; rotate_left; kernel_rfl))
    all_goals go_ret
    all_goals exact ⟨rfl, HB2.out⟩
  have d7 : decide (phase ≤ 4) = true := by simp only [decide_eq_true_eq]; omega
  by_cases c8 : (so.n : Int) ≤ 32
  case neg =>
    have k : ¬ (so.n : Int) ≤ 32 := by omega
    have d : decide ((so.n : Int) ≤ 32) = false := by simp only [decide_eq_false_iff_not]; omega
    have e : Z = false := by rw [← HZ.out]; simp only [decide_eq_false_iff_not]; rintro ⟨_, _, _, _, _, _, _, _, _, _, _⟩; omega
    subst e
    clear HZ
    go_upto_region 4 with (first | ((with_reducible refine wpList_load_field_g ?_ _ (.tmp 14) ?_ _ 0 ?_ _ _ KB.out (.int .i64 id) ?_ one_int ?_); rotate_left; exact rfl; exact rfl; exact rfl; rotate_left; kernel_rfl) | ((with_reducible refine wpList_load_field_g ?_ _ (.tmp 19) ?_ _ 2 ?_ _ _ KB.out (.int .i64 count) ?_ one_int ?_); rotate_left; exact rfl; exact rfl; exact rfl; rotate_left; kernel_rfl) | ((with_reducible refine wpList_load_field_g ?_ _ (.tmp 24) ?_ _ 2 ?_ _ _ KB.out (.int .i64 count) ?_ one_int ?_); rotate_left; exact rfl; exact rfl; exact rfl; rotate_left; kernel_rfl) | ((with_reducible refine wpList_load_field_g ?_ _ (.tmp 29) ?_ _ 10 ?_ _ _ KB.out (.int .i64 tries) ?_ one_int ?_); rotate_left; exact rfl; exact rfl; exact rfl; rotate_left; kernel_rfl) | ((with_reducible refine wpList_load_field_g ?_ _ (.tmp 34) ?_ _ 10 ?_ _ _ KB.out (.int .i64 tries) ?_ one_int ?_); rotate_left; exact rfl; exact rfl; exact rfl; rotate_left; kernel_rfl))
    go_wp2_with (first | ((with_reducible refine skip_at 53 ?_ ?_ ?_); exact rfl; kernel_rfl) | ((with_reducible refine skip_at 54 ?_ ?_ ?_); exact rfl; kernel_rfl) | ((with_reducible refine skip_at 55 ?_ ?_ ?_); exact rfl; kernel_rfl) | ((with_reducible refine skip_at 56 ?_ ?_ ?_); exact rfl; kernel_rfl) | ((with_reducible refine skip_at 59 ?_ ?_ ?_); exact rfl; kernel_rfl) | ((with_reducible refine skip_at 60 ?_ ?_ ?_); exact rfl; kernel_rfl) | ((with_reducible refine skip_at 61 ?_ ?_ ?_); exact rfl; kernel_rfl) | ((with_reducible refine skip_at 62 ?_ ?_ ?_); exact rfl; kernel_rfl) | ((with_reducible refine skip_at 63 ?_ ?_ ?_); exact rfl; kernel_rfl) | ((with_reducible refine skip_at 64 ?_ ?_ ?_); exact rfl; kernel_rfl) | ((with_reducible refine skip_at 65 ?_ ?_ ?_); exact rfl; kernel_rfl) | ((with_reducible refine skip_at 66 ?_ ?_ ?_); exact rfl; kernel_rfl) | ((with_reducible refine wpList_load_field ?_ _ (.tmp 38) ?_ _ 7 ?_ _ _ KB.out (.int .i64 phase) ?_ one_int ?_); rotate_left; exact rfl; exact rfl; exact rfl; rotate_left; exact rfl) | ((with_reducible refine wpList_load_field_g ?_ _ (.tmp 42) ?_ _ 7 ?_ _ _ KB.out (.int .i64 phase) ?_ one_int ?_); rotate_left; exact rfl; exact rfl; exact rfl; rotate_left; kernel_rfl) | ((with_reducible refine wpList_load_field_g ?_ _ (.tmp 47) ?_ _ 11 ?_ _ _ KB.out (.slice so.a so.n so.c) ?_ one_lists ?_); rotate_left; exact rfl; exact rfl; exact rfl; rotate_left; kernel_rfl))
    all_goals go_ret
    all_goals exact ⟨rfl, HB2.out⟩
  have d8 : decide ((so.n : Int) ≤ 32) = true := by simp only [decide_eq_true_eq]; omega
  by_cases c9 : (su.n : Int) ≤ 32
  case neg =>
    have k : ¬ (su.n : Int) ≤ 32 := by omega
    have d : decide ((su.n : Int) ≤ 32) = false := by simp only [decide_eq_false_iff_not]; omega
    have e : Z = false := by rw [← HZ.out]; simp only [decide_eq_false_iff_not]; rintro ⟨_, _, _, _, _, _, _, _, _, _, _⟩; omega
    subst e
    clear HZ
    go_upto_region 4 with (first | ((with_reducible refine wpList_load_field_g ?_ _ (.tmp 14) ?_ _ 0 ?_ _ _ KB.out (.int .i64 id) ?_ one_int ?_); rotate_left; exact rfl; exact rfl; exact rfl; rotate_left; kernel_rfl) | ((with_reducible refine wpList_load_field_g ?_ _ (.tmp 19) ?_ _ 2 ?_ _ _ KB.out (.int .i64 count) ?_ one_int ?_); rotate_left; exact rfl; exact rfl; exact rfl; rotate_left; kernel_rfl) | ((with_reducible refine wpList_load_field_g ?_ _ (.tmp 24) ?_ _ 2 ?_ _ _ KB.out (.int .i64 count) ?_ one_int ?_); rotate_left; exact rfl; exact rfl; exact rfl; rotate_left; kernel_rfl) | ((with_reducible refine wpList_load_field_g ?_ _ (.tmp 29) ?_ _ 10 ?_ _ _ KB.out (.int .i64 tries) ?_ one_int ?_); rotate_left; exact rfl; exact rfl; exact rfl; rotate_left; kernel_rfl) | ((with_reducible refine wpList_load_field_g ?_ _ (.tmp 34) ?_ _ 10 ?_ _ _ KB.out (.int .i64 tries) ?_ one_int ?_); rotate_left; exact rfl; exact rfl; exact rfl; rotate_left; kernel_rfl))
    go_wp2_with (first | ((with_reducible refine skip_at 59 ?_ ?_ ?_); exact rfl; kernel_rfl) | ((with_reducible refine skip_at 60 ?_ ?_ ?_); exact rfl; kernel_rfl) | ((with_reducible refine skip_at 61 ?_ ?_ ?_); exact rfl; kernel_rfl) | ((with_reducible refine skip_at 62 ?_ ?_ ?_); exact rfl; kernel_rfl) | ((with_reducible refine skip_at 63 ?_ ?_ ?_); exact rfl; kernel_rfl) | ((with_reducible refine skip_at 64 ?_ ?_ ?_); exact rfl; kernel_rfl) | ((with_reducible refine skip_at 65 ?_ ?_ ?_); exact rfl; kernel_rfl) | ((with_reducible refine skip_at 66 ?_ ?_ ?_); exact rfl; kernel_rfl) | ((with_reducible refine wpList_load_field ?_ _ (.tmp 38) ?_ _ 7 ?_ _ _ KB.out (.int .i64 phase) ?_ one_int ?_); rotate_left; exact rfl; exact rfl; exact rfl; rotate_left; exact rfl) | ((with_reducible refine wpList_load_field_g ?_ _ (.tmp 42) ?_ _ 7 ?_ _ _ KB.out (.int .i64 phase) ?_ one_int ?_); rotate_left; exact rfl; exact rfl; exact rfl; rotate_left; kernel_rfl) | ((with_reducible refine wpList_load_field_g ?_ _ (.tmp 47) ?_ _ 11 ?_ _ _ KB.out (.slice so.a so.n so.c) ?_ one_lists ?_); rotate_left; exact rfl; exact rfl; exact rfl; rotate_left; kernel_rfl) | ((with_reducible refine wpList_load_field_g ?_ _ (.tmp 53) ?_ _ 12 ?_ _ _ KB.out (.slice su.a su.n su.c) ?_ one_lists ?_); rotate_left; exact rfl; exact rfl; exact rfl; rotate_left; kernel_rfl))
    all_goals go_ret
    all_goals exact ⟨rfl, HB2.out⟩
  have d9 : decide ((su.n : Int) ≤ 32) = true := by simp only [decide_eq_true_eq]; omega
  by_cases c10 : 0 < tries
  · have d10 : decide (0 < tries) = true := by simp only [decide_eq_true_eq]; omega
    have e : Z = true := by rw [← HZ.out]; exact decide_eq_true ⟨rfl, by omega, by omega, by omega, by omega, by omega, by omega, by omega, by omega, by omega, .inl c10⟩
    subst e
    clear HZ
    go_upto_region 4 with (first | ((with_reducible refine wpList_load_field_g ?_ _ (.tmp 14) ?_ _ 0 ?_ _ _ KB.out (.int .i64 id) ?_ one_int ?_); rotate_left; exact rfl; exact rfl; exact rfl; rotate_left; kernel_rfl) | ((with_reducible refine wpList_load_field_g ?_ _ (.tmp 19) ?_ _ 2 ?_ _ _ KB.out (.int .i64 count) ?_ one_int ?_); rotate_left; exact rfl; exact rfl; exact rfl; rotate_left; kernel_rfl) | ((with_reducible refine wpList_load_field_g ?_ _ (.tmp 24) ?_ _ 2 ?_ _ _ KB.out (.int .i64 count) ?_ one_int ?_); rotate_left; exact rfl; exact rfl; exact rfl; rotate_left; kernel_rfl) | ((with_reducible refine wpList_load_field_g ?_ _ (.tmp 29) ?_ _ 10 ?_ _ _ KB.out (.int .i64 tries) ?_ one_int ?_); rotate_left; exact rfl; exact rfl; exact rfl; rotate_left; kernel_rfl) | ((with_reducible refine wpList_load_field_g ?_ _ (.tmp 34) ?_ _ 10 ?_ _ _ KB.out (.int .i64 tries) ?_ one_int ?_); rotate_left; exact rfl; exact rfl; exact rfl; rotate_left; kernel_rfl))
    go_wp2_with (first | ((with_reducible refine wpList_load_field ?_ _ (.tmp 38) ?_ _ 7 ?_ _ _ KB.out (.int .i64 phase) ?_ one_int ?_); rotate_left; exact rfl; exact rfl; exact rfl; rotate_left; exact rfl) | ((with_reducible refine wpList_load_field_g ?_ _ (.tmp 42) ?_ _ 7 ?_ _ _ KB.out (.int .i64 phase) ?_ one_int ?_); rotate_left; exact rfl; exact rfl; exact rfl; rotate_left; kernel_rfl) | ((with_reducible refine wpList_load_field_g ?_ _ (.tmp 47) ?_ _ 11 ?_ _ _ KB.out (.slice so.a so.n so.c) ?_ one_lists ?_); rotate_left; exact rfl; exact rfl; exact rfl; rotate_left; kernel_rfl) | ((with_reducible refine wpList_load_field_g ?_ _ (.tmp 53) ?_ _ 12 ?_ _ _ KB.out (.slice su.a su.n su.c) ?_ one_lists ?_); rotate_left; exact rfl; exact rfl; exact rfl; rotate_left; kernel_rfl) | ((with_reducible refine wpList_load_field_g ?_ _ (.tmp 59) ?_ _ 10 ?_ _ _ KB.out (.int .i64 tries) ?_ one_int ?_); rotate_left; exact rfl; exact rfl; exact rfl; rotate_left; kernel_rfl))
    all_goals go_ret
    all_goals exact ⟨rfl, HB2.out⟩
  · have k : ¬ 0 < tries := c10
    have d10 : decide (0 < tries) = false := by simp only [decide_eq_false_iff_not]; omega
    cases flight with
    | false =>
      have e : Z = true := by rw [← HZ.out]; exact decide_eq_true ⟨rfl, by omega, by omega, by omega, by omega, by omega, by omega, by omega, by omega, by omega, .inr rfl⟩
      subst e
      clear HZ
      go_upto_region 4 with (first | ((with_reducible refine wpList_load_field_g ?_ _ (.tmp 14) ?_ _ 0 ?_ _ _ KB.out (.int .i64 id) ?_ one_int ?_); rotate_left; exact rfl; exact rfl; exact rfl; rotate_left; kernel_rfl) | ((with_reducible refine wpList_load_field_g ?_ _ (.tmp 19) ?_ _ 2 ?_ _ _ KB.out (.int .i64 count) ?_ one_int ?_); rotate_left; exact rfl; exact rfl; exact rfl; rotate_left; kernel_rfl) | ((with_reducible refine wpList_load_field_g ?_ _ (.tmp 24) ?_ _ 2 ?_ _ _ KB.out (.int .i64 count) ?_ one_int ?_); rotate_left; exact rfl; exact rfl; exact rfl; rotate_left; kernel_rfl) | ((with_reducible refine wpList_load_field_g ?_ _ (.tmp 29) ?_ _ 10 ?_ _ _ KB.out (.int .i64 tries) ?_ one_int ?_); rotate_left; exact rfl; exact rfl; exact rfl; rotate_left; kernel_rfl) | ((with_reducible refine wpList_load_field_g ?_ _ (.tmp 34) ?_ _ 10 ?_ _ _ KB.out (.int .i64 tries) ?_ one_int ?_); rotate_left; exact rfl; exact rfl; exact rfl; rotate_left; kernel_rfl))
      go_wp2_with (first | ((with_reducible refine wpList_load_field ?_ _ (.tmp 38) ?_ _ 7 ?_ _ _ KB.out (.int .i64 phase) ?_ one_int ?_); rotate_left; exact rfl; exact rfl; exact rfl; rotate_left; exact rfl) | ((with_reducible refine wpList_load_field_g ?_ _ (.tmp 42) ?_ _ 7 ?_ _ _ KB.out (.int .i64 phase) ?_ one_int ?_); rotate_left; exact rfl; exact rfl; exact rfl; rotate_left; kernel_rfl) | ((with_reducible refine wpList_load_field_g ?_ _ (.tmp 47) ?_ _ 11 ?_ _ _ KB.out (.slice so.a so.n so.c) ?_ one_lists ?_); rotate_left; exact rfl; exact rfl; exact rfl; rotate_left; kernel_rfl) | ((with_reducible refine wpList_load_field_g ?_ _ (.tmp 53) ?_ _ 12 ?_ _ _ KB.out (.slice su.a su.n su.c) ?_ one_lists ?_); rotate_left; exact rfl; exact rfl; exact rfl; rotate_left; kernel_rfl) | ((with_reducible refine wpList_load_field_g ?_ _ (.tmp 59) ?_ _ 10 ?_ _ _ KB.out (.int .i64 tries) ?_ one_int ?_); rotate_left; exact rfl; exact rfl; exact rfl; rotate_left; kernel_rfl) | ((with_reducible refine wpList_load_field_g ?_ _ (.tmp 63) ?_ _ 9 ?_ _ _ KB.out (.bool false) ?_ one_bool ?_); rotate_left; exact rfl; exact rfl; exact rfl; rotate_left; kernel_rfl))
      all_goals go_ret
      all_goals exact ⟨rfl, HB2.out⟩
    | true =>
      have e : Z = false := by rw [← HZ.out]; simp only [decide_eq_false_iff_not]; rintro ⟨_, _, _, _, _, _, _, _, _, _, h | h⟩; exact absurd h k; cases h
      subst e
      clear HZ
      go_upto_region 4 with (first | ((with_reducible refine wpList_load_field_g ?_ _ (.tmp 14) ?_ _ 0 ?_ _ _ KB.out (.int .i64 id) ?_ one_int ?_); rotate_left; exact rfl; exact rfl; exact rfl; rotate_left; kernel_rfl) | ((with_reducible refine wpList_load_field_g ?_ _ (.tmp 19) ?_ _ 2 ?_ _ _ KB.out (.int .i64 count) ?_ one_int ?_); rotate_left; exact rfl; exact rfl; exact rfl; rotate_left; kernel_rfl) | ((with_reducible refine wpList_load_field_g ?_ _ (.tmp 24) ?_ _ 2 ?_ _ _ KB.out (.int .i64 count) ?_ one_int ?_); rotate_left; exact rfl; exact rfl; exact rfl; rotate_left; kernel_rfl) | ((with_reducible refine wpList_load_field_g ?_ _ (.tmp 29) ?_ _ 10 ?_ _ _ KB.out (.int .i64 tries) ?_ one_int ?_); rotate_left; exact rfl; exact rfl; exact rfl; rotate_left; kernel_rfl) | ((with_reducible refine wpList_load_field_g ?_ _ (.tmp 34) ?_ _ 10 ?_ _ _ KB.out (.int .i64 tries) ?_ one_int ?_); rotate_left; exact rfl; exact rfl; exact rfl; rotate_left; kernel_rfl))
      go_wp2_with (first | ((with_reducible refine wpList_load_field ?_ _ (.tmp 38) ?_ _ 7 ?_ _ _ KB.out (.int .i64 phase) ?_ one_int ?_); rotate_left; exact rfl; exact rfl; exact rfl; rotate_left; exact rfl) | ((with_reducible refine wpList_load_field_g ?_ _ (.tmp 42) ?_ _ 7 ?_ _ _ KB.out (.int .i64 phase) ?_ one_int ?_); rotate_left; exact rfl; exact rfl; exact rfl; rotate_left; kernel_rfl) | ((with_reducible refine wpList_load_field_g ?_ _ (.tmp 47) ?_ _ 11 ?_ _ _ KB.out (.slice so.a so.n so.c) ?_ one_lists ?_); rotate_left; exact rfl; exact rfl; exact rfl; rotate_left; kernel_rfl) | ((with_reducible refine wpList_load_field_g ?_ _ (.tmp 53) ?_ _ 12 ?_ _ _ KB.out (.slice su.a su.n su.c) ?_ one_lists ?_); rotate_left; exact rfl; exact rfl; exact rfl; rotate_left; kernel_rfl) | ((with_reducible refine wpList_load_field_g ?_ _ (.tmp 59) ?_ _ 10 ?_ _ _ KB.out (.int .i64 tries) ?_ one_int ?_); rotate_left; exact rfl; exact rfl; exact rfl; rotate_left; kernel_rfl) | ((with_reducible refine wpList_load_field_g ?_ _ (.tmp 63) ?_ _ 9 ?_ _ _ KB.out (.bool true) ?_ one_bool ?_); rotate_left; exact rfl; exact rfl; exact rfl; rotate_left; kernel_rfl))
      all_goals go_ret
      all_goals exact ⟨rfl, HB2.out⟩
end Go.Proofs.YteaiadpigpehaaaGreatDoor
