/-
  A call that a script asks for: one row of cells.
  annalsref10.Story walked.
  annalslaw10.asked walked: it answers true.
  Conditions: as each theorem says. (Joined by wip/tools/pack.py.)
-/
import Derived.Test.YteaiadpigpehaaaGreatDoorPkReg
import Derived.Test.YteaiadpigpehaaaGreatDoorPkLaw
import Derived.Test.YteaiadpigpehaaaGreatDoorPkAsks
import Derived.Deep.DeepCutAuto
import Derived.Deep.CutBlock
import Derived.BigRegion
import Derived.Test.YteaiadpigpehaaaGreatDoorBoth
namespace Go.Proofs.YteaiadpigpehaaaGreatDoor
open Go.RowKit

structure OpV where
  k : Int
  s : SagaV
  r : RecV
structure OpD where
  k : Int
  s : SagaD
  r : RecD
def opArr (o : OpV) : Array Value := #[.int .i64 o.k, .int .i64 o.s.id, .string o.s.name, .int .i64 o.s.count, .int .i64 o.s.pivot, .int .i64 o.s.begun, .int .i64 o.s.at_, o.s.input.v, .int .i64 o.s.phase, .int .i64 o.s.next, .bool o.s.flight, .int .i64 o.s.tries, o.s.outs.v, o.s.undos.v, .int .i64 o.s.failStep, .int .i64 o.s.failCode, o.s.fail.v, .int .i64 o.r.v, .int .i64 o.r.kind, .int .i64 o.r.saga, .int .i64 o.r.step, .int .i64 o.r.try_, .int .i64 o.r.at_, .int .i64 o.r.last, .int .i64 o.r.code, .int .i64 o.r.count, .int .i64 o.r.pivot, .string o.r.name, o.r.data.v]
@[reducible] def OpV.val (o : OpV) : Value := .agg (opArr o)
theorem op_parts (o : OpV) : opArr o = #[Value.int .i64 o.k] ++ sagaArr o.s ++ recArr o.r := by
  simp [opArr, sagaArr, recArr]
theorem op_saga (o : OpV) : ∀ i, i < (sagaArr o.s).size → (opArr o)[1 + i]? = (sagaArr o.s)[i]? := by
  intro i hi
  have h16 : (sagaArr o.s).size = 16 := rfl
  rw [op_parts, Array.getElem?_append_left (by simp; omega), Array.getElem?_append_right (by simp)]
  simp
theorem app3 (a b c : Array Value) (ha : a.size = 1) (hb : b.size = 16) (i : Nat) : (a ++ b ++ c)[17 + i]? = c[i]? := by
  have hs : (a ++ b).size = 17 := by rw [Array.size_append, ha, hb]
  rw [Array.getElem?_append_right (by omega), hs]
  congr 1
  omega
theorem op_rec (o : OpV) : ∀ i, i < (recArr o.r).size → (opArr o)[17 + i]? = (recArr o.r)[i]? := by
  intro i _
  rw [op_parts]
  exact app3 _ _ _ rfl rfl i
theorem rowOp : RowTy Tryz.prog 37 29 := RowTy.mk' Tryz.underlying37 rfl (by kernel_rfl)
structure OpRd (w : World) (o : OpV) (O : OpD) : Prop where
  k : o.k = O.k
  s : SagaRd w o.s O.s
  r : RecRd w o.r O.r
theorem OpRd.below {w w' : World} {o : OpV} {O : OpD} (h : OpRd w o O) (hb : Below w.heap.size w w') : OpRd w' o O := ⟨h.k, h.s.below hb, h.r.below hb⟩
/-- A call in its box. -/
structure OpAt (w wr : World) (g : Nat) (o : OpV) (O : OpD) : Prop where
  blk : BlkAt wr g (opArr o) 37
  rd : OpRd wr o O
  below : Below w.heap.size w wr
theorem OpAt.bl {w wr w' : World} {g : Nat} {o : OpV} {O : OpD} (h : OpAt w wr g o O) (hb : Below wr.heap.size wr w') : OpAt w w' g o O := ⟨h.blk.below hb (Array.getElem?_eq_some_iff.1 h.blk).1, h.rd.below hb, then_ h.below hb⟩
theorem OpAt.new {w : World} {o : OpV} {O : OpD} (h : OpRd w o O) : OpAt w (w.alloc (.cells (opArr o) 37)) w.heap.size o O :=
  ⟨BlkAt.new w _ _, h.below (boxd (Below.refl _ _)), boxd (Below.refl _ _)⟩
end Go.Proofs.YteaiadpigpehaaaGreatDoor
namespace Go.Proofs.YteaiadpigpehaaaGreatDoor
open Go.RowKit

set_option maxRecDepth 10000000 in
set_option maxHeartbeats 4000000 in
theorem ref10Story_any (s : SagaV) (D : SagaD) (w : World) (ht : RefTabs w) (hs : SagaRd w s D) (hf : RefSaga D) :
    Calls Tryz.prog 29 #[s.val] w fun e w' => ∃ v : Value, e = .returned (.tuple #[v, .int .i64 (checkD D)]) ∧ OwnRecs w' w.heap.size v (if checkD D = 0 then storyL D else []) ∧ Below w.heap.size w w' := by
  have k0 := BlkAt.new w (sagaArr s) 29
  have hb1 := boxd (o := .cells (sagaArr s) 29) (Below.refl w.heap.size w)
  have cC := Lib.hid (ref10Check_any s D _ (ht.below hb1) (hs.below hb1) hf.small hf.name hf.begun hf.at_ hf.told)
  have cT : checkD D = 0 → ∀ W, Below w.heap.size w W → Calls Tryz.prog 54 #[s.val] W fun e w' => ∃ v, e = .returned v ∧ OwnRecs w' W.heap.size v (storyL D) ∧ Below W.heap.size W w' := fun h W hW => by
    have hg := (checkD_iff D).1 h
    have := hf.told hg.sized s W (hs.below hW)
    rwa [tellW_eq hg] at this
  have CT := Lib.hid cT
  have HB := Lib.hid hb1
  have hor := checkD_or D
  obtain ⟨L, hL⟩ : ∃ q, storyL D = q := ⟨_, rfl⟩
  rw [hL] at CT ⊢
  obtain ⟨C, hC⟩ : ∃ q, checkD D = q := ⟨_, rfl⟩
  rw [hC] at cC CT hor ⊢
  clear hL hC hs ht hf hb1 cT
  dsimp only [SagaV.val, Sl.v] at CT cC ⊢
  go_enter Tryz.func29, Tryz.ntmps29
  go_wp2_with (refine wpList_load_blk rfl _ _ rfl _ rfl _ _ k0 rowSaga ?_)
  refine cC.out.mono ?_
  rintro e w2 ⟨rfl, hb⟩
  have KB := Lib.hid (k0.below hb (by simp))
  have HB2 := Lib.hid (then_ HB.out hb)
  clear hb k0 HB cC
  rcases hor with rfl | rfl
  · go_wp2_with (refine wpList_load_blk rfl _ _ rfl _ rfl _ _ KB.out rowSaga ?_)
    refine (CT.out trivial _ HB2.out).mono ?_
    rintro e w3 ⟨v, rfl, ho, hb⟩
    have HO := Lib.hid (ho.lower HB2.out.size)
    have HB3 := Lib.hid (then_ HB2.out hb)
    clear ho hb
    go_wp2
    all_goals go_ret2
    all_goals exact ⟨v, rfl, HO.out, HB3.out⟩
  · go_wp2
    all_goals go_ret2
    all_goals exact ⟨_, rfl, OwnRecs.nil _ _, HB2.out⟩
end Go.Proofs.YteaiadpigpehaaaGreatDoor
namespace Go.Proofs.YteaiadpigpehaaaGreatDoor
open Go.RowKit

theorem pending_len (D : SagaD) : (pendingD D).length ≤ 1000 := by
  unfold pendingD
  by_cases h : checkD D = 0
  · have hn := ((checkD_iff D).1 h).nextb
    rw [if_neg (by simp [h])]
    split
    · simp
    · simp; omega
  · rw [if_pos h]; simp

set_option maxRecDepth 10000000 in
set_option maxHeartbeats 8000000 in
theorem asked_any (o : OpV) (O : OpD) (w : World) (ht : Tables w) (hrt : RefTabs w) (ho : OpRd w o O) (fs : SagaFits O.s) (hf : RefSaga O.s) :
    Calls Tryz.prog 27 #[o.val] w fun e w' => e = .returned (.bool true) ∧ Below w.heap.size w w' := by
  have e0 : OpAt w (w.alloc (.cells (opArr o) 37)) w.heap.size o O := OpAt.new ho
  have E1 := Lib.hid e0
  have c1 := fun W (h : Below w.heap.size w W) => finished_any o.s O.s W (ht.tabs.below h) (ho.s.below h) fs
  have c2 := fun W (h : Below w.heap.size w W) => ref10Finished_any o.s O.s W (hrt.below h) (ho.s.below h) hf
  have c3 := fun W (h : Below w.heap.size w W) => allowed_any o.s O.s W (ht.tabs.below h) (ho.s.below h) fs
  have c4 := fun W (h : Below w.heap.size w W) => ref10Allowed_any o.s O.s W (hrt.below h) (ho.s.below h) hf
  have c5 := fun W (h : Below w.heap.size w W) => pending_any o.s O.s W (ht.tabs.below h) (ho.s.below h) fs
  have c6 := fun W (h : Below w.heap.size w W) => ref10Pending_any o.s O.s W (hrt.below h) (ho.s.below h) hf
  have c7 := fun W (h : Below w.heap.size w W) => sagaCheck_rd o.s O.s W (ht.tabs.below h) (ho.s.below h) fs
  have c8 := fun W (h : Below w.heap.size w W) => ref10Check_any o.s O.s W (hrt.below h) (ho.s.below h) hf.small hf.name hf.begun hf.at_ hf.told
  have hal : (allowedD O.s).length ≤ 2 := allowed_len O.s
  have hpl : (pendingD O.s).length ≤ 1000 := pending_len O.s
  have C1 := Lib.hid c1
  have C2 := Lib.hid c2
  have C3 := Lib.hid c3
  have C4 := Lib.hid c4
  have C5 := Lib.hid c5
  have C6 := Lib.hid c6
  have C7 := Lib.hid c7
  have C8 := Lib.hid c8
  clear c1 c2 c3 c4 c5 c6 c7 c8 ht hrt ho fs hf e0
  obtain ⟨F, hF⟩ : ∃ q, finishedD O.s = q := ⟨_, rfl⟩
  obtain ⟨A, hA⟩ : ∃ q, allowedD O.s = q := ⟨_, rfl⟩
  obtain ⟨P, hP⟩ : ∃ q, pendingD O.s = q := ⟨_, rfl⟩
  obtain ⟨N, hN⟩ : ∃ q, checkD O.s = q := ⟨_, rfl⟩
  rw [hF] at C1 C2
  rw [hA] at C3 C4 hal
  rw [hP] at C5 C6 hpl
  rw [hN] at C7 C8
  clear hF hA hP hN
  obtain ⟨k, hk⟩ : ∃ q, o.k = q := ⟨_, rfl⟩
  have hk0 : (opArr o)[0]? = some (.int .i64 k) := by rw [← hk]; rfl
  have HK := Lib.hid hk0
  clear hk hk0
  go_enter Tryz.func27, Tryz.ntmps27
  by_cases h3 : k = 3
  · subst h3
    go_wp2_with (first
            | ((with_reducible refine wpList_load_field ?_ _ (.tmp 11) ?_ w.heap.size 0 ?_ 37 (opArr o) E1.out.blk (.int .i64 3) ?_ one_int ?_); rotate_left; exact rfl; exact rfl; exact HK.out; rotate_left; exact rfl)
            | ((with_reducible refine wpList_load_part ?_ _ (.tmp 15) ?_ w.heap.size 1 ?_ 37 (opArr o) (sagaArr o.s) E1.out.blk (op_saga o) rowSaga ?_); rotate_left; exact rfl; exact rfl; rotate_left; exact rfl))
    refine (C1.out _ E1.out.below).mono ?_
    rintro e w2 ⟨rfl, hb⟩
    have E2 := Lib.hid (E1.out.bl hb)
    clear hb
    go_wp2_with ((with_reducible refine wpList_load_part ?_ _ (.tmp 18) ?_ w.heap.size 1 ?_ 37 (opArr o) (sagaArr o.s) E2.out.blk (op_saga o) rowSaga ?_); rotate_left; exact rfl; exact rfl; rotate_left; exact rfl)
    refine (C2.out _ E2.out.below).mono ?_
    rintro e w3 ⟨rfl, hb⟩
    have E3 := Lib.hid (E2.out.bl hb)
    clear hb
    go_wp2
    all_goals go_ret
    all_goals exact ⟨by simp, E3.out.below⟩
  · have n3 : (k == 3) = false := by rw [beq_eq_false_iff_ne]; exact h3
    by_cases h4 : k = 4
    · subst h4
      go_wp2_with (first
            | ((with_reducible refine wpList_load_field ?_ _ (.tmp 11) ?_ w.heap.size 0 ?_ 37 (opArr o) E1.out.blk (.int .i64 4) ?_ one_int ?_); rotate_left; exact rfl; exact rfl; exact HK.out; rotate_left; exact rfl)
            | ((with_reducible refine wpList_load_part ?_ _ (.tmp 26) ?_ w.heap.size 1 ?_ 37 (opArr o) (sagaArr o.s) E1.out.blk (op_saga o) rowSaga ?_); rotate_left; exact rfl; exact rfl; rotate_left; exact rfl))
      refine (C3.out _ E1.out.below).mono ?_
      rintro e w2 ⟨v, rfl, hov, hb⟩
      have E2 := Lib.hid (E1.out.bl hb)
      have HO := Lib.hid hov
      clear hb hov
      go_wp2_with ((with_reducible refine wpList_load_part ?_ _ (.tmp 29) ?_ w.heap.size 1 ?_ 37 (opArr o) (sagaArr o.s) E2.out.blk (op_saga o) rowSaga ?_); rotate_left; exact rfl; exact rfl; rotate_left; exact rfl)
      refine (C4.out _ E2.out.below).mono ?_
      rintro e w3 ⟨u, rfl, hou, hb⟩
      have E3 := Lib.hid (E2.out.bl hb)
      obtain ⟨s1, rfl, i1⟩ := (HO.out.through hb).at (by omega)
      obtain ⟨s2, rfl, i2⟩ := hou.at (by omega)
      have cS := sameInts_any s1 s2 A A w3 i1 i2
      have CS := Lib.hid cS
      clear hb hou i1 i2 HO cS
      go_wp2_with fail
      refine CS.out.mono ?_
      rintro e w4 ⟨rfl, hb⟩
      have E4 := Lib.hid (E3.out.bl (Drawn.below hb))
      clear hb
      go_wp2
      all_goals go_ret
      all_goals exact ⟨by simp, E4.out.below⟩
    · have n4 : (k == 4) = false := by rw [beq_eq_false_iff_ne]; exact h4
      by_cases h5 : k = 5
      · subst h5
        go_wp2_with (first
            | ((with_reducible refine wpList_load_field ?_ _ (.tmp 11) ?_ w.heap.size 0 ?_ 37 (opArr o) E1.out.blk (.int .i64 5) ?_ one_int ?_); rotate_left; exact rfl; exact rfl; exact HK.out; rotate_left; exact rfl)
            | ((with_reducible refine wpList_load_part ?_ _ (.tmp 37) ?_ w.heap.size 1 ?_ 37 (opArr o) (sagaArr o.s) E1.out.blk (op_saga o) rowSaga ?_); rotate_left; exact rfl; exact rfl; rotate_left; exact rfl))
        refine (C5.out _ E1.out.below).mono ?_
        rintro e w2 ⟨v, rfl, hov, hb⟩
        have E2 := Lib.hid (E1.out.bl hb)
        have HO := Lib.hid hov
        clear hb hov
        go_wp2_with ((with_reducible refine wpList_load_part ?_ _ (.tmp 40) ?_ w.heap.size 1 ?_ 37 (opArr o) (sagaArr o.s) E2.out.blk (op_saga o) rowSaga ?_); rotate_left; exact rfl; exact rfl; rotate_left; exact rfl)
        refine (C6.out _ E2.out.below).mono ?_
        rintro e w3 ⟨u, rfl, hou, hb⟩
        have E3 := Lib.hid (E2.out.bl hb)
        obtain ⟨s1, rfl, i1⟩ := (HO.out.through hb).at (by omega)
        obtain ⟨s2, rfl, i2⟩ := hou.at (by omega)
        have cS := sameInts_any s1 s2 P P w3 i1 i2
        have CS := Lib.hid cS
        clear hb hou i1 i2 HO cS
        go_wp2_with fail
        refine CS.out.mono ?_
        rintro e w4 ⟨rfl, hb⟩
        have E4 := Lib.hid (E3.out.bl (Drawn.below hb))
        clear hb
        go_wp2
        all_goals go_ret
        all_goals exact ⟨by simp, E4.out.below⟩
      · have n5 : (k == 5) = false := by rw [beq_eq_false_iff_ne]; exact h5
        go_wp2_with (first
            | ((with_reducible refine wpList_load_field ?_ _ (.tmp 11) ?_ w.heap.size 0 ?_ 37 (opArr o) E1.out.blk (.int .i64 k) ?_ one_int ?_); rotate_left; exact rfl; exact rfl; exact HK.out; rotate_left; exact rfl)
            | ((with_reducible refine wpList_load_part ?_ _ (.tmp 46) ?_ w.heap.size 1 ?_ 37 (opArr o) (sagaArr o.s) E1.out.blk (op_saga o) rowSaga ?_); rotate_left; exact rfl; exact rfl; rotate_left; exact rfl))
        refine (C7.out _ E1.out.below).mono ?_
        rintro e w2 ⟨rfl, hb⟩
        have E2 := Lib.hid (E1.out.bl hb)
        clear hb
        go_wp2_with ((with_reducible refine wpList_load_part ?_ _ (.tmp 49) ?_ w.heap.size 1 ?_ 37 (opArr o) (sagaArr o.s) E2.out.blk (op_saga o) rowSaga ?_); rotate_left; exact rfl; exact rfl; rotate_left; exact rfl)
        refine (C8.out _ E2.out.below).mono ?_
        rintro e w3 ⟨rfl, hb⟩
        have E3 := Lib.hid (E2.out.bl hb)
        clear hb
        go_wp2_with (go_at_call 18; (with_reducible refine (num_keep2 _ _).mono ?_); rintro e w9 ⟨rfl, rfl⟩)
        all_goals go_ret
        all_goals exact ⟨by simp, E3.out.below⟩
end Go.Proofs.YteaiadpigpehaaaGreatDoor
