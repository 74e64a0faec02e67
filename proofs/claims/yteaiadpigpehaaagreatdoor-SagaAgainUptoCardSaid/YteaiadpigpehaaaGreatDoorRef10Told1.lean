/-
  annalsref10.told walked for a saga that runs and has no step done. Conditions: bounds of a story. (Printed by wip/gen_ref10told.py.)
-/
import Derived.Test.YteaiadpigpehaaaGreatDoorPkRefLaid
namespace Go.Proofs.YteaiadpigpehaaaGreatDoor
open Go.RowKit

set_option maxRecDepth 10000000 in
set_option maxHeartbeats 8000000 in
theorem told_first (s : SagaV) (D : SagaD) (w : World) (hs : SagaRd w s D) (hm : D.held.Small) (hp : D.phase = 1) (hol : D.outs.length = 0) (hul : D.undos.length = 0) (htr : 0 ≤ D.tries ∧ D.tries ≤ 1000) :
    Calls Tryz.prog 54 #[s.val] w fun e w' => ∃ v, e = .returned v ∧ OwnRecs w' w.heap.size v (beginR D :: tellW D) ∧ Below w.heap.size w w' := by
  have k0 := BlkAt.new w (sagaArr s) 29
  have hb1 := boxd (o := .cells (sagaArr s) 29) (Below.refl w.heap.size w)
  obtain ⟨oa, on, oc, ua, un, uc, vs, us, ph, trs, nx, fst, flg, hX⟩ := lay_ctx hs hm
  have HX := Lib.hid hX
  have hon1 : on = 0 := by have := hX.qon; omega
  have hun1 : un = 0 := by have := hX.qun; omega
  have ht0 : 0 ≤ trs := by have := hX.qtrs; omega
  have ht1 : trs ≤ 1000 := by have := hX.qtrs; omega
  have hp1 : ph = 1 := by have := hX.qph; omega
  clear hs hX hp htr hol hul
  subst hp1
  obtain ⟨w1, hw1⟩ : ∃ q, w.alloc (.cells (sagaArr s) 29) = q := ⟨_, rfl⟩
  rw [hw1] at k0 hb1
  have hs1 : w.heap.size + 1 ≤ w1.heap.size := by rw [← hw1]; simp
  have KB := Lib.hid k0
  have HB := Lib.hid hb1
  dsimp only [sagaArr, Sl.v] at hw1
  have HW1 := Lib.hid hw1
  clear hw1 k0 hb1
  go_enter Tryz.func54, Tryz.ntmps54
  go_upto_region 1 with fail
  rw [HW1.out]
  clear HW1
  go_cut [3] (fun s3 wx => ∃ v : Value, v = s3 ∧ Hid (LaidSt w wx s v [beginR D]))
  case first =>
    refine wp_region_held_drew (S := (fun W => BlkAt W w.heap.size (sagaArr s) 29 ∧ Below w.heap.size w W)) (by kernel_rfl) ((show BlkAt w1.drew w.heap.size (sagaArr s) 29 ∧ Below w.heap.size w w1.drew from ⟨KB.out, HB.out.drew⟩)) (fun hHeld => ?_)
    refine wpAnyH_take (i := 0) (oi := { dst := some 9, op := Op.fieldAddr 29 (Operand.tmp 1) 0, type := 0, pos := "annalsref10.go:223", after := #[], guard := none }) (v := ?_) rfl (by kernel_rfl) (by kernel_rfl) (by kernel_rfl) (fun _ _ _ h => h) (Or.inl ⟨by rfl, ?_⟩) (by assumption) ?_
    rotate_left 1
    focus (intro w hSw; (try clear hSw); go_simp; try (with_reducible rfl))
    try go_frame
    refine wpAnyH_take (i := 1) (oi := { dst := some 10, op := Op.load 3 (Operand.tmp 9), type := 3, pos := "annalsref10.go:223", after := #[{ on := 0, ground := Ground.data }], guard := none }) (v := .int .i64 D.id) rfl (by kernel_rfl) (by kernel_rfl) (by kernel_rfl) (fun _ _ _ h => h) (yl_cell rfl _ _ rfl _ rfl (.int .i64 D.id) (fun w' h => (h.1.cell 0).trans HX.out.h0) one_int) (by assumption) ?_
    try go_frame
    refine wpAnyH_take (i := 2) (oi := { dst := some 11, op := Op.fieldAddr 29 (Operand.tmp 1) 4, type := 0, pos := "annalsref10.go:223", after := #[], guard := none }) (v := ?_) rfl (by kernel_rfl) (by kernel_rfl) (by kernel_rfl) (fun _ _ _ h => h) (Or.inl ⟨by rfl, ?_⟩) (by assumption) ?_
    rotate_left 1
    focus (intro w hSw; (try clear hSw); go_simp; try (with_reducible rfl))
    try go_frame
    refine wpAnyH_take (i := 3) (oi := { dst := some 12, op := Op.load 3 (Operand.tmp 11), type := 3, pos := "annalsref10.go:223", after := #[{ on := 2, ground := Ground.data }], guard := none }) (v := .int .i64 D.begun) rfl (by kernel_rfl) (by kernel_rfl) (by kernel_rfl) (fun _ _ _ h => h) (yl_cell rfl _ _ rfl _ rfl (.int .i64 D.begun) (fun w' h => (h.1.cell 4).trans HX.out.h4) one_int) (by assumption) ?_
    try go_frame
    refine wpAnyH_take (i := 4) (oi := { dst := some 13, op := Op.fieldAddr 29 (Operand.tmp 1) 2, type := 0, pos := "annalsref10.go:223", after := #[], guard := none }) (v := ?_) rfl (by kernel_rfl) (by kernel_rfl) (by kernel_rfl) (fun _ _ _ h => h) (Or.inl ⟨by rfl, ?_⟩) (by assumption) ?_
    rotate_left 1
    focus (intro w hSw; (try clear hSw); go_simp; try (with_reducible rfl))
    try go_frame
    refine wpAnyH_take (i := 5) (oi := { dst := some 14, op := Op.load 3 (Operand.tmp 13), type := 3, pos := "annalsref10.go:223", after := #[{ on := 4, ground := Ground.data }], guard := none }) (v := .int .i64 D.count) rfl (by kernel_rfl) (by kernel_rfl) (by kernel_rfl) (fun _ _ _ h => h) (yl_cell rfl _ _ rfl _ rfl (.int .i64 D.count) (fun w' h => (h.1.cell 2).trans HX.out.h2) one_int) (by assumption) ?_
    try go_frame
    refine wpAnyH_take (i := 6) (oi := { dst := some 15, op := Op.fieldAddr 29 (Operand.tmp 1) 3, type := 0, pos := "annalsref10.go:223", after := #[], guard := none }) (v := ?_) rfl (by kernel_rfl) (by kernel_rfl) (by kernel_rfl) (fun _ _ _ h => h) (Or.inl ⟨by rfl, ?_⟩) (by assumption) ?_
    rotate_left 1
    focus (intro w hSw; (try clear hSw); go_simp; try (with_reducible rfl))
    try go_frame
    refine wpAnyH_take (i := 7) (oi := { dst := some 16, op := Op.load 3 (Operand.tmp 15), type := 3, pos := "annalsref10.go:223", after := #[{ on := 6, ground := Ground.data }], guard := none }) (v := .int .i64 D.pivot) rfl (by kernel_rfl) (by kernel_rfl) (by kernel_rfl) (fun _ _ _ h => h) (yl_cell rfl _ _ rfl _ rfl (.int .i64 D.pivot) (fun w' h => (h.1.cell 3).trans HX.out.h3) one_int) (by assumption) ?_
    try go_frame
    refine wpAnyH_take (i := 8) (oi := { dst := some 17, op := Op.fieldAddr 29 (Operand.tmp 1) 1, type := 0, pos := "annalsref10.go:223", after := #[], guard := none }) (v := ?_) rfl (by kernel_rfl) (by kernel_rfl) (by kernel_rfl) (fun _ _ _ h => h) (Or.inl ⟨by rfl, ?_⟩) (by assumption) ?_
    rotate_left 1
    focus (intro w hSw; (try clear hSw); go_simp; try (with_reducible rfl))
    try go_frame
    refine wpAnyH_take (i := 9) (oi := { dst := some 18, op := Op.load 9 (Operand.tmp 17), type := 9, pos := "annalsref10.go:223", after := #[{ on := 8, ground := Ground.data }], guard := none }) (v := .string D.name) rfl (by kernel_rfl) (by kernel_rfl) (by kernel_rfl) (fun _ _ _ h => h) (yl_cell rfl _ _ rfl _ rfl (.string D.name) (fun w' h => (h.1.cell 1).trans HX.out.h1) one_str) (by assumption) ?_
    try go_frame
    refine wpAnyH_take (i := 10) (oi := { dst := some 19, op := Op.fieldAddr 29 (Operand.tmp 1) 6, type := 0, pos := "annalsref10.go:223", after := #[], guard := none }) (v := ?_) rfl (by kernel_rfl) (by kernel_rfl) (by kernel_rfl) (fun _ _ _ h => h) (Or.inl ⟨by rfl, ?_⟩) (by assumption) ?_
    rotate_left 1
    focus (intro w hSw; (try clear hSw); go_simp; try (with_reducible rfl))
    try go_frame
    refine wpAnyH_take (i := 11) (oi := { dst := some 20, op := Op.load 26 (Operand.tmp 19), type := 26, pos := "annalsref10.go:223", after := #[{ on := 10, ground := Ground.data }], guard := none }) (v := s.input.v) rfl (by kernel_rfl) (by kernel_rfl) (by kernel_rfl) (fun _ _ _ h => h) (yl_cell rfl _ _ rfl _ rfl (s.input.v) (fun w' h => (h.1.cell 6).trans HX.out.h6) one_bytes) (by assumption) ?_
    try go_frame
    refine wpAnyH_ready (rs := [12]) (by kernel_rfl) (by simp) ?_
    refine AllReadyH.cons (o := { dst := some 21, op := Op.call { callee := Callee.value (Operand.func 21), args := #[Operand.tmp 20], argTypes := #[26] }, type := 26, pos := "annalsref10.go:223", after := #[{ on := 11, ground := Ground.data }], guard := none }) rfl (fun K hK => ?_) ?_
    · go_simp
      refine (refBytes_any s.input D.input _ (HX.out.ri.below HB.out.drew) (show D.input.length ≤ 1073741824 from HX.out.small.input)).mono ?_
      rintro e w5 ⟨vv, rfl, ho5, hb5⟩
      obtain ⟨⟨qa, qn, qc⟩, rfl, -⟩ := ho5.at (by have := (show D.input.length ≤ 1073741824 from HX.out.small.input); omega)
      have HO5 := Lib.hid (ho5.lower (base := w.heap.size) (by show w.heap.size ≤ w1.heap.size; omega))
      have KB5 := Lib.hid (hHeld.1.below hb5 (blk_lt hHeld.1))
      have HB5 := Lib.hid (then_ HB.out.drew hb5)
      clear ho5
      dsimp only [Sl.v]
      try go_wp2_with fail
      refine hK.out _ _ (⟨hHeld.1.below hb5 (blk_lt hHeld.1), then_ hHeld.2 hb5⟩) (fun hHeld => ?_)
      clear hK K
      try go_frame
      refine wpAnyH_take (i := 13) (oi := { dst := some 22, op := Op.build 31 #[(0, Operand.const (Value.int IntKind.i64 3)), (1, Operand.const (Value.int IntKind.i64 1)), (2, Operand.tmp 10), (5, Operand.tmp 12), (8, Operand.tmp 14), (9, Operand.tmp 16), (10, Operand.tmp 18), (11, Operand.tmp 21)], type := 31, pos := "annalsref10.go:223", after := #[{ on := 1, ground := Ground.data }, { on := 3, ground := Ground.data }, { on := 5, ground := Ground.data }, { on := 7, ground := Ground.data }, { on := 9, ground := Ground.data }, { on := 12, ground := Ground.data }], guard := none }) (v := ?_) rfl (by kernel_rfl) (by kernel_rfl) (by kernel_rfl) (fun _ _ _ h => h) (Or.inl ⟨by rfl, ?_⟩) (by assumption) ?_
      rotate_left 1
      focus (intro w hSw; (try clear hSw); go_simp; try (with_reducible rfl))
      try go_frame
      refine wpAnyH_ready (rs := [14]) (by kernel_rfl) (by simp) ?_
      refine AllReadyH.cons (o := { dst := some 23, op := Op.buildSlice 57 1 #[(0, Operand.tmp 22)], type := 57, pos := "annalsref10.go:223", after := #[{ on := 13, ground := Ground.data }], guard := none }) rfl (fun K hK => ?_) ?_
      · go_simp
        have TO6 := Lib.hid (laid_lit KB5.out HB5.out (beginR D) ⟨qa, qn, qc⟩ HO5.out)
        refine hK.out _ _ (⟨hHeld.1.push _, boxd hHeld.2⟩) (fun hHeld => ?_)
        clear hK K
        try go_frame
        refine wpAnyH_ready (rs := [15]) (by kernel_rfl) (by simp) ?_
        refine AllReadyH.cons (o := { dst := some 3, op := Op.assign (Operand.tmp 23), type := 57, pos := "annalsref10.go:223", after := #[{ on := 14, ground := Ground.data }, { on := 12, ground := Ground.chain }, { on := 0, ground := Ground.phase }, { on := 1, ground := Ground.phase }, { on := 2, ground := Ground.phase }, { on := 3, ground := Ground.phase }, { on := 4, ground := Ground.phase }, { on := 5, ground := Ground.phase }, { on := 6, ground := Ground.phase }, { on := 7, ground := Ground.phase }, { on := 8, ground := Ground.phase }, { on := 9, ground := Ground.phase }, { on := 10, ground := Ground.phase }, { on := 11, ground := Ground.phase }, { on := 12, ground := Ground.phase }, { on := 13, ground := Ground.phase }, { on := 14, ground := Ground.phase }], guard := none }) rfl (fun K hK => ?_) ?_
        · go_simp
          refine hK.out _ _ (by assumption) (fun hHeld => ?_)
          clear hK K
          try go_frame
          refine wpAnyH_done (by kernel_rfl) ?_ _
          clear hHeld
          try go_wp2_with fail
          go_meet
          exact ⟨_, rfl, TO6⟩
        exact AllReadyH.nil
      exact AllReadyH.nil
    exact AllReadyH.nil
  case rest =>
  obtain ⟨wx, rfl⟩ : ∃ q : World, q = wc := ⟨_, rfl⟩
  obtain ⟨v1, rfl, TO⟩ := hcut
  clear KB HB hs1
  go_wp2_with fail
  go_loopw [3, 4] (fun sv i wr => ∃ (j : Nat) (v : Value), j ≤ on ∧ v = sv ∧ i = .int .i64 j ∧ Hid (LaidSt w wr s v (beginR D :: outsL D j))) (fun _ i _ => on - (intOf i).toNat)
  case atStart => exact ⟨0, v1, by omega, rfl, rfl, TO⟩
  case round =>
    obtain ⟨j, v, hj, rfl, rfl, TO⟩ := hrel
    by_cases hlt : j < on
    · omega
    · have hj' : j = on := by omega
      subst hj'
      clear hlt hj
      obtain ⟨bk, hbkq⟩ : ∃ q, decide ((1 : Int) = 2 ∨ (1 : Int) = 4) = q := ⟨_, rfl⟩
      have HBQ := Lib.hid hbkq
      clear hbkq
      go_upto_region 9 with (first | ((with_reducible refine wpList_load_field ?_ _ (.tmp 25) ?_ w.heap.size 11 ?_ 29 (sagaArr s) ?_ _ HX.out.h11 one_lists ?_); rotate_left; exact rfl; exact rfl; exact TO.out.box; rotate_left; exact rfl) | ((with_reducible refine wpList_load_field ?_ _ (.tmp 55) ?_ w.heap.size 8 ?_ 29 (sagaArr s) ?_ _ HX.out.h8 one_int ?_); rotate_left; exact rfl; exact rfl; exact TO.out.box; rotate_left; exact rfl))
      go_cut [64] (fun s64 wz => s64 = .bool bk ∧ Hid (LaidSt w wz s v (beginR D :: outsL D j)))
      case first =>
        go_wp2_with (first | ((with_reducible refine wpList_load_field ?_ _ (.tmp 57) ?_ w.heap.size 7 ?_ 29 (sagaArr s) ?_ _ HX.out.h7 one_int ?_); rotate_left; exact rfl; exact rfl; exact TO.out.box; rotate_left; exact rfl) | ((with_reducible refine wpList_load_field_g ?_ _ (.tmp 61) ?_ w.heap.size 7 ?_ 29 (sagaArr s) ?_ _ HX.out.h7 one_int ?_); rotate_left; exact rfl; exact rfl; exact TO.out.box; rotate_left; kernel_rfl))
        go_meet
        exact ⟨by rw [← HBQ.out]; rfl, TO⟩
      case rest =>
      obtain ⟨wz, rfl⟩ : ∃ q : World, q = wc := ⟨_, rfl⟩
      obtain ⟨rfl, TO⟩ := hcut
      go_upto_if 64 with fail
      go_cut [3, 5, 6] (fun s3 s5 s6 wy => ∃ (v : Value) (kd st : Int), v = s3 ∧ s5 = .int .i64 kd ∧ s6 = .int .i64 st ∧ st = (if backP D then wrap64 (nx - 1) else nx) ∧ kd = (if backP D then 5 else 2) ∧ Hid (LaidSt w wy s v (beginR D :: (outsL D j ++ midW D))))
      case first =>
        cases bk with
        | true => exact absurd (of_decide_eq_true HBQ.out) (by decide)
        | false =>
          have hbk : ¬ ((1 : Int) = 2 ∨ (1 : Int) = 4) := of_decide_eq_false HBQ.out
          have hB : ¬ backP D := by unfold backP; rw [HX.out.qph]; exact hbk
          have hm : midW D = [] := if_neg hB
          have e1 : nx = (if backP D then wrap64 (nx - 1) else nx) := (if_neg hB).symm
          have e2 : (2 : Int) = (if backP D then 5 else 2) := (if_neg hB).symm
          have E1 := Lib.hid e1
          have E2 := Lib.hid e2
          have TO2 : Hid (LaidSt w wz s v (beginR D :: (outsL D j ++ midW D))) := by rw [hm, List.append_nil]; exact TO
          clear hB hm e1 e2 hbk
          go_wp2_with fail
          all_goals go_meet
          all_goals exact ⟨v, 2, nx, rfl, rfl, rfl, E1.out, E2.out, TO2⟩
      case rest =>
        obtain ⟨wy, rfl⟩ : ∃ q : World, q = wc := ⟨_, rfl⟩
        obtain ⟨vY, kd, st, rfl, rfl, rfl, hst, hkd, TO⟩ := hcut
        have HST := Lib.hid hst
        have HKD := Lib.hid hkd
        have hml : (outsL D j ++ midW D).length ≤ 200 := by
          have := outsL_len D j
          have := midW_len (D := D) (by have := HX.out.qun; omega)
          rw [List.length_append]; omega
        obtain ⟨base, hbase⟩ : ∃ q, outsL D j ++ midW D = q := ⟨_, rfl⟩
        rw [hbase] at hml TO
        have HBASE := Lib.hid hbase
        clear hst hkd hbase
        go_wp2_with fail
        go_loopw [3, 8] (fun sv i wr => ∃ (q : Nat) (v : Value), (q : Int) ≤ trs ∧ v = sv ∧ i = .int .i64 ((q : Int) + 1) ∧ Hid (LaidSt w wr s v (beginR D :: (base ++ triesL D kd st q)))) (fun _ i _ => (trs + 1 - intOf i).toNat)
        case atStart => exact ⟨0, vY, by omega, rfl, rfl, by rw [show triesL D kd st 0 = [] from rfl, List.append_nil]; exact TO⟩
        case round =>
          obtain ⟨q, v, hq, rfl, rfl, TO⟩ := hrel
          by_cases hlt : (q : Int) + 1 ≤ trs
          · skip
            have htl := triesL_len D kd st q
            have E0 := triesL_succ D kd st q
            rw [HX.out.qtrs, HX.out.qflg] at E0
            have EE := Lib.hid E0
            clear E0
            go_upto_region 23 with (first | ((with_reducible refine wpList_load_field ?_ _ (.tmp 133) ?_ w.heap.size 10 ?_ 29 (sagaArr s) ?_ _ HX.out.h10 one_int ?_); rotate_left; exact rfl; exact rfl; exact TO.out.box; rotate_left; exact rfl) | ((with_reducible refine wpList_load_field ?_ _ (.tmp 140) ?_ w.heap.size 0 ?_ 29 (sagaArr s) ?_ _ HX.out.h0 one_int ?_); rotate_left; exact rfl; exact rfl; exact TO.out.box; rotate_left; exact rfl) | ((with_reducible refine wpList_load_field ?_ _ (.tmp 142) ?_ w.heap.size 5 ?_ 29 (sagaArr s) ?_ _ HX.out.h5 one_int ?_); rotate_left; exact rfl; exact rfl; exact TO.out.box; rotate_left; exact rfl) | ((with_reducible refine wpList_rec ?_ (.tmp 138) (.tmp 147) ?_ TO.out (startR D kd st ((q : Int) + 1)) nilSl ?_ ?_ ?_ ?_ ?_ ?_); rotate_left; exact rfl; exact rfl; exact rfl; exact own_nilB _ _; exact rfl; (simp only [List.length_cons, List.length_append]; omega); rotate_left; exact rfl; intro vN wN hN; clear TO; have TO := Lib.hid hN; clear hN))
            try dsimp only [startR] at TO
            by_cases c1 : (q : Int) + 1 < trs
            · go_wp2_with (first | ((with_reducible refine wpList_load_field ?_ _ (.tmp 150) ?_ w.heap.size 10 ?_ 29 (sagaArr s) ?_ _ HX.out.h10 one_int ?_); rotate_left; exact rfl; exact rfl; exact TO.out.box; rotate_left; exact rfl) | ((with_reducible refine wpList_load_field_g ?_ _ (.tmp 154) ?_ w.heap.size 9 ?_ 29 (sagaArr s) ?_ _ HX.out.h9 one_bool ?_); rotate_left; exact rfl; exact rfl; exact TO.out.box; rotate_left; kernel_rfl) | ((with_reducible refine wpList_load_field ?_ _ (.tmp 159) ?_ w.heap.size 0 ?_ 29 (sagaArr s) ?_ _ HX.out.h0 one_int ?_); rotate_left; exact rfl; exact rfl; exact TO.out.box; rotate_left; exact rfl) | ((with_reducible refine wpList_load_field ?_ _ (.tmp 161) ?_ w.heap.size 5 ?_ 29 (sagaArr s) ?_ _ HX.out.h5 one_int ?_); rotate_left; exact rfl; exact rfl; exact TO.out.box; rotate_left; exact rfl) | ((with_reducible refine wpList_rec ?_ (.tmp 158) (.tmp 165) ?_ TO.out (failR D st 0 0 []) nilSl ?_ ?_ ?_ ?_ ?_ ?_); rotate_left; exact rfl; exact rfl; exact rfl; exact own_nilB _ _; exact rfl; (simp only [List.length_cons, List.length_append, List.length_nil]; omega); rotate_left; exact rfl; intro vN wN hN; clear TO; have TO := Lib.hid hN; clear hN))
              have hT := TO.out
              clear TO
              have eL : beginR D :: (base ++ triesL D kd st q) ++ [startR D kd st ((q : Int) + 1)] ++ [failR D st 0 0 []] = beginR D :: (base ++ triesL D kd st (q + 1)) := by
                rw [EE.out, if_pos (.inl c1)]; simp
              rw [eL] at hT
              have TO := Lib.hid hT
              clear hT eL htl
              try go_wp2
              all_goals go_roundw
              case rel => exact ⟨q + 1, _, by omega, rfl, by go_num, TO⟩
              case measure => simp [intOf]; omega
            · have c1' : decide ((q : Int) + 1 < trs) = false := decide_eq_false c1
              cases flg with
              | false =>
                go_wp2_with (first | ((with_reducible refine wpList_load_field ?_ _ (.tmp 150) ?_ w.heap.size 10 ?_ 29 (sagaArr s) ?_ _ HX.out.h10 one_int ?_); rotate_left; exact rfl; exact rfl; exact TO.out.box; rotate_left; exact rfl) | ((with_reducible refine wpList_load_field_g ?_ _ (.tmp 154) ?_ w.heap.size 9 ?_ 29 (sagaArr s) ?_ _ HX.out.h9 one_bool ?_); rotate_left; exact rfl; exact rfl; exact TO.out.box; rotate_left; kernel_rfl) | ((with_reducible refine wpList_load_field ?_ _ (.tmp 159) ?_ w.heap.size 0 ?_ 29 (sagaArr s) ?_ _ HX.out.h0 one_int ?_); rotate_left; exact rfl; exact rfl; exact TO.out.box; rotate_left; exact rfl) | ((with_reducible refine wpList_load_field ?_ _ (.tmp 161) ?_ w.heap.size 5 ?_ 29 (sagaArr s) ?_ _ HX.out.h5 one_int ?_); rotate_left; exact rfl; exact rfl; exact TO.out.box; rotate_left; exact rfl) | ((with_reducible refine wpList_rec ?_ (.tmp 158) (.tmp 165) ?_ TO.out (failR D st 0 0 []) nilSl ?_ ?_ ?_ ?_ ?_ ?_); rotate_left; exact rfl; exact rfl; exact rfl; exact own_nilB _ _; exact rfl; (simp only [List.length_cons, List.length_append, List.length_nil]; omega); rotate_left; exact rfl; intro vN wN hN; clear TO; have TO := Lib.hid hN; clear hN))
                have hT := TO.out
                clear TO
                have eL : beginR D :: (base ++ triesL D kd st q) ++ [startR D kd st ((q : Int) + 1)] ++ [failR D st 0 0 []] = beginR D :: (base ++ triesL D kd st (q + 1)) := by
                  rw [EE.out, if_pos (.inr (by trivial))]; simp
                rw [eL] at hT
                have TO := Lib.hid hT
                clear hT eL htl
                try go_wp2
                all_goals go_roundw
                case rel => exact ⟨q + 1, _, by omega, rfl, by go_num, TO⟩
                case measure => simp [intOf]; omega
              | true =>
                have hT := TO.out
                have eL : beginR D :: (base ++ triesL D kd st q) ++ [startR D kd st ((q : Int) + 1)] = beginR D :: (base ++ triesL D kd st (q + 1)) := by
                  rw [EE.out, if_neg (by simp; omega)]; simp
                rw [eL] at hT
                clear TO
                have TO := Lib.hid hT
                clear hT eL htl
                go_wp2_with (first | ((with_reducible refine wpList_load_field ?_ _ (.tmp 150) ?_ w.heap.size 10 ?_ 29 (sagaArr s) ?_ _ HX.out.h10 one_int ?_); rotate_left; exact rfl; exact rfl; exact TO.out.box; rotate_left; exact rfl) | ((with_reducible refine wpList_load_field_g ?_ _ (.tmp 154) ?_ w.heap.size 9 ?_ 29 (sagaArr s) ?_ _ HX.out.h9 one_bool ?_); rotate_left; exact rfl; exact rfl; exact TO.out.box; rotate_left; kernel_rfl))
                all_goals go_roundw
                case rel => exact ⟨q + 1, _, by omega, rfl, by go_num, TO⟩
                case measure => simp [intOf]; omega
          · skip
            have hq' : (q : Int) = trs := by omega
            have htl := triesL_len D kd st q
            have eq1 : base ++ triesL D kd st q = outsL D D.outs.length ++ (midW D ++ lastW D) := by
              have h1 : lastW D = triesL D kd st q := by
                unfold lastW
                rw [HX.out.qtrs, HX.out.qnx, ← HST.out, ← HKD.out, ← hq', Int.toNat_natCast]
              rw [h1, ← HBASE.out, HX.out.qon, List.append_assoc]
            have EQ := Lib.hid eq1
            clear eq1 hq'
            have eS : beginR D :: (base ++ triesL D kd st q) = beginR D :: tellW D := by
              rw [EQ.out]; unfold tellW endL; rw [HX.out.qph]; simp
            rw [eS] at TO
            clear eS
            go_wp2_with (first | ((with_reducible refine wpList_load_field ?_ _ (.tmp 133) ?_ w.heap.size 10 ?_ 29 (sagaArr s) ?_ _ HX.out.h10 one_int ?_); rotate_left; exact rfl; exact rfl; exact TO.out.box; rotate_left; exact rfl) | ((with_reducible refine wpList_load_field ?_ _ (.tmp 167) ?_ w.heap.size 7 ?_ 29 (sagaArr s) ?_ _ HX.out.h7 one_int ?_); rotate_left; exact rfl; exact rfl; exact TO.out.box; rotate_left; exact rfl) | ((with_reducible refine wpList_load_field_g ?_ _ (.tmp 171) ?_ w.heap.size 7 ?_ 29 (sagaArr s) ?_ _ HX.out.h7 one_int ?_); rotate_left; exact rfl; exact rfl; exact TO.out.box; rotate_left; kernel_rfl))
            all_goals go_ret
            all_goals exact ⟨v, rfl, TO.out.own, TO.out.below⟩
end Go.Proofs.YteaiadpigpehaaaGreatDoor
