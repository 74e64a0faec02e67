/-
  annalsref10.Begin walked: what it answers is what saga.Begin answers. Conditions: the tables that annalsref3.Check reads, as laid; names and data of at most 2^40 bytes. (Printed by wip/gen_ref10begin.py.)
-/
import Derived.Test.YteaiadpigpehaaaGreatDoorRef10Copy
import Derived.Test.YteaiadpigpehaaaGreatDoorPkReg
import Derived.Maps.RangeWalk
namespace Go.Proofs.YteaiadpigpehaaaGreatDoor
open Go.RowKit

/-- A record the reference can read. -/
structure RefFits (R : RecD) : Prop where
  name : R.name.size ≤ 1099511627776
  len : R.data.length ≤ 1099511627776
set_option maxRecDepth 10000000 in
set_option maxHeartbeats 2000000 in
theorem ref10Begin_any (r : RecV) (R : RecD) (w : World) (ht : RefTabs w) (hr : RecRd w r R) (fr : RefFits R) :
    Calls Tryz.prog 24 #[r.val] w fun e w' => ∃ s' : SagaV, e = .returned (.tuple #[s'.val, .int .i64 (beginN R)]) ∧ SagaOwn w' w.heap.size s' (beginD R) ∧ Below w.heap.size w w' := by
  obtain ⟨rd, rfl⟩ : ∃ rd, r = R.words rd := ⟨r.data, hr.eq⟩
  have cC := fun W (h : Below w.heap.size w W) => ref3Check_any (R.words rd) R.data W (ht.below h) fr.name fr.len (hr.below h).data
  rw [hr.recEq] at cC
  have hk : recD R = 0 → (up3 R).kind = R.kind := fun _ => up3_kind R
  have cT := fun (h0 : recD R = 0) W (h : Below w.heap.size w W) => third_any R rd W (ht.below h) fr.name (hr.below h) h0
  have hdl : recD R = 0 → R.data.length ≤ 1073741824 ∧ (up3 R).data.length ≤ 1073741824 := fun h0 => by
    have h1 := recN_len (hr.recEq.trans h0)
    have h2 : rd.n = R.data.length := by first | exact hr.data.len | exact hr.data.len.symm
    have h3 : R.data.length ≤ 1073741824 := by simp only at h1; omega
    refine ⟨h3, ?_⟩
    by_cases hv : R.v = 1
    · rw [up3_sec hv]; unfold secD; (repeat' split) <;> simp <;> omega
    · rw [up3_else hv]; exact h3
  have hB : beginN R = if recD R ≠ 0 then recD R else if R.kind ≠ 1 then 102 else 0 := rfl
  have hBD : beginD R = if beginN R ≠ 0 then zeroD else begunD (up3 R) := rfl
  have KB0 := (BlkAt.new w (recArr (R.words rd)) 31).push (.cells zeroSagaArr 29)
  have KZ0 : BlkAt ((w.alloc (.cells (recArr (R.words rd)) 31)).alloc (.cells zeroSagaArr 29)) (w.heap.size + 1) zeroSagaArr 29 := by
    have := BlkAt.new (w.alloc (.cells (recArr (R.words rd)) 31)) zeroSagaArr 29
    rw [World.size_alloc] at this
    exact this
  obtain ⟨w1, hw1⟩ : ∃ q, (w.alloc (.cells (recArr (R.words rd)) 31)).alloc (.cells zeroSagaArr 29) = q := ⟨_, rfl⟩
  have hb1 : Below w.heap.size w w1 := by rw [← hw1]; exact boxd (boxd (Below.refl _ _))
  have hs1 : w.heap.size + 2 ≤ w1.heap.size := by rw [← hw1]; simp
  rw [hw1] at KB0 KZ0
  have KZ := Lib.hid KZ0
  have HB := Lib.hid hb1
  have CC := Lib.hid (cC w1 hb1)
  have CT := Lib.hid cT
  have HDL := Lib.hid hdl
  have HN := Lib.hid hB
  have HND := Lib.hid hBD
  have HK := Lib.hid hk
  clear cC cT hdl hB hBD KZ0 hb1 hk ht hr fr
  generalize recD R = N at CC CT HDL HN HK
  generalize beginN R = BN at HN HND ⊢
  generalize beginD R = BD at HND ⊢
  generalize up3 R = U at CT HDL HND HK
  have KB := Lib.hid KB0
  clear KB0
  obtain ⟨v, kind, saga, step, try_, at_, last, code, count, pivot, name, data⟩ := R
  dsimp only [recArr, RecD.words, Sl.v, zeroSagaArr] at hw1
  have HW1 := Lib.hid hw1
  clear hw1
  dsimp only [RecD.words, RecV.val, Sl.v] at CC CT HDL HN HK KB ⊢
  go_enter Tryz.func24, Tryz.ntmps24
  go_upto_region 1 with fail
  rw [HW1.out]
  clear HW1
  go_wp2_with (refine wpList_load_blk rfl _ _ rfl _ rfl _ _ KB.out rowRec ?_)
  refine CC.out.mono ?_
  clear CC
  rintro e wa ⟨rfl, hb⟩
  have KB := Lib.hid (KB.out.below hb (by omega))
  have KZ := Lib.hid (KZ.out.below hb (by omega))
  have hsa : w.heap.size + 2 ≤ wa.heap.size := by have := hb.size; omega
  have HB := Lib.hid (then_ HB.out hb)
  clear hb hs1
  by_cases h0 : N = 0
  · subst h0
    have CTX := Lib.hid (CT.out rfl wa HB.out)
    have HDX := Lib.hid (HDL.out rfl)
    have HKX := Lib.hid (HK.out rfl)
    clear CT HDL HK
    by_cases h1 : kind = 1
    · subst h1
      have e1 : BN = 0 := by have := HN.out; simpa using this
      have e2 : BD = begunD U := by have := HND.out; rw [if_neg (by simp [e1])] at this; exact this
      subst e1 e2
      clear HN HND
      obtain ⟨v', kind', saga', step', try', at', last', code', count', pivot', name', data'⟩ := U
      dsimp only [RecD.words, RecV.val, Sl.v] at CTX HKX HDX
      go_wp2_with (first
        | (refine wpList_load_field rfl _ _ rfl _ 1 rfl _ _ KB.out (.int .i64 1) rfl one_int ?_)
        | (refine wpList_load_blk rfl _ _ rfl _ rfl _ _ KB.out rowRec ?_))
      refine CTX.out.mono ?_
      rintro e w2 ⟨s, rfl, ho, hb⟩
      obtain ⟨w3, hw3⟩ : ∃ q, w2.alloc (.cells (recArr (⟨v', kind', saga', step', try', at', last', code', count', pivot', name', s⟩ : RecV)) 31) = q := ⟨_, rfl⟩
      have hb3 : Below w2.heap.size w2 w3 := by rw [← hw3]; exact boxd (Below.refl _ _)
      have hs3 : w2.heap.size + 1 ≤ w3.heap.size := by rw [← hw3]; simp
      have hs2 : w.heap.size + 2 ≤ w2.heap.size := by have := hb.size; omega
      have KZ := Lib.hid ((KZ.out.below hb (by omega)).below hb3 (by omega))
      have KQ : Hid (BlkAt w3 w2.heap.size (recArr (⟨v', kind', saga', step', try', at', last', code', count', pivot', name', s⟩ : RecV)) 31) := Lib.hid (by rw [← hw3]; exact BlkAt.new _ _ _)
      have HB := Lib.hid (then_ (then_ HB.out hb) hb3)
      have HO := Lib.hid ((ho.through hb3).bytes (by have := HDX.out.2; omega))
      dsimp only [recArr, Sl.v] at hw3
      have HW3 := Lib.hid hw3
      clear hw3 hb3 hb ho KB CTX
      dsimp only [RecV.val, Sl.v]
      go_upto_region 7 with fail
      rw [HW3.out]
      clear HW3
      refine wp_region_held_drew (S := (fun W => BlkAt W w2.heap.size (recArr (⟨v', kind', saga', step', try', at', last', code', count', pivot', name', s⟩ : RecV)) 31)) (by kernel_rfl) ((show BlkAt w3.drew w2.heap.size (recArr (⟨v', kind', saga', step', try', at', last', code', count', pivot', name', s⟩ : RecV)) 31 from KQ.out)) (fun hHeld => ?_)
      refine wpAnyH_take (i := 0) (oi := { dst := some 18, op := Op.fieldAddr 31 (Operand.tmp 5) 2, type := 0, pos := "annalsref10.go:106", after := #[], guard := none }) (v := ?_) rfl (by kernel_rfl) (by kernel_rfl) (by kernel_rfl) (fun _ _ _ h => h) (Or.inl ⟨by rfl, ?_⟩) (by assumption) ?_
      rotate_left 1
      focus (intro w hSw; (try clear hSw); go_simp; try (with_reducible rfl))
      try go_frame
      refine wpAnyH_take (i := 1) (oi := { dst := some 19, op := Op.load 3 (Operand.tmp 18), type := 3, pos := "annalsref10.go:106", after := #[{ on := 0, ground := Ground.data }], guard := none }) (v := .int .i64 saga') rfl (by kernel_rfl) (by kernel_rfl) (by kernel_rfl) (fun _ _ _ h => h) (yl_cell rfl _ _ rfl _ rfl (.int .i64 saga') (fun w' h => (h.cell 2).trans rfl) one_int) (by assumption) ?_
      try go_frame
      refine wpAnyH_take (i := 2) (oi := { dst := some 20, op := Op.fieldAddr 31 (Operand.tmp 5) 10, type := 0, pos := "annalsref10.go:106", after := #[], guard := none }) (v := ?_) rfl (by kernel_rfl) (by kernel_rfl) (by kernel_rfl) (fun _ _ _ h => h) (Or.inl ⟨by rfl, ?_⟩) (by assumption) ?_
      rotate_left 1
      focus (intro w hSw; (try clear hSw); go_simp; try (with_reducible rfl))
      try go_frame
      refine wpAnyH_take (i := 3) (oi := { dst := some 21, op := Op.load 9 (Operand.tmp 20), type := 9, pos := "annalsref10.go:106", after := #[{ on := 2, ground := Ground.data }], guard := none }) (v := .string name') rfl (by kernel_rfl) (by kernel_rfl) (by kernel_rfl) (fun _ _ _ h => h) (yl_cell rfl _ _ rfl _ rfl (.string name') (fun w' h => (h.cell 10).trans rfl) one_str) (by assumption) ?_
      try go_frame
      refine wpAnyH_take (i := 4) (oi := { dst := some 22, op := Op.fieldAddr 31 (Operand.tmp 5) 8, type := 0, pos := "annalsref10.go:106", after := #[], guard := none }) (v := ?_) rfl (by kernel_rfl) (by kernel_rfl) (by kernel_rfl) (fun _ _ _ h => h) (Or.inl ⟨by rfl, ?_⟩) (by assumption) ?_
      rotate_left 1
      focus (intro w hSw; (try clear hSw); go_simp; try (with_reducible rfl))
      try go_frame
      refine wpAnyH_take (i := 5) (oi := { dst := some 23, op := Op.load 3 (Operand.tmp 22), type := 3, pos := "annalsref10.go:106", after := #[{ on := 4, ground := Ground.data }], guard := none }) (v := .int .i64 count') rfl (by kernel_rfl) (by kernel_rfl) (by kernel_rfl) (fun _ _ _ h => h) (yl_cell rfl _ _ rfl _ rfl (.int .i64 count') (fun w' h => (h.cell 8).trans rfl) one_int) (by assumption) ?_
      try go_frame
      refine wpAnyH_take (i := 6) (oi := { dst := some 24, op := Op.fieldAddr 31 (Operand.tmp 5) 9, type := 0, pos := "annalsref10.go:106", after := #[], guard := none }) (v := ?_) rfl (by kernel_rfl) (by kernel_rfl) (by kernel_rfl) (fun _ _ _ h => h) (Or.inl ⟨by rfl, ?_⟩) (by assumption) ?_
      rotate_left 1
      focus (intro w hSw; (try clear hSw); go_simp; try (with_reducible rfl))
      try go_frame
      refine wpAnyH_take (i := 7) (oi := { dst := some 25, op := Op.load 3 (Operand.tmp 24), type := 3, pos := "annalsref10.go:106", after := #[{ on := 6, ground := Ground.data }], guard := none }) (v := .int .i64 pivot') rfl (by kernel_rfl) (by kernel_rfl) (by kernel_rfl) (fun _ _ _ h => h) (yl_cell rfl _ _ rfl _ rfl (.int .i64 pivot') (fun w' h => (h.cell 9).trans rfl) one_int) (by assumption) ?_
      try go_frame
      refine wpAnyH_take (i := 8) (oi := { dst := some 26, op := Op.fieldAddr 31 (Operand.tmp 5) 5, type := 0, pos := "annalsref10.go:106", after := #[], guard := none }) (v := ?_) rfl (by kernel_rfl) (by kernel_rfl) (by kernel_rfl) (fun _ _ _ h => h) (Or.inl ⟨by rfl, ?_⟩) (by assumption) ?_
      rotate_left 1
      focus (intro w hSw; (try clear hSw); go_simp; try (with_reducible rfl))
      try go_frame
      refine wpAnyH_take (i := 9) (oi := { dst := some 27, op := Op.load 3 (Operand.tmp 26), type := 3, pos := "annalsref10.go:106", after := #[{ on := 8, ground := Ground.data }], guard := none }) (v := .int .i64 at') rfl (by kernel_rfl) (by kernel_rfl) (by kernel_rfl) (fun _ _ _ h => h) (yl_cell rfl _ _ rfl _ rfl (.int .i64 at') (fun w' h => (h.cell 5).trans rfl) one_int) (by assumption) ?_
      try go_frame
      refine wpAnyH_take (i := 10) (oi := { dst := some 28, op := Op.fieldAddr 31 (Operand.tmp 5) 5, type := 0, pos := "annalsref10.go:106", after := #[], guard := none }) (v := ?_) rfl (by kernel_rfl) (by kernel_rfl) (by kernel_rfl) (fun _ _ _ h => h) (Or.inl ⟨by rfl, ?_⟩) (by assumption) ?_
      rotate_left 1
      focus (intro w hSw; (try clear hSw); go_simp; try (with_reducible rfl))
      try go_frame
      refine wpAnyH_take (i := 11) (oi := { dst := some 29, op := Op.load 3 (Operand.tmp 28), type := 3, pos := "annalsref10.go:106", after := #[{ on := 10, ground := Ground.data }], guard := none }) (v := .int .i64 at') rfl (by kernel_rfl) (by kernel_rfl) (by kernel_rfl) (fun _ _ _ h => h) (yl_cell rfl _ _ rfl _ rfl (.int .i64 at') (fun w' h => (h.cell 5).trans rfl) one_int) (by assumption) ?_
      try go_frame
      refine wpAnyH_take (i := 12) (oi := { dst := some 30, op := Op.fieldAddr 31 (Operand.tmp 5) 11, type := 0, pos := "annalsref10.go:106", after := #[], guard := none }) (v := ?_) rfl (by kernel_rfl) (by kernel_rfl) (by kernel_rfl) (fun _ _ _ h => h) (Or.inl ⟨by rfl, ?_⟩) (by assumption) ?_
      rotate_left 1
      focus (intro w hSw; (try clear hSw); go_simp; try (with_reducible rfl))
      try go_frame
      refine wpAnyH_take (i := 13) (oi := { dst := some 31, op := Op.load 26 (Operand.tmp 30), type := 26, pos := "annalsref10.go:106", after := #[{ on := 12, ground := Ground.data }], guard := none }) (v := .slice s.a s.n s.c) rfl (by kernel_rfl) (by kernel_rfl) (by kernel_rfl) (fun _ _ _ h => h) (yl_cell rfl _ _ rfl _ rfl (.slice s.a s.n s.c) (fun w' h => (h.cell 11).trans rfl) one_bytes) (by assumption) ?_
      try go_frame
      refine wpAnyH_ready (rs := [14]) (by kernel_rfl) (by simp) ?_
      refine AllReadyH.cons (o := { dst := some 32, op := Op.call { callee := Callee.value (Operand.func 21), args := #[Operand.tmp 31], argTypes := #[26] }, type := 26, pos := "annalsref10.go:106", after := #[{ on := 13, ground := Ground.data }], guard := none }) rfl (fun K hK => ?_) ?_
      · go_simp
        refine (refBytes_any s data' _ (HO.out.below (Since.refl w3).drew.out) HDX.out.2).mono ?_
        rintro e w9 ⟨vv, rfl, ho9, hb9⟩
        obtain ⟨⟨qa, qn, qc⟩, rfl, -⟩ := ho9.at (by have := HDX.out.2; omega)
        have HO9 := Lib.hid (ho9.lower (base := w.heap.size) (by show w.heap.size ≤ w3.heap.size; omega))
        have KZ9 := Lib.hid (BlkAt.below (show BlkAt w3.drew (w.heap.size + 1) zeroSagaArr 29 from KZ.out) hb9 (blk_lt KZ.out))
        have HB9 := Lib.hid (then_ HB.out.drew hb9)
        clear ho9
        dsimp only [Sl.v]
        try go_wp2_with fail
        refine hK.out _ _ (BlkAt.below hHeld hb9 (blk_lt hHeld)) (fun hHeld => ?_)
        clear hK K
        try go_frame
        refine wpAnyH_take (i := 15) (oi := { dst := some 33, op := Op.build 29 #[(0, Operand.tmp 19), (1, Operand.tmp 21), (2, Operand.tmp 23), (3, Operand.tmp 25), (4, Operand.tmp 27), (5, Operand.tmp 29), (6, Operand.tmp 32), (7, Operand.const (Value.int IntKind.i64 1))], type := 29, pos := "annalsref10.go:106", after := #[{ on := 1, ground := Ground.data }, { on := 3, ground := Ground.data }, { on := 5, ground := Ground.data }, { on := 7, ground := Ground.data }, { on := 9, ground := Ground.data }, { on := 11, ground := Ground.data }, { on := 14, ground := Ground.data }], guard := none }) (v := ?_) rfl (by kernel_rfl) (by kernel_rfl) (by kernel_rfl) (fun _ _ _ h => h) (Or.inl ⟨by rfl, ?_⟩) (by assumption) ?_
        rotate_left 1
        focus (intro w hSw; (try clear hSw); go_simp; try (with_reducible rfl))
        try go_frame
        refine wpAnyH_ready (rs := [16]) (by kernel_rfl) (by simp) ?_
        refine AllReadyH.cons (o := { dst := none, op := Op.store 29 (Operand.tmp 2) (Operand.tmp 33), type := 0, pos := "annalsref10.go:106", after := #[{ on := 15, ground := Ground.data }, { on := 14, ground := Ground.chain }, { on := 0, ground := Ground.phase }, { on := 1, ground := Ground.phase }, { on := 2, ground := Ground.phase }, { on := 3, ground := Ground.phase }, { on := 4, ground := Ground.phase }, { on := 5, ground := Ground.phase }, { on := 6, ground := Ground.phase }, { on := 7, ground := Ground.phase }, { on := 8, ground := Ground.phase }, { on := 9, ground := Ground.phase }, { on := 10, ground := Ground.phase }, { on := 11, ground := Ground.phase }, { on := 12, ground := Ground.phase }, { on := 13, ground := Ground.phase }, { on := 14, ground := Ground.phase }, { on := 15, ground := Ground.phase }], guard := none }) rfl (fun K hK => ?_) ?_
        · refine step_store_blk rfl _ _ _ rfl _ rfl (sagaArr (begunV ⟨v', kind', saga', step', try', at', last', code', count', pivot', name', data'⟩ ⟨qa, qn, qc⟩)) rfl _ _ KZ9.out (by rfl) (by simp [sagaArr, Value.oneCell']) rowSaga ?_
          intro w7 hw7 KS7
          have HS7 := Lib.hid KS7
          have HO7 := Lib.hid (HO9.out.keep (hw7.rows KZ9.out (by decide) (by decide)))
          have HB7 := Lib.hid (hw7.below HB9.out (by omega))
          clear KS7
          refine hK.out _ _ (hw7.blk hHeld (by omega)) (fun hHeld => ?_)
          clear hK K
          try go_frame
          refine wpAnyH_ready (rs := [17]) (by kernel_rfl) (by simp) ?_
          refine AllReadyH.cons (o := { dst := some 3, op := Op.assign (Operand.const (Value.int IntKind.i64 0)), type := 3, pos := "annalsref10.go:106", after := #[{ on := 16, ground := Ground.chain }, { on := 0, ground := Ground.phase }, { on := 1, ground := Ground.phase }, { on := 2, ground := Ground.phase }, { on := 3, ground := Ground.phase }, { on := 4, ground := Ground.phase }, { on := 5, ground := Ground.phase }, { on := 6, ground := Ground.phase }, { on := 7, ground := Ground.phase }, { on := 8, ground := Ground.phase }, { on := 9, ground := Ground.phase }, { on := 10, ground := Ground.phase }, { on := 11, ground := Ground.phase }, { on := 12, ground := Ground.phase }, { on := 13, ground := Ground.phase }, { on := 14, ground := Ground.phase }, { on := 15, ground := Ground.phase }, { on := 16, ground := Ground.phase }], guard := none }) rfl (fun K hK => ?_) ?_
          · go_simp
            refine hK.out _ _ (by assumption) (fun hHeld => ?_)
            clear hK K
            try go_frame
            refine wpAnyH_done (by kernel_rfl) ?_ _
            clear hHeld
            go_wp2_with fail
            exact bodyPost_ret (results_row2 rfl _ _ _ _ _ rfl HS7.out rowSaga) rfl ⟨begunV ⟨v', kind', saga', step', try', at', last', code', count', pivot', name', data'⟩ ⟨qa, qn, qc⟩, rfl, ⟨rfl, ⟨HO7.out, OwnLists.nil _ _, OwnLists.nil _ _, World.ownsRow_nil _ _ _ _, .inl rfl⟩⟩, HB7.out⟩
          exact AllReadyH.nil
        exact AllReadyH.nil
      exact AllReadyH.nil
    · as_aux_lemma =>
      have e1 : BN = 102 := by have := HN.out; simpa [h1] using this
      have e2 : BD = zeroD := by have := HND.out; rw [if_pos (by simp [e1])] at this; exact this
      subst e1 e2
      clear HN HND CTX HDX HKX
      have hk1 : (kind != 1) = true := by rw [bne_iff_ne]; exact h1
      clear h1
      go_wp2_with (first
        | (refine wpList_load_field rfl _ _ rfl _ 1 rfl _ _ KB.out (.int .i64 kind) rfl one_int ?_)
        | (refine wpList_store_blk rfl _ _ _ rfl _ rfl (zeroSagaArr) rfl _ _ KZ.out (by rfl) (by simp [Value.oneCell']) rowSaga ?_; intro w9 hw9 K9; have KE := Lib.hid K9; have HE := Lib.hid (hw9.below HB.out (by omega)); clear hw9 K9))
      exact bodyPost_ret (results_row2 rfl _ _ _ _ _ rfl KE.out rowSaga) rfl ⟨zeroSagaV, rfl, SagaOwn.zero _ _, HE.out⟩
  · as_aux_lemma =>
    have e1 : BN = N := by have := HN.out; simpa [h0] using this
    have e2 : BD = zeroD := by have := HND.out; rw [if_pos (by simp [e1, h0])] at this; exact this
    subst e1 e2
    clear HN HND CT HDL HK
    have hk1 : (BN != 0) = true := by rw [bne_iff_ne]; exact h0
    clear h0
    go_wp2_with (refine wpList_store_blk rfl _ _ _ rfl _ rfl (zeroSagaArr) rfl _ _ KZ.out (by rfl) (by simp [Value.oneCell']) rowSaga ?_; intro w9 hw9 K9; have KE := Lib.hid K9; have HE := Lib.hid (hw9.below HB.out (by omega)); clear hw9 K9)
    exact bodyPost_ret (results_row2 rfl _ _ _ _ _ rfl KE.out rowSaga) rfl ⟨zeroSagaV, rfl, SagaOwn.zero _ _, HE.out⟩
end Go.Proofs.YteaiadpigpehaaaGreatDoor
