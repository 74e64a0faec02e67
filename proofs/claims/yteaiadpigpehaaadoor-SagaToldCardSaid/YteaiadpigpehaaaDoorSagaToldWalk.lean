/-
  annalslaw10.SagaTold walked: it answers true, of any saga and any record. Conditions: the tables that saga.Check, lift.Up and the walk read, as laid. (Printed by wip/gen_told.py.)
-/
import Derived.Test.YteaiadpigpehaaaDoorReg3
import Derived.Test.YteaiadpigpehaaaDoorRecSame
import Derived.Test.YteaiadpigpehaaaDoorStoryWalk
import Derived.Test.YteaiadpigpehaaaDoorToldLaw
namespace Go.Proofs.YteaiadpigpehaaaDoor
open Go.RowKit
namespace sagaTold
theorem num_keep (n : Int) (w : World) : Calls Tryd.prog 14 #[.int .i64 n] w fun e w' => e = .returned (.int .i64 n) ∧ w = w' := (num_any n w).mono fun _ _ h => ⟨h.1, h.2.symm⟩
/-- The boxes of what was handed in. -/
structure TEnv (w wr : World) (s : SagaV) (r : RecV) : Prop where
  ks : BlkAt wr w.heap.size (sagaArr s) 25
  kr : BlkAt wr (w.heap.size + 1) (recArr r) 27
  below : Below w.heap.size w wr
theorem recsAt_mk {w : World} {s : Sl} {Rs : List RecD} (h : RecsAt w s Rs) : ∃ rs : List RecV, s.n = rs.length ∧ rs.length = Rs.length ∧ (s.n ≤ 9223372036854775807 ∧ (s.a = none → s.c = 0)) ∧ (0 < s.n → ∃ b o, s.a = some ⟨b, o, none⟩ ∧ ∀ i (h1 : i < rs.length), ∀ j, j < 12 → w.cell? ⟨b, o + i * 12 + j, none⟩ = (rs[i]).cells[j]?) ∧ ∀ i (h1 : i < rs.length) (h2 : i < Rs.length), RecRd w rs[i] Rs[i] := h
theorem TEnv.bl {w wr w' : World} {s : SagaV} {r : RecV} (h : TEnv w wr s r) (hb : Below wr.heap.size wr w') : TEnv w w' s r := ⟨h.ks.below hb (blk_lt h.ks), h.kr.below hb (blk_lt h.kr), then_ h.below hb⟩
theorem TEnv.wrote {w wr w' : World} {g : Nat} {s : SagaV} {r : RecV} (h : TEnv w wr s r) (hw : Wrote wr w' g) (hg : w.heap.size + 2 ≤ g) : TEnv w w' s r := ⟨hw.blk h.ks (by omega), hw.blk h.kr (by omega), hw.below h.below (by omega)⟩
/-- How the loop stands. -/
structure At (w6 wr : World) (g : Nat) (sq : SagaV) (Dq D : SagaD) (l : List RecD) : Prop where
  since : Since w6 wr
  blk : BlkAt wr g (sagaArr sq) 25
  own : SagaOwn wr w6.heap.size sq Dq
  good : GoodD Dq
  name : Dq.name = D.name
  plays : PlaysD Dq l D
  low : w6.heap.size ≤ g

set_option maxRecDepth 10000000 in
set_option maxHeartbeats 8000000 in
theorem walk (s : SagaV) (D : SagaD) (r : RecV) (R : RecD) (w : World) (ht : Tables w) (hl : LandsAt w) (hs : SagaRd w s D) (hr : RecRd w r R) (fs : SagaFits D) (fr : RecFits R) (hbg : D.begun ≤ 9223372036854775807) (hat : D.at_ ≤ 9223372036854775807) :
    Calls Tryd.prog 8 #[s.val, r.val] w fun e w' => e = .returned (.bool true) ∧ Below w.heap.size w w' := by
  have KK : TEnv w ((w.alloc (.cells (sagaArr s) 25)).alloc (.cells (recArr r) 27)) s r := by
    refine ⟨(BlkAt.new w (sagaArr s) _).push _, ?_, boxd (boxd (Below.refl _ _))⟩
    have := BlkAt.new (w.alloc (.cells (sagaArr s) 25)) (recArr r) 27
    rw [World.size_alloc] at this
    exact this
  obtain ⟨w1, hw1⟩ : ∃ q, (w.alloc (.cells (sagaArr s) 25)).alloc (.cells (recArr r) 27) = q := ⟨_, rfl⟩
  have hs1 : w.heap.size + 2 ≤ w1.heap.size := by rw [← hw1]; simp
  rw [hw1] at KK
  dsimp only [recArr, sagaArr, Sl.v] at hw1
  have HW1 := Lib.hid hw1
  have E1 := Lib.hid KK
  have HT := Lib.hid ht
  have HL := Lib.hid hl
  have HS := Lib.hid hs
  have HR := Lib.hid hr
  clear hw1 KK ht hl hs hr
  dsimp only [RecV.val, SagaV.val, Sl.v]
  go_enter Tryd.func8, Tryd.ntmps8
  go_upto_region 1 with fail
  rw [HW1.out]
  clear HW1
  go_wp2_with fail
  refine (first_any w1).mono ?_
  rintro e w2 ⟨t, u, rfl, bt, bu, hb⟩
  obtain ⟨w3, hw3⟩ : ∃ q, (w2.alloc (.cells (recArr (firstR.words t)) 27)).alloc (.cells (sagaArr (firstD.words u nilSl nilSl nilSl)) 25) = q := ⟨_, rfl⟩
  have hb3 : Below w2.heap.size w2 w3 := by rw [← hw3]; exact boxd (boxd (Below.refl _ _))
  have KB3 : Hid (BlkAt w3 w2.heap.size (recArr (firstR.words t)) 27) := Lib.hid (by rw [← hw3]; exact (BlkAt.new _ _ _).push _)
  have KZ3 : Hid (BlkAt w3 (w2.heap.size + 1) (sagaArr (firstD.words u nilSl nilSl nilSl)) 25) := Lib.hid (by
    rw [← hw3]
    have := BlkAt.new (w2.alloc (.cells (recArr (firstR.words t)) 27)) (sagaArr (firstD.words u nilSl nilSl nilSl)) 25
    rw [World.size_alloc] at this
    exact this)
  have E3 := Lib.hid ((E1.out.bl hb).bl hb3)
  have hs2 : w.heap.size + 2 ≤ w2.heap.size := by have := hb.size; omega
  have BT3 := Lib.hid (bt.below hb3)
  have BU3 := Lib.hid (bu.below hb3)
  dsimp only [RecD.words, SagaD.words, recArr, sagaArr, firstR, firstD, nilSl, Sl.v] at hw3
  have HW3 := Lib.hid hw3
  clear hw3 hb hb3 bt bu E1
  dsimp only [RecD.words, SagaD.words, RecV.val, SagaV.val, firstR, firstD, nilSl, Sl.v]
  go_upto_region 2 with fail
  rw [HW3.out]
  clear HW3
  have hc0 : checkD firstD = 0 := (checkD_iff _).2 good_first
  have cS := story_any (firstD.words u nilSl nilSl nilSl) firstD w3 (HT.out.below E3.out.below) (first_rd BU3.out) fits_first
  rw [hc0, if_pos rfl, storyL_first] at cS
  have CS := Lib.hid cS
  clear cS hc0 BU3
  go_wp2_with (refine wpList_load_blk rfl _ _ rfl _ rfl _ _ KZ3.out rowSaga ?_)
  refine CS.out.mono ?_
  rintro e w4 ⟨v1, rfl, ho, hb⟩
  have E4 := Lib.hid (E3.out.bl hb)
  have KB4 := Lib.hid (KB3.out.below hb (blk_lt KB3.out))
  have BT4 := Lib.hid (BT3.out.below hb)
  obtain ⟨rs, q1, q2, ⟨q3, q3'⟩, q4, q5⟩ := ho.recsAt (by simp [firstR])
  obtain ⟨va, vn, vc⟩ := v1
  simp only at q1 q3 q4
  have hvn : vn = 1 := by rw [q1, q2]; rfl
  subst hvn
  obtain ⟨b0, o0, e, hc⟩ := q4 (by omega)
  subst e
  have hl1 : 0 < rs.length := by omega
  obtain ⟨rr, hrr⟩ : ∃ q, rs[0] = q := ⟨_, rfl⟩
  have hcj := hc 0 hl1
  have hrd := q5 0 hl1 (by simp)
  rw [hrr] at hcj hrd
  have HRD := Lib.hid hrd
  have ld : ∀ W, Since w4 W → ∀ i, i < (recArr rr).size → W.cell? ⟨b0, o0 + i, none⟩ = (recArr rr)[i]? := by
    intro W hW i hi
    have h1 := hcj i hi
    rw [show o0 + 0 * 12 + i = o0 + i by omega] at h1
    have h2 : rr.cells[i]? = (recArr rr)[i]? := by simp [recArr]
    rw [h2, Array.getElem?_eq_getElem hi] at h1
    rw [Array.getElem?_eq_getElem hi]
    exact (hW.out.cell (World.block_lt_of_cell? w4 _ h1)).trans h1
  have LD3 := Lib.hid ld
  clear CS hb ho KB3 KZ3 E3 BT3 q1 q2 q3 q3' q4 q5 hc hl1 hrr hcj hrd ld
  dsimp only [Sl.v]
  go_upto_region 3 with fail
  go_cut [42] (fun s42 wx => s42 = .bool false ∧ Hid (Since w4 wx))
  case first =>
    as_aux_lemma =>
    refine wp_region_held_drew (S := Since w4) (by kernel_rfl) ((Since.refl w4).drew) (fun hHeld => ?_)
    refine wpAnyH_take (i := 0) (oi := { dst := some 27, op := Op.move (Operand.tmp 8), type := 29, pos := "outright.go:132", after := #[], guard := none }) (v := ?_) rfl (by kernel_rfl) (by kernel_rfl) (by kernel_rfl) (fun _ _ _ h => h) (Or.inl ⟨by rfl, ?_⟩) (by assumption) ?_
    rotate_left 1
    focus (intro w hSw; (try clear hSw); go_simp; try (with_reducible rfl))
    try go_frame
    refine wpAnyH_ready (rs := [1]) (by kernel_rfl) (by simp) ?_
    refine AllReadyH.cons (o := { dst := some 28, op := Op.call { callee := Callee.value (Operand.func 14), args := #[Operand.tmp 27], argTypes := #[29] }, type := 3, pos := "outright.go:132", after := #[{ on := 0, ground := Ground.data }], guard := none }) rfl (fun K hK => ?_) ?_
    · go_simp
      refine (num_keep _ _).mono ?_
      rintro e w9 ⟨rfl, rfl⟩
      try go_wp2_with fail
      refine hK.out _ _ (hHeld) (fun hHeld => ?_)
      clear hK K
      try go_frame
      refine wpAnyH_take (i := 2) (oi := { dst := some 29, op := Op.binOp BinOp.neq 3 (Operand.tmp 28) (Operand.const (Value.int IntKind.i64 0)) 3, type := 4, pos := "outright.go:132", after := #[{ on := 1, ground := Ground.data }], guard := none }) (v := ?_) rfl (by kernel_rfl) (by kernel_rfl) (by kernel_rfl) (fun _ _ _ h => h) (Or.inl ⟨by rfl, ?_⟩) (by assumption) ?_
      rotate_left 1
      focus (intro w hSw; (try clear hSw); go_simp; try (with_reducible rfl))
      try go_frame
      refine wpAnyH_take (i := 3) (oi := { dst := some 30, op := Op.move (Operand.tmp 29), type := 4, pos := "outright.go:132", after := #[{ on := 2, ground := Ground.data }, { on := 1, ground := Ground.chain }], guard := none }) (v := ?_) rfl (by kernel_rfl) (by kernel_rfl) (by kernel_rfl) (fun _ _ _ h => h) (Or.inl ⟨by rfl, ?_⟩) (by assumption) ?_
      rotate_left 1
      focus (intro w hSw; (try clear hSw); go_simp; try (with_reducible rfl))
      try go_frame
      refine wpAnyH_take (i := 4) (oi := { dst := some 31, op := Op.move (Operand.tmp 7), type := 38, pos := "outright.go:132", after := #[{ on := 3, ground := Ground.guard }], guard := some (3, false) }) (v := ?_) rfl (by kernel_rfl) (by kernel_rfl) (by kernel_rfl) (fun _ _ _ h => h) (Or.inl ⟨by rfl, ?_⟩) (by assumption) ?_
      rotate_left 1
      focus (intro w hSw; (try clear hSw); go_simp; try (with_reducible rfl))
      try go_frame
      refine wpAnyH_take (i := 5) (oi := { dst := some 32, op := Op.call { callee := Callee.builtin Builtin.len, args := #[Operand.tmp 31], argTypes := #[38] }, type := 3, pos := "outright.go:132", after := #[{ on := 4, ground := Ground.data }, { on := 3, ground := Ground.guard }], guard := some (3, false) }) (v := ?_) rfl (by kernel_rfl) (by kernel_rfl) (by kernel_rfl) (fun _ _ _ h => h) (Or.inl ⟨by rfl, ?_⟩) (by assumption) ?_
      rotate_left 1
      focus (intro w hSw; (try clear hSw); go_simp; try (with_reducible rfl))
      try go_frame
      refine wpAnyH_take (i := 6) (oi := { dst := some 33, op := Op.binOp BinOp.neq 3 (Operand.tmp 32) (Operand.const (Value.int IntKind.i64 1)) 3, type := 4, pos := "outright.go:132", after := #[{ on := 5, ground := Ground.data }, { on := 3, ground := Ground.guard }], guard := some (3, false) }) (v := ?_) rfl (by kernel_rfl) (by kernel_rfl) (by kernel_rfl) (fun _ _ _ h => h) (Or.inl ⟨by rfl, ?_⟩) (by assumption) ?_
      rotate_left 1
      focus (intro w hSw; (try clear hSw); go_simp; try (with_reducible rfl))
      try go_frame
      refine wpAnyH_take (i := 7) (oi := { dst := some 34, op := Op.pick (Operand.tmp 30) (Operand.const (Value.bool true)) (Operand.tmp 33), type := 4, pos := "outright.go:132", after := #[{ on := 3, ground := Ground.data }, { on := 6, ground := Ground.data }], guard := none }) (v := ?_) rfl (by kernel_rfl) (by kernel_rfl) (by kernel_rfl) (fun _ _ _ h => h) (Or.inl ⟨by rfl, ?_⟩) (by assumption) ?_
      rotate_left 1
      focus (intro w hSw; (try clear hSw); go_simp; try (with_reducible rfl))
      try go_frame
      refine wpAnyH_take (i := 8) (oi := { dst := some 35, op := Op.move (Operand.tmp 34), type := 4, pos := "outright.go:132", after := #[{ on := 7, ground := Ground.data }, { on := 3, ground := Ground.chain }], guard := none }) (v := ?_) rfl (by kernel_rfl) (by kernel_rfl) (by kernel_rfl) (fun _ _ _ h => h) (Or.inl ⟨by rfl, ?_⟩) (by assumption) ?_
      rotate_left 1
      focus (intro w hSw; (try clear hSw); go_simp; try (with_reducible rfl))
      try go_frame
      refine wpAnyH_take (i := 9) (oi := { dst := some 36, op := Op.move (Operand.tmp 7), type := 38, pos := "outright.go:132", after := #[{ on := 8, ground := Ground.guard }], guard := some (8, false) }) (v := ?_) rfl (by kernel_rfl) (by kernel_rfl) (by kernel_rfl) (fun _ _ _ h => h) (Or.inl ⟨by rfl, ?_⟩) (by assumption) ?_
      rotate_left 1
      focus (intro w hSw; (try clear hSw); go_simp; try (with_reducible rfl))
      try go_frame
      refine wpAnyH_take (i := 10) (oi := { dst := some 37, op := Op.indexAddr 38 (Operand.tmp 36) (Operand.const (Value.int IntKind.i64 0)), type := 0, pos := "outright.go:132", after := #[{ on := 9, ground := Ground.data }, { on := 8, ground := Ground.guard }], guard := some (8, false) }) (v := ?_) rfl (by kernel_rfl) (by kernel_rfl) (by kernel_rfl) (fun _ _ _ h => h) (Or.inl ⟨by rfl, ?_⟩) (by assumption) ?_
      rotate_left 1
      focus (intro w hSw; (try clear hSw); go_simp; try (with_reducible rfl))
      try go_frame
      refine wpAnyH_take (i := 11) (oi := { dst := some 38, op := Op.load 27 (Operand.tmp 37), type := 27, pos := "outright.go:132", after := #[{ on := 10, ground := Ground.data }, { on := 8, ground := Ground.guard }], guard := some (8, false) }) (v := .agg (recArr rr)) rfl (by kernel_rfl) (by kernel_rfl) (by kernel_rfl) (fun _ _ _ h => h) (yl_at_g (by rfl) _ _ rfl _ _ rfl _ (fun w' h => LD3.out w' h) rowRec) (by assumption) ?_
      try go_frame
      refine wpAnyH_take (i := 12) (oi := { dst := some 39, op := Op.load 27 (Operand.tmp 5), type := 27, pos := "outright.go:132", after := #[{ on := 8, ground := Ground.guard }], guard := some (8, false) }) (v := .agg (recArr (firstR.words t))) rfl (by kernel_rfl) (by kernel_rfl) (by kernel_rfl) (fun _ _ _ h => h) (yl_blk_g (by rfl) _ _ rfl _ rfl _ _ (fun w' h => h.blk KB4.out) rowRec) (by assumption) ?_
      try go_frame
      refine wpAnyH_ready (rs := [13]) (by kernel_rfl) (by simp) ?_
      refine AllReadyH.cons (o := { dst := some 40, op := Op.call { callee := Callee.value (Operand.func 30), args := #[Operand.tmp 38, Operand.tmp 39], argTypes := #[27, 27] }, type := 4, pos := "outright.go:132", after := #[{ on := 11, ground := Ground.data }, { on := 12, ground := Ground.data }, { on := 8, ground := Ground.chain }, { on := 8, ground := Ground.guard }], guard := some (8, false) }) rfl (fun K hK => ?_) ?_
      · go_simp
        refine (recSame_eq rr (firstR.words t) firstR _ (HRD.out.below hHeld.out) ⟨rfl, BT4.out.below hHeld.out⟩).mono ?_
        rintro e w9 ⟨rfl, hb⟩
        try go_wp2_with fail
        refine hK.out _ _ (hHeld.call hb) (fun hHeld => ?_)
        clear hK K
        try go_frame
        refine wpAnyH_take (i := 14) (oi := { dst := some 41, op := Op.unOp UnOp.not 4 (Operand.tmp 40), type := 4, pos := "outright.go:132", after := #[{ on := 13, ground := Ground.data }, { on := 8, ground := Ground.guard }], guard := some (8, false) }) (v := ?_) rfl (by kernel_rfl) (by kernel_rfl) (by kernel_rfl) (fun _ _ _ h => h) (Or.inl ⟨by rfl, ?_⟩) (by assumption) ?_
        rotate_left 1
        focus (intro w hSw; (try clear hSw); go_simp; try (with_reducible rfl))
        try go_frame
        refine wpAnyH_take (i := 15) (oi := { dst := some 42, op := Op.pick (Operand.tmp 35) (Operand.const (Value.bool true)) (Operand.tmp 41), type := 4, pos := "outright.go:132", after := #[{ on := 8, ground := Ground.data }, { on := 14, ground := Ground.data }], guard := none }) (v := ?_) rfl (by kernel_rfl) (by kernel_rfl) (by kernel_rfl) (fun _ _ _ h => h) (Or.inl ⟨by rfl, ?_⟩) (by assumption) ?_
        rotate_left 1
        focus (intro w hSw; (try clear hSw); go_simp; try (with_reducible rfl))
        try go_frame
        refine wpAnyH_done (by kernel_rfl) ?_ _
        try go_wp2_with fail
        go_meet
        exact ⟨rfl, Lib.hid hHeld⟩
      exact AllReadyH.nil
    exact AllReadyH.nil
  case rest =>
    obtain ⟨wx, rfl⟩ : ∃ q : World, q = wc := ⟨_, rfl⟩
    obtain ⟨rfl, HSX⟩ := hcut
    have EX := Lib.hid (E4.out.bl HSX.out.out)
    clear KB4 BT4 LD3 HRD E4 HSX
    obtain ⟨C, hC⟩ : ∃ q, checkD D = q := ⟨_, rfl⟩
    have cS := fun W (h : Below w.heap.size w W) => story_any s D W (HT.out.below h) (HS.out.below h) fs
    have cK := fun W (h : Below w.heap.size w W) => sagaCheck_rd s D W (HT.out.tabs.below h) (HS.out.below h) fs
    simp only [hC] at cS cK
    have CS := Lib.hid cS
    have CK := Lib.hid cK
    have HC := Lib.hid hC
    clear cS cK hC
    go_wp2_with (refine wpList_load_blk rfl _ _ rfl _ rfl _ _ EX.out.ks rowSaga ?_)
    refine (CS.out _ EX.out.below).mono ?_
    rintro e w5 ⟨v, rfl, ho, hb⟩
    have E5 := Lib.hid (EX.out.bl hb)
    have OL := Lib.hid (ho.lower (c := w.heap.size) EX.out.below.size)
    clear hb ho EX CS
    obtain ⟨va, vn, vc⟩ := v
    dsimp only [Sl.v]
    go_wp2_with (refine wpList_load_blk rfl _ _ rfl _ rfl _ _ E5.out.ks rowSaga ?_)
    refine (CK.out _ E5.out.below).mono ?_
    rintro e w6 ⟨rfl, hb⟩
    have E6 := Lib.hid (E5.out.bl hb)
    have OL6 := Lib.hid (OL.out.through hb)
    clear hb OL E5 CK
    by_cases c0 : C = 0
    · subst c0
      have hg := (checkD_iff D).1 HC.out
      have HG := Lib.hid hg
      have o6 := OL6.out
      rw [if_pos rfl] at o6
      obtain ⟨rs, q1, q2, ⟨q3, q3'⟩, q4, q5⟩ := recsAt_mk (o6.recsAt (v := ⟨va, vn, vc⟩) (fun R hR => by have := (tell_small hg R hR).1; omega))
      simp only at q1 q3 q4
      have hvl : vn = (storyL D).length := by omega
      have hv1 : 1 ≤ vn := by rw [hvl, tell_len]; omega
      obtain ⟨b0, o0, e, hc⟩ := q4 (by omega)
      subst e
      have hld : ∀ i (h : i < rs.length) W, Since w6 W → ∀ j, j < (recArr rs[i]).size → W.cell? ⟨b0, o0 + i * 12 + j, none⟩ = (recArr rs[i])[j]? := by
        intro i h W hW j hj
        have h1 := hc i h j hj
        have h2 : (rs[i]).cells[j]? = (recArr rs[i])[j]? := by simp [recArr]
        rw [h2, Array.getElem?_eq_getElem hj] at h1
        rw [Array.getElem?_eq_getElem hj]
        exact (hW.out.cell (World.block_lt_of_cell? w6 _ h1)).trans h1
      have HLD := Lib.hid hld
      have HRDS := Lib.hid q5
      have Q1 := Lib.hid q1
      have Q2 := Lib.hid q2
      have HVL := Lib.hid hvl
      have hv0 : ((vn : Int) == 0) = false := by rw [beq_eq_false_iff_ne]; omega
      have hr0 : 0 < rs.length := by omega
      obtain ⟨rr, hrr⟩ : ∃ q, rs[0] = q := ⟨_, rfl⟩
      have ld0 := hld 0 hr0
      have rd0 := q5 0 hr0 (by rw [tell_len]; omega)
      rw [hrr] at ld0 rd0
      rw [Nat.zero_mul, Nat.add_zero] at ld0
      have HLD0 := Lib.hid (ld0 w6 (Since.refl _))
      obtain ⟨hB1, hB2⟩ := begin_story hg hbg
      have cB := begin_any rr (beginR D) w6 (HT.out.below E6.out.below) rd0 (tell_fits hg fs.name (List.mem_cons_self ..))
      rw [hB1, hB2] at cB
      have CB := Lib.hid cB
      have hsg : GoodD (startD D) := by rw [← hB2]; exact (begin_taken hB1).2.2.2
      have HSG := Lib.hid hsg
      have hsp := story_plays hg hbg hat
      have HSP := Lib.hid hsp
      clear o6 q1 q2 q3' q4 q5 hc hld hrr ld0 rd0 cB hB1 hB2 hsg hsp hg hvl hr0 OL6
      go_wp2_with (first
        | (go_at_call 14; (with_reducible refine (num_keep _ _).mono ?_); rintro e w9 ⟨rfl, rfl⟩)
        | (refine wpList_load_at rfl _ _ rfl _ _ rfl _ HLD0.out rowRec ?_))
      refine CB.out.mono ?_
      rintro e w7 ⟨s7, rfl, ho, hb⟩
      have h67 := hb.size
      obtain ⟨w8, hw8⟩ : ∃ q, w7.alloc (.cells (sagaArr s7) 25) = q := ⟨_, rfl⟩
      have hb8 : Below w7.heap.size w7 w8 := by rw [← hw8]; exact boxd (Below.refl _ _)
      have hA : At w6 w8 w7.heap.size s7 (startD D) D ((storyL D).drop 1) := ⟨⟨then_ hb hb8⟩, by rw [← hw8]; exact BlkAt.new _ _ _, ho.through hb8, HSG.out, rfl, HSP.out, h67⟩
      have TA := Lib.hid hA
      dsimp only [sagaArr, Sl.v] at hw8
      have HW8 := Lib.hid hw8
      clear hw8 hb8 hA hb ho CB HLD0
      dsimp only [SagaV.val, Sl.v]
      go_upto_region 13 with fail
      rw [HW8.out]
      clear HW8
      obtain ⟨g, hgq⟩ : ∃ q, w7.heap.size = q := ⟨_, rfl⟩
      rw [hgq] at TA h67 ⊢
      clear hgq
      go_wp2_with fail
      go_loopw [13, 14] (fun f i wr => ∃ (m : Nat) (sq : SagaV) (Dq : SagaD), 1 ≤ m ∧ m ≤ vn ∧ f = .int .i64 0 ∧ i = .int .i64 m ∧ Hid (At w6 wr g sq Dq D ((storyL D).drop m))) (fun _ i _ => vn - (intOf i).toNat)
      case atStart => exact ⟨1, s7, startD D, by omega, hv1, rfl, rfl, TA⟩
      case round =>
        clear TA
        obtain ⟨m, sq, Dq, hm1, hmn, rfl, rfl, TA⟩ := hrel
        by_cases hlt : m < vn
        · as_aux_lemma =>
          have hm2 : m < rs.length := by have := Q1.out; omega
          have hm3 : m < (storyL D).length := by have := HVL.out; omega
          obtain ⟨rm, hrm⟩ : ∃ q, rs[m] = q := ⟨_, rfl⟩
          obtain ⟨Rm, hRm⟩ : ∃ q, (storyL D)[m] = q := ⟨_, rfl⟩
          have ldm := HLD.out m hm2
          have rdm := HRDS.out m hm2 hm3
          rw [hrm] at ldm rdm
          rw [hRm] at rdm
          have hin : Rm ∈ storyL D := by rw [← hRm]; exact List.getElem_mem hm3
          have fm := tell_fits HG.out fs.name hin
          have hpl := TA.out.plays
          rw [List.drop_eq_getElem_cons hm3, hRm] at hpl
          obtain ⟨hp1, hp2⟩ := hpl
          have hq := TA.out.good.fits (by rw [TA.out.name]; exact fs.name)
          have fq : SagaFits Dq := ⟨hq.1, hq.2.1, hq.2.2⟩
          have hnm : (applyD Dq Rm).name = D.name := by rw [(apply_taken hp1).2.2.2.1, ← TA.out.name]; exact (moved_kept _ _).name
          have hgd := (apply_taken hp1).2.2.2.2
          have cA : ∀ W, Since wr W → Calls Tryd.prog 16 #[sq.val, rm.val] W fun e w' => ∃ s', e = .returned (.tuple #[SagaV.val s', .int .i64 0]) ∧ SagaOwn w' w6.heap.size s' (applyD Dq Rm) ∧ Below W.heap.size W w' := by
            intro W hW
            have hWw := E6.out.bl (TA.out.since.trans hW).out
            have c := apply_any sq Dq rm Rm W (HT.out.below hWw.below) (HL.out.below hWw.below) ((TA.out.own.through hW.out).rd TA.out.good.small) (rdm.below (TA.out.since.trans hW).out) fq fm
            rw [hp1] at c
            refine c.mono ?_
            rintro e w' ⟨s', he, ho, hb⟩
            exact ⟨s', he, ho.lower ((TA.out.since.trans hW).le), hb⟩
          have CA := Lib.hid cA
          have HLDM := Lib.hid ldm
          have HP2 := Lib.hid hp2
          have HNM := Lib.hid hnm
          have HGD := Lib.hid hgd
          have KBL := Lib.hid TA.out.blk
          clear hm2 hm3 hrm hRm ldm rdm hin fm hp1 hp2 hq fq hnm hgd cA
          go_upto_region 18 with (go_at_call 14; (with_reducible refine (num_keep _ _).mono ?_); rintro e w9 ⟨rfl, rfl⟩)
          refine wp_region_held_drew (S := (fun _ => True)) (by kernel_rfl) (trivial) (fun hHeld => ?_)
          refine wpAnyH_take (i := 1) (oi := { dst := some 102, op := Op.move (Operand.tmp 7), type := 38, pos := "outright.go:149", after := #[], guard := none }) (v := ?_) rfl (by kernel_rfl) (by kernel_rfl) (by kernel_rfl) (fun _ _ _ h => h) (Or.inl ⟨by rfl, ?_⟩) (by assumption) ?_
          rotate_left 1
          focus (intro w hSw; (try clear hSw); go_simp; try (with_reducible rfl))
          try go_frame
          refine wpAnyH_take (i := 2) (oi := { dst := some 103, op := Op.move (Operand.tmp 14), type := 3, pos := "outright.go:149", after := #[], guard := none }) (v := ?_) rfl (by kernel_rfl) (by kernel_rfl) (by kernel_rfl) (fun _ _ _ h => h) (Or.inl ⟨by rfl, ?_⟩) (by assumption) ?_
          rotate_left 1
          focus (intro w hSw; (try clear hSw); go_simp; try (with_reducible rfl))
          try go_frame
          refine wpAnyH_take (i := 3) (oi := { dst := some 104, op := Op.indexAddr 38 (Operand.tmp 102) (Operand.tmp 103), type := 0, pos := "outright.go:149", after := #[{ on := 1, ground := Ground.data }, { on := 2, ground := Ground.data }], guard := none }) (v := ?_) rfl (by kernel_rfl) (by kernel_rfl) (by kernel_rfl) (fun _ _ _ h => h) (Or.inl ⟨by rfl, ?_⟩) (by assumption) ?_
          rotate_left 1
          focus (intro w hSw; (try clear hSw); go_simp; try (with_reducible rfl))
          try go_frame
          refine wpAnyH_ready (rs := [0, 4]) (by kernel_rfl) (by simp) ?_
          refine AllReadyH.cons (o := { dst := some 101, op := Op.load 25 (Operand.tmp 12), type := 25, pos := "outright.go:149", after := #[], guard := none }) rfl (fun K hK => ?_) ?_
          · refine step_load_blk rfl _ _ rfl _ rfl _ (sagaArr sq) (show BlkAt wr.drew g (sagaArr sq) _ from KBL.out) rowSaga ?_
            refine hK.out _ _ (trivial) (fun hHeld => ?_)
            clear hK K
            try go_frame
            refine wpAnyH_ready (rs := [4]) (by kernel_rfl) (by simp) ?_
            refine AllReadyH.cons (o := { dst := some 105, op := Op.load 27 (Operand.tmp 104), type := 27, pos := "outright.go:149", after := #[{ on := 3, ground := Ground.data }], guard := none }) rfl (fun K hK => ?_) ?_
            · refine step_load_at rfl _ _ rfl _ _ rfl (recArr rm) (HLDM.out wr.drew TA.out.since.drew) rowRec ?_
              refine hK.out _ _ (trivial) (fun hHeld => ?_)
              clear hK K
              try go_frame
              refine wpAnyH_ready (rs := [5]) (by kernel_rfl) (by simp) ?_
              refine AllReadyH.cons (o := { dst := some 106, op := Op.call { callee := Callee.value (Operand.func 16), args := #[Operand.tmp 101, Operand.tmp 105], argTypes := #[25, 27] }, type := 33, pos := "outright.go:149", after := #[{ on := 0, ground := Ground.data }, { on := 4, ground := Ground.data }], guard := none }) rfl (fun K hK => ?_) ?_
              · go_simp
                refine (CA.out wr.drew (Since.refl wr).drew).mono ?_
                rintro e w9 ⟨s2, rfl, ho, hb⟩
                try go_wp2_with fail
                refine hK.out _ _ (trivial) (fun hHeld => ?_)
                clear hK K
                try go_frame
                refine wpAnyH_take (i := 6) (oi := { dst := some 100, op := Op.move (Operand.tmp 106), type := 33, pos := "outright.go:149", after := #[{ on := 5, ground := Ground.data }], guard := none }) (v := ?_) rfl (by kernel_rfl) (by kernel_rfl) (by kernel_rfl) (fun _ _ _ h => h) (Or.inl ⟨by rfl, ?_⟩) (by assumption) ?_
                rotate_left 1
                focus (intro w hSw; (try clear hSw); go_simp; try (with_reducible rfl))
                try go_frame
                refine wpAnyH_take (i := 7) (oi := { dst := some 107, op := Op.extract (Operand.tmp 100) 0, type := 25, pos := "outright.go:149", after := #[{ on := 6, ground := Ground.data }], guard := none }) (v := ?_) rfl (by kernel_rfl) (by kernel_rfl) (by kernel_rfl) (fun _ _ _ h => h) (Or.inl ⟨by rfl, ?_⟩) (by assumption) ?_
                rotate_left 1
                focus (intro w hSw; (try clear hSw); go_simp; try (with_reducible rfl))
                try go_frame
                refine wpAnyH_take (i := 8) (oi := { dst := some 108, op := Op.extract (Operand.tmp 100) 1, type := 29, pos := "outright.go:149", after := #[{ on := 6, ground := Ground.data }, { on := 9, ground := Ground.gcOnly Departure.lateStores }], guard := none }) (v := ?_) rfl (by kernel_rfl) (by kernel_rfl) (by kernel_rfl) (fun _ _ _ h => h) (Or.inl ⟨by rfl, ?_⟩) (by assumption) ?_
                rotate_left 1
                focus (intro w hSw; (try clear hSw); go_simp; try (with_reducible rfl))
                try go_frame
                refine wpAnyH_ready (rs := [9]) (by kernel_rfl) (by simp) ?_
                refine AllReadyH.cons (o := { dst := none, op := Op.store 25 (Operand.tmp 12) (Operand.tmp 107), type := 0, pos := "outright.go:149", after := #[{ on := 7, ground := Ground.data }, { on := 5, ground := Ground.chain }, { on := 0, ground := Ground.phase }, { on := 1, ground := Ground.phase }, { on := 2, ground := Ground.phase }, { on := 3, ground := Ground.phase }, { on := 4, ground := Ground.phase }, { on := 5, ground := Ground.phase }, { on := 6, ground := Ground.phase }, { on := 7, ground := Ground.phase }, { on := 8, ground := Ground.textOnly Departure.lateStores }], guard := none }) rfl (fun K hK => ?_) ?_
                · refine step_store_blk rfl _ _ _ rfl _ rfl (sagaArr s2) rfl _ _ (BlkAt.below (show BlkAt wr.drew g (sagaArr sq) _ from KBL.out) hb (blk_lt KBL.out)) (by rfl) (by simp [sagaArr, Value.oneCell']) rowSaga ?_
                  intro w7 hw7 KS7
                  refine hK.out _ _ (trivial) (fun hHeld => ?_)
                  clear hK K
                  try go_frame
                  refine wpAnyH_ready (rs := [10]) (by kernel_rfl) (by simp) ?_
                  refine AllReadyH.cons (o := { dst := some 13, op := Op.assign (Operand.tmp 108), type := 29, pos := "outright.go:149", after := #[{ on := 8, ground := Ground.data }, { on := 9, ground := Ground.chain }, { on := 0, ground := Ground.phase }, { on := 1, ground := Ground.phase }, { on := 2, ground := Ground.phase }, { on := 3, ground := Ground.phase }, { on := 4, ground := Ground.phase }, { on := 5, ground := Ground.phase }, { on := 6, ground := Ground.phase }, { on := 7, ground := Ground.phase }, { on := 8, ground := Ground.phase }, { on := 9, ground := Ground.phase }], guard := none }) rfl (fun K hK => ?_) ?_
                  · go_simp
                    refine hK.out _ _ (by assumption) (fun hHeld => ?_)
                    clear hK K
                    try go_frame
                    refine wpAnyH_done (by kernel_rfl) ?_ _
                    have hE : At w6 w7 g s2 (applyD Dq Rm) D ((storyL D).drop (m + 1)) := ⟨(TA.out.since.drew.call hb).wrote hw7 TA.out.low, KS7, ho.keep (hw7.rows (BlkAt.below (show BlkAt wr.drew g (sagaArr sq) _ from KBL.out) hb (blk_lt KBL.out)) (by decide) (by decide)), HGD.out, HNM.out, HP2.out, TA.out.low⟩
                    have TB := Lib.hid hE
                    clear hE hw7 KS7 ho hb hHeld
                    go_wp2_with fail
                    all_goals go_roundw
                    case rel => exact ⟨m + 1, s2, _, by omega, by omega, rfl, by go_num, TB⟩
                    case measure => simp [intOf]; omega
                  exact AllReadyH.nil
                exact AllReadyH.nil
              exact AllReadyH.nil
            exact AllReadyH.nil
          refine AllReadyH.cons (o := { dst := some 105, op := Op.load 27 (Operand.tmp 104), type := 27, pos := "outright.go:149", after := #[{ on := 3, ground := Ground.data }], guard := none }) rfl (fun K hK => ?_) ?_
          · refine step_load_at rfl _ _ rfl _ _ rfl (recArr rm) (HLDM.out wr.drew TA.out.since.drew) rowRec ?_
            refine hK.out _ _ (trivial) (fun hHeld => ?_)
            clear hK K
            try go_frame
            refine wpAnyH_ready (rs := [0]) (by kernel_rfl) (by simp) ?_
            refine AllReadyH.cons (o := { dst := some 101, op := Op.load 25 (Operand.tmp 12), type := 25, pos := "outright.go:149", after := #[], guard := none }) rfl (fun K hK => ?_) ?_
            · refine step_load_blk rfl _ _ rfl _ rfl _ (sagaArr sq) (show BlkAt wr.drew g (sagaArr sq) _ from KBL.out) rowSaga ?_
              refine hK.out _ _ (trivial) (fun hHeld => ?_)
              clear hK K
              try go_frame
              refine wpAnyH_ready (rs := [5]) (by kernel_rfl) (by simp) ?_
              refine AllReadyH.cons (o := { dst := some 106, op := Op.call { callee := Callee.value (Operand.func 16), args := #[Operand.tmp 101, Operand.tmp 105], argTypes := #[25, 27] }, type := 33, pos := "outright.go:149", after := #[{ on := 0, ground := Ground.data }, { on := 4, ground := Ground.data }], guard := none }) rfl (fun K hK => ?_) ?_
              · go_simp
                refine (CA.out wr.drew (Since.refl wr).drew).mono ?_
                rintro e w9 ⟨s2, rfl, ho, hb⟩
                try go_wp2_with fail
                refine hK.out _ _ (trivial) (fun hHeld => ?_)
                clear hK K
                try go_frame
                refine wpAnyH_take (i := 6) (oi := { dst := some 100, op := Op.move (Operand.tmp 106), type := 33, pos := "outright.go:149", after := #[{ on := 5, ground := Ground.data }], guard := none }) (v := ?_) rfl (by kernel_rfl) (by kernel_rfl) (by kernel_rfl) (fun _ _ _ h => h) (Or.inl ⟨by rfl, ?_⟩) (by assumption) ?_
                rotate_left 1
                focus (intro w hSw; (try clear hSw); go_simp; try (with_reducible rfl))
                try go_frame
                refine wpAnyH_take (i := 7) (oi := { dst := some 107, op := Op.extract (Operand.tmp 100) 0, type := 25, pos := "outright.go:149", after := #[{ on := 6, ground := Ground.data }], guard := none }) (v := ?_) rfl (by kernel_rfl) (by kernel_rfl) (by kernel_rfl) (fun _ _ _ h => h) (Or.inl ⟨by rfl, ?_⟩) (by assumption) ?_
                rotate_left 1
                focus (intro w hSw; (try clear hSw); go_simp; try (with_reducible rfl))
                try go_frame
                refine wpAnyH_take (i := 8) (oi := { dst := some 108, op := Op.extract (Operand.tmp 100) 1, type := 29, pos := "outright.go:149", after := #[{ on := 6, ground := Ground.data }, { on := 9, ground := Ground.gcOnly Departure.lateStores }], guard := none }) (v := ?_) rfl (by kernel_rfl) (by kernel_rfl) (by kernel_rfl) (fun _ _ _ h => h) (Or.inl ⟨by rfl, ?_⟩) (by assumption) ?_
                rotate_left 1
                focus (intro w hSw; (try clear hSw); go_simp; try (with_reducible rfl))
                try go_frame
                refine wpAnyH_ready (rs := [9]) (by kernel_rfl) (by simp) ?_
                refine AllReadyH.cons (o := { dst := none, op := Op.store 25 (Operand.tmp 12) (Operand.tmp 107), type := 0, pos := "outright.go:149", after := #[{ on := 7, ground := Ground.data }, { on := 5, ground := Ground.chain }, { on := 0, ground := Ground.phase }, { on := 1, ground := Ground.phase }, { on := 2, ground := Ground.phase }, { on := 3, ground := Ground.phase }, { on := 4, ground := Ground.phase }, { on := 5, ground := Ground.phase }, { on := 6, ground := Ground.phase }, { on := 7, ground := Ground.phase }, { on := 8, ground := Ground.textOnly Departure.lateStores }], guard := none }) rfl (fun K hK => ?_) ?_
                · refine step_store_blk rfl _ _ _ rfl _ rfl (sagaArr s2) rfl _ _ (BlkAt.below (show BlkAt wr.drew g (sagaArr sq) _ from KBL.out) hb (blk_lt KBL.out)) (by rfl) (by simp [sagaArr, Value.oneCell']) rowSaga ?_
                  intro w7 hw7 KS7
                  refine hK.out _ _ (trivial) (fun hHeld => ?_)
                  clear hK K
                  try go_frame
                  refine wpAnyH_ready (rs := [10]) (by kernel_rfl) (by simp) ?_
                  refine AllReadyH.cons (o := { dst := some 13, op := Op.assign (Operand.tmp 108), type := 29, pos := "outright.go:149", after := #[{ on := 8, ground := Ground.data }, { on := 9, ground := Ground.chain }, { on := 0, ground := Ground.phase }, { on := 1, ground := Ground.phase }, { on := 2, ground := Ground.phase }, { on := 3, ground := Ground.phase }, { on := 4, ground := Ground.phase }, { on := 5, ground := Ground.phase }, { on := 6, ground := Ground.phase }, { on := 7, ground := Ground.phase }, { on := 8, ground := Ground.phase }, { on := 9, ground := Ground.phase }], guard := none }) rfl (fun K hK => ?_) ?_
                  · go_simp
                    refine hK.out _ _ (by assumption) (fun hHeld => ?_)
                    clear hK K
                    try go_frame
                    refine wpAnyH_done (by kernel_rfl) ?_ _
                    have hE : At w6 w7 g s2 (applyD Dq Rm) D ((storyL D).drop (m + 1)) := ⟨(TA.out.since.drew.call hb).wrote hw7 TA.out.low, KS7, ho.keep (hw7.rows (BlkAt.below (show BlkAt wr.drew g (sagaArr sq) _ from KBL.out) hb (blk_lt KBL.out)) (by decide) (by decide)), HGD.out, HNM.out, HP2.out, TA.out.low⟩
                    have TB := Lib.hid hE
                    clear hE hw7 KS7 ho hb hHeld
                    go_wp2_with fail
                    all_goals go_roundw
                    case rel => exact ⟨m + 1, s2, _, by omega, by omega, rfl, by go_num, TB⟩
                    case measure => simp [intOf]; omega
                  exact AllReadyH.nil
                exact AllReadyH.nil
              exact AllReadyH.nil
            exact AllReadyH.nil
          exact AllReadyH.nil
        · as_aux_lemma =>
          have hm : m = vn := by omega
          subst hm
          have hp := TA.out.plays
          rw [List.drop_of_length_le (by have := HVL.out; omega)] at hp
          have hDq : D = Dq := (show Dq = D from hp).symm
          subst hDq
          have EZ := Lib.hid (E6.out.bl TA.out.since.out)
          have cM := same_any sq s D D wr (TA.out.own.rd HG.out.small) (HS.out.below EZ.out.below)
          rw [sameB_refl] at cM
          have CM := Lib.hid cM
          have KBL := Lib.hid TA.out.blk
          clear hp cM TA HSP HSG HLD HRDS Q1 Q2 HVL E6
          go_upto_region 21 with (first
            | (go_at_call 14; (with_reducible refine (num_keep _ _).mono ?_); rintro e w9' ⟨rfl, rfl⟩)
            | (refine wpList_load_blk_g rfl _ _ rfl _ rfl _ _ KBL.out rowSaga ?_)
            | (refine wpList_load_blk_g rfl _ _ rfl _ rfl _ _ EZ.out.ks rowSaga ?_)
            | (go_at_call 17; refine CM.out.mono ?_; rintro e w9 ⟨rfl, hb⟩; have EY := Lib.hid (EZ.out.bl hb); clear hb))
          obtain ⟨N, hN⟩ : ∃ q, applyN D R = q := ⟨_, rfl⟩
          have cA := apply_any s D r R w9 (HT.out.below EY.out.below) (HL.out.below EY.out.below) (HS.out.below EY.out.below) (HR.out.below EY.out.below) fs fr
          rw [hN] at cA
          have CA := Lib.hid cA
          have HN := Lib.hid hN
          clear hN cA CM KBL EZ
          go_wp2_with (first
            | (refine wpList_load_blk rfl _ _ rfl _ rfl _ _ EY.out.ks rowSaga ?_)
            | (refine wpList_load_blk rfl _ _ rfl _ rfl _ _ EY.out.kr rowRec ?_))
          refine CA.out.mono ?_
          rintro e wA ⟨s5, rfl, ho, hb⟩
          obtain ⟨wB, hwB⟩ : ∃ q, wA.alloc (.cells (sagaArr s5) 25) = q := ⟨_, rfl⟩
          have hbB : Below wA.heap.size wA wB := by rw [← hwB]; exact boxd (Below.refl _ _)
          have KB : Hid (BlkAt wB wA.heap.size (sagaArr s5) 25) := Lib.hid (by rw [← hwB]; exact BlkAt.new _ _ _)
          have EB := Lib.hid ((EY.out.bl hb).bl hbB)
          have OB := Lib.hid (ho.through hbB)
          dsimp only [sagaArr, Sl.v] at hwB
          have HWB := Lib.hid hwB
          clear hwB hbB hb ho CA
          dsimp only [SagaV.val, Sl.v]
          go_upto_region 22 with fail
          rw [HWB.out]
          clear HWB
          by_cases n0 : N = 0
          · subst n0
            have hgd := (apply_taken HN.out).2.2.2.2
            have hkp : KeptD D (applyD D R) := by rw [(apply_taken HN.out).2.2.2.1]; exact moved_kept _ _
            have hnm : (applyD D R).name.size ≤ 4611686018427387904 := by rw [hkp.name]; exact fs.name
            have f2 : SagaFits (applyD D R) := by obtain ⟨q1, q2, q3⟩ := hgd.fits hnm; exact ⟨q1, q2, q3⟩
            have cK := sagaCheck_rd s5 (applyD D R) wB (HT.out.tabs.below EB.out.below) (OB.out.rd hgd.small) f2
            rw [(checkD_iff _).2 hgd] at cK
            have CK := Lib.hid cK
            have e5 := OB.out.eq
            have es := HS.out.eq
            have u0 : (sagaArr s5)[0]? = some (.int .i64 D.id) := by rw [← hkp.id]; show some (Value.int .i64 s5.id) = _; rw [e5]
            have u1 : (sagaArr s5)[1]? = some (.string D.name) := by rw [← hkp.name]; show some (Value.string s5.name) = _; rw [e5]
            have u2 : (sagaArr s5)[2]? = some (.int .i64 D.count) := by rw [← hkp.count]; show some (Value.int .i64 s5.count) = _; rw [e5]
            have u3 : (sagaArr s5)[3]? = some (.int .i64 D.pivot) := by rw [← hkp.pivot]; show some (Value.int .i64 s5.pivot) = _; rw [e5]
            have u4 : (sagaArr s5)[4]? = some (.int .i64 D.begun) := by rw [← hkp.begun]; show some (Value.int .i64 s5.begun) = _; rw [e5]
            have x0 : (sagaArr s)[0]? = some (.int .i64 D.id) := by show some (Value.int .i64 s.id) = _; rw [es]
            have x1 : (sagaArr s)[1]? = some (.string D.name) := by show some (Value.string s.name) = _; rw [es]
            have x2 : (sagaArr s)[2]? = some (.int .i64 D.count) := by show some (Value.int .i64 s.count) = _; rw [es]
            have x3 : (sagaArr s)[3]? = some (.int .i64 D.pivot) := by show some (Value.int .i64 s.pivot) = _; rw [es]
            have x4 : (sagaArr s)[4]? = some (.int .i64 D.begun) := by show some (Value.int .i64 s.begun) = _; rw [es]
            have U0 := Lib.hid u0
            have U1 := Lib.hid u1
            have U2 := Lib.hid u2
            have U3 := Lib.hid u3
            have U4 := Lib.hid u4
            have X0 := Lib.hid x0
            have X1 := Lib.hid x1
            have X2 := Lib.hid x2
            have X3 := Lib.hid x3
            have X4 := Lib.hid x4
            clear hgd hkp hnm f2 cK e5 es u0 u1 u2 u3 u4 x0 x1 x2 x3 x4
            go_upto_region 25 with (first
              | (go_at_call 14; (with_reducible refine (num_keep _ _).mono ?_); rintro e w9' ⟨rfl, rfl⟩)
              | (refine wpList_load_blk rfl _ _ rfl _ rfl _ _ KB.out rowSaga ?_)
              | (go_at_call 25; refine CK.out.mono ?_; rintro e wC ⟨rfl, hb⟩; have EC := Lib.hid (EB.out.bl hb); have KC := Lib.hid (KB.out.below hb (blk_lt KB.out)); clear hb))
            clear CK KB EB OB EY
            go_wp2_with (first
              | (go_at_call 14; (with_reducible refine (num_keep _ _).mono ?_); rintro e w9' ⟨rfl, rfl⟩)
              | (refine wpList_load_field_g rfl _ _ rfl _ 0 rfl _ _ KC.out _ U0.out one_int ?_)
              | (refine wpList_load_field_g rfl _ _ rfl _ 0 rfl _ _ EC.out.ks _ X0.out one_int ?_)
              | (refine wpList_load_field_g rfl _ _ rfl _ 2 rfl _ _ KC.out _ U2.out one_int ?_)
              | (refine wpList_load_field_g rfl _ _ rfl _ 2 rfl _ _ EC.out.ks _ X2.out one_int ?_)
              | (refine wpList_load_field_g rfl _ _ rfl _ 3 rfl _ _ KC.out _ U3.out one_int ?_)
              | (refine wpList_load_field_g rfl _ _ rfl _ 3 rfl _ _ EC.out.ks _ X3.out one_int ?_)
              | (refine wpList_load_field_g rfl _ _ rfl _ 4 rfl _ _ KC.out _ U4.out one_int ?_)
              | (refine wpList_load_field_g rfl _ _ rfl _ 4 rfl _ _ EC.out.ks _ X4.out one_int ?_)
              | (refine wpList_load_field_g rfl _ _ rfl _ 1 rfl _ _ KC.out _ U1.out one_str ?_)
              | (refine wpList_load_field_g rfl _ _ rfl _ 1 rfl _ _ EC.out.ks _ X1.out one_str ?_))
            go_ret
            exact ⟨by simp, EC.out.below⟩
          · have n0' : (N == 0) = false := by rw [beq_eq_false_iff_ne]; exact n0
            go_wp2_with (go_at_call 14; (with_reducible refine (num_keep _ _).mono ?_); rintro e w9' ⟨rfl, rfl⟩)
            all_goals go_ret
            all_goals exact ⟨rfl, EB.out.below⟩
    · as_aux_lemma =>
      have hC1 : C = 100 := by rw [← HC.out]; exact checkD_not (by rw [HC.out]; exact c0)
      subst hC1
      have o6 := OL6.out
      rw [if_neg (by decide)] at o6
      have hv0 : vn = 0 := by have := (o6.recsAt (v := ⟨va, vn, vc⟩) (by simp)).len; simpa using this
      subst hv0
      have hN : applyN D R = 100 := if_pos (by rw [HC.out]; decide)
      have cA := apply_any s D r R w6 (HT.out.below E6.out.below) (HL.out.below E6.out.below) (HS.out.below E6.out.below) (HR.out.below E6.out.below) fs fr
      rw [hN] at cA
      have CA := Lib.hid cA
      clear o6 hN cA c0 OL6
      go_wp2_with (first
        | (go_at_call 14; (with_reducible refine (num_keep _ _).mono ?_); rintro e w9' ⟨rfl, rfl⟩)
        | (refine wpList_load_blk rfl _ _ rfl _ rfl _ _ E6.out.ks rowSaga ?_)
        | (refine wpList_load_blk rfl _ _ rfl _ rfl _ _ E6.out.kr rowRec ?_))
      refine CA.out.mono ?_
      rintro e wA ⟨s5, rfl, ho, hb⟩
      have EB := Lib.hid (E6.out.bl hb)
      clear ho hb CA
      dsimp only [SagaV.val, Sl.v]
      go_wp2_with (go_at_call 14; (with_reducible refine (num_keep _ _).mono ?_); rintro e w9' ⟨rfl, rfl⟩)
      all_goals go_ret
      all_goals exact ⟨by simp, boxd EB.out.below⟩
end sagaTold
end Go.Proofs.YteaiadpigpehaaaDoor
