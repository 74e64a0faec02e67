/-
  annalslaw10.both and started walked: what is asked ahead of every script. Conditions: the tables, as laid. (Printed by wip/gen_both.py.)
-/
import Derived.Test.YteaiadpigpehaaaGreatDoorRef10Apply
import Derived.Test.YteaiadpigpehaaaGreatDoorRef10Told1
namespace Go.Proofs.YteaiadpigpehaaaGreatDoor
open Go.RowKit

theorem num_keep2 (n : Int) (w : World) : Calls Tryz.prog 18 #[.int .i64 n] w fun e w' => e = .returned (.int .i64 n) ∧ w = w' := (num_any n w).mono fun _ _ h => ⟨h.1, h.2.symm⟩
def firstU : SagaD := ⟨7, ⟨#[98, 117, 121]⟩, 2, 1, 5, 5, [105, 110], 1, 0, true, 1, [], [], 0, 0, []⟩
theorem good_firstU : GoodD firstU := by
  constructor
  · constructor <;> first | decide | rfl
  · intro _
    constructor <;> first | decide | rfl
  · intro h
    exact absurd (Or.inl rfl) h
def bothL : List RecD := [⟨3, 2, 7, 1, 3, 5, 0, 0, 0, 0, ⟨#[]⟩, []⟩, ⟨3, 2, 8, 1, 3, 5, 0, 0, 0, 0, ⟨#[]⟩, []⟩, ⟨3, 5, 7, 1, 3, 5, 0, 0, 0, 0, ⟨#[]⟩, []⟩, ⟨3, 4, 7, 1, 0, 5, 1, 0, 0, 0, ⟨#[]⟩, []⟩, ⟨3, 7, 7, 0, 0, 5, 0, 2, 0, 0, ⟨#[]⟩, []⟩, ⟨3, 3, 7, 1, 0, 5, 0, 0, 0, 0, ⟨#[]⟩, []⟩]
theorem applyN_ne {D : SagaD} {R : RecD} (h : refusedD D (up3 R) ≠ 0) : applyN D R ≠ 0 := by
  unfold applyN
  split
  · decide
  · split
    · assumption
    · exact h
/-- What each of the records is. -/
structure BothR (R : RecD) : Prop where
  name : R.name = ⟨#[]⟩
  data : R.data = []
  s : applyN firstD R ≠ 0
  u : applyN firstU R ≠ 0
theorem both_all : ∀ R ∈ bothL, BothR R := by
  intro R hR
  simp only [bothL, List.mem_cons, List.not_mem_nil, or_false] at hR
  rcases hR with rfl | rfl | rfl | rfl | rfl | rfl
  all_goals exact ⟨rfl, rfl, applyN_ne (by decide), applyN_ne (by decide)⟩
theorem BothR.fits {R : RecD} (h : BothR R) : RecFits R := ⟨by rw [h.name]; decide, by rw [h.data]; decide⟩
theorem BothR.ref {R : RecD} (h : BothR R) : RefFits R := ⟨by rw [h.name]; decide, by rw [h.data]; decide⟩
theorem ref_first : RefSaga firstD := ⟨good_first.small, by decide, by decide, by decide, fun _ s w h => told_first s firstD w h good_first.small rfl rfl rfl ⟨by decide, by decide⟩⟩
theorem ref_firstU : RefSaga firstU := ⟨good_firstU.small, by decide, by decide, by decide, fun _ s w h => told_first s firstU w h good_firstU.small rfl rfl rfl ⟨by decide, by decide⟩⟩
theorem fits_firstU : SagaFits firstU := ⟨by decide, by decide, by decide⟩
theorem firstU_rd {w : World} {u : Sl} (h : BytesAt w u [105, 110]) : SagaRd w (firstU.words u nilSl nilSl nilSl) firstU := ⟨rfl, h, ListsAt.nil w, ListsAt.nil w, RowAt.nil _ _ _ (fun _ => rfl)⟩
def bothArr : Array Value := (bothL.flatMap fun R => (R.words nilSl).cells).toArray
theorem bothArr_eq : bothArr = #[.int .i64 3, .int .i64 2, .int .i64 7, .int .i64 1, .int .i64 3, .int .i64 5, .int .i64 0, .int .i64 0, .int .i64 0, .int .i64 0, .string ⟨#[]⟩, .slice none 0 0, .int .i64 3, .int .i64 2, .int .i64 8, .int .i64 1, .int .i64 3, .int .i64 5, .int .i64 0, .int .i64 0, .int .i64 0, .int .i64 0, .string ⟨#[]⟩, .slice none 0 0, .int .i64 3, .int .i64 5, .int .i64 7, .int .i64 1, .int .i64 3, .int .i64 5, .int .i64 0, .int .i64 0, .int .i64 0, .int .i64 0, .string ⟨#[]⟩, .slice none 0 0, .int .i64 3, .int .i64 4, .int .i64 7, .int .i64 1, .int .i64 0, .int .i64 5, .int .i64 1, .int .i64 0, .int .i64 0, .int .i64 0, .string ⟨#[]⟩, .slice none 0 0, .int .i64 3, .int .i64 7, .int .i64 7, .int .i64 0, .int .i64 0, .int .i64 5, .int .i64 0, .int .i64 2, .int .i64 0, .int .i64 0, .string ⟨#[]⟩, .slice none 0 0, .int .i64 3, .int .i64 3, .int .i64 7, .int .i64 1, .int .i64 0, .int .i64 5, .int .i64 0, .int .i64 0, .int .i64 0, .int .i64 0, .string ⟨#[]⟩, .slice none 0 0] := rfl
theorem both_cells {w : World} {g : Nat} (h : BlkAt w g bothArr 31) (j : Nat) (hj : j < bothL.length) : ∀ i, i < (recArr ((bothL[j]).words nilSl)).size → w.cell? ⟨g, j * 12 + i, none⟩ = (recArr ((bothL[j]).words nilSl))[i]? := by
  intro i hi
  rw [h.cell]
  have e : bothArr[j * 12 + i]? = ((bothL.map fun R => R.words nilSl).flatMap RecV.cells)[j * 12 + i]? := by
    unfold bothArr
    rw [List.getElem?_toArray, List.flatMap_map]
  rw [e, flat_cells (bothL.map fun R => R.words nilSl) j i (by simpa using hj) (by simpa [recArr] using hi)]
  simp [recArr]
set_option maxRecDepth 10000000 in
set_option maxHeartbeats 8000000 in
theorem both_any (w : World) (ht : Tables w) (hl : LandsAt w) (hr : RefTabs w) : Calls Tryz.prog 19 #[] w fun e w' => e = .returned (.bool true) ∧ Below w.heap.size w w' := by
  have HT := Lib.hid ht
  have HL := Lib.hid hl
  have HRT := Lib.hid hr
  clear ht hl hr
  go_enter Tryz.func19, Tryz.ntmps19
  go_wp2_with fail
  refine (first_any w).mono ?_
  rintro e w2 ⟨t, u, rfl, bt, bu, hb⟩
  obtain ⟨w3, hw3⟩ : ∃ q, (w2.alloc (.cells (recArr (firstR.words t)) 31)).alloc (.cells (sagaArr (firstD.words u nilSl nilSl nilSl)) 29) = q := ⟨_, rfl⟩
  have hb3 : Below w2.heap.size w2 w3 := by rw [← hw3]; exact boxd (boxd (Below.refl _ _))
  have KZ3 : Hid (BlkAt w3 (w2.heap.size + 1) (sagaArr (firstD.words u nilSl nilSl nilSl)) 29) := Lib.hid (by
    rw [← hw3]
    have := BlkAt.new (w2.alloc (.cells (recArr (firstR.words t)) 31)) (sagaArr (firstD.words u nilSl nilSl nilSl)) 29
    rw [World.size_alloc] at this
    exact this)
  have HB3 := Lib.hid (then_ hb hb3)
  have BU3 := Lib.hid (bu.below hb3)
  dsimp only [RecD.words, SagaD.words, recArr, sagaArr, firstR, firstD, nilSl, Sl.v] at hw3
  have HW3 := Lib.hid hw3
  clear hw3 hb hb3 bt bu
  dsimp only [RecD.words, SagaD.words, RecV.val, SagaV.val, firstR, firstD, nilSl, Sl.v]
  go_upto_region 2 with fail
  rw [HW3.out]
  clear HW3
  obtain ⟨w4, hw4⟩ : ∃ q, w3.alloc (.cells (sagaArr (firstD.words u nilSl nilSl nilSl)) 29) = q := ⟨_, rfl⟩
  have hb4 : Below w3.heap.size w3 w4 := by rw [← hw4]; exact boxd (Below.refl _ _)
  have KU4 : Hid (BlkAt w4 w3.heap.size (sagaArr (firstD.words u nilSl nilSl nilSl)) 29) := Lib.hid (by rw [← hw4]; exact BlkAt.new _ _ _)
  have KZ4 := Lib.hid (KZ3.out.below hb4 (blk_lt KZ3.out))
  have hz3 := blk_lt KZ3.out
  have HB4 := Lib.hid (then_ HB3.out hb4)
  have hs3 := HB3.out.size
  dsimp only [SagaD.words, sagaArr, firstD, nilSl, Sl.v] at hw4
  have HW4 := Lib.hid hw4
  clear hw4
  have kz3 := KZ3.out
  dsimp only [SagaD.words, sagaArr, firstD, nilSl, Sl.v] at kz3
  go_upto_region 3 with (refine wpList_load_blk rfl _ _ rfl _ rfl _ _ kz3 rowSaga ?_)
  clear kz3 KZ3
  rw [HW4.out]
  clear HW4
  go_upto_region 4 with (refine wpList_store_one rfl _ _ _ rfl _ 9 rfl (.bool true) rfl _ _ KU4.out (by simp [sagaArr]) rfl size_bool ?_; intro wS hwS K; have KU5 := Lib.hid K; have HX5 := Lib.hid (hwS.below (then_ (Below.refl w3.heap.size w3) hb4) (by omega)); have KZ5 := Lib.hid (hwS.blk KZ4.out (by omega)); have HB5 := Lib.hid (hwS.below HB4.out (by omega)); clear hwS K)
  go_upto_region 5 with (refine wpList_store_one rfl _ _ _ rfl _ 10 rfl (.int .i64 1) rfl _ _ KU5.out (by simp [sagaArr]) rfl size_int ?_; intro wT hwT K; have KU6 := Lib.hid K; have HX6 := Lib.hid (hwT.below HX5.out (by omega)); have KZ6 := Lib.hid (hwT.blk KZ5.out (by omega)); have HB6 := Lib.hid (hwT.below HB5.out (by omega)); clear hwT K)
  have KU := Lib.hid (show BlkAt wT w3.heap.size (sagaArr (firstU.words u nilSl nilSl nilSl)) 29 from KU6.out)
  have hsT := HB6.out.size
  obtain ⟨w5, hw5⟩ : ∃ q, wT.alloc (.cells bothArr 31) = q := ⟨_, rfl⟩
  have hb5 : Below wT.heap.size wT w5 := by rw [← hw5]; exact boxd (Below.refl _ _)
  have KL : Hid (BlkAt w5 wT.heap.size bothArr 31) := Lib.hid (by rw [← hw5]; exact BlkAt.new _ _ _)
  have KS := Lib.hid (KZ6.out.below hb5 (blk_lt KZ6.out))
  have KU := Lib.hid (KU.out.below hb5 (blk_lt KU.out))
  have HB7 := Lib.hid (then_ HB6.out hb5)
  rw [bothArr_eq] at hw5
  have HW5 := Lib.hid hw5
  have hbu : BytesAt w5 u [105, 110] := (BU3.out.below HX6.out).below hb5
  have BU7 := Lib.hid hbu
  clear hw5 hb5 hbu KU4 KZ4 KU5 KZ5 KU6 KZ6 BU3 HX5 HX6 hb4
  go_upto_region 6 with fail
  rw [HW5.out]
  clear HW5
  obtain ⟨gs, hgs⟩ : ∃ q, w2.heap.size + 1 = q := ⟨_, rfl⟩
  obtain ⟨gu, hgu⟩ : ∃ q, w3.heap.size = q := ⟨_, rfl⟩
  obtain ⟨gl, hgl⟩ : ∃ q, wT.heap.size = q := ⟨_, rfl⟩
  rw [hgs] at KS ⊢
  rw [hgu] at KU ⊢
  rw [hgl] at KL ⊢
  clear hgs hgu hgl
  go_wp2_with fail
  go_loopw [5] (fun i wr => ∃ j : Nat, j ≤ 6 ∧ i = .int .i64 j ∧ Hid (Since w5 wr)) (fun i _ => 6 - (intOf i).toNat)
  case atStart => exact ⟨0, by omega, rfl, Lib.hid (Since.refl _)⟩
  case round =>
    obtain ⟨j, hj, rfl, HS⟩ := hrel
    by_cases hlt : j < 6
    · have hj6 : j < bothL.length := hlt
      obtain ⟨Rm, hRm⟩ : ∃ q, bothL[j] = q := ⟨_, rfl⟩
      have hbr := both_all Rm (by rw [← hRm]; exact List.getElem_mem hj6)
      have hcl := fun W (h : Since w5 W) => both_cells (h.blk KL.out) j hj6
      rw [hRm] at hcl
      have HCL := Lib.hid hcl
      have hrd : ∀ W, RecRd W (Rm.words nilSl) Rm := fun W => ⟨rfl, by rw [hbr.data]; exact RowAt.nil _ _ _ (fun _ => rfl)⟩
      have cs : ∀ W, Since w5 W → Calls Tryz.prog 25 #[(firstD.words u nilSl nilSl nilSl).val, (Rm.words nilSl).val] W fun e w' => ∃ s', e = .returned (.tuple #[SagaV.val s', .int .i64 (applyN firstD Rm)]) ∧ Below W.heap.size W w' := fun W h => (apply_any _ firstD _ Rm W (HT.out.below (then_ HB7.out h.out)) (HL.out.below (then_ HB7.out h.out)) (first_rd (BU7.out.below h.out)) (hrd W) fits_first hbr.fits).mono (by rintro e w' ⟨s', he, _, hb⟩; exact ⟨s', he, hb⟩)
      have cu : ∀ W, Since w5 W → Calls Tryz.prog 25 #[(firstU.words u nilSl nilSl nilSl).val, (Rm.words nilSl).val] W fun e w' => ∃ s', e = .returned (.tuple #[SagaV.val s', .int .i64 (applyN firstU Rm)]) ∧ Below W.heap.size W w' := fun W h => (apply_any _ firstU _ Rm W (HT.out.below (then_ HB7.out h.out)) (HL.out.below (then_ HB7.out h.out)) (firstU_rd (BU7.out.below h.out)) (hrd W) fits_firstU hbr.fits).mono (by rintro e w' ⟨s', he, _, hb⟩; exact ⟨s', he, hb⟩)
      have ds : ∀ W, Since w5 W → Calls Tryz.prog 26 #[(firstD.words u nilSl nilSl nilSl).val, (Rm.words nilSl).val] W fun e w' => ∃ s', e = .returned (.tuple #[SagaV.val s', .int .i64 (applyN firstD Rm)]) ∧ Below W.heap.size W w' := fun W h => (ref10Apply_any _ firstD _ Rm W (HRT.out.below (then_ HB7.out h.out)) (first_rd (BU7.out.below h.out)) (hrd W) ref_first hbr.ref).mono (by rintro e w' ⟨s', he, _, hb⟩; exact ⟨s', he, hb⟩)
      have du : ∀ W, Since w5 W → Calls Tryz.prog 26 #[(firstU.words u nilSl nilSl nilSl).val, (Rm.words nilSl).val] W fun e w' => ∃ s', e = .returned (.tuple #[SagaV.val s', .int .i64 (applyN firstU Rm)]) ∧ Below W.heap.size W w' := fun W h => (ref10Apply_any _ firstU _ Rm W (HRT.out.below (then_ HB7.out h.out)) (firstU_rd (BU7.out.below h.out)) (hrd W) ref_firstU hbr.ref).mono (by rintro e w' ⟨s', he, _, hb⟩; exact ⟨s', he, hb⟩)
      have n1 := hbr.s
      have n2 := hbr.u
      obtain ⟨N, hN⟩ : ∃ q, applyN firstD Rm = q := ⟨_, rfl⟩
      obtain ⟨M, hM⟩ : ∃ q, applyN firstU Rm = q := ⟨_, rfl⟩
      rw [hN] at cs ds n1
      rw [hM] at cu du n2
      have n1' : (N == 0) = false := by rw [beq_eq_false_iff_ne]; exact n1
      have n2' : (M == 0) = false := by rw [beq_eq_false_iff_ne]; exact n2
      have CS := Lib.hid cs
      have CU := Lib.hid cu
      have DS := Lib.hid ds
      have DU := Lib.hid du
      clear cs cu ds du hN hM hcl hrd hbr hRm hj6 n1 n2
      go_upto_region 9 with fail
      go_cut [7] (fun s0 wx => s0 = .int .i64 N ∧ Hid (Since wr wx))
      case first =>
        refine wp_region_held_drew (S := Since wr) (by kernel_rfl) ((Since.refl wr).drew) (fun hHeld => ?_)
        refine wpAnyH_take (i := 0) (oi := { dst := some 35, op := Op.load 29 (Operand.tmp 2), type := 29, pos := "law.go:174", after := #[], guard := none }) (v := .agg (sagaArr (firstD.words u nilSl nilSl nilSl))) rfl (by kernel_rfl) (by kernel_rfl) (by kernel_rfl) (fun _ _ _ h => h) (yl_blk rfl _ _ rfl _ rfl _ _ (fun w' h => (HS.out.trans h).blk KS.out) rowSaga) (by assumption) ?_
        try go_frame
        refine wpAnyH_take (i := 1) (oi := { dst := some 36, op := Op.move (Operand.tmp 4), type := 57, pos := "law.go:174", after := #[], guard := none }) (v := ?_) rfl (by kernel_rfl) (by kernel_rfl) (by kernel_rfl) (fun _ _ _ h => h) (Or.inl ⟨by rfl, ?_⟩) (by assumption) ?_
        rotate_left 1
        focus (intro w hSw; (try clear hSw); go_simp; try (with_reducible rfl))
        try go_frame
        refine wpAnyH_take (i := 2) (oi := { dst := some 37, op := Op.move (Operand.tmp 5), type := 3, pos := "law.go:174", after := #[], guard := none }) (v := ?_) rfl (by kernel_rfl) (by kernel_rfl) (by kernel_rfl) (fun _ _ _ h => h) (Or.inl ⟨by rfl, ?_⟩) (by assumption) ?_
        rotate_left 1
        focus (intro w hSw; (try clear hSw); go_simp; try (with_reducible rfl))
        try go_frame
        refine wpAnyH_take (i := 3) (oi := { dst := some 38, op := Op.indexAddr 57 (Operand.tmp 36) (Operand.tmp 37), type := 0, pos := "law.go:174", after := #[{ on := 1, ground := Ground.data }, { on := 2, ground := Ground.data }], guard := none }) (v := ?_) rfl (by kernel_rfl) (by kernel_rfl) (by kernel_rfl) (fun _ _ _ h => h) (Or.inl ⟨by rfl, ?_⟩) (by assumption) ?_
        rotate_left 1
        focus (intro w hSw; (try clear hSw); go_simp; try (with_reducible rfl))
        try go_frame
        refine wpAnyH_take (i := 4) (oi := { dst := some 39, op := Op.load 31 (Operand.tmp 38), type := 31, pos := "law.go:174", after := #[{ on := 3, ground := Ground.data }], guard := none }) (v := .agg (recArr (Rm.words nilSl))) rfl (by kernel_rfl) (by kernel_rfl) (by kernel_rfl) (fun _ _ _ h => h) (yl_at rfl _ _ rfl _ _ rfl _ (fun w' h => HCL.out w' (HS.out.trans h)) rowRec) (by assumption) ?_
        try go_frame
        refine wpAnyH_ready (rs := [5, 9]) (by kernel_rfl) (by simp) ?_
        refine AllReadyH.cons (o := { dst := some 40, op := Op.call { callee := Callee.value (Operand.func 25), args := #[Operand.tmp 35, Operand.tmp 39], argTypes := #[29, 31] }, type := 47, pos := "law.go:174", after := #[{ on := 0, ground := Ground.data }, { on := 4, ground := Ground.data }], guard := none }) rfl (fun K hK => ?_) ?_
        · go_simp
          refine (CS.out _ (HS.out.trans hHeld)).mono ?_
          rintro e w6 ⟨s2, rfl, hb⟩
          try go_wp2_with fail
          refine hK.out _ _ (hHeld.call hb) (fun hHeld => ?_)
          clear hK K
          try go_frame
          refine wpAnyH_take (i := 6) (oi := { dst := some 34, op := Op.move (Operand.tmp 40), type := 47, pos := "law.go:174", after := #[{ on := 5, ground := Ground.data }], guard := none }) (v := ?_) rfl (by kernel_rfl) (by kernel_rfl) (by kernel_rfl) (fun _ _ _ h => h) (Or.inl ⟨by rfl, ?_⟩) (by assumption) ?_
          rotate_left 1
          focus (intro w hSw; (try clear hSw); go_simp; try (with_reducible rfl))
          try go_frame
          refine wpAnyH_take (i := 7) (oi := { dst := some 41, op := Op.extract (Operand.tmp 34) 0, type := 29, pos := "law.go:174", after := #[{ on := 6, ground := Ground.data }], guard := none }) (v := ?_) rfl (by kernel_rfl) (by kernel_rfl) (by kernel_rfl) (fun _ _ _ h => h) (Or.inl ⟨by rfl, ?_⟩) (by assumption) ?_
          rotate_left 1
          focus (intro w hSw; (try clear hSw); go_simp; try (with_reducible rfl))
          try go_frame
          refine wpAnyH_take (i := 8) (oi := { dst := some 42, op := Op.extract (Operand.tmp 34) 1, type := 46, pos := "law.go:174", after := #[{ on := 6, ground := Ground.data }, { on := 10, ground := Ground.gcOnly Departure.lateStores }], guard := none }) (v := ?_) rfl (by kernel_rfl) (by kernel_rfl) (by kernel_rfl) (fun _ _ _ h => h) (Or.inl ⟨by rfl, ?_⟩) (by assumption) ?_
          rotate_left 1
          focus (intro w hSw; (try clear hSw); go_simp; try (with_reducible rfl))
          try go_frame
          refine wpAnyH_ready (rs := [9]) (by kernel_rfl) (by simp) ?_
          refine AllReadyH.cons (o := { dst := some 6, op := Op.alloc 29, type := 0, pos := "law.go:174", after := #[], guard := none }) rfl (fun K hK => ?_) ?_
          · refine step_alloc_row rfl _ _ rfl zeroSaga_row ?_
            intro wA KVA hbA
            have KV := KVA
            have hge := hHeld.le
            refine hK.out _ _ (hHeld.call hbA) (fun hHeld => ?_)
            clear hK K
            try go_frame
            refine wpAnyH_ready (rs := [10]) (by kernel_rfl) (by simp) ?_
            refine AllReadyH.cons (o := { dst := none, op := Op.store 29 (Operand.tmp 6) (Operand.tmp 41), type := 0, pos := "law.go:174", after := #[{ on := 9, ground := Ground.data }, { on := 7, ground := Ground.data }, { on := 5, ground := Ground.chain }, { on := 0, ground := Ground.phase }, { on := 1, ground := Ground.phase }, { on := 2, ground := Ground.phase }, { on := 3, ground := Ground.phase }, { on := 4, ground := Ground.phase }, { on := 5, ground := Ground.phase }, { on := 6, ground := Ground.phase }, { on := 7, ground := Ground.phase }, { on := 8, ground := Ground.textOnly Departure.lateStores }, { on := 9, ground := Ground.phase }], guard := none }) rfl (fun K hK => ?_) ?_
            · refine step_store_blk rfl _ _ _ rfl _ rfl (sagaArr s2) rfl _ _ KV (by rfl) (by simp [sagaArr, Value.oneCell']) rowSaga ?_
              intro w7 hw7 KS7
              refine hK.out _ _ (hHeld.wrote hw7 hge) (fun hHeld => ?_)
              clear hK K
              try go_frame
              refine wpAnyH_ready (rs := [11]) (by kernel_rfl) (by simp) ?_
              refine AllReadyH.cons (o := { dst := some 7, op := Op.assign (Operand.tmp 42), type := 46, pos := "law.go:174", after := #[{ on := 8, ground := Ground.data }, { on := 10, ground := Ground.chain }, { on := 0, ground := Ground.phase }, { on := 1, ground := Ground.phase }, { on := 2, ground := Ground.phase }, { on := 3, ground := Ground.phase }, { on := 4, ground := Ground.phase }, { on := 5, ground := Ground.phase }, { on := 6, ground := Ground.phase }, { on := 7, ground := Ground.phase }, { on := 8, ground := Ground.phase }, { on := 9, ground := Ground.phase }, { on := 10, ground := Ground.phase }], guard := none }) rfl (fun K hK => ?_) ?_
              · go_simp
                refine hK.out _ _ (by assumption) (fun hHeld => ?_)
                clear hK K
                try go_frame
                refine wpAnyH_done (by kernel_rfl) ?_ _
                try go_wp2_with fail
                go_meet
                exact ⟨rfl, Lib.hid hHeld⟩
              exact AllReadyH.nil
            exact AllReadyH.nil
          exact AllReadyH.nil
        refine AllReadyH.cons (o := { dst := some 6, op := Op.alloc 29, type := 0, pos := "law.go:174", after := #[], guard := none }) rfl (fun K hK => ?_) ?_
        · refine step_alloc_row rfl _ _ rfl zeroSaga_row ?_
          intro wA KVA hbA
          refine hK.out _ _ (hHeld.call hbA) (fun hHeld => ?_)
          clear hK K
          try go_frame
          refine wpAnyH_ready (rs := [5]) (by kernel_rfl) (by simp) ?_
          refine AllReadyH.cons (o := { dst := some 40, op := Op.call { callee := Callee.value (Operand.func 25), args := #[Operand.tmp 35, Operand.tmp 39], argTypes := #[29, 31] }, type := 47, pos := "law.go:174", after := #[{ on := 0, ground := Ground.data }, { on := 4, ground := Ground.data }], guard := none }) rfl (fun K hK => ?_) ?_
          · go_simp
            refine (CS.out _ (HS.out.trans hHeld)).mono ?_
            rintro e w6 ⟨s2, rfl, hb⟩
            try go_wp2_with fail
            have KV := KVA.below hb (blk_lt KVA)
            have hge : wr.heap.size ≤ wr.drew.heap.size := Nat.le_refl _
            refine hK.out _ _ (hHeld.call hb) (fun hHeld => ?_)
            clear hK K
            try go_frame
            refine wpAnyH_take (i := 6) (oi := { dst := some 34, op := Op.move (Operand.tmp 40), type := 47, pos := "law.go:174", after := #[{ on := 5, ground := Ground.data }], guard := none }) (v := ?_) rfl (by kernel_rfl) (by kernel_rfl) (by kernel_rfl) (fun _ _ _ h => h) (Or.inl ⟨by rfl, ?_⟩) (by assumption) ?_
            rotate_left 1
            focus (intro w hSw; (try clear hSw); go_simp; try (with_reducible rfl))
            try go_frame
            refine wpAnyH_take (i := 7) (oi := { dst := some 41, op := Op.extract (Operand.tmp 34) 0, type := 29, pos := "law.go:174", after := #[{ on := 6, ground := Ground.data }], guard := none }) (v := ?_) rfl (by kernel_rfl) (by kernel_rfl) (by kernel_rfl) (fun _ _ _ h => h) (Or.inl ⟨by rfl, ?_⟩) (by assumption) ?_
            rotate_left 1
            focus (intro w hSw; (try clear hSw); go_simp; try (with_reducible rfl))
            try go_frame
            refine wpAnyH_take (i := 8) (oi := { dst := some 42, op := Op.extract (Operand.tmp 34) 1, type := 46, pos := "law.go:174", after := #[{ on := 6, ground := Ground.data }, { on := 10, ground := Ground.gcOnly Departure.lateStores }], guard := none }) (v := ?_) rfl (by kernel_rfl) (by kernel_rfl) (by kernel_rfl) (fun _ _ _ h => h) (Or.inl ⟨by rfl, ?_⟩) (by assumption) ?_
            rotate_left 1
            focus (intro w hSw; (try clear hSw); go_simp; try (with_reducible rfl))
            try go_frame
            refine wpAnyH_ready (rs := [10]) (by kernel_rfl) (by simp) ?_
            refine AllReadyH.cons (o := { dst := none, op := Op.store 29 (Operand.tmp 6) (Operand.tmp 41), type := 0, pos := "law.go:174", after := #[{ on := 9, ground := Ground.data }, { on := 7, ground := Ground.data }, { on := 5, ground := Ground.chain }, { on := 0, ground := Ground.phase }, { on := 1, ground := Ground.phase }, { on := 2, ground := Ground.phase }, { on := 3, ground := Ground.phase }, { on := 4, ground := Ground.phase }, { on := 5, ground := Ground.phase }, { on := 6, ground := Ground.phase }, { on := 7, ground := Ground.phase }, { on := 8, ground := Ground.textOnly Departure.lateStores }, { on := 9, ground := Ground.phase }], guard := none }) rfl (fun K hK => ?_) ?_
            · refine step_store_blk rfl _ _ _ rfl _ rfl (sagaArr s2) rfl _ _ KV (by rfl) (by simp [sagaArr, Value.oneCell']) rowSaga ?_
              intro w7 hw7 KS7
              refine hK.out _ _ (hHeld.wrote hw7 hge) (fun hHeld => ?_)
              clear hK K
              try go_frame
              refine wpAnyH_ready (rs := [11]) (by kernel_rfl) (by simp) ?_
              refine AllReadyH.cons (o := { dst := some 7, op := Op.assign (Operand.tmp 42), type := 46, pos := "law.go:174", after := #[{ on := 8, ground := Ground.data }, { on := 10, ground := Ground.chain }, { on := 0, ground := Ground.phase }, { on := 1, ground := Ground.phase }, { on := 2, ground := Ground.phase }, { on := 3, ground := Ground.phase }, { on := 4, ground := Ground.phase }, { on := 5, ground := Ground.phase }, { on := 6, ground := Ground.phase }, { on := 7, ground := Ground.phase }, { on := 8, ground := Ground.phase }, { on := 9, ground := Ground.phase }, { on := 10, ground := Ground.phase }], guard := none }) rfl (fun K hK => ?_) ?_
              · go_simp
                refine hK.out _ _ (by assumption) (fun hHeld => ?_)
                clear hK K
                try go_frame
                refine wpAnyH_done (by kernel_rfl) ?_ _
                try go_wp2_with fail
                go_meet
                exact ⟨rfl, Lib.hid hHeld⟩
              exact AllReadyH.nil
            exact AllReadyH.nil
          exact AllReadyH.nil
        exact AllReadyH.nil
      case rest =>
      obtain ⟨wx, rfl⟩ : ∃ q : World, q = wc := ⟨_, rfl⟩
      obtain ⟨rfl, HSX⟩ := hcut
      have HSY := Lib.hid (HS.out.trans HSX.out)
      clear HS HSX
      have HS := HSY
      clear HSY
      obtain ⟨wr, rfl⟩ : ∃ q : World, q = wx := ⟨_, rfl⟩
      go_upto_region 10 with fail
      go_cut [9] (fun s0 wx => s0 = .int .i64 N ∧ Hid (Since wr wx))
      case first =>
        refine wp_region_held_drew (S := Since wr) (by kernel_rfl) ((Since.refl wr).drew) (fun hHeld => ?_)
        refine wpAnyH_take (i := 0) (oi := { dst := some 44, op := Op.load 29 (Operand.tmp 2), type := 29, pos := "law.go:175", after := #[], guard := none }) (v := .agg (sagaArr (firstD.words u nilSl nilSl nilSl))) rfl (by kernel_rfl) (by kernel_rfl) (by kernel_rfl) (fun _ _ _ h => h) (yl_blk rfl _ _ rfl _ rfl _ _ (fun w' h => (HS.out.trans h).blk KS.out) rowSaga) (by assumption) ?_
        try go_frame
        refine wpAnyH_take (i := 1) (oi := { dst := some 45, op := Op.move (Operand.tmp 4), type := 57, pos := "law.go:175", after := #[], guard := none }) (v := ?_) rfl (by kernel_rfl) (by kernel_rfl) (by kernel_rfl) (fun _ _ _ h => h) (Or.inl ⟨by rfl, ?_⟩) (by assumption) ?_
        rotate_left 1
        focus (intro w hSw; (try clear hSw); go_simp; try (with_reducible rfl))
        try go_frame
        refine wpAnyH_take (i := 2) (oi := { dst := some 46, op := Op.move (Operand.tmp 5), type := 3, pos := "law.go:175", after := #[], guard := none }) (v := ?_) rfl (by kernel_rfl) (by kernel_rfl) (by kernel_rfl) (fun _ _ _ h => h) (Or.inl ⟨by rfl, ?_⟩) (by assumption) ?_
        rotate_left 1
        focus (intro w hSw; (try clear hSw); go_simp; try (with_reducible rfl))
        try go_frame
        refine wpAnyH_take (i := 3) (oi := { dst := some 47, op := Op.indexAddr 57 (Operand.tmp 45) (Operand.tmp 46), type := 0, pos := "law.go:175", after := #[{ on := 1, ground := Ground.data }, { on := 2, ground := Ground.data }], guard := none }) (v := ?_) rfl (by kernel_rfl) (by kernel_rfl) (by kernel_rfl) (fun _ _ _ h => h) (Or.inl ⟨by rfl, ?_⟩) (by assumption) ?_
        rotate_left 1
        focus (intro w hSw; (try clear hSw); go_simp; try (with_reducible rfl))
        try go_frame
        refine wpAnyH_take (i := 4) (oi := { dst := some 48, op := Op.load 31 (Operand.tmp 47), type := 31, pos := "law.go:175", after := #[{ on := 3, ground := Ground.data }], guard := none }) (v := .agg (recArr (Rm.words nilSl))) rfl (by kernel_rfl) (by kernel_rfl) (by kernel_rfl) (fun _ _ _ h => h) (yl_at rfl _ _ rfl _ _ rfl _ (fun w' h => HCL.out w' (HS.out.trans h)) rowRec) (by assumption) ?_
        try go_frame
        refine wpAnyH_ready (rs := [5, 9]) (by kernel_rfl) (by simp) ?_
        refine AllReadyH.cons (o := { dst := some 49, op := Op.call { callee := Callee.value (Operand.func 26), args := #[Operand.tmp 44, Operand.tmp 48], argTypes := #[29, 31] }, type := 53, pos := "law.go:175", after := #[{ on := 0, ground := Ground.data }, { on := 4, ground := Ground.data }], guard := none }) rfl (fun K hK => ?_) ?_
        · go_simp
          refine (DS.out _ (HS.out.trans hHeld)).mono ?_
          rintro e w6 ⟨s2, rfl, hb⟩
          try go_wp2_with fail
          refine hK.out _ _ (hHeld.call hb) (fun hHeld => ?_)
          clear hK K
          try go_frame
          refine wpAnyH_take (i := 6) (oi := { dst := some 43, op := Op.move (Operand.tmp 49), type := 53, pos := "law.go:175", after := #[{ on := 5, ground := Ground.data }], guard := none }) (v := ?_) rfl (by kernel_rfl) (by kernel_rfl) (by kernel_rfl) (fun _ _ _ h => h) (Or.inl ⟨by rfl, ?_⟩) (by assumption) ?_
          rotate_left 1
          focus (intro w hSw; (try clear hSw); go_simp; try (with_reducible rfl))
          try go_frame
          refine wpAnyH_take (i := 7) (oi := { dst := some 50, op := Op.extract (Operand.tmp 43) 0, type := 29, pos := "law.go:175", after := #[{ on := 6, ground := Ground.data }], guard := none }) (v := ?_) rfl (by kernel_rfl) (by kernel_rfl) (by kernel_rfl) (fun _ _ _ h => h) (Or.inl ⟨by rfl, ?_⟩) (by assumption) ?_
          rotate_left 1
          focus (intro w hSw; (try clear hSw); go_simp; try (with_reducible rfl))
          try go_frame
          refine wpAnyH_take (i := 8) (oi := { dst := some 51, op := Op.extract (Operand.tmp 43) 1, type := 3, pos := "law.go:175", after := #[{ on := 6, ground := Ground.data }, { on := 10, ground := Ground.gcOnly Departure.lateStores }], guard := none }) (v := ?_) rfl (by kernel_rfl) (by kernel_rfl) (by kernel_rfl) (fun _ _ _ h => h) (Or.inl ⟨by rfl, ?_⟩) (by assumption) ?_
          rotate_left 1
          focus (intro w hSw; (try clear hSw); go_simp; try (with_reducible rfl))
          try go_frame
          refine wpAnyH_ready (rs := [9]) (by kernel_rfl) (by simp) ?_
          refine AllReadyH.cons (o := { dst := some 8, op := Op.alloc 29, type := 0, pos := "law.go:175", after := #[], guard := none }) rfl (fun K hK => ?_) ?_
          · refine step_alloc_row rfl _ _ rfl zeroSaga_row ?_
            intro wA KVA hbA
            have KV := KVA
            have hge := hHeld.le
            refine hK.out _ _ (hHeld.call hbA) (fun hHeld => ?_)
            clear hK K
            try go_frame
            refine wpAnyH_ready (rs := [10]) (by kernel_rfl) (by simp) ?_
            refine AllReadyH.cons (o := { dst := none, op := Op.store 29 (Operand.tmp 8) (Operand.tmp 50), type := 0, pos := "law.go:175", after := #[{ on := 9, ground := Ground.data }, { on := 7, ground := Ground.data }, { on := 5, ground := Ground.chain }, { on := 0, ground := Ground.phase }, { on := 1, ground := Ground.phase }, { on := 2, ground := Ground.phase }, { on := 3, ground := Ground.phase }, { on := 4, ground := Ground.phase }, { on := 5, ground := Ground.phase }, { on := 6, ground := Ground.phase }, { on := 7, ground := Ground.phase }, { on := 8, ground := Ground.textOnly Departure.lateStores }, { on := 9, ground := Ground.phase }], guard := none }) rfl (fun K hK => ?_) ?_
            · refine step_store_blk rfl _ _ _ rfl _ rfl (sagaArr s2) rfl _ _ KV (by rfl) (by simp [sagaArr, Value.oneCell']) rowSaga ?_
              intro w7 hw7 KS7
              refine hK.out _ _ (hHeld.wrote hw7 hge) (fun hHeld => ?_)
              clear hK K
              try go_frame
              refine wpAnyH_ready (rs := [11]) (by kernel_rfl) (by simp) ?_
              refine AllReadyH.cons (o := { dst := some 9, op := Op.assign (Operand.tmp 51), type := 3, pos := "law.go:175", after := #[{ on := 8, ground := Ground.data }, { on := 10, ground := Ground.chain }, { on := 0, ground := Ground.phase }, { on := 1, ground := Ground.phase }, { on := 2, ground := Ground.phase }, { on := 3, ground := Ground.phase }, { on := 4, ground := Ground.phase }, { on := 5, ground := Ground.phase }, { on := 6, ground := Ground.phase }, { on := 7, ground := Ground.phase }, { on := 8, ground := Ground.phase }, { on := 9, ground := Ground.phase }, { on := 10, ground := Ground.phase }], guard := none }) rfl (fun K hK => ?_) ?_
              · go_simp
                refine hK.out _ _ (by assumption) (fun hHeld => ?_)
                clear hK K
                try go_frame
                refine wpAnyH_done (by kernel_rfl) ?_ _
                try go_wp2_with fail
                go_meet
                exact ⟨rfl, Lib.hid hHeld⟩
              exact AllReadyH.nil
            exact AllReadyH.nil
          exact AllReadyH.nil
        refine AllReadyH.cons (o := { dst := some 8, op := Op.alloc 29, type := 0, pos := "law.go:175", after := #[], guard := none }) rfl (fun K hK => ?_) ?_
        · refine step_alloc_row rfl _ _ rfl zeroSaga_row ?_
          intro wA KVA hbA
          refine hK.out _ _ (hHeld.call hbA) (fun hHeld => ?_)
          clear hK K
          try go_frame
          refine wpAnyH_ready (rs := [5]) (by kernel_rfl) (by simp) ?_
          refine AllReadyH.cons (o := { dst := some 49, op := Op.call { callee := Callee.value (Operand.func 26), args := #[Operand.tmp 44, Operand.tmp 48], argTypes := #[29, 31] }, type := 53, pos := "law.go:175", after := #[{ on := 0, ground := Ground.data }, { on := 4, ground := Ground.data }], guard := none }) rfl (fun K hK => ?_) ?_
          · go_simp
            refine (DS.out _ (HS.out.trans hHeld)).mono ?_
            rintro e w6 ⟨s2, rfl, hb⟩
            try go_wp2_with fail
            have KV := KVA.below hb (blk_lt KVA)
            have hge : wr.heap.size ≤ wr.drew.heap.size := Nat.le_refl _
            refine hK.out _ _ (hHeld.call hb) (fun hHeld => ?_)
            clear hK K
            try go_frame
            refine wpAnyH_take (i := 6) (oi := { dst := some 43, op := Op.move (Operand.tmp 49), type := 53, pos := "law.go:175", after := #[{ on := 5, ground := Ground.data }], guard := none }) (v := ?_) rfl (by kernel_rfl) (by kernel_rfl) (by kernel_rfl) (fun _ _ _ h => h) (Or.inl ⟨by rfl, ?_⟩) (by assumption) ?_
            rotate_left 1
            focus (intro w hSw; (try clear hSw); go_simp; try (with_reducible rfl))
            try go_frame
            refine wpAnyH_take (i := 7) (oi := { dst := some 50, op := Op.extract (Operand.tmp 43) 0, type := 29, pos := "law.go:175", after := #[{ on := 6, ground := Ground.data }], guard := none }) (v := ?_) rfl (by kernel_rfl) (by kernel_rfl) (by kernel_rfl) (fun _ _ _ h => h) (Or.inl ⟨by rfl, ?_⟩) (by assumption) ?_
            rotate_left 1
            focus (intro w hSw; (try clear hSw); go_simp; try (with_reducible rfl))
            try go_frame
            refine wpAnyH_take (i := 8) (oi := { dst := some 51, op := Op.extract (Operand.tmp 43) 1, type := 3, pos := "law.go:175", after := #[{ on := 6, ground := Ground.data }, { on := 10, ground := Ground.gcOnly Departure.lateStores }], guard := none }) (v := ?_) rfl (by kernel_rfl) (by kernel_rfl) (by kernel_rfl) (fun _ _ _ h => h) (Or.inl ⟨by rfl, ?_⟩) (by assumption) ?_
            rotate_left 1
            focus (intro w hSw; (try clear hSw); go_simp; try (with_reducible rfl))
            try go_frame
            refine wpAnyH_ready (rs := [10]) (by kernel_rfl) (by simp) ?_
            refine AllReadyH.cons (o := { dst := none, op := Op.store 29 (Operand.tmp 8) (Operand.tmp 50), type := 0, pos := "law.go:175", after := #[{ on := 9, ground := Ground.data }, { on := 7, ground := Ground.data }, { on := 5, ground := Ground.chain }, { on := 0, ground := Ground.phase }, { on := 1, ground := Ground.phase }, { on := 2, ground := Ground.phase }, { on := 3, ground := Ground.phase }, { on := 4, ground := Ground.phase }, { on := 5, ground := Ground.phase }, { on := 6, ground := Ground.phase }, { on := 7, ground := Ground.phase }, { on := 8, ground := Ground.textOnly Departure.lateStores }, { on := 9, ground := Ground.phase }], guard := none }) rfl (fun K hK => ?_) ?_
            · refine step_store_blk rfl _ _ _ rfl _ rfl (sagaArr s2) rfl _ _ KV (by rfl) (by simp [sagaArr, Value.oneCell']) rowSaga ?_
              intro w7 hw7 KS7
              refine hK.out _ _ (hHeld.wrote hw7 hge) (fun hHeld => ?_)
              clear hK K
              try go_frame
              refine wpAnyH_ready (rs := [11]) (by kernel_rfl) (by simp) ?_
              refine AllReadyH.cons (o := { dst := some 9, op := Op.assign (Operand.tmp 51), type := 3, pos := "law.go:175", after := #[{ on := 8, ground := Ground.data }, { on := 10, ground := Ground.chain }, { on := 0, ground := Ground.phase }, { on := 1, ground := Ground.phase }, { on := 2, ground := Ground.phase }, { on := 3, ground := Ground.phase }, { on := 4, ground := Ground.phase }, { on := 5, ground := Ground.phase }, { on := 6, ground := Ground.phase }, { on := 7, ground := Ground.phase }, { on := 8, ground := Ground.phase }, { on := 9, ground := Ground.phase }, { on := 10, ground := Ground.phase }], guard := none }) rfl (fun K hK => ?_) ?_
              · go_simp
                refine hK.out _ _ (by assumption) (fun hHeld => ?_)
                clear hK K
                try go_frame
                refine wpAnyH_done (by kernel_rfl) ?_ _
                try go_wp2_with fail
                go_meet
                exact ⟨rfl, Lib.hid hHeld⟩
              exact AllReadyH.nil
            exact AllReadyH.nil
          exact AllReadyH.nil
        exact AllReadyH.nil
      case rest =>
      obtain ⟨wx, rfl⟩ : ∃ q : World, q = wc := ⟨_, rfl⟩
      obtain ⟨rfl, HSX⟩ := hcut
      have HSY := Lib.hid (HS.out.trans HSX.out)
      clear HS HSX
      have HS := HSY
      clear HSY
      obtain ⟨wr, rfl⟩ : ∃ q : World, q = wx := ⟨_, rfl⟩
      go_upto_region 11 with fail
      go_cut [11] (fun s0 wx => s0 = .int .i64 M ∧ Hid (Since wr wx))
      case first =>
        refine wp_region_held_drew (S := Since wr) (by kernel_rfl) ((Since.refl wr).drew) (fun hHeld => ?_)
        refine wpAnyH_take (i := 0) (oi := { dst := some 53, op := Op.load 29 (Operand.tmp 3), type := 29, pos := "law.go:176", after := #[], guard := none }) (v := .agg (sagaArr (firstU.words u nilSl nilSl nilSl))) rfl (by kernel_rfl) (by kernel_rfl) (by kernel_rfl) (fun _ _ _ h => h) (yl_blk rfl _ _ rfl _ rfl _ _ (fun w' h => (HS.out.trans h).blk KU.out) rowSaga) (by assumption) ?_
        try go_frame
        refine wpAnyH_take (i := 1) (oi := { dst := some 54, op := Op.move (Operand.tmp 4), type := 57, pos := "law.go:176", after := #[], guard := none }) (v := ?_) rfl (by kernel_rfl) (by kernel_rfl) (by kernel_rfl) (fun _ _ _ h => h) (Or.inl ⟨by rfl, ?_⟩) (by assumption) ?_
        rotate_left 1
        focus (intro w hSw; (try clear hSw); go_simp; try (with_reducible rfl))
        try go_frame
        refine wpAnyH_take (i := 2) (oi := { dst := some 55, op := Op.move (Operand.tmp 5), type := 3, pos := "law.go:176", after := #[], guard := none }) (v := ?_) rfl (by kernel_rfl) (by kernel_rfl) (by kernel_rfl) (fun _ _ _ h => h) (Or.inl ⟨by rfl, ?_⟩) (by assumption) ?_
        rotate_left 1
        focus (intro w hSw; (try clear hSw); go_simp; try (with_reducible rfl))
        try go_frame
        refine wpAnyH_take (i := 3) (oi := { dst := some 56, op := Op.indexAddr 57 (Operand.tmp 54) (Operand.tmp 55), type := 0, pos := "law.go:176", after := #[{ on := 1, ground := Ground.data }, { on := 2, ground := Ground.data }], guard := none }) (v := ?_) rfl (by kernel_rfl) (by kernel_rfl) (by kernel_rfl) (fun _ _ _ h => h) (Or.inl ⟨by rfl, ?_⟩) (by assumption) ?_
        rotate_left 1
        focus (intro w hSw; (try clear hSw); go_simp; try (with_reducible rfl))
        try go_frame
        refine wpAnyH_take (i := 4) (oi := { dst := some 57, op := Op.load 31 (Operand.tmp 56), type := 31, pos := "law.go:176", after := #[{ on := 3, ground := Ground.data }], guard := none }) (v := .agg (recArr (Rm.words nilSl))) rfl (by kernel_rfl) (by kernel_rfl) (by kernel_rfl) (fun _ _ _ h => h) (yl_at rfl _ _ rfl _ _ rfl _ (fun w' h => HCL.out w' (HS.out.trans h)) rowRec) (by assumption) ?_
        try go_frame
        refine wpAnyH_ready (rs := [5, 9]) (by kernel_rfl) (by simp) ?_
        refine AllReadyH.cons (o := { dst := some 58, op := Op.call { callee := Callee.value (Operand.func 25), args := #[Operand.tmp 53, Operand.tmp 57], argTypes := #[29, 31] }, type := 47, pos := "law.go:176", after := #[{ on := 0, ground := Ground.data }, { on := 4, ground := Ground.data }], guard := none }) rfl (fun K hK => ?_) ?_
        · go_simp
          refine (CU.out _ (HS.out.trans hHeld)).mono ?_
          rintro e w6 ⟨s2, rfl, hb⟩
          try go_wp2_with fail
          refine hK.out _ _ (hHeld.call hb) (fun hHeld => ?_)
          clear hK K
          try go_frame
          refine wpAnyH_take (i := 6) (oi := { dst := some 52, op := Op.move (Operand.tmp 58), type := 47, pos := "law.go:176", after := #[{ on := 5, ground := Ground.data }], guard := none }) (v := ?_) rfl (by kernel_rfl) (by kernel_rfl) (by kernel_rfl) (fun _ _ _ h => h) (Or.inl ⟨by rfl, ?_⟩) (by assumption) ?_
          rotate_left 1
          focus (intro w hSw; (try clear hSw); go_simp; try (with_reducible rfl))
          try go_frame
          refine wpAnyH_take (i := 7) (oi := { dst := some 59, op := Op.extract (Operand.tmp 52) 0, type := 29, pos := "law.go:176", after := #[{ on := 6, ground := Ground.data }], guard := none }) (v := ?_) rfl (by kernel_rfl) (by kernel_rfl) (by kernel_rfl) (fun _ _ _ h => h) (Or.inl ⟨by rfl, ?_⟩) (by assumption) ?_
          rotate_left 1
          focus (intro w hSw; (try clear hSw); go_simp; try (with_reducible rfl))
          try go_frame
          refine wpAnyH_take (i := 8) (oi := { dst := some 60, op := Op.extract (Operand.tmp 52) 1, type := 46, pos := "law.go:176", after := #[{ on := 6, ground := Ground.data }, { on := 10, ground := Ground.gcOnly Departure.lateStores }], guard := none }) (v := ?_) rfl (by kernel_rfl) (by kernel_rfl) (by kernel_rfl) (fun _ _ _ h => h) (Or.inl ⟨by rfl, ?_⟩) (by assumption) ?_
          rotate_left 1
          focus (intro w hSw; (try clear hSw); go_simp; try (with_reducible rfl))
          try go_frame
          refine wpAnyH_ready (rs := [9]) (by kernel_rfl) (by simp) ?_
          refine AllReadyH.cons (o := { dst := some 10, op := Op.alloc 29, type := 0, pos := "law.go:176", after := #[], guard := none }) rfl (fun K hK => ?_) ?_
          · refine step_alloc_row rfl _ _ rfl zeroSaga_row ?_
            intro wA KVA hbA
            have KV := KVA
            have hge := hHeld.le
            refine hK.out _ _ (hHeld.call hbA) (fun hHeld => ?_)
            clear hK K
            try go_frame
            refine wpAnyH_ready (rs := [10]) (by kernel_rfl) (by simp) ?_
            refine AllReadyH.cons (o := { dst := none, op := Op.store 29 (Operand.tmp 10) (Operand.tmp 59), type := 0, pos := "law.go:176", after := #[{ on := 9, ground := Ground.data }, { on := 7, ground := Ground.data }, { on := 5, ground := Ground.chain }, { on := 0, ground := Ground.phase }, { on := 1, ground := Ground.phase }, { on := 2, ground := Ground.phase }, { on := 3, ground := Ground.phase }, { on := 4, ground := Ground.phase }, { on := 5, ground := Ground.phase }, { on := 6, ground := Ground.phase }, { on := 7, ground := Ground.phase }, { on := 8, ground := Ground.textOnly Departure.lateStores }, { on := 9, ground := Ground.phase }], guard := none }) rfl (fun K hK => ?_) ?_
            · refine step_store_blk rfl _ _ _ rfl _ rfl (sagaArr s2) rfl _ _ KV (by rfl) (by simp [sagaArr, Value.oneCell']) rowSaga ?_
              intro w7 hw7 KS7
              refine hK.out _ _ (hHeld.wrote hw7 hge) (fun hHeld => ?_)
              clear hK K
              try go_frame
              refine wpAnyH_ready (rs := [11]) (by kernel_rfl) (by simp) ?_
              refine AllReadyH.cons (o := { dst := some 11, op := Op.assign (Operand.tmp 60), type := 46, pos := "law.go:176", after := #[{ on := 8, ground := Ground.data }, { on := 10, ground := Ground.chain }, { on := 0, ground := Ground.phase }, { on := 1, ground := Ground.phase }, { on := 2, ground := Ground.phase }, { on := 3, ground := Ground.phase }, { on := 4, ground := Ground.phase }, { on := 5, ground := Ground.phase }, { on := 6, ground := Ground.phase }, { on := 7, ground := Ground.phase }, { on := 8, ground := Ground.phase }, { on := 9, ground := Ground.phase }, { on := 10, ground := Ground.phase }], guard := none }) rfl (fun K hK => ?_) ?_
              · go_simp
                refine hK.out _ _ (by assumption) (fun hHeld => ?_)
                clear hK K
                try go_frame
                refine wpAnyH_done (by kernel_rfl) ?_ _
                try go_wp2_with fail
                go_meet
                exact ⟨rfl, Lib.hid hHeld⟩
              exact AllReadyH.nil
            exact AllReadyH.nil
          exact AllReadyH.nil
        refine AllReadyH.cons (o := { dst := some 10, op := Op.alloc 29, type := 0, pos := "law.go:176", after := #[], guard := none }) rfl (fun K hK => ?_) ?_
        · refine step_alloc_row rfl _ _ rfl zeroSaga_row ?_
          intro wA KVA hbA
          refine hK.out _ _ (hHeld.call hbA) (fun hHeld => ?_)
          clear hK K
          try go_frame
          refine wpAnyH_ready (rs := [5]) (by kernel_rfl) (by simp) ?_
          refine AllReadyH.cons (o := { dst := some 58, op := Op.call { callee := Callee.value (Operand.func 25), args := #[Operand.tmp 53, Operand.tmp 57], argTypes := #[29, 31] }, type := 47, pos := "law.go:176", after := #[{ on := 0, ground := Ground.data }, { on := 4, ground := Ground.data }], guard := none }) rfl (fun K hK => ?_) ?_
          · go_simp
            refine (CU.out _ (HS.out.trans hHeld)).mono ?_
            rintro e w6 ⟨s2, rfl, hb⟩
            try go_wp2_with fail
            have KV := KVA.below hb (blk_lt KVA)
            have hge : wr.heap.size ≤ wr.drew.heap.size := Nat.le_refl _
            refine hK.out _ _ (hHeld.call hb) (fun hHeld => ?_)
            clear hK K
            try go_frame
            refine wpAnyH_take (i := 6) (oi := { dst := some 52, op := Op.move (Operand.tmp 58), type := 47, pos := "law.go:176", after := #[{ on := 5, ground := Ground.data }], guard := none }) (v := ?_) rfl (by kernel_rfl) (by kernel_rfl) (by kernel_rfl) (fun _ _ _ h => h) (Or.inl ⟨by rfl, ?_⟩) (by assumption) ?_
            rotate_left 1
            focus (intro w hSw; (try clear hSw); go_simp; try (with_reducible rfl))
            try go_frame
            refine wpAnyH_take (i := 7) (oi := { dst := some 59, op := Op.extract (Operand.tmp 52) 0, type := 29, pos := "law.go:176", after := #[{ on := 6, ground := Ground.data }], guard := none }) (v := ?_) rfl (by kernel_rfl) (by kernel_rfl) (by kernel_rfl) (fun _ _ _ h => h) (Or.inl ⟨by rfl, ?_⟩) (by assumption) ?_
            rotate_left 1
            focus (intro w hSw; (try clear hSw); go_simp; try (with_reducible rfl))
            try go_frame
            refine wpAnyH_take (i := 8) (oi := { dst := some 60, op := Op.extract (Operand.tmp 52) 1, type := 46, pos := "law.go:176", after := #[{ on := 6, ground := Ground.data }, { on := 10, ground := Ground.gcOnly Departure.lateStores }], guard := none }) (v := ?_) rfl (by kernel_rfl) (by kernel_rfl) (by kernel_rfl) (fun _ _ _ h => h) (Or.inl ⟨by rfl, ?_⟩) (by assumption) ?_
            rotate_left 1
            focus (intro w hSw; (try clear hSw); go_simp; try (with_reducible rfl))
            try go_frame
            refine wpAnyH_ready (rs := [10]) (by kernel_rfl) (by simp) ?_
            refine AllReadyH.cons (o := { dst := none, op := Op.store 29 (Operand.tmp 10) (Operand.tmp 59), type := 0, pos := "law.go:176", after := #[{ on := 9, ground := Ground.data }, { on := 7, ground := Ground.data }, { on := 5, ground := Ground.chain }, { on := 0, ground := Ground.phase }, { on := 1, ground := Ground.phase }, { on := 2, ground := Ground.phase }, { on := 3, ground := Ground.phase }, { on := 4, ground := Ground.phase }, { on := 5, ground := Ground.phase }, { on := 6, ground := Ground.phase }, { on := 7, ground := Ground.phase }, { on := 8, ground := Ground.textOnly Departure.lateStores }, { on := 9, ground := Ground.phase }], guard := none }) rfl (fun K hK => ?_) ?_
            · refine step_store_blk rfl _ _ _ rfl _ rfl (sagaArr s2) rfl _ _ KV (by rfl) (by simp [sagaArr, Value.oneCell']) rowSaga ?_
              intro w7 hw7 KS7
              refine hK.out _ _ (hHeld.wrote hw7 hge) (fun hHeld => ?_)
              clear hK K
              try go_frame
              refine wpAnyH_ready (rs := [11]) (by kernel_rfl) (by simp) ?_
              refine AllReadyH.cons (o := { dst := some 11, op := Op.assign (Operand.tmp 60), type := 46, pos := "law.go:176", after := #[{ on := 8, ground := Ground.data }, { on := 10, ground := Ground.chain }, { on := 0, ground := Ground.phase }, { on := 1, ground := Ground.phase }, { on := 2, ground := Ground.phase }, { on := 3, ground := Ground.phase }, { on := 4, ground := Ground.phase }, { on := 5, ground := Ground.phase }, { on := 6, ground := Ground.phase }, { on := 7, ground := Ground.phase }, { on := 8, ground := Ground.phase }, { on := 9, ground := Ground.phase }, { on := 10, ground := Ground.phase }], guard := none }) rfl (fun K hK => ?_) ?_
              · go_simp
                refine hK.out _ _ (by assumption) (fun hHeld => ?_)
                clear hK K
                try go_frame
                refine wpAnyH_done (by kernel_rfl) ?_ _
                try go_wp2_with fail
                go_meet
                exact ⟨rfl, Lib.hid hHeld⟩
              exact AllReadyH.nil
            exact AllReadyH.nil
          exact AllReadyH.nil
        exact AllReadyH.nil
      case rest =>
      obtain ⟨wx, rfl⟩ : ∃ q : World, q = wc := ⟨_, rfl⟩
      obtain ⟨rfl, HSX⟩ := hcut
      have HSY := Lib.hid (HS.out.trans HSX.out)
      clear HS HSX
      have HS := HSY
      clear HSY
      obtain ⟨wr, rfl⟩ : ∃ q : World, q = wx := ⟨_, rfl⟩
      go_upto_region 12 with fail
      go_cut [13] (fun s0 wx => s0 = .int .i64 M ∧ Hid (Since wr wx))
      case first =>
        refine wp_region_held_drew (S := Since wr) (by kernel_rfl) ((Since.refl wr).drew) (fun hHeld => ?_)
        refine wpAnyH_take (i := 0) (oi := { dst := some 62, op := Op.load 29 (Operand.tmp 3), type := 29, pos := "law.go:177", after := #[], guard := none }) (v := .agg (sagaArr (firstU.words u nilSl nilSl nilSl))) rfl (by kernel_rfl) (by kernel_rfl) (by kernel_rfl) (fun _ _ _ h => h) (yl_blk rfl _ _ rfl _ rfl _ _ (fun w' h => (HS.out.trans h).blk KU.out) rowSaga) (by assumption) ?_
        try go_frame
        refine wpAnyH_take (i := 1) (oi := { dst := some 63, op := Op.move (Operand.tmp 4), type := 57, pos := "law.go:177", after := #[], guard := none }) (v := ?_) rfl (by kernel_rfl) (by kernel_rfl) (by kernel_rfl) (fun _ _ _ h => h) (Or.inl ⟨by rfl, ?_⟩) (by assumption) ?_
        rotate_left 1
        focus (intro w hSw; (try clear hSw); go_simp; try (with_reducible rfl))
        try go_frame
        refine wpAnyH_take (i := 2) (oi := { dst := some 64, op := Op.move (Operand.tmp 5), type := 3, pos := "law.go:177", after := #[], guard := none }) (v := ?_) rfl (by kernel_rfl) (by kernel_rfl) (by kernel_rfl) (fun _ _ _ h => h) (Or.inl ⟨by rfl, ?_⟩) (by assumption) ?_
        rotate_left 1
        focus (intro w hSw; (try clear hSw); go_simp; try (with_reducible rfl))
        try go_frame
        refine wpAnyH_take (i := 3) (oi := { dst := some 65, op := Op.indexAddr 57 (Operand.tmp 63) (Operand.tmp 64), type := 0, pos := "law.go:177", after := #[{ on := 1, ground := Ground.data }, { on := 2, ground := Ground.data }], guard := none }) (v := ?_) rfl (by kernel_rfl) (by kernel_rfl) (by kernel_rfl) (fun _ _ _ h => h) (Or.inl ⟨by rfl, ?_⟩) (by assumption) ?_
        rotate_left 1
        focus (intro w hSw; (try clear hSw); go_simp; try (with_reducible rfl))
        try go_frame
        refine wpAnyH_take (i := 4) (oi := { dst := some 66, op := Op.load 31 (Operand.tmp 65), type := 31, pos := "law.go:177", after := #[{ on := 3, ground := Ground.data }], guard := none }) (v := .agg (recArr (Rm.words nilSl))) rfl (by kernel_rfl) (by kernel_rfl) (by kernel_rfl) (fun _ _ _ h => h) (yl_at rfl _ _ rfl _ _ rfl _ (fun w' h => HCL.out w' (HS.out.trans h)) rowRec) (by assumption) ?_
        try go_frame
        refine wpAnyH_ready (rs := [5, 9]) (by kernel_rfl) (by simp) ?_
        refine AllReadyH.cons (o := { dst := some 67, op := Op.call { callee := Callee.value (Operand.func 26), args := #[Operand.tmp 62, Operand.tmp 66], argTypes := #[29, 31] }, type := 53, pos := "law.go:177", after := #[{ on := 0, ground := Ground.data }, { on := 4, ground := Ground.data }], guard := none }) rfl (fun K hK => ?_) ?_
        · go_simp
          refine (DU.out _ (HS.out.trans hHeld)).mono ?_
          rintro e w6 ⟨s2, rfl, hb⟩
          try go_wp2_with fail
          refine hK.out _ _ (hHeld.call hb) (fun hHeld => ?_)
          clear hK K
          try go_frame
          refine wpAnyH_take (i := 6) (oi := { dst := some 61, op := Op.move (Operand.tmp 67), type := 53, pos := "law.go:177", after := #[{ on := 5, ground := Ground.data }], guard := none }) (v := ?_) rfl (by kernel_rfl) (by kernel_rfl) (by kernel_rfl) (fun _ _ _ h => h) (Or.inl ⟨by rfl, ?_⟩) (by assumption) ?_
          rotate_left 1
          focus (intro w hSw; (try clear hSw); go_simp; try (with_reducible rfl))
          try go_frame
          refine wpAnyH_take (i := 7) (oi := { dst := some 68, op := Op.extract (Operand.tmp 61) 0, type := 29, pos := "law.go:177", after := #[{ on := 6, ground := Ground.data }], guard := none }) (v := ?_) rfl (by kernel_rfl) (by kernel_rfl) (by kernel_rfl) (fun _ _ _ h => h) (Or.inl ⟨by rfl, ?_⟩) (by assumption) ?_
          rotate_left 1
          focus (intro w hSw; (try clear hSw); go_simp; try (with_reducible rfl))
          try go_frame
          refine wpAnyH_take (i := 8) (oi := { dst := some 69, op := Op.extract (Operand.tmp 61) 1, type := 3, pos := "law.go:177", after := #[{ on := 6, ground := Ground.data }, { on := 10, ground := Ground.gcOnly Departure.lateStores }], guard := none }) (v := ?_) rfl (by kernel_rfl) (by kernel_rfl) (by kernel_rfl) (fun _ _ _ h => h) (Or.inl ⟨by rfl, ?_⟩) (by assumption) ?_
          rotate_left 1
          focus (intro w hSw; (try clear hSw); go_simp; try (with_reducible rfl))
          try go_frame
          refine wpAnyH_ready (rs := [9]) (by kernel_rfl) (by simp) ?_
          refine AllReadyH.cons (o := { dst := some 12, op := Op.alloc 29, type := 0, pos := "law.go:177", after := #[], guard := none }) rfl (fun K hK => ?_) ?_
          · refine step_alloc_row rfl _ _ rfl zeroSaga_row ?_
            intro wA KVA hbA
            have KV := KVA
            have hge := hHeld.le
            refine hK.out _ _ (hHeld.call hbA) (fun hHeld => ?_)
            clear hK K
            try go_frame
            refine wpAnyH_ready (rs := [10]) (by kernel_rfl) (by simp) ?_
            refine AllReadyH.cons (o := { dst := none, op := Op.store 29 (Operand.tmp 12) (Operand.tmp 68), type := 0, pos := "law.go:177", after := #[{ on := 9, ground := Ground.data }, { on := 7, ground := Ground.data }, { on := 5, ground := Ground.chain }, { on := 0, ground := Ground.phase }, { on := 1, ground := Ground.phase }, { on := 2, ground := Ground.phase }, { on := 3, ground := Ground.phase }, { on := 4, ground := Ground.phase }, { on := 5, ground := Ground.phase }, { on := 6, ground := Ground.phase }, { on := 7, ground := Ground.phase }, { on := 8, ground := Ground.textOnly Departure.lateStores }, { on := 9, ground := Ground.phase }], guard := none }) rfl (fun K hK => ?_) ?_
            · refine step_store_blk rfl _ _ _ rfl _ rfl (sagaArr s2) rfl _ _ KV (by rfl) (by simp [sagaArr, Value.oneCell']) rowSaga ?_
              intro w7 hw7 KS7
              refine hK.out _ _ (hHeld.wrote hw7 hge) (fun hHeld => ?_)
              clear hK K
              try go_frame
              refine wpAnyH_ready (rs := [11]) (by kernel_rfl) (by simp) ?_
              refine AllReadyH.cons (o := { dst := some 13, op := Op.assign (Operand.tmp 69), type := 3, pos := "law.go:177", after := #[{ on := 8, ground := Ground.data }, { on := 10, ground := Ground.chain }, { on := 0, ground := Ground.phase }, { on := 1, ground := Ground.phase }, { on := 2, ground := Ground.phase }, { on := 3, ground := Ground.phase }, { on := 4, ground := Ground.phase }, { on := 5, ground := Ground.phase }, { on := 6, ground := Ground.phase }, { on := 7, ground := Ground.phase }, { on := 8, ground := Ground.phase }, { on := 9, ground := Ground.phase }, { on := 10, ground := Ground.phase }], guard := none }) rfl (fun K hK => ?_) ?_
              · go_simp
                refine hK.out _ _ (by assumption) (fun hHeld => ?_)
                clear hK K
                try go_frame
                refine wpAnyH_done (by kernel_rfl) ?_ _
                try go_wp2_with fail
                go_meet
                exact ⟨rfl, Lib.hid hHeld⟩
              exact AllReadyH.nil
            exact AllReadyH.nil
          exact AllReadyH.nil
        refine AllReadyH.cons (o := { dst := some 12, op := Op.alloc 29, type := 0, pos := "law.go:177", after := #[], guard := none }) rfl (fun K hK => ?_) ?_
        · refine step_alloc_row rfl _ _ rfl zeroSaga_row ?_
          intro wA KVA hbA
          refine hK.out _ _ (hHeld.call hbA) (fun hHeld => ?_)
          clear hK K
          try go_frame
          refine wpAnyH_ready (rs := [5]) (by kernel_rfl) (by simp) ?_
          refine AllReadyH.cons (o := { dst := some 67, op := Op.call { callee := Callee.value (Operand.func 26), args := #[Operand.tmp 62, Operand.tmp 66], argTypes := #[29, 31] }, type := 53, pos := "law.go:177", after := #[{ on := 0, ground := Ground.data }, { on := 4, ground := Ground.data }], guard := none }) rfl (fun K hK => ?_) ?_
          · go_simp
            refine (DU.out _ (HS.out.trans hHeld)).mono ?_
            rintro e w6 ⟨s2, rfl, hb⟩
            try go_wp2_with fail
            have KV := KVA.below hb (blk_lt KVA)
            have hge : wr.heap.size ≤ wr.drew.heap.size := Nat.le_refl _
            refine hK.out _ _ (hHeld.call hb) (fun hHeld => ?_)
            clear hK K
            try go_frame
            refine wpAnyH_take (i := 6) (oi := { dst := some 61, op := Op.move (Operand.tmp 67), type := 53, pos := "law.go:177", after := #[{ on := 5, ground := Ground.data }], guard := none }) (v := ?_) rfl (by kernel_rfl) (by kernel_rfl) (by kernel_rfl) (fun _ _ _ h => h) (Or.inl ⟨by rfl, ?_⟩) (by assumption) ?_
            rotate_left 1
            focus (intro w hSw; (try clear hSw); go_simp; try (with_reducible rfl))
            try go_frame
            refine wpAnyH_take (i := 7) (oi := { dst := some 68, op := Op.extract (Operand.tmp 61) 0, type := 29, pos := "law.go:177", after := #[{ on := 6, ground := Ground.data }], guard := none }) (v := ?_) rfl (by kernel_rfl) (by kernel_rfl) (by kernel_rfl) (fun _ _ _ h => h) (Or.inl ⟨by rfl, ?_⟩) (by assumption) ?_
            rotate_left 1
            focus (intro w hSw; (try clear hSw); go_simp; try (with_reducible rfl))
            try go_frame
            refine wpAnyH_take (i := 8) (oi := { dst := some 69, op := Op.extract (Operand.tmp 61) 1, type := 3, pos := "law.go:177", after := #[{ on := 6, ground := Ground.data }, { on := 10, ground := Ground.gcOnly Departure.lateStores }], guard := none }) (v := ?_) rfl (by kernel_rfl) (by kernel_rfl) (by kernel_rfl) (fun _ _ _ h => h) (Or.inl ⟨by rfl, ?_⟩) (by assumption) ?_
            rotate_left 1
            focus (intro w hSw; (try clear hSw); go_simp; try (with_reducible rfl))
            try go_frame
            refine wpAnyH_ready (rs := [10]) (by kernel_rfl) (by simp) ?_
            refine AllReadyH.cons (o := { dst := none, op := Op.store 29 (Operand.tmp 12) (Operand.tmp 68), type := 0, pos := "law.go:177", after := #[{ on := 9, ground := Ground.data }, { on := 7, ground := Ground.data }, { on := 5, ground := Ground.chain }, { on := 0, ground := Ground.phase }, { on := 1, ground := Ground.phase }, { on := 2, ground := Ground.phase }, { on := 3, ground := Ground.phase }, { on := 4, ground := Ground.phase }, { on := 5, ground := Ground.phase }, { on := 6, ground := Ground.phase }, { on := 7, ground := Ground.phase }, { on := 8, ground := Ground.textOnly Departure.lateStores }, { on := 9, ground := Ground.phase }], guard := none }) rfl (fun K hK => ?_) ?_
            · refine step_store_blk rfl _ _ _ rfl _ rfl (sagaArr s2) rfl _ _ KV (by rfl) (by simp [sagaArr, Value.oneCell']) rowSaga ?_
              intro w7 hw7 KS7
              refine hK.out _ _ (hHeld.wrote hw7 hge) (fun hHeld => ?_)
              clear hK K
              try go_frame
              refine wpAnyH_ready (rs := [11]) (by kernel_rfl) (by simp) ?_
              refine AllReadyH.cons (o := { dst := some 13, op := Op.assign (Operand.tmp 69), type := 3, pos := "law.go:177", after := #[{ on := 8, ground := Ground.data }, { on := 10, ground := Ground.chain }, { on := 0, ground := Ground.phase }, { on := 1, ground := Ground.phase }, { on := 2, ground := Ground.phase }, { on := 3, ground := Ground.phase }, { on := 4, ground := Ground.phase }, { on := 5, ground := Ground.phase }, { on := 6, ground := Ground.phase }, { on := 7, ground := Ground.phase }, { on := 8, ground := Ground.phase }, { on := 9, ground := Ground.phase }, { on := 10, ground := Ground.phase }], guard := none }) rfl (fun K hK => ?_) ?_
              · go_simp
                refine hK.out _ _ (by assumption) (fun hHeld => ?_)
                clear hK K
                try go_frame
                refine wpAnyH_done (by kernel_rfl) ?_ _
                try go_wp2_with fail
                go_meet
                exact ⟨rfl, Lib.hid hHeld⟩
              exact AllReadyH.nil
            exact AllReadyH.nil
          exact AllReadyH.nil
        exact AllReadyH.nil
      case rest =>
      obtain ⟨wx, rfl⟩ : ∃ q : World, q = wc := ⟨_, rfl⟩
      obtain ⟨rfl, HSX⟩ := hcut
      have HSY := Lib.hid (HS.out.trans HSX.out)
      clear HS HSX
      have HS := HSY
      clear HSY
      obtain ⟨wr, rfl⟩ : ∃ q : World, q = wx := ⟨_, rfl⟩
      go_wp2_with (go_at_call 18; (with_reducible refine (num_keep2 _ _).mono ?_); rintro e w9 ⟨rfl, rfl⟩)
      all_goals go_roundw
      case rel => exact ⟨j + 1, by omega, by go_num, HS⟩
      case measure => simp [intOf]; omega
    · have hj' : j = 6 := by omega
      subst hj'
      have HBE := Lib.hid (then_ HB7.out HS.out.out)
      go_wp2_with fail
      all_goals go_ret
      all_goals exact ⟨rfl, HBE.out⟩

end Go.Proofs.YteaiadpigpehaaaGreatDoor
