/-
  annalsref10.Check walked: it answers as saga.Check does. Conditions: the tables that the reference reads, as laid; a saga whose name has at most 2^40 bytes, whose lists are at most 2^20 and of at most 2^30 bytes each. (Printed by wip/gen_ref10check.py.)
-/
import Derived.Test.YteaiadpigpehaaaGreatDoorRef10Moved
import Derived.Test.YteaiadpigpehaaaGreatDoorRef10Sized
import Derived.Test.YteaiadpigpehaaaGreatDoorPkRefLaid
import Derived.Test.YteaiadpigpehaaaGreatDoorPkTold
namespace Go.Proofs.YteaiadpigpehaaaGreatDoor
open Go.RowKit

theorem recs_mk {w : World} {s : Sl} {Rs : List RecD} (h : RecsAt w s Rs) : ∃ rs : List RecV, s.n = rs.length ∧ rs.length = Rs.length ∧ (s.n ≤ 9223372036854775807 ∧ (s.a = none → s.c = 0)) ∧ (0 < s.n → ∃ b o, s.a = some ⟨b, o, none⟩ ∧ ∀ i (h1 : i < rs.length), ∀ j, j < 12 → w.cell? ⟨b, o + i * 12 + j, none⟩ = (rs[i]).cells[j]?) ∧ ∀ i (h1 : i < rs.length) (h2 : i < Rs.length), RecRd w rs[i] Rs[i] := h
theorem OwnRecs.sl {w : World} {B : Nat} {v : Value} {Rs : List RecD} (h : OwnRecs w B v Rs) : ∃ s : Sl, v = s.v := by
  obtain ⟨rs, ⟨hl, h1⟩, h2, h3⟩ := h
  rcases h1 with ⟨e, h0⟩ | ⟨g, cap, cur, e, _⟩
  · exact ⟨nilSl, e⟩
  · exact ⟨⟨_, _, _⟩, e⟩
/-- A record of a story as the reference lays it. -/
structure LaidR (D : SagaD) (R : RecD) : Prop where
  data : R.data.length ≤ 1073741824
  name : R.name = D.name ∨ R.name = ⟨#[]⟩
  v : R.v = 3
theorem laid_all {D : SagaD} {l m : List RecD} (h : ∀ R ∈ l, LaidR D R) (k : ∀ R ∈ m, LaidR D R) : ∀ R ∈ l ++ m, LaidR D R := fun R hR => (List.mem_append.1 hR).elim (h R) (k R)
theorem laid_small {D : SagaD} (hm : D.held.Small) : ∀ R ∈ beginR D :: tellW D, LaidR D R := by
  suffices key : ∀ R ∈ tellW D, LaidR D R by
    intro R hR
    rcases List.mem_cons.1 hR with rfl | hR
    · exact ⟨hm.input, .inl rfl, rfl⟩
    · exact key R hR
  unfold tellW
  refine laid_all ?_ (laid_all ?_ (laid_all ?_ ?_))
  · intro X hX
    obtain ⟨i, _, h⟩ := List.mem_flatMap.1 hX
    simp at h
    rcases h with rfl | rfl
    · exact ⟨by simp, .inr rfl, rfl⟩
    · exact ⟨getD_small hm.outs2 i, .inr rfl, rfl⟩
  · unfold midW
    split
    · refine laid_all (fun X hX => ?_) (fun X hX => ?_)
      · simp at hX
        rcases hX with rfl | rfl
        · exact ⟨by simp, .inr rfl, rfl⟩
        · exact ⟨hm.fail, .inr rfl, rfl⟩
      · obtain ⟨i, _, h⟩ := List.mem_flatMap.1 hX
        simp at h
        rcases h with rfl | rfl
        · exact ⟨by simp, .inr rfl, rfl⟩
        · exact ⟨getD_small hm.undos2 i, .inr rfl, rfl⟩
    · intro X hX; cases hX
  · intro X hX
    obtain ⟨i, _, h⟩ := List.mem_flatMap.1 hX
    simp only [List.mem_cons] at h
    rcases h with rfl | h
    · exact ⟨by simp, .inr rfl, rfl⟩
    · split at h
      · simp at h; rw [h]; exact ⟨by simp, .inr rfl, rfl⟩
      · cases h
  · unfold endL
    intro X hX
    split at hX
    · simp at hX; rw [hX]; exact ⟨by simp, .inr rfl, rfl⟩
    · split at hX
      · simp at hX; rw [hX]; exact ⟨by simp, .inr rfl, rfl⟩
      · cases hX
theorem LaidR.fits {D : SagaD} {R : RecD} (h : LaidR D R) (hn : D.name.size ≤ 1099511627776) : RefFits R := by
  refine ⟨?_, by have := h.data; omega⟩
  rcases h.name with e | e
  · rw [e]; exact hn
  · rw [e]; decide
theorem tellW_len {D : SagaD} (h1 : D.outs.length ≤ 32) (h2 : D.undos.length ≤ 32) (h3 : D.tries ≤ 1000) : (tellW D).length ≤ 3000 := by
  unfold tellW
  rw [List.length_append, List.length_append, List.length_append, outsL_len]
  have := midW_len h2
  have := triesL_len D (if backP D then 5 else 2) (if backP D then wrap64 (D.next - 1) else D.next) D.tries.toNat
  have : (endL D).length ≤ 1 := by unfold endL; split; simp; split <;> simp
  unfold lastW
  omega
def finN (D : SagaD) (p : Int × SagaD) : Int := if p.1 ≠ 0 then 100 else if sameB p.2 D = false then 100 else 0
theorem refused_rd (s : SagaV) (D : SagaD) (r : RecV) (R : RecD) (W : World) (hs : s = D.words s.input s.outs s.undos s.fail) (hr : r = R.words r.data) (hg : GoodD D) (hx : RecGood R) :
    Calls Tryz.prog 78 #[s.val, r.val] W fun e w' => e = .returned (.int .i64 (refusedD D R)) ∧ Below W.heap.size W w' := by
  rw [hs, hr]
  have := ref10Refused_any (D.words s.input s.outs s.undos s.fail) (R.words r.data) W hg.nextb ⟨hg.plain.tries0, hg.plain.tries1000⟩ ⟨hx.kind1, hx.kind7⟩
  rw [refN_eq hg hx] at this
  exact this
/-- How the play stands. -/
structure CkAt (w3 wr : World) (g : Nat) (sq : SagaV) (Dq : SagaD) : Prop where
  since : Since w3 wr
  blk : BlkAt wr g (sagaArr sq) 29
  own : SagaOwn wr w3.heap.size sq Dq
  low : w3.heap.size ≤ g

set_option maxRecDepth 10000000 in
set_option maxHeartbeats 8000000 in
theorem ref10Check_any (s : SagaV) (D : SagaD) (w : World) (ht : RefTabs w) (hs : SagaRd w s D) (hm : D.held.Small) (hn : D.name.size ≤ 1099511627776) (hbg : D.begun ≤ 9223372036854775807) (hat : D.at_ ≤ 9223372036854775807) (hto : sizedD D = true → ToldOk D) :
    Calls Tryz.prog 44 #[s.val] w fun e w' => e = .returned (.int .i64 (checkD D)) ∧ Below w.heap.size w w' := by
  have hC := refCheck_eq hbg hat
  obtain ⟨C, hCq⟩ : ∃ q, checkD D = q := ⟨_, rfl⟩
  rw [hCq] at hC ⊢
  have HC := Lib.hid hC
  have k0 := BlkAt.new w (sagaArr s) 29
  have hb1 := boxd (o := .cells (sagaArr s) 29) (Below.refl w.heap.size w)
  have cS := Lib.hid (sized_any s D _ (ht.below hb1) (hs.below hb1) hn)
  have HB1 := Lib.hid hb1
  have HT := Lib.hid ht
  have HS := Lib.hid hs
  have HM := Lib.hid hm
  clear hC hCq hb1 ht hs hm
  go_enter Tryz.func44, Tryz.ntmps44
  go_wp2_with (refine wpList_load_blk rfl _ _ rfl _ rfl _ _ k0 rowSaga ?_)
  refine cS.out.mono ?_
  rintro e w2 ⟨rfl, hb⟩
  have K2 := Lib.hid (k0.below hb (by simp))
  have HB2 := Lib.hid (then_ HB1.out hb)
  have hs2 := hb.size
  rw [World.size_alloc] at hs2
  clear hb k0 HB1 cS
  cases hz : sizedD D with
  | false =>
    have hc : C = 100 := by rw [← HC.out]; unfold refCheckN; rw [if_pos hz]
    subst hc
    clear HC HT HS HM hz
    go_wp2_with fail
    all_goals go_ret
    all_goals exact ⟨rfl, HB2.out⟩
  | true =>
    obtain ⟨z1, z2, z3, z4, z5, z6, z7, z8, z9, z10, z11⟩ := of_decide_eq_true hz
    have hlen := tellW_len z9 z10 z6
    have cT := Lib.hid (hto hz s w2 (HS.out.below HB2.out))
    have hc : C = if beginN (beginR D) ≠ 0 then 100 else finN D (playR (beginD (beginR D)) (tellW D)) := by rw [← HC.out]; unfold refCheckN finN; rw [if_neg (by simp [hz])]
    have HCC := Lib.hid hc
    clear HC hz z1 z2 z3 z4 z5 z6 z7 z8 z9 z10 z11 hc
    have k2 := K2.out
    go_wp2_with (refine wpList_load_blk rfl _ _ rfl _ rfl _ _ k2 rowSaga ?_)
    refine cT.out.mono ?_
    rintro e w3 ⟨v, rfl, hown, hb⟩
    have hs3 := hb.size
    have K3 := Lib.hid (K2.out.below hb (by omega))
    have HB3 := Lib.hid (then_ HB2.out hb)
    obtain ⟨⟨va, vn, vc⟩, rfl⟩ := hown.sl
    obtain ⟨L, hL⟩ : ∃ q, beginR D :: tellW D = q := ⟨_, rfl⟩
    have hLs := laid_small HM.out
    rw [hL] at hown hLs
    obtain ⟨rs, q1, q2, ⟨q3, q3'⟩, q4, q5⟩ := recs_mk (hown.recsAt (fun R hR => (hLs R hR).data))
    simp only at q1 q3 q4
    have hvl : vn = L.length := by omega
    have hv1 : 1 ≤ vn := by rw [hvl, ← hL]; simp
    have hv3 : vn ≤ 3001 := by rw [hvl, ← hL]; simp; omega
    obtain ⟨b0, o0, e, hcl⟩ := q4 (by omega)
    subst e
    have hld : ∀ i (h : i < rs.length) W, Since w3 W → ∀ j, j < (recArr rs[i]).size → W.cell? ⟨b0, o0 + i * 12 + j, none⟩ = (recArr rs[i])[j]? := by
      intro i h W hW j hj
      have h1 := hcl i h j hj
      have h2 : (rs[i]).cells[j]? = (recArr rs[i])[j]? := by simp [recArr]
      rw [h2, Array.getElem?_eq_getElem hj] at h1
      rw [Array.getElem?_eq_getElem hj]
      exact (hW.out.cell (World.block_lt_of_cell? w3 _ h1)).trans h1
    have HLD := Lib.hid hld
    have HRDS := Lib.hid q5
    have Q1 := Lib.hid q1
    have Q2 := Lib.hid q2
    have HVL := Lib.hid hvl
    have HLS := Lib.hid hLs
    have hv0 : ((vn : Int) == 0) = false := by rw [beq_eq_false_iff_ne]; omega
    have hr0 : 0 < rs.length := by omega
    obtain ⟨rr, hrr⟩ : ∃ q, rs[0] = q := ⟨_, rfl⟩
    have ld0 := hld 0 hr0
    have rd0 := q5 0 hr0 (by omega)
    rw [hrr] at ld0 rd0
    have hl0 : ∀ h : 0 < L.length, L[0] = beginR D := by subst hL; intro _; rfl
    rw [hl0] at rd0
    rw [Nat.zero_mul, Nat.add_zero] at ld0
    have HLD0 := Lib.hid (ld0 w3 (Since.refl _))
    have hfb : RefFits (beginR D) := (laid_small HM.out _ (List.mem_cons_self ..)).fits hn
    have cB := ref10Begin_any rr (beginR D) w3 (HT.out.below HB3.out) rd0 hfb
    have hdrop : L.drop 1 = tellW D := by subst hL; rfl
    have hst : (beginN (beginR D) = 0 → GoodD (beginD (beginR D)) ∧ C = finN D (playR (beginD (beginR D)) (L.drop 1))) ∧ (beginN (beginR D) ≠ 0 → C = 100) := by
      refine ⟨fun h => ⟨(begin_taken h).2.2.2, ?_⟩, fun h => ?_⟩
      · rw [HCC.out, if_neg (by simp [h]), hdrop]
      · rw [HCC.out, if_pos h]
    obtain ⟨N0, hN0⟩ : ∃ q, beginN (beginR D) = q := ⟨_, rfl⟩
    obtain ⟨D0, hD0⟩ : ∃ q, beginD (beginR D) = q := ⟨_, rfl⟩
    rw [hN0, hD0] at cB hst
    have CB := Lib.hid cB
    have HST := Lib.hid hst
    clear q1 q2 q3' q4 q5 hcl hld hrr ld0 rd0 cB hst hvl hr0 hdrop hl0 hfb HCC hN0 hD0 hown hb cT k2 hLs hL hlen
    dsimp only [Sl.v]
    go_wp2_with (refine wpList_load_at rfl _ _ rfl _ _ rfl _ HLD0.out rowRec ?_)
    refine CB.out.mono ?_
    rintro e w7 ⟨s7, rfl, ho, hb⟩
    have h67 := hb.size
    obtain ⟨w8, hw8⟩ : ∃ q, w7.alloc (.cells (sagaArr s7) 29) = q := ⟨_, rfl⟩
    have hb8 : Below w7.heap.size w7 w8 := by rw [← hw8]; exact boxd (Below.refl _ _)
    have hA : CkAt w3 w8 w7.heap.size s7 D0 := ⟨⟨then_ hb hb8⟩, by rw [← hw8]; exact BlkAt.new _ _ _, ho.through hb8, h67⟩
    have TA := Lib.hid hA
    dsimp only [sagaArr, Sl.v] at hw8
    have HW8 := Lib.hid hw8
    clear hw8 hb8 hA hb ho CB HLD0
    dsimp only [SagaV.val, Sl.v]
    go_upto_region 6 with fail
    rw [HW8.out]
    clear HW8
    obtain ⟨g, hgq⟩ : ∃ q, w7.heap.size = q := ⟨_, rfl⟩
    rw [hgq] at TA h67 ⊢
    clear hgq
    go_wp2_with fail
    go_loopw [6, 7] (fun se i wr => ∃ (m : Nat) (E : Int) (sq : SagaV) (Dq : SagaD), 1 ≤ m ∧ m ≤ vn ∧ se = .int .i64 E ∧ i = .int .i64 m ∧ Hid (CkAt w3 wr g sq Dq) ∧ Hid ((E = 0 → GoodD Dq ∧ C = finN D (playR Dq (L.drop m))) ∧ (E ≠ 0 → C = 100))) (fun _ i _ => vn - (intOf i).toNat)
    case atStart => exact ⟨1, N0, s7, D0, by omega, hv1, rfl, rfl, TA, HST⟩
    case round =>
      clear TA HST
      obtain ⟨m, E, sq, Dq, hm1, hmn, rfl, rfl, TA, HE⟩ := hrel
      by_cases hE : E = 0
      · subst hE
        obtain ⟨hgq, hcq⟩ := HE.out.1 rfl
        have HG := Lib.hid hgq
        have HP := Lib.hid hcq
        have HB9 := Lib.hid (HB3.out.trans (TA.out.since.out.mono (by omega)))
        clear hgq hcq HE
        by_cases hlt : m < vn
        · have hm2 : m < rs.length := by have := Q1.out; omega
          have hm3 : m < L.length := by have := HVL.out; omega
          obtain ⟨rm, hrm⟩ : ∃ q, rs[m] = q := ⟨_, rfl⟩
          obtain ⟨Rm, hRm⟩ : ∃ q, L[m] = q := ⟨_, rfl⟩
          have ldm := HLD.out m hm2
          have rdm := HRDS.out m hm2 hm3
          rw [hrm] at ldm rdm
          rw [hRm] at rdm
          have hin : Rm ∈ L := by rw [← hRm]; exact List.getElem_mem hm3
          have hlr := HLS.out Rm hin
          have hcp := HP.out
          rw [List.drop_eq_getElem_cons hm3, hRm] at hcp
          have HPC := Lib.hid hcp
          have fm := hlr.fits hn
          have rdw := rdm.below TA.out.since.out
          have cK := ref3Check_any rm Rm.data wr (HT.out.below HB9.out) (by rw [rdm.eq]; exact fm.name) fm.len rdw.data
          rw [rdm.recEq] at cK
          have CK := Lib.hid cK
          have HLDM := Lib.hid ldm
          have HRDM := Lib.hid rdm
          have KBL := Lib.hid TA.out.blk
          have HV3 := Lib.hid hlr.v
          clear hm2 hm3 hrm hRm ldm rdm hin hlr hcp fm rdw cK HP
          go_wp2_with (refine wpList_load_at rfl _ _ rfl _ _ rfl _ (HLDM.out _ TA.out.since) rowRec ?_)
          refine CK.out.mono ?_
          rintro e w4 ⟨rfl, hb⟩
          have TA4 := Lib.hid (show CkAt w3 w4 g sq Dq from ⟨TA.out.since.call hb, TA.out.blk.below hb (blk_lt TA.out.blk), TA.out.own.through hb, TA.out.low⟩)
          have KB4 := Lib.hid TA4.out.blk
          clear hb CK KBL
          obtain ⟨F0, hF0⟩ : ∃ q, recD Rm = q := ⟨_, rfl⟩
          by_cases hr : F0 = 0
          · subst hr
            have hxg : RecGood Rm := by have := recGood hF0; rwa [up3_3 HV3.out] at this
            have HX := Lib.hid hxg
            obtain ⟨F, hF⟩ : ∃ q, refusedD Dq Rm = q := ⟨_, rfl⟩
            have cF := fun W => refused_rd sq Dq rm Rm W TA.out.own.eq HRDM.out.eq HG.out hxg
            rw [hF] at cF
            have CF := Lib.hid cF
            have HF := Lib.hid hF
            have HF0 := Lib.hid hF0
            rw [hF0]
            clear hxg cF hF hF0
            go_upto_region 11 with fail
            refine wp_region_held_drew (S := Since w4) (by kernel_rfl) ((Since.refl w4).drew) (fun hHeld => ?_)
            refine wpAnyH_take (i := 0) (oi := { dst := some 40, op := Op.load 29 (Operand.tmp 5), type := 29, pos := "annalsref10.go:263", after := #[], guard := none }) (v := .agg (sagaArr sq)) rfl (by kernel_rfl) (by kernel_rfl) (by kernel_rfl) (fun _ _ _ h => h) (yl_blk rfl _ _ rfl _ rfl _ _ (fun w' h => h.blk KB4.out) rowSaga) (by assumption) ?_
            try go_frame
            refine wpAnyH_take (i := 1) (oi := { dst := some 41, op := Op.move (Operand.tmp 4), type := 57, pos := "annalsref10.go:263", after := #[], guard := none }) (v := ?_) rfl (by kernel_rfl) (by kernel_rfl) (by kernel_rfl) (fun _ _ _ h => h) (Or.inl ⟨by rfl, ?_⟩) (by assumption) ?_
            rotate_left 1
            focus (intro w hSw; (try clear hSw); go_simp; try (with_reducible rfl))
            try go_frame
            refine wpAnyH_take (i := 2) (oi := { dst := some 42, op := Op.move (Operand.tmp 7), type := 3, pos := "annalsref10.go:263", after := #[], guard := none }) (v := ?_) rfl (by kernel_rfl) (by kernel_rfl) (by kernel_rfl) (fun _ _ _ h => h) (Or.inl ⟨by rfl, ?_⟩) (by assumption) ?_
            rotate_left 1
            focus (intro w hSw; (try clear hSw); go_simp; try (with_reducible rfl))
            try go_frame
            refine wpAnyH_take (i := 3) (oi := { dst := some 43, op := Op.indexAddr 57 (Operand.tmp 41) (Operand.tmp 42), type := 0, pos := "annalsref10.go:263", after := #[{ on := 1, ground := Ground.data }, { on := 2, ground := Ground.data }], guard := none }) (v := ?_) rfl (by kernel_rfl) (by kernel_rfl) (by kernel_rfl) (fun _ _ _ h => h) (Or.inl ⟨by rfl, ?_⟩) (by assumption) ?_
            rotate_left 1
            focus (intro w hSw; (try clear hSw); go_simp; try (with_reducible rfl))
            try go_frame
            refine wpAnyH_take (i := 4) (oi := { dst := some 44, op := Op.load 31 (Operand.tmp 43), type := 31, pos := "annalsref10.go:263", after := #[{ on := 3, ground := Ground.data }], guard := none }) (v := .agg (recArr rm)) rfl (by kernel_rfl) (by kernel_rfl) (by kernel_rfl) (fun _ _ _ h => h) (yl_at rfl _ _ rfl _ _ rfl _ (fun w' h => HLDM.out w' (TA4.out.since.trans h)) rowRec) (by assumption) ?_
            try go_frame
            refine wpAnyH_ready (rs := [5]) (by kernel_rfl) (by simp) ?_
            refine AllReadyH.cons (o := { dst := some 45, op := Op.call { callee := Callee.value (Operand.func 78), args := #[Operand.tmp 40, Operand.tmp 44], argTypes := #[29, 31] }, type := 3, pos := "annalsref10.go:263", after := #[{ on := 0, ground := Ground.data }, { on := 4, ground := Ground.data }], guard := none }) rfl (fun K hK => ?_) ?_
            · go_simp
              refine (CF.out _).mono ?_
              rintro e w9 ⟨rfl, hb⟩
              have TA9 := Lib.hid (show CkAt w3 w9 g sq Dq from ⟨TA4.out.since.drew.call hb, BlkAt.below (show BlkAt w4.drew g (sagaArr sq) 29 from KB4.out) hb (blk_lt KB4.out), (TA4.out.own.through (Below.refl w4.heap.size w4).drew).through hb, h67⟩)
              try go_wp2_with fail
              refine hK.out _ _ (hHeld.call hb) (fun hHeld => ?_)
              clear hK K
              try go_frame
              refine wpAnyH_ready (rs := [6]) (by kernel_rfl) (by simp) ?_
              refine AllReadyH.cons (o := { dst := some 8, op := Op.assign (Operand.tmp 45), type := 3, pos := "annalsref10.go:263", after := #[{ on := 5, ground := Ground.data }, { on := 5, ground := Ground.chain }, { on := 0, ground := Ground.phase }, { on := 1, ground := Ground.phase }, { on := 2, ground := Ground.phase }, { on := 3, ground := Ground.phase }, { on := 4, ground := Ground.phase }, { on := 5, ground := Ground.phase }], guard := none }) rfl (fun K hK => ?_) ?_
              · go_simp
                refine hK.out _ _ (by assumption) (fun hHeld => ?_)
                clear hK K
                try go_frame
                refine wpAnyH_done (by kernel_rfl) ?_ _
                clear hHeld hb
                have KB9 := Lib.hid TA9.out.blk
                by_cases hf : F = 0
                · subst hf
                  have HTK := Lib.hid ((refused_iff ⟨HX.out.kind1, HX.out.kind7⟩ HG.out.nextb).1 HF.out)
                  go_upto_region 14 with fail
                  refine wp_region_held_drew (S := Since w3) (by kernel_rfl) ((TA9.out.since).drew) (fun hHeld => ?_)
                  refine wpAnyH_take (i := 1) (oi := { dst := some 50, op := Op.move (Operand.tmp 4), type := 57, pos := "annalsref10.go:267", after := #[], guard := none }) (v := ?_) rfl (by kernel_rfl) (by kernel_rfl) (by kernel_rfl) (fun _ _ _ h => h) (Or.inl ⟨by rfl, ?_⟩) (by assumption) ?_
                  rotate_left 1
                  focus (intro w hSw; (try clear hSw); go_simp; try (with_reducible rfl))
                  try go_frame
                  refine wpAnyH_take (i := 2) (oi := { dst := some 51, op := Op.move (Operand.tmp 7), type := 3, pos := "annalsref10.go:267", after := #[], guard := none }) (v := ?_) rfl (by kernel_rfl) (by kernel_rfl) (by kernel_rfl) (fun _ _ _ h => h) (Or.inl ⟨by rfl, ?_⟩) (by assumption) ?_
                  rotate_left 1
                  focus (intro w hSw; (try clear hSw); go_simp; try (with_reducible rfl))
                  try go_frame
                  refine wpAnyH_take (i := 3) (oi := { dst := some 52, op := Op.indexAddr 57 (Operand.tmp 50) (Operand.tmp 51), type := 0, pos := "annalsref10.go:267", after := #[{ on := 1, ground := Ground.data }, { on := 2, ground := Ground.data }], guard := none }) (v := ?_) rfl (by kernel_rfl) (by kernel_rfl) (by kernel_rfl) (fun _ _ _ h => h) (Or.inl ⟨by rfl, ?_⟩) (by assumption) ?_
                  rotate_left 1
                  focus (intro w hSw; (try clear hSw); go_simp; try (with_reducible rfl))
                  try go_frame
                  refine wpAnyH_take (i := 4) (oi := { dst := some 53, op := Op.load 31 (Operand.tmp 52), type := 31, pos := "annalsref10.go:267", after := #[{ on := 3, ground := Ground.data }], guard := none }) (v := .agg (recArr rm)) rfl (by kernel_rfl) (by kernel_rfl) (by kernel_rfl) (fun _ _ _ h => h) (yl_at rfl _ _ rfl _ _ rfl _ (fun w' h => HLDM.out w' h) rowRec) (by assumption) ?_
                  try go_frame
                  refine wpAnyH_ready (rs := [0]) (by kernel_rfl) (by simp) ?_
                  refine AllReadyH.cons (o := { dst := some 49, op := Op.load 29 (Operand.tmp 5), type := 29, pos := "annalsref10.go:267", after := #[], guard := none }) rfl (fun K hK => ?_) ?_
                  · refine step_load_blk rfl _ _ rfl _ rfl _ (sagaArr sq) (show BlkAt w9.drew g (sagaArr sq) _ from KB9.out) rowSaga ?_
                    refine hK.out _ _ (hHeld) (fun hHeld => ?_)
                    clear hK K
                    try go_frame
                    refine wpAnyH_ready (rs := [5]) (by kernel_rfl) (by simp) ?_
                    refine AllReadyH.cons (o := { dst := some 54, op := Op.call { callee := Callee.value (Operand.func 79), args := #[Operand.tmp 49, Operand.tmp 53], argTypes := #[29, 31] }, type := 29, pos := "annalsref10.go:267", after := #[{ on := 0, ground := Ground.data }, { on := 4, ground := Ground.data }], guard := none }) rfl (fun K hK => ?_) ?_
                    · go_simp
                      refine (light_taken sq Dq rm Rm w3.heap.size w9.drew (TA9.out.own.through (Below.refl w9.heap.size w9).drew) (show w3.heap.size ≤ w9.heap.size from TA9.out.since.le) (HRDM.out.below TA9.out.since.drew.out) HG.out HX.out HTK.out g (sagaArr sq) (show BlkAt w9.drew g (sagaArr sq) 29 from KB9.out)).mono ?_
                      rintro e wB ⟨s2, rfl, ho, hb, hbx⟩
                      have HSB := Lib.hid (show Since w3 wB from ⟨TA9.out.since.drew.out.trans hb⟩)
                      try go_wp2_with fail
                      refine hK.out _ _ (HSB.out) (fun hHeld => ?_)
                      clear hK K
                      try go_frame
                      refine wpAnyH_ready (rs := [6]) (by kernel_rfl) (by simp) ?_
                      refine AllReadyH.cons (o := { dst := none, op := Op.store 29 (Operand.tmp 5) (Operand.tmp 54), type := 0, pos := "annalsref10.go:267", after := #[{ on := 5, ground := Ground.data }, { on := 5, ground := Ground.chain }, { on := 0, ground := Ground.phase }, { on := 1, ground := Ground.phase }, { on := 2, ground := Ground.phase }, { on := 3, ground := Ground.phase }, { on := 4, ground := Ground.phase }, { on := 5, ground := Ground.phase }], guard := none }) rfl (fun K hK => ?_) ?_
                      · refine step_store_blk rfl _ _ _ rfl _ rfl (sagaArr s2) rfl _ _ hbx (by rfl) (by simp [sagaArr, Value.oneCell']) rowSaga ?_
                        intro w7 hw7 KS7
                        refine hK.out _ _ (hHeld.wrote hw7 h67) (fun hHeld => ?_)
                        clear hK K
                        try go_frame
                        refine wpAnyH_done (by kernel_rfl) ?_ _
                        have hE2 : CkAt w3 w7 g s2 (movedD Dq Rm) := ⟨hHeld, KS7, ho.keep (hw7.rows hbx (by decide) (by decide)), h67⟩
                        have TB := Lib.hid hE2
                        have hst2 : ((0 : Int) = 0 → GoodD (movedD Dq Rm) ∧ C = finN D (playR (movedD Dq Rm) (L.drop (m + 1)))) ∧ ((0 : Int) ≠ 0 → C = 100) := ⟨fun _ => ⟨good_step HG.out HX.out HTK.out, by rw [HPC.out, playR_step HF0.out HF.out]⟩, fun h => absurd rfl h⟩
                        have HST2 := Lib.hid hst2
                        clear hE2 hst2 hw7 KS7 ho hb hbx hHeld
                        go_wp2_with fail
                        all_goals go_roundw
                        case rel => exact ⟨m + 1, 0, s2, _, by omega, by omega, rfl, by go_num, TB, HST2⟩
                        case measure => simp [intOf]; omega
                      exact AllReadyH.nil
                    exact AllReadyH.nil
                  exact AllReadyH.nil
                · have hx : C = 100 := by
                    rw [HPC.out, playR_ref HF0.out (by rw [HF.out]; exact hf)]
                    unfold finN
                    rw [if_pos (by rw [HF.out]; exact hf)]
                  have HXX := Lib.hid hx
                  have hF1 : (F == 0) = false := by rw [beq_eq_false_iff_ne]; exact hf
                  clear hx
                  go_wp2_with fail
                  all_goals go_roundw
                  case rel => exact ⟨m + 1, F, sq, Dq, by omega, by omega, rfl, by go_num, TA9, Lib.hid ⟨fun h => absurd h hf, fun _ => HXX.out⟩⟩
                  case measure => simp [intOf]; omega
              exact AllReadyH.nil
            exact AllReadyH.nil
          · have hx : C = 100 := by
              rw [HPC.out, playR_err (by rw [hF0]; exact hr)]
              unfold finN
              rw [if_pos (by rw [hF0]; exact hr)]
            have HX := Lib.hid hx
            have hF1 : (F0 == 0) = false := by rw [beq_eq_false_iff_ne]; exact hr
            rw [hF0]
            clear hF0 HPC hx
            go_wp2_with fail
            all_goals go_roundw
            case rel => exact ⟨m + 1, F0, sq, Dq, by omega, by omega, rfl, by go_num, TA4, Lib.hid ⟨fun h => absurd h hr, fun _ => HX.out⟩⟩
            case measure => simp [intOf]; omega
        · have hm : m = vn := by omega
          subst hm
          have hp := HP.out
          rw [List.drop_of_length_le (by have := HVL.out; omega)] at hp
          have KS := Lib.hid (K3.out.below TA.out.since.out (by omega))
          have KQ := Lib.hid TA.out.blk
          obtain ⟨bs, hbs⟩ : ∃ q, sameB Dq D = q := ⟨_, rfl⟩
          have cM := same_any sq s Dq D wr (TA.out.own.rd HG.out.small) (HS.out.below HB9.out)
          rw [hbs] at cM
          have CM := Lib.hid cM
          have hfin : C = if bs = false then 100 else 0 := by rw [hp]; unfold finN playR; rw [if_neg (by simp), hbs]
          have HFN := Lib.hid hfin
          clear hp hbs cM hfin HP
          have kq := KQ.out
          have ks := KS.out
          go_wp2_with (first
            | (refine wpList_load_blk rfl _ _ rfl g rfl _ _ kq rowSaga ?_)
            | (refine wpList_load_blk rfl _ _ rfl w.heap.size rfl _ _ ks rowSaga ?_))
          refine CM.out.mono ?_
          rintro e w5 ⟨rfl, hb⟩
          have HBE := Lib.hid (then_ HB9.out hb)
          clear hb CM kq ks
          cases bs with
          | false =>
            have e : C = 100 := by rw [HFN.out]; rfl
            subst e
            go_wp2_with fail
            all_goals go_ret
            all_goals exact ⟨rfl, HBE.out⟩
          | true =>
            have e : C = 0 := by rw [HFN.out]; rfl
            subst e
            go_wp2_with fail
            all_goals go_ret
            all_goals exact ⟨rfl, HBE.out⟩
      · have hc := HE.out.2 hE
        subst hc
        have HB9 := Lib.hid (HB3.out.trans (TA.out.since.out.mono (by omega)))
        have hE1 : (E == 0) = false := by rw [beq_eq_false_iff_ne]; exact hE
        have hE2 : (E != 0) = true := by rw [bne_iff_ne]; exact hE
        by_cases hlt : m < vn
        · go_wp2_with fail
          all_goals go_ret
          all_goals exact ⟨rfl, HB9.out⟩
        · have hlt' : ¬ (m : Int) < vn := by omega
          go_wp2_with fail
          all_goals go_ret
          all_goals exact ⟨rfl, HB9.out⟩
end Go.Proofs.YteaiadpigpehaaaGreatDoor
