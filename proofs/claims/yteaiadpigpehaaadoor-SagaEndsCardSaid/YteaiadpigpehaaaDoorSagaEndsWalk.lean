/-
  annalslaw10.SagaEnds walked: it answers true, of any saga. Conditions: the tables that saga.Check, lift.Up and the walk read, as laid.
-/
import Derived.Test.YteaiadpigpehaaaDoorPkApply
import Derived.Test.YteaiadpigpehaaaDoorPkLaw
import Derived.Test.YteaiadpigpehaaaDoorHappy
import Derived.Test.YteaiadpigpehaaaDoorPkTurn
namespace Go.Proofs.YteaiadpigpehaaaDoor
open Go.RowKit
theorem num_keep (n : Int) (w : World) : Calls Tryd.prog 14 #[.int .i64 n] w fun e w' => e = .returned (.int .i64 n) ∧ w = w' := (num_any n w).mono fun _ _ h => ⟨h.1, h.2.symm⟩
namespace sagaEnds

/-- A saga that is read where it was handed in, or in blocks of one's own. -/
def Rd2 (w wr : World) (s : SagaV) (D : SagaD) : Prop := SagaRd w s D ∨ SagaOwn wr w.heap.size s D
theorem Rd2.rd {w wr : World} {s : SagaV} {D : SagaD} (h : Rd2 w wr s D) (hb : Below w.heap.size w wr) (hg : GoodD D) : SagaRd wr s D := by
  rcases h with h | h
  · exact h.below hb
  · exact h.rd hg.small
theorem Rd2.through {w wr w' : World} {s : SagaV} {D : SagaD} (h : Rd2 w wr s D) (hb : Below wr.heap.size wr w') : Rd2 w w' s D := by
  rcases h with h | h
  · exact .inl h
  · exact .inr (h.through hb)
theorem Rd2.wrote {w wr w' : World} {s : SagaV} {D : SagaD} {g : Nat} {cs : Array Value} {t : TypeId} (h : Rd2 w wr s D) (hw : Wrote wr w' g) (hk : BlkAt wr g cs t) (h1 : t ≠ 5) (h2 : t ≠ 22) : Rd2 w w' s D := by
  rcases h with h | h
  · exact .inl h
  · exact .inr (h.keep (hw.rows hk h1 h2))
theorem Rd2.eq {w wr : World} {s : SagaV} {D : SagaD} (h : Rd2 w wr s D) : s = D.words s.input s.outs s.undos s.fail := by
  rcases h with h | h
  · exact h.eq
  · exact h.eq

/-- How the loop stands. -/
structure At (w wr : World) (h p : Nat) (D : SagaD) (j : Nat) (s' : SagaV) (D' : SagaD) : Prop where
  blk : BlkAt wr h (sagaArr s') 25
  recb : ∃ cs, BlkAt wr p cs 27 ∧ cs.size = 12
  rd : Rd2 w wr s' D'
  good : GoodD D'
  name : D'.name = D.name
  count : D'.count = D.count
  phase : D'.phase = D.phase
  left : j + leftD D' ≤ 2 * D.count + 1
  below : Below w.heap.size w wr

set_option maxRecDepth 10000000 in
set_option maxHeartbeats 4000000 in
theorem walk (s : SagaV) (D : SagaD) (w : World) (ht : Tables w) (hl : LandsAt w) (hs : SagaRd w s D) (fs : SagaFits D) :
    Calls Tryd.prog 6 #[s.val] w fun e w' => e = .returned (.bool true) ∧ Below w.heap.size w w' := by
  have hb1 := boxd (o := .cells (sagaArr s) 25) (Below.refl w.heap.size w)
  have K0 := BlkAt.new w (sagaArr s) 25
  have HT := Lib.hid (ht.below hb1)
  have HL := Lib.hid (hl.below hb1)
  have HS := Lib.hid (hs.below hb1)
  have HB1 := Lib.hid hb1
  have HS0 := Lib.hid hs
  have HT0 := Lib.hid ht
  have HL0 := Lib.hid hl
  have hsph : s.phase = D.phase := by rw [hs.eq]
  have HPH := Lib.hid hsph
  clear ht hl hs hb1 hsph
  dsimp only [SagaV.val, Sl.v, sagaArr] at K0 HT HL HS HB1
  dsimp only [SagaV.val, Sl.v]
  go_enter Tryd.func6, Tryd.ntmps6
  go_wp2_with fail
  obtain ⟨w1, hw1⟩ : ∃ x, w.alloc (.cells #[.int .i64 s.id, .string s.name, .int .i64 s.count, .int .i64 s.pivot, .int .i64 s.begun, .int .i64 s.at_, .slice s.input.a s.input.n s.input.c, .int .i64 s.phase, .int .i64 s.next, .bool s.flight, .int .i64 s.tries, .slice s.outs.a s.outs.n s.outs.c, .slice s.undos.a s.undos.n s.undos.c, .int .i64 s.failStep, .int .i64 s.failCode, .slice s.fail.a s.fail.n s.fail.c] 25) = x := ⟨_, rfl⟩
  have hs1 : w1.heap.size = w.heap.size + 1 := by rw [← hw1]; simp
  rw [hw1] at K0 HT HL HS HB1
  rw [hw1]
  clear hw1
  have hl0 : w.heap.size < w1.heap.size := by omega
  refine (first_any w1).mono ?_
  rintro e w2 ⟨t, u, rfl, bt, bu, hb⟩
  have HX := Lib.hid hb
  have HU := Lib.hid bu
  have HF := Lib.hid bt
  clear hb bt bu
  dsimp only [RecD.words, SagaD.words, RecV.val, SagaV.val, firstR, firstD, nilSl, Sl.v]
  go_wp2_with fail
  have KF : BlkAt ((w2.alloc (.cells (recArr (firstR.words t)) 27)).alloc (.cells (sagaArr (firstD.words u nilSl nilSl nilSl)) 25)) (w2.heap.size + 1) (sagaArr (firstD.words u nilSl nilSl nilSl)) 25 := by
    have := BlkAt.new (w2.alloc (.cells (recArr (firstR.words t)) 27)) (sagaArr (firstD.words u nilSl nilSl nilSl)) 25
    rwa [World.size_alloc] at this
  have HX2 := Lib.hid (boxd (o := .cells (sagaArr (firstD.words u nilSl nilSl nilSl)) 25) (boxd (o := .cells (recArr (firstR.words t)) 27) HX.out))
  have HU2 := Lib.hid (HU.out.below (boxd (o := .cells (sagaArr (firstD.words u nilSl nilSl nilSl)) 25) (boxd (o := .cells (recArr (firstR.words t)) 27) (Below.refl _ _))))
  have HF2 := Lib.hid (HF.out.below (boxd (o := .cells (sagaArr (firstD.words u nilSl nilSl nilSl)) 25) (boxd (o := .cells (recArr (firstR.words t)) 27) (Below.refl _ _))))
  clear HX HU HF
  dsimp only [RecD.words, SagaD.words, recArr, sagaArr, firstR, firstD, nilSl, Sl.v] at KF HX2 HU2 HF2
  obtain ⟨w3, hw3⟩ : ∃ x, (w2.alloc (.cells #[.int .i64 3, .int .i64 1, .int .i64 7, .int .i64 0, .int .i64 0, .int .i64 5, .int .i64 0, .int .i64 0, .int .i64 2, .int .i64 1, .string ⟨#[98, 117, 121]⟩, .slice t.a t.n t.c] 27)).alloc (.cells #[.int .i64 7, .string ⟨#[98, 117, 121]⟩, .int .i64 2, .int .i64 1, .int .i64 5, .int .i64 5, .slice u.a u.n u.c, .int .i64 1, .int .i64 0, .bool false, .int .i64 0, .slice none 0 0, .slice none 0 0, .int .i64 0, .int .i64 0, .slice none 0 0] 25) = x := ⟨_, rfl⟩
  have hs3 : w3.heap.size = w2.heap.size + 2 := by rw [← hw3]; simp
  rw [hw3] at KF HX2 HU2 HF2
  rw [hw3]
  clear hw3
  have hlF : w2.heap.size + 1 < w3.heap.size := by omega
  refine (begin_first_any t w3 (HT.out.below HX2.out) HF2.out).mono ?_
  rintro e w4 ⟨z, rfl, rz, hb⟩
  have HX4 := Lib.hid (boxd (o := .cells (sagaArr z) 25) (then_ HX2.out hb))
  have KF4 := (KF.below hb hlF).push (.cells (sagaArr z) 25)
  have KZ4 := BlkAt.new w4 (sagaArr z) 25
  have HZ4 := Lib.hid (rz.below (boxd (o := .cells (sagaArr z) 25) (Below.refl _ _)))
  have HU4 := Lib.hid ((HU2.out.below hb).below (boxd (o := .cells (sagaArr z) 25) (Below.refl _ _)))
  have h34 := hb.size
  clear hb rz HX2 HU2 HF2 KF
  dsimp only [SagaV.val, sagaArr, Sl.v] at HX4 KF4 KZ4 HZ4 HU4
  dsimp only [SagaV.val, Sl.v]
  go_wp2_with fail
  obtain ⟨w5, hw5⟩ : ∃ x, w4.alloc (.cells #[.int .i64 z.id, .string z.name, .int .i64 z.count, .int .i64 z.pivot, .int .i64 z.begun, .int .i64 z.at_, .slice z.input.a z.input.n z.input.c, .int .i64 z.phase, .int .i64 z.next, .bool z.flight, .int .i64 z.tries, .slice z.outs.a z.outs.n z.outs.c, .slice z.undos.a z.undos.n z.undos.c, .int .i64 z.failStep, .int .i64 z.failCode, .slice z.fail.a z.fail.n z.fail.c] 25) = x := ⟨_, rfl⟩
  have hs5 : w5.heap.size = w4.heap.size + 1 := by rw [← hw5]; simp
  rw [hw5] at HX4 KF4 KZ4 HZ4 HU4
  rw [hw5]
  clear hw5
  have cH := happy_any z firstD w5 (HT.out.tabs.below HX4.out) HZ4.out fits_first good_first (.inl rfl)
  rw [happy_first] at cH
  refine cH.mono ?_
  rintro e w6 ⟨rfl, hb⟩
  have HX6 := Lib.hid (boxd (o := .cells (recArr ((⟨3, 2, 7, 0, 1, 9, 0, 0, 0, 0, ⟨#[]⟩, []⟩ : RecD).words nilSl)) 27) (then_ HX4.out hb))
  have HY6 := Lib.hid (boxd (o := .cells (recArr ((⟨3, 2, 7, 0, 1, 9, 0, 0, 0, 0, ⟨#[]⟩, []⟩ : RecD).words nilSl)) 27) hb)
  have hP0 : w.heap.size ≤ w6.heap.size := by have := HX6.out.size; simp only [World.size_alloc] at this; omega
  have KR6 := BlkAt.new w6 (recArr ((⟨3, 2, 7, 0, 1, 9, 0, 0, 0, 0, ⟨#[]⟩, []⟩ : RecD).words nilSl)) 27
  have h56 := hb.size
  clear hb cH HX4
  dsimp only [RecD.words, recArr, nilSl, Sl.v] at HX6 HY6 KR6
  dsimp only [RecD.words, RecV.val, nilSl, Sl.v]
  have hlZ : w4.heap.size < w5.heap.size := by omega
  have hlF5 : w2.heap.size + 1 < w5.heap.size := by omega
  go_wp2_with (first
    | (refine wpList_load_blk_g rfl _ _ rfl _ rfl _ _ (BlkAt.below KZ4 HY6.out hlZ) rowSaga ?_)
    | (refine wpList_load_blk_g rfl _ _ rfl _ rfl _ _ (BlkAt.below KF4 HY6.out hlF5) rowSaga ?_)
    | (go_at_call 14; (with_reducible refine (num_any _ _).mono ?_); rintro e w7 ⟨rfl, rfl⟩))
  have cS := same_any z (firstD.words u nilSl nilSl nilSl) firstD firstD _ (HZ4.out.below HY6.out) (first_rd (HU4.out.below HY6.out))
  rw [sameB_refl] at cS
  refine cS.mono ?_
  rintro e w8 ⟨rfl, hb⟩
  have HX8 := Lib.hid (then_ HX6.out hb)
  have KR8 := BlkAt.below KR6 hb (by simp)
  have r1 := KR8.cell 1
  simp only [List.getElem?_toArray, List.getElem?_cons_zero, List.getElem?_cons_succ] at r1
  have h68 := hb.size
  simp only [World.size_alloc] at h68
  clear hb cS HX6 HY6 KZ4 KF4 HZ4 HU4 KR6
  go_wp2_with (refine wpList_load_blk rfl _ _ rfl _ rfl _ _ (BlkAt.below K0 HX8.out hl0) rowSaga ?_)
  refine (sagaCheck_rd s D _ (HT.out.tabs.below HX8.out) (HS.out.below HX8.out) fs).mono ?_
  rintro e w9 ⟨rfl, hb⟩
  have HX9 := Lib.hid (then_ HX8.out hb)
  have KR9 := KR8.below hb (by omega)
  have h89 := hb.size
  clear hb r1 KR8 HX8
  obtain ⟨E, hE⟩ : ∃ x, checkD D = x := ⟨_, rfl⟩
  rw [hE]
  by_cases h0 : E = 0
  · subst h0
    have hg := (checkD_iff D).1 hE
    by_cases hp : D.phase = 3 ∨ D.phase = 4
    · have hf : finishedD D = true := by unfold finishedD; simp [hE, hp]
      have ha : allowedD D = [] := by unfold allowedD; rw [if_pos (.inr hp)]
      have cA := fun w (ht : Tabs w) (hs : SagaRd w s D) => allowed_any s D w ht hs fs
      rw [ha] at cA
      have CA2 := Lib.hid cA
      have cF := finished_any s D _ (HT.out.tabs.below HX9.out) (HS.out.below HX9.out) fs
      rw [hf] at cF
      have CF := Lib.hid cF
      clear cA cF ha hf hE hp
      go_wp2_with (first
        | (refine wpList_load_blk_g rfl _ _ rfl _ rfl _ _ (BlkAt.below K0 HX9.out hl0) rowSaga ?_)
        | (go_at_call 14; (with_reducible refine (num_any _ _).mono ?_); rintro e w10 ⟨rfl, rfl⟩))
      refine CF.out.mono ?_
      rintro e w10 ⟨rfl, hb⟩
      have HX10 := Lib.hid (then_ HX9.out hb)
      have CA := Lib.hid (CA2.out _ (HT.out.tabs.below HX10.out) (HS.out.below HX10.out))
      clear hb HX9 CF CA2
      have HX9 := HX10
      clear HX10
      go_wp2_with (refine wpList_load_blk rfl _ _ rfl _ rfl _ _ (BlkAt.below K0 HX9.out hl0) rowSaga ?_)
      refine CA.out.mono ?_
      rintro e w10 ⟨v, rfl, ho, hb⟩
      obtain ⟨⟨a, n, c⟩, rfl, hi⟩ := ho.at (by decide)
      have hlen := hi.len
      simp only [List.length_nil] at hlen
      subst hlen
      have HXZ := Lib.hid (then_ HB1.out (then_ HX9.out hb))
      clear ho hb hi CA
      dsimp only [Sl.v]
      go_wp2
      all_goals go_ret
      all_goals exact ⟨ret_bool (by simp), HXZ.out⟩
    · have hf : finishedD D = false := by unfold finishedD; simp [hp]
      have hp12 : D.phase = 1 ∨ D.phase = 2 := by have := hg.plain.phase1; have := hg.plain.phase4; omega
      have cF := finished_any s D _ (HT.out.tabs.below HX9.out) (HS.out.below HX9.out) fs
      rw [hf] at cF
      have CF := Lib.hid cF
      have hc1 := hg.plain.count1
      have hc32 := hg.plain.count32
      have hl0' := (left_pos hg hp12).2
      have HP12 := Lib.hid hp12
      have HG := Lib.hid hg
      have HLEFT := Lib.hid hl0'
      clear cF hf hE hp hp12 hg hl0'
      go_wp2_with (first
        | (refine wpList_load_blk_g rfl _ _ rfl _ rfl _ _ (BlkAt.below K0 HX9.out hl0) rowSaga ?_)
        | (go_at_call 14; (with_reducible refine (num_any _ _).mono ?_); rintro e w10 ⟨rfl, rfl⟩))
      refine CF.out.mono ?_
      rintro e w10 ⟨rfl, hb⟩
      have HX10 := Lib.hid (then_ HX9.out hb)
      have K10 := BlkAt.below K0 HX10.out hl0
      have KR10 := KR9.below hb (by omega)
      have b7 := K10.cell 7
      simp only [List.getElem?_toArray, List.getElem?_cons_zero, List.getElem?_cons_succ] at b7
      have hAt : At w w10 w.heap.size w6.heap.size D 0 s D := ⟨K10, ⟨_, KR10, rfl⟩, .inl HS0.out, HG.out, rfl, rfl, rfl, by have := HLEFT.out; simpa using this, then_ HB1.out HX10.out⟩
      have HAT := Lib.hid hAt
      clear hb HX9 CF KR9 K0 K10 KR10 HT HS hAt HLEFT HG HX10 HL
      go_wp2
      go_loopw [6, 8, 11] (fun e6 t8 i wr => ∃ (j : Nat) (s' : SagaV) (D' : SagaD), e6 = .int .i64 0 ∧ t8 = .bool true ∧ i = .int .i64 j ∧ Hid (At w wr w.heap.size w6.heap.size D j s' D')) (fun _ _ i _ => 70 - (intOf i).toNat)
      case atStart => exact ⟨0, s, D, rfl, rfl, rfl, HAT⟩
      case round =>
        obtain ⟨j, s', D', rfl, rfl, rfl, HA⟩ := hrel
        have A := HA.out
        have hg' := A.good
        have hp' : D'.phase = 1 ∨ D'.phase = 2 := by rw [A.phase]; exact HP12.out
        have hH := happy_step hg' hp'
        have hl1 := (left_pos hg' hp').1
        have hl2 := A.left
        have hj1 : (j : Int) < 2 * D.count + 1 := by omega
        have e2 : s'.count = D.count := by rw [A.rd.eq]; exact A.count
        have b2 := A.blk.cell 2
        simp only [sagaArr, List.getElem?_toArray, List.getElem?_cons_zero, List.getElem?_cons_succ] at b2
        rw [e2] at b2
        have hA := Lib.hid A
        have ffit : SagaFits D' := by
          obtain ⟨q1, q2, q3⟩ := hg'.fits (by rw [A.name]; exact fs.name)
          exact ⟨q1, q2, q3⟩
        have cH := happy_any s' D' wr (HT0.out.tabs.below A.below) (A.rd.rd A.below hg') ffit hg' hp'
        obtain ⟨R, hR⟩ : ∃ x, happyR D' = x := ⟨_, rfl⟩
        have hRd : R.data = [] := by rw [← hR]; rfl
        have hRn : R.name = ⟨#[]⟩ := by rw [← hR]; rfl
        rw [hR] at cH
        have hN := hH.ok
        have hgd := hH.good
        have hnx := hH.next
        have hkp := hH.kept
        rw [hR] at hN hgd hnx hkp
        obtain ⟨D2, hD2⟩ : ∃ x, applyD D' R = x := ⟨_, rfl⟩
        rw [hD2] at hgd hnx hkp
        obtain ⟨cs, kr, hcs⟩ := A.recb
        have kb := A.blk
        have hne : w.heap.size ≠ w6.heap.size := by
          intro e'
          have h1 : wr.heap[w.heap.size]? = _ := kb
          rw [e', show wr.heap[w6.heap.size]? = _ from kr] at h1
          simp at h1
        have hltH := (Array.getElem?_eq_some_iff.1 kb).1
        have hltP := (Array.getElem?_eq_some_iff.1 kr).1
        have CH := Lib.hid cH
        have HPK := Lib.hid hp'
        have HNX := Lib.hid hnx
        have HGD := Lib.hid hgd
        have HKP := Lib.hid hkp
        have HN := Lib.hid hN
        have HD2 := Lib.hid hD2
        have HRD := Lib.hid hRd
        have HRN := Lib.hid hRn
        have HFF := Lib.hid ffit
        clear A hg' hp' hH hl1 hl2 e2 cH hR hRd hRn hN hgd hnx hkp hD2 ffit HA
        dsimp only [sagaArr, Sl.v] at kb
        dsimp only [RecV.val, RecD.words, nilSl, Sl.v] at CH
        go_wp2_with (refine wpList_load_blk rfl _ _ rfl _ rfl _ _ kb rowSaga ?_)
        refine CH.out.mono ?_
        rintro e w11 ⟨rfl, hb⟩
        have KS11 := kb.below hb hltH
        have KR11 := kr.below hb hltP
        have HB11 := Lib.hid hb
        clear hb CH kb kr b2
        go_wp2_with (first
          | (refine wpList_store_blk rfl _ _ _ rfl _ rfl _ rfl _ _ KR11 hcs (by simp [Value.oneCell']) rowRec ?_; intro w12 hw12 KR12; have KS12 := hw12.blk KS11 hne)
          | (refine wpList_load_blk rfl _ _ rfl _ rfl _ _ KS12 rowSaga ?_)
          | (refine wpList_load_blk rfl _ _ rfl _ rfl _ _ KR12 rowRec ?_))
        have rd12 : Rd2 w w12 s' D' := (hA.out.rd.through HB11.out).wrote hw12 KR11 (by decide) (by decide)
        have bl12 : Below w.heap.size w w12 := hw12.below (then_ hA.out.below HB11.out) (by omega)
        have cA := apply_any s' D' (R.words nilSl) R w12 (HT0.out.below bl12) (HL0.out.below bl12) (rd12.rd bl12 hA.out.good) ⟨rfl, by rw [HRD.out]; exact RowAt.nil _ _ _ (fun _ => rfl)⟩ HFF.out ⟨by rw [HRN.out]; decide, by rw [HRD.out]; decide⟩
        rw [HN.out, HD2.out] at cA
        refine cA.mono ?_
        rintro e w13 ⟨s2, rfl, ho, hb⟩
        have KS13 := KS12.below hb (Array.getElem?_eq_some_iff.1 KS12).1
        have KR13 := KR12.below hb (Array.getElem?_eq_some_iff.1 KR12).1
        have HB13 := Lib.hid (then_ bl12 hb)
        have HO13 := Lib.hid (ho.lower (c := w.heap.size) bl12.size)
        clear ho hb cA rd12 bl12 KS12 KR12 KS11 KR11 HB11
        dsimp only [SagaV.val, Sl.v]
        have hgd2 := HGD.out
        have ffit2 : SagaFits D2 := by
          obtain ⟨q1, q2, q3⟩ := hgd2.fits (by rw [HKP.out.name, hA.out.name]; exact fs.name)
          exact ⟨q1, q2, q3⟩
        have F2 := Lib.hid ffit2
        clear hgd2 ffit2
        rcases HNX.out with hq | ⟨hq1, hq2⟩
        · have hfin : finishedD D2 = true := by
            unfold finishedD
            have h1 := (checkD_iff D2).2 HGD.out
            have h2 : D2.phase = 3 ∨ D2.phase = 4 := by rcases HPK.out with h | h <;> rw [h] at hq <;> omega
            simp [h1, h2]
          have hph : 1 ≤ s.phase ∧ s.phase ≤ 2 := by rw [HPH.out]; rcases HP12.out with h | h <;> rw [h] <;> decide
          obtain ⟨hph1, hph2⟩ := hph
          have HFIN := Lib.hid hfin
          have HQ := Lib.hid hq
          clear hfin hq
          go_wp2_with (first
            | (refine wpList_store_blk rfl _ _ _ rfl _ rfl _ rfl _ _ KS13 (by rfl) (by simp [Value.oneCell']) rowSaga ?_; intro w14 hw14 KS14)
            | (refine wpList_load_blk rfl _ _ rfl _ rfl _ _ KS14 rowSaga ?_)
            | (go_at_call 14; (with_reducible refine (num_keep _ _).mono ?_); rintro e w15 ⟨rfl, rfl⟩))
          have bl14 : Below w.heap.size w w14 := hw14.below HB13.out (Nat.le_refl _)
          have own14 := HO13.out.keep (hw14.rows KS13 (by decide) (by decide))
          have cF := finished_any s2 D2 w14 (HT0.out.tabs.below bl14) (own14.rd HGD.out.small) F2.out
          rw [HFIN.out] at cF
          have hsp : s2.phase = s.phase + 2 := by rw [own14.eq]; show D2.phase = _; rw [HQ.out, hA.out.phase, HPH.out]
          have HSP := Lib.hid hsp
          refine cF.mono ?_
          rintro e w15 ⟨rfl, hb⟩
          have KS15 := KS14.below hb (Array.getElem?_eq_some_iff.1 KS14).1
          have g7 := KS15.cell 7
          simp only [List.getElem?_toArray, List.getElem?_cons_zero, List.getElem?_cons_succ] at g7
          have HB15 := Lib.hid (then_ bl14 hb)
          clear hb cF own14 bl14 hsp
          go_wp2
          all_goals go_ret
          all_goals exact ⟨ret_bool (by rw [HSP.out]; simp), HB15.out⟩
        · have hfin : finishedD D2 = false := by
            unfold finishedD
            have h2 : ¬ (D2.phase = 3 ∨ D2.phase = 4) := by rw [hq1]; rcases HPK.out with h | h <;> rw [h] <;> omega
            simp [h2]
          have HFIN := Lib.hid hfin
          have HQ1 := Lib.hid hq1
          have HQ2 := Lib.hid hq2
          clear hfin hq1 hq2
          go_wp2_with (first
            | (refine wpList_store_blk rfl _ _ _ rfl _ rfl _ rfl _ _ KS13 (by rfl) (by simp [Value.oneCell']) rowSaga ?_; intro w14 hw14 KS14)
            | (refine wpList_load_blk rfl _ _ rfl _ rfl _ _ KS14 rowSaga ?_)
            | (go_at_call 14; (with_reducible refine (num_keep _ _).mono ?_); rintro e w15 ⟨rfl, rfl⟩))
          have bl14 : Below w.heap.size w w14 := hw14.below HB13.out (Nat.le_refl _)
          have own14 := HO13.out.keep (hw14.rows KS13 (by decide) (by decide))
          have KR14 := hw14.blk KR13 hne.symm
          have cF := finished_any s2 D2 w14 (HT0.out.tabs.below bl14) (own14.rd HGD.out.small) F2.out
          rw [HFIN.out] at cF
          refine cF.mono ?_
          rintro e w15 ⟨rfl, hb⟩
          have hAt : At w w15 w.heap.size w6.heap.size D (j + 1) s2 D2 := ⟨KS14.below hb (Array.getElem?_eq_some_iff.1 KS14).1, ⟨_, KR14.below hb (Array.getElem?_eq_some_iff.1 KR14).1, rfl⟩, .inr (own14.through hb), HGD.out, by rw [HKP.out.name, hA.out.name], by rw [HKP.out.count, hA.out.count], by rw [HQ1.out, hA.out.phase], by have h1 := HQ2.out; have h2 := hA.out.left; omega, then_ bl14 hb⟩
          have HAT2 := Lib.hid hAt
          clear hb cF own14 bl14 hAt KS13 KR13 KS14 KR14
          go_wp2
          all_goals go_roundw
          case rel => exact ⟨j + 1, s2, D2, rfl, rfl, by go_num, HAT2⟩
          case measure => simp [intOf]; omega
  · have ha : allowedD D = [] := by unfold allowedD; rw [if_pos (.inl (by rw [hE]; exact h0))]
    have h0' : (E != 0) = true := by rw [bne_iff_ne]; exact h0
    have cA := allowed_any s D _ (HT.out.tabs.below HX9.out) (HS.out.below HX9.out) fs
    rw [ha] at cA
    have CA := Lib.hid cA
    clear cA ha hE
    go_wp2_with (first
      | (refine wpList_load_blk rfl _ _ rfl _ rfl _ _ (BlkAt.below K0 HX9.out hl0) rowSaga ?_)
      | (go_at_call 14; (with_reducible refine (num_any _ _).mono ?_); rintro e w10 ⟨rfl, rfl⟩))
    refine CA.out.mono ?_
    rintro e w10 ⟨v, rfl, ho, hb⟩
    obtain ⟨⟨a, n, c⟩, rfl, hi⟩ := ho.at (by decide)
    have hlen := hi.len
    simp only [List.length_nil] at hlen
    subst hlen
    have HXZ := Lib.hid (then_ HB1.out (then_ HX9.out hb))
    clear ho hb hi CA
    dsimp only [Sl.v]
    go_wp2
    all_goals go_ret
    all_goals exact ⟨ret_bool (by simp), HXZ.out⟩
end sagaEnds
end Go.Proofs.YteaiadpigpehaaaDoor
