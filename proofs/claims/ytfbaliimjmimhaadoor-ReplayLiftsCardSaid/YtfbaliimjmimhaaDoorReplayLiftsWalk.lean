/-
  ReplayLifts: the law walked: it answers true. Conditions: the tables, as laid. (Printed by wip/gen_lifts.py.)
-/
import Derived.Test.YtfbaliimjmimhaaDoorLiftSt
import Derived.Deep.DeepCutAuto
import Derived.Deep.CutBlock
namespace Go.Proofs.YtfbaliimjmimhaaDoor.replayLifts
open Go.RowKit

/-- A record in its box, behind lift.Up. -/
structure UpAt (wr wx : World) (B g : Nat) (E : Int) (y : RecV) (X R : RecD) : Prop where
  blk : BlkAt wx g (recArr y) 44
  yes : E = 0 → y = X.words y.data ∧ OwnBytes wx B y.data.v X.data
  no : E ≠ 0 → X = R
  below : Below wr.heap.size wr wx
/-- .. and as the law takes it. -/
structure Took (wr wx : World) (B g : Nat) (y : RecV) (X : RecD) : Prop where
  blk : BlkAt wx g (recArr y) 44
  eq : y = X.words y.data
  own : OwnBytes wx B y.data.v X.data
  below : Below wr.heap.size wr wx
/-- The same once more, beside the rows. -/
structure UpAt2 (w4 wx : World) (B g : Nat) (E : Int) (y : RecV) (X R : RecD) (a b : Value) (As Bs : List RecD) : Prop where
  st : LSt w4 wx B a b As Bs
  blk : BlkAt wx g (recArr y) 44
  yes : E = 0 → y = X.words y.data ∧ OwnBytes wx B y.data.v X.data
  no : E ≠ 0 → X = R
structure Took2 (w4 wx : World) (B g : Nat) (y : RecV) (X : RecD) (a b : Value) (As Bs : List RecD) : Prop where
  st : LSt w4 wx B a b As Bs
  blk : BlkAt wx g (recArr y) 44
  eq : y = X.words y.data
  own : OwnBytes wx B y.data.v X.data
theorem fold_log (s : Sl) (Rs : List RecD) (f : Bag) (k : Nat) (P : Int) (w : World) (ht : Tables w) (hl : LandsAt w) (h : RecsAt w s Rs) (hf : ∀ R ∈ Rs, FoldOk R) (hn : Rs.length ≤ 1048576) (hF : foldB noBag Rs = (f, k)) (hP : (if k = Rs.length then -1 else (k : Int)) = P) :
    Calls Tryd.prog 11 #[.slice s.a s.n s.c] w fun e w' => ∃ (v : Sl) (Ss : List SagaD), e = .returned (.tuple #[.agg #[.int .i64 (k : Nat), .slice v.a v.n v.c], .int .i64 P]) ∧ StAt w' v f Ss ∧ Below w.heap.size w w' := by
  refine (fold_any s Rs w ht hl h hf hn).mono ?_
  have hg := fold_goodBag hf
  rw [hF] at hg ⊢
  rintro e w' ⟨v, Ss, rfl, ho, hs, hb⟩
  rw [← hP]
  exact ⟨v, Ss, rfl, ⟨OwnSagas.sagasAt (v := v) ho (state_good hg hs), hs⟩, hb⟩
set_option maxRecDepth 10000000 in
set_option maxHeartbeats 4000000 in
theorem walk (s : Sl) (Rs : List RecD) (w : World) (tT : Tables w) (tD : LandsAt w) (h : RecsAt w s Rs) (hc : s.n ≤ s.c) (hd : ∀ R ∈ Rs, LawRec R) :
    Calls Tryd.prog 5 #[s.v] w fun e w' => e = .returned (.bool true) ∧ Below w.heap.size w w' := by
  have C1 := Lib.hid (cut16_any s Rs w h hc hd)
  have hok := cut16_ok hd
  have hlen := @cut16_len Rs
  have hn := cutL_len 16385 Rs
  obtain ⟨L, hL⟩ : ∃ q, cutL 16385 Rs = q := ⟨_, rfl⟩
  rw [hL] at C1 hok hlen hn
  obtain ⟨⟨f, k⟩, hF⟩ : ∃ q, foldB noBag L = q := ⟨_, rfl⟩
  obtain ⟨P, hP⟩ : ∃ q : Int, (if k = L.length then -1 else (k : Int)) = q := ⟨_, rfl⟩
  have HT := Lib.hid tT
  have HL := Lib.hid tD
  have HF := Lib.hid hF
  have HOK := Lib.hid hok
  have HLEN := Lib.hid hlen
  have HP := Lib.hid hP
  clear tT tD h hd hL hF hok hlen hP
  dsimp only [Sl.v]
  go_enter Tryd.func5, Tryd.ntmps5
  go_wp2_with fail
  refine C1.out.mono ?_
  rintro e w1 ⟨⟨a1, n1, c1⟩, rfl, hn1, r1, b1⟩
  simp only at hn1
  subst hn1
  have R1 := Lib.hid r1
  have B1 := Lib.hid b1
  clear r1 b1 C1
  dsimp only
  go_wp2_with fail
  refine (awake_any w1 (HT.out.below B1.out) (HL.out.below B1.out)).mono ?_
  rintro e w2 ⟨rfl, b2⟩
  have R2 := Lib.hid (R1.out.below b2)
  have B2 := Lib.hid (then_ B1.out b2)
  clear b2 R1 B1
  have cF := fold_any ⟨a1, L.length, c1⟩ L w2 (HT.out.below B2.out) (HL.out.below B2.out) (R2.out.recsAt HLEN.out) HOK.out (by omega)
  rw [HF.out] at cF
  simp only at cF
  rw [HP.out] at cF
  have CF := Lib.hid cF
  clear cF
  go_wp2_with fail
  refine CF.out.mono ?_
  rintro e w3 ⟨⟨va, vn, vc⟩, Ss, rfl, ho, hso, b3⟩
  dsimp only
  obtain ⟨w4, hw4⟩ : ∃ q, w3.alloc (.cells #[.int .i64 (k : Nat), .slice va vn vc] 27) = q := ⟨_, rfl⟩
  have hbw4 : Below w3.heap.size w3 w4 := by rw [← hw4]; exact boxd (Below.refl _ _)
  have K4 : Hid (BlkAt w4 w3.heap.size #[.int .i64 (k : Nat), .slice va vn vc] 27) := Lib.hid (by rw [← hw4]; exact BlkAt.new _ _ _)
  have HWw4 := Lib.hid hw4
  clear hw4
  have B34 := then_ b3 hbw4
  have hgb := fold_goodBag HOK.out
  rw [HF.out] at hgb
  have S4 : Hid (StAt w4 ⟨va, vn, vc⟩ f Ss) := Lib.hid (StAt.below ⟨OwnSagas.sagasAt (v := ⟨va, vn, vc⟩) ho (state_good hgb hso), hso⟩ hbw4)
  have R4 := Lib.hid (R2.out.below B34)
  have B4 := Lib.hid (then_ B2.out B34)
  clear ho hso b3 hbw4 B34 hgb R2 B2 CF
  obtain ⟨rs, q1, q2, q3, q4, q5⟩ := R4.out
  simp only at q1 q3 q4
  have HA := Lib.hid q4
  have HRA := Lib.hid q5
  have HQ2 := Lib.hid q2
  clear q1 q2 q3 q4 q5
  have hB4 : w.heap.size ≤ w4.heap.size := B4.out.size
  go_upto_region 5 with fail
  rw [HWw4.out]
  clear HWw4
  go_wp2_with fail
  go_loopw [5, 6, 7] (fun tv thv i wr => ∃ j : Nat, i = .int .i64 j ∧ j ≤ L.length ∧ Hid (LSt w4 wr w.heap.size thv tv ((L.take j).map lift3) ((L.take j).map lift2))) (fun _ _ i _ => L.length - (intOf i).toNat)
  case atStart => exact ⟨0, rfl, by omega, Lib.hid ⟨⟨OwnRecs.nil _ _, (fun g e => by cases e), Below.refl _ _⟩, ⟨OwnRecs.nil _ _, (fun g e => by cases e), Below.refl _ _⟩, fun g e => by cases e⟩⟩
  case round =>
    obtain ⟨j, rfl, hj, HS⟩ := hrel
    have BX := Lib.hid HS.out.ra.below
    by_cases hlt : j < L.length
    · obtain ⟨b0, o0, e0, hc0⟩ := HA.out (by omega)
      subst e0
      have ja : j < rs.length := by have := HQ2.out; omega
      have lda := recs_ld' hc0 j ja
      obtain ⟨ra, rb⟩ := HRA.out j ja hlt
      have hokj := HOK.out L[j] (List.getElem_mem hlt)
      have hlenj := HLEN.out L[j] (List.getElem_mem hlt)
      have h3s : (L.take (j + 1)).map lift3 = (L.take j).map lift3 ++ [lift3 L[j]] := by rw [List.take_succ_eq_append_getElem hlt, List.map_append]; rfl
      have h2s : (L.take (j + 1)).map lift2 = (L.take j).map lift2 ++ [lift2 L[j]] := by rw [List.take_succ_eq_append_getElem hlt, List.map_append]; rfl
      have l3 : ((L.take j).map lift3).length = j := by simp; omega
      have l2 : ((L.take j).map lift2).length = j := by simp; omega
      obtain ⟨T3, hT3⟩ : ∃ q, (L.take j).map lift3 = q := ⟨_, rfl⟩
      obtain ⟨T2, hT2⟩ : ∃ q, (L.take j).map lift2 = q := ⟨_, rfl⟩
      rw [hT3] at HS h3s l3
      rw [hT2] at HS h2s l2
      clear hT3 hT2
      obtain ⟨x, hx⟩ : ∃ q, rs[j] = q := ⟨_, rfl⟩
      obtain ⟨R, hR⟩ : ∃ q, L[j] = q := ⟨_, rfl⟩
      rw [hx] at lda ra rb
      rw [hR] at ra rb h3s h2s hokj hlenj
      clear hx hR
      obtain ⟨xd, hxd⟩ : ∃ q, x.data = q := ⟨_, rfl⟩
      rw [hxd] at ra rb
      clear hxd
      subst ra
      obtain ⟨xs, exs, hxb⟩ := rb.at hlenj
      have hxs : xs = xd := by
        obtain ⟨p1, p2, p3⟩ := xs
        obtain ⟨r1, r2, r3⟩ := xd
        simp only [Sl.v, Value.slice.injEq] at exs
        obtain ⟨rfl, rfl, rfl⟩ := exs
        rfl
      subst hxs
      obtain ⟨xd, rfl⟩ : ∃ q : Sl, q = xs := ⟨_, rfl⟩
      have hfit := hokj.fits
      obtain ⟨X3, hX3⟩ : ∃ q, lift3 R = q := ⟨_, rfl⟩
      obtain ⟨X2, hX2⟩ : ∃ q, lift2 R = q := ⟨_, rfl⟩
      have hU3 := fun W (hb : Below w4.heap.size w4 W) => up3_use (R.words xd) R W (HT.out.below (then_ B4.out hb)) ⟨rfl, hxb.below hb⟩ hfit
      have hU2 := fun W (hb : Below w4.heap.size w4 W) => up2_use (R.words xd) R W (HT.out.below (then_ B4.out hb)) ⟨rfl, hxb.below hb⟩ hfit
      rw [hX3] at hU3 h3s
      rw [hX2] at hU2 h2s
      have U3 := Lib.hid hU3
      have U2 := Lib.hid hU2
      have H3S := Lib.hid h3s
      have H2S := Lib.hid h2s
      have L3 := Lib.hid l3
      have L2 := Lib.hid l2
      obtain ⟨ya, hya⟩ : ∃ q, recArr (R.words xd) = q := ⟨_, rfl⟩
      have LDA : Hid (∀ W, Below w4.heap.size w4 W → ∀ q, q < ya.size → W.cell? ⟨b0, o0 + j * 12 + q, none⟩ = ya[q]?) := Lib.hid (by rw [← hya]; exact lda)
      have HYA := Lib.hid hya
      have RB := Lib.hid rb
      dsimp only [recArr, RecD.words, Sl.v] at hya
      subst hya
      clear lda rb hokj hlenj h3s h2s l3 l2 hxb exs hfit hX3 hX2 hU3 hU2 hc0 ja
      obtain ⟨W0, rfl⟩ : ∃ q : World, q = wr := ⟨_, rfl⟩
      have LD0 := Lib.hid (LDA.out W0 BX.out)
      have CU := Lib.hid (U3.out W0 BX.out)
      dsimp only [RecV.val, RecD.words, Sl.v] at CU
      go_upto_region 9 with fail
      go_cut [8, 9] (fun s8 s9 wx => ∃ (g : Nat) (E : Int) (y : RecV), s8 = .pointer (some ⟨g, 0, none⟩) ∧ s9 = .int .i64 E ∧ Hid (UpAt W0 wx w.heap.size g E y X3 R) ∧ W0.heap.size ≤ g)
      case first =>
        go_wp2_with (first | ((with_reducible refine wpList_load_at ?_ _ (.tmp 32) ?_ (b0) (o0 + j * 12) ?_ (_) LD0.out rowRec ?_); rotate_left; exact rfl; exact rfl; rotate_left; exact rfl))
        refine CU.out.mono ?_
        rintro e w5 ⟨E, y, rfl, hy, hno, hb5⟩
        have hg5 : W0.heap.size ≤ w5.heap.size := hb5.size
        have hUA : UpAt W0 (w5.alloc (.cells (recArr y) 44)) w.heap.size w5.heap.size E y X3 R := ⟨BlkAt.new _ _ _, fun k => ⟨(hy k).1, ((hy k).2.lower (b := W0.heap.size) (by have := BX.out.size; omega)).through (boxd (Below.refl _ _))⟩, hno, then_ hb5 (boxd (Below.refl _ _))⟩
        have HUA := Lib.hid hUA
        clear hy hno hb5 hUA CU
        dsimp only [RecV.val, Sl.v, recArr] at HUA ⊢
        go_wp2_with fail
        all_goals go_meet
        all_goals exact ⟨_, E, y, rfl, rfl, HUA, hg5⟩
      case rest =>
      obtain ⟨w5, rfl⟩ : ∃ q : World, q = wc := ⟨_, rfl⟩
      obtain ⟨g, E, y, rfl, rfl, HU, hg⟩ := hcut
      clear CU LD0
      go_upto_if 38 with fail
      go_cut [9] (fun s9 wx => ∃ (y' : RecV), s9 = .int .i64 E ∧ Hid (Took W0 wx w.heap.size g y' X3))
      case first =>
        by_cases hE : E = 0
        · subst hE
          have HTK := Lib.hid (show Took W0 w5 w.heap.size g y X3 from ⟨HU.out.blk, (HU.out.yes rfl).1, (HU.out.yes rfl).2, HU.out.below⟩)
          clear HU LDA RB U3 U2 HYA
          go_wp2_with fail
          all_goals go_meet
          all_goals exact ⟨y, rfl, HTK⟩
        · have hEb : (E != 0) = true := by rw [bne_iff_ne]; exact hE
          have hx := HU.out.no hE
          subst hx
          have KG := Lib.hid HU.out.blk
          have B45 := then_ BX.out HU.out.below
          have LD5 := Lib.hid (LDA.out w5 B45)
          have RB5 := Lib.hid (RB.out.through B45)
          have BU := Lib.hid HU.out.below
          clear HU LDA RB U3 U2 B45 hE
          go_wp2_with (first
            | ((with_reducible refine wpList_load_at ?_ _ (.tmp 41) ?_ (b0) (o0 + j * 12) ?_ (_) LD5.out rowRec ?_); rotate_left; exact rfl; exact rfl; rotate_left; exact rfl)
            | ((with_reducible refine wpList_store_blk ?_ _ (.tmp 8) (.tmp 42) ?_ (g) ?_ (#[.int .i64 X3.v, .int .i64 X3.kind, .int .i64 X3.saga, .int .i64 X3.step, .int .i64 X3.try_, .int .i64 X3.at_, .int .i64 X3.last, .int .i64 X3.code, .int .i64 X3.count, .int .i64 X3.pivot, .string X3.name, .slice xd.a xd.n xd.c]) ?_ _ _ KG.out ?_ ?_ rowRec ?_); rotate_left; exact rfl; exact rfl; exact rfl; exact rfl; (simp [Value.oneCell']); rotate_left; exact rfl; intro w6 hw6 KG6))
          have HTK := Lib.hid (show Took W0 w6 w.heap.size g (X3.words xd) X3 from ⟨by rw [HYA.out]; exact KG6, rfl, RB5.out.keep (hw6.rows KG.out (by decide) (by decide)), hw6.below BU.out hg⟩)
          clear hw6 KG6 KG LD5 RB5 BU
          all_goals go_meet
          all_goals exact ⟨_, rfl, HTK⟩
      case rest =>
      obtain ⟨w6, rfl⟩ : ∃ q : World, q = wc := ⟨_, rfl⟩
      obtain ⟨y, rfl, HK⟩ := hcut
      clear HU
      have HS6 := Lib.hid (HS.out.call HK.out.below)
      have NG3 := Lib.hid (HS.out.ra.ne hg)
      have NG2 := Lib.hid (HS.out.rb.ne hg)
      obtain ⟨ya, hya⟩ : ∃ q, recArr y = q := ⟨_, rfl⟩
      have KY : Hid (BlkAt w6 g ya 44) := Lib.hid (by rw [← hya]; exact HK.out.blk)
      have HRY : Hid (LSt w4 (w6.alloc (.cells ya 44)) w.heap.size _ _ T3 T2) := Lib.hid (HS6.out.call (boxd (Below.refl _ _)))
      have RIY : Hid (RecsIn (w6.alloc (.cells ya 44)) w.heap.size ⟨some ⟨w6.heap.size, 0, none⟩, 1, 1⟩ [X3]) := Lib.hid (by rw [← hya]; exact RecsIn.one (r := y) (BlkAt.new _ _ _) HK.out.eq (HK.out.own.through (boxd (Below.refl _ _))))
      have KYP := Lib.hid (KY.out.push (.cells ya 44))
      have hgl := blk_lt KY.out
      have hsz : w.heap.size ≤ w6.heap.size := by have := HS6.out.ra.below.size; omega
      dsimp only [recArr, Sl.v] at hya
      subst hya
      clear HS HK HS6
      go_upto_region 13 with (first
        | ((with_reducible refine wpList_load_blk ?_ _ (.tmp 8) ?_ (g) ?_ 44 (_) KY.out rowRec ?_); rotate_left; exact rfl; exact rfl; rotate_left; exact rfl)
        | (at_builtin; refine wpList_append_recs _ rfl (.tmp 43) (.tmp 45) rfl w.heap.size _ _ rfl HRY.out.ra.own ⟨some ⟨w6.heap.size, 0, none⟩, 1, 1⟩ [X3] rfl RIY.out ?c1 ?c2 ?_))
      case c1 => rw [L3.out, List.length_singleton]; omega
      case c2 => rw [World.size_alloc]; omega
      intro v7 w7 hown hgr hat hn7
      have HS7 := Lib.hid (HRY.out.grow hown hgr (by simp) hat)
      have KG7 := Lib.hid (HRY.out.blk hgr KYP.out NG3.out)
      have NG7 : Hid (v7.v.ownBlock ≠ some g) := Lib.hid (fun e => by
        rcases hat with k | k
        · rw [k] at e; exact NG3.out e
        · rw [k] at e; cases e; omega)
      clear hown hgr hat hn7 HRY RIY KY KYP NG3
      obtain ⟨v7a, v7n, v7c⟩ := v7
      dsimp only [Sl.v] at HS7 NG7 ⊢
      have B7 := HS7.out.ra.below
      have LD7 := Lib.hid (LDA.out w7 B7)
      have CU2 := Lib.hid (U2.out w7 B7)
      have h47 : w4.heap.size ≤ w7.heap.size := B7.size
      have hg4 : w4.heap.size ≤ g := Nat.le_trans BX.out.size hg
      dsimp only [RecV.val, RecD.words, Sl.v] at CU2
      clear B7
      go_upto_region 13 with fail
      go_cut [9] (fun s9 wx => ∃ (E2 : Int) (y2 : RecV), s9 = .int .i64 E2 ∧ Hid (UpAt2 w4 wx w.heap.size g E2 y2 X2 R (.slice v7a v7n v7c) u5 (T3 ++ [X3]) T2))
      case first =>
        go_wp2_with (first | ((with_reducible refine wpList_load_at ?_ _ (.tmp 50) ?_ (b0) (o0 + j * 12) ?_ (_) LD7.out rowRec ?_); rotate_left; exact rfl; exact rfl; rotate_left; exact rfl))
        refine CU2.out.mono ?_
        rintro e w8 ⟨E2, y2, rfl, hy, hno, hb8⟩
        have KG8 := Lib.hid (KG7.out.below hb8 (blk_lt KG7.out))
        have HS8 := Lib.hid (HS7.out.call hb8)
        have HY := Lib.hid hy
        have HNO := Lib.hid hno
        clear hy hno hb8 CU2 KG7 HS7
        dsimp only [RecV.val, Sl.v]
        go_wp2_with (first
          | ((with_reducible refine wpList_store_blk ?_ _ (.tmp 8) (.tmp 53) ?_ (g) ?_ (#[.int .i64 y2.v, .int .i64 y2.kind, .int .i64 y2.saga, .int .i64 y2.step, .int .i64 y2.try_, .int .i64 y2.at_, .int .i64 y2.last, .int .i64 y2.code, .int .i64 y2.count, .int .i64 y2.pivot, .string y2.name, .slice y2.data.a y2.data.n y2.data.c]) ?_ _ _ KG8.out ?_ ?_ rowRec ?_); rotate_left; exact rfl; exact rfl; exact rfl; exact rfl; (simp [Value.oneCell']); rotate_left; exact rfl; intro w9 hw9 KG9))
        have HUA := Lib.hid (show UpAt2 w4 w9 w.heap.size g E2 y2 X2 R (.slice v7a v7n v7c) u5 (T3 ++ [X3]) T2 from ⟨HS8.out.wrote hw9 KG8.out (by decide) (by decide) NG7.out NG2.out hg4, KG9, fun k => ⟨(HY.out k).1, ((HY.out k).2.lower (b := w7.heap.size) (by omega)).keep (hw9.rows KG8.out (by decide) (by decide))⟩, HNO.out⟩)
        clear hw9 KG9 HY HNO HS8 KG8
        go_wp2_with fail
        all_goals go_meet
        all_goals exact ⟨E2, y2, rfl, HUA⟩
      case rest =>
      obtain ⟨w9, rfl⟩ : ∃ q : World, q = wc := ⟨_, rfl⟩
      obtain ⟨E2, y2, rfl, HU2⟩ := hcut
      clear CU2 LD7 HS7 KG7
      go_upto_if 56 with fail
      go_cut [9] (fun s9 wx => ∃ (y' : RecV), s9 = .int .i64 E2 ∧ Hid (Took2 w4 wx w.heap.size g y' X2 (.slice v7a v7n v7c) u5 (T3 ++ [X3]) T2))
      case first =>
        by_cases hE : E2 = 0
        · subst hE
          have HTK := Lib.hid (show Took2 w4 w9 w.heap.size g y2 X2 (.slice v7a v7n v7c) u5 (T3 ++ [X3]) T2 from ⟨HU2.out.st, HU2.out.blk, (HU2.out.yes rfl).1, (HU2.out.yes rfl).2⟩)
          clear HU2 LDA RB U3 U2 HYA
          go_wp2_with fail
          all_goals go_meet
          all_goals exact ⟨y2, rfl, HTK⟩
        · have hEb : (E2 != 0) = true := by rw [bne_iff_ne]; exact hE
          have hx := HU2.out.no hE
          subst hx
          have KG := Lib.hid HU2.out.blk
          have ST9 := Lib.hid HU2.out.st
          have B49 := HU2.out.st.ra.below
          have LD9 := Lib.hid (LDA.out w9 B49)
          have RB9 := Lib.hid (RB.out.through B49)
          clear HU2 LDA RB U3 U2 B49 hE
          go_wp2_with (first
            | ((with_reducible refine wpList_load_at ?_ _ (.tmp 59) ?_ (b0) (o0 + j * 12) ?_ (_) LD9.out rowRec ?_); rotate_left; exact rfl; exact rfl; rotate_left; exact rfl)
            | ((with_reducible refine wpList_store_blk ?_ _ (.tmp 8) (.tmp 60) ?_ (g) ?_ (#[.int .i64 X2.v, .int .i64 X2.kind, .int .i64 X2.saga, .int .i64 X2.step, .int .i64 X2.try_, .int .i64 X2.at_, .int .i64 X2.last, .int .i64 X2.code, .int .i64 X2.count, .int .i64 X2.pivot, .string X2.name, .slice xd.a xd.n xd.c]) ?_ _ _ KG.out ?_ ?_ rowRec ?_); rotate_left; exact rfl; exact rfl; exact rfl; exact rfl; (simp [Value.oneCell']); rotate_left; exact rfl; intro w10 hw10 KG10))
          have HTK := Lib.hid (show Took2 w4 w10 w.heap.size g (X2.words xd) X2 (.slice v7a v7n v7c) u5 (T3 ++ [X3]) T2 from ⟨ST9.out.wrote hw10 KG.out (by decide) (by decide) NG7.out NG2.out hg4, by rw [HYA.out]; exact KG10, rfl, RB9.out.keep (hw10.rows KG.out (by decide) (by decide))⟩)
          clear hw10 KG10 KG LD9 RB9 ST9
          go_wp2_with fail
          all_goals go_meet
          all_goals exact ⟨_, rfl, HTK⟩
      case rest =>
      obtain ⟨w10, rfl⟩ : ∃ q : World, q = wc := ⟨_, rfl⟩
      obtain ⟨y2, rfl, HK2⟩ := hcut
      clear HU2
      obtain ⟨ya, hya⟩ : ∃ q, recArr y2 = q := ⟨_, rfl⟩
      have KY : Hid (BlkAt w10 g ya 44) := Lib.hid (by rw [← hya]; exact HK2.out.blk)
      have HRY : Hid (LSt w4 (w10.alloc (.cells ya 44)) w.heap.size _ _ T2 (T3 ++ [X3])) := Lib.hid (HK2.out.st.call (boxd (Below.refl _ _))).swap
      have RIY : Hid (RecsIn (w10.alloc (.cells ya 44)) w.heap.size ⟨some ⟨w10.heap.size, 0, none⟩, 1, 1⟩ [X2]) := Lib.hid (by rw [← hya]; exact RecsIn.one (r := y2) (BlkAt.new _ _ _) HK2.out.eq (HK2.out.own.through (boxd (Below.refl _ _))))
      have hsz2 : w.heap.size ≤ w10.heap.size := by have := HK2.out.st.ra.below.size; omega
      dsimp only [recArr, Sl.v] at hya
      subst hya
      clear HK2
      go_wp2_with (first
        | ((with_reducible refine wpList_load_blk ?_ _ (.tmp 8) ?_ (g) ?_ 44 (_) KY.out rowRec ?_); rotate_left; exact rfl; exact rfl; rotate_left; exact rfl)
        | (at_builtin; refine wpList_append_recs _ rfl (.tmp 61) (.tmp 63) rfl w.heap.size _ _ rfl HRY.out.ra.own ⟨some ⟨w10.heap.size, 0, none⟩, 1, 1⟩ [X2] rfl RIY.out ?c1 ?c2 ?_))
      case c1 => rw [L2.out, List.length_singleton]; omega
      case c2 => rw [World.size_alloc]; omega
      intro v11 w11 hown hgr hat hn11
      have HS11 := Lib.hid (HRY.out.grow hown hgr (by simp) hat).swap
      rw [← H3S.out, ← H2S.out] at HS11
      clear hown hgr hat hn11 HRY RIY KY
      obtain ⟨v11a, v11n, v11c⟩ := v11
      dsimp only [Sl.v] at HS11 ⊢
      go_wp2_with fail
      all_goals go_roundw
      case rel => exact ⟨j + 1, by go_num, by omega, HS11⟩
      case measure => simp [intOf]; omega
    · have hje : j = L.length := by omega
      subst hje
      have h0 := HS.out
      rw [List.take_length] at h0
      have hA := h0.ra.own
      have hB := h0.rb.own
      obtain ⟨⟨la, ln, lc⟩, ea, hla⟩ := hA.sl
      obtain ⟨⟨ma, mn, mc⟩, eb, hlb⟩ := hB.sl
      subst ea eb
      have RA := Lib.hid (OwnRecs.recsIn (v := ⟨la, ln, lc⟩) hA)
      have RBB := Lib.hid (OwnRecs.recsIn (v := ⟨ma, mn, mc⟩) hB)
      have hF3 : foldB noBag (L.map lift3) = (f, k) := (fold_map lift3_same L noBag).trans HF.out
      have hF2 : foldB noBag (L.map lift2) = (f, k) := (fold_map lift2_same L noBag).trans HF.out
      have Bw := Lib.hid (then_ B4.out BX.out)
      have mem3 : ∀ X ∈ L.map lift3, FoldOk X ∧ X.data.length ≤ 9223372036854775807 := fun X hX => by
        obtain ⟨R, hR, rfl⟩ := List.mem_map.1 hX
        exact ⟨lift3_ok (HOK.out R hR), lift3_len (HLEN.out R hR)⟩
      have mem2 : ∀ X ∈ L.map lift2, FoldOk X ∧ X.data.length ≤ 9223372036854775807 := fun X hX => by
        obtain ⟨R, hR, rfl⟩ := List.mem_map.1 hX
        exact ⟨lift2_ok (HOK.out R hR), lift2_len (HLEN.out R hR)⟩
      have M2 := Lib.hid mem2
      have CA := Lib.hid (fold_log ⟨la, ln, lc⟩ (L.map lift3) f k P wr (HT.out.below Bw.out) (HL.out.below Bw.out) (RA.out.recsAt (fun X hX => (mem3 X hX).2)) (fun X hX => (mem3 X hX).1) (by rw [List.length_map]; omega) hF3 (by rw [List.length_map]; exact HP.out))
      have CB := Lib.hid (fun W (hb : Below wr.heap.size wr W) => fold_log ⟨ma, mn, mc⟩ (L.map lift2) f k P W (HT.out.below (then_ Bw.out hb)) (HL.out.below (then_ Bw.out hb)) ((RBB.out.below hb).recsAt (fun X hX => (M2.out X hX).2)) (fun X hX => (M2.out X hX).1) (by rw [List.length_map]; omega) hF2 (by rw [List.length_map]; exact HP.out))
      have K4r := Lib.hid (K4.out.below BX.out (blk_lt K4.out))
      have S4r := Lib.hid (S4.out.below BX.out)
      clear h0 hA hB hla hlb mem3 mem2 hF3 hF2 HS HA HRA HQ2
      dsimp only at CA CB
      dsimp only [Sl.v]
      go_wp2_with fail
      refine CA.out.mono ?_
      rintro e w5 ⟨⟨xa, xn, xc⟩, Us, rfl, st5, b5⟩
      dsimp only
      obtain ⟨w6, hw6⟩ : ∃ q, w5.alloc (.cells #[.int .i64 (k : Nat), .slice xa xn xc] 27) = q := ⟨_, rfl⟩
      have hbw6 : Below w5.heap.size w5 w6 := by rw [← hw6]; exact boxd (Below.refl _ _)
      have K6 : Hid (BlkAt w6 w5.heap.size #[.int .i64 (k : Nat), .slice xa xn xc] 27) := Lib.hid (by rw [← hw6]; exact BlkAt.new _ _ _)
      have HWw6 := Lib.hid hw6
      clear hw6
      have B56 := then_ b5 hbw6
      have hU : Us = Ss := StateOf.unique st5.of S4r.out.of (fun _ => rfl)
      subst hU
      have SA := Lib.hid (st5.below hbw6)
      have S6 := Lib.hid (S4r.out.below B56)
      have K46 := Lib.hid (K4r.out.below B56 (blk_lt K4r.out))
      have BR6 := Lib.hid B56
      clear st5 b5 hbw6 B56 CA S4r K4r
      go_upto_region 18 with fail
      rw [HWw6.out]
      clear HWw6
      go_wp2_with fail
      refine (CB.out w6 BR6.out).mono ?_
      rintro e w7 ⟨⟨za, zn, zc⟩, Vs, rfl, st7, b7⟩
      dsimp only
      obtain ⟨w8, hw8⟩ : ∃ q, w7.alloc (.cells #[.int .i64 (k : Nat), .slice za zn zc] 27) = q := ⟨_, rfl⟩
      have hbw8 : Below w7.heap.size w7 w8 := by rw [← hw8]; exact boxd (Below.refl _ _)
      have K8 : Hid (BlkAt w8 w7.heap.size #[.int .i64 (k : Nat), .slice za zn zc] 27) := Lib.hid (by rw [← hw8]; exact BlkAt.new _ _ _)
      have HWw8 := Lib.hid hw8
      clear hw8
      have B78 := then_ b7 hbw8
      have hV : Vs = Us := StateOf.unique st7.of S6.out.of (fun _ => rfl)
      subst hV
      have SB8 := Lib.hid (st7.below hbw8)
      have SA8 := Lib.hid (SA.out.below B78)
      have S8 := Lib.hid (S6.out.below B78)
      have K48 := Lib.hid (K46.out.below B78 (blk_lt K46.out))
      have K68 := Lib.hid (K6.out.below B78 (blk_lt K6.out))
      have B8w := Lib.hid (then_ (then_ Bw.out BR6.out) B78)
      clear st7 b7 hbw8 B78 SA S6 K46 K6 BR6 CB RA RBB
      have CM := Lib.hid (same_states (k : Int) ⟨xa, xn, xc⟩ ⟨va, vn, vc⟩ Vs w8 SA8.out.at_ S8.out.at_)
      go_upto_region 19 with fail
      rw [HWw8.out]
      clear HWw8
      go_wp2_with (first
        | ((with_reducible refine wpList_load_blk_g ?_ _ (.tmp 10) ?_ (w5.heap.size) ?_ 27 (_) K68.out rowState ?_); rotate_left; exact rfl; exact rfl; rotate_left; kernel_rfl)
        | ((with_reducible refine wpList_load_blk_g ?_ _ (.tmp 3) ?_ (w3.heap.size) ?_ 27 (_) K48.out rowState ?_); rotate_left; exact rfl; exact rfl; rotate_left; kernel_rfl))
      refine CM.out.mono ?_
      rintro e w9 ⟨rfl, b9⟩
      have K49 := Lib.hid (K48.out.below b9 (blk_lt K48.out))
      have K89 := Lib.hid (K8.out.below b9 (blk_lt K8.out))
      have CN := Lib.hid (same_states (k : Int) ⟨za, zn, zc⟩ ⟨va, vn, vc⟩ Vs w9 (SB8.out.below b9).at_ (S8.out.below b9).at_)
      have B9 := Lib.hid (then_ B8w.out b9)
      clear b9 CM K48 K8 K68
      go_wp2_with (first
        | ((with_reducible refine wpList_load_blk_g ?_ _ (.tmp 12) ?_ (w7.heap.size) ?_ 27 (_) K89.out rowState ?_); rotate_left; exact rfl; exact rfl; rotate_left; kernel_rfl)
        | ((with_reducible refine wpList_load_blk_g ?_ _ (.tmp 3) ?_ (w3.heap.size) ?_ 27 (_) K49.out rowState ?_); rotate_left; exact rfl; exact rfl; rotate_left; kernel_rfl))
      refine CN.out.mono ?_
      rintro e w10 ⟨rfl, b10⟩
      have B10 := Lib.hid (then_ B9.out b10)
      clear b10 CN
      go_wp2_with fail
      all_goals go_ret
      all_goals exact ⟨rfl, B10.out⟩
end Go.Proofs.YtfbaliimjmimhaaDoor.replayLifts
