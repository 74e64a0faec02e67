/-
  annalslaw10.SagaWhole walked: it answers true, whatever comes. Conditions: the tables that saga.Check, lift.Up and the walk read, as laid.
-/
import Derived.Test.YteaiadpigpehaaaDoorPkApply
import Derived.Test.YteaiadpigpehaaaDoorReg
import Derived.Test.YteaiadpigpehaaaDoorRecs
import Derived.Test.YteaiadpigpehaaaDoorWholeLaw
import Derived.Deep.RegionHeld3
import Derived.Deep.DeepCutAuto
namespace Go.Proofs.YteaiadpigpehaaaDoor
open Go.RowKit
namespace sagaWhole
theorem num_keep (n : Int) (w : World) : Calls Tryd.prog 14 #[.int .i64 n] w fun e w' => e = .returned (.int .i64 n) ∧ w = w' := (num_any n w).mono fun _ _ h => ⟨h.1, h.2.symm⟩

/-- What the call of Apply has left. -/
structure Took (B : Nat) (wr wx : World) (u : Nat) (s2 : SagaV) (D2 : SagaD) : Prop where
  since : Since wr wx
  blk : BlkAt wx u (sagaArr s2) 25
  own : SagaOwn wx B s2 D2
  ge : wr.heap.size ≤ u
theorem moved_name (D : SagaD) (X : RecD) : (movedD D X).name = D.name := by
  unfold movedD turnD
  split; rfl; split; rfl; split; (split; rfl; rfl); split; rfl; rfl
theorem grown_rows {w w' : World} {b : Nat} {cs : Array Value} {t : TypeId} (h : w.grownBy w' (some b)) (hk : BlkAt w b cs t) (h1 : t ≠ 5) (h2 : t ≠ 22) : RowsKept w w' := by
  have key : ∀ e, t ≠ e → ∀ (k : Nat) (cur : Array Value), w.heap[k]? = some (Obj.cells cur e) → w'.heap[k]? = w.heap[k]? := by
    intro e he k cur hc
    refine h.block k (Array.getElem?_eq_some_iff.1 hc).1 (fun e' => ?_)
    have e2 : k = b := Option.some.inj e'
    subst e2
    rw [show w.heap[k]? = _ from hk] at hc
    simp at hc
    exact he hc.2
  exact ⟨key _ h1, key _ h2⟩
theorem grown_blk {w w' : World} {b g : Nat} {cs : Array Value} {t : TypeId} (h : w.grownBy w' (some b)) (hk : BlkAt w g cs t) (hne : g ≠ b) : BlkAt w' g cs t :=
  (h.block g (Array.getElem?_eq_some_iff.1 hk).1 (fun e => hne (Option.some.inj e))).trans hk
theorem blk_ne {w : World} {b g : Nat} {cs ds : Array Value} {t u : TypeId} (h : BlkAt w g cs t) (k : BlkAt w b ds u) (hne : t ≠ u) : g ≠ b := by
  intro e
  subst e
  have := (show w.heap[g]? = _ from h).symm.trans k
  simp at this
  exact hne this.2
theorem grown_below {w0 w w' : World} {B b : Nat} (hb : Below B w0 w) (h : w.grownBy w' (some b)) (hB : B ≤ w.heap.size) (hge : B ≤ b) : Below B w0 w' := hb.grown h hB (fun k e => by cases e; exact hge)
/-- How the loop stands. -/
structure At (w wr : World) (g b : Nat) (s' : SagaV) (D' : SagaD) (T : TrailD) : Prop where
  blk : BlkAt wr g (sagaArr s') 25
  rd : SagaOwn wr w.heap.size s' D'
  good : GoodD D'
  name : D'.name.size ≤ 4611686018427387904
  trail : BlkAt wr b T.cells 43
  fits : TrailOf T D'
  low : w.heap.size ≤ b ∧ w.heap.size ≤ g
  below : Below w.heap.size w wr

set_option maxRecDepth 10000000 in
set_option maxHeartbeats 4000000 in
theorem walk (s : Sl) (Rs : List RecD) (w : World) (ht : Tables w) (hl : LandsAt w) (hr : RecsAt w s Rs) (fr : ∀ R ∈ Rs, RecFits R) :
    Calls Tryd.prog 4 #[s.v] w fun e w' => e = .returned (.bool true) ∧ Below w.heap.size w w' := by
  obtain ⟨sa, n, c⟩ := s
  have HT := Lib.hid ht
  have HL := Lib.hid hl
  have HR := Lib.hid hr
  have FR := Lib.hid fr
  clear ht hl hr fr
  dsimp only [Sl.v]
  go_enter Tryd.func4, Tryd.ntmps4
  go_wp2_with fail
  refine (first_any w).mono ?_
  rintro e w2 ⟨t, u, rfl, bt, bu, hb⟩
  have hs2 := hb.size
  have HX2 := Lib.hid (boxd (o := .cells (sagaArr (firstD.words u nilSl nilSl nilSl)) 25) (boxd (o := .cells (recArr (firstR.words t)) 27) hb))
  have HF2 := Lib.hid (bt.below (boxd (o := .cells (sagaArr (firstD.words u nilSl nilSl nilSl)) 25) (boxd (o := .cells (recArr (firstR.words t)) 27) (Below.refl _ _))))
  clear hb bt bu
  dsimp only [RecD.words, SagaD.words, RecV.val, SagaV.val, firstR, firstD, nilSl, Sl.v]
  go_wp2_with fail
  dsimp only [RecD.words, SagaD.words, recArr, sagaArr, firstR, firstD, nilSl, Sl.v] at HX2 HF2
  obtain ⟨w3, hw3⟩ : ∃ x, (w2.alloc (.cells #[.int .i64 3, .int .i64 1, .int .i64 7, .int .i64 0, .int .i64 0, .int .i64 5, .int .i64 0, .int .i64 0, .int .i64 2, .int .i64 1, .string ⟨#[98, 117, 121]⟩, .slice t.a t.n t.c] 27)).alloc (.cells #[.int .i64 7, .string ⟨#[98, 117, 121]⟩, .int .i64 2, .int .i64 1, .int .i64 5, .int .i64 5, .slice u.a u.n u.c, .int .i64 1, .int .i64 0, .bool false, .int .i64 0, .slice none 0 0, .slice none 0 0, .int .i64 0, .int .i64 0, .slice none 0 0] 25) = x := ⟨_, rfl⟩
  have hs3 : w3.heap.size = w2.heap.size + 2 := by rw [← hw3]; simp
  rw [hw3] at HX2 HF2
  rw [hw3]
  clear hw3
  refine (begin_any (firstR.words t) firstR w3 (HT.out.below HX2.out) ⟨rfl, HF2.out⟩ ⟨by decide, by decide⟩).mono ?_
  rintro e w4 ⟨z, rfl, rz, hb⟩
  rw [begin_firstD] at rz
  rw [begin_first]
  have h34 := hb.size
  have HX4 := Lib.hid (boxd (o := .cells (sagaArr z) 25) (then_ HX2.out hb))
  have KZ4 := BlkAt.new w4 (sagaArr z) 25
  have HZ4 := Lib.hid ((rz.through (boxd (o := .cells (sagaArr z) 25) (Below.refl _ _))).lower (c := w.heap.size) (by omega))
  clear hb rz HX2 HF2
  dsimp only [SagaV.val, sagaArr, Sl.v] at HX4 KZ4 HZ4
  dsimp only [SagaV.val, Sl.v]
  go_wp2_with (refine wpList_load_blk rfl _ _ rfl _ rfl _ _ KZ4 rowSaga ?_)
  obtain ⟨g, hg⟩ : ∃ x, w4.heap.size = x := ⟨_, rfl⟩
  obtain ⟨w5, hw5⟩ : ∃ x, w4.alloc (.cells #[.int .i64 z.id, .string z.name, .int .i64 z.count, .int .i64 z.pivot, .int .i64 z.begun, .int .i64 z.at_, .slice z.input.a z.input.n z.input.c, .int .i64 z.phase, .int .i64 z.next, .bool z.flight, .int .i64 z.tries, .slice z.outs.a z.outs.n z.outs.c, .slice z.undos.a z.undos.n z.undos.c, .int .i64 z.failStep, .int .i64 z.failCode, .slice z.fail.a z.fail.n z.fail.c] 25) = x := ⟨_, rfl⟩
  have hs5 : w5.heap.size = g + 1 := by rw [← hw5, ← hg]; simp
  rw [hw5] at HX4 KZ4 HZ4
  rw [hg] at KZ4
  have hgw : w.heap.size ≤ g := by omega
  have hlZ : g < w5.heap.size := by omega
  rw [hw5, hg]
  clear hw5
  have cA := apply_any z firstD (onR.words nilSl) onR w5 (HT.out.below HX4.out) (HL.out.below HX4.out) (HZ4.out.rd good_first.small) ⟨rfl, RowAt.nil _ _ _ (fun _ => rfl)⟩ fits_first ⟨by decide, by decide⟩
  rw [on_first.1, on_first.2] at cA
  refine cA.mono ?_
  rintro e w6 ⟨y, rfl, ry, hb⟩
  have h56 := hb.size
  have HX6 := Lib.hid (boxd (o := .cells (sagaArr y) 25) (then_ HX4.out hb))
  have HY6 := Lib.hid (boxd (o := .cells (sagaArr y) 25) hb)
  have KY6 := BlkAt.new w6 (sagaArr y) 25
  have RY6 := Lib.hid (ry.through (boxd (o := .cells (sagaArr y) 25) (Below.refl _ _)))
  clear hb ry cA HX4
  dsimp only [SagaV.val, sagaArr, Sl.v] at HX6 HY6 KY6 RY6
  dsimp only [SagaV.val, Sl.v]
  go_wp2_with (refine wpList_load_blk rfl _ _ rfl _ rfl _ _ KY6 rowSaga ?_)
  obtain ⟨g7, hg7⟩ : ∃ x, w6.heap.size = x := ⟨_, rfl⟩
  obtain ⟨w7, hw7⟩ : ∃ x, w6.alloc (.cells #[.int .i64 y.id, .string y.name, .int .i64 y.count, .int .i64 y.pivot, .int .i64 y.begun, .int .i64 y.at_, .slice y.input.a y.input.n y.input.c, .int .i64 y.phase, .int .i64 y.next, .bool y.flight, .int .i64 y.tries, .slice y.outs.a y.outs.n y.outs.c, .slice y.undos.a y.undos.n y.undos.c, .int .i64 y.failStep, .int .i64 y.failCode, .slice y.fail.a y.fail.n y.fail.c] 25) = x := ⟨_, rfl⟩
  have hs7 : w7.heap.size = g7 + 1 := by rw [← hw7, ← hg7]; simp
  rw [hw7] at HX6 HY6 KY6 RY6
  rw [hg7] at KY6
  rw [hw7, hg7]
  clear hw7
  have hl7 : g7 < w7.heap.size := by omega
  have gon : GoodD onD := by have := (apply_taken on_first.1).2.2.2.2; rwa [on_first.2] at this
  have cB := apply_any y onD (offR.words nilSl) offR w7 (HT.out.below HX6.out) (HL.out.below HX6.out) (RY6.out.rd gon.small) ⟨rfl, RowAt.nil _ _ _ (fun _ => rfl)⟩ fits_on ⟨by decide, by decide⟩
  rw [off_on.1, off_on.2] at cB
  refine cB.mono ?_
  rintro e w8 ⟨x, rfl, rx, hb⟩
  have h78 := hb.size
  have HX8 := Lib.hid (boxd (o := .cells (sagaArr x) 25) (then_ HX6.out hb))
  have HZ8 := Lib.hid (boxd (o := .cells (sagaArr x) 25) (then_ HY6.out hb))
  have KX8 := BlkAt.new w8 (sagaArr x) 25
  have hx8 : x.next = 1 := by rw [rx.eq]; rfl
  have e8 := KX8.cell 8
  simp only [sagaArr, List.getElem?_toArray, List.getElem?_cons_zero, List.getElem?_cons_succ] at e8
  rw [hx8] at e8
  clear hb rx cB HX6 HY6 gon KX8
  dsimp only [SagaV.val, sagaArr, Sl.v] at HX8 HZ8 e8
  rw [hx8] at HX8 HZ8
  dsimp only [SagaV.val, Sl.v]
  go_wp2_with (go_at_call 14; (with_reducible refine (num_keep _ _).mono ?_); rintro e w9 ⟨rfl, rfl⟩)
  clear e8
  obtain ⟨w9, hw9⟩ : ∃ q, w8.alloc (.cells #[.int .i64 x.id, .string x.name, .int .i64 x.count, .int .i64 x.pivot, .int .i64 x.begun, .int .i64 x.at_, .slice x.input.a x.input.n x.input.c, .int .i64 x.phase, .int .i64 1, .bool x.flight, .int .i64 x.tries, .slice x.outs.a x.outs.n x.outs.c, .slice x.undos.a x.undos.n x.undos.c, .int .i64 x.failStep, .int .i64 x.failCode, .slice x.fail.a x.fail.n x.fail.c] 25) = q := ⟨_, rfl⟩
  have hs9 : w9.heap.size = w8.heap.size + 1 := by rw [← hw9]; simp
  rw [hw9] at HX8 HZ8
  rw [hw9]
  have hAt : At w (w9.alloc (.cells #[.int .i64 2, .int .i64 1, .int .i64 0, .int .i64 0] 43)) g (w8.heap.size + 1) z firstD ⟨2, 1, 0, 0⟩ := by
    refine ⟨(KZ4.below HZ8.out hlZ).push _, (HZ4.out.through HZ8.out).through (boxd (Below.refl _ _)), good_first, by decide, ?_, whole_first, ⟨by omega, by omega⟩, boxd HX8.out⟩
    rw [← hs9]
    exact BlkAt.new _ _ _
  have HAT := Lib.hid hAt
  have hgw' := hgw
  obtain ⟨rs, hsn, hlen, ⟨hmax, hnil⟩, hc, hrd⟩ := HR.out
  simp only at hsn hmax hc
  have HC := Lib.hid hc
  have HRD := Lib.hid hrd
  have HSN := Lib.hid hsn
  have HLEN := Lib.hid hlen
  clear hAt hw9 HX8 HZ8 HZ4 RY6 KZ4 KY6 HR hc hrd hsn hlen hnil hs9 h78 hs7 hg7 h56 hs5 hg hlZ hl7 hs3 h34 hs2
  go_loopw [11, 12] (fun tr i wr => ∃ (j b : Nat) (s1 : SagaV) (D1 : SagaD) (T : TrailD), j ≤ n ∧ tr = .pointer (some ⟨b, 0, none⟩) ∧ i = .int .i64 j ∧ Hid (At w wr g b s1 D1 T)) (fun _ i _ => n - (intOf i).toNat)
  case atStart => exact ⟨0, _, z, firstD, ⟨2, 1, 0, 0⟩, by omega, rfl, rfl, HAT⟩
  case round =>
    obtain ⟨j, b, s1, D1, T, hjn, rfl, rfl, HA⟩ := hrel
    by_cases hlt : j < n
    · obtain ⟨b0, o0, e, hc⟩ := HC.out (by omega)
      subst e
      have hj1 : j < rs.length := by have := HSN.out; omega
      have hj2 : j < Rs.length := by have := HLEN.out; omega
      have hcj := hc j hj1
      have rrd := HRD.out j hj1 hj2
      have fR := FR.out Rs[j] (List.getElem_mem hj2)
      obtain ⟨r, hr⟩ : ∃ q, rs[j] = q := ⟨_, rfl⟩
      obtain ⟨R, hR⟩ : ∃ q, Rs[j] = q := ⟨_, rfl⟩
      rw [hr] at hcj rrd
      rw [hR] at rrd fR
      have hx : ∀ i, i < 12 → ∀ w', Below w.heap.size w w' → w'.cell? ⟨b0, o0 + j * 12 + i, none⟩ = r.cells[i]? := by
        intro i hi w' hb
        have := hcj i hi
        have hl : r.cells.length = 12 := rfl
        rw [List.getElem?_eq_getElem (by omega)] at this ⊢
        exact (hb.cell (World.block_lt_of_cell? w _ this)).trans this
      have HX := Lib.hid hx
      have RRD := Lib.hid rrd
      have FRR := Lib.hid fR
      have hrk : r.kind = R.kind := by rw [rrd.eq]
      have hrst : r.step = R.step := by rw [rrd.eq]
      have HRK := Lib.hid hrk
      have HRS := Lib.hid hrst
      have A := HA.out
      have KB := A.blk
      have KT := A.trail
      have hB := A.below
      have x1 := hx 1 (by decide) wr hB
      simp only [RecV.cells, List.getElem?_cons_zero, List.getElem?_cons_succ] at x1
      rw [hrk] at x1
      have HBW := Lib.hid hB
      have hgl := (Array.getElem?_eq_some_iff.1 KB).1
      clear hc hcj rrd fR hr hR hx hrk hrst A hB
      dsimp only [sagaArr, Sl.v] at KB
      have ldr : ∀ i, i < (recArr r).size → wr.cell? ⟨b0, o0 + j * 12 + i, none⟩ = (recArr r)[i]? := by
        intro i hi
        rw [HX.out i hi wr HBW.out]
        simp [recArr]
      have LDR := Lib.hid ldr
      clear ldr
      have ffit : SagaFits D1 := by
        obtain ⟨q1, q2, q3⟩ := HA.out.good.fits HA.out.name
        exact ⟨q1, q2, q3⟩
      have FF := Lib.hid ffit
      clear ffit
      obtain ⟨kk, hkk⟩ : ∃ q, R.kind = q := ⟨_, rfl⟩
      have HKK := Lib.hid hkk
      rw [hkk] at x1
      clear hkk
      by_cases k1 : kk = 1
      · as_aux_lemma =>
        subst k1
        go_wp2_with (refine wpList_load_at rfl _ _ rfl _ _ rfl _ LDR.out rowRec ?_)
        refine (begin_any r R wr (HT.out.below HBW.out) (RRD.out.below HBW.out) FRR.out).mono ?_
        rintro e w6 ⟨s2, rfl, ho, hb⟩
        have h6 := hb.size
        have KB6 := (show BlkAt wr g (sagaArr s1) 25 from KB).below hb hgl
        have KT6 := KT.below hb (Array.getElem?_eq_some_iff.1 KT).1
        have KN := BlkAt.new w6 (sagaArr s2) 25
        have HB6 := Lib.hid (then_ HBW.out hb)
        have HO6 := Lib.hid ((ho.through (boxd (o := .cells (sagaArr s2) 25) (Below.refl _ _))).lower (c := w.heap.size) HBW.out.size)
        have hlow := HA.out.low
        have hbl := (Array.getElem?_eq_some_iff.1 KT6).1
        have hg6 : g < w6.heap.size := by omega
        clear KB KT LDR hgl x1 hlow
        obtain ⟨E, hE⟩ : ∃ q, beginN R = q := ⟨_, rfl⟩
        rw [hE]
        by_cases h0 : E = 0
        · subst h0
          have HE := Lib.hid hE
          clear hE
          have e2 : s2.count = (beginD R).count := by rw [ho.eq]
          have e3 : s2.pivot = (beginD R).pivot := by rw [ho.eq]
          have E2 := Lib.hid e2
          have E3 := Lib.hid e3
          have KG := KB6.push (.cells (sagaArr s2) 25)
          have KTG := KT6.push (.cells (sagaArr s2) 25)
          have hne : w6.heap.size ≠ g := by omega
          clear ho hb e2 e3 KB6 KT6
          dsimp only [SagaV.val, sagaArr, Sl.v] at KN KG KTG HO6
          dsimp only [SagaV.val, Sl.v]
          go_wp2_with (first
            | (refine wpList_load_blk rfl _ _ rfl _ rfl _ _ KN rowSaga ?_)
            | (refine wpList_store_blk rfl _ _ _ rfl _ rfl _ rfl _ _ KG (by rfl) (by simp [Value.oneCell']) rowSaga ?_; intro w7 hw7 KS7; have KN7 := hw7.blk KN hne; have c2 := KN7.cell 2; have c3 := KN7.cell 3; simp only [List.getElem?_toArray, List.getElem?_cons_zero, List.getElem?_cons_succ] at c2 c3)
            | (go_at_call 14; (with_reducible refine (num_keep _ _).mono ?_); rintro e w9 ⟨rfl, rfl⟩))
          have hAt : At w (w7.alloc (.cells #[.int .i64 s2.count, .int .i64 s2.pivot, .int .i64 0, .int .i64 0] 43)) g w7.heap.size s2 (beginD R) ⟨s2.count, s2.pivot, 0, 0⟩ := by
            have hgd := (begin_taken HE.out).2.2.2
            refine ⟨KS7.push _, (HO6.out.keep (hw7.rows KG (by decide) (by decide))).through (boxd (Below.refl _ _)), hgd, ?_, BlkAt.new _ _ _, ?_, ⟨?_, hgw'⟩, boxd (hw7.below (boxd HB6.out) hgw')⟩
            · rw [(begin_taken HE.out).2.2.1]
              exact up3_name_le FRR.out
            · rw [E2.out, E3.out]
              exact whole_begun HE.out
            · have := hw7.size
              have h1 := HBW.out.size
              simp only [World.size_alloc] at this
              omega
          have HAT2 := Lib.hid hAt
          clear hAt KN7 KS7 KN KG KTG c2 c3
          go_wp2
          all_goals go_roundw
          case rel => exact ⟨j + 1, _, s2, _, _, by omega, rfl, by go_num, HAT2⟩
          case measure => simp [intOf]; omega
        · have h0' : (E == 0) = false := by rw [beq_eq_false_iff_ne]; exact h0
          have hAt : At w (w6.alloc (.cells (sagaArr s2) 25)) g b s1 D1 T :=
            ⟨KB6.push _, (HA.out.rd.through hb).through (boxd (Below.refl _ _)), HA.out.good, HA.out.name, KT6.push _, HA.out.fits, HA.out.low, boxd HB6.out⟩
          have HAT2 := Lib.hid hAt
          clear hAt ho hb KB6 KT6 KN HO6 hE
          dsimp only [SagaV.val, sagaArr, Sl.v] at HAT2
          dsimp only [SagaV.val, Sl.v]
          go_wp2_with (go_at_call 14; (with_reducible refine (num_keep _ _).mono ?_); rintro e w9 ⟨rfl, rfl⟩)
          all_goals go_roundw
          case rel => exact ⟨j + 1, b, s1, D1, T, by omega, rfl, by go_num, HAT2⟩
          case measure => simp [intOf]; omega
      · have k1' : (kk == 1) = false := by rw [beq_eq_false_iff_ne]; exact k1
        have hKB : BlkAt wr g (sagaArr s1) 25 := HA.out.blk
        have HKB := Lib.hid hKB
        have HKT := Lib.hid KT
        have ld : ∀ W, Since wr W → ∀ i, i < (recArr r).size → W.cell? ⟨b0, o0 + j * 12 + i, none⟩ = (recArr r)[i]? := by
          intro W hW i hi
          rw [HX.out i hi W (then_ HBW.out hW.out)]
          simp [recArr]
        have LD16 := Lib.hid ld
        have cA : ∀ W, Since wr W → Calls Tryd.prog 16 #[s1.val, r.val] W fun e w' => ∃ s', e = .returned (.tuple #[SagaV.val s', .int .i64 (applyN D1 R)]) ∧ SagaOwn w' w.heap.size s' (applyD D1 R) ∧ Below W.heap.size W w' := by
          intro W hW
          have hWw := then_ HBW.out hW.out
          refine (apply_any s1 D1 r R W (HT.out.below hWw) (HL.out.below hWw) ((HA.out.rd.through hW.out).rd HA.out.good.small) (RRD.out.below hWw) FF.out FRR.out).mono ?_
          rintro e w' ⟨s', he, ho, hb⟩
          exact ⟨s', he, ho.lower hWw.size, hb⟩
        obtain ⟨N, hN⟩ : ∃ q, applyN D1 R = q := ⟨_, rfl⟩
        rw [hN] at cA
        have CA := Lib.hid cA
        have HN := Lib.hid hN
        clear cA hN hKB ld KB KT LDR
        go_upto_region 16 with fail
        go_cut [15, 16] (fun s15 s16 wx => ∃ (u : Nat) (s2 : SagaV), s15 = .pointer (some ⟨u, 0, none⟩) ∧ s16 = .int .i64 N ∧ Hid (Took w.heap.size wr wx u s2 (applyD D1 R)))
        case first =>
         as_aux_lemma =>
          refine wp_region_held_drew (S := Since wr) (by kernel_rfl) ((Since.refl wr).drew) (fun hHeld => ?_)
          refine wpAnyH_take (i := 0) (oi := { dst := some 90, op := Op.load 25 (Operand.tmp 5), type := 25, pos := "outright.go:55", after := #[], guard := none }) (v := .agg (sagaArr s1)) rfl (by kernel_rfl) (by kernel_rfl) (by kernel_rfl) (fun _ _ _ h => h) (yl_blk rfl _ _ rfl _ rfl _ _ (fun w' h => h.blk HKB.out) rowSaga) (by assumption) ?_
          try simp only [Act.put, List.setIfInBounds_toArray, List.set_cons_zero, List.set_cons_succ]
          refine wpAnyH_take (i := 1) (oi := { dst := some 91, op := Op.move (Operand.tmp 0), type := 38, pos := "outright.go:55", after := #[], guard := none }) (v := ?_) rfl (by kernel_rfl) (by kernel_rfl) (by kernel_rfl) (fun _ _ _ h => h) (Or.inl ⟨by rfl, ?_⟩) (by assumption) ?_
          rotate_left 1
          focus (intro w hSw; (try clear hSw); go_simp; try (with_reducible rfl))
          try simp only [Act.put, List.setIfInBounds_toArray, List.set_cons_zero, List.set_cons_succ]
          refine wpAnyH_take (i := 2) (oi := { dst := some 92, op := Op.move (Operand.tmp 12), type := 3, pos := "outright.go:55", after := #[], guard := none }) (v := ?_) rfl (by kernel_rfl) (by kernel_rfl) (by kernel_rfl) (fun _ _ _ h => h) (Or.inl ⟨by rfl, ?_⟩) (by assumption) ?_
          rotate_left 1
          focus (intro w hSw; (try clear hSw); go_simp; try (with_reducible rfl))
          try simp only [Act.put, List.setIfInBounds_toArray, List.set_cons_zero, List.set_cons_succ]
          refine wpAnyH_take (i := 3) (oi := { dst := some 93, op := Op.indexAddr 38 (Operand.tmp 91) (Operand.tmp 92), type := 0, pos := "outright.go:55", after := #[{ on := 1, ground := Ground.data }, { on := 2, ground := Ground.data }], guard := none }) (v := ?_) rfl (by kernel_rfl) (by kernel_rfl) (by kernel_rfl) (fun _ _ _ h => h) (Or.inl ⟨by rfl, ?_⟩) (by assumption) ?_
          rotate_left 1
          focus (intro w hSw; (try clear hSw); go_simp; try (with_reducible rfl))
          try simp only [Act.put, List.setIfInBounds_toArray, List.set_cons_zero, List.set_cons_succ]
          refine wpAnyH_take (i := 4) (oi := { dst := some 94, op := Op.load 27 (Operand.tmp 93), type := 27, pos := "outright.go:55", after := #[{ on := 3, ground := Ground.data }], guard := none }) (v := .agg (recArr r)) rfl (by kernel_rfl) (by kernel_rfl) (by kernel_rfl) (fun _ _ _ h => h) (yl_at rfl _ _ rfl _ _ rfl _ (fun w' h => LD16.out w' h) rowRec) (by assumption) ?_
          try simp only [Act.put, List.setIfInBounds_toArray, List.set_cons_zero, List.set_cons_succ]
          refine wpAnyH_ready (rs := [5, 9]) (by kernel_rfl) (by simp) ?_
          refine AllReadyH.cons (o := { dst := some 95, op := Op.call { callee := Callee.value (Operand.func 16), args := #[Operand.tmp 90, Operand.tmp 94], argTypes := #[25, 27] }, type := 33, pos := "outright.go:55", after := #[{ on := 0, ground := Ground.data }, { on := 4, ground := Ground.data }], guard := none }) rfl (fun K hK => ?_) ?_
          · go_simp
            refine (CA.out _ hHeld).mono ?_
            rintro e w6 ⟨s2, rfl, ho, hb⟩
            try go_wp2_with fail
            refine hK.out _ _ (hHeld.call hb) (fun hHeld => ?_)
            clear hK K
            try simp only [Act.put, List.setIfInBounds_toArray, List.set_cons_zero, List.set_cons_succ]
            refine wpAnyH_take (i := 6) (oi := { dst := some 89, op := Op.move (Operand.tmp 95), type := 33, pos := "outright.go:55", after := #[{ on := 5, ground := Ground.data }], guard := none }) (v := ?_) rfl (by kernel_rfl) (by kernel_rfl) (by kernel_rfl) (fun _ _ _ h => h) (Or.inl ⟨by rfl, ?_⟩) (by assumption) ?_
            rotate_left 1
            focus (intro w hSw; (try clear hSw); go_simp; try (with_reducible rfl))
            try simp only [Act.put, List.setIfInBounds_toArray, List.set_cons_zero, List.set_cons_succ]
            refine wpAnyH_take (i := 7) (oi := { dst := some 96, op := Op.extract (Operand.tmp 89) 0, type := 25, pos := "outright.go:55", after := #[{ on := 6, ground := Ground.data }], guard := none }) (v := ?_) rfl (by kernel_rfl) (by kernel_rfl) (by kernel_rfl) (fun _ _ _ h => h) (Or.inl ⟨by rfl, ?_⟩) (by assumption) ?_
            rotate_left 1
            focus (intro w hSw; (try clear hSw); go_simp; try (with_reducible rfl))
            try simp only [Act.put, List.setIfInBounds_toArray, List.set_cons_zero, List.set_cons_succ]
            refine wpAnyH_take (i := 8) (oi := { dst := some 97, op := Op.extract (Operand.tmp 89) 1, type := 29, pos := "outright.go:55", after := #[{ on := 6, ground := Ground.data }, { on := 10, ground := Ground.gcOnly Departure.lateStores }], guard := none }) (v := ?_) rfl (by kernel_rfl) (by kernel_rfl) (by kernel_rfl) (fun _ _ _ h => h) (Or.inl ⟨by rfl, ?_⟩) (by assumption) ?_
            rotate_left 1
            focus (intro w hSw; (try clear hSw); go_simp; try (with_reducible rfl))
            try simp only [Act.put, List.setIfInBounds_toArray, List.set_cons_zero, List.set_cons_succ]
            refine wpAnyH_ready (rs := [9]) (by kernel_rfl) (by simp) ?_
            refine AllReadyH.cons (o := { dst := some 15, op := Op.alloc 25, type := 0, pos := "outright.go:55", after := #[], guard := none }) rfl (fun K hK => ?_) ?_
            · refine step_alloc_row rfl _ _ rfl zeroSaga_row ?_
              intro wA KUA hbA
              have KU := KUA
              have hO := ho.through hbA
              have hge := hHeld.le
              refine hK.out _ _ (hHeld.call hbA) (fun hHeld => ?_)
              clear hK K
              try simp only [Act.put, List.setIfInBounds_toArray, List.set_cons_zero, List.set_cons_succ]
              refine wpAnyH_ready (rs := [10]) (by kernel_rfl) (by simp) ?_
              refine AllReadyH.cons (o := { dst := none, op := Op.store 25 (Operand.tmp 15) (Operand.tmp 96), type := 0, pos := "outright.go:55", after := #[{ on := 9, ground := Ground.data }, { on := 7, ground := Ground.data }, { on := 5, ground := Ground.chain }, { on := 0, ground := Ground.phase }, { on := 1, ground := Ground.phase }, { on := 2, ground := Ground.phase }, { on := 3, ground := Ground.phase }, { on := 4, ground := Ground.phase }, { on := 5, ground := Ground.phase }, { on := 6, ground := Ground.phase }, { on := 7, ground := Ground.phase }, { on := 8, ground := Ground.textOnly Departure.lateStores }, { on := 9, ground := Ground.phase }], guard := none }) rfl (fun K hK => ?_) ?_
              · refine step_store_blk rfl _ _ _ rfl _ rfl (sagaArr s2) rfl _ _ KU (by rfl) (by simp [sagaArr, Value.oneCell']) rowSaga ?_
                intro w7 hw7 KS7
                refine hK.out _ _ (hHeld.wrote hw7 hge) (fun hHeld => ?_)
                clear hK K
                try simp only [Act.put, List.setIfInBounds_toArray, List.set_cons_zero, List.set_cons_succ]
                refine wpAnyH_ready (rs := [11]) (by kernel_rfl) (by simp) ?_
                refine AllReadyH.cons (o := { dst := some 16, op := Op.assign (Operand.tmp 97), type := 29, pos := "outright.go:55", after := #[{ on := 8, ground := Ground.data }, { on := 10, ground := Ground.chain }, { on := 0, ground := Ground.phase }, { on := 1, ground := Ground.phase }, { on := 2, ground := Ground.phase }, { on := 3, ground := Ground.phase }, { on := 4, ground := Ground.phase }, { on := 5, ground := Ground.phase }, { on := 6, ground := Ground.phase }, { on := 7, ground := Ground.phase }, { on := 8, ground := Ground.phase }, { on := 9, ground := Ground.phase }, { on := 10, ground := Ground.phase }], guard := none }) rfl (fun K hK => ?_) ?_
                · go_simp
                  refine hK.out _ _ (by assumption) (fun hHeld => ?_)
                  clear hK K
                  try simp only [Act.put, List.setIfInBounds_toArray, List.set_cons_zero, List.set_cons_succ]
                  refine wpAnyH_done (by kernel_rfl) ?_ _
                  try go_wp2_with fail
                  go_meet
                  exact ⟨_, s2, rfl, rfl, Lib.hid ⟨hHeld, KS7, hO.keep (hw7.rows KU (by decide) (by decide)), hge⟩⟩
                exact AllReadyH.nil
              exact AllReadyH.nil
            exact AllReadyH.nil
          refine AllReadyH.cons (o := { dst := some 15, op := Op.alloc 25, type := 0, pos := "outright.go:55", after := #[], guard := none }) rfl (fun K hK => ?_) ?_
          · refine step_alloc_row rfl _ _ rfl zeroSaga_row ?_
            intro wA KUA hbA
            refine hK.out _ _ (hHeld.call hbA) (fun hHeld => ?_)
            clear hK K
            try simp only [Act.put, List.setIfInBounds_toArray, List.set_cons_zero, List.set_cons_succ]
            refine wpAnyH_ready (rs := [5]) (by kernel_rfl) (by simp) ?_
            refine AllReadyH.cons (o := { dst := some 95, op := Op.call { callee := Callee.value (Operand.func 16), args := #[Operand.tmp 90, Operand.tmp 94], argTypes := #[25, 27] }, type := 33, pos := "outright.go:55", after := #[{ on := 0, ground := Ground.data }, { on := 4, ground := Ground.data }], guard := none }) rfl (fun K hK => ?_) ?_
            · go_simp
              refine (CA.out _ hHeld).mono ?_
              rintro e w6 ⟨s2, rfl, ho, hb⟩
              try go_wp2_with fail
              have KU := KUA.below hb (blk_lt KUA)
              have hO := ho
              have hge : wr.heap.size ≤ wr.drew.heap.size := Nat.le_refl _
              refine hK.out _ _ (hHeld.call hb) (fun hHeld => ?_)
              clear hK K
              try simp only [Act.put, List.setIfInBounds_toArray, List.set_cons_zero, List.set_cons_succ]
              refine wpAnyH_take (i := 6) (oi := { dst := some 89, op := Op.move (Operand.tmp 95), type := 33, pos := "outright.go:55", after := #[{ on := 5, ground := Ground.data }], guard := none }) (v := ?_) rfl (by kernel_rfl) (by kernel_rfl) (by kernel_rfl) (fun _ _ _ h => h) (Or.inl ⟨by rfl, ?_⟩) (by assumption) ?_
              rotate_left 1
              focus (intro w hSw; (try clear hSw); go_simp; try (with_reducible rfl))
              try simp only [Act.put, List.setIfInBounds_toArray, List.set_cons_zero, List.set_cons_succ]
              refine wpAnyH_take (i := 7) (oi := { dst := some 96, op := Op.extract (Operand.tmp 89) 0, type := 25, pos := "outright.go:55", after := #[{ on := 6, ground := Ground.data }], guard := none }) (v := ?_) rfl (by kernel_rfl) (by kernel_rfl) (by kernel_rfl) (fun _ _ _ h => h) (Or.inl ⟨by rfl, ?_⟩) (by assumption) ?_
              rotate_left 1
              focus (intro w hSw; (try clear hSw); go_simp; try (with_reducible rfl))
              try simp only [Act.put, List.setIfInBounds_toArray, List.set_cons_zero, List.set_cons_succ]
              refine wpAnyH_take (i := 8) (oi := { dst := some 97, op := Op.extract (Operand.tmp 89) 1, type := 29, pos := "outright.go:55", after := #[{ on := 6, ground := Ground.data }, { on := 10, ground := Ground.gcOnly Departure.lateStores }], guard := none }) (v := ?_) rfl (by kernel_rfl) (by kernel_rfl) (by kernel_rfl) (fun _ _ _ h => h) (Or.inl ⟨by rfl, ?_⟩) (by assumption) ?_
              rotate_left 1
              focus (intro w hSw; (try clear hSw); go_simp; try (with_reducible rfl))
              try simp only [Act.put, List.setIfInBounds_toArray, List.set_cons_zero, List.set_cons_succ]
              refine wpAnyH_ready (rs := [10]) (by kernel_rfl) (by simp) ?_
              refine AllReadyH.cons (o := { dst := none, op := Op.store 25 (Operand.tmp 15) (Operand.tmp 96), type := 0, pos := "outright.go:55", after := #[{ on := 9, ground := Ground.data }, { on := 7, ground := Ground.data }, { on := 5, ground := Ground.chain }, { on := 0, ground := Ground.phase }, { on := 1, ground := Ground.phase }, { on := 2, ground := Ground.phase }, { on := 3, ground := Ground.phase }, { on := 4, ground := Ground.phase }, { on := 5, ground := Ground.phase }, { on := 6, ground := Ground.phase }, { on := 7, ground := Ground.phase }, { on := 8, ground := Ground.textOnly Departure.lateStores }, { on := 9, ground := Ground.phase }], guard := none }) rfl (fun K hK => ?_) ?_
              · refine step_store_blk rfl _ _ _ rfl _ rfl (sagaArr s2) rfl _ _ KU (by rfl) (by simp [sagaArr, Value.oneCell']) rowSaga ?_
                intro w7 hw7 KS7
                refine hK.out _ _ (hHeld.wrote hw7 hge) (fun hHeld => ?_)
                clear hK K
                try simp only [Act.put, List.setIfInBounds_toArray, List.set_cons_zero, List.set_cons_succ]
                refine wpAnyH_ready (rs := [11]) (by kernel_rfl) (by simp) ?_
                refine AllReadyH.cons (o := { dst := some 16, op := Op.assign (Operand.tmp 97), type := 29, pos := "outright.go:55", after := #[{ on := 8, ground := Ground.data }, { on := 10, ground := Ground.chain }, { on := 0, ground := Ground.phase }, { on := 1, ground := Ground.phase }, { on := 2, ground := Ground.phase }, { on := 3, ground := Ground.phase }, { on := 4, ground := Ground.phase }, { on := 5, ground := Ground.phase }, { on := 6, ground := Ground.phase }, { on := 7, ground := Ground.phase }, { on := 8, ground := Ground.phase }, { on := 9, ground := Ground.phase }, { on := 10, ground := Ground.phase }], guard := none }) rfl (fun K hK => ?_) ?_
                · go_simp
                  refine hK.out _ _ (by assumption) (fun hHeld => ?_)
                  clear hK K
                  try simp only [Act.put, List.setIfInBounds_toArray, List.set_cons_zero, List.set_cons_succ]
                  refine wpAnyH_done (by kernel_rfl) ?_ _
                  try go_wp2_with fail
                  go_meet
                  exact ⟨_, s2, rfl, rfl, Lib.hid ⟨hHeld, KS7, hO.keep (hw7.rows KU (by decide) (by decide)), hge⟩⟩
                exact AllReadyH.nil
              exact AllReadyH.nil
            exact AllReadyH.nil
          exact AllReadyH.nil
        case rest =>
          obtain ⟨wx, rfl⟩ : ∃ q : World, q = wc := ⟨_, rfl⟩
          obtain ⟨u, s2, rfl, rfl, HT16⟩ := hcut
          have hHX := HT16.out.since
          have hBX := (Since.mk HBW.out : Since w wr)
          have HBX := Lib.hid (Since.mk (then_ HBW.out HT16.out.since.out) : Since w wx)
          have KGX := Lib.hid (HT16.out.since.blk HKB.out)
          have KTX := Lib.hid (HT16.out.since.blk HKT.out)
          have KUX := Lib.hid HT16.out.blk
          have hlow := HA.out.low
          have HLOW := Lib.hid hlow
          clear hHX hBX hlow
          by_cases hN0 : N = 0
          · subst hN0
            have hW := whole_apply HA.out.fits HN.out
            have HW := Lib.hid hW
            have HG2 := Lib.hid (apply_taken HN.out).2.2.2.2
            have hnm : (applyD D1 R).name = D1.name := by rw [(apply_taken HN.out).2.2.2.1]; exact moved_name _ _
            have HNM : Hid ((applyD D1 R).name.size ≤ 4611686018427387904) := Lib.hid (by rw [hnm]; exact HA.out.name)
            have hf2 : SagaFits (applyD D1 R) := by obtain ⟨q1, q2, q3⟩ := HG2.out.fits HNM.out; exact ⟨q1, q2, q3⟩
            have HF2 := Lib.hid hf2
            have hfin1 : finishedD D1 = false := by
              unfold finishedD
              rw [decide_eq_false_iff_not]
              have := hW.open_
              omega
            have cF1 : ∀ W, Since w W → SagaOwn W w.heap.size s1 D1 → Calls Tryd.prog 20 #[s1.val] W fun e w' => e = .returned (.bool false) ∧ Below W.heap.size W w' := by
              intro W hW ho
              have h := finished_any s1 D1 W (HT.out.tabs.below hW.out) (ho.rd HA.out.good.small) FF.out
              rw [hfin1] at h
              exact h
            have CF1 := Lib.hid cF1
            obtain ⟨⟨bd1, bd2⟩, ⟨bd3, bd4⟩⟩ := HA.out.fits.bounds HA.out.good
            have hfit : FitsT T r.kind r.step := by rw [HRK.out, HRS.out]; exact hW.fits
            have cT := follow_any b T r wx KTX.out ⟨bd1, bd2⟩ ⟨bd3, bd4⟩ hfit
            rw [HRK.out, HKK.out] at cT
            have CT := Lib.hid cT
            have OWX := Lib.hid HT16.out.own
            have OW1 := Lib.hid (HA.out.rd.through HT16.out.since.out)
            have LDX := Lib.hid (LD16.out wx HT16.out.since)
            clear hW hnm hf2 hfin1 cF1 bd1 bd2 bd3 bd4 hfit cT
            go_wp2_with (first
              | (refine wpList_load_at rfl _ _ rfl _ _ rfl _ LDX.out rowRec ?_)
              | (go_at_call 14; (with_reducible refine (num_keep _ _).mono ?_); rintro e w9 ⟨rfl, rfl⟩))
            refine CT.out.mono ?_
            rintro e w7 ⟨rfl, KT7, hgr⟩
            have hrw := grown_rows hgr KTX.out (by decide) (by decide)
            have KG7 := Lib.hid (grown_blk hgr KGX.out (blk_ne KGX.out KTX.out (by decide)))
            have KU7 := Lib.hid (grown_blk hgr KUX.out (blk_ne KUX.out KTX.out (by decide)))
            have KTT7 := Lib.hid KT7
            have HB7 := Lib.hid (Since.mk (grown_below HBX.out.out hgr HBX.out.le HLOW.out.1) : Since w w7)
            have OW7 := Lib.hid (OWX.out.keep hrw)
            have CF7 := Lib.hid (CF1.out w7 HB7.out (OW1.out.keep hrw))
            have hug : u ≠ g := by
              have h1 := HT16.out.ge
              have h2 := blk_lt HKB.out
              omega
            clear hgr hrw KT7
            go_wp2_with (first
              | (refine wpList_load_blk_g rfl _ _ rfl _ rfl _ _ KG7.out rowSaga ?_)
              | (go_at_call 20; refine CF7.out.mono ?_; rintro e w8 ⟨rfl, hb8⟩; have HB8 := Lib.hid hb8; clear hb8)
              | (refine wpList_load_blk rfl _ _ rfl _ rfl _ _ (BlkAt.below KU7.out HB8.out (blk_lt KU7.out)) rowSaga ?_)
              | (refine wpList_store_blk rfl _ _ _ rfl _ rfl (sagaArr s2) rfl _ _ (BlkAt.below KG7.out HB8.out (blk_lt KG7.out)) (by rfl) (by simp [sagaArr, Value.oneCell']) rowSaga ?_; intro w9 hw9 KS9))
            have KG9 := Lib.hid KS9
            have hgl7 := blk_lt KG7.out
            have hb2 : b ≠ g := blk_ne KTX.out KGX.out (by decide)
            have KT9 := Lib.hid (hw9.blk (BlkAt.below KTT7.out HB8.out (blk_lt KTT7.out)) hb2)
            have HB9 := Lib.hid ((HB7.out.call HB8.out).wrote hw9 HLOW.out.2)
            have OW9 := Lib.hid ((OW7.out.through HB8.out).keep (hw9.rows (BlkAt.below KG7.out HB8.out hgl7) (by decide) (by decide)))
            have kc9 : ∀ W, Since w9 W → W.cell? ⟨b0, o0 + j * 12 + 1, none⟩ = some (.int .i64 kk) := by
              intro W hW
              have := HX.out 1 (by decide) W ((HB9.out.trans hW).out)
              simp only [RecV.cells, List.getElem?_cons_zero, List.getElem?_cons_succ] at this
              rw [HRK.out, HKK.out] at this
              exact this
            clear KS9 hw9 hgl7 hb2 hug
            by_cases k7 : kk = 7
            · as_aux_lemma =>
              subst k7
              have HFIN : Hid (finishedD (applyD D1 R) = true) := Lib.hid (by
                unfold finishedD
                rw [decide_eq_true_iff]
                have := HW.out.ends HKK.out
                exact ⟨(checkD_iff _).2 HG2.out, by omega⟩)
              go_upto_region 22 with fail
              simp only [Act.put, List.setIfInBounds_toArray, List.set_cons_succ, List.set_cons_zero]
              go_cut [160] (fun s160 wy => s160 = .bool false ∧ Hid (Since w9 wy))
              case first =>
               as_aux_lemma =>
                have c1 := kc9 w9 (Since.refl _)
                have hfz := KG9.out.cell 7
                have t0 := KT9.out.cell 0
                have t2 := KT9.out.cell 2
                have t3 := KT9.out.cell 3
                simp only [sagaArr, TrailD.cells, List.getElem?_toArray, List.getElem?_cons_zero, List.getElem?_cons_succ] at hfz t0 t2 t3
                have hph : s2.phase = (applyD D1 R).phase := by rw [OW9.out.eq]
                rw [hph] at hfz
                clear hph kc9
                rcases HW.out.ends HKK.out with ⟨p1, p2, p3⟩ | ⟨p1, p2⟩
                · rw [p1] at hfz
                  rw [HKK.out] at p2 p3
                  rw [p2] at t2
                  rw [p3] at t3
                  clear p1 p2 p3
                  go_quiet (fail)
                  try go_wp2_with fail
                  go_meet
                  exact ⟨by simp, Lib.hid (Since.mk (by exact Drawn.below ⟨⟨_, rfl⟩⟩))⟩
                · rw [p1] at hfz
                  rw [HKK.out] at p2
                  rw [p2] at t2
                  clear p1 p2
                  go_quiet (fail)
                  try go_wp2_with fail
                  go_meet
                  exact ⟨by simp, Lib.hid (Since.mk (by exact Drawn.below ⟨⟨_, rfl⟩⟩))⟩
              case rest =>
                obtain ⟨wy, rfl⟩ : ∃ q : World, q = wc := ⟨_, rfl⟩
                obtain ⟨rfl, HS22⟩ := hcut
                have KGY := Lib.hid (HS22.out.blk KG9.out)
                have KTY := Lib.hid (HS22.out.blk KT9.out)
                have hBY := HB9.out.call HS22.out.out
                have HBY := Lib.hid hBY
                have OWY := Lib.hid (OW9.out.through HS22.out.out)
                have kc : ∀ W, Since wy W → W.cell? ⟨b0, o0 + j * 12 + 1, none⟩ = some (.int .i64 7) := by
                  intro W hW
                  have := HX.out 1 (by decide) W ((HBY.out.trans hW).out)
                  simp only [RecV.cells, List.getElem?_cons_zero, List.getElem?_cons_succ] at this
                  rw [HRK.out, HKK.out] at this
                  exact this
                have KCY := Lib.hid kc
                have cF : ∀ W, Since wy W → Calls Tryd.prog 20 #[s2.val] W fun e w' => e = .returned (.bool true) ∧ Below W.heap.size W w' := by
                  intro W hW
                  have h := finished_any s2 (applyD D1 R) W (HT.out.tabs.below (HBY.out.trans hW).out) ((OWY.out.through hW.out).rd HG2.out.small) HF2.out
                  rw [HFIN.out] at h
                  exact h
                have CF := Lib.hid cF
                clear hBY kc cF
                go_wp2_with fail
                go_upto_region 24 with fail
                go_cut [169] (fun s169 wz => s169 = .bool false ∧ Hid (Since wy wz))
                case first =>
                 as_aux_lemma =>
                  refine wp_region_held_drew (S := Since wy) (by kernel_rfl) ((Since.refl wy).drew) (fun hHeld => ?_)
                  refine wpAnyH_take (i := 0) (oi := { dst := some 161, op := Op.load 25 (Operand.tmp 5), type := 25, pos := "outright.go:67", after := #[], guard := none }) (v := .agg (sagaArr s2)) rfl (by kernel_rfl) (by kernel_rfl) (by kernel_rfl) (fun _ _ _ h => h) (yl_blk rfl _ _ rfl _ rfl _ _ (fun w' h => h.blk KGY.out) rowSaga) (by assumption) ?_
                  try simp only [Act.put, List.setIfInBounds_toArray, List.set_cons_zero, List.set_cons_succ]
                  refine wpAnyH_take (i := 2) (oi := { dst := some 163, op := Op.move (Operand.tmp 0), type := 38, pos := "outright.go:67", after := #[], guard := none }) (v := ?_) rfl (by kernel_rfl) (by kernel_rfl) (by kernel_rfl) (fun _ _ _ h => h) (Or.inl ⟨by rfl, ?_⟩) (by assumption) ?_
                  rotate_left 1
                  focus (intro w hSw; (try clear hSw); go_simp; try (with_reducible rfl))
                  try simp only [Act.put, List.setIfInBounds_toArray, List.set_cons_zero, List.set_cons_succ]
                  refine wpAnyH_take (i := 3) (oi := { dst := some 164, op := Op.move (Operand.tmp 12), type := 3, pos := "outright.go:67", after := #[], guard := none }) (v := ?_) rfl (by kernel_rfl) (by kernel_rfl) (by kernel_rfl) (fun _ _ _ h => h) (Or.inl ⟨by rfl, ?_⟩) (by assumption) ?_
                  rotate_left 1
                  focus (intro w hSw; (try clear hSw); go_simp; try (with_reducible rfl))
                  try simp only [Act.put, List.setIfInBounds_toArray, List.set_cons_zero, List.set_cons_succ]
                  refine wpAnyH_take (i := 4) (oi := { dst := some 165, op := Op.indexAddr 38 (Operand.tmp 163) (Operand.tmp 164), type := 0, pos := "outright.go:67", after := #[{ on := 2, ground := Ground.data }, { on := 3, ground := Ground.data }], guard := none }) (v := ?_) rfl (by kernel_rfl) (by kernel_rfl) (by kernel_rfl) (fun _ _ _ h => h) (Or.inl ⟨by rfl, ?_⟩) (by assumption) ?_
                  rotate_left 1
                  focus (intro w hSw; (try clear hSw); go_simp; try (with_reducible rfl))
                  try simp only [Act.put, List.setIfInBounds_toArray, List.set_cons_zero, List.set_cons_succ]
                  refine wpAnyH_take (i := 5) (oi := { dst := some 166, op := Op.fieldAddr 27 (Operand.tmp 165) 1, type := 0, pos := "outright.go:67", after := #[{ on := 4, ground := Ground.data }], guard := none }) (v := ?_) rfl (by kernel_rfl) (by kernel_rfl) (by kernel_rfl) (fun _ _ _ h => h) (Or.inl ⟨by rfl, ?_⟩) (by assumption) ?_
                  rotate_left 1
                  focus (intro w hSw; (try clear hSw); go_simp; try (with_reducible rfl))
                  try simp only [Act.put, List.setIfInBounds_toArray, List.set_cons_zero, List.set_cons_succ]
                  refine wpAnyH_take (i := 6) (oi := { dst := some 167, op := Op.load 3 (Operand.tmp 166), type := 3, pos := "outright.go:67", after := #[{ on := 5, ground := Ground.data }], guard := none }) (v := .int .i64 7) rfl (by kernel_rfl) (by kernel_rfl) (by kernel_rfl) (fun _ _ _ h => h) (yl_cell rfl _ _ rfl _ rfl (.int .i64 7) (fun w' h => KCY.out w' h) one_int) (by assumption) ?_
                  try simp only [Act.put, List.setIfInBounds_toArray, List.set_cons_zero, List.set_cons_succ]
                  refine wpAnyH_take (i := 7) (oi := { dst := some 168, op := Op.binOp BinOp.eql 3 (Operand.tmp 167) (Operand.const (Value.int IntKind.i64 7)) 3, type := 4, pos := "outright.go:67", after := #[{ on := 6, ground := Ground.data }], guard := none }) (v := ?_) rfl (by kernel_rfl) (by kernel_rfl) (by kernel_rfl) (fun _ _ _ h => h) (Or.inl ⟨by rfl, ?_⟩) (by assumption) ?_
                  rotate_left 1
                  focus (intro w hSw; (try clear hSw); go_simp; try (with_reducible rfl))
                  try simp only [Act.put, List.setIfInBounds_toArray, List.set_cons_zero, List.set_cons_succ]
                  refine wpAnyH_ready (rs := [1]) (by kernel_rfl) (by simp) ?_
                  refine AllReadyH.cons (o := { dst := some 162, op := Op.call { callee := Callee.value (Operand.func 20), args := #[Operand.tmp 161], argTypes := #[25] }, type := 4, pos := "outright.go:67", after := #[{ on := 0, ground := Ground.data }], guard := none }) rfl (fun K hK => ?_) ?_
                  · go_simp
                    refine (CF.out _ hHeld).mono ?_
                    rintro e w6 ⟨rfl, hb⟩
                    try go_wp2_with fail
                    refine hK.out _ _ (hHeld.call hb) (fun hHeld => ?_)
                    clear hK K
                    try simp only [Act.put, List.setIfInBounds_toArray, List.set_cons_zero, List.set_cons_succ]
                    refine wpAnyH_take (i := 8) (oi := { dst := some 169, op := Op.binOp BinOp.neq 4 (Operand.tmp 162) (Operand.tmp 168) 4, type := 4, pos := "outright.go:67", after := #[{ on := 1, ground := Ground.data }, { on := 7, ground := Ground.data }], guard := none }) (v := ?_) rfl (by kernel_rfl) (by kernel_rfl) (by kernel_rfl) (fun _ _ _ h => h) (Or.inl ⟨by rfl, ?_⟩) (by assumption) ?_
                    rotate_left 1
                    focus (intro w hSw; (try clear hSw); go_simp; try (with_reducible rfl))
                    try simp only [Act.put, List.setIfInBounds_toArray, List.set_cons_zero, List.set_cons_succ]
                    refine wpAnyH_done (by kernel_rfl) ?_ _
                    try go_wp2_with fail
                    go_meet
                    exact ⟨by first | (simp; done) | (simp; exact k7), Lib.hid hHeld⟩
                  exact AllReadyH.nil
                case rest =>
                  obtain ⟨wz, rfl⟩ : ∃ q : World, q = wc := ⟨_, rfl⟩
                  obtain ⟨rfl, HS24⟩ := hcut
                  have hAt : At w wz g b s2 (applyD D1 R) (followD T R.kind) := ⟨HS24.out.blk KGY.out, OWY.out.through HS24.out.out, HG2.out, HNM.out, by rw [HKK.out]; exact HS24.out.blk KTY.out, HW.out.next, HLOW.out, (HBY.out.trans HS24.out).out⟩
                  have HAT2 := Lib.hid hAt
                  clear hAt
                  go_wp2_with fail
                  all_goals go_roundw
                  case rel => exact ⟨j + 1, b, s2, _, _, by omega, rfl, by go_num, HAT2⟩
                  case measure => simp [intOf]; omega
            · as_aux_lemma =>
              have HFIN : Hid (finishedD (applyD D1 R) = false) := Lib.hid (by
                unfold finishedD
                rw [decide_eq_false_iff_not]
                have := HW.out.goes (by rw [HKK.out]; exact k7)
                omega)
              go_upto_region 22 with fail
              simp only [Act.put, List.setIfInBounds_toArray, List.set_cons_succ, List.set_cons_zero]
              go_cut [160] (fun s160 wy => s160 = .bool false ∧ Hid (Since w9 wy))
              case first =>
               as_aux_lemma =>
                have c1 := kc9 w9 (Since.refl _)
                have k7' : (kk == 7) = false := by rw [beq_eq_false_iff_ne]; exact k7
                clear kc9
                go_quiet (fail)
                try go_wp2_with fail
                go_meet
                exact ⟨by simp, Lib.hid (Since.mk (by exact Drawn.below ⟨⟨_, rfl⟩⟩))⟩
              case rest =>
                obtain ⟨wy, rfl⟩ : ∃ q : World, q = wc := ⟨_, rfl⟩
                obtain ⟨rfl, HS22⟩ := hcut
                have KGY := Lib.hid (HS22.out.blk KG9.out)
                have KTY := Lib.hid (HS22.out.blk KT9.out)
                have hBY := HB9.out.call HS22.out.out
                have HBY := Lib.hid hBY
                have OWY := Lib.hid (OW9.out.through HS22.out.out)
                have kc : ∀ W, Since wy W → W.cell? ⟨b0, o0 + j * 12 + 1, none⟩ = some (.int .i64 kk) := by
                  intro W hW
                  have := HX.out 1 (by decide) W ((HBY.out.trans hW).out)
                  simp only [RecV.cells, List.getElem?_cons_zero, List.getElem?_cons_succ] at this
                  rw [HRK.out, HKK.out] at this
                  exact this
                have KCY := Lib.hid kc
                have cF : ∀ W, Since wy W → Calls Tryd.prog 20 #[s2.val] W fun e w' => e = .returned (.bool false) ∧ Below W.heap.size W w' := by
                  intro W hW
                  have h := finished_any s2 (applyD D1 R) W (HT.out.tabs.below (HBY.out.trans hW).out) ((OWY.out.through hW.out).rd HG2.out.small) HF2.out
                  rw [HFIN.out] at h
                  exact h
                have CF := Lib.hid cF
                clear hBY kc cF
                go_wp2_with fail
                go_upto_region 24 with fail
                go_cut [169] (fun s169 wz => s169 = .bool false ∧ Hid (Since wy wz))
                case first =>
                 as_aux_lemma =>
                  refine wp_region_held_drew (S := Since wy) (by kernel_rfl) ((Since.refl wy).drew) (fun hHeld => ?_)
                  refine wpAnyH_take (i := 0) (oi := { dst := some 161, op := Op.load 25 (Operand.tmp 5), type := 25, pos := "outright.go:67", after := #[], guard := none }) (v := .agg (sagaArr s2)) rfl (by kernel_rfl) (by kernel_rfl) (by kernel_rfl) (fun _ _ _ h => h) (yl_blk rfl _ _ rfl _ rfl _ _ (fun w' h => h.blk KGY.out) rowSaga) (by assumption) ?_
                  try simp only [Act.put, List.setIfInBounds_toArray, List.set_cons_zero, List.set_cons_succ]
                  refine wpAnyH_take (i := 2) (oi := { dst := some 163, op := Op.move (Operand.tmp 0), type := 38, pos := "outright.go:67", after := #[], guard := none }) (v := ?_) rfl (by kernel_rfl) (by kernel_rfl) (by kernel_rfl) (fun _ _ _ h => h) (Or.inl ⟨by rfl, ?_⟩) (by assumption) ?_
                  rotate_left 1
                  focus (intro w hSw; (try clear hSw); go_simp; try (with_reducible rfl))
                  try simp only [Act.put, List.setIfInBounds_toArray, List.set_cons_zero, List.set_cons_succ]
                  refine wpAnyH_take (i := 3) (oi := { dst := some 164, op := Op.move (Operand.tmp 12), type := 3, pos := "outright.go:67", after := #[], guard := none }) (v := ?_) rfl (by kernel_rfl) (by kernel_rfl) (by kernel_rfl) (fun _ _ _ h => h) (Or.inl ⟨by rfl, ?_⟩) (by assumption) ?_
                  rotate_left 1
                  focus (intro w hSw; (try clear hSw); go_simp; try (with_reducible rfl))
                  try simp only [Act.put, List.setIfInBounds_toArray, List.set_cons_zero, List.set_cons_succ]
                  refine wpAnyH_take (i := 4) (oi := { dst := some 165, op := Op.indexAddr 38 (Operand.tmp 163) (Operand.tmp 164), type := 0, pos := "outright.go:67", after := #[{ on := 2, ground := Ground.data }, { on := 3, ground := Ground.data }], guard := none }) (v := ?_) rfl (by kernel_rfl) (by kernel_rfl) (by kernel_rfl) (fun _ _ _ h => h) (Or.inl ⟨by rfl, ?_⟩) (by assumption) ?_
                  rotate_left 1
                  focus (intro w hSw; (try clear hSw); go_simp; try (with_reducible rfl))
                  try simp only [Act.put, List.setIfInBounds_toArray, List.set_cons_zero, List.set_cons_succ]
                  refine wpAnyH_take (i := 5) (oi := { dst := some 166, op := Op.fieldAddr 27 (Operand.tmp 165) 1, type := 0, pos := "outright.go:67", after := #[{ on := 4, ground := Ground.data }], guard := none }) (v := ?_) rfl (by kernel_rfl) (by kernel_rfl) (by kernel_rfl) (fun _ _ _ h => h) (Or.inl ⟨by rfl, ?_⟩) (by assumption) ?_
                  rotate_left 1
                  focus (intro w hSw; (try clear hSw); go_simp; try (with_reducible rfl))
                  try simp only [Act.put, List.setIfInBounds_toArray, List.set_cons_zero, List.set_cons_succ]
                  refine wpAnyH_take (i := 6) (oi := { dst := some 167, op := Op.load 3 (Operand.tmp 166), type := 3, pos := "outright.go:67", after := #[{ on := 5, ground := Ground.data }], guard := none }) (v := .int .i64 kk) rfl (by kernel_rfl) (by kernel_rfl) (by kernel_rfl) (fun _ _ _ h => h) (yl_cell rfl _ _ rfl _ rfl (.int .i64 kk) (fun w' h => KCY.out w' h) one_int) (by assumption) ?_
                  try simp only [Act.put, List.setIfInBounds_toArray, List.set_cons_zero, List.set_cons_succ]
                  refine wpAnyH_take (i := 7) (oi := { dst := some 168, op := Op.binOp BinOp.eql 3 (Operand.tmp 167) (Operand.const (Value.int IntKind.i64 7)) 3, type := 4, pos := "outright.go:67", after := #[{ on := 6, ground := Ground.data }], guard := none }) (v := ?_) rfl (by kernel_rfl) (by kernel_rfl) (by kernel_rfl) (fun _ _ _ h => h) (Or.inl ⟨by rfl, ?_⟩) (by assumption) ?_
                  rotate_left 1
                  focus (intro w hSw; (try clear hSw); go_simp; try (with_reducible rfl))
                  try simp only [Act.put, List.setIfInBounds_toArray, List.set_cons_zero, List.set_cons_succ]
                  refine wpAnyH_ready (rs := [1]) (by kernel_rfl) (by simp) ?_
                  refine AllReadyH.cons (o := { dst := some 162, op := Op.call { callee := Callee.value (Operand.func 20), args := #[Operand.tmp 161], argTypes := #[25] }, type := 4, pos := "outright.go:67", after := #[{ on := 0, ground := Ground.data }], guard := none }) rfl (fun K hK => ?_) ?_
                  · go_simp
                    refine (CF.out _ hHeld).mono ?_
                    rintro e w6 ⟨rfl, hb⟩
                    try go_wp2_with fail
                    refine hK.out _ _ (hHeld.call hb) (fun hHeld => ?_)
                    clear hK K
                    try simp only [Act.put, List.setIfInBounds_toArray, List.set_cons_zero, List.set_cons_succ]
                    refine wpAnyH_take (i := 8) (oi := { dst := some 169, op := Op.binOp BinOp.neq 4 (Operand.tmp 162) (Operand.tmp 168) 4, type := 4, pos := "outright.go:67", after := #[{ on := 1, ground := Ground.data }, { on := 7, ground := Ground.data }], guard := none }) (v := ?_) rfl (by kernel_rfl) (by kernel_rfl) (by kernel_rfl) (fun _ _ _ h => h) (Or.inl ⟨by rfl, ?_⟩) (by assumption) ?_
                    rotate_left 1
                    focus (intro w hSw; (try clear hSw); go_simp; try (with_reducible rfl))
                    try simp only [Act.put, List.setIfInBounds_toArray, List.set_cons_zero, List.set_cons_succ]
                    refine wpAnyH_done (by kernel_rfl) ?_ _
                    try go_wp2_with fail
                    go_meet
                    exact ⟨by first | (simp; done) | (simp; exact k7), Lib.hid hHeld⟩
                  exact AllReadyH.nil
                case rest =>
                  obtain ⟨wz, rfl⟩ : ∃ q : World, q = wc := ⟨_, rfl⟩
                  obtain ⟨rfl, HS24⟩ := hcut
                  have hAt : At w wz g b s2 (applyD D1 R) (followD T R.kind) := ⟨HS24.out.blk KGY.out, OWY.out.through HS24.out.out, HG2.out, HNM.out, by rw [HKK.out]; exact HS24.out.blk KTY.out, HW.out.next, HLOW.out, (HBY.out.trans HS24.out).out⟩
                  have HAT2 := Lib.hid hAt
                  clear hAt
                  go_wp2_with fail
                  all_goals go_roundw
                  case rel => exact ⟨j + 1, b, s2, _, _, by omega, rfl, by go_num, HAT2⟩
                  case measure => simp [intOf]; omega
          · as_aux_lemma =>
            have hN0' : (N == 0) = false := by rw [beq_eq_false_iff_ne]; exact hN0
            have hAt : At w wx g b s1 D1 T :=
              ⟨KGX.out, HA.out.rd.through HT16.out.since.out, HA.out.good, HA.out.name, KTX.out, HA.out.fits, HA.out.low, HBX.out.out⟩
            have HAT2 := Lib.hid hAt
            clear hAt
            go_wp2_with (go_at_call 14; (with_reducible refine (num_keep _ _).mono ?_); rintro e w9 ⟨rfl, rfl⟩)
            all_goals go_roundw
            case rel => exact ⟨j + 1, b, s1, D1, T, by omega, rfl, by go_num, HAT2⟩
            case measure => simp [intOf]; omega
    · have hjn' : j = n := by omega
      subst hjn'
      have HZ := Lib.hid HA.out.below
      clear HA
      go_wp2
      all_goals go_ret
      all_goals exact ⟨rfl, HZ.out⟩
end sagaWhole
end Go.Proofs.YteaiadpigpehaaaDoor
