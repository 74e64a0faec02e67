/-
  ReplayApart: the law walked: it answers true. Conditions: the tables, as laid. (Printed by wip/gen_apart.py.)
-/
import Derived.Test.YtfbaliimjmimhaaDoorApartSt
namespace Go.Proofs.YtfbaliimjmimhaaDoor.replayApart
open Go.RowKit

set_option maxRecDepth 10000000 in
set_option maxHeartbeats 4000000 in
theorem walk (s : Sl) (Rs : List RecD) (t : Sl) (ord : List Int) (w : World) (tT : Tables w) (tD : LandsAt w) (h : RecsAt w s Rs) (hc : s.n ≤ s.c) (hd : ∀ R ∈ Rs, LawRec R) (hord : IntsAt w t ord) :
    Calls Tryd.prog 4 #[s.v, t.v] w fun e w' => e = .returned (.bool true) ∧ Below w.heap.size w w' := by
  have C1 := Lib.hid (fun w1 (hb : Below w.heap.size w w1) => cut16o_any s Rs w1 (h.below hb) hc hd)
  have HORD := Lib.hid hord
  clear hord
  have hok := cut16_ok hd
  have hlen := @cut16_len Rs
  have hn := cutL_len 16385 Rs
  obtain ⟨L, hL⟩ : ∃ q, cutL 16385 Rs = q := ⟨_, rfl⟩
  rw [hL] at C1 hok hlen hn
  obtain ⟨⟨f, k⟩, hF⟩ : ∃ q, foldB noBag L = q := ⟨_, rfl⟩
  have hkl : k ≤ L.length := by have := foldB_le L noBag; rw [hF] at this; exact this
  have hT := foldB_take L noBag
  rw [hF] at hT
  have hlk : (L.take k).length = k := by simp; omega
  have hGok : ∀ R ∈ L.take k, FoldOk R := fun R hR => hok R (List.mem_of_mem_take hR)
  have hGlen : ∀ R ∈ L.take k, R.data.length ≤ 9223372036854775807 := fun R hR => hlen R (List.mem_of_mem_take hR)
  have hgb := fold_goodBag hok
  rw [hF] at hgb
  obtain ⟨G, hG⟩ : ∃ q, L.take k = q := ⟨_, rfl⟩
  rw [hG] at hT hlk hGok hGlen
  have HT := Lib.hid tT
  have HL := Lib.hid tD
  have HF := Lib.hid hF
  have HOK := Lib.hid hok
  have HLEN := Lib.hid hlen
  have HGOK := Lib.hid hGok
  have HGLEN := Lib.hid hGlen
  have HTK := Lib.hid hT
  have HLK := Lib.hid hlk
  have HG := Lib.hid hG
  have HGB := Lib.hid hgb
  clear tT tD h hd hL hF hT hok hlen hlk hGok hGlen hG hgb
  obtain ⟨ta, tn, tc⟩ := t
  dsimp only [Sl.v] at HORD ⊢
  go_enter Tryd.func4, Tryd.ntmps4
  go_wp2_with fail
  refine (awake_any w HT.out HL.out).mono ?_
  rintro e w1 ⟨rfl, b1⟩
  have B1 := Lib.hid b1
  clear b1
  go_wp2_with fail
  refine (C1.out w1 B1.out).mono ?_
  rintro e w2 ⟨⟨a1, n1, c1⟩, rfl, hn1, r1, b2⟩
  simp only at hn1
  subst hn1
  dsimp only
  have R2 := Lib.hid (r1.lower (c := w.heap.size) B1.out.size)
  have B2 := Lib.hid (then_ B1.out b2)
  clear r1 b2 B1 C1
  have CG := Lib.hid (legal_use ⟨a1, L.length, c1⟩ L w.heap.size w2 (HT.out.below B2.out) (HL.out.below B2.out) (OwnRecs.recsIn (v := ⟨a1, L.length, c1⟩) R2.out) HOK.out HLEN.out (by omega) k f HF.out)
  go_wp2_with fail
  refine CG.out.mono ?_
  rintro e w4 ⟨⟨va, vn, vc⟩, Ss, rfl, st4, -, b4⟩
  dsimp only
  obtain ⟨w5, hw5⟩ : ∃ q, w4.alloc (.cells #[.int .i64 (k : Nat), .slice va vn vc] 27) = q := ⟨_, rfl⟩
  have hbw5 : Below w4.heap.size w4 w5 := by rw [← hw5]; exact boxd (Below.refl _ _)
  have K5 : Hid (BlkAt w5 w4.heap.size #[.int .i64 (k : Nat), .slice va vn vc] 27) := Lib.hid (by rw [← hw5]; exact BlkAt.new _ _ _)
  have HWw5 := Lib.hid hw5
  clear hw5
  have B45 := then_ b4 hbw5
  have S5 := Lib.hid (st4.below hbw5)
  have R5 := Lib.hid (show RecsIn w5 w.heap.size ⟨a1, k, c1⟩ G from by rw [← HG.out]; exact RecsIn.take (OwnRecs.recsIn (v := ⟨a1, L.length, c1⟩) (R2.out.through B45)) hkl)
  have B5 := Lib.hid (then_ B2.out B45)
  clear st4 b4 hbw5 B45 R2 B2 CG
  have hG160 : G.length ≤ 160 := by have := HLK.out; omega
  have hGl : (foldB noBag G).2 = G.length := by rw [HTK.out, HLK.out]
  have HGL := Lib.hid hGl
  have hS : StateOf (foldB noBag G).1 Ss := by rw [HTK.out]; exact S5.out.of
  have hsum := sumJ_all hGl (by rw [HTK.out]; exact HGB.out) hS
  have HSUM := Lib.hid hsum
  have HS := Lib.hid hS
  clear hGl hS hsum
  have CI := Lib.hid (mingled_any ⟨a1, k, c1⟩ G ⟨ta, tn, tc⟩ ord w.heap.size w5 R5.out (HORD.out.below B5.out) B5.out.size (by omega))
  dsimp only [Sl.v] at CI
  go_upto_region 4 with fail
  rw [HWw5.out]
  clear HWw5
  go_wp2_with fail
  refine CI.out.mono ?_
  rintro e w6 ⟨⟨ma, mn, mc⟩, m, rfl, om, hm, hml, b6⟩
  obtain ⟨hA1, hA2⟩ := fold_apart (f := noBag) HGL.out hm
  have B6 := Lib.hid (then_ B5.out b6)
  have rm := OwnRecs.recsIn (v := ⟨ma, mn, mc⟩) om
  have CF := fold_legal ⟨ma, mn, mc⟩ m w6 (HT.out.below B6.out) (HL.out.below B6.out) (rm.recsAt (fun R hR => HGLEN.out R (apart_mem hm R hR))) (fun R hR => HGOK.out R (apart_mem hm R hR)) (by omega) hA1
  rw [hml, HLK.out] at CF
  have HCF := Lib.hid CF
  have HA2 := Lib.hid hA2
  have S6 := Lib.hid (S5.out.below b6)
  have R6 := Lib.hid (R5.out.below b6)
  have K56 := Lib.hid (K5.out.below b6 (blk_lt K5.out))
  clear om hm hml b6 hA1 hA2 rm CF S5 R5 K5 CI B5
  dsimp only at HCF
  go_wp2_with fail
  refine HCF.out.mono ?_
  rintro e w7 ⟨⟨xa, xn, xc⟩, Ts, rfl, st7, b7⟩
  dsimp only
  obtain ⟨w8, hw8⟩ : ∃ q, w7.alloc (.cells #[.int .i64 (k : Nat), .slice xa xn xc] 27) = q := ⟨_, rfl⟩
  have hbw8 : Below w7.heap.size w7 w8 := by rw [← hw8]; exact boxd (Below.refl _ _)
  have K8 : Hid (BlkAt w8 w7.heap.size #[.int .i64 (k : Nat), .slice xa xn xc] 27) := Lib.hid (by rw [← hw8]; exact BlkAt.new _ _ _)
  have HWw8 := Lib.hid hw8
  clear hw8
  have B78 := then_ b7 hbw8
  have hTs : Ts = Ss := StateOf.unique st7.of S6.out.of (fun id => by rw [HA2.out id, HTK.out])
  subst hTs
  have S8 := Lib.hid (S6.out.below B78)
  have R8 := Lib.hid (R6.out.below B78)
  have K58 := Lib.hid (K56.out.below B78 (blk_lt K56.out))
  have B8 := Lib.hid (then_ B6.out B78)
  have CM := Lib.hid (same_states (k : Int) ⟨xa, xn, xc⟩ ⟨va, vn, vc⟩ Ts w8 (st7.at_.below hbw8) S8.out.at_)
  clear st7 b7 hbw8 B78 S6 R6 K56 B6 HCF HA2
  go_upto_region 7 with fail
  rw [HWw8.out]
  clear HWw8
  go_wp2_with (first
    | ((with_reducible refine wpList_load_blk_g ?_ _ (.tmp 8) ?_ (w7.heap.size) ?_ 27 (_) K8.out rowState ?_); rotate_left; exact rfl; exact rfl; rotate_left; kernel_rfl)
    | ((with_reducible refine wpList_load_blk_g ?_ _ (.tmp 6) ?_ (w4.heap.size) ?_ 27 (_) K58.out rowState ?_); rotate_left; exact rfl; exact rfl; rotate_left; kernel_rfl))
  refine CM.out.mono ?_
  rintro e Y ⟨rfl, b9⟩
  have SY := Lib.hid (S8.out.below b9)
  have RY := Lib.hid (R8.out.below b9)
  have KY := Lib.hid (K58.out.below b9 (blk_lt K58.out))
  have BY := Lib.hid (then_ B8.out b9)
  clear b9 S8 R8 K58 K8 B8 CM
  obtain ⟨ss, p1, p2, p3, p4, p5⟩ := SY.out.at_
  simp only at p1 p3 p4
  have hvn : vn = Ts.length := by omega
  subst hvn
  have hmax := p3.1
  have HC := Lib.hid p4
  have HRD := Lib.hid p5
  have HP2 := Lib.hid p2
  have HSO := Lib.hid SY.out.of
  have HOF := Lib.hid HS.out
  clear p1 p2 p3 p4 p5 SY
  have hYw : w.heap.size ≤ Y.heap.size := BY.out.size
  go_wp2_with fail
  go_loopw [10, 11] (fun nv iv wr => ∃ j : Nat, nv = .int .i64 (sumJ Ts G j : Nat) ∧ iv = .int .i64 j ∧ j ≤ Ts.length ∧ Hid (Below Y.heap.size Y wr)) (fun _ iv _ => Ts.length - (intOf iv).toNat)
  case atStart => exact ⟨0, rfl, rfl, by omega, Lib.hid (Below.refl _ _)⟩
  case round =>
    obtain ⟨j, rfl, rfl, hj, HB⟩ := hrel
    have KR := Lib.hid (KY.out.below HB.out (blk_lt KY.out))
    by_cases hlt : j < Ts.length
    · obtain ⟨b0, o0, e0, hc0⟩ := HC.out (by omega)
      subst e0
      have ja : j < ss.length := by have := HP2.out; omega
      have hci : ∀ q (hq : q < Ts.length), Y.cell? ⟨b0, o0 + q * 16, none⟩ = some (.int .i64 Ts[q].id) := fun q hq => by
        have h1 := hc0 q (by have := HP2.out; omega) 0 (by omega)
        rw [Nat.add_zero] at h1
        rw [h1, (HRD.out q (by have := HP2.out; omega) hq).eq]; rfl
      have HCI := Lib.hid hci
      have lda := sagas_ld hc0 j ja
      have hrd := HRD.out j ja hlt
      have hmem : Ts[j] ∈ Ts := List.getElem_mem hlt
      have hss := sumJ_succ (G := G) hlt
      have hle := sumJ_le (Ss := Ts) (G := G) (j := j + 1)
      rw [HSUM.out] at hle
      have hci1 := hci j hlt
      obtain ⟨x, hx⟩ : ∃ q, ss[j] = q := ⟨_, rfl⟩
      obtain ⟨D, hD⟩ : ∃ q, Ts[j] = q := ⟨_, rfl⟩
      rw [hx] at lda hrd
      rw [hD] at hrd hmem hss hci1
      have HD := Lib.hid hD
      clear hx hD
      obtain ⟨di, hdi⟩ : ∃ q, D.id = q := ⟨_, rfl⟩
      rw [hdi] at hss hci1
      obtain ⟨LO, hLO⟩ : ∃ q, (ofB di G).length = q := ⟨_, rfl⟩
      rw [hLO] at hss
      obtain ⟨SJ, hSJ⟩ : ∃ q, sumJ Ts G j = q := ⟨_, rfl⟩
      rw [hSJ] at hss ⊢
      have hbd : SJ + LO ≤ 160 := by omega
      have HSS := Lib.hid hss
      have HLO := Lib.hid hLO
      have HDI := Lib.hid hdi
      have HMEM := Lib.hid hmem
      have HXR := Lib.hid hrd
      have LDA := Lib.hid lda
      have LI := Lib.hid ((HB.out.cell (World.block_lt_of_cell? Y _ hci1)).trans hci1)
      have RR := Lib.hid (RY.out.below HB.out)
      have BR := Lib.hid (then_ BY.out HB.out)
      have CO := of_any ⟨a1, k, c1⟩ G di false w.heap.size wr RR.out (by omega) (by have := BR.out.size; omega)
      rw [ofP_false] at CO
      have HCO := Lib.hid CO
      clear hc0 ja hci lda hrd hmem hss hle hci1 hdi hLO hSJ CO
      dsimp only [Sl.v] at HCO
      go_wp2_with (first
        | ((with_reducible refine wpList_load_field ?_ _ (.tmp 42) ?_ (w4.heap.size) 1 ?_ 27 (#[.int .i64 (k : Nat), .slice (some ⟨b0, o0, none⟩) Ts.length vc]) KR.out (.slice (some ⟨b0, o0, none⟩) Ts.length vc) ?_ one_sagas' ?_); rotate_left; exact rfl; exact rfl; exact rfl; rotate_left; exact rfl)
        | ((with_reducible refine wpList_load_field ?_ _ (.tmp 49) ?_ (w4.heap.size) 1 ?_ 27 (#[.int .i64 (k : Nat), .slice (some ⟨b0, o0, none⟩) Ts.length vc]) KR.out (.slice (some ⟨b0, o0, none⟩) Ts.length vc) ?_ one_sagas' ?_); rotate_left; exact rfl; exact rfl; exact rfl; rotate_left; exact rfl)
        | ((with_reducible refine wpList_load_cell ?_ _ (.tmp 53) ?_ (⟨b0, o0 + j * 16, none⟩) ?_ (.int .i64 di) LI.out one_int ?_); rotate_left; exact rfl; exact rfl; rotate_left; exact rfl))
      refine HCO.out.mono ?_
      rintro e w10 ⟨⟨ya, yn, yc⟩, rfl, ho, -, hb10⟩
      have B10 := Lib.hid (then_ HB.out hb10)
      have B10w := Lib.hid (then_ BY.out B10.out)
      have ry := OwnRecs.recsIn (v := ⟨ya, yn, yc⟩) ho
      have hyn := ry.len
      simp only at hyn
      rw [HLO.out] at hyn
      subst hyn
      have hOl : ∀ Us, StateOf (foldB noBag (ofB di G)).1 Us → Us = [D] := fun Us hu => by
        have h := own_state (Ts := Us) (D := D) HGL.out HOF.out HMEM.out
        rw [HDI.out] at h
        exact (h hu).2
      have CF := fold_legal ⟨ya, yn, yc⟩ (ofB di G) w10 (HT.out.below B10w.out) (HL.out.below B10w.out) (ry.recsAt (fun R hR => HGLEN.out R (ofB_mem R hR))) (fun R hR => HGOK.out R (ofB_mem R hR)) (by rw [HLO.out]; omega) (by
        have := (fold_left (f := noBag) (fun id => decide (id = di)) HGL.out).1
        exact this)
      rw [HLO.out] at CF
      have HCF := Lib.hid CF
      have HOL := Lib.hid hOl
      clear ho hb10 ry hOl CF HCO KR
      dsimp only at HCF
      dsimp only
      go_wp2_with fail
      refine HCF.out.mono ?_
      rintro e w11 ⟨⟨za, zn, zc⟩, Us, rfl, st11, b11⟩
      have hUs : Us = [D] := HOL.out Us st11.of
      subst hUs
      obtain ⟨zs, z1, z2, z3, z4, z5⟩ := st11.at_
      simp only at z1 z3 z4
      have hzn : zn = 1 := by simp at z2; omega
      subst hzn
      obtain ⟨bz, oz, ez, hcz⟩ := z4 (by omega)
      subst ez
      have ldz := sagas_ld hcz 0 (by omega)
      have hrz := z5 0 (by omega) (by simp)
      obtain ⟨y, hy⟩ : ∃ q, zs[0]'(by omega) = q := ⟨_, rfl⟩
      rw [hy] at ldz hrz
      simp only [List.getElem_cons_zero, Nat.zero_mul, Nat.add_zero] at ldz hrz
      dsimp only
      obtain ⟨w12, hw12⟩ : ∃ q, w11.alloc (.cells #[.int .i64 (yn : Nat), .slice (some ⟨bz, oz, none⟩) 1 zc] 27) = q := ⟨_, rfl⟩
      have hbw12 : Below w11.heap.size w11 w12 := by rw [← hw12]; exact boxd (Below.refl _ _)
      have K12 : Hid (BlkAt w12 w11.heap.size #[.int .i64 (yn : Nat), .slice (some ⟨bz, oz, none⟩) 1 zc] 27) := Lib.hid (by rw [← hw12]; exact BlkAt.new _ _ _)
      have HWw12 := Lib.hid hw12
      clear hw12
      have B1112 := then_ b11 hbw12
      have B12 := Lib.hid (then_ B10.out B1112)
      have LDZ : Hid (∀ W, Since w12 W → ∀ i, i < (sagaArr y).size → W.cell? ⟨bz, oz + i, none⟩ = (sagaArr y)[i]?) := Lib.hid (fun W hW => ldz W (then_ hbw12 hW.out))
      have LDX : Hid (∀ W, Since w12 W → ∀ i, i < (sagaArr x).size → W.cell? ⟨b0, o0 + j * 16 + i, none⟩ = (sagaArr x)[i]?) := Lib.hid (fun W hW => LDA.out W (then_ B12.out hW.out))
      have RZ := Lib.hid (hrz.below hbw12)
      have RX := Lib.hid (HXR.out.below B12.out)
      have K12' : Hid (∀ W, Since w12 W → BlkAt W w11.heap.size #[.int .i64 (yn : Nat), .slice (some ⟨bz, oz, none⟩) 1 zc] 27) := Lib.hid (fun W hW => hW.blk K12.out)
      have KS := Lib.hid (KY.out.below B12.out (blk_lt KY.out))
      have KS' : Hid (∀ W, Since w12 W → BlkAt W w4.heap.size #[.int .i64 (k : Nat), .slice (some ⟨b0, o0, none⟩) Ts.length vc] 27) := Lib.hid (fun W hW => hW.blk KS.out)
      clear st11 b11 hbw12 B1112 z1 z2 z3 z4 z5 hcz ldz hrz hy HCF HOL K12 LDA HXR
      go_upto_region 15 with fail
      rw [HWw12.out]
      clear HWw12
      go_cut [88] (fun s0 wx => s0 = .bool false ∧ Hid (Since w12 wx))
      case first =>
        refine wp_region_held_drew (S := Since w12) (by kernel_rfl) ((Since.refl w12).drew) (fun hHeld => ?_)
        refine wpAnyH_take (i := 0) (oi := { dst := some 61, op := Op.move (Operand.tmp 14), type := 3, pos := "outright.go:94", after := #[], guard := none }) (v := ?_) rfl (by kernel_rfl) (by kernel_rfl) (by kernel_rfl) (fun _ _ _ h => h) (Or.inl ⟨by rfl, ?_⟩) (by assumption) ?_
        rotate_left 1
        focus (intro w hSw; (try clear hSw); go_simp; try (with_reducible rfl))
        try go_frame
        refine wpAnyH_take (i := 1) (oi := { dst := some 62, op := Op.binOp BinOp.neq 3 (Operand.tmp 61) (Operand.const (Value.int IntKind.i64 (-1))) 3, type := 4, pos := "outright.go:94", after := #[{ on := 0, ground := Ground.data }], guard := none }) (v := ?_) rfl (by kernel_rfl) (by kernel_rfl) (by kernel_rfl) (fun _ _ _ h => h) (Or.inl ⟨by rfl, ?_⟩) (by assumption) ?_
        rotate_left 1
        focus (intro w hSw; (try clear hSw); go_simp; try (with_reducible rfl))
        try go_frame
        refine wpAnyH_take (i := 2) (oi := { dst := some 63, op := Op.move (Operand.tmp 62), type := 4, pos := "outright.go:94", after := #[{ on := 1, ground := Ground.data }], guard := none }) (v := ?_) rfl (by kernel_rfl) (by kernel_rfl) (by kernel_rfl) (fun _ _ _ h => h) (Or.inl ⟨by rfl, ?_⟩) (by assumption) ?_
        rotate_left 1
        focus (intro w hSw; (try clear hSw); go_simp; try (with_reducible rfl))
        try go_frame
        refine wpAnyH_take (i := 3) (oi := { dst := some 64, op := Op.fieldAddr 27 (Operand.tmp 13) 0, type := 0, pos := "outright.go:94", after := #[{ on := 2, ground := Ground.guard }], guard := some (2, false) }) (v := ?_) rfl (by kernel_rfl) (by kernel_rfl) (by kernel_rfl) (fun _ _ _ h => h) (Or.inl ⟨by rfl, ?_⟩) (by assumption) ?_
        rotate_left 1
        focus (intro w hSw; (try clear hSw); go_simp; try (with_reducible rfl))
        try go_frame
        refine wpAnyH_take (i := 4) (oi := { dst := some 65, op := Op.load 3 (Operand.tmp 64), type := 3, pos := "outright.go:94", after := #[{ on := 3, ground := Ground.data }, { on := 2, ground := Ground.guard }], guard := some (2, false) }) (v := .int .i64 (yn : Nat)) rfl (by kernel_rfl) (by kernel_rfl) (by kernel_rfl) (fun _ _ _ h => h) (yl_cell_g (by rfl) _ _ rfl ⟨w11.heap.size, 0, none⟩ rfl _ (fun w' h => ((K12'.out w' h).cell 0).trans rfl) one_int) (by assumption) ?_
        try go_frame
        refine wpAnyH_take (i := 5) (oi := { dst := some 66, op := Op.move (Operand.tmp 12), type := 22, pos := "outright.go:94", after := #[{ on := 2, ground := Ground.guard }], guard := some (2, false) }) (v := ?_) rfl (by kernel_rfl) (by kernel_rfl) (by kernel_rfl) (fun _ _ _ h => h) (Or.inl ⟨by rfl, ?_⟩) (by assumption) ?_
        rotate_left 1
        focus (intro w hSw; (try clear hSw); go_simp; try (with_reducible rfl))
        try go_frame
        refine wpAnyH_take (i := 6) (oi := { dst := some 67, op := Op.call { callee := Callee.builtin Builtin.len, args := #[Operand.tmp 66], argTypes := #[22] }, type := 3, pos := "outright.go:94", after := #[{ on := 5, ground := Ground.data }, { on := 2, ground := Ground.guard }], guard := some (2, false) }) (v := ?_) rfl (by kernel_rfl) (by kernel_rfl) (by kernel_rfl) (fun _ _ _ h => h) (Or.inl ⟨by rfl, ?_⟩) (by assumption) ?_
        rotate_left 1
        focus (intro w hSw; (try clear hSw); go_simp; try (with_reducible rfl))
        try go_frame
        refine wpAnyH_take (i := 7) (oi := { dst := some 68, op := Op.binOp BinOp.neq 3 (Operand.tmp 65) (Operand.tmp 67) 3, type := 4, pos := "outright.go:94", after := #[{ on := 4, ground := Ground.data }, { on := 6, ground := Ground.data }, { on := 2, ground := Ground.guard }], guard := some (2, false) }) (v := ?_) rfl (by kernel_rfl) (by kernel_rfl) (by kernel_rfl) (fun _ _ _ h => h) (Or.inl ⟨by rfl, ?_⟩) (by assumption) ?_
        rotate_left 1
        focus (intro w hSw; (try clear hSw); go_simp; try (with_reducible rfl))
        try go_frame
        refine wpAnyH_take (i := 8) (oi := { dst := some 69, op := Op.pick (Operand.tmp 63) (Operand.const (Value.bool true)) (Operand.tmp 68), type := 4, pos := "outright.go:94", after := #[{ on := 2, ground := Ground.data }, { on := 7, ground := Ground.data }], guard := none }) (v := ?_) rfl (by kernel_rfl) (by kernel_rfl) (by kernel_rfl) (fun _ _ _ h => h) (Or.inl ⟨by rfl, ?_⟩) (by assumption) ?_
        rotate_left 1
        focus (intro w hSw; (try clear hSw); go_simp; try (with_reducible rfl))
        try go_frame
        refine wpAnyH_take (i := 9) (oi := { dst := some 70, op := Op.move (Operand.tmp 69), type := 4, pos := "outright.go:94", after := #[{ on := 8, ground := Ground.data }, { on := 2, ground := Ground.chain }], guard := none }) (v := ?_) rfl (by kernel_rfl) (by kernel_rfl) (by kernel_rfl) (fun _ _ _ h => h) (Or.inl ⟨by rfl, ?_⟩) (by assumption) ?_
        rotate_left 1
        focus (intro w hSw; (try clear hSw); go_simp; try (with_reducible rfl))
        try go_frame
        refine wpAnyH_take (i := 10) (oi := { dst := some 71, op := Op.fieldAddr 27 (Operand.tmp 13) 1, type := 0, pos := "outright.go:94", after := #[{ on := 9, ground := Ground.guard }], guard := some (9, false) }) (v := ?_) rfl (by kernel_rfl) (by kernel_rfl) (by kernel_rfl) (fun _ _ _ h => h) (Or.inl ⟨by rfl, ?_⟩) (by assumption) ?_
        rotate_left 1
        focus (intro w hSw; (try clear hSw); go_simp; try (with_reducible rfl))
        try go_frame
        refine wpAnyH_take (i := 11) (oi := { dst := some 72, op := Op.load 25 (Operand.tmp 71), type := 25, pos := "outright.go:94", after := #[{ on := 10, ground := Ground.data }, { on := 9, ground := Ground.guard }], guard := some (9, false) }) (v := .slice (some ⟨bz, oz, none⟩) 1 zc) rfl (by kernel_rfl) (by kernel_rfl) (by kernel_rfl) (fun _ _ _ h => h) (yl_cell_g (by rfl) _ _ rfl ⟨w11.heap.size, 1, none⟩ rfl _ (fun w' h => ((K12'.out w' h).cell 1).trans rfl) one_sagas') (by assumption) ?_
        try go_frame
        refine wpAnyH_take (i := 12) (oi := { dst := some 73, op := Op.call { callee := Callee.builtin Builtin.len, args := #[Operand.tmp 72], argTypes := #[25] }, type := 3, pos := "outright.go:94", after := #[{ on := 11, ground := Ground.data }, { on := 9, ground := Ground.guard }], guard := some (9, false) }) (v := ?_) rfl (by kernel_rfl) (by kernel_rfl) (by kernel_rfl) (fun _ _ _ h => h) (Or.inl ⟨by rfl, ?_⟩) (by assumption) ?_
        rotate_left 1
        focus (intro w hSw; (try clear hSw); go_simp; try (with_reducible rfl))
        try go_frame
        refine wpAnyH_take (i := 13) (oi := { dst := some 74, op := Op.binOp BinOp.neq 3 (Operand.tmp 73) (Operand.const (Value.int IntKind.i64 1)) 3, type := 4, pos := "outright.go:94", after := #[{ on := 12, ground := Ground.data }, { on := 9, ground := Ground.guard }], guard := some (9, false) }) (v := ?_) rfl (by kernel_rfl) (by kernel_rfl) (by kernel_rfl) (fun _ _ _ h => h) (Or.inl ⟨by rfl, ?_⟩) (by assumption) ?_
        rotate_left 1
        focus (intro w hSw; (try clear hSw); go_simp; try (with_reducible rfl))
        try go_frame
        refine wpAnyH_take (i := 14) (oi := { dst := some 75, op := Op.pick (Operand.tmp 70) (Operand.const (Value.bool true)) (Operand.tmp 74), type := 4, pos := "outright.go:94", after := #[{ on := 9, ground := Ground.data }, { on := 13, ground := Ground.data }], guard := none }) (v := ?_) rfl (by kernel_rfl) (by kernel_rfl) (by kernel_rfl) (fun _ _ _ h => h) (Or.inl ⟨by rfl, ?_⟩) (by assumption) ?_
        rotate_left 1
        focus (intro w hSw; (try clear hSw); go_simp; try (with_reducible rfl))
        try go_frame
        refine wpAnyH_take (i := 15) (oi := { dst := some 76, op := Op.move (Operand.tmp 75), type := 4, pos := "outright.go:94", after := #[{ on := 14, ground := Ground.data }, { on := 9, ground := Ground.chain }], guard := none }) (v := ?_) rfl (by kernel_rfl) (by kernel_rfl) (by kernel_rfl) (fun _ _ _ h => h) (Or.inl ⟨by rfl, ?_⟩) (by assumption) ?_
        rotate_left 1
        focus (intro w hSw; (try clear hSw); go_simp; try (with_reducible rfl))
        try go_frame
        refine wpAnyH_take (i := 16) (oi := { dst := some 77, op := Op.fieldAddr 27 (Operand.tmp 13) 1, type := 0, pos := "outright.go:94", after := #[{ on := 15, ground := Ground.guard }], guard := some (15, false) }) (v := ?_) rfl (by kernel_rfl) (by kernel_rfl) (by kernel_rfl) (fun _ _ _ h => h) (Or.inl ⟨by rfl, ?_⟩) (by assumption) ?_
        rotate_left 1
        focus (intro w hSw; (try clear hSw); go_simp; try (with_reducible rfl))
        try go_frame
        refine wpAnyH_take (i := 17) (oi := { dst := some 78, op := Op.load 25 (Operand.tmp 77), type := 25, pos := "outright.go:94", after := #[{ on := 16, ground := Ground.data }, { on := 15, ground := Ground.guard }], guard := some (15, false) }) (v := .slice (some ⟨bz, oz, none⟩) 1 zc) rfl (by kernel_rfl) (by kernel_rfl) (by kernel_rfl) (fun _ _ _ h => h) (yl_cell_g (by rfl) _ _ rfl ⟨w11.heap.size, 1, none⟩ rfl _ (fun w' h => ((K12'.out w' h).cell 1).trans rfl) one_sagas') (by assumption) ?_
        try go_frame
        refine wpAnyH_take (i := 18) (oi := { dst := some 79, op := Op.indexAddr 25 (Operand.tmp 78) (Operand.const (Value.int IntKind.i64 0)), type := 0, pos := "outright.go:94", after := #[{ on := 17, ground := Ground.data }, { on := 15, ground := Ground.guard }], guard := some (15, false) }) (v := ?_) rfl (by kernel_rfl) (by kernel_rfl) (by kernel_rfl) (fun _ _ _ h => h) (Or.inl ⟨by rfl, ?_⟩) (by assumption) ?_
        rotate_left 1
        focus (intro w hSw; (try clear hSw); go_simp; try (with_reducible rfl))
        try go_frame
        refine wpAnyH_take (i := 19) (oi := { dst := some 80, op := Op.load 40 (Operand.tmp 79), type := 40, pos := "outright.go:94", after := #[{ on := 18, ground := Ground.data }, { on := 15, ground := Ground.guard }], guard := some (15, false) }) (v := .agg (sagaArr y)) rfl (by kernel_rfl) (by kernel_rfl) (by kernel_rfl) (fun _ _ _ h => h) (yl_at_g (by rfl) _ _ rfl _ _ rfl _ (fun w' h => LDZ.out w' h) rowSaga) (by assumption) ?_
        try go_frame
        refine wpAnyH_take (i := 20) (oi := { dst := some 81, op := Op.fieldAddr 27 (Operand.tmp 6) 1, type := 0, pos := "outright.go:94", after := #[{ on := 15, ground := Ground.guard }], guard := some (15, false) }) (v := ?_) rfl (by kernel_rfl) (by kernel_rfl) (by kernel_rfl) (fun _ _ _ h => h) (Or.inl ⟨by rfl, ?_⟩) (by assumption) ?_
        rotate_left 1
        focus (intro w hSw; (try clear hSw); go_simp; try (with_reducible rfl))
        try go_frame
        refine wpAnyH_take (i := 21) (oi := { dst := some 82, op := Op.load 25 (Operand.tmp 81), type := 25, pos := "outright.go:94", after := #[{ on := 20, ground := Ground.data }, { on := 15, ground := Ground.guard }], guard := some (15, false) }) (v := .slice (some ⟨b0, o0, none⟩) Ts.length vc) rfl (by kernel_rfl) (by kernel_rfl) (by kernel_rfl) (fun _ _ _ h => h) (yl_cell_g (by rfl) _ _ rfl ⟨w4.heap.size, 1, none⟩ rfl _ (fun w' h => ((KS'.out w' h).cell 1).trans rfl) one_sagas') (by assumption) ?_
        try go_frame
        refine wpAnyH_take (i := 22) (oi := { dst := some 83, op := Op.move (Operand.tmp 11), type := 3, pos := "outright.go:94", after := #[{ on := 15, ground := Ground.guard }], guard := some (15, false) }) (v := ?_) rfl (by kernel_rfl) (by kernel_rfl) (by kernel_rfl) (fun _ _ _ h => h) (Or.inl ⟨by rfl, ?_⟩) (by assumption) ?_
        rotate_left 1
        focus (intro w hSw; (try clear hSw); go_simp; try (with_reducible rfl))
        try go_frame
        refine wpAnyH_take (i := 23) (oi := { dst := some 84, op := Op.indexAddr 25 (Operand.tmp 82) (Operand.tmp 83), type := 0, pos := "outright.go:94", after := #[{ on := 21, ground := Ground.data }, { on := 22, ground := Ground.data }, { on := 15, ground := Ground.guard }], guard := some (15, false) }) (v := ?_) rfl (by kernel_rfl) (by kernel_rfl) (by kernel_rfl) (fun _ _ _ h => h) (Or.inl ⟨by rfl, ?_⟩) (by assumption) ?_
        rotate_left 1
        focus (intro w hSw; (try clear hSw); go_simp; try (with_reducible rfl))
        try go_frame
        refine wpAnyH_take (i := 24) (oi := { dst := some 85, op := Op.load 40 (Operand.tmp 84), type := 40, pos := "outright.go:94", after := #[{ on := 23, ground := Ground.data }, { on := 15, ground := Ground.guard }], guard := some (15, false) }) (v := .agg (sagaArr x)) rfl (by kernel_rfl) (by kernel_rfl) (by kernel_rfl) (fun _ _ _ h => h) (yl_at_g (by rfl) _ _ rfl _ _ rfl _ (fun w' h => LDX.out w' h) rowSaga) (by assumption) ?_
        try go_frame
        refine wpAnyH_ready (rs := [25]) (by kernel_rfl) (by simp) ?_
        refine AllReadyH.cons (o := { dst := some 86, op := Op.call { callee := Callee.value (Operand.func 15), args := #[Operand.tmp 80, Operand.tmp 85], argTypes := #[40, 40] }, type := 4, pos := "outright.go:94", after := #[{ on := 19, ground := Ground.data }, { on := 24, ground := Ground.data }, { on := 15, ground := Ground.chain }, { on := 15, ground := Ground.guard }], guard := some (15, false) }) rfl (fun K hK => ?_) ?_
        · go_simp
          refine (same_any y x D D _ (RZ.out.below hHeld.out) (RX.out.below hHeld.out)).mono ?_
          rintro e w9 ⟨rfl, hb⟩
          rw [sameB_refl]
          try go_wp2_with fail
          refine hK.out _ _ (hHeld.call hb) (fun hHeld => ?_)
          clear hK K
          try go_frame
          refine wpAnyH_take (i := 26) (oi := { dst := some 87, op := Op.unOp UnOp.not 4 (Operand.tmp 86), type := 4, pos := "outright.go:94", after := #[{ on := 25, ground := Ground.data }, { on := 15, ground := Ground.guard }], guard := some (15, false) }) (v := ?_) rfl (by kernel_rfl) (by kernel_rfl) (by kernel_rfl) (fun _ _ _ h => h) (Or.inl ⟨by rfl, ?_⟩) (by assumption) ?_
          rotate_left 1
          focus (intro w hSw; (try clear hSw); go_simp; try (with_reducible rfl))
          try go_frame
          refine wpAnyH_take (i := 27) (oi := { dst := some 88, op := Op.pick (Operand.tmp 76) (Operand.const (Value.bool true)) (Operand.tmp 87), type := 4, pos := "outright.go:94", after := #[{ on := 15, ground := Ground.data }, { on := 26, ground := Ground.data }], guard := none }) (v := ?_) rfl (by kernel_rfl) (by kernel_rfl) (by kernel_rfl) (fun _ _ _ h => h) (Or.inl ⟨by rfl, ?_⟩) (by assumption) ?_
          rotate_left 1
          focus (intro w hSw; (try clear hSw); go_simp; try (with_reducible rfl))
          try go_frame
          refine wpAnyH_done (by kernel_rfl) ?_ _
          try go_wp2_with fail
          go_meet
          exact ⟨rfl, Lib.hid hHeld⟩
        exact AllReadyH.nil
      case rest =>
      obtain ⟨wx, rfl⟩ : ∃ q : World, q = wc := ⟨_, rfl⟩
      obtain ⟨rfl, HS12⟩ := hcut
      have KX' : Hid (∀ W, Since wx W → BlkAt W w4.heap.size #[.int .i64 (k : Nat), .slice (some ⟨b0, o0, none⟩) Ts.length vc] 27) := Lib.hid (fun W hW => KS'.out W (HS12.out.trans hW))
      have CX : Hid (∀ W, Since wx W → ∀ q (hq : q < Ts.length), W.cell? ⟨b0, o0 + q * 16, none⟩ = some (.int .i64 Ts[q].id)) := Lib.hid (fun W hW q hq => by
        have h1 := HCI.out q hq
        exact ((then_ B12.out (HS12.out.trans hW).out).cell (World.block_lt_of_cell? Y _ h1)).trans h1)
      have BX := Lib.hid (then_ B12.out HS12.out.out)
      clear LDZ LDX RZ RX K12' KS KS' HS12 B12 LI RR BR
      go_upto_region 17 with fail
      go_cut [106] (fun s0 wy => s0 = .bool false ∧ Hid (Since wx wy))
      case first =>
        cases j with
        | zero =>
          refine wp_region_held_drew (S := Since wx) (by kernel_rfl) ((Since.refl wx).drew) (fun hHeld => ?_)
          refine wpAnyH_take (i := 0) (oi := { dst := some 89, op := Op.move (Operand.tmp 11), type := 3, pos := "outright.go:97", after := #[], guard := none }) (v := ?_) rfl (by kernel_rfl) (by kernel_rfl) (by kernel_rfl) (fun _ _ _ h => h) (Or.inl ⟨by rfl, ?_⟩) (by assumption) ?_
          rotate_left 1
          focus (intro w hSw; (try clear hSw); go_simp; try (with_reducible rfl))
          try go_frame
          refine wpAnyH_take (i := 1) (oi := { dst := some 90, op := Op.binOp BinOp.gtr 3 (Operand.tmp 89) (Operand.const (Value.int IntKind.i64 0)) 3, type := 4, pos := "outright.go:97", after := #[{ on := 0, ground := Ground.data }], guard := none }) (v := ?_) rfl (by kernel_rfl) (by kernel_rfl) (by kernel_rfl) (fun _ _ _ h => h) (Or.inl ⟨by rfl, ?_⟩) (by assumption) ?_
          rotate_left 1
          focus (intro w hSw; (try clear hSw); go_simp; try (with_reducible rfl))
          try go_frame
          refine wpAnyH_take (i := 2) (oi := { dst := some 91, op := Op.move (Operand.tmp 90), type := 4, pos := "outright.go:97", after := #[{ on := 1, ground := Ground.data }], guard := none }) (v := ?_) rfl (by kernel_rfl) (by kernel_rfl) (by kernel_rfl) (fun _ _ _ h => h) (Or.inl ⟨by rfl, ?_⟩) (by assumption) ?_
          rotate_left 1
          focus (intro w hSw; (try clear hSw); go_simp; try (with_reducible rfl))
          try go_frame
          refine wpAnyH_take (i := 3) (oi := { dst := some 92, op := Op.fieldAddr 27 (Operand.tmp 6) 1, type := 0, pos := "outright.go:97", after := #[{ on := 2, ground := Ground.guard }], guard := some (2, true) }) (v := undef) rfl (by kernel_rfl) (by kernel_rfl) (by kernel_rfl) (fun _ _ _ h => h) (Or.inr ⟨by kernel_rfl, rfl⟩) (by assumption) ?_
          try go_frame
          refine wpAnyH_take (i := 4) (oi := { dst := some 93, op := Op.load 25 (Operand.tmp 92), type := 25, pos := "outright.go:97", after := #[{ on := 3, ground := Ground.data }, { on := 2, ground := Ground.guard }], guard := some (2, true) }) (v := undef) rfl (by kernel_rfl) (by kernel_rfl) (by kernel_rfl) (fun _ _ _ h => h) (Or.inr ⟨by kernel_rfl, rfl⟩) (by assumption) ?_
          try go_frame
          refine wpAnyH_take (i := 5) (oi := { dst := some 94, op := Op.move (Operand.tmp 11), type := 3, pos := "outright.go:97", after := #[{ on := 2, ground := Ground.guard }], guard := some (2, true) }) (v := undef) rfl (by kernel_rfl) (by kernel_rfl) (by kernel_rfl) (fun _ _ _ h => h) (Or.inr ⟨by kernel_rfl, rfl⟩) (by assumption) ?_
          try go_frame
          refine wpAnyH_take (i := 6) (oi := { dst := some 95, op := Op.indexAddr 25 (Operand.tmp 93) (Operand.tmp 94), type := 0, pos := "outright.go:97", after := #[{ on := 4, ground := Ground.data }, { on := 5, ground := Ground.data }, { on := 2, ground := Ground.guard }], guard := some (2, true) }) (v := undef) rfl (by kernel_rfl) (by kernel_rfl) (by kernel_rfl) (fun _ _ _ h => h) (Or.inr ⟨by kernel_rfl, rfl⟩) (by assumption) ?_
          try go_frame
          refine wpAnyH_take (i := 7) (oi := { dst := some 96, op := Op.fieldAddr 40 (Operand.tmp 95) 0, type := 0, pos := "outright.go:97", after := #[{ on := 6, ground := Ground.data }, { on := 2, ground := Ground.guard }], guard := some (2, true) }) (v := undef) rfl (by kernel_rfl) (by kernel_rfl) (by kernel_rfl) (fun _ _ _ h => h) (Or.inr ⟨by kernel_rfl, rfl⟩) (by assumption) ?_
          try go_frame
          refine wpAnyH_take (i := 8) (oi := { dst := some 97, op := Op.load 3 (Operand.tmp 96), type := 3, pos := "outright.go:97", after := #[{ on := 7, ground := Ground.data }, { on := 2, ground := Ground.guard }], guard := some (2, true) }) (v := undef) rfl (by kernel_rfl) (by kernel_rfl) (by kernel_rfl) (fun _ _ _ h => h) (Or.inr ⟨by kernel_rfl, rfl⟩) (by assumption) ?_
          try go_frame
          refine wpAnyH_take (i := 9) (oi := { dst := some 98, op := Op.fieldAddr 27 (Operand.tmp 6) 1, type := 0, pos := "outright.go:97", after := #[{ on := 2, ground := Ground.guard }], guard := some (2, true) }) (v := undef) rfl (by kernel_rfl) (by kernel_rfl) (by kernel_rfl) (fun _ _ _ h => h) (Or.inr ⟨by kernel_rfl, rfl⟩) (by assumption) ?_
          try go_frame
          refine wpAnyH_take (i := 10) (oi := { dst := some 99, op := Op.load 25 (Operand.tmp 98), type := 25, pos := "outright.go:97", after := #[{ on := 9, ground := Ground.data }, { on := 2, ground := Ground.guard }], guard := some (2, true) }) (v := undef) rfl (by kernel_rfl) (by kernel_rfl) (by kernel_rfl) (fun _ _ _ h => h) (Or.inr ⟨by kernel_rfl, rfl⟩) (by assumption) ?_
          try go_frame
          refine wpAnyH_take (i := 11) (oi := { dst := some 100, op := Op.move (Operand.tmp 11), type := 3, pos := "outright.go:97", after := #[{ on := 2, ground := Ground.guard }], guard := some (2, true) }) (v := undef) rfl (by kernel_rfl) (by kernel_rfl) (by kernel_rfl) (fun _ _ _ h => h) (Or.inr ⟨by kernel_rfl, rfl⟩) (by assumption) ?_
          try go_frame
          refine wpAnyH_take (i := 12) (oi := { dst := some 101, op := Op.binOp BinOp.sub 3 (Operand.tmp 100) (Operand.const (Value.int IntKind.i64 1)) 3, type := 3, pos := "outright.go:97", after := #[{ on := 11, ground := Ground.data }, { on := 2, ground := Ground.guard }], guard := some (2, true) }) (v := undef) rfl (by kernel_rfl) (by kernel_rfl) (by kernel_rfl) (fun _ _ _ h => h) (Or.inr ⟨by kernel_rfl, rfl⟩) (by assumption) ?_
          try go_frame
          refine wpAnyH_take (i := 13) (oi := { dst := some 102, op := Op.indexAddr 25 (Operand.tmp 99) (Operand.tmp 101), type := 0, pos := "outright.go:97", after := #[{ on := 10, ground := Ground.data }, { on := 12, ground := Ground.data }, { on := 2, ground := Ground.guard }], guard := some (2, true) }) (v := undef) rfl (by kernel_rfl) (by kernel_rfl) (by kernel_rfl) (fun _ _ _ h => h) (Or.inr ⟨by kernel_rfl, rfl⟩) (by assumption) ?_
          try go_frame
          refine wpAnyH_take (i := 14) (oi := { dst := some 103, op := Op.fieldAddr 40 (Operand.tmp 102) 0, type := 0, pos := "outright.go:97", after := #[{ on := 13, ground := Ground.data }, { on := 2, ground := Ground.guard }], guard := some (2, true) }) (v := undef) rfl (by kernel_rfl) (by kernel_rfl) (by kernel_rfl) (fun _ _ _ h => h) (Or.inr ⟨by kernel_rfl, rfl⟩) (by assumption) ?_
          try go_frame
          refine wpAnyH_take (i := 15) (oi := { dst := some 104, op := Op.load 3 (Operand.tmp 103), type := 3, pos := "outright.go:97", after := #[{ on := 14, ground := Ground.data }, { on := 2, ground := Ground.guard }], guard := some (2, true) }) (v := undef) rfl (by kernel_rfl) (by kernel_rfl) (by kernel_rfl) (fun _ _ _ h => h) (Or.inr ⟨by kernel_rfl, rfl⟩) (by assumption) ?_
          try go_frame
          refine wpAnyH_take (i := 16) (oi := { dst := some 105, op := Op.binOp BinOp.leq 3 (Operand.tmp 97) (Operand.tmp 104) 3, type := 4, pos := "outright.go:97", after := #[{ on := 8, ground := Ground.data }, { on := 15, ground := Ground.data }, { on := 2, ground := Ground.guard }], guard := some (2, true) }) (v := undef) rfl (by kernel_rfl) (by kernel_rfl) (by kernel_rfl) (fun _ _ _ h => h) (Or.inr ⟨by kernel_rfl, rfl⟩) (by assumption) ?_
          try go_frame
          refine wpAnyH_take (i := 17) (oi := { dst := some 106, op := Op.pick (Operand.tmp 91) (Operand.tmp 105) (Operand.const (Value.bool false)), type := 4, pos := "outright.go:97", after := #[{ on := 2, ground := Ground.data }, { on := 16, ground := Ground.data }], guard := none }) (v := ?_) rfl (by kernel_rfl) (by kernel_rfl) (by kernel_rfl) (fun _ _ _ h => h) (Or.inl ⟨by rfl, ?_⟩) (by assumption) ?_
          rotate_left 1
          focus (intro w hSw; (try clear hSw); go_simp; try (with_reducible rfl))
          try go_frame
          refine wpAnyH_done (by kernel_rfl) ?_ _
          try go_wp2_with fail
          go_meet
          exact ⟨rfl, Lib.hid hHeld⟩
        | succ q =>
          have hq : q < Ts.length := by omega
          have hrise : Ts[q].id < di := by
            have h1 := List.pairwise_iff_getElem.1 HSO.out.rise q (q + 1) hq hlt (by omega)
            rw [HD.out, HDI.out] at h1
            exact h1
          obtain ⟨dq, hdq⟩ : ∃ z, Ts[q].id = z := ⟨_, rfl⟩
          rw [hdq] at hrise
          have C1 : Hid (∀ W, Since wx W → W.cell? ⟨b0, o0 + (q + 1) * 16, none⟩ = some (.int .i64 di)) := Lib.hid (fun W hW => by have h1 := CX.out W hW (q + 1) hlt; rw [HD.out, HDI.out] at h1; exact h1)
          have C2 : Hid (∀ W, Since wx W → W.cell? ⟨b0, o0 + q * 16, none⟩ = some (.int .i64 dq)) := Lib.hid (fun W hW => by have h1 := CX.out W hW q hq; rw [hdq] at h1; exact h1)
          have hnl : ¬ di ≤ dq := by omega
          have hq0 : (0 : Int) < (q : Int) + 1 := by omega
          have hq1 : (0 : Int) < ((q + 1 : Nat) : Int) := by omega
          have hb1 : (0 : Int) ≤ (q : Int) + 1 := by omega
          have hb2 : (q : Int) + 1 < (Ts.length : Int) := by omega
          have hb3 : ((q : Int) + 1).toNat = q + 1 := by omega
          have hb4 : (q : Int) < (Ts.length : Int) := by omega
          have hb5 : q + 1 < Ts.length := hlt
          have hqw : IntKind.i64.wrap (q : Int) = (q : Int) := by rw [IntKind.wrap_i64]; omega
          have hqw1 : IntKind.i64.wrap ((q : Int) + 1 - 1) = (q : Int) := by rw [IntKind.wrap_i64]; omega
          have hnl' : decide (di ≤ dq) = false := by simp; omega
          clear hdq hrise
          refine wp_region_held_drew (S := Since wx) (by kernel_rfl) ((Since.refl wx).drew) (fun hHeld => ?_)
          refine wpAnyH_take (i := 0) (oi := { dst := some 89, op := Op.move (Operand.tmp 11), type := 3, pos := "outright.go:97", after := #[], guard := none }) (v := ?_) rfl (by kernel_rfl) (by kernel_rfl) (by kernel_rfl) (fun _ _ _ h => h) (Or.inl ⟨by rfl, ?_⟩) (by assumption) ?_
          rotate_left 1
          focus (intro w hSw; (try clear hSw); go_simp; try (with_reducible rfl))
          try go_frame
          refine wpAnyH_take (i := 1) (oi := { dst := some 90, op := Op.binOp BinOp.gtr 3 (Operand.tmp 89) (Operand.const (Value.int IntKind.i64 0)) 3, type := 4, pos := "outright.go:97", after := #[{ on := 0, ground := Ground.data }], guard := none }) (v := ?_) rfl (by kernel_rfl) (by kernel_rfl) (by kernel_rfl) (fun _ _ _ h => h) (Or.inl ⟨by rfl, ?_⟩) (by assumption) ?_
          rotate_left 1
          focus (intro w hSw; (try clear hSw); go_simp; try (with_reducible rfl))
          try go_frame
          refine wpAnyH_take (i := 2) (oi := { dst := some 91, op := Op.move (Operand.tmp 90), type := 4, pos := "outright.go:97", after := #[{ on := 1, ground := Ground.data }], guard := none }) (v := ?_) rfl (by kernel_rfl) (by kernel_rfl) (by kernel_rfl) (fun _ _ _ h => h) (Or.inl ⟨by rfl, ?_⟩) (by assumption) ?_
          rotate_left 1
          focus (intro w hSw; (try clear hSw); go_simp; try (with_reducible rfl))
          try go_frame
          refine wpAnyH_take (i := 3) (oi := { dst := some 92, op := Op.fieldAddr 27 (Operand.tmp 6) 1, type := 0, pos := "outright.go:97", after := #[{ on := 2, ground := Ground.guard }], guard := some (2, true) }) (v := ?_) rfl (by kernel_rfl) (by kernel_rfl) (by kernel_rfl) (fun _ _ _ h => h) (Or.inl ⟨by rfl, ?_⟩) (by assumption) ?_
          rotate_left 1
          focus (intro w hSw; (try clear hSw); go_simp; try (with_reducible rfl))
          try go_frame
          refine wpAnyH_take (i := 4) (oi := { dst := some 93, op := Op.load 25 (Operand.tmp 92), type := 25, pos := "outright.go:97", after := #[{ on := 3, ground := Ground.data }, { on := 2, ground := Ground.guard }], guard := some (2, true) }) (v := .slice (some ⟨b0, o0, none⟩) Ts.length vc) rfl (by kernel_rfl) (by kernel_rfl) (by kernel_rfl) (fun _ _ _ h => h) (yl_cell_g (by rfl) _ _ rfl ⟨w4.heap.size, 1, none⟩ rfl _ (fun w' h => ((KX'.out w' h).cell 1).trans rfl) one_sagas') (by assumption) ?_
          try go_frame
          refine wpAnyH_take (i := 5) (oi := { dst := some 94, op := Op.move (Operand.tmp 11), type := 3, pos := "outright.go:97", after := #[{ on := 2, ground := Ground.guard }], guard := some (2, true) }) (v := ?_) rfl (by kernel_rfl) (by kernel_rfl) (by kernel_rfl) (fun _ _ _ h => h) (Or.inl ⟨by rfl, ?_⟩) (by assumption) ?_
          rotate_left 1
          focus (intro w hSw; (try clear hSw); go_simp; try (with_reducible rfl))
          try go_frame
          refine wpAnyH_take (i := 6) (oi := { dst := some 95, op := Op.indexAddr 25 (Operand.tmp 93) (Operand.tmp 94), type := 0, pos := "outright.go:97", after := #[{ on := 4, ground := Ground.data }, { on := 5, ground := Ground.data }, { on := 2, ground := Ground.guard }], guard := some (2, true) }) (v := ?_) rfl (by kernel_rfl) (by kernel_rfl) (by kernel_rfl) (fun _ _ _ h => h) (Or.inl ⟨by rfl, ?_⟩) (by assumption) ?_
          rotate_left 1
          focus (intro w hSw; (try clear hSw); go_simp; try (with_reducible rfl))
          try go_frame
          refine wpAnyH_take (i := 7) (oi := { dst := some 96, op := Op.fieldAddr 40 (Operand.tmp 95) 0, type := 0, pos := "outright.go:97", after := #[{ on := 6, ground := Ground.data }, { on := 2, ground := Ground.guard }], guard := some (2, true) }) (v := ?_) rfl (by kernel_rfl) (by kernel_rfl) (by kernel_rfl) (fun _ _ _ h => h) (Or.inl ⟨by rfl, ?_⟩) (by assumption) ?_
          rotate_left 1
          focus (intro w hSw; (try clear hSw); go_simp; try (with_reducible rfl))
          try go_frame
          refine wpAnyH_take (i := 8) (oi := { dst := some 97, op := Op.load 3 (Operand.tmp 96), type := 3, pos := "outright.go:97", after := #[{ on := 7, ground := Ground.data }, { on := 2, ground := Ground.guard }], guard := some (2, true) }) (v := .int .i64 di) rfl (by kernel_rfl) (by kernel_rfl) (by kernel_rfl) (fun _ _ _ h => h) (yl_cell_g (by rfl) _ _ rfl _ rfl _ (fun w' h => C1.out w' h) one_int) (by assumption) ?_
          try go_frame
          refine wpAnyH_take (i := 9) (oi := { dst := some 98, op := Op.fieldAddr 27 (Operand.tmp 6) 1, type := 0, pos := "outright.go:97", after := #[{ on := 2, ground := Ground.guard }], guard := some (2, true) }) (v := ?_) rfl (by kernel_rfl) (by kernel_rfl) (by kernel_rfl) (fun _ _ _ h => h) (Or.inl ⟨by rfl, ?_⟩) (by assumption) ?_
          rotate_left 1
          focus (intro w hSw; (try clear hSw); go_simp; try (with_reducible rfl))
          try go_frame
          refine wpAnyH_take (i := 10) (oi := { dst := some 99, op := Op.load 25 (Operand.tmp 98), type := 25, pos := "outright.go:97", after := #[{ on := 9, ground := Ground.data }, { on := 2, ground := Ground.guard }], guard := some (2, true) }) (v := .slice (some ⟨b0, o0, none⟩) Ts.length vc) rfl (by kernel_rfl) (by kernel_rfl) (by kernel_rfl) (fun _ _ _ h => h) (yl_cell_g (by rfl) _ _ rfl ⟨w4.heap.size, 1, none⟩ rfl _ (fun w' h => ((KX'.out w' h).cell 1).trans rfl) one_sagas') (by assumption) ?_
          try go_frame
          refine wpAnyH_take (i := 11) (oi := { dst := some 100, op := Op.move (Operand.tmp 11), type := 3, pos := "outright.go:97", after := #[{ on := 2, ground := Ground.guard }], guard := some (2, true) }) (v := ?_) rfl (by kernel_rfl) (by kernel_rfl) (by kernel_rfl) (fun _ _ _ h => h) (Or.inl ⟨by rfl, ?_⟩) (by assumption) ?_
          rotate_left 1
          focus (intro w hSw; (try clear hSw); go_simp; try (with_reducible rfl))
          try go_frame
          refine wpAnyH_take (i := 12) (oi := { dst := some 101, op := Op.binOp BinOp.sub 3 (Operand.tmp 100) (Operand.const (Value.int IntKind.i64 1)) 3, type := 3, pos := "outright.go:97", after := #[{ on := 11, ground := Ground.data }, { on := 2, ground := Ground.guard }], guard := some (2, true) }) (v := ?_) rfl (by kernel_rfl) (by kernel_rfl) (by kernel_rfl) (fun _ _ _ h => h) (Or.inl ⟨by rfl, ?_⟩) (by assumption) ?_
          rotate_left 1
          focus (intro w hSw; (try clear hSw); go_simp; try (with_reducible rfl))
          try go_frame
          refine wpAnyH_take (i := 13) (oi := { dst := some 102, op := Op.indexAddr 25 (Operand.tmp 99) (Operand.tmp 101), type := 0, pos := "outright.go:97", after := #[{ on := 10, ground := Ground.data }, { on := 12, ground := Ground.data }, { on := 2, ground := Ground.guard }], guard := some (2, true) }) (v := ?_) rfl (by kernel_rfl) (by kernel_rfl) (by kernel_rfl) (fun _ _ _ h => h) (Or.inl ⟨by rfl, ?_⟩) (by assumption) ?_
          rotate_left 1
          focus (intro w hSw; (try clear hSw); go_simp; try (with_reducible rfl))
          try go_frame
          refine wpAnyH_take (i := 14) (oi := { dst := some 103, op := Op.fieldAddr 40 (Operand.tmp 102) 0, type := 0, pos := "outright.go:97", after := #[{ on := 13, ground := Ground.data }, { on := 2, ground := Ground.guard }], guard := some (2, true) }) (v := ?_) rfl (by kernel_rfl) (by kernel_rfl) (by kernel_rfl) (fun _ _ _ h => h) (Or.inl ⟨by rfl, ?_⟩) (by assumption) ?_
          rotate_left 1
          focus (intro w hSw; (try clear hSw); go_simp; try (with_reducible rfl))
          try go_frame
          refine wpAnyH_take (i := 15) (oi := { dst := some 104, op := Op.load 3 (Operand.tmp 103), type := 3, pos := "outright.go:97", after := #[{ on := 14, ground := Ground.data }, { on := 2, ground := Ground.guard }], guard := some (2, true) }) (v := .int .i64 dq) rfl (by kernel_rfl) (by kernel_rfl) (by kernel_rfl) (fun _ _ _ h => h) (yl_cell_g (by rfl) _ _ rfl _ rfl _ (fun w' h => C2.out w' h) one_int) (by assumption) ?_
          try go_frame
          refine wpAnyH_take (i := 16) (oi := { dst := some 105, op := Op.binOp BinOp.leq 3 (Operand.tmp 97) (Operand.tmp 104) 3, type := 4, pos := "outright.go:97", after := #[{ on := 8, ground := Ground.data }, { on := 15, ground := Ground.data }, { on := 2, ground := Ground.guard }], guard := some (2, true) }) (v := ?_) rfl (by kernel_rfl) (by kernel_rfl) (by kernel_rfl) (fun _ _ _ h => h) (Or.inl ⟨by rfl, ?_⟩) (by assumption) ?_
          rotate_left 1
          focus (intro w hSw; (try clear hSw); go_simp; try (with_reducible rfl))
          try go_frame
          refine wpAnyH_take (i := 17) (oi := { dst := some 106, op := Op.pick (Operand.tmp 91) (Operand.tmp 105) (Operand.const (Value.bool false)), type := 4, pos := "outright.go:97", after := #[{ on := 2, ground := Ground.data }, { on := 16, ground := Ground.data }], guard := none }) (v := ?_) rfl (by kernel_rfl) (by kernel_rfl) (by kernel_rfl) (fun _ _ _ h => h) (Or.inl ⟨by rfl, ?_⟩) (by assumption) ?_
          rotate_left 1
          focus (intro w hSw; (try clear hSw); go_simp; try (with_reducible rfl))
          try go_frame
          refine wpAnyH_done (by kernel_rfl) ?_ _
          try go_wp2_with fail
          go_meet
          exact ⟨rfl, Lib.hid hHeld⟩
      case rest =>
      obtain ⟨wy, rfl⟩ : ∃ q : World, q = wc := ⟨_, rfl⟩
      obtain ⟨rfl, HSy⟩ := hcut
      have HB2 := Lib.hid (then_ BX.out HSy.out.out)
      clear KX' CX BX HSy
      go_wp2_with fail
      all_goals go_roundw
      case rel => exact ⟨j + 1, by rw [HSS.out]; go_num, by go_num, by omega, HB2⟩
      case measure => simp [intOf]; omega
    · have hje : j = Ts.length := by omega
      subst hje
      have hsum := HSUM.out
      rw [HLK.out] at hsum
      rw [hsum]
      have BE := Lib.hid (then_ BY.out HB.out)
      clear hsum
      go_wp2_with (first | ((with_reducible refine wpList_load_field ?_ _ (.tmp 42) ?_ (w4.heap.size) 1 ?_ 27 (#[.int .i64 (k : Nat), .slice va Ts.length vc]) KR.out (.slice va Ts.length vc) ?_ one_sagas' ?_); rotate_left; exact rfl; exact rfl; exact rfl; rotate_left; exact rfl))
      all_goals go_ret
      all_goals exact ⟨rfl, BE.out⟩
end Go.Proofs.YtfbaliimjmimhaaDoor.replayApart
