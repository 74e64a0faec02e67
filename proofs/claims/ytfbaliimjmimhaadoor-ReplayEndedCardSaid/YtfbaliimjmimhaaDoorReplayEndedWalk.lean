/-
  ReplayEnded: the law walked: it answers true. Conditions: the tables, as laid. (Printed by wip/gen_ended.py.)
-/
import Derived.Test.YtfbaliimjmimhaaDoorEndedSt
import Derived.Deep.AppendLies
namespace Go.Proofs.YtfbaliimjmimhaaDoor.replayEnded
open Go.RowKit

set_option maxRecDepth 10000000 in
set_option maxHeartbeats 4000000 in
theorem walk (s : Sl) (Rs : List RecD) (w : World) (tT : Tables w) (tD : LandsAt w) (h : RecsAt w s Rs) (hc : s.n ≤ s.c) (hd : ∀ R ∈ Rs, LawRec R) :
    Calls Tryd.prog 6 #[s.v] w fun e w' => e = .returned (.bool true) ∧ Below w.heap.size w w' := by
  obtain ⟨i0, hi0, hz0, hz1, hz2⟩ := info_parts infoSaga
  have C1 := Lib.hid (fun w1 (hb : Below w.heap.size w w1) => cut16o_any s Rs w1 (h.below hb) hc hd)
  have hok := cut16_ok hd
  have hlen := @cut16_len Rs
  have hn := cutL_len 16385 Rs
  obtain ⟨L, hL⟩ : ∃ q, cutL 16385 Rs = q := ⟨_, rfl⟩
  rw [hL] at C1 hok hlen hn
  obtain ⟨⟨f, k⟩, hF⟩ : ∃ q, foldB noBag L = q := ⟨_, rfl⟩
  have hkl : k ≤ L.length := by have := foldB_le L noBag; rw [hF] at this; exact this
  have hT := foldB_take L noBag
  rw [hF] at hT
  have hlk : (L.take k).length = k := by simp; omega
  have hGok : ∀ R ∈ L.take k, FoldOk R := fun R hR => hok R (List.mem_of_mem_take hR)
  have hGlen : ∀ R ∈ L.take k, R.data.length ≤ 9223372036854775807 := fun R hR => hlen R (List.mem_of_mem_take hR)
  have hgb := fold_goodBag hok
  rw [hF] at hgb
  obtain ⟨G, hG⟩ : ∃ q, L.take k = q := ⟨_, rfl⟩
  rw [hG] at hT hlk hGok hGlen
  have HT := Lib.hid tT
  have HL := Lib.hid tD
  have HF := Lib.hid hF
  have HOK := Lib.hid hok
  have HLEN := Lib.hid hlen
  have HGOK := Lib.hid hGok
  have HGLEN := Lib.hid hGlen
  have HTK := Lib.hid hT
  have HLK := Lib.hid hlk
  have HG := Lib.hid hG
  have HGB := Lib.hid hgb
  clear tT tD h hd hL hF hT hok hlen hlk hGok hGlen hG hgb
  dsimp only [Sl.v]
  go_enter Tryd.func6, Tryd.ntmps6
  go_wp2_with fail
  refine (awake_any w HT.out HL.out).mono ?_
  rintro e w1 ⟨rfl, b1⟩
  have B1 := Lib.hid b1
  clear b1
  go_wp2_with fail
  refine (C1.out w1 B1.out).mono ?_
  rintro e w2 ⟨⟨a1, n1, c1⟩, rfl, hn1, r1, b2⟩
  simp only at hn1
  subst hn1
  dsimp only
  have R2 := Lib.hid (r1.lower (c := w.heap.size) B1.out.size)
  have B2 := Lib.hid (then_ B1.out b2)
  clear r1 b2 B1 C1
  have CG := Lib.hid (legal_use ⟨a1, L.length, c1⟩ L w.heap.size w2 (HT.out.below B2.out) (HL.out.below B2.out) (OwnRecs.recsIn (v := ⟨a1, L.length, c1⟩) R2.out) HOK.out HLEN.out (by omega) k f HF.out)
  go_wp2_with fail
  refine CG.out.mono ?_
  rintro e w4 ⟨⟨va, vn, vc⟩, Ss, rfl, st4, so4, b4⟩
  dsimp only
  obtain ⟨w5, hw5⟩ : ∃ q, w4.alloc (.cells #[.int .i64 (k : Nat), .slice va vn vc] 27) = q := ⟨_, rfl⟩
  have hbw5 : Below w4.heap.size w4 w5 := by rw [← hw5]; exact boxd (Below.refl _ _)
  have K5 : Hid (BlkAt w5 w4.heap.size #[.int .i64 (k : Nat), .slice va vn vc] 27) := Lib.hid (by rw [← hw5]; exact BlkAt.new _ _ _)
  have HWw5 := Lib.hid hw5
  clear hw5
  have B45 := then_ b4 hbw5
  have S5 := Lib.hid st4.of
  have hSl : Ss.length ≤ 1048576 := by
    have h1 := state_len (l := G) (by rw [HTK.out, HLK.out]) (by rw [HTK.out]; exact HGB.out) (by rw [HTK.out]; exact S5.out)
    have := HLK.out; omega
  have SO5 := Lib.hid ((so4.lower (c := w.heap.size) B2.out.size).through hbw5)
  have R5 := Lib.hid (show OwnRecs w5 w.heap.size (.slice a1 k c1) G from by rw [← HG.out]; exact OwnRecs.take (R2.out.through B45) hkl)
  have B5 := Lib.hid (then_ B2.out B45)
  clear st4 so4 b4 hbw5 B45 R2 B2 CG
  obtain ⟨hvn, ss, l1, hcells, hown⟩ := SO5.out.cells
  subst hvn
  have hB5 : w.heap.size ≤ w5.heap.size := B5.out.size
  have HC := Lib.hid hcells
  have HOW := Lib.hid hown
  have L1 := Lib.hid l1
  clear hcells hown l1
  go_upto_region 6 with fail
  rw [HWw5.out]
  clear HWw5
  have E0 : Hid (EndSt w5 (w5.alloc (.cells #[.int .i64 0, .slice none 0 0] 27)) w.heap.size 0 (.slice a1 k c1) ⟨none, 0, 0⟩ Ss G) := Lib.hid ⟨by rw [List.take_zero, leftL_nil]; exact R5.out.through (boxd (Below.refl _ _)), BlkAt.new _ _ _, ⟨[], World.ownsRow_nil _ _ _ _, rfl, fun i h => by simp at h⟩, boxd (Below.refl _ _)⟩
  go_wp2_with fail
  go_loopw [3, 7] (fun v i wr => ∃ (j : Nat) (u : Sl), i = .int .i64 j ∧ j ≤ Ss.length ∧ Hid (EndSt w5 wr w.heap.size j v u Ss G)) (fun _ i _ => Ss.length - (intOf i).toNat)
  case atStart => exact ⟨0, ⟨none, 0, 0⟩, rfl, by omega, E0⟩
  case round =>
    obtain ⟨j, ⟨ua, un, uc⟩, rfl, hj, HE⟩ := hrel
    clear E0
    have BX := Lib.hid HE.out.below
    have KR := Lib.hid (K5.out.below BX.out (blk_lt K5.out))
    by_cases hlt : j < Ss.length
    · obtain ⟨b0, o0, e0, hc0⟩ := HC.out (by omega)
      subst e0
      have ja : j < ss.length := by have := L1.out; omega
      have lda := sagas_ld hc0 j ja _ BX.out
      have hso := (HOW.out j ja hlt).through BX.out
      have hmem : Ss[j] ∈ Ss := List.getElem_mem hlt
      obtain ⟨x, hx⟩ : ∃ q, ss[j] = q := ⟨_, rfl⟩
      obtain ⟨D, hD⟩ : ∃ q, Ss[j] = q := ⟨_, rfl⟩
      rw [hx] at lda hso
      rw [hD] at hso hmem
      clear hx
      have hxe := hso.eq
      have HD := Lib.hid hD
      have HSW := Lib.hid hso
      obtain ⟨ph, hph⟩ : ∃ q, D.phase = q := ⟨_, rfl⟩
      obtain ⟨di, hdi⟩ : ∃ q, D.id = q := ⟨_, rfl⟩
      have LP : Hid (wr.cell? ⟨b0, o0 + j * 16 + 7, none⟩ = some (.int .i64 ph)) := Lib.hid (by
        have := lda 7 (by simp [sagaArr]); rw [this, hxe, ← hph]; rfl)
      have LI : Hid (wr.cell? ⟨b0, o0 + j * 16, none⟩ = some (.int .i64 di)) := Lib.hid (by
        have := lda 0 (by simp [sagaArr]); rw [Nat.add_zero] at this; rw [this, hxe, ← hdi]; rfl)
      have LDA := Lib.hid lda
      have HPH := Lib.hid hph
      have HDI := Lib.hid hdi
      clear hD lda hso hmem hxe hph hdi hc0 ja
      by_cases hp : 3 ≤ ph
      · obtain ⟨⟨la, ln, lc⟩, el, hln⟩ := HE.out.left.sl
        have RL := HE.out.left
        have HE2 := HE
        subst el
        simp only at hln
        subst hln
        have hlb : (leftL (Ss.take j) G).length ≤ 160 := by have := leftL_len G (Ss.take j); have := HLK.out; omega
        have CO := Lib.hid (of_any ⟨la, (leftL (Ss.take j) G).length, lc⟩ (leftL (Ss.take j) G) di true w.heap.size wr (OwnRecs.recsIn (v := ⟨la, (leftL (Ss.take j) G).length, lc⟩) RL) (by omega) (by have := BX.out.size; omega))
        clear RL HE2
        dsimp only [Sl.v] at CO ⊢
        go_wp2_with (first
          | (first | ((with_reducible refine wpList_load_field ?_ _ (.tmp 22) ?_ (w4.heap.size) 1 ?_ 27 (#[.int .i64 (k : Nat), .slice (some ⟨b0, o0, none⟩) Ss.length vc]) KR.out (.slice (some ⟨b0, o0, none⟩) Ss.length vc) ?_ one_sagas' ?_); rotate_left; exact rfl; exact rfl; exact rfl; rotate_left; exact rfl) | ((with_reducible refine wpList_load_field ?_ _ (.tmp 28) ?_ (w4.heap.size) 1 ?_ 27 (#[.int .i64 (k : Nat), .slice (some ⟨b0, o0, none⟩) Ss.length vc]) KR.out (.slice (some ⟨b0, o0, none⟩) Ss.length vc) ?_ one_sagas' ?_); rotate_left; exact rfl; exact rfl; exact rfl; rotate_left; exact rfl))
          | ((with_reducible refine wpList_load_cell ?_ _ (.tmp 32) ?_ (⟨b0, o0 + j * 16 + 7, none⟩) ?_ (.int .i64 ph) LP.out one_int ?_); rotate_left; exact rfl; exact rfl; rotate_left; exact rfl)
          | ((with_reducible refine wpList_load_field ?_ _ (.tmp 36) ?_ (w4.heap.size) 1 ?_ 27 (#[.int .i64 (k : Nat), .slice (some ⟨b0, o0, none⟩) Ss.length vc]) KR.out (.slice (some ⟨b0, o0, none⟩) Ss.length vc) ?_ one_sagas' ?_); rotate_left; exact rfl; exact rfl; exact rfl; rotate_left; exact rfl)
          | ((with_reducible refine wpList_load_cell ?_ _ (.tmp 40) ?_ (⟨b0, o0 + j * 16, none⟩) ?_ (.int .i64 di) LI.out one_int ?_); rotate_left; exact rfl; exact rfl; rotate_left; exact rfl))
        refine CO.out.mono ?_
        rintro e w6 ⟨⟨xa, xn, xc⟩, rfl, ho, -, hb6⟩
        have HE6 := Lib.hid (HE.out.ended hlt HD.out (by rw [HPH.out]; exact hp) (by rw [HDI.out]; exact ho) hb6)
        clear ho hb6 CO HE BX KR LP LI LDA HSW HPH HDI HD
        dsimp only
        go_wp2_with fail
        all_goals go_roundw
        case rel => exact ⟨j + 1, ⟨ua, un, uc⟩, by go_num, by omega, HE6⟩
        case measure => simp [intOf]; omega
      · obtain ⟨us, o1, o2, o3⟩ := HE.out.row
        obtain ⟨qb, hqb, hqw⟩ : ∃ q, ((Value.slice ua un uc).ownBlock = none ∨ (Value.slice ua un uc).ownBlock = some q) ∧ w5.heap.size ≤ q := by
          cases h : (Value.slice ua un uc).ownBlock with
          | none => exact ⟨w5.heap.size, .inl rfl, Nat.le_refl _⟩
          | some q => exact ⟨q, .inr rfl, (o1.lt q h).1⟩
        have HQB := Lib.hid hqb
        have hb0 : b0 < w5.heap.size := by
          have := HC.out (by omega)
          obtain ⟨b, o, e, hcc⟩ := this
          cases e
          have hss : 0 < ss.length := by have := L1.out; omega
          have h0 := hcc 0 hss 0 (by omega)
          exact World.block_lt_of_cell? w5 _ (h0.trans (List.getElem?_eq_getElem (by show 0 < 16; omega)))
        have h45 := blk_lt K5.out
        have hX : w5.heap.size ≤ wr.heap.size := BX.out.size
        have N1 := Lib.hid (show w4.heap.size ≠ w5.heap.size by omega)
        have N2 := Lib.hid (show w4.heap.size ≠ qb by omega)
        have N3 := Lib.hid (show b0 ≠ w5.heap.size by omega)
        have N4 := Lib.hid (show b0 ≠ qb by omega)
        have hll : (liveL (Ss.take j)).length ≤ j := by unfold liveL; refine Nat.le_trans (List.length_filter_le _ _) ?_; simp; omega
        obtain ⟨LN, hLN⟩ : ∃ q, (liveL (Ss.take j)).length = q := ⟨_, rfl⟩
        rw [hLN] at hll
        have HLN := Lib.hid hLN
        obtain ⟨ya, hya⟩ : ∃ q, sagaArr x = q := ⟨_, rfl⟩
        have KU := Lib.hid HE.out.box
        rw [hLN] at o1
        have O1 := Lib.hid o1
        have O2 := Lib.hid o2
        have O3 := Lib.hid o3
        have LDY : Hid (∀ q, q < ya.size → wr.cell? ⟨b0, o0 + j * 16 + q, none⟩ = ya[q]?) := Lib.hid (by rw [← hya]; exact LDA.out)
        have HYC : Hid (x.cells = ya.toList) := Lib.hid (by rw [← hya]; simp [sagaArr])
        dsimp only [sagaArr, Sl.v] at hya
        have hSs : Ss.length ≤ 1048576 := hSl
        clear hLN o1 o2 o3 hqb LDA
        subst hya
        go_upto_region 12 with (first
          | (first | ((with_reducible refine wpList_load_field ?_ _ (.tmp 22) ?_ (w4.heap.size) 1 ?_ 27 (#[.int .i64 (k : Nat), .slice (some ⟨b0, o0, none⟩) Ss.length vc]) KR.out (.slice (some ⟨b0, o0, none⟩) Ss.length vc) ?_ one_sagas' ?_); rotate_left; exact rfl; exact rfl; exact rfl; rotate_left; exact rfl) | ((with_reducible refine wpList_load_field ?_ _ (.tmp 28) ?_ (w4.heap.size) 1 ?_ 27 (#[.int .i64 (k : Nat), .slice (some ⟨b0, o0, none⟩) Ss.length vc]) KR.out (.slice (some ⟨b0, o0, none⟩) Ss.length vc) ?_ one_sagas' ?_); rotate_left; exact rfl; exact rfl; exact rfl; rotate_left; exact rfl))
          | ((with_reducible refine wpList_load_cell ?_ _ (.tmp 32) ?_ (⟨b0, o0 + j * 16 + 7, none⟩) ?_ (.int .i64 ph) LP.out one_int ?_); rotate_left; exact rfl; exact rfl; rotate_left; exact rfl))
        refine wp_region_held_drew (S := (fun W => But wr W w5.heap.size qb)) (by kernel_rfl) (But.of (Below.refl _ _).drew) (fun hHeld => ?_)
        refine wpAnyH_take (i := 0) (oi := { dst := some 43, op := Op.fieldAddr 27 (Operand.tmp 6) 1, type := 0, pos := "outright.go:144", after := #[], guard := none }) (v := ?_) rfl (by kernel_rfl) (by kernel_rfl) (by kernel_rfl) (fun _ _ _ h => h) (Or.inl ⟨by rfl, ?_⟩) (by assumption) ?_
        rotate_left 1
        focus (intro w hSw; (try clear hSw); go_simp; try (with_reducible rfl))
        try go_frame
        refine wpAnyH_take (i := 2) (oi := { dst := some 45, op := Op.fieldAddr 27 (Operand.tmp 4) 1, type := 0, pos := "outright.go:144", after := #[], guard := none }) (v := ?_) rfl (by kernel_rfl) (by kernel_rfl) (by kernel_rfl) (fun _ _ _ h => h) (Or.inl ⟨by rfl, ?_⟩) (by assumption) ?_
        rotate_left 1
        focus (intro w hSw; (try clear hSw); go_simp; try (with_reducible rfl))
        try go_frame
        refine wpAnyH_take (i := 3) (oi := { dst := some 46, op := Op.load 25 (Operand.tmp 45), type := 25, pos := "outright.go:144", after := #[{ on := 2, ground := Ground.data }], guard := none }) (v := .slice (some ⟨b0, o0, none⟩) Ss.length vc) rfl (by kernel_rfl) (by kernel_rfl) (by kernel_rfl) (fun _ _ _ h => h) (yl_cell rfl _ _ rfl ⟨w4.heap.size, 1, none⟩ rfl _ (fun w' h => ((h.blk KR.out N1.out N2.out).cell 1).trans rfl) one_sagas') (by assumption) ?_
        try go_frame
        refine wpAnyH_take (i := 4) (oi := { dst := some 47, op := Op.move (Operand.tmp 7), type := 3, pos := "outright.go:144", after := #[], guard := none }) (v := ?_) rfl (by kernel_rfl) (by kernel_rfl) (by kernel_rfl) (fun _ _ _ h => h) (Or.inl ⟨by rfl, ?_⟩) (by assumption) ?_
        rotate_left 1
        focus (intro w hSw; (try clear hSw); go_simp; try (with_reducible rfl))
        try go_frame
        refine wpAnyH_take (i := 5) (oi := { dst := some 48, op := Op.indexAddr 25 (Operand.tmp 46) (Operand.tmp 47), type := 0, pos := "outright.go:144", after := #[{ on := 3, ground := Ground.data }, { on := 4, ground := Ground.data }], guard := none }) (v := ?_) rfl (by kernel_rfl) (by kernel_rfl) (by kernel_rfl) (fun _ _ _ h => h) (Or.inl ⟨by rfl, ?_⟩) (by assumption) ?_
        rotate_left 1
        focus (intro w hSw; (try clear hSw); go_simp; try (with_reducible rfl))
        try go_frame
        refine wpAnyH_take (i := 6) (oi := { dst := some 49, op := Op.load 40 (Operand.tmp 48), type := 40, pos := "outright.go:144", after := #[{ on := 5, ground := Ground.data }], guard := none }) (v := .agg #[.int .i64 x.id, .string x.name, .int .i64 x.count, .int .i64 x.pivot, .int .i64 x.begun, .int .i64 x.at_, .slice x.input.a x.input.n x.input.c, .int .i64 x.phase, .int .i64 x.next, .bool x.flight, .int .i64 x.tries, .slice x.outs.a x.outs.n x.outs.c, .slice x.undos.a x.undos.n x.undos.c, .int .i64 x.failStep, .int .i64 x.failCode, .slice x.fail.a x.fail.n x.fail.c]) rfl (by kernel_rfl) (by kernel_rfl) (by kernel_rfl) (fun _ _ _ h => h) (yl_at rfl _ _ rfl _ _ rfl _ (fun w' h q hq => (h.cell (a := ⟨b0, o0 + j * 16 + q, none⟩) (by have := hb0; show b0 < _; omega) N3.out N4.out).trans (LDY.out q hq)) rowSaga) (by assumption) ?_
        try go_frame
        refine wpAnyH_ready (rs := [1, 7]) (by kernel_rfl) (by simp) ?_
        refine AllReadyH.cons (o := { dst := some 44, op := Op.load 25 (Operand.tmp 43), type := 25, pos := "outright.go:144", after := #[{ on := 0, ground := Ground.data }], guard := none }) rfl (fun K hK => ?_) ?_
        · refine step_load_c1 rfl _ _ rfl _ rfl (.slice ua un uc) (((show BlkAt wr.drew w5.heap.size #[.int .i64 0, .slice ua un uc] 27 from KU.out).cell 1).trans rfl) one_sagas' ?_
          refine hK.out _ _ (hHeld) (fun hHeld => ?_)
          clear hK K
          try go_frame
          refine wpAnyH_ready (rs := [7]) (by kernel_rfl) (by simp) ?_
          refine AllReadyH.cons (o := { dst := some 50, op := Op.buildSlice 25 1 #[(0, Operand.tmp 49)], type := 25, pos := "outright.go:144", after := #[{ on := 6, ground := Ground.data }], guard := none }) rfl (fun K hK => ?_) ?_
          · go_simp
            refine hK.out _ _ (But.trans hHeld (But.of (boxd (Below.refl _ _)))) (fun hHeld => ?_)
            clear hK K
            try go_frame
            refine wpAnyH_ready (rs := [8]) (by kernel_rfl) (by simp) ?_
            refine AllReadyH.cons (o := { dst := some 51, op := Op.call { callee := Callee.builtin Builtin.append, args := #[Operand.tmp 44, Operand.tmp 50], argTypes := #[25, 25] }, type := 25, pos := "outright.go:144", after := #[{ on := 1, ground := Ground.data }, { on := 7, ground := Ground.data }], guard := none }) rfl (fun K hK => ?_) ?_
            · refine step_append_lies _ (by rfl) _ _ _ (by rfl) w5.heap.size 40 i0 _ 16 200 Tryd.underlying25 hi0 hz0 hz1 hz2 rfl (by omega) (.slice ua un uc) LN (us.flatMap SagaV.cells) (by rfl) ((O1.out.drew).alloc _) ⟨wr.heap.size, 0, none⟩ 1 1 [.int .i64 x.id, .string x.name, .int .i64 x.count, .int .i64 x.pivot, .int .i64 x.begun, .int .i64 x.at_, .slice x.input.a x.input.n x.input.c, .int .i64 x.phase, .int .i64 x.next, .bool x.flight, .int .i64 x.tries, .slice x.outs.a x.outs.n x.outs.c, .slice x.undos.a x.undos.n x.undos.c, .int .i64 x.failStep, .int .i64 x.failCode, .slice x.fail.a x.fail.n x.fail.c] (by rfl) (by rfl) (World.news_of_block (cs := #[.int .i64 x.id, .string x.name, .int .i64 x.count, .int .i64 x.pivot, .int .i64 x.begun, .int .i64 x.at_, .slice x.input.a x.input.n x.input.c, .int .i64 x.phase, .int .i64 x.next, .bool x.flight, .int .i64 x.tries, .slice x.outs.a x.outs.n x.outs.c, .slice x.undos.a x.undos.n x.undos.c, .int .i64 x.failStep, .int .i64 x.failCode, .slice x.fail.a x.fail.n x.fail.c]) (t := 40) (fr := (0, 0)) (heap_alloc_new wr.drew _)) (by simp [Value.oneCell']) (by omega) (by simp only [maxLen]; omega) (by omega) (by simp; omega) (wr.heap.size + 1) (by simp) ?_
              intro gg cap w6 hown6 hgrow hat hlt6
              have KU6 := Lib.hid (blk_grown (BlkAt.push (show BlkAt wr.drew _ _ _ from KU.out) (.cells #[.int .i64 x.id, .string x.name, .int .i64 x.count, .int .i64 x.pivot, .int .i64 x.begun, .int .i64 x.at_, .slice x.input.a x.input.n x.input.c, .int .i64 x.phase, .int .i64 x.next, .bool x.flight, .int .i64 x.tries, .slice x.outs.a x.outs.n x.outs.c, .slice x.undos.a x.undos.n x.undos.c, .int .i64 x.failStep, .int .i64 x.failCode, .slice x.fail.a x.fail.n x.fail.c] 40)) hgrow (Ne.symm (own_no_blk ((O1.out.drew).alloc (.cells #[.int .i64 x.id, .string x.name, .int .i64 x.count, .int .i64 x.pivot, .int .i64 x.begun, .int .i64 x.at_, .slice x.input.a x.input.n x.input.c, .int .i64 x.phase, .int .i64 x.next, .bool x.flight, .int .i64 x.tries, .slice x.outs.a x.outs.n x.outs.c, .slice x.undos.a x.undos.n x.undos.c, .int .i64 x.failStep, .int .i64 x.failCode, .slice x.fail.a x.fail.n x.fail.c] 40)) (BlkAt.push (show BlkAt wr.drew _ _ _ from KU.out) (.cells #[.int .i64 x.id, .string x.name, .int .i64 x.count, .int .i64 x.pivot, .int .i64 x.begun, .int .i64 x.at_, .slice x.input.a x.input.n x.input.c, .int .i64 x.phase, .int .i64 x.next, .bool x.flight, .int .i64 x.tries, .slice x.outs.a x.outs.n x.outs.c, .slice x.undos.a x.undos.n x.undos.c, .int .i64 x.failStep, .int .i64 x.failCode, .slice x.fail.a x.fail.n x.fail.c] 40)) (by decide))))
              refine hK.out _ _ (But.trans hHeld (But.row hgrow HQB.out)) (fun hHeld => ?_)
              clear hK K
              try go_frame
              refine wpAnyH_take (i := 9) (oi := { dst := some 52, op := Op.fieldAddr 27 (Operand.tmp 6) 1, type := 0, pos := "outright.go:144", after := #[{ on := 0, ground := Ground.phase }, { on := 1, ground := Ground.phase }, { on := 2, ground := Ground.phase }, { on := 3, ground := Ground.phase }, { on := 4, ground := Ground.phase }, { on := 5, ground := Ground.phase }, { on := 6, ground := Ground.phase }, { on := 7, ground := Ground.phase }, { on := 8, ground := Ground.phase }], guard := none }) (v := ?_) rfl (by kernel_rfl) (by kernel_rfl) (by kernel_rfl) (fun _ _ _ h => h) (Or.inl ⟨by rfl, ?_⟩) (by assumption) ?_
              rotate_left 1
              focus (intro w hSw; (try clear hSw); go_simp; try (with_reducible rfl))
              try go_frame
              refine wpAnyH_ready (rs := [10]) (by kernel_rfl) (by simp) ?_
              refine AllReadyH.cons (o := { dst := none, op := Op.store 25 (Operand.tmp 52) (Operand.tmp 51), type := 0, pos := "outright.go:144", after := #[{ on := 9, ground := Ground.data }, { on := 8, ground := Ground.data }, { on := 8, ground := Ground.chain }, { on := 0, ground := Ground.phase }, { on := 1, ground := Ground.phase }, { on := 2, ground := Ground.phase }, { on := 3, ground := Ground.phase }, { on := 4, ground := Ground.phase }, { on := 5, ground := Ground.phase }, { on := 6, ground := Ground.phase }, { on := 7, ground := Ground.phase }, { on := 8, ground := Ground.phase }], guard := none }) rfl (fun K hK => ?_) ?_
              · refine step_store_one rfl _ _ _ rfl _ 1 rfl (.slice (some ⟨gg, 0, none⟩) (LN + 1) cap) rfl _ _ KU6.out (by simp) rfl size_sagas ?_
                intro w7 hw7 K7
                refine hK.out _ _ (But.trans hHeld (But.wrote hw7)) (fun hHeld => ?_)
                clear hK K
                try go_frame
                refine wpAnyH_done (by kernel_rfl) ?_ _
                have HE7 := Lib.hid (HE.out.live hlt HD.out (by rw [HPH.out]; exact hp) HLN.out (Below.refl _ _).drew (HSW.out.through (Below.refl _ _).drew) O1.out.drew O2.out (fun i a b => (O3.out i a b).through (Below.refl _ _).drew) (by rw [HYC.out]; exact hown6) hgrow hw7 K7)
                clear hHeld hw7 K7 hown6 hgrow
                go_wp2_with fail
                all_goals go_roundw
                case rel => exact ⟨j + 1, ⟨some ⟨gg, 0, none⟩, LN + 1, cap⟩, by go_num, by omega, HE7⟩
                case measure => simp [intOf]; omega
              exact AllReadyH.nil
            exact AllReadyH.nil
          exact AllReadyH.nil
        refine AllReadyH.cons (o := { dst := some 50, op := Op.buildSlice 25 1 #[(0, Operand.tmp 49)], type := 25, pos := "outright.go:144", after := #[{ on := 6, ground := Ground.data }], guard := none }) rfl (fun K hK => ?_) ?_
        · go_simp
          refine hK.out _ _ (But.trans hHeld (But.of (boxd (Below.refl _ _)))) (fun hHeld => ?_)
          clear hK K
          try go_frame
          refine wpAnyH_ready (rs := [1]) (by kernel_rfl) (by simp) ?_
          refine AllReadyH.cons (o := { dst := some 44, op := Op.load 25 (Operand.tmp 43), type := 25, pos := "outright.go:144", after := #[{ on := 0, ground := Ground.data }], guard := none }) rfl (fun K hK => ?_) ?_
          · refine step_load_c1 rfl _ _ rfl _ rfl (.slice ua un uc) (((show BlkAt (wr.drew.alloc (.cells #[.int .i64 x.id, .string x.name, .int .i64 x.count, .int .i64 x.pivot, .int .i64 x.begun, .int .i64 x.at_, .slice x.input.a x.input.n x.input.c, .int .i64 x.phase, .int .i64 x.next, .bool x.flight, .int .i64 x.tries, .slice x.outs.a x.outs.n x.outs.c, .slice x.undos.a x.undos.n x.undos.c, .int .i64 x.failStep, .int .i64 x.failCode, .slice x.fail.a x.fail.n x.fail.c] 40)) w5.heap.size #[.int .i64 0, .slice ua un uc] 27 from (BlkAt.push (show BlkAt wr.drew _ _ _ from KU.out) _)).cell 1).trans rfl) one_sagas' ?_
            refine hK.out _ _ (hHeld) (fun hHeld => ?_)
            clear hK K
            try go_frame
            refine wpAnyH_ready (rs := [8]) (by kernel_rfl) (by simp) ?_
            refine AllReadyH.cons (o := { dst := some 51, op := Op.call { callee := Callee.builtin Builtin.append, args := #[Operand.tmp 44, Operand.tmp 50], argTypes := #[25, 25] }, type := 25, pos := "outright.go:144", after := #[{ on := 1, ground := Ground.data }, { on := 7, ground := Ground.data }], guard := none }) rfl (fun K hK => ?_) ?_
            · refine step_append_lies _ (by rfl) _ _ _ (by rfl) w5.heap.size 40 i0 _ 16 200 Tryd.underlying25 hi0 hz0 hz1 hz2 rfl (by omega) (.slice ua un uc) LN (us.flatMap SagaV.cells) (by rfl) ((O1.out.drew).alloc _) ⟨wr.heap.size, 0, none⟩ 1 1 [.int .i64 x.id, .string x.name, .int .i64 x.count, .int .i64 x.pivot, .int .i64 x.begun, .int .i64 x.at_, .slice x.input.a x.input.n x.input.c, .int .i64 x.phase, .int .i64 x.next, .bool x.flight, .int .i64 x.tries, .slice x.outs.a x.outs.n x.outs.c, .slice x.undos.a x.undos.n x.undos.c, .int .i64 x.failStep, .int .i64 x.failCode, .slice x.fail.a x.fail.n x.fail.c] (by rfl) (by rfl) (World.news_of_block (cs := #[.int .i64 x.id, .string x.name, .int .i64 x.count, .int .i64 x.pivot, .int .i64 x.begun, .int .i64 x.at_, .slice x.input.a x.input.n x.input.c, .int .i64 x.phase, .int .i64 x.next, .bool x.flight, .int .i64 x.tries, .slice x.outs.a x.outs.n x.outs.c, .slice x.undos.a x.undos.n x.undos.c, .int .i64 x.failStep, .int .i64 x.failCode, .slice x.fail.a x.fail.n x.fail.c]) (t := 40) (fr := (0, 0)) (heap_alloc_new wr.drew _)) (by simp [Value.oneCell']) (by omega) (by simp only [maxLen]; omega) (by omega) (by simp; omega) (wr.heap.size + 1) (by simp) ?_
              intro gg cap w6 hown6 hgrow hat hlt6
              have KU6 := Lib.hid (blk_grown (BlkAt.push (show BlkAt wr.drew _ _ _ from KU.out) (.cells #[.int .i64 x.id, .string x.name, .int .i64 x.count, .int .i64 x.pivot, .int .i64 x.begun, .int .i64 x.at_, .slice x.input.a x.input.n x.input.c, .int .i64 x.phase, .int .i64 x.next, .bool x.flight, .int .i64 x.tries, .slice x.outs.a x.outs.n x.outs.c, .slice x.undos.a x.undos.n x.undos.c, .int .i64 x.failStep, .int .i64 x.failCode, .slice x.fail.a x.fail.n x.fail.c] 40)) hgrow (Ne.symm (own_no_blk ((O1.out.drew).alloc (.cells #[.int .i64 x.id, .string x.name, .int .i64 x.count, .int .i64 x.pivot, .int .i64 x.begun, .int .i64 x.at_, .slice x.input.a x.input.n x.input.c, .int .i64 x.phase, .int .i64 x.next, .bool x.flight, .int .i64 x.tries, .slice x.outs.a x.outs.n x.outs.c, .slice x.undos.a x.undos.n x.undos.c, .int .i64 x.failStep, .int .i64 x.failCode, .slice x.fail.a x.fail.n x.fail.c] 40)) (BlkAt.push (show BlkAt wr.drew _ _ _ from KU.out) (.cells #[.int .i64 x.id, .string x.name, .int .i64 x.count, .int .i64 x.pivot, .int .i64 x.begun, .int .i64 x.at_, .slice x.input.a x.input.n x.input.c, .int .i64 x.phase, .int .i64 x.next, .bool x.flight, .int .i64 x.tries, .slice x.outs.a x.outs.n x.outs.c, .slice x.undos.a x.undos.n x.undos.c, .int .i64 x.failStep, .int .i64 x.failCode, .slice x.fail.a x.fail.n x.fail.c] 40)) (by decide))))
              refine hK.out _ _ (But.trans hHeld (But.row hgrow HQB.out)) (fun hHeld => ?_)
              clear hK K
              try go_frame
              refine wpAnyH_take (i := 9) (oi := { dst := some 52, op := Op.fieldAddr 27 (Operand.tmp 6) 1, type := 0, pos := "outright.go:144", after := #[{ on := 0, ground := Ground.phase }, { on := 1, ground := Ground.phase }, { on := 2, ground := Ground.phase }, { on := 3, ground := Ground.phase }, { on := 4, ground := Ground.phase }, { on := 5, ground := Ground.phase }, { on := 6, ground := Ground.phase }, { on := 7, ground := Ground.phase }, { on := 8, ground := Ground.phase }], guard := none }) (v := ?_) rfl (by kernel_rfl) (by kernel_rfl) (by kernel_rfl) (fun _ _ _ h => h) (Or.inl ⟨by rfl, ?_⟩) (by assumption) ?_
              rotate_left 1
              focus (intro w hSw; (try clear hSw); go_simp; try (with_reducible rfl))
              try go_frame
              refine wpAnyH_ready (rs := [10]) (by kernel_rfl) (by simp) ?_
              refine AllReadyH.cons (o := { dst := none, op := Op.store 25 (Operand.tmp 52) (Operand.tmp 51), type := 0, pos := "outright.go:144", after := #[{ on := 9, ground := Ground.data }, { on := 8, ground := Ground.data }, { on := 8, ground := Ground.chain }, { on := 0, ground := Ground.phase }, { on := 1, ground := Ground.phase }, { on := 2, ground := Ground.phase }, { on := 3, ground := Ground.phase }, { on := 4, ground := Ground.phase }, { on := 5, ground := Ground.phase }, { on := 6, ground := Ground.phase }, { on := 7, ground := Ground.phase }, { on := 8, ground := Ground.phase }], guard := none }) rfl (fun K hK => ?_) ?_
              · refine step_store_one rfl _ _ _ rfl _ 1 rfl (.slice (some ⟨gg, 0, none⟩) (LN + 1) cap) rfl _ _ KU6.out (by simp) rfl size_sagas ?_
                intro w7 hw7 K7
                refine hK.out _ _ (But.trans hHeld (But.wrote hw7)) (fun hHeld => ?_)
                clear hK K
                try go_frame
                refine wpAnyH_done (by kernel_rfl) ?_ _
                have HE7 := Lib.hid (HE.out.live hlt HD.out (by rw [HPH.out]; exact hp) HLN.out (Below.refl _ _).drew (HSW.out.through (Below.refl _ _).drew) O1.out.drew O2.out (fun i a b => (O3.out i a b).through (Below.refl _ _).drew) (by rw [HYC.out]; exact hown6) hgrow hw7 K7)
                clear hHeld hw7 K7 hown6 hgrow
                go_wp2_with fail
                all_goals go_roundw
                case rel => exact ⟨j + 1, ⟨some ⟨gg, 0, none⟩, LN + 1, cap⟩, by go_num, by omega, HE7⟩
                case measure => simp [intOf]; omega
              exact AllReadyH.nil
            exact AllReadyH.nil
          exact AllReadyH.nil
        exact AllReadyH.nil
    · have hje : j = Ss.length := by omega
      subst hje
      have h0 := HE.out
      have RL := h0.left
      rw [List.take_length] at RL
      have OU := h0.own hB5
      rw [List.take_length] at OU
      obtain ⟨⟨la, ln, lc⟩, el, hln⟩ := RL.sl
      subst el
      simp only at hln
      have hlb : (leftL Ss G).length ≤ 160 := by have := leftL_len G Ss; have := HLK.out; omega
      obtain ⟨LL, hLL⟩ : ∃ q, (leftL Ss G).length = q := ⟨_, rfl⟩
      rw [hLL] at hln hlb
      subst hln
      have HLL := Lib.hid hLL
      have KU := Lib.hid h0.box
      have HOU := Lib.hid OU
      have HRL := Lib.hid RL
      clear h0 RL OU hLL HE
      dsimp only [Sl.v] at HRL ⊢
      go_upto_region 14 with (first
        | ((with_reducible refine wpList_load_field ?_ _ (.tmp 22) ?_ (w4.heap.size) 1 ?_ 27 (#[.int .i64 (k : Nat), .slice va Ss.length vc]) KR.out (.slice va Ss.length vc) ?_ one_sagas' ?_); rotate_left; exact rfl; exact rfl; exact rfl; rotate_left; exact rfl)
        | (refine wpList_store_one rfl _ (.tmp 55) (.tmp 54) rfl w5.heap.size 0 rfl (.int .i64 (ln : Nat)) rfl _ _ KU.out (by simp) rfl size_int11 ?_; intro w6 hw6 K6'))
      have K6 : Hid (BlkAt w6 w5.heap.size #[.int .i64 (ln : Nat), .slice ua un uc] 27) := Lib.hid K6'
      have OU6 := Lib.hid (HOU.out.wrote hw6 KU.out (by decide) (by decide) (by decide))
      have RL6 := HRL.out.keep (hw6.recs KU.out (by decide) (by decide) (by decide))
      have B6 := Lib.hid (then_ B5.out (hw6.below BX.out (Nat.le_refl _)))
      have hGl : (foldB noBag G).2 = G.length := by rw [HTK.out, HLK.out]
      have hS : StateOf (foldB noBag G).1 Ss := by rw [HTK.out]; exact S5.out
      have CF := fold_legal ⟨la, ln, lc⟩ (leftL Ss G) w6 (HT.out.below B6.out) (HL.out.below B6.out) ((OwnRecs.recsIn (v := ⟨la, ln, lc⟩) RL6).recsAt (fun R hR => HGLEN.out R (leftL_mem hR))) (fun R hR => HGOK.out R (leftL_mem hR)) (by rw [HLL.out]; omega) (left_legal Ss hGl)
      rw [HLL.out] at CF
      have HCF := Lib.hid CF
      have HS := Lib.hid hS
      have HGL := Lib.hid hGl
      clear CF hS hGl RL6 hw6 K6' KU HRL HOU KR BX HC HOW L1
      dsimp only at HCF
      go_wp2_with fail
      refine HCF.out.mono ?_
      rintro e w7 ⟨⟨xa, xn, xc⟩, Ts, rfl, st7, b7⟩
      dsimp only
      obtain ⟨w8, hw8⟩ : ∃ q, w7.alloc (.cells #[.int .i64 (ln : Nat), .slice xa xn xc] 27) = q := ⟨_, rfl⟩
      have hbw8 : Below w7.heap.size w7 w8 := by rw [← hw8]; exact boxd (Below.refl _ _)
      have K8 : Hid (BlkAt w8 w7.heap.size #[.int .i64 (ln : Nat), .slice xa xn xc] 27) := Lib.hid (by rw [← hw8]; exact BlkAt.new _ _ _)
      have HWw8 := Lib.hid hw8
      clear hw8
      have B78 := then_ b7 hbw8
      have hTs := (left_state HGL.out HS.out st7.of).2
      subst hTs
      have hgd : ∀ E ∈ liveL Ss, GoodD E := fun E hE => state_good HGB.out S5.out E (List.mem_filter.1 hE).1
      have CM := Lib.hid (same_states (ln : Int) ⟨xa, xn, xc⟩ ⟨ua, un, uc⟩ (liveL Ss) w8 (st7.at_.below hbw8) (SagasAt.below (OwnSagas.sagasAt (v := ⟨ua, un, uc⟩) OU6.out hgd) B78))
      have K68 := Lib.hid (K6.out.below B78 (blk_lt K6.out))
      have B8 := Lib.hid (then_ B6.out B78)
      clear st7 b7 hbw8 B78 hgd OU6 K6 B6 HCF
      go_upto_region 15 with fail
      rw [HWw8.out]
      clear HWw8
      go_wp2_with (first
        | ((with_reducible refine wpList_load_blk_g ?_ _ (.tmp 8) ?_ (w7.heap.size) ?_ 27 (_) K8.out rowState ?_); rotate_left; exact rfl; exact rfl; rotate_left; kernel_rfl)
        | ((with_reducible refine wpList_load_blk_g ?_ _ (.tmp 6) ?_ (w5.heap.size) ?_ 27 (_) K68.out rowState ?_); rotate_left; exact rfl; exact rfl; rotate_left; kernel_rfl))
      refine CM.out.mono ?_
      rintro e w9 ⟨rfl, b9⟩
      have B9 := Lib.hid (then_ B8.out b9)
      clear b9 CM
      go_wp2_with fail
      all_goals go_ret
      all_goals exact ⟨rfl, B9.out⟩
end Go.Proofs.YtfbaliimjmimhaaDoor.replayEnded
