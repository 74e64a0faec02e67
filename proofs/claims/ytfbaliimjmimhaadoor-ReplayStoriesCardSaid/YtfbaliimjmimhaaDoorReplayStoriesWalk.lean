/-
  ReplayStories: the law walked: it answers true. Conditions: the tables, as laid. (Printed by wip/gen_stories.py.)
-/
import Derived.Test.YtfbaliimjmimhaaDoorStoriesSt
import Derived.Test.YtfbaliimjmimhaaDoorRef10Copy
namespace Go.Proofs.YtfbaliimjmimhaaDoor.replayStories
open Go.RowKit

/-- Is the saga left out, as far as it is known behind q of those that are wanted? -/
def twB (E : Int) (Ws : List SagaD) (di : Int) (q : Nat) : Bool := decide (E ≠ 0) || (Ws.take q).any (fun F => decide (F.id = di))
theorem twB_zero (E : Int) (Ws : List SagaD) (di : Int) : twB E Ws di 0 = (E != 0) := by unfold twB; by_cases h : E = 0 <;> simp [h]
theorem twB_succ {E : Int} {Ws : List SagaD} {di : Int} {q : Nat} (h : q < Ws.length) : twB E Ws di (q + 1) = (twB E Ws di q || decide (Ws[q].id = di)) := by
  unfold twB
  rw [List.take_succ_eq_append_getElem h, List.any_append, Bool.or_assoc]
  simp
theorem twB_no {E : Int} {Ws : List SagaD} {di : Int} (h : twB E Ws di Ws.length = false) : E = 0 ∧ ∀ F ∈ Ws, F.id ≠ di := by
  unfold twB at h
  rw [List.take_length, Bool.or_eq_false_iff] at h
  refine ⟨by simpa using h.1, fun F hF e => ?_⟩
  have := List.any_eq_false.1 h.2 F hF
  simp [e] at this
/-- How the place is sought. -/
structure PAt (X wy : World) (g cap : Nat) (log : Value) (Ls : List RecD) (Ws : List SagaD) (D : SagaD) (k : Nat) : Prop where
  ins : InsAt X wy X.heap.size g cap Ws D k
  log : OwnRecs wy X.heap.size log Ls
  below : Below X.heap.size X wy
  high : ∀ i (hi : i < Ws.length), k ≤ i → D.id < Ws[i].id
theorem SSt.add {X wr wy : World} {log want log' : Value} {Ds Ws : List SagaD} {D : SagaD} {g cap k : Nat} (h : SSt X wr log want Ds Ws) (hp : PAt X wy g cap log' ((Ds ++ [D]).flatMap storyL) Ws D k) (hk : k ≤ Ws.length) (hun : ∀ F ∈ Ws, F.id ≠ D.id) (hg : GoodD D) (hl : LawSaga D) (ha : ∀ i (hi : i < k), (Ws[i]'(by omega)).id < D.id) : SSt X wy log' (.slice (some ⟨g, 0, none⟩) (Ws.length + 1) cap) (Ds ++ [D]) (insL Ws D k) := by
  refine ⟨hp.log, hp.ins.want, hp.below, fun E => ?_, rise_ins h.rise hk ha hp.high, ?_, fun E hE => ?_, by rw [insL_len, List.length_append, h.len]; rfl⟩
  · rw [insL_mem, List.mem_append, List.mem_singleton, h.mem]
    exact or_comm
  · rw [List.pairwise_append]
    refine ⟨h.ne, List.pairwise_singleton _ _, fun E hE F hF => ?_⟩
    rw [List.mem_singleton] at hF
    subst hF
    exact hun E ((h.mem E).2 hE)
  · rcases List.mem_append.1 hE with h1 | h1
    · exact h.good E h1
    · rw [List.mem_singleton] at h1
      subst h1
      exact ⟨hg, hl⟩
theorem PAt.swap {X wy wz wa wb : World} {g cap q : Nat} {log : Value} {Ls : List RecD} {Ws : List SagaD} {D : SagaD} {zs : List SagaV} {sd sq : SagaV} (h : PAt X wy g cap log Ls Ws D (q + 1)) (hb : Below wy.heap.size wy wz) (z1 : SRow wz g cap zs) (z2 : zs.length = Ws.length + 1) (z3 : ∀ i (h1 : i < zs.length) (h2 : i < (insL Ws D (q + 1)).length), SagaRd X zs[i] (insL Ws D (q + 1))[i]) (hq : q < Ws.length) (r1 : SagaRd X sd D) (r0 : SagaRd X sq Ws[q]) (hlt : D.id < Ws[q].id)
    (hwa : Wrote wz wa g) (sa : SRow wa g cap (zs.set (q + 1) sq)) (hwb : Wrote wa wb g) (sb : SRow wb g cap ((zs.set (q + 1) sq).set q sd)) : PAt X wb g cap log Ls Ws D q := by
  obtain ⟨c1, k1, _⟩ := z1
  obtain ⟨c2, k2, _⟩ := sa
  refine ⟨⟨⟨_, sb, by simp [z2], ?_⟩, h.ins.le⟩, ((h.log.through hb).keep (hwa.recs k1 (by decide) (by decide) (by decide))).keep (hwb.recs k2 (by decide) (by decide) (by decide)), hwb.below (hwa.below (then_ h.below hb) h.ins.le) h.ins.le, fun i hi hk => ?_⟩
  · rw [← insL_swap Ws D q hq]
    exact rel_set (rel_set z3 r0) r1
  · by_cases e : i = q
    · subst e; exact hlt
    · exact h.high i hi (by omega)
set_option maxRecDepth 10000000 in
set_option maxHeartbeats 8000000 in
theorem walk (s : Sl) (Gs : List SagaD) (w : World) (tT : Tables w) (tD : LandsAt w) (h : SagasAt w s Gs) (hd : ∀ D ∈ Gs, LawSaga D) :
    Calls Tryd.prog 7 #[s.v] w fun e w' => e = .returned (.bool true) ∧ Below w.heap.size w w' := by
  obtain ⟨i0, hi0, hz0, hz1, hz2⟩ := info_parts infoSaga
  have HT := Lib.hid tT
  have HL := Lib.hid tD
  have HD := Lib.hid hd
  have HSG := Lib.hid h
  clear tT tD hd h
  obtain ⟨a, n, c⟩ := s
  dsimp only [Sl.v]
  go_enter Tryd.func7, Tryd.ntmps7
  go_wp2_with fail
  refine (awake_any w HT.out HL.out).mono ?_
  rintro e X ⟨rfl, bX⟩
  have TX := Lib.hid (HT.out.below bX)
  have LX := Lib.hid (HL.out.below bX)
  have BX := Lib.hid bX
  obtain ⟨ss, q1, q2, q3, q4, q5⟩ := HSG.out.below bX
  simp only at q1 q3 q4
  have hn : n = Gs.length := by omega
  subst hn
  have hmax := q3.1
  have HA := Lib.hid q4
  have HRD := Lib.hid q5
  have HQ2 := Lib.hid q2
  clear q1 q2 q3 q4 q5 bX HSG HT HL
  go_wp2_with fail
  go_loopw [3, 4, 5] (fun lv wv iv wr => ∃ (j : Nat) (Ds Ws : List SagaD), iv = .int .i64 j ∧ j ≤ Gs.length ∧ j ≤ 20 ∧ Ws.length ≤ j ∧ (Ds.flatMap storyL).length ≤ 4600 ∧ Hid (SSt X wr lv wv Ds Ws)) (fun _ _ iv _ => Gs.length - (intOf iv).toNat)
  case atStart => exact ⟨0, [], [], rfl, by omega, by omega, by simp, by simp, Lib.hid (SSt.start X)⟩
  case round =>
    obtain ⟨j, Ds, Ws, rfl, hj, hj20, hwl, hll, HS⟩ := hrel
    obtain ⟨⟨ga, gn, gc⟩, eg, hgn⟩ := HS.out.log.sl
    obtain ⟨⟨wa, wn, wc⟩, ew, hwn⟩ := HS.out.want.sl
    subst eg ew
    simp only at hgn hwn
    subst hwn
    obtain ⟨LL, hLL⟩ : ∃ q, (Ds.flatMap storyL).length = q := ⟨_, rfl⟩
    rw [hLL] at hgn hll
    subst hgn
    have HLL := Lib.hid hLL
    clear hLL
    dsimp only [Sl.v] at HS ⊢
    by_cases hlt : j < Gs.length
    · by_cases h20 : j < 20
      · obtain ⟨b0, o0, e0, hc0⟩ := HA.out (by omega)
        subst e0
        have ja : j < ss.length := by have := HQ2.out; omega
        have lda := sagas_ld hc0 j ja _ HS.out.below
        have hrd := HRD.out j ja hlt
        have hlaw := HD.out Gs[j] (List.getElem_mem hlt)
        obtain ⟨x, hx⟩ : ∃ q, ss[j] = q := ⟨_, rfl⟩
        obtain ⟨D, hDj⟩ : ∃ q, Gs[j] = q := ⟨_, rfl⟩
        rw [hx] at lda hrd
        rw [hDj] at hrd hlaw
        clear hx hDj hc0 ja
        obtain ⟨di, hdi⟩ : ∃ q, D.id = q := ⟨_, rfl⟩
        have hxi : x.id = di := by rw [hrd.eq]; exact hdi
        obtain ⟨ya, hya⟩ : ∃ q, sagaArr x = q := ⟨_, rfl⟩
        have LDA : Hid (∀ q, q < ya.size → wr.cell? ⟨b0, o0 + j * 16 + q, none⟩ = ya[q]?) := Lib.hid (by rw [← hya]; exact lda)
        obtain ⟨W1, hW1⟩ : ∃ q, wr.alloc (.cells ya 40) = q := ⟨_, rfl⟩
        have hb1 : Below wr.heap.size wr W1 := by rw [← hW1]; exact boxd (Below.refl _ _)
        have K1 : Hid (BlkAt W1 wr.heap.size ya 40) := Lib.hid (by rw [← hW1]; exact BlkAt.new _ _ _)
        have HYA := Lib.hid hya
        obtain ⟨G6, hG6⟩ : ∃ q, wr.heap.size = q := ⟨_, rfl⟩
        have hX6 : X.heap.size ≤ G6 := by rw [← hG6]; exact HS.out.below.size
        have HS1 := Lib.hid (HS.out.call hb1)
        have hsz1 : W1.heap.size = G6 + 1 := by rw [← hW1, World.size_alloc, hG6]
        have HSZ := Lib.hid hsz1
        rw [hG6] at K1
        dsimp only [sagaArr, Sl.v] at hya
        subst hya
        have HW1 := Lib.hid hW1
        have HR := Lib.hid hrd
        have HLW := Lib.hid hlaw
        have HXI := Lib.hid hxi
        have HDI := Lib.hid hdi
        have CK := Lib.hid (sagaCheck_rd x D W1 (TX.out.below HS1.out.below).tabs (hrd.below HS1.out.below) hlaw.fits)
        obtain ⟨E, hE⟩ : ∃ q, checkD D = q := ⟨_, rfl⟩
        rw [hE] at CK
        have HE := Lib.hid hE
        have hG6' := Lib.hid hG6
        clear hW1 hb1 lda hrd hlaw hxi hdi hE HS hsz1 hG6
        dsimp only [SagaV.val, Sl.v] at CK
        go_upto_region 9 with (first | ((with_reducible refine wpList_load_at ?_ _ (.tmp 29) ?_ (b0) (o0 + j * 16) ?_ (_) LDA.out rowSaga ?_); rotate_left; exact rfl; exact rfl; rotate_left; exact rfl))
        rw [HW1.out, hG6'.out]
        clear HW1 hG6' LDA
        go_wp2_with (first | ((with_reducible refine wpList_load_blk ?_ _ (.tmp 6) ?_ (G6) ?_ 40 (_) K1.out rowSaga ?_); rotate_left; exact rfl; exact rfl; rotate_left; exact rfl))
        refine CK.out.mono ?_
        rintro e W2 ⟨rfl, b2⟩
        have HS2 := Lib.hid (HS1.out.call b2)
        have K2 := Lib.hid (K1.out.below b2 (by have := HSZ.out; omega))
        clear b2 HS1 K1 CK HSZ
        go_wp2_with fail
        go_loopw [7, 8] (fun tv qv wy => ∃ q : Nat, tv = .bool (twB E Ws di q) ∧ qv = .int .i64 q ∧ q ≤ Ws.length ∧ Hid (Since W2 wy)) (fun _ qv _ => Ws.length - (intOf qv).toNat)
        case atStart => exact ⟨0, by rw [twB_zero], rfl, by omega, Lib.hid (Since.refl _)⟩
        case round =>
          obtain ⟨q, rfl, rfl, hq, HY⟩ := hrel
          obtain ⟨W3, rfl⟩ : ∃ z : World, z = wr := ⟨_, rfl⟩
          by_cases hqlt : q < Ws.length
          · have htw := twB_succ (E := E) (di := di) hqlt
            obtain ⟨us, o1, o2, o3⟩ := HS2.out.want
            obtain ⟨g, cap, eg, _, _⟩ := o1.form (by omega)
            simp only [Value.slice.injEq, true_and] at eg
            obtain ⟨rfl, rfl⟩ := eg
            have hSR := (SRow.of o1 o2).1
            have hcl := hSR.cell q (by omega) 0 (by omega)
            rw [Nat.add_zero] at hcl
            obtain ⟨fi, hfi⟩ : ∃ z, Ws[q].id = z := ⟨_, rfl⟩
            have CF : Hid (∀ W, Since W2 W → W.cell? ⟨g, q * 16, none⟩ = some (.int .i64 fi)) := Lib.hid (fun W hW => by
              have h1 : W2.cell? ⟨g, q * 16, none⟩ = some (.int .i64 fi) := by rw [hcl, (o3 q (by omega) hqlt).eq, ← hfi]; rfl
              exact (hW.out.cell (World.block_lt_of_cell? W2 _ h1)).trans h1)
            rw [hfi] at htw
            have C6 : Hid (∀ W, Since W2 W → W.cell? ⟨G6, 0, none⟩ = some (.int .i64 di)) := Lib.hid (fun W hW => by rw [((hW.blk K2.out).cell 0), ← HXI.out]; rfl)
            have HTW := Lib.hid htw
            obtain ⟨tb, htb⟩ : ∃ z, twB E Ws di q = z := ⟨_, rfl⟩
            rw [htb] at HTW ⊢
            clear htw o1 o2 o3 hSR hcl hfi htb
            go_upto_region 13 with fail
            cases tb with
            | true =>
              refine wp_region_held_drew (S := Since W2) (by kernel_rfl) (HY.out.drew) (fun hHeld => ?_)
              refine wpAnyH_take (i := 0) (oi := { dst := some 40, op := Op.move (Operand.tmp 7), type := 4, pos := "outright.go:163", after := #[], guard := none }) (v := ?_) rfl (by kernel_rfl) (by kernel_rfl) (by kernel_rfl) (fun _ _ _ h => h) (Or.inl ⟨by rfl, ?_⟩) (by assumption) ?_
              rotate_left 1
              focus (intro w hSw; (try clear hSw); go_simp; try (with_reducible rfl))
              try go_frame
              refine wpAnyH_take (i := 1) (oi := { dst := some 41, op := Op.move (Operand.tmp 40), type := 4, pos := "outright.go:163", after := #[{ on := 0, ground := Ground.data }], guard := none }) (v := ?_) rfl (by kernel_rfl) (by kernel_rfl) (by kernel_rfl) (fun _ _ _ h => h) (Or.inl ⟨by rfl, ?_⟩) (by assumption) ?_
              rotate_left 1
              focus (intro w hSw; (try clear hSw); go_simp; try (with_reducible rfl))
              try go_frame
              refine wpAnyH_take (i := 2) (oi := { dst := some 42, op := Op.move (Operand.tmp 4), type := 25, pos := "outright.go:163", after := #[{ on := 1, ground := Ground.guard }], guard := some (1, false) }) (v := undef) rfl (by kernel_rfl) (by kernel_rfl) (by kernel_rfl) (fun _ _ _ h => h) (Or.inr ⟨by kernel_rfl, rfl⟩) (by assumption) ?_
              try go_frame
              refine wpAnyH_take (i := 3) (oi := { dst := some 43, op := Op.move (Operand.tmp 8), type := 3, pos := "outright.go:163", after := #[{ on := 1, ground := Ground.guard }], guard := some (1, false) }) (v := undef) rfl (by kernel_rfl) (by kernel_rfl) (by kernel_rfl) (fun _ _ _ h => h) (Or.inr ⟨by kernel_rfl, rfl⟩) (by assumption) ?_
              try go_frame
              refine wpAnyH_take (i := 4) (oi := { dst := some 44, op := Op.indexAddr 25 (Operand.tmp 42) (Operand.tmp 43), type := 0, pos := "outright.go:163", after := #[{ on := 2, ground := Ground.data }, { on := 3, ground := Ground.data }, { on := 1, ground := Ground.guard }], guard := some (1, false) }) (v := undef) rfl (by kernel_rfl) (by kernel_rfl) (by kernel_rfl) (fun _ _ _ h => h) (Or.inr ⟨by kernel_rfl, rfl⟩) (by assumption) ?_
              try go_frame
              refine wpAnyH_take (i := 5) (oi := { dst := some 45, op := Op.fieldAddr 40 (Operand.tmp 44) 0, type := 0, pos := "outright.go:163", after := #[{ on := 4, ground := Ground.data }, { on := 1, ground := Ground.guard }], guard := some (1, false) }) (v := undef) rfl (by kernel_rfl) (by kernel_rfl) (by kernel_rfl) (fun _ _ _ h => h) (Or.inr ⟨by kernel_rfl, rfl⟩) (by assumption) ?_
              try go_frame
              refine wpAnyH_take (i := 6) (oi := { dst := some 46, op := Op.load 3 (Operand.tmp 45), type := 3, pos := "outright.go:163", after := #[{ on := 5, ground := Ground.data }, { on := 1, ground := Ground.guard }], guard := some (1, false) }) (v := undef) rfl (by kernel_rfl) (by kernel_rfl) (by kernel_rfl) (fun _ _ _ h => h) (Or.inr ⟨by kernel_rfl, rfl⟩) (by assumption) ?_
              try go_frame
              refine wpAnyH_take (i := 7) (oi := { dst := some 47, op := Op.fieldAddr 40 (Operand.tmp 6) 0, type := 0, pos := "outright.go:163", after := #[{ on := 1, ground := Ground.guard }], guard := some (1, false) }) (v := undef) rfl (by kernel_rfl) (by kernel_rfl) (by kernel_rfl) (fun _ _ _ h => h) (Or.inr ⟨by kernel_rfl, rfl⟩) (by assumption) ?_
              try go_frame
              refine wpAnyH_take (i := 8) (oi := { dst := some 48, op := Op.load 3 (Operand.tmp 47), type := 3, pos := "outright.go:163", after := #[{ on := 7, ground := Ground.data }, { on := 1, ground := Ground.guard }], guard := some (1, false) }) (v := undef) rfl (by kernel_rfl) (by kernel_rfl) (by kernel_rfl) (fun _ _ _ h => h) (Or.inr ⟨by kernel_rfl, rfl⟩) (by assumption) ?_
              try go_frame
              refine wpAnyH_take (i := 9) (oi := { dst := some 49, op := Op.binOp BinOp.eql 3 (Operand.tmp 46) (Operand.tmp 48) 3, type := 4, pos := "outright.go:163", after := #[{ on := 6, ground := Ground.data }, { on := 8, ground := Ground.data }, { on := 1, ground := Ground.guard }], guard := some (1, false) }) (v := undef) rfl (by kernel_rfl) (by kernel_rfl) (by kernel_rfl) (fun _ _ _ h => h) (Or.inr ⟨by kernel_rfl, rfl⟩) (by assumption) ?_
              try go_frame
              refine wpAnyH_take (i := 10) (oi := { dst := some 50, op := Op.pick (Operand.tmp 41) (Operand.const (Value.bool true)) (Operand.tmp 49), type := 4, pos := "outright.go:163", after := #[{ on := 1, ground := Ground.data }, { on := 9, ground := Ground.data }], guard := none }) (v := ?_) rfl (by kernel_rfl) (by kernel_rfl) (by kernel_rfl) (fun _ _ _ h => h) (Or.inl ⟨by rfl, ?_⟩) (by assumption) ?_
              rotate_left 1
              focus (intro w hSw; (try clear hSw); go_simp; try (with_reducible rfl))
              try go_frame
              refine wpAnyH_ready (rs := [11]) (by kernel_rfl) (by simp) ?_
              refine AllReadyH.cons (o := { dst := some 7, op := Op.assign (Operand.tmp 50), type := 4, pos := "outright.go:163", after := #[{ on := 10, ground := Ground.data }, { on := 1, ground := Ground.chain }, { on := 0, ground := Ground.phase }, { on := 1, ground := Ground.phase }, { on := 2, ground := Ground.phase }, { on := 3, ground := Ground.phase }, { on := 4, ground := Ground.phase }, { on := 5, ground := Ground.phase }, { on := 6, ground := Ground.phase }, { on := 7, ground := Ground.phase }, { on := 8, ground := Ground.phase }, { on := 9, ground := Ground.phase }, { on := 10, ground := Ground.phase }], guard := none }) rfl (fun K hK => ?_) ?_
              · go_simp
                refine hK.out _ _ (by assumption) (fun hHeld => ?_)
                clear hK K
                try go_frame
                refine wpAnyH_done (by kernel_rfl) ?_ _
                try go_wp2_with fail
                all_goals go_roundw
                case rel => exact ⟨q + 1, by rw [HTW.out]; simp, by go_num, by omega, Lib.hid hHeld⟩
                case measure => simp [intOf]; omega
              exact AllReadyH.nil
            | false =>
              refine wp_region_held_drew (S := Since W2) (by kernel_rfl) (HY.out.drew) (fun hHeld => ?_)
              refine wpAnyH_take (i := 0) (oi := { dst := some 40, op := Op.move (Operand.tmp 7), type := 4, pos := "outright.go:163", after := #[], guard := none }) (v := ?_) rfl (by kernel_rfl) (by kernel_rfl) (by kernel_rfl) (fun _ _ _ h => h) (Or.inl ⟨by rfl, ?_⟩) (by assumption) ?_
              rotate_left 1
              focus (intro w hSw; (try clear hSw); go_simp; try (with_reducible rfl))
              try go_frame
              refine wpAnyH_take (i := 1) (oi := { dst := some 41, op := Op.move (Operand.tmp 40), type := 4, pos := "outright.go:163", after := #[{ on := 0, ground := Ground.data }], guard := none }) (v := ?_) rfl (by kernel_rfl) (by kernel_rfl) (by kernel_rfl) (fun _ _ _ h => h) (Or.inl ⟨by rfl, ?_⟩) (by assumption) ?_
              rotate_left 1
              focus (intro w hSw; (try clear hSw); go_simp; try (with_reducible rfl))
              try go_frame
              refine wpAnyH_take (i := 2) (oi := { dst := some 42, op := Op.move (Operand.tmp 4), type := 25, pos := "outright.go:163", after := #[{ on := 1, ground := Ground.guard }], guard := some (1, false) }) (v := ?_) rfl (by kernel_rfl) (by kernel_rfl) (by kernel_rfl) (fun _ _ _ h => h) (Or.inl ⟨by rfl, ?_⟩) (by assumption) ?_
              rotate_left 1
              focus (intro w hSw; (try clear hSw); go_simp; try (with_reducible rfl))
              try go_frame
              refine wpAnyH_take (i := 3) (oi := { dst := some 43, op := Op.move (Operand.tmp 8), type := 3, pos := "outright.go:163", after := #[{ on := 1, ground := Ground.guard }], guard := some (1, false) }) (v := ?_) rfl (by kernel_rfl) (by kernel_rfl) (by kernel_rfl) (fun _ _ _ h => h) (Or.inl ⟨by rfl, ?_⟩) (by assumption) ?_
              rotate_left 1
              focus (intro w hSw; (try clear hSw); go_simp; try (with_reducible rfl))
              try go_frame
              refine wpAnyH_take (i := 4) (oi := { dst := some 44, op := Op.indexAddr 25 (Operand.tmp 42) (Operand.tmp 43), type := 0, pos := "outright.go:163", after := #[{ on := 2, ground := Ground.data }, { on := 3, ground := Ground.data }, { on := 1, ground := Ground.guard }], guard := some (1, false) }) (v := ?_) rfl (by kernel_rfl) (by kernel_rfl) (by kernel_rfl) (fun _ _ _ h => h) (Or.inl ⟨by rfl, ?_⟩) (by assumption) ?_
              rotate_left 1
              focus (intro w hSw; (try clear hSw); go_simp; try (with_reducible rfl))
              try go_frame
              refine wpAnyH_take (i := 5) (oi := { dst := some 45, op := Op.fieldAddr 40 (Operand.tmp 44) 0, type := 0, pos := "outright.go:163", after := #[{ on := 4, ground := Ground.data }, { on := 1, ground := Ground.guard }], guard := some (1, false) }) (v := ?_) rfl (by kernel_rfl) (by kernel_rfl) (by kernel_rfl) (fun _ _ _ h => h) (Or.inl ⟨by rfl, ?_⟩) (by assumption) ?_
              rotate_left 1
              focus (intro w hSw; (try clear hSw); go_simp; try (with_reducible rfl))
              try go_frame
              refine wpAnyH_take (i := 6) (oi := { dst := some 46, op := Op.load 3 (Operand.tmp 45), type := 3, pos := "outright.go:163", after := #[{ on := 5, ground := Ground.data }, { on := 1, ground := Ground.guard }], guard := some (1, false) }) (v := .int .i64 fi) rfl (by kernel_rfl) (by kernel_rfl) (by kernel_rfl) (fun _ _ _ h => h) (yl_cell_g (by rfl) _ _ rfl _ rfl _ (fun w' h => CF.out w' h) one_int) (by assumption) ?_
              try go_frame
              refine wpAnyH_take (i := 7) (oi := { dst := some 47, op := Op.fieldAddr 40 (Operand.tmp 6) 0, type := 0, pos := "outright.go:163", after := #[{ on := 1, ground := Ground.guard }], guard := some (1, false) }) (v := ?_) rfl (by kernel_rfl) (by kernel_rfl) (by kernel_rfl) (fun _ _ _ h => h) (Or.inl ⟨by rfl, ?_⟩) (by assumption) ?_
              rotate_left 1
              focus (intro w hSw; (try clear hSw); go_simp; try (with_reducible rfl))
              try go_frame
              refine wpAnyH_take (i := 8) (oi := { dst := some 48, op := Op.load 3 (Operand.tmp 47), type := 3, pos := "outright.go:163", after := #[{ on := 7, ground := Ground.data }, { on := 1, ground := Ground.guard }], guard := some (1, false) }) (v := .int .i64 di) rfl (by kernel_rfl) (by kernel_rfl) (by kernel_rfl) (fun _ _ _ h => h) (yl_cell_g (by rfl) _ _ rfl _ rfl _ (fun w' h => C6.out w' h) one_int) (by assumption) ?_
              try go_frame
              refine wpAnyH_take (i := 9) (oi := { dst := some 49, op := Op.binOp BinOp.eql 3 (Operand.tmp 46) (Operand.tmp 48) 3, type := 4, pos := "outright.go:163", after := #[{ on := 6, ground := Ground.data }, { on := 8, ground := Ground.data }, { on := 1, ground := Ground.guard }], guard := some (1, false) }) (v := ?_) rfl (by kernel_rfl) (by kernel_rfl) (by kernel_rfl) (fun _ _ _ h => h) (Or.inl ⟨by rfl, ?_⟩) (by assumption) ?_
              rotate_left 1
              focus (intro w hSw; (try clear hSw); go_simp; try (with_reducible rfl))
              try go_frame
              refine wpAnyH_take (i := 10) (oi := { dst := some 50, op := Op.pick (Operand.tmp 41) (Operand.const (Value.bool true)) (Operand.tmp 49), type := 4, pos := "outright.go:163", after := #[{ on := 1, ground := Ground.data }, { on := 9, ground := Ground.data }], guard := none }) (v := ?_) rfl (by kernel_rfl) (by kernel_rfl) (by kernel_rfl) (fun _ _ _ h => h) (Or.inl ⟨by rfl, ?_⟩) (by assumption) ?_
              rotate_left 1
              focus (intro w hSw; (try clear hSw); go_simp; try (with_reducible rfl))
              try go_frame
              refine wpAnyH_ready (rs := [11]) (by kernel_rfl) (by simp) ?_
              refine AllReadyH.cons (o := { dst := some 7, op := Op.assign (Operand.tmp 50), type := 4, pos := "outright.go:163", after := #[{ on := 10, ground := Ground.data }, { on := 1, ground := Ground.chain }, { on := 0, ground := Ground.phase }, { on := 1, ground := Ground.phase }, { on := 2, ground := Ground.phase }, { on := 3, ground := Ground.phase }, { on := 4, ground := Ground.phase }, { on := 5, ground := Ground.phase }, { on := 6, ground := Ground.phase }, { on := 7, ground := Ground.phase }, { on := 8, ground := Ground.phase }, { on := 9, ground := Ground.phase }, { on := 10, ground := Ground.phase }], guard := none }) rfl (fun K hK => ?_) ?_
              · go_simp
                refine hK.out _ _ (by assumption) (fun hHeld => ?_)
                clear hK K
                try go_frame
                refine wpAnyH_done (by kernel_rfl) ?_ _
                try go_wp2_with fail
                all_goals go_roundw
                case rel => exact ⟨q + 1, by rw [HTW.out]; by_cases hh : fi = di <;> simp [hh], by go_num, by omega, Lib.hid hHeld⟩
                case measure => simp [intOf]; omega
              exact AllReadyH.nil
          · have hqe : q = Ws.length := by omega
            subst hqe
            obtain ⟨tb, htb⟩ : ∃ z, twB E Ws di Ws.length = z := ⟨_, rfl⟩
            rw [htb]
            have HTB := Lib.hid htb
            have HS3 := Lib.hid (HS2.out.call HY.out.out)
            have K3 := Lib.hid (K2.out.below HY.out.out (blk_lt K2.out))
            clear htb HS2 K2 HY
            cases tb with
            | true =>
              go_wp2_with fail
              all_goals go_roundw
              case rel => exact ⟨j + 1, Ds, Ws, by go_num, by omega, by omega, by omega, by rw [HLL.out]; omega, HS3⟩
              case measure => simp [intOf]; omega
            | false =>
              by_cases h600 : 600 < gn
              · go_wp2_with fail
                all_goals go_roundw
                case rel => exact ⟨j + 1, Ds, Ws, by go_num, by omega, by omega, by omega, by rw [HLL.out]; omega, HS3⟩
                case measure => simp [intOf]; omega
              · obtain ⟨hE0, hun⟩ := twB_no HTB.out
                have hck : checkD D = 0 := by rw [HE.out]; exact hE0
                have hgd : GoodD D := (checkD_iff _).1 hck
                have HGD := Lib.hid hgd
                have HUN := Lib.hid hun
                have hsl := story_len hgd
                have CC := Lib.hid (ref10Clone_any x D W3 (HR.out.below HS3.out.below) hgd.small)
                dsimp only [SagaV.val, Sl.v] at CC
                clear hE0 hun HTB HE
                go_wp2_with (first | ((with_reducible refine wpList_load_blk ?_ _ (.tmp 6) ?_ (G6) ?_ 40 (_) K3.out rowSaga ?_); rotate_left; exact rfl; exact rfl; rotate_left; exact rfl))
                refine CC.out.mono ?_
                rintro e w5 ⟨s5, rfl, ho5, b5⟩
                have HS5 := Lib.hid (HS3.out.call b5)
                have K5 := Lib.hid (K3.out.below b5 (blk_lt K3.out))
                have CS := story_any s5 D w5 (TX.out.below HS5.out.below) (ho5.rd hgd.small) HLW.out.fits
                rw [hck, if_pos rfl] at CS
                have HCS := Lib.hid CS
                clear ho5 b5 HS3 K3 CC CS hck hgd
                dsimp only [SagaV.val, Sl.v] at HCS ⊢
                go_wp2_with fail
                refine HCS.out.mono ?_
                rintro e w6 ⟨⟨va, vn, vc⟩, rfl, ov, b6⟩
                have HS6 := Lib.hid (HS5.out.call b6)
                have K6 := Lib.hid (K5.out.below b6 (blk_lt K5.out))
                have RV := Lib.hid (OwnRecs.recsIn (v := ⟨va, vn, vc⟩) (ov.lower (c := X.heap.size) HS5.out.below.size))
                clear ov b6 HS5 K5 HCS
                dsimp only
                go_wp2_with (at_builtin; refine wpList_append_recs w6 rfl (.tmp 65) (.tmp 66) rfl X.heap.size (.slice ga gn gc) (Ds.flatMap storyL) rfl HS6.out.log ⟨va, vn, vc⟩ (storyL D) rfl RV.out ?c1 ?c2 ?_)
                case c1 => rw [HLL.out]; omega
                case c2 => exact HS6.out.below.size
                intro v7 w7 o7 g7 at7 n7
                obtain ⟨us, u1, u2, u3⟩ := HS6.out.want
                obtain ⟨rs6, r61, _⟩ := HS6.out.log
                have U7 := Lib.hid (u1.kept g7 (own_rows_apart u1 r61 (by decide)))
                have K7 := Lib.hid (blk_grown K6.out g7 (Ne.symm (own_no_blk r61 K6.out (by decide))))
                have B7 := Lib.hid (HS6.out.below.grown g7 HS6.out.below.size (fun q hq => (r61.lt q hq).1))
                have O7 : Hid (OwnRecs w7 X.heap.size v7.v ((Ds ++ [D]).flatMap storyL)) := Lib.hid (by rw [List.flatMap_append]; simpa using o7)
                have HSX := Lib.hid HS6.out
                obtain ⟨SL, hSL⟩ : ∃ z, (storyL D).length = z := ⟨_, rfl⟩
                rw [hSL] at hsl
                have HLL2 : Hid (((Ds ++ [D]).flatMap storyL).length = gn + SL) := Lib.hid (by rw [List.flatMap_append, List.length_append, HLL.out]; simp [hSL])
                have HUN2 : Hid (∀ F ∈ Ws, F.id ≠ D.id) := Lib.hid (fun F hF => by rw [HDI.out]; exact HUN.out F hF)
                clear hSL
                have U2 := Lib.hid u2
                have U3 := Lib.hid u3
                clear o7 g7 at7 n7 u1 u2 u3 r61 RV K6
                obtain ⟨v7a, v7n, v7c⟩ := v7
                dsimp only [Sl.v] at O7 ⊢
                go_wp2_with (first
                  | ((with_reducible refine wpList_load_blk ?_ _ (.tmp 6) ?_ (G6) ?_ 40 (_) K7.out rowSaga ?_); rotate_left; exact rfl; exact rfl; rotate_left; exact rfl)
                  | (at_builtin; refine wpList_append_lies _ rfl (.tmp 68) (.tmp 70) 25 rfl X.heap.size 40 i0 _ 16 200 Tryd.underlying25 hi0 hz0 hz1 hz2 rfl (by omega) (.slice wa Ws.length wc) Ws.length (us.flatMap SagaV.cells) rfl (U7.out.alloc _) ⟨w7.heap.size, 0, none⟩ 1 1 [.int .i64 x.id, .string x.name, .int .i64 x.count, .int .i64 x.pivot, .int .i64 x.begun, .int .i64 x.at_, .slice x.input.a x.input.n x.input.c, .int .i64 x.phase, .int .i64 x.next, .bool x.flight, .int .i64 x.tries, .slice x.outs.a x.outs.n x.outs.c, .slice x.undos.a x.undos.n x.undos.c, .int .i64 x.failStep, .int .i64 x.failCode, .slice x.fail.a x.fail.n x.fail.c] rfl rfl (World.news_of_block (cs := #[.int .i64 x.id, .string x.name, .int .i64 x.count, .int .i64 x.pivot, .int .i64 x.begun, .int .i64 x.at_, .slice x.input.a x.input.n x.input.c, .int .i64 x.phase, .int .i64 x.next, .bool x.flight, .int .i64 x.tries, .slice x.outs.a x.outs.n x.outs.c, .slice x.undos.a x.undos.n x.undos.c, .int .i64 x.failStep, .int .i64 x.failCode, .slice x.fail.a x.fail.n x.fail.c]) (t := 40) (fr := (0, 0)) (heap_alloc_new w7 _)) (by simp [Value.oneCell']) (by omega) (by simp only [maxLen]; omega) (by omega) (by have := B7.out.size; simp; omega) (w7.heap.size + 1) (by simp) ?_))
                intro g cap w9 o9 g9 at9 lt9
                have hbp : Below w7.heap.size w7 (w7.alloc (.cells #[.int .i64 x.id, .string x.name, .int .i64 x.count, .int .i64 x.pivot, .int .i64 x.begun, .int .i64 x.at_, .slice x.input.a x.input.n x.input.c, .int .i64 x.phase, .int .i64 x.next, .bool x.flight, .int .i64 x.tries, .slice x.outs.a x.outs.n x.outs.c, .slice x.undos.a x.undos.n x.undos.c, .int .i64 x.failStep, .int .i64 x.failCode, .slice x.fail.a x.fail.n x.fail.c] 40)) := boxd (Below.refl _ _)
                have p1 := own_through U7.out hbp
                have hk9 := recs_row p1 g9
                obtain ⟨hSR, hXg⟩ := SRow.of (ss := us ++ [x]) (by simpa using o9) (by simp [U2.out])
                have P0 : Hid (PAt X w9 g cap (.slice v7a v7n v7c) ((Ds ++ [D]).flatMap storyL) Ws D Ws.length) := Lib.hid ⟨⟨⟨us ++ [x], hSR, by simp [U2.out], fun i h1 h2 => by
                    simp only [insL_end]
                    by_cases e2 : i < us.length
                    · rw [List.getElem_append_left e2, List.getElem_append_left (by have := U2.out; omega)]
                      exact U3.out i e2 (by have := U2.out; omega)
                    · have e1 : i = us.length := by simp at h1; omega
                      subst e1
                      rw [List.getElem_append_right (by omega), List.getElem_append_right (by have := U2.out; omega)]
                      simp only [U2.out, Nat.sub_self, List.getElem_cons_zero]
                      exact HR.out⟩, hXg⟩, (O7.out.through hbp).keep hk9, ((B7.out.alloc B7.out.size _).grown g9 (by have := B7.out.size; simp; omega) (fun q hq => (p1.lt q hq).1)), fun i hi k => by omega⟩
                clear o9 g9 at9 lt9 hbp p1 hk9 hSR hXg U7 K7 B7 O7 U2 U3 HS6 h600
                go_wp2_with fail
                go_loopw [11] (fun kv wy => ∃ k : Nat, kv = .int .i64 k ∧ k ≤ Ws.length ∧ Hid (PAt X wy g cap (.slice v7a v7n v7c) ((Ds ++ [D]).flatMap storyL) Ws D k)) (fun kv _ => (intOf kv).toNat)
                case atStart => exact ⟨Ws.length, by go_num, by omega, P0⟩
                case round =>
                  obtain ⟨k, rfl, hk, HP⟩ := hrel
                  clear P0
                  obtain ⟨wy, rfl⟩ : ∃ q : World, q = wr := ⟨_, rfl⟩
                  cases k with
                  | zero =>
                    have HFIN : Hid (SSt X wy (.slice v7a v7n v7c) (.slice (some ⟨g, 0, none⟩) (Ws.length + 1) cap) (Ds ++ [D]) (insL Ws D 0)) := Lib.hid (SSt.add HSX.out HP.out (by omega) HUN2.out HGD.out HLW.out (fun i hi => absurd hi (by omega)))
                    clear HP
                    go_upto_region 21 with fail
                    go_cut [90] (fun s0 wx => s0 = .bool false ∧ Hid (Since wy wx))
                    case first =>
                      refine wp_region_held_drew (S := Since wy) (by kernel_rfl) ((Since.refl wy).drew) (fun hHeld => ?_)
                      refine wpAnyH_take (i := 0) (oi := { dst := some 75, op := Op.move (Operand.tmp 11), type := 3, pos := "outright.go:174", after := #[], guard := none }) (v := ?_) rfl (by kernel_rfl) (by kernel_rfl) (by kernel_rfl) (fun _ _ _ h => h) (Or.inl ⟨by rfl, ?_⟩) (by assumption) ?_
                      rotate_left 1
                      focus (intro w hSw; (try clear hSw); go_simp; try (with_reducible rfl))
                      try go_frame
                      refine wpAnyH_take (i := 1) (oi := { dst := some 76, op := Op.binOp BinOp.gtr 3 (Operand.tmp 75) (Operand.const (Value.int IntKind.i64 0)) 3, type := 4, pos := "outright.go:174", after := #[{ on := 0, ground := Ground.data }], guard := none }) (v := ?_) rfl (by kernel_rfl) (by kernel_rfl) (by kernel_rfl) (fun _ _ _ h => h) (Or.inl ⟨by rfl, ?_⟩) (by assumption) ?_
                      rotate_left 1
                      focus (intro w hSw; (try clear hSw); go_simp; try (with_reducible rfl))
                      try go_frame
                      refine wpAnyH_take (i := 2) (oi := { dst := some 77, op := Op.move (Operand.tmp 76), type := 4, pos := "outright.go:174", after := #[{ on := 1, ground := Ground.data }], guard := none }) (v := ?_) rfl (by kernel_rfl) (by kernel_rfl) (by kernel_rfl) (fun _ _ _ h => h) (Or.inl ⟨by rfl, ?_⟩) (by assumption) ?_
                      rotate_left 1
                      focus (intro w hSw; (try clear hSw); go_simp; try (with_reducible rfl))
                      try go_frame
                      refine wpAnyH_take (i := 3) (oi := { dst := some 78, op := Op.move (Operand.tmp 4), type := 25, pos := "outright.go:174", after := #[{ on := 2, ground := Ground.guard }], guard := some (2, true) }) (v := undef) rfl (by kernel_rfl) (by kernel_rfl) (by kernel_rfl) (fun _ _ _ h => h) (Or.inr ⟨by kernel_rfl, rfl⟩) (by assumption) ?_
                      try go_frame
                      refine wpAnyH_take (i := 4) (oi := { dst := some 79, op := Op.move (Operand.tmp 11), type := 3, pos := "outright.go:174", after := #[{ on := 2, ground := Ground.guard }], guard := some (2, true) }) (v := undef) rfl (by kernel_rfl) (by kernel_rfl) (by kernel_rfl) (fun _ _ _ h => h) (Or.inr ⟨by kernel_rfl, rfl⟩) (by assumption) ?_
                      try go_frame
                      refine wpAnyH_take (i := 5) (oi := { dst := some 80, op := Op.binOp BinOp.sub 3 (Operand.tmp 79) (Operand.const (Value.int IntKind.i64 1)) 3, type := 3, pos := "outright.go:174", after := #[{ on := 4, ground := Ground.data }, { on := 2, ground := Ground.guard }], guard := some (2, true) }) (v := undef) rfl (by kernel_rfl) (by kernel_rfl) (by kernel_rfl) (fun _ _ _ h => h) (Or.inr ⟨by kernel_rfl, rfl⟩) (by assumption) ?_
                      try go_frame
                      refine wpAnyH_take (i := 6) (oi := { dst := some 81, op := Op.indexAddr 25 (Operand.tmp 78) (Operand.tmp 80), type := 0, pos := "outright.go:174", after := #[{ on := 3, ground := Ground.data }, { on := 5, ground := Ground.data }, { on := 2, ground := Ground.guard }], guard := some (2, true) }) (v := undef) rfl (by kernel_rfl) (by kernel_rfl) (by kernel_rfl) (fun _ _ _ h => h) (Or.inr ⟨by kernel_rfl, rfl⟩) (by assumption) ?_
                      try go_frame
                      refine wpAnyH_take (i := 7) (oi := { dst := some 82, op := Op.fieldAddr 40 (Operand.tmp 81) 0, type := 0, pos := "outright.go:174", after := #[{ on := 6, ground := Ground.data }, { on := 2, ground := Ground.guard }], guard := some (2, true) }) (v := undef) rfl (by kernel_rfl) (by kernel_rfl) (by kernel_rfl) (fun _ _ _ h => h) (Or.inr ⟨by kernel_rfl, rfl⟩) (by assumption) ?_
                      try go_frame
                      refine wpAnyH_take (i := 8) (oi := { dst := some 83, op := Op.load 3 (Operand.tmp 82), type := 3, pos := "outright.go:174", after := #[{ on := 7, ground := Ground.data }, { on := 2, ground := Ground.guard }], guard := some (2, true) }) (v := undef) rfl (by kernel_rfl) (by kernel_rfl) (by kernel_rfl) (fun _ _ _ h => h) (Or.inr ⟨by kernel_rfl, rfl⟩) (by assumption) ?_
                      try go_frame
                      refine wpAnyH_take (i := 9) (oi := { dst := some 84, op := Op.move (Operand.tmp 4), type := 25, pos := "outright.go:174", after := #[{ on := 2, ground := Ground.guard }], guard := some (2, true) }) (v := undef) rfl (by kernel_rfl) (by kernel_rfl) (by kernel_rfl) (fun _ _ _ h => h) (Or.inr ⟨by kernel_rfl, rfl⟩) (by assumption) ?_
                      try go_frame
                      refine wpAnyH_take (i := 10) (oi := { dst := some 85, op := Op.move (Operand.tmp 11), type := 3, pos := "outright.go:174", after := #[{ on := 2, ground := Ground.guard }], guard := some (2, true) }) (v := undef) rfl (by kernel_rfl) (by kernel_rfl) (by kernel_rfl) (fun _ _ _ h => h) (Or.inr ⟨by kernel_rfl, rfl⟩) (by assumption) ?_
                      try go_frame
                      refine wpAnyH_take (i := 11) (oi := { dst := some 86, op := Op.indexAddr 25 (Operand.tmp 84) (Operand.tmp 85), type := 0, pos := "outright.go:174", after := #[{ on := 9, ground := Ground.data }, { on := 10, ground := Ground.data }, { on := 2, ground := Ground.guard }], guard := some (2, true) }) (v := undef) rfl (by kernel_rfl) (by kernel_rfl) (by kernel_rfl) (fun _ _ _ h => h) (Or.inr ⟨by kernel_rfl, rfl⟩) (by assumption) ?_
                      try go_frame
                      refine wpAnyH_take (i := 12) (oi := { dst := some 87, op := Op.fieldAddr 40 (Operand.tmp 86) 0, type := 0, pos := "outright.go:174", after := #[{ on := 11, ground := Ground.data }, { on := 2, ground := Ground.guard }], guard := some (2, true) }) (v := undef) rfl (by kernel_rfl) (by kernel_rfl) (by kernel_rfl) (fun _ _ _ h => h) (Or.inr ⟨by kernel_rfl, rfl⟩) (by assumption) ?_
                      try go_frame
                      refine wpAnyH_take (i := 13) (oi := { dst := some 88, op := Op.load 3 (Operand.tmp 87), type := 3, pos := "outright.go:174", after := #[{ on := 12, ground := Ground.data }, { on := 2, ground := Ground.guard }], guard := some (2, true) }) (v := undef) rfl (by kernel_rfl) (by kernel_rfl) (by kernel_rfl) (fun _ _ _ h => h) (Or.inr ⟨by kernel_rfl, rfl⟩) (by assumption) ?_
                      try go_frame
                      refine wpAnyH_take (i := 14) (oi := { dst := some 89, op := Op.binOp BinOp.gtr 3 (Operand.tmp 83) (Operand.tmp 88) 3, type := 4, pos := "outright.go:174", after := #[{ on := 8, ground := Ground.data }, { on := 13, ground := Ground.data }, { on := 2, ground := Ground.guard }], guard := some (2, true) }) (v := undef) rfl (by kernel_rfl) (by kernel_rfl) (by kernel_rfl) (fun _ _ _ h => h) (Or.inr ⟨by kernel_rfl, rfl⟩) (by assumption) ?_
                      try go_frame
                      refine wpAnyH_take (i := 15) (oi := { dst := some 90, op := Op.pick (Operand.tmp 77) (Operand.tmp 89) (Operand.const (Value.bool false)), type := 4, pos := "outright.go:174", after := #[{ on := 2, ground := Ground.data }, { on := 14, ground := Ground.data }], guard := none }) (v := ?_) rfl (by kernel_rfl) (by kernel_rfl) (by kernel_rfl) (fun _ _ _ h => h) (Or.inl ⟨by rfl, ?_⟩) (by assumption) ?_
                      rotate_left 1
                      focus (intro w hSw; (try clear hSw); go_simp; try (with_reducible rfl))
                      try go_frame
                      refine wpAnyH_done (by kernel_rfl) ?_ _
                      try go_wp2_with fail
                      go_meet
                      exact ⟨rfl, Lib.hid hHeld⟩
                    case rest =>
                    obtain ⟨wx, rfl⟩ : ∃ q : World, q = wc := ⟨_, rfl⟩
                    obtain ⟨rfl, HSX1⟩ := hcut
                    have HF2 := Lib.hid (HFIN.out.call HSX1.out.out)
                    clear HFIN HSX1
                    go_wp2_with fail
                    all_goals go_roundw
                    case rel => exact ⟨j + 1, Ds ++ [D], insL Ws D 0, by go_num, by omega, by omega, by rw [insL_len]; omega, by rw [HLL2.out]; omega, HF2⟩
                    case measure => simp [intOf]; omega
                  | succ q =>
                    obtain ⟨zs, z1, z2, z3⟩ := HP.out.ins.row
                    have hq1 : q + 1 < zs.length := by omega
                    have hqz : q < zs.length := by omega
                    have hqW : q < Ws.length := by omega
                    have hil := insL_len Ws D (q + 1)
                    have r1 := z3 (q + 1) hq1 (by omega)
                    rw [insL_at Ws D (q + 1) hk] at r1
                    have r0 := z3 q hqz (by omega)
                    rw [insL_ahead Ws D (q + 1) q hk (by omega)] at r0
                    have ne0 : Ws[q].id ≠ di := HUN.out _ (List.getElem_mem hqW)
                    have l1 := fun j hj => z1.cell (q + 1) hq1 j hj
                    have l0 := fun j hj => z1.cell q hqz j hj
                    obtain ⟨sd, hsd⟩ : ∃ z, zs[q + 1] = z := ⟨_, rfl⟩
                    obtain ⟨sq, hsq⟩ : ∃ z, zs[q] = z := ⟨_, rfl⟩
                    obtain ⟨F, hF⟩ : ∃ z, Ws[q] = z := ⟨_, rfl⟩
                    rw [hsd] at r1 l1
                    rw [hsq] at r0 l0
                    rw [hF] at r0 ne0
                    obtain ⟨fi, hfi⟩ : ∃ z, F.id = z := ⟨_, rfl⟩
                    have C0 : Hid (∀ W, Since wy W → W.cell? ⟨g, q * 16, none⟩ = some (.int .i64 fi)) := Lib.hid (fun W hW => by
                      have h1 : wy.cell? ⟨g, q * 16, none⟩ = some (.int .i64 fi) := by
                        have := l0 0 (by omega); rw [Nat.add_zero] at this; rw [this, r0.eq, ← hfi]; rfl
                      exact (hW.out.cell (World.block_lt_of_cell? wy _ h1)).trans h1)
                    have C1 : Hid (∀ W, Since wy W → W.cell? ⟨g, (q + 1) * 16, none⟩ = some (.int .i64 di)) := Lib.hid (fun W hW => by
                      have h1 : wy.cell? ⟨g, (q + 1) * 16, none⟩ = some (.int .i64 di) := by
                        have := l1 0 (by omega); rw [Nat.add_zero] at this; rw [this, r1.eq, ← HDI.out]; rfl
                      exact (hW.out.cell (World.block_lt_of_cell? wy _ h1)).trans h1)
                    rw [hfi] at ne0
                    have hq0 : (0 : Int) < (q : Int) + 1 := by omega
                    have hq2 : (0 : Int) < ((q + 1 : Nat) : Int) := by omega
                    have hb1 : (0 : Int) ≤ (q : Int) + 1 := by omega
                    have hb2 : (q : Int) + 1 < (Ws.length : Int) + 1 := by omega
                    have hb3 : ((q : Int) + 1).toNat = q + 1 := by omega
                    have hb4 : (q : Int) < (Ws.length : Int) + 1 := by omega
                    have hb5 : q + 1 < Ws.length + 1 := by omega
                    have hb6 : q < Ws.length + 1 := by omega
                    have hqw : IntKind.i64.wrap (q : Int) = (q : Int) := by rw [IntKind.wrap_i64]; omega
                    have hqw1 : IntKind.i64.wrap ((q : Int) + 1 - 1) = (q : Int) := by rw [IntKind.wrap_i64]; omega
                    have Z1 := Lib.hid z1
                    have Z2 := Lib.hid z2
                    have Z3 := Lib.hid z3
                    have HSD := Lib.hid hsd
                    have HSQ := Lib.hid hsq
                    have RD1 := Lib.hid r1
                    have RD0 := Lib.hid r0
                    have HF := Lib.hid hF
                    have HFI := Lib.hid hfi
                    have L1 := Lib.hid l1
                    have L0 := Lib.hid l0
                    clear z1 z2 z3 r1 r0 l1 l0 hsd hsq hF hfi
                    by_cases hgt : di < fi
                    · have hgt' : decide (fi > di) = true := by simp; omega
                      go_upto_region 21 with fail
                      go_cut [90] (fun s0 wx => s0 = .bool true ∧ Hid (Since wy wx))
                      case first =>
                        refine wp_region_held_drew (S := Since wy) (by kernel_rfl) ((Since.refl wy).drew) (fun hHeld => ?_)
                        refine wpAnyH_take (i := 0) (oi := { dst := some 75, op := Op.move (Operand.tmp 11), type := 3, pos := "outright.go:174", after := #[], guard := none }) (v := ?_) rfl (by kernel_rfl) (by kernel_rfl) (by kernel_rfl) (fun _ _ _ h => h) (Or.inl ⟨by rfl, ?_⟩) (by assumption) ?_
                        rotate_left 1
                        focus (intro w hSw; (try clear hSw); go_simp; try (with_reducible rfl))
                        try go_frame
                        refine wpAnyH_take (i := 1) (oi := { dst := some 76, op := Op.binOp BinOp.gtr 3 (Operand.tmp 75) (Operand.const (Value.int IntKind.i64 0)) 3, type := 4, pos := "outright.go:174", after := #[{ on := 0, ground := Ground.data }], guard := none }) (v := ?_) rfl (by kernel_rfl) (by kernel_rfl) (by kernel_rfl) (fun _ _ _ h => h) (Or.inl ⟨by rfl, ?_⟩) (by assumption) ?_
                        rotate_left 1
                        focus (intro w hSw; (try clear hSw); go_simp; try (with_reducible rfl))
                        try go_frame
                        refine wpAnyH_take (i := 2) (oi := { dst := some 77, op := Op.move (Operand.tmp 76), type := 4, pos := "outright.go:174", after := #[{ on := 1, ground := Ground.data }], guard := none }) (v := ?_) rfl (by kernel_rfl) (by kernel_rfl) (by kernel_rfl) (fun _ _ _ h => h) (Or.inl ⟨by rfl, ?_⟩) (by assumption) ?_
                        rotate_left 1
                        focus (intro w hSw; (try clear hSw); go_simp; try (with_reducible rfl))
                        try go_frame
                        refine wpAnyH_take (i := 3) (oi := { dst := some 78, op := Op.move (Operand.tmp 4), type := 25, pos := "outright.go:174", after := #[{ on := 2, ground := Ground.guard }], guard := some (2, true) }) (v := ?_) rfl (by kernel_rfl) (by kernel_rfl) (by kernel_rfl) (fun _ _ _ h => h) (Or.inl ⟨by rfl, ?_⟩) (by assumption) ?_
                        rotate_left 1
                        focus (intro w hSw; (try clear hSw); go_simp; try (with_reducible rfl))
                        try go_frame
                        refine wpAnyH_take (i := 4) (oi := { dst := some 79, op := Op.move (Operand.tmp 11), type := 3, pos := "outright.go:174", after := #[{ on := 2, ground := Ground.guard }], guard := some (2, true) }) (v := ?_) rfl (by kernel_rfl) (by kernel_rfl) (by kernel_rfl) (fun _ _ _ h => h) (Or.inl ⟨by rfl, ?_⟩) (by assumption) ?_
                        rotate_left 1
                        focus (intro w hSw; (try clear hSw); go_simp; try (with_reducible rfl))
                        try go_frame
                        refine wpAnyH_take (i := 5) (oi := { dst := some 80, op := Op.binOp BinOp.sub 3 (Operand.tmp 79) (Operand.const (Value.int IntKind.i64 1)) 3, type := 3, pos := "outright.go:174", after := #[{ on := 4, ground := Ground.data }, { on := 2, ground := Ground.guard }], guard := some (2, true) }) (v := ?_) rfl (by kernel_rfl) (by kernel_rfl) (by kernel_rfl) (fun _ _ _ h => h) (Or.inl ⟨by rfl, ?_⟩) (by assumption) ?_
                        rotate_left 1
                        focus (intro w hSw; (try clear hSw); go_simp; try (with_reducible rfl))
                        try go_frame
                        refine wpAnyH_take (i := 6) (oi := { dst := some 81, op := Op.indexAddr 25 (Operand.tmp 78) (Operand.tmp 80), type := 0, pos := "outright.go:174", after := #[{ on := 3, ground := Ground.data }, { on := 5, ground := Ground.data }, { on := 2, ground := Ground.guard }], guard := some (2, true) }) (v := ?_) rfl (by kernel_rfl) (by kernel_rfl) (by kernel_rfl) (fun _ _ _ h => h) (Or.inl ⟨by rfl, ?_⟩) (by assumption) ?_
                        rotate_left 1
                        focus (intro w hSw; (try clear hSw); go_simp; try (with_reducible rfl))
                        try go_frame
                        refine wpAnyH_take (i := 7) (oi := { dst := some 82, op := Op.fieldAddr 40 (Operand.tmp 81) 0, type := 0, pos := "outright.go:174", after := #[{ on := 6, ground := Ground.data }, { on := 2, ground := Ground.guard }], guard := some (2, true) }) (v := ?_) rfl (by kernel_rfl) (by kernel_rfl) (by kernel_rfl) (fun _ _ _ h => h) (Or.inl ⟨by rfl, ?_⟩) (by assumption) ?_
                        rotate_left 1
                        focus (intro w hSw; (try clear hSw); go_simp; try (with_reducible rfl))
                        try go_frame
                        refine wpAnyH_take (i := 8) (oi := { dst := some 83, op := Op.load 3 (Operand.tmp 82), type := 3, pos := "outright.go:174", after := #[{ on := 7, ground := Ground.data }, { on := 2, ground := Ground.guard }], guard := some (2, true) }) (v := .int .i64 fi) rfl (by kernel_rfl) (by kernel_rfl) (by kernel_rfl) (fun _ _ _ h => h) (yl_cell_g (by rfl) _ _ rfl _ rfl _ (fun w' h => C0.out w' h) one_int) (by assumption) ?_
                        try go_frame
                        refine wpAnyH_take (i := 9) (oi := { dst := some 84, op := Op.move (Operand.tmp 4), type := 25, pos := "outright.go:174", after := #[{ on := 2, ground := Ground.guard }], guard := some (2, true) }) (v := ?_) rfl (by kernel_rfl) (by kernel_rfl) (by kernel_rfl) (fun _ _ _ h => h) (Or.inl ⟨by rfl, ?_⟩) (by assumption) ?_
                        rotate_left 1
                        focus (intro w hSw; (try clear hSw); go_simp; try (with_reducible rfl))
                        try go_frame
                        refine wpAnyH_take (i := 10) (oi := { dst := some 85, op := Op.move (Operand.tmp 11), type := 3, pos := "outright.go:174", after := #[{ on := 2, ground := Ground.guard }], guard := some (2, true) }) (v := ?_) rfl (by kernel_rfl) (by kernel_rfl) (by kernel_rfl) (fun _ _ _ h => h) (Or.inl ⟨by rfl, ?_⟩) (by assumption) ?_
                        rotate_left 1
                        focus (intro w hSw; (try clear hSw); go_simp; try (with_reducible rfl))
                        try go_frame
                        refine wpAnyH_take (i := 11) (oi := { dst := some 86, op := Op.indexAddr 25 (Operand.tmp 84) (Operand.tmp 85), type := 0, pos := "outright.go:174", after := #[{ on := 9, ground := Ground.data }, { on := 10, ground := Ground.data }, { on := 2, ground := Ground.guard }], guard := some (2, true) }) (v := ?_) rfl (by kernel_rfl) (by kernel_rfl) (by kernel_rfl) (fun _ _ _ h => h) (Or.inl ⟨by rfl, ?_⟩) (by assumption) ?_
                        rotate_left 1
                        focus (intro w hSw; (try clear hSw); go_simp; try (with_reducible rfl))
                        try go_frame
                        refine wpAnyH_take (i := 12) (oi := { dst := some 87, op := Op.fieldAddr 40 (Operand.tmp 86) 0, type := 0, pos := "outright.go:174", after := #[{ on := 11, ground := Ground.data }, { on := 2, ground := Ground.guard }], guard := some (2, true) }) (v := ?_) rfl (by kernel_rfl) (by kernel_rfl) (by kernel_rfl) (fun _ _ _ h => h) (Or.inl ⟨by rfl, ?_⟩) (by assumption) ?_
                        rotate_left 1
                        focus (intro w hSw; (try clear hSw); go_simp; try (with_reducible rfl))
                        try go_frame
                        refine wpAnyH_take (i := 13) (oi := { dst := some 88, op := Op.load 3 (Operand.tmp 87), type := 3, pos := "outright.go:174", after := #[{ on := 12, ground := Ground.data }, { on := 2, ground := Ground.guard }], guard := some (2, true) }) (v := .int .i64 di) rfl (by kernel_rfl) (by kernel_rfl) (by kernel_rfl) (fun _ _ _ h => h) (yl_cell_g (by rfl) _ _ rfl _ rfl _ (fun w' h => C1.out w' h) one_int) (by assumption) ?_
                        try go_frame
                        refine wpAnyH_take (i := 14) (oi := { dst := some 89, op := Op.binOp BinOp.gtr 3 (Operand.tmp 83) (Operand.tmp 88) 3, type := 4, pos := "outright.go:174", after := #[{ on := 8, ground := Ground.data }, { on := 13, ground := Ground.data }, { on := 2, ground := Ground.guard }], guard := some (2, true) }) (v := ?_) rfl (by kernel_rfl) (by kernel_rfl) (by kernel_rfl) (fun _ _ _ h => h) (Or.inl ⟨by rfl, ?_⟩) (by assumption) ?_
                        rotate_left 1
                        focus (intro w hSw; (try clear hSw); go_simp; try (with_reducible rfl))
                        try go_frame
                        refine wpAnyH_take (i := 15) (oi := { dst := some 90, op := Op.pick (Operand.tmp 77) (Operand.tmp 89) (Operand.const (Value.bool false)), type := 4, pos := "outright.go:174", after := #[{ on := 2, ground := Ground.data }, { on := 14, ground := Ground.data }], guard := none }) (v := ?_) rfl (by kernel_rfl) (by kernel_rfl) (by kernel_rfl) (fun _ _ _ h => h) (Or.inl ⟨by rfl, ?_⟩) (by assumption) ?_
                        rotate_left 1
                        focus (intro w hSw; (try clear hSw); go_simp; try (with_reducible rfl))
                        try go_frame
                        refine wpAnyH_done (by kernel_rfl) ?_ _
                        try go_wp2_with fail
                        go_meet
                        exact ⟨rfl, Lib.hid hHeld⟩
                      case rest =>
                      obtain ⟨wx, rfl⟩ : ∃ q : World, q = wc := ⟨_, rfl⟩
                      obtain ⟨rfl, HSX1⟩ := hcut
                      clear C0 C1
                      obtain ⟨yd, hyd⟩ : ∃ z, sagaArr sd = z := ⟨_, rfl⟩
                      have LDX : Hid (∀ z, z < yd.size → wx.cell? ⟨g, (q + 1) * 16 + z, none⟩ = yd[z]?) := Lib.hid (by
                        rw [← hyd]
                        intro z hz
                        have h1 := L1.out z hz
                        have e1 : (sd.cells)[z]? = (sagaArr sd)[z]? := by simp [sagaArr]
                        rw [e1, Array.getElem?_eq_getElem hz] at h1
                        rw [Array.getElem?_eq_getElem hz]
                        exact (HSX1.out.out.cell (World.block_lt_of_cell? wy _ h1)).trans h1)
                      obtain ⟨wz, hwz⟩ : ∃ z, wx.alloc (.cells yd 40) = z := ⟨_, rfl⟩
                      have hbz : Below wx.heap.size wx wz := by rw [← hwz]; exact boxd (Below.refl _ _)
                      have hbyz := then_ HSX1.out.out hbz
                      have KD : Hid (BlkAt wz wx.heap.size yd 40) := Lib.hid (by rw [← hwz]; exact BlkAt.new _ _ _)
                      have ZZ := Lib.hid (Z1.out.below hbyz)
                      have LQ : Hid (∀ z, z < (sagaArr sq).size → wz.cell? ⟨g, q * 16 + z, none⟩ = (sagaArr sq)[z]?) := Lib.hid (by
                        intro z hz
                        have h1 := L0.out z hz
                        have e1 : (sq.cells)[z]? = (sagaArr sq)[z]? := by simp [sagaArr]
                        rw [e1, Array.getElem?_eq_getElem hz] at h1
                        rw [Array.getElem?_eq_getElem hz]
                        exact (hbyz.cell (World.block_lt_of_cell? wy _ h1)).trans h1)
                      have hgx : g < wx.heap.size := Nat.lt_of_lt_of_le Z1.out.lt HSX1.out.out.size
                      have hgl := Z2.out
                      have HBZ := Lib.hid hbyz
                      dsimp only [sagaArr, Sl.v] at hyd
                      subst hyd
                      have HWZ := Lib.hid hwz
                      clear hwz hbz hbyz L1 L0 HSX1 Z1
                      go_upto_region 24 with (first | ((with_reducible refine wpList_load_at ?_ _ (.tmp 95) ?_ (g) ((q + 1) * 16) ?_ (_) LDX.out rowSaga ?_); rotate_left; exact rfl; exact rfl; rotate_left; exact rfl))
                      rw [HWZ.out]
                      clear HWZ LDX
                      go_upto_region 25 with (first
                        | ((with_reducible refine wpList_load_at ?_ _ (.tmp 102) ?_ (g) (q * 16) ?_ (sagaArr sq) LQ.out rowSaga ?_); rotate_left; exact rfl; exact rfl; rotate_left; exact rfl)
                        | ((with_reducible refine wpList_store_saga ?_ (.tmp 104) (.tmp 103) ?_ (g) (q + 1) ?_ (sq) ?_ cap (zs) ZZ.out ?_ ?_); rotate_left; exact rfl; exact rfl; exact rfl; (first | omega | (rw [List.length_set]; omega)); rotate_left; exact rfl; intro wa hwa SRa))
                      have KDa := Lib.hid (hwa.blk KD.out (by omega))
                      have SRA := Lib.hid SRa
                      have HWA := Lib.hid hwa
                      clear hwa SRa LQ KD
                      go_wp2_with (first
                        | ((with_reducible refine wpList_load_blk ?_ _ (.tmp 12) ?_ (wx.heap.size) ?_ 40 (_) KDa.out rowSaga ?_); rotate_left; exact rfl; exact rfl; rotate_left; exact rfl)
                        | ((with_reducible refine wpList_store_saga ?_ (.tmp 109) (.tmp 108) ?_ (g) (q) ?_ (sd) ?_ cap (zs.set (q + 1) sq) SRA.out ?_ ?_); rotate_left; exact rfl; exact rfl; exact rfl; (first | omega | (rw [List.length_set]; omega)); rotate_left; exact rfl; intro wb hwb SRb))
                      have HPN := Lib.hid (HP.out.swap HBZ.out ZZ.out Z2.out Z3.out (by omega) RD1.out (by rw [HF.out]; exact RD0.out) (by rw [HF.out, HFI.out, HDI.out]; exact hgt) HWA.out SRA.out hwb SRb)
                      clear hwb SRb HP HBZ ZZ Z2 Z3 RD1 RD0 HWA SRA KDa
                      go_wp2_with fail
                      all_goals go_roundw
                      case rel => exact ⟨q, by go_num, by omega, HPN⟩
                      case measure => simp [intOf]
                    · have hgt' : decide (fi > di) = false := by simp; omega
                      have hfl : fi < di := by omega
                      have HFIN : Hid (SSt X wy (.slice v7a v7n v7c) (.slice (some ⟨g, 0, none⟩) (Ws.length + 1) cap) (Ds ++ [D]) (insL Ws D (q + 1))) := Lib.hid (SSt.add HSX.out HP.out hk HUN2.out HGD.out HLW.out (fun i hi => by
                        have hq' : Ws[q].id < D.id := by rw [HF.out, HFI.out, HDI.out]; exact hfl
                        by_cases e : i = q
                        · subst e; exact hq'
                        · have := List.pairwise_iff_getElem.1 HSX.out.rise i q (by omega) (by omega) (by omega)
                          omega))
                      go_upto_region 21 with fail
                      go_cut [90] (fun s0 wx => s0 = .bool false ∧ Hid (Since wy wx))
                      case first =>
                        refine wp_region_held_drew (S := Since wy) (by kernel_rfl) ((Since.refl wy).drew) (fun hHeld => ?_)
                        refine wpAnyH_take (i := 0) (oi := { dst := some 75, op := Op.move (Operand.tmp 11), type := 3, pos := "outright.go:174", after := #[], guard := none }) (v := ?_) rfl (by kernel_rfl) (by kernel_rfl) (by kernel_rfl) (fun _ _ _ h => h) (Or.inl ⟨by rfl, ?_⟩) (by assumption) ?_
                        rotate_left 1
                        focus (intro w hSw; (try clear hSw); go_simp; try (with_reducible rfl))
                        try go_frame
                        refine wpAnyH_take (i := 1) (oi := { dst := some 76, op := Op.binOp BinOp.gtr 3 (Operand.tmp 75) (Operand.const (Value.int IntKind.i64 0)) 3, type := 4, pos := "outright.go:174", after := #[{ on := 0, ground := Ground.data }], guard := none }) (v := ?_) rfl (by kernel_rfl) (by kernel_rfl) (by kernel_rfl) (fun _ _ _ h => h) (Or.inl ⟨by rfl, ?_⟩) (by assumption) ?_
                        rotate_left 1
                        focus (intro w hSw; (try clear hSw); go_simp; try (with_reducible rfl))
                        try go_frame
                        refine wpAnyH_take (i := 2) (oi := { dst := some 77, op := Op.move (Operand.tmp 76), type := 4, pos := "outright.go:174", after := #[{ on := 1, ground := Ground.data }], guard := none }) (v := ?_) rfl (by kernel_rfl) (by kernel_rfl) (by kernel_rfl) (fun _ _ _ h => h) (Or.inl ⟨by rfl, ?_⟩) (by assumption) ?_
                        rotate_left 1
                        focus (intro w hSw; (try clear hSw); go_simp; try (with_reducible rfl))
                        try go_frame
                        refine wpAnyH_take (i := 3) (oi := { dst := some 78, op := Op.move (Operand.tmp 4), type := 25, pos := "outright.go:174", after := #[{ on := 2, ground := Ground.guard }], guard := some (2, true) }) (v := ?_) rfl (by kernel_rfl) (by kernel_rfl) (by kernel_rfl) (fun _ _ _ h => h) (Or.inl ⟨by rfl, ?_⟩) (by assumption) ?_
                        rotate_left 1
                        focus (intro w hSw; (try clear hSw); go_simp; try (with_reducible rfl))
                        try go_frame
                        refine wpAnyH_take (i := 4) (oi := { dst := some 79, op := Op.move (Operand.tmp 11), type := 3, pos := "outright.go:174", after := #[{ on := 2, ground := Ground.guard }], guard := some (2, true) }) (v := ?_) rfl (by kernel_rfl) (by kernel_rfl) (by kernel_rfl) (fun _ _ _ h => h) (Or.inl ⟨by rfl, ?_⟩) (by assumption) ?_
                        rotate_left 1
                        focus (intro w hSw; (try clear hSw); go_simp; try (with_reducible rfl))
                        try go_frame
                        refine wpAnyH_take (i := 5) (oi := { dst := some 80, op := Op.binOp BinOp.sub 3 (Operand.tmp 79) (Operand.const (Value.int IntKind.i64 1)) 3, type := 3, pos := "outright.go:174", after := #[{ on := 4, ground := Ground.data }, { on := 2, ground := Ground.guard }], guard := some (2, true) }) (v := ?_) rfl (by kernel_rfl) (by kernel_rfl) (by kernel_rfl) (fun _ _ _ h => h) (Or.inl ⟨by rfl, ?_⟩) (by assumption) ?_
                        rotate_left 1
                        focus (intro w hSw; (try clear hSw); go_simp; try (with_reducible rfl))
                        try go_frame
                        refine wpAnyH_take (i := 6) (oi := { dst := some 81, op := Op.indexAddr 25 (Operand.tmp 78) (Operand.tmp 80), type := 0, pos := "outright.go:174", after := #[{ on := 3, ground := Ground.data }, { on := 5, ground := Ground.data }, { on := 2, ground := Ground.guard }], guard := some (2, true) }) (v := ?_) rfl (by kernel_rfl) (by kernel_rfl) (by kernel_rfl) (fun _ _ _ h => h) (Or.inl ⟨by rfl, ?_⟩) (by assumption) ?_
                        rotate_left 1
                        focus (intro w hSw; (try clear hSw); go_simp; try (with_reducible rfl))
                        try go_frame
                        refine wpAnyH_take (i := 7) (oi := { dst := some 82, op := Op.fieldAddr 40 (Operand.tmp 81) 0, type := 0, pos := "outright.go:174", after := #[{ on := 6, ground := Ground.data }, { on := 2, ground := Ground.guard }], guard := some (2, true) }) (v := ?_) rfl (by kernel_rfl) (by kernel_rfl) (by kernel_rfl) (fun _ _ _ h => h) (Or.inl ⟨by rfl, ?_⟩) (by assumption) ?_
                        rotate_left 1
                        focus (intro w hSw; (try clear hSw); go_simp; try (with_reducible rfl))
                        try go_frame
                        refine wpAnyH_take (i := 8) (oi := { dst := some 83, op := Op.load 3 (Operand.tmp 82), type := 3, pos := "outright.go:174", after := #[{ on := 7, ground := Ground.data }, { on := 2, ground := Ground.guard }], guard := some (2, true) }) (v := .int .i64 fi) rfl (by kernel_rfl) (by kernel_rfl) (by kernel_rfl) (fun _ _ _ h => h) (yl_cell_g (by rfl) _ _ rfl _ rfl _ (fun w' h => C0.out w' h) one_int) (by assumption) ?_
                        try go_frame
                        refine wpAnyH_take (i := 9) (oi := { dst := some 84, op := Op.move (Operand.tmp 4), type := 25, pos := "outright.go:174", after := #[{ on := 2, ground := Ground.guard }], guard := some (2, true) }) (v := ?_) rfl (by kernel_rfl) (by kernel_rfl) (by kernel_rfl) (fun _ _ _ h => h) (Or.inl ⟨by rfl, ?_⟩) (by assumption) ?_
                        rotate_left 1
                        focus (intro w hSw; (try clear hSw); go_simp; try (with_reducible rfl))
                        try go_frame
                        refine wpAnyH_take (i := 10) (oi := { dst := some 85, op := Op.move (Operand.tmp 11), type := 3, pos := "outright.go:174", after := #[{ on := 2, ground := Ground.guard }], guard := some (2, true) }) (v := ?_) rfl (by kernel_rfl) (by kernel_rfl) (by kernel_rfl) (fun _ _ _ h => h) (Or.inl ⟨by rfl, ?_⟩) (by assumption) ?_
                        rotate_left 1
                        focus (intro w hSw; (try clear hSw); go_simp; try (with_reducible rfl))
                        try go_frame
                        refine wpAnyH_take (i := 11) (oi := { dst := some 86, op := Op.indexAddr 25 (Operand.tmp 84) (Operand.tmp 85), type := 0, pos := "outright.go:174", after := #[{ on := 9, ground := Ground.data }, { on := 10, ground := Ground.data }, { on := 2, ground := Ground.guard }], guard := some (2, true) }) (v := ?_) rfl (by kernel_rfl) (by kernel_rfl) (by kernel_rfl) (fun _ _ _ h => h) (Or.inl ⟨by rfl, ?_⟩) (by assumption) ?_
                        rotate_left 1
                        focus (intro w hSw; (try clear hSw); go_simp; try (with_reducible rfl))
                        try go_frame
                        refine wpAnyH_take (i := 12) (oi := { dst := some 87, op := Op.fieldAddr 40 (Operand.tmp 86) 0, type := 0, pos := "outright.go:174", after := #[{ on := 11, ground := Ground.data }, { on := 2, ground := Ground.guard }], guard := some (2, true) }) (v := ?_) rfl (by kernel_rfl) (by kernel_rfl) (by kernel_rfl) (fun _ _ _ h => h) (Or.inl ⟨by rfl, ?_⟩) (by assumption) ?_
                        rotate_left 1
                        focus (intro w hSw; (try clear hSw); go_simp; try (with_reducible rfl))
                        try go_frame
                        refine wpAnyH_take (i := 13) (oi := { dst := some 88, op := Op.load 3 (Operand.tmp 87), type := 3, pos := "outright.go:174", after := #[{ on := 12, ground := Ground.data }, { on := 2, ground := Ground.guard }], guard := some (2, true) }) (v := .int .i64 di) rfl (by kernel_rfl) (by kernel_rfl) (by kernel_rfl) (fun _ _ _ h => h) (yl_cell_g (by rfl) _ _ rfl _ rfl _ (fun w' h => C1.out w' h) one_int) (by assumption) ?_
                        try go_frame
                        refine wpAnyH_take (i := 14) (oi := { dst := some 89, op := Op.binOp BinOp.gtr 3 (Operand.tmp 83) (Operand.tmp 88) 3, type := 4, pos := "outright.go:174", after := #[{ on := 8, ground := Ground.data }, { on := 13, ground := Ground.data }, { on := 2, ground := Ground.guard }], guard := some (2, true) }) (v := ?_) rfl (by kernel_rfl) (by kernel_rfl) (by kernel_rfl) (fun _ _ _ h => h) (Or.inl ⟨by rfl, ?_⟩) (by assumption) ?_
                        rotate_left 1
                        focus (intro w hSw; (try clear hSw); go_simp; try (with_reducible rfl))
                        try go_frame
                        refine wpAnyH_take (i := 15) (oi := { dst := some 90, op := Op.pick (Operand.tmp 77) (Operand.tmp 89) (Operand.const (Value.bool false)), type := 4, pos := "outright.go:174", after := #[{ on := 2, ground := Ground.data }, { on := 14, ground := Ground.data }], guard := none }) (v := ?_) rfl (by kernel_rfl) (by kernel_rfl) (by kernel_rfl) (fun _ _ _ h => h) (Or.inl ⟨by rfl, ?_⟩) (by assumption) ?_
                        rotate_left 1
                        focus (intro w hSw; (try clear hSw); go_simp; try (with_reducible rfl))
                        try go_frame
                        refine wpAnyH_done (by kernel_rfl) ?_ _
                        try go_wp2_with fail
                        go_meet
                        exact ⟨rfl, Lib.hid hHeld⟩
                      case rest =>
                      obtain ⟨wx, rfl⟩ : ∃ q : World, q = wc := ⟨_, rfl⟩
                      obtain ⟨rfl, HSX1⟩ := hcut
                      have HF2 := Lib.hid (HFIN.out.call HSX1.out.out)
                      clear HFIN HSX1 C0 C1 HP Z1 Z2 Z3 L1 L0
                      go_wp2_with fail
                      all_goals go_roundw
                      case rel => exact ⟨j + 1, Ds ++ [D], insL Ws D (q + 1), by go_num, by omega, by omega, by rw [insL_len]; omega, by rw [HLL2.out]; omega, HF2⟩
                      case measure => simp [intOf]; omega
      · have hje : j = 20 := by omega
        subst hje
        obtain ⟨hleg, hstt⟩ := stories_state HS.out.good HS.out.ne
        have hS := hstt Ws HS.out.rise HS.out.mem
        have hok : ∀ R ∈ Ds.flatMap storyL, FoldOk R ∧ R.data.length ≤ 9223372036854775807 := fun R hR => by
          obtain ⟨E, hE, hRE⟩ := List.mem_flatMap.1 hR
          exact story_ok (HS.out.good E hE).1 (HS.out.good E hE).2 R hRE
        have cF := fold_legal ⟨ga, gn, gc⟩ (Ds.flatMap storyL) wr (TX.out.below HS.out.below) (LX.out.below HS.out.below) ((OwnRecs.recsIn (v := ⟨ga, gn, gc⟩) HS.out.log).recsAt (fun R hR => (hok R hR).2)) (fun R hR => (hok R hR).1) (by rw [HLL.out]; omega) hleg
        rw [HLL.out] at cF
        have CF := Lib.hid cF
        have HSS := Lib.hid hS
        have BW := Lib.hid (then_ BX.out HS.out.below)
        clear cF hS hleg hstt hok
        dsimp only at CF
        go_wp2_with fail
        refine CF.out.mono ?_
        rintro e w5 ⟨⟨xa, xn, xc⟩, Ts, rfl, st5, b5⟩
        dsimp only
        obtain ⟨w6, hw6⟩ : ∃ q, w5.alloc (.cells #[.int .i64 (gn : Nat), .slice xa xn xc] 27) = q := ⟨_, rfl⟩
        have hb6 : Below w5.heap.size w5 w6 := by rw [← hw6]; exact boxd (Below.refl _ _)
        have K6 : Hid (BlkAt w6 w5.heap.size #[.int .i64 (gn : Nat), .slice xa xn xc] 27) := Lib.hid (by rw [← hw6]; exact BlkAt.new _ _ _)
        have hT : Ts = Ws := StateOf.unique st5.of HSS.out (fun _ => rfl)
        subst hT
        have b56 := then_ b5 hb6
        have CM := Lib.hid (same_states (gn : Int) ⟨xa, xn, xc⟩ ⟨wa, Ts.length, wc⟩ Ts w6 (st5.at_.below hb6) ((WantAt.sagasAt (v := ⟨wa, Ts.length, wc⟩) HS.out.want HS.out.below).below b56))
        have B6 := Lib.hid (then_ BW.out b56)
        have HW6 := Lib.hid hw6
        clear hw6 hb6 st5 b5 b56 CF HS HSS
        dsimp only at CM
        go_upto_region 27 with fail
        rw [HW6.out]
        clear HW6
        go_wp2_with (first
          | ((with_reducible refine wpList_load_blk_g ?_ _ (.tmp 13) ?_ (w5.heap.size) ?_ 27 (_) K6.out rowState ?_); rotate_left; exact rfl; exact rfl; rotate_left; kernel_rfl))
        refine CM.out.mono ?_
        rintro e w7 ⟨rfl, b7⟩
        have B7 := Lib.hid (then_ B6.out b7)
        clear b7 CM
        go_wp2_with fail
        all_goals go_ret
        all_goals exact ⟨rfl, B7.out⟩
    · have hje : j = Gs.length := by omega
      subst hje
      obtain ⟨hleg, hstt⟩ := stories_state HS.out.good HS.out.ne
      have hS := hstt Ws HS.out.rise HS.out.mem
      have hok : ∀ R ∈ Ds.flatMap storyL, FoldOk R ∧ R.data.length ≤ 9223372036854775807 := fun R hR => by
        obtain ⟨E, hE, hRE⟩ := List.mem_flatMap.1 hR
        exact story_ok (HS.out.good E hE).1 (HS.out.good E hE).2 R hRE
      have cF := fold_legal ⟨ga, gn, gc⟩ (Ds.flatMap storyL) wr (TX.out.below HS.out.below) (LX.out.below HS.out.below) ((OwnRecs.recsIn (v := ⟨ga, gn, gc⟩) HS.out.log).recsAt (fun R hR => (hok R hR).2)) (fun R hR => (hok R hR).1) (by rw [HLL.out]; omega) hleg
      rw [HLL.out] at cF
      have CF := Lib.hid cF
      have HSS := Lib.hid hS
      have BW := Lib.hid (then_ BX.out HS.out.below)
      clear cF hS hleg hstt hok
      dsimp only at CF
      go_wp2_with fail
      refine CF.out.mono ?_
      rintro e w5 ⟨⟨xa, xn, xc⟩, Ts, rfl, st5, b5⟩
      dsimp only
      obtain ⟨w6, hw6⟩ : ∃ q, w5.alloc (.cells #[.int .i64 (gn : Nat), .slice xa xn xc] 27) = q := ⟨_, rfl⟩
      have hb6 : Below w5.heap.size w5 w6 := by rw [← hw6]; exact boxd (Below.refl _ _)
      have K6 : Hid (BlkAt w6 w5.heap.size #[.int .i64 (gn : Nat), .slice xa xn xc] 27) := Lib.hid (by rw [← hw6]; exact BlkAt.new _ _ _)
      have hT : Ts = Ws := StateOf.unique st5.of HSS.out (fun _ => rfl)
      subst hT
      have b56 := then_ b5 hb6
      have CM := Lib.hid (same_states (gn : Int) ⟨xa, xn, xc⟩ ⟨wa, Ts.length, wc⟩ Ts w6 (st5.at_.below hb6) ((WantAt.sagasAt (v := ⟨wa, Ts.length, wc⟩) HS.out.want HS.out.below).below b56))
      have B6 := Lib.hid (then_ BW.out b56)
      have HW6 := Lib.hid hw6
      clear hw6 hb6 st5 b5 b56 CF HS HSS
      dsimp only at CM
      go_upto_region 27 with fail
      rw [HW6.out]
      clear HW6
      go_wp2_with (first
        | ((with_reducible refine wpList_load_blk_g ?_ _ (.tmp 13) ?_ (w5.heap.size) ?_ 27 (_) K6.out rowState ?_); rotate_left; exact rfl; exact rfl; rotate_left; kernel_rfl))
      refine CM.out.mono ?_
      rintro e w7 ⟨rfl, b7⟩
      have B7 := Lib.hid (then_ B6.out b7)
      clear b7 CM
      go_wp2_with fail
      all_goals go_ret
      all_goals exact ⟨rfl, B7.out⟩
end Go.Proofs.YtfbaliimjmimhaaDoor.replayStories
