/-
  annalslaw11.mingled walked: another order, each saga's records keep theirs. Conditions: as the theorem says. (Printed by wip/gen_mingled.py.)
-/
import Derived.Test.YtfbaliimjmimhaaDoorMingSt
namespace Go.Proofs.YtfbaliimjmimhaaDoor
open Go.RowKit

set_option maxRecDepth 10000000 in
set_option maxHeartbeats 4000000 in
theorem mingled_any (s : Sl) (L : List RecD) (t : Sl) (ord : List Int) (B : Nat) (w : World) (h : RecsIn w B s L) (hord : IntsAt w t ord) (hB : B ≤ w.heap.size) (hn : L.length ≤ 1000000) :
    Calls Tryd.prog 13 #[s.v, t.v] w fun e w' => ∃ (v : Sl) (m : List RecD), e = .returned v.v ∧ OwnRecs w' B v.v m ∧ (∀ id, ofB id m = ofB id L) ∧ m.length = L.length ∧ Below w.heap.size w w' := by
  have ho := hord.len
  have HORD := Lib.hid hord
  have M0 : Hid (MSt w w B (.slice none 0 0) s L [] L) := Lib.hid ⟨⟨OwnRecs.nil _ _, (fun g e => by cases e), Below.refl _ _⟩, h, (fun ad e e' => by cases e'), Mingled.start L, by simp⟩
  obtain ⟨ta, tn, tc⟩ := t
  simp only at ho
  subst ho
  clear h hord
  dsimp only [Sl.v] at HORD ⊢
  go_enter Tryd.func13, Tryd.ntmps13
  go_wp2_with fail
  go_loopw [0, 5, 6] (fun lv ov kv wr => ∃ (sl : Sl) (Ro Rl : List RecD), lv = .slice sl.a sl.n sl.c ∧ kv = .int .i64 (Ro.length : Nat) ∧ Ro.length ≤ L.length ∧ Hid (MSt w wr B ov sl L Ro Rl)) (fun _ _ kv _ => L.length - (intOf kv).toNat)
  case atStart => exact ⟨s, [], L, rfl, rfl, by simp, M0⟩
  case round =>
    obtain ⟨⟨la, ln, lc⟩, Ro, Rl, rfl, rfl, hkl, HM⟩ := hrel
    clear M0
    obtain ⟨W1, rfl⟩ : ∃ q : World, q = wr := ⟨_, rfl⟩
    have hlen := HM.out.len
    have hln := HM.out.l.len
    simp only at hln
    subst hln
    obtain ⟨K, hK⟩ : ∃ q, Ro.length = q := ⟨_, rfl⟩
    rw [hK] at hlen hkl ⊢
    have HK := Lib.hid hK
    clear hK
    have BW := Lib.hid HM.out.row.below
    have HO1 := Lib.hid (HORD.out.below BW.out)
    by_cases h0 : 0 < Rl.length
    · obtain ⟨rs, q1, q2, q3, q4, q5⟩ := HM.out.l
      simp only at q1 q3 q4
      obtain ⟨b0, o0, e0, hc0⟩ := q4 h0
      subst e0
      have hcap : Rl.length ≤ lc := q3.1
      have hcs : ∀ q (hq : q < Rl.length), W1.cell? ⟨b0, o0 + q * 12 + 2, none⟩ = some (.int .i64 Rl[q].saga) := fun q hq => by
        have := hc0 q (by omega) 2 (by omega)
        rw [this, (q5 q (by omega) hq).1]
        rfl
      have HCS := Lib.hid hcs
      have HC0 := Lib.hid hc0
      have HQ5 := Lib.hid q5
      have HQ2 := Lib.hid q2
      clear q1 q2 q3 q4 q5 hc0 hcs
      go_upto_if 17 with fail
      go_cut [7] (fun s7 wx => ∃ i : Nat, s7 = .int .i64 i ∧ i < Rl.length ∧ W1 = wx)
      case first =>
        by_cases hk : K < ord.length
        · have hki : (K : Int) < (ord.length : Int) := by omega
          obtain ⟨ob, oo, e1, hco⟩ := HO1.out.get hk
          simp only at e1
          subst e1
          obtain ⟨x, hx⟩ : ∃ q, ord[K] = q := ⟨_, rfl⟩
          rw [hx] at hco
          have HCO := Lib.hid hco
          clear hco hx
          obtain ⟨y, hy⟩ : ∃ q, bits .and .i64 x 1099511627775 = q := ⟨_, rfl⟩
          have hy1 := and40 x
          rw [hy] at hy1
          obtain ⟨y', rfl⟩ := Int.eq_ofNat_of_zero_le hy1.1
          go_wp2_with (first | ((with_reducible refine wpList_load_cell ?_ _ (.tmp 20) ?_ (⟨ob, oo + K, none⟩) ?_ (.int .i64 x) (HCO.out) one_int ?_); rotate_left; exact rfl; exact rfl; rotate_left; exact rfl))
          all_goals go_meet
          all_goals exact ⟨y' % Rl.length, by rw [Int.natCast_emod], Nat.mod_lt _ h0, rfl⟩
        · have hki : ¬ (K : Int) < (ord.length : Int) := by omega
          go_wp2_with fail
          all_goals go_meet
          all_goals exact ⟨0, rfl, h0, rfl⟩
      case rest =>
      obtain ⟨wx, rfl⟩ : ∃ q : World, q = wc := ⟨_, rfl⟩
      obtain ⟨p, rfl, hp, rfl⟩ := hcut
      obtain ⟨sg, hsg⟩ : ∃ q, Rl[p].saga = q := ⟨_, rfl⟩
      have CP : Hid (W1.cell? ⟨b0, o0 + p * 12 + 2, none⟩ = some (.int .i64 sg)) := Lib.hid (by rw [← hsg]; exact HCS.out p hp)
      have HSG := Lib.hid hsg
      clear hsg HO1
      go_upto_region 9 with (first | ((with_reducible refine wpList_load_cell ?_ _ (.tmp 29) ?_ (⟨b0, o0 + p * 12 + 2, none⟩) ?_ (.int .i64 sg) (CP.out) one_int ?_); rotate_left; exact rfl; exact rfl; rotate_left; exact rfl))
      clear CP
      go_wp2_with fail
      go_loopw [7] (fun v wy => ∃ i : Nat, v = .int .i64 i ∧ i ≤ p ∧ Hid (∀ q (hq : q < i) (hq' : q < Rl.length), Rl[q].saga ≠ sg) ∧ W1 = wy) (fun v _ => Rl.length - (intOf v).toNat)
      case atStart => exact ⟨0, rfl, by omega, Lib.hid (fun q hq => absurd hq (by omega)), rfl⟩
      case round =>
        obtain ⟨i, rfl, hip, HN, hw⟩ := hrel
        subst hw
        have hi : i < Rl.length := by omega
        obtain ⟨sx, hsx⟩ : ∃ q, Rl[i].saga = q := ⟨_, rfl⟩
        have CI : Hid (W1.cell? ⟨b0, o0 + i * 12 + 2, none⟩ = some (.int .i64 sx)) := Lib.hid (by rw [← hsx]; exact HCS.out i hi)
        have HSX := Lib.hid hsx
        clear hsx
        by_cases hx : sx = sg
        · subst hx
          have ja : i < rs.length := by have := HQ2.out; omega
          have lda := recs_ld' HC0.out i ja _ (Below.refl _ _)
          obtain ⟨ra, rb⟩ := HQ5.out i ja hi
          have hfirst : ∀ k (hk : k < i), Rl[k].saga ≠ Rl[i].saga := fun k hk => by rw [HSX.out]; exact HN.out k hk (by omega)
          have HFI := Lib.hid hfirst
          obtain ⟨x, hx⟩ : ∃ q, rs[i] = q := ⟨_, rfl⟩
          obtain ⟨R, hR⟩ : ∃ q, Rl[i] = q := ⟨_, rfl⟩
          rw [hx] at lda ra rb
          rw [hR] at ra rb
          have HR := Lib.hid hR
          clear hx hR hfirst
          obtain ⟨xd, hxd⟩ : ∃ q, x.data = q := ⟨_, rfl⟩
          rw [hxd] at ra rb
          clear hxd
          subst ra
          obtain ⟨ya, hya⟩ : ∃ q, recArr (R.words xd) = q := ⟨_, rfl⟩
          have LDA : Hid (∀ q, q < ya.size → W1.cell? ⟨b0, o0 + i * 12 + q, none⟩ = ya[q]?) := Lib.hid (by rw [← hya]; exact lda)
          have HRY : Hid (RowSt w (W1.alloc (.cells ya 44)) B _ Ro) := Lib.hid (HM.out.row.call (boxd (Below.refl _ _)))
          have RIY : Hid (RecsIn (W1.alloc (.cells ya 44)) B ⟨some ⟨W1.heap.size, 0, none⟩, 1, 1⟩ [R]) := Lib.hid (by rw [← hya]; exact RecsIn.one (r := R.words xd) (BlkAt.new _ _ _) rfl (rb.through (boxd (Below.refl _ _))))
          have hsz : w.heap.size ≤ W1.heap.size := BW.out.size
          dsimp only [recArr, RecD.words, Sl.v] at hya
          subst hya
          clear lda rb ja HC0 HQ5 HQ2
          go_upto_region 13 with (first
            | ((with_reducible refine wpList_load_cell ?_ _ (.tmp 34) ?_ (⟨b0, o0 + i * 12 + 2, none⟩) ?_ (.int .i64 sx) (CI.out) one_int ?_); rotate_left; exact rfl; exact rfl; rotate_left; exact rfl)
            | ((with_reducible refine wpList_load_at ?_ _ (.tmp 43) ?_ (b0) (o0 + i * 12) ?_ (_) LDA.out rowRec ?_); rotate_left; exact rfl; exact rfl; rotate_left; exact rfl)
            | (at_builtin; refine wpList_append_recs _ rfl (.tmp 40) (.tmp 45) rfl B _ _ rfl HRY.out.own ⟨some ⟨W1.heap.size, 0, none⟩, 1, 1⟩ [R] rfl RIY.out ?c1 ?c2 ?_))
          case c1 => rw [HK.out, List.length_singleton]; omega
          case c2 => rw [World.size_alloc]; omega
          intro v1 w1 hown hgr hat hn7
          have HO := Lib.hid (HM.out.out h0 hown hgr (by simp) hat)
          clear hown hgr hat hn7 HRY RIY LDA CI HCS
          obtain ⟨va, vn, vc⟩ := v1
          dsimp only [Sl.v] at HO ⊢
          go_upto_region 13 with fail
          have hic : i ≤ lc := by omega
          have hi1 : i + 1 ≤ Rl.length := by omega
          have hwr : IntKind.i64.wrap ((i : Int) + 1) = (i : Int) + 1 := by rw [IntKind.wrap_i64]; omega
          have hw0 : (0 : Int) ≤ (i : Int) + 1 := by omega
          have hw1 : (i : Int) + 1 ≤ (Rl.length : Int) := by omega
          have hw2 : ((i : Int) + 1).toNat = i + 1 := by omega
          have hB1 : B ≤ w1.heap.size := Nat.le_trans hB HO.out.1.below.size
          have hi2 : (i : Int) ≤ (i : Int) + 1 := by omega
          by_cases hlc : lc = i + 1
          · subst hlc
            refine wp_region_held_drew (S := Since w1) (by kernel_rfl) ((Since.refl w1).drew) (fun hHeld => ?_)
            refine wpAnyH_take (i := 0) (oi := { dst := some 47, op := Op.move (Operand.tmp 0), type := 22, pos := "outright.go:72", after := #[], guard := none }) (v := ?_) rfl (by kernel_rfl) (by kernel_rfl) (by kernel_rfl) (fun _ _ _ h => h) (Or.inl ⟨by rfl, ?_⟩) (by assumption) ?_
            rotate_left 1
            focus (intro w hSw; (try clear hSw); go_simp; try (with_reducible rfl))
            try go_frame
            refine wpAnyH_take (i := 1) (oi := { dst := some 48, op := Op.move (Operand.tmp 7), type := 3, pos := "outright.go:72", after := #[], guard := none }) (v := ?_) rfl (by kernel_rfl) (by kernel_rfl) (by kernel_rfl) (fun _ _ _ h => h) (Or.inl ⟨by rfl, ?_⟩) (by assumption) ?_
            rotate_left 1
            focus (intro w hSw; (try clear hSw); go_simp; try (with_reducible rfl))
            try go_frame
            refine wpAnyH_take (i := 4) (oi := { dst := some 51, op := Op.move (Operand.tmp 0), type := 22, pos := "outright.go:72", after := #[], guard := none }) (v := ?_) rfl (by kernel_rfl) (by kernel_rfl) (by kernel_rfl) (fun _ _ _ h => h) (Or.inl ⟨by rfl, ?_⟩) (by assumption) ?_
            rotate_left 1
            focus (intro w hSw; (try clear hSw); go_simp; try (with_reducible rfl))
            try go_frame
            refine wpAnyH_take (i := 5) (oi := { dst := some 52, op := Op.move (Operand.tmp 7), type := 3, pos := "outright.go:72", after := #[], guard := none }) (v := ?_) rfl (by kernel_rfl) (by kernel_rfl) (by kernel_rfl) (fun _ _ _ h => h) (Or.inl ⟨by rfl, ?_⟩) (by assumption) ?_
            rotate_left 1
            focus (intro w hSw; (try clear hSw); go_simp; try (with_reducible rfl))
            try go_frame
            refine wpAnyH_take (i := 6) (oi := { dst := some 53, op := Op.binOp BinOp.add 3 (Operand.tmp 52) (Operand.const (Value.int IntKind.i64 1)) 3, type := 3, pos := "outright.go:72", after := #[{ on := 5, ground := Ground.data }], guard := none }) (v := ?_) rfl (by kernel_rfl) (by kernel_rfl) (by kernel_rfl) (fun _ _ _ h => h) (Or.inl ⟨by rfl, ?_⟩) (by assumption) ?_
            rotate_left 1
            focus (intro w hSw; (try clear hSw); go_simp; try (with_reducible rfl))
            try go_frame
            refine wpAnyH_ready (rs := [2, 7]) (by kernel_rfl) (by simp) ?_
            refine AllReadyH.cons (o := { dst := some 49, op := Op.slice 22 (Operand.tmp 47) none (some (Operand.tmp 48)) none, type := 22, pos := "outright.go:72", after := #[{ on := 0, ground := Ground.data }, { on := 1, ground := Ground.data }], guard := none }) rfl (fun K hK => ?_) ?_
            · go_simp
              refine hK.out _ _ (hHeld) (fun hHeld => ?_)
              clear hK K
              try go_frame
              refine wpAnyH_ready (rs := [3, 7]) (by kernel_rfl) (by simp) ?_
              refine AllReadyH.cons (o := { dst := some 50, op := Op.call { callee := Callee.builtin Builtin.append, args := #[Operand.const (Value.slice none 0 0), Operand.tmp 49], argTypes := #[22, 22] }, type := 22, pos := "outright.go:72", after := #[{ on := 2, ground := Ground.data }], guard := none }) rfl (fun K hK => ?_) ?_
              · have RT := RecsIn.take (k := i) (HO.out.2.below (Below.refl _ _).drew) (by omega)
                refine step_append_recs rfl (.const (.slice none 0 0)) (.tmp 49) rfl B (.slice none 0 0) [] rfl (OwnRecs.nil _ _) ⟨some ⟨b0, o0, none⟩, i, (i + 1)⟩ (Rl.take i) rfl RT (by simp; omega) hB1 ?_
                intro v2 w2 o2 g2 at2 n2
                have B2 : Below w1.heap.size w1 w2 := ((Below.refl _ _).drew).grown g2 (Nat.le_refl _) (fun q hq => by cases hq)
                obtain ⟨v2a, v2n, v2c⟩ := v2
                try dsimp only [Sl.v]
                refine hK.out _ _ (⟨B2⟩) (fun hHeld => ?_)
                clear hK K
                try go_frame
                refine wpAnyH_ready (rs := [7]) (by kernel_rfl) (by simp) ?_
                refine AllReadyH.cons (o := { dst := some 54, op := Op.slice 22 (Operand.tmp 51) (some (Operand.tmp 53)) none none, type := 22, pos := "outright.go:72", after := #[{ on := 4, ground := Ground.data }, { on := 6, ground := Ground.data }], guard := none }) rfl (fun K hK => ?_) ?_
                · go_simp
                  refine hK.out _ _ (hHeld) (fun hHeld => ?_)
                  clear hK K
                  try go_frame
                  refine wpAnyH_ready (rs := [8]) (by kernel_rfl) (by simp) ?_
                  refine AllReadyH.cons (o := { dst := some 55, op := Op.call { callee := Callee.builtin Builtin.append, args := #[Operand.tmp 50, Operand.tmp 54], argTypes := #[22, 22] }, type := 22, pos := "outright.go:72", after := #[{ on := 3, ground := Ground.data }, { on := 7, ground := Ground.data }, { on := 3, ground := Ground.chain }], guard := none }) rfl (fun K hK => ?_) ?_
                  · have RD := RecsIn.none (w := w2) (B := B) (a := some ⟨b0, o0, none⟩) (c := 0) (n := 0) (Rs := Rl.drop (i + 1)) rfl (by simp; omega) (by omega) (by simp)
                    refine step_append_recs rfl (.tmp 50) (.tmp 54) rfl B (.slice v2a v2n v2c) _ rfl o2 ⟨some ⟨b0, o0, none⟩, 0, 0⟩ (Rl.drop (i + 1)) rfl RD (by simp; omega) (Nat.le_trans hB1 B2.size) ?_
                    intro v3 w3 o3 g3 at3 n3
                    have B3 : Below w1.heap.size w1 w3 := B2.grown g3 B2.size (fun q hq => by rcases at2 with e | e; (rw [e] at hq; cases hq); (rw [e] at hq; cases hq; exact Nat.le_refl _))
                    obtain ⟨v3a, v3n, v3c⟩ := v3
                    try dsimp only [Sl.v]
                    refine hK.out _ _ (⟨B3⟩) (fun hHeld => ?_)
                    clear hK K
                    try go_frame
                    refine wpAnyH_ready (rs := [9]) (by kernel_rfl) (by simp) ?_
                    refine AllReadyH.cons (o := { dst := some 0, op := Op.assign (Operand.tmp 55), type := 22, pos := "outright.go:72", after := #[{ on := 8, ground := Ground.data }, { on := 8, ground := Ground.chain }, { on := 0, ground := Ground.phase }, { on := 1, ground := Ground.phase }, { on := 2, ground := Ground.phase }, { on := 3, ground := Ground.phase }, { on := 4, ground := Ground.phase }, { on := 5, ground := Ground.phase }, { on := 6, ground := Ground.phase }, { on := 7, ground := Ground.phase }, { on := 8, ground := Ground.phase }], guard := none }) rfl (fun K hK => ?_) ?_
                    · go_simp
                      refine hK.out _ _ (by assumption) (fun hHeld => ?_)
                      clear hK K
                      try go_frame
                      refine wpAnyH_done (by kernel_rfl) ?_ _
                      have HM3 := Lib.hid (HM.out.next (v1 := .slice va vn vc) (v := ⟨v3a, v3n, v3c⟩) hi HFI.out (by rw [HR.out]; exact HO.out.1) B3 (by simpa using o3) (fun g e => by
                        rcases at3 with k | k
                        · rw [k] at e
                          rcases at2 with k2 | k2
                          · rw [k2] at e; cases e
                          · rw [k2] at e; cases e; exact Nat.le_refl _
                        · rw [k] at e; cases e; exact B2.size))
                      clear hHeld HM HO o2 g2 at2 o3 g3 at3
                      go_wp2_with fail
                      all_goals go_roundw
                      case rel => exact ⟨⟨v3a, v3n, v3c⟩, Ro ++ [Rl[i]], Rl.take i ++ Rl.drop (i + 1), rfl, by have := HK.out; simp [this], by have := HK.out; simp; omega, HM3⟩
                      case measure => simp [intOf]; omega
                    exact AllReadyH.nil
                  exact AllReadyH.nil
                exact AllReadyH.nil
              refine AllReadyH.cons (o := { dst := some 54, op := Op.slice 22 (Operand.tmp 51) (some (Operand.tmp 53)) none none, type := 22, pos := "outright.go:72", after := #[{ on := 4, ground := Ground.data }, { on := 6, ground := Ground.data }], guard := none }) rfl (fun K hK => ?_) ?_
              · go_simp
                refine hK.out _ _ (hHeld) (fun hHeld => ?_)
                clear hK K
                try go_frame
                refine wpAnyH_ready (rs := [3]) (by kernel_rfl) (by simp) ?_
                refine AllReadyH.cons (o := { dst := some 50, op := Op.call { callee := Callee.builtin Builtin.append, args := #[Operand.const (Value.slice none 0 0), Operand.tmp 49], argTypes := #[22, 22] }, type := 22, pos := "outright.go:72", after := #[{ on := 2, ground := Ground.data }], guard := none }) rfl (fun K hK => ?_) ?_
                · have RT := RecsIn.take (k := i) (HO.out.2.below (Below.refl _ _).drew) (by omega)
                  refine step_append_recs rfl (.const (.slice none 0 0)) (.tmp 49) rfl B (.slice none 0 0) [] rfl (OwnRecs.nil _ _) ⟨some ⟨b0, o0, none⟩, i, (i + 1)⟩ (Rl.take i) rfl RT (by simp; omega) hB1 ?_
                  intro v2 w2 o2 g2 at2 n2
                  have B2 : Below w1.heap.size w1 w2 := ((Below.refl _ _).drew).grown g2 (Nat.le_refl _) (fun q hq => by cases hq)
                  obtain ⟨v2a, v2n, v2c⟩ := v2
                  try dsimp only [Sl.v]
                  refine hK.out _ _ (⟨B2⟩) (fun hHeld => ?_)
                  clear hK K
                  try go_frame
                  refine wpAnyH_ready (rs := [8]) (by kernel_rfl) (by simp) ?_
                  refine AllReadyH.cons (o := { dst := some 55, op := Op.call { callee := Callee.builtin Builtin.append, args := #[Operand.tmp 50, Operand.tmp 54], argTypes := #[22, 22] }, type := 22, pos := "outright.go:72", after := #[{ on := 3, ground := Ground.data }, { on := 7, ground := Ground.data }, { on := 3, ground := Ground.chain }], guard := none }) rfl (fun K hK => ?_) ?_
                  · have RD := RecsIn.none (w := w2) (B := B) (a := some ⟨b0, o0, none⟩) (c := 0) (n := 0) (Rs := Rl.drop (i + 1)) rfl (by simp; omega) (by omega) (by simp)
                    refine step_append_recs rfl (.tmp 50) (.tmp 54) rfl B (.slice v2a v2n v2c) _ rfl o2 ⟨some ⟨b0, o0, none⟩, 0, 0⟩ (Rl.drop (i + 1)) rfl RD (by simp; omega) (Nat.le_trans hB1 B2.size) ?_
                    intro v3 w3 o3 g3 at3 n3
                    have B3 : Below w1.heap.size w1 w3 := B2.grown g3 B2.size (fun q hq => by rcases at2 with e | e; (rw [e] at hq; cases hq); (rw [e] at hq; cases hq; exact Nat.le_refl _))
                    obtain ⟨v3a, v3n, v3c⟩ := v3
                    try dsimp only [Sl.v]
                    refine hK.out _ _ (⟨B3⟩) (fun hHeld => ?_)
                    clear hK K
                    try go_frame
                    refine wpAnyH_ready (rs := [9]) (by kernel_rfl) (by simp) ?_
                    refine AllReadyH.cons (o := { dst := some 0, op := Op.assign (Operand.tmp 55), type := 22, pos := "outright.go:72", after := #[{ on := 8, ground := Ground.data }, { on := 8, ground := Ground.chain }, { on := 0, ground := Ground.phase }, { on := 1, ground := Ground.phase }, { on := 2, ground := Ground.phase }, { on := 3, ground := Ground.phase }, { on := 4, ground := Ground.phase }, { on := 5, ground := Ground.phase }, { on := 6, ground := Ground.phase }, { on := 7, ground := Ground.phase }, { on := 8, ground := Ground.phase }], guard := none }) rfl (fun K hK => ?_) ?_
                    · go_simp
                      refine hK.out _ _ (by assumption) (fun hHeld => ?_)
                      clear hK K
                      try go_frame
                      refine wpAnyH_done (by kernel_rfl) ?_ _
                      have HM3 := Lib.hid (HM.out.next (v1 := .slice va vn vc) (v := ⟨v3a, v3n, v3c⟩) hi HFI.out (by rw [HR.out]; exact HO.out.1) B3 (by simpa using o3) (fun g e => by
                        rcases at3 with k | k
                        · rw [k] at e
                          rcases at2 with k2 | k2
                          · rw [k2] at e; cases e
                          · rw [k2] at e; cases e; exact Nat.le_refl _
                        · rw [k] at e; cases e; exact B2.size))
                      clear hHeld HM HO o2 g2 at2 o3 g3 at3
                      go_wp2_with fail
                      all_goals go_roundw
                      case rel => exact ⟨⟨v3a, v3n, v3c⟩, Ro ++ [Rl[i]], Rl.take i ++ Rl.drop (i + 1), rfl, by have := HK.out; simp [this], by have := HK.out; simp; omega, HM3⟩
                      case measure => simp [intOf]; omega
                    exact AllReadyH.nil
                  exact AllReadyH.nil
                exact AllReadyH.nil
              exact AllReadyH.nil
            refine AllReadyH.cons (o := { dst := some 54, op := Op.slice 22 (Operand.tmp 51) (some (Operand.tmp 53)) none none, type := 22, pos := "outright.go:72", after := #[{ on := 4, ground := Ground.data }, { on := 6, ground := Ground.data }], guard := none }) rfl (fun K hK => ?_) ?_
            · go_simp
              refine hK.out _ _ (hHeld) (fun hHeld => ?_)
              clear hK K
              try go_frame
              refine wpAnyH_ready (rs := [2]) (by kernel_rfl) (by simp) ?_
              refine AllReadyH.cons (o := { dst := some 49, op := Op.slice 22 (Operand.tmp 47) none (some (Operand.tmp 48)) none, type := 22, pos := "outright.go:72", after := #[{ on := 0, ground := Ground.data }, { on := 1, ground := Ground.data }], guard := none }) rfl (fun K hK => ?_) ?_
              · go_simp
                refine hK.out _ _ (hHeld) (fun hHeld => ?_)
                clear hK K
                try go_frame
                refine wpAnyH_ready (rs := [3]) (by kernel_rfl) (by simp) ?_
                refine AllReadyH.cons (o := { dst := some 50, op := Op.call { callee := Callee.builtin Builtin.append, args := #[Operand.const (Value.slice none 0 0), Operand.tmp 49], argTypes := #[22, 22] }, type := 22, pos := "outright.go:72", after := #[{ on := 2, ground := Ground.data }], guard := none }) rfl (fun K hK => ?_) ?_
                · have RT := RecsIn.take (k := i) (HO.out.2.below (Below.refl _ _).drew) (by omega)
                  refine step_append_recs rfl (.const (.slice none 0 0)) (.tmp 49) rfl B (.slice none 0 0) [] rfl (OwnRecs.nil _ _) ⟨some ⟨b0, o0, none⟩, i, (i + 1)⟩ (Rl.take i) rfl RT (by simp; omega) hB1 ?_
                  intro v2 w2 o2 g2 at2 n2
                  have B2 : Below w1.heap.size w1 w2 := ((Below.refl _ _).drew).grown g2 (Nat.le_refl _) (fun q hq => by cases hq)
                  obtain ⟨v2a, v2n, v2c⟩ := v2
                  try dsimp only [Sl.v]
                  refine hK.out _ _ (⟨B2⟩) (fun hHeld => ?_)
                  clear hK K
                  try go_frame
                  refine wpAnyH_ready (rs := [8]) (by kernel_rfl) (by simp) ?_
                  refine AllReadyH.cons (o := { dst := some 55, op := Op.call { callee := Callee.builtin Builtin.append, args := #[Operand.tmp 50, Operand.tmp 54], argTypes := #[22, 22] }, type := 22, pos := "outright.go:72", after := #[{ on := 3, ground := Ground.data }, { on := 7, ground := Ground.data }, { on := 3, ground := Ground.chain }], guard := none }) rfl (fun K hK => ?_) ?_
                  · have RD := RecsIn.none (w := w2) (B := B) (a := some ⟨b0, o0, none⟩) (c := 0) (n := 0) (Rs := Rl.drop (i + 1)) rfl (by simp; omega) (by omega) (by simp)
                    refine step_append_recs rfl (.tmp 50) (.tmp 54) rfl B (.slice v2a v2n v2c) _ rfl o2 ⟨some ⟨b0, o0, none⟩, 0, 0⟩ (Rl.drop (i + 1)) rfl RD (by simp; omega) (Nat.le_trans hB1 B2.size) ?_
                    intro v3 w3 o3 g3 at3 n3
                    have B3 : Below w1.heap.size w1 w3 := B2.grown g3 B2.size (fun q hq => by rcases at2 with e | e; (rw [e] at hq; cases hq); (rw [e] at hq; cases hq; exact Nat.le_refl _))
                    obtain ⟨v3a, v3n, v3c⟩ := v3
                    try dsimp only [Sl.v]
                    refine hK.out _ _ (⟨B3⟩) (fun hHeld => ?_)
                    clear hK K
                    try go_frame
                    refine wpAnyH_ready (rs := [9]) (by kernel_rfl) (by simp) ?_
                    refine AllReadyH.cons (o := { dst := some 0, op := Op.assign (Operand.tmp 55), type := 22, pos := "outright.go:72", after := #[{ on := 8, ground := Ground.data }, { on := 8, ground := Ground.chain }, { on := 0, ground := Ground.phase }, { on := 1, ground := Ground.phase }, { on := 2, ground := Ground.phase }, { on := 3, ground := Ground.phase }, { on := 4, ground := Ground.phase }, { on := 5, ground := Ground.phase }, { on := 6, ground := Ground.phase }, { on := 7, ground := Ground.phase }, { on := 8, ground := Ground.phase }], guard := none }) rfl (fun K hK => ?_) ?_
                    · go_simp
                      refine hK.out _ _ (by assumption) (fun hHeld => ?_)
                      clear hK K
                      try go_frame
                      refine wpAnyH_done (by kernel_rfl) ?_ _
                      have HM3 := Lib.hid (HM.out.next (v1 := .slice va vn vc) (v := ⟨v3a, v3n, v3c⟩) hi HFI.out (by rw [HR.out]; exact HO.out.1) B3 (by simpa using o3) (fun g e => by
                        rcases at3 with k | k
                        · rw [k] at e
                          rcases at2 with k2 | k2
                          · rw [k2] at e; cases e
                          · rw [k2] at e; cases e; exact Nat.le_refl _
                        · rw [k] at e; cases e; exact B2.size))
                      clear hHeld HM HO o2 g2 at2 o3 g3 at3
                      go_wp2_with fail
                      all_goals go_roundw
                      case rel => exact ⟨⟨v3a, v3n, v3c⟩, Ro ++ [Rl[i]], Rl.take i ++ Rl.drop (i + 1), rfl, by have := HK.out; simp [this], by have := HK.out; simp; omega, HM3⟩
                      case measure => simp [intOf]; omega
                    exact AllReadyH.nil
                  exact AllReadyH.nil
                exact AllReadyH.nil
              exact AllReadyH.nil
            exact AllReadyH.nil
          ·
            refine wp_region_held_drew (S := Since w1) (by kernel_rfl) ((Since.refl w1).drew) (fun hHeld => ?_)
            refine wpAnyH_take (i := 0) (oi := { dst := some 47, op := Op.move (Operand.tmp 0), type := 22, pos := "outright.go:72", after := #[], guard := none }) (v := ?_) rfl (by kernel_rfl) (by kernel_rfl) (by kernel_rfl) (fun _ _ _ h => h) (Or.inl ⟨by rfl, ?_⟩) (by assumption) ?_
            rotate_left 1
            focus (intro w hSw; (try clear hSw); go_simp; try (with_reducible rfl))
            try go_frame
            refine wpAnyH_take (i := 1) (oi := { dst := some 48, op := Op.move (Operand.tmp 7), type := 3, pos := "outright.go:72", after := #[], guard := none }) (v := ?_) rfl (by kernel_rfl) (by kernel_rfl) (by kernel_rfl) (fun _ _ _ h => h) (Or.inl ⟨by rfl, ?_⟩) (by assumption) ?_
            rotate_left 1
            focus (intro w hSw; (try clear hSw); go_simp; try (with_reducible rfl))
            try go_frame
            refine wpAnyH_take (i := 4) (oi := { dst := some 51, op := Op.move (Operand.tmp 0), type := 22, pos := "outright.go:72", after := #[], guard := none }) (v := ?_) rfl (by kernel_rfl) (by kernel_rfl) (by kernel_rfl) (fun _ _ _ h => h) (Or.inl ⟨by rfl, ?_⟩) (by assumption) ?_
            rotate_left 1
            focus (intro w hSw; (try clear hSw); go_simp; try (with_reducible rfl))
            try go_frame
            refine wpAnyH_take (i := 5) (oi := { dst := some 52, op := Op.move (Operand.tmp 7), type := 3, pos := "outright.go:72", after := #[], guard := none }) (v := ?_) rfl (by kernel_rfl) (by kernel_rfl) (by kernel_rfl) (fun _ _ _ h => h) (Or.inl ⟨by rfl, ?_⟩) (by assumption) ?_
            rotate_left 1
            focus (intro w hSw; (try clear hSw); go_simp; try (with_reducible rfl))
            try go_frame
            refine wpAnyH_take (i := 6) (oi := { dst := some 53, op := Op.binOp BinOp.add 3 (Operand.tmp 52) (Operand.const (Value.int IntKind.i64 1)) 3, type := 3, pos := "outright.go:72", after := #[{ on := 5, ground := Ground.data }], guard := none }) (v := ?_) rfl (by kernel_rfl) (by kernel_rfl) (by kernel_rfl) (fun _ _ _ h => h) (Or.inl ⟨by rfl, ?_⟩) (by assumption) ?_
            rotate_left 1
            focus (intro w hSw; (try clear hSw); go_simp; try (with_reducible rfl))
            try go_frame
            refine wpAnyH_ready (rs := [2, 7]) (by kernel_rfl) (by simp) ?_
            refine AllReadyH.cons (o := { dst := some 49, op := Op.slice 22 (Operand.tmp 47) none (some (Operand.tmp 48)) none, type := 22, pos := "outright.go:72", after := #[{ on := 0, ground := Ground.data }, { on := 1, ground := Ground.data }], guard := none }) rfl (fun K hK => ?_) ?_
            · go_simp
              refine hK.out _ _ (hHeld) (fun hHeld => ?_)
              clear hK K
              try go_frame
              refine wpAnyH_ready (rs := [3, 7]) (by kernel_rfl) (by simp) ?_
              refine AllReadyH.cons (o := { dst := some 50, op := Op.call { callee := Callee.builtin Builtin.append, args := #[Operand.const (Value.slice none 0 0), Operand.tmp 49], argTypes := #[22, 22] }, type := 22, pos := "outright.go:72", after := #[{ on := 2, ground := Ground.data }], guard := none }) rfl (fun K hK => ?_) ?_
              · have RT := RecsIn.take (k := i) (HO.out.2.below (Below.refl _ _).drew) (by omega)
                refine step_append_recs rfl (.const (.slice none 0 0)) (.tmp 49) rfl B (.slice none 0 0) [] rfl (OwnRecs.nil _ _) ⟨some ⟨b0, o0, none⟩, i, lc⟩ (Rl.take i) rfl RT (by simp; omega) hB1 ?_
                intro v2 w2 o2 g2 at2 n2
                have B2 : Below w1.heap.size w1 w2 := ((Below.refl _ _).drew).grown g2 (Nat.le_refl _) (fun q hq => by cases hq)
                obtain ⟨v2a, v2n, v2c⟩ := v2
                try dsimp only [Sl.v]
                refine hK.out _ _ (⟨B2⟩) (fun hHeld => ?_)
                clear hK K
                try go_frame
                refine wpAnyH_ready (rs := [7]) (by kernel_rfl) (by simp) ?_
                refine AllReadyH.cons (o := { dst := some 54, op := Op.slice 22 (Operand.tmp 51) (some (Operand.tmp 53)) none none, type := 22, pos := "outright.go:72", after := #[{ on := 4, ground := Ground.data }, { on := 6, ground := Ground.data }], guard := none }) rfl (fun K hK => ?_) ?_
                · go_simp
                  refine hK.out _ _ (hHeld) (fun hHeld => ?_)
                  clear hK K
                  try go_frame
                  refine wpAnyH_ready (rs := [8]) (by kernel_rfl) (by simp) ?_
                  refine AllReadyH.cons (o := { dst := some 55, op := Op.call { callee := Callee.builtin Builtin.append, args := #[Operand.tmp 50, Operand.tmp 54], argTypes := #[22, 22] }, type := 22, pos := "outright.go:72", after := #[{ on := 3, ground := Ground.data }, { on := 7, ground := Ground.data }, { on := 3, ground := Ground.chain }], guard := none }) rfl (fun K hK => ?_) ?_
                  · have RD := RecsIn.drop (k := i + 1) (HO.out.2.below B2) (by omega)
                    refine step_append_recs rfl (.tmp 50) (.tmp 54) rfl B (.slice v2a v2n v2c) _ rfl o2 ⟨some ⟨b0, o0 + (i + 1) * 12, none⟩, Rl.length - (i + 1), lc - (i + 1)⟩ (Rl.drop (i + 1)) rfl RD (by simp; omega) (Nat.le_trans hB1 B2.size) ?_
                    intro v3 w3 o3 g3 at3 n3
                    have B3 : Below w1.heap.size w1 w3 := B2.grown g3 B2.size (fun q hq => by rcases at2 with e | e; (rw [e] at hq; cases hq); (rw [e] at hq; cases hq; exact Nat.le_refl _))
                    obtain ⟨v3a, v3n, v3c⟩ := v3
                    try dsimp only [Sl.v]
                    refine hK.out _ _ (⟨B3⟩) (fun hHeld => ?_)
                    clear hK K
                    try go_frame
                    refine wpAnyH_ready (rs := [9]) (by kernel_rfl) (by simp) ?_
                    refine AllReadyH.cons (o := { dst := some 0, op := Op.assign (Operand.tmp 55), type := 22, pos := "outright.go:72", after := #[{ on := 8, ground := Ground.data }, { on := 8, ground := Ground.chain }, { on := 0, ground := Ground.phase }, { on := 1, ground := Ground.phase }, { on := 2, ground := Ground.phase }, { on := 3, ground := Ground.phase }, { on := 4, ground := Ground.phase }, { on := 5, ground := Ground.phase }, { on := 6, ground := Ground.phase }, { on := 7, ground := Ground.phase }, { on := 8, ground := Ground.phase }], guard := none }) rfl (fun K hK => ?_) ?_
                    · go_simp
                      refine hK.out _ _ (by assumption) (fun hHeld => ?_)
                      clear hK K
                      try go_frame
                      refine wpAnyH_done (by kernel_rfl) ?_ _
                      have HM3 := Lib.hid (HM.out.next (v1 := .slice va vn vc) (v := ⟨v3a, v3n, v3c⟩) hi HFI.out (by rw [HR.out]; exact HO.out.1) B3 (by simpa using o3) (fun g e => by
                        rcases at3 with k | k
                        · rw [k] at e
                          rcases at2 with k2 | k2
                          · rw [k2] at e; cases e
                          · rw [k2] at e; cases e; exact Nat.le_refl _
                        · rw [k] at e; cases e; exact B2.size))
                      clear hHeld HM HO o2 g2 at2 o3 g3 at3
                      go_wp2_with fail
                      all_goals go_roundw
                      case rel => exact ⟨⟨v3a, v3n, v3c⟩, Ro ++ [Rl[i]], Rl.take i ++ Rl.drop (i + 1), rfl, by have := HK.out; simp [this], by have := HK.out; simp; omega, HM3⟩
                      case measure => simp [intOf]; omega
                    exact AllReadyH.nil
                  exact AllReadyH.nil
                exact AllReadyH.nil
              refine AllReadyH.cons (o := { dst := some 54, op := Op.slice 22 (Operand.tmp 51) (some (Operand.tmp 53)) none none, type := 22, pos := "outright.go:72", after := #[{ on := 4, ground := Ground.data }, { on := 6, ground := Ground.data }], guard := none }) rfl (fun K hK => ?_) ?_
              · go_simp
                refine hK.out _ _ (hHeld) (fun hHeld => ?_)
                clear hK K
                try go_frame
                refine wpAnyH_ready (rs := [3]) (by kernel_rfl) (by simp) ?_
                refine AllReadyH.cons (o := { dst := some 50, op := Op.call { callee := Callee.builtin Builtin.append, args := #[Operand.const (Value.slice none 0 0), Operand.tmp 49], argTypes := #[22, 22] }, type := 22, pos := "outright.go:72", after := #[{ on := 2, ground := Ground.data }], guard := none }) rfl (fun K hK => ?_) ?_
                · have RT := RecsIn.take (k := i) (HO.out.2.below (Below.refl _ _).drew) (by omega)
                  refine step_append_recs rfl (.const (.slice none 0 0)) (.tmp 49) rfl B (.slice none 0 0) [] rfl (OwnRecs.nil _ _) ⟨some ⟨b0, o0, none⟩, i, lc⟩ (Rl.take i) rfl RT (by simp; omega) hB1 ?_
                  intro v2 w2 o2 g2 at2 n2
                  have B2 : Below w1.heap.size w1 w2 := ((Below.refl _ _).drew).grown g2 (Nat.le_refl _) (fun q hq => by cases hq)
                  obtain ⟨v2a, v2n, v2c⟩ := v2
                  try dsimp only [Sl.v]
                  refine hK.out _ _ (⟨B2⟩) (fun hHeld => ?_)
                  clear hK K
                  try go_frame
                  refine wpAnyH_ready (rs := [8]) (by kernel_rfl) (by simp) ?_
                  refine AllReadyH.cons (o := { dst := some 55, op := Op.call { callee := Callee.builtin Builtin.append, args := #[Operand.tmp 50, Operand.tmp 54], argTypes := #[22, 22] }, type := 22, pos := "outright.go:72", after := #[{ on := 3, ground := Ground.data }, { on := 7, ground := Ground.data }, { on := 3, ground := Ground.chain }], guard := none }) rfl (fun K hK => ?_) ?_
                  · have RD := RecsIn.drop (k := i + 1) (HO.out.2.below B2) (by omega)
                    refine step_append_recs rfl (.tmp 50) (.tmp 54) rfl B (.slice v2a v2n v2c) _ rfl o2 ⟨some ⟨b0, o0 + (i + 1) * 12, none⟩, Rl.length - (i + 1), lc - (i + 1)⟩ (Rl.drop (i + 1)) rfl RD (by simp; omega) (Nat.le_trans hB1 B2.size) ?_
                    intro v3 w3 o3 g3 at3 n3
                    have B3 : Below w1.heap.size w1 w3 := B2.grown g3 B2.size (fun q hq => by rcases at2 with e | e; (rw [e] at hq; cases hq); (rw [e] at hq; cases hq; exact Nat.le_refl _))
                    obtain ⟨v3a, v3n, v3c⟩ := v3
                    try dsimp only [Sl.v]
                    refine hK.out _ _ (⟨B3⟩) (fun hHeld => ?_)
                    clear hK K
                    try go_frame
                    refine wpAnyH_ready (rs := [9]) (by kernel_rfl) (by simp) ?_
                    refine AllReadyH.cons (o := { dst := some 0, op := Op.assign (Operand.tmp 55), type := 22, pos := "outright.go:72", after := #[{ on := 8, ground := Ground.data }, { on := 8, ground := Ground.chain }, { on := 0, ground := Ground.phase }, { on := 1, ground := Ground.phase }, { on := 2, ground := Ground.phase }, { on := 3, ground := Ground.phase }, { on := 4, ground := Ground.phase }, { on := 5, ground := Ground.phase }, { on := 6, ground := Ground.phase }, { on := 7, ground := Ground.phase }, { on := 8, ground := Ground.phase }], guard := none }) rfl (fun K hK => ?_) ?_
                    · go_simp
                      refine hK.out _ _ (by assumption) (fun hHeld => ?_)
                      clear hK K
                      try go_frame
                      refine wpAnyH_done (by kernel_rfl) ?_ _
                      have HM3 := Lib.hid (HM.out.next (v1 := .slice va vn vc) (v := ⟨v3a, v3n, v3c⟩) hi HFI.out (by rw [HR.out]; exact HO.out.1) B3 (by simpa using o3) (fun g e => by
                        rcases at3 with k | k
                        · rw [k] at e
                          rcases at2 with k2 | k2
                          · rw [k2] at e; cases e
                          · rw [k2] at e; cases e; exact Nat.le_refl _
                        · rw [k] at e; cases e; exact B2.size))
                      clear hHeld HM HO o2 g2 at2 o3 g3 at3
                      go_wp2_with fail
                      all_goals go_roundw
                      case rel => exact ⟨⟨v3a, v3n, v3c⟩, Ro ++ [Rl[i]], Rl.take i ++ Rl.drop (i + 1), rfl, by have := HK.out; simp [this], by have := HK.out; simp; omega, HM3⟩
                      case measure => simp [intOf]; omega
                    exact AllReadyH.nil
                  exact AllReadyH.nil
                exact AllReadyH.nil
              exact AllReadyH.nil
            refine AllReadyH.cons (o := { dst := some 54, op := Op.slice 22 (Operand.tmp 51) (some (Operand.tmp 53)) none none, type := 22, pos := "outright.go:72", after := #[{ on := 4, ground := Ground.data }, { on := 6, ground := Ground.data }], guard := none }) rfl (fun K hK => ?_) ?_
            · go_simp
              refine hK.out _ _ (hHeld) (fun hHeld => ?_)
              clear hK K
              try go_frame
              refine wpAnyH_ready (rs := [2]) (by kernel_rfl) (by simp) ?_
              refine AllReadyH.cons (o := { dst := some 49, op := Op.slice 22 (Operand.tmp 47) none (some (Operand.tmp 48)) none, type := 22, pos := "outright.go:72", after := #[{ on := 0, ground := Ground.data }, { on := 1, ground := Ground.data }], guard := none }) rfl (fun K hK => ?_) ?_
              · go_simp
                refine hK.out _ _ (hHeld) (fun hHeld => ?_)
                clear hK K
                try go_frame
                refine wpAnyH_ready (rs := [3]) (by kernel_rfl) (by simp) ?_
                refine AllReadyH.cons (o := { dst := some 50, op := Op.call { callee := Callee.builtin Builtin.append, args := #[Operand.const (Value.slice none 0 0), Operand.tmp 49], argTypes := #[22, 22] }, type := 22, pos := "outright.go:72", after := #[{ on := 2, ground := Ground.data }], guard := none }) rfl (fun K hK => ?_) ?_
                · have RT := RecsIn.take (k := i) (HO.out.2.below (Below.refl _ _).drew) (by omega)
                  refine step_append_recs rfl (.const (.slice none 0 0)) (.tmp 49) rfl B (.slice none 0 0) [] rfl (OwnRecs.nil _ _) ⟨some ⟨b0, o0, none⟩, i, lc⟩ (Rl.take i) rfl RT (by simp; omega) hB1 ?_
                  intro v2 w2 o2 g2 at2 n2
                  have B2 : Below w1.heap.size w1 w2 := ((Below.refl _ _).drew).grown g2 (Nat.le_refl _) (fun q hq => by cases hq)
                  obtain ⟨v2a, v2n, v2c⟩ := v2
                  try dsimp only [Sl.v]
                  refine hK.out _ _ (⟨B2⟩) (fun hHeld => ?_)
                  clear hK K
                  try go_frame
                  refine wpAnyH_ready (rs := [8]) (by kernel_rfl) (by simp) ?_
                  refine AllReadyH.cons (o := { dst := some 55, op := Op.call { callee := Callee.builtin Builtin.append, args := #[Operand.tmp 50, Operand.tmp 54], argTypes := #[22, 22] }, type := 22, pos := "outright.go:72", after := #[{ on := 3, ground := Ground.data }, { on := 7, ground := Ground.data }, { on := 3, ground := Ground.chain }], guard := none }) rfl (fun K hK => ?_) ?_
                  · have RD := RecsIn.drop (k := i + 1) (HO.out.2.below B2) (by omega)
                    refine step_append_recs rfl (.tmp 50) (.tmp 54) rfl B (.slice v2a v2n v2c) _ rfl o2 ⟨some ⟨b0, o0 + (i + 1) * 12, none⟩, Rl.length - (i + 1), lc - (i + 1)⟩ (Rl.drop (i + 1)) rfl RD (by simp; omega) (Nat.le_trans hB1 B2.size) ?_
                    intro v3 w3 o3 g3 at3 n3
                    have B3 : Below w1.heap.size w1 w3 := B2.grown g3 B2.size (fun q hq => by rcases at2 with e | e; (rw [e] at hq; cases hq); (rw [e] at hq; cases hq; exact Nat.le_refl _))
                    obtain ⟨v3a, v3n, v3c⟩ := v3
                    try dsimp only [Sl.v]
                    refine hK.out _ _ (⟨B3⟩) (fun hHeld => ?_)
                    clear hK K
                    try go_frame
                    refine wpAnyH_ready (rs := [9]) (by kernel_rfl) (by simp) ?_
                    refine AllReadyH.cons (o := { dst := some 0, op := Op.assign (Operand.tmp 55), type := 22, pos := "outright.go:72", after := #[{ on := 8, ground := Ground.data }, { on := 8, ground := Ground.chain }, { on := 0, ground := Ground.phase }, { on := 1, ground := Ground.phase }, { on := 2, ground := Ground.phase }, { on := 3, ground := Ground.phase }, { on := 4, ground := Ground.phase }, { on := 5, ground := Ground.phase }, { on := 6, ground := Ground.phase }, { on := 7, ground := Ground.phase }, { on := 8, ground := Ground.phase }], guard := none }) rfl (fun K hK => ?_) ?_
                    · go_simp
                      refine hK.out _ _ (by assumption) (fun hHeld => ?_)
                      clear hK K
                      try go_frame
                      refine wpAnyH_done (by kernel_rfl) ?_ _
                      have HM3 := Lib.hid (HM.out.next (v1 := .slice va vn vc) (v := ⟨v3a, v3n, v3c⟩) hi HFI.out (by rw [HR.out]; exact HO.out.1) B3 (by simpa using o3) (fun g e => by
                        rcases at3 with k | k
                        · rw [k] at e
                          rcases at2 with k2 | k2
                          · rw [k2] at e; cases e
                          · rw [k2] at e; cases e; exact Nat.le_refl _
                        · rw [k] at e; cases e; exact B2.size))
                      clear hHeld HM HO o2 g2 at2 o3 g3 at3
                      go_wp2_with fail
                      all_goals go_roundw
                      case rel => exact ⟨⟨v3a, v3n, v3c⟩, Ro ++ [Rl[i]], Rl.take i ++ Rl.drop (i + 1), rfl, by have := HK.out; simp [this], by have := HK.out; simp; omega, HM3⟩
                      case measure => simp [intOf]; omega
                    exact AllReadyH.nil
                  exact AllReadyH.nil
                exact AllReadyH.nil
              exact AllReadyH.nil
            exact AllReadyH.nil
        · have hne : (sx == sg) = false := by simp [hx]
          have HN2 : Hid (∀ q (hq : q < i + 1) (hq' : q < Rl.length), Rl[q].saga ≠ sg) := Lib.hid (fun q hq hq' => by
            by_cases e : q = i
            · subst e; rw [HSX.out]; exact hx
            · exact HN.out q (by omega) hq')
          have hip2 : i ≠ p := fun e => by subst e; exact hx (HSX.out.symm.trans HSG.out)
          clear HN HSX
          go_wp2_with (first | ((with_reducible refine wpList_load_cell ?_ _ (.tmp 34) ?_ (⟨b0, o0 + i * 12 + 2, none⟩) ?_ (.int .i64 sx) (CI.out) one_int ?_); rotate_left; exact rfl; exact rfl; rotate_left; exact rfl))
          all_goals go_roundw
          case rel => exact ⟨i + 1, by go_num, by omega, HN2, by first | rfl | trivial⟩
          case measure => simp [intOf]; omega
    · have hR0 : Rl = [] := List.eq_nil_of_length_eq_zero (by omega)
      subst hR0
      have HF := Lib.hid HM.out.row
      have hm := Lib.hid HM.out.ming.done
      have hl : Ro.length = L.length := by have := HM.out.len; simpa using this
      have HL := Lib.hid hl
      obtain ⟨sl, esl, _⟩ := HF.out.own.sl
      subst esl
      clear HM hl HK hlen
      go_wp2_with fail
      all_goals go_ret
      all_goals exact ⟨sl, Ro, rfl, HF.out.own, hm.out, HL.out, HF.out.below⟩
end Go.Proofs.YtfbaliimjmimhaaDoor
