/-
  annalsref11.Same walked: two states are the same just where they hold the same. Conditions: none. (Printed by wip/gen_same11.py.)
-/
import Derived.Test.YtfbaliimjmimhaaDoorBagAt
import Derived.Test.YtfbaliimjmimhaaDoorReg3
import Derived.Maps.RangeWalk
import Derived.Deep.DeepCutAuto
import Derived.Deep.CutBlock
namespace Go.Proofs.YtfbaliimjmimhaaDoor
open Go.RowKit

theorem one_sagas' : OneTy Tryd.prog 25 := ⟨_, Tryd.underlying25, rfl⟩
theorem sagas_ld {w : World} {b o : Nat} {ss : List SagaV} (h : ∀ i (h1 : i < ss.length), ∀ j, j < 16 → w.cell? ⟨b, o + i * 16 + j, none⟩ = (ss[i]).cells[j]?) : ∀ i (h : i < ss.length) W, Below w.heap.size w W → ∀ j, j < (sagaArr ss[i]).size → W.cell? ⟨b, o + i * 16 + j, none⟩ = (sagaArr ss[i])[j]? := by
  intro i hi W hW j hj
  have h1 := h i hi j hj
  have h2 : (ss[i]).cells[j]? = (sagaArr ss[i])[j]? := by simp [sagaArr]
  rw [h2, Array.getElem?_eq_getElem hj] at h1
  rw [Array.getElem?_eq_getElem hj]
  exact (hW.cell (World.block_lt_of_cell? w _ h1)).trans h1
/-- Two states that hold the same. -/
noncomputable def stateB (x y : Int) (Ss Ts : List SagaD) : Bool := @decide (x = y ∧ Ss = Ts) (Classical.propDecidable _)
theorem stateB_iff {x y : Int} {Ss Ts : List SagaD} : stateB x y Ss Ts = true ↔ x = y ∧ Ss = Ts := @decide_eq_true_iff _ (Classical.propDecidable _)
theorem stateB_not {x y : Int} {Ss Ts : List SagaD} (h : ¬ (x = y ∧ Ss = Ts)) : stateB x y Ss Ts = false := by
  cases e : stateB x y Ss Ts with
  | false => rfl
  | true => exact absurd (stateB_iff.1 e) h
theorem stateB_same (x : Int) (Ss : List SagaD) : stateB x x Ss Ss = true := stateB_iff.2 ⟨rfl, rfl⟩
set_option maxRecDepth 1000000 in
set_option maxHeartbeats 2000000 in
theorem same11_any (x y : Int) (p q : Sl) (Ss Ts : List SagaD) (w : World) (hp : SagasAt w p Ss) (hq : SagasAt w q Ts) :
    Calls Tryd.prog 12 #[.agg #[.int .i64 x, .slice p.a p.n p.c], .agg #[.int .i64 y, .slice q.a q.n q.c]] w fun e w' => e = .returned (.bool (stateB x y Ss Ts)) ∧ Below w.heap.size w w' := by
  obtain ⟨ss, p1, p2, p3, p4, p5⟩ := hp
  obtain ⟨ts, q1, q2, q3, q4, q5⟩ := hq
  obtain ⟨pa, pn, pc⟩ := p
  obtain ⟨qa, qn, qc⟩ := q
  simp only at p1 p3 p4 q1 q3 q4
  have hpn : pn = Ss.length := by omega
  have hqn : qn = Ts.length := by omega
  subst hpn hqn
  have hmax := p3.1
  have HA := Lib.hid p4
  have HB := Lib.hid q4
  have HRA := Lib.hid p5
  have HRB := Lib.hid q5
  have HP2 := Lib.hid p2
  have HQ2 := Lib.hid q2
  obtain ⟨ans, hans⟩ : ∃ q, stateB x y Ss Ts = q := ⟨_, rfl⟩
  simp only [hans]
  have HANS := Lib.hid hans
  clear p4 q4 p5 q5 p3 q3 p1 q1 p2 q2 hans
  obtain ⟨w1, hw1⟩ : ∃ q, (w.alloc (.cells #[.int .i64 x, .slice pa Ss.length pc] 27)).alloc (.cells #[.int .i64 y, .slice qa Ts.length qc] 27) = q := ⟨_, rfl⟩
  have hb1 : Below w.heap.size w w1 := by rw [← hw1]; exact boxd (boxd (Below.refl _ _))
  have K1 : Hid (BlkAt w1 w.heap.size #[.int .i64 x, .slice pa Ss.length pc] 27) := Lib.hid (by rw [← hw1]; exact (BlkAt.new _ _ _).push _)
  have K2 : Hid (BlkAt w1 (w.heap.size + 1) #[.int .i64 y, .slice qa Ts.length qc] 27) := Lib.hid (by
    rw [← hw1]
    have := BlkAt.new (w.alloc (.cells #[.int .i64 x, .slice pa Ss.length pc] 27)) #[.int .i64 y, .slice qa Ts.length qc] 27
    rw [World.size_alloc] at this
    exact this)
  have HB1 := Lib.hid hb1
  clear hb1
  have HW1 := Lib.hid hw1
  clear hw1
  go_enter Tryd.func12, Tryd.ntmps12
  go_upto_region 1 with fail
  rw [HW1.out]
  clear HW1
  by_cases hxy : x = y
  · subst hxy
    by_cases hl : Ss.length = Ts.length
    · have HL := Lib.hid hl
      rw [← hl] at K2 ⊢
      clear hl
      go_wp2_with (first
      | ((with_reducible refine wpList_load_field ?_ _ (.tmp 6) ?_ w.heap.size 0 ?_ 27 (#[.int .i64 x, .slice pa Ss.length pc]) K1.out (.int .i64 x) ?_ one_int ?_); rotate_left; exact rfl; exact rfl; exact rfl; rotate_left; exact rfl)
      | ((with_reducible refine wpList_load_field ?_ _ (.tmp 8) ?_ (w.heap.size + 1) 0 ?_ 27 (#[.int .i64 x, .slice qa Ss.length qc]) K2.out (.int .i64 x) ?_ one_int ?_); rotate_left; exact rfl; exact rfl; exact rfl; rotate_left; exact rfl)
      | ((with_reducible refine wpList_load_field_g ?_ _ (.tmp 12) ?_ w.heap.size 1 ?_ 27 (#[.int .i64 x, .slice pa Ss.length pc]) K1.out (.slice pa Ss.length pc) ?_ one_sagas' ?_); rotate_left; exact rfl; exact rfl; exact rfl; rotate_left; kernel_rfl)
      | ((with_reducible refine wpList_load_field_g ?_ _ (.tmp 15) ?_ (w.heap.size + 1) 1 ?_ 27 (#[.int .i64 x, .slice qa Ss.length qc]) K2.out (.slice qa Ss.length qc) ?_ one_sagas' ?_); rotate_left; exact rfl; exact rfl; exact rfl; rotate_left; kernel_rfl))
      go_loopw [5] (fun i wr => ∃ j : Nat, i = .int .i64 j ∧ j ≤ Ss.length ∧ Hid (Ss.take j = Ts.take j) ∧ Hid (Below w1.heap.size w1 wr)) (fun i _ => Ss.length - (intOf i).toNat)
      case atStart => exact ⟨0, rfl, by omega, Lib.hid rfl, Lib.hid (Below.refl _ _)⟩
      case round =>
        obtain ⟨j, rfl, hj, HT, HBL⟩ := hrel
        have KR1 := Lib.hid (K1.out.below HBL.out (blk_lt K1.out))
        have KR2 := Lib.hid (K2.out.below HBL.out (blk_lt K2.out))
        have HBW := Lib.hid (then_ HB1.out HBL.out)
        by_cases hlt : j < Ss.length
        · obtain ⟨b0, o0, e0, hc0⟩ := HA.out (by omega)
          obtain ⟨b1, o1, e1, hc1⟩ := HB.out (by have := HL.out; omega)
          subst e0 e1
          have ja : j < ss.length := by have := HP2.out; omega
          have jt : j < Ts.length := by have := HL.out; omega
          have jb : j < ts.length := by have := HQ2.out; omega
          have lda := sagas_ld hc0 j ja
          have ldb := sagas_ld hc1 j jb
          have ra := HRA.out j ja hlt
          have rb := HRB.out j jb jt
          have hta : Ss.take (j + 1) = Ss.take j ++ [Ss[j]] := List.take_succ_eq_append_getElem hlt
          have htb : Ts.take (j + 1) = Ts.take j ++ [Ts[j]] := List.take_succ_eq_append_getElem jt
          have hne : Ss = Ts → Ss[j] = Ts[j] := fun e => by subst e; rfl
          obtain ⟨s, hx⟩ : ∃ q, ss[j] = q := ⟨_, rfl⟩
          obtain ⟨t, hy⟩ : ∃ q, ts[j] = q := ⟨_, rfl⟩
          obtain ⟨D, hD⟩ : ∃ q, Ss[j] = q := ⟨_, rfl⟩
          obtain ⟨E, hE⟩ : ∃ q, Ts[j] = q := ⟨_, rfl⟩
          rw [hx] at lda ra
          rw [hy] at ldb rb
          rw [hD] at ra hta hne
          rw [hE] at rb htb hne
          have LDA : Hid (∀ W, Since wr W → ∀ i, i < (sagaArr s).size → W.cell? ⟨b0, o0 + j * 16 + i, none⟩ = (sagaArr s)[i]?) := Lib.hid (fun W hW => lda W (then_ HBW.out hW.out))
          have LDB : Hid (∀ W, Since wr W → ∀ i, i < (sagaArr t).size → W.cell? ⟨b1, o1 + j * 16 + i, none⟩ = (sagaArr t)[i]?) := Lib.hid (fun W hW => ldb W (then_ HBW.out hW.out))
          have RA := Lib.hid (ra.below HBW.out)
          have RB := Lib.hid (rb.below HBW.out)
          have KS1 : Hid (∀ W, Since wr W → W.cell? ⟨w.heap.size, 1, none⟩ = some (.slice (some ⟨b0, o0, none⟩) Ss.length pc)) := Lib.hid (fun W hW => (BlkAt.cell (KR1.out.below hW.out (blk_lt KR1.out)) 1).trans rfl)
          have KS2 : Hid (∀ W, Since wr W → W.cell? ⟨w.heap.size + 1, 1, none⟩ = some (.slice (some ⟨b1, o1, none⟩) Ss.length qc)) := Lib.hid (fun W hW => (BlkAt.cell (KR2.out.below hW.out (blk_lt KR2.out)) 1).trans rfl)
          have HTA := Lib.hid hta
          have HTB := Lib.hid htb
          have HNE := Lib.hid hne
          clear hx hy hD hE lda ldb ra rb hc0 hc1 ja jb jt hta htb hne
          go_upto_region 6 with (first | ((with_reducible refine wpList_load_field ?_ _ (.tmp 21) ?_ w.heap.size 1 ?_ 27 (#[.int .i64 x, .slice (some ⟨b0, o0, none⟩) Ss.length pc]) KR1.out (.slice (some ⟨b0, o0, none⟩) Ss.length pc) ?_ one_sagas' ?_); rotate_left; exact rfl; exact rfl; exact rfl; rotate_left; exact rfl))
          go_cut [38] (fun s0 wx => s0 = .bool (!sameB D E) ∧ Hid (Since wr wx))
          case first =>
            refine wp_region_held_drew (S := Since wr) (by kernel_rfl) ((Since.refl wr).drew) (fun hHeld => ?_)
            refine wpAnyH_take (i := 0) (oi := { dst := some 27, op := Op.fieldAddr 27 (Operand.tmp 2) 1, type := 0, pos := "ref.go:122", after := #[], guard := none }) (v := ?_) rfl (by kernel_rfl) (by kernel_rfl) (by kernel_rfl) (fun _ _ _ h => h) (Or.inl ⟨by rfl, ?_⟩) (by assumption) ?_
            rotate_left 1
            focus (intro w hSw; (try clear hSw); go_simp; try (with_reducible rfl))
            try go_frame
            refine wpAnyH_take (i := 1) (oi := { dst := some 28, op := Op.load 25 (Operand.tmp 27), type := 25, pos := "ref.go:122", after := #[{ on := 0, ground := Ground.data }], guard := none }) (v := .slice (some ⟨b0, o0, none⟩) Ss.length pc) rfl (by kernel_rfl) (by kernel_rfl) (by kernel_rfl) (fun _ _ _ h => h) (yl_cell rfl _ _ rfl _ rfl (.slice (some ⟨b0, o0, none⟩) Ss.length pc) (fun w' h => KS1.out w' h) one_sagas') (by assumption) ?_
            try go_frame
            refine wpAnyH_take (i := 2) (oi := { dst := some 29, op := Op.move (Operand.tmp 5), type := 3, pos := "ref.go:122", after := #[], guard := none }) (v := ?_) rfl (by kernel_rfl) (by kernel_rfl) (by kernel_rfl) (fun _ _ _ h => h) (Or.inl ⟨by rfl, ?_⟩) (by assumption) ?_
            rotate_left 1
            focus (intro w hSw; (try clear hSw); go_simp; try (with_reducible rfl))
            try go_frame
            refine wpAnyH_take (i := 3) (oi := { dst := some 30, op := Op.indexAddr 25 (Operand.tmp 28) (Operand.tmp 29), type := 0, pos := "ref.go:122", after := #[{ on := 1, ground := Ground.data }, { on := 2, ground := Ground.data }], guard := none }) (v := ?_) rfl (by kernel_rfl) (by kernel_rfl) (by kernel_rfl) (fun _ _ _ h => h) (Or.inl ⟨by rfl, ?_⟩) (by assumption) ?_
            rotate_left 1
            focus (intro w hSw; (try clear hSw); go_simp; try (with_reducible rfl))
            try go_frame
            refine wpAnyH_take (i := 4) (oi := { dst := some 31, op := Op.load 40 (Operand.tmp 30), type := 40, pos := "ref.go:122", after := #[{ on := 3, ground := Ground.data }], guard := none }) (v := .agg (sagaArr s)) rfl (by kernel_rfl) (by kernel_rfl) (by kernel_rfl) (fun _ _ _ h => h) (yl_at rfl _ _ rfl _ _ rfl _ (fun w' h => LDA.out w' h) rowSaga) (by assumption) ?_
            try go_frame
            refine wpAnyH_take (i := 5) (oi := { dst := some 32, op := Op.fieldAddr 27 (Operand.tmp 3) 1, type := 0, pos := "ref.go:122", after := #[], guard := none }) (v := ?_) rfl (by kernel_rfl) (by kernel_rfl) (by kernel_rfl) (fun _ _ _ h => h) (Or.inl ⟨by rfl, ?_⟩) (by assumption) ?_
            rotate_left 1
            focus (intro w hSw; (try clear hSw); go_simp; try (with_reducible rfl))
            try go_frame
            refine wpAnyH_take (i := 6) (oi := { dst := some 33, op := Op.load 25 (Operand.tmp 32), type := 25, pos := "ref.go:122", after := #[{ on := 5, ground := Ground.data }], guard := none }) (v := .slice (some ⟨b1, o1, none⟩) Ss.length qc) rfl (by kernel_rfl) (by kernel_rfl) (by kernel_rfl) (fun _ _ _ h => h) (yl_cell rfl _ _ rfl _ rfl (.slice (some ⟨b1, o1, none⟩) Ss.length qc) (fun w' h => KS2.out w' h) one_sagas') (by assumption) ?_
            try go_frame
            refine wpAnyH_take (i := 7) (oi := { dst := some 34, op := Op.move (Operand.tmp 5), type := 3, pos := "ref.go:122", after := #[], guard := none }) (v := ?_) rfl (by kernel_rfl) (by kernel_rfl) (by kernel_rfl) (fun _ _ _ h => h) (Or.inl ⟨by rfl, ?_⟩) (by assumption) ?_
            rotate_left 1
            focus (intro w hSw; (try clear hSw); go_simp; try (with_reducible rfl))
            try go_frame
            refine wpAnyH_take (i := 8) (oi := { dst := some 35, op := Op.indexAddr 25 (Operand.tmp 33) (Operand.tmp 34), type := 0, pos := "ref.go:122", after := #[{ on := 6, ground := Ground.data }, { on := 7, ground := Ground.data }], guard := none }) (v := ?_) rfl (by kernel_rfl) (by kernel_rfl) (by kernel_rfl) (fun _ _ _ h => h) (Or.inl ⟨by rfl, ?_⟩) (by assumption) ?_
            rotate_left 1
            focus (intro w hSw; (try clear hSw); go_simp; try (with_reducible rfl))
            try go_frame
            refine wpAnyH_take (i := 9) (oi := { dst := some 36, op := Op.load 40 (Operand.tmp 35), type := 40, pos := "ref.go:122", after := #[{ on := 8, ground := Ground.data }], guard := none }) (v := .agg (sagaArr t)) rfl (by kernel_rfl) (by kernel_rfl) (by kernel_rfl) (fun _ _ _ h => h) (yl_at rfl _ _ rfl _ _ rfl _ (fun w' h => LDB.out w' h) rowSaga) (by assumption) ?_
            try go_frame
            refine wpAnyH_ready (rs := [10]) (by kernel_rfl) (by simp) ?_
            refine AllReadyH.cons (o := { dst := some 37, op := Op.call { callee := Callee.value (Operand.func 15), args := #[Operand.tmp 31, Operand.tmp 36], argTypes := #[40, 40] }, type := 4, pos := "ref.go:122", after := #[{ on := 4, ground := Ground.data }, { on := 9, ground := Ground.data }], guard := none }) rfl (fun K hK => ?_) ?_
            · go_simp
              refine (same_any s t D E _ (RA.out.below hHeld.out) (RB.out.below hHeld.out)).mono ?_
              rintro e w9 ⟨rfl, hb⟩
              try go_wp2_with fail
              refine hK.out _ _ (hHeld.call hb) (fun hHeld => ?_)
              clear hK K
              try go_frame
              refine wpAnyH_take (i := 11) (oi := { dst := some 38, op := Op.unOp UnOp.not 4 (Operand.tmp 37), type := 4, pos := "ref.go:122", after := #[{ on := 10, ground := Ground.data }], guard := none }) (v := ?_) rfl (by kernel_rfl) (by kernel_rfl) (by kernel_rfl) (fun _ _ _ h => h) (Or.inl ⟨by rfl, ?_⟩) (by assumption) ?_
              rotate_left 1
              focus (intro w hSw; (try clear hSw); go_simp; try (with_reducible rfl))
              try go_frame
              refine wpAnyH_done (by kernel_rfl) ?_ _
              try go_wp2_with fail
              go_meet
              exact ⟨rfl, Lib.hid hHeld⟩
            exact AllReadyH.nil
          case rest =>
          obtain ⟨wx, rfl⟩ : ∃ q : World, q = wc := ⟨_, rfl⟩
          obtain ⟨rfl, HS⟩ := hcut
          have HB2 := Lib.hid (then_ HBL.out HS.out.out)
          clear HS HBL LDA LDB RA RB KS1 KS2 KR1 KR2 HBW
          by_cases hs : sameB D E = true
          · have HT2 : Hid (Ss.take (j + 1) = Ts.take (j + 1)) := Lib.hid (by rw [HTA.out, HTB.out, HT.out, sameB_iff.1 hs])
            rw [hs]
            clear hs HT HTA HTB HNE
            go_wp2_with fail
            all_goals go_roundw
            case rel => exact ⟨j + 1, by go_num, by omega, HT2, HB2⟩
            case measure => simp [intOf]; omega
          · have ha : ans = false := by rw [← HANS.out]; exact stateB_not fun k => hs (sameB_iff.2 (HNE.out k.2))
            have hf : sameB D E = false := by simpa using hs
            subst ha
            rw [hf]
            clear hs hf HT HTA HTB HNE
            have HB3 := Lib.hid (then_ HB1.out HB2.out)
            go_wp2_with fail
            all_goals go_ret
            all_goals exact ⟨rfl, HB3.out⟩
        · have hk : j = Ss.length := by omega
          subst hk
          have ha : ans = true := by
            rw [← HANS.out, stateB_iff]
            refine ⟨rfl, ?_⟩
            have := HT.out
            rw [List.take_length, List.take_of_length_le (by have := HL.out; omega)] at this
            exact this
          subst ha
          go_wp2_with ((with_reducible refine wpList_load_field ?_ _ (.tmp 21) ?_ w.heap.size 1 ?_ 27 (#[.int .i64 x, .slice pa Ss.length pc]) KR1.out (.slice pa Ss.length pc) ?_ one_sagas' ?_); rotate_left; exact rfl; exact rfl; exact rfl; rotate_left; exact rfl)
          all_goals go_ret
          all_goals exact ⟨rfl, HBW.out⟩
    · have ha : ans = false := by rw [← HANS.out]; exact stateB_not fun k => hl (by rw [k.2])
      subst ha
      go_wp2_with (first
      | ((with_reducible refine wpList_load_field ?_ _ (.tmp 6) ?_ w.heap.size 0 ?_ 27 (#[.int .i64 x, .slice pa Ss.length pc]) K1.out (.int .i64 x) ?_ one_int ?_); rotate_left; exact rfl; exact rfl; exact rfl; rotate_left; exact rfl)
      | ((with_reducible refine wpList_load_field ?_ _ (.tmp 8) ?_ (w.heap.size + 1) 0 ?_ 27 (#[.int .i64 x, .slice qa Ts.length qc]) K2.out (.int .i64 x) ?_ one_int ?_); rotate_left; exact rfl; exact rfl; exact rfl; rotate_left; exact rfl)
      | ((with_reducible refine wpList_load_field_g ?_ _ (.tmp 12) ?_ w.heap.size 1 ?_ 27 (#[.int .i64 x, .slice pa Ss.length pc]) K1.out (.slice pa Ss.length pc) ?_ one_sagas' ?_); rotate_left; exact rfl; exact rfl; exact rfl; rotate_left; kernel_rfl)
      | ((with_reducible refine wpList_load_field_g ?_ _ (.tmp 15) ?_ (w.heap.size + 1) 1 ?_ 27 (#[.int .i64 x, .slice qa Ts.length qc]) K2.out (.slice qa Ts.length qc) ?_ one_sagas' ?_); rotate_left; exact rfl; exact rfl; exact rfl; rotate_left; kernel_rfl))
      all_goals go_ret
      all_goals exact ⟨rfl, HB1.out⟩
  · have ha : ans = false := by rw [← HANS.out]; exact stateB_not fun k => hxy k.1
    subst ha
    go_wp2_with (first
      | ((with_reducible refine wpList_load_field ?_ _ (.tmp 6) ?_ w.heap.size 0 ?_ 27 (#[.int .i64 x, .slice pa Ss.length pc]) K1.out (.int .i64 x) ?_ one_int ?_); rotate_left; exact rfl; exact rfl; exact rfl; rotate_left; exact rfl)
      | ((with_reducible refine wpList_load_field ?_ _ (.tmp 8) ?_ (w.heap.size + 1) 0 ?_ 27 (#[.int .i64 y, .slice qa Ts.length qc]) K2.out (.int .i64 y) ?_ one_int ?_); rotate_left; exact rfl; exact rfl; exact rfl; rotate_left; exact rfl)
      | ((with_reducible refine wpList_load_field_g ?_ _ (.tmp 12) ?_ w.heap.size 1 ?_ 27 (#[.int .i64 x, .slice pa Ss.length pc]) K1.out (.slice pa Ss.length pc) ?_ one_sagas' ?_); rotate_left; exact rfl; exact rfl; exact rfl; rotate_left; kernel_rfl)
      | ((with_reducible refine wpList_load_field_g ?_ _ (.tmp 15) ?_ (w.heap.size + 1) 1 ?_ 27 (#[.int .i64 y, .slice qa Ts.length qc]) K2.out (.slice qa Ts.length qc) ?_ one_sagas' ?_); rotate_left; exact rfl; exact rfl; exact rfl; rotate_left; kernel_rfl))
    all_goals go_ret
    all_goals exact ⟨rfl, HB1.out⟩
end Go.Proofs.YtfbaliimjmimhaaDoor
