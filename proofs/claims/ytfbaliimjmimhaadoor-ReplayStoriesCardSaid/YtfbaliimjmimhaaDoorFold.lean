/-
  replay.Fold walked: it folds as foldB says. Conditions: as each theorem says.
-/
import Derived.Test.YtfbaliimjmimhaaDoorState
namespace Go.Proofs.YtfbaliimjmimhaaDoor
open Go.RowKit

def noBag : Bag := fun _ => none
theorem foldB_one {f : Bag} {R : RecD} : foldB f [R] = if addN f R ≠ 0 then (f, 0) else (addB f R, 1) := by
  unfold foldB
  split
  · rfl
  · rfl
theorem foldB_good {l : List RecD} : ∀ {f : Bag}, GoodBag f → (∀ R ∈ l, RecFits R) → GoodBag (foldB f l).1 := by
  induction l with
  | nil => intro f h _; exact h
  | cons R l ih =>
    intro f h k
    by_cases e : addN f R = 0
    · rw [foldB_ok e]
      exact ih (h.add (k R (by simp))) (fun X hX => k X (List.mem_cons_of_mem _ hX))
    · rw [foldB_bad e]; exact h
theorem fold_step {l : List RecD} {f : Bag} {j : Nat} (hj : j < l.length) (h : (foldB f (l.take j)).2 = j) (e : addN (foldB f (l.take j)).1 l[j] = 0) :
    (foldB f (l.take (j + 1))).2 = j + 1 ∧ (foldB f (l.take (j + 1))).1 = addB (foldB f (l.take j)).1 l[j] := by
  have hlen : (l.take j).length = j := by simp; omega
  rw [List.take_succ_eq_append_getElem hj, foldB_append _ _ f (by rw [h, hlen]), foldB_one, if_neg (by simp [e]), hlen]
  exact ⟨rfl, rfl⟩
theorem fold_stop {l : List RecD} {f : Bag} {j : Nat} (hj : j < l.length) (h : (foldB f (l.take j)).2 = j) (e : ¬ addN (foldB f (l.take j)).1 l[j] = 0) :
    foldB f l = ((foldB f (l.take j)).1, j) := by
  have hlen : (l.take j).length = j := by simp; omega
  have hs : l = l.take j ++ l[j] :: l.drop (j + 1) := by rw [List.getElem_cons_drop, List.take_append_drop]
  have := foldB_append (l.take j) (l[j] :: l.drop (j + 1)) f (by rw [h, hlen])
  rw [← hs, foldB_bad e, hlen] at this
  rw [this]; rfl
theorem recs_ld' {w : World} {b o : Nat} {rs : List RecV} (h : ∀ i (h1 : i < rs.length), ∀ j, j < 12 → w.cell? ⟨b, o + i * 12 + j, none⟩ = (rs[i]).cells[j]?) : ∀ i (h : i < rs.length) W, Below w.heap.size w W → ∀ j, j < (recArr rs[i]).size → W.cell? ⟨b, o + i * 12 + j, none⟩ = (recArr rs[i])[j]? := by
  intro i hi W hW j hj
  have h1 := h i hi j hj
  have h2 : (rs[i]).cells[j]? = (recArr rs[i])[j]? := by simp [recArr]
  rw [h2, Array.getElem?_eq_getElem hj] at h1
  rw [Array.getElem?_eq_getElem hj]
  exact (hW.cell (World.block_lt_of_cell? w _ h1)).trans h1

/-- What a fold asks of the records. -/
structure FoldOk (R : RecD) : Prop where
  fits : RecFits R
  wf : (Lit.int .i64 R.saga).wf = true
/-- How the loop stands. -/
structure FAt (w wr : World) (b m j : Nat) (Rs : List RecD) : Prop where
  legal : (foldB noBag (Rs.take j)).2 = j
  folder : FolderAt wr (w.heap.size + 1) b m j (foldB noBag (Rs.take j)).1
  zb : BlkAt wr w.heap.size #[.int .i64 0, .slice none 0 0] 27
  below : Below w.heap.size w wr

set_option maxRecDepth 10000000 in
set_option maxHeartbeats 4000000 in
theorem fold_any (s : Sl) (Rs : List RecD) (w : World) (ht : Tables w) (hl : LandsAt w) (h : RecsAt w s Rs) (hf : ∀ R ∈ Rs, FoldOk R) (hn : Rs.length ≤ 1048576) :
    Calls Tryd.prog 11 #[s.v] w fun e w' => ∃ (v : Sl) (Ss : List SagaD), e = .returned (.tuple #[.agg #[.int .i64 ((foldB noBag Rs).2 : Nat), .slice v.a v.n v.c], .int .i64 (if (foldB noBag Rs).2 = Rs.length then -1 else ((foldB noBag Rs).2 : Nat))]) ∧ OwnSagas w' w.heap.size (.slice v.a v.n v.c) Ss ∧ StateOf (foldB noBag Rs).1 Ss ∧ Below w.heap.size w w' := by
  obtain ⟨rs, q1, q2, q3, q4, q5⟩ := h
  obtain ⟨a, n, c⟩ := s
  simp only at q1 q3 q4
  have hnr : n = Rs.length := by omega
  subst hnr
  have HA := Lib.hid q4
  have HRA := Lib.hid q5
  have HQ2 := Lib.hid q2
  have HT := Lib.hid ht
  have HL := Lib.hid hl
  have HFK := Lib.hid hf
  have hb1 := boxd (o := .cells #[.int .i64 0, .slice none 0 0] 27) (Below.refl w.heap.size w)
  have KZ := BlkAt.new w #[.int .i64 0, .slice none 0 0] 27
  have CN := Lib.hid (newFolder_any (w.alloc (.cells #[.int .i64 0, .slice none 0 0] 27)))
  have HB1 := Lib.hid hb1
  have HZ1 := Lib.hid KZ
  obtain ⟨F2, hF2⟩ : ∃ x, (foldB noBag Rs).2 = x := ⟨_, rfl⟩
  obtain ⟨F1, hF1⟩ : ∃ x, (foldB noBag Rs).1 = x := ⟨_, rfl⟩
  rw [hF2, hF1]
  obtain ⟨P, hP⟩ : ∃ x : Int, (if F2 = Rs.length then -1 else (F2 : Int)) = x := ⟨_, rfl⟩
  rw [hP]
  have HF2 := Lib.hid hF2
  have HF1 := Lib.hid hF1
  have HP := Lib.hid hP
  clear q4 q5 q3 q1 q2 ht hl hf hb1 KZ hF2 hF1 hP
  dsimp only [Sl.v]
  go_enter Tryd.func11, Tryd.ntmps11
  go_wp2_with fail
  refine CN.out.mono ?_
  rintro e w2 ⟨b, m, rfl, hfo, hb⟩
  rw [World.size_alloc] at hfo
  have HB2 := Lib.hid (then_ HB1.out hb)
  have HAT : Hid (FAt w w2 b m 0 Rs) := Lib.hid ⟨rfl, hfo, HZ1.out.below hb (blk_lt HZ1.out), HB2.out⟩
  clear hfo hb CN HB1 HB2 HZ1
  go_wp2_with fail
  go_loopw [10] (fun i wr => ∃ j : Nat, i = .int .i64 j ∧ j ≤ Rs.length ∧ Hid (FAt w wr b m j Rs)) (fun i _ => Rs.length - (intOf i).toNat)
  case atStart => exact ⟨0, rfl, by omega, HAT⟩
  case round =>
    obtain ⟨j, rfl, hj, HA2⟩ := hrel
    clear HAT
    have hgb : GoodBag (foldB noBag (Rs.take j)).1 := foldB_good GoodBag.empty (fun R hR => (HFK.out R (List.mem_of_mem_take hR)).fits)
    have HGB := Lib.hid hgb
    clear hgb
    by_cases hlt : j < Rs.length
    · obtain ⟨b0, o0, e0, hc0⟩ := HA.out (by omega)
      subst e0
      have ja : j < rs.length := by have := HQ2.out; omega
      have lda := recs_ld' hc0 j ja wr HA2.out.below
      have ra := HRA.out j ja hlt
      have hok := HFK.out Rs[j] (List.getElem_mem hlt)
      obtain ⟨x, hx⟩ : ∃ q, rs[j] = q := ⟨_, rfl⟩
      obtain ⟨R, hR⟩ : ∃ q, Rs[j] = q := ⟨_, rfl⟩
      rw [hx] at lda ra
      rw [hR] at ra hok
      have HR := Lib.hid hR
      have LDA := Lib.hid lda
      have RA := Lib.hid ra
      have HOK := Lib.hid hok
      clear hx hR lda ra hok hc0 ja
      have KN0 := BlkAt.new wr #[.int .i64 0, .int .i64 0, .int .i64 0, .int .i64 0, .int .i64 0, .int .i64 0, .int .i64 0, .int .i64 0, .int .i64 0, .int .i64 0, .string ⟨#[]⟩, .slice none 0 0] 44
      have hbn := boxd (o := .cells #[.int .i64 0, .int .i64 0, .int .i64 0, .int .i64 0, .int .i64 0, .int .i64 0, .int .i64 0, .int .i64 0, .int .i64 0, .int .i64 0, .string ⟨#[]⟩, .slice none 0 0] 44) (Below.refl wr.heap.size wr)
      have KN := Lib.hid KN0
      go_upto_region 5 with (first
        | ((with_reducible refine wpList_load_at ?_ _ (.tmp 13) ?_ b0 (o0 + j * 12) ?_ (recArr x) LDA.out rowRec ?_); rotate_left; exact rfl; exact rfl; rotate_left; exact rfl)
        | ((with_reducible refine wpList_store_blk ?_ _ (.tmp 6) (.tmp 14) ?_ wr.heap.size ?_ (recArr x) ?_ _ _ KN.out ?_ ?_ rowRec ?_); rotate_left; exact rfl; exact rfl; exact rfl; exact rfl; (simp [recArr, Value.oneCell']); rotate_left; exact rfl; intro w4 hw4 KR4'))
      have KR4 := Lib.hid KR4'
      clear KR4'
      go_wp2_with ((with_reducible refine wpList_load_blk ?_ _ (.tmp 6) ?_ wr.heap.size ?_ 44 (recArr x) KR4.out rowRec ?_); rotate_left; exact rfl; exact rfl; rotate_left; exact rfl)
      have hb4 := hw4.below hbn (Nat.le_refl _)
      have HB4 := Lib.hid (then_ HA2.out.below hb4)
      have HFO := Lib.hid (HA2.out.folder.below hb4)
      have HZ4 := Lib.hid (HA2.out.zb.below hb4 (blk_lt HA2.out.zb))
      have cA := folderAdd_any (w.heap.size + 1) b m j _ x R w4 (HT.out.below HB4.out) (HL.out.below HB4.out) HFO.out HGB.out (RA.out.below HB4.out) HOK.out.fits HOK.out.wf (by omega)
      obtain ⟨E, hE⟩ : ∃ q, addN (foldB noBag (Rs.take j)).1 R = q := ⟨_, rfl⟩
      rw [hE] at cA
      have HE := Lib.hid hE
      have HS1 := Lib.hid (HA2.out.legal)
      clear hw4 KR4 KN KN0 hbn hb4 hE HRA HA LDA RA HOK HA2
      refine cA.mono ?_
      rintro e w5 ⟨rfl, hfo, hbut⟩
      have hle : w.heap.size + 1 ≤ b := hfo.le
      have hlm : w.heap.size + 1 ≤ m := hfo.bag.1
      have h45 := HB4.out.size
      have HB5 := Lib.hid (hbut.below HB4.out h45 (by omega) (by omega))
      have HZ5 := Lib.hid (hbut.blk HZ4.out (by omega) (by omega))
      clear cA hbut HZ4 HB4 HFO
      by_cases h0 : E = 0
      · subst h0
        have hst := fold_step (f := noBag) hlt HS1.out (by rw [HR.out]; exact HE.out)
        rw [HR.out] at hst
        rw [if_pos rfl, ← hst.2] at hfo
        have HAT : Hid (FAt w w5 b m (j + 1) Rs) := Lib.hid ⟨hst.1, hfo, HZ5.out, HB5.out⟩
        clear hst hfo
        go_wp2_with fail
        all_goals go_roundw
        case rel => exact ⟨j + 1, by go_num, by omega, HAT⟩
        case measure => simp [intOf]; omega
      · have hst := fold_stop (f := noBag) hlt HS1.out (by rw [HR.out]; rw [HE.out]; exact h0)
        have e2 : j = F2 := by rw [← HF2.out, hst]
        have e1 : (foldB noBag (Rs.take j)).1 = F1 := by rw [← HF1.out, hst]
        have e3 : (j : Int) = P := by rw [← HP.out, if_neg (by omega), e2]
        have hbd : addB (foldB noBag (Rs.take j)).1 R = (foldB noBag (Rs.take j)).1 := by unfold addB; rw [HE.out, if_pos h0]
        rw [if_neg h0, hbd] at hfo
        have H2 : (E != 0) = true := by rw [bne_iff_ne]; exact h0
        have CS := Lib.hid (state_any (w.heap.size + 1) b m j _ w5 hfo HGB.out (by omega))
        rw [e1] at CS
        have E3 := Lib.hid e3
        have E2 := Lib.hid e2
        clear hst e1 e2 e3 hbd hfo h0 HE
        go_wp2_with fail
        refine CS.out.mono ?_
        rintro e w6 ⟨⟨va, vn, vc⟩, Ss, rfl, ho, hso, hb6⟩
        have K6 := HZ5.out.below hb6 (blk_lt HZ5.out)
        have HO6 := Lib.hid (ho.lower (c := w.heap.size) HB5.out.size)
        have HB6 := Lib.hid (then_ HB5.out hb6)
        have HSO := Lib.hid hso
        clear ho hso hb6 CS
        go_wp2_with ((with_reducible refine wpList_store_blk ?_ _ (.tmp 2) (.tmp 20) ?_ w.heap.size ?_ #[.int .i64 j, .slice va vn vc] ?_ _ _ K6 ?_ ?_ rowState ?_); rotate_left; exact rfl; exact rfl; exact rfl; exact rfl; (simp [Value.oneCell']); rotate_left; exact rfl; intro w9 hw9 K9)
        refine bodyPost_ret (results_row2 rfl _ _ _ _ _ rfl K9 rowState) rfl ⟨⟨va, vn, vc⟩, Ss, ?_, HO6.out.wrote hw9 K6 (by decide) (by decide) (by decide), HSO.out, hw9.below HB6.out (Nat.le_refl _)⟩
        rw [← E2.out, ← E3.out]; rfl
    · have hje : j = Rs.length := by omega
      subst hje
      have e0 := HA2.out.legal
      have hfo := HA2.out.folder
      rw [List.take_length] at e0 hfo HGB
      have e2 : Rs.length = F2 := by rw [← HF2.out]; exact e0.symm
      have e3 : (-1 : Int) = P := by rw [← HP.out, if_pos e2.symm]
      rw [HF1.out] at hfo HGB
      have CS := Lib.hid (state_any (w.heap.size + 1) b m Rs.length _ wr hfo HGB.out (by omega))
      have E3 := Lib.hid e3
      have E2 := Lib.hid e2
      have HZ5 := Lib.hid HA2.out.zb
      have HB5 := Lib.hid HA2.out.below
      clear e0 hfo e2 e3 HA2
      go_wp2_with fail
      refine CS.out.mono ?_
      rintro e w6 ⟨⟨va, vn, vc⟩, Ss, rfl, ho, hso, hb6⟩
      have K6 := HZ5.out.below hb6 (blk_lt HZ5.out)
      have HO6 := Lib.hid (ho.lower (c := w.heap.size) HB5.out.size)
      have HB6 := Lib.hid (then_ HB5.out hb6)
      have HSO := Lib.hid hso
      clear ho hso hb6 CS
      go_wp2_with ((with_reducible refine wpList_store_blk ?_ _ (.tmp 2) (.tmp 24) ?_ w.heap.size ?_ #[.int .i64 Rs.length, .slice va vn vc] ?_ _ _ K6 ?_ ?_ rowState ?_); rotate_left; exact rfl; exact rfl; exact rfl; exact rfl; (simp [Value.oneCell']); rotate_left; exact rfl; intro w9 hw9 K9)
      refine bodyPost_ret (results_row2 rfl _ _ _ _ _ rfl K9 rowState) rfl ⟨⟨va, vn, vc⟩, Ss, ?_, HO6.out.wrote hw9 K6 (by decide) (by decide) (by decide), HSO.out, hw9.below HB6.out (Nat.le_refl _)⟩
      rw [← E2.out, ← E3.out]; rfl
end Go.Proofs.YtfbaliimjmimhaaDoor
