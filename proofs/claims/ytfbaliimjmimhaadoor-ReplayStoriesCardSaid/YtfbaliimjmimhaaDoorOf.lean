/-
  annalslaw11.of walked: one saga's records, or all others. Conditions: as the theorem says. (Printed by wip/gen_of.py.)
-/
import Derived.Test.YtfbaliimjmimhaaDoorCut
namespace Go.Proofs.YtfbaliimjmimhaaDoor
open Go.RowKit

/-- One saga's records, or all others. -/
def ofP (id : Int) (o : Bool) (l : List RecD) : List RecD := l.filter (fun R => decide (R.saga = id) != o)
theorem ofP_false (id : Int) (l : List RecD) : ofP id false l = ofB id l := by
  unfold ofP ofB; congr 1; funext R; simp
theorem ofP_true (id : Int) (l : List RecD) : ofP id true l = l.filter (fun R => decide (R.saga ≠ id)) := by
  unfold ofP; congr 1; funext R; by_cases h : R.saga = id <;> simp [h]
theorem ofP_snoc (id : Int) (o : Bool) (l : List RecD) (R : RecD) : ofP id o (l ++ [R]) = if (decide (R.saga = id) != o) = true then ofP id o l ++ [R] else ofP id o l := by
  unfold ofP
  rw [List.filter_append]
  split
  · next h => simp [h]
  · next h => simp [h]
set_option maxRecDepth 10000000 in
set_option maxHeartbeats 4000000 in
theorem of_any (s : Sl) (Rs : List RecD) (id : Int) (o : Bool) (B : Nat) (w : World) (h : RecsIn w B s Rs) (hn : Rs.length ≤ 1000000) (hB : B ≤ w.heap.size) :
    Calls Tryd.prog 14 #[s.v, .int .i64 id, .bool o] w fun e w' => ∃ v : Sl, e = .returned v.v ∧ OwnRecs w' B v.v (ofP id o Rs) ∧ (∀ g, v.v.ownBlock = some g → w.heap.size ≤ g) ∧ Below w.heap.size w w' := by
  obtain ⟨rs, q1, q2, q3, q4, q5⟩ := h
  obtain ⟨a, n, c⟩ := s
  simp only at q1 q3 q4
  have hnr : n = Rs.length := by omega
  subst hnr
  have HA := Lib.hid q4
  have HRA := Lib.hid q5
  have HQ2 := Lib.hid q2
  clear q4 q5 q3 q1 q2
  dsimp only [Sl.v]
  go_enter Tryd.func14, Tryd.ntmps14
  go_wp2_with fail
  go_loopw [7, 8] (fun v i wr => ∃ j : Nat, i = .int .i64 j ∧ j ≤ Rs.length ∧ Hid (RowSt w wr B v (ofP id o (Rs.take j)))) (fun _ i _ => Rs.length - (intOf i).toNat)
  case atStart => exact ⟨0, rfl, by omega, Lib.hid ⟨OwnRecs.nil _ _, (fun g e => by cases e), Below.refl _ _⟩⟩
  case round =>
    obtain ⟨j, rfl, hj, HR⟩ := hrel
    by_cases hlt : j < Rs.length
    · obtain ⟨b0, o0, e0, hc0⟩ := HA.out (by omega)
      subst e0
      have ja : j < rs.length := by have := HQ2.out; omega
      have lda := recs_ld' hc0 j ja _ HR.out.below
      obtain ⟨ra, rb⟩ := HRA.out j ja hlt
      have hsn := ofP_snoc id o (Rs.take j) Rs[j]
      rw [← List.take_succ_eq_append_getElem hlt] at hsn
      have hlen : (ofP id o (Rs.take j)).length ≤ j := by unfold ofP; refine Nat.le_trans (List.length_filter_le _ _) ?_; simp; omega
      obtain ⟨TL, hTL⟩ : ∃ q, ofP id o (Rs.take j) = q := ⟨_, rfl⟩
      rw [hTL] at HR hsn hlen
      clear hTL
      obtain ⟨x, hx⟩ : ∃ q, rs[j] = q := ⟨_, rfl⟩
      obtain ⟨R, hR⟩ : ∃ q, Rs[j] = q := ⟨_, rfl⟩
      rw [hx] at lda ra rb
      rw [hR] at ra rb hsn
      clear hx hR
      obtain ⟨xd, hxd⟩ : ∃ q, x.data = q := ⟨_, rfl⟩
      rw [hxd] at ra rb
      clear hxd
      subst ra
      have rb2 := rb.through HR.out.below
      have HSN := Lib.hid hsn
      have HLEN := Lib.hid hlen
      obtain ⟨sg, hsg⟩ : ∃ q, R.saga = q := ⟨_, rfl⟩
      have LC2 : Hid (wr.cell? ⟨b0, o0 + j * 12 + 2, none⟩ = some (.int .i64 sg)) := Lib.hid (by rw [← hsg]; exact lda 2 (by simp [recArr]))
      have HSG := Lib.hid hsg
      obtain ⟨ya, hya⟩ : ∃ q, recArr (R.words xd) = q := ⟨_, rfl⟩
      have LDA : Hid (∀ q, q < ya.size → wr.cell? ⟨b0, o0 + j * 12 + q, none⟩ = ya[q]?) := Lib.hid (by rw [← hya]; exact lda)
      have HRY : Hid (RowSt w (wr.alloc (.cells ya 44)) B _ TL) := Lib.hid (HR.out.call (boxd (Below.refl _ _)))
      have RIY : Hid (RecsIn (wr.alloc (.cells ya 44)) B ⟨some ⟨wr.heap.size, 0, none⟩, 1, 1⟩ [R]) := Lib.hid (by rw [← hya]; exact RecsIn.one (r := R.words xd) (BlkAt.new _ _ _) rfl (rb2.through (boxd (Below.refl _ _))))
      have hsz : w.heap.size ≤ wr.heap.size := HR.out.below.size
      dsimp only [recArr, RecD.words, Sl.v] at hya
      subst hya
      clear lda rb rb2 hsn hlen hc0 ja hsg
      by_cases hq : sg = id
      · subst hq
        cases o with
        | false =>
          go_wp2_with (first
            | ((with_reducible refine wpList_load_cell ?_ _ (.tmp 18) ?_ (⟨b0, o0 + j * 12 + 2, none⟩) ?_ (.int .i64 sg) LC2.out one_int ?_); rotate_left; exact rfl; exact rfl; rotate_left; exact rfl)
            | ((with_reducible refine wpList_load_at ?_ _ (.tmp 27) ?_ (b0) (o0 + j * 12) ?_ (_) LDA.out rowRec ?_); rotate_left; exact rfl; exact rfl; rotate_left; exact rfl)
            | (at_builtin; refine wpList_append_recs _ rfl (.tmp 24) (.tmp 29) rfl B _ _ rfl HRY.out.own ⟨some ⟨wr.heap.size, 0, none⟩, 1, 1⟩ [R] rfl RIY.out ?c1 ?c2 ?_))
          case c1 => rw [List.length_singleton]; have := HLEN.out; omega
          case c2 => rw [World.size_alloc]; omega
          intro v' w7 hown hgr hat hn7
          have HR7 : Hid (RowSt w w7 B v'.v (ofP sg false (Rs.take (j + 1)))) := Lib.hid (by rw [HSN.out, HSG.out, if_pos (by simp)]; exact HRY.out.put hown hgr (by simp) hat)
          clear hown hgr hat hn7 HRY RIY HSN HLEN HSG LC2 LDA
          obtain ⟨va, vn, vc⟩ := v'
          dsimp only [Sl.v] at HR7 ⊢
          go_wp2_with fail
          all_goals go_roundw
          case rel => exact ⟨j + 1, by go_num, by omega, HR7⟩
          case measure => simp [intOf]; omega
        | true =>
          have HR7 : Hid (RowSt w wr B _ (ofP sg true (Rs.take (j + 1)))) := Lib.hid (by rw [HSN.out, HSG.out, if_neg (by simp)]; exact HR.out)
          clear HRY RIY HSN HLEN HSG LDA HR
          go_wp2_with (first | ((with_reducible refine wpList_load_cell ?_ _ (.tmp 18) ?_ (⟨b0, o0 + j * 12 + 2, none⟩) ?_ (.int .i64 sg) LC2.out one_int ?_); rotate_left; exact rfl; exact rfl; rotate_left; exact rfl))
          all_goals go_roundw
          case rel => exact ⟨j + 1, by go_num, by omega, HR7⟩
          case measure => simp [intOf]; omega
      · have hqb : (sg == id) = false := by simp [hq]
        cases o with
        | false =>
          have HR7 : Hid (RowSt w wr B _ (ofP id false (Rs.take (j + 1)))) := Lib.hid (by rw [HSN.out, HSG.out, if_neg (by simp [hq])]; exact HR.out)
          clear HRY RIY HSN HLEN HSG LDA HR
          go_wp2_with (first | ((with_reducible refine wpList_load_cell ?_ _ (.tmp 18) ?_ (⟨b0, o0 + j * 12 + 2, none⟩) ?_ (.int .i64 sg) LC2.out one_int ?_); rotate_left; exact rfl; exact rfl; rotate_left; exact rfl))
          all_goals go_roundw
          case rel => exact ⟨j + 1, by go_num, by omega, HR7⟩
          case measure => simp [intOf]; omega
        | true =>
          go_wp2_with (first
            | ((with_reducible refine wpList_load_cell ?_ _ (.tmp 18) ?_ (⟨b0, o0 + j * 12 + 2, none⟩) ?_ (.int .i64 sg) LC2.out one_int ?_); rotate_left; exact rfl; exact rfl; rotate_left; exact rfl)
            | ((with_reducible refine wpList_load_at ?_ _ (.tmp 27) ?_ (b0) (o0 + j * 12) ?_ (_) LDA.out rowRec ?_); rotate_left; exact rfl; exact rfl; rotate_left; exact rfl)
            | (at_builtin; refine wpList_append_recs _ rfl (.tmp 24) (.tmp 29) rfl B _ _ rfl HRY.out.own ⟨some ⟨wr.heap.size, 0, none⟩, 1, 1⟩ [R] rfl RIY.out ?c1 ?c2 ?_))
          case c1 => rw [List.length_singleton]; have := HLEN.out; omega
          case c2 => rw [World.size_alloc]; omega
          intro v' w7 hown hgr hat hn7
          have HR7 : Hid (RowSt w w7 B v'.v (ofP id true (Rs.take (j + 1)))) := Lib.hid (by rw [HSN.out, HSG.out, if_pos (by simp [hq])]; exact HRY.out.put hown hgr (by simp) hat)
          clear hown hgr hat hn7 HRY RIY HSN HLEN HSG LC2 LDA
          obtain ⟨va, vn, vc⟩ := v'
          dsimp only [Sl.v] at HR7 ⊢
          go_wp2_with fail
          all_goals go_roundw
          case rel => exact ⟨j + 1, by go_num, by omega, HR7⟩
          case measure => simp [intOf]; omega
    · have hje : j = Rs.length := by omega
      subst hje
      have HF := Lib.hid HR.out
      rw [List.take_length] at HF
      obtain ⟨sl, esl, _⟩ := HF.out.own.sl
      subst esl
      clear HR
      go_wp2_with fail
      all_goals go_ret
      all_goals exact ⟨sl, rfl, HF.out.own, HF.out.new, HF.out.below⟩
end Go.Proofs.YtfbaliimjmimhaaDoor
