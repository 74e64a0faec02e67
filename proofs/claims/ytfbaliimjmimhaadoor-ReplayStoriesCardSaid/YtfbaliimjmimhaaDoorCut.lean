/-
  annalslaw11.cut, of walked: the first 160 records, their data cut; one saga's records, or all others. Conditions: as each theorem says. (Printed by wip/gen_cut.py.)
-/
import Derived.Test.YtfbaliimjmimhaaDoorRecsIn
import Derived.Test.YtfbaliimjmimhaaDoorReplayLaw
import Derived.Test.YtfbaliimjmimhaaDoorRefCopy
import Derived.Maps.RangeWalk
import Derived.Deep.DeepCutAuto
import Derived.Deep.CutBlock
namespace Go.Proofs.YtfbaliimjmimhaaDoor
open Go.RowKit

/-- How such a loop stands: a row of records of one's own, its block laid since. -/
structure RowSt (w wr : World) (B : Nat) (v : Value) (Rs : List RecD) : Prop where
  own : OwnRecs wr B v Rs
  new : ∀ g, v.ownBlock = some g → w.heap.size ≤ g
  below : Below w.heap.size w wr
theorem RowSt.call {w wr w' : World} {B : Nat} {v : Value} {Rs : List RecD} (h : RowSt w wr B v Rs) (hb : Below wr.heap.size wr w') : RowSt w w' B v Rs := ⟨h.own.through hb, h.new, then_ h.below hb⟩
theorem RowSt.put {w wr w' : World} {B H : Nat} {v v' : Value} {Rs Ts : List RecD} (h : RowSt w wr B v Rs) (ho : OwnRecs w' B v' Ts) (hg : wr.grownBy w' v.ownBlock) (hH : wr.heap.size ≤ H) (hat : v'.ownBlock = v.ownBlock ∨ v'.ownBlock = some H) : RowSt w w' B v' Ts := by
  refine ⟨ho, fun g e => ?_, h.below.grown hg h.below.size (fun q hq => h.new q hq)⟩
  rcases hat with k | k
  · exact h.new g (k ▸ e)
  · rw [k] at e
    cases e
    exact Nat.le_trans h.below.size hH
theorem cutL_snoc {n j : Nat} {l : List RecD} (h : j < (l.take 160).length) : ((l.take 160).take (j + 1)).map (cutD n) = ((l.take 160).take j).map (cutD n) ++ [cutD n (l.take 160)[j]] := by
  rw [List.take_succ_eq_append_getElem h, List.map_append]; rfl
theorem RowSt.ne {w wr : World} {B k : Nat} {v : Value} {Rs : List RecD} (h : RowSt w wr B v Rs) (hk : wr.heap.size ≤ k) : v.ownBlock ≠ some k := by
  intro e
  obtain ⟨rs, o1, _⟩ := h.own
  have := (o1.lt _ e).2
  omega
theorem RowSt.put0 {w wr w' : World} {B g : Nat} {v : Value} {Rs : List RecD} {cs : Array Value} {t : TypeId} (h : RowSt w wr B v Rs) (hw : Wrote wr w' g) (hk : BlkAt wr g cs t) (h1 : t ≠ 5) (h2 : t ≠ 37) (h4 : v.ownBlock ≠ some g) (hg : w.heap.size ≤ g) : RowSt w w' B v Rs := by
  refine ⟨?_, h.new, hw.below h.below hg⟩
  obtain ⟨rs, o1, o2, o3⟩ := h.own
  exact ⟨rs, World.ownsRow.kept o1 hw.grown (.inr h4), o2, fun i a b => ⟨(o3 i a b).1, (o3 i a b).2.keep (hw.rows hk h1 h2)⟩⟩
set_option maxRecDepth 10000000 in
set_option maxHeartbeats 4000000 in
theorem cut_any (s : Sl) (Rs : List RecD) (N : Nat) (w : World) (h : RecsAt w s Rs) (hsc : s.n ≤ s.c) (hd : ∀ R ∈ Rs, R.data.length ≤ 140737488351232) (hN : N ≤ 4611686018427387904) :
    Calls Tryd.prog 8 #[s.v, .int .i64 N] w fun e w' => ∃ v : Sl, e = .returned v.v ∧ OwnRecs w' w.heap.size v.v (cutL N Rs) ∧ Below w.heap.size w w' := by
  obtain ⟨rs, q1, q2, q3, q4, q5⟩ := h
  obtain ⟨a, n, c⟩ := s
  simp only at q1 q3 q4 hsc
  have hnr : n = Rs.length := by omega
  subst hnr
  have hmax := q3.1
  have ha0 : Rs.length ≠ 0 → ∃ b o, a = some ⟨b, o, none⟩ := fun h0 => by obtain ⟨b, o, e, _⟩ := q4 (by omega); exact ⟨b, o, e⟩
  have HA := Lib.hid q4
  have HRA := Lib.hid q5
  have HQ2 := Lib.hid q2
  have HD := Lib.hid hd
  clear q4 q5 q3 q1 q2 hd
  dsimp only [Sl.v]
  go_enter Tryd.func8, Tryd.ntmps8
  obtain ⟨M, hM⟩ : ∃ q, min 160 Rs.length = q := ⟨_, rfl⟩
  have hML : (Rs.take 160).length = M := by simp; omega
  go_upto_if 10 with fail
  go_cut [0] (fun s0 wx => s0 = .slice a M c ∧ w = wx)
  case first =>
    by_cases h160 : 160 < Rs.length
    · obtain ⟨b, o, e⟩ := ha0 (by omega)
      subst e
      have hM2 : 160 = M := by omega
      clear HA HRA HQ2 HD ha0
      go_wp2_with fail
      all_goals go_meet
      all_goals exact ⟨by rw [← hM2], rfl⟩
    · have hM2 : Rs.length = M := by omega
      clear HA HRA HQ2 HD ha0
      go_wp2_with fail
      all_goals go_meet
      all_goals exact ⟨by rw [← hM2], rfl⟩
  case rest =>
  obtain ⟨wx, rfl⟩ : ∃ q : World, q = wc := ⟨_, rfl⟩
  obtain ⟨rfl, rfl⟩ := hcut
  have HML := Lib.hid hML
  have hMle : M ≤ 160 := by omega
  have hMR : M ≤ Rs.length := by omega
  clear hM hML ha0
  go_wp2_with fail
  go_loopw [5, 6] (fun v i wr => ∃ j : Nat, i = .int .i64 j ∧ j ≤ M ∧ Hid (RowSt w wr w.heap.size v (((Rs.take 160).take j).map (cutD N)))) (fun _ i _ => M - (intOf i).toNat)
  case atStart => exact ⟨0, rfl, by omega, Lib.hid ⟨OwnRecs.nil _ _, (fun g e => by cases e), Below.refl _ _⟩⟩
  case round =>
    obtain ⟨j, rfl, hj, HR⟩ := hrel
    by_cases hlt : j < M
    · obtain ⟨b0, o0, e0, hc0⟩ := HA.out (by omega)
      subst e0
      have ja : j < rs.length := by have := HQ2.out; omega
      have jr : j < Rs.length := by omega
      have jm : j < (Rs.take 160).length := by have := HML.out; omega
      have lda := recs_ld' hc0 j ja _ HR.out.below
      have ra := HRA.out j ja jr
      have hok := HD.out Rs[j] (List.getElem_mem jr)
      have hsn := cutL_snoc (n := N) jm
      rw [List.getElem_take] at hsn
      have hlen : (((Rs.take 160).take j).map (cutD N)).length = j := by simp; omega
      obtain ⟨TL, hTL⟩ : ∃ q, ((Rs.take 160).take j).map (cutD N) = q := ⟨_, rfl⟩
      rw [hTL] at HR hsn hlen
      clear hTL
      obtain ⟨x, hx⟩ : ∃ q, rs[j] = q := ⟨_, rfl⟩
      obtain ⟨R, hR⟩ : ∃ q, Rs[j] = q := ⟨_, rfl⟩
      rw [hx] at lda ra
      rw [hR] at ra hok hsn
      clear hx
      obtain ⟨xd, rfl⟩ : ∃ q, x = R.words q := ⟨_, ra.eq⟩
      have LDA := Lib.hid lda
      have HOK := Lib.hid hok
      have HSN := Lib.hid hsn
      have HLEN := Lib.hid hlen
      have CC := Lib.hid (ref3Clone_any (R.words xd) R.data wr (ra.data.below HR.out.below) hok)
      clear hR lda ra hok hsn hlen hc0 ja jr jm
      dsimp only [RecV.val, RecD.words, Sl.v] at CC
      go_wp2_with (first | ((with_reducible refine wpList_load_at ?_ _ (.tmp 21) ?_ (b0) (o0 + j * 12) ?_ (recArr (R.words xd)) LDA.out rowRec ?_); rotate_left; exact rfl; exact rfl; rotate_left; exact rfl))
      refine CC.out.mono ?_
      rintro e w3 ⟨⟨da, dn, dc⟩, rfl, hob, hb3⟩
      dsimp only [Sl.v] at hob
      obtain ⟨rm1, rm2, rm3, rm4⟩ := hob.room
      subst rm1
      obtain ⟨y, hy⟩ : ∃ q : RecV, R.words ⟨da, R.data.length, dc⟩ = q := ⟨_, rfl⟩
      obtain ⟨w4, hw4⟩ : ∃ q, w3.alloc (.cells (recArr y) 44) = q := ⟨_, rfl⟩
      have hb4 : Below w3.heap.size w3 w4 := by rw [← hw4]; exact boxd (Below.refl _ _)
      have K4 : Hid (BlkAt w4 w3.heap.size (recArr y) 44) := Lib.hid (by rw [← hw4]; exact BlkAt.new _ _ _)
      have HR4 := Lib.hid (HR.out.call (then_ hb3 hb4))
      have HOB4 := Lib.hid (OwnBytes.lower (base := w.heap.size) (hob.through hb4) HR.out.below.size)
      rw [← hy] at hw4 K4
      have HW4 := Lib.hid hw4
      have HNE := Lib.hid (HR.out.ne hb3.size)
      have hg3 : w.heap.size ≤ w3.heap.size := Nat.le_trans HR.out.below.size hb3.size
      clear hw4 hb4 hob hb3 CC HR LDA hy y
      dsimp only [RecV.val, RecD.words, recArr, Sl.v] at HW4 ⊢
      go_upto_region 8 with fail
      rw [HW4.out]
      clear HW4
      by_cases hdn : N < R.data.length
      · obtain ⟨gd, egd⟩ := rm4 (by omega)
        subst egd
        have hNc : N ≤ dc := by omega
        go_upto_region 10 with (first
          | ((with_reducible refine wpList_load_field ?_ _ (.tmp 24) ?_ (w3.heap.size) 11 ?_ 44 (recArr (R.words ⟨some ⟨gd, 0, none⟩, R.data.length, dc⟩)) K4.out (.slice (some ⟨gd, 0, none⟩) R.data.length dc) ?_ one_bytes ?_); rotate_left; exact rfl; exact rfl; exact rfl; rotate_left; exact rfl)
          | ((with_reducible refine wpList_load_field ?_ _ (.tmp 29) ?_ (w3.heap.size) 11 ?_ 44 (recArr (R.words ⟨some ⟨gd, 0, none⟩, R.data.length, dc⟩)) K4.out (.slice (some ⟨gd, 0, none⟩) R.data.length dc) ?_ one_bytes ?_); rotate_left; exact rfl; exact rfl; exact rfl; rotate_left; exact rfl)
          | (refine wpList_store_one rfl _ (.tmp 33) (.tmp 32) rfl w3.heap.size 11 rfl (.slice (some ⟨gd, 0, none⟩) N dc) rfl _ _ K4.out (by simp [recArr]) rfl size_bytes ?_; intro w5 hw5 K5'; have K5 : Hid (BlkAt w5 w3.heap.size (recArr ((cutD N R).words ⟨some ⟨gd, 0, none⟩, N, dc⟩)) 44) := Lib.hid K5'))
        have HR5 := Lib.hid (RowSt.put0 HR4.out hw5 K4.out (by decide) (by decide) HNE.out hg3)
        have OB5 := Lib.hid (show OwnBytes w5 w.heap.size (Sl.v ⟨some ⟨gd, 0, none⟩, N, dc⟩) (cutD N R).data from (OwnBytes.take (k := N) (a := some ⟨gd, 0, none⟩) (n := R.data.length) (c := dc) HOB4.out (by omega)).keep (hw5.rows K4.out (by decide) (by decide)))
        clear hw5
        obtain ⟨ya, hya⟩ : ∃ q, recArr ((cutD N R).words ⟨some ⟨gd, 0, none⟩, N, dc⟩) = q := ⟨_, rfl⟩
        have HYA := Lib.hid hya
        have KY : Hid (BlkAt w5 w3.heap.size ya 44) := Lib.hid (by rw [← hya]; exact K5.out)
        have HRY : Hid (RowSt w (w5.alloc (.cells ya 44)) w.heap.size _ TL) := Lib.hid (HR5.out.call (boxd (Below.refl _ _)))
        have RIY : Hid (RecsIn (w5.alloc (.cells ya 44)) w.heap.size ⟨some ⟨w5.heap.size, 0, none⟩, 1, 1⟩ [cutD N R]) := Lib.hid (by rw [← hya]; exact RecsIn.one (r := ((cutD N R).words ⟨some ⟨gd, 0, none⟩, N, dc⟩)) (BlkAt.new _ _ _) rfl ((OB5.out).through (boxd (Below.refl _ _))))
        have hsz : w.heap.size ≤ w5.heap.size := HR5.out.below.size
        dsimp only [recArr, RecD.words, cutD, Sl.v] at hya
        subst hya
        clear HYA
        go_wp2_with (first
          | ((with_reducible refine wpList_load_blk ?_ _ (.tmp 7) ?_ (w3.heap.size) ?_ 44 (_) KY.out rowRec ?_); rotate_left; exact rfl; exact rfl; rotate_left; exact rfl)
          | (at_builtin; refine wpList_append_recs _ rfl (.tmp 34) (.tmp 36) rfl w.heap.size _ _ rfl HRY.out.own ⟨some ⟨w5.heap.size, 0, none⟩, 1, 1⟩ [cutD N R] rfl RIY.out ?c1 ?c2 ?_))
        case c1 => rw [HLEN.out, List.length_singleton]; omega
        case c2 => rw [World.size_alloc]; omega
        intro v' w7 hown hgr hat hn7
        have HR7 : Hid (RowSt w w7 w.heap.size v'.v (((Rs.take 160).take (j + 1)).map (cutD N))) := Lib.hid (by rw [HSN.out]; exact HRY.out.put hown hgr (by simp) hat)
        clear hown hgr hat hn7 HRY RIY KY HR4 K4 HSN HLEN
        obtain ⟨va, vn, vc⟩ := v'
        dsimp only [Sl.v] at HR7 ⊢
        go_wp2_with fail
        all_goals go_roundw
        case rel => exact ⟨j + 1, by go_num, by omega, HR7⟩
        case measure => simp [intOf]; omega
      · have hcd : R.data.take N = R.data := List.take_of_length_le (by omega)
        go_upto_region 10 with ((with_reducible refine wpList_load_field ?_ _ (.tmp 24) ?_ (w3.heap.size) 11 ?_ 44 (recArr (R.words ⟨da, R.data.length, dc⟩)) K4.out (.slice da R.data.length dc) ?_ one_bytes ?_); rotate_left; exact rfl; exact rfl; exact rfl; rotate_left; exact rfl)
        have OB4 := Lib.hid (show OwnBytes w4 w.heap.size (Sl.v ⟨da, R.data.length, dc⟩) (cutD N R).data from (by rw [show (cutD N R).data = R.data from hcd]; exact HOB4.out))
        obtain ⟨ya, hya⟩ : ∃ q, recArr ((cutD N R).words ⟨da, R.data.length, dc⟩) = q := ⟨_, rfl⟩
        have HYA := Lib.hid hya
        have KY : Hid (BlkAt w4 w3.heap.size ya 44) := Lib.hid (by rw [← hya]; exact K4.out)
        have HRY : Hid (RowSt w (w4.alloc (.cells ya 44)) w.heap.size _ TL) := Lib.hid (HR4.out.call (boxd (Below.refl _ _)))
        have RIY : Hid (RecsIn (w4.alloc (.cells ya 44)) w.heap.size ⟨some ⟨w4.heap.size, 0, none⟩, 1, 1⟩ [cutD N R]) := Lib.hid (by rw [← hya]; exact RecsIn.one (r := ((cutD N R).words ⟨da, R.data.length, dc⟩)) (BlkAt.new _ _ _) rfl ((OB4.out).through (boxd (Below.refl _ _))))
        have hsz : w.heap.size ≤ w4.heap.size := HR4.out.below.size
        dsimp only [recArr, RecD.words, cutD, Sl.v] at hya
        subst hya
        clear HYA
        go_wp2_with (first
          | ((with_reducible refine wpList_load_blk ?_ _ (.tmp 7) ?_ (w3.heap.size) ?_ 44 (_) KY.out rowRec ?_); rotate_left; exact rfl; exact rfl; rotate_left; exact rfl)
          | (at_builtin; refine wpList_append_recs _ rfl (.tmp 34) (.tmp 36) rfl w.heap.size _ _ rfl HRY.out.own ⟨some ⟨w4.heap.size, 0, none⟩, 1, 1⟩ [cutD N R] rfl RIY.out ?c1 ?c2 ?_))
        case c1 => rw [HLEN.out, List.length_singleton]; omega
        case c2 => rw [World.size_alloc]; omega
        intro v' w7 hown hgr hat hn7
        have HR7 : Hid (RowSt w w7 w.heap.size v'.v (((Rs.take 160).take (j + 1)).map (cutD N))) := Lib.hid (by rw [HSN.out]; exact HRY.out.put hown hgr (by simp) hat)
        clear hown hgr hat hn7 HRY RIY KY HR4 K4 HSN HLEN
        obtain ⟨va, vn, vc⟩ := v'
        dsimp only [Sl.v] at HR7 ⊢
        go_wp2_with fail
        all_goals go_roundw
        case rel => exact ⟨j + 1, by go_num, by omega, HR7⟩
        case measure => simp [intOf]; omega
    · have hje : j = M := by omega
      subst hje
      have hfin : ((Rs.take 160).take j).map (cutD N) = cutL N Rs := by rw [List.take_of_length_le (by rw [HML.out]; exact Nat.le_refl _)]; rfl
      have HF := Lib.hid HR.out.own
      rw [hfin] at HF
      have HB := Lib.hid HR.out.below
      obtain ⟨sl, esl, _⟩ := HF.out.sl
      subst esl
      clear HR hfin
      go_wp2_with fail
      all_goals go_ret
      all_goals exact ⟨sl, rfl, HF.out, HB.out⟩

end Go.Proofs.YtfbaliimjmimhaaDoor
