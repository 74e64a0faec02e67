/-
  annalsref10.Finished, annalsref10.Pending, saga.Pending walked.
  What the reference's Allowed tells: the kinds that are not refused are the program's.
  annalsref10.Pending, saga.Pending walked.
  annalsref10.Allowed walked.
  Conditions: as each theorem says. (Joined by wip/tools/pack.py.)
-/
import Derived.Test.YteaiadpigpehaaaGreatDoorRef10Apply
import Derived.Deep.DeepCutAuto
import Derived.Deep.CutBlock
import Derived.Test.YteaiadpigpehaaaGreatDoorPkRefLaw
import Derived.Test.YteaiadpigpehaaaGreatDoorRef10ToldAll
import Derived.BigRegion
namespace Go.Proofs.YteaiadpigpehaaaGreatDoor
open Go.RowKit

/-- What these ask of a saga's box. -/
structure AskCtx (s : SagaV) (D : SagaD) : Prop where
  h2 : (sagaArr s)[2]? = some (.int .i64 D.count)
  h3 : (sagaArr s)[3]? = some (.int .i64 D.pivot)
  h7 : (sagaArr s)[7]? = some (.int .i64 D.phase)
  h8 : (sagaArr s)[8]? = some (.int .i64 D.next)
theorem ask_ctx {w : World} {s : SagaV} {D : SagaD} (hs : SagaRd w s D) : AskCtx s D := by
  obtain ⟨si, so, su, sf, rfl⟩ : ∃ i o u f, s = D.words i o u f := ⟨_, _, _, _, hs.eq⟩
  exact ⟨rfl, rfl, rfl, rfl⟩

set_option maxRecDepth 10000000 in
set_option maxHeartbeats 4000000 in
theorem ref10Finished_any (s : SagaV) (D : SagaD) (w : World) (ht : RefTabs w) (hs : SagaRd w s D) (hf : RefSaga D) :
    Calls Tryz.prog 47 #[s.val] w fun e w' => e = .returned (.bool (finishedD D)) ∧ Below w.heap.size w w' := by
  have k0 := BlkAt.new w (sagaArr s) 29
  have hb1 := boxd (o := .cells (sagaArr s) 29) (Below.refl w.heap.size w)
  have cC := Lib.hid (ref10Check_any s D _ (ht.below hb1) (hs.below hb1) hf.small hf.name hf.begun hf.at_ hf.told)
  have HX := Lib.hid (ask_ctx hs)
  have HB := Lib.hid hb1
  have hfin : finishedD D = decide (checkD D = 0 ∧ (D.phase = 3 ∨ D.phase = 4)) := rfl
  have hbd : checkD D = 0 → 1 ≤ D.phase ∧ D.phase ≤ 4 := fun h => ⟨((checkD_iff D).1 h).plain.phase1, ((checkD_iff D).1 h).plain.phase4⟩
  obtain ⟨F, hF⟩ : ∃ q, finishedD D = q := ⟨_, rfl⟩
  rw [hF] at hfin ⊢
  obtain ⟨C, hC⟩ : ∃ q, checkD D = q := ⟨_, rfl⟩
  rw [hC] at cC hfin hbd
  have HFIN := Lib.hid hfin
  clear hF hC hfin hs ht hf hb1
  go_enter Tryz.func47, Tryz.ntmps47
  go_wp2_with (refine wpList_load_blk rfl _ _ rfl _ rfl _ _ k0 rowSaga ?_)
  refine cC.out.mono ?_
  rintro e w2 ⟨rfl, hb⟩
  have KB := Lib.hid (k0.below hb (by simp))
  have HB2 := Lib.hid (then_ HB.out hb)
  clear hb k0 HB cC
  by_cases h0 : C = 0
  · subst h0
    obtain ⟨p1, p4⟩ := hbd rfl
    by_cases h3 : 3 ≤ D.phase
    · have e : F = true := by rw [HFIN.out]; exact decide_eq_true ⟨rfl, by omega⟩
      subst e
      have d : decide (3 ≤ D.phase) = true := by simp only [decide_eq_true_eq]; omega
      go_wp2_with (first | ((with_reducible refine wpList_load_field_g ?_ _ (.tmp 9) ?_ w.heap.size 7 ?_ 29 (sagaArr s) KB.out (.int .i64 D.phase) ?_ one_int ?_); rotate_left; exact rfl; exact rfl; exact HX.out.h7; rotate_left; kernel_rfl))
      all_goals go_ret
      all_goals exact ⟨rfl, HB2.out⟩
    · have e : F = false := by rw [HFIN.out]; exact decide_eq_false (fun h => by have := h.2; omega)
      subst e
      have d : decide (3 ≤ D.phase) = false := by simp only [decide_eq_false_iff_not]; omega
      go_wp2_with (first | ((with_reducible refine wpList_load_field_g ?_ _ (.tmp 9) ?_ w.heap.size 7 ?_ 29 (sagaArr s) KB.out (.int .i64 D.phase) ?_ one_int ?_); rotate_left; exact rfl; exact rfl; exact HX.out.h7; rotate_left; kernel_rfl))
      all_goals go_ret
      all_goals exact ⟨rfl, HB2.out⟩
  · have e : F = false := by rw [HFIN.out]; exact decide_eq_false (fun h => h0 h.1)
    subst e
    have d : (C == 0) = false := by rw [beq_eq_false_iff_ne]; exact h0
    go_wp2_with fail
    all_goals go_ret
    all_goals exact ⟨rfl, HB2.out⟩
end Go.Proofs.YteaiadpigpehaaaGreatDoor
namespace Go.Proofs.YteaiadpigpehaaaGreatDoor
open Go.RowKit

/-- The record that the reference's Allowed tries. -/
def askR (D : SagaD) (k : Int) : RecD := ⟨3, k, D.id, if k = 7 then 0 else if D.phase = 2 then wrap64 (D.next - 1) else D.next, min (D.tries + 1) 1000, 0, 0, 0, 0, 0, ⟨#[]⟩, []⟩
theorem allow_eq {D : SagaD} (hg : GoodD D) (i o u f t : Sl) : ([2, 3, 4, 5, 6, 7] : List Int).filter (fun k => decide (refN (D.words i o u f) ((askR D k).words t) = 0)) = allowedD D := by
  have hc := (checkD_iff D).2 hg
  have hn := hg.next0
  have hn2 := hg.next1000
  have hw : wrap64 (D.next - 1) = D.next - 1 := wrap_small (by omega) (by omega)
  have hp1 := hg.plain.phase1
  have hp4 := hg.plain.phase4
  have hf : D.phase = 1 → D.next ≤ D.count := fun h => (hg.fw (.inl h)).next
  have hu : D.flight = true → D.tries ≠ 0 := hg.plain.flight
  have hfull : D.phase = 1 → D.next = D.count → D.tries = 0 := fun h => (hg.fw (.inl h)).full
  have hnone : D.phase = 2 → D.next > 0 ∨ D.tries = 0 := fun h => (hg.bk (by omega)).none
  unfold allowedD
  rw [hc]
  clear hg hc
  obtain ⟨id, name, count, pivot, begun, at_, input, phase, next, flight, tries, outs, undos, fs, fc, fail⟩ := D
  simp only at hn hn2 hw hp1 hp4 hf hu hfull hnone
  unfold refN refNum turnB askR
  simp only [hw]
  clear hw
  have hpc : phase = 1 ∨ phase = 2 ∨ phase = 3 ∨ phase = 4 := by omega
  rcases hpc with rfl | rfl | rfl | rfl <;> cases flight <;> simp [List.filter] at * <;> (repeat' split) <;> first | rfl | omega | (simp_all; done) | (simp_all; omega) | (exfalso; omega)
end Go.Proofs.YteaiadpigpehaaaGreatDoor
namespace Go.Proofs.YteaiadpigpehaaaGreatDoor
open Go.RowKit

/-- What these read in a saga's box. -/
structure AskV (s : SagaV) (id cn pv ph nx tr : Int) : Prop where
  h0 : (sagaArr s)[0]? = some (.int .i64 id)
  h2 : (sagaArr s)[2]? = some (.int .i64 cn)
  h3 : (sagaArr s)[3]? = some (.int .i64 pv)
  h7 : (sagaArr s)[7]? = some (.int .i64 ph)
  h8 : (sagaArr s)[8]? = some (.int .i64 nx)
  h10 : (sagaArr s)[10]? = some (.int .i64 tr)
theorem ask_v {w : World} {s : SagaV} {D : SagaD} (hs : SagaRd w s D) : AskV s D.id D.count D.pivot D.phase D.next D.tries := by
  obtain ⟨si, so, su, sf, rfl⟩ : ∃ i o u f, s = D.words i o u f := ⟨_, _, _, _, hs.eq⟩
  exact ⟨rfl, rfl, rfl, rfl, rfl, rfl⟩
theorem take_snoc' {α : Type} (l : List α) (j : Nat) (h : j < l.length) : l.take (j + 1) = l.take j ++ [l[j]] := by rw [List.take_add_one, List.getElem?_eq_getElem h]; rfl
/-- The steps ahead of n, from the last one back. -/
def downL (n : Nat) : List Int := (List.range n).reverse.map Int.ofNat
theorem downL_len (n : Nat) : (downL n).length = n := by simp [downL]
theorem downL_get (n j : Nat) (h : j < (downL n).length) : (downL n)[j] = (n : Int) - 1 - j := by
  simp only [downL, List.getElem_map, List.getElem_reverse, List.getElem_range, List.length_range]
  simp [downL] at h
  show ((n - 1 - j : Nat) : Int) = _
  omega

set_option maxRecDepth 10000000 in
set_option maxHeartbeats 8000000 in
theorem ref10Pending_any (s : SagaV) (D : SagaD) (w : World) (ht : RefTabs w) (hs : SagaRd w s D) (hf : RefSaga D) :
    Calls Tryz.prog 52 #[s.val] w fun e w' => ∃ v, e = .returned v ∧ OwnInts w' w.heap.size v (pendingD D) ∧ Below w.heap.size w w' := by
  have k0 := BlkAt.new w (sagaArr s) 29
  have hb1 := boxd (o := .cells (sagaArr s) 29) (Below.refl w.heap.size w)
  have cC := Lib.hid (ref10Check_any s D _ (ht.below hb1) (hs.below hb1) hf.small hf.name hf.begun hf.at_ hf.told)
  have HX := Lib.hid (ask_v hs)
  have HB := Lib.hid hb1
  have hor := checkD_or D
  have hbd : checkD D = 0 → (1 ≤ D.phase ∧ D.phase ≤ 4) ∧ (0 ≤ D.next ∧ D.next ≤ 1000) ∧ (0 ≤ D.pivot) ∧ (D.phase = 1 → D.next ≤ D.count) := fun h => by
    have hg := (checkD_iff D).1 h
    exact ⟨⟨hg.plain.phase1, hg.plain.phase4⟩, hg.nextb, hg.plain.pivot0, fun k => (hg.fw (.inl k)).next⟩
  have hP : pendingD D = if checkD D ≠ 0 then [] else if ¬ (D.phase = 1 ∧ D.next < D.count ∧ (D.pivot = 0 ∨ D.next < D.pivot)) ∧ D.phase ≠ 2 then [] else downL D.next.toNat := rfl
  obtain ⟨P, hPq⟩ : ∃ q, pendingD D = q := ⟨_, rfl⟩
  rw [hPq] at hP ⊢
  obtain ⟨C, hC⟩ : ∃ q, checkD D = q := ⟨_, rfl⟩
  obtain ⟨id, hid⟩ : ∃ q, D.id = q := ⟨_, rfl⟩
  obtain ⟨cn, hcn⟩ : ∃ q, D.count = q := ⟨_, rfl⟩
  obtain ⟨pv, hpv⟩ : ∃ q, D.pivot = q := ⟨_, rfl⟩
  obtain ⟨ph, hph⟩ : ∃ q, D.phase = q := ⟨_, rfl⟩
  obtain ⟨nx, hnx⟩ : ∃ q, D.next = q := ⟨_, rfl⟩
  obtain ⟨tr, htr⟩ : ∃ q, D.tries = q := ⟨_, rfl⟩
  rw [hC] at cC hP hbd hor
  rw [hid, hcn, hpv, hph, hnx, htr] at HX
  rw [hcn, hpv, hph, hnx] at hbd
  rw [hcn, hpv, hph, hnx] at hP
  clear hPq hC hid hcn hpv hph hnx htr hs hf ht hb1
  clear D
  go_enter Tryz.func52, Tryz.ntmps52
  go_wp2_with (refine wpList_load_blk rfl _ _ rfl _ rfl _ _ k0 rowSaga ?_)
  refine cC.out.mono ?_
  rintro e w2 ⟨rfl, hb⟩
  have KB := Lib.hid (k0.below hb (by simp))
  have HB2 := Lib.hid (then_ HB.out hb)
  clear hb k0 HB cC
  rcases hor with rfl | rfl
  · obtain ⟨⟨p1, p4⟩, ⟨n0, n1⟩, v0, c0⟩ := hbd rfl
    rw [if_neg (by decide)] at hP
    have hpc : ph = 1 ∨ ph = 2 ∨ ph = 3 ∨ ph = 4 := by omega
    rcases hpc with rfl | rfl | rfl | rfl
    · by_cases hq : nx < cn ∧ (pv = 0 ∨ nx < pv)
      · rw [if_neg (by omega)] at hP
        obtain ⟨n, rfl⟩ : ∃ n : Nat, nx = (n : Int) := ⟨nx.toNat, by omega⟩
        rw [Int.toNat_natCast] at hP
        have HPD := Lib.hid hP
        clear hP hbd
        obtain ⟨q1, q2⟩ := hq
        have d1 : ((n : Int) == cn) = false := by rw [beq_eq_false_iff_ne]; omega
        have d1' : decide ((n : Int) < cn) = true := decide_eq_true q1
        by_cases hv : pv = 0
        · subst hv
          have hw1 : wrap64 ((n : Int) - 1) = (n : Int) - 1 := by unfold wrap64; omega
          go_wp2_with (first | ((with_reducible refine wpList_load_field_g ?_ _ (.tmp 11) ?_ w.heap.size 7 ?_ 29 (sagaArr s) KB.out (.int .i64 1) ?_ one_int ?_); rotate_left; exact rfl; exact rfl; exact HX.out.h7; rotate_left; kernel_rfl) | ((with_reducible refine wpList_load_field ?_ _ (.tmp 15) ?_ w.heap.size 7 ?_ 29 (sagaArr s) KB.out (.int .i64 1) ?_ one_int ?_); rotate_left; exact rfl; exact rfl; exact HX.out.h7; rotate_left; exact rfl) | ((with_reducible refine wpList_load_field_g ?_ _ (.tmp 19) ?_ w.heap.size 8 ?_ 29 (sagaArr s) KB.out (.int .i64 (n : Int)) ?_ one_int ?_); rotate_left; exact rfl; exact rfl; exact HX.out.h8; rotate_left; kernel_rfl) | ((with_reducible refine wpList_load_field_g ?_ _ (.tmp 21) ?_ w.heap.size 2 ?_ 29 (sagaArr s) KB.out (.int .i64 cn) ?_ one_int ?_); rotate_left; exact rfl; exact rfl; exact HX.out.h2; rotate_left; kernel_rfl) | ((with_reducible refine wpList_load_field_g ?_ _ (.tmp 25) ?_ w.heap.size 3 ?_ 29 (sagaArr s) KB.out (.int .i64 0) ?_ one_int ?_); rotate_left; exact rfl; exact rfl; exact HX.out.h3; rotate_left; kernel_rfl) | ((with_reducible refine wpList_load_field_g ?_ _ (.tmp 29) ?_ w.heap.size 8 ?_ 29 (sagaArr s) KB.out (.int .i64 (n : Int)) ?_ one_int ?_); rotate_left; exact rfl; exact rfl; exact HX.out.h8; rotate_left; kernel_rfl) | ((with_reducible refine wpList_load_field_g ?_ _ (.tmp 31) ?_ w.heap.size 3 ?_ 29 (sagaArr s) KB.out (.int .i64 0) ?_ one_int ?_); rotate_left; exact rfl; exact rfl; exact HX.out.h3; rotate_left; kernel_rfl) | ((with_reducible refine wpList_load_field ?_ _ (.tmp 37) ?_ w.heap.size 8 ?_ 29 (sagaArr s) KB.out (.int .i64 (n : Int)) ?_ one_int ?_); rotate_left; exact rfl; exact rfl; exact HX.out.h8; rotate_left; exact rfl))
          go_loopw [4, 5] (fun sv i wr => ∃ (k : Nat) (v : Value), k ≤ n ∧ v = sv ∧ i = .int .i64 ((n : Int) - 1 - k) ∧ Hid (OwnInts wr w.heap.size v ((downL n).take k)) ∧ Hid (Below w.heap.size w wr)) (fun _ i _ => (intOf i + 1).toNat)
          case atStart => exact ⟨0, _, by omega, rfl, by go_num, Lib.hid (OwnInts.nil _ _), HB2⟩
          case round =>
            obtain ⟨k, v, hk, rfl, rfl, HO, HBL⟩ := hrel
            by_cases hlt : k < n
            · have hk2 : k < (downL n).length := by rw [downL_len]; omega
              have hsn := take_snoc' (downL n) k hk2
              rw [downL_get n k hk2] at hsn
              have HSN := Lib.hid hsn
              have hlen : ((downL n).take k).length = k := by rw [List.length_take, downL_len]; omega
              have hge : (0 : Int) ≤ (n : Int) - 1 - k := by omega
              have hsz := HBL.out.size
              clear hsn
              go_wp2_with (at_builtin; refine wpList_append_row _ rfl (.tmp 44) (.tmp 46) 80 rfl w.heap.size 3 (.int .i64 0) 8 Tryz.underlying80 infoInt rfl _ _ _ rfl (World.ownsRow.alloc HO.out _) ⟨some ⟨wr.heap.size, 0, none⟩, 1, 1⟩ [.int .i64 ((n : Int) - 1 - k)] rfl (RowAt.of_lit1 wr _ _) (by simp [Value.oneCell']) ?c1 ?c2 ?c3 ?_)
              case c1 => simp only [maxLen]; omega
              case c2 => omega
              case c3 => simp; omega
              intro v' w3 hown hgr
              have HN : Hid (OwnInts w3 w.heap.size v' ((downL n).take (k + 1))) := Lib.hid (by
                rw [HSN.out]
                unfold OwnInts
                rw [List.length_append, List.map_append, hlen, List.map_take]
                exact hown)
              have HB5 : Hid (Below w.heap.size w w3) := Lib.hid ((boxd (o := .cells #[.int .i64 ((n : Int) - 1 - k)] 3) HBL.out).grown hgr (by simp; omega) (fun q hq => (HO.out.lt q hq).1))
              have hw2 : wrap64 ((n : Int) - 1 - k - 1) = (n : Int) - 1 - (k + 1 : Nat) := by unfold wrap64; omega
              clear hown hgr
              go_wp2
              all_goals go_roundw
              case rel => exact ⟨k + 1, _, by omega, rfl, by go_num, HN, HB5⟩
              case measure => simp [intOf]; omega
            · have hk' : k = n := by omega
              subst hk'
              have hge : ¬ (0 : Int) ≤ (k : Int) - 1 - k := by omega
              have HO2 : Hid (OwnInts wr w.heap.size v (downL k)) := Lib.hid (by
                have := HO.out
                rwa [List.take_of_length_le (by rw [downL_len]; omega)] at this)
              go_wp2
              all_goals go_ret
              all_goals exact ⟨v, rfl, by rw [HPD.out]; exact HO2.out, HBL.out⟩
        · have d2 : decide ((0 : Int) < pv) = true := decide_eq_true (by omega)
          have d2' : (pv == 0) = false := by rw [beq_eq_false_iff_ne]; exact hv
          have d3 : decide (pv ≤ (n : Int)) = false := decide_eq_false (by omega)
          have d3' : decide ((n : Int) < pv) = true := decide_eq_true (by omega)
          have hw1 : wrap64 ((n : Int) - 1) = (n : Int) - 1 := by unfold wrap64; omega
          go_wp2_with (first | ((with_reducible refine wpList_load_field_g ?_ _ (.tmp 11) ?_ w.heap.size 7 ?_ 29 (sagaArr s) KB.out (.int .i64 1) ?_ one_int ?_); rotate_left; exact rfl; exact rfl; exact HX.out.h7; rotate_left; kernel_rfl) | ((with_reducible refine wpList_load_field ?_ _ (.tmp 15) ?_ w.heap.size 7 ?_ 29 (sagaArr s) KB.out (.int .i64 1) ?_ one_int ?_); rotate_left; exact rfl; exact rfl; exact HX.out.h7; rotate_left; exact rfl) | ((with_reducible refine wpList_load_field_g ?_ _ (.tmp 19) ?_ w.heap.size 8 ?_ 29 (sagaArr s) KB.out (.int .i64 (n : Int)) ?_ one_int ?_); rotate_left; exact rfl; exact rfl; exact HX.out.h8; rotate_left; kernel_rfl) | ((with_reducible refine wpList_load_field_g ?_ _ (.tmp 21) ?_ w.heap.size 2 ?_ 29 (sagaArr s) KB.out (.int .i64 cn) ?_ one_int ?_); rotate_left; exact rfl; exact rfl; exact HX.out.h2; rotate_left; kernel_rfl) | ((with_reducible refine wpList_load_field_g ?_ _ (.tmp 25) ?_ w.heap.size 3 ?_ 29 (sagaArr s) KB.out (.int .i64 pv) ?_ one_int ?_); rotate_left; exact rfl; exact rfl; exact HX.out.h3; rotate_left; kernel_rfl) | ((with_reducible refine wpList_load_field_g ?_ _ (.tmp 29) ?_ w.heap.size 8 ?_ 29 (sagaArr s) KB.out (.int .i64 (n : Int)) ?_ one_int ?_); rotate_left; exact rfl; exact rfl; exact HX.out.h8; rotate_left; kernel_rfl) | ((with_reducible refine wpList_load_field_g ?_ _ (.tmp 31) ?_ w.heap.size 3 ?_ 29 (sagaArr s) KB.out (.int .i64 pv) ?_ one_int ?_); rotate_left; exact rfl; exact rfl; exact HX.out.h3; rotate_left; kernel_rfl) | ((with_reducible refine wpList_load_field ?_ _ (.tmp 37) ?_ w.heap.size 8 ?_ 29 (sagaArr s) KB.out (.int .i64 (n : Int)) ?_ one_int ?_); rotate_left; exact rfl; exact rfl; exact HX.out.h8; rotate_left; exact rfl))
          go_loopw [4, 5] (fun sv i wr => ∃ (k : Nat) (v : Value), k ≤ n ∧ v = sv ∧ i = .int .i64 ((n : Int) - 1 - k) ∧ Hid (OwnInts wr w.heap.size v ((downL n).take k)) ∧ Hid (Below w.heap.size w wr)) (fun _ i _ => (intOf i + 1).toNat)
          case atStart => exact ⟨0, _, by omega, rfl, by go_num, Lib.hid (OwnInts.nil _ _), HB2⟩
          case round =>
            obtain ⟨k, v, hk, rfl, rfl, HO, HBL⟩ := hrel
            by_cases hlt : k < n
            · have hk2 : k < (downL n).length := by rw [downL_len]; omega
              have hsn := take_snoc' (downL n) k hk2
              rw [downL_get n k hk2] at hsn
              have HSN := Lib.hid hsn
              have hlen : ((downL n).take k).length = k := by rw [List.length_take, downL_len]; omega
              have hge : (0 : Int) ≤ (n : Int) - 1 - k := by omega
              have hsz := HBL.out.size
              clear hsn
              go_wp2_with (at_builtin; refine wpList_append_row _ rfl (.tmp 44) (.tmp 46) 80 rfl w.heap.size 3 (.int .i64 0) 8 Tryz.underlying80 infoInt rfl _ _ _ rfl (World.ownsRow.alloc HO.out _) ⟨some ⟨wr.heap.size, 0, none⟩, 1, 1⟩ [.int .i64 ((n : Int) - 1 - k)] rfl (RowAt.of_lit1 wr _ _) (by simp [Value.oneCell']) ?c1 ?c2 ?c3 ?_)
              case c1 => simp only [maxLen]; omega
              case c2 => omega
              case c3 => simp; omega
              intro v' w3 hown hgr
              have HN : Hid (OwnInts w3 w.heap.size v' ((downL n).take (k + 1))) := Lib.hid (by
                rw [HSN.out]
                unfold OwnInts
                rw [List.length_append, List.map_append, hlen, List.map_take]
                exact hown)
              have HB5 : Hid (Below w.heap.size w w3) := Lib.hid ((boxd (o := .cells #[.int .i64 ((n : Int) - 1 - k)] 3) HBL.out).grown hgr (by simp; omega) (fun q hq => (HO.out.lt q hq).1))
              have hw2 : wrap64 ((n : Int) - 1 - k - 1) = (n : Int) - 1 - (k + 1 : Nat) := by unfold wrap64; omega
              clear hown hgr
              go_wp2
              all_goals go_roundw
              case rel => exact ⟨k + 1, _, by omega, rfl, by go_num, HN, HB5⟩
              case measure => simp [intOf]; omega
            · have hk' : k = n := by omega
              subst hk'
              have hge : ¬ (0 : Int) ≤ (k : Int) - 1 - k := by omega
              have HO2 : Hid (OwnInts wr w.heap.size v (downL k)) := Lib.hid (by
                have := HO.out
                rwa [List.take_of_length_le (by rw [downL_len]; omega)] at this)
              go_wp2
              all_goals go_ret
              all_goals exact ⟨v, rfl, by rw [HPD.out]; exact HO2.out, HBL.out⟩
      · rw [if_pos (by omega)] at hP
        have HPD := Lib.hid hP
        clear hP hbd
        by_cases hc : nx = cn
        · subst hc
          go_wp2_with (first | ((with_reducible refine wpList_load_field_g ?_ _ (.tmp 11) ?_ w.heap.size 7 ?_ 29 (sagaArr s) KB.out (.int .i64 1) ?_ one_int ?_); rotate_left; exact rfl; exact rfl; exact HX.out.h7; rotate_left; kernel_rfl) | ((with_reducible refine wpList_load_field ?_ _ (.tmp 15) ?_ w.heap.size 7 ?_ 29 (sagaArr s) KB.out (.int .i64 1) ?_ one_int ?_); rotate_left; exact rfl; exact rfl; exact HX.out.h7; rotate_left; exact rfl) | ((with_reducible refine wpList_load_field_g ?_ _ (.tmp 19) ?_ w.heap.size 8 ?_ 29 (sagaArr s) KB.out (.int .i64 nx) ?_ one_int ?_); rotate_left; exact rfl; exact rfl; exact HX.out.h8; rotate_left; kernel_rfl) | ((with_reducible refine wpList_load_field_g ?_ _ (.tmp 21) ?_ w.heap.size 2 ?_ 29 (sagaArr s) KB.out (.int .i64 nx) ?_ one_int ?_); rotate_left; exact rfl; exact rfl; exact HX.out.h2; rotate_left; kernel_rfl) | ((with_reducible refine wpList_load_field_g ?_ _ (.tmp 25) ?_ w.heap.size 3 ?_ 29 (sagaArr s) KB.out (.int .i64 pv) ?_ one_int ?_); rotate_left; exact rfl; exact rfl; exact HX.out.h3; rotate_left; kernel_rfl) | ((with_reducible refine wpList_load_field_g ?_ _ (.tmp 29) ?_ w.heap.size 8 ?_ 29 (sagaArr s) KB.out (.int .i64 nx) ?_ one_int ?_); rotate_left; exact rfl; exact rfl; exact HX.out.h8; rotate_left; kernel_rfl) | ((with_reducible refine wpList_load_field_g ?_ _ (.tmp 31) ?_ w.heap.size 3 ?_ 29 (sagaArr s) KB.out (.int .i64 pv) ?_ one_int ?_); rotate_left; exact rfl; exact rfl; exact HX.out.h3; rotate_left; kernel_rfl))
          all_goals go_ret
          all_goals exact ⟨_, rfl, by rw [HPD.out]; exact OwnInts.nil _ _, HB2.out⟩
        · have d1 : (nx == cn) = false := by rw [beq_eq_false_iff_ne]; exact hc
          have d1' : decide (nx < cn) = true := decide_eq_true (by omega)
          have d2 : decide ((0 : Int) < pv) = true := decide_eq_true (by omega)
          have d2' : (pv == 0) = false := by rw [beq_eq_false_iff_ne]; omega
          have d3 : decide (pv ≤ nx) = true := decide_eq_true (by omega)
          have d3' : decide (nx < pv) = false := decide_eq_false (by omega)
          go_wp2_with (first | ((with_reducible refine wpList_load_field_g ?_ _ (.tmp 11) ?_ w.heap.size 7 ?_ 29 (sagaArr s) KB.out (.int .i64 1) ?_ one_int ?_); rotate_left; exact rfl; exact rfl; exact HX.out.h7; rotate_left; kernel_rfl) | ((with_reducible refine wpList_load_field ?_ _ (.tmp 15) ?_ w.heap.size 7 ?_ 29 (sagaArr s) KB.out (.int .i64 1) ?_ one_int ?_); rotate_left; exact rfl; exact rfl; exact HX.out.h7; rotate_left; exact rfl) | ((with_reducible refine wpList_load_field_g ?_ _ (.tmp 19) ?_ w.heap.size 8 ?_ 29 (sagaArr s) KB.out (.int .i64 nx) ?_ one_int ?_); rotate_left; exact rfl; exact rfl; exact HX.out.h8; rotate_left; kernel_rfl) | ((with_reducible refine wpList_load_field_g ?_ _ (.tmp 21) ?_ w.heap.size 2 ?_ 29 (sagaArr s) KB.out (.int .i64 cn) ?_ one_int ?_); rotate_left; exact rfl; exact rfl; exact HX.out.h2; rotate_left; kernel_rfl) | ((with_reducible refine wpList_load_field_g ?_ _ (.tmp 25) ?_ w.heap.size 3 ?_ 29 (sagaArr s) KB.out (.int .i64 pv) ?_ one_int ?_); rotate_left; exact rfl; exact rfl; exact HX.out.h3; rotate_left; kernel_rfl) | ((with_reducible refine wpList_load_field_g ?_ _ (.tmp 29) ?_ w.heap.size 8 ?_ 29 (sagaArr s) KB.out (.int .i64 nx) ?_ one_int ?_); rotate_left; exact rfl; exact rfl; exact HX.out.h8; rotate_left; kernel_rfl) | ((with_reducible refine wpList_load_field_g ?_ _ (.tmp 31) ?_ w.heap.size 3 ?_ 29 (sagaArr s) KB.out (.int .i64 pv) ?_ one_int ?_); rotate_left; exact rfl; exact rfl; exact HX.out.h3; rotate_left; kernel_rfl))
          all_goals go_ret
          all_goals exact ⟨_, rfl, by rw [HPD.out]; exact OwnInts.nil _ _, HB2.out⟩
    · rw [if_neg (by omega)] at hP
      obtain ⟨n, rfl⟩ : ∃ n : Nat, nx = (n : Int) := ⟨nx.toNat, by omega⟩
      rw [Int.toNat_natCast] at hP
      have HPD := Lib.hid hP
      clear hP hbd
      have hw1 : wrap64 ((n : Int) - 1) = (n : Int) - 1 := by unfold wrap64; omega
      go_wp2_with (first | ((with_reducible refine wpList_load_field_g ?_ _ (.tmp 11) ?_ w.heap.size 7 ?_ 29 (sagaArr s) KB.out (.int .i64 2) ?_ one_int ?_); rotate_left; exact rfl; exact rfl; exact HX.out.h7; rotate_left; kernel_rfl) | ((with_reducible refine wpList_load_field ?_ _ (.tmp 15) ?_ w.heap.size 7 ?_ 29 (sagaArr s) KB.out (.int .i64 2) ?_ one_int ?_); rotate_left; exact rfl; exact rfl; exact HX.out.h7; rotate_left; exact rfl) | ((with_reducible refine wpList_load_field_g ?_ _ (.tmp 19) ?_ w.heap.size 8 ?_ 29 (sagaArr s) KB.out (.int .i64 (n : Int)) ?_ one_int ?_); rotate_left; exact rfl; exact rfl; exact HX.out.h8; rotate_left; kernel_rfl) | ((with_reducible refine wpList_load_field_g ?_ _ (.tmp 21) ?_ w.heap.size 2 ?_ 29 (sagaArr s) KB.out (.int .i64 cn) ?_ one_int ?_); rotate_left; exact rfl; exact rfl; exact HX.out.h2; rotate_left; kernel_rfl) | ((with_reducible refine wpList_load_field_g ?_ _ (.tmp 25) ?_ w.heap.size 3 ?_ 29 (sagaArr s) KB.out (.int .i64 pv) ?_ one_int ?_); rotate_left; exact rfl; exact rfl; exact HX.out.h3; rotate_left; kernel_rfl) | ((with_reducible refine wpList_load_field_g ?_ _ (.tmp 29) ?_ w.heap.size 8 ?_ 29 (sagaArr s) KB.out (.int .i64 (n : Int)) ?_ one_int ?_); rotate_left; exact rfl; exact rfl; exact HX.out.h8; rotate_left; kernel_rfl) | ((with_reducible refine wpList_load_field_g ?_ _ (.tmp 31) ?_ w.heap.size 3 ?_ 29 (sagaArr s) KB.out (.int .i64 pv) ?_ one_int ?_); rotate_left; exact rfl; exact rfl; exact HX.out.h3; rotate_left; kernel_rfl) | ((with_reducible refine wpList_load_field ?_ _ (.tmp 37) ?_ w.heap.size 8 ?_ 29 (sagaArr s) KB.out (.int .i64 (n : Int)) ?_ one_int ?_); rotate_left; exact rfl; exact rfl; exact HX.out.h8; rotate_left; exact rfl))
      go_loopw [4, 5] (fun sv i wr => ∃ (k : Nat) (v : Value), k ≤ n ∧ v = sv ∧ i = .int .i64 ((n : Int) - 1 - k) ∧ Hid (OwnInts wr w.heap.size v ((downL n).take k)) ∧ Hid (Below w.heap.size w wr)) (fun _ i _ => (intOf i + 1).toNat)
      case atStart => exact ⟨0, _, by omega, rfl, by go_num, Lib.hid (OwnInts.nil _ _), HB2⟩
      case round =>
        obtain ⟨k, v, hk, rfl, rfl, HO, HBL⟩ := hrel
        by_cases hlt : k < n
        · have hk2 : k < (downL n).length := by rw [downL_len]; omega
          have hsn := take_snoc' (downL n) k hk2
          rw [downL_get n k hk2] at hsn
          have HSN := Lib.hid hsn
          have hlen : ((downL n).take k).length = k := by rw [List.length_take, downL_len]; omega
          have hge : (0 : Int) ≤ (n : Int) - 1 - k := by omega
          have hsz := HBL.out.size
          clear hsn
          go_wp2_with (at_builtin; refine wpList_append_row _ rfl (.tmp 44) (.tmp 46) 80 rfl w.heap.size 3 (.int .i64 0) 8 Tryz.underlying80 infoInt rfl _ _ _ rfl (World.ownsRow.alloc HO.out _) ⟨some ⟨wr.heap.size, 0, none⟩, 1, 1⟩ [.int .i64 ((n : Int) - 1 - k)] rfl (RowAt.of_lit1 wr _ _) (by simp [Value.oneCell']) ?c1 ?c2 ?c3 ?_)
          case c1 => simp only [maxLen]; omega
          case c2 => omega
          case c3 => simp; omega
          intro v' w3 hown hgr
          have HN : Hid (OwnInts w3 w.heap.size v' ((downL n).take (k + 1))) := Lib.hid (by
            rw [HSN.out]
            unfold OwnInts
            rw [List.length_append, List.map_append, hlen, List.map_take]
            exact hown)
          have HB5 : Hid (Below w.heap.size w w3) := Lib.hid ((boxd (o := .cells #[.int .i64 ((n : Int) - 1 - k)] 3) HBL.out).grown hgr (by simp; omega) (fun q hq => (HO.out.lt q hq).1))
          have hw2 : wrap64 ((n : Int) - 1 - k - 1) = (n : Int) - 1 - (k + 1 : Nat) := by unfold wrap64; omega
          clear hown hgr
          go_wp2
          all_goals go_roundw
          case rel => exact ⟨k + 1, _, by omega, rfl, by go_num, HN, HB5⟩
          case measure => simp [intOf]; omega
        · have hk' : k = n := by omega
          subst hk'
          have hge : ¬ (0 : Int) ≤ (k : Int) - 1 - k := by omega
          have HO2 : Hid (OwnInts wr w.heap.size v (downL k)) := Lib.hid (by
            have := HO.out
            rwa [List.take_of_length_le (by rw [downL_len]; omega)] at this)
          go_wp2
          all_goals go_ret
          all_goals exact ⟨v, rfl, by rw [HPD.out]; exact HO2.out, HBL.out⟩
    · rw [if_pos (by omega)] at hP
      have HPD := Lib.hid hP
      clear hP hbd
      go_wp2_with (first | ((with_reducible refine wpList_load_field_g ?_ _ (.tmp 11) ?_ w.heap.size 7 ?_ 29 (sagaArr s) KB.out (.int .i64 3) ?_ one_int ?_); rotate_left; exact rfl; exact rfl; exact HX.out.h7; rotate_left; kernel_rfl) | ((with_reducible refine wpList_load_field ?_ _ (.tmp 15) ?_ w.heap.size 7 ?_ 29 (sagaArr s) KB.out (.int .i64 3) ?_ one_int ?_); rotate_left; exact rfl; exact rfl; exact HX.out.h7; rotate_left; exact rfl) | ((with_reducible refine wpList_load_field_g ?_ _ (.tmp 19) ?_ w.heap.size 8 ?_ 29 (sagaArr s) KB.out (.int .i64 nx) ?_ one_int ?_); rotate_left; exact rfl; exact rfl; exact HX.out.h8; rotate_left; kernel_rfl) | ((with_reducible refine wpList_load_field_g ?_ _ (.tmp 21) ?_ w.heap.size 2 ?_ 29 (sagaArr s) KB.out (.int .i64 cn) ?_ one_int ?_); rotate_left; exact rfl; exact rfl; exact HX.out.h2; rotate_left; kernel_rfl) | ((with_reducible refine wpList_load_field_g ?_ _ (.tmp 25) ?_ w.heap.size 3 ?_ 29 (sagaArr s) KB.out (.int .i64 pv) ?_ one_int ?_); rotate_left; exact rfl; exact rfl; exact HX.out.h3; rotate_left; kernel_rfl) | ((with_reducible refine wpList_load_field_g ?_ _ (.tmp 29) ?_ w.heap.size 8 ?_ 29 (sagaArr s) KB.out (.int .i64 nx) ?_ one_int ?_); rotate_left; exact rfl; exact rfl; exact HX.out.h8; rotate_left; kernel_rfl) | ((with_reducible refine wpList_load_field_g ?_ _ (.tmp 31) ?_ w.heap.size 3 ?_ 29 (sagaArr s) KB.out (.int .i64 pv) ?_ one_int ?_); rotate_left; exact rfl; exact rfl; exact HX.out.h3; rotate_left; kernel_rfl))
      all_goals go_ret
      all_goals exact ⟨_, rfl, by rw [HPD.out]; exact OwnInts.nil _ _, HB2.out⟩
    · rw [if_pos (by omega)] at hP
      have HPD := Lib.hid hP
      clear hP hbd
      go_wp2_with (first | ((with_reducible refine wpList_load_field_g ?_ _ (.tmp 11) ?_ w.heap.size 7 ?_ 29 (sagaArr s) KB.out (.int .i64 4) ?_ one_int ?_); rotate_left; exact rfl; exact rfl; exact HX.out.h7; rotate_left; kernel_rfl) | ((with_reducible refine wpList_load_field ?_ _ (.tmp 15) ?_ w.heap.size 7 ?_ 29 (sagaArr s) KB.out (.int .i64 4) ?_ one_int ?_); rotate_left; exact rfl; exact rfl; exact HX.out.h7; rotate_left; exact rfl) | ((with_reducible refine wpList_load_field_g ?_ _ (.tmp 19) ?_ w.heap.size 8 ?_ 29 (sagaArr s) KB.out (.int .i64 nx) ?_ one_int ?_); rotate_left; exact rfl; exact rfl; exact HX.out.h8; rotate_left; kernel_rfl) | ((with_reducible refine wpList_load_field_g ?_ _ (.tmp 21) ?_ w.heap.size 2 ?_ 29 (sagaArr s) KB.out (.int .i64 cn) ?_ one_int ?_); rotate_left; exact rfl; exact rfl; exact HX.out.h2; rotate_left; kernel_rfl) | ((with_reducible refine wpList_load_field_g ?_ _ (.tmp 25) ?_ w.heap.size 3 ?_ 29 (sagaArr s) KB.out (.int .i64 pv) ?_ one_int ?_); rotate_left; exact rfl; exact rfl; exact HX.out.h3; rotate_left; kernel_rfl) | ((with_reducible refine wpList_load_field_g ?_ _ (.tmp 29) ?_ w.heap.size 8 ?_ 29 (sagaArr s) KB.out (.int .i64 nx) ?_ one_int ?_); rotate_left; exact rfl; exact rfl; exact HX.out.h8; rotate_left; kernel_rfl) | ((with_reducible refine wpList_load_field_g ?_ _ (.tmp 31) ?_ w.heap.size 3 ?_ 29 (sagaArr s) KB.out (.int .i64 pv) ?_ one_int ?_); rotate_left; exact rfl; exact rfl; exact HX.out.h3; rotate_left; kernel_rfl))
      all_goals go_ret
      all_goals exact ⟨_, rfl, by rw [HPD.out]; exact OwnInts.nil _ _, HB2.out⟩
  · rw [if_pos (by decide)] at hP
    have HPD := Lib.hid hP
    clear hP hbd
    go_wp2_with (first | ((with_reducible refine wpList_load_field_g ?_ _ (.tmp 11) ?_ w.heap.size 7 ?_ 29 (sagaArr s) KB.out (.int .i64 ph) ?_ one_int ?_); rotate_left; exact rfl; exact rfl; exact HX.out.h7; rotate_left; kernel_rfl) | ((with_reducible refine wpList_load_field ?_ _ (.tmp 15) ?_ w.heap.size 7 ?_ 29 (sagaArr s) KB.out (.int .i64 ph) ?_ one_int ?_); rotate_left; exact rfl; exact rfl; exact HX.out.h7; rotate_left; exact rfl) | ((with_reducible refine wpList_load_field_g ?_ _ (.tmp 19) ?_ w.heap.size 8 ?_ 29 (sagaArr s) KB.out (.int .i64 nx) ?_ one_int ?_); rotate_left; exact rfl; exact rfl; exact HX.out.h8; rotate_left; kernel_rfl) | ((with_reducible refine wpList_load_field_g ?_ _ (.tmp 21) ?_ w.heap.size 2 ?_ 29 (sagaArr s) KB.out (.int .i64 cn) ?_ one_int ?_); rotate_left; exact rfl; exact rfl; exact HX.out.h2; rotate_left; kernel_rfl) | ((with_reducible refine wpList_load_field_g ?_ _ (.tmp 25) ?_ w.heap.size 3 ?_ 29 (sagaArr s) KB.out (.int .i64 pv) ?_ one_int ?_); rotate_left; exact rfl; exact rfl; exact HX.out.h3; rotate_left; kernel_rfl) | ((with_reducible refine wpList_load_field_g ?_ _ (.tmp 29) ?_ w.heap.size 8 ?_ 29 (sagaArr s) KB.out (.int .i64 nx) ?_ one_int ?_); rotate_left; exact rfl; exact rfl; exact HX.out.h8; rotate_left; kernel_rfl) | ((with_reducible refine wpList_load_field_g ?_ _ (.tmp 31) ?_ w.heap.size 3 ?_ 29 (sagaArr s) KB.out (.int .i64 pv) ?_ one_int ?_); rotate_left; exact rfl; exact rfl; exact HX.out.h3; rotate_left; kernel_rfl))
    all_goals go_ret
    all_goals exact ⟨_, rfl, by rw [HPD.out]; exact OwnInts.nil _ _, HB2.out⟩

set_option maxRecDepth 10000000 in
set_option maxHeartbeats 8000000 in
theorem pending_any (s : SagaV) (D : SagaD) (w : World) (ht : Tabs w) (hs : SagaRd w s D) (hf : SagaFits D) :
    Calls Tryz.prog 51 #[s.val] w fun e w' => ∃ v, e = .returned v ∧ OwnInts w' w.heap.size v (pendingD D) ∧ Below w.heap.size w w' := by
  have k0 := BlkAt.new w (sagaArr s) 29
  have hb1 := boxd (o := .cells (sagaArr s) 29) (Below.refl w.heap.size w)
  have cC := Lib.hid (sagaCheck_rd s D _ (ht.below hb1) (hs.below hb1) hf)
  have HX := Lib.hid (ask_v hs)
  have HB := Lib.hid hb1
  have hor := checkD_or D
  have hbd : checkD D = 0 → (1 ≤ D.phase ∧ D.phase ≤ 4) ∧ (0 ≤ D.next ∧ D.next ≤ 1000) ∧ (0 ≤ D.pivot) ∧ (D.phase = 1 → D.next ≤ D.count) := fun h => by
    have hg := (checkD_iff D).1 h
    exact ⟨⟨hg.plain.phase1, hg.plain.phase4⟩, hg.nextb, hg.plain.pivot0, fun k => (hg.fw (.inl k)).next⟩
  have hP : pendingD D = if checkD D ≠ 0 then [] else if ¬ (D.phase = 1 ∧ D.next < D.count ∧ (D.pivot = 0 ∨ D.next < D.pivot)) ∧ D.phase ≠ 2 then [] else downL D.next.toNat := rfl
  obtain ⟨P, hPq⟩ : ∃ q, pendingD D = q := ⟨_, rfl⟩
  rw [hPq] at hP ⊢
  obtain ⟨C, hC⟩ : ∃ q, checkD D = q := ⟨_, rfl⟩
  obtain ⟨id, hid⟩ : ∃ q, D.id = q := ⟨_, rfl⟩
  obtain ⟨cn, hcn⟩ : ∃ q, D.count = q := ⟨_, rfl⟩
  obtain ⟨pv, hpv⟩ : ∃ q, D.pivot = q := ⟨_, rfl⟩
  obtain ⟨ph, hph⟩ : ∃ q, D.phase = q := ⟨_, rfl⟩
  obtain ⟨nx, hnx⟩ : ∃ q, D.next = q := ⟨_, rfl⟩
  obtain ⟨tr, htr⟩ : ∃ q, D.tries = q := ⟨_, rfl⟩
  rw [hC] at cC hP hbd hor
  rw [hid, hcn, hpv, hph, hnx, htr] at HX
  rw [hcn, hpv, hph, hnx] at hbd
  rw [hcn, hpv, hph, hnx] at hP
  clear hPq hC hid hcn hpv hph hnx htr hs hf ht hb1
  clear D
  go_enter Tryz.func51, Tryz.ntmps51
  go_wp2_with (refine wpList_load_blk rfl _ _ rfl _ rfl _ _ k0 rowSaga ?_)
  refine cC.out.mono ?_
  rintro e w2 ⟨rfl, hb⟩
  have KB := Lib.hid (k0.below hb (by simp))
  have HB2 := Lib.hid (then_ HB.out hb)
  clear hb k0 HB cC
  rcases hor with rfl | rfl
  · obtain ⟨⟨p1, p4⟩, ⟨n0, n1⟩, v0, c0⟩ := hbd rfl
    rw [if_neg (by decide)] at hP
    have hpc : ph = 1 ∨ ph = 2 ∨ ph = 3 ∨ ph = 4 := by omega
    rcases hpc with rfl | rfl | rfl | rfl
    · by_cases hq : nx < cn ∧ (pv = 0 ∨ nx < pv)
      · rw [if_neg (by omega)] at hP
        obtain ⟨n, rfl⟩ : ∃ n : Nat, nx = (n : Int) := ⟨nx.toNat, by omega⟩
        rw [Int.toNat_natCast] at hP
        have HPD := Lib.hid hP
        clear hP hbd
        obtain ⟨q1, q2⟩ := hq
        have d1 : ((n : Int) == cn) = false := by rw [beq_eq_false_iff_ne]; omega
        have d1' : decide ((n : Int) < cn) = true := decide_eq_true q1
        by_cases hv : pv = 0
        · subst hv
          have hw1 : wrap64 ((n : Int) - 1) = (n : Int) - 1 := by unfold wrap64; omega
          go_wp2_with (first | ((with_reducible refine wpList_load_field ?_ _ (.tmp 9) ?_ w.heap.size 7 ?_ 29 (sagaArr s) KB.out (.int .i64 1) ?_ one_int ?_); rotate_left; exact rfl; exact rfl; exact HX.out.h7; rotate_left; exact rfl) | ((with_reducible refine wpList_load_field_g ?_ _ (.tmp 13) ?_ w.heap.size 8 ?_ 29 (sagaArr s) KB.out (.int .i64 (n : Int)) ?_ one_int ?_); rotate_left; exact rfl; exact rfl; exact HX.out.h8; rotate_left; kernel_rfl) | ((with_reducible refine wpList_load_field_g ?_ _ (.tmp 15) ?_ w.heap.size 2 ?_ 29 (sagaArr s) KB.out (.int .i64 cn) ?_ one_int ?_); rotate_left; exact rfl; exact rfl; exact HX.out.h2; rotate_left; kernel_rfl) | ((with_reducible refine wpList_load_field_g ?_ _ (.tmp 20) ?_ w.heap.size 3 ?_ 29 (sagaArr s) KB.out (.int .i64 0) ?_ one_int ?_); rotate_left; exact rfl; exact rfl; exact HX.out.h3; rotate_left; kernel_rfl) | ((with_reducible refine wpList_load_field_g ?_ _ (.tmp 24) ?_ w.heap.size 8 ?_ 29 (sagaArr s) KB.out (.int .i64 (n : Int)) ?_ one_int ?_); rotate_left; exact rfl; exact rfl; exact HX.out.h8; rotate_left; kernel_rfl) | ((with_reducible refine wpList_load_field_g ?_ _ (.tmp 26) ?_ w.heap.size 3 ?_ 29 (sagaArr s) KB.out (.int .i64 0) ?_ one_int ?_); rotate_left; exact rfl; exact rfl; exact HX.out.h3; rotate_left; kernel_rfl) | ((with_reducible refine wpList_load_field_g ?_ _ (.tmp 34) ?_ w.heap.size 7 ?_ 29 (sagaArr s) KB.out (.int .i64 1) ?_ one_int ?_); rotate_left; exact rfl; exact rfl; exact HX.out.h7; rotate_left; kernel_rfl) | ((with_reducible refine wpList_load_field ?_ _ (.tmp 38) ?_ w.heap.size 8 ?_ 29 (sagaArr s) KB.out (.int .i64 (n : Int)) ?_ one_int ?_); rotate_left; exact rfl; exact rfl; exact HX.out.h8; rotate_left; exact rfl))
          go_loopw [4, 5] (fun sv i wr => ∃ (k : Nat) (v : Value), k ≤ n ∧ v = sv ∧ i = .int .i64 ((n : Int) - 1 - k) ∧ Hid (OwnInts wr w.heap.size v ((downL n).take k)) ∧ Hid (Below w.heap.size w wr)) (fun _ i _ => (intOf i + 1).toNat)
          case atStart => exact ⟨0, _, by omega, rfl, by go_num, Lib.hid (OwnInts.nil _ _), HB2⟩
          case round =>
            obtain ⟨k, v, hk, rfl, rfl, HO, HBL⟩ := hrel
            by_cases hlt : k < n
            · have hk2 : k < (downL n).length := by rw [downL_len]; omega
              have hsn := take_snoc' (downL n) k hk2
              rw [downL_get n k hk2] at hsn
              have HSN := Lib.hid hsn
              have hlen : ((downL n).take k).length = k := by rw [List.length_take, downL_len]; omega
              have hge : (0 : Int) ≤ (n : Int) - 1 - k := by omega
              have hsz := HBL.out.size
              clear hsn
              go_wp2_with (at_builtin; refine wpList_append_row _ rfl (.tmp 45) (.tmp 47) 80 rfl w.heap.size 3 (.int .i64 0) 8 Tryz.underlying80 infoInt rfl _ _ _ rfl (World.ownsRow.alloc HO.out _) ⟨some ⟨wr.heap.size, 0, none⟩, 1, 1⟩ [.int .i64 ((n : Int) - 1 - k)] rfl (RowAt.of_lit1 wr _ _) (by simp [Value.oneCell']) ?c1 ?c2 ?c3 ?_)
              case c1 => simp only [maxLen]; omega
              case c2 => omega
              case c3 => simp; omega
              intro v' w3 hown hgr
              have HN : Hid (OwnInts w3 w.heap.size v' ((downL n).take (k + 1))) := Lib.hid (by
                rw [HSN.out]
                unfold OwnInts
                rw [List.length_append, List.map_append, hlen, List.map_take]
                exact hown)
              have HB5 : Hid (Below w.heap.size w w3) := Lib.hid ((boxd (o := .cells #[.int .i64 ((n : Int) - 1 - k)] 3) HBL.out).grown hgr (by simp; omega) (fun q hq => (HO.out.lt q hq).1))
              have hw2 : wrap64 ((n : Int) - 1 - k - 1) = (n : Int) - 1 - (k + 1 : Nat) := by unfold wrap64; omega
              clear hown hgr
              go_wp2
              all_goals go_roundw
              case rel => exact ⟨k + 1, _, by omega, rfl, by go_num, HN, HB5⟩
              case measure => simp [intOf]; omega
            · have hk' : k = n := by omega
              subst hk'
              have hge : ¬ (0 : Int) ≤ (k : Int) - 1 - k := by omega
              have HO2 : Hid (OwnInts wr w.heap.size v (downL k)) := Lib.hid (by
                have := HO.out
                rwa [List.take_of_length_le (by rw [downL_len]; omega)] at this)
              go_wp2
              all_goals go_ret
              all_goals exact ⟨v, rfl, by rw [HPD.out]; exact HO2.out, HBL.out⟩
        · have d2 : decide ((0 : Int) < pv) = true := decide_eq_true (by omega)
          have d2' : (pv == 0) = false := by rw [beq_eq_false_iff_ne]; exact hv
          have d3 : decide (pv ≤ (n : Int)) = false := decide_eq_false (by omega)
          have d3' : decide ((n : Int) < pv) = true := decide_eq_true (by omega)
          have hw1 : wrap64 ((n : Int) - 1) = (n : Int) - 1 := by unfold wrap64; omega
          go_wp2_with (first | ((with_reducible refine wpList_load_field ?_ _ (.tmp 9) ?_ w.heap.size 7 ?_ 29 (sagaArr s) KB.out (.int .i64 1) ?_ one_int ?_); rotate_left; exact rfl; exact rfl; exact HX.out.h7; rotate_left; exact rfl) | ((with_reducible refine wpList_load_field_g ?_ _ (.tmp 13) ?_ w.heap.size 8 ?_ 29 (sagaArr s) KB.out (.int .i64 (n : Int)) ?_ one_int ?_); rotate_left; exact rfl; exact rfl; exact HX.out.h8; rotate_left; kernel_rfl) | ((with_reducible refine wpList_load_field_g ?_ _ (.tmp 15) ?_ w.heap.size 2 ?_ 29 (sagaArr s) KB.out (.int .i64 cn) ?_ one_int ?_); rotate_left; exact rfl; exact rfl; exact HX.out.h2; rotate_left; kernel_rfl) | ((with_reducible refine wpList_load_field_g ?_ _ (.tmp 20) ?_ w.heap.size 3 ?_ 29 (sagaArr s) KB.out (.int .i64 pv) ?_ one_int ?_); rotate_left; exact rfl; exact rfl; exact HX.out.h3; rotate_left; kernel_rfl) | ((with_reducible refine wpList_load_field_g ?_ _ (.tmp 24) ?_ w.heap.size 8 ?_ 29 (sagaArr s) KB.out (.int .i64 (n : Int)) ?_ one_int ?_); rotate_left; exact rfl; exact rfl; exact HX.out.h8; rotate_left; kernel_rfl) | ((with_reducible refine wpList_load_field_g ?_ _ (.tmp 26) ?_ w.heap.size 3 ?_ 29 (sagaArr s) KB.out (.int .i64 pv) ?_ one_int ?_); rotate_left; exact rfl; exact rfl; exact HX.out.h3; rotate_left; kernel_rfl) | ((with_reducible refine wpList_load_field_g ?_ _ (.tmp 34) ?_ w.heap.size 7 ?_ 29 (sagaArr s) KB.out (.int .i64 1) ?_ one_int ?_); rotate_left; exact rfl; exact rfl; exact HX.out.h7; rotate_left; kernel_rfl) | ((with_reducible refine wpList_load_field ?_ _ (.tmp 38) ?_ w.heap.size 8 ?_ 29 (sagaArr s) KB.out (.int .i64 (n : Int)) ?_ one_int ?_); rotate_left; exact rfl; exact rfl; exact HX.out.h8; rotate_left; exact rfl))
          go_loopw [4, 5] (fun sv i wr => ∃ (k : Nat) (v : Value), k ≤ n ∧ v = sv ∧ i = .int .i64 ((n : Int) - 1 - k) ∧ Hid (OwnInts wr w.heap.size v ((downL n).take k)) ∧ Hid (Below w.heap.size w wr)) (fun _ i _ => (intOf i + 1).toNat)
          case atStart => exact ⟨0, _, by omega, rfl, by go_num, Lib.hid (OwnInts.nil _ _), HB2⟩
          case round =>
            obtain ⟨k, v, hk, rfl, rfl, HO, HBL⟩ := hrel
            by_cases hlt : k < n
            · have hk2 : k < (downL n).length := by rw [downL_len]; omega
              have hsn := take_snoc' (downL n) k hk2
              rw [downL_get n k hk2] at hsn
              have HSN := Lib.hid hsn
              have hlen : ((downL n).take k).length = k := by rw [List.length_take, downL_len]; omega
              have hge : (0 : Int) ≤ (n : Int) - 1 - k := by omega
              have hsz := HBL.out.size
              clear hsn
              go_wp2_with (at_builtin; refine wpList_append_row _ rfl (.tmp 45) (.tmp 47) 80 rfl w.heap.size 3 (.int .i64 0) 8 Tryz.underlying80 infoInt rfl _ _ _ rfl (World.ownsRow.alloc HO.out _) ⟨some ⟨wr.heap.size, 0, none⟩, 1, 1⟩ [.int .i64 ((n : Int) - 1 - k)] rfl (RowAt.of_lit1 wr _ _) (by simp [Value.oneCell']) ?c1 ?c2 ?c3 ?_)
              case c1 => simp only [maxLen]; omega
              case c2 => omega
              case c3 => simp; omega
              intro v' w3 hown hgr
              have HN : Hid (OwnInts w3 w.heap.size v' ((downL n).take (k + 1))) := Lib.hid (by
                rw [HSN.out]
                unfold OwnInts
                rw [List.length_append, List.map_append, hlen, List.map_take]
                exact hown)
              have HB5 : Hid (Below w.heap.size w w3) := Lib.hid ((boxd (o := .cells #[.int .i64 ((n : Int) - 1 - k)] 3) HBL.out).grown hgr (by simp; omega) (fun q hq => (HO.out.lt q hq).1))
              have hw2 : wrap64 ((n : Int) - 1 - k - 1) = (n : Int) - 1 - (k + 1 : Nat) := by unfold wrap64; omega
              clear hown hgr
              go_wp2
              all_goals go_roundw
              case rel => exact ⟨k + 1, _, by omega, rfl, by go_num, HN, HB5⟩
              case measure => simp [intOf]; omega
            · have hk' : k = n := by omega
              subst hk'
              have hge : ¬ (0 : Int) ≤ (k : Int) - 1 - k := by omega
              have HO2 : Hid (OwnInts wr w.heap.size v (downL k)) := Lib.hid (by
                have := HO.out
                rwa [List.take_of_length_le (by rw [downL_len]; omega)] at this)
              go_wp2
              all_goals go_ret
              all_goals exact ⟨v, rfl, by rw [HPD.out]; exact HO2.out, HBL.out⟩
      · rw [if_pos (by omega)] at hP
        have HPD := Lib.hid hP
        clear hP hbd
        by_cases hc : nx = cn
        · subst hc
          go_wp2_with (first | ((with_reducible refine wpList_load_field ?_ _ (.tmp 9) ?_ w.heap.size 7 ?_ 29 (sagaArr s) KB.out (.int .i64 1) ?_ one_int ?_); rotate_left; exact rfl; exact rfl; exact HX.out.h7; rotate_left; exact rfl) | ((with_reducible refine wpList_load_field_g ?_ _ (.tmp 13) ?_ w.heap.size 8 ?_ 29 (sagaArr s) KB.out (.int .i64 nx) ?_ one_int ?_); rotate_left; exact rfl; exact rfl; exact HX.out.h8; rotate_left; kernel_rfl) | ((with_reducible refine wpList_load_field_g ?_ _ (.tmp 15) ?_ w.heap.size 2 ?_ 29 (sagaArr s) KB.out (.int .i64 nx) ?_ one_int ?_); rotate_left; exact rfl; exact rfl; exact HX.out.h2; rotate_left; kernel_rfl) | ((with_reducible refine wpList_load_field_g ?_ _ (.tmp 20) ?_ w.heap.size 3 ?_ 29 (sagaArr s) KB.out (.int .i64 pv) ?_ one_int ?_); rotate_left; exact rfl; exact rfl; exact HX.out.h3; rotate_left; kernel_rfl) | ((with_reducible refine wpList_load_field_g ?_ _ (.tmp 24) ?_ w.heap.size 8 ?_ 29 (sagaArr s) KB.out (.int .i64 nx) ?_ one_int ?_); rotate_left; exact rfl; exact rfl; exact HX.out.h8; rotate_left; kernel_rfl) | ((with_reducible refine wpList_load_field_g ?_ _ (.tmp 26) ?_ w.heap.size 3 ?_ 29 (sagaArr s) KB.out (.int .i64 pv) ?_ one_int ?_); rotate_left; exact rfl; exact rfl; exact HX.out.h3; rotate_left; kernel_rfl) | ((with_reducible refine wpList_load_field_g ?_ _ (.tmp 34) ?_ w.heap.size 7 ?_ 29 (sagaArr s) KB.out (.int .i64 1) ?_ one_int ?_); rotate_left; exact rfl; exact rfl; exact HX.out.h7; rotate_left; kernel_rfl))
          all_goals go_ret
          all_goals exact ⟨_, rfl, by rw [HPD.out]; exact OwnInts.nil _ _, HB2.out⟩
        · have d1 : (nx == cn) = false := by rw [beq_eq_false_iff_ne]; exact hc
          have d1' : decide (nx < cn) = true := decide_eq_true (by omega)
          have d2 : decide ((0 : Int) < pv) = true := decide_eq_true (by omega)
          have d2' : (pv == 0) = false := by rw [beq_eq_false_iff_ne]; omega
          have d3 : decide (pv ≤ nx) = true := decide_eq_true (by omega)
          have d3' : decide (nx < pv) = false := decide_eq_false (by omega)
          go_wp2_with (first | ((with_reducible refine wpList_load_field ?_ _ (.tmp 9) ?_ w.heap.size 7 ?_ 29 (sagaArr s) KB.out (.int .i64 1) ?_ one_int ?_); rotate_left; exact rfl; exact rfl; exact HX.out.h7; rotate_left; exact rfl) | ((with_reducible refine wpList_load_field_g ?_ _ (.tmp 13) ?_ w.heap.size 8 ?_ 29 (sagaArr s) KB.out (.int .i64 nx) ?_ one_int ?_); rotate_left; exact rfl; exact rfl; exact HX.out.h8; rotate_left; kernel_rfl) | ((with_reducible refine wpList_load_field_g ?_ _ (.tmp 15) ?_ w.heap.size 2 ?_ 29 (sagaArr s) KB.out (.int .i64 cn) ?_ one_int ?_); rotate_left; exact rfl; exact rfl; exact HX.out.h2; rotate_left; kernel_rfl) | ((with_reducible refine wpList_load_field_g ?_ _ (.tmp 20) ?_ w.heap.size 3 ?_ 29 (sagaArr s) KB.out (.int .i64 pv) ?_ one_int ?_); rotate_left; exact rfl; exact rfl; exact HX.out.h3; rotate_left; kernel_rfl) | ((with_reducible refine wpList_load_field_g ?_ _ (.tmp 24) ?_ w.heap.size 8 ?_ 29 (sagaArr s) KB.out (.int .i64 nx) ?_ one_int ?_); rotate_left; exact rfl; exact rfl; exact HX.out.h8; rotate_left; kernel_rfl) | ((with_reducible refine wpList_load_field_g ?_ _ (.tmp 26) ?_ w.heap.size 3 ?_ 29 (sagaArr s) KB.out (.int .i64 pv) ?_ one_int ?_); rotate_left; exact rfl; exact rfl; exact HX.out.h3; rotate_left; kernel_rfl) | ((with_reducible refine wpList_load_field_g ?_ _ (.tmp 34) ?_ w.heap.size 7 ?_ 29 (sagaArr s) KB.out (.int .i64 1) ?_ one_int ?_); rotate_left; exact rfl; exact rfl; exact HX.out.h7; rotate_left; kernel_rfl))
          all_goals go_ret
          all_goals exact ⟨_, rfl, by rw [HPD.out]; exact OwnInts.nil _ _, HB2.out⟩
    · rw [if_neg (by omega)] at hP
      obtain ⟨n, rfl⟩ : ∃ n : Nat, nx = (n : Int) := ⟨nx.toNat, by omega⟩
      rw [Int.toNat_natCast] at hP
      have HPD := Lib.hid hP
      clear hP hbd
      have hw1 : wrap64 ((n : Int) - 1) = (n : Int) - 1 := by unfold wrap64; omega
      go_wp2_with (first | ((with_reducible refine wpList_load_field ?_ _ (.tmp 9) ?_ w.heap.size 7 ?_ 29 (sagaArr s) KB.out (.int .i64 2) ?_ one_int ?_); rotate_left; exact rfl; exact rfl; exact HX.out.h7; rotate_left; exact rfl) | ((with_reducible refine wpList_load_field_g ?_ _ (.tmp 13) ?_ w.heap.size 8 ?_ 29 (sagaArr s) KB.out (.int .i64 (n : Int)) ?_ one_int ?_); rotate_left; exact rfl; exact rfl; exact HX.out.h8; rotate_left; kernel_rfl) | ((with_reducible refine wpList_load_field_g ?_ _ (.tmp 15) ?_ w.heap.size 2 ?_ 29 (sagaArr s) KB.out (.int .i64 cn) ?_ one_int ?_); rotate_left; exact rfl; exact rfl; exact HX.out.h2; rotate_left; kernel_rfl) | ((with_reducible refine wpList_load_field_g ?_ _ (.tmp 20) ?_ w.heap.size 3 ?_ 29 (sagaArr s) KB.out (.int .i64 pv) ?_ one_int ?_); rotate_left; exact rfl; exact rfl; exact HX.out.h3; rotate_left; kernel_rfl) | ((with_reducible refine wpList_load_field_g ?_ _ (.tmp 24) ?_ w.heap.size 8 ?_ 29 (sagaArr s) KB.out (.int .i64 (n : Int)) ?_ one_int ?_); rotate_left; exact rfl; exact rfl; exact HX.out.h8; rotate_left; kernel_rfl) | ((with_reducible refine wpList_load_field_g ?_ _ (.tmp 26) ?_ w.heap.size 3 ?_ 29 (sagaArr s) KB.out (.int .i64 pv) ?_ one_int ?_); rotate_left; exact rfl; exact rfl; exact HX.out.h3; rotate_left; kernel_rfl) | ((with_reducible refine wpList_load_field_g ?_ _ (.tmp 34) ?_ w.heap.size 7 ?_ 29 (sagaArr s) KB.out (.int .i64 2) ?_ one_int ?_); rotate_left; exact rfl; exact rfl; exact HX.out.h7; rotate_left; kernel_rfl) | ((with_reducible refine wpList_load_field ?_ _ (.tmp 38) ?_ w.heap.size 8 ?_ 29 (sagaArr s) KB.out (.int .i64 (n : Int)) ?_ one_int ?_); rotate_left; exact rfl; exact rfl; exact HX.out.h8; rotate_left; exact rfl))
      go_loopw [4, 5] (fun sv i wr => ∃ (k : Nat) (v : Value), k ≤ n ∧ v = sv ∧ i = .int .i64 ((n : Int) - 1 - k) ∧ Hid (OwnInts wr w.heap.size v ((downL n).take k)) ∧ Hid (Below w.heap.size w wr)) (fun _ i _ => (intOf i + 1).toNat)
      case atStart => exact ⟨0, _, by omega, rfl, by go_num, Lib.hid (OwnInts.nil _ _), HB2⟩
      case round =>
        obtain ⟨k, v, hk, rfl, rfl, HO, HBL⟩ := hrel
        by_cases hlt : k < n
        · have hk2 : k < (downL n).length := by rw [downL_len]; omega
          have hsn := take_snoc' (downL n) k hk2
          rw [downL_get n k hk2] at hsn
          have HSN := Lib.hid hsn
          have hlen : ((downL n).take k).length = k := by rw [List.length_take, downL_len]; omega
          have hge : (0 : Int) ≤ (n : Int) - 1 - k := by omega
          have hsz := HBL.out.size
          clear hsn
          go_wp2_with (at_builtin; refine wpList_append_row _ rfl (.tmp 45) (.tmp 47) 80 rfl w.heap.size 3 (.int .i64 0) 8 Tryz.underlying80 infoInt rfl _ _ _ rfl (World.ownsRow.alloc HO.out _) ⟨some ⟨wr.heap.size, 0, none⟩, 1, 1⟩ [.int .i64 ((n : Int) - 1 - k)] rfl (RowAt.of_lit1 wr _ _) (by simp [Value.oneCell']) ?c1 ?c2 ?c3 ?_)
          case c1 => simp only [maxLen]; omega
          case c2 => omega
          case c3 => simp; omega
          intro v' w3 hown hgr
          have HN : Hid (OwnInts w3 w.heap.size v' ((downL n).take (k + 1))) := Lib.hid (by
            rw [HSN.out]
            unfold OwnInts
            rw [List.length_append, List.map_append, hlen, List.map_take]
            exact hown)
          have HB5 : Hid (Below w.heap.size w w3) := Lib.hid ((boxd (o := .cells #[.int .i64 ((n : Int) - 1 - k)] 3) HBL.out).grown hgr (by simp; omega) (fun q hq => (HO.out.lt q hq).1))
          have hw2 : wrap64 ((n : Int) - 1 - k - 1) = (n : Int) - 1 - (k + 1 : Nat) := by unfold wrap64; omega
          clear hown hgr
          go_wp2
          all_goals go_roundw
          case rel => exact ⟨k + 1, _, by omega, rfl, by go_num, HN, HB5⟩
          case measure => simp [intOf]; omega
        · have hk' : k = n := by omega
          subst hk'
          have hge : ¬ (0 : Int) ≤ (k : Int) - 1 - k := by omega
          have HO2 : Hid (OwnInts wr w.heap.size v (downL k)) := Lib.hid (by
            have := HO.out
            rwa [List.take_of_length_le (by rw [downL_len]; omega)] at this)
          go_wp2
          all_goals go_ret
          all_goals exact ⟨v, rfl, by rw [HPD.out]; exact HO2.out, HBL.out⟩
    · rw [if_pos (by omega)] at hP
      have HPD := Lib.hid hP
      clear hP hbd
      go_wp2_with (first | ((with_reducible refine wpList_load_field ?_ _ (.tmp 9) ?_ w.heap.size 7 ?_ 29 (sagaArr s) KB.out (.int .i64 3) ?_ one_int ?_); rotate_left; exact rfl; exact rfl; exact HX.out.h7; rotate_left; exact rfl) | ((with_reducible refine wpList_load_field_g ?_ _ (.tmp 13) ?_ w.heap.size 8 ?_ 29 (sagaArr s) KB.out (.int .i64 nx) ?_ one_int ?_); rotate_left; exact rfl; exact rfl; exact HX.out.h8; rotate_left; kernel_rfl) | ((with_reducible refine wpList_load_field_g ?_ _ (.tmp 15) ?_ w.heap.size 2 ?_ 29 (sagaArr s) KB.out (.int .i64 cn) ?_ one_int ?_); rotate_left; exact rfl; exact rfl; exact HX.out.h2; rotate_left; kernel_rfl) | ((with_reducible refine wpList_load_field_g ?_ _ (.tmp 20) ?_ w.heap.size 3 ?_ 29 (sagaArr s) KB.out (.int .i64 pv) ?_ one_int ?_); rotate_left; exact rfl; exact rfl; exact HX.out.h3; rotate_left; kernel_rfl) | ((with_reducible refine wpList_load_field_g ?_ _ (.tmp 24) ?_ w.heap.size 8 ?_ 29 (sagaArr s) KB.out (.int .i64 nx) ?_ one_int ?_); rotate_left; exact rfl; exact rfl; exact HX.out.h8; rotate_left; kernel_rfl) | ((with_reducible refine wpList_load_field_g ?_ _ (.tmp 26) ?_ w.heap.size 3 ?_ 29 (sagaArr s) KB.out (.int .i64 pv) ?_ one_int ?_); rotate_left; exact rfl; exact rfl; exact HX.out.h3; rotate_left; kernel_rfl) | ((with_reducible refine wpList_load_field_g ?_ _ (.tmp 34) ?_ w.heap.size 7 ?_ 29 (sagaArr s) KB.out (.int .i64 3) ?_ one_int ?_); rotate_left; exact rfl; exact rfl; exact HX.out.h7; rotate_left; kernel_rfl))
      all_goals go_ret
      all_goals exact ⟨_, rfl, by rw [HPD.out]; exact OwnInts.nil _ _, HB2.out⟩
    · rw [if_pos (by omega)] at hP
      have HPD := Lib.hid hP
      clear hP hbd
      go_wp2_with (first | ((with_reducible refine wpList_load_field ?_ _ (.tmp 9) ?_ w.heap.size 7 ?_ 29 (sagaArr s) KB.out (.int .i64 4) ?_ one_int ?_); rotate_left; exact rfl; exact rfl; exact HX.out.h7; rotate_left; exact rfl) | ((with_reducible refine wpList_load_field_g ?_ _ (.tmp 13) ?_ w.heap.size 8 ?_ 29 (sagaArr s) KB.out (.int .i64 nx) ?_ one_int ?_); rotate_left; exact rfl; exact rfl; exact HX.out.h8; rotate_left; kernel_rfl) | ((with_reducible refine wpList_load_field_g ?_ _ (.tmp 15) ?_ w.heap.size 2 ?_ 29 (sagaArr s) KB.out (.int .i64 cn) ?_ one_int ?_); rotate_left; exact rfl; exact rfl; exact HX.out.h2; rotate_left; kernel_rfl) | ((with_reducible refine wpList_load_field_g ?_ _ (.tmp 20) ?_ w.heap.size 3 ?_ 29 (sagaArr s) KB.out (.int .i64 pv) ?_ one_int ?_); rotate_left; exact rfl; exact rfl; exact HX.out.h3; rotate_left; kernel_rfl) | ((with_reducible refine wpList_load_field_g ?_ _ (.tmp 24) ?_ w.heap.size 8 ?_ 29 (sagaArr s) KB.out (.int .i64 nx) ?_ one_int ?_); rotate_left; exact rfl; exact rfl; exact HX.out.h8; rotate_left; kernel_rfl) | ((with_reducible refine wpList_load_field_g ?_ _ (.tmp 26) ?_ w.heap.size 3 ?_ 29 (sagaArr s) KB.out (.int .i64 pv) ?_ one_int ?_); rotate_left; exact rfl; exact rfl; exact HX.out.h3; rotate_left; kernel_rfl) | ((with_reducible refine wpList_load_field_g ?_ _ (.tmp 34) ?_ w.heap.size 7 ?_ 29 (sagaArr s) KB.out (.int .i64 4) ?_ one_int ?_); rotate_left; exact rfl; exact rfl; exact HX.out.h7; rotate_left; kernel_rfl))
      all_goals go_ret
      all_goals exact ⟨_, rfl, by rw [HPD.out]; exact OwnInts.nil _ _, HB2.out⟩
  · rw [if_pos (by decide)] at hP
    have HPD := Lib.hid hP
    clear hP hbd
    go_wp2_with (first | ((with_reducible refine wpList_load_field ?_ _ (.tmp 9) ?_ w.heap.size 7 ?_ 29 (sagaArr s) KB.out (.int .i64 ph) ?_ one_int ?_); rotate_left; exact rfl; exact rfl; exact HX.out.h7; rotate_left; exact rfl) | ((with_reducible refine wpList_load_field_g ?_ _ (.tmp 13) ?_ w.heap.size 8 ?_ 29 (sagaArr s) KB.out (.int .i64 nx) ?_ one_int ?_); rotate_left; exact rfl; exact rfl; exact HX.out.h8; rotate_left; kernel_rfl) | ((with_reducible refine wpList_load_field_g ?_ _ (.tmp 15) ?_ w.heap.size 2 ?_ 29 (sagaArr s) KB.out (.int .i64 cn) ?_ one_int ?_); rotate_left; exact rfl; exact rfl; exact HX.out.h2; rotate_left; kernel_rfl) | ((with_reducible refine wpList_load_field_g ?_ _ (.tmp 20) ?_ w.heap.size 3 ?_ 29 (sagaArr s) KB.out (.int .i64 pv) ?_ one_int ?_); rotate_left; exact rfl; exact rfl; exact HX.out.h3; rotate_left; kernel_rfl) | ((with_reducible refine wpList_load_field_g ?_ _ (.tmp 24) ?_ w.heap.size 8 ?_ 29 (sagaArr s) KB.out (.int .i64 nx) ?_ one_int ?_); rotate_left; exact rfl; exact rfl; exact HX.out.h8; rotate_left; kernel_rfl) | ((with_reducible refine wpList_load_field_g ?_ _ (.tmp 26) ?_ w.heap.size 3 ?_ 29 (sagaArr s) KB.out (.int .i64 pv) ?_ one_int ?_); rotate_left; exact rfl; exact rfl; exact HX.out.h3; rotate_left; kernel_rfl) | ((with_reducible refine wpList_load_field_g ?_ _ (.tmp 34) ?_ w.heap.size 7 ?_ 29 (sagaArr s) KB.out (.int .i64 ph) ?_ one_int ?_); rotate_left; exact rfl; exact rfl; exact HX.out.h7; rotate_left; kernel_rfl))
    all_goals go_ret
    all_goals exact ⟨_, rfl, by rw [HPD.out]; exact OwnInts.nil _ _, HB2.out⟩
end Go.Proofs.YteaiadpigpehaaaGreatDoor
namespace Go.Proofs.YteaiadpigpehaaaGreatDoor
open Go.RowKit

def tryL : List Int := [2, 3, 4, 5, 6, 7]
theorem own_other {w w' : World} {B g : Nat} {v : Value} {l : List Int} {cs : Array Value} {t : TypeId} (h : OwnInts w B v l) (hg : BlkAt w g cs t) (hw : Wrote w w' g) (ht : t ≠ 3) : OwnInts w' B v l :=
  own_heap h (fun k cur hc => hw.other k (fun e => by
    subst e
    rw [show w.heap[k]? = _ from hg] at hc
    simp at hc
    exact ht hc.2))
theorem tryL_get (j : Nat) (h : j < tryL.length) : tryL[j] = 2 + (j : Int) := by
  have : j = 0 ∨ j = 1 ∨ j = 2 ∨ j = 3 ∨ j = 4 ∨ j = 5 := by simp [tryL] at h; omega
  rcases this with rfl | rfl | rfl | rfl | rfl | rfl <;> rfl
set_option maxRecDepth 10000000 in
set_option maxHeartbeats 8000000 in
theorem ref10Allowed_any (s : SagaV) (D : SagaD) (w : World) (ht : RefTabs w) (hs : SagaRd w s D) (hf : RefSaga D) :
    Calls Tryz.prog 49 #[s.val] w fun e w' => ∃ v, e = .returned v ∧ OwnInts w' w.heap.size v (allowedD D) ∧ Below w.heap.size w w' := by
  have k0 := BlkAt.new w (sagaArr s) 29
  have hb1 := boxd (o := .cells (sagaArr s) 29) (Below.refl w.heap.size w)
  have cC := Lib.hid (ref10Check_any s D _ (ht.below hb1) (hs.below hb1) hf.small hf.name hf.begun hf.at_ hf.told)
  have HX := Lib.hid (ask_v hs)
  have HB := Lib.hid hb1
  have hor := checkD_or D
  obtain ⟨id, hid⟩ : ∃ q, D.id = q := ⟨_, rfl⟩
  obtain ⟨cn, hcn⟩ : ∃ q, D.count = q := ⟨_, rfl⟩
  obtain ⟨pv, hpv⟩ : ∃ q, D.pivot = q := ⟨_, rfl⟩
  obtain ⟨ph, hph⟩ : ∃ q, D.phase = q := ⟨_, rfl⟩
  obtain ⟨nx, hnx⟩ : ∃ q, D.next = q := ⟨_, rfl⟩
  obtain ⟨tr, htr⟩ : ∃ q, D.tries = q := ⟨_, rfl⟩
  rw [hid, hcn, hpv, hph, hnx, htr] at HX
  obtain ⟨tm, htm⟩ : ∃ q, min (tr + 1) 1000 = q := ⟨_, rfl⟩
  obtain ⟨st, hst⟩ : ∃ q, (if ph = 2 then wrap64 (nx - 1) else nx) = q := ⟨_, rfl⟩
  have hW : ∀ k : Int, askR D k = ⟨3, k, id, if k = 7 then 0 else st, tm, 0, 0, 0, 0, 0, ⟨#[]⟩, []⟩ := by
    intro k
    unfold askR
    rw [hid, hph, hnx, htr, htm, hst]
  have hgood : checkD D = 0 → (0 ≤ nx ∧ nx ≤ 1000) ∧ (0 ≤ tr ∧ tr ≤ 1000) ∧ ([2, 3, 4, 5, 6, 7] : List Int).filter (fun k => decide (refN s ((askR D k).words nilSl) = 0)) = allowedD D := fun h => by
    have hg := (checkD_iff D).1 h
    rw [← hnx, ← htr]
    refine ⟨hg.nextb, ⟨hg.plain.tries0, hg.plain.tries1000⟩, ?_⟩
    have := allow_eq hg s.input s.outs s.undos s.fail nilSl
    rw [← hs.eq] at this
    exact this
  have hsn : s.next = nx := by rw [← hnx, hs.eq]
  have hst0 : s.tries = tr := by rw [← htr, hs.eq]
  have hP : checkD D ≠ 0 → allowedD D = [] := fun h => by unfold allowedD; rw [if_pos (.inl h)]
  obtain ⟨P, hPq⟩ : ∃ q, allowedD D = q := ⟨_, rfl⟩
  rw [hPq] at hP hgood ⊢
  obtain ⟨C, hC⟩ : ∃ q, checkD D = q := ⟨_, rfl⟩
  rw [hC] at cC hP hgood hor
  simp only [hW] at hgood
  have cR : ∀ (k : Int) W, 2 ≤ k ∧ k ≤ 7 → (0 ≤ nx ∧ nx ≤ 1000) → (0 ≤ tr ∧ tr ≤ 1000) → Calls Tryz.prog 78 #[s.val, (⟨3, k, id, if k = 7 then 0 else st, tm, 0, 0, 0, 0, 0, ⟨#[]⟩, nilSl⟩ : RecV).val] W fun e w' => e = .returned (.int .i64 (refN s (⟨3, k, id, if k = 7 then 0 else st, tm, 0, 0, 0, 0, 0, ⟨#[]⟩, nilSl⟩ : RecV))) ∧ Below W.heap.size W w' := fun k W hk hn ht => ref10Refused_any s _ W (by rw [hsn]; exact hn) (by rw [hst0]; exact ht) ⟨by show 1 ≤ k; omega, hk.2⟩
  have hgood2 : C = 0 → (0 ≤ nx ∧ nx ≤ 1000) ∧ (0 ≤ tr ∧ tr ≤ 1000) ∧ tryL.filter (fun k => decide (refN s (⟨3, k, id, if k = 7 then 0 else st, tm, 0, 0, 0, 0, 0, ⟨#[]⟩, nilSl⟩ : RecV) = 0)) = P := hgood
  generalize hRF : (fun k : Int => refN s (⟨3, k, id, if k = 7 then 0 else st, tm, 0, 0, 0, 0, 0, ⟨#[]⟩, nilSl⟩ : RecV)) = RF at hgood2
  have hRk : ∀ k : Int, refN s (⟨3, k, id, if k = 7 then 0 else st, tm, 0, 0, 0, 0, 0, ⟨#[]⟩, nilSl⟩ : RecV) = RF k := fun k => congrFun hRF k
  simp only [hRk] at cR hgood2
  have CR := Lib.hid cR
  clear hPq hC hid hcn hpv hph hnx htr hs hf ht hb1 hW hgood hsn hst0 cR hRF hRk
  clear D
  go_enter Tryz.func49, Tryz.ntmps49
  go_wp2_with (refine wpList_load_blk rfl _ _ rfl _ rfl _ _ k0 rowSaga ?_)
  refine cC.out.mono ?_
  rintro e w2 ⟨rfl, hb⟩
  have KB := Lib.hid (k0.below hb (by simp))
  have HB2 := Lib.hid (then_ HB.out hb)
  clear hb k0 HB cC
  rcases hor with rfl | rfl
  · obtain ⟨⟨n0, n1⟩, ⟨t0, t1⟩, hF⟩ := hgood2 rfl
    have HF := Lib.hid hF
    have HTM := Lib.hid htm
    have HST := Lib.hid hst
    clear hgood2 hP hF htm hst
    have hw : wrap64 (nx - 1) = nx - 1 := wrap_small (by omega) (by omega)
    by_cases h1 : 1000 < tr + 1
    · have e : tm = 1000 := by have := HTM.out; omega
      subst e
      by_cases h2 : ph = 2
      · subst h2
        have e : st = nx - 1 := by rw [← HST.out, if_pos rfl, hw]
        subst e
        clear HTM HST
        go_wp2_with (first | ((with_reducible refine wpList_load_field ?_ _ (.tmp 14) ?_ w.heap.size 10 ?_ 29 (sagaArr s) KB.out (.int .i64 tr) ?_ one_int ?_); rotate_left; exact rfl; exact rfl; exact HX.out.h10; rotate_left; exact rfl) | ((with_reducible refine wpList_load_field ?_ _ (.tmp 19) ?_ w.heap.size 8 ?_ 29 (sagaArr s) KB.out (.int .i64 nx) ?_ one_int ?_); rotate_left; exact rfl; exact rfl; exact HX.out.h8; rotate_left; exact rfl) | ((with_reducible refine wpList_load_field ?_ _ (.tmp 21) ?_ w.heap.size 7 ?_ 29 (sagaArr s) KB.out (.int .i64 2) ?_ one_int ?_); rotate_left; exact rfl; exact rfl; exact HX.out.h7; rotate_left; exact rfl) | ((with_reducible refine wpList_load_field ?_ _ (.tmp 24) ?_ w.heap.size 8 ?_ 29 (sagaArr s) KB.out (.int .i64 nx) ?_ one_int ?_); rotate_left; exact rfl; exact rfl; exact HX.out.h8; rotate_left; exact rfl))
        go_loopw [6, 7] (fun sv i wr => ∃ (j : Nat) (v : Value), j ≤ 6 ∧ v = sv ∧ i = .int .i64 (2 + (j : Int)) ∧ Hid (OwnInts wr w.heap.size v ((tryL.take j).filter (fun k => decide (RF k = 0)))) ∧ Hid (Below w.heap.size w wr) ∧ Hid (BlkAt wr w.heap.size (sagaArr s) 29)) (fun _ i _ => (8 - intOf i).toNat)
        case atStart => exact ⟨0, _, by omega, rfl, by go_num, Lib.hid (OwnInts.nil _ _), HB2, KB⟩
        case round =>
          clear HB2 KB
          obtain ⟨j, v, hj, rfl, rfl, HO, HBL, KB⟩ := hrel
          by_cases hlt : j < 6
          · have hle : (2 : Int) + j ≤ 7 := by omega
            have hj2 : j < tryL.length := by simp [tryL]; omega
            obtain ⟨wA, hwA⟩ : ∃ q, wr.alloc (.cells (recArr (⟨3, 2 + (j : Int), id, (nx - 1), 1000, 0, 0, 0, 0, 0, ⟨#[]⟩, nilSl⟩ : RecV)) 31) = q := ⟨_, rfl⟩
            have hbA : Below wr.heap.size wr wA := by rw [← hwA]; exact boxd (Below.refl _ _)
            have KA : Hid (BlkAt wA wr.heap.size (recArr (⟨3, 2 + (j : Int), id, (nx - 1), 1000, 0, 0, 0, 0, 0, ⟨#[]⟩, nilSl⟩ : RecV)) 31) := Lib.hid (by rw [← hwA]; exact BlkAt.new _ _ _)
            have KBA := Lib.hid (KB.out.below hbA (blk_lt KB.out))
            have HOA := Lib.hid (HO.out.through hbA)
            have HBA := Lib.hid (then_ HBL.out hbA)
            have hlt2 := blk_lt KB.out
            dsimp only [recArr, nilSl, Sl.v] at hwA
            have HWA := Lib.hid hwA
            clear hwA hbA
            go_upto_region 15 with (first | ((with_reducible refine wpList_load_field ?_ _ (.tmp 32) ?_ w.heap.size 0 ?_ 29 (sagaArr s) KB.out (.int .i64 id) ?_ one_int ?_); rotate_left; exact rfl; exact rfl; exact HX.out.h0; rotate_left; exact rfl))
            rw [HWA.out]
            clear HWA HO HBL KB
            by_cases h7 : j = 5
            · subst h7
              have hle5 : ((2 : Int) + (5 : Nat) == 7) = true := by decide
              go_upto_region 17 with (refine wpList_store_one rfl _ _ _ rfl wr.heap.size 3 rfl (.int .i64 0) rfl _ _ KA.out (by simp [recArr]) rfl size_int ?_; intro wS hwS K; have KAX : Hid (BlkAt wS wr.heap.size (recArr (⟨3, 7, id, 0, 1000, 0, 0, 0, 0, 0, ⟨#[]⟩, nilSl⟩ : RecV)) 31) := Lib.hid K; have KBX := Lib.hid (hwS.blk KBA.out (by omega)); have HBX := Lib.hid (hwS.below HBA.out (by omega)); have HOX := Lib.hid (show OwnInts wS w.heap.size v _ from own_other HOA.out KA.out hwS (by decide)); clear hwS K)
              clear KA KBA HOA HBA
              have CRK := Lib.hid (CR.out 7 wS (by decide) ⟨n0, n1⟩ ⟨t0, t1⟩)
              rw [if_pos (by decide)] at CRK
              go_wp2_with (first
                | ((with_reducible refine wpList_load_blk ?_ _ (.tmp 1) ?_ _ ?_ _ _ KBX.out rowSaga ?_); rotate_left; exact rfl; exact rfl; rotate_left; exact rfl)
                | ((with_reducible refine wpList_load_blk ?_ _ (.tmp 8) ?_ _ ?_ _ _ KAX.out rowRec ?_); rotate_left; exact rfl; exact rfl; rotate_left; exact rfl))
              refine CRK.out.mono ?_
              rintro e w5 ⟨rfl, hb⟩
              have HO5 := Lib.hid (HOX.out.through hb)
              have KB5 := Lib.hid (KBX.out.below hb (blk_lt KBX.out))
              have HB5 := Lib.hid (then_ HBX.out hb)
              have hsz5 := HB5.out.size
              clear hb CRK KAX KBX HOX HBX
              obtain ⟨f, hf⟩ : ∃ q, RF 7 = q := ⟨_, rfl⟩
              rw [hf]
              by_cases hz : f = 0
              · subst hz
                have HF5 : Hid ((tryL.take 6).filter (fun k => decide (RF k = 0)) = (tryL.take 5).filter (fun k => decide (RF k = 0)) ++ [7]) := Lib.hid (by
                  show List.filter _ (tryL.take (5 + 1)) = _
                  rw [take_snoc' tryL 5 hj2, tryL_get, List.filter_append]
                  simp [hf])
                obtain ⟨L, hL⟩ : ∃ q, (tryL.take 5).filter (fun k => decide (RF k = 0)) = q := ⟨_, rfl⟩
                have hLl : L.length ≤ 6 := by rw [← hL]; exact Nat.le_trans (List.length_filter_le _ _) (by rw [List.length_take]; simp [tryL])
                rw [hL] at HO5 HF5
                clear hL hf
                go_wp2_with (at_builtin; refine wpList_append_row _ rfl (.tmp 45) (.tmp 47) 80 rfl w.heap.size 3 (.int .i64 0) 8 Tryz.underlying80 infoInt rfl _ _ _ rfl (World.ownsRow.alloc HO5.out _) ⟨some ⟨w5.heap.size, 0, none⟩, 1, 1⟩ [.int .i64 7] rfl (RowAt.of_lit1 w5 _ _) (by simp [Value.oneCell']) ?c1 ?c2 ?c3 ?_)
                case c1 => simp only [maxLen]; omega
                case c2 => omega
                case c3 => simp; omega
                intro v' w6 hown hgr
                have HN : Hid (OwnInts w6 w.heap.size v' ((tryL.take 6).filter (fun k => decide (RF k = 0)))) := Lib.hid (by
                  rw [HF5.out]
                  unfold OwnInts
                  rw [List.length_append, List.map_append]
                  exact hown)
                have HB6 : Hid (Below w.heap.size w w6) := Lib.hid ((boxd (o := .cells #[.int .i64 7] 3) HB5.out).grown hgr (by simp; omega) (fun q hq => (HO5.out.lt q hq).1))
                have KB6 : Hid (BlkAt w6 w.heap.size (sagaArr s) 29) := Lib.hid (blk_grown (KB5.out.push _) hgr (Ne.symm (own_ne_blk HO5.out KB5.out (by decide))))
                have hwk : wrap64 (7 + 1) = 2 + ((6 : Nat) : Int) := by unfold wrap64; omega
                clear hown hgr HO5 HF5
                go_wp2
                all_goals go_roundw
                case rel => exact ⟨6, _, by omega, rfl, by go_num, HN, HB6, KB6⟩
                case measure => simp [intOf]
              · have hz2 : (f == 0) = false := by rw [beq_eq_false_iff_ne]; exact hz
                have HN : Hid (OwnInts w5 w.heap.size v ((tryL.take 6).filter (fun k => decide (RF k = 0)))) := Lib.hid (by
                  have := HO5.out
                  show OwnInts w5 w.heap.size v (List.filter _ (tryL.take (5 + 1)))
                  rw [take_snoc' tryL 5 hj2, tryL_get, List.filter_append]
                  simpa [hf, hz] using this)
                have hwk : wrap64 (7 + 1) = 2 + ((6 : Nat) : Int) := by unfold wrap64; omega
                clear HO5 hf
                go_wp2
                all_goals go_roundw
                case rel => exact ⟨6, _, by omega, rfl, by go_num, HN, HB5, KB5⟩
                case measure => simp [intOf]
            · have hk7 : (2 + (j : Int) == 7) = false := by rw [beq_eq_false_iff_ne]; omega
              have CRK := Lib.hid (CR.out (2 + (j : Int)) wA ⟨by omega, by omega⟩ ⟨n0, n1⟩ ⟨t0, t1⟩)
              rw [if_neg (by omega)] at CRK
              have KAX := KA
              have KBX := KBA
              have HOX := HOA
              have HBX := HBA
              clear KA KBA HOA HBA
              go_wp2_with (first
                | ((with_reducible refine wpList_load_blk ?_ _ (.tmp 1) ?_ _ ?_ _ _ KBX.out rowSaga ?_); rotate_left; exact rfl; exact rfl; rotate_left; exact rfl)
                | ((with_reducible refine wpList_load_blk ?_ _ (.tmp 8) ?_ _ ?_ _ _ KAX.out rowRec ?_); rotate_left; exact rfl; exact rfl; rotate_left; exact rfl))
              refine CRK.out.mono ?_
              rintro e w5 ⟨rfl, hb⟩
              have HO5 := Lib.hid (HOX.out.through hb)
              have KB5 := Lib.hid (KBX.out.below hb (blk_lt KBX.out))
              have HB5 := Lib.hid (then_ HBX.out hb)
              have hsz5 := HB5.out.size
              clear hb CRK KAX KBX HOX HBX
              obtain ⟨f, hf⟩ : ∃ q, RF (2 + (j : Int)) = q := ⟨_, rfl⟩
              rw [hf]
              by_cases hz : f = 0
              · subst hz
                have HF5 : Hid ((tryL.take (j + 1)).filter (fun k => decide (RF k = 0)) = (tryL.take j).filter (fun k => decide (RF k = 0)) ++ [2 + (j : Int)]) := Lib.hid (by
                  rw [take_snoc' tryL j hj2, tryL_get, List.filter_append]
                  simp [hf])
                obtain ⟨L, hL⟩ : ∃ q, (tryL.take j).filter (fun k => decide (RF k = 0)) = q := ⟨_, rfl⟩
                have hLl : L.length ≤ 6 := by rw [← hL]; exact Nat.le_trans (List.length_filter_le _ _) (by rw [List.length_take]; simp [tryL]; omega)
                rw [hL] at HO5 HF5
                clear hL hf
                go_wp2_with (at_builtin; refine wpList_append_row _ rfl (.tmp 45) (.tmp 47) 80 rfl w.heap.size 3 (.int .i64 0) 8 Tryz.underlying80 infoInt rfl _ _ _ rfl (World.ownsRow.alloc HO5.out _) ⟨some ⟨w5.heap.size, 0, none⟩, 1, 1⟩ [.int .i64 (2 + (j : Int))] rfl (RowAt.of_lit1 w5 _ _) (by simp [Value.oneCell']) ?c1 ?c2 ?c3 ?_)
                case c1 => simp only [maxLen]; omega
                case c2 => omega
                case c3 => simp; omega
                intro v' w6 hown hgr
                have HN : Hid (OwnInts w6 w.heap.size v' ((tryL.take (j + 1)).filter (fun k => decide (RF k = 0)))) := Lib.hid (by
                  rw [HF5.out]
                  unfold OwnInts
                  rw [List.length_append, List.map_append]
                  exact hown)
                have HB6 : Hid (Below w.heap.size w w6) := Lib.hid ((boxd (o := .cells #[.int .i64 (2 + (j : Int))] 3) HB5.out).grown hgr (by simp; omega) (fun q hq => (HO5.out.lt q hq).1))
                have KB6 : Hid (BlkAt w6 w.heap.size (sagaArr s) 29) := Lib.hid (blk_grown (KB5.out.push _) hgr (Ne.symm (own_ne_blk HO5.out KB5.out (by decide))))
                have hwk : wrap64 (2 + (j : Int) + 1) = 2 + ((j + 1 : Nat) : Int) := by unfold wrap64; omega
                clear hown hgr HO5 HF5
                go_wp2
                all_goals go_roundw
                case rel => exact ⟨j + 1, _, by omega, rfl, by go_num, HN, HB6, KB6⟩
                case measure => simp [intOf]; omega
              · have hz2 : (f == 0) = false := by rw [beq_eq_false_iff_ne]; exact hz
                have HN : Hid (OwnInts w5 w.heap.size v ((tryL.take (j + 1)).filter (fun k => decide (RF k = 0)))) := Lib.hid (by
                  have := HO5.out
                  rw [take_snoc' tryL j hj2, tryL_get, List.filter_append]
                  simpa [hf, hz] using this)
                have hwk : wrap64 (2 + (j : Int) + 1) = 2 + ((j + 1 : Nat) : Int) := by unfold wrap64; omega
                clear HO5 hf
                go_wp2
                all_goals go_roundw
                case rel => exact ⟨j + 1, _, by omega, rfl, by go_num, HN, HB5, KB5⟩
                case measure => simp [intOf]; omega
          · have hk' : j = 6 := by omega
            subst hk'
            have HO2 : Hid (OwnInts wr w.heap.size v P) := Lib.hid (by
              have := HO.out
              rwa [List.take_of_length_le (by simp [tryL]), HF.out] at this)
            clear HO
            go_wp2
            all_goals go_ret
            all_goals exact ⟨v, rfl, HO2.out, HBL.out⟩
      · have h3 : (ph == 2) = false := by rw [beq_eq_false_iff_ne]; exact h2
        have e : nx = st := by rw [← HST.out, if_neg h2]
        subst e
        clear HTM HST
        go_wp2_with (first | ((with_reducible refine wpList_load_field ?_ _ (.tmp 14) ?_ w.heap.size 10 ?_ 29 (sagaArr s) KB.out (.int .i64 tr) ?_ one_int ?_); rotate_left; exact rfl; exact rfl; exact HX.out.h10; rotate_left; exact rfl) | ((with_reducible refine wpList_load_field ?_ _ (.tmp 19) ?_ w.heap.size 8 ?_ 29 (sagaArr s) KB.out (.int .i64 nx) ?_ one_int ?_); rotate_left; exact rfl; exact rfl; exact HX.out.h8; rotate_left; exact rfl) | ((with_reducible refine wpList_load_field ?_ _ (.tmp 21) ?_ w.heap.size 7 ?_ 29 (sagaArr s) KB.out (.int .i64 ph) ?_ one_int ?_); rotate_left; exact rfl; exact rfl; exact HX.out.h7; rotate_left; exact rfl))
        go_loopw [6, 7] (fun sv i wr => ∃ (j : Nat) (v : Value), j ≤ 6 ∧ v = sv ∧ i = .int .i64 (2 + (j : Int)) ∧ Hid (OwnInts wr w.heap.size v ((tryL.take j).filter (fun k => decide (RF k = 0)))) ∧ Hid (Below w.heap.size w wr) ∧ Hid (BlkAt wr w.heap.size (sagaArr s) 29)) (fun _ i _ => (8 - intOf i).toNat)
        case atStart => exact ⟨0, _, by omega, rfl, by go_num, Lib.hid (OwnInts.nil _ _), HB2, KB⟩
        case round =>
          clear HB2 KB
          obtain ⟨j, v, hj, rfl, rfl, HO, HBL, KB⟩ := hrel
          by_cases hlt : j < 6
          · have hle : (2 : Int) + j ≤ 7 := by omega
            have hj2 : j < tryL.length := by simp [tryL]; omega
            obtain ⟨wA, hwA⟩ : ∃ q, wr.alloc (.cells (recArr (⟨3, 2 + (j : Int), id, nx, 1000, 0, 0, 0, 0, 0, ⟨#[]⟩, nilSl⟩ : RecV)) 31) = q := ⟨_, rfl⟩
            have hbA : Below wr.heap.size wr wA := by rw [← hwA]; exact boxd (Below.refl _ _)
            have KA : Hid (BlkAt wA wr.heap.size (recArr (⟨3, 2 + (j : Int), id, nx, 1000, 0, 0, 0, 0, 0, ⟨#[]⟩, nilSl⟩ : RecV)) 31) := Lib.hid (by rw [← hwA]; exact BlkAt.new _ _ _)
            have KBA := Lib.hid (KB.out.below hbA (blk_lt KB.out))
            have HOA := Lib.hid (HO.out.through hbA)
            have HBA := Lib.hid (then_ HBL.out hbA)
            have hlt2 := blk_lt KB.out
            dsimp only [recArr, nilSl, Sl.v] at hwA
            have HWA := Lib.hid hwA
            clear hwA hbA
            go_upto_region 15 with (first | ((with_reducible refine wpList_load_field ?_ _ (.tmp 32) ?_ w.heap.size 0 ?_ 29 (sagaArr s) KB.out (.int .i64 id) ?_ one_int ?_); rotate_left; exact rfl; exact rfl; exact HX.out.h0; rotate_left; exact rfl))
            rw [HWA.out]
            clear HWA HO HBL KB
            by_cases h7 : j = 5
            · subst h7
              have hle5 : ((2 : Int) + (5 : Nat) == 7) = true := by decide
              go_upto_region 17 with (refine wpList_store_one rfl _ _ _ rfl wr.heap.size 3 rfl (.int .i64 0) rfl _ _ KA.out (by simp [recArr]) rfl size_int ?_; intro wS hwS K; have KAX : Hid (BlkAt wS wr.heap.size (recArr (⟨3, 7, id, 0, 1000, 0, 0, 0, 0, 0, ⟨#[]⟩, nilSl⟩ : RecV)) 31) := Lib.hid K; have KBX := Lib.hid (hwS.blk KBA.out (by omega)); have HBX := Lib.hid (hwS.below HBA.out (by omega)); have HOX := Lib.hid (show OwnInts wS w.heap.size v _ from own_other HOA.out KA.out hwS (by decide)); clear hwS K)
              clear KA KBA HOA HBA
              have CRK := Lib.hid (CR.out 7 wS (by decide) ⟨n0, n1⟩ ⟨t0, t1⟩)
              rw [if_pos (by decide)] at CRK
              go_wp2_with (first
                | ((with_reducible refine wpList_load_blk ?_ _ (.tmp 1) ?_ _ ?_ _ _ KBX.out rowSaga ?_); rotate_left; exact rfl; exact rfl; rotate_left; exact rfl)
                | ((with_reducible refine wpList_load_blk ?_ _ (.tmp 8) ?_ _ ?_ _ _ KAX.out rowRec ?_); rotate_left; exact rfl; exact rfl; rotate_left; exact rfl))
              refine CRK.out.mono ?_
              rintro e w5 ⟨rfl, hb⟩
              have HO5 := Lib.hid (HOX.out.through hb)
              have KB5 := Lib.hid (KBX.out.below hb (blk_lt KBX.out))
              have HB5 := Lib.hid (then_ HBX.out hb)
              have hsz5 := HB5.out.size
              clear hb CRK KAX KBX HOX HBX
              obtain ⟨f, hf⟩ : ∃ q, RF 7 = q := ⟨_, rfl⟩
              rw [hf]
              by_cases hz : f = 0
              · subst hz
                have HF5 : Hid ((tryL.take 6).filter (fun k => decide (RF k = 0)) = (tryL.take 5).filter (fun k => decide (RF k = 0)) ++ [7]) := Lib.hid (by
                  show List.filter _ (tryL.take (5 + 1)) = _
                  rw [take_snoc' tryL 5 hj2, tryL_get, List.filter_append]
                  simp [hf])
                obtain ⟨L, hL⟩ : ∃ q, (tryL.take 5).filter (fun k => decide (RF k = 0)) = q := ⟨_, rfl⟩
                have hLl : L.length ≤ 6 := by rw [← hL]; exact Nat.le_trans (List.length_filter_le _ _) (by rw [List.length_take]; simp [tryL])
                rw [hL] at HO5 HF5
                clear hL hf
                go_wp2_with (at_builtin; refine wpList_append_row _ rfl (.tmp 45) (.tmp 47) 80 rfl w.heap.size 3 (.int .i64 0) 8 Tryz.underlying80 infoInt rfl _ _ _ rfl (World.ownsRow.alloc HO5.out _) ⟨some ⟨w5.heap.size, 0, none⟩, 1, 1⟩ [.int .i64 7] rfl (RowAt.of_lit1 w5 _ _) (by simp [Value.oneCell']) ?c1 ?c2 ?c3 ?_)
                case c1 => simp only [maxLen]; omega
                case c2 => omega
                case c3 => simp; omega
                intro v' w6 hown hgr
                have HN : Hid (OwnInts w6 w.heap.size v' ((tryL.take 6).filter (fun k => decide (RF k = 0)))) := Lib.hid (by
                  rw [HF5.out]
                  unfold OwnInts
                  rw [List.length_append, List.map_append]
                  exact hown)
                have HB6 : Hid (Below w.heap.size w w6) := Lib.hid ((boxd (o := .cells #[.int .i64 7] 3) HB5.out).grown hgr (by simp; omega) (fun q hq => (HO5.out.lt q hq).1))
                have KB6 : Hid (BlkAt w6 w.heap.size (sagaArr s) 29) := Lib.hid (blk_grown (KB5.out.push _) hgr (Ne.symm (own_ne_blk HO5.out KB5.out (by decide))))
                have hwk : wrap64 (7 + 1) = 2 + ((6 : Nat) : Int) := by unfold wrap64; omega
                clear hown hgr HO5 HF5
                go_wp2
                all_goals go_roundw
                case rel => exact ⟨6, _, by omega, rfl, by go_num, HN, HB6, KB6⟩
                case measure => simp [intOf]
              · have hz2 : (f == 0) = false := by rw [beq_eq_false_iff_ne]; exact hz
                have HN : Hid (OwnInts w5 w.heap.size v ((tryL.take 6).filter (fun k => decide (RF k = 0)))) := Lib.hid (by
                  have := HO5.out
                  show OwnInts w5 w.heap.size v (List.filter _ (tryL.take (5 + 1)))
                  rw [take_snoc' tryL 5 hj2, tryL_get, List.filter_append]
                  simpa [hf, hz] using this)
                have hwk : wrap64 (7 + 1) = 2 + ((6 : Nat) : Int) := by unfold wrap64; omega
                clear HO5 hf
                go_wp2
                all_goals go_roundw
                case rel => exact ⟨6, _, by omega, rfl, by go_num, HN, HB5, KB5⟩
                case measure => simp [intOf]
            · have hk7 : (2 + (j : Int) == 7) = false := by rw [beq_eq_false_iff_ne]; omega
              have CRK := Lib.hid (CR.out (2 + (j : Int)) wA ⟨by omega, by omega⟩ ⟨n0, n1⟩ ⟨t0, t1⟩)
              rw [if_neg (by omega)] at CRK
              have KAX := KA
              have KBX := KBA
              have HOX := HOA
              have HBX := HBA
              clear KA KBA HOA HBA
              go_wp2_with (first
                | ((with_reducible refine wpList_load_blk ?_ _ (.tmp 1) ?_ _ ?_ _ _ KBX.out rowSaga ?_); rotate_left; exact rfl; exact rfl; rotate_left; exact rfl)
                | ((with_reducible refine wpList_load_blk ?_ _ (.tmp 8) ?_ _ ?_ _ _ KAX.out rowRec ?_); rotate_left; exact rfl; exact rfl; rotate_left; exact rfl))
              refine CRK.out.mono ?_
              rintro e w5 ⟨rfl, hb⟩
              have HO5 := Lib.hid (HOX.out.through hb)
              have KB5 := Lib.hid (KBX.out.below hb (blk_lt KBX.out))
              have HB5 := Lib.hid (then_ HBX.out hb)
              have hsz5 := HB5.out.size
              clear hb CRK KAX KBX HOX HBX
              obtain ⟨f, hf⟩ : ∃ q, RF (2 + (j : Int)) = q := ⟨_, rfl⟩
              rw [hf]
              by_cases hz : f = 0
              · subst hz
                have HF5 : Hid ((tryL.take (j + 1)).filter (fun k => decide (RF k = 0)) = (tryL.take j).filter (fun k => decide (RF k = 0)) ++ [2 + (j : Int)]) := Lib.hid (by
                  rw [take_snoc' tryL j hj2, tryL_get, List.filter_append]
                  simp [hf])
                obtain ⟨L, hL⟩ : ∃ q, (tryL.take j).filter (fun k => decide (RF k = 0)) = q := ⟨_, rfl⟩
                have hLl : L.length ≤ 6 := by rw [← hL]; exact Nat.le_trans (List.length_filter_le _ _) (by rw [List.length_take]; simp [tryL]; omega)
                rw [hL] at HO5 HF5
                clear hL hf
                go_wp2_with (at_builtin; refine wpList_append_row _ rfl (.tmp 45) (.tmp 47) 80 rfl w.heap.size 3 (.int .i64 0) 8 Tryz.underlying80 infoInt rfl _ _ _ rfl (World.ownsRow.alloc HO5.out _) ⟨some ⟨w5.heap.size, 0, none⟩, 1, 1⟩ [.int .i64 (2 + (j : Int))] rfl (RowAt.of_lit1 w5 _ _) (by simp [Value.oneCell']) ?c1 ?c2 ?c3 ?_)
                case c1 => simp only [maxLen]; omega
                case c2 => omega
                case c3 => simp; omega
                intro v' w6 hown hgr
                have HN : Hid (OwnInts w6 w.heap.size v' ((tryL.take (j + 1)).filter (fun k => decide (RF k = 0)))) := Lib.hid (by
                  rw [HF5.out]
                  unfold OwnInts
                  rw [List.length_append, List.map_append]
                  exact hown)
                have HB6 : Hid (Below w.heap.size w w6) := Lib.hid ((boxd (o := .cells #[.int .i64 (2 + (j : Int))] 3) HB5.out).grown hgr (by simp; omega) (fun q hq => (HO5.out.lt q hq).1))
                have KB6 : Hid (BlkAt w6 w.heap.size (sagaArr s) 29) := Lib.hid (blk_grown (KB5.out.push _) hgr (Ne.symm (own_ne_blk HO5.out KB5.out (by decide))))
                have hwk : wrap64 (2 + (j : Int) + 1) = 2 + ((j + 1 : Nat) : Int) := by unfold wrap64; omega
                clear hown hgr HO5 HF5
                go_wp2
                all_goals go_roundw
                case rel => exact ⟨j + 1, _, by omega, rfl, by go_num, HN, HB6, KB6⟩
                case measure => simp [intOf]; omega
              · have hz2 : (f == 0) = false := by rw [beq_eq_false_iff_ne]; exact hz
                have HN : Hid (OwnInts w5 w.heap.size v ((tryL.take (j + 1)).filter (fun k => decide (RF k = 0)))) := Lib.hid (by
                  have := HO5.out
                  rw [take_snoc' tryL j hj2, tryL_get, List.filter_append]
                  simpa [hf, hz] using this)
                have hwk : wrap64 (2 + (j : Int) + 1) = 2 + ((j + 1 : Nat) : Int) := by unfold wrap64; omega
                clear HO5 hf
                go_wp2
                all_goals go_roundw
                case rel => exact ⟨j + 1, _, by omega, rfl, by go_num, HN, HB5, KB5⟩
                case measure => simp [intOf]; omega
          · have hk' : j = 6 := by omega
            subst hk'
            have HO2 : Hid (OwnInts wr w.heap.size v P) := Lib.hid (by
              have := HO.out
              rwa [List.take_of_length_le (by simp [tryL]), HF.out] at this)
            clear HO
            go_wp2
            all_goals go_ret
            all_goals exact ⟨v, rfl, HO2.out, HBL.out⟩
    · have e : tm = tr + 1 := by have := HTM.out; omega
      subst e
      by_cases h2 : ph = 2
      · subst h2
        have e : st = nx - 1 := by rw [← HST.out, if_pos rfl, hw]
        subst e
        clear HTM HST
        go_wp2_with (first | ((with_reducible refine wpList_load_field ?_ _ (.tmp 14) ?_ w.heap.size 10 ?_ 29 (sagaArr s) KB.out (.int .i64 tr) ?_ one_int ?_); rotate_left; exact rfl; exact rfl; exact HX.out.h10; rotate_left; exact rfl) | ((with_reducible refine wpList_load_field ?_ _ (.tmp 19) ?_ w.heap.size 8 ?_ 29 (sagaArr s) KB.out (.int .i64 nx) ?_ one_int ?_); rotate_left; exact rfl; exact rfl; exact HX.out.h8; rotate_left; exact rfl) | ((with_reducible refine wpList_load_field ?_ _ (.tmp 21) ?_ w.heap.size 7 ?_ 29 (sagaArr s) KB.out (.int .i64 2) ?_ one_int ?_); rotate_left; exact rfl; exact rfl; exact HX.out.h7; rotate_left; exact rfl) | ((with_reducible refine wpList_load_field ?_ _ (.tmp 24) ?_ w.heap.size 8 ?_ 29 (sagaArr s) KB.out (.int .i64 nx) ?_ one_int ?_); rotate_left; exact rfl; exact rfl; exact HX.out.h8; rotate_left; exact rfl))
        go_loopw [6, 7] (fun sv i wr => ∃ (j : Nat) (v : Value), j ≤ 6 ∧ v = sv ∧ i = .int .i64 (2 + (j : Int)) ∧ Hid (OwnInts wr w.heap.size v ((tryL.take j).filter (fun k => decide (RF k = 0)))) ∧ Hid (Below w.heap.size w wr) ∧ Hid (BlkAt wr w.heap.size (sagaArr s) 29)) (fun _ i _ => (8 - intOf i).toNat)
        case atStart => exact ⟨0, _, by omega, rfl, by go_num, Lib.hid (OwnInts.nil _ _), HB2, KB⟩
        case round =>
          clear HB2 KB
          obtain ⟨j, v, hj, rfl, rfl, HO, HBL, KB⟩ := hrel
          by_cases hlt : j < 6
          · have hle : (2 : Int) + j ≤ 7 := by omega
            have hj2 : j < tryL.length := by simp [tryL]; omega
            obtain ⟨wA, hwA⟩ : ∃ q, wr.alloc (.cells (recArr (⟨3, 2 + (j : Int), id, (nx - 1), (tr + 1), 0, 0, 0, 0, 0, ⟨#[]⟩, nilSl⟩ : RecV)) 31) = q := ⟨_, rfl⟩
            have hbA : Below wr.heap.size wr wA := by rw [← hwA]; exact boxd (Below.refl _ _)
            have KA : Hid (BlkAt wA wr.heap.size (recArr (⟨3, 2 + (j : Int), id, (nx - 1), (tr + 1), 0, 0, 0, 0, 0, ⟨#[]⟩, nilSl⟩ : RecV)) 31) := Lib.hid (by rw [← hwA]; exact BlkAt.new _ _ _)
            have KBA := Lib.hid (KB.out.below hbA (blk_lt KB.out))
            have HOA := Lib.hid (HO.out.through hbA)
            have HBA := Lib.hid (then_ HBL.out hbA)
            have hlt2 := blk_lt KB.out
            dsimp only [recArr, nilSl, Sl.v] at hwA
            have HWA := Lib.hid hwA
            clear hwA hbA
            go_upto_region 15 with (first | ((with_reducible refine wpList_load_field ?_ _ (.tmp 32) ?_ w.heap.size 0 ?_ 29 (sagaArr s) KB.out (.int .i64 id) ?_ one_int ?_); rotate_left; exact rfl; exact rfl; exact HX.out.h0; rotate_left; exact rfl))
            rw [HWA.out]
            clear HWA HO HBL KB
            by_cases h7 : j = 5
            · subst h7
              have hle5 : ((2 : Int) + (5 : Nat) == 7) = true := by decide
              go_upto_region 17 with (refine wpList_store_one rfl _ _ _ rfl wr.heap.size 3 rfl (.int .i64 0) rfl _ _ KA.out (by simp [recArr]) rfl size_int ?_; intro wS hwS K; have KAX : Hid (BlkAt wS wr.heap.size (recArr (⟨3, 7, id, 0, (tr + 1), 0, 0, 0, 0, 0, ⟨#[]⟩, nilSl⟩ : RecV)) 31) := Lib.hid K; have KBX := Lib.hid (hwS.blk KBA.out (by omega)); have HBX := Lib.hid (hwS.below HBA.out (by omega)); have HOX := Lib.hid (show OwnInts wS w.heap.size v _ from own_other HOA.out KA.out hwS (by decide)); clear hwS K)
              clear KA KBA HOA HBA
              have CRK := Lib.hid (CR.out 7 wS (by decide) ⟨n0, n1⟩ ⟨t0, t1⟩)
              rw [if_pos (by decide)] at CRK
              go_wp2_with (first
                | ((with_reducible refine wpList_load_blk ?_ _ (.tmp 1) ?_ _ ?_ _ _ KBX.out rowSaga ?_); rotate_left; exact rfl; exact rfl; rotate_left; exact rfl)
                | ((with_reducible refine wpList_load_blk ?_ _ (.tmp 8) ?_ _ ?_ _ _ KAX.out rowRec ?_); rotate_left; exact rfl; exact rfl; rotate_left; exact rfl))
              refine CRK.out.mono ?_
              rintro e w5 ⟨rfl, hb⟩
              have HO5 := Lib.hid (HOX.out.through hb)
              have KB5 := Lib.hid (KBX.out.below hb (blk_lt KBX.out))
              have HB5 := Lib.hid (then_ HBX.out hb)
              have hsz5 := HB5.out.size
              clear hb CRK KAX KBX HOX HBX
              obtain ⟨f, hf⟩ : ∃ q, RF 7 = q := ⟨_, rfl⟩
              rw [hf]
              by_cases hz : f = 0
              · subst hz
                have HF5 : Hid ((tryL.take 6).filter (fun k => decide (RF k = 0)) = (tryL.take 5).filter (fun k => decide (RF k = 0)) ++ [7]) := Lib.hid (by
                  show List.filter _ (tryL.take (5 + 1)) = _
                  rw [take_snoc' tryL 5 hj2, tryL_get, List.filter_append]
                  simp [hf])
                obtain ⟨L, hL⟩ : ∃ q, (tryL.take 5).filter (fun k => decide (RF k = 0)) = q := ⟨_, rfl⟩
                have hLl : L.length ≤ 6 := by rw [← hL]; exact Nat.le_trans (List.length_filter_le _ _) (by rw [List.length_take]; simp [tryL])
                rw [hL] at HO5 HF5
                clear hL hf
                go_wp2_with (at_builtin; refine wpList_append_row _ rfl (.tmp 45) (.tmp 47) 80 rfl w.heap.size 3 (.int .i64 0) 8 Tryz.underlying80 infoInt rfl _ _ _ rfl (World.ownsRow.alloc HO5.out _) ⟨some ⟨w5.heap.size, 0, none⟩, 1, 1⟩ [.int .i64 7] rfl (RowAt.of_lit1 w5 _ _) (by simp [Value.oneCell']) ?c1 ?c2 ?c3 ?_)
                case c1 => simp only [maxLen]; omega
                case c2 => omega
                case c3 => simp; omega
                intro v' w6 hown hgr
                have HN : Hid (OwnInts w6 w.heap.size v' ((tryL.take 6).filter (fun k => decide (RF k = 0)))) := Lib.hid (by
                  rw [HF5.out]
                  unfold OwnInts
                  rw [List.length_append, List.map_append]
                  exact hown)
                have HB6 : Hid (Below w.heap.size w w6) := Lib.hid ((boxd (o := .cells #[.int .i64 7] 3) HB5.out).grown hgr (by simp; omega) (fun q hq => (HO5.out.lt q hq).1))
                have KB6 : Hid (BlkAt w6 w.heap.size (sagaArr s) 29) := Lib.hid (blk_grown (KB5.out.push _) hgr (Ne.symm (own_ne_blk HO5.out KB5.out (by decide))))
                have hwk : wrap64 (7 + 1) = 2 + ((6 : Nat) : Int) := by unfold wrap64; omega
                clear hown hgr HO5 HF5
                go_wp2
                all_goals go_roundw
                case rel => exact ⟨6, _, by omega, rfl, by go_num, HN, HB6, KB6⟩
                case measure => simp [intOf]
              · have hz2 : (f == 0) = false := by rw [beq_eq_false_iff_ne]; exact hz
                have HN : Hid (OwnInts w5 w.heap.size v ((tryL.take 6).filter (fun k => decide (RF k = 0)))) := Lib.hid (by
                  have := HO5.out
                  show OwnInts w5 w.heap.size v (List.filter _ (tryL.take (5 + 1)))
                  rw [take_snoc' tryL 5 hj2, tryL_get, List.filter_append]
                  simpa [hf, hz] using this)
                have hwk : wrap64 (7 + 1) = 2 + ((6 : Nat) : Int) := by unfold wrap64; omega
                clear HO5 hf
                go_wp2
                all_goals go_roundw
                case rel => exact ⟨6, _, by omega, rfl, by go_num, HN, HB5, KB5⟩
                case measure => simp [intOf]
            · have hk7 : (2 + (j : Int) == 7) = false := by rw [beq_eq_false_iff_ne]; omega
              have CRK := Lib.hid (CR.out (2 + (j : Int)) wA ⟨by omega, by omega⟩ ⟨n0, n1⟩ ⟨t0, t1⟩)
              rw [if_neg (by omega)] at CRK
              have KAX := KA
              have KBX := KBA
              have HOX := HOA
              have HBX := HBA
              clear KA KBA HOA HBA
              go_wp2_with (first
                | ((with_reducible refine wpList_load_blk ?_ _ (.tmp 1) ?_ _ ?_ _ _ KBX.out rowSaga ?_); rotate_left; exact rfl; exact rfl; rotate_left; exact rfl)
                | ((with_reducible refine wpList_load_blk ?_ _ (.tmp 8) ?_ _ ?_ _ _ KAX.out rowRec ?_); rotate_left; exact rfl; exact rfl; rotate_left; exact rfl))
              refine CRK.out.mono ?_
              rintro e w5 ⟨rfl, hb⟩
              have HO5 := Lib.hid (HOX.out.through hb)
              have KB5 := Lib.hid (KBX.out.below hb (blk_lt KBX.out))
              have HB5 := Lib.hid (then_ HBX.out hb)
              have hsz5 := HB5.out.size
              clear hb CRK KAX KBX HOX HBX
              obtain ⟨f, hf⟩ : ∃ q, RF (2 + (j : Int)) = q := ⟨_, rfl⟩
              rw [hf]
              by_cases hz : f = 0
              · subst hz
                have HF5 : Hid ((tryL.take (j + 1)).filter (fun k => decide (RF k = 0)) = (tryL.take j).filter (fun k => decide (RF k = 0)) ++ [2 + (j : Int)]) := Lib.hid (by
                  rw [take_snoc' tryL j hj2, tryL_get, List.filter_append]
                  simp [hf])
                obtain ⟨L, hL⟩ : ∃ q, (tryL.take j).filter (fun k => decide (RF k = 0)) = q := ⟨_, rfl⟩
                have hLl : L.length ≤ 6 := by rw [← hL]; exact Nat.le_trans (List.length_filter_le _ _) (by rw [List.length_take]; simp [tryL]; omega)
                rw [hL] at HO5 HF5
                clear hL hf
                go_wp2_with (at_builtin; refine wpList_append_row _ rfl (.tmp 45) (.tmp 47) 80 rfl w.heap.size 3 (.int .i64 0) 8 Tryz.underlying80 infoInt rfl _ _ _ rfl (World.ownsRow.alloc HO5.out _) ⟨some ⟨w5.heap.size, 0, none⟩, 1, 1⟩ [.int .i64 (2 + (j : Int))] rfl (RowAt.of_lit1 w5 _ _) (by simp [Value.oneCell']) ?c1 ?c2 ?c3 ?_)
                case c1 => simp only [maxLen]; omega
                case c2 => omega
                case c3 => simp; omega
                intro v' w6 hown hgr
                have HN : Hid (OwnInts w6 w.heap.size v' ((tryL.take (j + 1)).filter (fun k => decide (RF k = 0)))) := Lib.hid (by
                  rw [HF5.out]
                  unfold OwnInts
                  rw [List.length_append, List.map_append]
                  exact hown)
                have HB6 : Hid (Below w.heap.size w w6) := Lib.hid ((boxd (o := .cells #[.int .i64 (2 + (j : Int))] 3) HB5.out).grown hgr (by simp; omega) (fun q hq => (HO5.out.lt q hq).1))
                have KB6 : Hid (BlkAt w6 w.heap.size (sagaArr s) 29) := Lib.hid (blk_grown (KB5.out.push _) hgr (Ne.symm (own_ne_blk HO5.out KB5.out (by decide))))
                have hwk : wrap64 (2 + (j : Int) + 1) = 2 + ((j + 1 : Nat) : Int) := by unfold wrap64; omega
                clear hown hgr HO5 HF5
                go_wp2
                all_goals go_roundw
                case rel => exact ⟨j + 1, _, by omega, rfl, by go_num, HN, HB6, KB6⟩
                case measure => simp [intOf]; omega
              · have hz2 : (f == 0) = false := by rw [beq_eq_false_iff_ne]; exact hz
                have HN : Hid (OwnInts w5 w.heap.size v ((tryL.take (j + 1)).filter (fun k => decide (RF k = 0)))) := Lib.hid (by
                  have := HO5.out
                  rw [take_snoc' tryL j hj2, tryL_get, List.filter_append]
                  simpa [hf, hz] using this)
                have hwk : wrap64 (2 + (j : Int) + 1) = 2 + ((j + 1 : Nat) : Int) := by unfold wrap64; omega
                clear HO5 hf
                go_wp2
                all_goals go_roundw
                case rel => exact ⟨j + 1, _, by omega, rfl, by go_num, HN, HB5, KB5⟩
                case measure => simp [intOf]; omega
          · have hk' : j = 6 := by omega
            subst hk'
            have HO2 : Hid (OwnInts wr w.heap.size v P) := Lib.hid (by
              have := HO.out
              rwa [List.take_of_length_le (by simp [tryL]), HF.out] at this)
            clear HO
            go_wp2
            all_goals go_ret
            all_goals exact ⟨v, rfl, HO2.out, HBL.out⟩
      · have h3 : (ph == 2) = false := by rw [beq_eq_false_iff_ne]; exact h2
        have e : nx = st := by rw [← HST.out, if_neg h2]
        subst e
        clear HTM HST
        go_wp2_with (first | ((with_reducible refine wpList_load_field ?_ _ (.tmp 14) ?_ w.heap.size 10 ?_ 29 (sagaArr s) KB.out (.int .i64 tr) ?_ one_int ?_); rotate_left; exact rfl; exact rfl; exact HX.out.h10; rotate_left; exact rfl) | ((with_reducible refine wpList_load_field ?_ _ (.tmp 19) ?_ w.heap.size 8 ?_ 29 (sagaArr s) KB.out (.int .i64 nx) ?_ one_int ?_); rotate_left; exact rfl; exact rfl; exact HX.out.h8; rotate_left; exact rfl) | ((with_reducible refine wpList_load_field ?_ _ (.tmp 21) ?_ w.heap.size 7 ?_ 29 (sagaArr s) KB.out (.int .i64 ph) ?_ one_int ?_); rotate_left; exact rfl; exact rfl; exact HX.out.h7; rotate_left; exact rfl))
        go_loopw [6, 7] (fun sv i wr => ∃ (j : Nat) (v : Value), j ≤ 6 ∧ v = sv ∧ i = .int .i64 (2 + (j : Int)) ∧ Hid (OwnInts wr w.heap.size v ((tryL.take j).filter (fun k => decide (RF k = 0)))) ∧ Hid (Below w.heap.size w wr) ∧ Hid (BlkAt wr w.heap.size (sagaArr s) 29)) (fun _ i _ => (8 - intOf i).toNat)
        case atStart => exact ⟨0, _, by omega, rfl, by go_num, Lib.hid (OwnInts.nil _ _), HB2, KB⟩
        case round =>
          clear HB2 KB
          obtain ⟨j, v, hj, rfl, rfl, HO, HBL, KB⟩ := hrel
          by_cases hlt : j < 6
          · have hle : (2 : Int) + j ≤ 7 := by omega
            have hj2 : j < tryL.length := by simp [tryL]; omega
            obtain ⟨wA, hwA⟩ : ∃ q, wr.alloc (.cells (recArr (⟨3, 2 + (j : Int), id, nx, (tr + 1), 0, 0, 0, 0, 0, ⟨#[]⟩, nilSl⟩ : RecV)) 31) = q := ⟨_, rfl⟩
            have hbA : Below wr.heap.size wr wA := by rw [← hwA]; exact boxd (Below.refl _ _)
            have KA : Hid (BlkAt wA wr.heap.size (recArr (⟨3, 2 + (j : Int), id, nx, (tr + 1), 0, 0, 0, 0, 0, ⟨#[]⟩, nilSl⟩ : RecV)) 31) := Lib.hid (by rw [← hwA]; exact BlkAt.new _ _ _)
            have KBA := Lib.hid (KB.out.below hbA (blk_lt KB.out))
            have HOA := Lib.hid (HO.out.through hbA)
            have HBA := Lib.hid (then_ HBL.out hbA)
            have hlt2 := blk_lt KB.out
            dsimp only [recArr, nilSl, Sl.v] at hwA
            have HWA := Lib.hid hwA
            clear hwA hbA
            go_upto_region 15 with (first | ((with_reducible refine wpList_load_field ?_ _ (.tmp 32) ?_ w.heap.size 0 ?_ 29 (sagaArr s) KB.out (.int .i64 id) ?_ one_int ?_); rotate_left; exact rfl; exact rfl; exact HX.out.h0; rotate_left; exact rfl))
            rw [HWA.out]
            clear HWA HO HBL KB
            by_cases h7 : j = 5
            · subst h7
              have hle5 : ((2 : Int) + (5 : Nat) == 7) = true := by decide
              go_upto_region 17 with (refine wpList_store_one rfl _ _ _ rfl wr.heap.size 3 rfl (.int .i64 0) rfl _ _ KA.out (by simp [recArr]) rfl size_int ?_; intro wS hwS K; have KAX : Hid (BlkAt wS wr.heap.size (recArr (⟨3, 7, id, 0, (tr + 1), 0, 0, 0, 0, 0, ⟨#[]⟩, nilSl⟩ : RecV)) 31) := Lib.hid K; have KBX := Lib.hid (hwS.blk KBA.out (by omega)); have HBX := Lib.hid (hwS.below HBA.out (by omega)); have HOX := Lib.hid (show OwnInts wS w.heap.size v _ from own_other HOA.out KA.out hwS (by decide)); clear hwS K)
              clear KA KBA HOA HBA
              have CRK := Lib.hid (CR.out 7 wS (by decide) ⟨n0, n1⟩ ⟨t0, t1⟩)
              rw [if_pos (by decide)] at CRK
              go_wp2_with (first
                | ((with_reducible refine wpList_load_blk ?_ _ (.tmp 1) ?_ _ ?_ _ _ KBX.out rowSaga ?_); rotate_left; exact rfl; exact rfl; rotate_left; exact rfl)
                | ((with_reducible refine wpList_load_blk ?_ _ (.tmp 8) ?_ _ ?_ _ _ KAX.out rowRec ?_); rotate_left; exact rfl; exact rfl; rotate_left; exact rfl))
              refine CRK.out.mono ?_
              rintro e w5 ⟨rfl, hb⟩
              have HO5 := Lib.hid (HOX.out.through hb)
              have KB5 := Lib.hid (KBX.out.below hb (blk_lt KBX.out))
              have HB5 := Lib.hid (then_ HBX.out hb)
              have hsz5 := HB5.out.size
              clear hb CRK KAX KBX HOX HBX
              obtain ⟨f, hf⟩ : ∃ q, RF 7 = q := ⟨_, rfl⟩
              rw [hf]
              by_cases hz : f = 0
              · subst hz
                have HF5 : Hid ((tryL.take 6).filter (fun k => decide (RF k = 0)) = (tryL.take 5).filter (fun k => decide (RF k = 0)) ++ [7]) := Lib.hid (by
                  show List.filter _ (tryL.take (5 + 1)) = _
                  rw [take_snoc' tryL 5 hj2, tryL_get, List.filter_append]
                  simp [hf])
                obtain ⟨L, hL⟩ : ∃ q, (tryL.take 5).filter (fun k => decide (RF k = 0)) = q := ⟨_, rfl⟩
                have hLl : L.length ≤ 6 := by rw [← hL]; exact Nat.le_trans (List.length_filter_le _ _) (by rw [List.length_take]; simp [tryL])
                rw [hL] at HO5 HF5
                clear hL hf
                go_wp2_with (at_builtin; refine wpList_append_row _ rfl (.tmp 45) (.tmp 47) 80 rfl w.heap.size 3 (.int .i64 0) 8 Tryz.underlying80 infoInt rfl _ _ _ rfl (World.ownsRow.alloc HO5.out _) ⟨some ⟨w5.heap.size, 0, none⟩, 1, 1⟩ [.int .i64 7] rfl (RowAt.of_lit1 w5 _ _) (by simp [Value.oneCell']) ?c1 ?c2 ?c3 ?_)
                case c1 => simp only [maxLen]; omega
                case c2 => omega
                case c3 => simp; omega
                intro v' w6 hown hgr
                have HN : Hid (OwnInts w6 w.heap.size v' ((tryL.take 6).filter (fun k => decide (RF k = 0)))) := Lib.hid (by
                  rw [HF5.out]
                  unfold OwnInts
                  rw [List.length_append, List.map_append]
                  exact hown)
                have HB6 : Hid (Below w.heap.size w w6) := Lib.hid ((boxd (o := .cells #[.int .i64 7] 3) HB5.out).grown hgr (by simp; omega) (fun q hq => (HO5.out.lt q hq).1))
                have KB6 : Hid (BlkAt w6 w.heap.size (sagaArr s) 29) := Lib.hid (blk_grown (KB5.out.push _) hgr (Ne.symm (own_ne_blk HO5.out KB5.out (by decide))))
                have hwk : wrap64 (7 + 1) = 2 + ((6 : Nat) : Int) := by unfold wrap64; omega
                clear hown hgr HO5 HF5
                go_wp2
                all_goals go_roundw
                case rel => exact ⟨6, _, by omega, rfl, by go_num, HN, HB6, KB6⟩
                case measure => simp [intOf]
              · have hz2 : (f == 0) = false := by rw [beq_eq_false_iff_ne]; exact hz
                have HN : Hid (OwnInts w5 w.heap.size v ((tryL.take 6).filter (fun k => decide (RF k = 0)))) := Lib.hid (by
                  have := HO5.out
                  show OwnInts w5 w.heap.size v (List.filter _ (tryL.take (5 + 1)))
                  rw [take_snoc' tryL 5 hj2, tryL_get, List.filter_append]
                  simpa [hf, hz] using this)
                have hwk : wrap64 (7 + 1) = 2 + ((6 : Nat) : Int) := by unfold wrap64; omega
                clear HO5 hf
                go_wp2
                all_goals go_roundw
                case rel => exact ⟨6, _, by omega, rfl, by go_num, HN, HB5, KB5⟩
                case measure => simp [intOf]
            · have hk7 : (2 + (j : Int) == 7) = false := by rw [beq_eq_false_iff_ne]; omega
              have CRK := Lib.hid (CR.out (2 + (j : Int)) wA ⟨by omega, by omega⟩ ⟨n0, n1⟩ ⟨t0, t1⟩)
              rw [if_neg (by omega)] at CRK
              have KAX := KA
              have KBX := KBA
              have HOX := HOA
              have HBX := HBA
              clear KA KBA HOA HBA
              go_wp2_with (first
                | ((with_reducible refine wpList_load_blk ?_ _ (.tmp 1) ?_ _ ?_ _ _ KBX.out rowSaga ?_); rotate_left; exact rfl; exact rfl; rotate_left; exact rfl)
                | ((with_reducible refine wpList_load_blk ?_ _ (.tmp 8) ?_ _ ?_ _ _ KAX.out rowRec ?_); rotate_left; exact rfl; exact rfl; rotate_left; exact rfl))
              refine CRK.out.mono ?_
              rintro e w5 ⟨rfl, hb⟩
              have HO5 := Lib.hid (HOX.out.through hb)
              have KB5 := Lib.hid (KBX.out.below hb (blk_lt KBX.out))
              have HB5 := Lib.hid (then_ HBX.out hb)
              have hsz5 := HB5.out.size
              clear hb CRK KAX KBX HOX HBX
              obtain ⟨f, hf⟩ : ∃ q, RF (2 + (j : Int)) = q := ⟨_, rfl⟩
              rw [hf]
              by_cases hz : f = 0
              · subst hz
                have HF5 : Hid ((tryL.take (j + 1)).filter (fun k => decide (RF k = 0)) = (tryL.take j).filter (fun k => decide (RF k = 0)) ++ [2 + (j : Int)]) := Lib.hid (by
                  rw [take_snoc' tryL j hj2, tryL_get, List.filter_append]
                  simp [hf])
                obtain ⟨L, hL⟩ : ∃ q, (tryL.take j).filter (fun k => decide (RF k = 0)) = q := ⟨_, rfl⟩
                have hLl : L.length ≤ 6 := by rw [← hL]; exact Nat.le_trans (List.length_filter_le _ _) (by rw [List.length_take]; simp [tryL]; omega)
                rw [hL] at HO5 HF5
                clear hL hf
                go_wp2_with (at_builtin; refine wpList_append_row _ rfl (.tmp 45) (.tmp 47) 80 rfl w.heap.size 3 (.int .i64 0) 8 Tryz.underlying80 infoInt rfl _ _ _ rfl (World.ownsRow.alloc HO5.out _) ⟨some ⟨w5.heap.size, 0, none⟩, 1, 1⟩ [.int .i64 (2 + (j : Int))] rfl (RowAt.of_lit1 w5 _ _) (by simp [Value.oneCell']) ?c1 ?c2 ?c3 ?_)
                case c1 => simp only [maxLen]; omega
                case c2 => omega
                case c3 => simp; omega
                intro v' w6 hown hgr
                have HN : Hid (OwnInts w6 w.heap.size v' ((tryL.take (j + 1)).filter (fun k => decide (RF k = 0)))) := Lib.hid (by
                  rw [HF5.out]
                  unfold OwnInts
                  rw [List.length_append, List.map_append]
                  exact hown)
                have HB6 : Hid (Below w.heap.size w w6) := Lib.hid ((boxd (o := .cells #[.int .i64 (2 + (j : Int))] 3) HB5.out).grown hgr (by simp; omega) (fun q hq => (HO5.out.lt q hq).1))
                have KB6 : Hid (BlkAt w6 w.heap.size (sagaArr s) 29) := Lib.hid (blk_grown (KB5.out.push _) hgr (Ne.symm (own_ne_blk HO5.out KB5.out (by decide))))
                have hwk : wrap64 (2 + (j : Int) + 1) = 2 + ((j + 1 : Nat) : Int) := by unfold wrap64; omega
                clear hown hgr HO5 HF5
                go_wp2
                all_goals go_roundw
                case rel => exact ⟨j + 1, _, by omega, rfl, by go_num, HN, HB6, KB6⟩
                case measure => simp [intOf]; omega
              · have hz2 : (f == 0) = false := by rw [beq_eq_false_iff_ne]; exact hz
                have HN : Hid (OwnInts w5 w.heap.size v ((tryL.take (j + 1)).filter (fun k => decide (RF k = 0)))) := Lib.hid (by
                  have := HO5.out
                  rw [take_snoc' tryL j hj2, tryL_get, List.filter_append]
                  simpa [hf, hz] using this)
                have hwk : wrap64 (2 + (j : Int) + 1) = 2 + ((j + 1 : Nat) : Int) := by unfold wrap64; omega
                clear HO5 hf
                go_wp2
                all_goals go_roundw
                case rel => exact ⟨j + 1, _, by omega, rfl, by go_num, HN, HB5, KB5⟩
                case measure => simp [intOf]; omega
          · have hk' : j = 6 := by omega
            subst hk'
            have HO2 : Hid (OwnInts wr w.heap.size v P) := Lib.hid (by
              have := HO.out
              rwa [List.take_of_length_le (by simp [tryL]), HF.out] at this)
            clear HO
            go_wp2
            all_goals go_ret
            all_goals exact ⟨v, rfl, HO2.out, HBL.out⟩
  · have HPD := Lib.hid (hP (by decide))
    clear hP hgood2
    go_wp2_with fail
    all_goals go_ret
    all_goals exact ⟨_, rfl, by rw [HPD.out]; exact OwnInts.nil _ _, HB2.out⟩
end Go.Proofs.YteaiadpigpehaaaGreatDoor
