/-
  text.name (of words) walked: the name with which a text begins. Conditions: the tables of unicode/utf8 and of letters as laid.
-/
import Derived.Test.YtepmfjhhmnmmeaaDoorNumber
import Derived.Test.YtepmfjhhmnmmeaaDoorRowLaws
import Derived.Test.YtepmfjhhmnmmeaaDoorNames
import Derived.Test.YtepmfjhhmnmmeaaDoorBuilder
namespace Go.Proofs.YtepmfjhhmnmmeaaDoor
open Go.RowKit

/-- The world within the walk of a name: the iterator, the word's own block. -/
structure NmSt (w : World) (t : ByteArray) (K q : Nat) (w2 : World) : Prop where
  it : w2.heap[K]? = some (.stringIter t q)
  bel : Below w.heap.size w w2
  blk : BlkAt w2 w.heap.size zeroWord 41
theorem NmSt.call {w w1 w2 : World} {t : ByteArray} {K q : Nat} (h : NmSt w t K q w1) (hb : Below w1.heap.size w1 w2) : NmSt w t K q w2 :=
  ⟨(hb.block K (lt_some h.it)).trans h.it, then_ h.bel hb, (hb.block _ (lt_some h.blk)).trans h.blk⟩
theorem NmSt.step {w w1 : World} {t : ByteArray} {K p : Nat} (h : NmSt w t K p w1) (hK : w.heap.size < K) (q : Nat) : NmSt w t K q (w1.iterAt K t q) := by
  refine ⟨Lib.iterAt_heap w1 K t p q h.it, Lib.below_iterAt h.bel (by omega) t q, ?_⟩
  have hb := h.blk
  unfold BlkAt at hb ⊢
  simp only [World.iterAt, Array.getElem?_setIfInBounds]
  rw [if_neg (by omega)]
  exact hb
structure ScanSt (t : ByteArray) (p k : Nat) : Prop where
  at_ : ScanAt t p k
  pos : k = 0 → p = 0
theorem stop_of {t : ByteArray} {p : Nat} {b : Bool} (h : nameStop t p = b) : nameStop t p = b := h
set_option maxHeartbeats 8000000 in
set_option maxRecDepth 100000 in
theorem wname_any (t : ByteArray) (ht : 0 < t.size) (hs : t.size ≤ 4611686018427387904) (w : World) (hU : U8 w) (hL : LT w) :
    Calls Tryd.prog 74 #[.string t] w fun e w' => WordAns (nameT t) e ∧ Below w.heap.size w w' := by
  have HU := Lib.hid hU
  have HT := Lib.hid hL
  clear hU hL
  go_enter Tryd.func74, Tryd.ntmps74
  go_wp2
  have hst0 : NmSt w t (w.heap.size + 1) 0 ((w.alloc (.cells zeroWord 41)).iter t 0) := by
    have e : (w.alloc (.cells zeroWord 41)).heap.size = w.heap.size + 1 := by simp
    refine ⟨by rw [← e]; exact World.iter_heap _ _ _, (((Below.refl _ w).alloc (Nat.le_refl _) _).trans ((below_iter _ t 0).mono (by rw [e]; omega))), ?_⟩
    exact ((below_iter (w.alloc (.cells zeroWord 41)) t 0).block _ (by rw [e]; omega)).trans (BlkAt.new w zeroWord _)
  have HS0 := Lib.hid hst0
  clear hst0
  obtain ⟨K, hK⟩ : ∃ K, w.heap.size + 1 = K := ⟨_, rfl⟩
  have hKw : w.heap.size < K := by omega
  rw [hK] at HS0
  try simp only [hK]
  go_loopw [6, 7, 8, 9] (fun c e _ _ wr => ∃ k p : Nat, k ≤ 48 ∧ c = .int .i64 k ∧ e = .int .i64 t.size ∧ p ≤ t.size ∧ NmSt w t K p wr ∧ Hid (ScanSt t p k)) (fun _ _ _ _ wr => t.size - wr.iterPos K)
  case atStart => exact ⟨0, 0, by omega, rfl, rfl, by omega, HS0.out, Lib.hid ⟨rfl, fun _ => rfl⟩⟩
  case round =>
    obtain ⟨k, p, hk, rfl, rfl, hp, hst, HS⟩ := hrel
    clear HS0
    have hit := hst.it
    by_cases hlt : p < t.size
    · have hnx := fun ty => Lib.run_next_any_at (P := Tryd.prog) wr K t p ty hit hlt
      have hgt := next_gt hlt
      have hle := width_le' hlt
      have hpos := Lib.hid (iterPos_of hit)
      obtain ⟨q, hq⟩ : ∃ q, nextPos t p = q := ⟨_, rfl⟩
      have hq' : p + (Utf8.decode t p).2 = q := hq
      have HI0 := Lib.hid (hst.step hKw q)
      have hcS := stray_any t p hlt (by omega) (wr.iterAt K t q) (u8_below HU.out HI0.out.bel)
      have hstop : nameStop t p = (strayAt t p || !inNameB (Utf8.decode t p).1 || (p == 0 && !letterB (Utf8.decode t p).1)) := rfl
      have x1 : (0 : Int) ≤ (p : Int) := by omega
      have x2 : (p : Int) ≤ (t.size : Int) := by omega
      rw [hq] at hgt hle
      rw [hq'] at hnx
      obtain ⟨r, hr⟩ : ∃ r, (Utf8.decode t p).1 = r := ⟨_, rfl⟩
      rw [hr] at hnx hcS hstop
      clear hit hst hq'
      cases hsy : strayAt t p with
      | true =>
        rw [hsy] at hcS hstop
        have HX : Hid (nameScan t t.size 0 0 = .inr (p, k)) := Lib.hid (HS.out.at_.stop (fun _ => by rw [hstop]; rfl))
        have cS := Lib.hid hcS
        clear hcS hstop hsy hr hq
        by_cases k0 : k = 0
        · subst k0
          have HV := Lib.hid (show nameT t = .inl (otherE t, 0) from by unfold nameT; rw [HX.out]; rfl)
          have cO := Lib.hid (fun w h => other_any t ht w h)
          clear HS HX
          go_wp2_with (first
            | (go_at_call 39; (with_reducible refine cS.out.mono ?_); rintro e w2 ⟨rfl, hb2⟩; have HI := Lib.hid (HI0.out.call hb2); clear hb2)
            | (go_at_call 59; (with_reducible refine (cO.out _ (u8_below HU.out HI.out.bel)).mono ?_); rintro e w5 ⟨rfl, hb5⟩; have HI' := Lib.hid (HI.out.call hb5); clear HI hb5; have HI := HI'; clear HI')
            | (refine wpList_store_all rfl _ _ _ rfl _ rfl _ rfl _ _ HI.out.blk (by rfl) (by simp [Value.oneCell']) rowWord ?_; intro w9 hw9 K9; have HB9 := Lib.hid (hw9.below HI.out.bel (Nat.le_refl _)); have HK9 := Lib.hid K9; clear hw9 K9))
          all_goals exact bodyPost_ret (results_row4 rfl _ _ _ _ _ rfl HK9.out rowWord) rfl ⟨Or.inl ⟨_, _, ⟨0, 0, ⟨#[]⟩, 0⟩, _, HV.out, rfl⟩, HB9.out⟩

        · have HV := Lib.hid (show nameT t = .inr (⟨1, 0, t.extract 0 p, 0⟩, p) from by unfold nameT; rw [HX.out]; exact if_neg k0)
          have hk0 : ((k : Int) == 0) = false := by rw [beq_eq_false_iff_ne]; omega
          clear HS HX k0
          go_wp2_with (first
            | (go_at_call 39; (with_reducible refine cS.out.mono ?_); rintro e w2 ⟨rfl, hb2⟩; have HI := Lib.hid (HI0.out.call hb2); clear hb2)
            | (refine wpList_store_all rfl _ _ _ rfl _ rfl _ rfl _ _ HI.out.blk (by rfl) (by simp [Value.oneCell']) rowWord ?_; intro w9 hw9 K9; have HB9 := Lib.hid (hw9.below HI.out.bel (Nat.le_refl _)); have HK9 := Lib.hid K9; clear hw9 K9))
          all_goals exact bodyPost_ret (results_row4 rfl _ _ _ _ _ rfl HK9.out rowWord) rfl ⟨Or.inr ⟨⟨1, 0, t.extract 0 p, 0⟩, _, HV.out, rfl⟩, HB9.out⟩
      | false =>
        rw [hsy] at hcS hstop
        have cS := Lib.hid hcS
        cases hin : inNameB (r : Int) with
        | false =>
          rw [hin] at hstop
          have HX : Hid (nameScan t t.size 0 0 = .inr (p, k)) := Lib.hid (HS.out.at_.stop (fun _ => by rw [hstop]; rfl))
          have cI := Lib.hid (fun w h => inName_at hin w h)
          clear hcS hstop hsy hr hq hin
          by_cases k0 : k = 0
          · subst k0
            have HV := Lib.hid (show nameT t = .inl (otherE t, 0) from by unfold nameT; rw [HX.out]; rfl)
            have cO := Lib.hid (fun w h => other_any t ht w h)
            clear HS HX
            go_wp2_with (first
              | (go_at_call 39; (with_reducible refine cS.out.mono ?_); rintro e w2 ⟨rfl, hb2⟩; have HI := Lib.hid (HI0.out.call hb2); clear hb2)
              | (go_at_call 40; (with_reducible refine (cI.out _ (PairsAt.below HT.out HI.out.bel)).mono ?_); rintro e w3 ⟨rfl, hd⟩; have HI' := Lib.hid (HI.out.call hd.below); clear HI hd; have HI := HI'; clear HI')
              | (go_at_call 59; (with_reducible refine (cO.out _ (u8_below HU.out HI.out.bel)).mono ?_); rintro e w5 ⟨rfl, hb5⟩; have HI' := Lib.hid (HI.out.call hb5); clear HI hb5; have HI := HI'; clear HI')
              | (refine wpList_store_all rfl _ _ _ rfl _ rfl _ rfl _ _ HI.out.blk (by rfl) (by simp [Value.oneCell']) rowWord ?_; intro w9 hw9 K9; have HB9 := Lib.hid (hw9.below HI.out.bel (Nat.le_refl _)); have HK9 := Lib.hid K9; clear hw9 K9))
            all_goals exact bodyPost_ret (results_row4 rfl _ _ _ _ _ rfl HK9.out rowWord) rfl ⟨Or.inl ⟨_, _, ⟨0, 0, ⟨#[]⟩, 0⟩, _, HV.out, rfl⟩, HB9.out⟩

          · have HV := Lib.hid (show nameT t = .inr (⟨1, 0, t.extract 0 p, 0⟩, p) from by unfold nameT; rw [HX.out]; exact if_neg k0)
            have hk0 : ((k : Int) == 0) = false := by rw [beq_eq_false_iff_ne]; omega
            clear HS HX k0
            go_wp2_with (first
              | (go_at_call 39; (with_reducible refine cS.out.mono ?_); rintro e w2 ⟨rfl, hb2⟩; have HI := Lib.hid (HI0.out.call hb2); clear hb2)
              | (go_at_call 40; (with_reducible refine (cI.out _ (PairsAt.below HT.out HI.out.bel)).mono ?_); rintro e w3 ⟨rfl, hd⟩; have HI' := Lib.hid (HI.out.call hd.below); clear HI hd; have HI := HI'; clear HI')
              | (refine wpList_store_all rfl _ _ _ rfl _ rfl _ rfl _ _ HI.out.blk (by rfl) (by simp [Value.oneCell']) rowWord ?_; intro w9 hw9 K9; have HB9 := Lib.hid (hw9.below HI.out.bel (Nat.le_refl _)); have HK9 := Lib.hid K9; clear hw9 K9))
            all_goals exact bodyPost_ret (results_row4 rfl _ _ _ _ _ rfl HK9.out rowWord) rfl ⟨Or.inr ⟨⟨1, 0, t.extract 0 p, 0⟩, _, HV.out, rfl⟩, HB9.out⟩
        | true =>
          rw [hin] at hstop
          have cI := Lib.hid (fun w h => inName_at hin w h)
          by_cases p0 : p = 0
          · have e0 : ((p : Int) == 0) = true := by rw [beq_iff_eq]; omega
            cases hl : letterB (r : Int) with
            | false =>
              rw [hl] at hstop
              have HX : Hid (nameScan t t.size 0 0 = .inr (p, k)) := Lib.hid (HS.out.at_.stop (fun _ => by rw [hstop, p0]; rfl))
              have cL := Lib.hid (fun w h => letter_at hl w h)
              clear hcS hstop hsy hr hq hin hl p0
              by_cases k0 : k = 0
              · subst k0
                have HV := Lib.hid (show nameT t = .inl (otherE t, 0) from by unfold nameT; rw [HX.out]; rfl)
                have cO := Lib.hid (fun w h => other_any t ht w h)
                clear HS HX
                go_wp2_with (first
                  | (go_at_call 39; (with_reducible refine cS.out.mono ?_); rintro e w2 ⟨rfl, hb2⟩; have HI := Lib.hid (HI0.out.call hb2); clear hb2)
                  | (go_at_call 40; (with_reducible refine (cI.out _ (PairsAt.below HT.out HI.out.bel)).mono ?_); rintro e w3 ⟨rfl, hd⟩; have HI' := Lib.hid (HI.out.call hd.below); clear HI hd; have HI := HI'; clear HI')
                  | (go_at_call 13; (with_reducible refine (cL.out _ (PairsAt.below HT.out HI.out.bel)).mono ?_); rintro e w3 ⟨rfl, hd⟩; have HI' := Lib.hid (HI.out.call hd.below); clear HI hd; have HI := HI'; clear HI')
                  | (go_at_call 59; (with_reducible refine (cO.out _ (u8_below HU.out HI.out.bel)).mono ?_); rintro e w5 ⟨rfl, hb5⟩; have HI' := Lib.hid (HI.out.call hb5); clear HI hb5; have HI := HI'; clear HI')
                  | (refine wpList_store_all rfl _ _ _ rfl _ rfl _ rfl _ _ HI.out.blk (by rfl) (by simp [Value.oneCell']) rowWord ?_; intro w9 hw9 K9; have HB9 := Lib.hid (hw9.below HI.out.bel (Nat.le_refl _)); have HK9 := Lib.hid K9; clear hw9 K9))
                all_goals exact bodyPost_ret (results_row4 rfl _ _ _ _ _ rfl HK9.out rowWord) rfl ⟨Or.inl ⟨_, _, ⟨0, 0, ⟨#[]⟩, 0⟩, _, HV.out, rfl⟩, HB9.out⟩

              · have HV := Lib.hid (show nameT t = .inr (⟨1, 0, t.extract 0 p, 0⟩, p) from by unfold nameT; rw [HX.out]; exact if_neg k0)
                have hk0 : ((k : Int) == 0) = false := by rw [beq_eq_false_iff_ne]; omega
                clear HS HX k0
                go_wp2_with (first
                  | (go_at_call 39; (with_reducible refine cS.out.mono ?_); rintro e w2 ⟨rfl, hb2⟩; have HI := Lib.hid (HI0.out.call hb2); clear hb2)
                  | (go_at_call 40; (with_reducible refine (cI.out _ (PairsAt.below HT.out HI.out.bel)).mono ?_); rintro e w3 ⟨rfl, hd⟩; have HI' := Lib.hid (HI.out.call hd.below); clear HI hd; have HI := HI'; clear HI')
                  | (go_at_call 13; (with_reducible refine (cL.out _ (PairsAt.below HT.out HI.out.bel)).mono ?_); rintro e w3 ⟨rfl, hd⟩; have HI' := Lib.hid (HI.out.call hd.below); clear HI hd; have HI := HI'; clear HI')
                  | (refine wpList_store_all rfl _ _ _ rfl _ rfl _ rfl _ _ HI.out.blk (by rfl) (by simp [Value.oneCell']) rowWord ?_; intro w9 hw9 K9; have HB9 := Lib.hid (hw9.below HI.out.bel (Nat.le_refl _)); have HK9 := Lib.hid K9; clear hw9 K9))
                all_goals exact bodyPost_ret (results_row4 rfl _ _ _ _ _ rfl HK9.out rowWord) rfl ⟨Or.inr ⟨⟨1, 0, t.extract 0 p, 0⟩, _, HV.out, rfl⟩, HB9.out⟩
            | true =>
              rw [hl] at hstop
              have HX : Hid (nameStop t p = false) := Lib.hid (by rw [hstop]; simp)
              have cL := Lib.hid (fun w h => letter_at hl w h)
              clear hcS hstop hsy hr hin hl p0
              by_cases h48 : k = 48
              · have HV := Lib.hid (show nameT t = .inl (23, p) from by unfold nameT; rw [HS.out.at_.long hlt HX.out h48])
                subst h48
                clear HS HX
                go_wp2_with (first
                  | (go_at_call 39; (with_reducible refine cS.out.mono ?_); rintro e w2 ⟨rfl, hb2⟩; have HI := Lib.hid (HI0.out.call hb2); clear hb2)
                  | (go_at_call 40; (with_reducible refine (cI.out _ (PairsAt.below HT.out HI.out.bel)).mono ?_); rintro e w3 ⟨rfl, hd⟩; have HI' := Lib.hid (HI.out.call hd.below); clear HI hd; have HI := HI'; clear HI')
                  | (go_at_call 13; (with_reducible refine (cL.out _ (PairsAt.below HT.out HI.out.bel)).mono ?_); rintro e w3 ⟨rfl, hd⟩; have HI' := Lib.hid (HI.out.call hd.below); clear HI hd; have HI := HI'; clear HI')
                  | (refine wpList_store_all rfl _ _ _ rfl _ rfl _ rfl _ _ HI.out.blk (by rfl) (by simp [Value.oneCell']) rowWord ?_; intro w9 hw9 K9; have HB9 := Lib.hid (hw9.below HI.out.bel (Nat.le_refl _)); have HK9 := Lib.hid K9; clear hw9 K9))
                all_goals exact bodyPost_ret (results_row4 rfl _ _ _ _ _ rfl HK9.out rowWord) rfl ⟨Or.inl ⟨_, _, ⟨0, 0, ⟨#[]⟩, 0⟩, _, HV.out, rfl⟩, HB9.out⟩

              · have hk48 : ((k : Int) == 48) = false := by rw [beq_eq_false_iff_ne]; omega
                have HS2 : Hid (ScanSt t q (k + 1)) := Lib.hid ⟨by rw [← hq]; exact HS.out.at_.next hlt HX.out h48, fun h => by omega⟩
                clear HS HX hq
                go_wp2_with (first
                  | (go_at_call 39; (with_reducible refine cS.out.mono ?_); rintro e w2 ⟨rfl, hb2⟩; have HI := Lib.hid (HI0.out.call hb2); clear hb2)
                  | (go_at_call 40; (with_reducible refine (cI.out _ (PairsAt.below HT.out HI.out.bel)).mono ?_); rintro e w3 ⟨rfl, hd⟩; have HI' := Lib.hid (HI.out.call hd.below); clear HI hd; have HI := HI'; clear HI')
                  | (go_at_call 13; (with_reducible refine (cL.out _ (PairsAt.below HT.out HI.out.bel)).mono ?_); rintro e w3 ⟨rfl, hd⟩; have HI' := Lib.hid (HI.out.call hd.below); clear HI hd; have HI := HI'; clear HI'))
                all_goals go_roundw
                case rel => exact ⟨k + 1, q, by omega, by go_num, rfl, hle, HI.out, HS2⟩
                case measure => rw [iterPos_of HI.out.it, hpos.out]; omega
          · have e0 : ((p : Int) == 0) = false := by rw [beq_eq_false_iff_ne]; omega
            have HX : Hid (nameStop t p = false) := Lib.hid (by rw [hstop]; simp [p0])
            clear hcS hstop hsy hr hin p0
            by_cases h48 : k = 48
            · have HV := Lib.hid (show nameT t = .inl (23, p) from by unfold nameT; rw [HS.out.at_.long hlt HX.out h48])
              subst h48
              clear HS HX
              go_wp2_with (first
                | (go_at_call 39; (with_reducible refine cS.out.mono ?_); rintro e w2 ⟨rfl, hb2⟩; have HI := Lib.hid (HI0.out.call hb2); clear hb2)
                | (go_at_call 40; (with_reducible refine (cI.out _ (PairsAt.below HT.out HI.out.bel)).mono ?_); rintro e w3 ⟨rfl, hd⟩; have HI' := Lib.hid (HI.out.call hd.below); clear HI hd; have HI := HI'; clear HI')
                | (refine wpList_store_all rfl _ _ _ rfl _ rfl _ rfl _ _ HI.out.blk (by rfl) (by simp [Value.oneCell']) rowWord ?_; intro w9 hw9 K9; have HB9 := Lib.hid (hw9.below HI.out.bel (Nat.le_refl _)); have HK9 := Lib.hid K9; clear hw9 K9))
              all_goals exact bodyPost_ret (results_row4 rfl _ _ _ _ _ rfl HK9.out rowWord) rfl ⟨Or.inl ⟨_, _, ⟨0, 0, ⟨#[]⟩, 0⟩, _, HV.out, rfl⟩, HB9.out⟩

            · have hk48 : ((k : Int) == 48) = false := by rw [beq_eq_false_iff_ne]; omega
              have HS2 : Hid (ScanSt t q (k + 1)) := Lib.hid ⟨by rw [← hq]; exact HS.out.at_.next hlt HX.out h48, fun h => by omega⟩
              clear HS HX hq
              go_wp2_with (first
                | (go_at_call 39; (with_reducible refine cS.out.mono ?_); rintro e w2 ⟨rfl, hb2⟩; have HI := Lib.hid (HI0.out.call hb2); clear hb2)
                | (go_at_call 40; (with_reducible refine (cI.out _ (PairsAt.below HT.out HI.out.bel)).mono ?_); rintro e w3 ⟨rfl, hd⟩; have HI' := Lib.hid (HI.out.call hd.below); clear HI hd; have HI := HI'; clear HI'))
              all_goals go_roundw
              case rel => exact ⟨k + 1, q, by omega, by go_num, rfl, hle, HI.out, HS2⟩
              case measure => rw [iterPos_of HI.out.it, hpos.out]; omega
    · have hnx := fun ty => Lib.run_next_end_at (P := Tryd.prog) wr K t p ty hit hlt
      obtain rfl : p = t.size := by omega
      have HX : Hid (nameScan t t.size 0 0 = .inr (t.size, k)) := Lib.hid (HS.out.at_.stop (fun h => absurd h hlt))
      have HI := Lib.hid hst
      have k0 : k ≠ 0 := fun h => by have := HS.out.pos h; omega
      have HV := Lib.hid (show nameT t = .inr (⟨1, 0, t.extract 0 t.size, 0⟩, t.size) from by unfold nameT; rw [HX.out]; exact if_neg k0)
      have hk0 : ((k : Int) == 0) = false := by rw [beq_eq_false_iff_ne]; omega
      clear HS HX k0 hit hst hlt
      go_wp2_with (first
        | (refine wpList_store_all rfl _ _ _ rfl _ rfl _ rfl _ _ HI.out.blk (by rfl) (by simp [Value.oneCell']) rowWord ?_; intro w9 hw9 K9; have HB9 := Lib.hid (hw9.below HI.out.bel (Nat.le_refl _)); have HK9 := Lib.hid K9; clear hw9 K9))
      all_goals exact bodyPost_ret (results_row4 rfl _ _ _ _ _ rfl HK9.out rowWord) rfl ⟨Or.inr ⟨⟨1, 0, t.extract 0 t.size, 0⟩, _, HV.out, by first | rfl | (rw [whole_cut]; rfl)⟩, HB9.out⟩
end Go.Proofs.YtepmfjhhmnmmeaaDoor
