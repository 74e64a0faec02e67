/-
  annalsref2.Name walked: one answer of any text, the very one of text.Name. Conditions: the reference's table of letters as laid.
-/
import Derived.Test.YtepmfjhhmnmmeaaDoorNames
namespace Go.Proofs.YtepmfjhhmnmmeaaDoor
open Go.RowKit

theorem boxed {w a : World} {o : Obj} (h : Below w.heap.size w a) : Below w.heap.size w (a.alloc o) := h.alloc (by have := h.size; omega) _
structure Boxed (wr w3 : World) (R p : Int) : Prop where
  below : Below wr.heap.size wr w3
  c0 : w3.cell? ⟨wr.heap.size, 0, none⟩ = some (.int .i64 R)
  c1 : w3.cell? ⟨wr.heap.size, 1, none⟩ = some (.int .i64 p)
theorem Boxed.drawn {wr w3 w4 : World} {R p : Int} (h : Boxed wr w3 R p) (hd : Drawn w3 w4) : Boxed wr w4 R p := by
  obtain ⟨n, rfl⟩ := hd.out
  exact ⟨then_ h.below hd.below, h.c0, h.c1⟩
theorem Boxed.start (wr : World) (R p : Int) (v : Value) (t : Nat) : Boxed wr (wr.alloc (.cells #[.int .i64 R, .int .i64 p, v] t)) R p := ⟨boxed (Below.refl _ _), by simp, by simp⟩
theorem fin {w a b c : World} (h : Below w.heap.size w a) (h2 : Below a.heap.size a b) (hd : Drawn b c) : Below w.heap.size w c := then_ (then_ h h2) hd.below

set_option maxRecDepth 100000 in
set_option maxHeartbeats 2000000 in
theorem refName_any (s : ByteArray) (hs : s.size ≤ 1099511627776) (w : World) (ht : LR w) :
    Calls Tryd.prog 19 #[.string s] w fun e w' => e = .returned (.tuple #[.int .i64 (nameA s).1, .int .i64 (nameA s).2]) ∧ Below w.heap.size w w' := by
  have hp := Lib.hid (fun w => pieces_read s hs w)
  have HT := Lib.hid ht
  clear ht
  go_enter Tryd.func19, Tryd.ntmps19
  go_wp2_with fail
  refine (hp.out _).mono ?_
  rintro e w2 ⟨A, c, k, rfl, hend, hj, hat, hb⟩
  by_cases hk0 : k = 0
  · subst hk0
    have hv := Lib.hid (NameAt.none_ (NameAt.start s) (by have := hend; simp [posAt] at this; omega) (by omega))
    have HB := Lib.hid hb
    clear hend hj hat hb
    go_wp2
    all_goals go_ret2
    all_goals exact ⟨ret_name hv.out, HB.out⟩
  · obtain ⟨g, rfl, hc⟩ := hat (by omega)
    have HB := Lib.hid hb
    have HC := Lib.hid hc
    have HJ := Lib.hid hj
    have Hend := Lib.hid hend
    clear hend hj hat hb hc
    have hkl := count_le HJ.out
    have hk0' : ((k : Int) == 0) = false := by rw [beq_eq_false_iff_ne]; omega
    go_wp2
    go_loopw [5] (fun i wr => ∃ j : Nat, j ≤ 48 ∧ j ≤ k ∧ i = .int .i64 j ∧ Below w2.heap.size w2 wr ∧ Hid (NameAt s j (posAt s j))) (fun i _ => k - (intOf i).toNat)
    case atStart => exact ⟨0, by omega, by omega, rfl, Below.refl _ _, Lib.hid (NameAt.start s)⟩
    case round =>
      obtain ⟨j, hj48, hjk, rfl, hb, HN⟩ := hrel
      by_cases hlt : j < k
      · obtain ⟨hc0, hc1, hc2⟩ := HC.out j hlt
        have hc0 := (hb.cell (World.block_lt_of_cell? _ _ hc0)).trans hc0
        have hc1 := (hb.cell (World.block_lt_of_cell? _ _ hc1)).trans hc1
        have hc2 := (hb.cell (World.block_lt_of_cell? _ _ hc2)).trans hc2
        have hjs := HJ.out j hlt
        obtain ⟨p, hp'⟩ : ∃ p, posAt s j = p := ⟨_, rfl⟩
        by_cases h48 : j = 48
        · have hv := Lib.hid (NameAt.long HN.out hjs h48)
          rw [hp'] at hc0 hc1 hc2 hv
          have HB2 := Lib.hid (then_ HB.out hb)
          subst h48
          clear hjs hp' HN hb
          go_wp2
          all_goals go_quiet (fail)
          all_goals go_wp2
          all_goals go_ret2
          all_goals exact ⟨ret_name hv.out, by first | exact boxed HB2.out | exact (boxed HB2.out).drew | exact then_ (boxed HB2.out) (Drawn.below ⟨⟨_, rfl⟩⟩)⟩
        · have hj48' : ((j : Int) ≥ 48) = False := by simp; omega
          cases hst : strayAt s (posAt s j) with
          | true =>
            have hv := Lib.hid (NameAt.stray HN.out hjs h48 hst)
            have hR : pieceR s (posAt s j) = -1 := by unfold pieceR; rw [if_pos hst]
            rw [hR] at hc0
            rw [hp'] at hc1 hc2 hv
            have HB2 := Lib.hid (then_ HB.out hb)
            clear hst hjs hp' HN hb hR
            go_wp2
            all_goals go_quiet (fail)
            all_goals go_wp2
            all_goals go_ret2
            all_goals exact ⟨ret_name hv.out, by first | exact boxed HB2.out | exact (boxed HB2.out).drew | exact then_ (boxed HB2.out) (Drawn.below ⟨⟨_, rfl⟩⟩)⟩
          | false =>
            have hR : pieceR s (posAt s j) = ((Utf8.decode s (posAt s j)).1 : Int) := by unfold pieceR; rw [if_neg (by rw [hst]; exact Bool.false_ne_true)]
            rw [hR] at hc0
            obtain ⟨R, hRR⟩ : ∃ R, (Utf8.decode s (posAt s j)).1 = R := ⟨_, rfl⟩
            rw [hRR] at hc0
            rw [hp'] at hc1 hc2
            have hR0 : ¬ ((R : Int) < 0) := by omega
            have HB2 := Lib.hid (then_ HB.out hb)
            have HR2 : Hid (LR wr) := Lib.hid (PairsAt.below HT.out HB2.out)
            have HK2 := Lib.hid hb
            have HX : Hid (Boxed wr (wr.alloc (.cells #[.int .i64 R, .int .i64 p, .int .i64 (Utf8.decode s p).2] 79)) R p) := Lib.hid (Boxed.start _ _ _ _ _)
            cases hin : inNameB (R : Int) with
            | false =>
              have hv := Lib.hid (NameAt.bad HN.out hjs h48 hst (by rw [hRR]; exact bad_in hin))
              rw [hp'] at hv
              have cI := Lib.hid (fun w h => nameRune_at hin w h)
              have hl : letterB (R : Int) = false := by
                cases h : letterB (R : Int) with
                | true => rw [in_of_letter h] at hin; cases hin
                | false => rfl
              have cL := Lib.hid (fun w h => refLetter_at hl w h)
              clear HN hb hst hp' hR hRR hjs hin hl
              by_cases h0 : j = 0
              · subst h0
                go_wp2_with (first | (go_at_call 14; (with_reducible refine (cL.out _ (PairsAt.below HR2.out HX.out.below)).mono ?_); rintro e w3 ⟨rfl, hd⟩; have HX' := Lib.hid (HX.out.drawn hd); clear HX hd; have HX := HX'; clear HX'; have hx0 := HX.out.c0; have hx1 := HX.out.c1))
                all_goals go_quiet (fail)
                all_goals go_wp2
                all_goals go_ret2
                all_goals exact ⟨ret_name hv.out, fin HB2.out HX.out.below (by first | exact Drawn.refl _ | exact ⟨⟨_, rfl⟩⟩)⟩
              · have hj0 : ((j : Int) == 0) = false := by rw [beq_eq_false_iff_ne]; omega
                go_wp2_with (first | (go_at_call 42; (with_reducible refine (cI.out _ (PairsAt.below HR2.out HX.out.below)).mono ?_); rintro e w3 ⟨rfl, hd⟩; have HX' := Lib.hid (HX.out.drawn hd); clear HX hd; have HX := HX'; clear HX'; have hx0 := HX.out.c0; have hx1 := HX.out.c1))
                all_goals go_quiet (fail)
                all_goals go_wp2
                all_goals go_ret2
                all_goals exact ⟨ret_name hv.out, fin HB2.out HX.out.below (by first | exact Drawn.refl _ | exact ⟨⟨_, rfl⟩⟩)⟩
            | true =>
              have cI := Lib.hid (fun w h => nameRune_at hin w h)
              by_cases h0 : j = 0
              · cases hl : letterB (R : Int) with
                | false =>
                  have hv := Lib.hid (NameAt.bad HN.out hjs h48 hst (by rw [hRR, h0]; exact bad_first hl))
                  rw [hp'] at hv
                  have cL := Lib.hid (fun w h => refLetter_at hl w h)
                  clear HN hb hst hp' hR hRR hjs hin hl
                  subst h0
                  go_wp2_with (first | (go_at_call 14; (with_reducible refine (cL.out _ (PairsAt.below HR2.out HX.out.below)).mono ?_); rintro e w3 ⟨rfl, hd⟩; have HX' := Lib.hid (HX.out.drawn hd); clear HX hd; have HX := HX'; clear HX'; have hx0 := HX.out.c0; have hx1 := HX.out.c1))
                  all_goals go_quiet (fail)
                  all_goals go_wp2
                  all_goals go_ret2
                  all_goals exact ⟨ret_name hv.out, fin HB2.out HX.out.below (by first | exact Drawn.refl _ | exact ⟨⟨_, rfl⟩⟩)⟩
                | true =>
                  have hv := NameAt.on HN.out hjs h48 hst (by rw [hRR, h0]; exact fine_first hl)
                  rw [← posAt_succ hjs] at hv
                  have hv := Lib.hid hv
                  have cL := Lib.hid (fun w h => refLetter_at hl w h)
                  clear HN hb hst hp' hR hRR hjs hin hl
                  subst h0
                  go_wp2_with (first | (go_at_call 14; (with_reducible refine (cL.out _ (PairsAt.below HR2.out HX.out.below)).mono ?_); rintro e w3 ⟨rfl, hd⟩; have HX' := Lib.hid (HX.out.drawn hd); clear HX hd; have HX := HX'; clear HX'; have hx0 := HX.out.c0; have hx1 := HX.out.c1) | (go_at_call 42; (with_reducible refine (cI.out _ (PairsAt.below HR2.out HX.out.below)).mono ?_); rintro e w3 ⟨rfl, hd⟩; have HX' := Lib.hid (HX.out.drawn hd); clear HX hd; have HX := HX'; clear HX'; have hx0 := HX.out.c0; have hx1 := HX.out.c1))
                  all_goals go_roundw
                  case rel => exact ⟨0 + 1, by omega, by omega, by go_num, then_ HK2.out HX.out.below, hv⟩
                  case measure => simp [intOf]; omega
              · have hv := NameAt.on HN.out hjs h48 hst (by rw [hRR]; exact fine_later hin h0)
                rw [← posAt_succ hjs] at hv
                have hv := Lib.hid hv
                have hj0 : ((j : Int) == 0) = false := by rw [beq_eq_false_iff_ne]; omega
                clear HN hb hst hp' hR hRR hjs hin
                go_wp2_with (first | (go_at_call 42; (with_reducible refine (cI.out _ (PairsAt.below HR2.out HX.out.below)).mono ?_); rintro e w3 ⟨rfl, hd⟩; have HX' := Lib.hid (HX.out.drawn hd); clear HX hd; have HX := HX'; clear HX'; have hx0 := HX.out.c0; have hx1 := HX.out.c1))
                all_goals go_roundw
                case rel => exact ⟨j + 1, by omega, by omega, by go_num, then_ HK2.out HX.out.below, hv⟩
                case measure => simp [intOf]; omega
      · obtain rfl : j = k := by omega
        have hv := Lib.hid (NameAt.good HN.out (by rw [Hend.out]; omega) (by rw [Hend.out]; omega) hk0)
        have HB2 := Lib.hid (then_ HB.out hb)
        clear HN hb
        go_wp2
        all_goals go_ret2
        all_goals exact ⟨ret_name hv.out, HB2.out⟩
end Go.Proofs.YtepmfjhhmnmmeaaDoor
