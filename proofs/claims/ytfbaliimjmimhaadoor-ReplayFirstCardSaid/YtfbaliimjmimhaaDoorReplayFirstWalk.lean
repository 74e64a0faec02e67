/-
  ReplayFirst: the law walked: it answers true. Conditions: the tables, as laid. (Printed by wip/gen_first.py.)
-/
import Derived.Test.YtfbaliimjmimhaaDoorFoldUse
namespace Go.Proofs.YtfbaliimjmimhaaDoor.replayFirst
open Go.RowKit

set_option maxRecDepth 10000000 in
set_option maxHeartbeats 4000000 in
theorem walk (s : Sl) (Rs : List RecD) (t : Sl) (Ms : List RecD) (w : World) (tT : Tables w) (tD : LandsAt w) (h : RecsAt w s Rs) (hc : s.n ≤ s.c) (hd : ∀ R ∈ Rs, LawRec R) (h' : RecsAt w t Ms) (hc' : t.n ≤ t.c) (hd' : ∀ R ∈ Ms, LawRec R) :
    Calls Tryd.prog 3 #[s.v, t.v] w fun e w' => e = .returned (.bool true) ∧ Below w.heap.size w w' := by
  have C1 := Lib.hid (cut16_any s Rs w h hc hd)
  have C2 := Lib.hid (fun w1 (hb : Below w.heap.size w w1) => cut16_any t Ms w1 (h'.below hb) hc' hd')
  have hok := cut16_ok hd
  have hok' := cut16_ok hd'
  have hlen := @cut16_len Rs
  have hlen' := @cut16_len Ms
  have hn := cutL_len 16385 Rs
  have hn' := cutL_len 16385 Ms
  obtain ⟨L, hL⟩ : ∃ q, cutL 16385 Rs = q := ⟨_, rfl⟩
  obtain ⟨M, hM⟩ : ∃ q, cutL 16385 Ms = q := ⟨_, rfl⟩
  rw [hL] at C1 hok hlen hn
  rw [hM] at C2 hok' hlen' hn'
  obtain ⟨⟨f, k⟩, hF⟩ : ∃ q, foldB noBag L = q := ⟨_, rfl⟩
  have hkl : k ≤ L.length := by have := foldB_le L noBag; rw [hF] at this; exact this
  have hT := foldB_take L noBag
  rw [hF] at hT
  have hlk : (L.take k).length = k := by simp; omega
  have HT := Lib.hid tT
  have HL := Lib.hid tD
  have HF := Lib.hid hF
  have HOK := Lib.hid hok
  have HOK' := Lib.hid hok'
  have HLEN := Lib.hid hlen
  have HLEN' := Lib.hid hlen'
  have HTK := Lib.hid hT
  have HLK := Lib.hid hlk
  clear tT tD h hd h' hd' hL hM hF hT hok hok' hlen hlen' hlk
  dsimp only [Sl.v]
  go_enter Tryd.func3, Tryd.ntmps3
  go_wp2_with fail
  refine C1.out.mono ?_
  rintro e w1 ⟨⟨a1, n1, c1⟩, rfl, hn1, r1, b1⟩
  simp only at hn1
  subst hn1
  have R1 := Lib.hid r1
  have B1 := Lib.hid b1
  clear r1 b1 C1
  dsimp only
  go_wp2_with fail
  refine (C2.out w1 B1.out).mono ?_
  rintro e w2 ⟨⟨a2, n2, c2⟩, rfl, hn2, r2, b2⟩
  simp only at hn2
  subst hn2
  have R1' := Lib.hid (R1.out.below b2)
  have R2 := Lib.hid (r2.lower (c := w.heap.size) B1.out.size)
  have B2 := Lib.hid (then_ B1.out b2)
  clear r2 b2 R1 B1 C2
  dsimp only
  go_wp2_with fail
  refine (awake_any w2 (HT.out.below B2.out) (HL.out.below B2.out)).mono ?_
  rintro e w3 ⟨rfl, b3⟩
  have R13 := Lib.hid (R1'.out.below b3)
  have R23 := Lib.hid (R2.out.below b3)
  have B3 := Lib.hid (then_ B2.out b3)
  clear b3 R1' R2 B2
  have CG := Lib.hid (legal_use ⟨a1, L.length, c1⟩ L w.heap.size w3 (HT.out.below B3.out) (HL.out.below B3.out) R13.out HOK.out HLEN.out (by omega) k f HF.out)
  go_wp2_with fail
  refine CG.out.mono ?_
  rintro e w4 ⟨⟨va, vn, vc⟩, Ss, rfl, st4, -, b4⟩
  dsimp only
  obtain ⟨w5, hw5⟩ : ∃ q, w4.alloc (.cells #[.int .i64 (k : Nat), .slice va vn vc] 27) = q := ⟨_, rfl⟩
  have hbw5 : Below w4.heap.size w4 w5 := by rw [← hw5]; exact boxd (Below.refl _ _)
  have K5 : Hid (BlkAt w5 w4.heap.size #[.int .i64 (k : Nat), .slice va vn vc] 27) := Lib.hid (by rw [← hw5]; exact BlkAt.new _ _ _)
  have HWw5 := Lib.hid hw5
  clear hw5
  have B45 := then_ b4 hbw5
  have S5 := Lib.hid (st4.below hbw5)
  have R15 := Lib.hid (R13.out.below B45)
  have R25 := Lib.hid (R23.out.below B45)
  have B5 := Lib.hid (then_ B3.out B45)
  clear st4 b4 hbw5 B45 R13 R23 B3 CG
  have R5 := R15.out.take hkl
  have CF := Lib.hid (fold_legal ⟨a1, k, c1⟩ (L.take k) w5 (HT.out.below B5.out) (HL.out.below B5.out) (R5.recsAt (fun R hR => HLEN.out R (List.mem_of_mem_take hR))) (fun R hR => HOK.out R (List.mem_of_mem_take hR)) (by rw [HLK.out]; omega) (by rw [HTK.out, HLK.out]))
  rw [HTK.out, HLK.out] at CF
  clear R5
  go_upto_region 5 with fail
  rw [HWw5.out]
  clear HWw5
  go_wp2_with fail
  refine CF.out.mono ?_
  rintro e w6 ⟨⟨xa, xn, xc⟩, Ts, rfl, st6, b6⟩
  dsimp only
  obtain ⟨w7, hw7⟩ : ∃ q, w6.alloc (.cells #[.int .i64 (k : Nat), .slice xa xn xc] 27) = q := ⟨_, rfl⟩
  have hbw7 : Below w6.heap.size w6 w7 := by rw [← hw7]; exact boxd (Below.refl _ _)
  have K7 : Hid (BlkAt w7 w6.heap.size #[.int .i64 (k : Nat), .slice xa xn xc] 27) := Lib.hid (by rw [← hw7]; exact BlkAt.new _ _ _)
  have HWw7 := Lib.hid hw7
  clear hw7
  have B67 := then_ b6 hbw7
  have hST : Ts = Ss := StateOf.unique st6.of S5.out.of (fun _ => rfl)
  subst hST
  have S7 := Lib.hid (S5.out.below B67)
  have T7 := Lib.hid (st6.below hbw7)
  have R17 := Lib.hid (R15.out.below B67)
  have R27 := Lib.hid (R25.out.below B67)
  have K57 := Lib.hid (K5.out.below B67 (blk_lt K5.out))
  have B7 := Lib.hid (then_ B5.out B67)
  clear st6 b6 hbw7 B67 R15 R25 S5 B5 CF K5
  have CM := Lib.hid (same_states (k : Int) ⟨xa, xn, xc⟩ ⟨va, vn, vc⟩ Ts w7 T7.out.at_ S7.out.at_)
  go_upto_region 8 with fail
  rw [HWw7.out]
  clear HWw7
  go_wp2_with (first
    | ((with_reducible refine wpList_load_blk_g ?_ _ (.tmp 8) ?_ (w6.heap.size) ?_ 27 (_) K7.out rowState ?_); rotate_left; exact rfl; exact rfl; rotate_left; kernel_rfl)
    | ((with_reducible refine wpList_load_blk_g ?_ _ (.tmp 6) ?_ (w4.heap.size) ?_ 27 (_) K57.out rowState ?_); rotate_left; exact rfl; exact rfl; rotate_left; kernel_rfl))
  refine CM.out.mono ?_
  rintro e w8 ⟨rfl, b8⟩
  have R18 := Lib.hid (R17.out.below b8)
  have R28 := Lib.hid (R27.out.below b8)
  have S8 := Lib.hid (S7.out.below b8)
  have K58 := Lib.hid (K57.out.below b8 (blk_lt K57.out))
  have B8 := Lib.hid (then_ B7.out b8)
  clear b8 R17 R27 S7 T7 K57 K7 B7 CM
  by_cases hke : k = L.length
  · have HKE := Lib.hid hke
    subst hke
    go_wp2_with fail
    all_goals go_ret
    all_goals exact ⟨rfl, B8.out⟩
  · have hklt : k < L.length := by omega
    have hra := R18.out
    obtain ⟨rs, -, -, q3, q4, -⟩ := R18.out
    simp only at q3 q4
    obtain ⟨b, o, e, -⟩ := q4 (by omega)
    subst e
    have hkc : k + 1 ≤ c1 := by omega
    have hfirst := foldB_first L M noBag (by rw [HF.out]; exact hklt)
    rw [HF.out] at hfirst
    have hlk1 : (L.take (k + 1)).length = k + 1 := by simp; omega
    have HFI := Lib.hid hfirst
    have HL1 := Lib.hid hlk1
    have RT := Lib.hid (hra.take (k := k + 1) (by omega))
    have hne : ((k : Int) == (L.length : Int)) = false := by simp; omega
    clear q3 q4 hfirst hlk1 hra
    go_wp2_with (at_builtin; refine wpList_append_recs w8 rfl (.const (.slice none 0 0)) (.tmp 48) rfl w.heap.size _ [] rfl (OwnRecs.nil _ _) ⟨some ⟨b, o, none⟩, k + 1, c1⟩ (L.take (k + 1)) rfl RT.out ?c1 ?c2 ?_)
    case c1 => rw [HL1.out, List.length_nil]; omega
    case c2 => exact B8.out.size
    intro v9 w9 o9 g9 at9 n9
    have X8 : RowSt w8 w8 w.heap.size (.slice none 0 0) [] := ⟨OwnRecs.nil _ _, (fun g e => by cases e), Below.refl _ _⟩
    have X9 := Lib.hid (X8.put o9 g9 (Nat.le_refl _) at9)
    have R29 := Lib.hid (R28.out.below X9.out.below)
    clear o9 g9 at9 X8 n9
    obtain ⟨va9, vn9, vc9⟩ := v9
    dsimp only [Sl.v] at X9 ⊢
    go_wp2_with (at_builtin; refine wpList_append_recs w9 rfl (.tmp 49) (.tmp 50) rfl w.heap.size _ (L.take (k + 1)) rfl X9.out.own ⟨a2, M.length, c2⟩ M rfl R29.out ?c1 ?c2 ?_)
    case c1 => rw [HL1.out]; omega
    case c2 => exact Nat.le_trans B8.out.size X9.out.below.size
    intro v10 w10 o10 g10 at10 n10
    have X10 := Lib.hid (X9.out.put o10 g10 (Nat.le_refl _) at10)
    clear o10 g10 at10
    obtain ⟨ya, yn, yc⟩ := v10
    dsimp only [Sl.v] at X10 ⊢
    have R10 := OwnRecs.recsIn (v := ⟨ya, yn, yc⟩) X10.out.own
    have B10 := Lib.hid (then_ B8.out X10.out.below)
    have hall : ∀ R ∈ L.take (k + 1) ++ M, R ∈ L ∨ R ∈ M := fun R hR => (List.mem_append.1 hR).imp List.mem_of_mem_take id
    have CE := Lib.hid (fold_ends ⟨ya, yn, yc⟩ (L.take (k + 1) ++ M) k w10 (HT.out.below B10.out) (HL.out.below B10.out) (R10.recsAt (fun R hR => (hall R hR).elim (HLEN.out R) (HLEN'.out R))) (fun R hR => (hall R hR).elim (HOK.out R) (HOK'.out R)) (by rw [List.length_append, HL1.out]; omega) (by rw [HFI.out]) (by rw [List.length_append, HL1.out]; omega))
    rw [HFI.out] at CE
    have S10 := Lib.hid (S8.out.below X10.out.below)
    have K510 := Lib.hid (K58.out.below X10.out.below (blk_lt K58.out))
    clear R10 hall X9 X10 R18 R28 R29 S8 K58 B8 n10
    dsimp only at CE
    go_wp2_with fail
    refine CE.out.mono ?_
    rintro e w11 ⟨⟨za, zn, zc⟩, Us, rfl, st11, b11⟩
    dsimp only
    obtain ⟨w12, hw12⟩ : ∃ q, w11.alloc (.cells #[.int .i64 (k : Nat), .slice za zn zc] 27) = q := ⟨_, rfl⟩
    have hbw12 : Below w11.heap.size w11 w12 := by rw [← hw12]; exact boxd (Below.refl _ _)
    have K12 : Hid (BlkAt w12 w11.heap.size #[.int .i64 (k : Nat), .slice za zn zc] 27) := Lib.hid (by rw [← hw12]; exact BlkAt.new _ _ _)
    have HWw12 := Lib.hid hw12
    clear hw12
    have B1112 := then_ b11 hbw12
    have hSU : Us = Ts := StateOf.unique st11.of S10.out.of (fun _ => rfl)
    subst hSU
    have S12 := Lib.hid (S10.out.below B1112)
    have T12 := Lib.hid (st11.below hbw12)
    have K512 := Lib.hid (K510.out.below B1112 (blk_lt K510.out))
    have B12 := Lib.hid (then_ B10.out B1112)
    have CN := Lib.hid (same_states (k : Int) ⟨za, zn, zc⟩ ⟨va, vn, vc⟩ Us w12 T12.out.at_ S12.out.at_)
    clear st11 b11 hbw12 B1112 S10 K510 B10 CE
    go_upto_region 14 with fail
    rw [HWw12.out]
    clear HWw12
    go_wp2_with (first
      | ((with_reducible refine wpList_load_blk_g ?_ _ (.tmp 11) ?_ (w11.heap.size) ?_ 27 (_) K12.out rowState ?_); rotate_left; exact rfl; exact rfl; rotate_left; kernel_rfl)
      | ((with_reducible refine wpList_load_blk_g ?_ _ (.tmp 6) ?_ (w4.heap.size) ?_ 27 (_) K512.out rowState ?_); rotate_left; exact rfl; exact rfl; rotate_left; kernel_rfl))
    refine CN.out.mono ?_
    rintro e w13 ⟨rfl, b13⟩
    have B13 := Lib.hid (then_ B12.out b13)
    clear b13 CN
    go_wp2_with fail
    all_goals go_ret
    all_goals exact ⟨rfl, B13.out⟩
end Go.Proofs.YtfbaliimjmimhaaDoor.replayFirst
