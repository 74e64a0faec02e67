/-
  annalsref2.blank, sign, isDigit, number walked: what each answers. Conditions: as each theorem says.
-/
import Derived.Test.YtepmfjhhmnmmeaaDoorWords
namespace Go.Proofs.YtepmfjhhmnmmeaaDoor
open Go.RowKit

theorem refBlank_any (b : UInt8) (w : World) : Calls Tryd.prog 60 #[.int .u8 (b.toNat : Int)] w fun e w' => e = .returned (.bool (blankB b)) ∧ w' = w := by
  by_cases h : b = 32
  · subst h
    go_enter Tryd.func60, Tryd.ntmps60
    go_wp2
    all_goals go_ret
    all_goals exact ⟨rfl, rfl⟩
  · have e1 : ((b.toNat : Int) == 32) = false := by rw [beq_eq_false_iff_ne]; exact ne_int (k := 32) h
    have hB : Hid (blankB b = ((b.toNat : Int) == 9)) := Lib.hid (by
      unfold blankB
      rw [Bool.eq_iff_iff]
      simp [h]
      constructor
      · rintro rfl
        rfl
      · intro k
        have : b.toNat = 9 := by omega
        rw [← UInt8.ofNat_toNat (x := b), this]
        rfl)
    obtain ⟨C, hC⟩ : ∃ C : Int, (b.toNat : Int) = C := ⟨_, rfl⟩
    rw [hC] at e1 hB ⊢
    clear h hC
    go_enter Tryd.func60, Tryd.ntmps60
    go_wp2
    all_goals go_ret
    all_goals exact ⟨by rw [hB.out]; rfl, rfl⟩
theorem isDigit_any (s : ByteArray) (k : Nat) (w : World) :
    Calls Tryd.prog 76 #[.string s, .int .i64 k] w fun e w' => e = .returned (.bool (decide (k < s.size) && digB (s.get! k))) ∧ w' = w := by
  have k0 : (0 : Int) ≤ (k : Int) := by omega
  by_cases hk : k < s.size
  · have hg := get_at' (s := s) (p := k) hk
    have z1 : (k : Int) < (s.size : Int) := by omega
    obtain ⟨c, hc⟩ : ∃ c, s.get! k = c := ⟨_, rfl⟩
    rw [hc] at hg
    have hB : Hid ((decide (k < s.size) && digB (s.get! k)) = (decide (48 ≤ (c.toNat : Int)) && decide ((c.toNat : Int) ≤ 57))) := Lib.hid (by
      rw [hc]
      unfold digB
      rw [Bool.eq_iff_iff]
      simp [hk]
      omega)
    obtain ⟨C, hC⟩ : ∃ C : Int, (c.toNat : Int) = C := ⟨_, rfl⟩
    rw [hC] at hB
    rw [hB.out]
    clear hc hB
    by_cases h1 : 48 ≤ C
    · go_enter Tryd.func76, Tryd.ntmps76
      go_wp2
      all_goals go_ret
      all_goals exact ⟨by rw [decide_eq_true h1]; simp, rfl⟩
    · go_enter Tryd.func76, Tryd.ntmps76
      go_wp2
      all_goals go_ret
      all_goals exact ⟨by rw [decide_eq_false (show ¬ 48 ≤ C by omega)]; simp, rfl⟩
  · have z1 : ¬ (k : Int) < (s.size : Int) := by omega
    have hB : Hid ((decide (k < s.size) && digB (s.get! k)) = false) := Lib.hid (by simp [hk])
    rw [hB.out]
    clear hB hk
    go_enter Tryd.func76, Tryd.ntmps76
    go_wp2
    all_goals go_ret
    all_goals exact ⟨rfl, rfl⟩
theorem sign_at (k : Nat) (hk : k < 12) (c : UInt8) : (signsL.take (k + 1)).contains c = ((signsL.take k).contains c || (⟨#[58, 44, 59, 126, 33, 61, 47, 64, 42, 43, 40, 41]⟩ : ByteArray).get! k == c) := by
  have h : ∀ k : Fin 12, ∀ b : Fin 256, (signsL.take (k.val + 1)).contains (UInt8.ofNat b.val) = ((signsL.take k.val).contains (UInt8.ofNat b.val) || (⟨#[58, 44, 59, 126, 33, 61, 47, 64, 42, 43, 40, 41]⟩ : ByteArray).get! k.val == UInt8.ofNat b.val) := by decide +kernel
  have k2 := h ⟨k, hk⟩ ⟨c.toNat, c.toNat_lt⟩
  simpa using k2
theorem sign_more (k : Nat) (c : UInt8) (h : (signsL.take k).contains c = true) : signB c = true := by
  unfold signB
  rw [List.contains_iff_mem] at h ⊢
  exact List.mem_of_mem_take h
theorem refSign_any (c : UInt8) (w : World) :
    Calls Tryd.prog 62 #[.int .u8 (c.toNat : Int)] w fun e w' => e = .returned (.bool (signB c)) ∧ w' = w := by
  go_enter Tryd.func62, Tryd.ntmps62
  go_wp2
  obtain ⟨S, hS⟩ : ∃ S : ByteArray, S = ⟨#[58, 44, 59, 126, 33, 61, 47, 64, 42, 43, 40, 41]⟩ := ⟨_, rfl⟩
  have hSz : S.size = 12 := by rw [hS]; rfl
  have HAT : Hid (∀ k, k < 12 → (signsL.take (k + 1)).contains c = ((signsL.take k).contains c || S.get! k == c)) := Lib.hid (fun k hk => by rw [hS]; exact sign_at k hk c)
  rw [← hS]
  clear hS
  go_loop [3] (fun x => ∃ k : Nat, x = .int .i64 k ∧ k ≤ 12 ∧ Hid ((signsL.take k).contains c = false)) (fun x => 12 - (intOf x).toNat)
  case atStart => exact ⟨0, rfl, by omega, Lib.hid rfl⟩
  case round =>
    obtain ⟨k, rfl, hk, HN⟩ := hrel
    by_cases hlt : k < 12
    · have hg := get_at' (s := S) (p := k) (by omega)
      have hat := HAT.out k hlt
      rw [HN.out, Bool.false_or] at hat
      have z1 : (k : Int) < (S.size : Int) := by omega
      obtain ⟨b, hb⟩ : ∃ b, S.get! k = b := ⟨_, rfl⟩
      rw [hb] at hg hat
      by_cases he : b = c
      · have HY : Hid (signB c = true) := Lib.hid (sign_more (k + 1) c (by rw [hat, he]; simp))
        subst he
        clear hat hb HN
        go_wp2
        all_goals go_ret
        all_goals exact ⟨by rw [HY.out]; rfl, rfl⟩
      · have hne : ((b.toNat : Int) == (c.toNat : Int)) = false := by
          rw [beq_eq_false_iff_ne]
          intro k
          apply he
          have : b.toNat = c.toNat := by omega
          rw [← UInt8.ofNat_toNat (x := b), this, UInt8.ofNat_toNat]
        have HN2 : Hid ((signsL.take (k + 1)).contains c = false) := Lib.hid (by rw [hat]; simp [he])
        clear hat hb HN he
        go_wp2
        all_goals go_round
        case rel => exact ⟨k + 1, by go_num, by omega, HN2⟩
        case measure => simp [intOf]; omega
    · obtain rfl : k = 12 := by omega
      have HY : Hid (signB c = false) := Lib.hid HN.out
      clear HN
      go_wp2
      all_goals go_ret
      all_goals exact ⟨by rw [HY.out]; rfl, rfl⟩
set_option maxHeartbeats 4000000 in
set_option maxRecDepth 100000 in
theorem refNum_minus (t : ByteArray) (h1 : 1 < t.size) (h0 : t.get! 0 = 45) (hs : t.size ≤ 4611686018427387904) (hall : ∀ k, 1 ≤ k → k < t.size → digB (t.get! k) = true) (w : World) :
    Calls Tryd.prog 77 #[.string t] w fun e w' => WorthAns (worthD true (decide (t.data.toList.length ≤ 1)) (t.extract 1 t.size).data.toList) e ∧ w' = w := by
  have hg := get_at' (s := t) (p := 0) (by omega)
  rw [h0] at hg
  have htg : ∀ k, k < (t.extract 1 t.size).size → (t.extract 1 t.size).get! k = t.get! (k + 1) := fun k hk => by
    rw [tail_size] at hk
    rw [tail_get t 1 k (by omega), Nat.add_comm]
  have hdz : (t.extract 1 t.size).size = t.size - 1 := tail_size t 1
  have z1 : (1 : Int) < (t.size : Int) := by omega
  have z2 : (0 : Int) < (t.size : Int) := by omega
  have z3 : ((t.size : Int) == 1) = false := by rw [beq_eq_false_iff_ne]; omega
  obtain ⟨d, hd⟩ : ∃ d, t.extract 1 t.size = d := ⟨_, rfl⟩
  rw [hd] at htg hdz ⊢
  have Hdd : Hid (∀ k, k < d.size → digB (d.get! k) = true) := Lib.hid (fun k hk => by rw [htg k hk]; exact hall (k + 1) (by omega) (by omega))
  have Htg := Lib.hid htg
  have hgd := get_at' (s := t) (p := 1) h1
  have h10 : d.get! 0 = t.get! 1 := htg 0 (by omega)
  rw [← h10] at hgd
  clear hall h0 htg h10
  have hone : decide (t.data.toList.length ≤ 1) = false := decide_eq_false (by rw [dlen]; omega)
  rw [hone]
  clear hone
  have hd0 : 0 < d.size := by omega
  have hhd := headD_get hd0
  obtain ⟨c0, hc0⟩ : ∃ c, d.get! 0 = c := ⟨_, rfl⟩
  rw [hc0] at hgd hhd
  by_cases c48 : c0 = 48
  · subst c48
    have HN : Hid (worthD true false d.data.toList = none) := Lib.hid (by
      unfold worthD
      rw [if_pos ⟨hhd, rfl⟩])
    clear hc0 hhd
    go_enter Tryd.func77, Tryd.ntmps77
    go_wp2
    all_goals go_ret2
    all_goals exact ⟨Or.inr ⟨HN.out, _, rfl⟩, rfl⟩
  have e48 : ((c0.toNat : Int) == 48) = false := by rw [beq_eq_false_iff_ne]; exact ne_int (k := 48) c48
  have HW : Hid (worthD true false d.data.toList = match foldD d.data.toList 0 with
      | none => none
      | some v => if true = true then some v else if v = -9223372036854775808 then none else some (-v)) := Lib.hid (by
    unfold worthD
    rw [if_neg (fun k => c48 (by rw [← hhd]; exact k.1))]
    cases foldD d.data.toList 0 <;> rfl)
  obtain ⟨C0, hC0⟩ : ∃ C : Int, (c0.toNat : Int) = C := ⟨_, rfl⟩
  rw [hC0] at e48
  clear c48 hc0 hhd
  go_enter Tryd.func77, Tryd.ntmps77
  go_wp2
  go_loop [5, 6, 7] (fun x y _ => ∃ (k : Nat) (v : Int), x = .int .i64 v ∧ y = .int .i64 ((k + 1) : Nat) ∧ k ≤ d.size ∧ Hid (FoldAt d.data.toList k v)) (fun _ y _ => t.size - (intOf y).toNat)
  case atStart => exact ⟨0, 0, rfl, rfl, by omega, Lib.hid (fold_start _)⟩
  case round =>
    obtain ⟨k, v, rfl, rfl, hk, HF⟩ := hrel
    by_cases hlt : k < d.size
    · have hgk := get_at' (s := t) (p := k + 1) (by omega)
      rw [← Htg.out k hlt] at hgk
      have zk : (k : Int) + 1 < (t.size : Int) := by omega
      have hdk := Hdd.out k hlt
      obtain ⟨d1, d2⟩ := dig_low hdk
      have hnext := fold_next HF.out hlt hdk
      have hstop := fold_stop HF.out hlt
      have hlow := low_of ((d.get! k).toNat - 48) (by omega)
      have hl := HF.out.low
      have ht := HF.out.top
      rw [show ((((d.get! k).toNat - 48 : Nat) : Int)) = ((d.get! k).toNat : Int) - 48 by omega] at hlow
      obtain ⟨c, hc⟩ : ∃ c, d.get! k = c := ⟨_, rfl⟩
      rw [hc] at hgk hnext hstop hlow d1 d2
      obtain ⟨C, hC⟩ : ∃ C : Int, (c.toNat : Int) = C := ⟨_, rfl⟩
      rw [hC] at hnext hstop hlow
      have C0' : 48 ≤ C := by omega
      have C9' : C ≤ 57 := by omega
      obtain ⟨D, hD⟩ : ∃ D : Int, C - 48 = D := ⟨_, rfl⟩
      have D0 : 0 ≤ D := by omega
      have D9 : D ≤ 9 := by omega
      rw [hD] at hnext hstop hlow
      obtain ⟨Q, hQ⟩ : ∃ Q : Int, (-9223372036854775808 + D).tdiv 10 = Q := ⟨_, rfl⟩
      rw [hQ] at hnext hstop hlow
      obtain ⟨q1, q2⟩ := hlow
      have q3 : -922337203685477581 ≤ Q := by omega
      clear hc hdk
      by_cases hv : v < Q
      · have HN := Lib.hid (HW.out.trans (by rw [hstop hv]) : _ = none)
        clear hnext hstop HF HW
        go_wp2
        all_goals go_ret2
        all_goals exact ⟨Or.inr ⟨HN.out, _, rfl⟩, rfl⟩
      · have HF2 := Lib.hid (hnext hv)
        have hr1 : -9223372036854775808 ≤ v * 10 := by omega
        have hr2 : -9223372036854775808 ≤ v * 10 - D := by omega
        clear hnext hstop HF
        go_wp2
        all_goals go_round
        case rel => exact ⟨k + 1, v * 10 - D, by first | rfl | go_num, by go_num, by omega, HF2⟩
        case measure => simp [intOf]; omega
    · obtain rfl : k = d.size := by omega
      have HV := Lib.hid (HW.out.trans (by rw [fold_done HF.out hlt]; rfl) : _ = some v)
      clear HF HW hlt
      go_wp2
      all_goals go_ret2
      all_goals exact ⟨Or.inl ⟨_, HV.out, rfl⟩, rfl⟩
set_option maxHeartbeats 4000000 in
set_option maxRecDepth 100000 in
theorem refNum_plus (d : ByteArray) (h1 : 0 < d.size) (h0 : d.get! 0 ≠ 45) (hs : d.size ≤ 4611686018427387904) (hall : ∀ k, k < d.size → digB (d.get! k) = true) (w : World) :
    Calls Tryd.prog 77 #[.string d] w fun e w' => WorthAns (worthD false (decide (d.data.toList.length ≤ 1)) d.data.toList) e ∧ w' = w := by
  have hn45 := ne_int (k := 45) h0
  have Hdd := Lib.hid hall
  have z2 : (0 : Int) < (d.size : Int) := by omega
  have hgd := get_at' (s := d) (p := 0) h1
  clear hall h0
  have hd0 : 0 < d.size := by omega
  have hhd := headD_get hd0
  obtain ⟨c0, hc0⟩ : ∃ c, d.get! 0 = c := ⟨_, rfl⟩
  rw [hc0] at hgd hhd
  rw [hc0] at hn45
  by_cases c48 : c0 = 48
  · subst c48
    by_cases hm : 1 < d.size
    · have HN : Hid (worthD false (decide (d.data.toList.length ≤ 1)) d.data.toList = none) := Lib.hid (by
        unfold worthD
        rw [if_pos ⟨hhd, decide_eq_false (by rw [dlen]; omega)⟩])
      have y1 : ((d.size : Int) == 1) = false := by rw [beq_eq_false_iff_ne]; omega
      clear hc0 hhd
      go_enter Tryd.func77, Tryd.ntmps77
      go_wp2
      all_goals go_ret2
      all_goals exact ⟨Or.inr ⟨HN.out, _, rfl⟩, rfl⟩
    · have HN : Hid (worthD false (decide (d.data.toList.length ≤ 1)) d.data.toList = some 0) := Lib.hid (by
        have hl : d.data.toList = [48] := by
          have := take_get (s := d) (p := 0) hd0
          rw [List.take_zero, List.nil_append, hc0, List.take_of_length_le (by rw [dlen]; omega)] at this
          exact this
        rw [hl]
        rfl)
      have y1 : ((d.size : Int) == 1) = true := by rw [beq_iff_eq]; omega
      clear hc0 hhd
      go_enter Tryd.func77, Tryd.ntmps77
      go_wp2
      all_goals go_ret2
      all_goals exact ⟨Or.inl ⟨_, HN.out, rfl⟩, rfl⟩
  have e48 : ((c0.toNat : Int) == 48) = false := by rw [beq_eq_false_iff_ne]; exact ne_int (k := 48) c48
  have HW : Hid (worthD false (decide (d.data.toList.length ≤ 1)) d.data.toList = match foldD d.data.toList 0 with
      | none => none
      | some v => if false = true then some v else if v = -9223372036854775808 then none else some (-v)) := Lib.hid (by
    unfold worthD
    rw [if_neg (fun k => c48 (by rw [← hhd]; exact k.1))]
    cases foldD d.data.toList 0 <;> rfl)
  obtain ⟨C0, hC0⟩ : ∃ C : Int, (c0.toNat : Int) = C := ⟨_, rfl⟩
  rw [hC0] at e48
  rw [hC0] at hn45
  clear c48 hc0 hhd
  go_enter Tryd.func77, Tryd.ntmps77
  go_wp2
  go_loop [5, 6, 7] (fun x y _ => ∃ (k : Nat) (v : Int), x = .int .i64 v ∧ y = .int .i64 (k : Nat) ∧ k ≤ d.size ∧ Hid (FoldAt d.data.toList k v)) (fun _ y _ => d.size - (intOf y).toNat)
  case atStart => exact ⟨0, 0, rfl, rfl, by omega, Lib.hid (fold_start _)⟩
  case round =>
    obtain ⟨k, v, rfl, rfl, hk, HF⟩ := hrel
    by_cases hlt : k < d.size
    · have hgk := get_at' (s := d) (p := k) hlt
      have hdk := Hdd.out k hlt
      obtain ⟨d1, d2⟩ := dig_low hdk
      have hnext := fold_next HF.out hlt hdk
      have hstop := fold_stop HF.out hlt
      have hlow := low_of ((d.get! k).toNat - 48) (by omega)
      have hl := HF.out.low
      have ht := HF.out.top
      rw [show ((((d.get! k).toNat - 48 : Nat) : Int)) = ((d.get! k).toNat : Int) - 48 by omega] at hlow
      obtain ⟨c, hc⟩ : ∃ c, d.get! k = c := ⟨_, rfl⟩
      rw [hc] at hgk hnext hstop hlow d1 d2
      obtain ⟨C, hC⟩ : ∃ C : Int, (c.toNat : Int) = C := ⟨_, rfl⟩
      rw [hC] at hnext hstop hlow
      have C0' : 48 ≤ C := by omega
      have C9' : C ≤ 57 := by omega
      obtain ⟨D, hD⟩ : ∃ D : Int, C - 48 = D := ⟨_, rfl⟩
      have D0 : 0 ≤ D := by omega
      have D9 : D ≤ 9 := by omega
      rw [hD] at hnext hstop hlow
      obtain ⟨Q, hQ⟩ : ∃ Q : Int, (-9223372036854775808 + D).tdiv 10 = Q := ⟨_, rfl⟩
      rw [hQ] at hnext hstop hlow
      obtain ⟨q1, q2⟩ := hlow
      have q3 : -922337203685477581 ≤ Q := by omega
      clear hc hdk
      by_cases hv : v < Q
      · have HN := Lib.hid (HW.out.trans (by rw [hstop hv]) : _ = none)
        clear hnext hstop HF HW
        go_wp2
        all_goals go_ret2
        all_goals exact ⟨Or.inr ⟨HN.out, _, rfl⟩, rfl⟩
      · have HF2 := Lib.hid (hnext hv)
        have hr1 : -9223372036854775808 ≤ v * 10 := by omega
        have hr2 : -9223372036854775808 ≤ v * 10 - D := by omega
        clear hnext hstop HF
        go_wp2
        all_goals go_round
        case rel => exact ⟨k + 1, v * 10 - D, by first | rfl | go_num, by go_num, by omega, HF2⟩
        case measure => simp [intOf]; omega
    · obtain rfl : k = d.size := by omega
      by_cases hv : v = -9223372036854775808
      · have HV := Lib.hid (HW.out.trans (by rw [fold_done HF.out hlt]; exact if_pos hv) : _ = none)
        subst hv
        clear HF HW hlt
        go_wp2
        all_goals go_ret2
        all_goals exact ⟨Or.inr ⟨HV.out, _, rfl⟩, rfl⟩
      · have HV := Lib.hid (HW.out.trans (by rw [fold_done HF.out hlt]; exact if_neg hv) : _ = some (-v))
        have hl := HF.out.low
        have ht := HF.out.top
        have hv2 : -9223372036854775808 < v := by omega
        have hv3 : (v == -9223372036854775808) = false := by rw [beq_eq_false_iff_ne]; exact hv
        clear HF HW hlt hv
        go_wp2
        all_goals go_ret2
        all_goals exact ⟨Or.inl ⟨_, HV.out, by first | rfl | (simp; done)⟩, rfl⟩
end Go.Proofs.YtepmfjhhmnmmeaaDoor
