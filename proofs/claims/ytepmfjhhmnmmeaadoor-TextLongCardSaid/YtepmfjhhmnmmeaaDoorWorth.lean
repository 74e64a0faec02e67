/-
  text.worth, text.number walked: the number that digits are, a number as a word. Conditions: as each theorem says.
-/
import Derived.Test.YtepmfjhhmnmmeaaDoorWordFns
namespace Go.Proofs.YtepmfjhhmnmmeaaDoor
open Go.RowKit

/-- What worth answers. -/
def WorthAns (o : Option Int) (e : Ending) : Prop :=
  (∃ v, o = some v ∧ e = .returned (.tuple #[.int .i64 v, .bool true])) ∨ (o = none ∧ ∃ x, e = .returned (.tuple #[.int .i64 x, .bool false]))
theorem headD_get {d : ByteArray} (h : 0 < d.size) : d.data.toList.headD 0 = d.get! 0 := by
  have hl : 0 < d.data.toList.length := h
  have e : d.data.toList = d.get! 0 :: d.data.toList.drop 1 := by
    have := List.drop_eq_getElem_cons hl
    rw [List.drop_zero] at this
    rw [← get_at' h]
    exact this
  rw [e]
  rfl
set_option maxHeartbeats 4000000 in
set_option maxRecDepth 100000 in
theorem worth_minus (t : ByteArray) (h1 : 1 < t.size) (h0 : t.get! 0 = 45) (hs : t.size ≤ 4611686018427387904) (hall : ∀ k, 1 ≤ k → k < t.size → digB (t.get! k) = true) (w : World) :
    Calls Tryd.prog 83 #[.string t] w fun e w' => WorthAns (worthD true (decide (t.data.toList.length ≤ 1)) (t.extract 1 t.size).data.toList) e ∧ w' = w := by
  have hg := get_at' (s := t) (p := 0) (by omega)
  rw [h0] at hg
  have hdd : ∀ k, k < (t.extract 1 t.size).size → digB ((t.extract 1 t.size).get! k) = true := fun k hk => by
    rw [tail_size] at hk
    rw [tail_get t 1 k (by omega)]
    exact hall (1 + k) (by omega) (by omega)
  have hdz : (t.extract 1 t.size).size = t.size - 1 := tail_size t 1
  have z1 : (1 : Int) ≤ (t.size : Int) := by omega
  have z2 : (0 : Int) < (t.size : Int) := by omega
  obtain ⟨d, hd⟩ : ∃ d, t.extract 1 t.size = d := ⟨_, rfl⟩
  rw [hd] at hdd hdz ⊢
  have Hdd := Lib.hid hdd
  clear hall hdd h0
  have hone : decide (t.data.toList.length ≤ 1) = false := decide_eq_false (by rw [dlen]; omega)
  rw [hone]
  have h2 : (1 : Int) < (t.size : Int) := by omega
  clear hone
  have hd0 : 0 < d.size := by omega
  have hgd := get_at' (s := d) (p := 0) hd0
  have hhd := headD_get hd0
  have zd : (0 : Int) < (d.size : Int) := by omega
  obtain ⟨c0, hc0⟩ : ∃ c, d.get! 0 = c := ⟨_, rfl⟩
  rw [hc0] at hgd hhd
  by_cases c48 : c0 = 48 ∧ 1 < t.size
  · have HN : Hid (worthD true false d.data.toList = none) := Lib.hid (by
      unfold worthD
      rw [if_pos ⟨by rw [hhd]; exact c48.1, rfl⟩])
    obtain ⟨c48, hmore⟩ := c48
    subst c48
    have y1 : (1 : Int) < (t.size : Int) := by omega
    clear hc0 hhd
    go_enter Tryd.func83, Tryd.ntmps83
    go_wp2
    all_goals go_ret2
    all_goals exact ⟨Or.inr ⟨HN.out, _, rfl⟩, rfl⟩
  have HW : Hid (worthD true false d.data.toList = match foldD d.data.toList 0 with
      | none => none
      | some v => if true = true then some v else if v = -9223372036854775808 then none else some (-v)) := Lib.hid (by
    unfold worthD
    rw [if_neg (fun k => c48 ⟨by rw [← hhd]; exact k.1, h1⟩)]
    cases foldD d.data.toList 0 <;> rfl)
  have hnz : ¬ ((c0.toNat : Int) = 48 ∧ (1 : Int) < (t.size : Int)) := fun k => c48 ⟨by
    have : c0.toNat = 48 := by omega
    rw [← UInt8.ofNat_toNat (x := c0), this]
    rfl, by omega⟩
  obtain ⟨C0, hC0⟩ : ∃ C : Int, (c0.toNat : Int) = C := ⟨_, rfl⟩
  rw [hC0] at hnz
  clear c48 hc0 hhd
  by_cases e48 : C0 = 48
  · have y1 : ¬ (1 : Int) < (t.size : Int) := fun k => hnz ⟨e48, k⟩
    subst e48
    clear hnz
    exact absurd h2 y1
  · have e48' : (C0 == 48) = false := by rw [beq_eq_false_iff_ne]; exact e48
    clear hnz
    go_enter Tryd.func83, Tryd.ntmps83
    go_wp2
    go_loop [6, 7, 8, 26] (fun x _ _ y => ∃ (k : Nat) (v : Int), x = .int .i64 v ∧ y = .int .i64 k ∧ k ≤ d.size ∧ Hid (FoldAt d.data.toList k v)) (fun _ _ _ y => d.size - (intOf y).toNat)
    case atStart => exact ⟨0, 0, rfl, rfl, by omega, Lib.hid (fold_start _)⟩
    case round =>
      obtain ⟨k, v, rfl, rfl, hk, HF⟩ := hrel
      by_cases hlt : k < d.size
      · have hgk := get_at' (s := d) (p := k) hlt
        have hdk := Hdd.out k hlt
        obtain ⟨d1, d2⟩ := dig_low hdk
        have hnext := fold_next HF.out hlt hdk
        have hstop := fold_stop HF.out hlt
        have hlow := low_of ((d.get! k).toNat - 48) (by omega)
        have hl := HF.out.low
        have ht := HF.out.top
        rw [show ((((d.get! k).toNat - 48 : Nat) : Int)) = ((d.get! k).toNat : Int) - 48 by omega] at hlow
        obtain ⟨c, hc⟩ : ∃ c, d.get! k = c := ⟨_, rfl⟩
        rw [hc] at hgk hnext hstop hlow d1 d2
        obtain ⟨C, hC⟩ : ∃ C : Int, (c.toNat : Int) = C := ⟨_, rfl⟩
        rw [hC] at hnext hstop hlow
        have w1 : IntKind.u8.wrap (C - 48) = C - 48 := by simp [IntKind.wrap, IntKind.bits, IntKind.signed]; omega
        obtain ⟨D, hD⟩ : ∃ D : Int, C - 48 = D := ⟨_, rfl⟩
        have D0 : 0 ≤ D := by omega
        have D9 : D ≤ 9 := by omega
        rw [hD] at hnext hstop hlow w1
        obtain ⟨Q, hQ⟩ : ∃ Q : Int, (-9223372036854775808 + D).tdiv 10 = Q := ⟨_, rfl⟩
        rw [hQ] at hnext hstop hlow
        obtain ⟨q1, q2⟩ := hlow
        have q3 : -922337203685477581 ≤ Q := by omega
        clear hc hdk
        by_cases hv : v < Q
        · have HN := Lib.hid (HW.out.trans (by rw [hstop hv]) : _ = none)
          clear hnext hstop HF HW
          go_wp2
          all_goals go_ret2
          all_goals exact ⟨Or.inr ⟨HN.out, _, rfl⟩, rfl⟩
        · have HF2 := Lib.hid (hnext hv)
          have hr1 : -9223372036854775808 ≤ v * 10 := by omega
          have hr2 : -9223372036854775808 ≤ v * 10 - D := by omega
          clear hnext hstop HF
          go_wp2
          all_goals go_round
          case rel => exact ⟨k + 1, v * 10 - D, by first | rfl | go_num, by go_num, by omega, HF2⟩
          case measure => simp [intOf]; omega
      · obtain rfl : k = d.size := by omega
        have HV := Lib.hid (HW.out.trans (by rw [fold_done HF.out hlt]; rfl) : _ = some v)
        clear HF HW hlt
        go_wp2
        all_goals go_ret2
        all_goals exact ⟨Or.inl ⟨_, HV.out, rfl⟩, rfl⟩
set_option maxHeartbeats 4000000 in
set_option maxRecDepth 100000 in
theorem worth_plus (d : ByteArray) (h1 : 0 < d.size) (h0 : d.get! 0 ≠ 45) (hs : d.size ≤ 4611686018427387904) (hall : ∀ k, k < d.size → digB (d.get! k) = true) (w : World) :
    Calls Tryd.prog 83 #[.string d] w fun e w' => WorthAns (worthD false (decide (d.data.toList.length ≤ 1)) d.data.toList) e ∧ w' = w := by
  have hn45 := ne_int (k := 45) h0
  have Hdd := Lib.hid hall
  have z2 : (0 : Int) < (d.size : Int) := by omega
  clear hall h0
  have hd0 : 0 < d.size := by omega
  have hgd := get_at' (s := d) (p := 0) hd0
  have hhd := headD_get hd0
  have zd : (0 : Int) < (d.size : Int) := by omega
  obtain ⟨c0, hc0⟩ : ∃ c, d.get! 0 = c := ⟨_, rfl⟩
  rw [hc0] at hgd hhd
  rw [hc0] at hn45
  by_cases c48 : c0 = 48 ∧ 1 < d.size
  · have HN : Hid (worthD false (decide (d.data.toList.length ≤ 1)) d.data.toList = none) := Lib.hid (by
      unfold worthD
      rw [if_pos ⟨by rw [hhd]; exact c48.1, decide_eq_false (by rw [dlen]; omega)⟩])
    obtain ⟨c48, hmore⟩ := c48
    subst c48
    have y1 : (1 : Int) < (d.size : Int) := by omega
    clear hc0 hhd
    go_enter Tryd.func83, Tryd.ntmps83
    go_wp2
    all_goals go_ret2
    all_goals exact ⟨Or.inr ⟨HN.out, _, rfl⟩, rfl⟩
  have HW : Hid (worthD false (decide (d.data.toList.length ≤ 1)) d.data.toList = match foldD d.data.toList 0 with
      | none => none
      | some v => if false = true then some v else if v = -9223372036854775808 then none else some (-v)) := Lib.hid (by
    unfold worthD
    rw [if_neg (fun k => c48 ⟨by rw [← hhd]; exact k.1, by have := of_decide_eq_false k.2; rw [dlen] at this; omega⟩)]
    cases foldD d.data.toList 0 <;> rfl)
  have hnz : ¬ ((c0.toNat : Int) = 48 ∧ (1 : Int) < (d.size : Int)) := fun k => c48 ⟨by
    have : c0.toNat = 48 := by omega
    rw [← UInt8.ofNat_toNat (x := c0), this]
    rfl, by omega⟩
  obtain ⟨C0, hC0⟩ : ∃ C : Int, (c0.toNat : Int) = C := ⟨_, rfl⟩
  rw [hC0] at hnz
  rw [hC0] at hn45
  clear c48 hc0 hhd
  by_cases e48 : C0 = 48
  · have y1 : ¬ (1 : Int) < (d.size : Int) := fun k => hnz ⟨e48, k⟩
    subst e48
    clear hnz
    go_enter Tryd.func83, Tryd.ntmps83
    go_wp2
    go_loop [6, 7, 8, 26] (fun x _ _ y => ∃ (k : Nat) (v : Int), x = .int .i64 v ∧ y = .int .i64 k ∧ k ≤ d.size ∧ Hid (FoldAt d.data.toList k v)) (fun _ _ _ y => d.size - (intOf y).toNat)
    case atStart => exact ⟨0, 0, rfl, rfl, by omega, Lib.hid (fold_start _)⟩
    case round =>
      obtain ⟨k, v, rfl, rfl, hk, HF⟩ := hrel
      by_cases hlt : k < d.size
      · have hgk := get_at' (s := d) (p := k) hlt
        have hdk := Hdd.out k hlt
        obtain ⟨d1, d2⟩ := dig_low hdk
        have hnext := fold_next HF.out hlt hdk
        have hstop := fold_stop HF.out hlt
        have hlow := low_of ((d.get! k).toNat - 48) (by omega)
        have hl := HF.out.low
        have ht := HF.out.top
        rw [show ((((d.get! k).toNat - 48 : Nat) : Int)) = ((d.get! k).toNat : Int) - 48 by omega] at hlow
        obtain ⟨c, hc⟩ : ∃ c, d.get! k = c := ⟨_, rfl⟩
        rw [hc] at hgk hnext hstop hlow d1 d2
        obtain ⟨C, hC⟩ : ∃ C : Int, (c.toNat : Int) = C := ⟨_, rfl⟩
        rw [hC] at hnext hstop hlow
        have w1 : IntKind.u8.wrap (C - 48) = C - 48 := by simp [IntKind.wrap, IntKind.bits, IntKind.signed]; omega
        obtain ⟨D, hD⟩ : ∃ D : Int, C - 48 = D := ⟨_, rfl⟩
        have D0 : 0 ≤ D := by omega
        have D9 : D ≤ 9 := by omega
        rw [hD] at hnext hstop hlow w1
        obtain ⟨Q, hQ⟩ : ∃ Q : Int, (-9223372036854775808 + D).tdiv 10 = Q := ⟨_, rfl⟩
        rw [hQ] at hnext hstop hlow
        obtain ⟨q1, q2⟩ := hlow
        have q3 : -922337203685477581 ≤ Q := by omega
        clear hc hdk
        by_cases hv : v < Q
        · have HN := Lib.hid (HW.out.trans (by rw [hstop hv]) : _ = none)
          clear hnext hstop HF HW
          go_wp2
          all_goals go_ret2
          all_goals exact ⟨Or.inr ⟨HN.out, _, rfl⟩, rfl⟩
        · have HF2 := Lib.hid (hnext hv)
          have hr1 : -9223372036854775808 ≤ v * 10 := by omega
          have hr2 : -9223372036854775808 ≤ v * 10 - D := by omega
          clear hnext hstop HF
          go_wp2
          all_goals go_round
          case rel => exact ⟨k + 1, v * 10 - D, by first | rfl | go_num, by go_num, by omega, HF2⟩
          case measure => simp [intOf]; omega
      · obtain rfl : k = d.size := by omega
        by_cases hv : v = -9223372036854775808
        · have HV := Lib.hid (HW.out.trans (by rw [fold_done HF.out hlt]; exact if_pos hv) : _ = none)
          subst hv
          clear HF HW hlt
          go_wp2
          all_goals go_ret2
          all_goals exact ⟨Or.inr ⟨HV.out, _, rfl⟩, rfl⟩
        · have HV := Lib.hid (HW.out.trans (by rw [fold_done HF.out hlt]; exact if_neg hv) : _ = some (-v))
          have hl := HF.out.low
          have ht := HF.out.top
          have hv2 : -9223372036854775808 < v := by omega
          clear HF HW hlt hv
          go_wp2
          all_goals go_ret2
          all_goals exact ⟨Or.inl ⟨_, HV.out, by first | rfl | (simp; done)⟩, rfl⟩

  · have e48' : (C0 == 48) = false := by rw [beq_eq_false_iff_ne]; exact e48
    clear hnz
    go_enter Tryd.func83, Tryd.ntmps83
    go_wp2
    go_loop [6, 7, 8, 26] (fun x _ _ y => ∃ (k : Nat) (v : Int), x = .int .i64 v ∧ y = .int .i64 k ∧ k ≤ d.size ∧ Hid (FoldAt d.data.toList k v)) (fun _ _ _ y => d.size - (intOf y).toNat)
    case atStart => exact ⟨0, 0, rfl, rfl, by omega, Lib.hid (fold_start _)⟩
    case round =>
      obtain ⟨k, v, rfl, rfl, hk, HF⟩ := hrel
      by_cases hlt : k < d.size
      · have hgk := get_at' (s := d) (p := k) hlt
        have hdk := Hdd.out k hlt
        obtain ⟨d1, d2⟩ := dig_low hdk
        have hnext := fold_next HF.out hlt hdk
        have hstop := fold_stop HF.out hlt
        have hlow := low_of ((d.get! k).toNat - 48) (by omega)
        have hl := HF.out.low
        have ht := HF.out.top
        rw [show ((((d.get! k).toNat - 48 : Nat) : Int)) = ((d.get! k).toNat : Int) - 48 by omega] at hlow
        obtain ⟨c, hc⟩ : ∃ c, d.get! k = c := ⟨_, rfl⟩
        rw [hc] at hgk hnext hstop hlow d1 d2
        obtain ⟨C, hC⟩ : ∃ C : Int, (c.toNat : Int) = C := ⟨_, rfl⟩
        rw [hC] at hnext hstop hlow
        have w1 : IntKind.u8.wrap (C - 48) = C - 48 := by simp [IntKind.wrap, IntKind.bits, IntKind.signed]; omega
        obtain ⟨D, hD⟩ : ∃ D : Int, C - 48 = D := ⟨_, rfl⟩
        have D0 : 0 ≤ D := by omega
        have D9 : D ≤ 9 := by omega
        rw [hD] at hnext hstop hlow w1
        obtain ⟨Q, hQ⟩ : ∃ Q : Int, (-9223372036854775808 + D).tdiv 10 = Q := ⟨_, rfl⟩
        rw [hQ] at hnext hstop hlow
        obtain ⟨q1, q2⟩ := hlow
        have q3 : -922337203685477581 ≤ Q := by omega
        clear hc hdk
        by_cases hv : v < Q
        · have HN := Lib.hid (HW.out.trans (by rw [hstop hv]) : _ = none)
          clear hnext hstop HF HW
          go_wp2
          all_goals go_ret2
          all_goals exact ⟨Or.inr ⟨HN.out, _, rfl⟩, rfl⟩
        · have HF2 := Lib.hid (hnext hv)
          have hr1 : -9223372036854775808 ≤ v * 10 := by omega
          have hr2 : -9223372036854775808 ≤ v * 10 - D := by omega
          clear hnext hstop HF
          go_wp2
          all_goals go_round
          case rel => exact ⟨k + 1, v * 10 - D, by first | rfl | go_num, by go_num, by omega, HF2⟩
          case measure => simp [intOf]; omega
      · obtain rfl : k = d.size := by omega
        by_cases hv : v = -9223372036854775808
        · have HV := Lib.hid (HW.out.trans (by rw [fold_done HF.out hlt]; exact if_pos hv) : _ = none)
          subst hv
          clear HF HW hlt
          go_wp2
          all_goals go_ret2
          all_goals exact ⟨Or.inr ⟨HV.out, _, rfl⟩, rfl⟩
        · have HV := Lib.hid (HW.out.trans (by rw [fold_done HF.out hlt]; exact if_neg hv) : _ = some (-v))
          have hl := HF.out.low
          have ht := HF.out.top
          have hv2 : -9223372036854775808 < v := by omega
          clear HF HW hlt hv
          go_wp2
          all_goals go_ret2
          all_goals exact ⟨Or.inl ⟨_, HV.out, by first | rfl | (simp; done)⟩, rfl⟩
end Go.Proofs.YtepmfjhhmnmmeaaDoor
