/-
  annalsref2.word walked: the word that stands at a place. Conditions: the reference's tables of hidden runes and of letters as laid.
-/
import Derived.Test.YtepmfjhhmnmmeaaDoorRefWordLaw
import Derived.Test.YtepmfjhhmnmmeaaDoorRefUnquote
import Derived.Test.YtepmfjhhmnmmeaaDoorRefName
namespace Go.Proofs.YtepmfjhhmnmmeaaDoor
open Go.RowKit

/-- What the reference's reading of a word answers at i. -/
def RefAns (i : Nat) (x : Sum (Int × Nat) (WordD × Nat)) (e : Ending) : Prop :=
  (∃ er p d z, x = .inl (er, p) ∧ e = .returned (wordV d z er ((i + p : Nat) : Int))) ∨ (∃ d n, x = .inr (d, n) ∧ e = .returned (wordV (WordD.put d i) ((i + n : Nat) : Int) 0 0))
/-- The world within the walk: two words' blocks. -/
structure RwSt (w w2 : World) : Prop where
  bel : Below w.heap.size w w2
  blk : BlkAt w2 w.heap.size zeroWord 41
  nb : BlkAt w2 (w.heap.size + 1) zeroWord 41
theorem RwSt.call {w w1 w2 : World} (h : RwSt w w1) (hb : Below w1.heap.size w1 w2) : RwSt w w2 :=
  ⟨then_ h.bel hb, (hb.block _ (lt_some h.blk)).trans h.blk, (hb.block _ (lt_some h.nb)).trans h.nb⟩
theorem RwSt.boxed {w w1 w2 : World} {o : Obj} (h : RwSt w w1) (hd : Drawn (w1.alloc o) w2) : RwSt w w2 :=
  (h.call ((Below.refl _ _).alloc (Nat.le_refl _) o)).call hd.below
theorem RwSt.boxn {w w1 : World} {o : Obj} (h : RwSt w w1) : RwSt w (w1.alloc o) := h.call ((Below.refl _ _).alloc (Nat.le_refl _) o)
theorem rw0 (w : World) : RwSt w ((w.alloc (.cells zeroWord 41)).alloc (.cells zeroWord 41)) := by
  refine ⟨((Below.refl _ _).alloc (Nat.le_refl _) _).alloc (by simp) _, (BlkAt.new w zeroWord _).push _, ?_⟩
  have h := BlkAt.new (w.alloc (.cells zeroWord 41)) zeroWord 41
  have e : (w.alloc (.cells zeroWord 41)).heap.size = w.heap.size + 1 := by simp
  rw [e] at h
  exact h
theorem refNumT_any (T : ByteArray) (h0 : 0 < T.size) (hs : T.size ≤ 4611686018427387904) (hm : T.get! 0 = 45 → 1 < T.size) (hd : T.get! 0 ≠ 45 → digB (T.get! 0) = true) (hall : ∀ k, 1 ≤ k → k < T.size → digB (T.get! k) = true) (w : World) :
    Calls Tryd.prog 77 #[.string T] w fun e w' => WorthAns (worthL T.data.toList) e ∧ w' = w := by
  unfold worthL
  rw [headD_get h0]
  by_cases h : T.get! 0 = 45
  · rw [if_pos h, show T.data.toList.tail = (T.extract 1 T.size).data.toList by rw [tail_bytes, List.drop_one]]
    exact refNum_minus T (hm h) h hs hall w
  · rw [if_neg h]
    exact refNum_plus T h0 h hs (fun k hk => by
      by_cases k0 : k = 0
      · rw [k0]; exact hd h
      · exact hall k (by omega) hk) w
theorem dig_is (s : ByteArray) (i p : Nat) (h : i ≤ s.size) : (decide (i + p < s.size) && digB (s.get! (i + p))) = (decide (p < (s.extract i s.size).size) && digB ((s.extract i s.size).get! p)) := by
  rw [tail_size]
  by_cases hp : i + p < s.size
  · rw [tail_get s i p hp, decide_eq_true hp, decide_eq_true (by omega)]
  · rw [decide_eq_false hp, decide_eq_false (by omega), Bool.false_and, Bool.false_and]
set_option maxHeartbeats 8000000 in
set_option maxRecDepth 100000 in
theorem refWord_num (s : ByteArray) (i : Nat) (hi : i < s.size) (hs : s.size ≤ 274877906944) (c : UInt8) (hc : s.get! i = c) (c34 : c ≠ 34) (hsgn : signB c = false) (hn : numB (s.extract i s.size) = true) (w : World) :
    Calls Tryd.prog 61 #[.string s, .int .i64 i] w fun e w' => RefAns i (numberT (s.extract i s.size)) e ∧ Below w.heap.size w w' := by
  have hts : (s.extract i s.size).size = s.size - i := tail_size s i
  have hg := get_at' (s := s) (p := i) hi
  have hg0 := tail_get s i 0 (by omega)
  rw [Nat.add_zero] at hg0
  have z0 : (0 : Int) ≤ (i : Int) := by omega
  have z1 : (i : Int) < (s.size : Int) := by omega
  have hsg := fun w => refSign_any c w
  rw [hsgn] at hsg
  have e34 := ne_int (k := 34) c34
  have hd0 := fun w => isDigit_any s i w
  have hd1 : ∀ w, Calls Tryd.prog 76 #[.string s, .int .i64 ((i : Int) + 1)] w fun e w' => e = .returned (.bool (decide (i + 1 < s.size) && digB (s.get! (i + 1)))) ∧ w' = w := fun w => isDigit_any s (i + 1) w
  have hb0 := dig_is s i 0 (by omega)
  have hb1 := dig_is s i 1 (by omega)
  rw [Nat.add_zero] at hb0
  rw [hb0] at hd0
  rw [hb1] at hd1
  have hdk0 := fun p => dig_is s i p (by omega)
  have hcut := fun p => cut_tail s i p
  obtain ⟨t, ht⟩ : ∃ t, s.extract i s.size = t := ⟨_, rfl⟩
  rw [ht] at hts hg0 hn hd0 hd1
  simp only [ht] at hdk0 hcut
  have ht0 : 0 < t.size := by omega
  rw [hc] at hg hg0
  have hd0' : (decide (0 < t.size) && digB (t.get! 0)) = digB c := by rw [hg0, decide_eq_true ht0]; rfl
  rw [hd0'] at hd0
  have hnb : numB t = (digB c || (c == 45 && decide (1 < t.size) && digB (t.get! 1))) := by
    unfold numB
    rw [hg0]
  rw [hnb] at hn
  have y1 : (i : Int) + 1 ≤ (s.size : Int) := by omega
  obtain ⟨C, hC⟩ : ∃ C : Int, (c.toNat : Int) = C := ⟨_, rfl⟩
  rw [hC] at hsg e34
  have hsg := Lib.hid hsg
  rw [ht]
  have HDK := Lib.hid hdk0
  have HCU := Lib.hid hcut
  have HFI : Hid (t.get! 0 ≠ 45 → digB (t.get! 0) = true) := Lib.hid (fun h => by
    rw [hg0] at h ⊢
    simp [h] at hn
    exact hn)
  have HMO : Hid (∀ p, ¬ (p < t.size ∧ digB (t.get! p) = true) → 1 ≤ p → t.get! 0 = 45 → 1 < p) := Lib.hid (fun p hgo hp1 h => by
    rw [hg0] at h
    rw [h] at hn
    simp [show digB 45 = false from by decide] at hn
    by_cases e : p = 1
    · subst e
      exact absurd hn hgo
    · omega)
  cases hdc : digB c with
  | true =>
    rw [hdc] at hd0
    have hd0 := Lib.hid hd0
    clear hn hnb hdc hd1 hb0 hb1 hd0' hdk0 hcut ht hg0 hc c34 hsgn
    go_enter Tryd.func61, Tryd.ntmps61
    go_wp2_with (first
      | (go_at_call 62; (with_reducible refine (hsg.out _).mono ?_); rintro e w2 ⟨rfl, rfl⟩)
      | (go_at_call 76; (with_reducible refine (hd0.out _).mono ?_); rintro e w3 ⟨rfl, rfl⟩))
    go_loop [13] (fun x => ∃ p : Nat, x = .int .i64 ((i + p : Nat) : Int) ∧ 1 ≤ p ∧ p ≤ t.size ∧ Hid (RunTo t p ∧ ∀ k, 1 ≤ k → k < p → digB (t.get! k) = true)) (fun x => s.size - (intOf x).toNat)
    case atStart => exact ⟨1, by first | rfl | go_num, by omega, by omega, Lib.hid ⟨rfl, fun k h1 h2 => by omega⟩⟩
    case round =>
      obtain ⟨p, rfl, hp1, hp, HR⟩ := hrel
      have hdk := fun w => isDigit_any s (i + p) w
      rw [HDK.out p] at hdk
      obtain ⟨K, hK⟩ : ∃ K, i + p = K := ⟨_, rfl⟩
      rw [hK] at hdk ⊢
      have K0 : (0 : Int) ≤ (K : Int) := by omega
      have K1 : (K : Int) ≤ (s.size : Int) := by omega
      have K2 : (i : Int) ≤ (K : Int) := by omega
      by_cases hgo : p < t.size ∧ digB (t.get! p) = true
      · obtain ⟨hlt, hd⟩ := hgo
        rw [hd, decide_eq_true hlt] at hdk
        have hdk := Lib.hid hdk
        have HR2 : Hid (RunTo t (p + 1) ∧ ∀ k, 1 ≤ k → k < p + 1 → digB (t.get! k) = true) := Lib.hid ⟨HR.out.1.next hlt hd, fun k h1 h2 => by
          by_cases e : k = p
          · rw [e]; exact hd
          · exact HR.out.2 k h1 (by omega)⟩
        have HK := Lib.hid hK
        have hKs : K < s.size := by omega
        clear hd HR hK
        go_wp2_with (first
          | (go_at_call 76; (with_reducible refine (hdk.out _).mono ?_); rintro e w4 ⟨rfl, rfl⟩))
        all_goals go_round
        case rel => exact ⟨p + 1, by rw [← Nat.add_assoc, HK.out]; go_num, by omega, by omega, HR2⟩
        case measure => simp [intOf]; omega
      · have hstop := HR.out.1.stop hgo
        have hmore := HMO.out p hgo hp1
        have hdf : (decide (p < t.size) && digB (t.get! p)) = false := by
          cases hdp : digB (t.get! p) with
          | true =>
            have : ¬ p < t.size := fun k => hgo ⟨k, hdp⟩
            simp [this]
          | false => simp
        rw [hdf] at hdk
        have hdk := Lib.hid hdk
        have hTs : (t.extract 0 p).size = p := by rw [ByteArray.size_extract]; omega
        have hw := fun w => refNumT_any (t.extract 0 p) (by omega) (by omega) (by rw [cut_get t p 0 (by omega) hp, hTs]; exact hmore) (by rw [cut_get t p 0 (by omega) hp]; exact HFI.out) (fun k h1 h2 => by
          rw [cut_get t p k (by omega) hp]
          exact HR.out.2 k h1 (by omega)) w
        have HNT : Hid (numberT t = match worthL (t.extract 0 p).data.toList with | none => .inl (29, 0) | some v => .inr (⟨2, 0, t.extract 0 p, v⟩, p)) := Lib.hid (by
          unfold numberT
          rw [hstop, cut_list]
          cases worthL (t.data.toList.take p) <;> rfl)
        rw [← HCU.out p, hK] at hw HNT
        obtain ⟨T, hT⟩ : ∃ T, s.extract i K = T := ⟨_, rfl⟩
        rw [hT] at hw HNT
        have HKI : Hid (((i + p : Nat) : Int) = (K : Int)) := Lib.hid (by rw [hK])
        clear hmore hTs hstop HR hK hdf hgo
        cases ho : worthL T.data.toList with
        | none =>
          rw [ho] at hw
          have HW := Lib.hid (fun w => (hw w).mono fun e w' ⟨h, hb⟩ => (⟨h.none_, hb⟩ : (∃ x, e = Ending.returned (.tuple #[.int .i64 x, .bool false])) ∧ w' = w))
          have HV := Lib.hid (HNT.out.trans (by rw [ho]))
          clear hw ho HNT
          go_wp2_with (first
            | (go_at_call 76; (with_reducible refine (hdk.out _).mono ?_); rintro e w4 ⟨rfl, rfl⟩)
            | (go_at_call 77; (with_reducible refine (HW.out _).mono ?_); rintro e w5 ⟨⟨x, rfl⟩, rfl⟩))
          all_goals exact bodyPost_ret (v := wordV ⟨0, 0, ⟨#[]⟩, 0⟩ 0 29 (i : Int)) (by simp [wordV, results, Tryd.results61, go_sem]) rfl ⟨Or.inl ⟨_, _, _, _, HV.out, rfl⟩, ((Below.refl _ _).alloc (Nat.le_refl _) _).alloc (by simp) _⟩
        | some v =>
          rw [ho] at hw
          have HW := Lib.hid (fun w => (hw w).mono fun e w' ⟨h, hb⟩ => (⟨h.some_, hb⟩ : e = Ending.returned (.tuple #[.int .i64 v, .bool true]) ∧ w' = w))
          have HV := Lib.hid (HNT.out.trans (by rw [ho]))
          clear hw ho HNT
          go_wp2_with (first
            | (go_at_call 76; (with_reducible refine (hdk.out _).mono ?_); rintro e w4 ⟨rfl, rfl⟩)
            | (go_at_call 77; (with_reducible refine (HW.out _).mono ?_); rintro e w5 ⟨rfl, rfl⟩))
          all_goals exact bodyPost_ret (v := wordV ⟨2, i, T, v⟩ (K : Int) 0 0) (by simp [wordV, results, Tryd.results61, go_sem]) rfl ⟨Or.inr ⟨⟨2, 0, T, v⟩, p, HV.out, by rw [HKI.out]; rfl⟩, ((Below.refl _ _).alloc (Nat.le_refl _) _).alloc (by simp) _⟩
  | false =>
    rw [hdc] at hd0 hn
    have hd0 := Lib.hid hd0
    simp only [Bool.false_or, Bool.and_eq_true, beq_iff_eq, decide_eq_true_eq] at hn
    obtain ⟨⟨c45, h1⟩, hdb⟩ := hn
    rw [hdb, decide_eq_true h1] at hd1
    have hd1 := Lib.hid hd1
    have e45 : (C == 45) = true := by rw [← hC, c45]; rfl
    clear hnb hdc hb0 hb1 hd0' hdk0 hcut ht hg0 hc c34 hsgn c45 hdb
    go_enter Tryd.func61, Tryd.ntmps61
    go_wp2_with (first
      | (go_at_call 62; (with_reducible refine (hsg.out _).mono ?_); rintro e w2 ⟨rfl, rfl⟩)
      | (go_at_call 76; (with_reducible refine (hd0.out _).mono ?_); rintro e w3 ⟨rfl, rfl⟩)
      | (go_at_call 76; (with_reducible refine (hd1.out _).mono ?_); rintro e w4 ⟨rfl, rfl⟩))
    go_loop [13] (fun x => ∃ p : Nat, x = .int .i64 ((i + p : Nat) : Int) ∧ 1 ≤ p ∧ p ≤ t.size ∧ Hid (RunTo t p ∧ ∀ k, 1 ≤ k → k < p → digB (t.get! k) = true)) (fun x => s.size - (intOf x).toNat)
    case atStart => exact ⟨1, by first | rfl | go_num, by omega, by omega, Lib.hid ⟨rfl, fun k h1 h2 => by omega⟩⟩
    case round =>
      obtain ⟨p, rfl, hp1, hp, HR⟩ := hrel
      have hdk := fun w => isDigit_any s (i + p) w
      rw [HDK.out p] at hdk
      obtain ⟨K, hK⟩ : ∃ K, i + p = K := ⟨_, rfl⟩
      rw [hK] at hdk ⊢
      have K0 : (0 : Int) ≤ (K : Int) := by omega
      have K1 : (K : Int) ≤ (s.size : Int) := by omega
      have K2 : (i : Int) ≤ (K : Int) := by omega
      by_cases hgo : p < t.size ∧ digB (t.get! p) = true
      · obtain ⟨hlt, hd⟩ := hgo
        rw [hd, decide_eq_true hlt] at hdk
        have hdk := Lib.hid hdk
        have HR2 : Hid (RunTo t (p + 1) ∧ ∀ k, 1 ≤ k → k < p + 1 → digB (t.get! k) = true) := Lib.hid ⟨HR.out.1.next hlt hd, fun k h1 h2 => by
          by_cases e : k = p
          · rw [e]; exact hd
          · exact HR.out.2 k h1 (by omega)⟩
        have HK := Lib.hid hK
        have hKs : K < s.size := by omega
        clear hd HR hK
        go_wp2_with (first
          | (go_at_call 76; (with_reducible refine (hdk.out _).mono ?_); rintro e w4 ⟨rfl, rfl⟩))
        all_goals go_round
        case rel => exact ⟨p + 1, by rw [← Nat.add_assoc, HK.out]; go_num, by omega, by omega, HR2⟩
        case measure => simp [intOf]; omega
      · have hstop := HR.out.1.stop hgo
        have hmore := HMO.out p hgo hp1
        have hdf : (decide (p < t.size) && digB (t.get! p)) = false := by
          cases hdp : digB (t.get! p) with
          | true =>
            have : ¬ p < t.size := fun k => hgo ⟨k, hdp⟩
            simp [this]
          | false => simp
        rw [hdf] at hdk
        have hdk := Lib.hid hdk
        have hTs : (t.extract 0 p).size = p := by rw [ByteArray.size_extract]; omega
        have hw := fun w => refNumT_any (t.extract 0 p) (by omega) (by omega) (by rw [cut_get t p 0 (by omega) hp, hTs]; exact hmore) (by rw [cut_get t p 0 (by omega) hp]; exact HFI.out) (fun k h1 h2 => by
          rw [cut_get t p k (by omega) hp]
          exact HR.out.2 k h1 (by omega)) w
        have HNT : Hid (numberT t = match worthL (t.extract 0 p).data.toList with | none => .inl (29, 0) | some v => .inr (⟨2, 0, t.extract 0 p, v⟩, p)) := Lib.hid (by
          unfold numberT
          rw [hstop, cut_list]
          cases worthL (t.data.toList.take p) <;> rfl)
        rw [← HCU.out p, hK] at hw HNT
        obtain ⟨T, hT⟩ : ∃ T, s.extract i K = T := ⟨_, rfl⟩
        rw [hT] at hw HNT
        have HKI : Hid (((i + p : Nat) : Int) = (K : Int)) := Lib.hid (by rw [hK])
        clear hmore hTs hstop HR hK hdf hgo
        cases ho : worthL T.data.toList with
        | none =>
          rw [ho] at hw
          have HW := Lib.hid (fun w => (hw w).mono fun e w' ⟨h, hb⟩ => (⟨h.none_, hb⟩ : (∃ x, e = Ending.returned (.tuple #[.int .i64 x, .bool false])) ∧ w' = w))
          have HV := Lib.hid (HNT.out.trans (by rw [ho]))
          clear hw ho HNT
          go_wp2_with (first
            | (go_at_call 76; (with_reducible refine (hdk.out _).mono ?_); rintro e w4 ⟨rfl, rfl⟩)
            | (go_at_call 77; (with_reducible refine (HW.out _).mono ?_); rintro e w5 ⟨⟨x, rfl⟩, rfl⟩))
          all_goals exact bodyPost_ret (v := wordV ⟨0, 0, ⟨#[]⟩, 0⟩ 0 29 (i : Int)) (by simp [wordV, results, Tryd.results61, go_sem]) rfl ⟨Or.inl ⟨_, _, _, _, HV.out, rfl⟩, ((Below.refl _ _).alloc (Nat.le_refl _) _).alloc (by simp) _⟩
        | some v =>
          rw [ho] at hw
          have HW := Lib.hid (fun w => (hw w).mono fun e w' ⟨h, hb⟩ => (⟨h.some_, hb⟩ : e = Ending.returned (.tuple #[.int .i64 v, .bool true]) ∧ w' = w))
          have HV := Lib.hid (HNT.out.trans (by rw [ho]))
          clear hw ho HNT
          go_wp2_with (first
            | (go_at_call 76; (with_reducible refine (hdk.out _).mono ?_); rintro e w4 ⟨rfl, rfl⟩)
            | (go_at_call 77; (with_reducible refine (HW.out _).mono ?_); rintro e w5 ⟨rfl, rfl⟩))
          all_goals exact bodyPost_ret (v := wordV ⟨2, i, T, v⟩ (K : Int) 0 0) (by simp [wordV, results, Tryd.results61, go_sem]) rfl ⟨Or.inr ⟨⟨2, 0, T, v⟩, p, HV.out, by rw [HKI.out]; rfl⟩, ((Below.refl _ _).alloc (Nat.le_refl _) _).alloc (by simp) _⟩
set_option maxHeartbeats 8000000 in
set_option maxRecDepth 100000 in
theorem refWord_name (s : ByteArray) (i : Nat) (hi : i < s.size) (hs : s.size ≤ 274877906944) (c : UInt8) (hc : s.get! i = c) (c34 : c ≠ 34) (hsgn : signB c = false) (hn : numB (s.extract i s.size) = false) (w : World) (hL : LR w) :
    Calls Tryd.prog 61 #[.string s, .int .i64 i] w fun e w' => RefAns i (nameT (s.extract i s.size)) e ∧ Below w.heap.size w w' := by
  have hts : (s.extract i s.size).size = s.size - i := tail_size s i
  have hg := get_at' (s := s) (p := i) hi
  have hg0 := tail_get s i 0 (by omega)
  rw [Nat.add_zero] at hg0
  have z0 : (0 : Int) ≤ (i : Int) := by omega
  have z1 : (i : Int) < (s.size : Int) := by omega
  have hsg := fun w => refSign_any c w
  rw [hsgn] at hsg
  have e34 := ne_int (k := 34) c34
  have hd0 := fun w => isDigit_any s i w
  have hd1 : ∀ w, Calls Tryd.prog 76 #[.string s, .int .i64 ((i : Int) + 1)] w fun e w' => e = .returned (.bool (decide (i + 1 < s.size) && digB (s.get! (i + 1)))) ∧ w' = w := fun w => isDigit_any s (i + 1) w
  have hb0 := dig_is s i 0 (by omega)
  have hb1 := dig_is s i 1 (by omega)
  rw [Nat.add_zero] at hb0
  rw [hb0] at hd0
  rw [hb1] at hd1
  have hdk0 := fun p => dig_is s i p (by omega)
  have hcut := fun p => cut_tail s i p
  obtain ⟨t, ht⟩ : ∃ t, s.extract i s.size = t := ⟨_, rfl⟩
  rw [ht] at hts hg0 hn hd0 hd1
  simp only [ht] at hdk0 hcut
  have ht0 : 0 < t.size := by omega
  rw [hc] at hg hg0
  have hd0' : (decide (0 < t.size) && digB (t.get! 0)) = digB c := by rw [hg0, decide_eq_true ht0]; rfl
  rw [hd0'] at hd0
  have hnb : numB t = (digB c || (c == 45 && decide (1 < t.size) && digB (t.get! 1))) := by
    unfold numB
    rw [hg0]
  rw [hnb] at hn
  have y1 : (i : Int) + 1 ≤ (s.size : Int) := by omega
  obtain ⟨C, hC⟩ : ∃ C : Int, (c.toNat : Int) = C := ⟨_, rfl⟩
  rw [hC] at hsg e34
  have hsg := Lib.hid hsg
  rw [ht]
  have HLR := Lib.hid hL
  simp only [Bool.or_eq_false_iff] at hn
  obtain ⟨hdc, hn2⟩ := hn
  rw [hdc] at hd0
  have hd0 := Lib.hid hd0
  clear hnb hdc hb0 hb1 hd0' hdk0 hg0 hc c34 hsgn hL
  by_cases c45 : c = 45
  · have e45 : (C == 45) = true := by rw [← hC, c45]; rfl
    have hq : (decide (1 < t.size) && digB (t.get! 1)) = false := by
      rw [c45] at hn2
      simpa using hn2
    rw [hq] at hd1
    have hd1 := Lib.hid hd1
    clear hn2 hq c45
    have hpcR := fun w => piece_any s i hi (by omega) w
    unfold pieceV at hpcR
    obtain ⟨R, hR⟩ : ∃ R, pieceR s i = R := ⟨_, rfl⟩
    obtain ⟨N, hN⟩ : ∃ N, (Utf8.decode s i).2 = N := ⟨_, rfl⟩
    rw [hR, hN] at hpcR
    have hpc := Lib.hid hpcR
    have hRe : R = if strayAt s i = true then -1 else ((Utf8.decode s i).1 : Int) := hR.symm
    have hst0 : strayAt t 0 = strayAt s i := by
      have := stray_tail s i 0
      rw [ht, Nat.add_zero] at this
      exact this
    have hde0 : Utf8.decode t 0 = Utf8.decode s i := by
      have := Lib.tail_decode s i 0
      rw [ht, Nat.add_zero] at this
      exact this
    by_cases hsy : strayAt s i = true
    · rw [if_pos hsy] at hRe
      have HV : Hid (nameT t = .inl (21, 0)) := Lib.hid (by
        have hx : nameScan t t.size 0 0 = .inr (0, 0) := ScanAt.stop (t := t) (p := 0) (c := 0) rfl (fun _ => by unfold nameStop; rw [hst0, hsy]; rfl)
        unfold nameT
        rw [hx]
        simp only
        rw [if_pos trivial]
        unfold otherE
        rw [hst0, if_pos hsy])
      subst hRe
      clear hR hN hpcR hsy hst0 hde0 hcut ht
      go_enter Tryd.func61, Tryd.ntmps61
      go_wp2_with (first
        | (go_at_call 62; (with_reducible refine (hsg.out _).mono ?_); rintro e w2 ⟨rfl, rfl⟩)
        | (go_at_call 76; (with_reducible refine (hd0.out _).mono ?_); rintro e w3 ⟨rfl, rfl⟩)
        | (go_at_call 76; (with_reducible refine (hd1.out _).mono ?_); rintro e w4 ⟨rfl, rfl⟩)
        | (go_at_call 49; (with_reducible refine (hpc.out _).mono ?_); rintro e w6 ⟨rfl, hb6⟩; have HI := Lib.hid ((rw0 _).call hb6); clear hb6)
        | (refine wpList_load_blk rfl _ _ rfl _ rfl _ _ HI.out.boxn.nb rowWord ?_)
        | (refine wpList_store_all rfl _ _ _ rfl _ rfl _ rfl _ _ HI.out.boxn.blk (by rfl) (by simp [Value.oneCell']) rowWord ?_; intro w9 hw9 K9; have HB9 := Lib.hid (hw9.below HI.out.boxn.bel (Nat.le_refl _)); have HK9 := Lib.hid K9; clear hw9 K9))
      all_goals exact bodyPost_ret (results_row4 rfl _ _ _ _ _ rfl HK9.out rowWord) rfl ⟨Or.inl ⟨21, 0, ⟨0, 0, ⟨#[]⟩, 0⟩, _, HV.out, rfl⟩, HB9.out⟩

    rw [if_neg hsy] at hRe
    have R0 : ¬ R < 0 := by omega
    cases hl : letterB R with
    | false =>
      have HV : Hid (nameT t = .inl (22, 0)) := Lib.hid (by
        have hx : nameScan t t.size 0 0 = .inr (0, 0) := ScanAt.stop (t := t) (p := 0) (c := 0) rfl (fun _ => by unfold nameStop; rw [hst0, hde0, ← hRe, hl]; simp)
        unfold nameT
        rw [hx]
        simp only
        rw [if_pos trivial]
        unfold otherE
        rw [hst0, if_neg hsy])
      have hlt := Lib.hid (fun w h => refLetter_at hl w h)
      clear hR hN hpcR hsy hst0 hde0 hl hRe hcut ht
      go_enter Tryd.func61, Tryd.ntmps61
      go_wp2_with (first
        | (go_at_call 62; (with_reducible refine (hsg.out _).mono ?_); rintro e w2 ⟨rfl, rfl⟩)
        | (go_at_call 76; (with_reducible refine (hd0.out _).mono ?_); rintro e w3 ⟨rfl, rfl⟩)
        | (go_at_call 76; (with_reducible refine (hd1.out _).mono ?_); rintro e w4 ⟨rfl, rfl⟩)
        | (go_at_call 49; (with_reducible refine (hpc.out _).mono ?_); rintro e w6 ⟨rfl, hb6⟩; have HI := Lib.hid ((rw0 _).call hb6); clear hb6)
        | (go_at_call 14; (with_reducible refine (hlt.out _ (PairsAt.below HLR.out (show Below w.heap.size w _ from HI.out.bel.alloc HI.out.bel.size _))).mono ?_); rintro e w7 ⟨rfl, hd⟩; have HJ := Lib.hid (HI.out.boxed hd); clear hd)
        | (refine wpList_load_blk rfl _ _ rfl _ rfl _ _ HJ.out.nb rowWord ?_)
        | (refine wpList_store_all rfl _ _ _ rfl _ rfl _ rfl _ _ HJ.out.blk (by rfl) (by simp [Value.oneCell']) rowWord ?_; intro w9 hw9 K9; have HB9 := Lib.hid (hw9.below HJ.out.bel (Nat.le_refl _)); have HK9 := Lib.hid K9; clear hw9 K9))
      all_goals exact bodyPost_ret (results_row4 rfl _ _ _ _ _ rfl HK9.out rowWord) rfl ⟨Or.inl ⟨22, 0, ⟨0, 0, ⟨#[]⟩, 0⟩, _, HV.out, rfl⟩, HB9.out⟩
    | true =>
      have hlt := Lib.hid (fun w h => refLetter_at hl w h)
      have HST0 : Hid (nameStop t 0 = false) := Lib.hid (by unfold nameStop; rw [hst0, hde0, ← hRe, hl, in_of_letter hl]; simp at hsy; simp [hsy])
      have HNA : Hid (∀ p, inNameB (pieceR s (i + p)) = !nameStop t p) := Lib.hid (fun p => by
        have := name_at (s := s) (i := i) (p := p) (by rw [← hRe]; exact hl)
        rw [ht] at this
        exact this)
      have HCU := Lib.hid hcut
      have HDE : Hid (∀ p, Utf8.decode t p = Utf8.decode s (i + p)) := Lib.hid (fun p => by
        have := Lib.tail_decode s i p
        rw [ht] at this
        exact this)
      clear hR hN hpcR hsy hst0 hde0 hl hRe hcut ht
      go_enter Tryd.func61, Tryd.ntmps61
      go_wp2_with (first
        | (go_at_call 62; (with_reducible refine (hsg.out _).mono ?_); rintro e w2 ⟨rfl, rfl⟩)
        | (go_at_call 76; (with_reducible refine (hd0.out _).mono ?_); rintro e w3 ⟨rfl, rfl⟩)
        | (go_at_call 76; (with_reducible refine (hd1.out _).mono ?_); rintro e w4 ⟨rfl, rfl⟩)
        | (go_at_call 49; (with_reducible refine (hpc.out _).mono ?_); rintro e w6 ⟨rfl, hb6⟩; have HI := Lib.hid ((rw0 _).call hb6); clear hb6)
        | (go_at_call 14; (with_reducible refine (hlt.out _ (PairsAt.below HLR.out (show Below w.heap.size w _ from HI.out.bel.alloc HI.out.bel.size _))).mono ?_); rintro e w7 ⟨rfl, hd⟩; have HJ := Lib.hid (HI.out.boxed hd); clear hd))
      go_loopw [17, 18] (fun x y wr => ∃ p k : Nat, x = .int .i64 ((i + p : Nat) : Int) ∧ y = .int .i64 k ∧ k ≤ 48 ∧ p ≤ t.size ∧ RwSt w wr ∧ Hid (ScanSt t p k)) (fun x _ _ => s.size - (intOf x).toNat)
      case atStart => exact ⟨0, 0, rfl, rfl, by omega, by omega, HJ.out, Lib.hid ⟨rfl, fun _ => rfl⟩⟩
      case round =>
        obtain ⟨p, k, rfl, rfl, hk, hp, hJ, HS⟩ := hrel
        have HJ := Lib.hid hJ
        clear hJ
        have hna := HNA.out p
        have hde := HDE.out p
        have hcp := HCU.out p
        obtain ⟨K, hK⟩ : ∃ K, i + p = K := ⟨_, rfl⟩
        have hpk := fun h => piece_any s (i + p) h (by omega)
        unfold pieceV at hpk
        have hgt := fun (h : p < t.size) => next_gt h
        have hle := fun (h : p < t.size) => width_le' h
        unfold nextPos at hgt hle
        rw [hde] at hgt hle
        rw [hK] at hna hde hcp hpk hgt hle ⊢
        obtain ⟨R2, hR2⟩ : ∃ R, pieceR s K = R := ⟨_, rfl⟩
        obtain ⟨N2, hN2⟩ : ∃ N, (Utf8.decode s K).2 = N := ⟨_, rfl⟩
        rw [hR2] at hna
        simp only [hR2, hN2] at hpk hgt hle
        obtain ⟨T, hT⟩ : ∃ T, s.extract i K = T := ⟨_, rfl⟩
        rw [hT] at hcp
        have K0 : (0 : Int) ≤ (K : Int) := by omega
        have K1 : (K : Int) ≤ (s.size : Int) := by omega
        have K2 : (i : Int) ≤ (K : Int) := by omega
        have HKI : Hid (((i + p : Nat) : Int) = (K : Int)) := Lib.hid (by rw [hK])
        by_cases hlt2 : p < t.size
        · have x1 : (K : Int) < (s.size : Int) := by omega
          have hpk := Lib.hid (hpk (by omega))
          cases hstp : nameStop t p with
          | true =>
            rw [hstp] at hna
            have hnr := Lib.hid (fun w h => nameRune_at hna w h)
            have HV : Hid (nameT t = .inr (⟨1, 0, T, 0⟩, p)) := Lib.hid (by
              have hx := HS.out.at_.stop (fun _ => hstp)
              have k0 : k ≠ 0 := fun h => by
                have := HS.out.pos h
                rw [this, HST0.out] at hstp
                cases hstp
              unfold nameT
              rw [hx]
              simp only
              rw [if_neg k0, ← hcp])
            clear hna hde hgt hle hcp hR2 hN2 hK HS hstp
            go_wp2_with (go_at_call 49; (with_reducible refine (hpk.out _).mono ?_); rintro e w6 ⟨rfl, hb6⟩; have HJ' := Lib.hid (HJ.out.call hb6); clear HJ hb6; have HJ := HJ'; clear HJ')
            rename_i hKa
            refine hKa (Act.put _ _ (.int .i64 R2)) _ ?_
            clear hKa
            go_wp2_with (first
              | (go_at_call 49; (with_reducible refine (hpk.out _).mono ?_); rintro e w6 ⟨rfl, hb6⟩; have HJ' := Lib.hid (HJ.out.call hb6); clear HJ hb6; have HJ := HJ'; clear HJ')
              | (go_at_call 42; (with_reducible refine (hnr.out _ (PairsAt.below HLR.out HJ.out.bel)).mono ?_); rintro e w7 ⟨rfl, hd⟩; have HJ' := Lib.hid (HJ.out.call hd.below); clear HJ hd; have HJ := HJ'; clear HJ')
              | (refine wpList_store_all rfl _ _ _ rfl _ rfl _ rfl _ _ HJ.out.blk (by rfl) (by simp [Value.oneCell']) rowWord ?_; intro w9 hw9 K9; have HB9 := Lib.hid (hw9.below HJ.out.bel (Nat.le_refl _)); have HK9 := Lib.hid K9; clear hw9 K9))
            all_goals exact bodyPost_ret (results_row4 rfl _ _ _ _ _ rfl HK9.out rowWord) rfl ⟨Or.inr ⟨⟨1, 0, T, 0⟩, p, HV.out, by rw [HKI.out]; rfl⟩, HB9.out⟩
          | false =>
            rw [hstp] at hna
            have hnr := Lib.hid (fun w h => nameRune_at hna w h)
            by_cases h48 : k = 48
            · have HV : Hid (nameT t = .inl (23, p)) := Lib.hid (by
                unfold nameT
                rw [HS.out.at_.long hlt2 hstp h48])
              subst h48
              clear hna hde hgt hle hcp hR2 hN2 hK HS hstp
              go_wp2_with (go_at_call 49; (with_reducible refine (hpk.out _).mono ?_); rintro e w6 ⟨rfl, hb6⟩; have HJ' := Lib.hid (HJ.out.call hb6); clear HJ hb6; have HJ := HJ'; clear HJ')
              rename_i hKa
              refine hKa (Act.put _ _ (.int .i64 R2)) _ ?_
              clear hKa
              go_wp2_with (first
                | (go_at_call 49; (with_reducible refine (hpk.out _).mono ?_); rintro e w6 ⟨rfl, hb6⟩; have HJ' := Lib.hid (HJ.out.call hb6); clear HJ hb6; have HJ := HJ'; clear HJ')
                | (go_at_call 42; (with_reducible refine (hnr.out _ (PairsAt.below HLR.out HJ.out.bel)).mono ?_); rintro e w7 ⟨rfl, hd⟩; have HJ' := Lib.hid (HJ.out.call hd.below); clear HJ hd; have HJ := HJ'; clear HJ')
                | (refine wpList_load_blk rfl _ _ rfl _ rfl _ _ HJ.out.nb rowWord ?_)
                | (refine wpList_store_all rfl _ _ _ rfl _ rfl _ rfl _ _ HJ.out.blk (by rfl) (by simp [Value.oneCell']) rowWord ?_; intro w9 hw9 K9; have HB9 := Lib.hid (hw9.below HJ.out.bel (Nat.le_refl _)); have HK9 := Lib.hid K9; clear hw9 K9))
              all_goals exact bodyPost_ret (results_row4 rfl _ _ _ _ _ rfl HK9.out rowWord) rfl ⟨Or.inl ⟨23, p, ⟨0, 0, ⟨#[]⟩, 0⟩, _, HV.out, by rw [HKI.out]; rfl⟩, HB9.out⟩
            · have hk48 : ((k : Int) == 48) = false := by rw [beq_eq_false_iff_ne]; omega
              have hk47 : k < 48 := by omega
              have hg3 := hgt hlt2
              have hl3 := hle hlt2
              have HS2 : Hid (ScanSt t (p + N2) (k + 1)) := Lib.hid ⟨by
                have := HS.out.at_.next hlt2 hstp h48
                unfold nextPos at this
                rw [hde, hN2] at this
                exact this, fun h => by omega⟩
              have v1 : (K : Int) + (N2 : Int) ≤ (s.size : Int) := by omega
              have HKN : Hid ((K : Int) + (N2 : Int) = ((i + (p + N2) : Nat) : Int)) := Lib.hid (by omega)
              clear hna hde hgt hle hcp hR2 hN2 hK HS hstp h48
              go_wp2_with (go_at_call 49; (with_reducible refine (hpk.out _).mono ?_); rintro e w6 ⟨rfl, hb6⟩; have HJ' := Lib.hid (HJ.out.call hb6); clear HJ hb6; have HJ := HJ'; clear HJ')
              rename_i hKa
              refine hKa (Act.put _ _ (.int .i64 R2)) _ ?_
              clear hKa
              go_wp2_with (first
                | (go_at_call 49; (with_reducible refine (hpk.out _).mono ?_); rintro e w6 ⟨rfl, hb6⟩; have HJ' := Lib.hid (HJ.out.call hb6); clear HJ hb6; have HJ := HJ'; clear HJ')
                | (go_at_call 42; (with_reducible refine (hnr.out _ (PairsAt.below HLR.out HJ.out.bel)).mono ?_); rintro e w7 ⟨rfl, hd⟩; have HJ' := Lib.hid (HJ.out.call hd.below); clear HJ hd; have HJ := HJ'; clear HJ'))
              rename_i hKb
              refine hKb (Act.put _ _ (.int .i64 N2)) _ ?_
              clear hKb
              go_wp2
              all_goals go_roundw
              case rel => exact ⟨p + N2, k + 1, by first | (rw [← HKN.out]; rfl) | (simp only [HKN.out]), by go_num, by omega, by omega, HJ.out, HS2⟩
              case measure => simp [intOf]; omega
        · have x1 : ¬ (K : Int) < (s.size : Int) := by omega
          have HV : Hid (nameT t = .inr (⟨1, 0, T, 0⟩, p)) := Lib.hid (by
            have hx := HS.out.at_.stop (fun h => absurd h hlt2)
            have k0 : k ≠ 0 := fun h => by
              have := HS.out.pos h
              omega
            unfold nameT
            rw [hx]
            simp only
            rw [if_neg k0, ← hcp])
          clear hna hde hgt hle hcp hR2 hN2 hK HS hpk hlt2
          go_wp2_with (first
            | (refine wpList_store_all rfl _ _ _ rfl _ rfl _ rfl _ _ HJ.out.blk (by rfl) (by simp [Value.oneCell']) rowWord ?_; intro w9 hw9 K9; have HB9 := Lib.hid (hw9.below HJ.out.bel (Nat.le_refl _)); have HK9 := Lib.hid K9; clear hw9 K9))
          all_goals exact bodyPost_ret (results_row4 rfl _ _ _ _ _ rfl HK9.out rowWord) rfl ⟨Or.inr ⟨⟨1, 0, T, 0⟩, p, HV.out, by rw [HKI.out]; rfl⟩, HB9.out⟩
  · have e45 : (C == 45) = false := by rw [beq_eq_false_iff_ne, ← hC]; exact ne_int (k := 45) c45
    clear hn2 c45 hd1
    have hpcR := fun w => piece_any s i hi (by omega) w
    unfold pieceV at hpcR
    obtain ⟨R, hR⟩ : ∃ R, pieceR s i = R := ⟨_, rfl⟩
    obtain ⟨N, hN⟩ : ∃ N, (Utf8.decode s i).2 = N := ⟨_, rfl⟩
    rw [hR, hN] at hpcR
    have hpc := Lib.hid hpcR
    have hRe : R = if strayAt s i = true then -1 else ((Utf8.decode s i).1 : Int) := hR.symm
    have hst0 : strayAt t 0 = strayAt s i := by
      have := stray_tail s i 0
      rw [ht, Nat.add_zero] at this
      exact this
    have hde0 : Utf8.decode t 0 = Utf8.decode s i := by
      have := Lib.tail_decode s i 0
      rw [ht, Nat.add_zero] at this
      exact this
    by_cases hsy : strayAt s i = true
    · rw [if_pos hsy] at hRe
      have HV : Hid (nameT t = .inl (21, 0)) := Lib.hid (by
        have hx : nameScan t t.size 0 0 = .inr (0, 0) := ScanAt.stop (t := t) (p := 0) (c := 0) rfl (fun _ => by unfold nameStop; rw [hst0, hsy]; rfl)
        unfold nameT
        rw [hx]
        simp only
        rw [if_pos trivial]
        unfold otherE
        rw [hst0, if_pos hsy])
      subst hRe
      clear hR hN hpcR hsy hst0 hde0 hcut ht
      go_enter Tryd.func61, Tryd.ntmps61
      go_wp2_with (first
        | (go_at_call 62; (with_reducible refine (hsg.out _).mono ?_); rintro e w2 ⟨rfl, rfl⟩)
        | (go_at_call 76; (with_reducible refine (hd0.out _).mono ?_); rintro e w3 ⟨rfl, rfl⟩)
        | (go_at_call 49; (with_reducible refine (hpc.out _).mono ?_); rintro e w6 ⟨rfl, hb6⟩; have HI := Lib.hid ((rw0 _).call hb6); clear hb6)
        | (refine wpList_load_blk rfl _ _ rfl _ rfl _ _ HI.out.boxn.nb rowWord ?_)
        | (refine wpList_store_all rfl _ _ _ rfl _ rfl _ rfl _ _ HI.out.boxn.blk (by rfl) (by simp [Value.oneCell']) rowWord ?_; intro w9 hw9 K9; have HB9 := Lib.hid (hw9.below HI.out.boxn.bel (Nat.le_refl _)); have HK9 := Lib.hid K9; clear hw9 K9))
      all_goals exact bodyPost_ret (results_row4 rfl _ _ _ _ _ rfl HK9.out rowWord) rfl ⟨Or.inl ⟨21, 0, ⟨0, 0, ⟨#[]⟩, 0⟩, _, HV.out, rfl⟩, HB9.out⟩

    rw [if_neg hsy] at hRe
    have R0 : ¬ R < 0 := by omega
    cases hl : letterB R with
    | false =>
      have HV : Hid (nameT t = .inl (22, 0)) := Lib.hid (by
        have hx : nameScan t t.size 0 0 = .inr (0, 0) := ScanAt.stop (t := t) (p := 0) (c := 0) rfl (fun _ => by unfold nameStop; rw [hst0, hde0, ← hRe, hl]; simp)
        unfold nameT
        rw [hx]
        simp only
        rw [if_pos trivial]
        unfold otherE
        rw [hst0, if_neg hsy])
      have hlt := Lib.hid (fun w h => refLetter_at hl w h)
      clear hR hN hpcR hsy hst0 hde0 hl hRe hcut ht
      go_enter Tryd.func61, Tryd.ntmps61
      go_wp2_with (first
        | (go_at_call 62; (with_reducible refine (hsg.out _).mono ?_); rintro e w2 ⟨rfl, rfl⟩)
        | (go_at_call 76; (with_reducible refine (hd0.out _).mono ?_); rintro e w3 ⟨rfl, rfl⟩)
        | (go_at_call 49; (with_reducible refine (hpc.out _).mono ?_); rintro e w6 ⟨rfl, hb6⟩; have HI := Lib.hid ((rw0 _).call hb6); clear hb6)
        | (go_at_call 14; (with_reducible refine (hlt.out _ (PairsAt.below HLR.out (show Below w.heap.size w _ from HI.out.bel.alloc HI.out.bel.size _))).mono ?_); rintro e w7 ⟨rfl, hd⟩; have HJ := Lib.hid (HI.out.boxed hd); clear hd)
        | (refine wpList_load_blk rfl _ _ rfl _ rfl _ _ HJ.out.nb rowWord ?_)
        | (refine wpList_store_all rfl _ _ _ rfl _ rfl _ rfl _ _ HJ.out.blk (by rfl) (by simp [Value.oneCell']) rowWord ?_; intro w9 hw9 K9; have HB9 := Lib.hid (hw9.below HJ.out.bel (Nat.le_refl _)); have HK9 := Lib.hid K9; clear hw9 K9))
      all_goals exact bodyPost_ret (results_row4 rfl _ _ _ _ _ rfl HK9.out rowWord) rfl ⟨Or.inl ⟨22, 0, ⟨0, 0, ⟨#[]⟩, 0⟩, _, HV.out, rfl⟩, HB9.out⟩
    | true =>
      have hlt := Lib.hid (fun w h => refLetter_at hl w h)
      have HST0 : Hid (nameStop t 0 = false) := Lib.hid (by unfold nameStop; rw [hst0, hde0, ← hRe, hl, in_of_letter hl]; simp at hsy; simp [hsy])
      have HNA : Hid (∀ p, inNameB (pieceR s (i + p)) = !nameStop t p) := Lib.hid (fun p => by
        have := name_at (s := s) (i := i) (p := p) (by rw [← hRe]; exact hl)
        rw [ht] at this
        exact this)
      have HCU := Lib.hid hcut
      have HDE : Hid (∀ p, Utf8.decode t p = Utf8.decode s (i + p)) := Lib.hid (fun p => by
        have := Lib.tail_decode s i p
        rw [ht] at this
        exact this)
      clear hR hN hpcR hsy hst0 hde0 hl hRe hcut ht
      go_enter Tryd.func61, Tryd.ntmps61
      go_wp2_with (first
        | (go_at_call 62; (with_reducible refine (hsg.out _).mono ?_); rintro e w2 ⟨rfl, rfl⟩)
        | (go_at_call 76; (with_reducible refine (hd0.out _).mono ?_); rintro e w3 ⟨rfl, rfl⟩)
        | (go_at_call 49; (with_reducible refine (hpc.out _).mono ?_); rintro e w6 ⟨rfl, hb6⟩; have HI := Lib.hid ((rw0 _).call hb6); clear hb6)
        | (go_at_call 14; (with_reducible refine (hlt.out _ (PairsAt.below HLR.out (show Below w.heap.size w _ from HI.out.bel.alloc HI.out.bel.size _))).mono ?_); rintro e w7 ⟨rfl, hd⟩; have HJ := Lib.hid (HI.out.boxed hd); clear hd))
      go_loopw [17, 18] (fun x y wr => ∃ p k : Nat, x = .int .i64 ((i + p : Nat) : Int) ∧ y = .int .i64 k ∧ k ≤ 48 ∧ p ≤ t.size ∧ RwSt w wr ∧ Hid (ScanSt t p k)) (fun x _ _ => s.size - (intOf x).toNat)
      case atStart => exact ⟨0, 0, rfl, rfl, by omega, by omega, HJ.out, Lib.hid ⟨rfl, fun _ => rfl⟩⟩
      case round =>
        obtain ⟨p, k, rfl, rfl, hk, hp, hJ, HS⟩ := hrel
        have HJ := Lib.hid hJ
        clear hJ
        have hna := HNA.out p
        have hde := HDE.out p
        have hcp := HCU.out p
        obtain ⟨K, hK⟩ : ∃ K, i + p = K := ⟨_, rfl⟩
        have hpk := fun h => piece_any s (i + p) h (by omega)
        unfold pieceV at hpk
        have hgt := fun (h : p < t.size) => next_gt h
        have hle := fun (h : p < t.size) => width_le' h
        unfold nextPos at hgt hle
        rw [hde] at hgt hle
        rw [hK] at hna hde hcp hpk hgt hle ⊢
        obtain ⟨R2, hR2⟩ : ∃ R, pieceR s K = R := ⟨_, rfl⟩
        obtain ⟨N2, hN2⟩ : ∃ N, (Utf8.decode s K).2 = N := ⟨_, rfl⟩
        rw [hR2] at hna
        simp only [hR2, hN2] at hpk hgt hle
        obtain ⟨T, hT⟩ : ∃ T, s.extract i K = T := ⟨_, rfl⟩
        rw [hT] at hcp
        have K0 : (0 : Int) ≤ (K : Int) := by omega
        have K1 : (K : Int) ≤ (s.size : Int) := by omega
        have K2 : (i : Int) ≤ (K : Int) := by omega
        have HKI : Hid (((i + p : Nat) : Int) = (K : Int)) := Lib.hid (by rw [hK])
        by_cases hlt2 : p < t.size
        · have x1 : (K : Int) < (s.size : Int) := by omega
          have hpk := Lib.hid (hpk (by omega))
          cases hstp : nameStop t p with
          | true =>
            rw [hstp] at hna
            have hnr := Lib.hid (fun w h => nameRune_at hna w h)
            have HV : Hid (nameT t = .inr (⟨1, 0, T, 0⟩, p)) := Lib.hid (by
              have hx := HS.out.at_.stop (fun _ => hstp)
              have k0 : k ≠ 0 := fun h => by
                have := HS.out.pos h
                rw [this, HST0.out] at hstp
                cases hstp
              unfold nameT
              rw [hx]
              simp only
              rw [if_neg k0, ← hcp])
            clear hna hde hgt hle hcp hR2 hN2 hK HS hstp
            go_wp2_with (go_at_call 49; (with_reducible refine (hpk.out _).mono ?_); rintro e w6 ⟨rfl, hb6⟩; have HJ' := Lib.hid (HJ.out.call hb6); clear HJ hb6; have HJ := HJ'; clear HJ')
            rename_i hKa
            refine hKa (Act.put _ _ (.int .i64 R2)) _ ?_
            clear hKa
            go_wp2_with (first
              | (go_at_call 49; (with_reducible refine (hpk.out _).mono ?_); rintro e w6 ⟨rfl, hb6⟩; have HJ' := Lib.hid (HJ.out.call hb6); clear HJ hb6; have HJ := HJ'; clear HJ')
              | (go_at_call 42; (with_reducible refine (hnr.out _ (PairsAt.below HLR.out HJ.out.bel)).mono ?_); rintro e w7 ⟨rfl, hd⟩; have HJ' := Lib.hid (HJ.out.call hd.below); clear HJ hd; have HJ := HJ'; clear HJ')
              | (refine wpList_store_all rfl _ _ _ rfl _ rfl _ rfl _ _ HJ.out.blk (by rfl) (by simp [Value.oneCell']) rowWord ?_; intro w9 hw9 K9; have HB9 := Lib.hid (hw9.below HJ.out.bel (Nat.le_refl _)); have HK9 := Lib.hid K9; clear hw9 K9))
            all_goals exact bodyPost_ret (results_row4 rfl _ _ _ _ _ rfl HK9.out rowWord) rfl ⟨Or.inr ⟨⟨1, 0, T, 0⟩, p, HV.out, by rw [HKI.out]; rfl⟩, HB9.out⟩
          | false =>
            rw [hstp] at hna
            have hnr := Lib.hid (fun w h => nameRune_at hna w h)
            by_cases h48 : k = 48
            · have HV : Hid (nameT t = .inl (23, p)) := Lib.hid (by
                unfold nameT
                rw [HS.out.at_.long hlt2 hstp h48])
              subst h48
              clear hna hde hgt hle hcp hR2 hN2 hK HS hstp
              go_wp2_with (go_at_call 49; (with_reducible refine (hpk.out _).mono ?_); rintro e w6 ⟨rfl, hb6⟩; have HJ' := Lib.hid (HJ.out.call hb6); clear HJ hb6; have HJ := HJ'; clear HJ')
              rename_i hKa
              refine hKa (Act.put _ _ (.int .i64 R2)) _ ?_
              clear hKa
              go_wp2_with (first
                | (go_at_call 49; (with_reducible refine (hpk.out _).mono ?_); rintro e w6 ⟨rfl, hb6⟩; have HJ' := Lib.hid (HJ.out.call hb6); clear HJ hb6; have HJ := HJ'; clear HJ')
                | (go_at_call 42; (with_reducible refine (hnr.out _ (PairsAt.below HLR.out HJ.out.bel)).mono ?_); rintro e w7 ⟨rfl, hd⟩; have HJ' := Lib.hid (HJ.out.call hd.below); clear HJ hd; have HJ := HJ'; clear HJ')
                | (refine wpList_load_blk rfl _ _ rfl _ rfl _ _ HJ.out.nb rowWord ?_)
                | (refine wpList_store_all rfl _ _ _ rfl _ rfl _ rfl _ _ HJ.out.blk (by rfl) (by simp [Value.oneCell']) rowWord ?_; intro w9 hw9 K9; have HB9 := Lib.hid (hw9.below HJ.out.bel (Nat.le_refl _)); have HK9 := Lib.hid K9; clear hw9 K9))
              all_goals exact bodyPost_ret (results_row4 rfl _ _ _ _ _ rfl HK9.out rowWord) rfl ⟨Or.inl ⟨23, p, ⟨0, 0, ⟨#[]⟩, 0⟩, _, HV.out, by rw [HKI.out]; rfl⟩, HB9.out⟩
            · have hk48 : ((k : Int) == 48) = false := by rw [beq_eq_false_iff_ne]; omega
              have hk47 : k < 48 := by omega
              have hg3 := hgt hlt2
              have hl3 := hle hlt2
              have HS2 : Hid (ScanSt t (p + N2) (k + 1)) := Lib.hid ⟨by
                have := HS.out.at_.next hlt2 hstp h48
                unfold nextPos at this
                rw [hde, hN2] at this
                exact this, fun h => by omega⟩
              have v1 : (K : Int) + (N2 : Int) ≤ (s.size : Int) := by omega
              have HKN : Hid ((K : Int) + (N2 : Int) = ((i + (p + N2) : Nat) : Int)) := Lib.hid (by omega)
              clear hna hde hgt hle hcp hR2 hN2 hK HS hstp h48
              go_wp2_with (go_at_call 49; (with_reducible refine (hpk.out _).mono ?_); rintro e w6 ⟨rfl, hb6⟩; have HJ' := Lib.hid (HJ.out.call hb6); clear HJ hb6; have HJ := HJ'; clear HJ')
              rename_i hKa
              refine hKa (Act.put _ _ (.int .i64 R2)) _ ?_
              clear hKa
              go_wp2_with (first
                | (go_at_call 49; (with_reducible refine (hpk.out _).mono ?_); rintro e w6 ⟨rfl, hb6⟩; have HJ' := Lib.hid (HJ.out.call hb6); clear HJ hb6; have HJ := HJ'; clear HJ')
                | (go_at_call 42; (with_reducible refine (hnr.out _ (PairsAt.below HLR.out HJ.out.bel)).mono ?_); rintro e w7 ⟨rfl, hd⟩; have HJ' := Lib.hid (HJ.out.call hd.below); clear HJ hd; have HJ := HJ'; clear HJ'))
              rename_i hKb
              refine hKb (Act.put _ _ (.int .i64 N2)) _ ?_
              clear hKb
              go_wp2
              all_goals go_roundw
              case rel => exact ⟨p + N2, k + 1, by first | (rw [← HKN.out]; rfl) | (simp only [HKN.out]), by go_num, by omega, by omega, HJ.out, HS2⟩
              case measure => simp [intOf]; omega
        · have x1 : ¬ (K : Int) < (s.size : Int) := by omega
          have HV : Hid (nameT t = .inr (⟨1, 0, T, 0⟩, p)) := Lib.hid (by
            have hx := HS.out.at_.stop (fun h => absurd h hlt2)
            have k0 : k ≠ 0 := fun h => by
              have := HS.out.pos h
              omega
            unfold nameT
            rw [hx]
            simp only
            rw [if_neg k0, ← hcp])
          clear hna hde hgt hle hcp hR2 hN2 hK HS hpk hlt2
          go_wp2_with (first
            | (refine wpList_store_all rfl _ _ _ rfl _ rfl _ rfl _ _ HJ.out.blk (by rfl) (by simp [Value.oneCell']) rowWord ?_; intro w9 hw9 K9; have HB9 := Lib.hid (hw9.below HJ.out.bel (Nat.le_refl _)); have HK9 := Lib.hid K9; clear hw9 K9))
          all_goals exact bodyPost_ret (results_row4 rfl _ _ _ _ _ rfl HK9.out rowWord) rfl ⟨Or.inr ⟨⟨1, 0, T, 0⟩, p, HV.out, by rw [HKI.out]; rfl⟩, HB9.out⟩
set_option maxHeartbeats 8000000 in
set_option maxRecDepth 100000 in
theorem refWord_any (s : ByteArray) (i : Nat) (hi : i < s.size) (hs : s.size ≤ 274877906944) (w : World) (hH : RefHid w) (hL : LR w) :
    Calls Tryd.prog 61 #[.string s, .int .i64 i] w fun e w' => RefAns i (wordT (s.extract i s.size)) e ∧ Below w.heap.size w w' := by
  have hts : (s.extract i s.size).size = s.size - i := tail_size s i
  have hg := get_at' (s := s) (p := i) hi
  have htg := tail_get s i 0 (by omega)
  rw [Nat.add_zero] at htg
  have z0 : (0 : Int) ≤ (i : Int) := by omega
  have z1 : (i : Int) < (s.size : Int) := by omega
  obtain ⟨c, hc⟩ : ∃ c, s.get! i = c := ⟨_, rfl⟩
  have hw0 : wordT (s.extract i s.size) = if c = 34 then litT (s.extract i s.size) else if signB c = true then .inr (⟨4, 0, (s.extract i s.size).extract 0 1, 0⟩, 1) else if numB (s.extract i s.size) = true then numberT (s.extract i s.size) else nameT (s.extract i s.size) := by
    unfold wordT
    rw [htg, hc]
  rw [hc] at hg
  by_cases c34 : c = 34
  · rw [if_pos c34] at hw0
    have HH := Lib.hid hH
    have hun := fun w2 h => refUnquote_any s (i : Int) (by omega) w2 h
    have hul := unquote_tail s i hi (hc.trans c34)
    unfold litT at hw0
    subst c34
    clear htg hH hL hc
    rcases hul with ⟨er, he, hR, hR2⟩ | ⟨v, n, hR, hR2⟩
    · have HX : Hid (wordT (s.extract i s.size) = .inl (er, 0)) := Lib.hid (by rw [hw0, hR]; exact if_neg he)
      rw [hR2] at hun
      unfold unqV at hun
      have hun := Lib.hid hun
      have he2 : (er != 0) = true := by simpa using he
      clear hw0 hR hR2 he
      go_enter Tryd.func61, Tryd.ntmps61
      go_wp2_with (first
        | (go_at_call 23; (with_reducible refine (hun.out _ (PairsAt.below HH.out (show Below w.heap.size w _ from (rw0 w).bel))).mono ?_); rintro e w2 ⟨rfl, hb2⟩; have HI := Lib.hid ((rw0 w).call hb2); clear hb2)
        | (refine wpList_load_blk rfl _ _ rfl _ rfl _ _ HI.out.nb rowWord ?_)
        | (refine wpList_store_all rfl _ _ _ rfl _ rfl _ rfl _ _ HI.out.blk (by rfl) (by simp [Value.oneCell']) rowWord ?_; intro w9 hw9 K9; have HB9 := Lib.hid (hw9.below HI.out.bel (Nat.le_refl _)); have HK9 := Lib.hid K9; clear hw9 K9))
      all_goals exact bodyPost_ret (results_row4 rfl _ _ _ _ _ rfl HK9.out rowWord) rfl ⟨Or.inl ⟨_, 0, ⟨0, 0, ⟨#[]⟩, 0⟩, _, HX.out, rfl⟩, HB9.out⟩
    · have HX : Hid (wordT (s.extract i s.size) = .inr (⟨3, 0, v, 0⟩, n)) := Lib.hid (by rw [hw0, hR]; exact if_pos rfl)
      rw [hR2] at hun
      unfold unqV at hun
      have hun := Lib.hid hun
      clear hw0 hR hR2
      go_enter Tryd.func61, Tryd.ntmps61
      go_wp2_with (first
        | (go_at_call 23; (with_reducible refine (hun.out _ (PairsAt.below HH.out (show Below w.heap.size w _ from (rw0 w).bel))).mono ?_); rintro e w2 ⟨rfl, hb2⟩; have HI := Lib.hid ((rw0 w).call hb2); clear hb2)
        | (refine wpList_store_all rfl _ _ _ rfl _ rfl _ rfl _ _ HI.out.blk (by rfl) (by simp [Value.oneCell']) rowWord ?_; intro w9 hw9 K9; have HB9 := Lib.hid (hw9.below HI.out.bel (Nat.le_refl _)); have HK9 := Lib.hid K9; clear hw9 K9))
      all_goals exact bodyPost_ret (results_row4 rfl _ _ _ _ _ rfl HK9.out rowWord) rfl ⟨Or.inr ⟨⟨3, 0, v, 0⟩, n, HX.out, rfl⟩, HB9.out⟩
  rw [if_neg c34] at hw0
  have e34 := ne_int (k := 34) c34
  by_cases hsgn : signB c = true
  · rw [if_pos hsgn] at hw0
    have hsg := fun w => refSign_any c w
    rw [hsgn] at hsg
    have HX := Lib.hid hw0
    have HC := Lib.hid (cut_tail s i 1)
    obtain ⟨C, hC⟩ : ∃ C : Int, (c.toNat : Int) = C := ⟨_, rfl⟩
    rw [hC] at hsg e34
    have hsg := Lib.hid hsg
    have z2 : (i : Int) + 1 ≤ (s.size : Int) := by omega
    have z3 : ((i : Int) + 1).toNat = i + 1 := by omega
    have z5 : (i : Int) ≤ (i : Int) + 1 := by omega
    clear hw0 hsgn c34 htg hc hH hL
    go_enter Tryd.func61, Tryd.ntmps61
    go_wp2_with (first
      | (go_at_call 62; (with_reducible refine (hsg.out _).mono ?_); rintro e w2 ⟨rfl, rfl⟩))
    all_goals exact bodyPost_ret (v := wordV ⟨4, i, s.extract i (i + 1), 0⟩ ((i : Int) + 1) 0 0) (by simp [wordV, results, Tryd.results61, go_sem]) rfl ⟨Or.inr ⟨_, 1, HX.out, by rw [HC.out]; rfl⟩, ((Below.refl _ _).alloc (Nat.le_refl _) _).alloc (by simp) _⟩
  rw [if_neg hsgn] at hw0
  by_cases hn : numB (s.extract i s.size) = true
  · rw [if_pos hn] at hw0
    rw [hw0]
    exact refWord_num s i hi hs c hc c34 (by simpa using hsgn) hn w
  · rw [if_neg hn] at hw0
    rw [hw0]
    exact refWord_name s i hi hs c hc c34 (by simpa using hsgn) (by simpa using hn) w hL
end Go.Proofs.YtepmfjhhmnmmeaaDoor
