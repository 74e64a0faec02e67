/-
  text.number walked: a number as a word. Conditions: a digit stands there, or a sign and a digit.
-/
import Derived.Test.YtepmfjhhmnmmeaaDoorWorth
namespace Go.Proofs.YtepmfjhhmnmmeaaDoor
open Go.RowKit

/-- What a word's reading answers. -/
def wordV (d : WordD) (n e p : Int) : Value := .tuple #[.agg #[.int .i64 d.kind, .int .i64 d.at_, .string d.text, .int .i64 d.num], .int .i64 n, .int .i64 e, .int .i64 p]
def WordAns (x : Sum (Int × Nat) (WordD × Nat)) (e : Ending) : Prop :=
  (∃ er p d z, x = .inl (er, p) ∧ e = .returned (wordV d z er p)) ∨ (∃ d n, x = .inr (d, n) ∧ e = .returned (wordV d n 0 0))
theorem cut_get (t : ByteArray) (p k : Nat) (h : k < p) (hp : p ≤ t.size) : (t.extract 0 p).get! k = t.get! k := by
  have h2 : k < (t.extract 0 p).size := by rw [ByteArray.size_extract]; omega
  rw [← get_at' h2, ← get_at' (show k < t.size by omega)]
  simp [ByteArray.getElem_extract]
theorem whole_cut (t : ByteArray) : t.extract 0 t.size = t := by
  apply ByteArray.ext
  apply Array.toList_inj.1
  rw [part_extract]
  unfold partL
  rw [List.drop_zero]
  exact List.take_of_length_le (by rw [dlen]; omega)
theorem cut_list (t : ByteArray) (p : Nat) : (t.extract 0 p).data.toList = t.data.toList.take p := by
  rw [part_extract]
  unfold partL
  rw [List.drop_zero, Nat.sub_zero]
theorem worthT_any (T : ByteArray) (h0 : 0 < T.size) (hs : T.size ≤ 4611686018427387904) (hm : T.get! 0 = 45 → 1 < T.size) (hd : T.get! 0 ≠ 45 → digB (T.get! 0) = true) (hall : ∀ k, 1 ≤ k → k < T.size → digB (T.get! k) = true) (w : World) :
    Calls Tryd.prog 83 #[.string T] w fun e w' => WorthAns (worthL T.data.toList) e ∧ w' = w := by
  unfold worthL
  rw [headD_get h0]
  by_cases h : T.get! 0 = 45
  · rw [if_pos h, show T.data.toList.tail = (T.extract 1 T.size).data.toList by rw [tail_bytes, List.drop_one]]
    exact worth_minus T (hm h) h hs hall w
  · rw [if_neg h]
    exact worth_plus T h0 h hs (fun k hk => by
      by_cases k0 : k = 0
      · rw [k0]; exact hd h
      · exact hall k (by omega) hk) w
theorem WorthAns.some_ {v : Int} {e : Ending} (h : WorthAns (some v) e) : e = .returned (.tuple #[.int .i64 v, .bool true]) := by
  rcases h with ⟨v', h1, h2⟩ | ⟨h1, _⟩
  · cases h1
    exact h2
  · cases h1
theorem WorthAns.none_ {e : Ending} (h : WorthAns none e) : ∃ x, e = .returned (.tuple #[.int .i64 x, .bool false]) := by
  rcases h with ⟨v', h1, _⟩ | ⟨_, h2⟩
  · cases h1
  · exact h2
set_option maxHeartbeats 4000000 in
set_option maxRecDepth 100000 in
theorem number_any (t : ByteArray) (h0 : 0 < t.size) (hn : numB t = true) (hs : t.size ≤ 4611686018427387904) (w : World) :
    Calls Tryd.prog 73 #[.string t] w fun e w' => WordAns (numberT t) e ∧ Below w.heap.size w w' := by
  have HNB := Lib.hid hn
  have hdg := Lib.hid (fun b w => dig_any b w)
  clear hn
  go_enter Tryd.func73, Tryd.ntmps73
  go_wp2
  go_loop [6] (fun x => ∃ p : Nat, x = .int .i64 p ∧ 1 ≤ p ∧ p ≤ t.size ∧ Hid (RunTo t p ∧ ∀ k, 1 ≤ k → k < p → digB (t.get! k) = true)) (fun x => t.size - (intOf x).toNat)
  case atStart => exact ⟨1, rfl, by omega, by omega, Lib.hid ⟨rfl, fun k h1 h2 => by omega⟩⟩
  case round =>
    obtain ⟨p, rfl, hp1, hp, HR⟩ := hrel
    by_cases hgo : p < t.size ∧ digB (t.get! p) = true
    · obtain ⟨hlt, hd⟩ := hgo
      have hg := get_at' (s := t) (p := p) hlt
      have hdp := fun w => dig_any (t.get! p) w
      rw [hd] at hdp
      have HR2 : Hid (RunTo t (p + 1) ∧ ∀ k, 1 ≤ k → k < p + 1 → digB (t.get! k) = true) := Lib.hid ⟨HR.out.1.next hlt hd, fun k h1 h2 => by
        by_cases e : k = p
        · rw [e]; exact hd
        · exact HR.out.2 k h1 (by omega)⟩
      obtain ⟨c, hc⟩ : ∃ c, t.get! p = c := ⟨_, rfl⟩
      rw [hc] at hg hdp
      have hdp := Lib.hid hdp
      clear hd hc HR
      go_wp2_with (go_at_call 72; (with_reducible refine (hdp.out _).mono ?_); rintro e w2 ⟨rfl, rfl⟩)
      all_goals go_round
      case rel => exact ⟨p + 1, by go_num, by omega, by omega, HR2⟩
      case measure => simp [intOf]; omega
    · have hstop := HR.out.1.stop hgo
      have hmore : t.get! 0 = 45 → 1 < p := fun h => by
        have hb := HNB.out
        unfold numB at hb
        rw [h] at hb
        simp [show digB 45 = false from by decide] at hb
        by_cases e : p = 1
        · subst e
          exact absurd ⟨hb.1, hb.2⟩ hgo
        · omega
      have hfirst : t.get! 0 ≠ 45 → digB (t.get! 0) = true := fun h => by
        have hb := HNB.out
        unfold numB at hb
        simp [h] at hb
        exact hb
      have hTs : (t.extract 0 p).size = p := by rw [ByteArray.size_extract]; omega
      have hw := fun w => worthT_any (t.extract 0 p) (by omega) (by omega) (by rw [cut_get t p 0 (by omega) hp, hTs]; exact hmore) (by rw [cut_get t p 0 (by omega) hp]; exact hfirst) (fun k h1 h2 => by
        rw [cut_get t p k (by omega) hp]
        exact HR.out.2 k h1 (by omega)) w
      rw [cut_list] at hw
      have HNT : Hid (numberT t = match worthL (t.data.toList.take p) with | none => .inl (29, 0) | some v => .inr (⟨2, 0, t.extract 0 p, v⟩, p)) := Lib.hid (by
        unfold numberT
        rw [hstop]
        cases worthL (t.data.toList.take p) <;> rfl)
      have x1 : (p : Int) ≤ (t.size : Int) := by omega
      have x2 : (0 : Int) ≤ (p : Int) := by omega
      clear hmore hfirst hTs hstop HR
      cases ho : worthL (t.data.toList.take p) with
      | none =>
        rw [ho] at hw
        have HW := Lib.hid (fun w => (hw w).mono fun e w' ⟨h, hb⟩ => (⟨h.none_, hb⟩ : (∃ x, e = Ending.returned (.tuple #[.int .i64 x, .bool false])) ∧ w' = w))
        have HV := Lib.hid (HNT.out.trans (by rw [ho]))
        clear hw ho HNT
        by_cases hlt : p < t.size
        · have hd : digB (t.get! p) = false := by
            cases hd : digB (t.get! p) with
            | true => exact absurd ⟨hlt, hd⟩ hgo
            | false => rfl
          have hg := get_at' (s := t) (p := p) hlt
          have hdp := fun w => dig_any (t.get! p) w
          rw [hd] at hdp
          obtain ⟨c, hc⟩ : ∃ c, t.get! p = c := ⟨_, rfl⟩
          rw [hc] at hg hdp
          have hdp := Lib.hid hdp
          clear hd hc hgo
          go_wp2_with (first
            | (go_at_call 72; (with_reducible refine (hdp.out _).mono ?_); rintro e w2 ⟨rfl, rfl⟩)
            | (go_at_call 83; (with_reducible refine (HW.out _).mono ?_); rintro e w2 ⟨⟨x, rfl⟩, rfl⟩))
          all_goals exact bodyPost_ret (v := wordV ⟨0, 0, ⟨#[]⟩, 0⟩ 0 29 0) (by simp [wordV, results, Tryd.results73, go_sem]) rfl ⟨Or.inl ⟨_, _, _, _, HV.out, rfl⟩, (Below.refl _ _).alloc (Nat.le_refl _) _⟩
        · obtain rfl : p = t.size := by omega
          have hW2 := HW.out
          have hV2 := HV.out
          rw [whole_cut] at hW2
          try rw [whole_cut] at hV2
          have HW2 := Lib.hid hW2
          have HV2 := Lib.hid hV2
          clear hgo hW2 hV2 HW HV
          go_wp2_with (go_at_call 83; (with_reducible refine (HW2.out _).mono ?_); rintro e w2 ⟨⟨x, rfl⟩, rfl⟩)
          all_goals exact bodyPost_ret (v := wordV ⟨0, 0, ⟨#[]⟩, 0⟩ 0 29 0) (by simp [wordV, results, Tryd.results73, go_sem]) rfl ⟨Or.inl ⟨_, _, _, _, HV2.out, rfl⟩, (Below.refl _ _).alloc (Nat.le_refl _) _⟩
      | some v =>
        rw [ho] at hw
        have HW := Lib.hid (fun w => (hw w).mono fun e w' ⟨h, hb⟩ => (⟨h.some_, hb⟩ : e = Ending.returned (.tuple #[.int .i64 v, .bool true]) ∧ w' = w))
        have HV := Lib.hid (HNT.out.trans (by rw [ho]))
        clear hw ho HNT
        by_cases hlt : p < t.size
        · have hd : digB (t.get! p) = false := by
            cases hd : digB (t.get! p) with
            | true => exact absurd ⟨hlt, hd⟩ hgo
            | false => rfl
          have hg := get_at' (s := t) (p := p) hlt
          have hdp := fun w => dig_any (t.get! p) w
          rw [hd] at hdp
          obtain ⟨c, hc⟩ : ∃ c, t.get! p = c := ⟨_, rfl⟩
          rw [hc] at hg hdp
          have hdp := Lib.hid hdp
          clear hd hc hgo
          go_wp2_with (first
            | (go_at_call 72; (with_reducible refine (hdp.out _).mono ?_); rintro e w2 ⟨rfl, rfl⟩)
            | (go_at_call 83; (with_reducible refine (HW.out _).mono ?_); rintro e w2 ⟨rfl, rfl⟩))
          all_goals exact bodyPost_ret (v := wordV ⟨2, 0, t.extract 0 p, v⟩ p 0 0) (by simp [wordV, results, Tryd.results73, go_sem]) rfl ⟨Or.inr ⟨_, _, HV.out, rfl⟩, (Below.refl _ _).alloc (Nat.le_refl _) _⟩
        · obtain rfl : p = t.size := by omega
          have hW2 := HW.out
          have hV2 := HV.out
          rw [whole_cut] at hW2
          try rw [whole_cut] at hV2
          have HW2 := Lib.hid hW2
          have HV2 := Lib.hid hV2
          clear hgo hW2 hV2 HW HV
          go_wp2_with (go_at_call 83; (with_reducible refine (HW2.out _).mono ?_); rintro e w2 ⟨rfl, rfl⟩)
          all_goals exact bodyPost_ret (v := wordV ⟨2, 0, t, v⟩ t.size 0 0) (by simp [wordV, results, Tryd.results73, go_sem]) rfl ⟨Or.inr ⟨_, _, HV2.out, rfl⟩, (Below.refl _ _).alloc (Nat.le_refl _) _⟩
end Go.Proofs.YtepmfjhhmnmmeaaDoor
