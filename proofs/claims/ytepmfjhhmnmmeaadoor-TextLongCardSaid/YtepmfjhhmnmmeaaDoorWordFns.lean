/-
  text.blank, digit, other, worth, number walked: what each answers. Conditions: the tables of unicode/utf8 as laid (other).
-/
import Derived.Test.YtepmfjhhmnmmeaaDoorWordsLaw
import Derived.Test.YtepmfjhhmnmmeaaDoorTextFns
import Derived.OwnWalk
namespace Go.Proofs.YtepmfjhhmnmmeaaDoor
open Go.RowKit

theorem blank_any (b : UInt8) (w : World) : Calls Tryd.prog 56 #[.int .u8 (b.toNat : Int)] w fun e w' => e = .returned (.bool (blankB b)) ∧ w' = w := by
  by_cases h : b = 32
  · subst h
    go_enter Tryd.func56, Tryd.ntmps56
    go_wp2
    all_goals go_ret
    all_goals exact ⟨rfl, rfl⟩
  · have e1 : ((b.toNat : Int) == 32) = false := by rw [beq_eq_false_iff_ne]; exact ne_int (k := 32) h
    have hB : Hid (blankB b = ((b.toNat : Int) == 9)) := Lib.hid (by
      unfold blankB
      rw [Bool.eq_iff_iff]
      simp [h]
      constructor
      · rintro rfl
        rfl
      · intro k
        have : b.toNat = 9 := by omega
        rw [← UInt8.ofNat_toNat (x := b), this]
        rfl)
    obtain ⟨C, hC⟩ : ∃ C : Int, (b.toNat : Int) = C := ⟨_, rfl⟩
    rw [hC] at e1 hB ⊢
    clear h hC
    go_enter Tryd.func56, Tryd.ntmps56
    go_wp2
    all_goals go_ret
    all_goals exact ⟨by rw [hB.out]; rfl, rfl⟩
theorem dig_any (b : UInt8) (w : World) : Calls Tryd.prog 72 #[.int .u8 (b.toNat : Int)] w fun e w' => e = .returned (.bool (digB b)) ∧ w' = w := by
  have hB : Hid (digB b = (decide (48 ≤ (b.toNat : Int)) && decide ((b.toNat : Int) ≤ 57))) := Lib.hid (by
    unfold digB
    rw [Bool.eq_iff_iff]
    simp
    omega)
  obtain ⟨C, hC⟩ : ∃ C : Int, (b.toNat : Int) = C := ⟨_, rfl⟩
  rw [hC] at hB ⊢
  clear hC
  by_cases h1 : 48 ≤ C
  · go_enter Tryd.func72, Tryd.ntmps72
    go_wp2
    all_goals go_ret
    all_goals exact ⟨by rw [hB.out, decide_eq_true h1]; simp, rfl⟩
  · go_enter Tryd.func72, Tryd.ntmps72
    go_wp2
    all_goals go_ret
    all_goals exact ⟨by rw [hB.out, decide_eq_false (show ¬ 48 ≤ C by omega)]; simp, rfl⟩
theorem other_any (t : ByteArray) (ht : 0 < t.size) (w : World) (hU : U8 w) :
    Calls Tryd.prog 59 #[.string t] w fun e w' => e = .returned (.int .i64 (otherE t)) ∧ Below w.heap.size w w' := by
  have hd := Tryd.utf8_DecodeRuneInString t w hU
  have hde : Lib.decodeGo t = Utf8.decode t 0 := by
    unfold Lib.decodeGo
    rw [if_neg (by omega)]
  rw [hde] at hd
  unfold otherE strayAt
  obtain ⟨r, hr⟩ : ∃ r, (Utf8.decode t 0).1 = r := ⟨_, rfl⟩
  obtain ⟨n, hn⟩ : ∃ r, (Utf8.decode t 0).2 = r := ⟨_, rfl⟩
  rw [hr, hn] at hd ⊢
  by_cases h1 : r = 65533
  · by_cases h2 : n = 1
    · have hd := Lib.hid hd
      subst h1 h2
      clear hr hn hde
      go_enter Tryd.func59, Tryd.ntmps59
      go_wp2_with (go_at_call 45; (with_reducible refine hd.out.mono ?_); rintro e w2 ⟨rfl, hb2⟩)
      all_goals go_ret
      all_goals exact ⟨rfl, hb2⟩
    · have hE : Hid ((if (r == 65533 && n == 1) = true then (21 : Int) else 22) = 22) := Lib.hid (if_neg (by simp [h2]))
      have e2 : ((n : Int) == 1) = false := by rw [beq_eq_false_iff_ne]; omega
      obtain ⟨N, hN⟩ : ∃ N : Int, (n : Int) = N := ⟨_, rfl⟩
      rw [hN] at hd e2
      have hd := Lib.hid hd
      rw [hE.out]
      subst h1
      clear hr hn hde h2 hN hE
      go_enter Tryd.func59, Tryd.ntmps59
      go_wp2_with (go_at_call 45; (with_reducible refine hd.out.mono ?_); rintro e w2 ⟨rfl, hb2⟩)
      all_goals go_ret
      all_goals exact ⟨rfl, hb2⟩
  · have hE : Hid ((if (r == 65533 && n == 1) = true then (21 : Int) else 22) = 22) := Lib.hid (if_neg (by simp [h1]))
    obtain ⟨R, hR⟩ : ∃ R : Int, (r : Int) = R := ⟨_, rfl⟩
    have e1 : (R == 65533) = false := by rw [beq_eq_false_iff_ne]; omega
    rw [hR] at hd
    have hd := Lib.hid hd
    rw [hE.out]
    clear hr hn hde h1 hR hE
    go_enter Tryd.func59, Tryd.ntmps59
    go_wp2_with (go_at_call 45; (with_reducible refine hd.out.mono ?_); rintro e w2 ⟨rfl, hb2⟩)
    all_goals go_ret
    all_goals exact ⟨rfl, hb2⟩
theorem low_of (c : Nat) (h : c < 10) : ((-9223372036854775808 : Int) + (c : Int)).tdiv 10 * 10 ≥ -9223372036854775808 + (c : Int) ∧ ((-9223372036854775808 : Int) + (c : Int)).tdiv 10 ≤ 0 := by
  have k : ∀ c : Fin 10, ((-9223372036854775808 : Int) + (c.val : Int)).tdiv 10 * 10 ≥ -9223372036854775808 + (c.val : Int) ∧ ((-9223372036854775808 : Int) + (c.val : Int)).tdiv 10 ≤ 0 := by decide +kernel
  exact k ⟨c, h⟩
theorem dig_low {b : UInt8} (h : digB b = true) : 48 ≤ b.toNat ∧ b.toNat ≤ 57 := by
  unfold digB at h
  simpa using h
/-- How far the worth of digits is reckoned. -/
structure FoldAt (l : List UInt8) (k : Nat) (v : Int) : Prop where
  low : -9223372036854775808 ≤ v
  top : v ≤ 0
  is_ : foldD l 0 = foldD (l.drop k) v
theorem fold_start (l : List UInt8) : FoldAt l 0 0 := ⟨by decide, by decide, rfl⟩
theorem fold_next {d : ByteArray} {k : Nat} {v : Int} (h : FoldAt d.data.toList k v) (hk : k < d.size) (hd : digB (d.get! k) = true) (hv : ¬ v < (-9223372036854775808 + (((d.get! k).toNat : Int) - 48)).tdiv 10) :
    FoldAt d.data.toList (k + 1) (v * 10 - (((d.get! k).toNat : Int) - 48)) := by
  obtain ⟨d1, d2⟩ := dig_low hd
  obtain ⟨l1, l2⟩ := low_of ((d.get! k).toNat - 48) (by omega)
  rw [show ((((d.get! k).toNat - 48 : Nat) : Int)) = ((d.get! k).toNat : Int) - 48 by omega] at l1 l2
  have h1 := h.low
  have h2 := h.top
  refine ⟨by omega, by omega, ?_⟩
  have hl : k < d.data.toList.length := hk
  have e : d.data.toList.drop k = d.get! k :: d.data.toList.drop (k + 1) := by
    rw [List.drop_eq_getElem_cons hl, ← get_at' hk]
    rfl
  rw [h.is_, e]
  show (if v < _ then _ else _) = _
  rw [if_neg hv]
theorem fold_stop {d : ByteArray} {k : Nat} {v : Int} (h : FoldAt d.data.toList k v) (hk : k < d.size) (hv : v < (-9223372036854775808 + (((d.get! k).toNat : Int) - 48)).tdiv 10) : foldD d.data.toList 0 = none := by
  have hl : k < d.data.toList.length := hk
  have e : d.data.toList.drop k = d.get! k :: d.data.toList.drop (k + 1) := by
    rw [List.drop_eq_getElem_cons hl, ← get_at' hk]
    rfl
  rw [h.is_, e]
  show (if v < _ then _ else _) = _
  rw [if_pos hv]
theorem fold_done {d : ByteArray} {k : Nat} {v : Int} (h : FoldAt d.data.toList k v) (hk : ¬ k < d.size) : foldD d.data.toList 0 = some v := by
  rw [h.is_, List.drop_eq_nil_of_le (by rw [dlen]; omega)]
  rfl
end Go.Proofs.YtepmfjhhmnmmeaaDoor
