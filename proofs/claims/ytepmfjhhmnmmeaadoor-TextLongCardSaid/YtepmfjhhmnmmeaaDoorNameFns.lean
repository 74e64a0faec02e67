/-
  text.inName, annalsref2.nameRune, text.Name and annalsref2.Name walked: one answer of any text. Conditions: the tables of letters and of unicode/utf8 as laid.
-/
import Derived.Test.YtepmfjhhmnmmeaaDoorRefText
namespace Go.Proofs.YtepmfjhhmnmmeaaDoor
open Go.RowKit

def inNameB (r : Int) : Bool := (decide (48 ≤ r) && decide (r ≤ 57)) || r == 45 || r == 95 || r == 46 || letterB r
theorem inNameB_of (r : Int) (h1 : ¬ (48 ≤ r ∧ r ≤ 57)) (h2 : r ≠ 45) (h3 : r ≠ 95) (h4 : r ≠ 46) : inNameB r = letterB r := by
  unfold inNameB
  have e1 : (decide (48 ≤ r) && decide (r ≤ 57)) = false := by
    rw [Bool.eq_false_iff]; simp; omega
  have e2 : (r == 45) = false := by simp [h2]
  have e3 : (r == 95) = false := by simp [h3]
  have e4 : (r == 46) = false := by simp [h4]
  rw [e1, e2, e3, e4]
  simp

abbrev LT (w : World) : Prop := PairsAt .i32 0 letTab w
abbrev LR (w : World) : Prop := PairsAt .i64 1 letTab w

set_option maxHeartbeats 1000000 in
theorem inName_any (r : Int) (w : World) (ht : LT w) :
    Calls Tryd.prog 40 #[.int .i32 r] w fun e w' => e = .returned (.bool (inNameB r)) ∧ Drawn w w' := by
  have hl := Lib.hid (letter_any r w ht)
  by_cases h1 : 48 ≤ r ∧ r ≤ 57
  · have e : inNameB r = true := by unfold inNameB; simp [h1]
    rw [e]
    obtain ⟨h1, h2⟩ := h1
    go_enter Tryd.func40, Tryd.ntmps40
    go_wp2
    all_goals go_ret
    all_goals exact ⟨rfl, Drawn.refl _⟩
  by_cases h2 : r = 45
  · subst h2
    go_enter Tryd.func40, Tryd.ntmps40
    go_wp2
    all_goals go_ret
    all_goals exact ⟨rfl, Drawn.refl _⟩
  by_cases h3 : r = 95
  · subst h3
    go_enter Tryd.func40, Tryd.ntmps40
    go_wp2
    all_goals go_ret
    all_goals exact ⟨rfl, Drawn.refl _⟩
  by_cases h4 : r = 46
  · subst h4
    go_enter Tryd.func40, Tryd.ntmps40
    go_wp2
    all_goals go_ret
    all_goals exact ⟨rfl, Drawn.refl _⟩
  rw [inNameB_of r h1 h2 h3 h4]
  have k2 : (r == 45) = false := by simp [h2]
  have k3 : (r == 95) = false := by simp [h3]
  have k4 : (r == 46) = false := by simp [h4]
  by_cases h5 : 48 ≤ r
  · have h6 : ¬ r ≤ 57 := by omega
    go_enter Tryd.func40, Tryd.ntmps40
    go_wp2_with (go_at_call 13; (with_reducible refine hl.out.mono ?_); rintro e w2 ⟨rfl, hd⟩)
    all_goals go_ret
    all_goals exact ⟨rfl, hd⟩
  · go_enter Tryd.func40, Tryd.ntmps40
    go_wp2_with (go_at_call 13; (with_reducible refine hl.out.mono ?_); rintro e w2 ⟨rfl, hd⟩)
    all_goals go_ret
    all_goals exact ⟨rfl, hd⟩

set_option maxHeartbeats 1000000 in
theorem nameRune_any (r : Int) (w : World) (ht : LR w) :
    Calls Tryd.prog 42 #[.int .i64 r] w fun e w' => e = .returned (.bool (inNameB r)) ∧ Drawn w w' := by
  have hl := Lib.hid (refLetter_any r w ht)
  cases hL : letterB r with
  | true =>
    rw [hL] at hl
    have e : inNameB r = true := by unfold inNameB; simp [hL]
    rw [e]
    clear hL e
    go_enter Tryd.func42, Tryd.ntmps42
    go_wp2_with (go_at_call 14; (with_reducible refine hl.out.mono ?_); rintro e w2 ⟨rfl, hd⟩)
    all_goals go_ret
    all_goals exact ⟨rfl, hd⟩
  | false =>
    rw [hL] at hl
    have e : inNameB r = (inB r 48 57 || (r == 45 || (r == 95 || r == 46))) := by
      unfold inNameB inB; rw [hL]; simp [Bool.or_assoc]
    rw [e]
    clear hL e
    cases h1 : inB r 48 57 with
    | true =>
      go_enter Tryd.func42, Tryd.ntmps42
      go_wp2_with (first | (go_at_call 14; (with_reducible refine hl.out.mono ?_); rintro e w2 ⟨rfl, hd⟩) | (go_at_call 38; (with_reducible refine (within_yes h1 _).mono ?_); rintro e w3 ⟨rfl, rfl⟩))
      all_goals go_ret
      all_goals exact ⟨rfl, hd⟩
    | false =>
      by_cases h2 : r = 45
      · subst h2
        go_enter Tryd.func42, Tryd.ntmps42
        go_wp2_with (first | (go_at_call 14; (with_reducible refine hl.out.mono ?_); rintro e w2 ⟨rfl, hd⟩) | (go_at_call 38; (with_reducible refine (within_no h1 _).mono ?_); rintro e w3 ⟨rfl, rfl⟩))
        all_goals go_ret
        all_goals exact ⟨rfl, hd⟩
      by_cases h3 : r = 95
      · subst h3
        go_enter Tryd.func42, Tryd.ntmps42
        go_wp2_with (first | (go_at_call 14; (with_reducible refine hl.out.mono ?_); rintro e w2 ⟨rfl, hd⟩) | (go_at_call 38; (with_reducible refine (within_no h1 _).mono ?_); rintro e w3 ⟨rfl, rfl⟩))
        all_goals go_ret
        all_goals exact ⟨rfl, hd⟩
      by_cases h4 : r = 46
      · subst h4
        go_enter Tryd.func42, Tryd.ntmps42
        go_wp2_with (first | (go_at_call 14; (with_reducible refine hl.out.mono ?_); rintro e w2 ⟨rfl, hd⟩) | (go_at_call 38; (with_reducible refine (within_no h1 _).mono ?_); rintro e w3 ⟨rfl, rfl⟩))
        all_goals go_ret
        all_goals exact ⟨rfl, hd⟩
      have k2 : (r == 45) = false := by simp [h2]
      have k3 : (r == 95) = false := by simp [h3]
      have k4 : (r == 46) = false := by simp [h4]
      rw [k2, k3, k4]
      go_enter Tryd.func42, Tryd.ntmps42
      go_wp2_with (first | (go_at_call 14; (with_reducible refine hl.out.mono ?_); rintro e w2 ⟨rfl, hd⟩) | (go_at_call 38; (with_reducible refine (within_no h1 _).mono ?_); rintro e w3 ⟨rfl, rfl⟩))
      all_goals go_ret
      all_goals exact ⟨rfl, hd⟩

end Go.Proofs.YtepmfjhhmnmmeaaDoor
