/-
  What the two tables of letters answer: text.Letter and the reference's Letter at any number. Conditions: the two tables' variables hold their initialisers' numbers.
-/
import Derived.Test.YtepmfjhhmnmmeaaDoorBase
namespace Go.Proofs.YtepmfjhhmnmmeaaDoor
open Go.RowKit

def inB (r lo hi : Int) : Bool := decide (lo ≤ r) && decide (r ≤ hi)
def letTab : List (Int × Int) :=
  [(65, 90), (97, 122), (192, 214), (216, 246), (248, 383), (913, 929), (931, 937), (940, 974), (1024, 1119), (1329, 1366), (1488, 1514), (1569, 1594), (1601, 1610), (2308, 2361), (3585, 3632), (4304, 4346), (12353, 12438), (12449, 12538), (19968, 40959), (44032, 55203), (66560, 66639), (131072, 173791)]
def letterB (r : Int) : Bool := letTab.any fun p => inB r p.1 p.2
theorem letTab_length : letTab.length = 22 := rfl

theorem from_any (r lo hi : Int) (w : World) :
    Calls Tryd.prog 37 #[.int .i32 r, .int .i32 lo, .int .i32 hi] w fun e w' => e = .returned (.bool (inB r lo hi)) ∧ w' = w := by
  unfold inB
  by_cases h : lo ≤ r
  · have h1 : decide (lo ≤ r) = true := decide_eq_true h
    rw [h1]
    go_enter Tryd.func37, Tryd.ntmps37
    go_wp2
    go_ret
    exact ⟨by simp, rfl⟩
  · have h1 : decide (lo ≤ r) = false := decide_eq_false h
    rw [h1]
    go_enter Tryd.func37, Tryd.ntmps37
    go_wp2
    go_ret
    exact ⟨by simp, rfl⟩

theorem from_yes {r lo hi : Int} (h : inB r lo hi = true) (w : World) : Calls Tryd.prog 37 #[.int .i32 r, .int .i32 lo, .int .i32 hi] w fun e w' => e = .returned (.bool true) ∧ w' = w := by rw [← h]; exact from_any r lo hi w
theorem from_no {r lo hi : Int} (h : inB r lo hi = false) (w : World) : Calls Tryd.prog 37 #[.int .i32 r, .int .i32 lo, .int .i32 hi] w fun e w' => e = .returned (.bool false) ∧ w' = w := by rw [← h]; exact from_any r lo hi w

theorem within_any (r lo hi : Int) (w : World) :
    Calls Tryd.prog 38 #[.int .i64 r, .int .i64 lo, .int .i64 hi] w fun e w' => e = .returned (.bool (inB r lo hi)) ∧ w' = w := by
  unfold inB
  by_cases h : lo ≤ r
  · have h1 : decide (lo ≤ r) = true := decide_eq_true h
    rw [h1]
    go_enter Tryd.func38, Tryd.ntmps38
    go_wp2
    go_ret
    exact ⟨by simp, rfl⟩
  · have h1 : decide (lo ≤ r) = false := decide_eq_false h
    rw [h1]
    go_enter Tryd.func38, Tryd.ntmps38
    go_wp2
    go_ret
    exact ⟨by simp, rfl⟩

theorem within_yes {r lo hi : Int} (h : inB r lo hi = true) (w : World) : Calls Tryd.prog 38 #[.int .i64 r, .int .i64 lo, .int .i64 hi] w fun e w' => e = .returned (.bool true) ∧ w' = w := by rw [← h]; exact within_any r lo hi w
theorem within_no {r lo hi : Int} (h : inB r lo hi = false) (w : World) : Calls Tryd.prog 38 #[.int .i64 r, .int .i64 lo, .int .i64 hi] w fun e w' => e = .returned (.bool false) ∧ w' = w := by rw [← h]; exact within_any r lo hi w

set_option maxHeartbeats 1000000 in
theorem letter_any (r : Int) (w : World) (ht : PairsAt .i32 0 letTab w) :
    Calls Tryd.prog 13 #[.int .i32 r] w fun e w' => e = .returned (.bool (letterB r)) ∧ Drawn w w' := by
  have HT := Lib.hid ht
  clear ht
  go_enter Tryd.func13, Tryd.ntmps13
  go_wp2
  go_loopw [4] (fun i wr => ∃ k : Nat, k ≤ 22 ∧ i = .int .i64 k ∧ Drawn w wr ∧ Hid ((letTab.take k).any (fun p => inB r p.1 p.2) = false)) (fun i _ => 22 - (intOf i).toNat)
  case atStart => exact ⟨0, by omega, rfl, Drawn.refl _, Lib.hid (by simp)⟩
  case round =>
    obtain ⟨k, hk, rfl, HD, HN⟩ := hrel
    by_cases hlt : k < 22
    · obtain ⟨lo, hlo⟩ : ∃ x, x = (letTab.getD k (0, 0)).1 := ⟨_, rfl⟩
      obtain ⟨hi, hhi⟩ : ∃ x, x = (letTab.getD k (0, 0)).2 := ⟨_, rfl⟩
      have hp := (HT.out.drawn HD) k hlt
      rw [← hlo, ← hhi] at hp
      have h1 := hp.1
      have h2 := hp.2
      clear hp
      have ha := any_take letTab (fun p => inB r p.1 p.2) (0, 0) k (by rw [letTab_length]; exact hlt)
      have hat := any_at letTab (fun p => inB r p.1 p.2) (0, 0) k (by rw [letTab_length]; exact hlt)
      simp only [← hlo, ← hhi] at ha hat
      rw [HN.out, Bool.false_or] at ha
      have Ha := Lib.hid ha
      have Hat := Lib.hid hat
      clear ha hat hlo hhi
      cases hb : inB r lo hi with
      | true =>
        go_wp2
        go_quiet ((go_at_call 37; exact Calls.quiet_of_same (from_yes hb _)))
        go_wp2
        go_ret
        exact ⟨by unfold letterB; rw [Hat.out hb]; rfl, HD.step _⟩
      | false =>
        go_wp2
        go_quiet ((go_at_call 37; exact Calls.quiet_of_same (from_no hb _)))
        go_wp2
        go_roundw
        case rel => exact ⟨k + 1, by omega, by go_num, HD.step _, Lib.hid (Ha.out.trans hb)⟩
        case measure => simp [intOf]; omega
    · have e : k = 22 := by omega
      have hn := HN.out
      rw [List.take_of_length_le (by rw [letTab_length]; omega)] at hn
      have HN' := Lib.hid hn
      clear hn HN e
      go_wp2
      go_ret
      exact ⟨by unfold letterB; rw [HN'.out]; rfl, HD⟩

set_option maxHeartbeats 1000000 in
theorem refLetter_any (r : Int) (w : World) (ht : PairsAt .i64 1 letTab w) :
    Calls Tryd.prog 14 #[.int .i64 r] w fun e w' => e = .returned (.bool (letterB r)) ∧ Drawn w w' := by
  have HT := Lib.hid ht
  clear ht
  go_enter Tryd.func14, Tryd.ntmps14
  go_wp2
  go_loopw [3] (fun i wr => ∃ k : Nat, k ≤ 22 ∧ i = .int .i64 k ∧ Drawn w wr ∧ Hid ((letTab.take k).any (fun p => inB r p.1 p.2) = false)) (fun i _ => 22 - (intOf i).toNat)
  case atStart => exact ⟨0, by omega, rfl, Drawn.refl _, Lib.hid (by simp)⟩
  case round =>
    obtain ⟨k, hk, rfl, HD, HN⟩ := hrel
    by_cases hlt : k < 22
    · obtain ⟨lo, hlo⟩ : ∃ x, x = (letTab.getD k (0, 0)).1 := ⟨_, rfl⟩
      obtain ⟨hi, hhi⟩ : ∃ x, x = (letTab.getD k (0, 0)).2 := ⟨_, rfl⟩
      have hp := (HT.out.drawn HD) k hlt
      rw [← hlo, ← hhi] at hp
      have h1 := hp.1
      have h2 := hp.2
      clear hp
      have ha := any_take letTab (fun p => inB r p.1 p.2) (0, 0) k (by rw [letTab_length]; exact hlt)
      have hat := any_at letTab (fun p => inB r p.1 p.2) (0, 0) k (by rw [letTab_length]; exact hlt)
      simp only [← hlo, ← hhi] at ha hat
      rw [HN.out, Bool.false_or] at ha
      have Ha := Lib.hid ha
      have Hat := Lib.hid hat
      clear ha hat hlo hhi
      cases hb : inB r lo hi with
      | true =>
        go_wp2
        go_quiet ((go_at_call 38; exact Calls.quiet_of_same (within_yes hb _)))
        go_wp2
        go_ret
        exact ⟨by unfold letterB; rw [Hat.out hb]; rfl, HD.step _⟩
      | false =>
        go_wp2
        go_quiet ((go_at_call 38; exact Calls.quiet_of_same (within_no hb _)))
        go_wp2
        go_roundw
        case rel => exact ⟨k + 1, by omega, by go_num, HD.step _, Lib.hid (Ha.out.trans hb)⟩
        case measure => simp [intOf]; omega
    · have e : k = 22 := by omega
      have hn := HN.out
      rw [List.take_of_length_le (by rw [letTab_length]; omega)] at hn
      have HN' := Lib.hid hn
      clear hn HN e
      go_wp2
      go_ret
      exact ⟨by unfold letterB; rw [HN'.out]; rfl, HD⟩
end Go.Proofs.YtepmfjhhmnmmeaaDoor
