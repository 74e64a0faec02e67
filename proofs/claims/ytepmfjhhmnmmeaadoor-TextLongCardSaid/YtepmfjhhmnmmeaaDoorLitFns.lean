/-
  text.hidden, text.escapedByte walked: what each answers. Conditions: none.
-/
import Derived.Test.YtepmfjhhmnmmeaaDoorLetters
import Derived.Test.YtepmfjhhmnmmeaaDoorLitLaw
namespace Go.Proofs.YtepmfjhhmnmmeaaDoor
open Go.RowKit

def hiddenI (r : Int) : Bool := inB r 128 159 || decide (r = 173) || inB r 8203 8207 || inB r 8232 8238 || inB r 8288 8292 || decide (r = 65279) || inB r 65529 65531 || inB r 917505 917631
theorem hiddenI_nat (r : Nat) : hiddenI r = hiddenB r := by
  unfold hiddenI hiddenB inB
  rw [Bool.eq_iff_iff]
  simp
  omega
set_option maxHeartbeats 1000000 in
theorem hidden_any (r : Int) (w : World) :
    Calls Tryd.prog 46 #[.int .i32 r] w fun e w' => e = .returned (.bool (hiddenI r)) ∧ w' = w := by
  unfold hiddenI
  cases h0 : inB r 128 159 with
  | true =>
    go_enter Tryd.func46, Tryd.ntmps46
    go_wp2_with (first | (go_at_call 37; (refine (from_no (by assumption) _).mono ?_); rintro e w2 ⟨rfl, rfl⟩) | (go_at_call 37; (refine (from_yes (by assumption) _).mono ?_); rintro e w2 ⟨rfl, rfl⟩))
    go_ret
    exact ⟨by simp [*], rfl⟩
  | false =>
    by_cases h1 : r = 173
    · subst h1
      go_enter Tryd.func46, Tryd.ntmps46
      go_wp2_with (first | (go_at_call 37; (refine (from_no (by assumption) _).mono ?_); rintro e w2 ⟨rfl, rfl⟩) | (go_at_call 37; (refine (from_yes (by assumption) _).mono ?_); rintro e w2 ⟨rfl, rfl⟩))
      go_ret
      exact ⟨by simp [*], rfl⟩
    ·
      cases h2 : inB r 8203 8207 with
      | true =>
        go_enter Tryd.func46, Tryd.ntmps46
        go_wp2_with (first | (go_at_call 37; (refine (from_no (by assumption) _).mono ?_); rintro e w2 ⟨rfl, rfl⟩) | (go_at_call 37; (refine (from_yes (by assumption) _).mono ?_); rintro e w2 ⟨rfl, rfl⟩))
        go_ret
        exact ⟨by simp [*], rfl⟩
      | false =>
        cases h3 : inB r 8232 8238 with
        | true =>
          go_enter Tryd.func46, Tryd.ntmps46
          go_wp2_with (first | (go_at_call 37; (refine (from_no (by assumption) _).mono ?_); rintro e w2 ⟨rfl, rfl⟩) | (go_at_call 37; (refine (from_yes (by assumption) _).mono ?_); rintro e w2 ⟨rfl, rfl⟩))
          go_ret
          exact ⟨by simp [*], rfl⟩
        | false =>
          cases h4 : inB r 8288 8292 with
          | true =>
            go_enter Tryd.func46, Tryd.ntmps46
            go_wp2_with (first | (go_at_call 37; (refine (from_no (by assumption) _).mono ?_); rintro e w2 ⟨rfl, rfl⟩) | (go_at_call 37; (refine (from_yes (by assumption) _).mono ?_); rintro e w2 ⟨rfl, rfl⟩))
            go_ret
            exact ⟨by simp [*], rfl⟩
          | false =>
            by_cases h5 : r = 65279
            · subst h5
              go_enter Tryd.func46, Tryd.ntmps46
              go_wp2_with (first | (go_at_call 37; (refine (from_no (by assumption) _).mono ?_); rintro e w2 ⟨rfl, rfl⟩) | (go_at_call 37; (refine (from_yes (by assumption) _).mono ?_); rintro e w2 ⟨rfl, rfl⟩))
              go_ret
              exact ⟨by simp [*], rfl⟩
            ·
              cases h6 : inB r 65529 65531 with
              | true =>
                go_enter Tryd.func46, Tryd.ntmps46
                go_wp2_with (first | (go_at_call 37; (refine (from_no (by assumption) _).mono ?_); rintro e w2 ⟨rfl, rfl⟩) | (go_at_call 37; (refine (from_yes (by assumption) _).mono ?_); rintro e w2 ⟨rfl, rfl⟩))
                go_ret
                exact ⟨by simp [*], rfl⟩
              | false =>
                cases h7 : inB r 917505 917631 with
                | true =>
                  go_enter Tryd.func46, Tryd.ntmps46
                  go_wp2_with (first | (go_at_call 37; (refine (from_no (by assumption) _).mono ?_); rintro e w2 ⟨rfl, rfl⟩) | (go_at_call 37; (refine (from_yes (by assumption) _).mono ?_); rintro e w2 ⟨rfl, rfl⟩))
                  go_ret
                  exact ⟨by simp [*], rfl⟩
                | false =>
                  go_enter Tryd.func46, Tryd.ntmps46
                  go_wp2_with (first | (go_at_call 37; (refine (from_no (by assumption) _).mono ?_); rintro e w2 ⟨rfl, rfl⟩) | (go_at_call 37; (refine (from_yes (by assumption) _).mono ?_); rintro e w2 ⟨rfl, rfl⟩))
                  go_ret
                  exact ⟨by simp [*], rfl⟩
theorem and15 (b : Nat) (hb : b < 256) : bits .and .u8 b 15 = ((b % 16 : Nat) : Int) := by
  have h : ∀ c : Fin 256, bits .and .u8 (c.val : Int) 15 = ((c.val % 16 : Nat) : Int) := by decide +kernel
  exact h ⟨b, hb⟩
theorem digits_at (q : Nat) (hq : q < 16) : (⟨#[48, 49, 50, 51, 52, 53, 54, 55, 56, 57, 97, 98, 99, 100, 101, 102]⟩ : ByteArray).extract q (q + 1) = ⟨#[hexDig q]⟩ := by
  have h : ∀ c : Fin 16, (⟨#[48, 49, 50, 51, 52, 53, 54, 55, 56, 57, 97, 98, 99, 100, 101, 102]⟩ : ByteArray).extract c.val (c.val + 1) = ⟨#[hexDig c.val]⟩ := by decide +kernel
  exact h ⟨q, hq⟩
theorem escapedByte_any (b : Nat) (hb : b < 256) (w : World) :
    Calls Tryd.prog 69 #[.int .u8 b] w fun e w' => e = .returned (.string ⟨(escB b).toArray⟩) ∧ Below w.heap.size w w' := by
  have hA := and15 b hb
  have hq : ((b : Int) / 16) = ((b / 16 : Nat) : Int) := by omega
  obtain ⟨q, hqq⟩ : ∃ q, b / 16 = q := ⟨_, rfl⟩
  obtain ⟨r, hrr⟩ : ∃ r, b % 16 = r := ⟨_, rfl⟩
  have hr1 : r < 16 := by omega
  have hq1 : q < 16 := by omega
  rw [hqq] at hq
  rw [hrr] at hA
  have w1 : IntKind.u8.wrap ((q : Int) + 1) = (q : Int) + 1 := by simp [IntKind.wrap, IntKind.bits, IntKind.signed]; omega
  have w2 : IntKind.u8.wrap ((r : Int) + 1) = (r : Int) + 1 := by simp [IntKind.wrap, IntKind.bits, IntKind.signed]; omega
  have z1 : (0 : Int) ≤ (q : Int) := by omega
  have z2 : (q : Int) ≤ (q : Int) + 1 := by omega
  have z3 : (q : Int) + 1 ≤ 16 := by omega
  have z4 : (0 : Int) ≤ (r : Int) := by omega
  have z5 : (r : Int) ≤ (r : Int) + 1 := by omega
  have z6 : (r : Int) + 1 ≤ 16 := by omega
  have n1 : ((q : Int) + 1).toNat = q + 1 := by omega
  have n2 : ((r : Int) + 1).toNat = r + 1 := by omega
  have m1 : min (q + 1) 16 - q = 1 := by omega
  have m2 : min (r + 1) 16 - r = 1 := by omega
  have x1 := digits_at q hq1
  have x2 := digits_at r hr1
  have HE : Hid ((⟨#[92, 120]⟩ : ByteArray) ++ ⟨#[hexDig q]⟩ ++ ⟨#[hexDig r]⟩ = ⟨(escB b).toArray⟩) := Lib.hid (by
    unfold escB
    rw [hqq, hrr]
    rfl)
  clear hqq hrr
  go_enter Tryd.func69, Tryd.ntmps69
  go_wp2
  go_region
  all_goals go_wp2
  all_goals go_ret
  all_goals exact ⟨ret_str HE.out, (Below.refl _ _).drew⟩
end Go.Proofs.YtepmfjhhmnmmeaaDoor
