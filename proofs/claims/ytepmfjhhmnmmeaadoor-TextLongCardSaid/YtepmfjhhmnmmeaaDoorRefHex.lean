/-
  annalsref2.hex, digit, isHidden walked: what each answers. Conditions: the reference's table of hidden runes as laid (isHidden).
-/
import Derived.Test.YtepmfjhhmnmmeaaDoorLitFns
import Derived.Test.YtepmfjhhmnmmeaaDoorLitEnc
import Derived.Test.YtepmfjhhmnmmeaaDoorHexRead
namespace Go.Proofs.YtepmfjhhmnmmeaaDoor
open Go.RowKit

theorem hexUp_more : ∀ (f n : Nat), n < 16 ^ (f + 1) → hexUp f n = hexUp (f + 1) n
  | 0, n, h => by
    have hn : n < 16 := by simpa using h
    show [hexDig (n % 16)] = (if n < 16 then [hexDig n] else _)
    rw [if_pos hn, Nat.mod_eq_of_lt hn]
  | f + 1, n, h => by
    show (if n < 16 then [hexDig n] else hexUp f (n / 16) ++ [hexDig (n % 16)]) = (if n < 16 then [hexDig n] else hexUp (f + 1) (n / 16) ++ [hexDig (n % 16)])
    split
    · rfl
    · rw [hexUp_more f (n / 16) (by rw [Nat.pow_succ] at h; omega)]
def hexTop (m : Nat) : List UInt8 := if m = 0 then [] else hexL m
theorem hexL_step (m : Nat) (h : m < 4294967296) : hexL m = hexTop (m / 16) ++ [hexDig (m % 16)] := by
  unfold hexTop hexL
  show (if m < 16 then [hexDig m] else hexUp 14 (m / 16) ++ [hexDig (m % 16)]) = _
  by_cases h1 : m < 16
  · rw [if_pos h1, if_pos (by omega), Nat.mod_eq_of_lt h1]
    rfl
  · rw [if_neg h1, if_neg (by omega), hexUp_more 14 (m / 16) (by
      have : 4294967296 ≤ 16 ^ (14 + 1) := by decide
      omega)]
theorem tmod16 (m : Nat) : ((m : Int).tmod 16) = ((m % 16 : Nat) : Int) := by
  rw [Int.tmod_eq_emod_of_nonneg (by omega)]
  omega
set_option maxHeartbeats 1000000 in
set_option maxRecDepth 100000 in
theorem refHex_any (n : Nat) (hn : n < 4294967296) (w : World) :
    Calls Tryd.prog 71 #[.int .i64 n] w fun e w' => e = .returned (.string ⟨(hexL n).toArray⟩) ∧ w' = w := by
  have h0 := hexL_step n hn
  have hx := digits_at (n % 16) (by omega)
  have a1 : ((n : Int) % 16) = ((n % 16 : Nat) : Int) := by omega
  have a2 := tmod16 n
  have a3 : ((n : Int) / 16) = ((n / 16 : Nat) : Int) := by omega
  have hq : n / 16 < 4294967296 := by omega
  obtain ⟨q, hqq⟩ : ∃ q, n / 16 = q := ⟨_, rfl⟩
  obtain ⟨r, hr⟩ : ∃ r, n % 16 = r := ⟨_, rfl⟩
  have r16 : r < 16 := by omega
  rw [hqq] at a3 h0 hq
  rw [hr] at a1 a2 hx h0
  have b1 : (0 : Int) ≤ (r : Int) := by omega
  have b2 : (r : Int) ≤ (r : Int) + 1 := by omega
  have b3 : (r : Int) + 1 ≤ 16 := by omega
  have b4 : ((r : Int) + 1).toNat = r + 1 := by omega
  have H0 := Lib.hid h0
  clear h0 hqq hr
  go_enter Tryd.func71, Tryd.ntmps71
  go_wp2
  clear a1 a2 a3 hx b1 b2 b3 b4
  go_loop [0, 3] (fun x y => ∃ (m : Nat) (out : List UInt8), x = .int .i64 m ∧ y = .string ⟨out.toArray⟩ ∧ m < 4294967296 ∧ Hid (hexL n = hexTop m ++ out)) (fun x _ => (intOf x).toNat)
  case atStart => exact ⟨q, [hexDig r], rfl, rfl, hq, H0⟩
  case round =>
    obtain ⟨m, out, rfl, rfl, hm, H⟩ := hrel
    by_cases hz : m = 0
    · subst hz
      have hv := H.out
      unfold hexTop at hv
      rw [if_pos rfl, List.nil_append] at hv
      have HV := Lib.hid hv
      clear hv H H0
      go_wp2
      all_goals go_ret
      all_goals exact ⟨by rw [HV.out]; rfl, rfl⟩
    · have hlen : out.length ≤ 16 := by
        have e := congrArg List.length H.out
        have := hexL_len n
        rw [List.length_append] at e
        omega
      have h0 := hexL_step m hm
      have hx := digits_at (m % 16) (by omega)
      have a1 : ((m : Int) % 16) = ((m % 16 : Nat) : Int) := by omega
      have a2 := tmod16 m
      have a3 : ((m : Int) / 16) = ((m / 16 : Nat) : Int) := by omega
      have hv := H.out
      unfold hexTop at hv
      rw [if_neg hz, h0] at hv
      have hq : m / 16 < 4294967296 := by omega
      have hlt : m / 16 < m := by omega
      have z0 : (0 : Int) < (m : Int) := by omega
      obtain ⟨q, hqq⟩ : ∃ q, m / 16 = q := ⟨_, rfl⟩
      obtain ⟨r, hr⟩ : ∃ r, m % 16 = r := ⟨_, rfl⟩
      have r16 : r < 16 := by omega
      rw [hqq] at a3 hv hq hlt
      rw [hr] at a1 a2 hx hv
      have b1 : (0 : Int) ≤ (r : Int) := by omega
      have b2 : (r : Int) ≤ (r : Int) + 1 := by omega
      have b3 : (r : Int) + 1 ≤ 16 := by omega
      have b4 : ((r : Int) + 1).toNat = r + 1 := by omega
      have c1 : ¬ 9223372036854775807 < 1 + out.length := by omega
      have Hv : Hid (hexL n = hexTop q ++ (hexDig r :: out)) := Lib.hid (by rw [hv]; simp)
      clear h0 hv H H0 hqq hr hz
      go_wp2
      all_goals go_round
      case rel => exact ⟨q, hexDig r :: out, by first | rfl | simp only [a3], by first | rfl | (apply congrArg Value.string; apply ByteArray.ext; simp), hq, Hv⟩
      case measure => simp [intOf]; omega
/-- What digit answers. -/
def digN (b : Nat) : Int := if 48 ≤ b ∧ b ≤ 57 then (b : Int) - 48 else if 97 ≤ b ∧ b ≤ 102 then (b : Int) - 87 else -1
theorem digN_some {c : UInt8} {v : Nat} (h : hexV c = some v) : digN c.toNat = v ∧ v < 16 := by
  have k : ∀ b : Fin 256, ∀ v : Fin 16, hexV (UInt8.ofNat b.val) = some v.val → digN b.val = v.val := by decide +kernel
  have hv := hexV_lt h
  refine ⟨k ⟨c.toNat, c.toNat_lt⟩ ⟨v, hv⟩ (by simpa using h), hv⟩
theorem digN_none {c : UInt8} (h : hexV c = none) : digN c.toNat = -1 := by
  have k : ∀ b : Fin 256, hexV (UInt8.ofNat b.val) = none → digN b.val = -1 := by decide +kernel
  exact k ⟨c.toNat, c.toNat_lt⟩ (by simpa using h)
theorem digit_any (b : Nat) (hb : b < 256) (w : World) :
    Calls Tryd.prog 67 #[.int .u8 b] w fun e w' => e = .returned (.int .i64 (digN b)) ∧ w' = w := by
  unfold digN
  obtain ⟨B, hB⟩ : ∃ B : Int, (b : Int) = B := ⟨_, rfl⟩
  have b0 : 0 ≤ B := by omega
  have b1 : B < 256 := by omega
  rw [hB]
  by_cases h1 : 48 ≤ b ∧ b ≤ 57
  · rw [if_pos h1]
    have c1 : 48 ≤ B := by omega
    have c2 : B ≤ 57 := by omega
    clear h1 hB
    go_enter Tryd.func67, Tryd.ntmps67
    go_wp2
    all_goals go_ret
    all_goals exact ⟨by first | rfl | simp, rfl⟩
  rw [if_neg h1]
  by_cases h2 : 97 ≤ b ∧ b ≤ 102
  · rw [if_pos h2]
    have c1 : 97 ≤ B := by omega
    have c2 : B ≤ 102 := by omega
    have c3 : 48 ≤ B := by omega
    have c4 : ¬ B ≤ 57 := by omega
    have e1 : B - 97 + 10 = B - 87 := by omega
    clear h1 h2 hB
    go_enter Tryd.func67, Tryd.ntmps67
    go_wp2
    all_goals go_ret
    all_goals exact ⟨by first | rfl | (rw [e1]), rfl⟩
  rw [if_neg h2]
  by_cases h3 : 48 ≤ B
  · have c4 : ¬ B ≤ 57 := by omega
    by_cases h4 : 97 ≤ B
    · have c5 : ¬ B ≤ 102 := by omega
      clear h1 h2 hB
      go_enter Tryd.func67, Tryd.ntmps67
      go_wp2
      all_goals go_ret
      all_goals exact ⟨by first | rfl | simp, rfl⟩
    · clear h1 h2 hB
      go_enter Tryd.func67, Tryd.ntmps67
      go_wp2
      all_goals go_ret
      all_goals exact ⟨by first | rfl | simp, rfl⟩
  · have c5 : ¬ 97 ≤ B := by omega
    clear h1 h2 hB
    go_enter Tryd.func67, Tryd.ntmps67
    go_wp2
    all_goals go_ret
    all_goals exact ⟨by first | rfl | simp, rfl⟩
def hidTab : List (Int × Int) := [(128, 159), (173, 173), (8203, 8207), (8232, 8238), (8288, 8292), (65279, 65279), (65529, 65531), (917505, 917631)]
theorem hidTab_length : hidTab.length = 8 := rfl
theorem hidTab_any (r : Int) : (hidTab.any fun p => inB r p.1 p.2) = hiddenI r := by
  unfold hidTab hiddenI inB
  rw [Bool.eq_iff_iff]
  simp
  omega
/-- The reference's table of hidden runes as laid. -/
abbrev RefHid (w : World) : Prop := PairsAt .i64 2 hidTab w
set_option maxHeartbeats 1000000 in
theorem isHidden_any (r : Int) (w : World) (ht : RefHid w) :
    Calls Tryd.prog 50 #[.int .i64 r] w fun e w' => e = .returned (.bool (hiddenI r)) ∧ Drawn w w' := by
  have HT := Lib.hid ht
  clear ht
  go_enter Tryd.func50, Tryd.ntmps50
  go_wp2
  go_loopw [3] (fun i wr => ∃ k : Nat, k ≤ 8 ∧ i = .int .i64 k ∧ Drawn w wr ∧ Hid ((hidTab.take k).any (fun p => inB r p.1 p.2) = false)) (fun i _ => 8 - (intOf i).toNat)
  case atStart => exact ⟨0, by omega, rfl, Drawn.refl _, Lib.hid (by simp)⟩
  case round =>
    obtain ⟨k, hk, rfl, HD, HN⟩ := hrel
    by_cases hlt : k < 8
    · obtain ⟨lo, hlo⟩ : ∃ x, x = (hidTab.getD k (0, 0)).1 := ⟨_, rfl⟩
      obtain ⟨hi, hhi⟩ : ∃ x, x = (hidTab.getD k (0, 0)).2 := ⟨_, rfl⟩
      have hp := (HT.out.drawn HD) k hlt
      rw [← hlo, ← hhi] at hp
      have h1 := hp.1
      have h2 := hp.2
      clear hp
      have ha := any_take hidTab (fun p => inB r p.1 p.2) (0, 0) k (by rw [hidTab_length]; exact hlt)
      have hat := any_at hidTab (fun p => inB r p.1 p.2) (0, 0) k (by rw [hidTab_length]; exact hlt)
      simp only [← hlo, ← hhi] at ha hat
      rw [HN.out, Bool.false_or] at ha
      have Ha := Lib.hid ha
      have Hat := Lib.hid hat
      clear ha hat hlo hhi
      cases hb : inB r lo hi with
      | true =>
        go_wp2
        go_quiet ((go_at_call 38; exact Calls.quiet_of_same (within_yes hb _)))
        go_wp2
        go_ret
        exact ⟨by rw [← hidTab_any, Hat.out hb]; rfl, HD.step _⟩
      | false =>
        go_wp2
        go_quiet ((go_at_call 38; exact Calls.quiet_of_same (within_no hb _)))
        go_wp2
        go_roundw
        case rel => exact ⟨k + 1, by omega, by go_num, HD.step _, Lib.hid (Ha.out.trans hb)⟩
        case measure => simp [intOf]; omega
    · have e : k = 8 := by omega
      have hn := HN.out
      rw [List.take_of_length_le (by rw [hidTab_length]; omega)] at hn
      have HN' := Lib.hid hn
      clear hn HN e
      go_wp2
      go_ret
      exact ⟨by rw [← hidTab_any, HN'.out]; rfl, HD⟩
end Go.Proofs.YtepmfjhhmnmmeaaDoor
