/-
  text.stray, text.Valid, text.Clip, annalslaw2.cutText walked: what each answers, of any text. Conditions: the two tables of unicode/utf8 as laid.
-/
import Derived.Test.YtepmfjhhmnmmeaaDoorBase
import Derived.Test.YtepmfjhhmnmmeaaDoorRunes
import Derived.Test.YtepmfjhhmnmmeaaDoorShelf
import Derived.Lib.OthersKept
namespace Go.Proofs.YtepmfjhhmnmmeaaDoor
open Go.RowKit

abbrev U8 (w : World) : Prop := Lib.Utf8Tabs 3 4 w

theorem decodeGo_at (s : ByteArray) (i : Nat) (hi : i < s.size) : Lib.decodeGo (s.extract i s.size) = Utf8.decode s i := by
  unfold Lib.decodeGo
  rw [if_neg (by rw [Lib.tail_size]; omega), Lib.tail_decode]
  rfl

theorem stray_no (s : ByteArray) (i : Nat) (r : Int) (hr : (r != 65533) = true) (w : World) :
    Calls Tryd.prog 39 #[.string s, .int .i64 i, .int .i32 r] w fun e w' => e = .returned (.bool false) ∧ w' = w := by
  go_enter Tryd.func39, Tryd.ntmps39
  go_wp2
  go_ret
  exact ⟨rfl, rfl⟩

theorem stray_yes (s : ByteArray) (i : Nat) (hi : i < s.size) (_hs : s.size ≤ 9223372036854775807) (w : World) (hU : U8 w) :
    Calls Tryd.prog 39 #[.string s, .int .i64 i, .int .i32 65533] w fun e w' => e = .returned (.bool (((Utf8.decode s i).2 : Int) == 1)) ∧ Below w.heap.size w w' := by
  obtain ⟨n, hn⟩ : ∃ n, (Utf8.decode s i).2 = n := ⟨_, rfl⟩
  obtain ⟨c, hc⟩ : ∃ c, (Utf8.decode s i).1 = c := ⟨_, rfl⟩
  have hd := Tryd.utf8_DecodeRuneInString (s.extract i s.size) w hU
  rw [decodeGo_at s i hi, hn, hc] at hd
  rw [hn]
  have hz1 : (0 : Int) ≤ (i : Int) := by omega
  have hz2 : (i : Int) ≤ (s.size : Int) := by omega
  clear hn hc
  go_enter Tryd.func39, Tryd.ntmps39
  go_wp2_with (go_at_call 45; (with_reducible refine hd.mono ?_); rintro e w' ⟨rfl, hb⟩)
  all_goals go_ret
  all_goals exact ⟨by first | rfl | simp_all, hb⟩

theorem stray_any (s : ByteArray) (i : Nat) (hi : i < s.size) (hs : s.size ≤ 9223372036854775807) (w : World) (hU : U8 w) :
    Calls Tryd.prog 39 #[.string s, .int .i64 i, .int .i32 (Utf8.decode s i).1] w fun e w' => e = .returned (.bool (strayAt s i)) ∧ Below w.heap.size w w' := by
  unfold strayAt
  by_cases h : (Utf8.decode s i).1 = 65533
  · rw [h]
    have e : ((65533 : Nat) == 65533 && (Utf8.decode s i).2 == 1) = (((Utf8.decode s i).2 : Int) == 1) := by
      rw [Bool.eq_iff_iff]; simp; omega
    rw [e]
    exact stray_yes s i hi hs w hU
  · have hr : (((Utf8.decode s i).1 : Int) != 65533) = true := by rw [bne_iff_ne]; omega
    have e : ((Utf8.decode s i).1 == 65533 && (Utf8.decode s i).2 == 1) = false := by simp [h]
    rw [e]
    exact (stray_no s i _ hr w).mono fun e w' ⟨he, hw⟩ => ⟨he, hw ▸ Below.refl _ _⟩

theorem cutText_any (s : ByteArray) (w : World) (hs : s.size ≤ 9223372036854775807) :
    Calls Tryd.prog 15 #[.string s] w fun e w' => e = .returned (.string (s.extract 0 131072)) ∧ w' = w := by
  by_cases h : 131072 < s.size
  · have h0 : (131072 : Int) < (s.size : Int) := by omega
    have h1 : (131072 : Int) ≤ (s.size : Int) := by omega
    go_enter Tryd.func15, Tryd.ntmps15
    go_wp2
    all_goals go_ret
    all_goals exact ⟨rfl, rfl⟩
  · have h0 : ¬ (131072 : Int) < (s.size : Int) := by omega
    have e : s.extract 0 131072 = s := by
      apply ByteArray.ext
      simp [ByteArray.data_extract]
      have : s.data.size = s.size := rfl
      omega
    rw [e]
    clear e
    go_enter Tryd.func15, Tryd.ntmps15
    go_wp2
    all_goals go_ret
    all_goals exact ⟨rfl, rfl⟩
end Go.Proofs.YtepmfjhhmnmmeaaDoor
