/-
  text.written walked: how a rune of a text is written. Conditions: the tables of unicode/utf8 and of math/bits as laid.
-/
import Derived.Test.YtepmfjhhmnmmeaaDoorLitFns
import Derived.Test.YtepmfjhhmnmmeaaDoorLitEnc
import Derived.Test.YtepmfjhhmnmmeaaDoorHexFmt
import Derived.Test.YtepmfjhhmnmmeaaDoorTextLoops
namespace Go.Proofs.YtepmfjhhmnmmeaaDoor
open Go.RowKit

theorem esc_str (l : List UInt8) {x : ByteArray} (h : x = ⟨l.toArray⟩) {v : List UInt8} (e : v = l) : Ending.returned (.string x) = .returned (.string ⟨v.toArray⟩) := by rw [h, e]
def writtenR (s : ByteArray) (p r n : Nat) : List UInt8 :=
  if r = 34 ∨ r = 92 then [92, UInt8.ofNat r] else if r = 10 then [92, 110] else if r = 9 then [92, 116] else if r = 13 then [92, 114]
  else if r < 32 ∨ r = 127 then escB r else if strayAt s p = true then escB (s.get! p).toNat else if hiddenB r = true then [92, 117, 123] ++ hexL r ++ [125]
  else partL s p n
theorem written_eq (s : ByteArray) (p : Nat) : writtenL s p = writtenR s p (Utf8.decode s p).1 (Utf8.decode s p).2 := rfl
theorem get_at {s : ByteArray} {p : Nat} (h : p < s.size) : s[p]'h = s.get! p := (Utf8W.get!_of_lt _ _ h).symm
set_option maxHeartbeats 2000000 in
set_option maxRecDepth 10000000 in
theorem written_any (s : ByteArray) (p : Nat) (hp : p < s.size) (hs : s.size ≤ 4611686018427387904) (w : World) (hU : U8 w) (hT : TZ w) :
    Calls Tryd.prog 52 #[.string s, .int .i64 p, .int .i32 (Utf8.decode s p).1] w fun e w' => e = .returned (.string ⟨(writtenL s p).toArray⟩) ∧ Below w.heap.size w w' := by
  obtain ⟨r, hr⟩ : ∃ r, (Utf8.decode s p).1 = r := ⟨_, rfl⟩
  have hst := stray_any s p hp (by omega) w hU
  have hstr := fun h => rune_str (s := s) (p := p) hp h
  have hvr := fun h => validR_at (s := s) (p := p) h
  rw [written_eq]
  rw [hr] at hst hstr hvr ⊢
  unfold writtenR
  have hz : (p : Int) < (s.size : Int) := by omega
  have hz0 : (0 : Int) ≤ (p : Int) := by omega
  obtain ⟨b, hb⟩ : ∃ b, strayAt s p = b := ⟨_, rfl⟩
  rw [hb] at hst hstr hvr ⊢
  have HS := Lib.hid hst
  have HE := Lib.hid hstr
  have HT := Lib.hid hT
  have HV := Lib.hid hvr
  clear hst hstr hvr hU hT
  by_cases c34 : r = 34
  · subst c34
    clear HS HE HV
    go_enter Tryd.func52, Tryd.ntmps52
    go_wp2
    all_goals go_ret
    all_goals exact ⟨esc_str _ rfl (by rfl), Below.refl _ _⟩
  by_cases c92 : r = 92
  · subst c92
    clear HS HE HV
    go_enter Tryd.func52, Tryd.ntmps52
    go_wp2
    all_goals go_ret
    all_goals exact ⟨esc_str _ rfl (by rfl), Below.refl _ _⟩
  by_cases c10 : r = 10
  · subst c10
    clear HS HE HV
    go_enter Tryd.func52, Tryd.ntmps52
    go_wp2
    all_goals go_ret
    all_goals exact ⟨esc_str _ rfl (by rfl), Below.refl _ _⟩
  by_cases c9 : r = 9
  · subst c9
    clear HS HE HV
    go_enter Tryd.func52, Tryd.ntmps52
    go_wp2
    all_goals go_ret
    all_goals exact ⟨esc_str _ rfl (by rfl), Below.refl _ _⟩
  by_cases c13 : r = 13
  · subst c13
    clear HS HE HV
    go_enter Tryd.func52, Tryd.ntmps52
    go_wp2
    all_goals go_ret
    all_goals exact ⟨esc_str _ rfl (by rfl), Below.refl _ _⟩
  rw [if_neg (by omega), if_neg c10, if_neg c9, if_neg c13]
  obtain ⟨R, hR⟩ : ∃ R : Int, (r : Int) = R := ⟨_, rfl⟩
  have e34 : ¬ R = 34 := by omega
  have e92 : ¬ R = 92 := by omega
  have e10 : ¬ R = 10 := by omega
  have e9 : ¬ R = 9 := by omega
  have e13 : ¬ R = 13 := by omega
  have o1 : (R == 34 || R == 92) = false := by simp; omega
  clear c34 c92 c10 c9 c13
  by_cases k1 : r < 32 ∨ r = 127
  · rw [if_pos k1]
    have hE := escapedByte_any r (by omega)
    rw [hR] at hE
    have hE := Lib.hid hE
    have b1 : 0 ≤ R := by omega
    have b2 : R ≤ 127 := by omega
    clear HS HE HV hb hz hz0
    rw [hR]
    by_cases d1 : R < 32
    · clear k1 hR
      go_enter Tryd.func52, Tryd.ntmps52
      go_wp2_with (go_at_call 69; (refine (hE.out _).mono ?_); rintro e w2 ⟨rfl, hb2⟩)
      all_goals go_ret
      all_goals exact ⟨rfl, hb2⟩
    · have d2 : R = 127 := by omega
      clear k1 hR
      subst d2
      clear e34 e92 e10 e9 e13 o1 d1 b1 b2
      go_enter Tryd.func52, Tryd.ntmps52
      go_wp2_with (go_at_call 69; (refine (hE.out _).mono ?_); rintro e w2 ⟨rfl, hb2⟩)
      all_goals go_ret
      all_goals exact ⟨rfl, hb2⟩
  rw [if_neg k1]
  have d1 : ¬ R < 32 := by omega
  have d2 : ¬ R = 127 := by omega
  have hR2 := Lib.hid hR
  have HS2 := HS.out
  rw [hR] at HS2
  have HS := Lib.hid HS2
  clear HS2 k1
  cases b with
  | true =>
    rw [if_pos rfl]
    have hE := Lib.hid (fun w => escapedByte_any (s.get! p).toNat (UInt8.toNat_lt _) w)
    have hg := get_at hp
    rw [hR]
    clear HE HV hR hb hr
    go_enter Tryd.func52, Tryd.ntmps52
    go_wp2_with (first
      | (go_at_call 39; (refine HS.out.mono ?_); rintro e w2 ⟨rfl, hb2⟩)
      | (go_at_call 69; (refine (hE.out _).mono ?_); rintro e w3 ⟨rfl, hb3⟩))
    all_goals go_ret
    all_goals exact ⟨rfl, then_ hb2 hb3⟩
  | false =>
    rw [if_neg (by simp)]
    have hstr := HE.out rfl
    rw [hR] at hstr
    have hstr := Lib.hid hstr
    have hvr := HV.out rfl
    have hH := hidden_any (r : Int)
    rw [hiddenI_nat, hR] at hH
    have hr32 : r < 4294967296 := by
      unfold validR at hvr
      simp at hvr
      omega
    have b1 : 0 ≤ R := by omega
    have b2 : R < 2147483648 := by
      unfold validR at hvr
      simp at hvr
      omega
    have hF := fmtInt_any r hr32
    rw [hR] at hF
    have hF := Lib.hid hF
    have hl := hexL_len r
    clear HE HV hvr
    obtain ⟨q, hq⟩ : ∃ q, hiddenB r = q := ⟨_, rfl⟩
    rw [hq] at hH ⊢
    have HH := Lib.hid hH
    clear hH hq
    cases q with
    | true =>
      rw [if_pos rfl]
      obtain ⟨X, hX⟩ : ∃ X, hexL r = X := ⟨_, rfl⟩
      rw [hX] at hF hl ⊢
      have h1 : ¬ 9223372036854775807 < 3 + X.length := by omega
      have h2 : ¬ 9223372036854775807 < 3 + X.length + 1 := by omega
      rw [hR]
      clear hX hstr hR hb hr
      go_enter Tryd.func52, Tryd.ntmps52
      go_wp2_with (first
        | (go_at_call 39; (refine HS.out.mono ?_); rintro e w2 ⟨rfl, hb2⟩)
        | (go_at_call 46; (refine (HH.out _).mono ?_); rintro e w3 ⟨rfl, rfl⟩)
        | (go_at_call 70; (refine (hF.out _ (HT.out.below hb2)).mono ?_); rintro e w3 ⟨rfl, hb3⟩))
      all_goals go_ret
      all_goals exact ⟨esc_str _ (by apply ByteArray.ext; simp) rfl, then_ hb2 hb3⟩
    | false =>
      rw [if_neg (by simp), hR]
      clear hR hF hb hr
      go_enter Tryd.func52, Tryd.ntmps52
      go_wp2_with (first
        | (go_at_call 39; (refine HS.out.mono ?_); rintro e w2 ⟨rfl, hb2⟩)
        | (go_at_call 46; (refine (HH.out _).mono ?_); rintro e w3 ⟨rfl, rfl⟩))
      all_goals go_ret
      all_goals exact ⟨rfl, hb2⟩
end Go.Proofs.YtepmfjhhmnmmeaaDoor
