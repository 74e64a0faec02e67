/-
  A rune's bytes in plain terms: what stands at a whole rune's place is its encoding; how long a literal gets. Conditions: none.
-/
import Derived.Test.YtepmfjhhmnmmeaaDoorLitLaw
import Derived.Lib.MapLaws
namespace Go.Proofs.YtepmfjhhmnmmeaaDoor
open Go.RowKit

theorem enc_encL {r : Nat} (h : validR r = true) : Utf8.encode (r : Int) = ⟨(encL r).toArray⟩ := by
  have v : Utf8.valid (r : Int) = true := by
    unfold validR at h
    simp at h
    simp [Utf8.valid]
    omega
  unfold encL Utf8.encode
  simp only [v, if_true, Int.toNat_natCast]
  repeat' split
  all_goals rfl
theorem toByteN (z : Int) (n : Nat) (h : z = (n : Int)) : z.toNat.toUInt8 = UInt8.ofNat n := by
  subst h
  simp
theorem encL_rune {r : Nat} (h : validR r = true) : encL r = Lib.encodeRune (r : Int) := by
  unfold validR at h
  simp at h
  unfold encL Lib.encodeRune
  by_cases c1 : r < 128
  · rw [if_pos c1, Lib.encodeRuneZ_one (by omega) (by omega)]
    simp
  by_cases c2 : r < 2048
  · rw [if_neg c1, if_pos c2, Lib.encodeRuneZ_two (by omega) (by omega)]
    simp only [List.map_cons, List.map_nil]
    rw [toByteN _ (192 + r / 64) (by omega), toByteN _ (128 + r % 64) (by omega)]
  by_cases c3 : r < 65536
  · rw [if_neg c1, if_neg c2, if_pos c3, Lib.encodeRuneZ_three (by omega)]
    simp only [List.map_cons, List.map_nil]
    rw [toByteN _ (224 + r / 4096) (by omega), toByteN _ (128 + r / 64 % 64) (by omega), toByteN _ (128 + r % 64) (by omega)]
  · rw [if_neg c1, if_neg c2, if_neg c3, Lib.encodeRuneZ_four (by omega) (by omega)]
    simp only [List.map_cons, List.map_nil]
    rw [toByteN _ (240 + r / 262144) (by omega), toByteN _ (128 + r / 4096 % 64) (by omega), toByteN _ (128 + r / 64 % 64) (by omega), toByteN _ (128 + r % 64) (by omega)]
theorem stray_not {s : ByteArray} {p : Nat} (h : strayAt s p = false) : ¬ ((Utf8.decode s p).1 = 65533 ∧ (Utf8.decode s p).2 = 1) := by
  unfold strayAt at h
  intro hh
  simp [hh] at h
theorem validR_at {s : ByteArray} {p : Nat} (h : strayAt s p = false) : validR (Utf8.decode s p).1 = true := by
  have hv := stray_not h
  rw [Lib.decode_at] at hv ⊢
  unfold validR
  simp
  rcases Lib.decodeN_shape (s.size - p) (s.get! p).toNat (s.get! (p + 1)).toNat (s.get! (p + 2)).toNat (s.get! (p + 3)).toNat with ⟨c, e⟩ | ⟨c1, c2, c3, cv, e⟩ | ⟨c1, c2, c3, c4, cv, cs, e⟩ | ⟨c1, c2, c3, c4, c5, cv, cw, e⟩ | e
  all_goals rw [e] at hv ⊢
  · simp; omega
  · simp; omega
  · simp; omega
  · simp; omega
  · exact absurd ⟨rfl, rfl⟩ hv
theorem rune_at {s : ByteArray} {p : Nat} (hp : p < s.size) (h : strayAt s p = false) : encL (Utf8.decode s p).1 = partL s p (Utf8.decode s p).2 := by
  have hv := stray_not h
  rw [encL_rune (validR_at h)]
  have hd := Lib.decodeL_drop s p
  rw [← hd] at hv ⊢
  unfold partL
  refine Lib.encode_decode _ (fun e => ?_) hv
  have := congrArg List.length e
  have hs : s.data.toList.length = s.size := rfl
  rw [List.length_drop, hs] at this
  simp at this
  omega
theorem rune_str {s : ByteArray} {p : Nat} (hp : p < s.size) (h : strayAt s p = false) : Utf8.encode ((Utf8.decode s p).1 : Int) = ⟨(partL s p (Utf8.decode s p).2).toArray⟩ := by
  rw [enc_encL (validR_at h), rune_at hp h]
theorem hexUp_len : ∀ (f n : Nat), (hexUp f n).length ≤ f + 1 := by
  intro f
  induction f with
  | zero => intro n; simp [hexUp]
  | succ f ih =>
    intro n
    unfold hexUp
    split
    · simp
    · have := ih (n / 16)
      simp
      omega
theorem hexL_len (n : Nat) : (hexL n).length ≤ 16 := hexUp_len 15 n
theorem partL_len (s : ByteArray) (p n : Nat) : (partL s p n).length ≤ n := by unfold partL; simp; omega
theorem width4 (s : ByteArray) (p : Nat) : (Utf8.decode s p).2 ≤ 4 := by
  rw [Lib.decode_at]
  rcases Lib.decodeN_shape (s.size - p) (s.get! p).toNat (s.get! (p + 1)).toNat (s.get! (p + 2)).toNat (s.get! (p + 3)).toNat with ⟨c, e⟩ | ⟨c1, c2, c3, cv, e⟩ | ⟨c1, c2, c3, c4, cv, cs, e⟩ | ⟨c1, c2, c3, c4, c5, cv, cw, e⟩ | e
  all_goals rw [e]
  all_goals simp
theorem writtenL_len (s : ByteArray) (p : Nat) : (writtenL s p).length ≤ 20 := by
  unfold writtenL
  have h1 := hexL_len (Utf8.decode s p).1
  have h2 := partL_len s p (Utf8.decode s p).2
  have h3 := width4 s p
  simp only
  repeat' split
  all_goals simp [escB]
  all_goals omega
theorem quoteFrom_len (s : ByteArray) : ∀ (f p : Nat), (quoteFrom s f p).length ≤ 20 * f := by
  intro f
  induction f with
  | zero => intro p; simp [quoteFrom]
  | succ f ih =>
    intro p
    unfold quoteFrom
    split
    · have := ih (nextPos s p)
      have := writtenL_len s p
      simp
      omega
    · simp
theorem quoteL_len (s : ByteArray) : (quoteL s).length ≤ 20 * s.size + 2 := by
  unfold quoteL
  have := quoteFrom_len s s.size 0
  simp
  omega
end Go.Proofs.YtepmfjhhmnmmeaaDoor
