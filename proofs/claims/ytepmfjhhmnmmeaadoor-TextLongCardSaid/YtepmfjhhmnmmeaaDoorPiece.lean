/-
  annalsref2.piece walked: what stands at a place of a text is what the model's own decoding says. Conditions: none.
-/
import Derived.Test.YtepmfjhhmnmmeaaDoorBase
import Derived.Test.YtepmfjhhmnmmeaaDoorRunes
namespace Go.Proofs.YtepmfjhhmnmmeaaDoor
open Go.RowKit

def byteAt (s : ByteArray) (i : Nat) : Int := (s.get! i).toNat
theorem byteAt_range (s : ByteArray) (i : Nat) : 0 ≤ byteAt s i ∧ byteAt s i ≤ 255 := by
  have := (s.get! i).toNat_lt
  unfold byteAt
  omega
theorem byteAt_of {s : ByteArray} {i : Nat} (h : i < s.size) : ((s[i]'h).toNat : Int) = byteAt s i := by
  unfold byteAt
  rw [Utf8W.get!_of_lt s i h]

def pieceR (s : ByteArray) (p : Nat) : Int := if strayAt s p = true then -1 else ((Utf8.decode s p).1 : Int)
def isCont (b : Int) : Prop := 128 ≤ b ∧ b ≤ 191
/-- What is reckoned of the first byte's part and k bytes behind it. -/
def acc (s : ByteArray) (i : Nat) (r : Int) : Nat → Int
  | 0 => r
  | k + 1 => acc s i r k * 64 + byteAt s (i + k + 1) - 128

theorem decode_bytes (s : ByteArray) (i : Nat) : Utf8.decode s i = Lib.decodeN (s.size - i) (byteAt s i).toNat (byteAt s (i + 1)).toNat (byteAt s (i + 2)).toNat (byteAt s (i + 3)).toNat := by
  rw [Lib.decode_at]; rfl

theorem decode_one {s : ByteArray} {i : Nat} (h : byteAt s i < 128) : Utf8.decode s i = ((byteAt s i).toNat, 1) := by
  rw [decode_bytes]
  have := (byteAt_range s i).1
  unfold Lib.decodeN
  rw [if_pos (by omega)]
theorem decode_no {s : ByteArray} {i : Nat} (h1 : 128 ≤ byteAt s i) (h2 : byteAt s i < 192 ∨ 248 ≤ byteAt s i) : Utf8.decode s i = (65533, 1) := by
  rw [decode_bytes]
  unfold Lib.decodeN
  rw [if_neg (by omega), if_neg (by omega), if_neg (by omega), if_neg (by omega)]
theorem decode_two_bad {s : ByteArray} {i : Nat} (h1 : 192 ≤ byteAt s i) (h2 : byteAt s i < 224) (h : s.size < i + 2 ∨ ¬ isCont (byteAt s (i + 1))) : Utf8.decode s i = (65533, 1) := by
  rw [decode_bytes]
  have := byteAt_range s (i + 1)
  unfold isCont at h
  unfold Lib.decodeN
  rw [if_neg (by omega), if_neg (by omega), if_neg (by omega), if_neg (by omega)]
theorem decode_two {s : ByteArray} {i : Nat} (h1 : 192 ≤ byteAt s i) (h2 : byteAt s i < 224) (h : i + 2 ≤ s.size) (c1 : isCont (byteAt s (i + 1))) :
    Utf8.decode s i = if acc s i (byteAt s i - 192) 1 < 128 then (65533, 1) else ((acc s i (byteAt s i - 192) 1).toNat, 2) := by
  rw [decode_bytes]
  have := byteAt_range s (i + 1)
  unfold isCont at c1
  obtain ⟨r, hr⟩ : ∃ r, acc s i (byteAt s i - 192) 1 = r := ⟨_, rfl⟩
  have hr' : r = (byteAt s i - 192) * 64 + byteAt s (i + 1) - 128 := hr.symm
  rw [hr]
  unfold Lib.decodeN
  rw [if_neg (by omega), if_pos (by omega)]
  by_cases h3 : r < 128
  · rw [if_pos h3, if_neg (by omega)]
  · rw [if_neg h3, if_pos (by omega)]
    congr 1
    omega
theorem decode_three_bad {s : ByteArray} {i : Nat} (h1 : 224 ≤ byteAt s i) (h2 : byteAt s i < 240) (h : s.size < i + 3 ∨ ¬ isCont (byteAt s (i + 1)) ∨ ¬ isCont (byteAt s (i + 2))) : Utf8.decode s i = (65533, 1) := by
  rw [decode_bytes]
  have := byteAt_range s (i + 1)
  have := byteAt_range s (i + 2)
  unfold isCont at h
  unfold Lib.decodeN
  rw [if_neg (by omega), if_neg (by omega), if_neg (by omega), if_neg (by omega)]
theorem decode_three {s : ByteArray} {i : Nat} (h1 : 224 ≤ byteAt s i) (h2 : byteAt s i < 240) (h : i + 3 ≤ s.size) (c1 : isCont (byteAt s (i + 1))) (c2 : isCont (byteAt s (i + 2))) :
    Utf8.decode s i = if acc s i (byteAt s i - 224) 2 < 2048 ∨ (55296 ≤ acc s i (byteAt s i - 224) 2 ∧ acc s i (byteAt s i - 224) 2 ≤ 57343) then (65533, 1) else ((acc s i (byteAt s i - 224) 2).toNat, 3) := by
  rw [decode_bytes]
  have := byteAt_range s (i + 1)
  have := byteAt_range s (i + 2)
  unfold isCont at c1 c2
  obtain ⟨r, hr⟩ : ∃ r, acc s i (byteAt s i - 224) 2 = r := ⟨_, rfl⟩
  have hr' : r = ((byteAt s i - 224) * 64 + byteAt s (i + 1) - 128) * 64 + byteAt s (i + 2) - 128 := hr.symm
  rw [hr]
  unfold Lib.decodeN
  rw [if_neg (by omega), if_neg (by omega), if_pos (by omega)]
  by_cases h3 : r < 2048 ∨ (55296 ≤ r ∧ r ≤ 57343)
  · rw [if_pos h3, if_neg (by omega)]
  · rw [if_neg h3, if_pos (by omega)]
    congr 1
    omega
theorem decode_four_bad {s : ByteArray} {i : Nat} (h1 : 240 ≤ byteAt s i) (h2 : byteAt s i < 248) (h : s.size < i + 4 ∨ ¬ isCont (byteAt s (i + 1)) ∨ ¬ isCont (byteAt s (i + 2)) ∨ ¬ isCont (byteAt s (i + 3))) : Utf8.decode s i = (65533, 1) := by
  rw [decode_bytes]
  have := byteAt_range s (i + 1)
  have := byteAt_range s (i + 2)
  have := byteAt_range s (i + 3)
  unfold isCont at h
  unfold Lib.decodeN
  rw [if_neg (by omega), if_neg (by omega), if_neg (by omega), if_neg (by omega)]
theorem decode_four {s : ByteArray} {i : Nat} (h1 : 240 ≤ byteAt s i) (h2 : byteAt s i < 248) (h : i + 4 ≤ s.size) (c1 : isCont (byteAt s (i + 1))) (c2 : isCont (byteAt s (i + 2))) (c3 : isCont (byteAt s (i + 3))) :
    Utf8.decode s i = if acc s i (byteAt s i - 240) 3 < 65536 ∨ 1114111 < acc s i (byteAt s i - 240) 3 then (65533, 1) else ((acc s i (byteAt s i - 240) 3).toNat, 4) := by
  rw [decode_bytes]
  have := byteAt_range s (i + 1)
  have := byteAt_range s (i + 2)
  have := byteAt_range s (i + 3)
  unfold isCont at c1 c2 c3
  obtain ⟨r, hr⟩ : ∃ r, acc s i (byteAt s i - 240) 3 = r := ⟨_, rfl⟩
  have hr' : r = (((byteAt s i - 240) * 64 + byteAt s (i + 1) - 128) * 64 + byteAt s (i + 2) - 128) * 64 + byteAt s (i + 3) - 128 := hr.symm
  rw [hr]
  unfold Lib.decodeN
  rw [if_neg (by omega), if_neg (by omega), if_neg (by omega), if_pos (by omega)]
  by_cases h3 : r < 65536 ∨ 1114111 < r
  · rw [if_pos h3, if_neg (by omega)]
  · rw [if_neg h3, if_pos (by omega)]
    congr 1
    omega
end Go.Proofs.YtepmfjhhmnmmeaaDoor
