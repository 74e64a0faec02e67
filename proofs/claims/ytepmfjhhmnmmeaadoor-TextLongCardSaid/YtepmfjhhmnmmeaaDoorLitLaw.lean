/-
  Literals in plain terms: how a text is quoted, how a literal is read. Conditions: none.
-/
import Derived.Test.YtepmfjhhmnmmeaaDoorRunes
import Derived.Test.YtepmfjhhmnmmeaaDoorPiece
namespace Go.Proofs.YtepmfjhhmnmmeaaDoor
open Go.RowKit

def hexDig (n : Nat) : UInt8 := if n < 10 then UInt8.ofNat (48 + n) else UInt8.ofNat (87 + n)
def escB (b : Nat) : List UInt8 := [92, 120, hexDig (b / 16), hexDig (b % 16)]
def hexUp : Nat → Nat → List UInt8
  | 0, n => [hexDig (n % 16)]
  | f + 1, n => if n < 16 then [hexDig n] else hexUp f (n / 16) ++ [hexDig (n % 16)]
def hexL (n : Nat) : List UInt8 := hexUp 15 n
def hiddenB (r : Nat) : Bool := (decide (0x80 ≤ r) && decide (r ≤ 0x9F)) || r == 0xAD || (decide (0x200B ≤ r) && decide (r ≤ 0x200F)) || (decide (0x2028 ≤ r) && decide (r ≤ 0x202E))
  || (decide (0x2060 ≤ r) && decide (r ≤ 0x2064)) || r == 0xFEFF || (decide (0xFFF9 ≤ r) && decide (r ≤ 0xFFFB)) || (decide (0xE0001 ≤ r) && decide (r ≤ 0xE007F))
/-- n bytes of s from p on. -/
def partL (s : ByteArray) (p n : Nat) : List UInt8 := (s.data.toList.drop p).take n
/-- How the rune at p is written. -/
def writtenL (s : ByteArray) (p : Nat) : List UInt8 :=
  let r := (Utf8.decode s p).1
  if r = 34 ∨ r = 92 then [92, UInt8.ofNat r] else if r = 10 then [92, 110] else if r = 9 then [92, 116] else if r = 13 then [92, 114]
  else if r < 32 ∨ r = 127 then escB r else if strayAt s p = true then escB (s.get! p).toNat else if hiddenB r = true then [92, 117, 123] ++ hexL r ++ [125]
  else partL s p (Utf8.decode s p).2
def quoteFrom (s : ByteArray) : Nat → Nat → List UInt8
  | 0, _ => []
  | f + 1, p => if p < s.size then writtenL s p ++ quoteFrom s f (nextPos s p) else []
def quoteL (s : ByteArray) : List UInt8 := 34 :: (quoteFrom s s.size 0 ++ [34])
theorem quoteFrom_more (s : ByteArray) : ∀ (f g p : Nat), s.size ≤ p + f → s.size ≤ p + g → quoteFrom s f p = quoteFrom s g p
  | 0, 0, _, _, _ => rfl
  | 0, g + 1, p, h, _ => by unfold quoteFrom; rw [if_neg (by omega)]
  | f + 1, 0, p, _, h => by unfold quoteFrom; rw [if_neg (by omega)]
  | f + 1, g + 1, p, h1, h2 => by
    by_cases h : p < s.size
    · have := next_gt h
      show (if p < s.size then _ else _) = (if p < s.size then _ else _)
      rw [if_pos h, if_pos h, quoteFrom_more s f g (nextPos s p) (by omega) (by omega)]
    · show (if p < s.size then _ else _) = (if p < s.size then _ else _)
      rw [if_neg h, if_neg h]
theorem quoteFrom_step {s : ByteArray} {p : Nat} (h : p < s.size) : quoteFrom s s.size p = writtenL s p ++ quoteFrom s s.size (nextPos s p) := by
  obtain ⟨n, hn⟩ : ∃ n, s.size = n + 1 := ⟨s.size - 1, by omega⟩
  have e := quoteFrom_more s s.size n (nextPos s p) (by omega) (by have := next_gt h; omega)
  rw [e, hn]
  show (if p < s.size then _ else _) = _
  rw [if_pos h]
theorem quoteFrom_end {s : ByteArray} {f p : Nat} (h : ¬ p < s.size) : quoteFrom s f p = [] := by
  cases f with
  | zero => rfl
  | succ f => unfold quoteFrom; rw [if_neg h]
/-- What a hexadecimal digit is worth. -/
def hexV (b : UInt8) : Option Nat := if 48 ≤ b ∧ b ≤ 57 then some (b.toNat - 48) else if 97 ≤ b ∧ b ≤ 102 then some (b.toNat - 87) else none
def hexN : List UInt8 → Option Nat
  | [] => some 0
  | l => l.foldl (fun a b => match a, hexV b with | some a, some v => some (a * 16 + v) | _, _ => none) (some 0)
/-- A rune's bytes. -/
def encL (r : Nat) : List UInt8 :=
  if r < 0x80 then [UInt8.ofNat r] else if r < 0x800 then [UInt8.ofNat (0xC0 + r / 64), UInt8.ofNat (0x80 + r % 64)]
  else if r < 0x10000 then [UInt8.ofNat (0xE0 + r / 4096), UInt8.ofNat (0x80 + r / 64 % 64), UInt8.ofNat (0x80 + r % 64)]
  else [UInt8.ofNat (0xF0 + r / 262144), UInt8.ofNat (0x80 + r / 4096 % 64), UInt8.ofNat (0x80 + r / 64 % 64), UInt8.ofNat (0x80 + r % 64)]
def validR (r : Nat) : Bool := decide (r < 0xD800) || (decide (0xE000 ≤ r) && decide (r ≤ 0x10FFFF))
/-- The escape \u{..}: i stands on the u. -/
def bracedL (s : ByteArray) (i : Nat) : List UInt8 × Nat :=
  if i + 1 < s.size ∧ s.get! (i + 1) = 123 then
    match (s.data.toList.drop i).findIdx? (· == 125) with
    | some e => if 3 ≤ e ∧ e ≤ 8 then
        match hexN (partL s (i + 2) (e - 2)) with
        | some v => if validR v = true then (encL v, e + 1) else ([], 0)
        | none => ([], 0)
      else ([], 0)
    | none => ([], 0)
  else ([], 0)
/-- What an escape stands for; i stands behind the backslash. 0: it is none. -/
def unescL (s : ByteArray) (i : Nat) : List UInt8 × Nat :=
  if i < s.size then
    let b := s.get! i
    if b = 34 ∨ b = 92 then ([b], 1) else if b = 110 then ([10], 1) else if b = 116 then ([9], 1) else if b = 114 then ([13], 1)
    else if b = 120 then (if i + 2 < s.size then (match hexN (partL s (i + 1) 2) with | some v => ([UInt8.ofNat v], 3) | none => ([], 0)) else ([], 0))
    else if b = 117 then bracedL s i else ([], 0)
  else ([], 0)
/-- A literal read from i on: the error; or what it is and where it ends. -/
def unqFrom (s : ByteArray) : Nat → Nat → List UInt8 → Sum Int (List UInt8 × Nat)
  | 0, _, _ => .inl 25
  | f + 1, i, acc =>
    if ¬ i < s.size then .inl 25 else if s.get! i = 34 then .inr (acc, i)
    else if s.get! i = 92 then (if (unescL s (i + 1)).2 = 0 then .inl 27 else unqFrom s f (i + 1 + (unescL s (i + 1)).2) (acc ++ (unescL s (i + 1)).1))
    else if strayAt s i = true ∨ (Utf8.decode s i).1 < 32 ∨ (Utf8.decode s i).1 = 127 ∨ hiddenB (Utf8.decode s i).1 = true then .inl 26
    else unqFrom s f (nextPos s i) (acc ++ partL s i (Utf8.decode s i).2)
/-- What Unquote answers. -/
def unquoteR (s : ByteArray) (at_ : Int) : ByteArray × Int × Int :=
  if at_ < 0 ∨ (s.size : Int) < at_ then (⟨#[]⟩, 0, 1) else if at_ = (s.size : Int) ∨ s.get! at_.toNat ≠ 34 then (⟨#[]⟩, 0, 24)
  else match unqFrom s s.size (at_.toNat + 1) [] with
    | .inl e => (⟨#[]⟩, 0, e)
    | .inr (t, i) => if quoteL ⟨t.toArray⟩ = partL s at_.toNat (i + 1 - at_.toNat) then (⟨t.toArray⟩, (i : Int) + 1, 0) else (⟨#[]⟩, 0, 28)
end Go.Proofs.YtepmfjhhmnmmeaaDoor
