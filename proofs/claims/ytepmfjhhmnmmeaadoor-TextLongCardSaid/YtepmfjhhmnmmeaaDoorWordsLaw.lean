/-
  The words of a line in plain terms. Conditions: none.
-/
import Derived.Test.YtepmfjhhmnmmeaaDoorUnqLaw
import Derived.Test.YtepmfjhhmnmmeaaDoorNameFns
namespace Go.Proofs.YtepmfjhhmnmmeaaDoor
open Go.RowKit

/-- A word's data. -/
structure WordD where
  kind : Int
  at_ : Int
  text : ByteArray
  num : Int
def WordD.cells (d : WordD) : List Value := [.int .i64 d.kind, .int .i64 d.at_, .string d.text, .int .i64 d.num]
def signsL : List UInt8 := [58, 44, 59, 126, 33, 61, 47, 64, 42, 43, 40, 41]
def signB (b : UInt8) : Bool := signsL.contains b
def blankB (b : UInt8) : Bool := b == 32 || b == 9
def digB (b : UInt8) : Bool := decide (48 ≤ b.toNat) && decide (b.toNat ≤ 57)
/-- What digits are worth, counted downwards. -/
def foldD : List UInt8 → Int → Option Int
  | [], v => some v
  | b :: l, v => if v < (-9223372036854775808 + ((b.toNat : Int) - 48)).tdiv 10 then none else foldD l (v * 10 - ((b.toNat : Int) - 48))
def worthD (neg : Bool) (one : Bool) (d : List UInt8) : Option Int :=
  if d.headD 0 = 48 ∧ one = false then none else match foldD d 0 with
    | none => none
    | some v => if neg = true then some v else if v = -9223372036854775808 then none else some (-v)
def worthL (l : List UInt8) : Option Int :=
  if l.headD 0 = 45 then worthD true (decide (l.length ≤ 1)) l.tail else worthD false (decide (l.length ≤ 1)) l
def runEnd (t : ByteArray) : Nat → Nat → Nat
  | 0, p => p
  | f + 1, p => if p < t.size ∧ digB (t.get! p) = true then runEnd t f (p + 1) else p
def numberT (t : ByteArray) : Sum (Int × Nat) (WordD × Nat) :=
  match worthL (t.data.toList.take (runEnd t t.size 1)) with
  | none => .inl (29, 0)
  | some v => .inr (⟨2, 0, t.extract 0 (runEnd t t.size 1), v⟩, runEnd t t.size 1)
/-- Does a name end at p? -/
def nameStop (t : ByteArray) (p : Nat) : Bool := strayAt t p || !inNameB (Utf8.decode t p).1 || (p == 0 && !letterB (Utf8.decode t p).1)
def nameScan (t : ByteArray) : Nat → Nat → Nat → Sum Nat (Nat × Nat)
  | 0, p, c => .inr (p, c)
  | f + 1, p, c => if ¬ p < t.size then .inr (p, c) else if nameStop t p = true then .inr (p, c) else if c = 48 then .inl p else nameScan t f (nextPos t p) (c + 1)
def otherE (t : ByteArray) : Int := if strayAt t 0 = true then 21 else 22
def nameT (t : ByteArray) : Sum (Int × Nat) (WordD × Nat) :=
  match nameScan t t.size 0 0 with
  | .inl p => .inl (23, p)
  | .inr (e, c) => if c = 0 then .inl (otherE t, 0) else .inr (⟨1, 0, t.extract 0 e, 0⟩, e)
def litT (t : ByteArray) : Sum (Int × Nat) (WordD × Nat) :=
  if (unquoteR t 0).2.2 = 0 then .inr (⟨3, 0, (unquoteR t 0).1, 0⟩, (unquoteR t 0).2.1.toNat) else .inl ((unquoteR t 0).2.2, 0)
def numB (t : ByteArray) : Bool := digB (t.get! 0) || (t.get! 0 == 45 && decide (1 < t.size) && digB (t.get! 1))
def wordT (t : ByteArray) : Sum (Int × Nat) (WordD × Nat) :=
  if t.get! 0 = 34 then litT t else if signB (t.get! 0) = true then .inr (⟨4, 0, t.extract 0 1, 0⟩, 1) else if numB t = true then numberT t else nameT t
def WordD.put (d : WordD) (i : Nat) : WordD := ⟨d.kind, i, d.text, d.num⟩
/-- Nothing of a line may stand at j behind a word. -/
def gapless (s : ByteArray) (d : WordD) (j : Nat) : Bool := d.kind != 4 && decide (j < s.size) && !blankB (s.get! j) && s.get! j != 35 && !signB (s.get! j)
def wordsFrom (s : ByteArray) : Nat → Nat → List WordD → List WordD × Int × Int
  | 0, _, out => (out, 0, 0)
  | f + 1, i, out =>
    if ¬ i < s.size then (out, 0, 0) else if s.get! i = 35 then (out, 0, 0) else if blankB (s.get! i) = true then wordsFrom s f (i + 1) out
    else match wordT (s.extract i s.size) with
      | .inl (e, p) => ([], e, ((i + p : Nat) : Int))
      | .inr (d, n) => if gapless s d (i + n) = true then ([], otherE (s.extract (i + n) s.size), ((i + n : Nat) : Int)) else wordsFrom s f (i + n) (out ++ [d.put i])
def wordsR (s : ByteArray) : List WordD × Int × Int := if 65536 < s.size then ([], 2, 65536) else wordsFrom s s.size 0 []

theorem run_ge (t : ByteArray) : ∀ (f p : Nat), p ≤ runEnd t f p
  | 0, p => Nat.le_refl _
  | f + 1, p => by
    unfold runEnd
    split
    · exact Nat.le_trans (Nat.le_succ p) (run_ge t f (p + 1))
    · exact Nat.le_refl _
theorem run_le (t : ByteArray) : ∀ (f p : Nat), p ≤ t.size → runEnd t f p ≤ t.size
  | 0, p, h => h
  | f + 1, p, h => by
    unfold runEnd
    split
    · rename_i hh
      exact run_le t f (p + 1) (by omega)
    · exact h
theorem run_more (t : ByteArray) : ∀ (f g p : Nat), t.size ≤ p + f → t.size ≤ p + g → runEnd t f p = runEnd t g p
  | 0, 0, _, _, _ => rfl
  | 0, g + 1, p, h, _ => by
    unfold runEnd
    rw [if_neg (by omega)]
  | f + 1, 0, p, _, h => by
    unfold runEnd
    rw [if_neg (by omega)]
  | f + 1, g + 1, p, h1, h2 => by
    unfold runEnd
    rw [run_more t f g (p + 1) (by omega) (by omega)]
/-- Where the run of digits stands. -/
def RunTo (t : ByteArray) (p : Nat) : Prop := runEnd t t.size 1 = runEnd t t.size p
theorem RunTo.next {t : ByteArray} {p : Nat} (h : RunTo t p) (hp : p < t.size) (hd : digB (t.get! p) = true) : RunTo t (p + 1) := by
  unfold RunTo at *
  rw [h, run_more t t.size (t.size + 1) p (by omega) (by omega)]
  show (if p < t.size ∧ digB (t.get! p) = true then runEnd t t.size (p + 1) else p) = _
  rw [if_pos ⟨hp, hd⟩]
theorem RunTo.stop {t : ByteArray} {p : Nat} (h : RunTo t p) (hp : ¬ (p < t.size ∧ digB (t.get! p) = true)) : runEnd t t.size 1 = p := by
  unfold RunTo at h
  rw [h, run_more t t.size (t.size + 1) p (by omega) (by omega)]
  show (if p < t.size ∧ digB (t.get! p) = true then runEnd t t.size (p + 1) else p) = _
  rw [if_neg hp]
theorem scan_more (t : ByteArray) : ∀ (f g p c : Nat), t.size ≤ p + f → t.size ≤ p + g → nameScan t f p c = nameScan t g p c
  | 0, 0, _, _, _, _ => rfl
  | 0, g + 1, p, c, h, _ => by
    unfold nameScan
    rw [if_pos (by omega)]
  | f + 1, 0, p, c, _, h => by
    unfold nameScan
    rw [if_pos (by omega)]
  | f + 1, g + 1, p, c, h1, h2 => by
    unfold nameScan
    by_cases hp : p < t.size
    · have := next_gt hp
      rw [scan_more t f g (nextPos t p) (c + 1) (by omega) (by omega)]
    · rw [if_pos hp, if_pos hp]
/-- Where the scan of a name stands. -/
def ScanAt (t : ByteArray) (p c : Nat) : Prop := nameScan t t.size 0 0 = nameScan t t.size p c
theorem scan_body (t : ByteArray) (p c : Nat) : nameScan t t.size p c = if ¬ p < t.size then .inr (p, c) else if nameStop t p = true then .inr (p, c) else if c = 48 then .inl p else nameScan t t.size (nextPos t p) (c + 1) := by
  rw [scan_more t t.size (t.size + 1) p c (by omega) (by omega)]
  rfl
theorem ScanAt.next {t : ByteArray} {p c : Nat} (h : ScanAt t p c) (hp : p < t.size) (hs : nameStop t p = false) (hc : c ≠ 48) : ScanAt t (nextPos t p) (c + 1) := by
  unfold ScanAt at *
  rw [h, scan_body, if_neg (by omega), if_neg (by rw [hs]; simp), if_neg hc]
theorem ScanAt.stop {t : ByteArray} {p c : Nat} (h : ScanAt t p c) (hs : p < t.size → nameStop t p = true) : nameScan t t.size 0 0 = .inr (p, c) := by
  unfold ScanAt at h
  rw [h, scan_body]
  by_cases hp : p < t.size
  · rw [if_neg (by omega), if_pos (hs hp)]
  · rw [if_pos hp]
theorem ScanAt.long {t : ByteArray} {p c : Nat} (h : ScanAt t p c) (hp : p < t.size) (hs : nameStop t p = false) (hc : c = 48) : nameScan t t.size 0 0 = .inl p := by
  unfold ScanAt at h
  rw [h, scan_body, if_neg (by omega), if_neg (by rw [hs]; simp), if_pos hc]
theorem words_more (s : ByteArray) (hw : ∀ i, i < s.size → ∀ d n, wordT (s.extract i s.size) = .inr (d, n) → 0 < n) : ∀ (f g i : Nat) (out : List WordD), s.size ≤ i + f → s.size ≤ i + g → wordsFrom s f i out = wordsFrom s g i out
  | 0, 0, _, _, _, _ => rfl
  | 0, g + 1, i, out, h, _ => by
    unfold wordsFrom
    rw [if_pos (by omega)]
  | f + 1, 0, i, out, _, h => by
    unfold wordsFrom
    rw [if_pos (by omega)]
  | f + 1, g + 1, i, out, h1, h2 => by
    unfold wordsFrom
    by_cases hi : i < s.size
    · rw [words_more s hw f g (i + 1) out (by omega) (by omega)]
      cases hx : wordT (s.extract i s.size) with
      | inl x => rfl
      | inr x =>
        obtain ⟨d, n⟩ := x
        have hn := hw i hi d n hx
        simp only
        rw [words_more s hw f g (i + n) (out ++ [d.put i]) (by omega) (by omega)]
    · rw [if_pos hi, if_pos hi]
end Go.Proofs.YtepmfjhhmnmmeaaDoor
