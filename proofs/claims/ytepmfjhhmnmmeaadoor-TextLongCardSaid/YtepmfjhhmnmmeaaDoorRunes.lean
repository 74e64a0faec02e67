/-
  Runes of a text as plain Lean: where the k-th piece begins, which bytes are stray, the first k pieces; no program. Conditions: none.
-/
import Derived.Laws.Runes
import Derived.Laws.RangeAny
import Derived.Lib.RuneCount
import Derived.Lib.RuneCountTail
import Derived.Lib.QuoteLoop
import Derived.Lib.DecodeN
import Derived.Shelf.Unicode.DecodeSlow
namespace Go.Proofs.YtepmfjhhmnmmeaaDoor

def nextPos (s : ByteArray) (p : Nat) : Nat := p + (Utf8.decode s p).2
/-- Where the k-th piece begins; the size from the last one on. -/
def posAt (s : ByteArray) : Nat → Nat
  | 0 => 0
  | k + 1 => if posAt s k < s.size then nextPos s (posAt s k) else posAt s k
def strayAt (s : ByteArray) (p : Nat) : Bool := (Utf8.decode s p).1 == 65533 && (Utf8.decode s p).2 == 1
def clipN (s : ByteArray) (k : Nat) : ByteArray := s.extract 0 (posAt s k)
def clip (s : ByteArray) (n : Int) : ByteArray := clipN s n.toNat

theorem width_pos {s : ByteArray} {p : Nat} (h : p < s.size) : 1 ≤ (Utf8.decode s p).2 := Lib.decode_width_pos s p h
theorem width_le' {s : ByteArray} {p : Nat} (h : p < s.size) : nextPos s p ≤ s.size := by
  unfold nextPos
  rw [Lib.decode_at]
  have := Lib.decodeN_width_le (s.size - p) (s.get! p).toNat (s.get! (p + 1)).toNat (s.get! (p + 2)).toNat (s.get! (p + 3)).toNat (by omega)
  omega
theorem next_gt {s : ByteArray} {p : Nat} (h : p < s.size) : p < nextPos s p := by
  have := width_pos h
  unfold nextPos
  omega
theorem posAt_succ {s : ByteArray} {k : Nat} (h : posAt s k < s.size) : posAt s (k + 1) = nextPos s (posAt s k) := by simp [posAt, h]
theorem posAt_stay {s : ByteArray} {k : Nat} (h : ¬ posAt s k < s.size) : posAt s (k + 1) = posAt s k := by simp [posAt, h]
theorem posAt_le (s : ByteArray) (k : Nat) : posAt s k ≤ s.size := by
  induction k with
  | zero => exact Nat.zero_le _
  | succ k ih =>
    by_cases h : posAt s k < s.size
    · rw [posAt_succ h]; exact width_le' h
    · rw [posAt_stay h]; exact ih
theorem posAt_mono1 (s : ByteArray) (k : Nat) : posAt s k ≤ posAt s (k + 1) := by
  by_cases h : posAt s k < s.size
  · rw [posAt_succ h]; exact Nat.le_of_lt (next_gt h)
  · rw [posAt_stay h]; exact Nat.le_refl _
theorem posAt_mono (s : ByteArray) {j k : Nat} (h : j ≤ k) : posAt s j ≤ posAt s k := by
  induction h with
  | refl => exact Nat.le_refl _
  | step _ ih => exact Nat.le_trans ih (posAt_mono1 s _)
theorem posAt_ge {s : ByteArray} {k : Nat} (h : posAt s k < s.size) : k ≤ posAt s k := by
  induction k with
  | zero => exact Nat.zero_le _
  | succ k ih =>
    have h0 : posAt s k < s.size := by have := posAt_mono1 s k; omega
    rw [posAt_succ h0]
    have := next_gt h0
    have := ih h0
    omega
theorem posAt_end (s : ByteArray) {k : Nat} (h : s.size ≤ k) : posAt s k = s.size := by
  have h1 := posAt_le s k
  by_cases h2 : posAt s k < s.size
  · have := posAt_ge h2; omega
  · omega
theorem posAt_stays {s : ByteArray} {j k : Nat} (h : posAt s j = s.size) (hk : j ≤ k) : posAt s k = s.size := by
  have := posAt_mono s hk
  have := posAt_le s k
  omega

/-- A piece that lies within what is left of a text is the same piece there. -/
theorem decodeN_cut (n m b0 b1 b2 b3 c1 c2 c3 : Nat) (h0 : 1 ≤ m) (hm : m ≤ n) (hw : (Lib.decodeN n b0 b1 b2 b3).2 ≤ m) (e1 : 1 < m → c1 = b1) (e2 : 2 < m → c2 = b2) (e3 : 3 < m → c3 = b3) :
    Lib.decodeN m b0 c1 c2 c3 = Lib.decodeN n b0 b1 b2 b3 := by
  by_cases k1 : 1 < m
  · have := e1 k1; subst this
    by_cases k2 : 2 < m
    · have := e2 k2; subst this
      by_cases k3 : 3 < m
      · have := e3 k3; subst this
        have n1 : 1 < n := by omega
        have n2 : 2 < n := by omega
        have n3 : 3 < n := by omega
        unfold Lib.decodeN
        simp only [n1, n2, n3, k1, k2, k3]
      · have n1 : 1 < n := by omega
        have n2 : 2 < n := by omega
        unfold Lib.decodeN at hw ⊢
        simp only [n1, n2, k1, k2, k3, true_and, false_and, and_false, if_false] at hw ⊢
        repeat' split
        all_goals first | rfl | (exfalso; simp_all; done) | (exfalso; simp_all; omega) | (simp_all; done)
    · have n1 : 1 < n := by omega
      have k3 : ¬ 3 < m := by omega
      unfold Lib.decodeN at hw ⊢
      simp only [n1, k1, k2, k3, true_and, false_and, and_false, if_false] at hw ⊢
      repeat' split
      all_goals first | rfl | (exfalso; simp_all; done) | (exfalso; simp_all; omega) | (simp_all; done)
  · have k2 : ¬ 2 < m := by omega
    have k3 : ¬ 3 < m := by omega
    unfold Lib.decodeN at hw ⊢
    simp only [k1, k2, k3, false_and, and_false, if_false] at hw ⊢
    repeat' split
    all_goals first | rfl | (exfalso; simp_all; done) | (exfalso; simp_all; omega) | (simp_all; done)

theorem head_get (s : ByteArray) (q j : Nat) (h : j < q) (hq : q ≤ s.size) : (s.extract 0 q).get! j = s.get! j := by
  have h1 : j < (s.extract 0 q).size := by rw [ByteArray.size_extract]; omega
  rw [Utf8W.get!_of_lt _ _ h1, Utf8W.get!_of_lt _ _ (by omega)]
  simp [ByteArray.getElem_extract]
theorem head_decode (s : ByteArray) (p q : Nat) (hp : p < q) (hq : q ≤ s.size) (hw : nextPos s p ≤ q) : Utf8.decode (s.extract 0 q) p = Utf8.decode s p := by
  have hsz : (s.extract 0 q).size = q := by rw [ByteArray.size_extract]; omega
  unfold nextPos at hw
  rw [Lib.decode_at] at hw
  rw [Lib.decode_at, Lib.decode_at, hsz, head_get s q p hp hq]
  exact decodeN_cut _ _ _ _ _ _ _ _ _ (by omega) (by omega) (by omega) (fun h => by rw [head_get s q _ (by omega) hq]) (fun h => by rw [head_get s q _ (by omega) hq]) (fun h => by rw [head_get s q _ (by omega) hq])
end Go.Proofs.YtepmfjhhmnmmeaaDoor
