/-
  How a literal is read, step by step, in plain terms. Conditions: none.
-/
import Derived.Test.YtepmfjhhmnmmeaaDoorUnesc
namespace Go.Proofs.YtepmfjhhmnmmeaaDoor
open Go.RowKit

theorem dlen (s : ByteArray) : s.data.toList.length = s.size := rfl
theorem bracedL_le (s : ByteArray) (i : Nat) (h : i ≤ s.size) : i + (bracedL s i).2 ≤ s.size := by
  unfold bracedL
  split
  · cases hf : (s.data.toList.drop i).findIdx? (· == 125) with
    | none => simpa using h
    | some e =>
      have he := find_lt hf
      rw [List.length_drop, dlen] at he
      simp only
      split
      · cases hn : hexN (partL s (i + 2) (e - 2)) with
        | none => simpa using h
        | some v =>
          simp only
          split
          · simp only; omega
          · simpa using h
      · simpa using h
  · simpa using h
theorem unescL_le (s : ByteArray) (i : Nat) (h : i ≤ s.size) : i + (unescL s i).2 ≤ s.size := by
  unfold unescL
  have := bracedL_le s i h
  simp only
  repeat' split
  all_goals first | omega | (simp only; omega)
theorem encL_len (r : Nat) : (encL r).length ≤ 4 := by
  unfold encL
  repeat' split
  all_goals simp
theorem bracedL_len (s : ByteArray) (i : Nat) : (bracedL s i).1.length ≤ 4 := by
  unfold bracedL
  repeat' split
  all_goals first | exact encL_len _ | simp
theorem unescL_len (s : ByteArray) (i : Nat) : (unescL s i).1.length ≤ 4 := by
  unfold unescL
  have := bracedL_len s i
  simp only
  repeat' split
  all_goals first | exact this | simp
theorem tail_bytes (s : ByteArray) (i : Nat) : (s.extract i s.size).data.toList = s.data.toList.drop i := by
  rw [part_extract]
  unfold partL
  exact List.take_of_length_le (by rw [List.length_drop, dlen]; omega)
theorem tail_part (s : ByteArray) (i a n : Nat) : partL (s.extract i s.size) a n = partL s (i + a) n := by
  unfold partL
  rw [tail_bytes, List.drop_drop]
theorem tail_get (s : ByteArray) (i k : Nat) (h : i + k < s.size) : (s.extract i s.size).get! k = s.get! (i + k) := by
  have h2 : k < (s.extract i s.size).size := by rw [ByteArray.size_extract]; omega
  rw [← get_at' h2, ← get_at' h]
  simp [ByteArray.getElem_extract]
theorem tail_size (s : ByteArray) (i : Nat) : (s.extract i s.size).size = s.size - i := by rw [ByteArray.size_extract]; omega
theorem bracedL_tail (s : ByteArray) (i : Nat) (_h : i ≤ s.size) : bracedL (s.extract i s.size) 0 = bracedL s i := by
  unfold bracedL
  have hc : (0 + 1 < (s.extract i s.size).size ∧ (s.extract i s.size).get! (0 + 1) = 123) ↔ (i + 1 < s.size ∧ s.get! (i + 1) = 123) := by
    rw [tail_size]
    constructor
    · rintro ⟨a, b⟩
      rw [tail_get s i (0 + 1) (by omega)] at b
      exact ⟨by omega, b⟩
    · rintro ⟨a, b⟩
      refine ⟨by omega, ?_⟩
      rw [tail_get s i (0 + 1) (by omega)]
      exact b
  by_cases hh : i + 1 < s.size ∧ s.get! (i + 1) = 123
  · rw [if_pos hh, if_pos (hc.2 hh), List.drop_zero, tail_bytes]
    cases (s.data.toList.drop i).findIdx? (· == 125) with
    | none => rfl
    | some e => simp only [tail_part, Nat.zero_add]
  · rw [if_neg hh, if_neg (fun k => hh (hc.1 k))]
theorem unescL_tail (s : ByteArray) (i : Nat) (h : i ≤ s.size) : unescL (s.extract i s.size) 0 = unescL s i := by
  unfold unescL
  rw [tail_size, bracedL_tail s i h]
  by_cases h0 : i < s.size
  · rw [if_pos h0, if_pos (by omega), tail_get s i 0 (by omega), tail_part]
    simp only [Nat.add_zero, Nat.zero_add]
    have e : (2 < s.size - i) = (i + 2 < s.size) := by rw [eq_iff_iff]; omega
    simp only [e]
  · rw [if_neg h0, if_neg (by omega)]
theorem unqFrom_more (s : ByteArray) : ∀ (f g p : Nat) (acc : List UInt8), s.size ≤ p + f → s.size ≤ p + g → unqFrom s f p acc = unqFrom s g p acc
  | 0, 0, _, _, _, _ => rfl
  | 0, g + 1, p, acc, h, _ => by
    show Sum.inl 25 = unqFrom s (g + 1) p acc
    unfold unqFrom
    rw [if_pos (by omega)]
  | f + 1, 0, p, acc, _, h => by
    show unqFrom s (f + 1) p acc = Sum.inl 25
    unfold unqFrom
    rw [if_pos (by omega)]
  | f + 1, g + 1, p, acc, h1, h2 => by
    by_cases hp : p < s.size
    · have := next_gt hp
      unfold unqFrom
      have e1 := fun (h0 : ¬ (unescL s (p + 1)).2 = 0) => unqFrom_more s f g (p + 1 + (unescL s (p + 1)).2) (acc ++ (unescL s (p + 1)).1) (by omega) (by omega)
      have e2 := unqFrom_more s f g (nextPos s p) (acc ++ partL s p (Utf8.decode s p).2) (by omega) (by omega)
      rw [e2]
      by_cases h0 : (unescL s (p + 1)).2 = 0
      · simp only [h0, if_true]
      · rw [e1 h0]
    · unfold unqFrom
      rw [if_pos hp, if_pos hp]
theorem unqFrom_body {s : ByteArray} {p : Nat} {acc : List UInt8} (hp : p < s.size) : unqFrom s s.size p acc =
    if s.get! p = 34 then .inr (acc, p)
    else if s.get! p = 92 then (if (unescL s (p + 1)).2 = 0 then .inl 27 else unqFrom s s.size (p + 1 + (unescL s (p + 1)).2) (acc ++ (unescL s (p + 1)).1))
    else if strayAt s p = true ∨ (Utf8.decode s p).1 < 32 ∨ (Utf8.decode s p).1 = 127 ∨ hiddenB (Utf8.decode s p).1 = true then .inl 26
    else unqFrom s s.size (nextPos s p) (acc ++ partL s p (Utf8.decode s p).2) := by
  rw [unqFrom_more s s.size (s.size + 1) p acc (by omega) (by omega)]
  show (if ¬ p < s.size then _ else _) = _
  rw [if_neg (by omega)]
theorem unqFrom_open {s : ByteArray} {p : Nat} {acc : List UInt8} (hp : ¬ p < s.size) : unqFrom s s.size p acc = .inl 25 := by
  rw [unqFrom_more s s.size 1 p acc (by omega) (by omega)]
  show (if ¬ p < s.size then _ else _) = _
  rw [if_pos hp]
end Go.Proofs.YtepmfjhhmnmmeaaDoor
