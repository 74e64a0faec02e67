/-
  What stands at a place of a line and what its rest begins with, in plain terms. Conditions: none.
-/
import Derived.Test.YtepmfjhhmnmmeaaDoorRefNumber
namespace Go.Proofs.YtepmfjhhmnmmeaaDoor
open Go.RowKit

theorem tail_tail (s : ByteArray) (i p : Nat) : (s.extract i s.size).extract p (s.extract i s.size).size = s.extract (i + p) s.size := by
  apply ByteArray.ext
  apply Array.toList_inj.1
  rw [tail_bytes, tail_bytes, tail_bytes, List.drop_drop]
theorem cut_tail (s : ByteArray) (i n : Nat) : s.extract i (i + n) = (s.extract i s.size).extract 0 n := by
  apply ByteArray.ext
  apply Array.toList_inj.1
  rw [part_extract, part_extract]
  unfold partL
  rw [tail_bytes, List.drop_zero, Nat.add_sub_cancel_left, Nat.sub_zero]
theorem stray_tail (s : ByteArray) (i p : Nat) : strayAt (s.extract i s.size) p = strayAt s (i + p) := by
  unfold strayAt
  rw [Lib.tail_decode]
theorem unesc_tail (s : ByteArray) (i p : Nat) (h : i + p ≤ s.size) : unescL (s.extract i s.size) p = unescL s (i + p) := by
  have h1 := unescL_tail (s.extract i s.size) p (by rw [tail_size]; omega)
  rw [← h1, tail_tail, unescL_tail s (i + p) h]
theorem unqFrom_tail (s : ByteArray) (i : Nat) (hi : i ≤ s.size) : ∀ (f p : Nat) (acc : List UInt8),
    (∀ e, unqFrom s f (i + p) acc = .inl e → unqFrom (s.extract i s.size) f p acc = .inl e) ∧ (∀ x q, unqFrom s f (i + p) acc = .inr (x, q) → i ≤ q ∧ unqFrom (s.extract i s.size) f p acc = .inr (x, q - i))
  | 0, p, acc => ⟨fun e h => by cases h; rfl, fun x q h => by cases h⟩
  | f + 1, p, acc => by
    unfold unqFrom
    rw [tail_size]
    by_cases hp : i + p < s.size
    · rw [if_neg (show ¬ ¬ i + p < s.size by omega), if_neg (show ¬ ¬ p < s.size - i by omega), tail_get s i p hp]
      by_cases c1 : s.get! (i + p) = 34
      · rw [if_pos c1, if_pos c1]
        exact ⟨fun e h => (by cases h), fun x q h => by cases h; exact ⟨by omega, by rw [Nat.add_sub_cancel_left]⟩⟩
      rw [if_neg c1, if_neg c1]
      by_cases c2 : s.get! (i + p) = 92
      · rw [if_pos c2, if_pos c2, unesc_tail s i (p + 1) (by omega), show i + (p + 1) = i + p + 1 by omega]
        by_cases c3 : (unescL s (i + p + 1)).2 = 0
        · rw [if_pos c3, if_pos c3]
          exact ⟨fun e h => h, fun x q h => by cases h⟩
        · rw [if_neg c3, if_neg c3, show i + p + 1 + (unescL s (i + p + 1)).2 = i + (p + 1 + (unescL s (i + p + 1)).2) by omega]
          exact unqFrom_tail s i hi f _ _
      rw [if_neg c2, if_neg c2, stray_tail, Lib.tail_decode]
      by_cases c4 : strayAt s (i + p) = true ∨ (Utf8.decode s (i + p)).1 < 32 ∨ (Utf8.decode s (i + p)).1 = 127 ∨ hiddenB (Utf8.decode s (i + p)).1 = true
      · rw [if_pos c4, if_pos c4]
        exact ⟨fun e h => h, fun x q h => by cases h⟩
      · rw [if_neg c4, if_neg c4, tail_part]
        unfold nextPos
        rw [Lib.tail_decode, show i + p + (Utf8.decode s (i + p)).2 = i + (p + (Utf8.decode s (i + p)).2) by omega]
        exact unqFrom_tail s i hi f _ _
    · rw [if_pos (show ¬ i + p < s.size from hp), if_pos (show ¬ p < s.size - i by omega)]
      exact ⟨fun e h => h, fun x q h => by cases h⟩
/-- A literal at a place is the literal with which the rest begins. -/
theorem unquote_tail (s : ByteArray) (i : Nat) (hi : i < s.size) (hq : s.get! i = 34) :
    (∃ er, er ≠ 0 ∧ unquoteR (s.extract i s.size) 0 = (⟨#[]⟩, 0, er) ∧ unquoteR s (i : Int) = (⟨#[]⟩, 0, er)) ∨ (∃ (v : ByteArray) (n : Nat), unquoteR (s.extract i s.size) 0 = (v, (n : Int), 0) ∧ unquoteR s (i : Int) = (v, ((i + n : Nat) : Int), 0)) := by
  have hts : (s.extract i s.size).size = s.size - i := tail_size s i
  have h1 := unq_head hi hq
  have hq0 : (s.extract i s.size).get! 0 = 34 := by rw [tail_get s i 0 (by omega)]; exact hq
  have h2 := unq_head (s := s.extract i s.size) (a := 0) (by omega) hq0
  have hm : unqFrom (s.extract i s.size) (s.extract i s.size).size (0 + 1) [] = unqFrom (s.extract i s.size) s.size 1 [] := unqFrom_more _ _ _ _ _ (by omega) (by omega)
  have ht := unqFrom_tail s i (by omega) s.size 1 []
  have he := textOne.unq_ends s s.size (i + 1) []
  rw [hm] at h2
  rw [show ((0 : Nat) : Int) = 0 from rfl] at h2
  cases hx : unqFrom s s.size (i + 1) [] with
  | inl e =>
    rw [hx] at h1
    rw [ht.1 e hx] at h2
    exact Or.inl ⟨e, he.1 e hx, h2, h1⟩
  | inr y =>
    obtain ⟨x, q⟩ := y
    obtain ⟨hiq, h3⟩ := ht.2 x q hx
    have hlt := he.2 x q hx
    rw [hx] at h1
    rw [h3] at h2
    simp only at h1 h2
    have hp : partL (s.extract i s.size) 0 (q - i + 1 - 0) = partL s i (q + 1 - i) := by
      rw [tail_part, Nat.add_zero, show q - i + 1 - 0 = q + 1 - i by omega]
    rw [hp] at h2
    by_cases hc : quoteL ⟨x.toArray⟩ = partL s i (q + 1 - i)
    · rw [if_pos hc] at h1 h2
      refine Or.inr ⟨⟨x.toArray⟩, q - i + 1, ?_, ?_⟩
      · rw [h2]
        congr 1
      · rw [h1]
        congr 2
        omega
    · rw [if_neg hc] at h1 h2
      exact Or.inl ⟨28, by decide, h2, h1⟩
/-- Does the name go on at p? -/
theorem name_at {s : ByteArray} {i p : Nat} (h0 : letterB (Utf8.decode s i).1 = true) : inNameB (pieceR s (i + p)) = !nameStop (s.extract i s.size) p := by
  unfold nameStop
  rw [stray_tail, Lib.tail_decode]
  unfold pieceR
  cases hs : strayAt s (i + p) with
  | true => rw [if_pos rfl]; rfl
  | false =>
    rw [if_neg (by simp)]
    by_cases hp : p = 0
    · subst hp
      rw [Nat.add_zero, h0]
      simp
    · simp [hp]
end Go.Proofs.YtepmfjhhmnmmeaaDoor
