/-
  The reference's reading of \u{..}, digit by digit, in plain terms. Conditions: none.
-/
import Derived.Test.YtepmfjhhmnmmeaaDoorRefEnc
namespace Go.Proofs.YtepmfjhhmnmmeaaDoor
open Go.RowKit

theorem part_zero (s : ByteArray) (p : Nat) : partL s p 0 = [] := by unfold partL; simp
theorem part_next {s : ByteArray} {p d : Nat} (h : p + d < s.size) : partL s p (d + 1) = partL s p d ++ [s.get! (p + d)] := by
  unfold partL
  have hl : d < (s.data.toList.drop p).length := by rw [List.length_drop, dlen]; omega
  rw [List.take_succ_eq_append_getElem hl, List.getElem_drop]
  congr 2
  rw [← get_at' h]
  rfl
theorem hexStep_at {l : List UInt8} {v : Nat} (h : hexN l = some v) (b : UInt8) : hexN (l ++ [b]) = hexStep (some v) b := by
  rw [hexN_fold] at h ⊢
  rw [List.foldl_append, h]
  rfl
theorem hexN_all : ∀ (l : List UInt8) (v : Nat), hexN l = some v → ∀ b ∈ l, hexV b ≠ none := by
  intro l v h
  rw [hexN_fold] at h
  have key : ∀ (l : List UInt8) (a : Option Nat) (v : Nat), l.foldl hexStep a = some v → ∀ b ∈ l, hexV b ≠ none := by
    intro l
    induction l with
    | nil => intro a v _ b hb; cases hb
    | cons c l ih =>
      intro a v h b hb
      rw [List.foldl_cons] at h
      rcases List.mem_cons.1 hb with rfl | hb
      · intro hn
        have : hexStep a b = none := by unfold hexStep; rw [hn]; cases a <;> rfl
        rw [this, hexStep_none] at h
        cases h
      · exact ih _ v h b hb
  exact key l (some 0) v h
theorem part_mem {s : ByteArray} {p n i : Nat} (h1 : i < n) (h2 : p + i < s.size) : s.get! (p + i) ∈ partL s p n := by
  unfold partL
  rw [← get_at' h2, List.mem_iff_getElem]
  have hl : i < ((s.data.toList.drop p).take n).length := by rw [List.length_take, List.length_drop, dlen]; omega
  refine ⟨i, hl, ?_⟩
  rw [List.getElem_take, List.getElem_drop]
  rfl
theorem find_at {s : ByteArray} {j e : Nat} (h1 : j + e < s.size) (h2 : s.get! (j + e) = 125) (h3 : ∀ i, i < e → s.get! (j + i) ≠ 125) : (s.data.toList.drop j).findIdx? (· == 125) = some e := by
  have hl : e < (s.data.toList.drop j).length := by rw [List.length_drop, dlen]; omega
  rw [List.findIdx?_eq_some_iff_getElem]
  refine ⟨hl, ?_, ?_⟩
  · rw [List.getElem_drop]
    have : s.data.toList[j + e]'(by rw [dlen]; omega) = s.get! (j + e) := by rw [← get_at' h1]; rfl
    rw [this, h2]
    rfl
  · intro i hi
    rw [List.getElem_drop]
    have : s.data.toList[j + i]'(by rw [dlen]; omega) = s.get! (j + i) := by rw [← get_at' (show j + i < s.size by omega)]; rfl
    rw [this]
    simpa using h3 i hi
theorem find_is {s : ByteArray} {j e : Nat} (h : (s.data.toList.drop j).findIdx? (· == 125) = some e) : j + e < s.size ∧ s.get! (j + e) = 125 := by
  rw [List.findIdx?_eq_some_iff_getElem] at h
  obtain ⟨hl, h2, _⟩ := h
  rw [List.length_drop, dlen] at hl
  have h3 : j + e < s.size := by omega
  refine ⟨h3, ?_⟩
  rw [List.getElem_drop] at h2
  have : s.data.toList[j + e]'(by rw [dlen]; omega) = s.get! (j + e) := by rw [← get_at' h3]; rfl
  rw [this] at h2
  simpa using h2
/-- Where the run of digits ends. -/
structure RunAt (s : ByteArray) (j d v : Nat) : Prop where
  room : j + 2 + d ≤ s.size
  most : d ≤ 6
  val : hexN (partL s (j + 2) d) = some v
theorem RunAt.next {s : ByteArray} {j d v k : Nat} (h : RunAt s j d v) (h1 : j + 2 + d < s.size) (h2 : d < 6) (hk : hexV (s.get! (j + 2 + d)) = some k) : RunAt s j (d + 1) (v * 16 + k) := by
  refine ⟨by omega, by omega, ?_⟩
  rw [part_next (by omega), hexStep_at h.val]
  unfold hexStep
  rw [hk]
theorem RunAt.digit {s : ByteArray} {j d v i : Nat} (h : RunAt s j d v) (hi : i < d) : hexV (s.get! (j + 2 + i)) ≠ none :=
  hexN_all _ _ h.val _ (part_mem hi (by have := h.room; omega))
/-- What the reference says of the run is what the program says. -/
theorem run_good {s : ByteArray} {j d v : Nat} (h : RunAt s j d v) (hu : s.get! j = 117) (hb : s.get! (j + 1) = 123) (h1 : 0 < d) (h2 : j + 2 + d < s.size) (h3 : s.get! (j + 2 + d) = 125) (h4 : validR v = true) : bracedL s j = (encL v, d + 3) := by
  have hm := h.most
  have hf := find_at (s := s) (j := j) (e := d + 2) (by omega) (by rw [show j + (d + 2) = j + 2 + d by omega]; exact h3) (fun i hi => by
    by_cases i0 : i = 0
    · subst i0
      rw [Nat.add_zero, hu]
      decide
    · by_cases i1 : i = 1
      · subst i1
        rw [hb]
        decide
      · intro e
        have := h.digit (i := i - 2) (by omega)
        rw [show j + 2 + (i - 2) = j + i by omega, e] at this
        exact this (by decide))
  unfold bracedL
  rw [if_pos ⟨by omega, hb⟩, hf]
  simp only
  rw [if_pos (by omega), show d + 2 - 2 = d by omega, h.val]
  simp only
  rw [if_pos h4]
theorem run_bad {s : ByteArray} {j d v : Nat} (h : RunAt s j d v) (hstop : j + 2 + d = s.size ∨ d = 6 ∨ hexV (s.get! (j + 2 + d)) = none) (h5 : d = 0 ∨ j + 2 + d = s.size ∨ s.get! (j + 2 + d) ≠ 125 ∨ validR v = false) : (bracedL s j).2 = 0 := by
  unfold bracedL
  split
  · cases hf : (s.data.toList.drop j).findIdx? (· == 125) with
    | none => rfl
    | some e =>
      simp only
      obtain ⟨f1, f2⟩ := find_is hf
      split
      · rename_i he
        cases hn : hexN (partL s (j + 2) (e - 2)) with
        | none => rfl
        | some x =>
          simp only
          have hall : ∀ i, i < e - 2 → hexV (s.get! (j + 2 + i)) ≠ none := fun i hi => hexN_all _ _ hn _ (part_mem hi (by omega))
          have hd : d = e - 2 := by
            rcases Nat.lt_trichotomy d (e - 2) with c | c | c
            · exfalso
              rcases hstop with k | k | k
              · omega
              · omega
              · exact hall d c k
            · exact c
            · exfalso
              have := h.digit (i := e - 2) c
              rw [show j + 2 + (e - 2) = j + e by omega, f2] at this
              exact this (by decide)
          subst hd
          rw [h.val] at hn
          cases hn
          rcases h5 with k | k | k | k
          · omega
          · omega
          · exact absurd (by rw [show j + 2 + (e - 2) = j + e by omega]; exact f2) k
          · rw [if_neg (by rw [k]; simp)]
      · rfl
  · rfl
end Go.Proofs.YtepmfjhhmnmmeaaDoor
