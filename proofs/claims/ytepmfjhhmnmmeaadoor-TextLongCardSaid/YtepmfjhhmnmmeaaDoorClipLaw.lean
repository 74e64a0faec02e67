/-
  The laws of clips and stray bytes as plain Lean; no program. Conditions: none.
-/
import Derived.Test.YtepmfjhhmnmmeaaDoorTextLoops
namespace Go.Proofs.YtepmfjhhmnmmeaaDoor

theorem extract_size0 (s : ByteArray) (q : Nat) (h : q ≤ s.size) : (s.extract 0 q).size = q := by rw [ByteArray.size_extract]; omega
theorem extract_all (s : ByteArray) (q : Nat) (h : s.size ≤ q) : s.extract 0 q = s := by
  apply ByteArray.ext
  simp
  have : s.data.size = s.size := rfl
  omega
theorem extract_extract0 (s : ByteArray) (p q : Nat) (h : p ≤ q) : (s.extract 0 q).extract 0 p = s.extract 0 p := by
  apply ByteArray.ext
  simp [Nat.min_eq_left h]
theorem clipN_size (s : ByteArray) (k : Nat) : (clipN s k).size = posAt s k := extract_size0 _ _ (posAt_le s k)
theorem posAt_clip (s : ByteArray) (k j : Nat) (h : j ≤ k) : posAt (clipN s k) j = posAt s j := by
  induction j with
  | zero => rfl
  | succ j ih =>
    have ih := ih (by omega)
    by_cases hlt : posAt s j < posAt s k
    · have h1 : posAt s j < s.size := by have := posAt_le s k; omega
      have h2 : posAt (clipN s k) j < (clipN s k).size := by rw [ih, clipN_size]; exact hlt
      rw [posAt_succ h1, posAt_succ h2, ih]
      have hm := posAt_mono s h
      rw [posAt_succ h1] at hm
      unfold nextPos
      rw [show Utf8.decode (clipN s k) (posAt s j) = Utf8.decode s (posAt s j) from head_decode s _ _ hlt (posAt_le s k) hm]
    · have h1 := posAt_mono s (show j ≤ k by omega)
      have h3 := posAt_mono s h
      have h4 := posAt_mono1 s j
      have h2 : ¬ posAt (clipN s k) j < (clipN s k).size := by rw [ih, clipN_size]; omega
      rw [posAt_stay h2, ih]
      omega
theorem posAt_clip_end (s : ByteArray) (k j : Nat) (h : k ≤ j) : posAt (clipN s k) j = posAt s k := by
  have h1 : posAt (clipN s k) k = (clipN s k).size := by rw [posAt_clip s k k (Nat.le_refl _), clipN_size]
  rw [posAt_stays h1 h, clipN_size]
theorem clipN_clipN (s : ByteArray) (k j : Nat) (h : j ≤ k) : clipN (clipN s k) j = clipN s j := by
  show (clipN s k).extract 0 (posAt (clipN s k) j) = s.extract 0 (posAt s j)
  rw [posAt_clip s k j h]
  exact extract_extract0 s _ _ (posAt_mono s h)

theorem clip_size_le (s : ByteArray) (n : Int) : (clip s n).size ≤ s.size := by rw [clip, clipN_size]; exact posAt_le s _
theorem clip_mono (s : ByteArray) {n m : Int} (h : n ≤ m) : (clip s n).size ≤ (clip s m).size := by
  rw [clip, clip, clipN_size, clipN_size]; exact posAt_mono s (by omega)
theorem clip_head (s : ByteArray) (n : Int) : s.extract 0 (clip s n).size = clip s n := by rw [clip, clipN_size]; rfl
theorem clip_head2 (s : ByteArray) {n m : Int} (h : n ≤ m) : (clip s m).extract 0 (clip s n).size = clip s n := by
  have := clip_mono s h
  rw [← clip_head s m, extract_extract0 _ _ _ this, clip_head]
theorem clip_clip (s : ByteArray) {n m : Int} (h : n ≤ m) : clip (clip s m) n = clip s n := clipN_clipN s _ _ (by omega)
theorem clip_whole (s : ByteArray) : clip s (s.size : Int) = s := by
  rw [clip, clipN, posAt_end s (by omega)]
  exact extract_all s _ (Nat.le_refl _)

theorem validFrom_neg (s : ByteArray) : ∀ (f k : Nat), s.size ≤ posAt s k + f → (validFrom s f (posAt s k) = -1 ↔ ∀ j, k ≤ j → posAt s j < s.size → strayAt s (posAt s j) = false)
  | 0, k, h => by
    simp only [validFrom, true_iff]
    intro j hj hlt
    have := posAt_mono s hj
    omega
  | f + 1, k, h => by
    by_cases hlt : posAt s k < s.size
    · simp only [validFrom, if_pos hlt]
      have hgt := next_gt hlt
      by_cases hst : strayAt s (posAt s k) = true
      · rw [if_pos hst]
        constructor
        · intro h1; omega
        · intro h1
          have := h1 k (Nat.le_refl _) hlt
          rw [hst] at this
          cases this
      · rw [if_neg hst, ← posAt_succ hlt, validFrom_neg s f (k + 1) (by rw [posAt_succ hlt]; omega)]
        constructor
        · intro h1 j hj hlt'
          by_cases e : j = k
          · subst e; simpa using hst
          · exact h1 j (by omega) hlt'
        · intro h1 j hj hlt'
          exact h1 j (by omega) hlt'
    · simp only [validFrom, if_neg hlt, true_iff]
      intro j hj hlt'
      have := posAt_mono s hj
      omega
theorem valid_neg (s : ByteArray) : valid s = -1 ↔ ∀ j, posAt s j < s.size → strayAt s (posAt s j) = false := by
  have := validFrom_neg s s.size 0 (by omega)
  simpa [valid, posAt] using this

theorem valid_clip (s : ByteArray) (k : Nat) (h : valid s = -1) : valid (clipN s k) = -1 := by
  rw [valid_neg] at h ⊢
  intro j hj
  rw [clipN_size] at hj
  by_cases hjk : j ≤ k
  · rw [posAt_clip s k j hjk] at hj ⊢
    have h1 : posAt s j < s.size := by have := posAt_le s k; omega
    have hne : j ≠ k := by rintro rfl; omega
    have hm := posAt_mono s (show j + 1 ≤ k by omega)
    rw [posAt_succ h1] at hm
    unfold strayAt
    rw [show Utf8.decode (clipN s k) (posAt s j) = Utf8.decode s (posAt s j) from head_decode s _ _ hj (posAt_le s k) hm]
    exact h j h1
  · rw [posAt_clip_end s k j (by omega)] at hj
    omega

theorem posAt_tail (s : ByteArray) (k j : Nat) : posAt s k + posAt (s.extract (posAt s k) s.size) j = posAt s (k + j) := by
  have hk := posAt_le s k
  have hsz := Lib.tail_size s (posAt s k)
  induction j with
  | zero => simp [posAt]
  | succ j ih =>
    by_cases hlt : posAt s (k + j) < s.size
    · have h2 : posAt (s.extract (posAt s k) s.size) j < (s.extract (posAt s k) s.size).size := by rw [hsz]; omega
      rw [show k + (j + 1) = k + j + 1 by omega, posAt_succ hlt, posAt_succ h2]
      unfold nextPos
      rw [Lib.tail_decode, ih]
      omega
    · have h2 : ¬ posAt (s.extract (posAt s k) s.size) j < (s.extract (posAt s k) s.size).size := by rw [hsz]; omega
      rw [show k + (j + 1) = k + j + 1 by omega, posAt_stay hlt, posAt_stay h2, ih]
theorem valid_tail (s : ByteArray) (k : Nat) (h : valid s = -1) : valid (s.extract (posAt s k) s.size) = -1 := by
  rw [valid_neg] at h ⊢
  intro j hj
  have ht := posAt_tail s k j
  have hsz := Lib.tail_size s (posAt s k)
  have := posAt_le s k
  unfold strayAt
  rw [Lib.tail_decode, ht]
  exact h (k + j) (by omega)
theorem valid_cut (s : ByteArray) (n : Int) (h : valid s = -1) : valid (clip s n) = -1 ∧ valid (s.extract (clip s n).size s.size) = -1 := by
  refine ⟨valid_clip s _ h, ?_⟩
  rw [clip, clipN_size]
  exact valid_tail s _ h
end Go.Proofs.YtepmfjhhmnmmeaaDoor
