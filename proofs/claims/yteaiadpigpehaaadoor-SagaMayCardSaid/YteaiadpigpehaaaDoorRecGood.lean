/-
  What record.Check asks of a record, as plain facts of the record lifted to version 3. Conditions: none. (Printed by wip/gen_recgood.py.)
-/
import Derived.Test.YteaiadpigpehaaaDoorGood
namespace Go.Proofs.YteaiadpigpehaaaDoor
open Go.RowKit

/-- A valid record of version 3. -/
structure RecGood (X : RecD) : Prop where
  kind1 : 1 ≤ X.kind
  kind7 : X.kind ≤ 7
  saga : 1 ≤ X.saga
  at0 : 0 ≤ X.at_
  data : X.data.length ≤ 16384
  begun : X.kind = 1 → 1 ≤ X.count ∧ X.count ≤ 32 ∧ 0 ≤ X.pivot ∧ X.pivot ≤ X.count ∧ (nameA X.name).1 = 0
  step : 2 ≤ X.kind → X.kind ≤ 6 → 0 ≤ X.step ∧ X.step ≤ 31
  try_ : X.kind = 2 ∨ X.kind = 5 → 1 ≤ X.try_ ∧ X.try_ ≤ 1000
  last : X.kind = 4 → 0 ≤ X.last ∧ X.last ≤ 1
  code : X.kind = 7 → 0 ≤ X.code ∧ X.code ≤ 2

theorem tag_stands {r : RecV} {d : List Int} {T j : Nat} (h : tagErr r d T j = 0) (hs : standsB T j = true) : boundsN r d j = 0 := by
  unfold tagErr at h; rwa [if_pos hs] at h
theorem tag_zero {r : RecV} {d : List Int} {T j : Nat} (h : tagErr r d T j = 0) (hs : standsB T j = false) : zeroB r j = true := by
  unfold tagErr at h
  rw [if_neg (by simp [hs])] at h
  split at h
  · assumption
  · cases h
theorem within_0 {n lo hi : Int} (h : withinN n lo hi = 0) : lo ≤ n ∧ n ≤ hi := by
  unfold withinN at h
  split at h
  · cases h
  · omega
theorem label_0 {s : ByteArray} (h : labelN s = 0) : (nameA s).1 = 0 := by
  unfold labelN at h
  split at h
  · assumption
  · cases h
theorem bnd3 {r : RecV} {d : List Int} (h : boundsN r d 3 = 0) : if r.v = 1 ∧ r.kind = 1 then 1 ≤ r.step ∧ r.step ≤ 32 else 0 ≤ r.step ∧ r.step ≤ 31 := by
  unfold boundsN at h
  simp only [if_true] at h
  split at h
  · next k => rw [if_pos k]; exact within_0 h
  · next k => rw [if_neg k]; exact within_0 h
theorem bnd4 {r : RecV} {d : List Int} (h : boundsN r d 4 = 0) : 1 ≤ r.try_ ∧ r.try_ ≤ 1000 := within_0 (by simpa [boundsN] using h)
theorem bnd5 {r : RecV} {d : List Int} (h : boundsN r d 5 = 0) : 0 ≤ r.at_ := (within_0 (by simpa [boundsN] using h)).1
theorem bnd6 {r : RecV} {d : List Int} (h : boundsN r d 6 = 0) : 0 ≤ r.last ∧ r.last ≤ 1 := within_0 (by simpa [boundsN] using h)
theorem bnd7 {r : RecV} {d : List Int} (h : boundsN r d 7 = 0) (hk : r.kind = 7) : 0 ≤ r.code ∧ r.code ≤ 2 := within_0 (by simpa [boundsN, hk] using h)
theorem bnd8 {r : RecV} {d : List Int} (h : boundsN r d 8 = 0) : 1 ≤ r.count ∧ r.count ≤ 32 := within_0 (by simpa [boundsN] using h)
theorem bnd9 {r : RecV} {d : List Int} (h : boundsN r d 9 = 0) : 0 ≤ r.pivot ∧ r.pivot ≤ r.count := within_0 (by simpa [boundsN] using h)
theorem bnd10 {r : RecV} {d : List Int} (h : boundsN r d 10 = 0) : (nameA r.name).1 = 0 := label_0 (by simpa [boundsN] using h)
theorem bnd11 {r : RecV} {d : List Int} (h : boundsN r d 11 = 0) : r.data.n ≤ 16384 ∧ (r.v = 1 ∧ r.kind = 1 → (nameA (strOfNums d)).1 = 0) := by
  unfold boundsN at h
  simp only [show (11 : Nat) ≠ 3 by decide, show (11 : Nat) ≠ 4 by decide, show (11 : Nat) ≠ 5 by decide, show (11 : Nat) ≠ 6 by decide, show (11 : Nat) ≠ 7 by decide, show (11 : Nat) ≠ 8 by decide, show (11 : Nat) ≠ 9 by decide, show (11 : Nat) ≠ 10 by decide, if_false] at h
  split at h
  · cases h
  · refine ⟨by omega, fun k => ?_⟩
    rw [if_pos k] at h
    exact label_0 h
theorem zer {r : RecV} {j : Nat} (h : zeroB r j = true) (h1 : j < 10) : numberN r j = 0 := by
  unfold zeroB at h
  rw [if_neg (by omega), if_neg (by omega)] at h
  simpa using h
theorem zer11 {r : RecV} (h : zeroB r 11 = true) : r.data.n = 0 := by
  unfold zeroB at h
  simp at h
  exact h

theorem rec_1_1 (R : RecD) (h : recD R = 0) (hv : R.v = 1) (hk : R.kind = 1) : RecGood (up3 R) := by
  have hs := (recN_0 h).2.2.2.2
  unfold recD at h
  rw [recN_tags (V := 0) (K := 0) hv hk (by decide) (by decide) (by simp only at hs ⊢; omega)] at h
  have hA := recFrom_all 9 3 h
  clear h
  have b3 := tag_stands (hA 3 (by decide) (by decide)) (by decide)
  have b4 := zer (tag_zero (hA 4 (by decide) (by decide)) (by decide)) (by decide)
  have b5 := zer (tag_zero (hA 5 (by decide) (by decide)) (by decide)) (by decide)
  have b6 := zer (tag_zero (hA 6 (by decide) (by decide)) (by decide)) (by decide)
  have b7 := zer (tag_zero (hA 7 (by decide) (by decide)) (by decide)) (by decide)
  have b8 := zer (tag_zero (hA 8 (by decide) (by decide)) (by decide)) (by decide)
  have b9 := zer (tag_zero (hA 9 (by decide) (by decide)) (by decide)) (by decide)
  have b11 := tag_stands (hA 11 (by decide) (by decide)) (by decide)
  clear hA
  have b3 := bnd3 b3
  have b11 := bnd11 b11
  simp only [hv, hk] at b3
  simp only [hv, hk] at b11
  obtain ⟨rv, rk, rs, rst, rt, ra, rl, rc, rn, rp, nm, dt⟩ := R
  simp only at hv hk hs
  subst hv hk
  simp only [numberN, lenSl] at *
  constructor <;> simp [up3] <;> first | omega | (refine ⟨?_, ?_, ?_, ?_, ?_⟩ <;> first | omega | simp_all; done) | (simp_all; done) | (simp_all; omega)
theorem rec_1_2 (R : RecD) (h : recD R = 0) (hv : R.v = 1) (hk : R.kind = 2) : RecGood (up3 R) := by
  have hs := (recN_0 h).2.2.2.2
  unfold recD at h
  rw [recN_tags (V := 0) (K := 1) hv hk (by decide) (by decide) (by simp only at hs ⊢; omega)] at h
  have hA := recFrom_all 9 3 h
  clear h
  have b3 := tag_stands (hA 3 (by decide) (by decide)) (by decide)
  have b4 := zer (tag_zero (hA 4 (by decide) (by decide)) (by decide)) (by decide)
  have b5 := zer (tag_zero (hA 5 (by decide) (by decide)) (by decide)) (by decide)
  have b6 := zer (tag_zero (hA 6 (by decide) (by decide)) (by decide)) (by decide)
  have b7 := zer (tag_zero (hA 7 (by decide) (by decide)) (by decide)) (by decide)
  have b8 := zer (tag_zero (hA 8 (by decide) (by decide)) (by decide)) (by decide)
  have b9 := zer (tag_zero (hA 9 (by decide) (by decide)) (by decide)) (by decide)
  have b11 := zer11 (tag_zero (hA 11 (by decide) (by decide)) (by decide))
  clear hA
  have b3 := bnd3 b3
  simp only [hv, hk] at b3
  obtain ⟨rv, rk, rs, rst, rt, ra, rl, rc, rn, rp, nm, dt⟩ := R
  simp only at hv hk hs
  subst hv hk
  simp only [numberN, lenSl] at *
  constructor <;> simp [up3] <;> first | omega | (refine ⟨?_, ?_, ?_, ?_, ?_⟩ <;> first | omega | simp_all; done) | (simp_all; done) | (simp_all; omega)
theorem rec_1_3 (R : RecD) (h : recD R = 0) (hv : R.v = 1) (hk : R.kind = 3) : RecGood (up3 R) := by
  have hs := (recN_0 h).2.2.2.2
  unfold recD at h
  rw [recN_tags (V := 0) (K := 2) hv hk (by decide) (by decide) (by simp only at hs ⊢; omega)] at h
  have hA := recFrom_all 9 3 h
  clear h
  have b3 := tag_stands (hA 3 (by decide) (by decide)) (by decide)
  have b4 := zer (tag_zero (hA 4 (by decide) (by decide)) (by decide)) (by decide)
  have b5 := zer (tag_zero (hA 5 (by decide) (by decide)) (by decide)) (by decide)
  have b6 := zer (tag_zero (hA 6 (by decide) (by decide)) (by decide)) (by decide)
  have b7 := zer (tag_zero (hA 7 (by decide) (by decide)) (by decide)) (by decide)
  have b8 := zer (tag_zero (hA 8 (by decide) (by decide)) (by decide)) (by decide)
  have b9 := zer (tag_zero (hA 9 (by decide) (by decide)) (by decide)) (by decide)
  have b11 := tag_stands (hA 11 (by decide) (by decide)) (by decide)
  clear hA
  have b3 := bnd3 b3
  have b11 := bnd11 b11
  simp only [hv, hk] at b3
  simp only [hv, hk] at b11
  obtain ⟨rv, rk, rs, rst, rt, ra, rl, rc, rn, rp, nm, dt⟩ := R
  simp only at hv hk hs
  subst hv hk
  simp only [numberN, lenSl] at *
  constructor <;> simp [up3] <;> first | omega | (refine ⟨?_, ?_, ?_, ?_, ?_⟩ <;> first | omega | simp_all; done) | (simp_all; done) | (simp_all; omega)
theorem rec_1_4 (R : RecD) (h : recD R = 0) (hv : R.v = 1) (hk : R.kind = 4) : RecGood (up3 R) := by
  have hs := (recN_0 h).2.2.2.2
  unfold recD at h
  rw [recN_tags (V := 0) (K := 3) hv hk (by decide) (by decide) (by simp only at hs ⊢; omega)] at h
  have hA := recFrom_all 9 3 h
  clear h
  have b3 := tag_stands (hA 3 (by decide) (by decide)) (by decide)
  have b4 := zer (tag_zero (hA 4 (by decide) (by decide)) (by decide)) (by decide)
  have b5 := zer (tag_zero (hA 5 (by decide) (by decide)) (by decide)) (by decide)
  have b6 := zer (tag_zero (hA 6 (by decide) (by decide)) (by decide)) (by decide)
  have b7 := zer (tag_zero (hA 7 (by decide) (by decide)) (by decide)) (by decide)
  have b8 := zer (tag_zero (hA 8 (by decide) (by decide)) (by decide)) (by decide)
  have b9 := zer (tag_zero (hA 9 (by decide) (by decide)) (by decide)) (by decide)
  have b11 := tag_stands (hA 11 (by decide) (by decide)) (by decide)
  clear hA
  have b3 := bnd3 b3
  have b11 := bnd11 b11
  simp only [hv, hk] at b3
  simp only [hv, hk] at b11
  obtain ⟨rv, rk, rs, rst, rt, ra, rl, rc, rn, rp, nm, dt⟩ := R
  simp only at hv hk hs
  subst hv hk
  simp only [numberN, lenSl] at *
  constructor <;> simp [up3] <;> first | omega | (refine ⟨?_, ?_, ?_, ?_, ?_⟩ <;> first | omega | simp_all; done) | (simp_all; done) | (simp_all; omega)
theorem rec_1_5 (R : RecD) (h : recD R = 0) (hv : R.v = 1) (hk : R.kind = 5) : RecGood (up3 R) := by
  have hs := (recN_0 h).2.2.2.2
  unfold recD at h
  rw [recN_tags (V := 0) (K := 4) hv hk (by decide) (by decide) (by simp only at hs ⊢; omega)] at h
  have hA := recFrom_all 9 3 h
  clear h
  have b3 := tag_stands (hA 3 (by decide) (by decide)) (by decide)
  have b4 := zer (tag_zero (hA 4 (by decide) (by decide)) (by decide)) (by decide)
  have b5 := zer (tag_zero (hA 5 (by decide) (by decide)) (by decide)) (by decide)
  have b6 := zer (tag_zero (hA 6 (by decide) (by decide)) (by decide)) (by decide)
  have b7 := zer (tag_zero (hA 7 (by decide) (by decide)) (by decide)) (by decide)
  have b8 := zer (tag_zero (hA 8 (by decide) (by decide)) (by decide)) (by decide)
  have b9 := zer (tag_zero (hA 9 (by decide) (by decide)) (by decide)) (by decide)
  have b11 := zer11 (tag_zero (hA 11 (by decide) (by decide)) (by decide))
  clear hA
  have b3 := bnd3 b3
  simp only [hv, hk] at b3
  obtain ⟨rv, rk, rs, rst, rt, ra, rl, rc, rn, rp, nm, dt⟩ := R
  simp only at hv hk hs
  subst hv hk
  simp only [numberN, lenSl] at *
  constructor <;> simp [up3] <;> first | omega | (refine ⟨?_, ?_, ?_, ?_, ?_⟩ <;> first | omega | simp_all; done) | (simp_all; done) | (simp_all; omega)
theorem rec_1_6 (R : RecD) (h : recD R = 0) (hv : R.v = 1) (hk : R.kind = 6) : RecGood (up3 R) := by
  have hs := (recN_0 h).2.2.2.2
  unfold recD at h
  rw [recN_tags (V := 0) (K := 5) hv hk (by decide) (by decide) (by simp only at hs ⊢; omega)] at h
  have hA := recFrom_all 9 3 h
  clear h
  have b3 := tag_stands (hA 3 (by decide) (by decide)) (by decide)
  have b4 := zer (tag_zero (hA 4 (by decide) (by decide)) (by decide)) (by decide)
  have b5 := zer (tag_zero (hA 5 (by decide) (by decide)) (by decide)) (by decide)
  have b6 := zer (tag_zero (hA 6 (by decide) (by decide)) (by decide)) (by decide)
  have b7 := zer (tag_zero (hA 7 (by decide) (by decide)) (by decide)) (by decide)
  have b8 := zer (tag_zero (hA 8 (by decide) (by decide)) (by decide)) (by decide)
  have b9 := zer (tag_zero (hA 9 (by decide) (by decide)) (by decide)) (by decide)
  have b11 := tag_stands (hA 11 (by decide) (by decide)) (by decide)
  clear hA
  have b3 := bnd3 b3
  have b11 := bnd11 b11
  simp only [hv, hk] at b3
  simp only [hv, hk] at b11
  obtain ⟨rv, rk, rs, rst, rt, ra, rl, rc, rn, rp, nm, dt⟩ := R
  simp only at hv hk hs
  subst hv hk
  simp only [numberN, lenSl] at *
  constructor <;> simp [up3] <;> first | omega | (refine ⟨?_, ?_, ?_, ?_, ?_⟩ <;> first | omega | simp_all; done) | (simp_all; done) | (simp_all; omega)
theorem rec_1_7 (R : RecD) (h : recD R = 0) (hv : R.v = 1) (hk : R.kind = 7) : RecGood (up3 R) := by
  have hs := (recN_0 h).2.2.2.2
  unfold recD at h
  rw [recN_tags (V := 0) (K := 6) hv hk (by decide) (by decide) (by simp only at hs ⊢; omega)] at h
  have hA := recFrom_all 9 3 h
  clear h
  have b3 := zer (tag_zero (hA 3 (by decide) (by decide)) (by decide)) (by decide)
  have b4 := zer (tag_zero (hA 4 (by decide) (by decide)) (by decide)) (by decide)
  have b5 := zer (tag_zero (hA 5 (by decide) (by decide)) (by decide)) (by decide)
  have b6 := zer (tag_zero (hA 6 (by decide) (by decide)) (by decide)) (by decide)
  have b7 := zer (tag_zero (hA 7 (by decide) (by decide)) (by decide)) (by decide)
  have b8 := zer (tag_zero (hA 8 (by decide) (by decide)) (by decide)) (by decide)
  have b9 := zer (tag_zero (hA 9 (by decide) (by decide)) (by decide)) (by decide)
  have b11 := zer11 (tag_zero (hA 11 (by decide) (by decide)) (by decide))
  clear hA
  obtain ⟨rv, rk, rs, rst, rt, ra, rl, rc, rn, rp, nm, dt⟩ := R
  simp only at hv hk hs
  subst hv hk
  simp only [numberN, lenSl] at *
  constructor <;> simp [up3] <;> first | omega | (refine ⟨?_, ?_, ?_, ?_, ?_⟩ <;> first | omega | simp_all; done) | (simp_all; done) | (simp_all; omega)
theorem rec_2_1 (R : RecD) (h : recD R = 0) (hv : R.v = 2) (hk : R.kind = 1) : RecGood (up3 R) := by
  have hs := (recN_0 h).2.2.2.2
  unfold recD at h
  rw [recN_tags (V := 1) (K := 0) hv hk (by decide) (by decide) (by simp only at hs ⊢; omega)] at h
  have hA := recFrom_all 9 3 h
  clear h
  have b3 := zer (tag_zero (hA 3 (by decide) (by decide)) (by decide)) (by decide)
  have b4 := zer (tag_zero (hA 4 (by decide) (by decide)) (by decide)) (by decide)
  have b5 := tag_stands (hA 5 (by decide) (by decide)) (by decide)
  have b6 := zer (tag_zero (hA 6 (by decide) (by decide)) (by decide)) (by decide)
  have b7 := zer (tag_zero (hA 7 (by decide) (by decide)) (by decide)) (by decide)
  have b8 := tag_stands (hA 8 (by decide) (by decide)) (by decide)
  have b9 := zer (tag_zero (hA 9 (by decide) (by decide)) (by decide)) (by decide)
  have b10 := tag_stands (hA 10 (by decide) (by decide)) (by decide)
  have b11 := tag_stands (hA 11 (by decide) (by decide)) (by decide)
  clear hA
  have b5 := bnd5 b5
  have b8 := bnd8 b8
  have b10 := bnd10 b10
  have b11 := bnd11 b11
  simp only [hv, hk] at b11
  obtain ⟨rv, rk, rs, rst, rt, ra, rl, rc, rn, rp, nm, dt⟩ := R
  simp only at hv hk hs
  subst hv hk
  simp only [numberN, lenSl] at *
  constructor <;> simp [up3] <;> first | omega | (refine ⟨?_, ?_, ?_, ?_, ?_⟩ <;> first | omega | simp_all; done) | (simp_all; done) | (simp_all; omega)
theorem rec_2_2 (R : RecD) (h : recD R = 0) (hv : R.v = 2) (hk : R.kind = 2) : RecGood (up3 R) := by
  have hs := (recN_0 h).2.2.2.2
  unfold recD at h
  rw [recN_tags (V := 1) (K := 1) hv hk (by decide) (by decide) (by simp only at hs ⊢; omega)] at h
  have hA := recFrom_all 9 3 h
  clear h
  have b3 := tag_stands (hA 3 (by decide) (by decide)) (by decide)
  have b4 := tag_stands (hA 4 (by decide) (by decide)) (by decide)
  have b5 := tag_stands (hA 5 (by decide) (by decide)) (by decide)
  have b6 := zer (tag_zero (hA 6 (by decide) (by decide)) (by decide)) (by decide)
  have b7 := zer (tag_zero (hA 7 (by decide) (by decide)) (by decide)) (by decide)
  have b8 := zer (tag_zero (hA 8 (by decide) (by decide)) (by decide)) (by decide)
  have b9 := zer (tag_zero (hA 9 (by decide) (by decide)) (by decide)) (by decide)
  have b11 := zer11 (tag_zero (hA 11 (by decide) (by decide)) (by decide))
  clear hA
  have b3 := bnd3 b3
  have b4 := bnd4 b4
  have b5 := bnd5 b5
  simp only [hv, hk] at b3
  obtain ⟨rv, rk, rs, rst, rt, ra, rl, rc, rn, rp, nm, dt⟩ := R
  simp only at hv hk hs
  subst hv hk
  simp only [numberN, lenSl] at *
  constructor <;> simp [up3] <;> first | omega | (refine ⟨?_, ?_, ?_, ?_, ?_⟩ <;> first | omega | simp_all; done) | (simp_all; done) | (simp_all; omega)
theorem rec_2_3 (R : RecD) (h : recD R = 0) (hv : R.v = 2) (hk : R.kind = 3) : RecGood (up3 R) := by
  have hs := (recN_0 h).2.2.2.2
  unfold recD at h
  rw [recN_tags (V := 1) (K := 2) hv hk (by decide) (by decide) (by simp only at hs ⊢; omega)] at h
  have hA := recFrom_all 9 3 h
  clear h
  have b3 := tag_stands (hA 3 (by decide) (by decide)) (by decide)
  have b4 := zer (tag_zero (hA 4 (by decide) (by decide)) (by decide)) (by decide)
  have b5 := tag_stands (hA 5 (by decide) (by decide)) (by decide)
  have b6 := zer (tag_zero (hA 6 (by decide) (by decide)) (by decide)) (by decide)
  have b7 := zer (tag_zero (hA 7 (by decide) (by decide)) (by decide)) (by decide)
  have b8 := zer (tag_zero (hA 8 (by decide) (by decide)) (by decide)) (by decide)
  have b9 := zer (tag_zero (hA 9 (by decide) (by decide)) (by decide)) (by decide)
  have b11 := tag_stands (hA 11 (by decide) (by decide)) (by decide)
  clear hA
  have b3 := bnd3 b3
  have b5 := bnd5 b5
  have b11 := bnd11 b11
  simp only [hv, hk] at b3
  simp only [hv, hk] at b11
  obtain ⟨rv, rk, rs, rst, rt, ra, rl, rc, rn, rp, nm, dt⟩ := R
  simp only at hv hk hs
  subst hv hk
  simp only [numberN, lenSl] at *
  constructor <;> simp [up3] <;> first | omega | (refine ⟨?_, ?_, ?_, ?_, ?_⟩ <;> first | omega | simp_all; done) | (simp_all; done) | (simp_all; omega)
theorem rec_2_4 (R : RecD) (h : recD R = 0) (hv : R.v = 2) (hk : R.kind = 4) : RecGood (up3 R) := by
  have hs := (recN_0 h).2.2.2.2
  unfold recD at h
  rw [recN_tags (V := 1) (K := 3) hv hk (by decide) (by decide) (by simp only at hs ⊢; omega)] at h
  have hA := recFrom_all 9 3 h
  clear h
  have b3 := tag_stands (hA 3 (by decide) (by decide)) (by decide)
  have b4 := zer (tag_zero (hA 4 (by decide) (by decide)) (by decide)) (by decide)
  have b5 := tag_stands (hA 5 (by decide) (by decide)) (by decide)
  have b6 := tag_stands (hA 6 (by decide) (by decide)) (by decide)
  have b7 := zer (tag_zero (hA 7 (by decide) (by decide)) (by decide)) (by decide)
  have b8 := zer (tag_zero (hA 8 (by decide) (by decide)) (by decide)) (by decide)
  have b9 := zer (tag_zero (hA 9 (by decide) (by decide)) (by decide)) (by decide)
  have b11 := tag_stands (hA 11 (by decide) (by decide)) (by decide)
  clear hA
  have b3 := bnd3 b3
  have b5 := bnd5 b5
  have b6 := bnd6 b6
  have b11 := bnd11 b11
  simp only [hv, hk] at b3
  simp only [hv, hk] at b11
  obtain ⟨rv, rk, rs, rst, rt, ra, rl, rc, rn, rp, nm, dt⟩ := R
  simp only at hv hk hs
  subst hv hk
  simp only [numberN, lenSl] at *
  constructor <;> simp [up3] <;> first | omega | (refine ⟨?_, ?_, ?_, ?_, ?_⟩ <;> first | omega | simp_all; done) | (simp_all; done) | (simp_all; omega)
theorem rec_2_5 (R : RecD) (h : recD R = 0) (hv : R.v = 2) (hk : R.kind = 5) : RecGood (up3 R) := by
  have hs := (recN_0 h).2.2.2.2
  unfold recD at h
  rw [recN_tags (V := 1) (K := 4) hv hk (by decide) (by decide) (by simp only at hs ⊢; omega)] at h
  have hA := recFrom_all 9 3 h
  clear h
  have b3 := tag_stands (hA 3 (by decide) (by decide)) (by decide)
  have b4 := tag_stands (hA 4 (by decide) (by decide)) (by decide)
  have b5 := tag_stands (hA 5 (by decide) (by decide)) (by decide)
  have b6 := zer (tag_zero (hA 6 (by decide) (by decide)) (by decide)) (by decide)
  have b7 := zer (tag_zero (hA 7 (by decide) (by decide)) (by decide)) (by decide)
  have b8 := zer (tag_zero (hA 8 (by decide) (by decide)) (by decide)) (by decide)
  have b9 := zer (tag_zero (hA 9 (by decide) (by decide)) (by decide)) (by decide)
  have b11 := zer11 (tag_zero (hA 11 (by decide) (by decide)) (by decide))
  clear hA
  have b3 := bnd3 b3
  have b4 := bnd4 b4
  have b5 := bnd5 b5
  simp only [hv, hk] at b3
  obtain ⟨rv, rk, rs, rst, rt, ra, rl, rc, rn, rp, nm, dt⟩ := R
  simp only at hv hk hs
  subst hv hk
  simp only [numberN, lenSl] at *
  constructor <;> simp [up3] <;> first | omega | (refine ⟨?_, ?_, ?_, ?_, ?_⟩ <;> first | omega | simp_all; done) | (simp_all; done) | (simp_all; omega)
theorem rec_2_6 (R : RecD) (h : recD R = 0) (hv : R.v = 2) (hk : R.kind = 6) : RecGood (up3 R) := by
  have hs := (recN_0 h).2.2.2.2
  unfold recD at h
  rw [recN_tags (V := 1) (K := 5) hv hk (by decide) (by decide) (by simp only at hs ⊢; omega)] at h
  have hA := recFrom_all 9 3 h
  clear h
  have b3 := tag_stands (hA 3 (by decide) (by decide)) (by decide)
  have b4 := zer (tag_zero (hA 4 (by decide) (by decide)) (by decide)) (by decide)
  have b5 := tag_stands (hA 5 (by decide) (by decide)) (by decide)
  have b6 := zer (tag_zero (hA 6 (by decide) (by decide)) (by decide)) (by decide)
  have b7 := zer (tag_zero (hA 7 (by decide) (by decide)) (by decide)) (by decide)
  have b8 := zer (tag_zero (hA 8 (by decide) (by decide)) (by decide)) (by decide)
  have b9 := zer (tag_zero (hA 9 (by decide) (by decide)) (by decide)) (by decide)
  have b11 := tag_stands (hA 11 (by decide) (by decide)) (by decide)
  clear hA
  have b3 := bnd3 b3
  have b5 := bnd5 b5
  have b11 := bnd11 b11
  simp only [hv, hk] at b3
  simp only [hv, hk] at b11
  obtain ⟨rv, rk, rs, rst, rt, ra, rl, rc, rn, rp, nm, dt⟩ := R
  simp only at hv hk hs
  subst hv hk
  simp only [numberN, lenSl] at *
  constructor <;> simp [up3] <;> first | omega | (refine ⟨?_, ?_, ?_, ?_, ?_⟩ <;> first | omega | simp_all; done) | (simp_all; done) | (simp_all; omega)
theorem rec_2_7 (R : RecD) (h : recD R = 0) (hv : R.v = 2) (hk : R.kind = 7) : RecGood (up3 R) := by
  have hs := (recN_0 h).2.2.2.2
  unfold recD at h
  rw [recN_tags (V := 1) (K := 6) hv hk (by decide) (by decide) (by simp only at hs ⊢; omega)] at h
  have hA := recFrom_all 9 3 h
  clear h
  have b3 := zer (tag_zero (hA 3 (by decide) (by decide)) (by decide)) (by decide)
  have b4 := zer (tag_zero (hA 4 (by decide) (by decide)) (by decide)) (by decide)
  have b5 := tag_stands (hA 5 (by decide) (by decide)) (by decide)
  have b6 := zer (tag_zero (hA 6 (by decide) (by decide)) (by decide)) (by decide)
  have b7 := zer (tag_zero (hA 7 (by decide) (by decide)) (by decide)) (by decide)
  have b8 := zer (tag_zero (hA 8 (by decide) (by decide)) (by decide)) (by decide)
  have b9 := zer (tag_zero (hA 9 (by decide) (by decide)) (by decide)) (by decide)
  have b11 := zer11 (tag_zero (hA 11 (by decide) (by decide)) (by decide))
  clear hA
  have b5 := bnd5 b5
  obtain ⟨rv, rk, rs, rst, rt, ra, rl, rc, rn, rp, nm, dt⟩ := R
  simp only at hv hk hs
  subst hv hk
  simp only [numberN, lenSl] at *
  constructor <;> simp [up3] <;> first | omega | (refine ⟨?_, ?_, ?_, ?_, ?_⟩ <;> first | omega | simp_all; done) | (simp_all; done) | (simp_all; omega)
theorem rec_3_1 (R : RecD) (h : recD R = 0) (hv : R.v = 3) (hk : R.kind = 1) : RecGood (up3 R) := by
  have hs := (recN_0 h).2.2.2.2
  unfold recD at h
  rw [recN_tags (V := 2) (K := 0) hv hk (by decide) (by decide) (by simp only at hs ⊢; omega)] at h
  have hA := recFrom_all 9 3 h
  clear h
  have b3 := zer (tag_zero (hA 3 (by decide) (by decide)) (by decide)) (by decide)
  have b4 := zer (tag_zero (hA 4 (by decide) (by decide)) (by decide)) (by decide)
  have b5 := tag_stands (hA 5 (by decide) (by decide)) (by decide)
  have b6 := zer (tag_zero (hA 6 (by decide) (by decide)) (by decide)) (by decide)
  have b7 := zer (tag_zero (hA 7 (by decide) (by decide)) (by decide)) (by decide)
  have b8 := tag_stands (hA 8 (by decide) (by decide)) (by decide)
  have b9 := tag_stands (hA 9 (by decide) (by decide)) (by decide)
  have b10 := tag_stands (hA 10 (by decide) (by decide)) (by decide)
  have b11 := tag_stands (hA 11 (by decide) (by decide)) (by decide)
  clear hA
  have b5 := bnd5 b5
  have b8 := bnd8 b8
  have b9 := bnd9 b9
  have b10 := bnd10 b10
  have b11 := bnd11 b11
  simp only [hv, hk] at b11
  obtain ⟨rv, rk, rs, rst, rt, ra, rl, rc, rn, rp, nm, dt⟩ := R
  simp only at hv hk hs
  subst hv hk
  simp only [numberN, lenSl] at *
  constructor <;> simp [up3] <;> first | omega | (refine ⟨?_, ?_, ?_, ?_, ?_⟩ <;> first | omega | simp_all; done) | (simp_all; done) | (simp_all; omega)
theorem rec_3_2 (R : RecD) (h : recD R = 0) (hv : R.v = 3) (hk : R.kind = 2) : RecGood (up3 R) := by
  have hs := (recN_0 h).2.2.2.2
  unfold recD at h
  rw [recN_tags (V := 2) (K := 1) hv hk (by decide) (by decide) (by simp only at hs ⊢; omega)] at h
  have hA := recFrom_all 9 3 h
  clear h
  have b3 := tag_stands (hA 3 (by decide) (by decide)) (by decide)
  have b4 := tag_stands (hA 4 (by decide) (by decide)) (by decide)
  have b5 := tag_stands (hA 5 (by decide) (by decide)) (by decide)
  have b6 := zer (tag_zero (hA 6 (by decide) (by decide)) (by decide)) (by decide)
  have b7 := zer (tag_zero (hA 7 (by decide) (by decide)) (by decide)) (by decide)
  have b8 := zer (tag_zero (hA 8 (by decide) (by decide)) (by decide)) (by decide)
  have b9 := zer (tag_zero (hA 9 (by decide) (by decide)) (by decide)) (by decide)
  have b11 := zer11 (tag_zero (hA 11 (by decide) (by decide)) (by decide))
  clear hA
  have b3 := bnd3 b3
  have b4 := bnd4 b4
  have b5 := bnd5 b5
  simp only [hv, hk] at b3
  obtain ⟨rv, rk, rs, rst, rt, ra, rl, rc, rn, rp, nm, dt⟩ := R
  simp only at hv hk hs
  subst hv hk
  simp only [numberN, lenSl] at *
  constructor <;> simp [up3] <;> first | omega | (refine ⟨?_, ?_, ?_, ?_, ?_⟩ <;> first | omega | simp_all; done) | (simp_all; done) | (simp_all; omega)
theorem rec_3_3 (R : RecD) (h : recD R = 0) (hv : R.v = 3) (hk : R.kind = 3) : RecGood (up3 R) := by
  have hs := (recN_0 h).2.2.2.2
  unfold recD at h
  rw [recN_tags (V := 2) (K := 2) hv hk (by decide) (by decide) (by simp only at hs ⊢; omega)] at h
  have hA := recFrom_all 9 3 h
  clear h
  have b3 := tag_stands (hA 3 (by decide) (by decide)) (by decide)
  have b4 := zer (tag_zero (hA 4 (by decide) (by decide)) (by decide)) (by decide)
  have b5 := tag_stands (hA 5 (by decide) (by decide)) (by decide)
  have b6 := zer (tag_zero (hA 6 (by decide) (by decide)) (by decide)) (by decide)
  have b7 := zer (tag_zero (hA 7 (by decide) (by decide)) (by decide)) (by decide)
  have b8 := zer (tag_zero (hA 8 (by decide) (by decide)) (by decide)) (by decide)
  have b9 := zer (tag_zero (hA 9 (by decide) (by decide)) (by decide)) (by decide)
  have b11 := tag_stands (hA 11 (by decide) (by decide)) (by decide)
  clear hA
  have b3 := bnd3 b3
  have b5 := bnd5 b5
  have b11 := bnd11 b11
  simp only [hv, hk] at b3
  simp only [hv, hk] at b11
  obtain ⟨rv, rk, rs, rst, rt, ra, rl, rc, rn, rp, nm, dt⟩ := R
  simp only at hv hk hs
  subst hv hk
  simp only [numberN, lenSl] at *
  constructor <;> simp [up3] <;> first | omega | (refine ⟨?_, ?_, ?_, ?_, ?_⟩ <;> first | omega | simp_all; done) | (simp_all; done) | (simp_all; omega)
theorem rec_3_4 (R : RecD) (h : recD R = 0) (hv : R.v = 3) (hk : R.kind = 4) : RecGood (up3 R) := by
  have hs := (recN_0 h).2.2.2.2
  unfold recD at h
  rw [recN_tags (V := 2) (K := 3) hv hk (by decide) (by decide) (by simp only at hs ⊢; omega)] at h
  have hA := recFrom_all 9 3 h
  clear h
  have b3 := tag_stands (hA 3 (by decide) (by decide)) (by decide)
  have b4 := zer (tag_zero (hA 4 (by decide) (by decide)) (by decide)) (by decide)
  have b5 := tag_stands (hA 5 (by decide) (by decide)) (by decide)
  have b6 := tag_stands (hA 6 (by decide) (by decide)) (by decide)
  have b7 := tag_stands (hA 7 (by decide) (by decide)) (by decide)
  have b8 := zer (tag_zero (hA 8 (by decide) (by decide)) (by decide)) (by decide)
  have b9 := zer (tag_zero (hA 9 (by decide) (by decide)) (by decide)) (by decide)
  have b11 := tag_stands (hA 11 (by decide) (by decide)) (by decide)
  clear hA
  have b3 := bnd3 b3
  have b5 := bnd5 b5
  have b6 := bnd6 b6
  clear b7
  have b11 := bnd11 b11
  simp only [hv, hk] at b3
  simp only [hv, hk] at b11
  obtain ⟨rv, rk, rs, rst, rt, ra, rl, rc, rn, rp, nm, dt⟩ := R
  simp only at hv hk hs
  subst hv hk
  simp only [numberN, lenSl] at *
  constructor <;> simp [up3] <;> first | omega | (refine ⟨?_, ?_, ?_, ?_, ?_⟩ <;> first | omega | simp_all; done) | (simp_all; done) | (simp_all; omega)
theorem rec_3_5 (R : RecD) (h : recD R = 0) (hv : R.v = 3) (hk : R.kind = 5) : RecGood (up3 R) := by
  have hs := (recN_0 h).2.2.2.2
  unfold recD at h
  rw [recN_tags (V := 2) (K := 4) hv hk (by decide) (by decide) (by simp only at hs ⊢; omega)] at h
  have hA := recFrom_all 9 3 h
  clear h
  have b3 := tag_stands (hA 3 (by decide) (by decide)) (by decide)
  have b4 := tag_stands (hA 4 (by decide) (by decide)) (by decide)
  have b5 := tag_stands (hA 5 (by decide) (by decide)) (by decide)
  have b6 := zer (tag_zero (hA 6 (by decide) (by decide)) (by decide)) (by decide)
  have b7 := zer (tag_zero (hA 7 (by decide) (by decide)) (by decide)) (by decide)
  have b8 := zer (tag_zero (hA 8 (by decide) (by decide)) (by decide)) (by decide)
  have b9 := zer (tag_zero (hA 9 (by decide) (by decide)) (by decide)) (by decide)
  have b11 := zer11 (tag_zero (hA 11 (by decide) (by decide)) (by decide))
  clear hA
  have b3 := bnd3 b3
  have b4 := bnd4 b4
  have b5 := bnd5 b5
  simp only [hv, hk] at b3
  obtain ⟨rv, rk, rs, rst, rt, ra, rl, rc, rn, rp, nm, dt⟩ := R
  simp only at hv hk hs
  subst hv hk
  simp only [numberN, lenSl] at *
  constructor <;> simp [up3] <;> first | omega | (refine ⟨?_, ?_, ?_, ?_, ?_⟩ <;> first | omega | simp_all; done) | (simp_all; done) | (simp_all; omega)
theorem rec_3_6 (R : RecD) (h : recD R = 0) (hv : R.v = 3) (hk : R.kind = 6) : RecGood (up3 R) := by
  have hs := (recN_0 h).2.2.2.2
  unfold recD at h
  rw [recN_tags (V := 2) (K := 5) hv hk (by decide) (by decide) (by simp only at hs ⊢; omega)] at h
  have hA := recFrom_all 9 3 h
  clear h
  have b3 := tag_stands (hA 3 (by decide) (by decide)) (by decide)
  have b4 := zer (tag_zero (hA 4 (by decide) (by decide)) (by decide)) (by decide)
  have b5 := tag_stands (hA 5 (by decide) (by decide)) (by decide)
  have b6 := zer (tag_zero (hA 6 (by decide) (by decide)) (by decide)) (by decide)
  have b7 := zer (tag_zero (hA 7 (by decide) (by decide)) (by decide)) (by decide)
  have b8 := zer (tag_zero (hA 8 (by decide) (by decide)) (by decide)) (by decide)
  have b9 := zer (tag_zero (hA 9 (by decide) (by decide)) (by decide)) (by decide)
  have b11 := tag_stands (hA 11 (by decide) (by decide)) (by decide)
  clear hA
  have b3 := bnd3 b3
  have b5 := bnd5 b5
  have b11 := bnd11 b11
  simp only [hv, hk] at b3
  simp only [hv, hk] at b11
  obtain ⟨rv, rk, rs, rst, rt, ra, rl, rc, rn, rp, nm, dt⟩ := R
  simp only at hv hk hs
  subst hv hk
  simp only [numberN, lenSl] at *
  constructor <;> simp [up3] <;> first | omega | (refine ⟨?_, ?_, ?_, ?_, ?_⟩ <;> first | omega | simp_all; done) | (simp_all; done) | (simp_all; omega)
theorem rec_3_7 (R : RecD) (h : recD R = 0) (hv : R.v = 3) (hk : R.kind = 7) : RecGood (up3 R) := by
  have hs := (recN_0 h).2.2.2.2
  unfold recD at h
  rw [recN_tags (V := 2) (K := 6) hv hk (by decide) (by decide) (by simp only at hs ⊢; omega)] at h
  have hA := recFrom_all 9 3 h
  clear h
  have b3 := zer (tag_zero (hA 3 (by decide) (by decide)) (by decide)) (by decide)
  have b4 := zer (tag_zero (hA 4 (by decide) (by decide)) (by decide)) (by decide)
  have b5 := tag_stands (hA 5 (by decide) (by decide)) (by decide)
  have b6 := zer (tag_zero (hA 6 (by decide) (by decide)) (by decide)) (by decide)
  have b7 := tag_stands (hA 7 (by decide) (by decide)) (by decide)
  have b8 := zer (tag_zero (hA 8 (by decide) (by decide)) (by decide)) (by decide)
  have b9 := zer (tag_zero (hA 9 (by decide) (by decide)) (by decide)) (by decide)
  have b11 := zer11 (tag_zero (hA 11 (by decide) (by decide)) (by decide))
  clear hA
  have b5 := bnd5 b5
  have b7 := bnd7 b7 hk
  obtain ⟨rv, rk, rs, rst, rt, ra, rl, rc, rn, rp, nm, dt⟩ := R
  simp only at hv hk hs
  subst hv hk
  simp only [numberN, lenSl] at *
  constructor <;> simp [up3] <;> first | omega | (refine ⟨?_, ?_, ?_, ?_, ?_⟩ <;> first | omega | simp_all; done) | (simp_all; done) | (simp_all; omega)
theorem recGood {R : RecD} (h : recD R = 0) : RecGood (up3 R) := by
  obtain ⟨h1, h2, h3, h4, h5⟩ := recN_0 h
  simp only at h1 h2 h3 h4
  have hv : R.v = 1 ∨ R.v = 2 ∨ R.v = 3 := by omega
  have hk : R.kind = 1 ∨ R.kind = 2 ∨ R.kind = 3 ∨ R.kind = 4 ∨ R.kind = 5 ∨ R.kind = 6 ∨ R.kind = 7 := by omega
  rcases hv with hv | hv | hv <;> rcases hk with hk | hk | hk | hk | hk | hk | hk
  · exact rec_1_1 R h hv hk
  · exact rec_1_2 R h hv hk
  · exact rec_1_3 R h hv hk
  · exact rec_1_4 R h hv hk
  · exact rec_1_5 R h hv hk
  · exact rec_1_6 R h hv hk
  · exact rec_1_7 R h hv hk
  · exact rec_2_1 R h hv hk
  · exact rec_2_2 R h hv hk
  · exact rec_2_3 R h hv hk
  · exact rec_2_4 R h hv hk
  · exact rec_2_5 R h hv hk
  · exact rec_2_6 R h hv hk
  · exact rec_2_7 R h hv hk
  · exact rec_3_1 R h hv hk
  · exact rec_3_2 R h hv hk
  · exact rec_3_3 R h hv hk
  · exact rec_3_4 R h hv hk
  · exact rec_3_5 R h hv hk
  · exact rec_3_6 R h hv hk
  · exact rec_3_7 R h hv hk
end Go.Proofs.YteaiadpigpehaaaDoor
