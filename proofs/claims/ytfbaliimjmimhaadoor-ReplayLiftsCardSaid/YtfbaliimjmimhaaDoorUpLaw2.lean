/-
  A record that is valid is valid when it is lifted to version 2, and does what it did; a log of lifted records folds to the same. Conditions: none. (Printed by wip/gen_uplaw2.py.)
-/
import Derived.Test.YtfbaliimjmimhaaDoorUpLaw
import Derived.Test.YtfbaliimjmimhaaDoorFoldLaw
namespace Go.Proofs.YtfbaliimjmimhaaDoor
open Go.RowKit

/-- A record lifted to version 2. -/
def up2 (R : RecD) : RecD := if R.v = 1 then { up3 R with v := 2 } else R
theorem bnd11_two {r : RecV} {d : List Int} (hv : r.v = 2) (h : r.data.n ≤ 16384) : boundsN r d 11 = 0 := by
  unfold boundsN
  simp only [show (11 : Nat) ≠ 3 by decide, show (11 : Nat) ≠ 4 by decide, show (11 : Nat) ≠ 5 by decide, show (11 : Nat) ≠ 6 by decide, show (11 : Nat) ≠ 7 by decide, show (11 : Nat) ≠ 8 by decide, show (11 : Nat) ≠ 9 by decide, show (11 : Nat) ≠ 10 by decide, if_false]
  rw [if_neg (by omega), if_neg (by omega)]
theorem bnd3_two {r : RecV} {d : List Int} (hv : r.v = 2) (h1 : 0 ≤ r.step) (h2 : r.step ≤ 31) : boundsN r d 3 = 0 := by
  unfold boundsN
  rw [if_pos rfl, if_neg (by omega)]
  exact within_ok h1 h2

theorem up2_valid_1 (R : RecD) (h : recD R = 0) (hv : R.v = 1) (hk : R.kind = 1) : recD (up2 R) = 0 := by
  have G := recGood h
  have hs := (recN_0 h).2.2.2.2
  unfold recD at h
  rw [recN_tags (V := 0) (K := 0) hv hk (by decide) (by decide) (by simp only at hs ⊢; omega)] at h
  have hA := recFrom_all 9 3 h
  clear h
  have b4 := zer (tag_zero (hA 4 (by decide) (by decide)) (by decide)) (by decide)
  have b5 := zer (tag_zero (hA 5 (by decide) (by decide)) (by decide)) (by decide)
  have b6 := zer (tag_zero (hA 6 (by decide) (by decide)) (by decide)) (by decide)
  have b7 := zer (tag_zero (hA 7 (by decide) (by decide)) (by decide)) (by decide)
  have b8 := zer (tag_zero (hA 8 (by decide) (by decide)) (by decide)) (by decide)
  have b9 := zer (tag_zero (hA 9 (by decide) (by decide)) (by decide)) (by decide)
  have b10 := tag_zero (hA 10 (by decide) (by decide)) (by decide)
  clear hA
  obtain ⟨rv, rk, rs, rst, rt, ra, rl, rc, rn, rp, nm, dt⟩ := R
  simp only at hv hk hs
  subst hv hk
  have e3 : up3 ⟨1, 1, rs, rst, rt, ra, rl, rc, rn, rp, nm, dt⟩ = ⟨3, 1, rs, 0, rt, ra, rl, rc, rst, rp, (strOfNums dt), []⟩ := rfl
  have e2 : up2 ⟨1, 1, rs, rst, rt, ra, rl, rc, rn, rp, nm, dt⟩ = ⟨2, 1, rs, 0, rt, ra, rl, rc, rst, rp, (strOfNums dt), []⟩ := rfl
  rw [e3] at G
  rw [e2]
  clear e2 e3
  have g1 := G.saga
  have g2 := G.at0
  have g3 := G.data
  have gb := G.begun rfl
  clear G
  simp only [numberN, lenSl] at *
  unfold recD
  rw [recN_tags (V := 1) (K := 0) rfl rfl (by decide) (by decide) (by simp only; omega)]
  exact recFrom_nine (tag_no (by decide) (by simp [zeroB, numberN])) (tag_no (by decide) (by simp [zeroB, numberN] <;> omega)) (tag_yes (by decide) (bnd5_ok g2 (by simp only; omega))) (tag_no (by decide) (by simp [zeroB, numberN] <;> omega)) (tag_no (by decide) (by simp [zeroB, numberN] <;> omega)) (tag_yes (by decide) (bnd8_ok gb.1 gb.2.1)) (tag_no (by decide) (by simp [zeroB, numberN] <;> omega)) (tag_yes (by decide) (bnd10_ok gb.2.2.2.2)) (tag_yes (by decide) (bnd11_two rfl g3))
theorem up2_valid_2 (R : RecD) (h : recD R = 0) (hv : R.v = 1) (hk : R.kind = 2) : recD (up2 R) = 0 := by
  have G := recGood h
  have hs := (recN_0 h).2.2.2.2
  unfold recD at h
  rw [recN_tags (V := 0) (K := 1) hv hk (by decide) (by decide) (by simp only at hs ⊢; omega)] at h
  have hA := recFrom_all 9 3 h
  clear h
  have b4 := zer (tag_zero (hA 4 (by decide) (by decide)) (by decide)) (by decide)
  have b5 := zer (tag_zero (hA 5 (by decide) (by decide)) (by decide)) (by decide)
  have b6 := zer (tag_zero (hA 6 (by decide) (by decide)) (by decide)) (by decide)
  have b7 := zer (tag_zero (hA 7 (by decide) (by decide)) (by decide)) (by decide)
  have b8 := zer (tag_zero (hA 8 (by decide) (by decide)) (by decide)) (by decide)
  have b9 := zer (tag_zero (hA 9 (by decide) (by decide)) (by decide)) (by decide)
  have b10 := tag_zero (hA 10 (by decide) (by decide)) (by decide)
  have b11 := zer11 (tag_zero (hA 11 (by decide) (by decide)) (by decide))
  clear hA
  obtain ⟨rv, rk, rs, rst, rt, ra, rl, rc, rn, rp, nm, dt⟩ := R
  simp only at hv hk hs
  subst hv hk
  have e3 : up3 ⟨1, 2, rs, rst, rt, ra, rl, rc, rn, rp, nm, dt⟩ = ⟨3, 2, rs, rst, 1, ra, rl, rc, rn, rp, nm, dt⟩ := rfl
  have e2 : up2 ⟨1, 2, rs, rst, rt, ra, rl, rc, rn, rp, nm, dt⟩ = ⟨2, 2, rs, rst, 1, ra, rl, rc, rn, rp, nm, dt⟩ := rfl
  rw [e3] at G
  rw [e2]
  clear e2 e3
  have g1 := G.saga
  have g2 := G.at0
  have g3 := G.data
  have gs := G.step (by simp) (by simp)
  have gt := G.try_ (.inl rfl)
  clear G
  simp only [numberN, lenSl] at *
  unfold recD
  rw [recN_tags (V := 1) (K := 1) rfl rfl (by decide) (by decide) (by simp only; omega)]
  exact recFrom_nine (tag_yes (by decide) (bnd3_two rfl gs.1 gs.2)) (tag_yes (by decide) (bnd4_ok gt.1 gt.2)) (tag_yes (by decide) (bnd5_ok g2 (by simp only; omega))) (tag_no (by decide) (by simp [zeroB, numberN] <;> omega)) (tag_no (by decide) (by simp [zeroB, numberN] <;> omega)) (tag_no (by decide) (by simp [zeroB, numberN] <;> omega)) (tag_no (by decide) (by simp [zeroB, numberN] <;> omega)) (tag_no (by decide) (by simpa [zeroB] using b10)) (tag_no (by decide) (by simp [zeroB, lenSl] <;> simpa using b11))
theorem up2_valid_3 (R : RecD) (h : recD R = 0) (hv : R.v = 1) (hk : R.kind = 3) : recD (up2 R) = 0 := by
  have G := recGood h
  have hs := (recN_0 h).2.2.2.2
  unfold recD at h
  rw [recN_tags (V := 0) (K := 2) hv hk (by decide) (by decide) (by simp only at hs ⊢; omega)] at h
  have hA := recFrom_all 9 3 h
  clear h
  have b4 := zer (tag_zero (hA 4 (by decide) (by decide)) (by decide)) (by decide)
  have b5 := zer (tag_zero (hA 5 (by decide) (by decide)) (by decide)) (by decide)
  have b6 := zer (tag_zero (hA 6 (by decide) (by decide)) (by decide)) (by decide)
  have b7 := zer (tag_zero (hA 7 (by decide) (by decide)) (by decide)) (by decide)
  have b8 := zer (tag_zero (hA 8 (by decide) (by decide)) (by decide)) (by decide)
  have b9 := zer (tag_zero (hA 9 (by decide) (by decide)) (by decide)) (by decide)
  have b10 := tag_zero (hA 10 (by decide) (by decide)) (by decide)
  clear hA
  obtain ⟨rv, rk, rs, rst, rt, ra, rl, rc, rn, rp, nm, dt⟩ := R
  simp only at hv hk hs
  subst hv hk
  have e3 : up3 ⟨1, 3, rs, rst, rt, ra, rl, rc, rn, rp, nm, dt⟩ = ⟨3, 3, rs, rst, rt, ra, rl, rc, rn, rp, nm, dt⟩ := rfl
  have e2 : up2 ⟨1, 3, rs, rst, rt, ra, rl, rc, rn, rp, nm, dt⟩ = ⟨2, 3, rs, rst, rt, ra, rl, rc, rn, rp, nm, dt⟩ := rfl
  rw [e3] at G
  rw [e2]
  clear e2 e3
  have g1 := G.saga
  have g2 := G.at0
  have g3 := G.data
  have gs := G.step (by simp) (by simp)
  clear G
  simp only [numberN, lenSl] at *
  unfold recD
  rw [recN_tags (V := 1) (K := 2) rfl rfl (by decide) (by decide) (by simp only; omega)]
  exact recFrom_nine (tag_yes (by decide) (bnd3_two rfl gs.1 gs.2)) (tag_no (by decide) (by simp [zeroB, numberN] <;> omega)) (tag_yes (by decide) (bnd5_ok g2 (by simp only; omega))) (tag_no (by decide) (by simp [zeroB, numberN] <;> omega)) (tag_no (by decide) (by simp [zeroB, numberN] <;> omega)) (tag_no (by decide) (by simp [zeroB, numberN] <;> omega)) (tag_no (by decide) (by simp [zeroB, numberN] <;> omega)) (tag_no (by decide) (by simpa [zeroB] using b10)) (tag_yes (by decide) (bnd11_two rfl g3))
theorem up2_valid_4 (R : RecD) (h : recD R = 0) (hv : R.v = 1) (hk : R.kind = 4) : recD (up2 R) = 0 := by
  have G := recGood h
  have hs := (recN_0 h).2.2.2.2
  unfold recD at h
  rw [recN_tags (V := 0) (K := 3) hv hk (by decide) (by decide) (by simp only at hs ⊢; omega)] at h
  have hA := recFrom_all 9 3 h
  clear h
  have b4 := zer (tag_zero (hA 4 (by decide) (by decide)) (by decide)) (by decide)
  have b5 := zer (tag_zero (hA 5 (by decide) (by decide)) (by decide)) (by decide)
  have b6 := zer (tag_zero (hA 6 (by decide) (by decide)) (by decide)) (by decide)
  have b7 := zer (tag_zero (hA 7 (by decide) (by decide)) (by decide)) (by decide)
  have b8 := zer (tag_zero (hA 8 (by decide) (by decide)) (by decide)) (by decide)
  have b9 := zer (tag_zero (hA 9 (by decide) (by decide)) (by decide)) (by decide)
  have b10 := tag_zero (hA 10 (by decide) (by decide)) (by decide)
  clear hA
  obtain ⟨rv, rk, rs, rst, rt, ra, rl, rc, rn, rp, nm, dt⟩ := R
  simp only at hv hk hs
  subst hv hk
  have e3 : up3 ⟨1, 4, rs, rst, rt, ra, rl, rc, rn, rp, nm, dt⟩ = ⟨3, 4, rs, rst, rt, ra, 1, rc, rn, rp, nm, dt⟩ := rfl
  have e2 : up2 ⟨1, 4, rs, rst, rt, ra, rl, rc, rn, rp, nm, dt⟩ = ⟨2, 4, rs, rst, rt, ra, 1, rc, rn, rp, nm, dt⟩ := rfl
  rw [e3] at G
  rw [e2]
  clear e2 e3
  have g1 := G.saga
  have g2 := G.at0
  have g3 := G.data
  have gs := G.step (by simp) (by simp)
  have gl := G.last rfl
  clear G
  simp only [numberN, lenSl] at *
  unfold recD
  rw [recN_tags (V := 1) (K := 3) rfl rfl (by decide) (by decide) (by simp only; omega)]
  exact recFrom_nine (tag_yes (by decide) (bnd3_two rfl gs.1 gs.2)) (tag_no (by decide) (by simp [zeroB, numberN] <;> omega)) (tag_yes (by decide) (bnd5_ok g2 (by simp only; omega))) (tag_yes (by decide) (bnd6_ok gl.1 gl.2)) (tag_no (by decide) (by simp [zeroB, numberN] <;> omega)) (tag_no (by decide) (by simp [zeroB, numberN] <;> omega)) (tag_no (by decide) (by simp [zeroB, numberN] <;> omega)) (tag_no (by decide) (by simpa [zeroB] using b10)) (tag_yes (by decide) (bnd11_two rfl g3))
theorem up2_valid_5 (R : RecD) (h : recD R = 0) (hv : R.v = 1) (hk : R.kind = 5) : recD (up2 R) = 0 := by
  have G := recGood h
  have hs := (recN_0 h).2.2.2.2
  unfold recD at h
  rw [recN_tags (V := 0) (K := 4) hv hk (by decide) (by decide) (by simp only at hs ⊢; omega)] at h
  have hA := recFrom_all 9 3 h
  clear h
  have b4 := zer (tag_zero (hA 4 (by decide) (by decide)) (by decide)) (by decide)
  have b5 := zer (tag_zero (hA 5 (by decide) (by decide)) (by decide)) (by decide)
  have b6 := zer (tag_zero (hA 6 (by decide) (by decide)) (by decide)) (by decide)
  have b7 := zer (tag_zero (hA 7 (by decide) (by decide)) (by decide)) (by decide)
  have b8 := zer (tag_zero (hA 8 (by decide) (by decide)) (by decide)) (by decide)
  have b9 := zer (tag_zero (hA 9 (by decide) (by decide)) (by decide)) (by decide)
  have b10 := tag_zero (hA 10 (by decide) (by decide)) (by decide)
  have b11 := zer11 (tag_zero (hA 11 (by decide) (by decide)) (by decide))
  clear hA
  obtain ⟨rv, rk, rs, rst, rt, ra, rl, rc, rn, rp, nm, dt⟩ := R
  simp only at hv hk hs
  subst hv hk
  have e3 : up3 ⟨1, 5, rs, rst, rt, ra, rl, rc, rn, rp, nm, dt⟩ = ⟨3, 5, rs, rst, 1, ra, rl, rc, rn, rp, nm, dt⟩ := rfl
  have e2 : up2 ⟨1, 5, rs, rst, rt, ra, rl, rc, rn, rp, nm, dt⟩ = ⟨2, 5, rs, rst, 1, ra, rl, rc, rn, rp, nm, dt⟩ := rfl
  rw [e3] at G
  rw [e2]
  clear e2 e3
  have g1 := G.saga
  have g2 := G.at0
  have g3 := G.data
  have gs := G.step (by simp) (by simp)
  have gt := G.try_ (.inr rfl)
  clear G
  simp only [numberN, lenSl] at *
  unfold recD
  rw [recN_tags (V := 1) (K := 4) rfl rfl (by decide) (by decide) (by simp only; omega)]
  exact recFrom_nine (tag_yes (by decide) (bnd3_two rfl gs.1 gs.2)) (tag_yes (by decide) (bnd4_ok gt.1 gt.2)) (tag_yes (by decide) (bnd5_ok g2 (by simp only; omega))) (tag_no (by decide) (by simp [zeroB, numberN] <;> omega)) (tag_no (by decide) (by simp [zeroB, numberN] <;> omega)) (tag_no (by decide) (by simp [zeroB, numberN] <;> omega)) (tag_no (by decide) (by simp [zeroB, numberN] <;> omega)) (tag_no (by decide) (by simpa [zeroB] using b10)) (tag_no (by decide) (by simp [zeroB, lenSl] <;> simpa using b11))
theorem up2_valid_6 (R : RecD) (h : recD R = 0) (hv : R.v = 1) (hk : R.kind = 6) : recD (up2 R) = 0 := by
  have G := recGood h
  have hs := (recN_0 h).2.2.2.2
  unfold recD at h
  rw [recN_tags (V := 0) (K := 5) hv hk (by decide) (by decide) (by simp only at hs ⊢; omega)] at h
  have hA := recFrom_all 9 3 h
  clear h
  have b4 := zer (tag_zero (hA 4 (by decide) (by decide)) (by decide)) (by decide)
  have b5 := zer (tag_zero (hA 5 (by decide) (by decide)) (by decide)) (by decide)
  have b6 := zer (tag_zero (hA 6 (by decide) (by decide)) (by decide)) (by decide)
  have b7 := zer (tag_zero (hA 7 (by decide) (by decide)) (by decide)) (by decide)
  have b8 := zer (tag_zero (hA 8 (by decide) (by decide)) (by decide)) (by decide)
  have b9 := zer (tag_zero (hA 9 (by decide) (by decide)) (by decide)) (by decide)
  have b10 := tag_zero (hA 10 (by decide) (by decide)) (by decide)
  clear hA
  obtain ⟨rv, rk, rs, rst, rt, ra, rl, rc, rn, rp, nm, dt⟩ := R
  simp only at hv hk hs
  subst hv hk
  have e3 : up3 ⟨1, 6, rs, rst, rt, ra, rl, rc, rn, rp, nm, dt⟩ = ⟨3, 6, rs, rst, rt, ra, rl, rc, rn, rp, nm, dt⟩ := rfl
  have e2 : up2 ⟨1, 6, rs, rst, rt, ra, rl, rc, rn, rp, nm, dt⟩ = ⟨2, 6, rs, rst, rt, ra, rl, rc, rn, rp, nm, dt⟩ := rfl
  rw [e3] at G
  rw [e2]
  clear e2 e3
  have g1 := G.saga
  have g2 := G.at0
  have g3 := G.data
  have gs := G.step (by simp) (by simp)
  clear G
  simp only [numberN, lenSl] at *
  unfold recD
  rw [recN_tags (V := 1) (K := 5) rfl rfl (by decide) (by decide) (by simp only; omega)]
  exact recFrom_nine (tag_yes (by decide) (bnd3_two rfl gs.1 gs.2)) (tag_no (by decide) (by simp [zeroB, numberN] <;> omega)) (tag_yes (by decide) (bnd5_ok g2 (by simp only; omega))) (tag_no (by decide) (by simp [zeroB, numberN] <;> omega)) (tag_no (by decide) (by simp [zeroB, numberN] <;> omega)) (tag_no (by decide) (by simp [zeroB, numberN] <;> omega)) (tag_no (by decide) (by simp [zeroB, numberN] <;> omega)) (tag_no (by decide) (by simpa [zeroB] using b10)) (tag_yes (by decide) (bnd11_two rfl g3))
theorem up2_valid_7 (R : RecD) (h : recD R = 0) (hv : R.v = 1) (hk : R.kind = 7) : recD (up2 R) = 0 := by
  have G := recGood h
  have hs := (recN_0 h).2.2.2.2
  unfold recD at h
  rw [recN_tags (V := 0) (K := 6) hv hk (by decide) (by decide) (by simp only at hs ⊢; omega)] at h
  have hA := recFrom_all 9 3 h
  clear h
  have b3 := zer (tag_zero (hA 3 (by decide) (by decide)) (by decide)) (by decide)
  have b4 := zer (tag_zero (hA 4 (by decide) (by decide)) (by decide)) (by decide)
  have b5 := zer (tag_zero (hA 5 (by decide) (by decide)) (by decide)) (by decide)
  have b6 := zer (tag_zero (hA 6 (by decide) (by decide)) (by decide)) (by decide)
  have b7 := zer (tag_zero (hA 7 (by decide) (by decide)) (by decide)) (by decide)
  have b8 := zer (tag_zero (hA 8 (by decide) (by decide)) (by decide)) (by decide)
  have b9 := zer (tag_zero (hA 9 (by decide) (by decide)) (by decide)) (by decide)
  have b10 := tag_zero (hA 10 (by decide) (by decide)) (by decide)
  have b11 := zer11 (tag_zero (hA 11 (by decide) (by decide)) (by decide))
  clear hA
  obtain ⟨rv, rk, rs, rst, rt, ra, rl, rc, rn, rp, nm, dt⟩ := R
  simp only at hv hk hs
  subst hv hk
  have e3 : up3 ⟨1, 7, rs, rst, rt, ra, rl, rc, rn, rp, nm, dt⟩ = ⟨3, 7, rs, rst, rt, ra, rl, rc, rn, rp, nm, dt⟩ := rfl
  have e2 : up2 ⟨1, 7, rs, rst, rt, ra, rl, rc, rn, rp, nm, dt⟩ = ⟨2, 7, rs, rst, rt, ra, rl, rc, rn, rp, nm, dt⟩ := rfl
  rw [e3] at G
  rw [e2]
  clear e2 e3
  have g1 := G.saga
  have g2 := G.at0
  have g3 := G.data
  clear G
  simp only [numberN, lenSl] at *
  unfold recD
  rw [recN_tags (V := 1) (K := 6) rfl rfl (by decide) (by decide) (by simp only; omega)]
  exact recFrom_nine (tag_no (by decide) (by simp [zeroB, numberN] <;> omega)) (tag_no (by decide) (by simp [zeroB, numberN] <;> omega)) (tag_yes (by decide) (bnd5_ok g2 (by simp only; omega))) (tag_no (by decide) (by simp [zeroB, numberN] <;> omega)) (tag_no (by decide) (by simp [zeroB, numberN] <;> omega)) (tag_no (by decide) (by simp [zeroB, numberN] <;> omega)) (tag_no (by decide) (by simp [zeroB, numberN] <;> omega)) (tag_no (by decide) (by simpa [zeroB] using b10)) (tag_no (by decide) (by simp [zeroB, lenSl] <;> simpa using b11))
theorem up2_valid {R : RecD} (h : recD R = 0) : recD (up2 R) = 0 := by
  obtain ⟨h1, h2, h3, h4, h5⟩ := recN_0 h
  simp only at h1 h2 h3 h4
  by_cases hv : R.v = 1
  · have hk : R.kind = 1 ∨ R.kind = 2 ∨ R.kind = 3 ∨ R.kind = 4 ∨ R.kind = 5 ∨ R.kind = 6 ∨ R.kind = 7 := by omega
    rcases hk with hk | hk | hk | hk | hk | hk | hk
    · exact up2_valid_1 R h hv hk
    · exact up2_valid_2 R h hv hk
    · exact up2_valid_3 R h hv hk
    · exact up2_valid_4 R h hv hk
    · exact up2_valid_5 R h hv hk
    · exact up2_valid_6 R h hv hk
    · exact up2_valid_7 R h hv hk
  · unfold up2; rw [if_neg hv]; exact h
theorem up3_up2 (R : RecD) : up3 (up2 R) = up3 R := by
  unfold up2
  split
  · next h =>
    have e : ∀ X : RecD, X.v = 3 → up3 { X with v := 2 } = X := by
      intro X hX
      unfold up3
      rw [if_neg (by simp)]
      obtain ⟨a, b, c, d, e, f, g, i, j, k, l, m⟩ := X
      simp only at hX
      subst hX
      rfl
    exact e (up3 R) (up3_v R)
  · rfl
theorem up2_kind (R : RecD) : (up2 R).kind = R.kind := by
  unfold up2; split
  · exact up3_kind R
  · rfl
theorem up2_saga (R : RecD) : (up2 R).saga = R.saga := by
  unfold up2; split
  · exact up3_saga R
  · rfl
/-- What lift.Up leaves of a record: lifted, if it is valid. -/
def lift3 (R : RecD) : RecD := if recD R = 0 then up3 R else R
def lift2 (R : RecD) : RecD := if recD R = 0 then up2 R else R
theorem lift3_same (s : Option SagaD) (R : RecD) : (lift3 R).saga = R.saga ∧ oneN s (lift3 R) = oneN s R ∧ oneD s (lift3 R) = oneD s R := by
  unfold lift3
  split
  · next h =>
    have h3 := up_valid h
    refine ⟨up3_saga R, ?_, ?_⟩
    · unfold oneN
      rw [h3, h]
      cases s with
      | none => simp only; exact (lifted (D := zeroD) h).bn
      | some D => simp only; rw [(lifted (D := D) h).n]
    · unfold oneD
      cases s with
      | none => exact (lifted (D := zeroD) h).bto
      | some D => exact (lifted (D := D) h).to
  · exact ⟨rfl, rfl, rfl⟩
theorem lift2_same (s : Option SagaD) (R : RecD) : (lift2 R).saga = R.saga ∧ oneN s (lift2 R) = oneN s R ∧ oneD s (lift2 R) = oneD s R := by
  unfold lift2
  split
  · next h =>
    have h2 := up2_valid h
    have e := up3_up2 R
    have n : ∀ D, applyN D (up2 R) = applyN D R := fun D => by unfold applyN; rw [h2, h, e]
    have b : beginN (up2 R) = beginN R := by unfold beginN; rw [h2, h, up2_kind]
    refine ⟨up2_saga R, ?_, ?_⟩
    · unfold oneN
      rw [h2, h]
      cases s with
      | none => simp only; rw [b]
      | some D => simp only; rw [n]
    · unfold oneD
      cases s with
      | none => show beginD (up2 R) = beginD R; unfold beginD; rw [b, e]
      | some D => show applyD D (up2 R) = applyD D R; unfold applyD; rw [n, e]
  · exact ⟨rfl, rfl, rfl⟩
/-- A log of lifted records folds to the same. -/
theorem fold_map {g : RecD → RecD} (hg : ∀ s R, (g R).saga = R.saga ∧ oneN s (g R) = oneN s R ∧ oneD s (g R) = oneD s R) : ∀ (l : List RecD) (f : Bag), foldB f (l.map g) = foldB f l
  | [], _ => rfl
  | R :: l, f => by
    have e1 : addN f (g R) = addN f R := by unfold addN; rw [(hg none R).1, (hg _ R).2.1]
    have e2 : addB f (g R) = addB f R := by unfold addB; rw [e1, (hg none R).1, (hg _ R).2.2]
    rw [List.map_cons]
    by_cases h : addN f R = 0
    · rw [foldB_ok h, foldB_ok (e1.trans h), e2, fold_map hg l]
    · rw [foldB_bad h, foldB_bad (by rw [e1]; exact h)]
end Go.Proofs.YtfbaliimjmimhaaDoor
