/-
  A record that is valid is valid when it is lifted, and does what it did. Conditions: none. (Printed by wip/gen_uplaw.py.)
-/
import Derived.Test.YtfbaliimjmimhaaDoorPkLaw
namespace Go.Proofs.YtfbaliimjmimhaaDoor
open Go.RowKit

theorem up_valid_1_1 (R : RecD) (h : recD R = 0) (hv : R.v = 1) (hk : R.kind = 1) : recD (up3 R) = 0 := by
  have G := recGood h
  have hs := (recN_0 h).2.2.2.2
  unfold recD at h
  rw [recN_tags (V := 0) (K := 0) hv hk (by decide) (by decide) (by simp only at hs ⊢; omega)] at h
  have hA := recFrom_all 9 3 h
  clear h
  have b4 := zer (tag_zero (hA 4 (by decide) (by decide)) (by decide)) (by decide)
  have b5 := zer (tag_zero (hA 5 (by decide) (by decide)) (by decide)) (by decide)
  have b6 := zer (tag_zero (hA 6 (by decide) (by decide)) (by decide)) (by decide)
  have b7 := zer (tag_zero (hA 7 (by decide) (by decide)) (by decide)) (by decide)
  have b8 := zer (tag_zero (hA 8 (by decide) (by decide)) (by decide)) (by decide)
  have b9 := zer (tag_zero (hA 9 (by decide) (by decide)) (by decide)) (by decide)
  have b10 := tag_zero (hA 10 (by decide) (by decide)) (by decide)
  clear hA
  obtain ⟨rv, rk, rs, rst, rt, ra, rl, rc, rn, rp, nm, dt⟩ := R
  simp only at hv hk hs
  subst hv hk
  have e : up3 ⟨1, 1, rs, rst, rt, ra, rl, rc, rn, rp, nm, dt⟩ = ⟨3, 1, rs, 0, rt, ra, rl, rc, rst, rp, (strOfNums dt), []⟩ := rfl
  rw [e] at G ⊢
  clear e
  have g1 := G.saga
  have g2 := G.at0
  have g3 := G.data
  have gb := G.begun rfl
  clear G
  simp only [numberN, lenSl] at *
  unfold recD
  rw [recN_tags (V := 2) (K := 0) rfl rfl (by decide) (by decide) (by simp only; omega)]
  exact recFrom_nine (tag_no (by decide) (by simp [zeroB, numberN])) (tag_no (by decide) (by simp [zeroB, numberN] <;> omega)) (tag_yes (by decide) (bnd5_ok g2 (by simp only; omega))) (tag_no (by decide) (by simp [zeroB, numberN] <;> omega)) (tag_no (by decide) (by simp [zeroB, numberN] <;> omega)) (tag_yes (by decide) (bnd8_ok gb.1 gb.2.1)) (tag_yes (by decide) (bnd9_ok gb.2.2.1 gb.2.2.2.1)) (tag_yes (by decide) (bnd10_ok gb.2.2.2.2)) (tag_yes (by decide) (bnd11_ok rfl g3))
theorem up_valid_1_2 (R : RecD) (h : recD R = 0) (hv : R.v = 1) (hk : R.kind = 2) : recD (up3 R) = 0 := by
  have G := recGood h
  have hs := (recN_0 h).2.2.2.2
  unfold recD at h
  rw [recN_tags (V := 0) (K := 1) hv hk (by decide) (by decide) (by simp only at hs ⊢; omega)] at h
  have hA := recFrom_all 9 3 h
  clear h
  have b4 := zer (tag_zero (hA 4 (by decide) (by decide)) (by decide)) (by decide)
  have b5 := zer (tag_zero (hA 5 (by decide) (by decide)) (by decide)) (by decide)
  have b6 := zer (tag_zero (hA 6 (by decide) (by decide)) (by decide)) (by decide)
  have b7 := zer (tag_zero (hA 7 (by decide) (by decide)) (by decide)) (by decide)
  have b8 := zer (tag_zero (hA 8 (by decide) (by decide)) (by decide)) (by decide)
  have b9 := zer (tag_zero (hA 9 (by decide) (by decide)) (by decide)) (by decide)
  have b10 := tag_zero (hA 10 (by decide) (by decide)) (by decide)
  have b11 := zer11 (tag_zero (hA 11 (by decide) (by decide)) (by decide))
  clear hA
  obtain ⟨rv, rk, rs, rst, rt, ra, rl, rc, rn, rp, nm, dt⟩ := R
  simp only at hv hk hs
  subst hv hk
  have e : up3 ⟨1, 2, rs, rst, rt, ra, rl, rc, rn, rp, nm, dt⟩ = ⟨3, 2, rs, rst, 1, ra, rl, rc, rn, rp, nm, dt⟩ := rfl
  rw [e] at G ⊢
  clear e
  have g1 := G.saga
  have g2 := G.at0
  have g3 := G.data
  have gs := G.step (by simp) (by simp)
  have gt := G.try_ (.inl rfl)
  clear G
  simp only [numberN, lenSl] at *
  unfold recD
  rw [recN_tags (V := 2) (K := 1) rfl rfl (by decide) (by decide) (by simp only; omega)]
  exact recFrom_nine (tag_yes (by decide) (bnd3_ok rfl gs.1 gs.2)) (tag_yes (by decide) (bnd4_ok gt.1 gt.2)) (tag_yes (by decide) (bnd5_ok g2 (by simp only; omega))) (tag_no (by decide) (by simp [zeroB, numberN] <;> omega)) (tag_no (by decide) (by simp [zeroB, numberN] <;> omega)) (tag_no (by decide) (by simp [zeroB, numberN] <;> omega)) (tag_no (by decide) (by simp [zeroB, numberN] <;> omega)) (tag_no (by decide) (by simpa [zeroB] using b10)) (tag_no (by decide) (by simp [zeroB, lenSl] <;> simpa using b11))
theorem up_valid_1_3 (R : RecD) (h : recD R = 0) (hv : R.v = 1) (hk : R.kind = 3) : recD (up3 R) = 0 := by
  have G := recGood h
  have hs := (recN_0 h).2.2.2.2
  unfold recD at h
  rw [recN_tags (V := 0) (K := 2) hv hk (by decide) (by decide) (by simp only at hs ⊢; omega)] at h
  have hA := recFrom_all 9 3 h
  clear h
  have b4 := zer (tag_zero (hA 4 (by decide) (by decide)) (by decide)) (by decide)
  have b5 := zer (tag_zero (hA 5 (by decide) (by decide)) (by decide)) (by decide)
  have b6 := zer (tag_zero (hA 6 (by decide) (by decide)) (by decide)) (by decide)
  have b7 := zer (tag_zero (hA 7 (by decide) (by decide)) (by decide)) (by decide)
  have b8 := zer (tag_zero (hA 8 (by decide) (by decide)) (by decide)) (by decide)
  have b9 := zer (tag_zero (hA 9 (by decide) (by decide)) (by decide)) (by decide)
  have b10 := tag_zero (hA 10 (by decide) (by decide)) (by decide)
  clear hA
  obtain ⟨rv, rk, rs, rst, rt, ra, rl, rc, rn, rp, nm, dt⟩ := R
  simp only at hv hk hs
  subst hv hk
  have e : up3 ⟨1, 3, rs, rst, rt, ra, rl, rc, rn, rp, nm, dt⟩ = ⟨3, 3, rs, rst, rt, ra, rl, rc, rn, rp, nm, dt⟩ := rfl
  rw [e] at G ⊢
  clear e
  have g1 := G.saga
  have g2 := G.at0
  have g3 := G.data
  have gs := G.step (by simp) (by simp)
  clear G
  simp only [numberN, lenSl] at *
  unfold recD
  rw [recN_tags (V := 2) (K := 2) rfl rfl (by decide) (by decide) (by simp only; omega)]
  exact recFrom_nine (tag_yes (by decide) (bnd3_ok rfl gs.1 gs.2)) (tag_no (by decide) (by simp [zeroB, numberN] <;> omega)) (tag_yes (by decide) (bnd5_ok g2 (by simp only; omega))) (tag_no (by decide) (by simp [zeroB, numberN] <;> omega)) (tag_no (by decide) (by simp [zeroB, numberN] <;> omega)) (tag_no (by decide) (by simp [zeroB, numberN] <;> omega)) (tag_no (by decide) (by simp [zeroB, numberN] <;> omega)) (tag_no (by decide) (by simpa [zeroB] using b10)) (tag_yes (by decide) (bnd11_ok rfl g3))
theorem up_valid_1_4 (R : RecD) (h : recD R = 0) (hv : R.v = 1) (hk : R.kind = 4) : recD (up3 R) = 0 := by
  have G := recGood h
  have hs := (recN_0 h).2.2.2.2
  unfold recD at h
  rw [recN_tags (V := 0) (K := 3) hv hk (by decide) (by decide) (by simp only at hs ⊢; omega)] at h
  have hA := recFrom_all 9 3 h
  clear h
  have b4 := zer (tag_zero (hA 4 (by decide) (by decide)) (by decide)) (by decide)
  have b5 := zer (tag_zero (hA 5 (by decide) (by decide)) (by decide)) (by decide)
  have b6 := zer (tag_zero (hA 6 (by decide) (by decide)) (by decide)) (by decide)
  have b7 := zer (tag_zero (hA 7 (by decide) (by decide)) (by decide)) (by decide)
  have b8 := zer (tag_zero (hA 8 (by decide) (by decide)) (by decide)) (by decide)
  have b9 := zer (tag_zero (hA 9 (by decide) (by decide)) (by decide)) (by decide)
  have b10 := tag_zero (hA 10 (by decide) (by decide)) (by decide)
  clear hA
  obtain ⟨rv, rk, rs, rst, rt, ra, rl, rc, rn, rp, nm, dt⟩ := R
  simp only at hv hk hs
  subst hv hk
  have e : up3 ⟨1, 4, rs, rst, rt, ra, rl, rc, rn, rp, nm, dt⟩ = ⟨3, 4, rs, rst, rt, ra, 1, rc, rn, rp, nm, dt⟩ := rfl
  rw [e] at G ⊢
  clear e
  have g1 := G.saga
  have g2 := G.at0
  have g3 := G.data
  have gs := G.step (by simp) (by simp)
  have gl := G.last rfl
  clear G
  simp only [numberN, lenSl] at *
  unfold recD
  rw [recN_tags (V := 2) (K := 3) rfl rfl (by decide) (by decide) (by simp only; omega)]
  exact recFrom_nine (tag_yes (by decide) (bnd3_ok rfl gs.1 gs.2)) (tag_no (by decide) (by simp [zeroB, numberN] <;> omega)) (tag_yes (by decide) (bnd5_ok g2 (by simp only; omega))) (tag_yes (by decide) (bnd6_ok gl.1 gl.2)) (tag_yes (by decide) (bnd7_ok (fun h => by cases h))) (tag_no (by decide) (by simp [zeroB, numberN] <;> omega)) (tag_no (by decide) (by simp [zeroB, numberN] <;> omega)) (tag_no (by decide) (by simpa [zeroB] using b10)) (tag_yes (by decide) (bnd11_ok rfl g3))
theorem up_valid_1_5 (R : RecD) (h : recD R = 0) (hv : R.v = 1) (hk : R.kind = 5) : recD (up3 R) = 0 := by
  have G := recGood h
  have hs := (recN_0 h).2.2.2.2
  unfold recD at h
  rw [recN_tags (V := 0) (K := 4) hv hk (by decide) (by decide) (by simp only at hs ⊢; omega)] at h
  have hA := recFrom_all 9 3 h
  clear h
  have b4 := zer (tag_zero (hA 4 (by decide) (by decide)) (by decide)) (by decide)
  have b5 := zer (tag_zero (hA 5 (by decide) (by decide)) (by decide)) (by decide)
  have b6 := zer (tag_zero (hA 6 (by decide) (by decide)) (by decide)) (by decide)
  have b7 := zer (tag_zero (hA 7 (by decide) (by decide)) (by decide)) (by decide)
  have b8 := zer (tag_zero (hA 8 (by decide) (by decide)) (by decide)) (by decide)
  have b9 := zer (tag_zero (hA 9 (by decide) (by decide)) (by decide)) (by decide)
  have b10 := tag_zero (hA 10 (by decide) (by decide)) (by decide)
  have b11 := zer11 (tag_zero (hA 11 (by decide) (by decide)) (by decide))
  clear hA
  obtain ⟨rv, rk, rs, rst, rt, ra, rl, rc, rn, rp, nm, dt⟩ := R
  simp only at hv hk hs
  subst hv hk
  have e : up3 ⟨1, 5, rs, rst, rt, ra, rl, rc, rn, rp, nm, dt⟩ = ⟨3, 5, rs, rst, 1, ra, rl, rc, rn, rp, nm, dt⟩ := rfl
  rw [e] at G ⊢
  clear e
  have g1 := G.saga
  have g2 := G.at0
  have g3 := G.data
  have gs := G.step (by simp) (by simp)
  have gt := G.try_ (.inr rfl)
  clear G
  simp only [numberN, lenSl] at *
  unfold recD
  rw [recN_tags (V := 2) (K := 4) rfl rfl (by decide) (by decide) (by simp only; omega)]
  exact recFrom_nine (tag_yes (by decide) (bnd3_ok rfl gs.1 gs.2)) (tag_yes (by decide) (bnd4_ok gt.1 gt.2)) (tag_yes (by decide) (bnd5_ok g2 (by simp only; omega))) (tag_no (by decide) (by simp [zeroB, numberN] <;> omega)) (tag_no (by decide) (by simp [zeroB, numberN] <;> omega)) (tag_no (by decide) (by simp [zeroB, numberN] <;> omega)) (tag_no (by decide) (by simp [zeroB, numberN] <;> omega)) (tag_no (by decide) (by simpa [zeroB] using b10)) (tag_no (by decide) (by simp [zeroB, lenSl] <;> simpa using b11))
theorem up_valid_1_6 (R : RecD) (h : recD R = 0) (hv : R.v = 1) (hk : R.kind = 6) : recD (up3 R) = 0 := by
  have G := recGood h
  have hs := (recN_0 h).2.2.2.2
  unfold recD at h
  rw [recN_tags (V := 0) (K := 5) hv hk (by decide) (by decide) (by simp only at hs ⊢; omega)] at h
  have hA := recFrom_all 9 3 h
  clear h
  have b4 := zer (tag_zero (hA 4 (by decide) (by decide)) (by decide)) (by decide)
  have b5 := zer (tag_zero (hA 5 (by decide) (by decide)) (by decide)) (by decide)
  have b6 := zer (tag_zero (hA 6 (by decide) (by decide)) (by decide)) (by decide)
  have b7 := zer (tag_zero (hA 7 (by decide) (by decide)) (by decide)) (by decide)
  have b8 := zer (tag_zero (hA 8 (by decide) (by decide)) (by decide)) (by decide)
  have b9 := zer (tag_zero (hA 9 (by decide) (by decide)) (by decide)) (by decide)
  have b10 := tag_zero (hA 10 (by decide) (by decide)) (by decide)
  clear hA
  obtain ⟨rv, rk, rs, rst, rt, ra, rl, rc, rn, rp, nm, dt⟩ := R
  simp only at hv hk hs
  subst hv hk
  have e : up3 ⟨1, 6, rs, rst, rt, ra, rl, rc, rn, rp, nm, dt⟩ = ⟨3, 6, rs, rst, rt, ra, rl, rc, rn, rp, nm, dt⟩ := rfl
  rw [e] at G ⊢
  clear e
  have g1 := G.saga
  have g2 := G.at0
  have g3 := G.data
  have gs := G.step (by simp) (by simp)
  clear G
  simp only [numberN, lenSl] at *
  unfold recD
  rw [recN_tags (V := 2) (K := 5) rfl rfl (by decide) (by decide) (by simp only; omega)]
  exact recFrom_nine (tag_yes (by decide) (bnd3_ok rfl gs.1 gs.2)) (tag_no (by decide) (by simp [zeroB, numberN] <;> omega)) (tag_yes (by decide) (bnd5_ok g2 (by simp only; omega))) (tag_no (by decide) (by simp [zeroB, numberN] <;> omega)) (tag_no (by decide) (by simp [zeroB, numberN] <;> omega)) (tag_no (by decide) (by simp [zeroB, numberN] <;> omega)) (tag_no (by decide) (by simp [zeroB, numberN] <;> omega)) (tag_no (by decide) (by simpa [zeroB] using b10)) (tag_yes (by decide) (bnd11_ok rfl g3))
theorem up_valid_1_7 (R : RecD) (h : recD R = 0) (hv : R.v = 1) (hk : R.kind = 7) : recD (up3 R) = 0 := by
  have G := recGood h
  have hs := (recN_0 h).2.2.2.2
  unfold recD at h
  rw [recN_tags (V := 0) (K := 6) hv hk (by decide) (by decide) (by simp only at hs ⊢; omega)] at h
  have hA := recFrom_all 9 3 h
  clear h
  have b3 := zer (tag_zero (hA 3 (by decide) (by decide)) (by decide)) (by decide)
  have b4 := zer (tag_zero (hA 4 (by decide) (by decide)) (by decide)) (by decide)
  have b5 := zer (tag_zero (hA 5 (by decide) (by decide)) (by decide)) (by decide)
  have b6 := zer (tag_zero (hA 6 (by decide) (by decide)) (by decide)) (by decide)
  have b7 := zer (tag_zero (hA 7 (by decide) (by decide)) (by decide)) (by decide)
  have b8 := zer (tag_zero (hA 8 (by decide) (by decide)) (by decide)) (by decide)
  have b9 := zer (tag_zero (hA 9 (by decide) (by decide)) (by decide)) (by decide)
  have b10 := tag_zero (hA 10 (by decide) (by decide)) (by decide)
  have b11 := zer11 (tag_zero (hA 11 (by decide) (by decide)) (by decide))
  clear hA
  obtain ⟨rv, rk, rs, rst, rt, ra, rl, rc, rn, rp, nm, dt⟩ := R
  simp only at hv hk hs
  subst hv hk
  have e : up3 ⟨1, 7, rs, rst, rt, ra, rl, rc, rn, rp, nm, dt⟩ = ⟨3, 7, rs, rst, rt, ra, rl, rc, rn, rp, nm, dt⟩ := rfl
  rw [e] at G ⊢
  clear e
  have g1 := G.saga
  have g2 := G.at0
  have g3 := G.data
  have gc := G.code rfl
  clear G
  simp only [numberN, lenSl] at *
  unfold recD
  rw [recN_tags (V := 2) (K := 6) rfl rfl (by decide) (by decide) (by simp only; omega)]
  exact recFrom_nine (tag_no (by decide) (by simp [zeroB, numberN] <;> omega)) (tag_no (by decide) (by simp [zeroB, numberN] <;> omega)) (tag_yes (by decide) (bnd5_ok g2 (by simp only; omega))) (tag_no (by decide) (by simp [zeroB, numberN] <;> omega)) (tag_yes (by decide) (bnd7_ok (fun _ => gc))) (tag_no (by decide) (by simp [zeroB, numberN] <;> omega)) (tag_no (by decide) (by simp [zeroB, numberN] <;> omega)) (tag_no (by decide) (by simpa [zeroB] using b10)) (tag_no (by decide) (by simp [zeroB, lenSl] <;> simpa using b11))
theorem up_valid_2_1 (R : RecD) (h : recD R = 0) (hv : R.v = 2) (hk : R.kind = 1) : recD (up3 R) = 0 := by
  have G := recGood h
  have hs := (recN_0 h).2.2.2.2
  unfold recD at h
  rw [recN_tags (V := 1) (K := 0) hv hk (by decide) (by decide) (by simp only at hs ⊢; omega)] at h
  have hA := recFrom_all 9 3 h
  clear h
  have b3 := zer (tag_zero (hA 3 (by decide) (by decide)) (by decide)) (by decide)
  have b4 := zer (tag_zero (hA 4 (by decide) (by decide)) (by decide)) (by decide)
  have b5 := within_0 (by simpa [boundsN] using tag_stands (hA 5 (by decide) (by decide)) (by decide) : withinN _ _ _ = 0)
  have b6 := zer (tag_zero (hA 6 (by decide) (by decide)) (by decide)) (by decide)
  have b7 := zer (tag_zero (hA 7 (by decide) (by decide)) (by decide)) (by decide)
  have b9 := zer (tag_zero (hA 9 (by decide) (by decide)) (by decide)) (by decide)
  clear hA
  obtain ⟨rv, rk, rs, rst, rt, ra, rl, rc, rn, rp, nm, dt⟩ := R
  simp only at hv hk hs
  subst hv hk
  have e : up3 ⟨2, 1, rs, rst, rt, ra, rl, rc, rn, rp, nm, dt⟩ = ⟨3, 1, rs, rst, rt, ra, rl, rc, rn, rp, nm, dt⟩ := rfl
  rw [e] at G ⊢
  clear e
  have g1 := G.saga
  have g2 := G.at0
  have g3 := G.data
  have gb := G.begun rfl
  clear G
  simp only [numberN] at *
  unfold recD
  rw [recN_tags (V := 2) (K := 0) rfl rfl (by decide) (by decide) (by simp only; omega)]
  exact recFrom_nine (tag_no (by decide) (by simp [zeroB, numberN] <;> omega)) (tag_no (by decide) (by simp [zeroB, numberN] <;> omega)) (tag_yes (by decide) (bnd5_ok g2 (by simp only; omega))) (tag_no (by decide) (by simp [zeroB, numberN] <;> omega)) (tag_no (by decide) (by simp [zeroB, numberN] <;> omega)) (tag_yes (by decide) (bnd8_ok gb.1 gb.2.1)) (tag_yes (by decide) (bnd9_ok gb.2.2.1 gb.2.2.2.1)) (tag_yes (by decide) (bnd10_ok gb.2.2.2.2)) (tag_yes (by decide) (bnd11_ok rfl g3))
theorem up_valid_2_2 (R : RecD) (h : recD R = 0) (hv : R.v = 2) (hk : R.kind = 2) : recD (up3 R) = 0 := by
  have G := recGood h
  have hs := (recN_0 h).2.2.2.2
  unfold recD at h
  rw [recN_tags (V := 1) (K := 1) hv hk (by decide) (by decide) (by simp only at hs ⊢; omega)] at h
  have hA := recFrom_all 9 3 h
  clear h
  have b5 := within_0 (by simpa [boundsN] using tag_stands (hA 5 (by decide) (by decide)) (by decide) : withinN _ _ _ = 0)
  have b6 := zer (tag_zero (hA 6 (by decide) (by decide)) (by decide)) (by decide)
  have b7 := zer (tag_zero (hA 7 (by decide) (by decide)) (by decide)) (by decide)
  have b8 := zer (tag_zero (hA 8 (by decide) (by decide)) (by decide)) (by decide)
  have b9 := zer (tag_zero (hA 9 (by decide) (by decide)) (by decide)) (by decide)
  have b10 := tag_zero (hA 10 (by decide) (by decide)) (by decide)
  have b11 := zer11 (tag_zero (hA 11 (by decide) (by decide)) (by decide))
  clear hA
  obtain ⟨rv, rk, rs, rst, rt, ra, rl, rc, rn, rp, nm, dt⟩ := R
  simp only at hv hk hs
  subst hv hk
  have e : up3 ⟨2, 2, rs, rst, rt, ra, rl, rc, rn, rp, nm, dt⟩ = ⟨3, 2, rs, rst, rt, ra, rl, rc, rn, rp, nm, dt⟩ := rfl
  rw [e] at G ⊢
  clear e
  have g1 := G.saga
  have g2 := G.at0
  have g3 := G.data
  have gs := G.step (by simp) (by simp)
  have gt := G.try_ (.inl rfl)
  clear G
  simp only [numberN, lenSl] at *
  unfold recD
  rw [recN_tags (V := 2) (K := 1) rfl rfl (by decide) (by decide) (by simp only; omega)]
  exact recFrom_nine (tag_yes (by decide) (bnd3_ok rfl gs.1 gs.2)) (tag_yes (by decide) (bnd4_ok gt.1 gt.2)) (tag_yes (by decide) (bnd5_ok g2 (by simp only; omega))) (tag_no (by decide) (by simp [zeroB, numberN] <;> omega)) (tag_no (by decide) (by simp [zeroB, numberN] <;> omega)) (tag_no (by decide) (by simp [zeroB, numberN] <;> omega)) (tag_no (by decide) (by simp [zeroB, numberN] <;> omega)) (tag_no (by decide) (by simpa [zeroB] using b10)) (tag_no (by decide) (by simp [zeroB, lenSl] <;> simpa using b11))
theorem up_valid_2_3 (R : RecD) (h : recD R = 0) (hv : R.v = 2) (hk : R.kind = 3) : recD (up3 R) = 0 := by
  have G := recGood h
  have hs := (recN_0 h).2.2.2.2
  unfold recD at h
  rw [recN_tags (V := 1) (K := 2) hv hk (by decide) (by decide) (by simp only at hs ⊢; omega)] at h
  have hA := recFrom_all 9 3 h
  clear h
  have b4 := zer (tag_zero (hA 4 (by decide) (by decide)) (by decide)) (by decide)
  have b5 := within_0 (by simpa [boundsN] using tag_stands (hA 5 (by decide) (by decide)) (by decide) : withinN _ _ _ = 0)
  have b6 := zer (tag_zero (hA 6 (by decide) (by decide)) (by decide)) (by decide)
  have b7 := zer (tag_zero (hA 7 (by decide) (by decide)) (by decide)) (by decide)
  have b8 := zer (tag_zero (hA 8 (by decide) (by decide)) (by decide)) (by decide)
  have b9 := zer (tag_zero (hA 9 (by decide) (by decide)) (by decide)) (by decide)
  have b10 := tag_zero (hA 10 (by decide) (by decide)) (by decide)
  clear hA
  obtain ⟨rv, rk, rs, rst, rt, ra, rl, rc, rn, rp, nm, dt⟩ := R
  simp only at hv hk hs
  subst hv hk
  have e : up3 ⟨2, 3, rs, rst, rt, ra, rl, rc, rn, rp, nm, dt⟩ = ⟨3, 3, rs, rst, rt, ra, rl, rc, rn, rp, nm, dt⟩ := rfl
  rw [e] at G ⊢
  clear e
  have g1 := G.saga
  have g2 := G.at0
  have g3 := G.data
  have gs := G.step (by simp) (by simp)
  clear G
  simp only [numberN, lenSl] at *
  unfold recD
  rw [recN_tags (V := 2) (K := 2) rfl rfl (by decide) (by decide) (by simp only; omega)]
  exact recFrom_nine (tag_yes (by decide) (bnd3_ok rfl gs.1 gs.2)) (tag_no (by decide) (by simp [zeroB, numberN] <;> omega)) (tag_yes (by decide) (bnd5_ok g2 (by simp only; omega))) (tag_no (by decide) (by simp [zeroB, numberN] <;> omega)) (tag_no (by decide) (by simp [zeroB, numberN] <;> omega)) (tag_no (by decide) (by simp [zeroB, numberN] <;> omega)) (tag_no (by decide) (by simp [zeroB, numberN] <;> omega)) (tag_no (by decide) (by simpa [zeroB] using b10)) (tag_yes (by decide) (bnd11_ok rfl g3))
theorem up_valid_2_4 (R : RecD) (h : recD R = 0) (hv : R.v = 2) (hk : R.kind = 4) : recD (up3 R) = 0 := by
  have G := recGood h
  have hs := (recN_0 h).2.2.2.2
  unfold recD at h
  rw [recN_tags (V := 1) (K := 3) hv hk (by decide) (by decide) (by simp only at hs ⊢; omega)] at h
  have hA := recFrom_all 9 3 h
  clear h
  have b4 := zer (tag_zero (hA 4 (by decide) (by decide)) (by decide)) (by decide)
  have b5 := within_0 (by simpa [boundsN] using tag_stands (hA 5 (by decide) (by decide)) (by decide) : withinN _ _ _ = 0)
  have b7 := zer (tag_zero (hA 7 (by decide) (by decide)) (by decide)) (by decide)
  have b8 := zer (tag_zero (hA 8 (by decide) (by decide)) (by decide)) (by decide)
  have b9 := zer (tag_zero (hA 9 (by decide) (by decide)) (by decide)) (by decide)
  have b10 := tag_zero (hA 10 (by decide) (by decide)) (by decide)
  clear hA
  obtain ⟨rv, rk, rs, rst, rt, ra, rl, rc, rn, rp, nm, dt⟩ := R
  simp only at hv hk hs
  subst hv hk
  have e : up3 ⟨2, 4, rs, rst, rt, ra, rl, rc, rn, rp, nm, dt⟩ = ⟨3, 4, rs, rst, rt, ra, rl, rc, rn, rp, nm, dt⟩ := rfl
  rw [e] at G ⊢
  clear e
  have g1 := G.saga
  have g2 := G.at0
  have g3 := G.data
  have gs := G.step (by simp) (by simp)
  have gl := G.last rfl
  clear G
  simp only [numberN, lenSl] at *
  unfold recD
  rw [recN_tags (V := 2) (K := 3) rfl rfl (by decide) (by decide) (by simp only; omega)]
  exact recFrom_nine (tag_yes (by decide) (bnd3_ok rfl gs.1 gs.2)) (tag_no (by decide) (by simp [zeroB, numberN] <;> omega)) (tag_yes (by decide) (bnd5_ok g2 (by simp only; omega))) (tag_yes (by decide) (bnd6_ok gl.1 gl.2)) (tag_yes (by decide) (bnd7_ok (fun h => by cases h))) (tag_no (by decide) (by simp [zeroB, numberN] <;> omega)) (tag_no (by decide) (by simp [zeroB, numberN] <;> omega)) (tag_no (by decide) (by simpa [zeroB] using b10)) (tag_yes (by decide) (bnd11_ok rfl g3))
theorem up_valid_2_5 (R : RecD) (h : recD R = 0) (hv : R.v = 2) (hk : R.kind = 5) : recD (up3 R) = 0 := by
  have G := recGood h
  have hs := (recN_0 h).2.2.2.2
  unfold recD at h
  rw [recN_tags (V := 1) (K := 4) hv hk (by decide) (by decide) (by simp only at hs ⊢; omega)] at h
  have hA := recFrom_all 9 3 h
  clear h
  have b5 := within_0 (by simpa [boundsN] using tag_stands (hA 5 (by decide) (by decide)) (by decide) : withinN _ _ _ = 0)
  have b6 := zer (tag_zero (hA 6 (by decide) (by decide)) (by decide)) (by decide)
  have b7 := zer (tag_zero (hA 7 (by decide) (by decide)) (by decide)) (by decide)
  have b8 := zer (tag_zero (hA 8 (by decide) (by decide)) (by decide)) (by decide)
  have b9 := zer (tag_zero (hA 9 (by decide) (by decide)) (by decide)) (by decide)
  have b10 := tag_zero (hA 10 (by decide) (by decide)) (by decide)
  have b11 := zer11 (tag_zero (hA 11 (by decide) (by decide)) (by decide))
  clear hA
  obtain ⟨rv, rk, rs, rst, rt, ra, rl, rc, rn, rp, nm, dt⟩ := R
  simp only at hv hk hs
  subst hv hk
  have e : up3 ⟨2, 5, rs, rst, rt, ra, rl, rc, rn, rp, nm, dt⟩ = ⟨3, 5, rs, rst, rt, ra, rl, rc, rn, rp, nm, dt⟩ := rfl
  rw [e] at G ⊢
  clear e
  have g1 := G.saga
  have g2 := G.at0
  have g3 := G.data
  have gs := G.step (by simp) (by simp)
  have gt := G.try_ (.inr rfl)
  clear G
  simp only [numberN, lenSl] at *
  unfold recD
  rw [recN_tags (V := 2) (K := 4) rfl rfl (by decide) (by decide) (by simp only; omega)]
  exact recFrom_nine (tag_yes (by decide) (bnd3_ok rfl gs.1 gs.2)) (tag_yes (by decide) (bnd4_ok gt.1 gt.2)) (tag_yes (by decide) (bnd5_ok g2 (by simp only; omega))) (tag_no (by decide) (by simp [zeroB, numberN] <;> omega)) (tag_no (by decide) (by simp [zeroB, numberN] <;> omega)) (tag_no (by decide) (by simp [zeroB, numberN] <;> omega)) (tag_no (by decide) (by simp [zeroB, numberN] <;> omega)) (tag_no (by decide) (by simpa [zeroB] using b10)) (tag_no (by decide) (by simp [zeroB, lenSl] <;> simpa using b11))
theorem up_valid_2_6 (R : RecD) (h : recD R = 0) (hv : R.v = 2) (hk : R.kind = 6) : recD (up3 R) = 0 := by
  have G := recGood h
  have hs := (recN_0 h).2.2.2.2
  unfold recD at h
  rw [recN_tags (V := 1) (K := 5) hv hk (by decide) (by decide) (by simp only at hs ⊢; omega)] at h
  have hA := recFrom_all 9 3 h
  clear h
  have b4 := zer (tag_zero (hA 4 (by decide) (by decide)) (by decide)) (by decide)
  have b5 := within_0 (by simpa [boundsN] using tag_stands (hA 5 (by decide) (by decide)) (by decide) : withinN _ _ _ = 0)
  have b6 := zer (tag_zero (hA 6 (by decide) (by decide)) (by decide)) (by decide)
  have b7 := zer (tag_zero (hA 7 (by decide) (by decide)) (by decide)) (by decide)
  have b8 := zer (tag_zero (hA 8 (by decide) (by decide)) (by decide)) (by decide)
  have b9 := zer (tag_zero (hA 9 (by decide) (by decide)) (by decide)) (by decide)
  have b10 := tag_zero (hA 10 (by decide) (by decide)) (by decide)
  clear hA
  obtain ⟨rv, rk, rs, rst, rt, ra, rl, rc, rn, rp, nm, dt⟩ := R
  simp only at hv hk hs
  subst hv hk
  have e : up3 ⟨2, 6, rs, rst, rt, ra, rl, rc, rn, rp, nm, dt⟩ = ⟨3, 6, rs, rst, rt, ra, rl, rc, rn, rp, nm, dt⟩ := rfl
  rw [e] at G ⊢
  clear e
  have g1 := G.saga
  have g2 := G.at0
  have g3 := G.data
  have gs := G.step (by simp) (by simp)
  clear G
  simp only [numberN, lenSl] at *
  unfold recD
  rw [recN_tags (V := 2) (K := 5) rfl rfl (by decide) (by decide) (by simp only; omega)]
  exact recFrom_nine (tag_yes (by decide) (bnd3_ok rfl gs.1 gs.2)) (tag_no (by decide) (by simp [zeroB, numberN] <;> omega)) (tag_yes (by decide) (bnd5_ok g2 (by simp only; omega))) (tag_no (by decide) (by simp [zeroB, numberN] <;> omega)) (tag_no (by decide) (by simp [zeroB, numberN] <;> omega)) (tag_no (by decide) (by simp [zeroB, numberN] <;> omega)) (tag_no (by decide) (by simp [zeroB, numberN] <;> omega)) (tag_no (by decide) (by simpa [zeroB] using b10)) (tag_yes (by decide) (bnd11_ok rfl g3))
theorem up_valid_2_7 (R : RecD) (h : recD R = 0) (hv : R.v = 2) (hk : R.kind = 7) : recD (up3 R) = 0 := by
  have G := recGood h
  have hs := (recN_0 h).2.2.2.2
  unfold recD at h
  rw [recN_tags (V := 1) (K := 6) hv hk (by decide) (by decide) (by simp only at hs ⊢; omega)] at h
  have hA := recFrom_all 9 3 h
  clear h
  have b3 := zer (tag_zero (hA 3 (by decide) (by decide)) (by decide)) (by decide)
  have b4 := zer (tag_zero (hA 4 (by decide) (by decide)) (by decide)) (by decide)
  have b5 := within_0 (by simpa [boundsN] using tag_stands (hA 5 (by decide) (by decide)) (by decide) : withinN _ _ _ = 0)
  have b6 := zer (tag_zero (hA 6 (by decide) (by decide)) (by decide)) (by decide)
  have b7 := zer (tag_zero (hA 7 (by decide) (by decide)) (by decide)) (by decide)
  have b8 := zer (tag_zero (hA 8 (by decide) (by decide)) (by decide)) (by decide)
  have b9 := zer (tag_zero (hA 9 (by decide) (by decide)) (by decide)) (by decide)
  have b10 := tag_zero (hA 10 (by decide) (by decide)) (by decide)
  have b11 := zer11 (tag_zero (hA 11 (by decide) (by decide)) (by decide))
  clear hA
  obtain ⟨rv, rk, rs, rst, rt, ra, rl, rc, rn, rp, nm, dt⟩ := R
  simp only at hv hk hs
  subst hv hk
  have e : up3 ⟨2, 7, rs, rst, rt, ra, rl, rc, rn, rp, nm, dt⟩ = ⟨3, 7, rs, rst, rt, ra, rl, rc, rn, rp, nm, dt⟩ := rfl
  rw [e] at G ⊢
  clear e
  have g1 := G.saga
  have g2 := G.at0
  have g3 := G.data
  have gc := G.code rfl
  clear G
  simp only [numberN, lenSl] at *
  unfold recD
  rw [recN_tags (V := 2) (K := 6) rfl rfl (by decide) (by decide) (by simp only; omega)]
  exact recFrom_nine (tag_no (by decide) (by simp [zeroB, numberN] <;> omega)) (tag_no (by decide) (by simp [zeroB, numberN] <;> omega)) (tag_yes (by decide) (bnd5_ok g2 (by simp only; omega))) (tag_no (by decide) (by simp [zeroB, numberN] <;> omega)) (tag_yes (by decide) (bnd7_ok (fun _ => gc))) (tag_no (by decide) (by simp [zeroB, numberN] <;> omega)) (tag_no (by decide) (by simp [zeroB, numberN] <;> omega)) (tag_no (by decide) (by simpa [zeroB] using b10)) (tag_no (by decide) (by simp [zeroB, lenSl] <;> simpa using b11))
theorem up_valid {R : RecD} (h : recD R = 0) : recD (up3 R) = 0 := by
  obtain ⟨h1, h2, h3, h4, h5⟩ := recN_0 h
  simp only at h1 h2 h3 h4
  by_cases h33 : R.v = 3
  · rw [up3_3 h33]; exact h
  have hv : R.v = 1 ∨ R.v = 2 := by omega
  have hk : R.kind = 1 ∨ R.kind = 2 ∨ R.kind = 3 ∨ R.kind = 4 ∨ R.kind = 5 ∨ R.kind = 6 ∨ R.kind = 7 := by omega
  rcases hv with hv | hv <;> rcases hk with hk | hk | hk | hk | hk | hk | hk
  · exact up_valid_1_1 R h hv hk
  · exact up_valid_1_2 R h hv hk
  · exact up_valid_1_3 R h hv hk
  · exact up_valid_1_4 R h hv hk
  · exact up_valid_1_5 R h hv hk
  · exact up_valid_1_6 R h hv hk
  · exact up_valid_1_7 R h hv hk
  · exact up_valid_2_1 R h hv hk
  · exact up_valid_2_2 R h hv hk
  · exact up_valid_2_3 R h hv hk
  · exact up_valid_2_4 R h hv hk
  · exact up_valid_2_5 R h hv hk
  · exact up_valid_2_6 R h hv hk
  · exact up_valid_2_7 R h hv hk
/-- A lifted record does what the record does. -/
structure Lifted (D : SagaD) (R : RecD) : Prop where
  n : applyN D (up3 R) = applyN D R
  to : applyD D (up3 R) = applyD D R
  bn : beginN (up3 R) = beginN R
  bto : beginD (up3 R) = beginD R
theorem lifted {D : SagaD} {R : RecD} (h : recD R = 0) : Lifted D R := by
  have h3 := up_valid h
  have e : up3 (up3 R) = up3 R := up3_3 (up3_v R)
  have n : applyN D (up3 R) = applyN D R := by unfold applyN; rw [h3, h, e]
  have b : beginN (up3 R) = beginN R := by unfold beginN; rw [h3, h, up3_kind]
  exact ⟨n, by unfold applyD; rw [n, e], b, by unfold beginD; rw [b, e]⟩
end Go.Proofs.YtfbaliimjmimhaaDoor
