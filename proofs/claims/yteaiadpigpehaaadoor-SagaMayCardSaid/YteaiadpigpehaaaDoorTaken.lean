/-
  What a record that is not refused keeps, as plain facts, and conversely; the kinds that may come. Conditions: none.
-/
import Derived.Test.YteaiadpigpehaaaDoorMoves
namespace Go.Proofs.YteaiadpigpehaaaDoor
open Go.RowKit

theorem wrap_small {n : Int} (h0 : -1000 ≤ n) (h1 : n ≤ 1000) : wrap64 n = n := by unfold wrap64; omega

theorem refused_iff {D : SagaD} {X : RecD} (hk : 1 ≤ X.kind ∧ X.kind ≤ 7) (hn : 0 ≤ D.next ∧ D.next ≤ 1000) : refusedD D X = 0 ↔ TakenD D X := by
  obtain ⟨hk1, hk7⟩ := hk
  have hw : wrap64 (D.next - 1) = D.next - 1 := wrap_small (by omega) (by omega)
  obtain ⟨id, name, count, pivot, begun, at_, input, phase, next, flight, tries, outs, undos, fs, fc, fail⟩ := D
  obtain ⟨v, kind, saga, step, try_, rat, last, code, rcount, rpivot, rname, data⟩ := X
  simp only at hk1 hk7 hw hn
  have hcases : kind = 1 ∨ kind = 2 ∨ kind = 3 ∨ kind = 4 ∨ kind = 5 ∨ kind = 6 ∨ kind = 7 := by omega
  constructor
  · intro h
    unfold refusedD refusedN at h
    simp only at h
    split at h
    · cases h
    next h1 =>
    split at h
    · cases h
    next h2 =>
    split at h
    · cases h
    next h3 =>
    split at h
    · cases h
    next h4 =>
    split at h
    · cases h
    next h5 =>
    split at h
    · cases h
    next h6 =>
    split at h
    · cases h
    next h7 =>
    split at h
    · cases h
    next h8 =>
    split at h
    · cases h
    next h9 =>
    clear h
    simp only [wrongPhaseB, wrongFlightB, wrongStepB, wrongTryB, pivotB, wrongCodeB] at h4 h5 h6 h7 h8 h9
    rw [hw] at h6
    clear hw
    have hp : phase = 1 ∨ phase = 2 := by omega
    rcases hcases with rfl | rfl | rfl | rfl | rfl | rfl | rfl <;> rcases hp with rfl | rfl <;> constructor <;> simp_all [landsL] <;> omega
  · rintro ⟨a1, a2, a3, a4, a5, a6, a7, a8, a9, a10, a11, a12, a13, a14⟩
    simp only at a1 a2 a3 a4 a5 a6 a7 a8 a9 a10 a11 a12 a13 a14
    unfold refusedD refusedN
    simp only [wrongPhaseB, wrongFlightB, wrongStepB, wrongTryB, pivotB, wrongCodeB, hw]
    clear hw
    rcases hcases with rfl | rfl | rfl | rfl | rfl | rfl | rfl <;> rcases a3 with rfl | rfl <;> simp_all [landsL] <;> omega

theorem may_kind {D : SagaD} {R : RecD} (h : applyN D R = 0) : (allowedD D).any (· == R.kind) = true := by
  obtain ⟨h1, h2, h3⟩ := applyN_0 h
  have hg := (checkD_iff D).1 h1
  have hr := recGood h2
  have hb : 0 ≤ D.next ∧ D.next ≤ 1000 := by
    have hp := hg.plain.count32
    by_cases k : D.phase = 1 ∨ D.phase = 3
    · have := (hg.fw k).next; have := (hg.fw k).next0; omega
    · have := (hg.bk k).next; have := (hg.bk k).count; have := (hg.bk k).next0; omega
  have ht := (refused_iff ⟨hr.kind1, hr.kind7⟩ hb).1 h3
  have hk : (up3 R).kind = R.kind := up3_kind R
  rw [← hk]
  have hfw := hg.fw
  have hbk := hg.bk
  obtain ⟨a1, a2, a3, a4, a5, a6, a7, a8, a9, a10, a11, a12, a13, a14⟩ := ht
  have k1 := hr.kind1
  have k7 := hr.kind7
  have hs := hr.step
  obtain ⟨K, hK⟩ : ∃ x, (up3 R).kind = x := ⟨_, rfl⟩
  obtain ⟨S, hS⟩ : ∃ x, (up3 R).step = x := ⟨_, rfl⟩
  rw [hK] at a2 a4 a5 a6 a7 a8 a9 a10 a11 k1 k7 hs
  rw [hS] at a10 a11 hs
  rw [hK]
  unfold allowedD
  have hp3 : ¬ D.phase = 3 := by rcases a3 with p | p <;> rw [p] <;> decide
  have hp4 : ¬ D.phase = 4 := by rcases a3 with p | p <;> rw [p] <;> decide
  rw [if_neg (by simp [h1, hp3, hp4])]
  have hle : D.phase = 1 → D.next ≤ D.count := fun k => (hfw (.inl k)).next
  clear hfw hbk hK hS h h1 h2 h3 hg hr a1 a12 a13 a14
  have hcases : K = 2 ∨ K = 3 ∨ K = 4 ∨ K = 5 ∨ K = 6 ∨ K = 7 := by omega
  rcases hcases with rfl | rfl | rfl | rfl | rfl | rfl
  · have f : D.flight = false := by rw [a7]; decide
    have p := a4 (.inl rfl)
    have q := (a10 (by decide) p).2
    have := hle p
    rw [if_neg (by simp [f]), if_neg (by simp [f]), if_pos ⟨p, by omega⟩]; rfl
  · have f : D.flight = true := by rw [a7]; decide
    have p := a4 (.inr rfl)
    rw [if_pos ⟨f, p⟩]; rfl
  · have f : D.flight = true := by rw [a7]; decide
    rcases a3 with p | p
    · rw [if_pos ⟨f, p⟩]; rfl
    · rw [if_neg (by omega), if_pos f]; rfl
  · have f : D.flight = false := by rw [a7]; decide
    have p := a5 (.inl rfl)
    have q := a11 (by decide) p
    have := hs (by decide) (by decide)
    rw [if_neg (by simp [f]), if_neg (by simp [f]), if_neg (by omega), if_pos ⟨p, by omega⟩]; rfl
  · have f : D.flight = true := by rw [a7]; decide
    have p := a5 (.inr rfl)
    rw [if_neg (by omega), if_pos f]; rfl
  · have f : D.flight = false := by rw [a7]; decide
    rcases a3 with p | p
    · have := a8 rfl p
      rw [if_neg (by simp [f]), if_neg (by simp [f]), if_neg (by omega), if_neg (by omega)]; rfl
    · have := a9 rfl p
      rw [if_neg (by simp [f]), if_neg (by simp [f]), if_neg (by omega), if_neg (by omega)]; rfl
theorem allowed_len (D : SagaD) : (allowedD D).length ≤ 2 := by
  unfold allowedD
  (repeat' split) <;> simp
theorem allowed_no1 (D : SagaD) : (allowedD D).any (· == 1) = false := by
  unfold allowedD
  (repeat' split) <;> simp
def firstD' : SagaD := ⟨7, ⟨#[98, 117, 121]⟩, 2, 1, 5, 5, [105, 110], 1, 0, false, 0, [], [], 0, 0, []⟩
theorem checkD_first : checkD firstD' = 0 := by
  rw [checkD_iff]
  constructor
  · constructor <;> first | decide | rfl
  · intro _
    constructor <;> first | decide | rfl
  · intro h
    exact absurd (Or.inl rfl) h
end Go.Proofs.YteaiadpigpehaaaDoor
