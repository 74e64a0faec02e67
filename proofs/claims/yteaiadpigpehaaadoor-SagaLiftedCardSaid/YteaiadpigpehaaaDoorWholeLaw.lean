/-
  Whatever comes, steps are done in order and undone from the last one back: the law, in plain words. Conditions: none.
-/
import Derived.Test.YteaiadpigpehaaaDoorPkLaw
import Derived.Test.YteaiadpigpehaaaDoorTrail
namespace Go.Proofs.YteaiadpigpehaaaDoor
open Go.RowKit

theorem up3_name_le {R : RecD} (h : RecFits R) : (up3 R).name.size ≤ 4611686018427387904 := by
  have h1 := h.name
  have h2 := h.len
  unfold up3
  split
  · split
    · show (strOfNums R.data).size ≤ _
      rw [strOfNums_size]; omega
    · split
      · exact h1
      · split
        · exact h1
        · exact h1
  · exact h1
/-- What was seen of a saga. -/
structure TrailOf (T : TrailD) (D : SagaD) : Prop where
  count : T.count = D.count
  pivot : T.pivot = D.pivot
  fw : D.phase = 1 ∨ D.phase = 3 → T.done = D.next ∧ T.undone = 0
  bk : ¬ (D.phase = 1 ∨ D.phase = 3) → T.done = D.failStep ∧ T.undone = D.failStep - D.next
theorem TrailOf.bounds {T : TrailD} {D : SagaD} (h : TrailOf T D) (hg : GoodD D) : (0 ≤ T.done ∧ T.done ≤ 1000) ∧ (0 ≤ T.undone ∧ T.undone ≤ 1000) := by
  have hp := hg.plain.count32
  by_cases k : D.phase = 1 ∨ D.phase = 3
  · obtain ⟨h1, h2⟩ := h.fw k
    have := (hg.fw k).next; have := (hg.fw k).next0
    omega
  · obtain ⟨h1, h2⟩ := h.bk k
    have := (hg.bk k).next; have := (hg.bk k).count; have := (hg.bk k).next0
    omega

/-- A record that is taken. -/
structure WholeD (T : TrailD) (D : SagaD) (k st : Int) (T2 : TrailD) (D2 : SagaD) : Prop where
  fits : FitsT T k st
  next : TrailOf T2 D2
  open_ : D.phase = 1 ∨ D.phase = 2
  goes : k ≠ 7 → D2.phase = 1 ∨ D2.phase = 2
  ends : k = 7 → (D2.phase = 3 ∧ T2.done = T2.count ∧ T2.undone = 0) ∨ (D2.phase = 4 ∧ T2.done = T2.undone)

theorem whole_step {T : TrailD} {D : SagaD} {X : RecD} (hI : TrailOf T D) (hg : GoodD D) (hx : RecGood X) (ht : TakenD D X) : WholeD T D X.kind X.step (followD T X.kind) (movedD D X) := by
  obtain ⟨i1, i2, i3, i4⟩ := hI
  have hk1 := hx.kind1
  have hk7 := hx.kind7
  have hk := ht.kind
  have hcases : X.kind = 2 ∨ X.kind = 5 ∨ X.kind = 3 ∨ X.kind = 4 ∨ X.kind = 6 ∨ X.kind = 7 := by omega
  rcases hcases with k | k | k | k | k | k
  · have ph := ht.running (.inl k)
    rw [turn_2 (.inl k), show followD T X.kind = T by unfold followD; rw [if_neg (by omega), if_neg (by omega)]]
    exact ⟨⟨fun h => by omega, fun h => by omega⟩, ⟨i1, i2, i3, i4⟩, .inl ph, fun _ => .inl ph, fun h => by omega⟩
  · have ph := ht.undoing (.inl k)
    rw [turn_2 (.inr k), show followD T X.kind = T by unfold followD; rw [if_neg (by omega), if_neg (by omega)]]
    exact ⟨⟨fun h => by omega, fun h => by omega⟩, ⟨i1, i2, i3, i4⟩, .inr ph, fun _ => .inr ph, fun h => by omega⟩
  · have ph := ht.running (.inr k)
    have st := ht.step1 (by omega) ph
    have a6 := (hg.fw (.inl ph)).next
    obtain ⟨j1, j2⟩ := i3 (.inl ph)
    rw [turn_3 k, show followD T X.kind = { T with done := T.done + 1 } by unfold followD; rw [if_pos k]]
    refine ⟨⟨fun _ => ⟨j2, by omega, by omega⟩, fun h => by omega⟩, ⟨i1, i2, fun _ => ⟨?_, j2⟩, fun h => absurd (.inl ph) h⟩, .inl ph, fun _ => .inl ph, fun h => by omega⟩
    show T.done + 1 = D.next + 1
    omega
  · rw [show followD T X.kind = T by unfold followD; rw [if_neg (by omega), if_neg (by omega)]]
    by_cases hl : X.last = 0
    · rw [turn_4a k hl]
      exact ⟨⟨fun h => by omega, fun h => by omega⟩, ⟨i1, i2, i3, i4⟩, ht.phase, fun _ => ht.phase, fun h => by omega⟩
    · rw [turn_4b k hl]
      have l1 : X.last = 1 := by have := hx.last k; omega
      have ph := ht.failed k l1
      have st := ht.step1 (by omega) ph
      obtain ⟨j1, j2⟩ := i3 (.inl ph)
      refine ⟨⟨fun h => by omega, fun h => by omega⟩, ⟨i1, i2, fun h => ?_, fun _ => ⟨?_, ?_⟩⟩, .inl ph, fun _ => .inr rfl, fun h => by omega⟩
      · simp only at h; omega
      · show T.done = X.step; omega
      · show T.undone = X.step - D.next; omega
  · have ph := ht.undoing (.inr k)
    have st := ht.step2 (by omega) ph
    have ss := hx.step (by omega) (by omega)
    have hn : ¬ (D.phase = 1 ∨ D.phase = 3) := by omega
    obtain ⟨j1, j2⟩ := i4 hn
    have pv := (hg.bk hn).pivot
    have pz := hg.plain.pivot0
    rw [turn_6 k, show followD T X.kind = { T with undone := T.undone + 1 } by unfold followD; rw [if_neg (by omega), if_pos k]]
    refine ⟨⟨fun h => by omega, fun _ => ⟨by omega, by omega, ?_⟩⟩, ⟨i1, i2, fun h => absurd h hn, fun _ => ⟨j1, ?_⟩⟩, .inr ph, fun _ => .inr ph, fun h => by omega⟩
    · by_cases e : D.pivot = 0
      · exact .inl (by omega)
      · right; have := pv (by omega); omega
    · show T.undone + 1 = D.failStep - (D.next - 1)
      omega
  · rw [turn_7 k, show followD T X.kind = T by unfold followD; rw [if_neg (by omega), if_neg (by omega)]]
    rcases ht.phase with ph | ph
    · have st := ht.ended1 k ph
      obtain ⟨j1, j2⟩ := i3 (.inl ph)
      rw [if_pos ph]
      refine ⟨⟨fun h => by omega, fun h => by omega⟩, ⟨i1, i2, fun _ => ⟨j1, j2⟩, fun h => absurd (.inr rfl) h⟩, .inl ph, fun h => absurd k h, fun _ => .inl ⟨rfl, by omega, j2⟩⟩
    · have st := ht.ended2 k ph
      have hn : ¬ (D.phase = 1 ∨ D.phase = 3) := by omega
      obtain ⟨j1, j2⟩ := i4 hn
      rw [if_neg (by omega)]
      refine ⟨⟨fun h => by omega, fun h => by omega⟩, ⟨i1, i2, fun h => ?_, fun _ => ⟨j1, j2⟩⟩, .inr ph, fun h => absurd k h, fun _ => .inr ⟨rfl, by omega⟩⟩
      simp only at h; omega

theorem whole_apply {T : TrailD} {D : SagaD} {R : RecD} (hI : TrailOf T D) (h : applyN D R = 0) : WholeD T D R.kind R.step (followD T R.kind) (applyD D R) := by
  obtain ⟨hg, hx, ht, e, _⟩ := apply_taken h
  have w := whole_step hI hg hx ht
  rw [e]
  have hk := ht.kind
  rw [up3_kind, up3_step (by rw [up3_kind] at hk; exact hk)] at w
  exact w
theorem whole_begun {R : RecD} (h : beginN R = 0) : TrailOf ⟨(beginD R).count, (beginD R).pivot, 0, 0⟩ (beginD R) := by
  obtain ⟨_, _, e, _⟩ := begin_taken h
  rw [e]
  exact ⟨rfl, rfl, fun _ => ⟨rfl, rfl⟩, fun h => absurd (.inl rfl) h⟩
theorem whole_first : TrailOf ⟨2, 1, 0, 0⟩ firstD := ⟨rfl, rfl, fun _ => ⟨rfl, rfl⟩, fun h => absurd (.inl rfl) h⟩

def onR : RecD := ⟨3, 2, 7, 0, 1, 6, 0, 0, 0, 0, ⟨#[]⟩, []⟩
def offR : RecD := ⟨3, 3, 7, 0, 0, 6, 0, 0, 0, 0, ⟨#[]⟩, []⟩
def onD : SagaD := ⟨7, ⟨#[98, 117, 121]⟩, 2, 1, 5, 6, [105, 110], 1, 0, true, 1, [], [], 0, 0, []⟩
def offD : SagaD := ⟨7, ⟨#[98, 117, 121]⟩, 2, 1, 5, 6, [105, 110], 1, 1, false, 0, [[]], [], 0, 0, []⟩
theorem on_first : applyN firstD onR = 0 ∧ applyD firstD onR = onD := by
  have h := apply_ok (D := firstD) (R := onR) checkD_first (rec_start2 (by decide) (by decide) (by decide) (by decide) (by decide) (by decide) (by decide)) rfl ⟨by decide, by decide⟩ ⟨by decide, by decide⟩
    ⟨rfl, by decide, by decide, by decide, by decide, by decide, by decide, by decide, by decide, by decide, by decide, by decide, by decide, by decide⟩
  exact ⟨h.1, h.2.trans (turn_2 (.inl rfl))⟩
theorem off_on : applyN onD offR = 0 ∧ applyD onD offR = offD := by
  have hc : checkD onD = 0 := (checkD_iff _).2 (by have := (apply_taken on_first.1).2.2.2.2; rwa [on_first.2] at this)
  have h := apply_ok (D := onD) (R := offR) hc (rec_done3 (by decide) (by decide) (by decide) (by decide) (by decide) (by decide)) rfl ⟨by decide, by decide⟩ ⟨by decide, by decide⟩
    ⟨rfl, by decide, by decide, by decide, by decide, by decide, by decide, by decide, by decide, by decide, by decide, by decide, by decide, by decide⟩
  exact ⟨h.1, h.2.trans (turn_3 rfl)⟩
theorem fits_on : SagaFits onD := ⟨by decide, by decide, by decide⟩
theorem fits_off : SagaFits offD := ⟨by decide, by decide, by decide⟩
end Go.Proofs.YteaiadpigpehaaaDoor
