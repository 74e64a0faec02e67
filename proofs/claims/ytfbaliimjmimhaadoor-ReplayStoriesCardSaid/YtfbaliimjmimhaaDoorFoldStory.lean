/-
  A saga's story folds to just this saga. Conditions: none.
-/
import Derived.Test.YtfbaliimjmimhaaDoorFoldLaw
import Derived.Test.YtfbaliimjmimhaaDoorRef10Play
namespace Go.Proofs.YtfbaliimjmimhaaDoor
open Go.RowKit

theorem tellW_id (D : SagaD) : ∀ X ∈ tellW D, X.saga = D.id := by
  have all : ∀ {l m : List RecD}, (∀ X ∈ l, X.saga = D.id) → (∀ X ∈ m, X.saga = D.id) → ∀ X ∈ l ++ m, X.saga = D.id := fun h k X hX => (List.mem_append.1 hX).elim (h X) (k X)
  unfold tellW
  refine all ?_ (all ?_ (all ?_ ?_))
  · intro X hX
    obtain ⟨i, _, h⟩ := List.mem_flatMap.1 hX
    simp at h
    rcases h with rfl | rfl <;> rfl
  · unfold midW
    split
    · refine all (fun X hX => ?_) (fun X hX => ?_)
      · simp at hX
        rcases hX with rfl | rfl <;> rfl
      · obtain ⟨i, _, h⟩ := List.mem_flatMap.1 hX
        simp at h
        rcases h with rfl | rfl <;> rfl
    · intro X hX; cases hX
  · intro X hX
    obtain ⟨i, _, h⟩ := List.mem_flatMap.1 hX
    simp only [List.mem_cons] at h
    rcases h with rfl | h
    · rfl
    · split at h
      · simp at h; rw [h]
      · cases h
  · unfold endL
    intro X hX
    split at hX
    · simp at hX; rw [hX]
    · split at hX
      · simp at hX; rw [hX]
      · cases hX
theorem plays_one {l : List RecD} : ∀ {S E : SagaD}, PlaysD S l E → legal1 (some S) l ∧ fold1 (some S) l = some E := by
  induction l with
  | nil => intro S E h; cases h; exact ⟨trivial, rfl⟩
  | cons X l ih =>
    intro S E h
    obtain ⟨h1, h2⟩ := h
    obtain ⟨k1, k2⟩ := ih h2
    obtain ⟨_, a2, _⟩ := applyN_0 h1
    have e : oneN (some S) X = 0 := by unfold oneN; rw [if_neg (by simp [a2])]; exact h1
    exact ⟨⟨e, k1⟩, k2⟩
theorem story_one {D : SagaD} (hg : GoodD D) (hb : D.begun ≤ 9223372036854775807) (ha : D.at_ ≤ 9223372036854775807) : legal1 none (storyL D) ∧ fold1 none (storyL D) = some D := by
  obtain ⟨b1, b2⟩ := begin_story hg hb
  have hp := plays_one (story_plays hg hb ha)
  have e : oneN none (beginR D) = 0 := by
    have h0 : recD (beginR D) = 0 := by
      by_cases h : recD (beginR D) = 0
      · exact h
      · unfold beginN at b1; rw [if_pos h] at b1; exact b1
    unfold oneN
    rw [if_neg (by simp [h0])]
    exact b1
  refine ⟨⟨e, ?_⟩, ?_⟩
  · show legal1 (some (beginD (beginR D))) _
    rw [b2]; exact hp.1
  · show fold1 (some (beginD (beginR D))) _ = _
    rw [b2]; exact hp.2
theorem story_id {D : SagaD} (hg : GoodD D) : ∀ X ∈ storyL D, X.saga = D.id := by
  intro X hX
  rcases List.mem_cons.1 hX with rfl | hX
  · rfl
  · rw [← tellW_eq hg] at hX
    exact tellW_id D X hX
/-- ReplayStories: the stories of sagas with unlike ids, one behind the other. -/
theorem stories_fold {Ds : List SagaD} : (∀ D ∈ Ds, GoodD D ∧ D.begun ≤ 9223372036854775807 ∧ D.at_ ≤ 9223372036854775807) → Ds.Pairwise (fun D E => D.id ≠ E.id) →
    ∀ id, legal1 none (ofB id (Ds.flatMap storyL)) ∧ (∀ D ∈ Ds, D.id = id → fold1 none (ofB id (Ds.flatMap storyL)) = some D) ∧ ((∀ D ∈ Ds, D.id ≠ id) → ofB id (Ds.flatMap storyL) = []) := by
  induction Ds with
  | nil => intro _ _ id; exact ⟨trivial, (fun D h => by simp at h), fun _ => rfl⟩
  | cons D Ds ih =>
    intro hs hp id
    obtain ⟨p1, p2⟩ := List.pairwise_cons.1 hp
    obtain ⟨i1, i2, i3⟩ := ih (fun E hE => hs E (List.mem_cons_of_mem _ hE)) p2 id
    obtain ⟨g, hb, ha⟩ := hs D (by simp)
    have hsp : ofB id ((D :: Ds).flatMap storyL) = ofB id (storyL D) ++ ofB id (Ds.flatMap storyL) := by
      rw [List.flatMap_cons, ofB, List.filter_append]; rfl
    by_cases e : D.id = id
    · have h1 : ofB id (storyL D) = storyL D := List.filter_eq_self.2 (fun X hX => by simp [story_id g X hX, e])
      have h2 : ofB id (Ds.flatMap storyL) = [] := i3 (fun E hE => fun e2 => p1 E hE (e.trans e2.symm))
      rw [hsp, h1, h2, List.append_nil]
      obtain ⟨s1, s2⟩ := story_one g hb ha
      refine ⟨s1, fun E hE e2 => ?_, fun h => absurd e (h D (by simp))⟩
      rcases List.mem_cons.1 hE with rfl | hE
      · exact s2
      · exact absurd (e.trans e2.symm) (p1 E hE)
    · have h1 : ofB id (storyL D) = [] := List.filter_eq_nil_iff.2 (fun X hX => by simp [story_id g X hX, e])
      rw [hsp, h1, List.nil_append]
      refine ⟨i1, fun E hE e2 => ?_, fun h => i3 (fun E hE => h E (List.mem_cons_of_mem _ hE))⟩
      rcases List.mem_cons.1 hE with rfl | hE
      · exact absurd e2 e
      · exact i2 E hE e2
end Go.Proofs.YtfbaliimjmimhaaDoor
