/-
  What the reference's Check plays: a story that is taken, record upon record, leads to a saga that may be. Conditions: none.
-/
import Derived.Test.YtfbaliimjmimhaaDoorStoryWalk
import Derived.Test.YtfbaliimjmimhaaDoorPkLaw
namespace Go.Proofs.YtfbaliimjmimhaaDoor
open Go.RowKit

theorem GoodD.nextb {D : SagaD} (h : GoodD D) : 0 ≤ D.next ∧ D.next ≤ 1000 := by
  have hp := h.plain.count32
  by_cases k : D.phase = 1 ∨ D.phase = 3
  · have := (h.fw k).next; have := (h.fw k).next0; omega
  · have := (h.bk k).next; have := (h.bk k).count; have := (h.bk k).next0; omega
/-- The reference's play: the error, and the saga where it stops. -/
def playR : SagaD → List RecD → Int × SagaD
  | D, [] => (0, D)
  | D, X :: l => if recD X ≠ 0 then (recD X, D) else if refusedD D X ≠ 0 then (refusedD D X, D) else playR (movedD D X) l
theorem playR_err {D : SagaD} {X : RecD} {l : List RecD} (h : recD X ≠ 0) : playR D (X :: l) = (recD X, D) := by unfold playR; rw [if_pos h]
theorem playR_ref {D : SagaD} {X : RecD} {l : List RecD} (h : recD X = 0) (h2 : refusedD D X ≠ 0) : playR D (X :: l) = (refusedD D X, D) := by unfold playR; rw [if_neg (by simp [h]), if_pos h2]
theorem playR_step {D : SagaD} {X : RecD} {l : List RecD} (h : recD X = 0) (h2 : refusedD D X = 0) : playR D (X :: l) = playR (movedD D X) l := by
  show (if recD X ≠ 0 then _ else _) = _
  rw [if_neg (by simp [h]), if_neg (by simp [h2])]
theorem taken_good {D : SagaD} {X : RecD} (hg : GoodD D) (hv : X.v = 3) (h : recD X = 0) (h2 : refusedD D X = 0) : RecGood X ∧ TakenD D X ∧ GoodD (movedD D X) := by
  have hx := recGood h
  rw [up3_3 hv] at hx
  have ht := (refused_iff ⟨hx.kind1, hx.kind7⟩ hg.nextb).1 h2
  exact ⟨hx, ht, good_step hg hx ht⟩
theorem playR_good {l : List RecD} : ∀ {S : SagaD}, GoodD S → (∀ X ∈ l, X.v = 3) → (playR S l).1 = 0 → GoodD (playR S l).2 := by
  induction l with
  | nil => intro S hg _ _; exact hg
  | cons X l ih =>
    intro S hg hv h
    by_cases h1 : recD X = 0
    · by_cases h2 : refusedD S X = 0
      · rw [playR_step h1 h2] at h ⊢
        exact ih (taken_good hg (hv X (by simp)) h1 h2).2.2 (fun Y hY => hv Y (by simp [hY])) h
      · rw [playR_ref h1 h2] at h; exact absurd h h2
    · rw [playR_err h1] at h; exact absurd h h1
theorem playR_plays {l : List RecD} : ∀ {S E : SagaD}, (∀ X ∈ l, X.v = 3) → PlaysD S l E → playR S l = (0, E) := by
  induction l with
  | nil => intro S E _ h; cases h; rfl
  | cons X l ih =>
    intro S E hv h
    obtain ⟨h1, h2⟩ := h
    have e := up3_3 (hv X (by simp))
    obtain ⟨_, a2, a3⟩ := applyN_0 h1
    have a4 := (apply_taken h1).2.2.2.1
    rw [e] at a3 a4
    rw [playR_step a2 a3, ← a4]
    exact ih (fun Y hY => hv Y (by simp [hY])) h2
/-- Are a story's bounds kept? -/
def sizedD (D : SagaD) : Bool := decide ((nameA D.name).1 = 0 ∧ 1 ≤ D.id ∧ 1 ≤ D.count ∧ D.count ≤ 32 ∧ 0 ≤ D.tries ∧ D.tries ≤ 1000 ∧ 1 ≤ D.phase ∧ D.phase ≤ 4 ∧ D.outs.length ≤ 32 ∧ D.undos.length ≤ 32 ∧ (0 < D.tries ∨ D.flight = false))
theorem GoodD.sized {D : SagaD} (h : GoodD D) : sizedD D = true := by
  have p := h.plain
  refine decide_eq_true ⟨p.name, p.id, p.count1, p.count32, p.tries0, p.tries1000, p.phase1, p.phase4, h.outs32, h.undos32, ?_⟩
  cases hf : D.flight with
  | false => exact .inr rfl
  | true => have := p.flight hf; have := p.tries0; exact .inl (by omega)
/-- The story as the reference lays it: its numbers wrap. -/
def undosW (D : SagaD) (n : Nat) : List RecD := (List.range n).flatMap fun (j : Nat) => [startR D 5 (wrap64 (wrap64 (D.failStep - 1) - (j : Int))) 1, doneR D 6 (wrap64 (wrap64 (D.failStep - 1) - (j : Int))) (D.undos.getD j [])]
def midW (D : SagaD) : List RecD := if backP D then [startR D 2 D.failStep 1, failR D D.failStep 1 D.failCode D.fail] ++ undosW D D.undos.length else []
def lastW (D : SagaD) : List RecD := triesL D (if backP D then 5 else 2) (if backP D then wrap64 (D.next - 1) else D.next) D.tries.toNat
def tellW (D : SagaD) : List RecD := outsL D D.outs.length ++ (midW D ++ (lastW D ++ endL D))
theorem undosW_succ (D : SagaD) (n : Nat) : undosW D (n + 1) = undosW D n ++ [startR D 5 (wrap64 (wrap64 (D.failStep - 1) - (n : Int))) 1, doneR D 6 (wrap64 (wrap64 (D.failStep - 1) - (n : Int))) (D.undos.getD n [])] := by
  unfold undosW; rw [List.range_succ, List.flatMap_append]; simp
theorem undosW_eq {D : SagaD} (h : 0 ≤ D.failStep ∧ D.failStep ≤ 1000) : ∀ n : Nat, n ≤ 1000 → undosW D n = undosL D n := by
  intro n
  induction n with
  | zero => intro _; rfl
  | succ n ih =>
    intro hn
    have e : wrap64 (wrap64 (D.failStep - 1) - (n : Int)) = D.failStep - 1 - (n : Int) := by unfold wrap64; omega
    rw [undosW_succ, undosL_succ, ih (by omega), e]
theorem GoodD.failb {D : SagaD} (h : GoodD D) : 0 ≤ D.failStep ∧ D.failStep ≤ 1000 := by
  have hp := h.plain.count32
  by_cases k : D.phase = 1 ∨ D.phase = 3
  · rw [(h.fw k).failStep]; omega
  · have := (h.bk k).failStep; have := (h.bk k).count; omega
theorem tellW_eq {D : SagaD} (h : GoodD D) : tellW D = tellD D := by
  have hn := h.nextb
  have hu := h.undos32
  have e : wrap64 (D.next - 1) = D.next - 1 := by unfold wrap64; omega
  unfold tellW tellD midW midL lastW lastL
  rw [undosW_eq h.failb _ (by omega), e]
theorem all_v3 {l m : List RecD} (h : ∀ X ∈ l, X.v = 3) (k : ∀ X ∈ m, X.v = 3) : ∀ X ∈ l ++ m, X.v = 3 := fun X hX => (List.mem_append.1 hX).elim (h X) (k X)
theorem tellW_v3 (D : SagaD) : ∀ X ∈ tellW D, X.v = 3 := by
  unfold tellW
  refine all_v3 ?_ (all_v3 ?_ (all_v3 ?_ ?_))
  · intro X hX
    obtain ⟨i, _, h⟩ := List.mem_flatMap.1 hX
    simp at h
    rcases h with rfl | rfl <;> rfl
  · unfold midW
    split
    · refine all_v3 (fun X hX => ?_) (fun X hX => ?_)
      · simp at hX
        rcases hX with rfl | rfl <;> rfl
      · obtain ⟨i, _, h⟩ := List.mem_flatMap.1 hX
        simp at h
        rcases h with rfl | rfl <;> rfl
    · intro X hX; cases hX
  · intro X hX
    obtain ⟨i, _, h⟩ := List.mem_flatMap.1 hX
    simp only [List.mem_cons] at h
    rcases h with rfl | h
    · rfl
    · split at h
      · simp at h; rw [h]
      · cases h
  · unfold endL
    intro X hX
    split at hX
    · simp at hX; rw [hX]
    · split at hX
      · simp at hX; rw [hX]
      · cases hX
/-- What the reference's Check answers. -/
def refCheckN (D : SagaD) : Int := if sizedD D = false then 100 else if beginN (beginR D) ≠ 0 then 100 else if (playR (beginD (beginR D)) (tellW D)).1 ≠ 0 then 100 else if sameB (playR (beginD (beginR D)) (tellW D)).2 D = false then 100 else 0
/-- **The reference checks as the program does.** -/
theorem refCheck_eq {D : SagaD} (hb : D.begun ≤ 9223372036854775807) (ha : D.at_ ≤ 9223372036854775807) : refCheckN D = checkD D := by
  by_cases hc : checkD D = 0
  · have hg := (checkD_iff D).1 hc
    obtain ⟨b1, b2⟩ := begin_story hg hb
    have hp := playR_plays (tellW_v3 D) (by rw [tellW_eq hg]; exact story_plays hg hb ha : PlaysD (startD D) (tellW D) D)
    unfold refCheckN
    rw [if_neg (by simp [hg.sized]), if_neg (by simp [b1]), b2, hp, if_neg (by simp), if_neg (by simp [sameB_refl]), hc]
  · rw [checkD_not hc]
    unfold refCheckN
    by_cases h1 : sizedD D = false
    · rw [if_pos h1]
    · rw [if_neg h1]
      by_cases h2 : beginN (beginR D) ≠ 0
      · rw [if_pos h2]
      · rw [if_neg h2]
        have h2' : beginN (beginR D) = 0 := by simpa using h2
        by_cases h3 : (playR (beginD (beginR D)) (tellW D)).1 ≠ 0
        · rw [if_pos h3]
        · rw [if_neg h3]
          have h3' : (playR (beginD (beginR D)) (tellW D)).1 = 0 := by simpa using h3
          have hg := playR_good (begin_taken h2').2.2.2 (tellW_v3 D) h3'
          rw [if_pos]
          cases hs : sameB (playR (beginD (beginR D)) (tellW D)).2 D with
          | false => rfl
          | true => rw [sameB_iff.1 hs] at hg; exact absurd ((checkD_iff D).2 hg) hc
end Go.Proofs.YtfbaliimjmimhaaDoor
