/-
  What a folder folds to, in plain terms: a bag of sagas by their ids; a log's first part; sagas apart from one another. Conditions: none.
-/
import Derived.Test.YtfbaliimjmimhaaDoorPkLaw
namespace Go.Proofs.YtfbaliimjmimhaaDoor
open Go.RowKit

/-- What a folder holds: a saga by its id. -/
abbrev Bag := Int → Option SagaD
/-- One record more at one saga: the error. -/
def oneN (s : Option SagaD) (R : RecD) : Int := if recD R ≠ 0 then recD R else match s with
  | some D => applyN D R
  | none => beginN R
/-- .. and the saga behind it. -/
def oneD (s : Option SagaD) (R : RecD) : SagaD := match s with
  | some D => applyD D R
  | none => beginD R
def addN (f : Bag) (R : RecD) : Int := oneN (f R.saga) R
def putB (f : Bag) (id : Int) (D : SagaD) : Bag := fun k => if k = id then some D else f k
def addB (f : Bag) (R : RecD) : Bag := if addN f R ≠ 0 then f else putB f R.saga (oneD (f R.saga) R)
/-- The bag behind the records ahead of the first that may not come, and how many these are. -/
def foldB : Bag → List RecD → Bag × Nat
  | f, [] => (f, 0)
  | f, R :: l => if addN f R ≠ 0 then (f, 0) else ((foldB (addB f R) l).1, (foldB (addB f R) l).2 + 1)
theorem foldB_bad {f : Bag} {R : RecD} {l : List RecD} (h : addN f R ≠ 0) : foldB f (R :: l) = (f, 0) := by unfold foldB; rw [if_pos h]
theorem foldB_ok {f : Bag} {R : RecD} {l : List RecD} (h : addN f R = 0) : foldB f (R :: l) = ((foldB (addB f R) l).1, (foldB (addB f R) l).2 + 1) := by
  show (if addN f R ≠ 0 then _ else _) = _
  rw [if_neg (by simp [h])]
theorem foldB_le (l : List RecD) : ∀ f : Bag, (foldB f l).2 ≤ l.length := by
  induction l with
  | nil => intro f; exact Nat.le_refl _
  | cons R l ih =>
    intro f
    by_cases h : addN f R = 0
    · rw [foldB_ok h]; have := ih (addB f R); simp; omega
    · rw [foldB_bad h]; simp
/-- A log's first part. -/
theorem foldB_append (l m : List RecD) : ∀ f : Bag, (foldB f l).2 = l.length → foldB f (l ++ m) = ((foldB (foldB f l).1 m).1, l.length + (foldB (foldB f l).1 m).2) := by
  induction l with
  | nil => intro f _; simp [foldB]
  | cons R l ih =>
    intro f h
    by_cases h1 : addN f R = 0
    · rw [foldB_ok h1] at h
      simp only [List.length_cons, Nat.add_right_cancel_iff] at h
      rw [List.cons_append, foldB_ok h1, foldB_ok h1, ih _ h]
      simp only [List.length_cons, Prod.mk.injEq, true_and]
      omega
    · rw [foldB_bad h1] at h; simp at h
theorem foldB_take (l : List RecD) : ∀ f : Bag, foldB f (l.take (foldB f l).2) = foldB f l := by
  induction l with
  | nil => intro f; rfl
  | cons R l ih =>
    intro f
    by_cases h : addN f R = 0
    · rw [foldB_ok h]
      simp only [List.take_succ_cons]
      rw [foldB_ok h, ih]
    · rw [foldB_bad h]; rfl
theorem foldB_taken (l : List RecD) (f : Bag) : (foldB f (l.take (foldB f l).2)).2 = (l.take (foldB f l).2).length := by
  rw [foldB_take, List.length_take, Nat.min_eq_left (foldB_le l f)]
/-- ReplayFirst: wherever the log goes on, the first that may not come stays the first. -/
theorem foldB_first (l m : List RecD) : ∀ f : Bag, (foldB f l).2 < l.length → foldB f (l.take ((foldB f l).2 + 1) ++ m) = foldB f l := by
  induction l with
  | nil => intro f h; simp at h
  | cons R l ih =>
    intro f h
    by_cases h1 : addN f R = 0
    · rw [foldB_ok h1] at h ⊢
      simp only [List.length_cons, Nat.add_lt_add_iff_right] at h
      simp only [List.take_succ_cons, List.cons_append]
      rw [foldB_ok h1, ih _ h]
    · rw [foldB_bad h1]
      simp only [Nat.zero_add, List.take_succ_cons, List.take_zero, List.cons_append, List.nil_append]
      rw [foldB_bad h1]
/-- One saga's records. -/
def ofB (id : Int) (l : List RecD) : List RecD := l.filter (fun R => decide (R.saga = id))
def legal1 : Option SagaD → List RecD → Prop
  | _, [] => True
  | s, R :: l => oneN s R = 0 ∧ legal1 (some (oneD s R)) l
def fold1 : Option SagaD → List RecD → Option SagaD
  | s, [] => s
  | s, R :: l => fold1 (some (oneD s R)) l
theorem addB_same {f : Bag} {R : RecD} (h : addN f R = 0) : addB f R R.saga = some (oneD (f R.saga) R) := by
  unfold addB putB; rw [if_neg (by simp [h]), if_pos rfl]
theorem addB_other {f : Bag} {R : RecD} {id : Int} (h : id ≠ R.saga) : addB f R id = f id := by
  unfold addB putB
  split
  · rfl
  · simp only; rw [if_neg h]
/-- SAGAS DO NOT TOUCH ONE ANOTHER: a log is legal just where each saga's records are. -/
theorem legal_iff (l : List RecD) : ∀ f : Bag, (foldB f l).2 = l.length ↔ ∀ id, legal1 (f id) (ofB id l) := by
  induction l with
  | nil => intro f; simp [foldB, ofB, legal1]
  | cons R l ih =>
    intro f
    by_cases h : addN f R = 0
    · rw [foldB_ok h]
      simp only [List.length_cons, Nat.add_right_cancel_iff]
      rw [ih]
      constructor
      · intro k id
        by_cases e : R.saga = id
        · subst e
          have := k R.saga
          rw [addB_same h] at this
          rw [ofB, List.filter_cons_of_pos (by simp)]
          exact ⟨h, this⟩
        · have := k id
          rw [addB_other (Ne.symm e)] at this
          rw [ofB, List.filter_cons_of_neg (by simp [e])]
          exact this
      · intro k id
        by_cases e : R.saga = id
        · subst e
          have := k R.saga
          rw [ofB, List.filter_cons_of_pos (by simp)] at this
          rw [addB_same h]
          exact this.2
        · have := k id
          rw [ofB, List.filter_cons_of_neg (by simp [e])] at this
          rw [addB_other (Ne.symm e)]
          exact this
    · rw [foldB_bad h]
      simp only [List.length_cons]
      constructor
      · intro k; omega
      · intro k
        have := k R.saga
        rw [ofB, List.filter_cons_of_pos (by simp)] at this
        exact absurd this.1 h
theorem fold_at (l : List RecD) : ∀ f : Bag, (foldB f l).2 = l.length → ∀ id, (foldB f l).1 id = fold1 (f id) (ofB id l) := by
  induction l with
  | nil => intro f _ id; rfl
  | cons R l ih =>
    intro f h id
    by_cases h1 : addN f R = 0
    · rw [foldB_ok h1] at h ⊢
      simp only [List.length_cons, Nat.add_right_cancel_iff] at h
      rw [show ((foldB (addB f R) l).1, (foldB (addB f R) l).2 + 1).1 = (foldB (addB f R) l).1 from rfl, ih _ h id]
      by_cases e : R.saga = id
      · subst e
        rw [addB_same h1, ofB, ofB, List.filter_cons_of_pos (by simp)]
        rfl
      · rw [addB_other (Ne.symm e), ofB, ofB, List.filter_cons_of_neg (by simp [e])]
    · rw [foldB_bad h1] at h; simp at h
/-- ReplayApart: another order in which each saga's records keep theirs. -/
theorem fold_apart {l m : List RecD} {f : Bag} (h : (foldB f l).2 = l.length) (k : ∀ id, ofB id m = ofB id l) : (foldB f m).2 = m.length ∧ ∀ id, (foldB f m).1 id = (foldB f l).1 id := by
  have h1 : (foldB f m).2 = m.length := (legal_iff m f).2 (fun id => by rw [k id]; exact (legal_iff l f).1 h id)
  exact ⟨h1, fun id => by rw [fold_at m f h1, fold_at l f h, k id]⟩
theorem ofB_filter (p : Int → Bool) (id : Int) (l : List RecD) : ofB id (l.filter (fun R => p R.saga)) = if p id = true then ofB id l else [] := by
  unfold ofB
  rw [List.filter_filter]
  split
  · next h =>
    congr 1
    funext R
    by_cases e : R.saga = id
    · simp [e, h]
    · simp [e]
  · next h =>
    rw [List.filter_eq_nil_iff]
    intro R _
    by_cases e : R.saga = id
    · simp [e, h]
    · simp [e]
/-- ReplayEnded: without some sagas' records the log is legal, and folds to the bag without these sagas. -/
theorem fold_left {l : List RecD} {f : Bag} (p : Int → Bool) (h : (foldB f l).2 = l.length) : (foldB f (l.filter (fun R => p R.saga))).2 = (l.filter (fun R => p R.saga)).length ∧ ∀ id, (foldB f (l.filter (fun R => p R.saga))).1 id = if p id = true then (foldB f l).1 id else f id := by
  have h1 : (foldB f (l.filter (fun R => p R.saga))).2 = (l.filter (fun R => p R.saga)).length := (legal_iff _ f).2 (fun id => by
    rw [ofB_filter]
    split
    · exact (legal_iff l f).1 h id
    · trivial)
  refine ⟨h1, fun id => ?_⟩
  rw [fold_at _ f h1, ofB_filter]
  split
  · rw [fold_at l f h]
  · rfl
/-- A state: the sagas of a bag, their ids rising. -/
structure StateOf (f : Bag) (Ss : List SagaD) : Prop where
  rise : Ss.Pairwise (fun D E => D.id < E.id)
  mem : ∀ D, D ∈ Ss ↔ f D.id = some D
theorem rise_eq {l : List SagaD} : ∀ {m : List SagaD}, l.Pairwise (fun D E => D.id < E.id) → m.Pairwise (fun D E => D.id < E.id) → (∀ D, D ∈ l ↔ D ∈ m) → l = m := by
  induction l with
  | nil =>
    intro m _ _ h
    cases m with
    | nil => rfl
    | cons E m => exact absurd ((h E).2 (by simp)) (by simp)
  | cons D l ih =>
    intro m hl hm h
    cases m with
    | nil => exact absurd ((h D).1 (by simp)) (by simp)
    | cons E m =>
      have a := List.pairwise_cons.1 hl
      have b := List.pairwise_cons.1 hm
      have e : D = E := by
        rcases List.mem_cons.1 ((h D).1 (by simp)) with e | e
        · exact e
        · rcases List.mem_cons.1 ((h E).2 (by simp)) with e2 | e2
          · exact e2.symm
          · have := a.1 E e2
            have := b.1 D e
            omega
      subst e
      congr 1
      refine ih a.2 b.2 (fun X => ⟨fun hx => ?_, fun hx => ?_⟩)
      · rcases List.mem_cons.1 ((h X).1 (List.mem_cons_of_mem _ hx)) with e | e
        · subst e; have := a.1 X hx; omega
        · exact e
      · rcases List.mem_cons.1 ((h X).2 (List.mem_cons_of_mem _ hx)) with e | e
        · subst e; have := b.1 X hx; omega
        · exact e
theorem StateOf.unique {f g : Bag} {Ss Ts : List SagaD} (h : StateOf f Ss) (k : StateOf g Ts) (e : ∀ id, f id = g id) : Ss = Ts :=
  rise_eq h.rise k.rise (fun D => by rw [h.mem, k.mem, e])
end Go.Proofs.YtfbaliimjmimhaaDoor
