/-
  What the laws of replay say, in plain terms. Conditions: none.
-/
import Derived.Test.YtfbaliimjmimhaaDoorFold
namespace Go.Proofs.YtfbaliimjmimhaaDoor
open Go.RowKit

/-- What cut leaves of a record, of records. -/
def cutD (n : Nat) (R : RecD) : RecD := { R with data := R.data.take n }
def cutL (n : Nat) (l : List RecD) : List RecD := (l.take 160).map (cutD n)
theorem cutL_len (n : Nat) (l : List RecD) : (cutL n l).length ≤ 160 := by unfold cutL; simp; omega
theorem cutL_ok {n : Nat} {l : List RecD} (h : ∀ R ∈ l, FoldOk R) : ∀ R ∈ cutL n l, FoldOk R := by
  intro R hR
  obtain ⟨X, hX, rfl⟩ := List.mem_map.1 hR
  have k := h X (List.mem_of_mem_take hX)
  exact ⟨⟨k.fits.name, by have := k.fits.len; simp [cutD]; omega⟩, k.wf⟩
theorem cutL_data {n : Nat} {l : List RecD} : ∀ R ∈ cutL n l, R.data.length ≤ n := by
  intro R hR
  obtain ⟨X, hX, rfl⟩ := List.mem_map.1 hR
  simp [cutD]; omega

/-- One record after the other, each saga's in their order. -/
def Mingled (L out l : List RecD) : Prop := ∀ id, ofB id out ++ ofB id l = ofB id L
theorem Mingled.start (L : List RecD) : Mingled L [] L := fun _ => rfl
theorem Mingled.done {L out : List RecD} (h : Mingled L out []) : ∀ id, ofB id out = ofB id L := fun id => by have := h id; simpa [ofB] using this
theorem Mingled.step {L out l : List RecD} {i : Nat} (h : Mingled L out l) (hi : i < l.length) (hf : ∀ k (hk : k < i), l[k].saga ≠ l[i].saga) : Mingled L (out ++ [l[i]]) (l.take i ++ l.drop (i + 1)) := by
  intro id
  rw [← h id]
  have hs : l = l.take i ++ l[i] :: l.drop (i + 1) := by rw [List.getElem_cons_drop, List.take_append_drop]
  obtain ⟨x, hx⟩ : ∃ q, l[i] = q := ⟨_, rfl⟩
  rw [hx] at hs hf ⊢
  have ap : ∀ a b : List RecD, ofB id (a ++ b) = ofB id a ++ ofB id b := fun a b => by unfold ofB; rw [List.filter_append]
  conv => rhs; rw [hs]
  rw [ap, ap, ap]
  by_cases e : x.saga = id
  · have h1 : ofB id (l.take i) = [] := List.filter_eq_nil_iff.2 (fun R hR => by
      obtain ⟨k, hk, rfl⟩ := List.getElem_of_mem hR
      rw [List.getElem_take]
      simp at hk
      have := hf k (by omega)
      rw [e] at this
      simpa using this)
    have h2 : ofB id (x :: l.drop (i + 1)) = x :: ofB id (l.drop (i + 1)) := by unfold ofB; rw [List.filter_cons_of_pos (by simp [e])]
    have h3 : ofB id [x] = [x] := by unfold ofB; rw [List.filter_cons_of_pos (by simp [e])]; rfl
    rw [h1, h2, h3]; simp
  · have h2 : ofB id (x :: l.drop (i + 1)) = ofB id (l.drop (i + 1)) := by unfold ofB; rw [List.filter_cons_of_neg (by simp [e])]
    have h3 : ofB id [x] = [] := by unfold ofB; rw [List.filter_cons_of_neg (by simp [e])]; rfl
    rw [h2, h3]; simp
theorem Mingled.len {L out l : List RecD} (h : out.length + l.length = L.length) {i : Nat} (hi : i < l.length) (x : RecD) : (out ++ [x]).length + (l.take i ++ l.drop (i + 1)).length = L.length := by
  simp; omega

/-- What is in the state: the sagas of legal records. -/
theorem fold1_some : ∀ (l : List RecD) (s : Option SagaD), s ≠ none → fold1 s l ≠ none
  | [], _, h => h
  | _ :: l, _, _ => fold1_some l _ (by simp)
theorem fold_has {l : List RecD} (h : (foldB noBag l).2 = l.length) : ∀ R ∈ l, (foldB noBag l).1 R.saga ≠ none := by
  intro R hR
  rw [fold_at l noBag h]
  have hm : R ∈ ofB R.saga l := List.mem_filter.2 ⟨hR, by simp⟩
  cases hl : ofB R.saga l with
  | nil => rw [hl] at hm; cases hm
  | cons X m => exact fold1_some m _ (by simp)
theorem sum_zero (Ss : List SagaD) : (Ss.map (fun _ => 0)).sum = 0 := by
  induction Ss with
  | nil => rfl
  | cons D Ss ih => rw [List.map_cons, List.sum_cons, ih]
theorem sum_ind {x : Int} : ∀ {Ss : List SagaD}, Ss.Pairwise (fun D E => D.id ≠ E.id) → (∃ D ∈ Ss, D.id = x) → (Ss.map (fun D => if D.id = x then 1 else 0)).sum = 1 ∧ True
  | [], _, ⟨D, h, _⟩ => by cases h
  | D :: Ss, hp, he => by
    obtain ⟨p1, p2⟩ := List.pairwise_cons.1 hp
    by_cases e : D.id = x
    · have : (Ss.map (fun D => if D.id = x then 1 else 0)).sum = 0 := by
        have hz : Ss.map (fun D => if D.id = x then 1 else 0) = Ss.map (fun _ => 0) := List.map_congr_left (fun E hE => if_neg (fun q => p1 E hE (e.trans q.symm)))
        rw [hz]; exact sum_zero Ss
      rw [List.map_cons, List.sum_cons, if_pos e, this]; exact ⟨rfl, trivial⟩
    · obtain ⟨E, hE, q⟩ := he
      have hE' : E ∈ Ss := by
        rcases List.mem_cons.1 hE with rfl | h
        · exact absurd q e
        · exact h
      rw [List.map_cons, List.sum_cons, if_neg e, (sum_ind p2 ⟨E, hE', q⟩).1]; exact ⟨rfl, trivial⟩
theorem sum_own {Ss : List SagaD} (hp : Ss.Pairwise (fun D E => D.id ≠ E.id)) : ∀ {l : List RecD}, (∀ R ∈ l, ∃ D ∈ Ss, D.id = R.saga) → (Ss.map (fun D => (ofB D.id l).length)).sum = l.length
  | [], _ => sum_zero Ss
  | R :: l, h => by
    have ih := sum_own hp (fun X hX => h X (List.mem_cons_of_mem _ hX))
    have hi := (sum_ind hp (h R (by simp))).1
    have key : ∀ (Ts : List SagaD), (Ts.map (fun D => (ofB D.id (R :: l)).length)).sum = (Ts.map (fun D => if D.id = R.saga then 1 else 0)).sum + (Ts.map (fun D => (ofB D.id l).length)).sum := by
      intro Ts
      induction Ts with
      | nil => rfl
      | cons D Ts ih =>
        rw [List.map_cons, List.sum_cons, List.map_cons, List.sum_cons, List.map_cons, List.sum_cons, ih]
        have : (ofB D.id (R :: l)).length = (if D.id = R.saga then 1 else 0) + (ofB D.id l).length := by
          unfold ofB
          by_cases e : D.id = R.saga
          · rw [List.filter_cons_of_pos (by simp [e]), if_pos e]; simp; omega
          · rw [List.filter_cons_of_neg (by simp; exact fun q => e q.symm), if_neg e]; omega
        omega
    rw [key, hi, ih]; simp; omega
theorem state_sum {l : List RecD} {Ss : List SagaD} (h : (foldB noBag l).2 = l.length) (hg : GoodBag (foldB noBag l).1) (hs : StateOf (foldB noBag l).1 Ss) : (Ss.map (fun D => (ofB D.id l).length)).sum = l.length := by
  refine sum_own (hs.rise.imp (fun h => by omega)) (fun R hR => ?_)
  cases e : (foldB noBag l).1 R.saga with
  | none => exact absurd e (fold_has h R hR)
  | some D =>
    have hid := hg.id _ _ e
    exact ⟨D, (hs.mem D).2 (by rw [hid]; exact e), hid⟩
/-- One saga's records alone fold to that saga. -/
theorem own_state {l : List RecD} {Ss Ts : List SagaD} {D : SagaD} (h : (foldB noBag l).2 = l.length) (hs : StateOf (foldB noBag l).1 Ss) (hD : D ∈ Ss) (ht : StateOf (foldB noBag (ofB D.id l)).1 Ts) : (foldB noBag (ofB D.id l)).2 = (ofB D.id l).length ∧ Ts = [D] := by
  obtain ⟨h1, h2⟩ := fold_left (f := noBag) (fun id => decide (id = D.id)) h
  refine ⟨h1, StateOf.unique ht (g := fun id => if id = D.id then some D else none) ⟨List.pairwise_singleton _ _, fun E => ?_⟩ (fun id => ?_)⟩
  · rw [List.mem_singleton]
    constructor
    · rintro rfl; simp
    · intro k
      split at k
      · cases k; rfl
      · cases k
  · have := h2 id
    rw [show (foldB noBag (ofB D.id l)).1 id = _ from this]
    by_cases e : id = D.id
    · subst e; simp; exact (hs.mem D).1 hD
    · simp [e, noBag]
/-- Without the sagas that have ended. -/
def endedB (Ss : List SagaD) (id : Int) : Bool := Ss.any (fun D => decide (3 ≤ D.phase) && decide (D.id = id))
def liveL (Ss : List SagaD) : List SagaD := Ss.filter (fun D => !decide (3 ≤ D.phase))
def leftL (Ss : List SagaD) (l : List RecD) : List RecD := l.filter (fun R => !endedB Ss R.saga)
theorem leftL_nil (l : List RecD) : leftL [] l = l := List.filter_eq_self.2 (fun _ _ => rfl)
theorem leftL_snoc (Ss : List SagaD) (D : SagaD) (l : List RecD) : leftL (Ss ++ [D]) l = if 3 ≤ D.phase then (leftL Ss l).filter (fun R => decide (R.saga ≠ D.id)) else leftL Ss l := by
  unfold leftL
  split
  · next h =>
    rw [List.filter_filter]
    congr 1
    funext R
    unfold endedB
    rw [List.any_append]
    by_cases e : D.id = R.saga
    · simp [h, e]
    · simp [h, e, Ne.symm e]
  · next h =>
    congr 1
    funext R
    unfold endedB
    rw [List.any_append]
    simp [h]
theorem liveL_snoc (Ss : List SagaD) (D : SagaD) : liveL (Ss ++ [D]) = if 3 ≤ D.phase then liveL Ss else liveL Ss ++ [D] := by
  unfold liveL
  rw [List.filter_append]
  split
  · next h => rw [List.filter_cons_of_neg (by simp [h])]; simp
  · next h => rw [List.filter_cons_of_pos (by simp; omega)]; rfl
theorem left_state {l : List RecD} {Ss Ts : List SagaD} (h : (foldB noBag l).2 = l.length) (hs : StateOf (foldB noBag l).1 Ss) (ht : StateOf (foldB noBag (leftL Ss l)).1 Ts) : (foldB noBag (leftL Ss l)).2 = (leftL Ss l).length ∧ Ts = liveL Ss := by
  obtain ⟨h1, h2⟩ := fold_left (f := noBag) (fun id => !endedB Ss id) h
  have hun : ∀ {D E : SagaD}, D ∈ Ss → E ∈ Ss → E.id = D.id → E = D := fun hD hE e => by
    have a := (hs.mem _).1 hD
    have b := (hs.mem _).1 hE
    rw [e, a] at b
    cases b; rfl
  have hen : ∀ D ∈ Ss, endedB Ss D.id = decide (3 ≤ D.phase) := fun D hD => by
    unfold endedB
    rw [Bool.eq_iff_iff, List.any_eq_true]
    constructor
    · rintro ⟨E, hE, q⟩
      simp only [Bool.and_eq_true, decide_eq_true_eq] at q
      rw [hun hD hE q.2] at q
      simpa using q.1
    · intro q
      exact ⟨D, hD, by simpa using q⟩
  refine ⟨h1, StateOf.unique ht (g := fun id => if (!endedB Ss id) = true then (foldB noBag l).1 id else none) ⟨hs.rise.sublist List.filter_sublist, fun D => ?_⟩ (fun id => h2 id)⟩
  unfold liveL
  rw [List.mem_filter]
  constructor
  · rintro ⟨hD, q⟩
    rw [hen D hD, if_pos q]
    exact (hs.mem D).1 hD
  · intro q
    split at q
    · next k =>
      have hD := (hs.mem D).2 q
      rw [hen D hD] at k
      exact ⟨hD, k⟩
    · cases q
end Go.Proofs.YtfbaliimjmimhaaDoor
