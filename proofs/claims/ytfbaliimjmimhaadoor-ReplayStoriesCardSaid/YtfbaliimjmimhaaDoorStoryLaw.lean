/-
  A saga that may be is led to by its story: the law. Conditions: none.
-/
import Derived.Test.YtfbaliimjmimhaaDoorStory
namespace Go.Proofs.YtfbaliimjmimhaaDoor
open Go.RowKit

def outsL (D : SagaD) (n : Nat) : List RecD := (List.range n).flatMap fun (i : Nat) => [startR D 2 (i : Int) 1, doneR D 3 (i : Int) (D.outs.getD i [])]
def undosL (D : SagaD) (n : Nat) : List RecD := (List.range n).flatMap fun (j : Nat) => [startR D 5 (D.failStep - 1 - (j : Int)) 1, doneR D 6 (D.failStep - 1 - (j : Int)) (D.undos.getD j [])]
def triesL (D : SagaD) (k st : Int) (n : Nat) : List RecD := (List.range n).flatMap fun (i : Nat) => startR D k st ((i : Int) + 1) :: (if (i : Int) + 1 < D.tries ∨ D.flight = false then [failR D st 0 0 []] else [])
def backP (D : SagaD) : Prop := D.phase = 2 ∨ D.phase = 4
instance (D : SagaD) : Decidable (backP D) := by unfold backP; infer_instance
def midL (D : SagaD) : List RecD := if backP D then [startR D 2 D.failStep 1, failR D D.failStep 1 D.failCode D.fail] ++ undosL D D.undos.length else []
def lastL (D : SagaD) : List RecD := triesL D (if backP D then 5 else 2) (if backP D then D.next - 1 else D.next) D.tries.toNat
def endL (D : SagaD) : List RecD := if D.phase = 3 then [endR D 1] else if D.phase = 4 then [endR D 2] else []
def tellD (D : SagaD) : List RecD := outsL D D.outs.length ++ (midL D ++ (lastL D ++ endL D))
def storyL (D : SagaD) : List RecD := beginR D :: tellD D

theorem outsL_succ (D : SagaD) (n : Nat) : outsL D (n + 1) = outsL D n ++ [startR D 2 n 1, doneR D 3 n (D.outs.getD n [])] := by
  unfold outsL; rw [List.range_succ, List.flatMap_append]; simp
theorem undosL_succ (D : SagaD) (n : Nat) : undosL D (n + 1) = undosL D n ++ [startR D 5 (D.failStep - 1 - (n : Int)) 1, doneR D 6 (D.failStep - 1 - (n : Int)) (D.undos.getD n [])] := by
  unfold undosL; rw [List.range_succ, List.flatMap_append]; simp
theorem triesL_succ (D : SagaD) (k st : Int) (n : Nat) : triesL D k st (n + 1) = triesL D k st n ++ startR D k st ((n : Int) + 1) :: (if (n : Int) + 1 < D.tries ∨ D.flight = false then [failR D st 0 0 []] else []) := by
  unfold triesL; rw [List.range_succ, List.flatMap_append]; simp

def startD (D : SagaD) : SagaD := stD D D.begun 1 0 false 0 [] [] 0 0 []
theorem begin_story {D : SagaD} (hg : GoodD D) (hb : D.begun ≤ 9223372036854775807) : beginN (beginR D) = 0 ∧ beginD (beginR D) = startD D := by
  have p := hg.plain
  have hr : recD (beginR D) = 0 := rec_begin p.id p.begun hb p.count1 p.count32 p.pivot0 p.pivot p.name p.input
  have h : beginN (beginR D) = 0 := by unfold beginN; rw [if_neg (by simp [hr]), if_neg (by simp)]
  refine ⟨h, ?_⟩
  rw [(begin_taken h).2.2.1, up3_3 rfl]
  rfl

structure Bnd (D : SagaD) : Prop where
  id : 1 ≤ D.id
  at0 : 0 ≤ D.at_
  at_ : D.at_ ≤ 9223372036854775807
theorem Bnd.all {D : SagaD} (h : Bnd D) : 1 ≤ D.id ∧ 0 ≤ D.at_ ∧ D.at_ ≤ 9223372036854775807 := ⟨h.id, h.at0, h.at_⟩

theorem take_snoc_getD (l : List (List Int)) (n : Nat) (h : n < l.length) : l.take (n + 1) = l.take n ++ [l.getD n []] := by
  rw [List.take_succ_eq_append_getElem h]; simp [List.getD, h]
theorem getD_len {l : List (List Int)} (h : ∀ d ∈ l, d.length ≤ 16384) (n : Nat) : (l.getD n []).length ≤ 16384 := by
  by_cases k : n < l.length
  · rw [List.getD_eq_getElem?_getD, List.getElem?_eq_getElem k]; exact h _ (List.getElem_mem k)
  · rw [List.getD_eq_getElem?_getD, List.getElem?_eq_none (by omega)]; simp

theorem outs_play {D : SagaD} (hp : Bnd D) (hs : GoodD (startD D)) (ho : ∀ d ∈ D.outs, d.length ≤ 16384) : ∀ n : Nat, n ≤ D.outs.length → (n : Int) ≤ D.count →
    PlaysD (startD D) (outsL D n) (stD D (if n = 0 then D.begun else D.at_) 1 n false 0 (D.outs.take n) [] 0 0 []) := by
  intro n
  induction n with
  | zero => intro _ _; show startD D = _; simp [startD]
  | succ n ih =>
    intro h1 h2
    have h := ih (by omega) (by omega)
    have g := h.good hs
    rw [outsL_succ]
    refine h.append ?_
    have s1 := st_start hp.all g (by omega) (t := 1) (by omega)
    have s2 := st_done hp.all s1.good (by omega) (getD_len ho n)
    refine PlaysD.append (PlaysD.one s1) ?_
    have := PlaysD.one s2
    rw [if_neg (by omega), take_snoc_getD _ _ (by omega)]
    exact this

theorem undos_play {D : SagaD} (hp : Bnd D) {a : Int} (hs : GoodD (stD D a 2 D.failStep false 0 D.outs [] D.failStep D.failCode D.fail)) (ho : ∀ d ∈ D.undos, d.length ≤ 16384) : ∀ n : Nat, n ≤ D.undos.length → (n : Int) ≤ D.failStep →
    ∃ a', (n = 0 → a' = a) ∧ (n ≠ 0 → a' = D.at_) ∧ PlaysD (stD D a 2 D.failStep false 0 D.outs [] D.failStep D.failCode D.fail) (undosL D n) (stD D a' 2 (D.failStep - n) false 0 D.outs (D.undos.take n) D.failStep D.failCode D.fail) := by
  intro n
  induction n with
  | zero => intro _ _; exact ⟨a, fun _ => rfl, fun h => absurd rfl h, by simp [PlaysD, undosL]⟩
  | succ n ih =>
    intro h1 h2
    obtain ⟨a', _, _, h⟩ := ih (by omega) (by omega)
    have g := h.good hs
    refine ⟨D.at_, fun h => by omega, fun _ => rfl, ?_⟩
    rw [undosL_succ]
    refine h.append ?_
    have e : D.failStep - 1 - (n : Int) = D.failStep - n - 1 := by omega
    have e2 : D.failStep - ((n + 1 : Nat) : Int) = D.failStep - n - 1 := by omega
    rw [e, e2, take_snoc_getD _ _ (by omega)]
    have s1 := st_undo hp.all g (by omega) (t := 1) (by omega)
    have s2 := st_undone hp.all s1.good (by omega) (getD_len ho n)
    exact PlaysD.append (PlaysD.one s1) (PlaysD.one s2)

theorem tries_play {D : SagaD} {F : Int → Bool → Int → SagaD} {k st a : Int} {n : Nat} (hn : (n : Int) = D.tries) (h1000 : n ≤ 1000) (hf0 : D.flight = true → n ≠ 0) (hg : GoodD (F a false 0))
    (h1 : 0 < n → ∀ a tr t, GoodD (F a false tr) → t = min (tr + 1) 1000 → StepD (F a false tr) (startR D k st t) (F D.at_ true t))
    (h2 : 0 < n → ∀ a tr, GoodD (F a true tr) → StepD (F a true tr) (failR D st 0 0 []) (F D.at_ false tr)) : ∀ i : Nat, i ≤ n →
    ∃ a', (i = 0 → a' = a) ∧ (i ≠ 0 → a' = D.at_) ∧ PlaysD (F a false 0) (triesL D k st i) (F a' (decide (i = n) && D.flight) i) := by
  intro i
  induction i with
  | zero =>
    intro _
    refine ⟨a, fun _ => rfl, fun h => absurd rfl h, ?_⟩
    have e : (decide (0 = n) && D.flight) = false := by
      cases hf : D.flight with
      | false => simp
      | true => have := hf0 hf; simp; omega
    rw [e]
    rfl
  | succ i ih =>
    intro hi
    obtain ⟨a', _, _, h⟩ := ih (by omega)
    have e : (decide (i = n) && D.flight) = false := by simp; omega
    rw [e] at h
    have g := h.good hg
    refine ⟨D.at_, fun h => by omega, fun _ => rfl, ?_⟩
    rw [triesL_succ]
    refine h.append ?_
    have s1 := h1 (by omega) a' i ((i : Int) + 1) g (by omega)
    by_cases c : (i : Int) + 1 < D.tries ∨ D.flight = false
    · have s2 := h2 (by omega) D.at_ ((i : Int) + 1) s1.good
      rw [if_pos c]
      have e2 : (decide (i + 1 = n) && D.flight) = false := by
        rcases c with c | c
        · simp; intro; omega
        · simp [c]
      rw [e2]
      exact PlaysD.append (PlaysD.one s1) (PlaysD.one s2)
    · rw [if_neg c]
      have e2 : (decide (i + 1 = n) && D.flight) = true := by
        have c2 : D.flight = true := by
          cases hf : D.flight with
          | false => exact absurd (.inr hf) c
          | true => rfl
        simp [c2]; omega
      rw [e2]
      exact PlaysD.one s1

theorem stD_self (D : SagaD) : stD D D.at_ D.phase D.next D.flight D.tries D.outs D.undos D.failStep D.failCode D.fail = D := rfl
/-- **The story of a saga that may be leads to it.** -/
theorem story_plays {D : SagaD} (hg : GoodD D) (hb : D.begun ≤ 9223372036854775807) (ha : D.at_ ≤ 9223372036854775807) : PlaysD (startD D) (tellD D) D := by
  have p := hg.plain
  have hp : Bnd D := ⟨p.id, p.at0, ha⟩
  obtain ⟨hB1, hB2⟩ := begin_story hg hb
  have hs : GoodD (startD D) := by rw [← hB2]; exact (begin_taken hB1).2.2.2
  have hn : (D.tries.toNat : Int) = D.tries := Int.toNat_of_nonneg p.tries0
  have hn1 : D.tries.toNat ≤ 1000 := by have := p.tries1000; omega
  have hf0 : D.flight = true → D.tries.toNat ≠ 0 := fun h => by have := p.flight h; omega
  unfold tellD
  by_cases k : D.phase = 1 ∨ D.phase = 3
  · have f := hg.fw k
    have nb : ¬ backP D := by unfold backP; omega
    have hl : ((D.outs.length : Nat) : Int) ≤ D.count := by rw [f.outs]; exact f.next
    have h1 := outs_play hp hs p.outs D.outs.length (Nat.le_refl _) hl
    rw [List.take_length, f.outs] at h1
    have g1 := h1.good hs
    refine h1.append ?_
    rw [show midL D = [] from if_neg nb, List.nil_append]
    unfold lastL
    rw [if_neg nb, if_neg nb]
    obtain ⟨a', e1, e2, h2⟩ := tries_play (F := fun a fl tr => stD D a 1 D.next fl tr D.outs [] 0 0 []) (k := 2) (st := D.next) hn hn1 hf0 g1
      (fun h0 a tr t g ht => st_start hp.all g (by
        have := f.next
        by_cases e : D.next = D.count
        · have := f.full e; omega
        · omega) ht)
      (fun h0 a tr g => st_again hp.all g (by
        have := f.next
        by_cases e : D.next = D.count
        · have := f.full e; omega
        · omega)) D.tries.toNat (Nat.le_refl _)
    simp only [decide_true, Bool.true_and, hn] at h2
    have ea : a' = D.at_ := by
      by_cases e : D.tries.toNat = 0
      · rw [e1 e]
        by_cases z : D.outs.length = 0
        · rw [if_pos z]
          have := f.outs
          have h0 : D.next ≠ D.count := by have := p.count1; omega
          have := f.start h0
          omega
        · rw [if_neg z]
      · exact e2 e
    subst ea
    refine h2.append ?_
    rcases k with k | k
    · rw [show endL D = [] by unfold endL; rw [if_neg (by omega), if_neg (by omega)]]
      show stD D D.at_ 1 D.next D.flight D.tries D.outs [] 0 0 [] = D
      have e := stD_self D
      rw [k, f.undos, f.failStep, f.failCode, f.fail] at e
      exact e
    · rw [show endL D = [endR D 1] from if_pos k]
      have g2 := h2.good g1
      have w := f.whole k
      have t0 := f.full w
      have fl : D.flight = false := by
        cases hf : D.flight with
        | false => rfl
        | true => have := p.flight hf; omega
      rw [fl] at g2 ⊢
      have s := st_end1 hp.all g2 w
      have e := stD_self D
      rw [k, f.undos, f.failStep, f.failCode, f.fail, fl] at e
      have := PlaysD.one s
      rw [e] at this
      exact this
  · have f := hg.bk k
    have nb : backP D := by have := p.phase1; have := p.phase4; unfold backP; omega
    have hl : ((D.outs.length : Nat) : Int) ≤ D.count := by have := f.failStep; have := f.count; omega
    have h1 := outs_play hp hs p.outs D.outs.length (Nat.le_refl _) hl
    rw [List.take_length, ← f.failStep] at h1
    have g1 := h1.good hs
    refine h1.append ?_
    rw [show midL D = [startR D 2 D.failStep 1, failR D D.failStep 1 D.failCode D.fail] ++ undosL D D.undos.length from if_pos nb, List.append_assoc]
    have s1 := st_start hp.all g1 (f.count) (t := 1) (by omega)
    have s2 := st_fails hp.all s1.good (f.count) (c := D.failCode) (d := D.fail) p.fail (fun h => f.pivot h)
    refine PlaysD.append (PlaysD.append (PlaysD.one s1) (PlaysD.one s2)) ?_
    obtain ⟨b', _, _, h3⟩ := undos_play hp s2.good p.undos D.undos.length (Nat.le_refl _) (by have := f.undos; have := f.next0; omega)
    have en : D.failStep - ((D.undos.length : Nat) : Int) = D.next := by have := f.undos; omega
    rw [List.take_length, en] at h3
    have g3 := h3.good s2.good
    refine h3.append ?_
    unfold lastL
    rw [if_pos nb, if_pos nb]
    have eb : b' = D.at_ := by
      by_cases e : D.undos.length = 0
      · rename_i q1 q2; exact q1 e
      · rename_i q1 q2; exact q2 e
    subst eb
    obtain ⟨a', e1, e2, h2⟩ := tries_play (F := fun a fl tr => stD D a 2 D.next fl tr D.outs D.undos D.failStep D.failCode D.fail) (k := 5) (st := D.next - 1) hn hn1 hf0 g3
      (fun h0 a tr t g ht => st_undo hp.all g (by have := f.none; omega) ht)
      (fun h0 a tr g => st_again2 hp.all g (by have := f.none; omega)) D.tries.toNat (Nat.le_refl _)
    simp only [decide_true, Bool.true_and, hn] at h2
    have ea : a' = D.at_ := by
      by_cases e : D.tries.toNat = 0
      · exact e1 e
      · exact e2 e
    subst ea
    refine h2.append ?_
    have hph : D.phase = 2 ∨ D.phase = 4 := nb
    rcases hph with k2 | k2
    · rw [show endL D = [] by unfold endL; rw [if_neg (by omega), if_neg (by omega)]]
      show stD D D.at_ 2 D.next D.flight D.tries D.outs D.undos D.failStep D.failCode D.fail = D
      have e := stD_self D
      rw [k2] at e
      exact e
    · rw [show endL D = [endR D 2] by unfold endL; rw [if_neg (by omega), if_pos k2]]
      have g2 := h2.good g3
      have w := f.undone k2
      have t0 : D.tries = 0 := by have := f.none; omega
      have fl : D.flight = false := by
        cases hf : D.flight with
        | false => rfl
        | true => have := p.flight hf; omega
      rw [fl] at g2 ⊢
      have s := st_end2 hp.all g2 w
      have e := stD_self D
      rw [k2, fl] at e
      have := PlaysD.one s
      rw [e] at this
      exact this
end Go.Proofs.YtfbaliimjmimhaaDoor
