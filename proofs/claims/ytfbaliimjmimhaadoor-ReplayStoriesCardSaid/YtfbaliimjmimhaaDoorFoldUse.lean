/-
  How the laws of replay use cut, Fold and Same. Conditions: as each theorem says.
-/
import Derived.Test.YtfbaliimjmimhaaDoorLegal
import Derived.Test.YtfbaliimjmimhaaDoorAwake
namespace Go.Proofs.YtfbaliimjmimhaaDoor
open Go.RowKit

/-- What a law asks of the records that are handed in. -/
structure LawRec (R : RecD) : Prop where
  ok : FoldOk R
  len : R.data.length ≤ 140737488351232
theorem cut16_any (s : Sl) (Rs : List RecD) (w : World) (h : RecsAt w s Rs) (hsc : s.n ≤ s.c) (hd : ∀ R ∈ Rs, LawRec R) :
    Calls Tryd.prog 8 #[.slice s.a s.n s.c, .int .i64 16385] w fun e w' => ∃ v : Sl, e = .returned (.slice v.a v.n v.c) ∧ v.n = (cutL 16385 Rs).length ∧ RecsIn w' w.heap.size v (cutL 16385 Rs) ∧ Below w.heap.size w w' := by
  refine (cut_any s Rs 16385 w h hsc (fun R hR => (hd R hR).len) (by decide)).mono ?_
  rintro e w' ⟨v, rfl, ho, hb⟩
  have hr := ho.recsIn
  exact ⟨v, rfl, hr.len, hr, hb⟩
theorem cut16_ok {Rs : List RecD} (h : ∀ R ∈ Rs, LawRec R) : ∀ R ∈ cutL 16385 Rs, FoldOk R := cutL_ok (fun R hR => (h R hR).ok)
theorem cut16_len {Rs : List RecD} : ∀ R ∈ cutL 16385 Rs, R.data.length ≤ 9223372036854775807 := fun R hR => Nat.le_trans (cutL_data R hR) (by decide)
theorem state_good {f : Bag} {Ss : List SagaD} (hg : GoodBag f) (hs : StateOf f Ss) : ∀ E ∈ Ss, GoodD E := fun E hE => hg.good _ _ ((hs.mem E).1 hE)
theorem fold_goodBag {l : List RecD} (h : ∀ R ∈ l, FoldOk R) : GoodBag (foldB noBag l).1 := foldB_good GoodBag.empty (fun R hR => (h R hR).fits)
/-- A state that was told. -/
structure StAt (w : World) (v : Sl) (f : Bag) (Ss : List SagaD) : Prop where
  at_ : SagasAt w v Ss
  of : StateOf f Ss
theorem StAt.below {w w' : World} {v : Sl} {f : Bag} {Ss : List SagaD} (h : StAt w v f Ss) (hb : Below w.heap.size w w') : StAt w' v f Ss := ⟨h.at_.below hb, h.of⟩
/-- Fold of a legal log. -/
theorem fold_legal (s : Sl) (Rs : List RecD) (w : World) (ht : Tables w) (hl : LandsAt w) (h : RecsAt w s Rs) (hf : ∀ R ∈ Rs, FoldOk R) (hn : Rs.length ≤ 1048576) (hg : (foldB noBag Rs).2 = Rs.length) :
    Calls Tryd.prog 11 #[.slice s.a s.n s.c] w fun e w' => ∃ (v : Sl) (Ss : List SagaD), e = .returned (.tuple #[.agg #[.int .i64 (Rs.length : Nat), .slice v.a v.n v.c], .int .i64 (-1)]) ∧ StAt w' v (foldB noBag Rs).1 Ss ∧ Below w.heap.size w w' := by
  refine (fold_any s Rs w ht hl h hf hn).mono ?_
  rintro e w' ⟨v, Ss, rfl, ho, hs, hb⟩
  rw [hg, if_pos rfl]
  exact ⟨v, Ss, rfl, ⟨OwnSagas.sagasAt (v := v) ho (state_good (fold_goodBag hf) hs), hs⟩, hb⟩
/-- Fold of any log, where it ends being known. -/
theorem fold_ends (s : Sl) (Rs : List RecD) (k : Nat) (w : World) (ht : Tables w) (hl : LandsAt w) (h : RecsAt w s Rs) (hf : ∀ R ∈ Rs, FoldOk R) (hn : Rs.length ≤ 1048576) (hg : (foldB noBag Rs).2 = k) (hk : k ≠ Rs.length) :
    Calls Tryd.prog 11 #[.slice s.a s.n s.c] w fun e w' => ∃ (v : Sl) (Ss : List SagaD), e = .returned (.tuple #[.agg #[.int .i64 (k : Nat), .slice v.a v.n v.c], .int .i64 (k : Nat)]) ∧ StAt w' v (foldB noBag Rs).1 Ss ∧ Below w.heap.size w w' := by
  refine (fold_any s Rs w ht hl h hf hn).mono ?_
  rintro e w' ⟨v, Ss, rfl, ho, hs, hb⟩
  rw [hg, if_neg hk]
  exact ⟨v, Ss, rfl, ⟨OwnSagas.sagasAt (v := v) ho (state_good (fold_goodBag hf) hs), hs⟩, hb⟩
theorem legal_use (s : Sl) (Rs : List RecD) (B : Nat) (w : World) (ht : Tables w) (hl : LandsAt w) (h : RecsIn w B s Rs) (hf : ∀ R ∈ Rs, FoldOk R) (hd : ∀ R ∈ Rs, R.data.length ≤ 9223372036854775807) (hn : Rs.length ≤ 1048576) (k : Nat) (f : Bag) (hk : foldB noBag Rs = (f, k)) :
    Calls Tryd.prog 10 #[.slice s.a s.n s.c] w fun e w' => ∃ (v : Sl) (Ss : List SagaD), e = .returned (.tuple #[.slice s.a k s.c, .agg #[.int .i64 (k : Nat), .slice v.a v.n v.c], .bool true]) ∧ StAt w' v f Ss ∧ OwnSagas w' w.heap.size (.slice v.a v.n v.c) Ss ∧ Below w.heap.size w w' := by
  refine (legal_any s Rs B w ht hl h hf hd hn).mono ?_
  have hg := fold_goodBag hf
  rw [hk] at hg ⊢
  rintro e w' ⟨v, Ss, rfl, ho, hs, hb⟩
  exact ⟨v, Ss, rfl, ⟨OwnSagas.sagasAt (v := v) ho (state_good hg hs), hs⟩, ho, hb⟩
/-- Same of two states that hold the same. -/
theorem same_states (x : Int) (p q : Sl) (Ss : List SagaD) (w : World) (hp : SagasAt w p Ss) (hq : SagasAt w q Ss) :
    Calls Tryd.prog 12 #[.agg #[.int .i64 x, .slice p.a p.n p.c], .agg #[.int .i64 x, .slice q.a q.n q.c]] w fun e w' => e = .returned (.bool true) ∧ Below w.heap.size w w' := by
  have h := same11_any x x p q Ss Ss w hp hq
  rw [stateB_same] at h
  exact h
end Go.Proofs.YtfbaliimjmimhaaDoor
