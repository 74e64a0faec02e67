/-
  ReplayApart: the plain facts of its loop. Conditions: none.
-/
import Derived.Test.YtfbaliimjmimhaaDoorEndedSt
import Derived.Test.YtfbaliimjmimhaaDoorMingled
namespace Go.Proofs.YtfbaliimjmimhaaDoor
open Go.RowKit

/-- How many records the first sagas of a state have. -/
def sumJ (Ss : List SagaD) (G : List RecD) (j : Nat) : Nat := ((Ss.take j).map (fun D => (ofB D.id G).length)).sum
theorem sumJ_zero (Ss : List SagaD) (G : List RecD) : sumJ Ss G 0 = 0 := rfl
theorem sumJ_succ {Ss : List SagaD} {G : List RecD} {j : Nat} (hj : j < Ss.length) : sumJ Ss G (j + 1) = sumJ Ss G j + (ofB Ss[j].id G).length := by
  unfold sumJ
  rw [List.take_succ_eq_append_getElem hj, List.map_append, List.sum_append]
  simp
theorem sumJ_all {Ss : List SagaD} {G : List RecD} (h : (foldB noBag G).2 = G.length) (hg : GoodBag (foldB noBag G).1) (hs : StateOf (foldB noBag G).1 Ss) : sumJ Ss G Ss.length = G.length := by
  unfold sumJ
  rw [List.take_length]
  exact state_sum h hg hs
theorem sumJ_le {Ss : List SagaD} {G : List RecD} {j : Nat} : sumJ Ss G j ≤ sumJ Ss G Ss.length := by
  unfold sumJ
  rw [List.take_length]
  conv => rhs; rw [← List.take_append_drop j Ss]
  rw [List.map_append, List.sum_append]
  omega
/-- Whatever is in another order was there. -/
theorem apart_mem {G m : List RecD} (h : ∀ id, ofB id m = ofB id G) : ∀ R ∈ m, R ∈ G := by
  intro R hR
  have : R ∈ ofB R.saga m := List.mem_filter.2 ⟨hR, by simp⟩
  rw [h] at this
  exact (List.mem_filter.1 this).1
theorem ofB_mem {G : List RecD} {id : Int} : ∀ R ∈ ofB id G, R ∈ G := fun _ hR => (List.mem_filter.1 hR).1
theorem ofB_len (id : Int) (G : List RecD) : (ofB id G).length ≤ G.length := List.length_filter_le _ _
end Go.Proofs.YtfbaliimjmimhaaDoor
