/-
  What SagaWhole sees of a saga: its trail, and follow walked. Conditions: none.
-/
import Derived.Test.YteaiadpigpehaaaDoorPkTurn
import Derived.BigRegion
namespace Go.Proofs.YteaiadpigpehaaaDoor
open Go.RowKit

/-- A trail's numbers. -/
structure TrailD where
  count : Int
  pivot : Int
  done : Int
  undone : Int
@[reducible] def TrailD.cells (T : TrailD) : Array Value := #[.int .i64 T.count, .int .i64 T.pivot, .int .i64 T.done, .int .i64 T.undone]
def followD (T : TrailD) (k : Int) : TrailD := if k = 3 then { T with done := T.done + 1 } else if k = 6 then { T with undone := T.undone + 1 } else T
/-- A record of such a kind, of such a step, fits a trail. -/
structure FitsT (T : TrailD) (k st : Int) : Prop where
  done : k = 3 → T.undone = 0 ∧ st = T.done ∧ T.done < T.count
  undone : k = 6 → st = T.done - 1 - T.undone ∧ 0 ≤ st ∧ (T.pivot = 0 ∨ T.done < T.pivot)

theorem grown_set (w : World) (b i : Nat) (v : Value) (o : Obj) : w.grownBy ((w.setCell ⟨b, i, none⟩ v).alloc o).drew (some b) := by
  have hs : (w.setCell ⟨b, i, none⟩ v).heap.size = w.heap.size := by simp [World.setCell]
  refine ⟨rfl, rfl, rfl, by show _ ≤ ((w.setCell ⟨b, i, none⟩ v).alloc o).heap.size; simp [hs], fun k hk hne => ?_⟩
  show ((w.setCell ⟨b, i, none⟩ v).alloc o).heap[k]? = _
  rw [Below.heap_alloc _ _ _ (by omega)]
  exact Below.heap_setCell _ _ _ _ (fun e => hne (by rw [e]))
theorem grown_new (w : World) (b : Nat) (o : Obj) : w.grownBy (w.alloc o) (some b) :=
  ⟨rfl, rfl, rfl, by simp, fun k hk _ => Below.heap_alloc _ _ _ hk⟩

set_option maxRecDepth 10000000 in
set_option maxHeartbeats 4000000 in
theorem follow_any (b : Nat) (T : TrailD) (r : RecV) (w : World) (k : BlkAt w b T.cells 43) (h0 : 0 ≤ T.done ∧ T.done ≤ 1000) (h1 : 0 ≤ T.undone ∧ T.undone ≤ 1000) (hf : FitsT T r.kind r.step) :
    Calls Tryd.prog 19 #[.pointer (some ⟨b, 0, none⟩), r.val] w fun e w' => e = .returned (.bool true) ∧ BlkAt w' b (followD T r.kind).cells 43 ∧ w.grownBy w' (some b) := by
  have f0 := fun o => (k.push o).cell 0
  have f1 := fun o => (k.push o).cell 1
  have f2 := fun o => (k.push o).cell 2
  have f3 := fun o => (k.push o).cell 3
  simp only [List.getElem?_toArray, List.getElem?_cons_zero, List.getElem?_cons_succ] at f0 f1 f2 f3
  have ff := fun o i => (k.push o).frozen i
  have hb := (Array.getElem?_eq_some_iff.1 k).1
  obtain ⟨h00, h01⟩ := h0
  obtain ⟨h10, h11⟩ := h1
  have K := Lib.hid k
  have HF := Lib.hid hf
  clear k hf
  dsimp only [RecV.val, Sl.v] at *
  obtain ⟨u, hu⟩ : ∃ x, r.kind = x := ⟨_, rfl⟩
  rw [hu] at HF
  rw [hu]
  by_cases k3 : u = 3
  · subst k3
    obtain ⟨q1, q2, q3⟩ := HF.out.done rfl
    have e3 : followD T 3 = { T with done := T.done + 1 } := rfl
    rw [e3]
    go_enter Tryd.func19, Tryd.ntmps19
    go_wp2
    go_region
    go_wp2
    all_goals go_ret
    all_goals exact ⟨rfl, (K.out.set (i := 2) _).push _, grown_set _ _ _ _ _⟩
  · by_cases k6 : u = 6
    · subst k6
      obtain ⟨q1, q2, q3⟩ := HF.out.undone rfl
      have e3 : followD T 6 = { T with undone := T.undone + 1 } := rfl
      rw [e3]
      have q1' := q1.symm
      clear q1
      have q4 : T.pivot = 0 ∨ ((T.pivot == 0) = false ∧ T.done < T.pivot) := by
        by_cases e : T.pivot = 0
        · exact .inl e
        · exact .inr ⟨by simpa using e, by omega⟩
      clear q3
      rcases q4 with q3 | ⟨q3, q4⟩
      all_goals
        go_enter Tryd.func19, Tryd.ntmps19
        go_wp2
        go_region
        go_wp2
        all_goals go_ret
        all_goals exact ⟨rfl, (K.out.set (i := 3) _).push _, grown_set _ _ _ _ _⟩
    · have e3 : followD T u = T := by unfold followD; rw [if_neg k3, if_neg k6]
      rw [e3]
      go_enter Tryd.func19, Tryd.ntmps19
      go_wp2
      all_goals go_ret
      all_goals exact ⟨rfl, K.out.push _, grown_new _ _ _⟩
end Go.Proofs.YteaiadpigpehaaaDoor
