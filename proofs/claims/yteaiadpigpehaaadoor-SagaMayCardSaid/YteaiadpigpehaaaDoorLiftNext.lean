/-
  lift's does and next walked (the ways up). Conditions: the table of ways as laid.
-/
import Derived.Test.YteaiadpigpehaaaDoorLiftFns
import Derived.Laws.EntriesVeiled
namespace Go.Proofs.YteaiadpigpehaaaDoor
open Go.RowKit

def nm12 : ByteArray := ⟨#[49, 116, 111, 50]⟩
def nm23 : ByteArray := ⟨#[50, 116, 111, 51]⟩
structure WaysAt (w : World) : Prop where
  f0 : w.cell? ⟨1, 0, none⟩ = some (.int .i64 1)
  t0 : w.cell? ⟨1, 1, none⟩ = some (.int .i64 2)
  n0 : w.cell? ⟨1, 2, none⟩ = some (.string ⟨#[49, 116, 111, 50]⟩)
  f1 : w.cell? ⟨1, 3, none⟩ = some (.int .i64 2)
  t1 : w.cell? ⟨1, 4, none⟩ = some (.int .i64 3)
  n1 : w.cell? ⟨1, 5, none⟩ = some (.string ⟨#[50, 116, 111, 51]⟩)
theorem WaysAt.below {w w' : World} (h : WaysAt w) (hb : Below w.heap.size w w') : WaysAt w' :=
  ⟨(hb.cell (World.block_lt_of_cell? w _ h.f0)).trans h.f0, (hb.cell (World.block_lt_of_cell? w _ h.t0)).trans h.t0, (hb.cell (World.block_lt_of_cell? w _ h.n0)).trans h.n0, (hb.cell (World.block_lt_of_cell? w _ h.f1)).trans h.f1, (hb.cell (World.block_lt_of_cell? w _ h.t1)).trans h.t1, (hb.cell (World.block_lt_of_cell? w _ h.n1)).trans h.n1⟩

set_option maxRecDepth 100000 in
theorem does_1 (w : World) : Calls Tryd.prog 98 #[.agg #[.int .i64 1, .int .i64 2, .string ⟨#[49, 116, 111, 50]⟩]] w fun e w' => e = .returned (.agg #[.int .i64 1, .int .i64 2, .string ⟨#[49, 116, 111, 50]⟩, .func (.func 110) #[] #[]]) ∧ Below w.heap.size w w' := by
  have hb0 := Below.refl w.heap.size w
  go_enter Tryd.func98, Tryd.ntmps98
  go_wp2
  refine bodyPost_ret (v := .agg #[.int .i64 1, .int .i64 2, .string ⟨#[49, 116, 111, 50]⟩, .func (.func 110) #[] #[]]) (by simp [results, Tryd.results98, go_sem, *]) rfl ⟨rfl, ?_⟩
  exact boxd (boxd hb0)

set_option maxRecDepth 100000 in
theorem does_2 (w : World) : Calls Tryd.prog 98 #[.agg #[.int .i64 2, .int .i64 3, .string ⟨#[50, 116, 111, 51]⟩]] w fun e w' => e = .returned (.agg #[.int .i64 2, .int .i64 3, .string ⟨#[50, 116, 111, 51]⟩, .func (.func 99) #[] #[]]) ∧ Below w.heap.size w w' := by
  have hb0 := Below.refl w.heap.size w
  go_enter Tryd.func98, Tryd.ntmps98
  go_wp2
  refine bodyPost_ret (v := .agg #[.int .i64 2, .int .i64 3, .string ⟨#[50, 116, 111, 51]⟩, .func (.func 99) #[] #[]]) (by simp [results, Tryd.results98, go_sem, *]) rfl ⟨rfl, ?_⟩
  exact boxd (boxd hb0)

/-- One new block behind something that leaves what is below as it is. -/
theorem after_one {w w2 : World} {A : Array Value} {t : TypeId} (hb : Below (w.alloc (.cells A t)).heap.size (w.alloc (.cells A t)) w2) :
    (∀ i, w2.cell? ⟨w.heap.size, i, none⟩ = A[i]?) ∧ (∀ i, w2.frozen? ⟨w.heap.size, i, none⟩ = false) := by
  have e : (w.alloc (.cells A t)).heap = w.heap.push (.cells A t) := rfl
  have h0 : w2.heap[w.heap.size]? = some (.cells A t) := by
    rw [hb.block _ (by rw [e]; simp only [Array.size_push]; omega), e, Array.getElem?_push]
    simp
  exact ⟨fun i => by simp [World.cell?, h0], fun i => by simp [World.frozen?, h0]⟩

set_option maxRecDepth 100000 in
theorem next_1 (w : World) (h : WaysAt w) : Calls Tryd.prog 73 #[.int .i64 1, .int .i64 3] w fun e w' => e = .returned (.agg #[.int .i64 1, .int .i64 2, .string ⟨#[49, 116, 111, 50]⟩, .func (.func 110) #[] #[]]) ∧ Below w.heap.size w w' := by
  have hb0 := Below.refl w.heap.size w
  have hc := Lib.hid (fun w => does_1 w)
  have hW := h.below (boxd (o := .cells #[.int .i64 0, .int .i64 0, .string ⟨#[]⟩, .nilFunc] 109) hb0)
  have HW := Lib.hid hW
  clear h hW
  go_enter Tryd.func73, Tryd.ntmps73
  go_wp2
  go_loopw [6] (fun c wr => c = .int .i64 0 ∧ wr = w.alloc (.cells #[.int .i64 0, .int .i64 0, .string ⟨#[]⟩, .nilFunc] 109)) (fun _ _ => 0)
  case atStart => exact ⟨rfl, rfl⟩
  case round =>
    obtain ⟨rfl, rfl⟩ := hrel
    obtain ⟨f0, t0, n0, f1, t1, n1⟩ := HW.out
    go_wp2_with (go_at_call 98; (with_reducible refine (hc.out _).mono ?_); rintro e w2 ⟨rfl, hb⟩; obtain ⟨hA, fA⟩ := after_one hb; have a0 := hA 0; have a1 := hA 1; have a2 := hA 2; have a3 := hA 3; simp only [List.getElem?_toArray, List.getElem?_cons_zero, List.getElem?_cons_succ] at a0 a1 a2 a3; have HB := Lib.hid (then_ (boxd hb0) hb); clear hb hA)
    refine bodyPost_ret (v := .agg #[.int .i64 1, .int .i64 2, .string ⟨#[49, 116, 111, 50]⟩, .func (.func 110) #[] #[]]) (by simp [results, Tryd.results73, go_sem, *]) rfl ⟨rfl, ?_⟩
    repeat (refine Below.set ?_ (by simp only; omega))
    exact HB.out


set_option maxRecDepth 100000 in
theorem next_2 (w : World) (h : WaysAt w) : Calls Tryd.prog 73 #[.int .i64 2, .int .i64 3] w fun e w' => e = .returned (.agg #[.int .i64 2, .int .i64 3, .string ⟨#[50, 116, 111, 51]⟩, .func (.func 99) #[] #[]]) ∧ Below w.heap.size w w' := by
  have hb0 := Below.refl w.heap.size w
  have hc := Lib.hid (fun w => does_2 w)
  have hW := h.below (boxd (o := .cells #[.int .i64 0, .int .i64 0, .string ⟨#[]⟩, .nilFunc] 109) hb0)
  have HW := Lib.hid hW
  clear h hW
  go_enter Tryd.func73, Tryd.ntmps73
  go_wp2
  go_loopw [6] (fun c wr => ∃ j : Nat, j ≤ 1 ∧ c = .int .i64 j ∧ wr = w.alloc (.cells #[.int .i64 0, .int .i64 0, .string ⟨#[]⟩, .nilFunc] 109)) (fun c _ => 2 - (intOf c).toNat)
  case atStart => exact ⟨0, by omega, rfl, rfl⟩
  case round =>
    obtain ⟨j, hj, rfl, rfl⟩ := hrel
    obtain ⟨f0, t0, n0, f1, t1, n1⟩ := HW.out
    have hj' : j = 0 ∨ j = 1 := by omega
    rcases hj' with rfl | rfl
    · go_wp2
      all_goals go_roundw
      case rel => exact ⟨1, by omega, by go_num, by first | rfl | trivial⟩
      case measure => simp [intOf]
    · go_wp2_with (go_at_call 98; (with_reducible refine (hc.out _).mono ?_); rintro e w2 ⟨rfl, hb⟩; obtain ⟨hA, fA⟩ := after_one hb; have a0 := hA 0; have a1 := hA 1; have a2 := hA 2; have a3 := hA 3; simp only [List.getElem?_toArray, List.getElem?_cons_zero, List.getElem?_cons_succ] at a0 a1 a2 a3; have HB := Lib.hid (then_ (boxd hb0) hb); clear hb hA)
      refine bodyPost_ret (v := .agg #[.int .i64 2, .int .i64 3, .string ⟨#[50, 116, 111, 51]⟩, .func (.func 99) #[] #[]]) (by simp [results, Tryd.results73, go_sem, *]) rfl ⟨rfl, ?_⟩
      repeat (refine Below.set ?_ (by simp only; omega))
      exact HB.out


end Go.Proofs.YteaiadpigpehaaaDoor
