/-
  lift.known, stay, fill, does, next walked (the ways up).
  lift's does and next walked (the ways up).
  lift.turned walked (up to version 3).
  lift.Up walked (to version 3).
  saga.Clone walked: a saga in new memory.
  Conditions: as each theorem says. (Joined by wip/tools/pack.py.)
-/
import Derived.Test.YtfbaliimjmimhaaDoorPkCheck
import Derived.Laws.EntriesVeiled
namespace Go.Proofs.YtfbaliimjmimhaaDoor
open Go.RowKit

theorem known_any (n : Int) (w : World) : Calls Tryd.prog 28 #[.int .i64 n] w fun e w' => e = .returned (.bool (decide (1 ≤ n ∧ n ≤ 3))) ∧ w' = w := by
  by_cases h1 : 1 ≤ n
  · by_cases h2 : n ≤ 3
    · rw [decide_eq_true (show 1 ≤ n ∧ n ≤ 3 from ⟨h1, h2⟩)]
      go_enter Tryd.func28, Tryd.ntmps28
      go_wp2
      all_goals go_ret
      all_goals exact ⟨rfl, rfl⟩
    · rw [decide_eq_false (show ¬ (1 ≤ n ∧ n ≤ 3) by omega)]
      go_enter Tryd.func28, Tryd.ntmps28
      go_wp2
      all_goals go_ret
      all_goals exact ⟨rfl, rfl⟩
  · rw [decide_eq_false (show ¬ (1 ≤ n ∧ n ≤ 3) by omega)]
    go_enter Tryd.func28, Tryd.ntmps28
    go_wp2
    all_goals go_ret
    all_goals exact ⟨rfl, rfl⟩

set_option maxRecDepth 100000 in
theorem stay_any (r : RecV) (w : World) : Calls Tryd.prog 58 #[r.val] w fun e w' => e = .returned (.tuple #[r.val, .bool true]) ∧ Below w.heap.size w w' := by
  have hb0 := Below.refl w.heap.size w
  obtain ⟨v, kind, saga, step, try_, at_, last, code, count, pivot, name, ⟨da, dn, dc⟩⟩ := r
  dsimp only [RecV.val, Sl.v]
  go_enter Tryd.func58, Tryd.ntmps58
  go_wp2
  refine bodyPost_ret (v := .tuple #[.agg #[.int .i64 v, .int .i64 kind, .int .i64 saga, .int .i64 step, .int .i64 try_, .int .i64 at_, .int .i64 last, .int .i64 code, .int .i64 count, .int .i64 pivot, .string name, .slice da dn dc], .bool true]) (by simp [results, Tryd.results58, go_sem, *]) rfl ⟨rfl, ?_⟩
  exact boxd (boxd hb0)

def fillV (r : RecV) (d : List Int) : RecV :=
  if r.kind = 1 then { r with name := strOfNums d, data := ⟨none, 0, 0⟩, count := r.step, step := 0 }
  else if r.kind = 2 ∨ r.kind = 5 then { r with try_ := 1 }
  else if r.kind = 4 then { r with last := 1 } else r

set_option maxRecDepth 100000 in
set_option maxHeartbeats 1000000 in
theorem fill_any (r : RecV) (d : List Int) (w : World) (h : BytesAt w r.data d) : Calls Tryd.prog 83 #[r.val] w fun e w' => e = .returned (.tuple #[(fillV r d).val, .bool true]) ∧ Below w.heap.size w w' := by
  have hb0 := Below.refl w.heap.size w
  have hcv := Lib.hid (fun w h => bytes_string (P := Tryd.prog) (w := w) (s := r.data) (d := d) (dst := 9) h Tryd.underlying37 Tryd.underlying5 Tryd.underlying9)
  have H := Lib.hid h
  clear h
  obtain ⟨v, kind, saga, step, try_, at_, last, code, count, pivot, name, ⟨da, dn, dc⟩⟩ := r
  dsimp only [Sl.v] at hcv
  have hcv := hcv.out _ (H.out.below (boxd (o := .cells #[.int .i64 0, .int .i64 0, .int .i64 0, .int .i64 0, .int .i64 0, .int .i64 0, .int .i64 0, .int .i64 0, .int .i64 0, .int .i64 0, .string ⟨#[]⟩, .slice none 0 0] 44) (boxd (o := .cells #[.int .i64 v, .int .i64 kind, .int .i64 saga, .int .i64 step, .int .i64 try_, .int .i64 at_, .int .i64 last, .int .i64 code, .int .i64 count, .int .i64 pivot, .string name, .slice da dn dc] 44) hb0)))
  by_cases k1 : kind = 1
  · subst k1
    have e : fillV ⟨v, 1, saga, step, try_, at_, last, code, count, pivot, name, ⟨da, dn, dc⟩⟩ d = ⟨v, 1, saga, 0, try_, at_, last, code, step, pivot, strOfNums d, ⟨none, 0, 0⟩⟩ := by simp [fillV]
    rw [e]
    dsimp only [RecV.val, Sl.v]
    go_enter Tryd.func83, Tryd.ntmps83
    go_wp2
    refine bodyPost_ret (v := .tuple #[.agg #[.int .i64 v, .int .i64 1, .int .i64 saga, .int .i64 0, .int .i64 try_, .int .i64 at_, .int .i64 last, .int .i64 code, .int .i64 step, .int .i64 pivot, .string (strOfNums d), .slice none 0 0], .bool true]) (by simp [results, Tryd.results83, go_sem, *]) rfl ⟨rfl, ?_⟩
    exact boxd (boxd hb0)
  by_cases k2 : kind = 2 ∨ kind = 5
  · have e : fillV ⟨v, kind, saga, step, try_, at_, last, code, count, pivot, name, ⟨da, dn, dc⟩⟩ d = ⟨v, kind, saga, step, 1, at_, last, code, count, pivot, name, ⟨da, dn, dc⟩⟩ := by simp [fillV, k1, k2]
    rw [e]
    clear e hcv
    rcases k2 with rfl | rfl
    all_goals
      dsimp only [RecV.val, Sl.v]
      go_enter Tryd.func83, Tryd.ntmps83
      go_wp2
    · refine bodyPost_ret (v := .tuple #[.agg #[.int .i64 v, .int .i64 2, .int .i64 saga, .int .i64 step, .int .i64 1, .int .i64 at_, .int .i64 last, .int .i64 code, .int .i64 count, .int .i64 pivot, .string name, .slice da dn dc], .bool true]) (by simp [results, Tryd.results83, go_sem, *]) rfl ⟨rfl, ?_⟩
      exact boxd (boxd hb0)
    · refine bodyPost_ret (v := .tuple #[.agg #[.int .i64 v, .int .i64 5, .int .i64 saga, .int .i64 step, .int .i64 1, .int .i64 at_, .int .i64 last, .int .i64 code, .int .i64 count, .int .i64 pivot, .string name, .slice da dn dc], .bool true]) (by simp [results, Tryd.results83, go_sem, *]) rfl ⟨rfl, ?_⟩
      exact boxd (boxd hb0)
  by_cases k4 : kind = 4
  · subst k4
    have e : fillV ⟨v, 4, saga, step, try_, at_, last, code, count, pivot, name, ⟨da, dn, dc⟩⟩ d = ⟨v, 4, saga, step, try_, at_, 1, code, count, pivot, name, ⟨da, dn, dc⟩⟩ := by simp [fillV]
    rw [e]
    clear e hcv k1 k2
    dsimp only [RecV.val, Sl.v]
    go_enter Tryd.func83, Tryd.ntmps83
    go_wp2
    refine bodyPost_ret (v := .tuple #[.agg #[.int .i64 v, .int .i64 4, .int .i64 saga, .int .i64 step, .int .i64 try_, .int .i64 at_, .int .i64 1, .int .i64 code, .int .i64 count, .int .i64 pivot, .string name, .slice da dn dc], .bool true]) (by simp [results, Tryd.results83, go_sem, *]) rfl ⟨rfl, ?_⟩
    exact boxd (boxd hb0)
  · have e : fillV ⟨v, kind, saga, step, try_, at_, last, code, count, pivot, name, ⟨da, dn, dc⟩⟩ d = ⟨v, kind, saga, step, try_, at_, last, code, count, pivot, name, ⟨da, dn, dc⟩⟩ := by simp [fillV, k1, k2, k4]
    rw [e]
    have k2' : ¬ kind = 2 := fun h => k2 (.inl h)
    have k5' : ¬ kind = 5 := fun h => k2 (.inr h)
    clear e hcv k2
    dsimp only [RecV.val, Sl.v]
    go_enter Tryd.func83, Tryd.ntmps83
    go_wp2
    refine bodyPost_ret (v := .tuple #[.agg #[.int .i64 v, .int .i64 kind, .int .i64 saga, .int .i64 step, .int .i64 try_, .int .i64 at_, .int .i64 last, .int .i64 code, .int .i64 count, .int .i64 pivot, .string name, .slice da dn dc], .bool true]) (by simp [results, Tryd.results83, go_sem, *]) rfl ⟨rfl, ?_⟩
    exact boxd (boxd hb0)
end Go.Proofs.YtfbaliimjmimhaaDoor
namespace Go.Proofs.YtfbaliimjmimhaaDoor
open Go.RowKit

def nm12 : ByteArray := ⟨#[49, 116, 111, 50]⟩
def nm23 : ByteArray := ⟨#[50, 116, 111, 51]⟩
structure WaysAt (w : World) : Prop where
  f0 : w.cell? ⟨1, 0, none⟩ = some (.int .i64 1)
  t0 : w.cell? ⟨1, 1, none⟩ = some (.int .i64 2)
  n0 : w.cell? ⟨1, 2, none⟩ = some (.string ⟨#[49, 116, 111, 50]⟩)
  f1 : w.cell? ⟨1, 3, none⟩ = some (.int .i64 2)
  t1 : w.cell? ⟨1, 4, none⟩ = some (.int .i64 3)
  n1 : w.cell? ⟨1, 5, none⟩ = some (.string ⟨#[50, 116, 111, 51]⟩)
theorem WaysAt.below {w w' : World} (h : WaysAt w) (hb : Below w.heap.size w w') : WaysAt w' :=
  ⟨(hb.cell (World.block_lt_of_cell? w _ h.f0)).trans h.f0, (hb.cell (World.block_lt_of_cell? w _ h.t0)).trans h.t0, (hb.cell (World.block_lt_of_cell? w _ h.n0)).trans h.n0, (hb.cell (World.block_lt_of_cell? w _ h.f1)).trans h.f1, (hb.cell (World.block_lt_of_cell? w _ h.t1)).trans h.t1, (hb.cell (World.block_lt_of_cell? w _ h.n1)).trans h.n1⟩

set_option maxRecDepth 100000 in
theorem does_1 (w : World) : Calls Tryd.prog 57 #[.agg #[.int .i64 1, .int .i64 2, .string ⟨#[49, 116, 111, 50]⟩]] w fun e w' => e = .returned (.agg #[.int .i64 1, .int .i64 2, .string ⟨#[49, 116, 111, 50]⟩, .func (.func 83) #[] #[]]) ∧ Below w.heap.size w w' := by
  have hb0 := Below.refl w.heap.size w
  go_enter Tryd.func57, Tryd.ntmps57
  go_wp2
  refine bodyPost_ret (v := .agg #[.int .i64 1, .int .i64 2, .string ⟨#[49, 116, 111, 50]⟩, .func (.func 83) #[] #[]]) (by simp [results, Tryd.results57, go_sem, *]) rfl ⟨rfl, ?_⟩
  exact boxd (boxd hb0)

set_option maxRecDepth 100000 in
theorem does_2 (w : World) : Calls Tryd.prog 57 #[.agg #[.int .i64 2, .int .i64 3, .string ⟨#[50, 116, 111, 51]⟩]] w fun e w' => e = .returned (.agg #[.int .i64 2, .int .i64 3, .string ⟨#[50, 116, 111, 51]⟩, .func (.func 58) #[] #[]]) ∧ Below w.heap.size w w' := by
  have hb0 := Below.refl w.heap.size w
  go_enter Tryd.func57, Tryd.ntmps57
  go_wp2
  refine bodyPost_ret (v := .agg #[.int .i64 2, .int .i64 3, .string ⟨#[50, 116, 111, 51]⟩, .func (.func 58) #[] #[]]) (by simp [results, Tryd.results57, go_sem, *]) rfl ⟨rfl, ?_⟩
  exact boxd (boxd hb0)

/-- One new block behind something that leaves what is below as it is. -/
theorem after_one {w w2 : World} {A : Array Value} {t : TypeId} (hb : Below (w.alloc (.cells A t)).heap.size (w.alloc (.cells A t)) w2) :
    (∀ i, w2.cell? ⟨w.heap.size, i, none⟩ = A[i]?) ∧ (∀ i, w2.frozen? ⟨w.heap.size, i, none⟩ = false) := by
  have e : (w.alloc (.cells A t)).heap = w.heap.push (.cells A t) := rfl
  have h0 : w2.heap[w.heap.size]? = some (.cells A t) := by
    rw [hb.block _ (by rw [e]; simp only [Array.size_push]; omega), e, Array.getElem?_push]
    simp
  exact ⟨fun i => by simp [World.cell?, h0], fun i => by simp [World.frozen?, h0]⟩

set_option maxRecDepth 100000 in
theorem next_1 (w : World) (h : WaysAt w) : Calls Tryd.prog 45 #[.int .i64 1, .int .i64 3] w fun e w' => e = .returned (.agg #[.int .i64 1, .int .i64 2, .string ⟨#[49, 116, 111, 50]⟩, .func (.func 83) #[] #[]]) ∧ Below w.heap.size w w' := by
  have hb0 := Below.refl w.heap.size w
  have hc := Lib.hid (fun w => does_1 w)
  have hW := h.below (boxd (o := .cells #[.int .i64 0, .int .i64 0, .string ⟨#[]⟩, .nilFunc] 93) hb0)
  have HW := Lib.hid hW
  clear h hW
  go_enter Tryd.func45, Tryd.ntmps45
  go_wp2
  go_loopw [6] (fun c wr => c = .int .i64 0 ∧ wr = w.alloc (.cells #[.int .i64 0, .int .i64 0, .string ⟨#[]⟩, .nilFunc] 93)) (fun _ _ => 0)
  case atStart => exact ⟨rfl, rfl⟩
  case round =>
    obtain ⟨rfl, rfl⟩ := hrel
    obtain ⟨f0, t0, n0, f1, t1, n1⟩ := HW.out
    go_wp2_with (go_at_call 57; (with_reducible refine (hc.out _).mono ?_); rintro e w2 ⟨rfl, hb⟩; obtain ⟨hA, fA⟩ := after_one hb; have a0 := hA 0; have a1 := hA 1; have a2 := hA 2; have a3 := hA 3; simp only [List.getElem?_toArray, List.getElem?_cons_zero, List.getElem?_cons_succ] at a0 a1 a2 a3; have HB := Lib.hid (then_ (boxd hb0) hb); clear hb hA)
    refine bodyPost_ret (v := .agg #[.int .i64 1, .int .i64 2, .string ⟨#[49, 116, 111, 50]⟩, .func (.func 83) #[] #[]]) (by simp [results, Tryd.results45, go_sem, *]) rfl ⟨rfl, ?_⟩
    repeat (refine Below.set ?_ (by simp only; omega))
    exact HB.out


set_option maxRecDepth 100000 in
theorem next_2 (w : World) (h : WaysAt w) : Calls Tryd.prog 45 #[.int .i64 2, .int .i64 3] w fun e w' => e = .returned (.agg #[.int .i64 2, .int .i64 3, .string ⟨#[50, 116, 111, 51]⟩, .func (.func 58) #[] #[]]) ∧ Below w.heap.size w w' := by
  have hb0 := Below.refl w.heap.size w
  have hc := Lib.hid (fun w => does_2 w)
  have hW := h.below (boxd (o := .cells #[.int .i64 0, .int .i64 0, .string ⟨#[]⟩, .nilFunc] 93) hb0)
  have HW := Lib.hid hW
  clear h hW
  go_enter Tryd.func45, Tryd.ntmps45
  go_wp2
  go_loopw [6] (fun c wr => ∃ j : Nat, j ≤ 1 ∧ c = .int .i64 j ∧ wr = w.alloc (.cells #[.int .i64 0, .int .i64 0, .string ⟨#[]⟩, .nilFunc] 93)) (fun c _ => 2 - (intOf c).toNat)
  case atStart => exact ⟨0, by omega, rfl, rfl⟩
  case round =>
    obtain ⟨j, hj, rfl, rfl⟩ := hrel
    obtain ⟨f0, t0, n0, f1, t1, n1⟩ := HW.out
    have hj' : j = 0 ∨ j = 1 := by omega
    rcases hj' with rfl | rfl
    · go_wp2
      all_goals go_roundw
      case rel => exact ⟨1, by omega, by go_num, by first | rfl | trivial⟩
      case measure => simp [intOf]
    · go_wp2_with (go_at_call 57; (with_reducible refine (hc.out _).mono ?_); rintro e w2 ⟨rfl, hb⟩; obtain ⟨hA, fA⟩ := after_one hb; have a0 := hA 0; have a1 := hA 1; have a2 := hA 2; have a3 := hA 3; simp only [List.getElem?_toArray, List.getElem?_cons_zero, List.getElem?_cons_succ] at a0 a1 a2 a3; have HB := Lib.hid (then_ (boxd hb0) hb); clear hb hA)
      refine bodyPost_ret (v := .agg #[.int .i64 2, .int .i64 3, .string ⟨#[50, 116, 111, 51]⟩, .func (.func 58) #[] #[]]) (by simp [results, Tryd.results45, go_sem, *]) rfl ⟨rfl, ?_⟩
      repeat (refine Below.set ?_ (by simp only; omega))
      exact HB.out


end Go.Proofs.YtfbaliimjmimhaaDoor
namespace Go.Proofs.YtfbaliimjmimhaaDoor
open Go.RowKit

/-- A block of cells that may be written. -/
def BlkAt (w : World) (g : Nat) (cs : Array Value) (t : TypeId) : Prop := w.heap[g]? = some (.cells cs t)
theorem BlkAt.below {w w' : World} {B g : Nat} {cs : Array Value} {t : TypeId} (h : BlkAt w g cs t) (hb : Below B w w') (hg : g < B) : BlkAt w' g cs t := by
  unfold BlkAt; rw [hb.block g hg]; exact h
theorem BlkAt.cell {w : World} {g : Nat} {cs : Array Value} {t : TypeId} (h : BlkAt w g cs t) (i : Nat) : w.cell? ⟨g, i, none⟩ = cs[i]? := by simp [World.cell?, show w.heap[g]? = _ from h]
theorem BlkAt.frozen {w : World} {g : Nat} {cs : Array Value} {t : TypeId} (h : BlkAt w g cs t) (i : Nat) : w.frozen? ⟨g, i, none⟩ = false := by simp [World.frozen?, show w.heap[g]? = _ from h]
theorem BlkAt.new (w : World) (cs : Array Value) (t : TypeId) : BlkAt (w.alloc (.cells cs t)) w.heap.size cs t := by
  show (w.heap.push (.cells cs t))[w.heap.size]? = _
  simp
theorem BlkAt.push {w : World} {g : Nat} {cs : Array Value} {t : TypeId} (h : BlkAt w g cs t) (o : Obj) : BlkAt (w.alloc o) g cs t := by
  have hlt : g < w.heap.size := (Array.getElem?_eq_some_iff.1 h).1
  show (w.heap.push o)[g]? = _
  rw [Array.getElem?_push_lt hlt]
  rw [← h, Array.getElem?_eq_getElem hlt]
theorem BlkAt.set {w : World} {g i : Nat} {cs : Array Value} {t : TypeId} (h : BlkAt w g cs t) (u : Value) : BlkAt (w.setCell ⟨g, i, none⟩ u) g (cs.setIfInBounds i u) t := by
  rw [setCell_eq_setRow w g i cs t (0, 0) u h]
  exact setRow_heap w g cs _ t (0, 0) h
theorem BlkAt.other {w : World} {g : Nat} {cs : Array Value} {t : TypeId} (h : BlkAt w g cs t) {a : Addr} (ha : a.block ≠ g) (u : Value) : BlkAt (w.setCell a u) g cs t := by
  unfold BlkAt
  rw [Below.heap_setCell w a u g (Ne.symm ha)]
  exact h

@[reducible] def zeroRec : Array Value := #[.int .i64 0, .int .i64 0, .int .i64 0, .int .i64 0, .int .i64 0, .int .i64 0, .int .i64 0, .int .i64 0, .int .i64 0, .int .i64 0, .string ⟨#[]⟩, .slice none 0 0]
def recArr (r : RecV) : Array Value := #[.int .i64 r.v, .int .i64 r.kind, .int .i64 r.saga, .int .i64 r.step, .int .i64 r.try_, .int .i64 r.at_, .int .i64 r.last, .int .i64 r.code, .int .i64 r.count, .int .i64 r.pivot, .string r.name, r.data.v]
def finish (r : RecV) (d : List Int) : RecV := if r.v = 1 then { fillV r d with v := 3 } else { r with v := 3 }
theorem finish_3 {r : RecV} {d : List Int} (h : r.v = 3) : finish r d = r := by
  obtain ⟨v, kind, saga, step, try_, at_, last, code, count, pivot, name, data⟩ := r
  simp only at h
  subst h
  rfl
theorem finish_2 {r : RecV} {d : List Int} (h : r.v = 2) : finish { r with v := 3 } d = finish r d := by
  unfold finish
  rw [if_neg (by show ¬ (3 : Int) = 1; decide), if_neg (by rw [h]; decide)]
theorem fillV_v (r : RecV) (d : List Int) (x : Int) : fillV { r with v := x } d = { fillV r d with v := x } := by
  unfold fillV
  simp only
  split
  · rfl
  · split
    · rfl
    · split <;> rfl
theorem finish_1 {r : RecV} {d : List Int} (h : r.v = 1) : finish { fillV r d with v := 2 } d = finish r d := by
  unfold finish
  rw [if_neg (by show ¬ (2 : Int) = 1; decide), if_pos h]

theorem blk_write {w : World} {g : Nat} {t : TypeId} {x0 x1 x2 x3 x4 x5 x6 x7 x8 x9 x10 x11 v0 v1 v2 v3 v4 v5 v6 v7 v8 v9 v10 v11 : Value} (h : BlkAt w g #[x0, x1, x2, x3, x4, x5, x6, x7, x8, x9, x10, x11] t) : BlkAt ((((((((((((w.setCell ⟨g, 0, none⟩ v0).setCell ⟨g, 1, none⟩ v1).setCell ⟨g, 2, none⟩ v2).setCell ⟨g, 3, none⟩ v3).setCell ⟨g, 4, none⟩ v4).setCell ⟨g, 5, none⟩ v5).setCell ⟨g, 6, none⟩ v6).setCell ⟨g, 7, none⟩ v7).setCell ⟨g, 8, none⟩ v8).setCell ⟨g, 9, none⟩ v9).setCell ⟨g, 10, none⟩ v10).setCell ⟨g, 11, none⟩ v11) g #[v0, v1, v2, v3, v4, v5, v6, v7, v8, v9, v10, v11] t := by
  have := ((((((((((((h.set (i := 0) v0).set (i := 1) v1).set (i := 2) v2).set (i := 3) v3).set (i := 4) v4).set (i := 5) v5).set (i := 6) v6).set (i := 7) v7).set (i := 8) v8).set (i := 9) v9).set (i := 10) v10).set (i := 11) v11)
  simpa using this
/-- How lift.turned stands at a round. -/
structure TurnInv (w wr : World) (R : RecV) (s : Sl) (d : List Int) : Prop where
  blk0 : BlkAt wr w.heap.size (recArr R) 44
  blk1 : BlkAt wr (w.heap.size + 1) zeroRec 44
  own : OwnBytes wr (w.heap.size + 2) s.v d
  below : Below w.heap.size w wr
  size : w.heap.size + 2 ≤ wr.heap.size

set_option maxRecDepth 100000 in
set_option maxHeartbeats 4000000 in
theorem turned_any (r : RecV) (d : List Int) (w : World) (hv : 1 ≤ r.v ∧ r.v ≤ 3) (hw : WaysAt w) (h : BytesAt w r.data d) (hd : d.length ≤ 1073741824) :
    Calls Tryd.prog 29 #[r.val, .int .i64 3] w fun e w' => ∃ s : Sl, e = .returned (.tuple #[(finish { r with data := s } d).val, .bool true]) ∧ OwnBytes w' w.heap.size s.v d ∧ Below w.heap.size w w' := by
  have hb0 := Below.refl w.heap.size w
  have hb1 := boxd (o := .cells (recArr r) 44) hb0
  have hb2 := boxd (o := .cells zeroRec 44) hb1
  have k0 := Lib.hid ((BlkAt.new w (recArr r) 44).push (.cells zeroRec 44))
  have k1 := Lib.hid (BlkAt.new (w.alloc (.cells (recArr r) 44)) zeroRec 44)
  have cC := Lib.hid (recClone_any r d _ (h.below hb2) hd)
  have HB := Lib.hid hb2
  have HW := Lib.hid hw
  clear hb0 hb1 hb2 h hw
  obtain ⟨v, kind, saga, step, try_, at_, last, code, count, pivot, name, ⟨da, dn, dc⟩⟩ := r
  dsimp only [RecV.val, Sl.v, recArr] at cC k0 k1 HB
  dsimp only [RecV.val, Sl.v]
  go_enter Tryd.func29, Tryd.ntmps29
  go_wp2_with fail
  refine cC.out.mono ?_
  rintro e w2 ⟨⟨sa, sn, sc⟩, rfl, ho, hb⟩
  have K0 := k0.out.below hb (by simp; omega)
  have K1' := k1.out.below hb (by simp)
  have K1 : BlkAt w2 (w.heap.size + 1) zeroRec 44 := by simpa using K1'
  clear K1'
  have HBB := Lib.hid (then_ HB.out hb)
  have HO := Lib.hid (ho.lower (base := w.heap.size + 2) (by simp))
  have hsz : w.heap.size + 2 ≤ w2.heap.size := by have := hb.size; simp at this; omega
  have a0 := K0.cell 0; have a1 := K0.cell 1; have a2 := K0.cell 2; have a3 := K0.cell 3; have a4 := K0.cell 4; have a5 := K0.cell 5; have a6 := K0.cell 6; have a7 := K0.cell 7; have a8 := K0.cell 8; have a9 := K0.cell 9; have a10 := K0.cell 10; have a11 := K0.cell 11
  simp only [List.getElem?_toArray, List.getElem?_cons_zero, List.getElem?_cons_succ] at a0 a1 a2 a3 a4 a5 a6 a7 a8 a9 a10 a11
  have f0 := K0.frozen
  have HK0 := Lib.hid K0
  have HK1 := Lib.hid K1
  clear K0 K1 ho hb k0 k1 HB cC
  dsimp only [Sl.v]
  go_wp2
  obtain ⟨T, hT⟩ : ∃ x, finish ⟨v, kind, saga, step, try_, at_, last, code, count, pivot, name, ⟨sa, sn, sc⟩⟩ d = x := ⟨_, rfl⟩
  go_loopw [] (fun wr => ∃ R : RecV, (1 ≤ R.v ∧ R.v ≤ 3) ∧ (R.v = 1 → R.data = ⟨sa, sn, sc⟩) ∧ finish R d = T ∧ Hid (TurnInv w wr R ⟨sa, sn, sc⟩ d)) (fun wr => (3 - intOf ((wr.cell? ⟨w.heap.size, 0, none⟩).getD undef)).toNat)
  case atStart =>
    refine ⟨⟨v, kind, saga, step, try_, at_, last, code, count, pivot, name, ⟨sa, sn, sc⟩⟩, hv, fun _ => rfl, hT, Lib.hid ⟨blk_write HK0.out, ?_, ?_, ?_, ?_⟩⟩
    · repeat (refine BlkAt.other ?_ (by simp only; omega) _)
      exact HK1.out
    · repeat (refine OwnBytes.set ?_ (by simp only; omega))
      exact HO.out
    · repeat (refine Below.set ?_ (by simp only; omega))
      exact HBB.out
    · simpa using hsz
  case round =>
    obtain ⟨⟨v, kind, saga, step, try_, at_, last, code, count, pivot, name, ⟨da, dn, dc⟩⟩, hRv, hRd, hfin, HI⟩ := hrel
    simp only at hRv hRd
    have hcases : v = 1 ∨ v = 2 ∨ v = 3 := by omega
    rcases hcases with rfl | rfl | rfl
    · obtain ⟨rfl, rfl, rfl⟩ := Sl.mk.inj (hRd rfl)
      clear hRd hRv
      obtain ⟨⟨v', kind', saga', step', try', at', last', code', count', pivot', name', ⟨da', dn', dc'⟩⟩, hF⟩ : ∃ x, fillV ⟨1, kind, saga, step, try_, at_, last, code, count, pivot, name, ⟨da, dn, dc⟩⟩ d = x := ⟨_, rfl⟩
      have cF := fun w h => fill_any ⟨1, kind, saga, step, try_, at_, last, code, count, pivot, name, ⟨da, dn, dc⟩⟩ d w h
      rw [hF] at cF
      dsimp only [RecV.val, Sl.v] at cF
      have hfin2 : finish ⟨2, kind', saga', step', try', at', last', code', count', pivot', name', ⟨da', dn', dc'⟩⟩ d = T := by
        have := finish_1 (r := ⟨1, kind, saga, step, try_, at_, last, code, count, pivot, name, ⟨da, dn, dc⟩⟩) (d := d) rfl
        rw [hF] at this
        exact this.trans hfin
      have CF := Lib.hid cF
      clear cF hF
      have I := HI.out
      have B0 := I.blk0
      dsimp only [recArr, Sl.v] at B0
      have b0 := B0.cell 0; have b1 := B0.cell 1; have b2 := B0.cell 2; have b3 := B0.cell 3; have b4 := B0.cell 4; have b5 := B0.cell 5; have b6 := B0.cell 6; have b7 := B0.cell 7; have b8 := B0.cell 8; have b9 := B0.cell 9; have b10 := B0.cell 10; have b11 := B0.cell 11; simp only [List.getElem?_toArray, List.getElem?_cons_zero, List.getElem?_cons_succ] at b0 b1 b2 b3 b4 b5 b6 b7 b8 b9 b10 b11; have bf := B0.frozen
      have HIB := Lib.hid B0
      have cX := Lib.hid (next_1 wr (HW.out.below I.below))
      have I5 := I.size
      clear B0
      go_wp2_with (first
        | (go_at_call 45; (with_reducible refine cX.out.mono ?_); rintro e w3 ⟨rfl, hb3⟩; have A3 := HIB.out.below hb3 (by omega); have HQ3 := Lib.hid hb3; clear b0 b1 b2 b3 b4 b5 b6 b7 b8 b9 b10 b11 bf; have a0 := A3.cell 0; have a1 := A3.cell 1; have a2 := A3.cell 2; have a3 := A3.cell 3; have a4 := A3.cell 4; have a5 := A3.cell 5; have a6 := A3.cell 6; have a7 := A3.cell 7; have a8 := A3.cell 8; have a9 := A3.cell 9; have a10 := A3.cell 10; have a11 := A3.cell 11; simp only [List.getElem?_toArray, List.getElem?_cons_zero, List.getElem?_cons_succ] at a0 a1 a2 a3 a4 a5 a6 a7 a8 a9 a10 a11; have af := A3.frozen; have HA4 := Lib.hid (A3.push (.cells #[.int .i64 1, .int .i64 2, .string ⟨#[49, 116, 111, 50]⟩, .func (.func 83) #[] #[]] 93)); have c0 := HA4.out.cell 0; have c1 := HA4.out.cell 1; have c2 := HA4.out.cell 2; have c3 := HA4.out.cell 3; have c4 := HA4.out.cell 4; have c5 := HA4.out.cell 5; have c6 := HA4.out.cell 6; have c7 := HA4.out.cell 7; have c8 := HA4.out.cell 8; have c9 := HA4.out.cell 9; have c10 := HA4.out.cell 10; have c11 := HA4.out.cell 11; simp only [List.getElem?_toArray, List.getElem?_cons_zero, List.getElem?_cons_succ] at c0 c1 c2 c3 c4 c5 c6 c7 c8 c9 c10 c11; have cf := HA4.out.frozen; clear hb3 A3)
        | (go_at_call 83; (with_reducible refine (CF.out _ (BytesAt.below (BytesAt.below (HI.out.own.bytes (by omega)) HQ3.out) (boxd (Below.refl _ _)))).mono ?_); rintro e w5 ⟨rfl, hb5⟩; have h35 := HQ3.out.size; have h3w : w.heap.size < w3.heap.size := (by omega); have A5 := HA4.out.below hb5 (Nat.lt_of_lt_of_le h3w (by simp)); have HQ5 := Lib.hid hb5; have S5 := (BlkAt.new w3 #[.int .i64 1, .int .i64 2, .string ⟨#[49, 116, 111, 50]⟩, .func (.func 83) #[] #[]] 93).below hb5 (by simp); clear a0 a1 a2 a3 a4 a5 a6 a7 a8 a9 a10 a11 af c0 c1 c2 c3 c4 c5 c6 c7 c8 c9 c10 c11 cf; have d0 := A5.cell 0; have d1 := A5.cell 1; have d2 := A5.cell 2; have d3 := A5.cell 3; have d4 := A5.cell 4; have d5 := A5.cell 5; have d6 := A5.cell 6; have d7 := A5.cell 7; have d8 := A5.cell 8; have d9 := A5.cell 9; have d10 := A5.cell 10; have d11 := A5.cell 11; simp only [List.getElem?_toArray, List.getElem?_cons_zero, List.getElem?_cons_succ] at d0 d1 d2 d3 d4 d5 d6 d7 d8 d9 d10 d11; have df := A5.frozen; have s1 := S5.cell 1; simp only [List.getElem?_toArray, List.getElem?_cons_zero, List.getElem?_cons_succ] at s1; have hne : ¬ w3.heap.size = w.heap.size := (by omega); have hne2 : ¬ w.heap.size = w3.heap.size := (by omega); have h55 := hb5.size; have HA5 := Lib.hid A5; clear hb5 A5 S5))
      all_goals go_roundw
      case rel =>
        refine ⟨⟨2, kind', saga', step', try', at', last', code', count', pivot', name', ⟨da', dn', dc'⟩⟩, by simp, (fun h => by simp at h), hfin2, Lib.hid ⟨?_, ?_, ?_, ?_, ?_⟩⟩
        · simpa [recArr] using (blk_write HA5.out).set (i := 0) (.int .i64 2)
        · repeat (refine BlkAt.other ?_ (by simp only; omega) _)
          exact ((HI.out.blk1.below HQ3.out (by omega)).push _).below HQ5.out (by simp; omega)
        · repeat (refine OwnBytes.set ?_ (by simp only; omega))
          exact OwnBytes.through (OwnBytes.through (OwnBytes.through HI.out.own HQ3.out) (boxd (Below.refl _ _))) HQ5.out
        · repeat (refine Below.set ?_ (by simp only; omega))
          exact then_ (boxd (then_ HI.out.below HQ3.out)) HQ5.out
        · simp at h55; simp; omega
      case measure =>
        have e0 := HI.out.blk0.cell 0
        simp only [recArr] at e0
        rw [((blk_write HA5.out).set (i := 0) (.int .i64 2)).cell 0, e0]
        simp [intOf]
    · clear hRd hRv
      have hfin2 : finish ⟨3, kind, saga, step, try_, at_, last, code, count, pivot, name, ⟨da, dn, dc⟩⟩ d = T := (finish_2 (r := ⟨2, kind, saga, step, try_, at_, last, code, count, pivot, name, ⟨da, dn, dc⟩⟩) (d := d) rfl).trans hfin
      have cF := fun w => stay_any ⟨2, kind, saga, step, try_, at_, last, code, count, pivot, name, ⟨da, dn, dc⟩⟩ w
      dsimp only [RecV.val, Sl.v] at cF
      have CF := Lib.hid cF
      clear cF
      have I := HI.out
      have B0 := I.blk0
      dsimp only [recArr, Sl.v] at B0
      have b0 := B0.cell 0; have b1 := B0.cell 1; have b2 := B0.cell 2; have b3 := B0.cell 3; have b4 := B0.cell 4; have b5 := B0.cell 5; have b6 := B0.cell 6; have b7 := B0.cell 7; have b8 := B0.cell 8; have b9 := B0.cell 9; have b10 := B0.cell 10; have b11 := B0.cell 11; simp only [List.getElem?_toArray, List.getElem?_cons_zero, List.getElem?_cons_succ] at b0 b1 b2 b3 b4 b5 b6 b7 b8 b9 b10 b11; have bf := B0.frozen
      have HIB := Lib.hid B0
      have cX := Lib.hid (next_2 wr (HW.out.below I.below))
      have I5 := I.size
      clear B0
      go_wp2_with (first
        | (go_at_call 45; (with_reducible refine cX.out.mono ?_); rintro e w3 ⟨rfl, hb3⟩; have A3 := HIB.out.below hb3 (by omega); have HQ3 := Lib.hid hb3; clear b0 b1 b2 b3 b4 b5 b6 b7 b8 b9 b10 b11 bf; have a0 := A3.cell 0; have a1 := A3.cell 1; have a2 := A3.cell 2; have a3 := A3.cell 3; have a4 := A3.cell 4; have a5 := A3.cell 5; have a6 := A3.cell 6; have a7 := A3.cell 7; have a8 := A3.cell 8; have a9 := A3.cell 9; have a10 := A3.cell 10; have a11 := A3.cell 11; simp only [List.getElem?_toArray, List.getElem?_cons_zero, List.getElem?_cons_succ] at a0 a1 a2 a3 a4 a5 a6 a7 a8 a9 a10 a11; have af := A3.frozen; have HA4 := Lib.hid (A3.push (.cells #[.int .i64 2, .int .i64 3, .string ⟨#[50, 116, 111, 51]⟩, .func (.func 58) #[] #[]] 93)); have c0 := HA4.out.cell 0; have c1 := HA4.out.cell 1; have c2 := HA4.out.cell 2; have c3 := HA4.out.cell 3; have c4 := HA4.out.cell 4; have c5 := HA4.out.cell 5; have c6 := HA4.out.cell 6; have c7 := HA4.out.cell 7; have c8 := HA4.out.cell 8; have c9 := HA4.out.cell 9; have c10 := HA4.out.cell 10; have c11 := HA4.out.cell 11; simp only [List.getElem?_toArray, List.getElem?_cons_zero, List.getElem?_cons_succ] at c0 c1 c2 c3 c4 c5 c6 c7 c8 c9 c10 c11; have cf := HA4.out.frozen; clear hb3 A3)
        | (go_at_call 58; (with_reducible refine (CF.out _).mono ?_); rintro e w5 ⟨rfl, hb5⟩; have h35 := HQ3.out.size; have h3w : w.heap.size < w3.heap.size := (by omega); have A5 := HA4.out.below hb5 (Nat.lt_of_lt_of_le h3w (by simp)); have HQ5 := Lib.hid hb5; have S5 := (BlkAt.new w3 #[.int .i64 2, .int .i64 3, .string ⟨#[50, 116, 111, 51]⟩, .func (.func 58) #[] #[]] 93).below hb5 (by simp); clear a0 a1 a2 a3 a4 a5 a6 a7 a8 a9 a10 a11 af c0 c1 c2 c3 c4 c5 c6 c7 c8 c9 c10 c11 cf; have d0 := A5.cell 0; have d1 := A5.cell 1; have d2 := A5.cell 2; have d3 := A5.cell 3; have d4 := A5.cell 4; have d5 := A5.cell 5; have d6 := A5.cell 6; have d7 := A5.cell 7; have d8 := A5.cell 8; have d9 := A5.cell 9; have d10 := A5.cell 10; have d11 := A5.cell 11; simp only [List.getElem?_toArray, List.getElem?_cons_zero, List.getElem?_cons_succ] at d0 d1 d2 d3 d4 d5 d6 d7 d8 d9 d10 d11; have df := A5.frozen; have s1 := S5.cell 1; simp only [List.getElem?_toArray, List.getElem?_cons_zero, List.getElem?_cons_succ] at s1; have hne : ¬ w3.heap.size = w.heap.size := (by omega); have hne2 : ¬ w.heap.size = w3.heap.size := (by omega); have h55 := hb5.size; have HA5 := Lib.hid A5; clear hb5 A5 S5))
      all_goals go_roundw
      case rel =>
        refine ⟨⟨3, kind, saga, step, try_, at_, last, code, count, pivot, name, ⟨da, dn, dc⟩⟩, by simp, (fun h => by simp at h), hfin2, Lib.hid ⟨?_, ?_, ?_, ?_, ?_⟩⟩
        · simpa [recArr] using (blk_write HA5.out).set (i := 0) (.int .i64 3)
        · repeat (refine BlkAt.other ?_ (by simp only; omega) _)
          exact ((HI.out.blk1.below HQ3.out (by omega)).push _).below HQ5.out (by simp; omega)
        · repeat (refine OwnBytes.set ?_ (by simp only; omega))
          exact OwnBytes.through (OwnBytes.through (OwnBytes.through HI.out.own HQ3.out) (boxd (Below.refl _ _))) HQ5.out
        · repeat (refine Below.set ?_ (by simp only; omega))
          exact then_ (boxd (then_ HI.out.below HQ3.out)) HQ5.out
        · simp at h55; simp; omega
      case measure =>
        have e0 := HI.out.blk0.cell 0
        simp only [recArr] at e0
        rw [((blk_write HA5.out).set (i := 0) (.int .i64 3)).cell 0, e0]
        simp [intOf]
    · have hT2 := hfin
      rw [finish_3 rfl] at hT2
      rw [← hT2] at hT
      have HT := Lib.hid hT
      have I := HI.out
      have B0 := I.blk0
      have B1 := I.blk1
      dsimp only [recArr, Sl.v] at B0
      dsimp only [zeroRec] at B1
      have b0 := B0.cell 0
      have b1 := B0.cell 1
      have b2 := B0.cell 2
      have b3 := B0.cell 3
      have b4 := B0.cell 4
      have b5 := B0.cell 5
      have b6 := B0.cell 6
      have b7 := B0.cell 7
      have b8 := B0.cell 8
      have b9 := B0.cell 9
      have b10 := B0.cell 10
      have b11 := B0.cell 11
      simp only [List.getElem?_toArray, List.getElem?_cons_zero, List.getElem?_cons_succ] at b0 b1 b2 b3 b4 b5 b6 b7 b8 b9 b10 b11
      have bf := B0.frozen
      have z0 := B1.cell 0
      have z1 := B1.cell 1
      have z2 := B1.cell 2
      have z3 := B1.cell 3
      have z4 := B1.cell 4
      have z5 := B1.cell 5
      have z6 := B1.cell 6
      have z7 := B1.cell 7
      have z8 := B1.cell 8
      have z9 := B1.cell 9
      have z10 := B1.cell 10
      have z11 := B1.cell 11
      simp only [List.getElem?_toArray, List.getElem?_cons_zero, List.getElem?_cons_succ] at z0 z1 z2 z3 z4 z5 z6 z7 z8 z9 z10 z11
      have zf := B1.frozen
      have I5 := I.size
      clear B0 B1 I hT hT2 hfin hRd hRv
      go_wp2
      refine bodyPost_ret (v := .tuple #[.agg #[.int .i64 3, .int .i64 kind, .int .i64 saga, .int .i64 step, .int .i64 try_, .int .i64 at_, .int .i64 last, .int .i64 code, .int .i64 count, .int .i64 pivot, .string name, .slice da dn dc], .bool true]) (by simp [results, Tryd.results29, go_sem, *]) rfl ⟨⟨sa, sn, sc⟩, ?_, ?_, ?_⟩
      · rw [HT.out]
      · refine OwnBytes.lower (b := w.heap.size + 2) ?_ (by omega)
        repeat (refine OwnBytes.set ?_ (by simp only; omega))
        exact HI.out.own
      · repeat (refine Below.set ?_ (by simp only; omega))
        exact HI.out.below
end Go.Proofs.YtfbaliimjmimhaaDoor
namespace Go.Proofs.YtfbaliimjmimhaaDoor
open Go.RowKit

/-- The tables that a record's way up reads. -/
structure Tables (w : World) : Prop where
  tabs : Tabs w
  may : MayAt w
  ways : WaysAt w
theorem Tables.below {w w' : World} (h : Tables w) (hb : Below w.heap.size w w') : Tables w' := ⟨h.tabs.below hb, h.may.below hb, h.ways.below hb⟩

def upD (r : RecV) (d : List Int) : List Int := if r.v = 1 ∧ r.kind = 1 then [] else d
theorem recN_0 {r : RecV} {d : List Int} (h : recN r d = 0) : 1 ≤ r.v ∧ r.v ≤ 3 ∧ 1 ≤ r.kind ∧ r.kind ≤ 7 ∧ 1 ≤ r.saga := by
  unfold recN at h
  split at h
  · cases h
  · split at h
    · cases h
    · split at h
      · cases h
      · omega
def zeroRecV : RecV := ⟨0, 0, 0, 0, 0, 0, 0, 0, 0, 0, ⟨#[]⟩, ⟨none, 0, 0⟩⟩

set_option maxRecDepth 100000 in
set_option maxHeartbeats 4000000 in
theorem up_bad (r : RecV) (d : List Int) (w : World) (ht : Tables w) (hok : RecOk w r d) (he : recN r d ≠ 0) :
    Calls Tryd.prog 16 #[r.val, .int .i64 3] w fun e w' => e = .returned (.tuple #[zeroRecV.val, .int .i64 (recN r d)]) ∧ Below w.heap.size w w' := by
  have hb0 := Below.refl w.heap.size w
  have hb1 := boxd (o := .cells (recArr r) 44) hb0
  have hb2 := boxd (o := .cells zeroRec 44) hb1
  have k1 := Lib.hid (BlkAt.new (w.alloc (.cells (recArr r) 44)) zeroRec 44)
  have cC := recCheck_any r d _ (ht.below hb2).tabs (ht.below hb2).may (hok.below hb2)
  obtain ⟨E, hE⟩ : ∃ x, recN r d = x := ⟨_, rfl⟩
  rw [hE] at cC he
  rw [hE]
  have cC := Lib.hid cC
  have HB := Lib.hid hb2
  clear hb0 hb1 hb2 ht hok hE
  obtain ⟨v, kind, saga, step, try_, at_, last, code, count, pivot, name, ⟨da, dn, dc⟩⟩ := r
  dsimp only [RecV.val, Sl.v, recArr] at cC k1 HB
  dsimp only [RecV.val, Sl.v, zeroRecV]
  go_enter Tryd.func16, Tryd.ntmps16
  go_wp2_with fail
  refine cC.out.mono ?_
  rintro e w2 ⟨rfl, hb⟩
  have K1' := k1.out.below hb (by simp)
  have K1 : BlkAt w2 (w.heap.size + 1) zeroRec 44 := by simpa using K1'
  have HBB := Lib.hid (then_ HB.out hb)
  dsimp only [zeroRec] at K1
  have z0 := K1.cell 0; have z1 := K1.cell 1; have z2 := K1.cell 2; have z3 := K1.cell 3; have z4 := K1.cell 4; have z5 := K1.cell 5; have z6 := K1.cell 6; have z7 := K1.cell 7; have z8 := K1.cell 8; have z9 := K1.cell 9; have z10 := K1.cell 10; have z11 := K1.cell 11
  simp only [List.getElem?_toArray, List.getElem?_cons_zero, List.getElem?_cons_succ] at z0 z1 z2 z3 z4 z5 z6 z7 z8 z9 z10 z11
  have zf := K1.frozen
  clear K1 K1' hb HB cC k1
  go_wp2
  refine bodyPost_ret (v := .tuple #[.agg #[.int .i64 0, .int .i64 0, .int .i64 0, .int .i64 0, .int .i64 0, .int .i64 0, .int .i64 0, .int .i64 0, .int .i64 0, .int .i64 0, .string ⟨#[]⟩, .slice none 0 0], .int .i64 E]) (by simp [results, Tryd.results16, go_sem, *]) rfl ⟨rfl, ?_⟩
  repeat (refine Below.set ?_ (by simp only; omega))
  exact HBB.out

theorem recFrom_all {r : RecV} {d : List Int} {T : Nat} : ∀ (f tag : Nat), recFrom r d T f tag = 0 → ∀ j, tag ≤ j → j < tag + f → tagErr r d T j = 0
  | 0, tag, _, j, h1, h2 => by omega
  | f + 1, tag, h, j, h1, h2 => by
    rw [recFrom] at h
    split at h
    · next h0 =>
      by_cases e : j = tag
      · rw [e]; exact h0
      · exact recFrom_all f (tag + 1) h j (by omega) (by omega)
    · next h0 => exact absurd h h0
theorem recN_len {r : RecV} {d : List Int} (h : recN r d = 0) : r.data.n ≤ 16384 := by
  have hh := recN_0 h
  unfold recN at h
  rw [if_neg (by omega), if_neg (by omega), if_neg (by omega)] at h
  have h11 := recFrom_all 9 3 h 11 (by omega) (by omega)
  unfold tagErr at h11
  split at h11
  · unfold boundsN at h11
    simp only [show (11 : Nat) ≠ 3 by decide, show (11 : Nat) ≠ 4 by decide, show (11 : Nat) ≠ 5 by decide, show (11 : Nat) ≠ 6 by decide, show (11 : Nat) ≠ 7 by decide, show (11 : Nat) ≠ 8 by decide, show (11 : Nat) ≠ 9 by decide, show (11 : Nat) ≠ 10 by decide, if_false] at h11
    split at h11
    · cases h11
    · omega
  · split at h11
    · next hz =>
      unfold zeroB at hz
      simp at hz
      omega
    · cases h11

set_option maxRecDepth 100000 in
set_option maxHeartbeats 1000000 in
theorem up_good (r : RecV) (d : List Int) (w : World) (ht : Tables w) (hok : RecOk w r d) (he : recN r d = 0) :
    Calls Tryd.prog 16 #[r.val, .int .i64 3] w fun e w' => ∃ s : Sl, e = .returned (.tuple #[(finish { r with data := s } d).val, .int .i64 0]) ∧ OwnBytes w' w.heap.size s.v d ∧ Below w.heap.size w w' := by
  have hb0 := Below.refl w.heap.size w
  have hb1 := boxd (o := .cells (recArr r) 44) hb0
  have hb2 := boxd (o := .cells zeroRec 44) hb1
  have k0 := Lib.hid ((BlkAt.new w (recArr r) 44).push (.cells zeroRec 44))
  have k1 := Lib.hid (BlkAt.new (w.alloc (.cells (recArr r) 44)) zeroRec 44)
  have cC := recCheck_any r d _ (ht.below hb2).tabs (ht.below hb2).may (hok.below hb2)
  have hv := recN_0 he
  have hdl : d.length ≤ 1073741824 := by have := recN_len he; have := hok.data.len; omega
  have cT := fun w hw h => turned_any r d w ⟨hv.1, hv.2.1⟩ hw h hdl
  rw [he] at cC
  have cC := Lib.hid cC
  have CT := Lib.hid cT
  have HW := Lib.hid (ht.below hb2).ways
  have HD := Lib.hid (hok.below hb2).data
  have HB := Lib.hid hb2
  have hv3 : ¬ (3 : Int) < r.v := by omega
  clear hb0 hb1 hb2 ht hok he cT hv
  obtain ⟨v, kind, saga, step, try_, at_, last, code, count, pivot, name, ⟨da, dn, dc⟩⟩ := r
  simp only at hv3
  dsimp only [RecV.val, Sl.v, recArr] at cC k1 HB k0 CT HW HD
  dsimp only [RecV.val, Sl.v]
  go_enter Tryd.func16, Tryd.ntmps16
  go_wp2_with fail
  refine cC.out.mono ?_
  rintro e w2 ⟨rfl, hb⟩
  have K0 := k0.out.below hb (by simp; omega)
  have b0 := K0.cell 0; have b1 := K0.cell 1; have b2 := K0.cell 2; have b3 := K0.cell 3; have b4 := K0.cell 4; have b5 := K0.cell 5; have b6 := K0.cell 6; have b7 := K0.cell 7; have b8 := K0.cell 8; have b9 := K0.cell 9; have b10 := K0.cell 10; have b11 := K0.cell 11; simp only [List.getElem?_toArray, List.getElem?_cons_zero, List.getElem?_cons_succ] at b0 b1 b2 b3 b4 b5 b6 b7 b8 b9 b10 b11; have bf := K0.frozen
  have K1' := k1.out.below hb (by simp)
  have HK1 : Hid (BlkAt w2 (w.heap.size + 1) zeroRec 44) := Lib.hid (by simpa using K1')
  have hsz : w.heap.size + 2 ≤ w2.heap.size := by have := hb.size; simp at this; omega
  have HBB := Lib.hid (then_ HB.out hb)
  have HH := Lib.hid hb
  clear K0 K1' hb HB cC k1 k0
  go_wp2_with (go_at_call 28; (with_reducible refine (known_any _ _).mono ?_); rintro e w3 ⟨rfl, hw3⟩; rw [hw3]; clear hw3)
  refine (CT.out _ (HW.out.below HH.out) (HD.out.below HH.out)).mono ?_
  rintro e w4 ⟨⟨sa, sn, sc⟩, rfl, ho, hb⟩
  obtain ⟨⟨v', kind', saga', step', try', at', last', code', count', pivot', name', ⟨da', dn', dc'⟩⟩, hF⟩ : ∃ x, finish ⟨v, kind, saga, step, try_, at_, last, code, count, pivot, name, ⟨sa, sn, sc⟩⟩ d = x := ⟨_, rfl⟩
  rw [hF]
  dsimp only [RecV.val, Sl.v]
  have HF := Lib.hid hF
  have HO := Lib.hid ho
  have H4 := Lib.hid hb
  have K4 := (HK1.out.below hb (by omega)).push (.cells #[.int .i64 v', .int .i64 kind', .int .i64 saga', .int .i64 step', .int .i64 try', .int .i64 at', .int .i64 last', .int .i64 code', .int .i64 count', .int .i64 pivot', .string name', .slice da' dn' dc'] 44)
  have h4s := hb.size
  dsimp only [zeroRec] at K4
  clear bf hF ho hb b0 b1 b2 b3 b4 b5 b6 b7 b8 b9 b10 b11
  have z0 := K4.cell 0
  have z1 := K4.cell 1
  have z2 := K4.cell 2
  have z3 := K4.cell 3
  have z4 := K4.cell 4
  have z5 := K4.cell 5
  have z6 := K4.cell 6
  have z7 := K4.cell 7
  have z8 := K4.cell 8
  have z9 := K4.cell 9
  have z10 := K4.cell 10
  have z11 := K4.cell 11
  simp only [List.getElem?_toArray, List.getElem?_cons_zero, List.getElem?_cons_succ] at z0 z1 z2 z3 z4 z5 z6 z7 z8 z9 z10 z11
  have zf := K4.frozen
  clear K4
  have hne : ¬ w.heap.size + 1 = w4.heap.size := by omega
  have hne2 : ¬ w4.heap.size = w.heap.size + 1 := by omega
  go_wp2
  refine bodyPost_ret (v := .tuple #[.agg #[.int .i64 v', .int .i64 kind', .int .i64 saga', .int .i64 step', .int .i64 try', .int .i64 at', .int .i64 last', .int .i64 code', .int .i64 count', .int .i64 pivot', .string name', .slice da' dn' dc'], .int .i64 0]) (by simp [results, Tryd.results16, go_sem, *]) rfl ⟨⟨sa, sn, sc⟩, ?_, ?_, ?_⟩
  · rw [HF.out]
  · refine OwnBytes.lower (b := w2.heap.size) ?_ (by omega)
    repeat (refine OwnBytes.set ?_ (by simp only; omega))
    exact OwnBytes.through HO.out (boxd (Below.refl _ _))
  · repeat (refine Below.set ?_ (by simp only; omega))
    exact boxd (then_ HBB.out H4.out)
end Go.Proofs.YtfbaliimjmimhaaDoor
namespace Go.Proofs.YtfbaliimjmimhaaDoor
open Go.RowKit

/-- What a saga holds besides its words. -/
structure Held where
  input : List Int
  outs : List (List Int)
  undos : List (List Int)
  fail : List Int
/-- How a saga's words are read. -/
structure HeldAt (w : World) (s : SagaV) (h : Held) : Prop where
  input : BytesAt w s.input h.input
  outs : ListsAt w s.outs h.outs
  undos : ListsAt w s.undos h.undos
  fail : BytesAt w s.fail h.fail
theorem HeldAt.below {w w' : World} {s : SagaV} {h : Held} (k : HeldAt w s h) (hb : Below w.heap.size w w') : HeldAt w' s h := ⟨k.input.below hb, k.outs.below hb, k.undos.below hb, k.fail.below hb⟩
/-- Small enough to be copied. -/
structure Held.Small (h : Held) : Prop where
  input : h.input.length ≤ 1073741824
  outs : h.outs.length ≤ 1048576
  outs2 : ∀ d ∈ h.outs, d.length ≤ 1073741824
  undos : h.undos.length ≤ 1048576
  undos2 : ∀ d ∈ h.undos, d.length ≤ 1073741824
  fail : h.fail.length ≤ 1073741824
/-- A saga whose lists lie in blocks of one's own. -/
structure OwnHeld (w : World) (base : Nat) (s : SagaV) (h : Held) : Prop where
  input : OwnBytes w base s.input.v h.input
  outs : OwnLists w base s.outs.v h.outs
  undos : OwnLists w base s.undos.v h.undos
  fail : OwnBytes w base s.fail.v h.fail
  apart : s.outs.v.ownBlock = none ∨ s.outs.v.ownBlock ≠ s.undos.v.ownBlock

theorem OwnLists.set {w : World} {base : Nat} {v : Value} {ls : List (List Int)} (h : OwnLists w base v ls) {a : Addr} {u : Value} (ha : a.block < base) : OwnLists (w.setCell a u) base v ls := by
  obtain ⟨vs, h1, h2, h3⟩ := h
  exact ⟨vs, ownsRow_setCell_below h1 ha u, h2, fun i a b => (h3 i a b).set ha⟩
theorem OwnLists.lower {w : World} {base b : Nat} {v : Value} {ls : List (List Int)} (h : OwnLists w b v ls) (hb : base ≤ b) : OwnLists w base v ls := by
  obtain ⟨vs, h1, h2, h3⟩ := h
  exact ⟨vs, own_lower h1 hb, h2, fun i a b => (h3 i a b).lower hb⟩
theorem OwnLists.at {w : World} {base : Nat} {v : Value} {ls : List (List Int)} (h : OwnLists w base v ls) (hl : ls.length ≤ 1048576) (hd : ∀ d ∈ ls, d.length ≤ 1073741824) : ∃ s : Sl, v = s.v ∧ ListsAt w s ls := by
  obtain ⟨vs, h1, h2, h3⟩ := h
  obtain ⟨s, e, _, hr⟩ := own_row h1 (by omega)
  exact ⟨s, e, vs, hr, h2, fun i a b => (h3 i a b).bytes (by have := hd _ (List.getElem_mem b); omega)⟩

theorem OwnLists.lt {w : World} {base : Nat} {v : Value} {ls : List (List Int)} (h : OwnLists w base v ls) : ∀ k, v.ownBlock = some k → base ≤ k ∧ k < w.heap.size := by
  obtain ⟨vs, h1, _⟩ := h
  exact h1.lt
theorem lists_apart {u v : Value} {a b : Nat} (h1 : ∀ k, u.ownBlock = some k → k < a) (h2 : ∀ k, v.ownBlock = some k → b ≤ k) (hab : a ≤ b) : u.ownBlock = none ∨ u.ownBlock ≠ v.ownBlock := by
  cases hu : u.ownBlock with
  | none => exact .inl rfl
  | some k =>
    refine .inr fun e => ?_
    have := h1 k hu
    have := h2 k e.symm
    omega

set_option maxRecDepth 10000000 in
set_option maxHeartbeats 4000000 in
theorem sagaClone_any (s : SagaV) (h : Held) (w : World) (k : HeldAt w s h) (hs : h.Small) :
    Calls Tryd.prog 40 #[s.val] w fun e w' => ∃ s' : SagaV, e = .returned s'.val ∧ s' = { s with input := s'.input, outs := s'.outs, undos := s'.undos, fail := s'.fail } ∧ OwnHeld w' w.heap.size s' h ∧ Below w.heap.size w w' := by
  obtain ⟨id, name, count, pivot, begun, at_, ⟨ia, il, ic⟩, phase, next, flight, tries, ⟨oa, ol, oc⟩, ⟨ua, ul, uc⟩, fs, fc, ⟨fa, fl, fcap⟩⟩ := s
  obtain ⟨D1, D2, D3, D4⟩ := h
  obtain ⟨k1, k2, k3, k4⟩ := k
  obtain ⟨s1, s2, s3, s4, s5, s6⟩ := hs
  simp only at k1 k2 k3 k4 s1 s2 s3 s4 s5 s6
  have hb0 := Below.refl w.heap.size w
  have hb1 := boxd (o := .cells #[.int .i64 id, .string name, .int .i64 count, .int .i64 pivot, .int .i64 begun, .int .i64 at_, .slice ia il ic, .int .i64 phase, .int .i64 next, .bool flight, .int .i64 tries, .slice oa ol oc, .slice ua ul uc, .int .i64 fs, .int .i64 fc, .slice fa fl fcap] 40) hb0
  have hb2 := boxd (o := .cells #[.int .i64 0, .string ⟨#[]⟩, .int .i64 0, .int .i64 0, .int .i64 0, .int .i64 0, .slice none 0 0, .int .i64 0, .int .i64 0, .bool false, .int .i64 0, .slice none 0 0, .slice none 0 0, .int .i64 0, .int .i64 0, .slice none 0 0] 40) hb1
  have B0 := Lib.hid ((BlkAt.new w #[.int .i64 id, .string name, .int .i64 count, .int .i64 pivot, .int .i64 begun, .int .i64 at_, .slice ia il ic, .int .i64 phase, .int .i64 next, .bool flight, .int .i64 tries, .slice oa ol oc, .slice ua ul uc, .int .i64 fs, .int .i64 fc, .slice fa fl fcap] 40).push (.cells #[.int .i64 0, .string ⟨#[]⟩, .int .i64 0, .int .i64 0, .int .i64 0, .int .i64 0, .slice none 0 0, .int .i64 0, .int .i64 0, .bool false, .int .i64 0, .slice none 0 0, .slice none 0 0, .int .i64 0, .int .i64 0, .slice none 0 0] 40))
  have Z0 := BlkAt.new (w.alloc (.cells #[.int .i64 id, .string name, .int .i64 count, .int .i64 pivot, .int .i64 begun, .int .i64 at_, .slice ia il ic, .int .i64 phase, .int .i64 next, .bool flight, .int .i64 tries, .slice oa ol oc, .slice ua ul uc, .int .i64 fs, .int .i64 fc, .slice fa fl fcap] 40)) #[.int .i64 0, .string ⟨#[]⟩, .int .i64 0, .int .i64 0, .int .i64 0, .int .i64 0, .slice none 0 0, .int .i64 0, .int .i64 0, .bool false, .int .i64 0, .slice none 0 0, .slice none 0 0, .int .i64 0, .int .i64 0, .slice none 0 0] 40
  dsimp only [SagaV.val, Sl.v]
  have K1 := Lib.hid k1
  have K2 := Lib.hid k2
  have K3 := Lib.hid k3
  have K4 := Lib.hid k4
  have HB := Lib.hid hb2
  have HZ := Lib.hid Z0
  clear k1 k2 k3 k4 hb0 hb1 hb2 Z0
  go_enter Tryd.func40, Tryd.ntmps40
  go_wp2_with fail
  refine (bytesOf_any ⟨ia, il, ic⟩ D1 _ (K1.out.below HB.out) s1).mono ?_
  rintro e w2 ⟨v, rfl, o1, hb⟩
  obtain ⟨⟨a1, n1, c1⟩, rfl, -⟩ := o1.at (by omega)
  dsimp only [Sl.v] at o1
  have hsz : w.heap.size + 2 ≤ w2.heap.size := by have := hb.size; simp at this; omega
  have P1 : BlkAt w2 w.heap.size #[.int .i64 id, .string name, .int .i64 count, .int .i64 pivot, .int .i64 begun, .int .i64 at_, .slice ia il ic, .int .i64 phase, .int .i64 next, .bool flight, .int .i64 tries, .slice oa ol oc, .slice ua ul uc, .int .i64 fs, .int .i64 fc, .slice fa fl fcap] 40 := B0.out.below hb (by simp; omega)
  have b0 := P1.cell 0
  have b1 := P1.cell 1
  have b2 := P1.cell 2
  have b3 := P1.cell 3
  have b4 := P1.cell 4
  have b5 := P1.cell 5
  have b6 := P1.cell 6
  have b7 := P1.cell 7
  have b8 := P1.cell 8
  have b9 := P1.cell 9
  have b10 := P1.cell 10
  have b11 := P1.cell 11
  have b12 := P1.cell 12
  have b13 := P1.cell 13
  have b14 := P1.cell 14
  have b15 := P1.cell 15
  simp only [List.getElem?_toArray, List.getElem?_cons_zero, List.getElem?_cons_succ] at b0 b1 b2 b3 b4 b5 b6 b7 b8 b9 b10 b11 b12 b13 b14 b15
  have bf := P1.frozen
  have HP1 := Lib.hid P1
  have HZ1 : Hid (BlkAt w2 (w.heap.size + 1) _ 40) := Lib.hid (by simpa using HZ.out.below hb (by simp))
  have HB1 := Lib.hid (Below.set (p := ⟨w.heap.size, 6, none⟩) (u := .slice a1 n1 c1) (then_ HB.out hb) (Nat.le_refl _))
  have HO1 : Hid (OwnBytes w2 (w.heap.size + 2) (.slice a1 n1 c1) D1) := Lib.hid (by simpa using o1)
  clear o1 hb P1 B0 HZ HB
  go_wp2_with fail
  refine (lists_any ⟨oa, ol, oc⟩ D2 _ (K2.out.below HB1.out) s2 s3).mono ?_
  rintro e w3 ⟨v, rfl, o2, hb⟩
  obtain ⟨⟨a2, n2, c2⟩, rfl, -⟩ := o2.at (by omega) s3
  dsimp only [Sl.v] at o2
  have L2 := Lib.hid (fun k hk => (o2.lt k hk).2)
  have hle := hb.size
  simp only [World.size_setCell] at hle
  have P2 : BlkAt w3 w.heap.size #[.int .i64 id, .string name, .int .i64 count, .int .i64 pivot, .int .i64 begun, .int .i64 at_, .slice a1 n1 c1, .int .i64 phase, .int .i64 next, .bool flight, .int .i64 tries, .slice oa ol oc, .slice ua ul uc, .int .i64 fs, .int .i64 fc, .slice fa fl fcap] 40 := BlkAt.below (by simpa using HP1.out.set (i := 6) (.slice a1 n1 c1)) hb (by simp only [World.size_setCell]; omega)
  clear b0 b1 b2 b3 b4 b5 b6 b7 b8 b9 b10 b11 b12 b13 b14 b15 bf
  have d0 := P2.cell 0
  have d1 := P2.cell 1
  have d2 := P2.cell 2
  have d3 := P2.cell 3
  have d4 := P2.cell 4
  have d5 := P2.cell 5
  have d6 := P2.cell 6
  have d7 := P2.cell 7
  have d8 := P2.cell 8
  have d9 := P2.cell 9
  have d10 := P2.cell 10
  have d11 := P2.cell 11
  have d12 := P2.cell 12
  have d13 := P2.cell 13
  have d14 := P2.cell 14
  have d15 := P2.cell 15
  simp only [List.getElem?_toArray, List.getElem?_cons_zero, List.getElem?_cons_succ] at d0 d1 d2 d3 d4 d5 d6 d7 d8 d9 d10 d11 d12 d13 d14 d15
  have df := P2.frozen
  have HP2 := Lib.hid P2
  have HZ2 : Hid (BlkAt w3 (w.heap.size + 1) _ 40) := Lib.hid ((HZ1.out.other (a := ⟨w.heap.size, 6, none⟩) (by simp only; omega) (.slice a1 n1 c1)).below hb (by simp only [World.size_setCell]; omega))
  have HB2 := Lib.hid (Below.set (p := ⟨w.heap.size, 11, none⟩) (u := .slice a2 n2 c2) (then_ HB1.out hb) (Nat.le_refl _))
  have HO1' := Lib.hid ((OwnBytes.set (a := ⟨w.heap.size, 6, none⟩) (u := .slice a1 n1 c1) HO1.out (by simp only; omega)).through hb)
  clear HO1
  have HO1 := HO1'
  clear HO1'
  have HO2 := Lib.hid (o2.lower (base := w.heap.size + 2) (by simp only [World.size_setCell]; omega))
  have hsz' : w.heap.size + 2 ≤ w3.heap.size := by omega
  clear hsz hle
  have hsz := hsz'
  clear hsz'
  clear o2 hb P2 HP1 HZ1 HB1
  go_wp2_with fail
  refine (lists_any ⟨ua, ul, uc⟩ D3 _ (K3.out.below HB2.out) s4 s5).mono ?_
  rintro e w4 ⟨v, rfl, o3, hb⟩
  obtain ⟨⟨a3, n3, c3⟩, rfl, -⟩ := o3.at (by omega) s5
  dsimp only [Sl.v] at o3
  have L3 := Lib.hid (fun k hk => (o3.lt k hk).1)
  have hle := hb.size
  simp only [World.size_setCell] at hle
  have P3 : BlkAt w4 w.heap.size #[.int .i64 id, .string name, .int .i64 count, .int .i64 pivot, .int .i64 begun, .int .i64 at_, .slice a1 n1 c1, .int .i64 phase, .int .i64 next, .bool flight, .int .i64 tries, .slice a2 n2 c2, .slice ua ul uc, .int .i64 fs, .int .i64 fc, .slice fa fl fcap] 40 := BlkAt.below (by simpa using HP2.out.set (i := 11) (.slice a2 n2 c2)) hb (by simp only [World.size_setCell]; omega)
  clear d0 d1 d2 d3 d4 d5 d6 d7 d8 d9 d10 d11 d12 d13 d14 d15 df
  have q0 := P3.cell 0
  have q1 := P3.cell 1
  have q2 := P3.cell 2
  have q3 := P3.cell 3
  have q4 := P3.cell 4
  have q5 := P3.cell 5
  have q6 := P3.cell 6
  have q7 := P3.cell 7
  have q8 := P3.cell 8
  have q9 := P3.cell 9
  have q10 := P3.cell 10
  have q11 := P3.cell 11
  have q12 := P3.cell 12
  have q13 := P3.cell 13
  have q14 := P3.cell 14
  have q15 := P3.cell 15
  simp only [List.getElem?_toArray, List.getElem?_cons_zero, List.getElem?_cons_succ] at q0 q1 q2 q3 q4 q5 q6 q7 q8 q9 q10 q11 q12 q13 q14 q15
  have qf := P3.frozen
  have HP3 := Lib.hid P3
  have HZ3 : Hid (BlkAt w4 (w.heap.size + 1) _ 40) := Lib.hid ((HZ2.out.other (a := ⟨w.heap.size, 11, none⟩) (by simp only; omega) (.slice a2 n2 c2)).below hb (by simp only [World.size_setCell]; omega))
  have HB3 := Lib.hid (Below.set (p := ⟨w.heap.size, 12, none⟩) (u := .slice a3 n3 c3) (then_ HB2.out hb) (Nat.le_refl _))
  have HO1' := Lib.hid ((OwnBytes.set (a := ⟨w.heap.size, 11, none⟩) (u := .slice a2 n2 c2) HO1.out (by simp only; omega)).through hb)
  clear HO1
  have HO1 := HO1'
  clear HO1'
  have HO2' := Lib.hid ((OwnLists.set (a := ⟨w.heap.size, 11, none⟩) (u := .slice a2 n2 c2) HO2.out (by simp only; omega)).through hb)
  clear HO2
  have HO2 := HO2'
  clear HO2'
  have HO3 := Lib.hid (o3.lower (base := w.heap.size + 2) (by simp only [World.size_setCell]; omega))
  have hsz' : w.heap.size + 2 ≤ w4.heap.size := by omega
  clear hsz hle
  have hsz := hsz'
  clear hsz'
  clear o3 hb P3 HP2 HZ2 HB2
  go_wp2_with fail
  refine (bytesOf_any ⟨fa, fl, fcap⟩ D4 _ (K4.out.below HB3.out) s6).mono ?_
  rintro e w5 ⟨v, rfl, o4, hb⟩
  obtain ⟨⟨a4, n4, c4⟩, rfl, -⟩ := o4.at (by omega)
  dsimp only [Sl.v] at o4
  have hle := hb.size
  simp only [World.size_setCell] at hle
  have P4 : BlkAt w5 w.heap.size #[.int .i64 id, .string name, .int .i64 count, .int .i64 pivot, .int .i64 begun, .int .i64 at_, .slice a1 n1 c1, .int .i64 phase, .int .i64 next, .bool flight, .int .i64 tries, .slice a2 n2 c2, .slice a3 n3 c3, .int .i64 fs, .int .i64 fc, .slice fa fl fcap] 40 := BlkAt.below (by simpa using HP3.out.set (i := 12) (.slice a3 n3 c3)) hb (by simp only [World.size_setCell]; omega)
  clear q0 q1 q2 q3 q4 q5 q6 q7 q8 q9 q10 q11 q12 q13 q14 q15 qf
  have y0 := P4.cell 0
  have y1 := P4.cell 1
  have y2 := P4.cell 2
  have y3 := P4.cell 3
  have y4 := P4.cell 4
  have y5 := P4.cell 5
  have y6 := P4.cell 6
  have y7 := P4.cell 7
  have y8 := P4.cell 8
  have y9 := P4.cell 9
  have y10 := P4.cell 10
  have y11 := P4.cell 11
  have y12 := P4.cell 12
  have y13 := P4.cell 13
  have y14 := P4.cell 14
  have y15 := P4.cell 15
  simp only [List.getElem?_toArray, List.getElem?_cons_zero, List.getElem?_cons_succ] at y0 y1 y2 y3 y4 y5 y6 y7 y8 y9 y10 y11 y12 y13 y14 y15
  have yf := P4.frozen
  have HP4 := Lib.hid P4
  have HZ4 : Hid (BlkAt w5 (w.heap.size + 1) _ 40) := Lib.hid ((HZ3.out.other (a := ⟨w.heap.size, 12, none⟩) (by simp only; omega) (.slice a3 n3 c3)).below hb (by simp only [World.size_setCell]; omega))
  have HB4 := Lib.hid (then_ HB3.out hb)
  have HO1' := Lib.hid ((OwnBytes.set (a := ⟨w.heap.size, 12, none⟩) (u := .slice a3 n3 c3) HO1.out (by simp only; omega)).through hb)
  clear HO1
  have HO1 := HO1'
  clear HO1'
  have HO2' := Lib.hid ((OwnLists.set (a := ⟨w.heap.size, 12, none⟩) (u := .slice a3 n3 c3) HO2.out (by simp only; omega)).through hb)
  clear HO2
  have HO2 := HO2'
  clear HO2'
  have HO3' := Lib.hid ((OwnLists.set (a := ⟨w.heap.size, 12, none⟩) (u := .slice a3 n3 c3) HO3.out (by simp only; omega)).through hb)
  clear HO3
  have HO3 := HO3'
  clear HO3'
  have HO4 := Lib.hid (o4.lower (base := w.heap.size + 2) (by simp only [World.size_setCell]; omega))
  have hsz' : w.heap.size + 2 ≤ w5.heap.size := by omega
  clear hsz hle
  have hsz := hsz'
  clear hsz'
  clear o4 hb P4 HP3 HZ3 HB3
  have ZZ := HZ4.out
  have z0 := ZZ.cell 0
  have z1 := ZZ.cell 1
  have z2 := ZZ.cell 2
  have z3 := ZZ.cell 3
  have z4 := ZZ.cell 4
  have z5 := ZZ.cell 5
  have z6 := ZZ.cell 6
  have z7 := ZZ.cell 7
  have z8 := ZZ.cell 8
  have z9 := ZZ.cell 9
  have z10 := ZZ.cell 10
  have z11 := ZZ.cell 11
  have z12 := ZZ.cell 12
  have z13 := ZZ.cell 13
  have z14 := ZZ.cell 14
  have z15 := ZZ.cell 15
  simp only [List.getElem?_toArray, List.getElem?_cons_zero, List.getElem?_cons_succ] at z0 z1 z2 z3 z4 z5 z6 z7 z8 z9 z10 z11 z12 z13 z14 z15
  have zf := ZZ.frozen
  clear ZZ
  go_wp2
  refine bodyPost_ret (v := .agg #[.int .i64 id, .string name, .int .i64 count, .int .i64 pivot, .int .i64 begun, .int .i64 at_, .slice a1 n1 c1, .int .i64 phase, .int .i64 next, .bool flight, .int .i64 tries, .slice a2 n2 c2, .slice a3 n3 c3, .int .i64 fs, .int .i64 fc, .slice a4 n4 c4]) (by simp [results, Tryd.results40, go_sem, *]) rfl ⟨⟨id, name, count, pivot, begun, at_, ⟨a1, n1, c1⟩, phase, next, flight, tries, ⟨a2, n2, c2⟩, ⟨a3, n3, c3⟩, fs, fc, ⟨a4, n4, c4⟩⟩, rfl, rfl, ⟨?_, ?_, ?_, ?_, ?_⟩, ?_⟩
  · refine OwnBytes.lower (b := w.heap.size + 2) ?_ (by omega)
    repeat (refine OwnBytes.set ?_ (by simp only; omega))
    exact HO1.out
  · refine OwnLists.lower (b := w.heap.size + 2) ?_ (by omega)
    repeat (refine OwnLists.set ?_ (by simp only; omega))
    exact HO2.out
  · refine OwnLists.lower (b := w.heap.size + 2) ?_ (by omega)
    repeat (refine OwnLists.set ?_ (by simp only; omega))
    exact HO3.out
  · refine OwnBytes.lower (b := w.heap.size + 2) ?_ (by omega)
    repeat (refine OwnBytes.set ?_ (by simp only; omega))
    exact HO4.out
  · exact lists_apart L2.out L3.out (by simp only [World.size_setCell]; omega)
  · repeat (refine Below.set ?_ (by simp only; omega))
    exact HB4.out
end Go.Proofs.YtfbaliimjmimhaaDoor
