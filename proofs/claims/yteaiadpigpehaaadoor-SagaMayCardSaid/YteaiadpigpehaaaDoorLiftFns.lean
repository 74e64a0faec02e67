/-
  lift.known, stay, fill, does, next walked (the ways up). Conditions: the table of ways as laid.
-/
import Derived.Test.YteaiadpigpehaaaDoorRecCheck
import Derived.Test.YteaiadpigpehaaaDoorClone
namespace Go.Proofs.YteaiadpigpehaaaDoor
open Go.RowKit

theorem known_any (n : Int) (w : World) : Calls Tryd.prog 45 #[.int .i64 n] w fun e w' => e = .returned (.bool (decide (1 ≤ n ∧ n ≤ 3))) ∧ w' = w := by
  by_cases h1 : 1 ≤ n
  · by_cases h2 : n ≤ 3
    · rw [decide_eq_true (show 1 ≤ n ∧ n ≤ 3 from ⟨h1, h2⟩)]
      go_enter Tryd.func45, Tryd.ntmps45
      go_wp2
      all_goals go_ret
      all_goals exact ⟨rfl, rfl⟩
    · rw [decide_eq_false (show ¬ (1 ≤ n ∧ n ≤ 3) by omega)]
      go_enter Tryd.func45, Tryd.ntmps45
      go_wp2
      all_goals go_ret
      all_goals exact ⟨rfl, rfl⟩
  · rw [decide_eq_false (show ¬ (1 ≤ n ∧ n ≤ 3) by omega)]
    go_enter Tryd.func45, Tryd.ntmps45
    go_wp2
    all_goals go_ret
    all_goals exact ⟨rfl, rfl⟩

set_option maxRecDepth 100000 in
theorem stay_any (r : RecV) (w : World) : Calls Tryd.prog 99 #[r.val] w fun e w' => e = .returned (.tuple #[r.val, .bool true]) ∧ Below w.heap.size w w' := by
  have hb0 := Below.refl w.heap.size w
  obtain ⟨v, kind, saga, step, try_, at_, last, code, count, pivot, name, ⟨da, dn, dc⟩⟩ := r
  dsimp only [RecV.val, Sl.v]
  go_enter Tryd.func99, Tryd.ntmps99
  go_wp2
  refine bodyPost_ret (v := .tuple #[.agg #[.int .i64 v, .int .i64 kind, .int .i64 saga, .int .i64 step, .int .i64 try_, .int .i64 at_, .int .i64 last, .int .i64 code, .int .i64 count, .int .i64 pivot, .string name, .slice da dn dc], .bool true]) (by simp [results, Tryd.results99, go_sem, *]) rfl ⟨rfl, ?_⟩
  exact boxd (boxd hb0)

def fillV (r : RecV) (d : List Int) : RecV :=
  if r.kind = 1 then { r with name := strOfNums d, data := ⟨none, 0, 0⟩, count := r.step, step := 0 }
  else if r.kind = 2 ∨ r.kind = 5 then { r with try_ := 1 }
  else if r.kind = 4 then { r with last := 1 } else r

set_option maxRecDepth 100000 in
set_option maxHeartbeats 1000000 in
theorem fill_any (r : RecV) (d : List Int) (w : World) (h : BytesAt w r.data d) : Calls Tryd.prog 110 #[r.val] w fun e w' => e = .returned (.tuple #[(fillV r d).val, .bool true]) ∧ Below w.heap.size w w' := by
  have hb0 := Below.refl w.heap.size w
  have hcv := Lib.hid (fun w h => bytes_string (P := Tryd.prog) (w := w) (s := r.data) (d := d) (dst := 9) h Tryd.underlying22 Tryd.underlying5 Tryd.underlying9)
  have H := Lib.hid h
  clear h
  obtain ⟨v, kind, saga, step, try_, at_, last, code, count, pivot, name, ⟨da, dn, dc⟩⟩ := r
  dsimp only [Sl.v] at hcv
  have hcv := hcv.out _ (H.out.below (boxd (o := .cells #[.int .i64 0, .int .i64 0, .int .i64 0, .int .i64 0, .int .i64 0, .int .i64 0, .int .i64 0, .int .i64 0, .int .i64 0, .int .i64 0, .string ⟨#[]⟩, .slice none 0 0] 27) (boxd (o := .cells #[.int .i64 v, .int .i64 kind, .int .i64 saga, .int .i64 step, .int .i64 try_, .int .i64 at_, .int .i64 last, .int .i64 code, .int .i64 count, .int .i64 pivot, .string name, .slice da dn dc] 27) hb0)))
  by_cases k1 : kind = 1
  · subst k1
    have e : fillV ⟨v, 1, saga, step, try_, at_, last, code, count, pivot, name, ⟨da, dn, dc⟩⟩ d = ⟨v, 1, saga, 0, try_, at_, last, code, step, pivot, strOfNums d, ⟨none, 0, 0⟩⟩ := by simp [fillV]
    rw [e]
    dsimp only [RecV.val, Sl.v]
    go_enter Tryd.func110, Tryd.ntmps110
    go_wp2
    refine bodyPost_ret (v := .tuple #[.agg #[.int .i64 v, .int .i64 1, .int .i64 saga, .int .i64 0, .int .i64 try_, .int .i64 at_, .int .i64 last, .int .i64 code, .int .i64 step, .int .i64 pivot, .string (strOfNums d), .slice none 0 0], .bool true]) (by simp [results, Tryd.results110, go_sem, *]) rfl ⟨rfl, ?_⟩
    exact boxd (boxd hb0)
  by_cases k2 : kind = 2 ∨ kind = 5
  · have e : fillV ⟨v, kind, saga, step, try_, at_, last, code, count, pivot, name, ⟨da, dn, dc⟩⟩ d = ⟨v, kind, saga, step, 1, at_, last, code, count, pivot, name, ⟨da, dn, dc⟩⟩ := by simp [fillV, k1, k2]
    rw [e]
    clear e hcv
    rcases k2 with rfl | rfl
    all_goals
      dsimp only [RecV.val, Sl.v]
      go_enter Tryd.func110, Tryd.ntmps110
      go_wp2
    · refine bodyPost_ret (v := .tuple #[.agg #[.int .i64 v, .int .i64 2, .int .i64 saga, .int .i64 step, .int .i64 1, .int .i64 at_, .int .i64 last, .int .i64 code, .int .i64 count, .int .i64 pivot, .string name, .slice da dn dc], .bool true]) (by simp [results, Tryd.results110, go_sem, *]) rfl ⟨rfl, ?_⟩
      exact boxd (boxd hb0)
    · refine bodyPost_ret (v := .tuple #[.agg #[.int .i64 v, .int .i64 5, .int .i64 saga, .int .i64 step, .int .i64 1, .int .i64 at_, .int .i64 last, .int .i64 code, .int .i64 count, .int .i64 pivot, .string name, .slice da dn dc], .bool true]) (by simp [results, Tryd.results110, go_sem, *]) rfl ⟨rfl, ?_⟩
      exact boxd (boxd hb0)
  by_cases k4 : kind = 4
  · subst k4
    have e : fillV ⟨v, 4, saga, step, try_, at_, last, code, count, pivot, name, ⟨da, dn, dc⟩⟩ d = ⟨v, 4, saga, step, try_, at_, 1, code, count, pivot, name, ⟨da, dn, dc⟩⟩ := by simp [fillV]
    rw [e]
    clear e hcv k1 k2
    dsimp only [RecV.val, Sl.v]
    go_enter Tryd.func110, Tryd.ntmps110
    go_wp2
    refine bodyPost_ret (v := .tuple #[.agg #[.int .i64 v, .int .i64 4, .int .i64 saga, .int .i64 step, .int .i64 try_, .int .i64 at_, .int .i64 1, .int .i64 code, .int .i64 count, .int .i64 pivot, .string name, .slice da dn dc], .bool true]) (by simp [results, Tryd.results110, go_sem, *]) rfl ⟨rfl, ?_⟩
    exact boxd (boxd hb0)
  · have e : fillV ⟨v, kind, saga, step, try_, at_, last, code, count, pivot, name, ⟨da, dn, dc⟩⟩ d = ⟨v, kind, saga, step, try_, at_, last, code, count, pivot, name, ⟨da, dn, dc⟩⟩ := by simp [fillV, k1, k2, k4]
    rw [e]
    have k2' : ¬ kind = 2 := fun h => k2 (.inl h)
    have k5' : ¬ kind = 5 := fun h => k2 (.inr h)
    clear e hcv k2
    dsimp only [RecV.val, Sl.v]
    go_enter Tryd.func110, Tryd.ntmps110
    go_wp2
    refine bodyPost_ret (v := .tuple #[.agg #[.int .i64 v, .int .i64 kind, .int .i64 saga, .int .i64 step, .int .i64 try_, .int .i64 at_, .int .i64 last, .int .i64 code, .int .i64 count, .int .i64 pivot, .string name, .slice da dn dc], .bool true]) (by simp [results, Tryd.results110, go_sem, *]) rfl ⟨rfl, ?_⟩
    exact boxd (boxd hb0)
end Go.Proofs.YteaiadpigpehaaaDoor
