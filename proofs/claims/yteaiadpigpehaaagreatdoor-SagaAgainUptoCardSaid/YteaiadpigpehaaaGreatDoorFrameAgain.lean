/-
  How a saga, a record and a list of changes are read, where what is read is of bulk at most 2^20. Conditions: none. (Printed by wip/gen_frameagain.py.)
-/
import Derived.Test.YteaiadpigpehaaaGreatDoorFrameSm
import Derived.Test.YteaiadpigpehaaaGreatDoorPkAgain
namespace Go.Proofs.YteaiadpigpehaaaGreatDoor
open Go.ChangeShapes Go.WideShapes Go.ChangeAt Go.RowKit Go.Deep

theorem list3 {α : Type} {cs : List α} (h : cs.length = 3) : ∃ a b c, cs = [a, b, c] := by
  match cs, h with
  | [a, b, c], _ => exact ⟨a, b, c, rfl⟩
section
variable {H : Type} {enc : TypeId × Value → H} {w : World}
theorem SagaSm.ag {D : SagaD} (h : SagaSm D) : AgD D := ⟨h.name, h.next.2, h.failStep.2, h.begun.2, h.at_.2, h.small⟩
theorem RecSm.ag {R : RecD} (h : RecSm R) : AgR R := ⟨h.name, h.data⟩
set_option maxRecDepth 100000 in
theorem open_rec_sm {r : Reach} {b0 : Nat} {v : Value} {d : DataW H} {p : List MemPlace} (hv : Value.okWide Tryz.prog w r b0 31 v) (h : DataW.Trod enc Tryz.prog w 0 (fun _ => true) true 31 v d p) (hL : Lite d) :
    ∃ (r : RecV) (R : RecD), v = r.val ∧ RecRd w r R ∧ RecSm R := by
  obtain ⟨cs, rfl, hsz⟩ := okWide_struct Tryz.underlying31 hv
  obtain ⟨fuel, hf⟩ := h
  obtain ⟨r, R, e, h1, h2⟩ := open_rec_b (y := (d, p)) hf hL
  exact ⟨r, R, congrArg Value.agg (Array.ext' (show cs.toList = _ from e)), h1, h2⟩
set_option maxRecDepth 100000 in
theorem open_saga_sm {r : Reach} {b0 : Nat} {v : Value} {d : DataW H} {p : List MemPlace} (hv : Value.okWide Tryz.prog w r b0 29 v) (h : DataW.Trod enc Tryz.prog w 0 (fun _ => true) true 29 v d p) (hL : Lite d) :
    ∃ (s : SagaV) (D : SagaD), v = s.val ∧ SagaRd w s D ∧ SagaSm D := by
  obtain ⟨cs, rfl, hsz⟩ := okWide_struct Tryz.underlying29 hv
  obtain ⟨fuel, hf⟩ := h
  obtain ⟨r, R, e, h1, h2⟩ := open_saga_b (y := (d, p)) hf hL
  exact ⟨r, R, congrArg Value.agg (Array.ext' (show cs.toList = _ from e)), h1, h2⟩
theorem open_turn {n : Nat} {cs : List Value} {y : DataW H × List MemPlace} (h : RD enc Tryz.prog w n 42 cs = some y) (hL : Lite y.1) : ∃ t : Int × Int × Int, cs = (turnArr t.1 t.2.1 t.2.2).toList ∧ I64 t.2.1 := by
  obtain ⟨hl, m, hf⟩ := open_fields_b Tryz.underlying42 (by kernel_rfl) h hL
  obtain ⟨c0, c1, c2, rfl⟩ := list3 (hl.trans (by kernel_rfl))
  obtain ⟨y0, r0, _⟩ := hf 0 _ c0 rfl rfl
  obtain ⟨x0, rfl, b0⟩ := open_i64 Tryz.underlying3 r0
  obtain ⟨y1, r1, _⟩ := hf 1 _ c1 rfl rfl
  obtain ⟨x1, rfl, b1⟩ := open_i64 Tryz.underlying3 r1
  obtain ⟨y2, r2, _⟩ := hf 2 _ c2 rfl rfl
  obtain ⟨x2, rfl, b2⟩ := open_i64 Tryz.underlying3 r2
  exact ⟨(x0, x1, x2), rfl, b1⟩
theorem turns_of {n : Nat} {p : Nat → Int × Int × Int → Prop} (h : ∀ i, i < n → ∃ t, p i t) : ∃ Ts : List (Int × Int × Int), Ts.length = n ∧ ∀ i (hi : i < Ts.length), p i Ts[i] := by
  induction n with
  | zero => exact ⟨[], rfl, fun i h => by simp at h⟩
  | succ n ih =>
    obtain ⟨Ts, h1, h2⟩ := ih (fun i hi => h i (by omega))
    obtain ⟨t, ht⟩ := h n (by omega)
    refine ⟨Ts ++ [t], by simp [h1], fun i hi => ?_⟩
    by_cases k : i < Ts.length
    · rw [List.getElem_append_left k]; exact h2 i k
    · have : i = Ts.length := by simp at hi; omega
      subst this
      rw [List.getElem_append_right (by omega)]
      simpa [h1] using ht
set_option maxRecDepth 100000 in
theorem open_turns_sm {r : Reach} {b0 : Nat} {v : Value} {d : DataW H} {p : List MemPlace} (hv : Value.okWide Tryz.prog w r b0 32 v) (h : DataW.Trod enc Tryz.prog w 0 (fun _ => true) true 32 v d p) (hL : Lite d) :
    ∃ (s : Sl) (Ts : List (Int × Int × Int)), v = s.v ∧ TurnsAt w s Ts ∧ Ts.length ≤ 1048576 ∧ ∀ t ∈ Ts, -9223372036854775808 ≤ t.2.1 ∧ t.2.1 ≤ 9223372036854775807 := by
  obtain ⟨a, len, cap, rfl⟩ := okWide_slice Tryz.underlying32 hv
  obtain ⟨fuel, hf⟩ := h
  have hc : Tryz.prog.cellsOf 42 = 3 := by kernel_rfl
  rcases open_slice Tryz.underlying32 hf with ⟨e1, e2⟩ | ⟨x, len', cap', m, n', V, Pl, e1, _, h1, h2, h3, e2, h4⟩
  · simp [Value.cells] at e1
    obtain ⟨rfl, rfl, rfl⟩ := e1
    exact ⟨⟨none, 0, 0⟩, [], rfl, ⟨rfl, ⟨by simp, fun _ => rfl⟩, fun h => by simp at h⟩, by simp, by simp⟩
  · simp [Value.cells] at e1
    obtain ⟨rfl, rfl, rfl⟩ := e1
    simp only [if_true] at h3
    subst h3
    simp only [Prod.mk.injEq] at e2
    obtain ⟨rfl, _⟩ := e2
    obtain ⟨Ts, hT, hp⟩ := turns_of (n := len) (p := fun i t => w.cells? 0 (x.add (i * 3)) 3 = some (turnArr t.1 t.2.1 t.2.2).toList ∧ I64 t.2.1) (fun i hi => by
      obtain ⟨cs, k1, k2⟩ := h4 i (by omega)
      rw [hc] at k1
      obtain ⟨t, e, hb⟩ := open_turn k2 (lite_elem hL (List.mem_map.2 ⟨i, List.mem_range.2 hi, rfl⟩))
      exact ⟨t, by rw [k1, e], hb⟩)
    refine ⟨⟨some x, len, _⟩, Ts, rfl, ⟨hT.symm, ⟨?_, fun h => by cases h⟩, fun h0 => ?_⟩, ?_, fun t ht => ?_⟩
    · simp only; unfold maxLen at h2; omega
    · simp only at h0
      obtain ⟨k1, _⟩ := hp 0 (by omega)
      have c0' : w.cell? x = some (.int .i64 (Ts[0]'(by omega)).1) := by
        obtain ⟨hb, hl, hi⟩ := World.cells?_some k1
        have := hi 0 (by omega)
        simpa [Addr.add, turnArr] using this
      have ea : x = ⟨x.block, x.off, none⟩ := addr_at c0'
      refine ⟨x.block, x.off, congrArg some ea, fun i hi j hj => ?_⟩
      obtain ⟨k1, _⟩ := hp i hi
      have := (World.cells?_some k1).2.2 j hj
      rw [ea, addr_add', addr_add'] at this
      rw [this, Array.getElem?_toList]
    · have := lite_len hL
      rw [List.length_map, List.length_range] at this
      omega
    · obtain ⟨i, hi, rfl⟩ := List.getElem_of_mem ht
      exact (hp i hi).2
end
end Go.Proofs.YteaiadpigpehaaaGreatDoor
