/-
  How a list of sagas that is handed in is read. Conditions: none.
-/
import Derived.Test.YtfbaliimjmimhaaDoorFrameRecs
import Derived.Test.YtfbaliimjmimhaaDoorBagAt
namespace Go.Proofs.YtfbaliimjmimhaaDoor
open Go.ChangeShapes Go.WideShapes Go.ChangeAt Go.RowKit Go.Deep

section
variable {H : Type} {enc : TypeId × Value → H} {w : World}
theorem sagas_of {n : Nat} {V : Nat → List Value} {Q : SagaV → SagaD → Prop} (h : ∀ i, i < n → ∃ (r : SagaV) (R : SagaD), V i = r.cells ∧ Q r R) :
    ∃ (rs : List SagaV) (Rs : List SagaD), rs.length = n ∧ Rs.length = n ∧ (∀ i (h1 : i < rs.length), V i = (rs[i]).cells) ∧ ∀ i (h1 : i < rs.length) (h2 : i < Rs.length), Q rs[i] Rs[i] := by
  induction n with
  | zero => exact ⟨[], [], rfl, rfl, fun i h => by simp at h, fun i h => by simp at h⟩
  | succ n ih =>
    obtain ⟨vs, ls, h1, h2, h3, h4⟩ := ih (fun i hi => h i (by omega))
    obtain ⟨s, b, e, q⟩ := h n (by omega)
    refine ⟨vs ++ [s], ls ++ [b], by simp [h1], by simp [h2], fun i hi => ?_, fun i ha hb => ?_⟩
    · by_cases k : i < vs.length
      · rw [List.getElem_append_left k]; exact h3 i k
      · have : i = vs.length := by simp at hi; omega
        subst this
        rw [List.getElem_append_right (by omega)]
        simpa [h1] using e
    · by_cases k : i < vs.length
      · rw [List.getElem_append_left k, List.getElem_append_left (by omega)]; exact h4 i k (by omega)
      · have : i = vs.length := by simp at ha; omega
        subst this
        rw [List.getElem_append_right (by omega), List.getElem_append_right (by omega)]
        simpa [h1, h2] using q
set_option maxRecDepth 100000 in
theorem open_sagas_arg {r : Reach} {b0 : Nat} {v : Value} {d : DataW H} {p : List MemPlace} (hv : Value.okWide Tryd.prog w r b0 25 v) (h : DataW.Trod enc Tryd.prog w 0 (fun _ => true) true 25 v d p) (hL : Light Tryd.prog 25 d) :
    ∃ (s : Sl) (Rs : List SagaD), v = s.v ∧ SagasAt w s Rs ∧ (∀ R ∈ Rs, SagaNums R) := by
  obtain ⟨a, len, cap, rfl⟩ := okWide_slice Tryd.underlying25 hv
  obtain ⟨fuel, hf⟩ := h
  have hc : Tryd.prog.cellsOf 40 = 16 := by kernel_rfl
  rcases open_slice Tryd.underlying25 hf with ⟨e1, e2⟩ | ⟨x, len', cap', m, n', V, Pl, e1, _, h1, h2, h3, e2, h4⟩
  · simp [Value.cells] at e1
    obtain ⟨rfl, rfl, rfl⟩ := e1
    exact ⟨⟨none, 0, 0⟩, [], rfl, ⟨[], rfl, rfl, ⟨by simp, fun _ => rfl⟩, fun h => by simp at h, fun i h => by simp at h⟩, by simp⟩
  · simp [Value.cells] at e1
    obtain ⟨rfl, rfl, rfl⟩ := e1
    simp only [if_true] at h3
    subst h3
    simp only [Prod.mk.injEq] at e2
    obtain ⟨rfl, _⟩ := e2
    obtain ⟨C, hC⟩ := choose_lt (p := fun i (cs : List Value) => w.cells? 0 (x.add (i * 16)) 16 = some cs ∧ ∃ r R, cs = SagaV.cells r ∧ SagaRd w r R ∧ SagaNums R) (n := len) (fun i hi => by
      obtain ⟨cs, k1, k2⟩ := h4 i (by omega)
      rw [hc] at k1
      obtain ⟨r, R, e, q1, q2⟩ := open_saga k2 (light_elem Tryd.underlying25 hL (List.mem_map.2 ⟨i, List.mem_range.2 hi, rfl⟩))
      exact ⟨cs, k1, r, R, e, q1, q2⟩)
    obtain ⟨rs, Rs, l1, l2, l3, l4⟩ := sagas_of (n := len) (V := C) (Q := fun r R => SagaRd w r R ∧ SagaNums R) (fun i hi => by
      obtain ⟨_, r, R, e, q1, q2⟩ := hC i hi
      exact ⟨r, R, e, q1, q2⟩)
    refine ⟨⟨some x, len, _⟩, Rs, rfl, ⟨rs, l1.symm, by omega, ⟨?_, fun h => by cases h⟩, fun h0 => ?_, fun i a b => (l4 i a b).1⟩, fun R hR => ?_⟩
    · simp only; unfold maxLen at h2; omega
    · simp only at h0
      obtain ⟨k1, _⟩ := hC 0 h0
      have c0' : ∃ u, w.cell? x = some u := by
        obtain ⟨hb, hl, hi⟩ := World.cells?_some k1
        have := hi 0 (by omega)
        simp [Addr.add] at this
        exact ⟨_, this.trans (List.getElem?_eq_getElem (by omega))⟩
      obtain ⟨u, hu⟩ := c0'
      have ea : x = ⟨x.block, x.off, none⟩ := addr_at hu
      refine ⟨x.block, x.off, congrArg some ea, fun i hi j hj => ?_⟩
      obtain ⟨k1, _⟩ := hC i (by omega)
      have := (World.cells?_some k1).2.2 j hj
      rw [ea, addr_add', addr_add'] at this
      rw [this, l3 i hi]
    · obtain ⟨i, hi, rfl⟩ := List.getElem_of_mem hR
      exact (l4 i (by omega) hi).2
end
end Go.Proofs.YtfbaliimjmimhaaDoor
