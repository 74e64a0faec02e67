/-
  How a list of records that is handed in is read, its room told. Conditions: none.
-/
import Derived.Test.YtfbaliimjmimhaaDoorFrameRecs
import Derived.Test.YtfbaliimjmimhaaDoorFoldUse
namespace Go.Proofs.YtfbaliimjmimhaaDoor
open Go.ChangeShapes Go.WideShapes Go.ChangeAt Go.RowKit Go.Deep

section
variable {H : Type} {enc : TypeId × Value → H} {w : World}
set_option maxRecDepth 100000 in
theorem open_recs_cap {r : Reach} {b0 : Nat} {v : Value} {d : DataW H} {p : List MemPlace} (hv : Value.okWide Tryd.prog w r b0 22 v) (h : DataW.Trod enc Tryd.prog w 0 (fun _ => true) true 22 v d p) (hL : Light Tryd.prog 22 d) :
    ∃ (s : Sl) (Rs : List RecD), v = s.v ∧ RecsAt w s Rs ∧ (∀ R ∈ Rs, RecNums R) ∧ Rs.length ≤ 140737488351232 ∧ s.n ≤ s.c := by
  obtain ⟨a, len, cap, rfl⟩ := okWide_slice Tryd.underlying22 hv
  obtain ⟨fuel, hf⟩ := h
  have hc : Tryd.prog.cellsOf 44 = 12 := by kernel_rfl
  have hy : Tryd.prog.bytesOf 44 = 120 := by kernel_rfl
  rcases open_slice Tryd.underlying22 hf with ⟨e1, e2⟩ | ⟨x, len', cap', m, n', V, Pl, e1, _, h1, h2, h3, e2, h4⟩
  · simp [Value.cells] at e1
    obtain ⟨rfl, rfl, rfl⟩ := e1
    exact ⟨⟨none, 0, 0⟩, [], rfl, ⟨[], rfl, rfl, ⟨by simp, fun _ => rfl⟩, fun h => by simp at h, fun i h => by simp at h⟩, by simp, by simp, by simp⟩
  · simp [Value.cells] at e1
    obtain ⟨rfl, rfl, rfl⟩ := e1
    simp only [if_true] at h3
    subst h3
    simp only [Prod.mk.injEq] at e2
    obtain ⟨rfl, _⟩ := e2
    obtain ⟨C, hC⟩ := choose_lt (p := fun i (cs : List Value) => w.cells? 0 (x.add (i * 12)) 12 = some cs ∧ ∃ r R, cs = RecV.cells r ∧ RecRd w r R ∧ RecNums R) (n := len) (fun i hi => by
      obtain ⟨cs, k1, k2⟩ := h4 i (by omega)
      rw [hc] at k1
      obtain ⟨r, R, e, q1, q2⟩ := open_rec k2 (light_elem Tryd.underlying22 hL (List.mem_map.2 ⟨i, List.mem_range.2 hi, rfl⟩))
      exact ⟨cs, k1, r, R, e, q1, q2⟩)
    obtain ⟨rs, Rs, l1, l2, l3, l4⟩ := recs_of (n := len) (V := C) (Q := fun r R => RecRd w r R ∧ RecNums R) (fun i hi => by
      obtain ⟨_, r, R, e, q1, q2⟩ := hC i hi
      exact ⟨r, R, e, q1, q2⟩)
    refine ⟨⟨some x, len, _⟩, Rs, rfl, ⟨rs, l1.symm, by omega, ⟨?_, fun h => by cases h⟩, fun h0 => ?_, fun i a b => (l4 i a b).1⟩, fun R hR => ?_, ?_, by simpa using h1⟩
    · simp only; unfold maxLen at h2; omega
    · simp only at h0
      obtain ⟨k1, _⟩ := hC 0 h0
      have c0' : ∃ u, w.cell? x = some u := by
        obtain ⟨hb, hl, hi⟩ := World.cells?_some k1
        have := hi 0 (by omega)
        simp [Addr.add] at this
        exact ⟨_, this.trans (List.getElem?_eq_getElem (by omega))⟩
      obtain ⟨u, hu⟩ := c0'
      have ea : x = ⟨x.block, x.off, none⟩ := addr_at hu
      refine ⟨x.block, x.off, congrArg some ea, fun i hi j hj => ?_⟩
      obtain ⟨k1, _⟩ := hC i (by omega)
      have := (World.cells?_some k1).2.2 j hj
      rw [ea, addr_add', addr_add'] at this
      rw [this, l3 i hi]
    · obtain ⟨i, hi, rfl⟩ := List.getElem_of_mem hR
      exact (l4 i (by omega) hi).2
    · have := light_len Tryd.underlying22 hL
      rw [hy] at this
      simp at this
      omega
end
theorem wf_i64 {n : Int} (h : I64 n) : (Lit.int .i64 n).wf = true := by
  show (decide (IntKind.min .i64 ≤ n) && decide (n ≤ IntKind.max .i64)) = true
  rw [Bool.and_eq_true, decide_eq_true_eq, decide_eq_true_eq]
  exact h
theorem RecNums.law {R : RecD} (h : RecNums R) : LawRec R := ⟨⟨h.fits, wf_i64 h.saga⟩, h.data⟩
end Go.Proofs.YtfbaliimjmimhaaDoor
