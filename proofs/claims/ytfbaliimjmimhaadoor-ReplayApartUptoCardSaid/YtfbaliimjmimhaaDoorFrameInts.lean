/-
  How a list of numbers that is handed in is read. Conditions: none.
-/
import Derived.Test.YtfbaliimjmimhaaDoorFrameRep
namespace Go.Proofs.YtfbaliimjmimhaaDoor
open Go.ChangeShapes Go.WideShapes Go.ChangeAt Go.RowKit Go.Deep

section
variable {H : Type} {enc : TypeId × Value → H} {w : World}
set_option maxRecDepth 100000 in
theorem open_ints_cap {r : Reach} {b0 : Nat} {v : Value} {d : DataW H} {p : List MemPlace} (hv : Value.okWide Tryd.prog w r b0 34 v) (h : DataW.Trod enc Tryd.prog w 0 (fun _ => true) true 34 v d p) :
    ∃ (s : Sl) (l : List Int), v = s.v ∧ IntsAt w s l := by
  obtain ⟨a, len, cap, rfl⟩ := okWide_slice Tryd.underlying34 hv
  obtain ⟨fuel, hf⟩ := h
  have hc : Tryd.prog.cellsOf 3 = 1 := by kernel_rfl
  rcases open_ints Tryd.underlying34 Tryd.underlying3 hc hf with ⟨e1, _⟩ | ⟨x, len', cap', zs, e1, _, h1, h2, h3, e2, h4, h5⟩
  · simp [Value.cells] at e1
    obtain ⟨rfl, rfl, rfl⟩ := e1
    exact ⟨⟨none, 0, 0⟩, [], rfl, RowAt.nil _ _ _ (fun _ => rfl)⟩
  · simp [Value.cells] at e1
    obtain ⟨rfl, rfl, rfl⟩ := e1
    simp at h3
    simp only [Prod.mk.injEq] at e2
    obtain ⟨rfl, _⟩ := e2
    refine ⟨⟨some x, len, _⟩, zs.take len, rfl, ?_, ⟨?_, fun h => by cases h⟩, fun h0 => ?_⟩
    · simp; omega
    · simp only; unfold maxLen at h2; omega
    · simp only at h0
      have c0 := h4 0 (by omega)
      have ea : x = ⟨x.block, x.off, none⟩ := addr_at (by simpa [Addr.add] using c0)
      refine ⟨x.block, x.off, congrArg some ea, fun i hi => ?_⟩
      simp only at hi
      have ci := h4 i (by omega)
      have e' : x.add i = ⟨x.block, x.off + i, none⟩ := by rw [ea]; exact addr_add' _ _ _
      rw [e'] at ci
      rw [ci]
      simp [hi, List.getD, show i < zs.length by omega]
end
end Go.Proofs.YtfbaliimjmimhaaDoor
