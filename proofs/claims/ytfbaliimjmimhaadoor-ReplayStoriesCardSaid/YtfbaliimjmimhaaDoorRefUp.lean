/-
  annalsref4.second and Up walked, annalsref10.third: a valid record as one of version 3. Conditions: the tables that annalsref3.Check reads, as laid; texts of at most 2^40 bytes, data of at most 2^30. (Printed by wip/gen_refup.py.)
-/
import Derived.Test.YtfbaliimjmimhaaDoorRefCopy
namespace Go.Proofs.YtfbaliimjmimhaaDoor
open Go.RowKit

theorem BytesAt.kept_rows {w w' : World} {s : Sl} {d : List Int} (h : BytesAt w s d) (k : ∀ b o, s.a = some ⟨b, o, none⟩ → 0 < s.n → w'.heap[b]? = w.heap[b]?) : BytesAt w' s d := by
  refine ⟨h.1, h.2.1, fun h0 => ?_⟩
  obtain ⟨b, o, e, hc⟩ := h.2.2 h0
  refine ⟨b, o, e, fun i hi => ?_⟩
  rw [← hc i hi]
  simp only [World.cell?, k b o e h0]
/-- A record of version 1 as one of version 2. -/
def secD (R : RecD) : RecD :=
  if R.kind = 1 then { R with v := 2, name := strOfNums R.data, data := [], count := R.step, step := 0 }
  else if R.kind = 2 ∨ R.kind = 5 then { R with v := 2, try_ := 1 }
  else if R.kind = 4 then { R with v := 2, last := 1 } else { R with v := 2 }
theorem up3_sec {R : RecD} (h : R.v = 1) : up3 R = { secD R with v := 3 } := by
  unfold up3 secD
  rw [if_pos h]
  split
  · rfl
  · split
    · rfl
    · split <;> rfl

end Go.Proofs.YtfbaliimjmimhaaDoor
