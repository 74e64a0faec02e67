/-
  annalsref3.Same of two records that hold the same, walked: it answers true. Conditions: none.
-/
import Derived.Test.YtfbaliimjmimhaaDoorReg2
import Derived.Test.YtfbaliimjmimhaaDoorPkLaw
import Derived.Deep.DeepCutAuto
namespace Go.Proofs.YtfbaliimjmimhaaDoor
open Go.RowKit

def numV (r : RecV) (t : Int) : Int := if t = 1 then r.kind else if t = 2 then r.saga else if t = 3 then r.step else if t = 4 then r.try_ else if t = 5 then r.at_ else if t = 6 then r.last else if t = 7 then r.code else if t = 8 then r.count else r.pivot
theorem numV_words (R : RecD) (s u : Sl) (t : Int) : numV (R.words s) t = numV (R.words u) t := rfl
/-- Two records' boxes. -/
structure Boxes2 (w wr : World) (g0 g1 : Nat) (a b : RecV) : Prop where
  b0 : BlkAt wr g0 (recArr a) 44
  b1 : BlkAt wr g1 (recArr b) 44
  below : Below w.heap.size w wr
theorem Boxes2.bl {w wr w' : World} {g0 g1 : Nat} {a b : RecV} (h : Boxes2 w wr g0 g1 a b) (hb : Below wr.heap.size wr w') : Boxes2 w w' g0 g1 a b := ⟨h.b0.below hb (blk_lt h.b0), h.b1.below hb (blk_lt h.b1), then_ h.below hb⟩
end Go.Proofs.YtfbaliimjmimhaaDoor
