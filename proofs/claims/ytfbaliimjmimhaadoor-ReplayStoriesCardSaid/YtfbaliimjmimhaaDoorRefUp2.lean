/-
  annalsref4.Up walked to version 3 and annalsref10.third: a valid record as one of version 3. Conditions: the tables that annalsref3.Check reads, as laid; a name of at most 2^40 bytes. (Printed by wip/gen_refup2.py.)
-/
import Derived.Test.YtfbaliimjmimhaaDoorRefUp
namespace Go.Proofs.YtfbaliimjmimhaaDoor
open Go.RowKit

theorem up3_else {R : RecD} (h : ¬ R.v = 1) : up3 R = { R with v := 3 } := by
  unfold up3
  rw [if_neg h]
end Go.Proofs.YtfbaliimjmimhaaDoor
