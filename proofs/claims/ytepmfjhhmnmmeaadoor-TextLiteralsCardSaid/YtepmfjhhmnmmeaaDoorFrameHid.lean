/-
  The reference's table of hidden runes out of a row's list. Conditions: none.
-/
import Derived.Test.YtepmfjhhmnmmeaaDoorFrame
import Derived.Test.YtepmfjhhmnmmeaaDoorRefHex
namespace Go.Proofs.YtepmfjhhmnmmeaaDoor
open Go.RowKit
theorem gHid : Tryd.prog.globalNamed "annals/annalsref2.hidden" = some 2 := by kernel_rfl
theorem tHid : (Tryd.prog.globals[2]?).map (·.type) = some 110 := by kernel_rfl
theorem cPairH : Tryd.prog.cellsOf 73 = 2 := by kernel_rfl
theorem cIntH : Tryd.prog.cellsOf 3 = 1 := by kernel_rfl
set_option maxRecDepth 100000 in
theorem dHid : Rows.laid_annals_annalsref2_hidden = pairsData .i64 hidTab := by kernel_rfl
theorem hid_table {W : World} {l : List (String × DataW Unit)} (h : laidMet Tryd.prog l W) (hL : ("annals/annalsref2.hidden", Rows.laid_annals_annalsref2_hidden) ∈ l) : RefHid W :=
  pairsAt_arrays gHid tHid Tryd.underlying110 Tryd.underlying73 Tryd.underlying3 cIntH cPairH (Lib.laidMet.reads h (dHid ▸ hL))
end Go.Proofs.YtepmfjhhmnmmeaaDoor
