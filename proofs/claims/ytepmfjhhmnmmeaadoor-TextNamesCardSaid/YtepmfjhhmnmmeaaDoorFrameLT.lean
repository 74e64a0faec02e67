/-
  The two tables of letters out of a row's list. Conditions: none.
-/
import Derived.Test.YtepmfjhhmnmmeaaDoorFrame
import Derived.Test.YtepmfjhhmnmmeaaDoorLetters
namespace Go.Proofs.YtepmfjhhmnmmeaaDoor
open Go.RowKit
theorem gL : Tryd.prog.globalNamed "annals/text.letters" = some 0 := by kernel_rfl
theorem gR : Tryd.prog.globalNamed "annals/annalsref2.letters" = some 1 := by kernel_rfl
theorem tL : (Tryd.prog.globals[0]?).map (·.type) = some 72 := by kernel_rfl
theorem tR : (Tryd.prog.globals[1]?).map (·.type) = some 74 := by kernel_rfl
theorem cSpan : Tryd.prog.cellsOf 71 = 2 := by kernel_rfl
theorem cPair : Tryd.prog.cellsOf 73 = 2 := by kernel_rfl
theorem cI32 : Tryd.prog.cellsOf 21 = 1 := by kernel_rfl
theorem cInt : Tryd.prog.cellsOf 3 = 1 := by kernel_rfl
set_option maxRecDepth 100000 in
theorem dL : Rows.laid_annals_text_letters = pairsData .i32 letTab := by kernel_rfl
set_option maxRecDepth 100000 in
theorem dR : Rows.laid_annals_annalsref2_letters = pairsData .i64 letTab := by kernel_rfl

theorem letter_tables {W : World} {l : List (String × DataW Unit)} (h : laidMet Tryd.prog l W) (hL : ("annals/text.letters", Rows.laid_annals_text_letters) ∈ l) (hR : ("annals/annalsref2.letters", Rows.laid_annals_annalsref2_letters) ∈ l) :
    PairsAt .i32 0 letTab W ∧ PairsAt .i64 1 letTab W :=
  ⟨pairsAt_structs gL tL Tryd.underlying72 Tryd.underlying71 rfl Tryd.underlying21 cI32 cSpan (Lib.laidMet.reads h (dL ▸ hL)),
   pairsAt_arrays gR tR Tryd.underlying74 Tryd.underlying73 Tryd.underlying3 cInt cPair (Lib.laidMet.reads h (dR ▸ hR))⟩

end Go.Proofs.YtepmfjhhmnmmeaaDoor
