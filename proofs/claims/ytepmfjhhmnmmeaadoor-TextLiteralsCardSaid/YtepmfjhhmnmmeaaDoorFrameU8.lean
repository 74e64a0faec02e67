/-
  The tables of unicode/utf8 out of a row's list. Conditions: none.
-/
import Derived.Test.YtepmfjhhmnmmeaaDoorFrame
import Derived.Test.YtepmfjhhmnmmeaaDoorTextFns
namespace Go.Proofs.YtepmfjhhmnmmeaaDoor
open Go.RowKit
theorem u8Extra : U8Extra Tryd.prog Tryd.lays260_ren := { n3 := by kernel_rfl, n4 := by kernel_rfl, y3 := by kernel_rfl, y4 := by kernel_rfl, c5 := by kernel_rfl, c119 := by kernel_rfl, c138 := by kernel_rfl }
theorem first_data : Rows.laid_unicode_utf8_first = Lib.firstData := by kernel_rfl
theorem accept_data : Rows.laid_unicode_utf8_acceptRanges = Lib.acceptData := by kernel_rfl
def acceptTab : List (Int × Int) := (List.range 16).map fun i => ((Lib.accLo i : Int), (Lib.accHi i : Int))
theorem u8_tables {W : World} {l : List (String × DataW Unit)} (h : laidMet Tryd.prog l W) (hL : ("unicode/utf8.first", Rows.laid_unicode_utf8_first) ∈ l) (hR : ("unicode/utf8.acceptRanges", Rows.laid_unicode_utf8_acceptRanges) ∈ l) : U8 W :=
  utf8Tabs_of_reads Tryd.lays260 u8Extra (Lib.laidMet.reads h (first_data ▸ hL)) (Lib.laidMet.reads h (accept_data ▸ hR))
end Go.Proofs.YtepmfjhhmnmmeaaDoor
