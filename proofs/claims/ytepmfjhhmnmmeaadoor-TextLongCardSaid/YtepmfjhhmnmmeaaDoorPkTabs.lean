/-
  The tables of unicode/utf8 out of a row's list.
  The table of math/bits out of a row's list.
  The two tables of letters out of a row's list.
  The reference's table of hidden runes out of a row's list.
  Conditions: as each theorem says. (Joined by wip/tools/pack.py.)
-/
import Derived.Test.YtepmfjhhmnmmeaaDoorFrame
import Derived.Test.YtepmfjhhmnmmeaaDoorTextFns
import Derived.Test.YtepmfjhhmnmmeaaDoorHexFmt
import Derived.Lib.LaidTab
import Derived.Test.YtepmfjhhmnmmeaaDoorLetters
import Derived.Test.YtepmfjhhmnmmeaaDoorRefHex
namespace Go.Proofs.YtepmfjhhmnmmeaaDoor
open Go.RowKit
theorem u8Extra : U8Extra Tryd.prog Tryd.lays260_ren := { n3 := by kernel_rfl, n4 := by kernel_rfl, y3 := by kernel_rfl, y4 := by kernel_rfl, c5 := by kernel_rfl, c119 := by kernel_rfl, c138 := by kernel_rfl }
theorem first_data : Rows.laid_unicode_utf8_first = Lib.firstData := by kernel_rfl
theorem accept_data : Rows.laid_unicode_utf8_acceptRanges = Lib.acceptData := by kernel_rfl
def acceptTab : List (Int × Int) := (List.range 16).map fun i => ((Lib.accLo i : Int), (Lib.accHi i : Int))
theorem u8_tables {W : World} {l : List (String × DataW Unit)} (h : laidMet Tryd.prog l W) (hL : ("unicode/utf8.first", Rows.laid_unicode_utf8_first) ∈ l) (hR : ("unicode/utf8.acceptRanges", Rows.laid_unicode_utf8_acceptRanges) ∈ l) : U8 W :=
  utf8Tabs_of_reads Tryd.lays260 u8Extra (Lib.laidMet.reads h (first_data ▸ hL)) (Lib.laidMet.reads h (accept_data ▸ hR))
end Go.Proofs.YtepmfjhhmnmmeaaDoor
namespace Go.Proofs.YtepmfjhhmnmmeaaDoor
open Go.RowKit
theorem tabIs_of_reads {P : Program} {W : World} {name : String} {k : IntKind} {zs : List Int} {g : Nat} {t e : TypeId} {n : Nat}
    (hg : P.globalNamed name = some g) (hty : (P.globals[g]?).map (·.type) = some t) (ht : P.underlying t = some (.array n e)) (he : P.underlying e = some (.int k)) (hce : P.cellsOf e = 1) (hct : P.cellsOf t = n)
    (h : Lib.VarReads P W name (Lib.tabData k zs)) : Lib.TabIs P W name k zs := by
  obtain ⟨g', t', cs, fuel, p, hg', ht', hvar, hd⟩ := h
  obtain rfl := Option.some.inj (hg.symm.trans hg')
  obtain rfl := Option.some.inj (hty.symm.trans ht')
  unfold Lib.TabIs
  rw [hvar, ← Lib.cells_of_tab ht he hce hct hd]
def deb64 : List Int := [0, 1, 56, 2, 57, 49, 28, 3, 61, 58, 42, 50, 38, 29, 17, 4, 62, 47, 59, 36, 45, 43, 51, 22, 53, 39, 33, 30, 24, 18, 12, 5, 63, 55, 48, 27, 60, 41, 37, 16, 46, 35, 44, 21, 52, 32, 23, 11, 54, 26, 40, 15, 34, 20, 31, 10, 25, 14, 19, 9, 13, 8, 7, 6]
theorem deb_data : (Rows.laid_math_bits_deBruijn64tab : DataW Unit) = Lib.tabData .u8 deb64 := by kernel_rfl
theorem tz_of {W : World} {l : List (String × DataW Unit)} (h : laidMet Tryd.prog l W) (hL : ("math/bits.deBruijn64tab", Rows.laid_math_bits_deBruijn64tab) ∈ l) : TZ W :=
  (tabIs_of_reads (g := 8) (by kernel_rfl) (by kernel_rfl) Tryd.underlying139 Tryd.underlying5 (by kernel_rfl) (by kernel_rfl) (Lib.laidMet.reads h (deb_data ▸ hL))).cell (by kernel_rfl) 15 (by decide)
end Go.Proofs.YtepmfjhhmnmmeaaDoor
namespace Go.Proofs.YtepmfjhhmnmmeaaDoor
open Go.RowKit
theorem gL : Tryd.prog.globalNamed "annals/text.letters" = some 0 := by kernel_rfl
theorem gR : Tryd.prog.globalNamed "annals/annalsref2.letters" = some 1 := by kernel_rfl
theorem tL : (Tryd.prog.globals[0]?).map (·.type) = some 72 := by kernel_rfl
theorem tR : (Tryd.prog.globals[1]?).map (·.type) = some 74 := by kernel_rfl
theorem cSpan : Tryd.prog.cellsOf 71 = 2 := by kernel_rfl
theorem cPair : Tryd.prog.cellsOf 73 = 2 := by kernel_rfl
theorem cI32 : Tryd.prog.cellsOf 21 = 1 := by kernel_rfl
theorem cInt : Tryd.prog.cellsOf 3 = 1 := by kernel_rfl
set_option maxRecDepth 100000 in
theorem dL : Rows.laid_annals_text_letters = pairsData .i32 letTab := by kernel_rfl
set_option maxRecDepth 100000 in
theorem dR : Rows.laid_annals_annalsref2_letters = pairsData .i64 letTab := by kernel_rfl

theorem letter_tables {W : World} {l : List (String × DataW Unit)} (h : laidMet Tryd.prog l W) (hL : ("annals/text.letters", Rows.laid_annals_text_letters) ∈ l) (hR : ("annals/annalsref2.letters", Rows.laid_annals_annalsref2_letters) ∈ l) :
    PairsAt .i32 0 letTab W ∧ PairsAt .i64 1 letTab W :=
  ⟨pairsAt_structs gL tL Tryd.underlying72 Tryd.underlying71 rfl Tryd.underlying21 cI32 cSpan (Lib.laidMet.reads h (dL ▸ hL)),
   pairsAt_arrays gR tR Tryd.underlying74 Tryd.underlying73 Tryd.underlying3 cInt cPair (Lib.laidMet.reads h (dR ▸ hR))⟩

end Go.Proofs.YtepmfjhhmnmmeaaDoor
namespace Go.Proofs.YtepmfjhhmnmmeaaDoor
open Go.RowKit
theorem gHid : Tryd.prog.globalNamed "annals/annalsref2.hidden" = some 2 := by kernel_rfl
theorem tHid : (Tryd.prog.globals[2]?).map (·.type) = some 110 := by kernel_rfl
theorem cPairH : Tryd.prog.cellsOf 73 = 2 := by kernel_rfl
theorem cIntH : Tryd.prog.cellsOf 3 = 1 := by kernel_rfl
set_option maxRecDepth 100000 in
theorem dHid : Rows.laid_annals_annalsref2_hidden = pairsData .i64 hidTab := by kernel_rfl
theorem hid_table {W : World} {l : List (String × DataW Unit)} (h : laidMet Tryd.prog l W) (hL : ("annals/annalsref2.hidden", Rows.laid_annals_annalsref2_hidden) ∈ l) : RefHid W :=
  pairsAt_arrays gHid tHid Tryd.underlying110 Tryd.underlying73 Tryd.underlying3 cIntH cPairH (Lib.laidMet.reads h (dHid ▸ hL))
end Go.Proofs.YtepmfjhhmnmmeaaDoor
