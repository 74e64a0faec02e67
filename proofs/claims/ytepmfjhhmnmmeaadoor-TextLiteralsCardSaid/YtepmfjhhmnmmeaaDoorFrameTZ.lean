/-
  The table of math/bits out of a row's list. Conditions: none.
-/
import Derived.Test.YtepmfjhhmnmmeaaDoorFrameU8
import Derived.Test.YtepmfjhhmnmmeaaDoorHexFmt
import Derived.Lib.LaidTab
namespace Go.Proofs.YtepmfjhhmnmmeaaDoor
open Go.RowKit
theorem tabIs_of_reads {P : Program} {W : World} {name : String} {k : IntKind} {zs : List Int} {g : Nat} {t e : TypeId} {n : Nat}
    (hg : P.globalNamed name = some g) (hty : (P.globals[g]?).map (·.type) = some t) (ht : P.underlying t = some (.array n e)) (he : P.underlying e = some (.int k)) (hce : P.cellsOf e = 1) (hct : P.cellsOf t = n)
    (h : Lib.VarReads P W name (Lib.tabData k zs)) : Lib.TabIs P W name k zs := by
  obtain ⟨g', t', cs, fuel, p, hg', ht', hvar, hd⟩ := h
  obtain rfl := Option.some.inj (hg.symm.trans hg')
  obtain rfl := Option.some.inj (hty.symm.trans ht')
  unfold Lib.TabIs
  rw [hvar, ← Lib.cells_of_tab ht he hce hct hd]
def deb64 : List Int := [0, 1, 56, 2, 57, 49, 28, 3, 61, 58, 42, 50, 38, 29, 17, 4, 62, 47, 59, 36, 45, 43, 51, 22, 53, 39, 33, 30, 24, 18, 12, 5, 63, 55, 48, 27, 60, 41, 37, 16, 46, 35, 44, 21, 52, 32, 23, 11, 54, 26, 40, 15, 34, 20, 31, 10, 25, 14, 19, 9, 13, 8, 7, 6]
theorem deb_data : (Rows.laid_math_bits_deBruijn64tab : DataW Unit) = Lib.tabData .u8 deb64 := by kernel_rfl
theorem tz_of {W : World} {l : List (String × DataW Unit)} (h : laidMet Tryd.prog l W) (hL : ("math/bits.deBruijn64tab", Rows.laid_math_bits_deBruijn64tab) ∈ l) : TZ W :=
  (tabIs_of_reads (g := 8) (by kernel_rfl) (by kernel_rfl) Tryd.underlying139 Tryd.underlying5 (by kernel_rfl) (by kernel_rfl) (Lib.laidMet.reads h (deb_data ▸ hL))).cell (by kernel_rfl) 15 (by decide)
end Go.Proofs.YtepmfjhhmnmmeaaDoor
