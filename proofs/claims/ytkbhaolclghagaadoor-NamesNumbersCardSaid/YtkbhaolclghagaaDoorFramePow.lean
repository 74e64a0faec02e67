/-
  strconv's table of powers of ten out of a row's list. Conditions: none.
-/
import Derived.Test.YtkbhaolclghagaaDoorFrame
import Derived.Lib.LaidTab
import Derived.Test.YtkbhaolclghagaaDoorNumbersWalk
namespace Go.Proofs.YtkbhaolclghagaaDoor
open Go.RowKit
theorem tabIs_of_reads {P : Program} {W : World} {name : String} {k : IntKind} {zs : List Int} {g : Nat} {t e : TypeId} {n : Nat}
    (hg : P.globalNamed name = some g) (hty : (P.globals[g]?).map (·.type) = some t) (ht : P.underlying t = some (.array n e)) (he : P.underlying e = some (.int k)) (hce : P.cellsOf e = 1) (hct : P.cellsOf t = n)
    (h : Lib.VarReads P W name (Lib.tabData k zs)) : Lib.TabIs P W name k zs := by
  obtain ⟨g', t', cs, fuel, p, hg', ht', hvar, hd⟩ := h
  obtain rfl := Option.some.inj (hg.symm.trans hg')
  obtain rfl := Option.some.inj (hty.symm.trans ht')
  unfold Lib.TabIs
  rw [hvar, ← Lib.cells_of_tab ht he hce hct hd]
theorem pow_data : (Rows.laid_internal_strconv_uint64pow10 : DataW Unit) = Lib.tabData .u64 Lib.pow10Tab := by kernel_rfl
theorem pow_of {W : World} {l : List (String × DataW Unit)} (h : laidMet Tryd.prog l W) (hL : ("internal/strconv.uint64pow10", Rows.laid_internal_strconv_uint64pow10) ∈ l) : namesNumbers.Pow W :=
  tabIs_of_reads (g := 0) (by kernel_rfl) (by kernel_rfl) Tryd.underlying41 Tryd.underlying33 (by kernel_rfl) (by kernel_rfl) (Lib.laidMet.reads h (pow_data ▸ hL))
end Go.Proofs.YtkbhaolclghagaaDoor
