/-
  The reference's tables out of a row's list. Conditions: none. (Printed by wip/gen_frameref.py.)
-/
import Derived.Test.YteaiadpigpehaaaDoorPkFrame
import Derived.Test.YteaiadpigpehaaaDoorRef3Check
namespace Go.Proofs.YteaiadpigpehaaaDoor
open Go.RowKit

theorem gR : Tryd.prog.globalNamed "annals/annalsref2.letters" = some 5 := by kernel_rfl
theorem tR : (Tryd.prog.globals[5]?).map (·.type) = some 151 := by kernel_rfl
theorem cPair : Tryd.prog.cellsOf 150 = 2 := by kernel_rfl
theorem cInt : Tryd.prog.cellsOf 3 = 1 := by kernel_rfl
set_option maxRecDepth 100000 in
theorem dR : Rows.laid_annals_annalsref2_letters = pairsData .i64 letTab := by kernel_rfl
theorem lr_of {W : World} {l : List (String × DataW Unit)} (h : laidMet Tryd.prog l W) (hR : ("annals/annalsref2.letters", Rows.laid_annals_annalsref2_letters) ∈ l) : LR W :=
  pairsAt_arrays gR tR Tryd.underlying151 Tryd.underlying150 Tryd.underlying3 cInt cPair (Lib.laidMet.reads h (dR ▸ hR))
set_option maxRecDepth 100000 in
theorem rows_of {W : World} {l : List (String × DataW Unit)} (h : laidMet Tryd.prog l W) (hL : ("annals/annalsref3.rows", Rows.laid_annals_annalsref3_rows) ∈ l) : RowsAt W := by
  obtain ⟨g', ty', cs, fuel, p, hg', hty', hvar, hd⟩ := Lib.laidMet.reads h hL
  have hg : Tryd.prog.globalNamed "annals/annalsref3.rows" = some 4 := by kernel_rfl
  have hty : (Tryd.prog.globals[4]?).map (·.type) = some 144 := by kernel_rfl
  obtain rfl := Option.some.inj (hg.symm.trans hg')
  obtain rfl := Option.some.inj (hty.symm.trans hty')
  have c3 : Tryd.prog.cellsOf 143 = 3 := by kernel_rfl
  have c1 : Tryd.prog.cellsOf 9 = 1 := by kernel_rfl
  intro n hn
  obtain ⟨i, j, hi, hj, rfl⟩ : ∃ i j, i < 7 ∧ j < 3 ∧ n = i * 3 + j := ⟨n / 3, n % 3, by omega, by omega, by omega⟩
  obtain ⟨f1, d, q, hdi, hed⟩ := Lib.array_elem Tryd.underlying144 hd i hi
  rw [c3] at hed
  have hds : ∃ ds, d = .agg ds ∧ ∀ j, j < 3 → ds[j]? = some (.lit (.string (rowStr (i * 3 + j)).data.toList)) := by
    match i, hi with
    | 0, _ => exact ⟨[.lit (.string [97, 98, 99, 107]), .lit (.string [97, 98, 101, 104, 106, 107]), .lit (.string [97, 98, 101, 104, 105, 106, 107])], (Option.some.inj hdi).symm, fun j hj => by match j, hj with | 0, _ => rfl | 1, _ => rfl | 2, _ => rfl⟩
    | 1, _ => exact ⟨[.lit (.string [97, 98, 99]), .lit (.string [97, 98, 99, 100, 101]), .lit (.string [97, 98, 99, 100, 101])], (Option.some.inj hdi).symm, fun j hj => by match j, hj with | 0, _ => rfl | 1, _ => rfl | 2, _ => rfl⟩
    | 2, _ => exact ⟨[.lit (.string [97, 98, 99, 107]), .lit (.string [97, 98, 99, 101, 107]), .lit (.string [97, 98, 99, 101, 107])], (Option.some.inj hdi).symm, fun j hj => by match j, hj with | 0, _ => rfl | 1, _ => rfl | 2, _ => rfl⟩
    | 3, _ => exact ⟨[.lit (.string [97, 98, 99, 107]), .lit (.string [97, 98, 99, 101, 102, 107]), .lit (.string [97, 98, 99, 101, 102, 103, 107])], (Option.some.inj hdi).symm, fun j hj => by match j, hj with | 0, _ => rfl | 1, _ => rfl | 2, _ => rfl⟩
    | 4, _ => exact ⟨[.lit (.string [97, 98, 99]), .lit (.string [97, 98, 99, 100, 101]), .lit (.string [97, 98, 99, 100, 101])], (Option.some.inj hdi).symm, fun j hj => by match j, hj with | 0, _ => rfl | 1, _ => rfl | 2, _ => rfl⟩
    | 5, _ => exact ⟨[.lit (.string [97, 98, 99, 107]), .lit (.string [97, 98, 99, 101, 107]), .lit (.string [97, 98, 99, 101, 107])], (Option.some.inj hdi).symm, fun j hj => by match j, hj with | 0, _ => rfl | 1, _ => rfl | 2, _ => rfl⟩
    | 6, _ => exact ⟨[.lit (.string [97, 98]), .lit (.string [97, 98, 101]), .lit (.string [97, 98, 101, 103])], (Option.some.inj hdi).symm, fun j hj => by match j, hj with | 0, _ => rfl | 1, _ => rfl | 2, _ => rfl⟩
  obtain ⟨ds, rfl, hds⟩ := hds
  obtain ⟨f2, d2, q2, hdj, hej⟩ := Lib.array_elem Tryd.underlying143 hed j hj
  rw [c1, Nat.mul_one] at hej
  have hd2 : d2 = .lit (.string (rowStr (i * 3 + j)).data.toList) := Option.some.inj (hdj.symm.trans (hds j hj))
  subst hd2
  have e := congrArg (·[0]?) (lit_string Tryd.underlying9 hej)
  simp only [List.getElem?_take, List.getElem?_drop, Nat.add_zero] at e
  rw [World.var?_cell hg hvar (i * 3 + j), ← Array.getElem?_toList]
  simpa [hj] using e
end Go.Proofs.YteaiadpigpehaaaDoor
