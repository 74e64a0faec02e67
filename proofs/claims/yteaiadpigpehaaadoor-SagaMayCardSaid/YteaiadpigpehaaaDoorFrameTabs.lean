/-
  The tables of letters, of tags, of ways, of landing kinds out of a row's list. Conditions: none.
-/
import Derived.Test.YteaiadpigpehaaaDoorFrame
import Derived.Test.YteaiadpigpehaaaDoorApply
import Derived.Test.YteaiadpigpehaaaDoorFrameU8
import Derived.Lib.LaidTab
namespace Go.Proofs.YteaiadpigpehaaaDoor
open Go.RowKit
theorem gL : Tryd.prog.globalNamed "annals/text.letters" = some 3 := by kernel_rfl
theorem tL : (Tryd.prog.globals[3]?).map (·.type) = some 142 := by kernel_rfl
theorem cSpan : Tryd.prog.cellsOf 141 = 2 := by kernel_rfl
theorem cI32 : Tryd.prog.cellsOf 21 = 1 := by kernel_rfl
set_option maxRecDepth 100000 in
theorem dL : Rows.laid_annals_text_letters = pairsData .i32 letTab := by kernel_rfl
theorem letters_of {W : World} {l : List (String × DataW Unit)} (h : laidMet Tryd.prog l W) (hL : ("annals/text.letters", Rows.laid_annals_text_letters) ∈ l) : PairsAt .i32 3 letTab W :=
  pairsAt_structs gL tL Tryd.underlying142 Tryd.underlying141 rfl Tryd.underlying21 cI32 cSpan (Lib.laidMet.reads h (dL ▸ hL))

section
variable {H : Type} {enc : TypeId × Value → H} {P : Program} {w : World} {base : Nat} {sp : Nat → Bool} {held : Bool}
theorem lit_int {t : TypeId} {k : IntKind} {n : Nat} {cs : List Value} {z : Int} {p : List MemPlace} (ht : P.underlying t = some (.int k)) (h : DataW.trod enc P w base sp held n t cs = some (.lit (.int k z), p)) : cs = [.int k z] := by
  obtain ⟨x, e, e2, _⟩ := DataW.trod_int ht h
  simp at e2
  rw [e, e2.1]
theorem lit_bool {t : TypeId} {n : Nat} {cs : List Value} {z : Bool} {p : List MemPlace} (ht : P.underlying t = some .bool) (h : DataW.trod enc P w base sp held n t cs = some (.lit (.bool z), p)) : cs = [.bool z] := by
  obtain ⟨x, e, e2⟩ := DataW.trod_bool ht h
  simp at e2
  rw [e, e2.1]
theorem lit_string {t : TypeId} {n : Nat} {cs : List Value} {z : List UInt8} {p : List MemPlace} (ht : P.underlying t = some .string) (h : DataW.trod enc P w base sp held n t cs = some (.lit (.string z), p)) : cs = [.string ⟨z.toArray⟩] := by
  obtain ⟨x, e, e2, _⟩ := DataW.trod_string ht h
  simp at e2
  rw [e, e2.1]
end
theorem may_of {W : World} {l : List (String × DataW Unit)} (h : laidMet Tryd.prog l W) (hL : ("annals/record.may", Rows.laid_annals_record_may) ∈ l) : MayAt W := by
  obtain ⟨g', ty', cs, fuel, p, hg', hty', hvar, hd⟩ := Lib.laidMet.reads h hL
  have hg : Tryd.prog.globalNamed "annals/record.may" = some 0 := by kernel_rfl
  have hty : (Tryd.prog.globals[0]?).map (·.type) = some 100 := by kernel_rfl
  obtain rfl := Option.some.inj (hg.symm.trans hg')
  obtain rfl := Option.some.inj (hty.symm.trans hty')
  have c7 : Tryd.prog.cellsOf 99 = 7 := by kernel_rfl
  have row : ∀ i, i < 3 → ∀ zs : List Int, (match Rows.laid_annals_record_may (H := Unit) with | .agg ds => ds[i]? | _ => none) = some (Lib.tabData .u16 zs) → zs.length = 7 → ∀ j, j < 7 → W.cell? ⟨0, i * 7 + j, none⟩ = some (.int .u16 (zs.getD j 0)) := by
    intro i hi zs hz hl j hj
    obtain ⟨fuel', d, q, hdi, hed⟩ := Lib.array_elem Tryd.underlying100 hd i hi
    obtain rfl : d = Lib.tabData .u16 zs := Option.some.inj (hdi.symm.trans hz)
    rw [c7] at hed
    have hcs := Lib.cells_of_tab Tryd.underlying99 Tryd.underlying98 (by kernel_rfl) c7 hed
    have e := congrArg (·[j]?) hcs
    simp only [List.getElem?_take, List.getElem?_drop, hj, if_true, List.getElem?_map] at e
    rw [World.var?_cell hg hvar (i * 7 + j), ← Array.getElem?_toList, e]
    simp [List.getD, hl, hj]
  intro i hi
  have h0 := row 0 (by decide) [2062, 14, 2062, 2062, 14, 2062, 6] rfl rfl
  have h1 := row 1 (by decide) [3366, 62, 2094, 2158, 62, 2094, 38] rfl rfl
  have h2 := row 2 (by decide) [3878, 62, 2094, 2286, 62, 2094, 166] rfl rfl
  by_cases k0 : i < 7
  · have := h0 i k0
    rw [Nat.zero_mul, Nat.zero_add] at this
    rw [this]
    match i, k0 with
    | 0, _ => rfl
    | 1, _ => rfl
    | 2, _ => rfl
    | 3, _ => rfl
    | 4, _ => rfl
    | 5, _ => rfl
    | 6, _ => rfl
  by_cases k1 : i < 14
  · obtain ⟨j, rfl⟩ : ∃ j, i = 7 + j := ⟨i - 7, by omega⟩
    have hj : j < 7 := by omega
    have := h1 j hj
    rw [Nat.one_mul] at this
    rw [this]
    match j, hj with
    | 0, _ => rfl
    | 1, _ => rfl
    | 2, _ => rfl
    | 3, _ => rfl
    | 4, _ => rfl
    | 5, _ => rfl
    | 6, _ => rfl
  · obtain ⟨j, rfl⟩ : ∃ j, i = 14 + j := ⟨i - 14, by omega⟩
    have hj : j < 7 := by omega
    have := h2 j hj
    rw [show 2 * 7 = 14 from rfl] at this
    rw [this]
    match j, hj with
    | 0, _ => rfl
    | 1, _ => rfl
    | 2, _ => rfl
    | 3, _ => rfl
    | 4, _ => rfl
    | 5, _ => rfl
    | 6, _ => rfl
theorem lands_of {W : World} {l : List (String × DataW Unit)} (h : laidMet Tryd.prog l W) (hL : ("annals/saga.lands", Rows.laid_annals_saga_lands) ∈ l) : LandsAt W := by
  obtain ⟨g', ty', cs, fuel, p, hg', hty', hvar, hd⟩ := Lib.laidMet.reads h hL
  have hg : Tryd.prog.globalNamed "annals/saga.lands" = some 2 := by kernel_rfl
  have hty : (Tryd.prog.globals[2]?).map (·.type) = some 129 := by kernel_rfl
  obtain rfl := Option.some.inj (hg.symm.trans hg')
  obtain rfl := Option.some.inj (hty.symm.trans hty')
  have c1 : Tryd.prog.cellsOf 4 = 1 := by kernel_rfl
  intro i hi
  obtain ⟨fuel', d, q, hdi, hed⟩ := Lib.array_elem Tryd.underlying129 hd i hi
  rw [c1, Nat.mul_one] at hed
  have hd2 : d = .lit (.bool (landsL.getD i false)) := by
    match i, hi with
    | 0, _ => exact (Option.some.inj hdi).symm
    | 1, _ => exact (Option.some.inj hdi).symm
    | 2, _ => exact (Option.some.inj hdi).symm
    | 3, _ => exact (Option.some.inj hdi).symm
    | 4, _ => exact (Option.some.inj hdi).symm
    | 5, _ => exact (Option.some.inj hdi).symm
    | 6, _ => exact (Option.some.inj hdi).symm
    | 7, _ => exact (Option.some.inj hdi).symm
  subst hd2
  have e := congrArg (·[0]?) (lit_bool Tryd.underlying4 hed)
  simp only [List.getElem?_take, List.getElem?_drop, Nat.add_zero] at e
  rw [World.var?_cell hg hvar i, ← Array.getElem?_toList]
  simpa using e
theorem way_of {W : World} {n : Nat} {cs : List Value} {a b : Int} {s : List UInt8} {p : List MemPlace} {H : Type} {enc : TypeId × Value → H} {base : Nat} {sp : Nat → Bool} {held : Bool} (h : DataW.trod enc Tryd.prog W base sp held n 106 cs = some (.agg [.lit (.int .i64 a), .lit (.int .i64 b), .lit (.string s)], p)) :
    cs[0]? = some (.int .i64 a) ∧ cs[1]? = some (.int .i64 b) ∧ cs[2]? = some (.string ⟨s.toArray⟩) := by
  obtain ⟨xs, m, _, hx, hl, hlen, hf⟩ := DataW.trod_struct Tryd.underlying106 h
  have h0 : DataW.trod enc Tryd.prog W base sp held m 3 ((cs.drop 0).take (Tryd.prog.cellsOf 3)) = xs[0]? := hf 0 _ rfl
  have h1 : DataW.trod enc Tryd.prog W base sp held m 3 ((cs.drop 1).take (Tryd.prog.cellsOf 3)) = xs[1]? := hf 1 _ rfl
  have h2 : DataW.trod enc Tryd.prog W base sp held m 9 ((cs.drop 2).take (Tryd.prog.cellsOf 9)) = xs[2]? := hf 2 _ rfl
  have cI : Tryd.prog.cellsOf 3 = 1 := by kernel_rfl
  have cS : Tryd.prog.cellsOf 9 = 1 := by kernel_rfl
  try simp only at h0 h1 h2
  rw [cI] at h0 h1
  rw [cS] at h2
  have hd := congrArg Prod.fst hx
  simp only [DataW.agg.injEq] at hd
  match xs, hlen with
  | [x0, x1, x2], _ =>
    simp at hd
    obtain ⟨d0, d1, d2⟩ := hd
    obtain ⟨x0, q0⟩ := x0
    obtain ⟨x1, q1⟩ := x1
    obtain ⟨x2, q2⟩ := x2
    simp only at d0 d1 d2
    subst d0 d1 d2
    have e0 := congrArg (·[0]?) (lit_int Tryd.underlying3 h0)
    have e1 := congrArg (·[0]?) (lit_int Tryd.underlying3 h1)
    have e2 := congrArg (·[0]?) (lit_string Tryd.underlying9 h2)
    simp only [List.getElem?_take, List.getElem?_drop, Nat.add_zero] at e0 e1 e2
    exact ⟨by simpa using e0, by simpa using e1, by simpa using e2⟩
set_option maxRecDepth 100000 in
theorem ways_of {W : World} {l : List (String × DataW Unit)} (h : laidMet Tryd.prog l W) (hL : ("annals/lift.ways", Rows.laid_annals_lift_ways) ∈ l) : WaysAt W := by
  obtain ⟨g', ty', cs, fuel, p, hg', hty', hvar, hd⟩ := Lib.laidMet.reads h hL
  have hg : Tryd.prog.globalNamed "annals/lift.ways" = some 1 := by kernel_rfl
  have hty : (Tryd.prog.globals[1]?).map (·.type) = some 127 := by kernel_rfl
  obtain rfl := Option.some.inj (hg.symm.trans hg')
  obtain rfl := Option.some.inj (hty.symm.trans hty')
  have c3 : Tryd.prog.cellsOf 106 = 3 := by kernel_rfl
  obtain ⟨f0, d0, q0, hd0, he0⟩ := Lib.array_elem Tryd.underlying127 hd 0 (by decide)
  obtain ⟨f1, d1, q1, hd1, he1⟩ := Lib.array_elem Tryd.underlying127 hd 1 (by decide)
  obtain rfl := Option.some.inj hd0
  obtain rfl := Option.some.inj hd1
  rw [c3] at he0 he1
  obtain ⟨a0, a1, a2⟩ := way_of he0
  obtain ⟨b0, b1, b2⟩ := way_of he1
  simp only [List.getElem?_take, List.getElem?_drop] at a0 a1 a2 b0 b1 b2
  constructor
  · rw [World.var?_cell hg hvar 0, ← Array.getElem?_toList]; simpa using a0
  · rw [World.var?_cell hg hvar 1, ← Array.getElem?_toList]; simpa using a1
  · rw [World.var?_cell hg hvar 2, ← Array.getElem?_toList]; simpa using a2
  · rw [World.var?_cell hg hvar 3, ← Array.getElem?_toList]; simpa using b0
  · rw [World.var?_cell hg hvar 4, ← Array.getElem?_toList]; simpa using b1
  · rw [World.var?_cell hg hvar 5, ← Array.getElem?_toList]; simpa using b2
end Go.Proofs.YteaiadpigpehaaaDoor
