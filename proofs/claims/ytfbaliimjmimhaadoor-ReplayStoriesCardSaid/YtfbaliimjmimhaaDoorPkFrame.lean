/-
  The frame of a law's row: behind a call that leaves all old memory as it was, and answers true, the row's post holds; the tables that the rows list.
  The tables of unicode/utf8 out of a row's list.
  The tables of letters, of tags, of ways, of landing kinds out of a row's list.
  How a record, a saga, a list of records that are handed in are read: their words and what they hold.
  Conditions: as each theorem says. (Joined by wip/tools/pack.py.)
-/
import Derived.Test.YtfbaliimjmimhaaDoorCards
import Derived.Test.YtfbaliimjmimhaaDoorTie
import Derived.Test.YtfbaliimjmimhaaDoorPkText
import Derived.Test.YtfbaliimjmimhaaDoorShelf
import Derived.Carry
import Derived.ChangeMaps5
import Derived.ProofKit
import Derived.OpenShut
import Derived.Deep.DeepHandedRow
import Derived.Test.YtfbaliimjmimhaaDoorPkApply
import Derived.Lib.LaidTab
import Derived.SizedLaws
import Derived.Deep.Fields
import Derived.Deep.Slices
namespace Go.Proofs.YtfbaliimjmimhaaDoor
open Go.ChangeShapes Go.WideShapes Go.ChangeAt Go.RowKit

section
variable {H : Type} {enc : TypeId × Value → H} {P : Program}
theorem trodAll_below (hl : laidOutB P = true) {W W' : World} (hb : Below W.heap.size W W') : ∀ {ts : List TypeId} {vs : List Value} {ds : List (DataW H)} {ps : List MemPlace},
    (∀ t ∈ ts, P.readableRec t = true ∧ t < P.types.size) → (∀ x ∈ ps, x.block < W.heap.size) → DataW.TrodAll enc P W 0 (fun _ => true) true ts vs ds ps →
    DataW.TrodAll enc P W' 0 (fun b => decide (b < W.heap.size)) true ts vs ds ps
  | [], [], [], _, _, _, h => h
  | t :: ts, v :: vs, d :: ds, _, hp, hx, h => by
    obtain ⟨p, q, h1, h2, rfl⟩ := h
    exact ⟨p, q, Below.trod hl (hp t (by simp)).1 (hp t (by simp)).2 h1 hb (fun x hm => hx x (by simp [hm])), trodAll_below hl hb (fun t' ht => hp t' (by simp [ht])) (fun x hm => hx x (by simp [hm])) h2, rfl⟩
  | [], _ :: _, _, _, _, _, h => h.elim
  | [], [], _ :: _, _, _, _, h => h.elim
  | _ :: _, [], _, _, _, _, h => h.elim
  | _ :: _, _ :: _, [], _, _, _, h => h.elim

theorem law_post {f : Func} {s : ChangeSpec} {W W' : World} {args : Array Value} {ds gs : List (DataW H)} {before : List MemPlace} {tb : TypeId} (hl : laidOutB P = true)
    (hp : ∀ t ∈ f.params.toList, P.readableRec t = true ∧ t < P.types.size) (hv : s.vars = []) (hr : f.resultTypes = #[tb]) (hu : P.underlying tb = some .bool)
    (hW : DataW.Whole enc P f.params.toList s.vars false W args.toList ds gs before) (hs : ∀ ds, f.params.toList.length = ds.length → s.fn H (ds ++ []) = { results := [.lit (.bool true)], args := ds }) (hlen : f.params.toList.length = ds.length) (hb : Below W.heap.size W W') :
    s.post enc P f false true false false W args (.bool true) W' := by
  have hW' := hW
  have hlt : ∀ x ∈ before, x.block < W.heap.size := fun x hx => by simpa using hW.lt x hx
  obtain ⟨p, q, hA, hV, rfl, hz, hn⟩ := hW
  rw [hv] at hV
  obtain ⟨rfl, rfl⟩ := trodVars_none hV
  have e := hs ds hlen
  refine ⟨ds, [], _, [], p, [], hW', ?_, ?_, ?_, hb.frame _, fun h => by cases h⟩
  · rw [e, hr]
    exact trodAll_mk1 (shut_bool hu _)
  · rw [e]
    exact trodAll_below hl hb hp (fun x hx => hlt x (by simp [hx])) hA
  · rw [hv, e]
    exact rfl
end

theorem own_ : ownKnob Tryd.prog.godebug = none := by kernel_rfl
theorem laidOut_ : laidOutB Tryd.prog = true := by kernel_rfl
/-- Cells laid into a variable's block. -/
def lay (vs : List Value) : Obj → Obj
  | .cells _ t frozen => .cells vs.toArray t frozen
  | o => o
mutual
/-- A datum of plain data, as the cells that hold it. -/
def flatD : DataW Unit → List Value
  | .lit (.int k n) => [.int k n]
  | .lit (.bool b) => [.bool b]
  | .lit (.string bs) => [.string ⟨bs.toArray⟩]
  | .agg ds => flatAll ds
  | _ => []
def flatAll : List (DataW Unit) → List Value
  | [] => []
  | d :: r => flatD d ++ flatAll r
end
end Go.Proofs.YtfbaliimjmimhaaDoor
namespace Go.Proofs.YtfbaliimjmimhaaDoor
open Go.RowKit
theorem u8Extra : U8Extra Tryd.prog Tryd.lays260_ren := { n3 := by kernel_rfl, n4 := by kernel_rfl, y3 := by kernel_rfl, y4 := by kernel_rfl, c5 := by kernel_rfl, c119 := by kernel_rfl, c138 := by kernel_rfl }
theorem first_data : Rows.laid_unicode_utf8_first = Lib.firstData := by kernel_rfl
theorem accept_data : Rows.laid_unicode_utf8_acceptRanges = Lib.acceptData := by kernel_rfl
def acceptTab : List (Int × Int) := (List.range 16).map fun i => ((Lib.accLo i : Int), (Lib.accHi i : Int))
theorem u8_tables {W : World} {l : List (String × DataW Unit)} (h : laidMet Tryd.prog l W) (hL : ("unicode/utf8.first", Rows.laid_unicode_utf8_first) ∈ l) (hR : ("unicode/utf8.acceptRanges", Rows.laid_unicode_utf8_acceptRanges) ∈ l) : U8 W :=
  utf8Tabs_of_reads Tryd.lays260 u8Extra (Lib.laidMet.reads h (first_data ▸ hL)) (Lib.laidMet.reads h (accept_data ▸ hR))
end Go.Proofs.YtfbaliimjmimhaaDoor
namespace Go.Proofs.YtfbaliimjmimhaaDoor
open Go.RowKit
theorem gL : Tryd.prog.globalNamed "annals/text.letters" = some 2 := by kernel_rfl
theorem tL : (Tryd.prog.globals[2]?).map (·.type) = some 133 := by kernel_rfl
theorem cSpan : Tryd.prog.cellsOf 132 = 2 := by kernel_rfl
theorem cI32 : Tryd.prog.cellsOf 21 = 1 := by kernel_rfl
set_option maxRecDepth 100000 in
theorem dL : Rows.laid_annals_text_letters = pairsData .i32 letTab := by kernel_rfl
theorem letters_of {W : World} {l : List (String × DataW Unit)} (h : laidMet Tryd.prog l W) (hL : ("annals/text.letters", Rows.laid_annals_text_letters) ∈ l) : PairsAt .i32 2 letTab W :=
  pairsAt_structs gL tL Tryd.underlying133 Tryd.underlying132 rfl Tryd.underlying21 cI32 cSpan (Lib.laidMet.reads h (dL ▸ hL))

section
variable {H : Type} {enc : TypeId × Value → H} {P : Program} {w : World} {base : Nat} {sp : Nat → Bool} {held : Bool}
theorem lit_int {t : TypeId} {k : IntKind} {n : Nat} {cs : List Value} {z : Int} {p : List MemPlace} (ht : P.underlying t = some (.int k)) (h : DataW.trod enc P w base sp held n t cs = some (.lit (.int k z), p)) : cs = [.int k z] := by
  obtain ⟨x, e, e2, _⟩ := DataW.trod_int ht h
  simp at e2
  rw [e, e2.1]
theorem lit_bool {t : TypeId} {n : Nat} {cs : List Value} {z : Bool} {p : List MemPlace} (ht : P.underlying t = some .bool) (h : DataW.trod enc P w base sp held n t cs = some (.lit (.bool z), p)) : cs = [.bool z] := by
  obtain ⟨x, e, e2⟩ := DataW.trod_bool ht h
  simp at e2
  rw [e, e2.1]
theorem lit_string {t : TypeId} {n : Nat} {cs : List Value} {z : List UInt8} {p : List MemPlace} (ht : P.underlying t = some .string) (h : DataW.trod enc P w base sp held n t cs = some (.lit (.string z), p)) : cs = [.string ⟨z.toArray⟩] := by
  obtain ⟨x, e, e2, _⟩ := DataW.trod_string ht h
  simp at e2
  rw [e, e2.1]
end
theorem may_of {W : World} {l : List (String × DataW Unit)} (h : laidMet Tryd.prog l W) (hL : ("annals/record.may", Rows.laid_annals_record_may) ∈ l) : MayAt W := by
  obtain ⟨g', ty', cs, fuel, p, hg', hty', hvar, hd⟩ := Lib.laidMet.reads h hL
  have hg : Tryd.prog.globalNamed "annals/record.may" = some 0 := by kernel_rfl
  have hty : (Tryd.prog.globals[0]?).map (·.type) = some 84 := by kernel_rfl
  obtain rfl := Option.some.inj (hg.symm.trans hg')
  obtain rfl := Option.some.inj (hty.symm.trans hty')
  have c7 : Tryd.prog.cellsOf 83 = 7 := by kernel_rfl
  have row : ∀ i, i < 3 → ∀ zs : List Int, (match Rows.laid_annals_record_may (H := Unit) with | .agg ds => ds[i]? | _ => none) = some (Lib.tabData .u16 zs) → zs.length = 7 → ∀ j, j < 7 → W.cell? ⟨0, i * 7 + j, none⟩ = some (.int .u16 (zs.getD j 0)) := by
    intro i hi zs hz hl j hj
    obtain ⟨fuel', d, q, hdi, hed⟩ := Lib.array_elem Tryd.underlying84 hd i hi
    obtain rfl : d = Lib.tabData .u16 zs := Option.some.inj (hdi.symm.trans hz)
    rw [c7] at hed
    have hcs := Lib.cells_of_tab Tryd.underlying83 Tryd.underlying82 (by kernel_rfl) c7 hed
    have e := congrArg (·[j]?) hcs
    simp only [List.getElem?_take, List.getElem?_drop, hj, if_true, List.getElem?_map] at e
    rw [World.var?_cell hg hvar (i * 7 + j), ← Array.getElem?_toList, e]
    simp [List.getD, hl, hj]
  intro i hi
  have h0 := row 0 (by decide) [2062, 14, 2062, 2062, 14, 2062, 6] rfl rfl
  have h1 := row 1 (by decide) [3366, 62, 2094, 2158, 62, 2094, 38] rfl rfl
  have h2 := row 2 (by decide) [3878, 62, 2094, 2286, 62, 2094, 166] rfl rfl
  by_cases k0 : i < 7
  · have := h0 i k0
    rw [Nat.zero_mul, Nat.zero_add] at this
    rw [this]
    match i, k0 with
    | 0, _ => rfl
    | 1, _ => rfl
    | 2, _ => rfl
    | 3, _ => rfl
    | 4, _ => rfl
    | 5, _ => rfl
    | 6, _ => rfl
  by_cases k1 : i < 14
  · obtain ⟨j, rfl⟩ : ∃ j, i = 7 + j := ⟨i - 7, by omega⟩
    have hj : j < 7 := by omega
    have := h1 j hj
    rw [Nat.one_mul] at this
    rw [this]
    match j, hj with
    | 0, _ => rfl
    | 1, _ => rfl
    | 2, _ => rfl
    | 3, _ => rfl
    | 4, _ => rfl
    | 5, _ => rfl
    | 6, _ => rfl
  · obtain ⟨j, rfl⟩ : ∃ j, i = 14 + j := ⟨i - 14, by omega⟩
    have hj : j < 7 := by omega
    have := h2 j hj
    rw [show 2 * 7 = 14 from rfl] at this
    rw [this]
    match j, hj with
    | 0, _ => rfl
    | 1, _ => rfl
    | 2, _ => rfl
    | 3, _ => rfl
    | 4, _ => rfl
    | 5, _ => rfl
    | 6, _ => rfl
theorem lands_of {W : World} {l : List (String × DataW Unit)} (h : laidMet Tryd.prog l W) (hL : ("annals/saga.lands", Rows.laid_annals_saga_lands) ∈ l) : LandsAt W := by
  obtain ⟨g', ty', cs, fuel, p, hg', hty', hvar, hd⟩ := Lib.laidMet.reads h hL
  have hg : Tryd.prog.globalNamed "annals/saga.lands" = some 3 := by kernel_rfl
  have hty : (Tryd.prog.globals[3]?).map (·.type) = some 134 := by kernel_rfl
  obtain rfl := Option.some.inj (hg.symm.trans hg')
  obtain rfl := Option.some.inj (hty.symm.trans hty')
  have c1 : Tryd.prog.cellsOf 4 = 1 := by kernel_rfl
  intro i hi
  obtain ⟨fuel', d, q, hdi, hed⟩ := Lib.array_elem Tryd.underlying134 hd i hi
  rw [c1, Nat.mul_one] at hed
  have hd2 : d = .lit (.bool (landsL.getD i false)) := by
    match i, hi with
    | 0, _ => exact (Option.some.inj hdi).symm
    | 1, _ => exact (Option.some.inj hdi).symm
    | 2, _ => exact (Option.some.inj hdi).symm
    | 3, _ => exact (Option.some.inj hdi).symm
    | 4, _ => exact (Option.some.inj hdi).symm
    | 5, _ => exact (Option.some.inj hdi).symm
    | 6, _ => exact (Option.some.inj hdi).symm
    | 7, _ => exact (Option.some.inj hdi).symm
  subst hd2
  have e := congrArg (·[0]?) (lit_bool Tryd.underlying4 hed)
  simp only [List.getElem?_take, List.getElem?_drop, Nat.add_zero] at e
  rw [World.var?_cell hg hvar i, ← Array.getElem?_toList]
  simpa using e
theorem way_of {W : World} {n : Nat} {cs : List Value} {a b : Int} {s : List UInt8} {p : List MemPlace} {H : Type} {enc : TypeId × Value → H} {base : Nat} {sp : Nat → Bool} {held : Bool} (h : DataW.trod enc Tryd.prog W base sp held n 90 cs = some (.agg [.lit (.int .i64 a), .lit (.int .i64 b), .lit (.string s)], p)) :
    cs[0]? = some (.int .i64 a) ∧ cs[1]? = some (.int .i64 b) ∧ cs[2]? = some (.string ⟨s.toArray⟩) := by
  obtain ⟨xs, m, _, hx, hl, hlen, hf⟩ := DataW.trod_struct Tryd.underlying90 h
  have h0 : DataW.trod enc Tryd.prog W base sp held m 3 ((cs.drop 0).take (Tryd.prog.cellsOf 3)) = xs[0]? := hf 0 _ rfl
  have h1 : DataW.trod enc Tryd.prog W base sp held m 3 ((cs.drop 1).take (Tryd.prog.cellsOf 3)) = xs[1]? := hf 1 _ rfl
  have h2 : DataW.trod enc Tryd.prog W base sp held m 9 ((cs.drop 2).take (Tryd.prog.cellsOf 9)) = xs[2]? := hf 2 _ rfl
  have cI : Tryd.prog.cellsOf 3 = 1 := by kernel_rfl
  have cS : Tryd.prog.cellsOf 9 = 1 := by kernel_rfl
  try simp only at h0 h1 h2
  rw [cI] at h0 h1
  rw [cS] at h2
  have hd := congrArg Prod.fst hx
  simp only [DataW.agg.injEq] at hd
  match xs, hlen with
  | [x0, x1, x2], _ =>
    simp at hd
    obtain ⟨d0, d1, d2⟩ := hd
    obtain ⟨x0, q0⟩ := x0
    obtain ⟨x1, q1⟩ := x1
    obtain ⟨x2, q2⟩ := x2
    simp only at d0 d1 d2
    subst d0 d1 d2
    have e0 := congrArg (·[0]?) (lit_int Tryd.underlying3 h0)
    have e1 := congrArg (·[0]?) (lit_int Tryd.underlying3 h1)
    have e2 := congrArg (·[0]?) (lit_string Tryd.underlying9 h2)
    simp only [List.getElem?_take, List.getElem?_drop, Nat.add_zero] at e0 e1 e2
    exact ⟨by simpa using e0, by simpa using e1, by simpa using e2⟩
set_option maxRecDepth 100000 in
theorem ways_of {W : World} {l : List (String × DataW Unit)} (h : laidMet Tryd.prog l W) (hL : ("annals/lift.ways", Rows.laid_annals_lift_ways) ∈ l) : WaysAt W := by
  obtain ⟨g', ty', cs, fuel, p, hg', hty', hvar, hd⟩ := Lib.laidMet.reads h hL
  have hg : Tryd.prog.globalNamed "annals/lift.ways" = some 1 := by kernel_rfl
  have hty : (Tryd.prog.globals[1]?).map (·.type) = some 111 := by kernel_rfl
  obtain rfl := Option.some.inj (hg.symm.trans hg')
  obtain rfl := Option.some.inj (hty.symm.trans hty')
  have c3 : Tryd.prog.cellsOf 90 = 3 := by kernel_rfl
  obtain ⟨f0, d0, q0, hd0, he0⟩ := Lib.array_elem Tryd.underlying111 hd 0 (by decide)
  obtain ⟨f1, d1, q1, hd1, he1⟩ := Lib.array_elem Tryd.underlying111 hd 1 (by decide)
  obtain rfl := Option.some.inj hd0
  obtain rfl := Option.some.inj hd1
  rw [c3] at he0 he1
  obtain ⟨a0, a1, a2⟩ := way_of he0
  obtain ⟨b0, b1, b2⟩ := way_of he1
  simp only [List.getElem?_take, List.getElem?_drop] at a0 a1 a2 b0 b1 b2
  constructor
  · rw [World.var?_cell hg hvar 0, ← Array.getElem?_toList]; simpa using a0
  · rw [World.var?_cell hg hvar 1, ← Array.getElem?_toList]; simpa using a1
  · rw [World.var?_cell hg hvar 2, ← Array.getElem?_toList]; simpa using a2
  · rw [World.var?_cell hg hvar 3, ← Array.getElem?_toList]; simpa using b0
  · rw [World.var?_cell hg hvar 4, ← Array.getElem?_toList]; simpa using b1
  · rw [World.var?_cell hg hvar 5, ← Array.getElem?_toList]; simpa using b2
end Go.Proofs.YtfbaliimjmimhaaDoor
namespace Go.Proofs.YtfbaliimjmimhaaDoor
open Go.ChangeShapes Go.WideShapes Go.ChangeAt Go.RowKit Go.Deep

section
variable {H : Type} {enc : TypeId × Value → H} {P : Program} {w : World}
/-- No part of it weighs more than what a process can hold. -/
def Light (P : Program) (t : TypeId) (d : DataW H) : Prop := (d.weights P t).all (· ≤ reachBytes) = true
theorem light_each {ts : List TypeId} {ds : List (DataW H)} (h : (DataW.weightsEach P ts ds).all (· ≤ reachBytes) = true) {j : Nat} {t : TypeId} {d : DataW H} (ht : ts[j]? = some t) (hd : ds[j]? = some d) : Light P t d := by
  unfold Light
  rw [List.all_eq_true] at h ⊢
  exact fun n hn => h n (DataW.weights_mem_each ht hd n hn)
abbrev RD (enc : TypeId × Value → H) (P : Program) (w : World) (n : Nat) (t : TypeId) (cs : List Value) := DataW.trod enc P w 0 (fun _ => true) true n t cs

theorem open_fields {t : TypeId} {fs : Array Field} (hs : P.underlying t = some (.struct fs)) (hone : oneCellFields P fs = true) {fuel : Nat} {cs : List Value} {x : DataW H × List MemPlace} (h : RD enc P w fuel t cs = some x) (hL : Light P t x.1) :
    cs.length = P.cellsOf t ∧ ∃ n, ∀ (i : Nat) (f : Field) (v : Value), fs[i]? = some f → cs[i]? = some v → ∃ y, RD enc P w n f.type [v] = some y ∧ Light P f.type y.1 := by
  obtain ⟨xs, n, _, rfl, hl, hlen, hf⟩ := DataW.trod_struct hs h
  refine ⟨hl, n, fun i f v hfi hv => ?_⟩
  obtain ⟨o, c⟩ := hone_of hone i f hfi
  have hi := hf i f hfi
  have hlt : i < cs.length := (List.getElem?_eq_some_iff.1 hv).1
  have e : (cs.drop f.offset).take (P.cellsOf f.type) = [v] := by
    rw [o, c, List.drop_eq_getElem_cons hlt]
    simp [(List.getElem?_eq_some_iff.1 hv).2]
  rw [e] at hi
  have hx : i < xs.length := by rw [hlen]; exact (Array.getElem?_eq_some_iff.1 hfi).1
  rw [List.getElem?_eq_getElem hx] at hi
  refine ⟨xs[i], hi, ?_⟩
  have hL' : (DataW.weightsEach P (fs.toList.map (·.type)) (xs.map (·.1))).all (· ≤ reachBytes) = true := by
    have := hL
    unfold Light at this
    simpa only [DataW.weights, hs] using this
  exact light_each hL' (j := i) (by simp [hfi]) (by simp [hx])

theorem open_num {t : TypeId} {k : IntKind} (ht : P.underlying t = some (.int k)) {n : Nat} {v : Value} {y : DataW H × List MemPlace} (h : RD enc P w n t [v] = some y) : ∃ x, v = .int k x ∧ (Lit.int k x).wf = true := by
  obtain ⟨x, e, _, hw⟩ := DataW.trod_int ht h
  exact ⟨x, by simpa using e, hw⟩
theorem open_i64 {t : TypeId} (ht : P.underlying t = some (.int .i64)) {n : Nat} {v : Value} {y : DataW H × List MemPlace} (h : RD enc P w n t [v] = some y) : ∃ x, v = .int .i64 x ∧ -9223372036854775808 ≤ x ∧ x ≤ 9223372036854775807 := by
  obtain ⟨x, e, hw⟩ := open_num ht h
  exact ⟨x, e, bounds_i64 hw⟩
theorem open_flag {t : TypeId} (ht : P.underlying t = some .bool) {n : Nat} {v : Value} {y : DataW H × List MemPlace} (h : RD enc P w n t [v] = some y) : ∃ b, v = .bool b := by
  obtain ⟨b, e, _⟩ := DataW.trod_bool ht h
  exact ⟨b, by simpa using e⟩
theorem open_text {t : TypeId} (ht : P.underlying t = some .string) {n : Nat} {v : Value} {y : DataW H × List MemPlace} (h : RD enc P w n t [v] = some y) (hL : Light P t y.1) : ∃ s : ByteArray, v = .string s ∧ s.size ≤ 140737488351232 := by
  obtain ⟨s, e, rfl, _⟩ := DataW.trod_string ht h
  refine ⟨s, by simpa using e, ?_⟩
  unfold Light at hL
  simp only [DataW.weights, List.all_cons, List.all_nil, Bool.and_true, decide_eq_true_eq, Array.length_toList] at hL
  exact hL

theorem addr_add' (b o j : Nat) : (⟨b, o, none⟩ : Addr).add j = ⟨b, o + j, none⟩ := by
  unfold Addr.add
  split <;> simp_all
theorem addr_at {a : Addr} {v : Value} (h : w.cell? a = some v) : a = ⟨a.block, a.off, none⟩ := by
  obtain ⟨b, o, sp⟩ := a
  cases sp with
  | none => rfl
  | some x =>
    unfold World.cell? at h
    simp at h
    split at h <;> simp_all
theorem open_bytes {t e : TypeId} (ht : P.underlying t = some (.slice e)) (he : P.underlying e = some (.int .u8)) (hc : P.cellsOf e = 1) (hy : P.bytesOf e = 1) {n : Nat} {v : Value} {y : DataW H × List MemPlace} (h : RD enc P w n t [v] = some y) (hL : Light P t y.1) :
    ∃ (s : Sl) (b : List Int), v = s.v ∧ BytesAt w s b ∧ b.length ≤ 140737488351232 ∧ ∀ x ∈ b, 0 ≤ x ∧ x ≤ 255 := by
  rcases open_ints ht he hc h with ⟨e1, _⟩ | ⟨a, len, cap, zs, e1, _, h1, h2, h3, e2, h4, h5⟩
  · exact ⟨⟨none, 0, 0⟩, [], by simpa using e1, RowAt.nil _ _ _ (fun _ => rfl), by simp, by simp⟩
  · refine ⟨⟨some a, len, cap⟩, zs.take len, by simpa using e1, ⟨?_, ⟨?_, fun h => by cases h⟩, fun h0 => ?_⟩, ?_, ?_⟩
    · simp [byteCells]; simp at h3; omega
    · simp only; unfold maxLen at h2; omega
    · simp at h3
      have c0 := h4 0 (by simp only at h0; omega)
      have ea : a = ⟨a.block, a.off, none⟩ := addr_at (by simpa [Addr.add] using c0)
      refine ⟨a.block, a.off, congrArg some ea, fun i hi => ?_⟩
      simp only at hi
      have ci := h4 i (by omega)
      have e' : a.add i = ⟨a.block, a.off + i, none⟩ := by rw [ea]; exact addr_add' _ _ _
      rw [e'] at ci
      rw [ci]
      simp [byteCells, hi, List.getD, show i < zs.length by omega]
    · rw [e2] at hL
      unfold Light at hL
      simp only [DataW.weights, ht, List.all_cons, Bool.and_eq_true, hy] at hL
      simp at h3
      have := hL.1
      simp [lits, reachBytes] at this
      rw [List.length_take]
      omega
    · intro x hx
      have hw := h5 x (List.mem_of_mem_take hx)
      exact bounds_u8 hw

/-- Values that are read one by one, as a list of slices and what they hold. -/
theorem slices_of {n : Nat} {V : Nat → Value} {Q : Sl → List Int → Prop} (h : ∀ i, i < n → ∃ (s : Sl) (b : List Int), V i = s.v ∧ Q s b) :
    ∃ (vs : List Sl) (ls : List (List Int)), vs.length = n ∧ ls.length = n ∧ (∀ i (h1 : i < vs.length), V i = (vs[i]).v) ∧ ∀ i (h1 : i < vs.length) (h2 : i < ls.length), Q vs[i] ls[i] := by
  induction n with
  | zero => exact ⟨[], [], rfl, rfl, fun i h => by simp at h, fun i h => by simp at h⟩
  | succ n ih =>
    obtain ⟨vs, ls, h1, h2, h3, h4⟩ := ih (fun i hi => h i (by omega))
    obtain ⟨s, b, e, q⟩ := h n (by omega)
    refine ⟨vs ++ [s], ls ++ [b], by simp [h1], by simp [h2], fun i hi => ?_, fun i ha hb => ?_⟩
    · by_cases k : i < vs.length
      · rw [List.getElem_append_left k]; exact h3 i k
      · have : i = vs.length := by simp at hi; omega
        subst this
        rw [List.getElem_append_right (by omega)]
        simpa [h1] using e
    · by_cases k : i < vs.length
      · rw [List.getElem_append_left k, List.getElem_append_left (by omega)]; exact h4 i k (by omega)
      · have : i = vs.length := by simp at ha; omega
        subst this
        rw [List.getElem_append_right (by omega), List.getElem_append_right (by omega)]
        simpa [h1, h2] using q

theorem light_elem {t e : TypeId} (ht : P.underlying t = some (.slice e)) {el sp : List (DataW H)} (h : Light P t (.slice el sp)) {d : DataW H} (hd : d ∈ el) : Light P e d := by
  have key : ∀ l : List (DataW H), d ∈ l → ∀ n ∈ d.weights P e, n ∈ DataW.weightsAll P e l := by
    intro l
    induction l with
    | nil => intro h; cases h
    | cons x r ih =>
      intro hm n hn
      rw [DataW.weightsAll]
      rcases List.mem_cons.1 hm with rfl | hm
      · exact List.mem_append_left _ hn
      · exact List.mem_append_right _ (ih hm n hn)
  unfold Light at h ⊢
  rw [List.all_eq_true] at h ⊢
  intro n hn
  refine h n ?_
  simp only [DataW.weights, ht]
  exact List.mem_cons_of_mem _ (List.mem_append_left _ (key el hd n hn))
theorem light_len {t e : TypeId} (ht : P.underlying t = some (.slice e)) {el sp : List (DataW H)} (h : Light P t (.slice el sp)) : el.length * P.bytesOf e ≤ 140737488351232 := by
  unfold Light at h
  simp only [DataW.weights, ht, List.all_cons, Bool.and_eq_true, decide_eq_true_eq] at h
  have := h.1
  have h2 : (el.length + sp.length) * P.bytesOf e ≤ 140737488351232 := this
  exact Nat.le_trans (Nat.mul_le_mul_right _ (by omega)) h2

theorem open_lists {t e q : TypeId} (ht : P.underlying t = some (.slice e)) (he : P.underlying e = some (.slice q)) (hc : P.cellsOf e = 1) (hy : P.bytesOf e = 24) (hq : P.underlying q = some (.int .u8)) (hcq : P.cellsOf q = 1) (hyq : P.bytesOf q = 1) {n : Nat} {v : Value} {y : DataW H × List MemPlace} (h : RD enc P w n t [v] = some y) (hL : Light P t y.1) :
    ∃ (s : Sl) (ls : List (List Int)), v = s.v ∧ ListsAt w s ls ∧ ls.length * 24 ≤ 140737488351232 ∧ ∀ d ∈ ls, d.length ≤ 140737488351232 := by
  rcases open_slice1 ht hc h with ⟨e1, _⟩ | ⟨a, len, cap, m, n', V, D, Pl, e1, _, h1, h2, h3, e2, h4⟩
  · exact ⟨⟨none, 0, 0⟩, [], by simpa using e1, ⟨[], RowAt.nil _ _ _ (fun _ => rfl), rfl, fun i h => by simp at h⟩, by simp, by simp⟩
  · simp only [if_true] at h3
    subst h3
    rw [e2] at hL
    obtain ⟨vs, ls, l1, l2, l3, l4⟩ := slices_of (n := len) (V := V) (Q := fun s b => BytesAt w s b ∧ b.length ≤ 140737488351232) (fun i hi => by
      obtain ⟨c, hx⟩ := h4 i (by omega)
      obtain ⟨s, b, e, hb, hl, _⟩ := open_bytes he hq hcq hyq hx (light_elem ht hL (List.mem_map.2 ⟨i, List.mem_range.2 hi, rfl⟩))
      exact ⟨s, b, e, hb, hl⟩)
    refine ⟨⟨some a, len, m⟩, ls, by simpa using e1, ⟨vs, ⟨by simp [l1], ⟨?_, fun h => by cases h⟩, fun h0 => ?_⟩, by omega, fun i a b => (l4 i a b).1⟩, ?_, ?_⟩
    · simp only; unfold maxLen at h2; omega
    · simp only at h0
      obtain ⟨c0, _⟩ := h4 0 (by omega)
      have ea : a = ⟨a.block, a.off, none⟩ := addr_at (by simpa [Addr.add] using c0)
      refine ⟨a.block, a.off, congrArg some ea, fun i hi => ?_⟩
      simp only at hi
      obtain ⟨ci, _⟩ := h4 i (by omega)
      have e' : a.add i = ⟨a.block, a.off + i, none⟩ := by rw [ea]; exact addr_add' _ _ _
      rw [e'] at ci
      rw [ci, l3 i (by omega)]
      simp [show i < vs.length by omega]
    · have := light_len ht hL
      rw [hy] at this
      rw [l2]
      simpa using this
    · intro d hd
      obtain ⟨i, hi, rfl⟩ := List.getElem_of_mem hd
      exact (l4 i (by omega) hi).2
end

theorem list12 {α : Type} {cs : List α} (h : cs.length = 12) : ∃ a b c d e f g i j k l m, cs = [a, b, c, d, e, f, g, i, j, k, l, m] := by
  match cs, h with
  | [a, b, c, d, e, f, g, i, j, k, l, m], _ => exact ⟨a, b, c, d, e, f, g, i, j, k, l, m, rfl⟩
theorem list16 {α : Type} {cs : List α} (h : cs.length = 16) : ∃ a b c d e f g i j k l m n o p q, cs = [a, b, c, d, e, f, g, i, j, k, l, m, n, o, p, q] := by
  match cs, h with
  | [a, b, c, d, e, f, g, i, j, k, l, m, n, o, p, q], _ => exact ⟨a, b, c, d, e, f, g, i, j, k, l, m, n, o, p, q, rfl⟩

section
variable {H : Type} {enc : TypeId × Value → H} {w : World}
/-- A number as Go's int has it. -/
def I64 (n : Int) : Prop := -9223372036854775808 ≤ n ∧ n ≤ 9223372036854775807
structure RecNums (R : RecD) : Prop where
  v : I64 R.v
  kind : I64 R.kind
  saga : I64 R.saga
  step : I64 R.step
  try_ : I64 R.try_
  at_ : I64 R.at_
  last : I64 R.last
  code : I64 R.code
  count : I64 R.count
  pivot : I64 R.pivot
  name : R.name.size ≤ 140737488351232
  data : R.data.length ≤ 140737488351232
  bytes : ∀ x ∈ R.data, 0 ≤ x ∧ x ≤ 255
theorem RecNums.fits {R : RecD} (h : RecNums R) : RecFits R := ⟨by have := h.name; omega, by have := h.data; omega⟩
structure SagaNums (D : SagaD) : Prop where
  id : I64 D.id
  count : I64 D.count
  pivot : I64 D.pivot
  begun : I64 D.begun
  at_ : I64 D.at_
  phase : I64 D.phase
  next : I64 D.next
  tries : I64 D.tries
  failStep : I64 D.failStep
  failCode : I64 D.failCode
  name : D.name.size ≤ 140737488351232
  input : D.input.length ≤ 140737488351232
  fail : D.fail.length ≤ 140737488351232
  outs : D.outs.length * 24 ≤ 140737488351232
  outs2 : ∀ d ∈ D.outs, d.length ≤ 140737488351232
  undos : D.undos.length * 24 ≤ 140737488351232
  undos2 : ∀ d ∈ D.undos, d.length ≤ 140737488351232
theorem SagaNums.fits {D : SagaD} (h : SagaNums D) : SagaFits D := ⟨by have := h.name; omega, h.next.2, h.failStep.2⟩

theorem open_rec {n : Nat} {cs : List Value} {y : DataW H × List MemPlace} (h : RD enc Tryd.prog w n 44 cs = some y) (hL : Light Tryd.prog 44 y.1) :
    ∃ (r : RecV) (R : RecD), cs = r.cells ∧ RecRd w r R ∧ RecNums R := by
  obtain ⟨hl, m, hf⟩ := open_fields Tryd.underlying44 (by kernel_rfl) h hL
  obtain ⟨c0, c1, c2, c3, c4, c5, c6, c7, c8, c9, c10, c11, rfl⟩ := list12 (hl.trans (by kernel_rfl))
  obtain ⟨y0, r0, _⟩ := hf 0 _ c0 rfl rfl
  obtain ⟨x0, rfl, b0⟩ := open_i64 Tryd.underlying3 r0
  obtain ⟨y1, r1, _⟩ := hf 1 _ c1 rfl rfl
  obtain ⟨x1, rfl, b1⟩ := open_i64 Tryd.underlying3 r1
  obtain ⟨y2, r2, _⟩ := hf 2 _ c2 rfl rfl
  obtain ⟨x2, rfl, b2⟩ := open_i64 Tryd.underlying3 r2
  obtain ⟨y3, r3, _⟩ := hf 3 _ c3 rfl rfl
  obtain ⟨x3, rfl, b3⟩ := open_i64 Tryd.underlying3 r3
  obtain ⟨y4, r4, _⟩ := hf 4 _ c4 rfl rfl
  obtain ⟨x4, rfl, b4⟩ := open_i64 Tryd.underlying3 r4
  obtain ⟨y5, r5, _⟩ := hf 5 _ c5 rfl rfl
  obtain ⟨x5, rfl, b5⟩ := open_i64 Tryd.underlying3 r5
  obtain ⟨y6, r6, _⟩ := hf 6 _ c6 rfl rfl
  obtain ⟨x6, rfl, b6⟩ := open_i64 Tryd.underlying3 r6
  obtain ⟨y7, r7, _⟩ := hf 7 _ c7 rfl rfl
  obtain ⟨x7, rfl, b7⟩ := open_i64 Tryd.underlying3 r7
  obtain ⟨y8, r8, _⟩ := hf 8 _ c8 rfl rfl
  obtain ⟨x8, rfl, b8⟩ := open_i64 Tryd.underlying3 r8
  obtain ⟨y9, r9, _⟩ := hf 9 _ c9 rfl rfl
  obtain ⟨x9, rfl, b9⟩ := open_i64 Tryd.underlying3 r9
  obtain ⟨y10, r10, l10⟩ := hf 10 _ c10 rfl rfl
  obtain ⟨x10, rfl, b10⟩ := open_text Tryd.underlying9 r10 l10
  obtain ⟨y11, r11, l11⟩ := hf 11 _ c11 rfl rfl
  obtain ⟨s, b, rfl, hb, hlen, hx⟩ := open_bytes Tryd.underlying37 Tryd.underlying5 (by kernel_rfl) (by kernel_rfl) r11 l11
  exact ⟨⟨x0, x1, x2, x3, x4, x5, x6, x7, x8, x9, x10, s⟩, ⟨x0, x1, x2, x3, x4, x5, x6, x7, x8, x9, x10, b⟩, rfl, ⟨rfl, hb⟩, ⟨b0, b1, b2, b3, b4, b5, b6, b7, b8, b9, b10, hlen, hx⟩⟩

theorem open_saga {n : Nat} {cs : List Value} {y : DataW H × List MemPlace} (h : RD enc Tryd.prog w n 40 cs = some y) (hL : Light Tryd.prog 40 y.1) :
    ∃ (s : SagaV) (D : SagaD), cs = (sagaArr s).toList ∧ SagaRd w s D ∧ SagaNums D := by
  obtain ⟨hl, m, hf⟩ := open_fields Tryd.underlying40 (by kernel_rfl) h hL
  obtain ⟨c0, c1, c2, c3, c4, c5, c6, c7, c8, c9, c10, c11, c12, c13, c14, c15, rfl⟩ := list16 (hl.trans (by kernel_rfl))
  obtain ⟨y0, r0, l0⟩ := hf 0 _ c0 rfl rfl
  obtain ⟨y1, r1, l1⟩ := hf 1 _ c1 rfl rfl
  obtain ⟨y2, r2, l2⟩ := hf 2 _ c2 rfl rfl
  obtain ⟨y3, r3, l3⟩ := hf 3 _ c3 rfl rfl
  obtain ⟨y4, r4, l4⟩ := hf 4 _ c4 rfl rfl
  obtain ⟨y5, r5, l5⟩ := hf 5 _ c5 rfl rfl
  obtain ⟨y6, r6, l6⟩ := hf 6 _ c6 rfl rfl
  obtain ⟨y7, r7, l7⟩ := hf 7 _ c7 rfl rfl
  obtain ⟨y8, r8, l8⟩ := hf 8 _ c8 rfl rfl
  obtain ⟨y9, r9, l9⟩ := hf 9 _ c9 rfl rfl
  obtain ⟨y10, r10, l10⟩ := hf 10 _ c10 rfl rfl
  obtain ⟨y11, r11, l11⟩ := hf 11 _ c11 rfl rfl
  obtain ⟨y12, r12, l12⟩ := hf 12 _ c12 rfl rfl
  obtain ⟨y13, r13, l13⟩ := hf 13 _ c13 rfl rfl
  obtain ⟨y14, r14, l14⟩ := hf 14 _ c14 rfl rfl
  obtain ⟨y15, r15, l15⟩ := hf 15 _ c15 rfl rfl
  obtain ⟨x0, rfl, b0⟩ := open_i64 Tryd.underlying3 r0
  obtain ⟨x2, rfl, b2⟩ := open_i64 Tryd.underlying3 r2
  obtain ⟨x3, rfl, b3⟩ := open_i64 Tryd.underlying3 r3
  obtain ⟨x4, rfl, b4⟩ := open_i64 Tryd.underlying3 r4
  obtain ⟨x5, rfl, b5⟩ := open_i64 Tryd.underlying3 r5
  obtain ⟨x7, rfl, b7⟩ := open_i64 Tryd.underlying3 r7
  obtain ⟨x8, rfl, b8⟩ := open_i64 Tryd.underlying3 r8
  obtain ⟨x10, rfl, b10⟩ := open_i64 Tryd.underlying3 r10
  obtain ⟨x13, rfl, b13⟩ := open_i64 Tryd.underlying3 r13
  obtain ⟨x14, rfl, b14⟩ := open_i64 Tryd.underlying3 r14
  obtain ⟨x1, rfl, b1⟩ := open_text Tryd.underlying9 r1 l1
  obtain ⟨x9, rfl⟩ := open_flag Tryd.underlying4 r9
  obtain ⟨s6, d6, rfl, h6, k6, _⟩ := open_bytes Tryd.underlying37 Tryd.underlying5 (by kernel_rfl) (by kernel_rfl) r6 l6
  obtain ⟨s15, d15, rfl, h15, k15, _⟩ := open_bytes Tryd.underlying37 Tryd.underlying5 (by kernel_rfl) (by kernel_rfl) r15 l15
  obtain ⟨s11, d11, rfl, h11, k11, q11⟩ := open_lists Tryd.underlying38 Tryd.underlying37 (by kernel_rfl) (by kernel_rfl) Tryd.underlying5 (by kernel_rfl) (by kernel_rfl) r11 l11
  obtain ⟨s12, d12, rfl, h12, k12, q12⟩ := open_lists Tryd.underlying38 Tryd.underlying37 (by kernel_rfl) (by kernel_rfl) Tryd.underlying5 (by kernel_rfl) (by kernel_rfl) r12 l12
  exact ⟨⟨x0, x1, x2, x3, x4, x5, s6, x7, x8, x9, x10, s11, s12, x13, x14, s15⟩, ⟨x0, x1, x2, x3, x4, x5, d6, x7, x8, x9, x10, d11, d12, x13, x14, d15⟩, rfl, ⟨rfl, h6, h11, h12, h15⟩, ⟨b0, b2, b3, b4, b5, b7, b8, b10, b13, b14, b1, k6, k15, k11, q11, k12, q12⟩⟩

set_option maxRecDepth 100000 in
theorem open_rec_arg {r : Reach} {b0 : Nat} {v : Value} {d : DataW H} {p : List MemPlace} (hv : Value.okWide Tryd.prog w r b0 44 v) (h : DataW.Trod enc Tryd.prog w 0 (fun _ => true) true 44 v d p) (hL : Light Tryd.prog 44 d) :
    ∃ (r : RecV) (R : RecD), v = r.val ∧ RecRd w r R ∧ RecNums R := by
  obtain ⟨cs, rfl, hsz⟩ := okWide_struct Tryd.underlying44 hv
  obtain ⟨fuel, hf⟩ := h
  obtain ⟨r, R, e, h1, h2⟩ := open_rec (y := (d, p)) hf hL
  exact ⟨r, R, congrArg Value.agg (Array.ext' (show cs.toList = _ from e)), h1, h2⟩
set_option maxRecDepth 100000 in
theorem open_saga_arg {r : Reach} {b0 : Nat} {v : Value} {d : DataW H} {p : List MemPlace} (hv : Value.okWide Tryd.prog w r b0 40 v) (h : DataW.Trod enc Tryd.prog w 0 (fun _ => true) true 40 v d p) (hL : Light Tryd.prog 40 d) :
    ∃ (s : SagaV) (D : SagaD), v = s.val ∧ SagaRd w s D ∧ SagaNums D := by
  obtain ⟨cs, rfl, hsz⟩ := okWide_struct Tryd.underlying40 hv
  obtain ⟨fuel, hf⟩ := h
  obtain ⟨r, R, e, h1, h2⟩ := open_saga (y := (d, p)) hf hL
  exact ⟨r, R, congrArg Value.agg (Array.ext' (show cs.toList = _ from e)), h1, h2⟩
end
end Go.Proofs.YtfbaliimjmimhaaDoor
