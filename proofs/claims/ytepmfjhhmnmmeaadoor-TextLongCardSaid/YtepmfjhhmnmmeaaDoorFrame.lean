/-
  The frame of a law's row: behind a call that leaves all old memory as it was, and answers true, the row's post holds; the tables that the rows list. Conditions: none.
-/
import Derived.Test.YtepmfjhhmnmmeaaDoorCards
import Derived.Test.YtepmfjhhmnmmeaaDoorTie
import Derived.Test.YtepmfjhhmnmmeaaDoorBase
import Derived.Test.YtepmfjhhmnmmeaaDoorShelf
import Derived.Carry
import Derived.ChangeMaps5
import Derived.ProofKit
import Derived.OpenShut
import Derived.Deep.DeepHandedRow
namespace Go.Proofs.YtepmfjhhmnmmeaaDoor
open Go.ChangeShapes Go.WideShapes Go.ChangeAt Go.RowKit

section
variable {H : Type} {enc : TypeId × Value → H} {P : Program}
theorem trodAll_below (hl : laidOutB P = true) {W W' : World} (hb : Below W.heap.size W W') : ∀ {ts : List TypeId} {vs : List Value} {ds : List (DataW H)} {ps : List MemPlace},
    (∀ t ∈ ts, P.readableRec t = true ∧ t < P.types.size) → (∀ x ∈ ps, x.block < W.heap.size) → DataW.TrodAll enc P W 0 (fun _ => true) true ts vs ds ps →
    DataW.TrodAll enc P W' 0 (fun b => decide (b < W.heap.size)) true ts vs ds ps
  | [], [], [], _, _, _, h => h
  | t :: ts, v :: vs, d :: ds, _, hp, hx, h => by
    obtain ⟨p, q, h1, h2, rfl⟩ := h
    exact ⟨p, q, Below.trod hl (hp t (by simp)).1 (hp t (by simp)).2 h1 hb (fun x hm => hx x (by simp [hm])), trodAll_below hl hb (fun t' ht => hp t' (by simp [ht])) (fun x hm => hx x (by simp [hm])) h2, rfl⟩
  | [], _ :: _, _, _, _, _, h => h.elim
  | [], [], _ :: _, _, _, _, h => h.elim
  | _ :: _, [], _, _, _, _, h => h.elim
  | _ :: _, _ :: _, [], _, _, _, h => h.elim

theorem law_post {f : Func} {s : ChangeSpec} {W W' : World} {args : Array Value} {ds gs : List (DataW H)} {before : List MemPlace} {tb : TypeId} (hl : laidOutB P = true)
    (hp : ∀ t ∈ f.params.toList, P.readableRec t = true ∧ t < P.types.size) (hv : s.vars = []) (hr : f.resultTypes = #[tb]) (hu : P.underlying tb = some .bool)
    (hW : DataW.Whole enc P f.params.toList s.vars false W args.toList ds gs before) (hs : ∀ ds, f.params.toList.length = ds.length → s.fn H (ds ++ []) = { results := [.lit (.bool true)], args := ds }) (hlen : f.params.toList.length = ds.length) (hb : Below W.heap.size W W') :
    s.post enc P f false true false false W args (.bool true) W' := by
  have hW' := hW
  have hlt : ∀ x ∈ before, x.block < W.heap.size := fun x hx => by simpa using hW.lt x hx
  obtain ⟨p, q, hA, hV, rfl, hz, hn⟩ := hW
  rw [hv] at hV
  obtain ⟨rfl, rfl⟩ := trodVars_none hV
  have e := hs ds hlen
  refine ⟨ds, [], _, [], p, [], hW', ?_, ?_, ?_, hb.frame _, fun h => by cases h⟩
  · rw [e, hr]
    exact trodAll_mk1 (shut_bool hu _)
  · rw [e]
    exact trodAll_below hl hb hp (fun x hx => hlt x (by simp [hx])) hA
  · rw [hv, e]
    exact rfl
end

theorem own_ : ownKnob Tryd.prog.godebug = none := by kernel_rfl
theorem laidOut_ : laidOutB Tryd.prog = true := by kernel_rfl
/-- Cells laid into a variable's block. -/
def lay (vs : List Value) : Obj → Obj
  | .cells _ t frozen => .cells vs.toArray t frozen
  | o => o
mutual
/-- A datum of plain data, as the cells that hold it. -/
def flatD : DataW Unit → List Value
  | .lit (.int k n) => [.int k n]
  | .lit (.bool b) => [.bool b]
  | .lit (.string bs) => [.string ⟨bs.toArray⟩]
  | .agg ds => flatAll ds
  | _ => []
def flatAll : List (DataW Unit) → List Value
  | [] => []
  | d :: r => flatD d ++ flatAll r
end
end Go.Proofs.YtepmfjhhmnmmeaaDoor
