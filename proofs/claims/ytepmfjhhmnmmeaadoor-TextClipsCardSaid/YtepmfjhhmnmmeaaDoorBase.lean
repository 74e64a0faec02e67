/-
  Words of this seat's proofs: worlds that have only drawn orders, tables of pairs, and how a listed variable's reading gives its cells. Conditions: none.
-/
import Derived.Test.YtepmfjhhmnmmeaaDoorProg
import Derived.Below
import Derived.WalkKit
import Derived.KernelRfl
import Derived.Deep.LoopGhost
import Derived.Deep.QuietTactic
import Derived.BigQuiet
import Derived.Lib.Hide
import Derived.Lib.LaidU8
namespace Go.Proofs.YtepmfjhhmnmmeaaDoor
open Go.RowKit

/-- The world is the old one, some orders having been drawn. -/
structure Drawn (w w' : World) : Prop where mk :: (out : ∃ n, w' = w.drewN n)
theorem Drawn.refl (w : World) : Drawn w w := ⟨⟨0, rfl⟩⟩
theorem Drawn.step {w w' : World} (h : Drawn w w') (n : Nat) : Drawn w (w'.drewN n) := by
  obtain ⟨m, rfl⟩ := h
  exact ⟨⟨m + n, World.drewN_drewN ..⟩⟩
theorem Drawn.trans {w w' w'' : World} (h : Drawn w w') (k : Drawn w' w'') : Drawn w w'' := by
  obtain ⟨m, rfl⟩ := k
  exact h.step m
theorem Drawn.cell {w w' : World} (h : Drawn w w') (a : Addr) : w'.cell? a = w.cell? a := by
  obtain ⟨m, rfl⟩ := h
  rfl
theorem Drawn.grown {w w' : World} (h : Drawn w w') : Grown w w' := by
  obtain ⟨n, rfl⟩ := h
  induction n with
  | zero => exact Grown.refl _
  | succ n ih => rw [← World.drew_drewN]; exact Grown.drew ih
theorem Drawn.below {w w' : World} (h : Drawn w w') : Below w.heap.size w w' := by
  obtain ⟨n, rfl⟩ := h
  induction n with
  | zero => exact Below.refl _ _
  | succ n ih => rw [← World.drew_drewN]; exact ih.drew

/-- A table of pairs at a variable's block. -/
def PairsAt (k : IntKind) (g : Nat) (t : List (Int × Int)) (w : World) : Prop :=
  ∀ i, i < t.length → w.cell? ⟨g, i * 2, none⟩ = some (.int k (t.getD i (0, 0)).1) ∧ w.cell? ⟨g, i * 2 + 1, none⟩ = some (.int k (t.getD i (0, 0)).2)
theorem PairsAt.drawn {k : IntKind} {g : Nat} {t : List (Int × Int)} {w w' : World} (h : PairsAt k g t w) (hd : Drawn w w') : PairsAt k g t w' := fun i hi =>
  ⟨(hd.cell _).trans (h i hi).1, (hd.cell _).trans (h i hi).2⟩
theorem PairsAt.below {k : IntKind} {g : Nat} {t : List (Int × Int)} {w w' : World} (h : PairsAt k g t w) (hb : Below w.heap.size w w') : PairsAt k g t w' := fun i hi =>
  ⟨(hb.cell (World.block_lt_of_cell? w _ (h i hi).1)).trans (h i hi).1, (hb.cell (World.block_lt_of_cell? w _ (h i hi).2)).trans (h i hi).2⟩

/-- The datum of a table of pairs. -/
def pairsData (k : IntKind) (t : List (Int × Int)) : DataW Unit := .agg (t.map fun p => .agg ([p.1, p.2].map fun z => .lit (.int k z)))

/-- An array of structs of two whole numbers of one kind, as it is listed. -/
theorem pairsAt_structs {P : Program} {w : World} {name : String} {k : IntKind} {g : Nat} {ty e ei : TypeId} {fs : Array Field} {t : List (Int × Int)} (hg : P.globalNamed name = some g) (hty : (P.globals[g]?).map (·.type) = some ty) (hu : P.underlying ty = some (.array t.length e))
    (he : P.underlying e = some (.struct fs)) (h0 : fs.toList.map (fun f => (f.type, f.offset)) = [(ei, 0), (ei, 1)]) (hei : P.underlying ei = some (.int k)) (c1 : P.cellsOf ei = 1) (c2 : P.cellsOf e = 2) (h : Lib.VarReads P w name (pairsData k t)) : PairsAt k g t w := by
  obtain ⟨g', ty', cs, fuel, p, hg', hty', hvar, hd⟩ := h
  obtain rfl := Option.some.inj (hg.symm.trans hg')
  obtain rfl := Option.some.inj (hty.symm.trans hty')
  intro i hi
  obtain ⟨fuel', d, q, hdi, hed⟩ := Lib.array_elem hu hd i hi
  simp only [List.getElem?_map, List.getElem?_eq_getElem hi, Option.map_some, Option.some.injEq] at hdi
  subst hdi
  rw [c2] at hed
  have hsz : fs.size = 2 := by have := congrArg List.length h0; simpa using this
  have hcs := Lib.ints_of_struct he (fun j f hj => by
    have hj' : (fs.toList.map (fun f => (f.type, f.offset)))[j]? = some (f.type, f.offset) := by simp [hj]
    rw [h0] at hj'
    match j, hj' with
    | 0, hj' => simp at hj'; rw [← hj'.1, ← hj'.2]; exact ⟨hei, rfl, c1⟩
    | 1, hj' => simp at hj'; rw [← hj'.1, ← hj'.2]; exact ⟨hei, rfl, c1⟩
    | j + 2, hj' => simp at hj') (by rw [c2, hsz]) hed
  have e0 := congrArg (·[0]?) hcs
  have e1 := congrArg (·[1]?) hcs
  simp only [List.getElem?_take, List.getElem?_drop] at e0 e1
  have eg : t.getD i (0, 0) = t[i] := by simp [List.getD, hi]
  rw [eg]
  constructor
  · rw [World.var?_cell hg hvar (i * 2), ← Array.getElem?_toList]
    simpa using e0
  · rw [World.var?_cell hg hvar (i * 2 + 1), ← Array.getElem?_toList]
    simpa using e1

/-- An array of arrays of two whole numbers, as it is listed. -/
theorem pairsAt_arrays {P : Program} {w : World} {name : String} {k : IntKind} {g : Nat} {ty e ei : TypeId} {t : List (Int × Int)} (hg : P.globalNamed name = some g) (hty : (P.globals[g]?).map (·.type) = some ty) (hu : P.underlying ty = some (.array t.length e))
    (he : P.underlying e = some (.array 2 ei)) (hei : P.underlying ei = some (.int k)) (c1 : P.cellsOf ei = 1) (c2 : P.cellsOf e = 2) (h : Lib.VarReads P w name (pairsData k t)) : PairsAt k g t w := by
  obtain ⟨g', ty', cs, fuel, p, hg', hty', hvar, hd⟩ := h
  obtain rfl := Option.some.inj (hg.symm.trans hg')
  obtain rfl := Option.some.inj (hty.symm.trans hty')
  intro i hi
  obtain ⟨fuel', d, q, hdi, hed⟩ := Lib.array_elem hu hd i hi
  simp only [List.getElem?_map, List.getElem?_eq_getElem hi, Option.map_some, Option.some.injEq] at hdi
  subst hdi
  rw [c2] at hed
  have hcs := Lib.cells_of_tab (k := k) (zs := [t[i].1, t[i].2]) he hei c1 c2 hed
  have e0 := congrArg (·[0]?) hcs
  have e1 := congrArg (·[1]?) hcs
  simp only [List.getElem?_take, List.getElem?_drop] at e0 e1
  have eg : t.getD i (0, 0) = t[i] := by simp [List.getD, hi]
  rw [eg]
  constructor
  · rw [World.var?_cell hg hvar (i * 2), ← Array.getElem?_toList]
    simpa using e0
  · rw [World.var?_cell hg hvar (i * 2 + 1), ← Array.getElem?_toList]
    simpa using e1

theorem ret_str {a b : ByteArray} (h : a = b) : Ending.returned (.string a) = .returned (.string b) := by rw [h]
theorem ret_bool {a b : Bool} (h : a = b) : Ending.returned (.bool a) = .returned (.bool b) := by rw [h]
theorem ret_int {k : IntKind} {a b : Int} (h : a = b) : Ending.returned (.int k a) = .returned (.int k b) := by rw [h]
theorem any_take {α : Type} (l : List α) (p : α → Bool) (d : α) (k : Nat) (h : k < l.length) : (l.take (k + 1)).any p = ((l.take k).any p || p (l.getD k d)) := by
  rw [List.take_succ_eq_append_getElem h, List.any_append]
  simp [List.getD, h]
theorem any_at {α : Type} (l : List α) (p : α → Bool) (d : α) (k : Nat) (h : k < l.length) (hp : p (l.getD k d) = true) : l.any p = true := by
  rw [List.any_eq_true]
  refine ⟨l[k], List.getElem_mem h, ?_⟩
  simpa [List.getD, h] using hp
end Go.Proofs.YtepmfjhhmnmmeaaDoor
