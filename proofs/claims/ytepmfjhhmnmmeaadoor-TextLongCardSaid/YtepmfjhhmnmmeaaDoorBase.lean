/-
  Words of this seat's proofs: worlds that have only drawn orders, tables of pairs, and how a listed variable's reading gives its cells. Conditions: none.
-/
import Derived.Test.YtepmfjhhmnmmeaaDoorProg
import Derived.Below
import Derived.WalkKit
import Derived.KernelRfl
import Derived.Deep.LoopGhost
import Derived.Deep.QuietTactic
import Derived.BigQuiet
import Derived.Lib.Hide
import Derived.Lib.LaidU8
namespace Go.Proofs.YtepmfjhhmnmmeaaDoor
open Go.RowKit

/-- The world is the old one, some orders having been drawn. -/
structure Drawn (w w' : World) : Prop where mk :: (out : ∃ n, w' = w.drewN n)
theorem Drawn.refl (w : World) : Drawn w w := ⟨⟨0, rfl⟩⟩
theorem Drawn.step {w w' : World} (h : Drawn w w') (n : Nat) : Drawn w (w'.drewN n) := by
  obtain ⟨m, rfl⟩ := h
  exact ⟨⟨m + n, World.drewN_drewN ..⟩⟩
theorem Drawn.trans {w w' w'' : World} (h : Drawn w w') (k : Drawn w' w'') : Drawn w w'' := by
  obtain ⟨m, rfl⟩ := k
  exact h.step m
theorem Drawn.cell {w w' : World} (h : Drawn w w') (a : Addr) : w'.cell? a = w.cell? a := by
  obtain ⟨m, rfl⟩ := h
  rfl
theorem Drawn.grown {w w' : World} (h : Drawn w w') : Grown w w' := by
  obtain ⟨n, rfl⟩ := h
  induction n with
  | zero => exact Grown.refl _
  | succ n ih => rw [← World.drew_drewN]; exact Grown.drew ih
theorem Drawn.below {w w' : World} (h : Drawn w w') : Below w.heap.size w w' := by
  obtain ⟨n, rfl⟩ := h
  induction n with
  | zero => exact Below.refl _ _
  | succ n ih => rw [← World.drew_drewN]; exact ih.drew

/-- A table of pairs at a variable's block. -/
def PairsAt (k : IntKind) (g : Nat) (t : List (Int × Int)) (w : World) : Prop :=
  ∀ i, i < t.length → w.cell? ⟨g, i * 2, none⟩ = some (.int k (t.getD i (0, 0)).1) ∧ w.cell? ⟨g, i * 2 + 1, none⟩ = some (.int k (t.getD i (0, 0)).2)
theorem PairsAt.drawn {k : IntKind} {g : Nat} {t : List (Int × Int)} {w w' : World} (h : PairsAt k g t w) (hd : Drawn w w') : PairsAt k g t w' := fun i hi =>
  ⟨(hd.cell _).trans (h i hi).1, (hd.cell _).trans (h i hi).2⟩
theorem PairsAt.below {k : IntKind} {g : Nat} {t : List (Int × Int)} {w w' : World} (h : PairsAt k g t w) (hb : Below w.heap.size w w') : PairsAt k g t w' := fun i hi =>
  ⟨(hb.cell (World.block_lt_of_cell? w _ (h i hi).1)).trans (h i hi).1, (hb.cell (World.block_lt_of_cell? w _ (h i hi).2)).trans (h i hi).2⟩

/-- The datum of a table of pairs. -/
def pairsData (k : IntKind) (t : List (Int × Int)) : DataW Unit := .agg (t.map fun p => .agg ([p.1, p.2].map fun z => .lit (.int k z)))

/-- An array of structs of two whole numbers of one kind, as it is listed. -/
theorem pairsAt_structs {P : Program} {w : World} {name : String} {k : IntKind} {g : Nat} {ty e ei : TypeId} {fs : Array Field} {t : List (Int × Int)} (hg : P.globalNamed name = some g) (hty : (P.globals[g]?).map (·.type) = some ty) (hu : P.underlying ty = some (.array t.length e))
    (he : P.underlying e = some (.struct fs)) (h0 : fs.toList.map (fun f => (f.type, f.offset)) = [(ei, 0), (ei, 1)]) (hei : P.underlying ei = some (.int k)) (c1 : P.cellsOf ei = 1) (c2 : P.cellsOf e = 2) (h : Lib.VarReads P w name (pairsData k t)) : PairsAt k g t w := by
  obtain ⟨g', ty', cs, fuel, p, hg', hty', hvar, hd⟩ := h
  obtain rfl := Option.some.inj (hg.symm.trans hg')
  obtain rfl := Option.some.inj (hty.symm.trans hty')
  intro i hi
  obtain ⟨fuel', d, q, hdi, hed⟩ := Lib.array_elem hu hd i hi
  simp only [List.getElem?_map, List.getElem?_eq_getElem hi, Option.map_some, Option.some.injEq] at hdi
  subst hdi
  rw [c2] at hed
  have hsz : fs.size = 2 := by have := congrArg List.length h0; simpa using this
  have hcs := Lib.ints_of_struct he (fun j f hj => by
    have hj' : (fs.toList.map (fun f => (f.type, f.offset)))[j]? = some (f.type, f.offset) := by simp [hj]
    rw [h0] at hj'
    match j, hj' with
    | 0, hj' => simp at hj'; rw [← hj'.1, ← hj'.2]; exact ⟨hei, rfl, c1⟩
    | 1, hj' => simp at hj'; rw [← hj'.1, ← hj'.2]; exact ⟨hei, rfl, c1⟩
    | j + 2, hj' => simp at hj') (by rw [c2, hsz]) hed
  have e0 := congrArg (·[0]?) hcs
  have e1 := congrArg (·[1]?) hcs
  simp only [List.getElem?_take, List.getElem?_drop] at e0 e1
  have eg : t.getD i (0, 0) = t[i] := by simp [List.getD, hi]
  rw [eg]
  constructor
  · rw [World.var?_cell hg hvar (i * 2), ← Array.getElem?_toList]
    simpa using e0
  · rw [World.var?_cell hg hvar (i * 2 + 1), ← Array.getElem?_toList]
    simpa using e1

/-- An array of arrays of two whole numbers, as it is listed. -/
theorem pairsAt_arrays {P : Program} {w : World} {name : String} {k : IntKind} {g : Nat} {ty e ei : TypeId} {t : List (Int × Int)} (hg : P.globalNamed name = some g) (hty : (P.globals[g]?).map (·.type) = some ty) (hu : P.underlying ty = some (.array t.length e))
    (he : P.underlying e = some (.array 2 ei)) (hei : P.underlying ei = some (.int k)) (c1 : P.cellsOf ei = 1) (c2 : P.cellsOf e = 2) (h : Lib.VarReads P w name (pairsData k t)) : PairsAt k g t w := by
  obtain ⟨g', ty', cs, fuel, p, hg', hty', hvar, hd⟩ := h
  obtain rfl := Option.some.inj (hg.symm.trans hg')
  obtain rfl := Option.some.inj (hty.symm.trans hty')
  intro i hi
  obtain ⟨fuel', d, q, hdi, hed⟩ := Lib.array_elem hu hd i hi
  simp only [List.getElem?_map, List.getElem?_eq_getElem hi, Option.map_some, Option.some.injEq] at hdi
  subst hdi
  rw [c2] at hed
  have hcs := Lib.cells_of_tab (k := k) (zs := [t[i].1, t[i].2]) he hei c1 c2 hed
  have e0 := congrArg (·[0]?) hcs
  have e1 := congrArg (·[1]?) hcs
  simp only [List.getElem?_take, List.getElem?_drop] at e0 e1
  have eg : t.getD i (0, 0) = t[i] := by simp [List.getD, hi]
  rw [eg]
  constructor
  · rw [World.var?_cell hg hvar (i * 2), ← Array.getElem?_toList]
    simpa using e0
  · rw [World.var?_cell hg hvar (i * 2 + 1), ← Array.getElem?_toList]
    simpa using e1

theorem ret_str {a b : ByteArray} (h : a = b) : Ending.returned (.string a) = .returned (.string b) := by rw [h]
theorem ret_bool {a b : Bool} (h : a = b) : Ending.returned (.bool a) = .returned (.bool b) := by rw [h]
theorem ret_int {k : IntKind} {a b : Int} (h : a = b) : Ending.returned (.int k a) = .returned (.int k b) := by rw [h]
theorem any_take {α : Type} (l : List α) (p : α → Bool) (d : α) (k : Nat) (h : k < l.length) : (l.take (k + 1)).any p = ((l.take k).any p || p (l.getD k d)) := by
  rw [List.take_succ_eq_append_getElem h, List.any_append]
  simp [List.getD, h]
theorem any_at {α : Type} (l : List α) (p : α → Bool) (d : α) (k : Nat) (h : k < l.length) (hp : p (l.getD k d) = true) : l.any p = true := by
  rw [List.any_eq_true]
  refine ⟨l[k], List.getElem_mem h, ?_⟩
  simpa [List.getD, h] using hp
theorem grown_below' {w w1 : World} (h : Below w.heap.size w w1) (row : Option Nat) : w.grownBy w1 row := ⟨h.os, h.tape, h.output, h.size, fun i hi _ => h.block i hi⟩
theorem own_through {w w1 : World} {base : Nat} {e : TypeId} {size n : Nat} {v : Value} {xs : List Value} (h : w.ownsRow base e size v n xs) (hb : Below w.heap.size w w1) : w1.ownsRow base e size v n xs :=
  h.kept (grown_below' hb none) (by cases v.ownBlock <;> simp)
theorem own_ne {w : World} {base : Nat} {e : TypeId} {size n b : Nat} {v : Value} {xs : List Value} (h : w.ownsRow base e size v n xs) (hb : w.heap.size ≤ b) : some b ≠ v.ownBlock := by
  intro hk
  have := (h.lt b hk.symm).2
  omega
theorem cell_grown {W w3 : World} {row : Option Nat} (hg : W.grownBy w3 row) {b o : Nat} {v : Value} (hc : W.cell? ⟨b, o, none⟩ = some v) (hne : some b ≠ row) : w3.cell? ⟨b, o, none⟩ = some v :=
  (World.cell?_of_block (w := W) (hg.block b (World.block_lt_of_cell? W _ hc) hne)).trans hc
/-- Behind a call that leaves what was below it. -/
theorem then_ {w wr w2 : World} (hb : Below w.heap.size w wr) (h : Below wr.heap.size wr w2) : Below w.heap.size w w2 := hb.trans (h.mono hb.size)
theorem addr_add (b j : Nat) : (⟨b, 0, none⟩ : Addr).add j = ⟨b, j, none⟩ := by
  unfold Addr.add
  split <;> simp_all
theorem cells_new (w : World) (l : List Value) (t : TypeId) (j : Nat) (u : Value) (h : l[j]? = some u) : (w.alloc (.cells l.toArray t)).cell? ((⟨w.heap.size, 0, none⟩ : Addr).add j) = some u := by
  rw [addr_add]
  have e : (w.alloc (.cells l.toArray t)).heap[w.heap.size]? = some (.cells l.toArray t) := by
    show (w.heap.push _)[w.heap.size]? = _
    simp
  unfold World.cell?
  rw [e]
  simp [h]
theorem cells_new1 (w : World) (o : Obj) (l : List Value) (t : TypeId) (j : Nat) (u : Value) (h : l[j]? = some u) : ((w.alloc o).alloc (.cells l.toArray t)).cell? ((⟨w.heap.size + 1, 0, none⟩ : Addr).add j) = some u := by
  have := cells_new (w.alloc o) l t j u h
  simpa using this
theorem own_lower {w : World} {b base : Nat} {e : TypeId} {size n : Nat} {v : Value} {xs : List Value} (h : w.ownsRow b e size v n xs) (hle : base ≤ b) : w.ownsRow base e size v n xs := by
  refine ⟨h.1, ?_⟩
  rcases h.2 with h2 | ⟨g, cap, cur, h2, h3, h4⟩
  · exact .inl h2
  · exact .inr ⟨g, cap, cur, h2, by omega, h4⟩
end Go.Proofs.YtepmfjhhmnmmeaaDoor
