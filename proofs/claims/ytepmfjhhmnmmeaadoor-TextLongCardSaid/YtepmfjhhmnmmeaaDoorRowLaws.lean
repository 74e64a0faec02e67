/-
  Whole structs are loaded, stored, handed back at one stroke. Conditions: none.
-/
import Derived.Test.YtepmfjhhmnmmeaaDoorBase
import Derived.OwnWalk
import Derived.Below
namespace Go.Proofs.YtepmfjhhmnmmeaaDoor
open Go.RowKit

/-- A block of cells that may be written. -/
def BlkAt (w : World) (g : Nat) (cs : Array Value) (t : TypeId) : Prop := w.heap[g]? = some (.cells cs t)
theorem BlkAt.below {w w' : World} {B g : Nat} {cs : Array Value} {t : TypeId} (h : BlkAt w g cs t) (hb : Below B w w') (hg : g < B) : BlkAt w' g cs t := by
  unfold BlkAt; rw [hb.block g hg]; exact h
theorem BlkAt.cell {w : World} {g : Nat} {cs : Array Value} {t : TypeId} (h : BlkAt w g cs t) (i : Nat) : w.cell? ⟨g, i, none⟩ = cs[i]? := by simp [World.cell?, show w.heap[g]? = _ from h]
theorem BlkAt.frozen {w : World} {g : Nat} {cs : Array Value} {t : TypeId} (h : BlkAt w g cs t) (i : Nat) : w.frozen? ⟨g, i, none⟩ = false := by simp [World.frozen?, show w.heap[g]? = _ from h]
theorem BlkAt.new (w : World) (cs : Array Value) (t : TypeId) : BlkAt (w.alloc (.cells cs t)) w.heap.size cs t := by
  show (w.heap.push (.cells cs t))[w.heap.size]? = _
  simp
theorem BlkAt.push {w : World} {g : Nat} {cs : Array Value} {t : TypeId} (h : BlkAt w g cs t) (o : Obj) : BlkAt (w.alloc o) g cs t := by
  have hlt : g < w.heap.size := (Array.getElem?_eq_some_iff.1 h).1
  show (w.heap.push o)[g]? = _
  rw [Array.getElem?_push_lt hlt]
  rw [← h, Array.getElem?_eq_getElem hlt]
theorem BlkAt.set {w : World} {g i : Nat} {cs : Array Value} {t : TypeId} (h : BlkAt w g cs t) (u : Value) : BlkAt (w.setCell ⟨g, i, none⟩ u) g (cs.setIfInBounds i u) t := by
  rw [setCell_eq_setRow w g i cs t (0, 0) u h]
  exact setRow_heap w g cs _ t (0, 0) h
theorem BlkAt.other {w : World} {g : Nat} {cs : Array Value} {t : TypeId} (h : BlkAt w g cs t) {a : Addr} (ha : a.block ≠ g) (u : Value) : BlkAt (w.setCell a u) g cs t := by
  unfold BlkAt
  rw [Below.heap_setCell w a u g (Ne.symm ha)]
  exact h

/-- One block has been written, all else is as it was. -/
structure Wrote (w w' : World) (g : Nat) : Prop where
  os : w'.os = w.os
  tape : w'.tape = w.tape
  output : w'.output = w.output
  size : w'.heap.size = w.heap.size
  other : ∀ k, k ≠ g → w'.heap[k]? = w.heap[k]?
theorem Wrote.setRow (w : World) (g : Nat) (cs : Array Value) : Wrote w (w.setRow g cs) g := by
  refine ⟨rfl, rfl, rfl, by simp [World.setRow], fun k hk => ?_⟩
  simp only [World.setRow]
  rw [Array.getElem?_modify]
  simp [Ne.symm hk]
theorem Wrote.below {w0 w w' : World} {B g : Nat} (h : Wrote w w' g) (hb : Below B w0 w) (hB : B ≤ g) : Below B w0 w' :=
  hb.trans ⟨h.os, h.tape, h.output, by rw [h.size]; exact Nat.le_refl _, fun k hk => h.other k (by omega)⟩
theorem Wrote.blk {w w' : World} {g k : Nat} {cs : Array Value} {t : TypeId} (h : Wrote w w' g) (hk : BlkAt w k cs t) (hne : k ≠ g) : BlkAt w' k cs t := (h.other k hne).trans hk
theorem Wrote.grown {w w' : World} {g : Nat} (h : Wrote w w' g) : w.grownBy w' (some g) := ⟨h.os, h.tape, h.output, by rw [h.size]; exact Nat.le_refl _, fun k _ hne => h.other k (fun e => hne (by rw [e]))⟩
section
variable {P : Program}
def aggDesc : TypeDesc → Bool
  | .struct _ => true
  | .array _ _ => true
  | _ => false
/-- A type of so many cells that is laid in a row. -/
def RowTy (P : Program) (ty : TypeId) (n : Nat) : Prop := (∃ d, P.underlying ty = some d ∧ aggDesc d = true) ∧ (P.info? ty).map (·.size) = some n
theorem RowTy.mk' {ty : TypeId} {n : Nat} {d : TypeDesc} (h1 : P.underlying ty = some d) (h2 : aggDesc d = true) (h3 : (P.info? ty).map (·.size) = some n) : RowTy P ty n := ⟨⟨d, h1, h2⟩, h3⟩
theorem run_loadVar_part (w : World) (g o : Nat) (t ty : TypeId) (cs vs : Array Value) (hg : BlkAt w g cs t) (hv : ∀ i, i < vs.size → cs[o + i]? = vs[i]?) (hu : RowTy P ty vs.size) :
    (loadVar ty ⟨g, o, none⟩).run P w = .ok (.agg vs) w := by
  have hl : (loadCells ⟨g, o, none⟩ vs.toList.length).run P w = .ok vs.toList.toArray w :=
    run_loadCells_list (P := P) w ⟨g, o, none⟩ vs.toList (fun j v hj => by
      have hadd : (⟨g, o, none⟩ : Addr).add j = ⟨g, o + j, none⟩ := by unfold Addr.add; split <;> simp_all
      have hj' : j < vs.size := by simpa using (List.getElem?_eq_some_iff.1 hj).1
      rw [hadd, cell_of_row w g (o + j) cs t _ hg, hv j hj']
      simpa using hj)
  obtain ⟨⟨d, hu, hd⟩, hi⟩ := hu
  cases hq : P.info? ty with
  | none => simp [hq] at hi
  | some i =>
    have hs : i.size = vs.size := by simpa [hq] using hi
    have hagg : (isAgg ty).run P w = .ok true w := by
      unfold isAgg
      rw [Sem.run_bind, run_underlying hu w]
      cases d <;> simp_all [aggDesc]
    simp only [Array.length_toList, Array.toArray_toList] at hl
    simp [loadVar, Sem.run_bind, hagg, sizeOf, typeInfo, hq, hs, hl]
theorem run_storeVar_part (w : World) (g o : Nat) (t ty : TypeId) (cs vs : Array Value) (hg : BlkAt w g cs t) (hl : o + vs.size ≤ cs.size) (h1 : ∀ v ∈ vs.toList, v.oneCell' = true) (hu : RowTy P ty vs.size) :
    (storeVar ty ⟨g, o, none⟩ (.agg vs)).run P w = .ok () (w.setRow g (cs.toList.take o ++ vs.toList ++ cs.toList.drop (o + vs.size)).toArray) := by
  obtain ⟨_, hi⟩ := hu
  cases hq : P.info? ty with
  | none => simp [hq] at hi
  | some i =>
    have hs : i.size = vs.size := by simpa [hq] using hi
    have hst := run_storeCells_at (P := P) g o t vs.toList 0 cs w hg (by simpa using hl) h1
    simp only [Nat.add_zero, Array.length_toList] at hst
    simp [storeVar, Sem.run_bind, sizeOf, typeInfo, hq, hs, Value.cells, hst]

theorem wpList_load_part {ops : Array Oper} {rest : List Oper} {o : Oper} {a : Act} {w : World} {Q : Exit → Act → World → Prop} (hgd : o.guard = none) (ty : TypeId) (x : Operand) (ho : o.op = .load ty x)
    (g k : Nat) (hx : a.eval x = .pointer (some ⟨g, k, none⟩)) (t : TypeId) (cs vs : Array Value) (hg : BlkAt w g cs t) (hv : ∀ i, i < vs.size → cs[k + i]? = vs[i]?) (hu : RowTy P ty vs.size)
    (h : wpList P ops Q rest (a.put o.dst (.agg vs)) w) : wpList P ops Q (o :: rest) a w :=
  wpList_plain hgd fun _ hK => by
    unfold Oper.wp execOp
    simp only [ho, hx, Instr.loadAt, Instr.sureAddr, Sem.run_bind, Sem.run_pure, Result.andThen_ok, run_loadVar_part w g k t ty cs vs hg hv hu]
    exact hK _ _ h
theorem wpList_store_part {ops : Array Oper} {rest : List Oper} {o : Oper} {a : Act} {w : World} {Q : Exit → Act → World → Prop} (hgd : o.guard = none) (ty : TypeId) (x y : Operand) (ho : o.op = .store ty x y)
    (g k : Nat) (hx : a.eval x = .pointer (some ⟨g, k, none⟩)) (vs : Array Value) (hy : a.eval y = .agg vs) (t : TypeId) (cs : Array Value) (hg : BlkAt w g cs t) (hl : k + vs.size ≤ cs.size) (h1 : ∀ v ∈ vs.toList, v.oneCell' = true) (hu : RowTy P ty vs.size)
    (h : ∀ w', Wrote w w' g → BlkAt w' g (cs.toList.take k ++ vs.toList ++ cs.toList.drop (k + vs.size)).toArray t → wpList P ops Q rest (a.put o.dst undef) w') : wpList P ops Q (o :: rest) a w :=
  wpList_plain hgd fun _ hK => by
    unfold Oper.wp execOp
    simp only [ho, hx, hy, Instr.storeAt, Instr.sureAddr, Sem.run_bind, Sem.run_pure, Result.andThen_ok, run_storeVar_part w g k t ty cs vs hg hl h1 hu]
    exact hK _ _ (h _ (Wrote.setRow _ _ _) (setRow_heap w g cs _ t _ hg))
/-- The same at a step of a region that draws its order. -/
theorem step_load_part {ops : Array Oper} {o : Oper} {a : Act} {w : World} {K : Act → World → Prop} {Q : Exit → Act → World → Prop} {E : Prop} (hgd : o.guard = none) (ty : TypeId) (x : Operand) (ho : o.op = .load ty x)
    (g k : Nat) (hx : a.eval x = .pointer (some ⟨g, k, none⟩)) (t : TypeId) (cs vs : Array Value) (hg : BlkAt w g cs t) (hv : ∀ i, i < vs.size → cs[k + i]? = vs[i]?) (hu : RowTy P ty vs.size)
    (h : K (a.put o.dst (.agg vs)) w) : if Region.wanted o (yielded ops a.tmps) = true then Oper.wp P o a w K Q else E := by
  have hw : Region.wanted o (yielded ops a.tmps) = true := by simp [Region.wanted, hgd]
  rw [if_pos hw]
  unfold Oper.wp execOp
  simp only [ho, hx, Instr.loadAt, Instr.sureAddr, Sem.run_bind, Sem.run_pure, Result.andThen_ok, run_loadVar_part w g k t ty cs vs hg hv hu]
  exact h
theorem wpList_load_blk {ops : Array Oper} {rest : List Oper} {o : Oper} {a : Act} {w : World} {Q : Exit → Act → World → Prop} (hgd : o.guard = none) (ty : TypeId) (x : Operand) (ho : o.op = .load ty x)
    (g : Nat) (hx : a.eval x = .pointer (some ⟨g, 0, none⟩)) (t : TypeId) (cs : Array Value) (hg : BlkAt w g cs t) (hu : RowTy P ty cs.size)
    (h : wpList P ops Q rest (a.put o.dst (.agg cs)) w) : wpList P ops Q (o :: rest) a w := wpList_load_part hgd ty x ho g 0 hx t cs cs hg (fun i _ => by rw [Nat.zero_add]) hu h
theorem step_load_blk {ops : Array Oper} {o : Oper} {a : Act} {w : World} {K : Act → World → Prop} {Q : Exit → Act → World → Prop} {E : Prop} (hgd : o.guard = none) (ty : TypeId) (x : Operand) (ho : o.op = .load ty x)
    (g : Nat) (hx : a.eval x = .pointer (some ⟨g, 0, none⟩)) (t : TypeId) (cs : Array Value) (hg : BlkAt w g cs t) (hu : RowTy P ty cs.size)
    (h : K (a.put o.dst (.agg cs)) w) : if Region.wanted o (yielded ops a.tmps) = true then Oper.wp P o a w K Q else E := step_load_part hgd ty x ho g 0 hx t cs cs hg (fun i _ => by rw [Nat.zero_add]) hu h
theorem results_row {fn : Func} {p : Tmp} {ty : TypeId} (h : fn.results = #[.cell p ty]) (tmps : Array Value) (w : World) (g : Nat) (t : TypeId) (cs : Array Value)
    (hp : tmps.getD p undef = .pointer (some ⟨g, 0, none⟩)) (hg : BlkAt w g cs t) (hu : RowTy P ty cs.size) : (results fn tmps).run P w = .ok (.agg cs) w := by
  have hp' : tmps[p]?.getD undef = .pointer (some ⟨g, 0, none⟩) := by simpa using hp
  simp [results, h, hp', asAddr, run_loadVar_part w g 0 t ty cs cs hg (fun i _ => by rw [Nat.zero_add]) hu]
theorem results_row2 {fn : Func} {p q : Tmp} {ty : TypeId} (h : fn.results = #[.cell p ty, .tmp q]) (tmps : Array Value) (w : World) (g : Nat) (t : TypeId) (cs : Array Value)
    (hp : tmps.getD p undef = .pointer (some ⟨g, 0, none⟩)) (hg : BlkAt w g cs t) (hu : RowTy P ty cs.size) : (results fn tmps).run P w = .ok (.tuple #[.agg cs, tmps.getD q undef]) w := by
  have hp' : tmps[p]?.getD undef = .pointer (some ⟨g, 0, none⟩) := by simpa using hp
  simp [results, h, hp', asAddr, run_loadVar_part w g 0 t ty cs cs hg (fun i _ => by rw [Nat.zero_add]) hu]
theorem results_rows {fn : Func} {p q : Tmp} {ty tz : TypeId} (h : fn.results = #[.cell p ty, .cell q tz]) (tmps : Array Value) (w : World) (g k : Nat) (t u : TypeId) (cs ds : Array Value)
    (hp : tmps.getD p undef = .pointer (some ⟨g, 0, none⟩)) (hg : BlkAt w g cs t) (hu : RowTy P ty cs.size) (hq : tmps.getD q undef = .pointer (some ⟨k, 0, none⟩)) (hk : BlkAt w k ds u) (hz : RowTy P tz ds.size) : (results fn tmps).run P w = .ok (.tuple #[.agg cs, .agg ds]) w := by
  have hp' : tmps[p]?.getD undef = .pointer (some ⟨g, 0, none⟩) := by simpa using hp
  have hq' : tmps[q]?.getD undef = .pointer (some ⟨k, 0, none⟩) := by simpa using hq
  simp [results, h, hp', hq', asAddr, run_loadVar_part w g 0 t ty cs cs hg (fun i _ => by rw [Nat.zero_add]) hu, run_loadVar_part w k 0 u tz ds ds hk (fun i _ => by rw [Nat.zero_add]) hz]
theorem wpList_store_all {ops : Array Oper} {rest : List Oper} {o : Oper} {a : Act} {w : World} {Q : Exit → Act → World → Prop} (hgd : o.guard = none) (ty : TypeId) (x y : Operand) (ho : o.op = .store ty x y)
    (g : Nat) (hx : a.eval x = .pointer (some ⟨g, 0, none⟩)) (vs : Array Value) (hy : a.eval y = .agg vs) (t : TypeId) (cs : Array Value) (hg : BlkAt w g cs t) (hl : cs.size = vs.size) (h1 : ∀ v ∈ vs.toList, v.oneCell' = true) (hu : RowTy P ty vs.size)
    (h : ∀ w', Wrote w w' g → BlkAt w' g vs t → wpList P ops Q rest (a.put o.dst undef) w') : wpList P ops Q (o :: rest) a w :=
  wpList_store_part hgd ty x y ho g 0 hx vs hy t cs hg (by omega) h1 hu (fun w' hw hb => h w' hw (by
    have e : (cs.toList.take 0 ++ vs.toList ++ cs.toList.drop (0 + vs.size)).toArray = vs := by
      rw [List.take_zero, List.nil_append, Nat.zero_add, List.drop_eq_nil_of_le (by simp [hl]), List.append_nil]
    rw [e] at hb
    exact hb))
theorem results_row4 {fn : Func} {p q r s : Tmp} {ty : TypeId} (h : fn.results = #[.cell p ty, .tmp q, .tmp r, .tmp s]) (tmps : Array Value) (w : World) (g : Nat) (t : TypeId) (cs : Array Value)
    (hp : tmps.getD p undef = .pointer (some ⟨g, 0, none⟩)) (hg : BlkAt w g cs t) (hu : RowTy P ty cs.size) : (results fn tmps).run P w = .ok (.tuple #[.agg cs, tmps.getD q undef, tmps.getD r undef, tmps.getD s undef]) w := by
  have hp' : tmps[p]?.getD undef = .pointer (some ⟨g, 0, none⟩) := by simpa using hp
  simp [results, h, hp', asAddr, run_loadVar_part w g 0 t ty cs cs hg (fun i _ => by rw [Nat.zero_add]) hu]
end
theorem rowWord : RowTy Tryd.prog 41 4 := RowTy.mk' Tryd.underlying41 rfl (by kernel_rfl)
@[reducible] def zeroWord : Array Value := #[.int .i64 0, .int .i64 0, .string ⟨#[]⟩, .int .i64 0]
end Go.Proofs.YtepmfjhhmnmmeaaDoor
