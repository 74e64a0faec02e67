/-
  Laws for regions that draw their order: structs are loaded, variables are made, structs are stored, each at one stroke; what holds is told of worlds that have grown.
  More laws for what a walk meets: one cell loaded or stored, wherever it lies; a row of records of one's own whose first is turned.
  Laws for guarded loads in regions that draw their order, and for a load that is carried out where it comes up.
  Conditions: as each theorem says. (Joined by wip/tools/pack.py.)
-/
import Derived.Test.YteaiadpigpehaaaGreatDoorPkTurn
import Derived.Test.YteaiadpigpehaaaGreatDoorPkApply
import Derived.Deep.RegionHeld3
import Derived.Test.YteaiadpigpehaaaGreatDoorPkRecs
namespace Go.Proofs.YteaiadpigpehaaaGreatDoor
open Go.RowKit

/-- All that stood in the world w is as it was. -/
structure Since (w w' : World) : Prop where mk :: (out : Below w.heap.size w w')
theorem Since.refl (w : World) : Since w w := ⟨Below.refl _ _⟩
theorem Since.drew {w w' : World} (h : Since w w') : Since w w'.drew := ⟨h.out.drew⟩
theorem Since.call {w w' w2 : World} (h : Since w w') (hb : Below w'.heap.size w' w2) : Since w w2 := ⟨then_ h.out hb⟩
theorem Since.wrote {w w' w2 : World} {g : Nat} (h : Since w w') (hw : Wrote w' w2 g) (hg : w.heap.size ≤ g) : Since w w2 := ⟨hw.below h.out hg⟩
theorem Since.le {w w' : World} (h : Since w w') : w.heap.size ≤ w'.heap.size := h.out.size
theorem Since.blk {w w' : World} {g : Nat} {cs : Array Value} {t : TypeId} (h : Since w w') (k : BlkAt w g cs t) : BlkAt w' g cs t := k.below h.out (Array.getElem?_eq_some_iff.1 k).1
theorem Since.trans {w w' w2 : World} (h : Since w w') (h2 : Since w' w2) : Since w w2 := h.call h2.out
theorem blk_lt {w : World} {g : Nat} {cs : Array Value} {t : TypeId} (k : BlkAt w g cs t) : g < w.heap.size := (Array.getElem?_eq_some_iff.1 k).1

section
variable {P : Program} {ops : Array Oper} {S : World → Prop}
theorem yl_blk {o : Oper} {a : Act} (hgd : o.guard = none) (ty : TypeId) (x : Operand) (ho : o.op = .load ty x) (g : Nat) (hx : a.eval x = .pointer (some ⟨g, 0, none⟩)) (t : TypeId) (cs : Array Value) (hg : ∀ w, S w → BlkAt w g cs t) (hu : RowTy P ty cs.size) :
    YieldsIf P ops S o (.agg cs) a := .inl ⟨by simp [Region.wanted, hgd], fun w hS => by
  unfold execOp
  simp only [ho, hx, Instr.loadAt, Instr.sureAddr, Sem.run_bind, Sem.run_pure, Result.andThen_ok, run_loadVar_part w g 0 t ty cs cs (hg w hS) (fun i _ => by rw [Nat.zero_add]) hu]⟩
/-- A struct whose cells are known is loaded, wherever it lies. -/
theorem run_loadVar_at (w : World) (g k : Nat) (ty : TypeId) (vs : Array Value) (hv : ∀ i, i < vs.size → w.cell? ⟨g, k + i, none⟩ = vs[i]?) (hu : RowTy P ty vs.size) :
    (loadVar ty ⟨g, k, none⟩).run P w = .ok (.agg vs) w := by
  have hl : (loadCells ⟨g, k, none⟩ vs.toList.length).run P w = .ok vs.toList.toArray w :=
    run_loadCells_list (P := P) w ⟨g, k, none⟩ vs.toList (fun j v hj => by
      have hadd : (⟨g, k, none⟩ : Addr).add j = ⟨g, k + j, none⟩ := by unfold Addr.add; split <;> simp_all
      have hj' : j < vs.size := by simpa using (List.getElem?_eq_some_iff.1 hj).1
      rw [hadd, hv j hj']
      simpa using hj)
  obtain ⟨⟨d, hu, hd⟩, hi⟩ := hu
  cases hq : P.info? ty with
  | none => simp [hq] at hi
  | some i =>
    have hs : i.size = vs.size := by simpa [hq] using hi
    have hagg : (isAgg ty).run P w = .ok true w := by
      unfold isAgg
      rw [Sem.run_bind, run_underlying hu w]
      cases d <;> simp_all [aggDesc]
    simp only [Array.length_toList, Array.toArray_toList] at hl
    simp [loadVar, Sem.run_bind, hagg, sizeOf, typeInfo, hq, hs, hl]
theorem yl_at {o : Oper} {a : Act} (hgd : o.guard = none) (ty : TypeId) (x : Operand) (ho : o.op = .load ty x) (g k : Nat) (hx : a.eval x = .pointer (some ⟨g, k, none⟩)) (vs : Array Value) (hv : ∀ w, S w → ∀ i, i < vs.size → w.cell? ⟨g, k + i, none⟩ = vs[i]?) (hu : RowTy P ty vs.size) :
    YieldsIf P ops S o (.agg vs) a := .inl ⟨by simp [Region.wanted, hgd], fun w hS => by
  unfold execOp
  simp only [ho, hx, Instr.loadAt, Instr.sureAddr, Sem.run_bind, Sem.run_pure, Result.andThen_ok, run_loadVar_at w g k ty vs (hv w hS) hu]⟩
theorem wpList_load_at {rest : List Oper} {o : Oper} {a : Act} {w : World} {Q : Exit → Act → World → Prop} (hgd : o.guard = none) (ty : TypeId) (x : Operand) (ho : o.op = .load ty x)
    (g k : Nat) (hx : a.eval x = .pointer (some ⟨g, k, none⟩)) (vs : Array Value) (hv : ∀ i, i < vs.size → w.cell? ⟨g, k + i, none⟩ = vs[i]?) (hu : RowTy P ty vs.size)
    (h : wpList P ops Q rest (a.put o.dst (.agg vs)) w) : wpList P ops Q (o :: rest) a w :=
  wpList_plain hgd fun _ hK => by
    unfold Oper.wp execOp
    simp only [ho, hx, Instr.loadAt, Instr.sureAddr, Sem.run_bind, Sem.run_pure, Result.andThen_ok, run_loadVar_at w g k ty vs hv hu]
    exact hK _ _ h
/-- A type of one cell. -/
def OneTy (P : Program) (ty : TypeId) : Prop := ∃ d, P.underlying ty = some d ∧ aggDesc d = false
theorem run_loadVar_one {ty : TypeId} (hu : OneTy P ty) (w : World) (ad : Addr) (v : Value) (hc : w.cell? ad = some v) : (loadVar ty ad).run P w = .ok v w := by
  obtain ⟨d, hu, hd⟩ := hu
  have hagg : (isAgg ty).run P w = .ok false w := by
    unfold isAgg
    rw [Sem.run_bind, run_underlying hu w]
    cases d <;> simp_all [aggDesc]
  simp [loadVar, Sem.run_bind, hagg, load, Sem.run, hc]
theorem yl_cell {o : Oper} {a : Act} (hgd : o.guard = none) (ty : TypeId) (x : Operand) (ho : o.op = .load ty x) (ad : Addr) (hx : a.eval x = .pointer (some ad)) (v : Value) (hv : ∀ w, S w → w.cell? ad = some v) (hu : OneTy P ty) :
    YieldsIf P ops S o v a := .inl ⟨by simp [Region.wanted, hgd], fun w hS => by
  unfold execOp
  simp only [ho, hx, Instr.loadAt, Instr.sureAddr, Sem.run_bind, Sem.run_pure, Result.andThen_ok, run_loadVar_one hu w ad v (hv w hS)]⟩
/-- A variable of a type whose zero is this row. -/
def ZeroRow (P : Program) (ty : TypeId) (cs : Array Value) : Prop := ∀ w, (Instr.alloc ty true (.tuple #[])).run P w = .ok (.pointer (some ⟨w.heap.size, 0, none⟩)) (w.alloc (.cells cs ty))
theorem step_alloc_row {o : Oper} {a : Act} {w : World} {K : Act → World → Prop} {Q : Exit → Act → World → Prop} {E : Prop} (hgd : o.guard = none) (ty : TypeId) (cs : Array Value) (ho : o.op = .alloc ty) (hz : ZeroRow P ty cs)
    (h : ∀ w', BlkAt w' w.heap.size cs ty → Below w.heap.size w w' → K (a.put o.dst (.pointer (some ⟨w.heap.size, 0, none⟩))) w') : if Region.wanted o (yielded ops a.tmps) = true then Oper.wp P o a w K Q else E := by
  have hw : Region.wanted o (yielded ops a.tmps) = true := by simp [Region.wanted, hgd]
  rw [if_pos hw]
  unfold Oper.wp execOp
  simp only [ho, Sem.run_bind, Sem.run_pure, hz w, Result.andThen_ok, Oper.upon]
  exact h _ (BlkAt.new w cs ty) (boxd (Below.refl _ _))
end
theorem zeroSaga_row : ZeroRow Tryz.prog 29 zeroSagaArr := fun _ => by kernel_rfl
theorem zeroRec_row : ZeroRow Tryz.prog 31 #[.int .i64 0, .int .i64 0, .int .i64 0, .int .i64 0, .int .i64 0, .int .i64 0, .int .i64 0, .int .i64 0, .int .i64 0, .int .i64 0, .string ⟨#[]⟩, .slice none 0 0] := fun _ => by kernel_rfl
theorem one_int : OneTy Tryz.prog 3 := ⟨_, Tryz.underlying3, rfl⟩
theorem one_bool : OneTy Tryz.prog 4 := ⟨_, Tryz.underlying4, rfl⟩
end Go.Proofs.YteaiadpigpehaaaGreatDoor
namespace Go.Proofs.YteaiadpigpehaaaGreatDoor
open Go.RowKit

section
variable {P : Program} {ops : Array Oper}
theorem wpList_load_cell {rest : List Oper} {o : Oper} {a : Act} {w : World} {Q : Exit → Act → World → Prop} (hgd : o.guard = none) (ty : TypeId) (x : Operand) (ho : o.op = .load ty x)
    (ad : Addr) (hx : a.eval x = .pointer (some ad)) (v : Value) (hv : w.cell? ad = some v) (hu : OneTy P ty)
    (h : wpList P ops Q rest (a.put o.dst v) w) : wpList P ops Q (o :: rest) a w :=
  wpList_plain hgd fun _ hK => by
    unfold Oper.wp execOp
    simp only [ho, hx, Instr.loadAt, Instr.sureAddr, Sem.run_bind, Sem.run_pure, Result.andThen_ok, run_loadVar_one hu w ad v hv]
    exact hK _ _ h
/-- A field of a struct in its block. -/
theorem wpList_load_field {rest : List Oper} {o : Oper} {a : Act} {w : World} {Q : Exit → Act → World → Prop} (hgd : o.guard = none) (ty : TypeId) (x : Operand) (ho : o.op = .load ty x)
    (g i : Nat) (hx : a.eval x = .pointer (some ⟨g, i, none⟩)) (t : TypeId) (cs : Array Value) (hg : BlkAt w g cs t) (v : Value) (hv : cs[i]? = some v) (hu : OneTy P ty)
    (h : wpList P ops Q rest (a.put o.dst v) w) : wpList P ops Q (o :: rest) a w := wpList_load_cell hgd ty x ho _ hx v ((hg.cell i).trans hv) hu h
theorem wpList_load_field_g {rest : List Oper} {o : Oper} {a : Act} {w : World} {Q : Exit → Act → World → Prop} (hw : Region.wanted o (yielded ops a.tmps) = true) (ty : TypeId) (x : Operand) (ho : o.op = .load ty x)
    (g i : Nat) (hx : a.eval x = .pointer (some ⟨g, i, none⟩)) (t : TypeId) (cs : Array Value) (hg : BlkAt w g cs t) (v : Value) (hv : cs[i]? = some v) (hu : OneTy P ty)
    (h : wpList P ops Q rest (a.put o.dst v) w) : wpList P ops Q (o :: rest) a w :=
  BigFrame.wpList_want hw fun _ hK => by
    unfold Oper.wp execOp
    simp only [ho, hx, Instr.loadAt, Instr.sureAddr, Sem.run_bind, Sem.run_pure, Result.andThen_ok, run_loadVar_one hu w _ v ((hg.cell i).trans hv)]
    exact hK _ _ h
theorem run_storeVar_one {ty : TypeId} (hs : (P.info? ty).map (·.size) = some 1) (w : World) (g o : Nat) (t : TypeId) (cs : Array Value) (v : Value) (hg : BlkAt w g cs t) (hl : o < cs.size) (h1 : v.oneCell' = true) :
    (storeVar ty ⟨g, o, none⟩ v).run P w = .ok () (w.setRow g (cs.setIfInBounds o v)) := by
  cases hq : P.info? ty with
  | none => simp [hq] at hs
  | some i =>
    have hs : i.size = 1 := by simpa [hq] using hs
    have hc : v.cells = #[v] := by cases v <;> simp_all [Value.cells, Value.oneCell']
    have hst := run_storeCells_at (P := P) g o t [v] 0 cs w hg (by simp; omega) (by simpa using h1)
    simp only [Nat.add_zero, List.length_cons, List.length_nil, Nat.zero_add] at hst
    have e : (cs.toList.take o ++ [v] ++ cs.toList.drop (o + 1)).toArray = cs.setIfInBounds o v := by
      apply Array.ext'
      simp only [Array.toList_setIfInBounds]
      rw [List.set_eq_take_append_cons_drop, if_pos (by simpa using hl)]
      simp
    rw [e] at hst
    simp [storeVar, Sem.run_bind, sizeOf, typeInfo, hq, hs, hc, hst]
theorem step_store_one {o : Oper} {a : Act} {w : World} {K : Act → World → Prop} {Q : Exit → Act → World → Prop} {E : Prop} (hgd : o.guard = none) (ty : TypeId) (x y : Operand) (ho : o.op = .store ty x y)
    (g i : Nat) (hx : a.eval x = .pointer (some ⟨g, i, none⟩)) (v : Value) (hy : a.eval y = v) (t : TypeId) (cs : Array Value) (hg : BlkAt w g cs t) (hl : i < cs.size) (h1 : v.oneCell' = true) (hs : (P.info? ty).map (·.size) = some 1)
    (h : ∀ w', Wrote w w' g → BlkAt w' g (cs.setIfInBounds i v) t → K (a.put o.dst undef) w') : if Region.wanted o (yielded ops a.tmps) = true then Oper.wp P o a w K Q else E := by
  have hw : Region.wanted o (yielded ops a.tmps) = true := by simp [Region.wanted, hgd]
  rw [if_pos hw]
  have hst := run_storeVar_one (P := P) hs w g i t cs v hg hl h1
  unfold Oper.wp execOp
  simp only [ho, hx, hy, Instr.storeAt, Instr.sureAddr, Sem.run_bind, Sem.run_pure, Result.andThen_ok, hst]
  exact h _ (Wrote.setRow _ _ _) (setRow_heap w g cs _ t _ hg)
theorem wpList_store_one {rest : List Oper} {o : Oper} {a : Act} {w : World} {Q : Exit → Act → World → Prop} (hgd : o.guard = none) (ty : TypeId) (x y : Operand) (ho : o.op = .store ty x y)
    (g i : Nat) (hx : a.eval x = .pointer (some ⟨g, i, none⟩)) (v : Value) (hy : a.eval y = v) (t : TypeId) (cs : Array Value) (hg : BlkAt w g cs t) (hl : i < cs.size) (h1 : v.oneCell' = true) (hs : (P.info? ty).map (·.size) = some 1)
    (h : ∀ w', Wrote w w' g → BlkAt w' g (cs.setIfInBounds i v) t → wpList P ops Q rest (a.put o.dst undef) w') : wpList P ops Q (o :: rest) a w :=
  wpList_plain hgd fun _ hK => by
    have hst := run_storeVar_one (P := P) hs w g i t cs v hg hl h1
    unfold Oper.wp execOp
    simp only [ho, hx, hy, Instr.storeAt, Instr.sureAddr, Sem.run_bind, Sem.run_pure, Result.andThen_ok, hst]
    exact hK _ _ (h _ (Wrote.setRow _ _ _) (setRow_heap w g cs _ t _ hg))
end
theorem one_str : OneTy Tryz.prog 9 := ⟨_, Tryz.underlying9, rfl⟩
theorem one_bytes : OneTy Tryz.prog 26 := ⟨_, Tryz.underlying26, rfl⟩
theorem one_lists : OneTy Tryz.prog 27 := ⟨_, Tryz.underlying27, rfl⟩
theorem one_recs : OneTy Tryz.prog 57 := ⟨_, Tryz.underlying57, rfl⟩
theorem size_int : (Tryz.prog.info? 3).map (·.size) = some 1 := by kernel_rfl

/-- A row of one record of one's own, whose At is turned. -/
structure OneRec (w : World) (B : Nat) (v : Value) (R : RecD) (gg cap : Nat) (cur : Array Value) : Prop where
  val : v = .slice (some ⟨gg, 0, none⟩) 1 cap
  ge : B ≤ gg
  blk : BlkAt w gg cur 31
  size : 12 ≤ cur.size
  turned : ∀ w' n, Wrote w w' gg → BlkAt w' gg (cur.setIfInBounds 5 (.int .i64 n)) 31 → OwnRecs w' B v [{ R with at_ := n }]
theorem RecV.cells_at (r : RecV) (n : Int) : (r.cells).set 5 (.int .i64 n) = RecV.cells { r with at_ := n } := rfl
theorem RecV.cells_len (r : RecV) : r.cells.length = 12 := rfl
theorem OwnRecs.one {w : World} {B : Nat} {v : Value} {R : RecD} (h : OwnRecs w B v [R]) : ∃ gg cap cur, OneRec w B v R gg cap cur := by
  obtain ⟨rs, h1, h2, h3⟩ := h
  obtain ⟨r, rfl⟩ : ∃ r, rs = [r] := by
    cases rs with
    | nil => simp at h2
    | cons r t => cases t with
      | nil => exact ⟨r, rfl⟩
      | cons => simp at h2
  obtain ⟨hr, hd⟩ := h3 0 (by simp) (by simp)
  rw [List.getElem_cons_zero] at hr hd
  rw [List.getElem_cons_zero] at hr hd
  rw [List.flatMap_cons, List.flatMap_nil, List.append_nil] at h1
  obtain ⟨hl, h1⟩ := h1
  rcases h1 with ⟨_, h0⟩ | ⟨g, cap, cur, e, hb, hh, hc, hm, hz, ht⟩
  · cases h0
  · simp only [List.length_cons, List.length_nil, Nat.zero_add, Nat.one_mul] at e hc ht
    have hz' : 12 ≤ cur.size := by omega
    refine ⟨g, cap, cur, e, hb, hh, hz', fun w' n hw hk => ?_⟩
    have hd' := hd.keep (hw.rows (show BlkAt w g cur _ from hh) (by decide) (by decide))
    refine ⟨[{ r with at_ := n }], ⟨?_, .inr ⟨g, cap, _, e, hb, hk, hc, hm, ?_, ?_⟩⟩, rfl, fun i h1 h2 => ?_⟩
    · rw [List.flatMap_cons, List.flatMap_nil, List.append_nil, RecV.cells_len]; rfl
    · rw [Array.size_setIfInBounds]; exact hz
    · rw [List.flatMap_cons, List.flatMap_nil, List.append_nil, Array.toList_setIfInBounds, List.take_set]
      show ((cur.toList.take (1 * 12)).set 5 _) = _
      rw [Nat.one_mul, ht, RecV.cells_at]
    · have i0 : i = 0 := by simp at h1; omega
      subst i0
      exact ⟨by rw [List.getElem_cons_zero, List.getElem_cons_zero, hr], hd'⟩
end Go.Proofs.YteaiadpigpehaaaGreatDoor
namespace Go.Proofs.YteaiadpigpehaaaGreatDoor
open Go.RowKit

section
variable {P : Program} {ops : Array Oper} {S : World → Prop}
theorem yl_blk_g {o : Oper} {a : Act} (hw : Region.wanted o (yielded ops a.tmps) = true) (ty : TypeId) (x : Operand) (ho : o.op = .load ty x) (g : Nat) (hx : a.eval x = .pointer (some ⟨g, 0, none⟩)) (t : TypeId) (cs : Array Value) (hg : ∀ w, S w → BlkAt w g cs t) (hu : RowTy P ty cs.size) :
    YieldsIf P ops S o (.agg cs) a := .inl ⟨hw, fun w hS => by
  unfold execOp
  simp only [ho, hx, Instr.loadAt, Instr.sureAddr, Sem.run_bind, Sem.run_pure, Result.andThen_ok, run_loadVar_part w g 0 t ty cs cs (hg w hS) (fun i _ => by rw [Nat.zero_add]) hu]⟩
theorem yl_at_g {o : Oper} {a : Act} (hw : Region.wanted o (yielded ops a.tmps) = true) (ty : TypeId) (x : Operand) (ho : o.op = .load ty x) (g k : Nat) (hx : a.eval x = .pointer (some ⟨g, k, none⟩)) (vs : Array Value) (hv : ∀ w, S w → ∀ i, i < vs.size → w.cell? ⟨g, k + i, none⟩ = vs[i]?) (hu : RowTy P ty vs.size) :
    YieldsIf P ops S o (.agg vs) a := .inl ⟨hw, fun w hS => by
  unfold execOp
  simp only [ho, hx, Instr.loadAt, Instr.sureAddr, Sem.run_bind, Sem.run_pure, Result.andThen_ok, run_loadVar_at w g k ty vs (hv w hS) hu]⟩
theorem yl_cell_g {o : Oper} {a : Act} (hw : Region.wanted o (yielded ops a.tmps) = true) (ty : TypeId) (x : Operand) (ho : o.op = .load ty x) (ad : Addr) (hx : a.eval x = .pointer (some ad)) (v : Value) (hv : ∀ w, S w → w.cell? ad = some v) (hu : OneTy P ty) :
    YieldsIf P ops S o v a := .inl ⟨hw, fun w hS => by
  unfold execOp
  simp only [ho, hx, Instr.loadAt, Instr.sureAddr, Sem.run_bind, Sem.run_pure, Result.andThen_ok, run_loadVar_one hu w ad v (hv w hS)]⟩
theorem step_load_at {o : Oper} {a : Act} {w : World} {K : Act → World → Prop} {Q : Exit → Act → World → Prop} {E : Prop} (hgd : o.guard = none) (ty : TypeId) (x : Operand) (ho : o.op = .load ty x)
    (g k : Nat) (hx : a.eval x = .pointer (some ⟨g, k, none⟩)) (vs : Array Value) (hv : ∀ i, i < vs.size → w.cell? ⟨g, k + i, none⟩ = vs[i]?) (hu : RowTy P ty vs.size)
    (h : K (a.put o.dst (.agg vs)) w) : if Region.wanted o (yielded ops a.tmps) = true then Oper.wp P o a w K Q else E := by
  have hw : Region.wanted o (yielded ops a.tmps) = true := by simp [Region.wanted, hgd]
  rw [if_pos hw]
  unfold Oper.wp execOp
  simp only [ho, hx, Instr.loadAt, Instr.sureAddr, Sem.run_bind, Sem.run_pure, Result.andThen_ok, run_loadVar_at w g k ty vs hv hu]
  exact h
theorem wpList_load_blk_g' {rest : List Oper} {o : Oper} {a : Act} {w : World} {Q : Exit → Act → World → Prop} (hw : Region.wanted o (yielded ops a.tmps) = true) (ty : TypeId) (x : Operand) (ho : o.op = .load ty x)
    (g : Nat) (hx : a.eval x = .pointer (some ⟨g, 0, none⟩)) (t : TypeId) (cs : Array Value) (hg : BlkAt w g cs t) (hu : RowTy P ty cs.size)
    (h : wpList P ops Q rest (a.put o.dst (.agg cs)) w) : wpList P ops Q (o :: rest) a w := wpList_load_blk_g hw ty x ho g hx t cs hg hu h
end
end Go.Proofs.YteaiadpigpehaaaGreatDoor
