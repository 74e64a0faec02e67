/-
  Laws for regions that draw their order: structs are loaded, variables are made, structs are stored, each at one stroke; what holds is told of worlds that have grown. Conditions: none.
-/
import Derived.Test.YtfbaliimjmimhaaDoorPkTurn
import Derived.Test.YtfbaliimjmimhaaDoorPkApply
import Derived.Deep.RegionHeld3
namespace Go.Proofs.YtfbaliimjmimhaaDoor
open Go.RowKit

/-- All that stood in the world w is as it was. -/
structure Since (w w' : World) : Prop where mk :: (out : Below w.heap.size w w')
theorem Since.refl (w : World) : Since w w := ⟨Below.refl _ _⟩
theorem Since.drew {w w' : World} (h : Since w w') : Since w w'.drew := ⟨h.out.drew⟩
theorem Since.call {w w' w2 : World} (h : Since w w') (hb : Below w'.heap.size w' w2) : Since w w2 := ⟨then_ h.out hb⟩
theorem Since.wrote {w w' w2 : World} {g : Nat} (h : Since w w') (hw : Wrote w' w2 g) (hg : w.heap.size ≤ g) : Since w w2 := ⟨hw.below h.out hg⟩
theorem Since.le {w w' : World} (h : Since w w') : w.heap.size ≤ w'.heap.size := h.out.size
theorem Since.blk {w w' : World} {g : Nat} {cs : Array Value} {t : TypeId} (h : Since w w') (k : BlkAt w g cs t) : BlkAt w' g cs t := k.below h.out (Array.getElem?_eq_some_iff.1 k).1
theorem Since.trans {w w' w2 : World} (h : Since w w') (h2 : Since w' w2) : Since w w2 := h.call h2.out
theorem blk_lt {w : World} {g : Nat} {cs : Array Value} {t : TypeId} (k : BlkAt w g cs t) : g < w.heap.size := (Array.getElem?_eq_some_iff.1 k).1

section
variable {P : Program} {ops : Array Oper} {S : World → Prop}
theorem yl_blk {o : Oper} {a : Act} (hgd : o.guard = none) (ty : TypeId) (x : Operand) (ho : o.op = .load ty x) (g : Nat) (hx : a.eval x = .pointer (some ⟨g, 0, none⟩)) (t : TypeId) (cs : Array Value) (hg : ∀ w, S w → BlkAt w g cs t) (hu : RowTy P ty cs.size) :
    YieldsIf P ops S o (.agg cs) a := .inl ⟨by simp [Region.wanted, hgd], fun w hS => by
  unfold execOp
  simp only [ho, hx, Instr.loadAt, Instr.sureAddr, Sem.run_bind, Sem.run_pure, Result.andThen_ok, run_loadVar_part w g 0 t ty cs cs (hg w hS) (fun i _ => by rw [Nat.zero_add]) hu]⟩
/-- A struct whose cells are known is loaded, wherever it lies. -/
theorem run_loadVar_at (w : World) (g k : Nat) (ty : TypeId) (vs : Array Value) (hv : ∀ i, i < vs.size → w.cell? ⟨g, k + i, none⟩ = vs[i]?) (hu : RowTy P ty vs.size) :
    (loadVar ty ⟨g, k, none⟩).run P w = .ok (.agg vs) w := by
  have hl : (loadCells ⟨g, k, none⟩ vs.toList.length).run P w = .ok vs.toList.toArray w :=
    run_loadCells_list (P := P) w ⟨g, k, none⟩ vs.toList (fun j v hj => by
      have hadd : (⟨g, k, none⟩ : Addr).add j = ⟨g, k + j, none⟩ := by unfold Addr.add; split <;> simp_all
      have hj' : j < vs.size := by simpa using (List.getElem?_eq_some_iff.1 hj).1
      rw [hadd, hv j hj']
      simpa using hj)
  obtain ⟨⟨d, hu, hd⟩, hi⟩ := hu
  cases hq : P.info? ty with
  | none => simp [hq] at hi
  | some i =>
    have hs : i.size = vs.size := by simpa [hq] using hi
    have hagg : (isAgg ty).run P w = .ok true w := by
      unfold isAgg
      rw [Sem.run_bind, run_underlying hu w]
      cases d <;> simp_all [aggDesc]
    simp only [Array.length_toList, Array.toArray_toList] at hl
    simp [loadVar, Sem.run_bind, hagg, sizeOf, typeInfo, hq, hs, hl]
theorem yl_at {o : Oper} {a : Act} (hgd : o.guard = none) (ty : TypeId) (x : Operand) (ho : o.op = .load ty x) (g k : Nat) (hx : a.eval x = .pointer (some ⟨g, k, none⟩)) (vs : Array Value) (hv : ∀ w, S w → ∀ i, i < vs.size → w.cell? ⟨g, k + i, none⟩ = vs[i]?) (hu : RowTy P ty vs.size) :
    YieldsIf P ops S o (.agg vs) a := .inl ⟨by simp [Region.wanted, hgd], fun w hS => by
  unfold execOp
  simp only [ho, hx, Instr.loadAt, Instr.sureAddr, Sem.run_bind, Sem.run_pure, Result.andThen_ok, run_loadVar_at w g k ty vs (hv w hS) hu]⟩
theorem wpList_load_at {rest : List Oper} {o : Oper} {a : Act} {w : World} {Q : Exit → Act → World → Prop} (hgd : o.guard = none) (ty : TypeId) (x : Operand) (ho : o.op = .load ty x)
    (g k : Nat) (hx : a.eval x = .pointer (some ⟨g, k, none⟩)) (vs : Array Value) (hv : ∀ i, i < vs.size → w.cell? ⟨g, k + i, none⟩ = vs[i]?) (hu : RowTy P ty vs.size)
    (h : wpList P ops Q rest (a.put o.dst (.agg vs)) w) : wpList P ops Q (o :: rest) a w :=
  wpList_plain hgd fun _ hK => by
    unfold Oper.wp execOp
    simp only [ho, hx, Instr.loadAt, Instr.sureAddr, Sem.run_bind, Sem.run_pure, Result.andThen_ok, run_loadVar_at w g k ty vs hv hu]
    exact hK _ _ h
/-- A type of one cell. -/
def OneTy (P : Program) (ty : TypeId) : Prop := ∃ d, P.underlying ty = some d ∧ aggDesc d = false
theorem run_loadVar_one {ty : TypeId} (hu : OneTy P ty) (w : World) (ad : Addr) (v : Value) (hc : w.cell? ad = some v) : (loadVar ty ad).run P w = .ok v w := by
  obtain ⟨d, hu, hd⟩ := hu
  have hagg : (isAgg ty).run P w = .ok false w := by
    unfold isAgg
    rw [Sem.run_bind, run_underlying hu w]
    cases d <;> simp_all [aggDesc]
  simp [loadVar, Sem.run_bind, hagg, load, Sem.run, hc]
theorem yl_cell {o : Oper} {a : Act} (hgd : o.guard = none) (ty : TypeId) (x : Operand) (ho : o.op = .load ty x) (ad : Addr) (hx : a.eval x = .pointer (some ad)) (v : Value) (hv : ∀ w, S w → w.cell? ad = some v) (hu : OneTy P ty) :
    YieldsIf P ops S o v a := .inl ⟨by simp [Region.wanted, hgd], fun w hS => by
  unfold execOp
  simp only [ho, hx, Instr.loadAt, Instr.sureAddr, Sem.run_bind, Sem.run_pure, Result.andThen_ok, run_loadVar_one hu w ad v (hv w hS)]⟩
/-- A variable of a type whose zero is this row. -/
def ZeroRow (P : Program) (ty : TypeId) (cs : Array Value) : Prop := ∀ w, (Instr.alloc ty true (.tuple #[])).run P w = .ok (.pointer (some ⟨w.heap.size, 0, none⟩)) (w.alloc (.cells cs ty))
theorem step_alloc_row {o : Oper} {a : Act} {w : World} {K : Act → World → Prop} {Q : Exit → Act → World → Prop} {E : Prop} (hgd : o.guard = none) (ty : TypeId) (cs : Array Value) (ho : o.op = .alloc ty) (hz : ZeroRow P ty cs)
    (h : ∀ w', BlkAt w' w.heap.size cs ty → Below w.heap.size w w' → K (a.put o.dst (.pointer (some ⟨w.heap.size, 0, none⟩))) w') : if Region.wanted o (yielded ops a.tmps) = true then Oper.wp P o a w K Q else E := by
  have hw : Region.wanted o (yielded ops a.tmps) = true := by simp [Region.wanted, hgd]
  rw [if_pos hw]
  unfold Oper.wp execOp
  simp only [ho, Sem.run_bind, Sem.run_pure, hz w, Result.andThen_ok, Oper.upon]
  exact h _ (BlkAt.new w cs ty) (boxd (Below.refl _ _))
end
theorem zeroSaga_row : ZeroRow Tryd.prog 40 zeroSagaArr := fun _ => by kernel_rfl
theorem zeroRec_row : ZeroRow Tryd.prog 44 #[.int .i64 0, .int .i64 0, .int .i64 0, .int .i64 0, .int .i64 0, .int .i64 0, .int .i64 0, .int .i64 0, .int .i64 0, .int .i64 0, .string ⟨#[]⟩, .slice none 0 0] := fun _ => by kernel_rfl
theorem one_int : OneTy Tryd.prog 3 := ⟨_, Tryd.underlying3, rfl⟩
theorem one_bool : OneTy Tryd.prog 4 := ⟨_, Tryd.underlying4, rfl⟩
end Go.Proofs.YtfbaliimjmimhaaDoor
