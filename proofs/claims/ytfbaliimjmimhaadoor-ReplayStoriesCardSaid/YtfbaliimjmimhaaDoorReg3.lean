/-
  Laws for guarded loads in regions that draw their order, and for a load that is carried out where it comes up. Conditions: none.
-/
import Derived.Test.YtfbaliimjmimhaaDoorReg2
namespace Go.Proofs.YtfbaliimjmimhaaDoor
open Go.RowKit

section
variable {P : Program} {ops : Array Oper} {S : World → Prop}
theorem yl_blk_g {o : Oper} {a : Act} (hw : Region.wanted o (yielded ops a.tmps) = true) (ty : TypeId) (x : Operand) (ho : o.op = .load ty x) (g : Nat) (hx : a.eval x = .pointer (some ⟨g, 0, none⟩)) (t : TypeId) (cs : Array Value) (hg : ∀ w, S w → BlkAt w g cs t) (hu : RowTy P ty cs.size) :
    YieldsIf P ops S o (.agg cs) a := .inl ⟨hw, fun w hS => by
  unfold execOp
  simp only [ho, hx, Instr.loadAt, Instr.sureAddr, Sem.run_bind, Sem.run_pure, Result.andThen_ok, run_loadVar_part w g 0 t ty cs cs (hg w hS) (fun i _ => by rw [Nat.zero_add]) hu]⟩
theorem yl_at_g {o : Oper} {a : Act} (hw : Region.wanted o (yielded ops a.tmps) = true) (ty : TypeId) (x : Operand) (ho : o.op = .load ty x) (g k : Nat) (hx : a.eval x = .pointer (some ⟨g, k, none⟩)) (vs : Array Value) (hv : ∀ w, S w → ∀ i, i < vs.size → w.cell? ⟨g, k + i, none⟩ = vs[i]?) (hu : RowTy P ty vs.size) :
    YieldsIf P ops S o (.agg vs) a := .inl ⟨hw, fun w hS => by
  unfold execOp
  simp only [ho, hx, Instr.loadAt, Instr.sureAddr, Sem.run_bind, Sem.run_pure, Result.andThen_ok, run_loadVar_at w g k ty vs (hv w hS) hu]⟩
theorem yl_cell_g {o : Oper} {a : Act} (hw : Region.wanted o (yielded ops a.tmps) = true) (ty : TypeId) (x : Operand) (ho : o.op = .load ty x) (ad : Addr) (hx : a.eval x = .pointer (some ad)) (v : Value) (hv : ∀ w, S w → w.cell? ad = some v) (hu : OneTy P ty) :
    YieldsIf P ops S o v a := .inl ⟨hw, fun w hS => by
  unfold execOp
  simp only [ho, hx, Instr.loadAt, Instr.sureAddr, Sem.run_bind, Sem.run_pure, Result.andThen_ok, run_loadVar_one hu w ad v (hv w hS)]⟩
theorem step_load_at {o : Oper} {a : Act} {w : World} {K : Act → World → Prop} {Q : Exit → Act → World → Prop} {E : Prop} (hgd : o.guard = none) (ty : TypeId) (x : Operand) (ho : o.op = .load ty x)
    (g k : Nat) (hx : a.eval x = .pointer (some ⟨g, k, none⟩)) (vs : Array Value) (hv : ∀ i, i < vs.size → w.cell? ⟨g, k + i, none⟩ = vs[i]?) (hu : RowTy P ty vs.size)
    (h : K (a.put o.dst (.agg vs)) w) : if Region.wanted o (yielded ops a.tmps) = true then Oper.wp P o a w K Q else E := by
  have hw : Region.wanted o (yielded ops a.tmps) = true := by simp [Region.wanted, hgd]
  rw [if_pos hw]
  unfold Oper.wp execOp
  simp only [ho, hx, Instr.loadAt, Instr.sureAddr, Sem.run_bind, Sem.run_pure, Result.andThen_ok, run_loadVar_at w g k ty vs hv hu]
  exact h
theorem wpList_load_blk_g' {rest : List Oper} {o : Oper} {a : Act} {w : World} {Q : Exit → Act → World → Prop} (hw : Region.wanted o (yielded ops a.tmps) = true) (ty : TypeId) (x : Operand) (ho : o.op = .load ty x)
    (g : Nat) (hx : a.eval x = .pointer (some ⟨g, 0, none⟩)) (t : TypeId) (cs : Array Value) (hg : BlkAt w g cs t) (hu : RowTy P ty cs.size)
    (h : wpList P ops Q rest (a.put o.dst (.agg cs)) w) : wpList P ops Q (o :: rest) a w := wpList_load_blk_g hw ty x ho g hx t cs hg hu h
end
end Go.Proofs.YtfbaliimjmimhaaDoor
