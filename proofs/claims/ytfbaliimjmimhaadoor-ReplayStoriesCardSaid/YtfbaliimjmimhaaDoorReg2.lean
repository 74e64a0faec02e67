/-
  More laws for what a walk meets: one cell loaded or stored, wherever it lies; a row of records of one's own whose first is turned. Conditions: none.
-/
import Derived.Test.YtfbaliimjmimhaaDoorReg
import Derived.Test.YtfbaliimjmimhaaDoorRecs
namespace Go.Proofs.YtfbaliimjmimhaaDoor
open Go.RowKit

section
variable {P : Program} {ops : Array Oper}
theorem wpList_load_cell {rest : List Oper} {o : Oper} {a : Act} {w : World} {Q : Exit → Act → World → Prop} (hgd : o.guard = none) (ty : TypeId) (x : Operand) (ho : o.op = .load ty x)
    (ad : Addr) (hx : a.eval x = .pointer (some ad)) (v : Value) (hv : w.cell? ad = some v) (hu : OneTy P ty)
    (h : wpList P ops Q rest (a.put o.dst v) w) : wpList P ops Q (o :: rest) a w :=
  wpList_plain hgd fun _ hK => by
    unfold Oper.wp execOp
    simp only [ho, hx, Instr.loadAt, Instr.sureAddr, Sem.run_bind, Sem.run_pure, Result.andThen_ok, run_loadVar_one hu w ad v hv]
    exact hK _ _ h
/-- A field of a struct in its block. -/
theorem wpList_load_field {rest : List Oper} {o : Oper} {a : Act} {w : World} {Q : Exit → Act → World → Prop} (hgd : o.guard = none) (ty : TypeId) (x : Operand) (ho : o.op = .load ty x)
    (g i : Nat) (hx : a.eval x = .pointer (some ⟨g, i, none⟩)) (t : TypeId) (cs : Array Value) (hg : BlkAt w g cs t) (v : Value) (hv : cs[i]? = some v) (hu : OneTy P ty)
    (h : wpList P ops Q rest (a.put o.dst v) w) : wpList P ops Q (o :: rest) a w := wpList_load_cell hgd ty x ho _ hx v ((hg.cell i).trans hv) hu h
theorem wpList_load_field_g {rest : List Oper} {o : Oper} {a : Act} {w : World} {Q : Exit → Act → World → Prop} (hw : Region.wanted o (yielded ops a.tmps) = true) (ty : TypeId) (x : Operand) (ho : o.op = .load ty x)
    (g i : Nat) (hx : a.eval x = .pointer (some ⟨g, i, none⟩)) (t : TypeId) (cs : Array Value) (hg : BlkAt w g cs t) (v : Value) (hv : cs[i]? = some v) (hu : OneTy P ty)
    (h : wpList P ops Q rest (a.put o.dst v) w) : wpList P ops Q (o :: rest) a w :=
  BigFrame.wpList_want hw fun _ hK => by
    unfold Oper.wp execOp
    simp only [ho, hx, Instr.loadAt, Instr.sureAddr, Sem.run_bind, Sem.run_pure, Result.andThen_ok, run_loadVar_one hu w _ v ((hg.cell i).trans hv)]
    exact hK _ _ h
theorem run_storeVar_one {ty : TypeId} (hs : (P.info? ty).map (·.size) = some 1) (w : World) (g o : Nat) (t : TypeId) (cs : Array Value) (v : Value) (hg : BlkAt w g cs t) (hl : o < cs.size) (h1 : v.oneCell' = true) :
    (storeVar ty ⟨g, o, none⟩ v).run P w = .ok () (w.setRow g (cs.setIfInBounds o v)) := by
  cases hq : P.info? ty with
  | none => simp [hq] at hs
  | some i =>
    have hs : i.size = 1 := by simpa [hq] using hs
    have hc : v.cells = #[v] := by cases v <;> simp_all [Value.cells, Value.oneCell']
    have hst := run_storeCells_at (P := P) g o t [v] 0 cs w hg (by simp; omega) (by simpa using h1)
    simp only [Nat.add_zero, List.length_cons, List.length_nil, Nat.zero_add] at hst
    have e : (cs.toList.take o ++ [v] ++ cs.toList.drop (o + 1)).toArray = cs.setIfInBounds o v := by
      apply Array.ext'
      simp only [Array.toList_setIfInBounds]
      rw [List.set_eq_take_append_cons_drop, if_pos (by simpa using hl)]
      simp
    rw [e] at hst
    simp [storeVar, Sem.run_bind, sizeOf, typeInfo, hq, hs, hc, hst]
theorem step_store_one {o : Oper} {a : Act} {w : World} {K : Act → World → Prop} {Q : Exit → Act → World → Prop} {E : Prop} (hgd : o.guard = none) (ty : TypeId) (x y : Operand) (ho : o.op = .store ty x y)
    (g i : Nat) (hx : a.eval x = .pointer (some ⟨g, i, none⟩)) (v : Value) (hy : a.eval y = v) (t : TypeId) (cs : Array Value) (hg : BlkAt w g cs t) (hl : i < cs.size) (h1 : v.oneCell' = true) (hs : (P.info? ty).map (·.size) = some 1)
    (h : ∀ w', Wrote w w' g → BlkAt w' g (cs.setIfInBounds i v) t → K (a.put o.dst undef) w') : if Region.wanted o (yielded ops a.tmps) = true then Oper.wp P o a w K Q else E := by
  have hw : Region.wanted o (yielded ops a.tmps) = true := by simp [Region.wanted, hgd]
  rw [if_pos hw]
  have hst := run_storeVar_one (P := P) hs w g i t cs v hg hl h1
  unfold Oper.wp execOp
  simp only [ho, hx, hy, Instr.storeAt, Instr.sureAddr, Sem.run_bind, Sem.run_pure, Result.andThen_ok, hst]
  exact h _ (Wrote.setRow _ _ _) (setRow_heap w g cs _ t _ hg)
theorem wpList_store_one {rest : List Oper} {o : Oper} {a : Act} {w : World} {Q : Exit → Act → World → Prop} (hgd : o.guard = none) (ty : TypeId) (x y : Operand) (ho : o.op = .store ty x y)
    (g i : Nat) (hx : a.eval x = .pointer (some ⟨g, i, none⟩)) (v : Value) (hy : a.eval y = v) (t : TypeId) (cs : Array Value) (hg : BlkAt w g cs t) (hl : i < cs.size) (h1 : v.oneCell' = true) (hs : (P.info? ty).map (·.size) = some 1)
    (h : ∀ w', Wrote w w' g → BlkAt w' g (cs.setIfInBounds i v) t → wpList P ops Q rest (a.put o.dst undef) w') : wpList P ops Q (o :: rest) a w :=
  wpList_plain hgd fun _ hK => by
    have hst := run_storeVar_one (P := P) hs w g i t cs v hg hl h1
    unfold Oper.wp execOp
    simp only [ho, hx, hy, Instr.storeAt, Instr.sureAddr, Sem.run_bind, Sem.run_pure, Result.andThen_ok, hst]
    exact hK _ _ (h _ (Wrote.setRow _ _ _) (setRow_heap w g cs _ t _ hg))
end
theorem one_str : OneTy Tryd.prog 9 := ⟨_, Tryd.underlying9, rfl⟩
theorem one_bytes : OneTy Tryd.prog 37 := ⟨_, Tryd.underlying37, rfl⟩
theorem one_lists : OneTy Tryd.prog 38 := ⟨_, Tryd.underlying38, rfl⟩
theorem one_recs : OneTy Tryd.prog 22 := ⟨_, Tryd.underlying22, rfl⟩
theorem size_int : (Tryd.prog.info? 3).map (·.size) = some 1 := by kernel_rfl

/-- A row of one record of one's own, whose At is turned. -/
structure OneRec (w : World) (B : Nat) (v : Value) (R : RecD) (gg cap : Nat) (cur : Array Value) : Prop where
  val : v = .slice (some ⟨gg, 0, none⟩) 1 cap
  ge : B ≤ gg
  blk : BlkAt w gg cur 44
  size : 12 ≤ cur.size
  turned : ∀ w' n, Wrote w w' gg → BlkAt w' gg (cur.setIfInBounds 5 (.int .i64 n)) 44 → OwnRecs w' B v [{ R with at_ := n }]
theorem RecV.cells_at (r : RecV) (n : Int) : (r.cells).set 5 (.int .i64 n) = RecV.cells { r with at_ := n } := rfl
theorem RecV.cells_len (r : RecV) : r.cells.length = 12 := rfl
theorem OwnRecs.one {w : World} {B : Nat} {v : Value} {R : RecD} (h : OwnRecs w B v [R]) : ∃ gg cap cur, OneRec w B v R gg cap cur := by
  obtain ⟨rs, h1, h2, h3⟩ := h
  obtain ⟨r, rfl⟩ : ∃ r, rs = [r] := by
    cases rs with
    | nil => simp at h2
    | cons r t => cases t with
      | nil => exact ⟨r, rfl⟩
      | cons => simp at h2
  obtain ⟨hr, hd⟩ := h3 0 (by simp) (by simp)
  rw [List.getElem_cons_zero] at hr hd
  rw [List.getElem_cons_zero] at hr hd
  rw [List.flatMap_cons, List.flatMap_nil, List.append_nil] at h1
  obtain ⟨hl, h1⟩ := h1
  rcases h1 with ⟨_, h0⟩ | ⟨g, cap, cur, e, hb, hh, hc, hm, hz, ht⟩
  · cases h0
  · simp only [List.length_cons, List.length_nil, Nat.zero_add, Nat.one_mul] at e hc ht
    have hz' : 12 ≤ cur.size := by omega
    refine ⟨g, cap, cur, e, hb, hh, hz', fun w' n hw hk => ?_⟩
    have hd' := hd.keep (hw.rows (show BlkAt w g cur _ from hh) (by decide) (by decide))
    refine ⟨[{ r with at_ := n }], ⟨?_, .inr ⟨g, cap, _, e, hb, hk, hc, hm, ?_, ?_⟩⟩, rfl, fun i h1 h2 => ?_⟩
    · rw [List.flatMap_cons, List.flatMap_nil, List.append_nil, RecV.cells_len]; rfl
    · rw [Array.size_setIfInBounds]; exact hz
    · rw [List.flatMap_cons, List.flatMap_nil, List.append_nil, Array.toList_setIfInBounds, List.take_set]
      show ((cur.toList.take (1 * 12)).set 5 _) = _
      rw [Nat.one_mul, ht, RecV.cells_at]
    · have i0 : i = 0 := by simp at h1; omega
      subst i0
      exact ⟨by rw [List.getElem_cons_zero, List.getElem_cons_zero, hr], hd'⟩
end Go.Proofs.YtfbaliimjmimhaaDoor
