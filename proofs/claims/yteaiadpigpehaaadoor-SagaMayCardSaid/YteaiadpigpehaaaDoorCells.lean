/-
  What a row of cells, a list of bytes, a list of lists, a record and a saga are in a world. Conditions: none.
-/
import Derived.Test.YteaiadpigpehaaaDoorNames
namespace Go.Proofs.YteaiadpigpehaaaDoor
open Go.RowKit

theorem boxd {w a : World} {o : Obj} (h : Below w.heap.size w a) : Below w.heap.size w (a.alloc o) := h.alloc (by have := h.size; omega) _

/-- A slice's three words. -/
structure Sl where
  a : Option Addr
  n : Nat
  c : Nat
@[reducible] def Sl.v (s : Sl) : Value := .slice s.a s.n s.c

/-- The values that a slice holds. -/
def RowAt (w : World) (s : Sl) (vs : List Value) : Prop :=
  s.n = vs.length ∧ (s.n ≤ 9223372036854775807 ∧ (s.a = none → s.c = 0)) ∧ (0 < s.n → ∃ b o, s.a = some ⟨b, o, none⟩ ∧ ∀ i, i < s.n → w.cell? ⟨b, o + i, none⟩ = vs[i]?)
theorem RowAt.below {w w' : World} {s : Sl} {vs : List Value} (h : RowAt w s vs) (hb : Below w.heap.size w w') : RowAt w' s vs := by
  refine ⟨h.1, h.2.1, fun h0 => ?_⟩
  obtain ⟨b, o, e, hc⟩ := h.2.2 h0
  refine ⟨b, o, e, fun i hi => ?_⟩
  have hi' : i < vs.length := by have := h.1; omega
  have hci := hc i hi
  rw [List.getElem?_eq_getElem hi'] at hci ⊢
  exact (hb.cell (World.block_lt_of_cell? w _ hci)).trans hci
theorem RowAt.nil (w : World) (c : Nat) (a : Option Addr) (hc : a = none → c = 0) : RowAt w ⟨a, 0, c⟩ [] := ⟨rfl, ⟨by simp, hc⟩, fun h => absurd h (by simp)⟩
theorem RowAt.len {w : World} {s : Sl} {vs : List Value} (h : RowAt w s vs) : s.n = vs.length := h.1

def byteCells (b : List Int) : List Value := b.map (Value.int .u8)
/-- The bytes that a slice of bytes holds. -/
def BytesAt (w : World) (s : Sl) (b : List Int) : Prop := RowAt w s (byteCells b)
theorem BytesAt.below {w w' : World} {s : Sl} {b : List Int} (h : BytesAt w s b) (hb : Below w.heap.size w w') : BytesAt w' s b := RowAt.below h hb
theorem BytesAt.len {w : World} {s : Sl} {b : List Int} (h : BytesAt w s b) : s.n = b.length := by
  have := RowAt.len h; rw [this]; simp [byteCells]

/-- The lists of bytes that a slice of such slices holds. -/
def ListsAt (w : World) (s : Sl) (ls : List (List Int)) : Prop :=
  ∃ vs : List Sl, RowAt w s (vs.map Sl.v) ∧ vs.length = ls.length ∧ ∀ i (h1 : i < vs.length) (h2 : i < ls.length), BytesAt w vs[i] ls[i]
theorem ListsAt.below {w w' : World} {s : Sl} {b : List (List Int)} (h : ListsAt w s b) (hb : Below w.heap.size w w') : ListsAt w' s b := by
  obtain ⟨vs, h1, h2, h3⟩ := h
  exact ⟨vs, h1.below hb, h2, fun i a b => (h3 i a b).below hb⟩
theorem ListsAt.len {w : World} {s : Sl} {b : List (List Int)} (h : ListsAt w s b) : s.n = b.length := by
  obtain ⟨vs, h1, h2, _⟩ := h
  have := h1.len; rw [this]; simp [h2]

/-- A record's words. -/
structure RecV where
  v : Int
  kind : Int
  saga : Int
  step : Int
  try_ : Int
  at_ : Int
  last : Int
  code : Int
  count : Int
  pivot : Int
  name : ByteArray
  data : Sl
@[reducible] def RecV.cells (r : RecV) : List Value := [.int .i64 r.v, .int .i64 r.kind, .int .i64 r.saga, .int .i64 r.step, .int .i64 r.try_, .int .i64 r.at_, .int .i64 r.last, .int .i64 r.code, .int .i64 r.count, .int .i64 r.pivot, .string r.name, r.data.v]
@[reducible] def RecV.val (r : RecV) : Value := .agg #[.int .i64 r.v, .int .i64 r.kind, .int .i64 r.saga, .int .i64 r.step, .int .i64 r.try_, .int .i64 r.at_, .int .i64 r.last, .int .i64 r.code, .int .i64 r.count, .int .i64 r.pivot, .string r.name, r.data.v]

/-- A saga's words. -/
structure SagaV where
  id : Int
  name : ByteArray
  count : Int
  pivot : Int
  begun : Int
  at_ : Int
  input : Sl
  phase : Int
  next : Int
  flight : Bool
  tries : Int
  outs : Sl
  undos : Sl
  failStep : Int
  failCode : Int
  fail : Sl
@[reducible] def SagaV.val (s : SagaV) : Value := .agg #[.int .i64 s.id, .string s.name, .int .i64 s.count, .int .i64 s.pivot, .int .i64 s.begun, .int .i64 s.at_, s.input.v, .int .i64 s.phase, .int .i64 s.next, .bool s.flight, .int .i64 s.tries, s.outs.v, s.undos.v, .int .i64 s.failStep, .int .i64 s.failCode, s.fail.v]

/-- The words of such a value at a block, from a place on. -/
structure SagaIn (w : World) (g o : Nat) (s : SagaV) : Prop where
  c0 : w.cell? ⟨g, o, none⟩ = some (.int .i64 s.id)
  c1 : w.cell? ⟨g, o + 1, none⟩ = some (.string s.name)
  c2 : w.cell? ⟨g, o + 2, none⟩ = some (.int .i64 s.count)
  c3 : w.cell? ⟨g, o + 3, none⟩ = some (.int .i64 s.pivot)
  c4 : w.cell? ⟨g, o + 4, none⟩ = some (.int .i64 s.begun)
  c5 : w.cell? ⟨g, o + 5, none⟩ = some (.int .i64 s.at_)
  c6 : w.cell? ⟨g, o + 6, none⟩ = some (s.input.v)
  c7 : w.cell? ⟨g, o + 7, none⟩ = some (.int .i64 s.phase)
  c8 : w.cell? ⟨g, o + 8, none⟩ = some (.int .i64 s.next)
  c9 : w.cell? ⟨g, o + 9, none⟩ = some (.bool s.flight)
  c10 : w.cell? ⟨g, o + 10, none⟩ = some (.int .i64 s.tries)
  c11 : w.cell? ⟨g, o + 11, none⟩ = some (s.outs.v)
  c12 : w.cell? ⟨g, o + 12, none⟩ = some (s.undos.v)
  c13 : w.cell? ⟨g, o + 13, none⟩ = some (.int .i64 s.failStep)
  c14 : w.cell? ⟨g, o + 14, none⟩ = some (.int .i64 s.failCode)
  c15 : w.cell? ⟨g, o + 15, none⟩ = some (s.fail.v)
theorem SagaIn.below {w w' : World} {g o : Nat} {s : SagaV} (h : SagaIn w g o s) (hb : Below w.heap.size w w') : SagaIn w' g o s :=
  ⟨(hb.cell (World.block_lt_of_cell? w _ h.c0)).trans h.c0, (hb.cell (World.block_lt_of_cell? w _ h.c1)).trans h.c1, (hb.cell (World.block_lt_of_cell? w _ h.c2)).trans h.c2, (hb.cell (World.block_lt_of_cell? w _ h.c3)).trans h.c3, (hb.cell (World.block_lt_of_cell? w _ h.c4)).trans h.c4, (hb.cell (World.block_lt_of_cell? w _ h.c5)).trans h.c5, (hb.cell (World.block_lt_of_cell? w _ h.c6)).trans h.c6, (hb.cell (World.block_lt_of_cell? w _ h.c7)).trans h.c7, (hb.cell (World.block_lt_of_cell? w _ h.c8)).trans h.c8, (hb.cell (World.block_lt_of_cell? w _ h.c9)).trans h.c9, (hb.cell (World.block_lt_of_cell? w _ h.c10)).trans h.c10, (hb.cell (World.block_lt_of_cell? w _ h.c11)).trans h.c11, (hb.cell (World.block_lt_of_cell? w _ h.c12)).trans h.c12, (hb.cell (World.block_lt_of_cell? w _ h.c13)).trans h.c13, (hb.cell (World.block_lt_of_cell? w _ h.c14)).trans h.c14, (hb.cell (World.block_lt_of_cell? w _ h.c15)).trans h.c15⟩

/-- The words of such a value at a block, from a place on. -/
structure RecIn (w : World) (g o : Nat) (r : RecV) : Prop where
  c0 : w.cell? ⟨g, o, none⟩ = some (.int .i64 r.v)
  c1 : w.cell? ⟨g, o + 1, none⟩ = some (.int .i64 r.kind)
  c2 : w.cell? ⟨g, o + 2, none⟩ = some (.int .i64 r.saga)
  c3 : w.cell? ⟨g, o + 3, none⟩ = some (.int .i64 r.step)
  c4 : w.cell? ⟨g, o + 4, none⟩ = some (.int .i64 r.try_)
  c5 : w.cell? ⟨g, o + 5, none⟩ = some (.int .i64 r.at_)
  c6 : w.cell? ⟨g, o + 6, none⟩ = some (.int .i64 r.last)
  c7 : w.cell? ⟨g, o + 7, none⟩ = some (.int .i64 r.code)
  c8 : w.cell? ⟨g, o + 8, none⟩ = some (.int .i64 r.count)
  c9 : w.cell? ⟨g, o + 9, none⟩ = some (.int .i64 r.pivot)
  c10 : w.cell? ⟨g, o + 10, none⟩ = some (.string r.name)
  c11 : w.cell? ⟨g, o + 11, none⟩ = some (r.data.v)
theorem RecIn.below {w w' : World} {g o : Nat} {r : RecV} (h : RecIn w g o r) (hb : Below w.heap.size w w') : RecIn w' g o r :=
  ⟨(hb.cell (World.block_lt_of_cell? w _ h.c0)).trans h.c0, (hb.cell (World.block_lt_of_cell? w _ h.c1)).trans h.c1, (hb.cell (World.block_lt_of_cell? w _ h.c2)).trans h.c2, (hb.cell (World.block_lt_of_cell? w _ h.c3)).trans h.c3, (hb.cell (World.block_lt_of_cell? w _ h.c4)).trans h.c4, (hb.cell (World.block_lt_of_cell? w _ h.c5)).trans h.c5, (hb.cell (World.block_lt_of_cell? w _ h.c6)).trans h.c6, (hb.cell (World.block_lt_of_cell? w _ h.c7)).trans h.c7, (hb.cell (World.block_lt_of_cell? w _ h.c8)).trans h.c8, (hb.cell (World.block_lt_of_cell? w _ h.c9)).trans h.c9, (hb.cell (World.block_lt_of_cell? w _ h.c10)).trans h.c10, (hb.cell (World.block_lt_of_cell? w _ h.c11)).trans h.c11⟩

theorem SagaIn.new (w : World) (s : SagaV) (t : TypeId) : SagaIn (w.alloc (.cells #[.int .i64 s.id, .string s.name, .int .i64 s.count, .int .i64 s.pivot, .int .i64 s.begun, .int .i64 s.at_, s.input.v, .int .i64 s.phase, .int .i64 s.next, .bool s.flight, .int .i64 s.tries, s.outs.v, s.undos.v, .int .i64 s.failStep, .int .i64 s.failCode, s.fail.v] t)) w.heap.size 0 s := by
  constructor <;> simp
theorem RecIn.new (w : World) (r : RecV) (t : TypeId) : RecIn (w.alloc (.cells #[.int .i64 r.v, .int .i64 r.kind, .int .i64 r.saga, .int .i64 r.step, .int .i64 r.try_, .int .i64 r.at_, .int .i64 r.last, .int .i64 r.code, .int .i64 r.count, .int .i64 r.pivot, .string r.name, r.data.v] t)) w.heap.size 0 r := by
  constructor <;> simp
theorem RowAt.of_lit2 (w : World) (a b : Value) (t : TypeId) : RowAt (w.alloc (.cells #[a, b] t)) ⟨some ⟨w.heap.size, 0, none⟩, 2, 2⟩ [a, b] := by
  refine ⟨rfl, ⟨by simp, fun h => by cases h⟩, fun _ => ⟨w.heap.size, 0, rfl, fun i hi => ?_⟩⟩
  match i, hi with
  | 0, _ => simp
  | 1, _ => simp
end Go.Proofs.YteaiadpigpehaaaDoor
