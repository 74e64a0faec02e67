/-
  What a row of cells, a list of bytes, a list of lists, a record and a saga are in a world.
  saga.forward, back walked.
  saga.small walked: whether no list of a row of lists is above the bound.
  saga.plain walked: whether the fields of a saga keep their bounds.
  saga.Check and saga.Finished walked.
  record.stands, number, zero, within, label, bounds walked.
  record.Check walked: whether a record is valid in its version.
  Appending a row that is read to a row of one's own, whether nil or not: a law for the walk; what an own row holds.
  saga.bytesOf and record.Clone walked: a copy of bytes and of a record, in new memory.
  saga.lists walked: a copy of a list of lists of bytes, in new memory.
  Conditions: as each theorem says. (Joined by wip/tools/pack.py.)
-/
import Derived.Test.YtfbaliimjmimhaaDoorPkText
import Derived.Laws.BytesArg
import Derived.Laws.AppendOwn
import Derived.Laws.AppendOwnNone
namespace Go.Proofs.YtfbaliimjmimhaaDoor
open Go.RowKit

theorem boxd {w a : World} {o : Obj} (h : Below w.heap.size w a) : Below w.heap.size w (a.alloc o) := h.alloc (by have := h.size; omega) _

/-- A slice's three words. -/
structure Sl where
  a : Option Addr
  n : Nat
  c : Nat
@[reducible] def Sl.v (s : Sl) : Value := .slice s.a s.n s.c

/-- The values that a slice holds. -/
def RowAt (w : World) (s : Sl) (vs : List Value) : Prop :=
  s.n = vs.length ∧ (s.n ≤ 9223372036854775807 ∧ (s.a = none → s.c = 0)) ∧ (0 < s.n → ∃ b o, s.a = some ⟨b, o, none⟩ ∧ ∀ i, i < s.n → w.cell? ⟨b, o + i, none⟩ = vs[i]?)
theorem RowAt.below {w w' : World} {s : Sl} {vs : List Value} (h : RowAt w s vs) (hb : Below w.heap.size w w') : RowAt w' s vs := by
  refine ⟨h.1, h.2.1, fun h0 => ?_⟩
  obtain ⟨b, o, e, hc⟩ := h.2.2 h0
  refine ⟨b, o, e, fun i hi => ?_⟩
  have hi' : i < vs.length := by have := h.1; omega
  have hci := hc i hi
  rw [List.getElem?_eq_getElem hi'] at hci ⊢
  exact (hb.cell (World.block_lt_of_cell? w _ hci)).trans hci
theorem RowAt.nil (w : World) (c : Nat) (a : Option Addr) (hc : a = none → c = 0) : RowAt w ⟨a, 0, c⟩ [] := ⟨rfl, ⟨by simp, hc⟩, fun h => absurd h (by simp)⟩
theorem RowAt.len {w : World} {s : Sl} {vs : List Value} (h : RowAt w s vs) : s.n = vs.length := h.1

def byteCells (b : List Int) : List Value := b.map (Value.int .u8)
/-- The bytes that a slice of bytes holds. -/
def BytesAt (w : World) (s : Sl) (b : List Int) : Prop := RowAt w s (byteCells b)
theorem BytesAt.below {w w' : World} {s : Sl} {b : List Int} (h : BytesAt w s b) (hb : Below w.heap.size w w') : BytesAt w' s b := RowAt.below h hb
theorem BytesAt.len {w : World} {s : Sl} {b : List Int} (h : BytesAt w s b) : s.n = b.length := by
  have := RowAt.len h; rw [this]; simp [byteCells]

/-- The lists of bytes that a slice of such slices holds. -/
def ListsAt (w : World) (s : Sl) (ls : List (List Int)) : Prop :=
  ∃ vs : List Sl, RowAt w s (vs.map Sl.v) ∧ vs.length = ls.length ∧ ∀ i (h1 : i < vs.length) (h2 : i < ls.length), BytesAt w vs[i] ls[i]
theorem ListsAt.below {w w' : World} {s : Sl} {b : List (List Int)} (h : ListsAt w s b) (hb : Below w.heap.size w w') : ListsAt w' s b := by
  obtain ⟨vs, h1, h2, h3⟩ := h
  exact ⟨vs, h1.below hb, h2, fun i a b => (h3 i a b).below hb⟩
theorem ListsAt.len {w : World} {s : Sl} {b : List (List Int)} (h : ListsAt w s b) : s.n = b.length := by
  obtain ⟨vs, h1, h2, _⟩ := h
  have := h1.len; rw [this]; simp [h2]

/-- A record's words. -/
structure RecV where
  v : Int
  kind : Int
  saga : Int
  step : Int
  try_ : Int
  at_ : Int
  last : Int
  code : Int
  count : Int
  pivot : Int
  name : ByteArray
  data : Sl
@[reducible] def RecV.cells (r : RecV) : List Value := [.int .i64 r.v, .int .i64 r.kind, .int .i64 r.saga, .int .i64 r.step, .int .i64 r.try_, .int .i64 r.at_, .int .i64 r.last, .int .i64 r.code, .int .i64 r.count, .int .i64 r.pivot, .string r.name, r.data.v]
@[reducible] def RecV.val (r : RecV) : Value := .agg #[.int .i64 r.v, .int .i64 r.kind, .int .i64 r.saga, .int .i64 r.step, .int .i64 r.try_, .int .i64 r.at_, .int .i64 r.last, .int .i64 r.code, .int .i64 r.count, .int .i64 r.pivot, .string r.name, r.data.v]

/-- A saga's words. -/
structure SagaV where
  id : Int
  name : ByteArray
  count : Int
  pivot : Int
  begun : Int
  at_ : Int
  input : Sl
  phase : Int
  next : Int
  flight : Bool
  tries : Int
  outs : Sl
  undos : Sl
  failStep : Int
  failCode : Int
  fail : Sl
@[reducible] def SagaV.val (s : SagaV) : Value := .agg #[.int .i64 s.id, .string s.name, .int .i64 s.count, .int .i64 s.pivot, .int .i64 s.begun, .int .i64 s.at_, s.input.v, .int .i64 s.phase, .int .i64 s.next, .bool s.flight, .int .i64 s.tries, s.outs.v, s.undos.v, .int .i64 s.failStep, .int .i64 s.failCode, s.fail.v]

/-- The words of such a value at a block, from a place on. -/
structure SagaIn (w : World) (g o : Nat) (s : SagaV) : Prop where
  c0 : w.cell? ⟨g, o, none⟩ = some (.int .i64 s.id)
  c1 : w.cell? ⟨g, o + 1, none⟩ = some (.string s.name)
  c2 : w.cell? ⟨g, o + 2, none⟩ = some (.int .i64 s.count)
  c3 : w.cell? ⟨g, o + 3, none⟩ = some (.int .i64 s.pivot)
  c4 : w.cell? ⟨g, o + 4, none⟩ = some (.int .i64 s.begun)
  c5 : w.cell? ⟨g, o + 5, none⟩ = some (.int .i64 s.at_)
  c6 : w.cell? ⟨g, o + 6, none⟩ = some (s.input.v)
  c7 : w.cell? ⟨g, o + 7, none⟩ = some (.int .i64 s.phase)
  c8 : w.cell? ⟨g, o + 8, none⟩ = some (.int .i64 s.next)
  c9 : w.cell? ⟨g, o + 9, none⟩ = some (.bool s.flight)
  c10 : w.cell? ⟨g, o + 10, none⟩ = some (.int .i64 s.tries)
  c11 : w.cell? ⟨g, o + 11, none⟩ = some (s.outs.v)
  c12 : w.cell? ⟨g, o + 12, none⟩ = some (s.undos.v)
  c13 : w.cell? ⟨g, o + 13, none⟩ = some (.int .i64 s.failStep)
  c14 : w.cell? ⟨g, o + 14, none⟩ = some (.int .i64 s.failCode)
  c15 : w.cell? ⟨g, o + 15, none⟩ = some (s.fail.v)
theorem SagaIn.below {w w' : World} {g o : Nat} {s : SagaV} (h : SagaIn w g o s) (hb : Below w.heap.size w w') : SagaIn w' g o s :=
  ⟨(hb.cell (World.block_lt_of_cell? w _ h.c0)).trans h.c0, (hb.cell (World.block_lt_of_cell? w _ h.c1)).trans h.c1, (hb.cell (World.block_lt_of_cell? w _ h.c2)).trans h.c2, (hb.cell (World.block_lt_of_cell? w _ h.c3)).trans h.c3, (hb.cell (World.block_lt_of_cell? w _ h.c4)).trans h.c4, (hb.cell (World.block_lt_of_cell? w _ h.c5)).trans h.c5, (hb.cell (World.block_lt_of_cell? w _ h.c6)).trans h.c6, (hb.cell (World.block_lt_of_cell? w _ h.c7)).trans h.c7, (hb.cell (World.block_lt_of_cell? w _ h.c8)).trans h.c8, (hb.cell (World.block_lt_of_cell? w _ h.c9)).trans h.c9, (hb.cell (World.block_lt_of_cell? w _ h.c10)).trans h.c10, (hb.cell (World.block_lt_of_cell? w _ h.c11)).trans h.c11, (hb.cell (World.block_lt_of_cell? w _ h.c12)).trans h.c12, (hb.cell (World.block_lt_of_cell? w _ h.c13)).trans h.c13, (hb.cell (World.block_lt_of_cell? w _ h.c14)).trans h.c14, (hb.cell (World.block_lt_of_cell? w _ h.c15)).trans h.c15⟩

/-- The words of such a value at a block, from a place on. -/
structure RecIn (w : World) (g o : Nat) (r : RecV) : Prop where
  c0 : w.cell? ⟨g, o, none⟩ = some (.int .i64 r.v)
  c1 : w.cell? ⟨g, o + 1, none⟩ = some (.int .i64 r.kind)
  c2 : w.cell? ⟨g, o + 2, none⟩ = some (.int .i64 r.saga)
  c3 : w.cell? ⟨g, o + 3, none⟩ = some (.int .i64 r.step)
  c4 : w.cell? ⟨g, o + 4, none⟩ = some (.int .i64 r.try_)
  c5 : w.cell? ⟨g, o + 5, none⟩ = some (.int .i64 r.at_)
  c6 : w.cell? ⟨g, o + 6, none⟩ = some (.int .i64 r.last)
  c7 : w.cell? ⟨g, o + 7, none⟩ = some (.int .i64 r.code)
  c8 : w.cell? ⟨g, o + 8, none⟩ = some (.int .i64 r.count)
  c9 : w.cell? ⟨g, o + 9, none⟩ = some (.int .i64 r.pivot)
  c10 : w.cell? ⟨g, o + 10, none⟩ = some (.string r.name)
  c11 : w.cell? ⟨g, o + 11, none⟩ = some (r.data.v)
theorem RecIn.below {w w' : World} {g o : Nat} {r : RecV} (h : RecIn w g o r) (hb : Below w.heap.size w w') : RecIn w' g o r :=
  ⟨(hb.cell (World.block_lt_of_cell? w _ h.c0)).trans h.c0, (hb.cell (World.block_lt_of_cell? w _ h.c1)).trans h.c1, (hb.cell (World.block_lt_of_cell? w _ h.c2)).trans h.c2, (hb.cell (World.block_lt_of_cell? w _ h.c3)).trans h.c3, (hb.cell (World.block_lt_of_cell? w _ h.c4)).trans h.c4, (hb.cell (World.block_lt_of_cell? w _ h.c5)).trans h.c5, (hb.cell (World.block_lt_of_cell? w _ h.c6)).trans h.c6, (hb.cell (World.block_lt_of_cell? w _ h.c7)).trans h.c7, (hb.cell (World.block_lt_of_cell? w _ h.c8)).trans h.c8, (hb.cell (World.block_lt_of_cell? w _ h.c9)).trans h.c9, (hb.cell (World.block_lt_of_cell? w _ h.c10)).trans h.c10, (hb.cell (World.block_lt_of_cell? w _ h.c11)).trans h.c11⟩

theorem SagaIn.new (w : World) (s : SagaV) (t : TypeId) : SagaIn (w.alloc (.cells #[.int .i64 s.id, .string s.name, .int .i64 s.count, .int .i64 s.pivot, .int .i64 s.begun, .int .i64 s.at_, s.input.v, .int .i64 s.phase, .int .i64 s.next, .bool s.flight, .int .i64 s.tries, s.outs.v, s.undos.v, .int .i64 s.failStep, .int .i64 s.failCode, s.fail.v] t)) w.heap.size 0 s := by
  constructor <;> simp
theorem RecIn.new (w : World) (r : RecV) (t : TypeId) : RecIn (w.alloc (.cells #[.int .i64 r.v, .int .i64 r.kind, .int .i64 r.saga, .int .i64 r.step, .int .i64 r.try_, .int .i64 r.at_, .int .i64 r.last, .int .i64 r.code, .int .i64 r.count, .int .i64 r.pivot, .string r.name, r.data.v] t)) w.heap.size 0 r := by
  constructor <;> simp
theorem RowAt.of_lit2 (w : World) (a b : Value) (t : TypeId) : RowAt (w.alloc (.cells #[a, b] t)) ⟨some ⟨w.heap.size, 0, none⟩, 2, 2⟩ [a, b] := by
  refine ⟨rfl, ⟨by simp, fun h => by cases h⟩, fun _ => ⟨w.heap.size, 0, rfl, fun i hi => ?_⟩⟩
  match i, hi with
  | 0, _ => simp
  | 1, _ => simp
end Go.Proofs.YtfbaliimjmimhaaDoor
namespace Go.Proofs.YtfbaliimjmimhaaDoor
open Go.RowKit

def forwardB (s : SagaV) : Bool := decide (s.undos.n = 0 ∧ s.failStep = 0 ∧ s.failCode = 0 ∧ s.fail.n = 0 ∧ 0 ≤ s.next ∧ s.next ≤ s.count ∧ (s.outs.n : Int) = s.next ∧ (s.phase = 3 → s.next = s.count) ∧ (s.next = s.count → s.tries = 0) ∧ (s.next ≠ s.count → (s.next > 0 ∨ s.tries > 0 ∨ s.at_ = s.begun)))
def backB (s : SagaV) : Bool := decide (s.failStep = s.outs.n ∧ s.failStep < s.count ∧ (s.pivot > 0 → s.failStep < s.pivot) ∧ 0 ≤ s.next ∧ s.next ≤ s.failStep ∧ (s.undos.n : Int) = s.failStep - s.next ∧ (s.phase = 4 → s.next = 0) ∧ (s.next > 0 ∨ s.tries = 0))

set_option maxRecDepth 100000 in
set_option maxHeartbeats 4000000 in
theorem forward_any (s : SagaV) (w : World) : Calls Tryd.prog 31 #[s.val] w fun e w' => e = .returned (.bool (forwardB s)) ∧ Below w.heap.size w w' := by
  have hb : Below w.heap.size w w := Below.refl _ _
  obtain ⟨id, name, count, pivot, begun, at_, ⟨ia, il, ic⟩, phase, next, flight, tries, ⟨oa, ol, oc⟩, ⟨ua, ul, uc⟩, fs, fc, ⟨fa, fl, fcap⟩⟩ := s
  go_enter Tryd.func31, Tryd.ntmps31
  go_wp2
  all_goals go_ret
  all_goals refine ⟨ret_bool ?_, boxd hb⟩
  all_goals (rw [Bool.eq_iff_iff]; simp [forwardB] at *; omega)

set_option maxRecDepth 100000 in
set_option maxHeartbeats 4000000 in
theorem back_any (s : SagaV) (w : World) (h1 : s.next ≤ 9223372036854775807) (h2 : s.failStep ≤ 9223372036854775807): Calls Tryd.prog 32 #[s.val] w fun e w' => e = .returned (.bool (backB s)) ∧ Below w.heap.size w w' := by
  have hb : Below w.heap.size w w := Below.refl _ _
  obtain ⟨id, name, count, pivot, begun, at_, ⟨ia, il, ic⟩, phase, next, flight, tries, ⟨oa, ol, oc⟩, ⟨ua, ul, uc⟩, fs, fc, ⟨fa, fl, fcap⟩⟩ := s
  go_enter Tryd.func32, Tryd.ntmps32
  go_wp2
  all_goals go_ret
  all_goals refine ⟨ret_bool ?_, boxd hb⟩
  all_goals (rw [Bool.eq_iff_iff]; simp [backB] at *; (try unfold wrap64 at *); omega)
end Go.Proofs.YtfbaliimjmimhaaDoor
namespace Go.Proofs.YtfbaliimjmimhaaDoor
open Go.RowKit

def bigOne (v : Sl) : Bool := decide (16384 < v.n)
def smallB (vs : List Sl) : Bool := !vs.any bigOne
def nilSl : Sl := ⟨none, 0, 0⟩

theorem row_get {w : World} {l : Sl} {vs : List Sl} (h : RowAt w l (vs.map Sl.v)) {j : Nat} (hj : j < vs.length) : ∃ b o, l.a = some ⟨b, o, none⟩ ∧ w.cell? ⟨b, o + j, none⟩ = some (vs.getD j nilSl).v := by
  have hl := h.1
  rw [List.length_map] at hl
  obtain ⟨b, o, e, hc⟩ := h.2.2 (by omega)
  refine ⟨b, o, e, ?_⟩
  rw [hc j (by omega)]
  simp [List.getD, hj]

set_option maxRecDepth 100000 in
set_option maxHeartbeats 1000000 in
theorem small_any (l : Sl) (vs : List Sl) (w : World) (h : RowAt w l (vs.map Sl.v)) : Calls Tryd.prog 47 #[l.v] w fun e w' => e = .returned (.bool (smallB vs)) ∧ w' = w := by
  have hl := h.1
  rw [List.length_map] at hl
  have hmax := h.2.1.1
  have H := Lib.hid (fun j hj => row_get h (j := j) hj)
  clear h
  obtain ⟨a, n, c⟩ := l
  simp only at hl hmax
  subst hl
  dsimp only [Sl.v]
  unfold smallB
  go_enter Tryd.func47, Tryd.ntmps47
  go_wp2
  go_loop [7] (fun i => ∃ j : Nat, j ≤ vs.length ∧ i = .int .i64 j ∧ Hid ((vs.take j).any bigOne = false)) (fun i => vs.length - (intOf i).toNat)
  case atStart => exact ⟨0, by omega, rfl, Lib.hid (by simp)⟩
  case round =>
    obtain ⟨j, hj, rfl, HN⟩ := hrel
    by_cases hlt : j < vs.length
    · obtain ⟨b, o, hA, hc⟩ := H.out j hlt
      subst hA
      have ha := Lib.hid (any_take vs bigOne nilSl j hlt)
      have hb := Lib.hid (any_at vs bigOne nilSl j hlt)
      obtain ⟨⟨va, vn, vc⟩, hv⟩ : ∃ x, vs.getD j nilSl = x := ⟨_, rfl⟩
      rw [hv] at hc ha hb
      clear hv
      dsimp only [Sl.v] at hc
      by_cases hbig : 16384 < vn
      · have hr := Lib.hid (hb.out (by simp [bigOne, hbig]))
        clear ha hb
        go_wp2
        all_goals go_ret
        all_goals exact ⟨ret_bool (by rw [hr.out]; rfl), rfl⟩
      · have hr : Hid ((vs.take (j + 1)).any bigOne = false) := Lib.hid (by rw [ha.out, HN.out]; simp [bigOne, hbig])
        clear ha hb HN
        go_wp2
        all_goals go_round
        case rel => exact ⟨j + 1, by omega, by go_num, hr⟩
        case measure => simp [intOf]; omega
    · obtain rfl : j = vs.length := by omega
      have hr : Hid (vs.any bigOne = false) := Lib.hid (by have := HN.out; rwa [List.take_length] at this)
      go_wp2
      all_goals go_ret
      all_goals exact ⟨ret_bool (by rw [hr.out]; rfl), rfl⟩
end Go.Proofs.YtfbaliimjmimhaaDoor
namespace Go.Proofs.YtfbaliimjmimhaaDoor
open Go.RowKit

def plainNum (s : SagaV) : Bool := decide (1 ≤ s.id ∧ (nameA s.name).1 = 0 ∧ 1 ≤ s.count ∧ s.count ≤ 32 ∧ 0 ≤ s.pivot ∧ s.pivot ≤ s.count ∧ 0 ≤ s.begun ∧ 0 ≤ s.at_ ∧ 1 ≤ s.phase ∧ s.phase ≤ 4 ∧ 0 ≤ s.tries ∧ s.tries ≤ 1000 ∧ (s.flight = true → s.tries ≠ 0))
def plainB (s : SagaV) (outs undos : List Sl) : Bool := plainNum s && (smallB [s.input, s.fail] && (smallB outs && smallB undos))
theorem small_is {l : Sl} {vs : List Sl} {b : Bool} (hb : smallB vs = b) (w : World) (h : RowAt w l (vs.map Sl.v)) : Calls Tryd.prog 47 #[l.v] w fun e w' => e = .returned (.bool b) ∧ w' = w := by
  rw [← hb]; exact small_any l vs w h

set_option maxRecDepth 10000000 in
set_option maxHeartbeats 4000000 in
theorem plain_any (s : SagaV) (outs undos : List Sl) (w : World) (hn : s.name.size ≤ 4611686018427387904) (hu : U8 w) (ht : LT w) (ho : RowAt w s.outs (outs.map Sl.v)) (hv : RowAt w s.undos (undos.map Sl.v)) :
    Calls Tryd.prog 30 #[s.val] w fun e w' => e = .returned (.bool (plainB s outs undos)) ∧ Below w.heap.size w w' := by
  have HU := Lib.hid hu
  have HT := Lib.hid ht
  have HO := Lib.hid ho
  have HV := Lib.hid hv
  clear hu ht ho hv
  have hS := Lib.hid (SagaIn.new w s 40)
  have cN := fun w hu ht => name_any s.name w hn hu ht
  obtain ⟨b1, hb1⟩ : ∃ x, smallB [s.input, s.fail] = x := ⟨_, rfl⟩
  obtain ⟨b2, hb2⟩ : ∃ x, smallB outs = x := ⟨_, rfl⟩
  obtain ⟨b3, hb3⟩ : ∃ x, smallB undos = x := ⟨_, rfl⟩
  have c1 := Lib.hid (fun w => small_is (l := ⟨some ⟨w.heap.size, 0, none⟩, 2, 2⟩) hb1 (w.alloc (.cells #[s.input.v, s.fail.v] 37)) (RowAt.of_lit2 w _ _ _))
  have c2 := Lib.hid (fun w h => small_is (l := s.outs) hb2 w h)
  have c3 := Lib.hid (fun w h => small_is (l := s.undos) hb3 w h)
  have hp : plainB s outs undos = (plainNum s && (b1 && (b2 && b3))) := by unfold plainB; rw [hb1, hb2, hb3]
  rw [hp]
  clear hb1 hb2 hb3 hp
  have hnum : plainNum s = plainNum s := rfl
  conv at hnum => rhs; unfold plainNum
  obtain ⟨E, hE⟩ : ∃ x, (nameA s.name).1 = x := ⟨_, rfl⟩
  obtain ⟨E2, hE2⟩ : ∃ x, (nameA s.name).2 = x := ⟨_, rfl⟩
  rw [hE] at hnum
  rw [hE, hE2] at cN
  have CN := Lib.hid cN
  clear cN hE hE2
  obtain ⟨N, hN⟩ : ∃ x, plainNum s = x := ⟨_, rfl⟩
  rw [hN] at hnum
  rw [hN]
  clear hN
  obtain ⟨id, name, count, pivot, begun, at_, ⟨ia, il, ic⟩, phase, next, flight, tries, ⟨oa, ol, oc⟩, ⟨ua, ul, uc⟩, fs, fc, ⟨fa, fl, fcap⟩⟩ := s
  simp only at hnum
  dsimp only [Sl.v] at c1 c2 c3 hS
  dsimp only [SagaV.val, Sl.v]
  have HQ := Lib.hid hnum
  clear hnum
  go_enter Tryd.func30, Tryd.ntmps30
  go_wp2_with fail
  refine (CN.out _ (u8_below HU.out (boxd (Below.refl _ _))) (PairsAt.below HT.out (boxd (Below.refl _ _)))).mono ?_
  rintro e w2 ⟨rfl, hb⟩
  have HB2 := Lib.hid (then_ (boxd (Below.refl _ _)) hb)
  have HI := Lib.hid (SagaIn.below hS.out hb)
  obtain ⟨i0, i1, i2, i3, i4, i5, i6, i7, i8, i9, i10, i11, i12, i13, i14, i15⟩ := HI.out
  simp only [Nat.zero_add] at i0 i1 i2 i3 i4 i5 i6 i7 i8 i9 i10 i11 i12 i13 i14 i15
  dsimp only [Sl.v] at i6 i11 i12 i15
  clear hb hS
  go_wp2_with (first
    | (go_at_call 47; (with_reducible refine (c1.out _).mono ?_); rintro e w3 ⟨rfl, rfl⟩; have HJ : SagaIn (w2.alloc (.cells #[.slice ia il ic, .slice fa fl fcap] 37)) w.heap.size 0 _ := SagaIn.below HI.out (boxd (Below.refl _ _)); have j11 := HJ.c11; have j12 := HJ.c12; clear HJ; simp only [Nat.zero_add] at j11 j12; dsimp only [Sl.v] at j11 j12)
    | (go_at_call 47; (with_reducible refine (c2.out _ (RowAt.below HO.out (boxd HB2.out))).mono ?_); rintro e w3 ⟨rfl, rfl⟩)
    | (go_at_call 47; (with_reducible refine (c3.out _ (RowAt.below HV.out (boxd HB2.out))).mono ?_); rintro e w3 ⟨rfl, rfl⟩))
  all_goals go_ret
  all_goals refine ⟨ret_bool ?_, by first | exact HB2.out | exact boxd HB2.out⟩
  all_goals (have hq := HQ.out; clear HQ HB2 HI HO HV HU HT CN c1 c2 c3 i0 i1 i2 i3 i4 i5 i6 i7 i8 i9 i10 i11 i12 i13 i14 i15)
  all_goals cases N
  all_goals simp at hq
  all_goals first
    | rfl
    | (simp_all; done)
    | (exfalso; omega)
    | (exfalso; simp at *; omega)
    | (exfalso; simp_all; done)
    | (exfalso; simp_all; omega)
    | (exfalso; cases flight <;> simp_all <;> omega)
end Go.Proofs.YtfbaliimjmimhaaDoor
namespace Go.Proofs.YtfbaliimjmimhaaDoor
open Go.RowKit

def fitB (s : SagaV) (outs undos : List Sl) : Bool := plainB s outs undos && (if s.phase = 1 ∨ s.phase = 3 then forwardB s else backB s)
def checkN (s : SagaV) (outs undos : List Sl) : Int := if fitB s outs undos = true then 0 else 100

/-- What a saga handed in is to be: its name and numbers as Go has them, its two rows of lists as they stand. -/
structure SagaOk (w : World) (s : SagaV) (outs undos : List Sl) : Prop where
  name : s.name.size ≤ 4611686018427387904
  next : s.next ≤ 9223372036854775807
  step : s.failStep ≤ 9223372036854775807
  outs : RowAt w s.outs (outs.map Sl.v)
  undos : RowAt w s.undos (undos.map Sl.v)
theorem SagaOk.below {w w' : World} {s : SagaV} {outs undos : List Sl} (h : SagaOk w s outs undos) (hb : Below w.heap.size w w') : SagaOk w' s outs undos := ⟨h.name, h.next, h.step, h.outs.below hb, h.undos.below hb⟩
/-- The tables that text.Name reads. -/
structure Tabs (w : World) : Prop where
  u8 : U8 w
  lt : LT w
theorem Tabs.below {w w' : World} (h : Tabs w) (hb : Below w.heap.size w w') : Tabs w' := ⟨u8_below h.u8 hb, PairsAt.below h.lt hb⟩

theorem plain_is {s : SagaV} {outs undos : List Sl} {b : Bool} (hb : plainB s outs undos = b) (w : World) (ht : Tabs w) (h : SagaOk w s outs undos) :
    Calls Tryd.prog 30 #[s.val] w fun e w' => e = .returned (.bool b) ∧ Below w.heap.size w w' := by
  rw [← hb]; exact plain_any s outs undos w h.name ht.u8 ht.lt h.outs h.undos

set_option maxRecDepth 10000000 in
set_option maxHeartbeats 4000000 in
theorem sagaCheck_any (s : SagaV) (outs undos : List Sl) (w : World) (ht : Tabs w) (h : SagaOk w s outs undos) :
    Calls Tryd.prog 17 #[s.val] w fun e w' => e = .returned (.int .i64 (checkN s outs undos)) ∧ Below w.heap.size w w' := by
  have HT := Lib.hid ht
  have HO := Lib.hid h
  have hn1 := h.next
  have hn2 := h.step
  clear ht h
  have hS := Lib.hid (SagaIn.new w s 40)
  obtain ⟨b1, hb1⟩ : ∃ x, plainB s outs undos = x := ⟨_, rfl⟩
  obtain ⟨b2, hb2⟩ : ∃ x, forwardB s = x := ⟨_, rfl⟩
  obtain ⟨b3, hb3⟩ : ∃ x, backB s = x := ⟨_, rfl⟩
  have c1 := Lib.hid (fun w ht h => plain_is hb1 w ht h)
  have c2 := Lib.hid (fun w => forward_any s w)
  have c3 := Lib.hid (fun w => back_any s w hn1 hn2)
  rw [hb2] at c2
  rw [hb3] at c3
  have hv : checkN s outs undos = if (b1 && (if s.phase = 1 ∨ s.phase = 3 then b2 else b3)) = true then 0 else 100 := by unfold checkN fitB; rw [hb1, hb2, hb3]
  rw [hv]
  clear hb1 hb2 hb3 hv hn1 hn2
  obtain ⟨id, name, count, pivot, begun, at_, ⟨ia, il, ic⟩, phase, next, flight, tries, ⟨oa, ol, oc⟩, ⟨ua, ul, uc⟩, fs, fc, ⟨fa, fl, fcap⟩⟩ := s
  dsimp only [SagaV.val, Sl.v] at c1 c2 c3 hS
  dsimp only [SagaV.val, Sl.v]
  go_enter Tryd.func17, Tryd.ntmps17
  go_wp2_with fail
  refine (c1.out _ (HT.out.below (boxd (Below.refl _ _))) (HO.out.below (boxd (Below.refl _ _)))).mono ?_
  rintro e w2 ⟨rfl, hb⟩
  have HB2 := Lib.hid (then_ (boxd (Below.refl _ _)) hb)
  have HI := Lib.hid (SagaIn.below hS.out hb)
  obtain ⟨i0, i1, i2, i3, i4, i5, i6, i7, i8, i9, i10, i11, i12, i13, i14, i15⟩ := HI.out
  simp only [Nat.zero_add] at i0 i1 i2 i3 i4 i5 i6 i7 i8 i9 i10 i11 i12 i13 i14 i15
  dsimp only [Sl.v] at i6 i11 i12 i15
  clear hb hS c1 HT HO
  cases b1 with
  | false =>
    go_wp2
    all_goals go_ret
    all_goals exact ⟨ret_int (by simp), HB2.out⟩
  | true =>
    by_cases h1 : phase = 1
    · subst h1
      cases b2
      all_goals
        go_wp2_with (first
          | (go_at_call 31; (with_reducible refine (c2.out _).mono ?_); rintro e w3 ⟨rfl, hb⟩; have HB3 := Lib.hid (then_ HB2.out hb); clear HB2 hb; have HB2 := HB3; clear HB3)
          | (go_at_call 32; (with_reducible refine (c3.out _).mono ?_); rintro e w3 ⟨rfl, hb⟩; have HB3 := Lib.hid (then_ HB2.out hb); clear HB2 hb; have HB2 := HB3; clear HB3))
        all_goals go_ret
        all_goals refine ⟨ret_int ?_, HB2.out⟩
        all_goals simp_all
    by_cases h3 : phase = 3
    · subst h3
      cases b2
      all_goals
        go_wp2_with (first
          | (go_at_call 31; (with_reducible refine (c2.out _).mono ?_); rintro e w3 ⟨rfl, hb⟩; have HB3 := Lib.hid (then_ HB2.out hb); clear HB2 hb; have HB2 := HB3; clear HB3)
          | (go_at_call 32; (with_reducible refine (c3.out _).mono ?_); rintro e w3 ⟨rfl, hb⟩; have HB3 := Lib.hid (then_ HB2.out hb); clear HB2 hb; have HB2 := HB3; clear HB3))
        all_goals go_ret
        all_goals refine ⟨ret_int ?_, HB2.out⟩
        all_goals simp_all
    cases b3
    all_goals
      go_wp2_with (first
        | (go_at_call 31; (with_reducible refine (c2.out _).mono ?_); rintro e w3 ⟨rfl, hb⟩; have HB3 := Lib.hid (then_ HB2.out hb); clear HB2 hb; have HB2 := HB3; clear HB3)
        | (go_at_call 32; (with_reducible refine (c3.out _).mono ?_); rintro e w3 ⟨rfl, hb⟩; have HB3 := Lib.hid (then_ HB2.out hb); clear HB2 hb; have HB2 := HB3; clear HB3))
      all_goals go_ret
      all_goals refine ⟨ret_int ?_, HB2.out⟩
      all_goals simp_all
end Go.Proofs.YtfbaliimjmimhaaDoor
namespace Go.Proofs.YtfbaliimjmimhaaDoor
open Go.RowKit

def standsB (tags tag : Nat) : Bool := bits BinOp.and IntKind.u16 ((tags : Int) / 2 ^ tag) 1 == 1
def numberN (r : RecV) : Nat → Int
  | 1 => r.kind | 2 => r.saga | 3 => r.step | 4 => r.try_ | 5 => r.at_ | 6 => r.last | 7 => r.code | 8 => r.count | 9 => r.pivot | _ => 0
def zeroB (r : RecV) (tag : Nat) : Bool := if tag = 10 then r.name.toList.isEmpty else if tag = 11 then ((r.data.n : Int) == 0) else (numberN r tag == 0)
def withinN (n lo hi : Int) : Int := if n < lo ∨ hi < n then 34 else 0
def labelN (s : ByteArray) : Int := if (nameA s).1 = 0 then 0 else 35
def boundsN (r : RecV) (d : List Int) (tag : Nat) : Int :=
  if tag = 3 then (if r.v = 1 ∧ r.kind = 1 then withinN r.step 1 32 else withinN r.step 0 31)
  else if tag = 4 then withinN r.try_ 1 1000
  else if tag = 5 then withinN r.at_ 0 9223372036854775807
  else if tag = 6 then withinN r.last 0 1
  else if tag = 7 then (if r.kind = 7 then withinN r.code 0 2 else 0)
  else if tag = 8 then withinN r.count 1 32
  else if tag = 9 then withinN r.pivot 0 r.count
  else if tag = 10 then labelN r.name
  else if r.data.n > 16384 then 36
  else if r.v = 1 ∧ r.kind = 1 then labelN (strOfNums d) else 0

theorem stands_any (tags tag : Nat) (_h0 : tags < 65536) (h1 : tag < 12) (w : World) :
    Calls Tryd.prog 41 #[.int .u16 tags, .int .i64 tag] w fun e w' => e = .returned (.bool (standsB tags tag)) ∧ w' = w := by
  go_enter Tryd.func41, Tryd.ntmps41
  go_wp2
  all_goals go_ret
  all_goals exact ⟨rfl, rfl⟩

theorem recWithin_any (n lo hi : Int) (w : World) :
    Calls Tryd.prog 55 #[.int .i64 n, .int .i64 lo, .int .i64 hi] w fun e w' => e = .returned (.int .i64 (withinN n lo hi)) ∧ w' = w := by
  unfold withinN
  by_cases h1 : n < lo
  · rw [if_pos (.inl h1)]
    go_enter Tryd.func55, Tryd.ntmps55
    go_wp2
    all_goals go_ret
    all_goals exact ⟨rfl, rfl⟩
  by_cases h2 : hi < n
  · rw [if_pos (.inr h2)]
    go_enter Tryd.func55, Tryd.ntmps55
    go_wp2
    all_goals go_ret
    all_goals exact ⟨rfl, rfl⟩
  · rw [if_neg (by omega)]
    go_enter Tryd.func55, Tryd.ntmps55
    go_wp2
    all_goals go_ret
    all_goals exact ⟨rfl, rfl⟩

theorem label_any (s : ByteArray) (w : World) (hn : s.size ≤ 4611686018427387904) (ht : Tabs w) :
    Calls Tryd.prog 56 #[.string s] w fun e w' => e = .returned (.int .i64 (labelN s)) ∧ Below w.heap.size w w' := by
  have cN := name_any s w hn ht.u8 ht.lt
  unfold labelN
  obtain ⟨a, ha⟩ : ∃ x, (nameA s).1 = x := ⟨_, rfl⟩
  obtain ⟨b, hb⟩ : ∃ x, (nameA s).2 = x := ⟨_, rfl⟩
  rw [ha, hb] at cN
  rw [ha]
  have CN := Lib.hid cN
  clear cN ha hb
  by_cases h0 : a = 0
  · rw [if_pos h0]
    subst h0
    go_enter Tryd.func56, Tryd.ntmps56
    go_wp2_with (go_at_call 46; (with_reducible refine CN.out.mono ?_); rintro e w2 ⟨rfl, hb⟩)
    all_goals go_ret
    all_goals exact ⟨rfl, hb⟩
  · rw [if_neg h0]
    go_enter Tryd.func56, Tryd.ntmps56
    go_wp2_with (go_at_call 46; (with_reducible refine CN.out.mono ?_); rintro e w2 ⟨rfl, hb⟩)
    all_goals go_ret
    all_goals exact ⟨rfl, hb⟩

set_option maxRecDepth 100000 in
theorem number_any (g tag : Nat) (h1 : 3 ≤ tag) (h2 : tag ≤ 9) (w : World) :
    Calls Tryd.prog 54 #[.pointer (some ⟨g, 0, none⟩), .int .i64 tag] w fun e w' => e = .returned (.pointer (some ⟨g, tag, none⟩)) ∧ w' = w := by
  have h : tag = 3 ∨ tag = 4 ∨ tag = 5 ∨ tag = 6 ∨ tag = 7 ∨ tag = 8 ∨ tag = 9 := by omega
  rcases h with rfl | rfl | rfl | rfl | rfl | rfl | rfl
  all_goals
    clear h1 h2
    go_enter Tryd.func54, Tryd.ntmps54
    go_wp2
    all_goals go_ret
    all_goals exact ⟨rfl, rfl⟩

set_option maxRecDepth 100000 in
theorem zero_any (g tag : Nat) (r : RecV) (h1 : 3 ≤ tag) (h2 : tag ≤ 11) (w : World) (hr : RecIn w g 0 r) :
    Calls Tryd.prog 42 #[.pointer (some ⟨g, 0, none⟩), .int .i64 tag] w fun e w' => e = .returned (.bool (zeroB r tag)) ∧ w' = w := by
  have c := fun h1 h2 => number_any g tag h1 h2 w
  obtain ⟨c0, c1, c2, c3, c4, c5, c6, c7, c8, c9, c10, c11⟩ := hr
  obtain ⟨v, kind, saga, step, try_, at_, last, code, count, pivot, name, ⟨da, dn, dc⟩⟩ := r
  simp only [Nat.zero_add] at c0 c1 c2 c3 c4 c5 c6 c7 c8 c9 c10 c11
  dsimp only [Sl.v] at c11
  have h : tag = 3 ∨ tag = 4 ∨ tag = 5 ∨ tag = 6 ∨ tag = 7 ∨ tag = 8 ∨ tag = 9 ∨ tag = 10 ∨ tag = 11 := by omega
  rcases h with rfl | rfl | rfl | rfl | rfl | rfl | rfl | rfl | rfl
  all_goals
    first
    | (have c := c (by decide) (by decide); push_cast at c; have c := Lib.hid c)
    | clear c
    clear h1 h2
    go_enter Tryd.func42, Tryd.ntmps42
    go_wp2_with (go_at_call 54; (with_reducible refine c.out.mono ?_); rintro e w2 ⟨rfl, rfl⟩)
    all_goals go_ret
    all_goals exact ⟨rfl, rfl⟩

theorem bytes_string {P : Program} {w : World} {s : Sl} {d : List Int} {src dst e : TypeId} (h : BytesAt w s d) (hs : P.underlying src = some (.slice e)) (he : P.underlying e = some (.int .u8)) (hd : P.underlying dst = some .string) :
    (convert src dst s.v).run P w = .ok (.string (strOfNums d)) w := by
  have hl := h.len
  obtain ⟨_, _, hc⟩ := h
  obtain ⟨a, n, c⟩ := s
  simp only at hl hc
  by_cases h0 : n = 0
  · subst h0
    obtain rfl : d = [] := List.eq_nil_of_length_eq_zero hl.symm
    cases a with
    | none => exact run_convert_bytes_nil w src e hs he 0 c dst hd
    | some a =>
      rw [Sl.v, run_convert_bytes_string w src dst e _ 0 c hs he hd, run_bytesToString w a 0 c [] (by simp [loadCells, loadCellsFrom])]
      rfl
  · obtain ⟨b, o, rfl, hcc⟩ := hc (by omega)
    exact run_convert_bytes_arg w src e hs he b o n c d hl.symm (fun i hi => by
      rw [hcc i hi]
      simp [byteCells, List.getD, hl ▸ hi]) dst hd

theorem within_is {n lo hi r : Int} (h : withinN n lo hi = r) (w : World) : Calls Tryd.prog 55 #[.int .i64 n, .int .i64 lo, .int .i64 hi] w fun e w' => e = .returned (.int .i64 r) ∧ w' = w := by
  rw [← h]; exact recWithin_any n lo hi w

set_option maxRecDepth 10000000 in
set_option maxHeartbeats 4000000 in
theorem bounds_any (g tag : Nat) (r : RecV) (d : List Int) (h1 : 3 ≤ tag) (h2 : tag ≤ 11) (w : World) (hn : r.name.size ≤ 4611686018427387904) (ht : Tabs w) (hr : RecIn w g 0 r) (hd : BytesAt w r.data d) (hdl : d.length ≤ 4611686018427387904) :
    Calls Tryd.prog 43 #[.pointer (some ⟨g, 0, none⟩), .int .i64 tag] w fun e w' => e = .returned (.int .i64 (boundsN r d tag)) ∧ Below w.heap.size w w' := by
  have hlen := hd.len
  have hcv := bytes_string (P := Tryd.prog) (dst := 9) hd Tryd.underlying37 Tryd.underlying5 Tryd.underlying9
  obtain ⟨c0, c1, c2, c3, c4, c5, c6, c7, c8, c9, c10, c11⟩ := hr
  have cL := Lib.hid (label_any r.name w hn ht)
  have hB := Below.refl w.heap.size w
  have HT := Lib.hid ht
  obtain ⟨v, kind, saga, step, try_, at_, last, code, count, pivot, name, ⟨da, dn, dc⟩⟩ := r
  simp only [Nat.zero_add] at c0 c1 c2 c3 c4 c5 c6 c7 c8 c9 c10 c11
  dsimp only [Sl.v] at c11 hcv
  simp only at hlen hn
  clear hd ht
  subst hlen
  have hz : (strOfNums d).size ≤ 4611686018427387904 := by rw [strOfNums_size]; omega
  have h : tag = 3 ∨ tag = 4 ∨ tag = 5 ∨ tag = 6 ∨ tag = 7 ∨ tag = 8 ∨ tag = 9 ∨ tag = 10 ∨ tag = 11 := by omega
  rcases h with rfl | rfl | rfl | rfl | rfl | rfl | rfl | rfl | rfl
  all_goals clear h1 h2
  all_goals
    go_enter Tryd.func43, Tryd.ntmps43
    go_wp2_with (first
      | (go_at_call 55; (with_reducible refine (recWithin_any _ _ _ _).mono ?_); rintro e w2 ⟨rfl, rfl⟩)
      | (go_at_call 56; (with_reducible refine cL.out.mono ?_); rintro e w2 ⟨rfl, hB⟩)
      | (go_at_call 56; (with_reducible refine (label_any (strOfNums d) w hz HT.out).mono ?_); rintro e w2 ⟨rfl, hB⟩))
    all_goals try (go_quiet ((go_at_call 55; exact Calls.quiet_of_same (recWithin_any _ _ _ _))); go_wp2)
    all_goals go_ret
    all_goals refine ⟨ret_int ?_, by first | exact hB | exact Drawn.below ⟨⟨_, rfl⟩⟩⟩
    all_goals (simp_all [boundsN] <;> omega)
end Go.Proofs.YtfbaliimjmimhaaDoor
namespace Go.Proofs.YtfbaliimjmimhaaDoor
open Go.RowKit

def mayL : List Nat := [2062, 14, 2062, 2062, 14, 2062, 6, 3366, 62, 2094, 2158, 62, 2094, 38, 3878, 62, 2094, 2286, 62, 2094, 166]
def MayAt (w : World) : Prop := ∀ i, i < 21 → w.cell? ⟨0, i, none⟩ = some (.int .u16 (mayL.getD i 0 : Nat))
theorem MayAt.below {w w' : World} (h : MayAt w) (hb : Below w.heap.size w w') : MayAt w' := fun i hi => (hb.cell (World.block_lt_of_cell? w _ (h i hi))).trans (h i hi)

def tagErr (r : RecV) (d : List Int) (T tag : Nat) : Int := if standsB T tag = true then boundsN r d tag else if zeroB r tag = true then 0 else 33
def recFrom (r : RecV) (d : List Int) (T : Nat) : Nat → Nat → Int
  | 0, _ => 0
  | f + 1, tag => if tagErr r d T tag = 0 then recFrom r d T f (tag + 1) else tagErr r d T tag
def recN (r : RecV) (d : List Int) : Int :=
  if r.v < 1 ∨ 3 < r.v then 3 else if r.kind < 1 ∨ 7 < r.kind then 31 else if r.saga < 1 then 32 else recFrom r d (mayL.getD ((r.v - 1).toNat * 7 + (r.kind - 1).toNat) 0) 9 3

/-- What is left to be asked at a tag. -/
def RecAtTag (r : RecV) (d : List Int) (T j : Nat) : Prop := recFrom r d T 9 3 = recFrom r d T (12 - j) j
theorem RecAtTag.start (r : RecV) (d : List Int) (T : Nat) : RecAtTag r d T 3 := rfl
theorem RecAtTag.bad {r : RecV} {d : List Int} {T j : Nat} {x : Int} (h : RecAtTag r d T j) (hj : j < 12) (he : tagErr r d T j = x) (hx : ¬ x = 0) : recFrom r d T 9 3 = x := by
  rw [h, show 12 - j = (11 - j) + 1 by omega, recFrom, he, if_neg hx]
theorem RecAtTag.on {r : RecV} {d : List Int} {T j : Nat} (h : RecAtTag r d T j) (hj : j < 12) (he : tagErr r d T j = 0) : RecAtTag r d T (j + 1) := by
  unfold RecAtTag
  rw [h, show 12 - j = (11 - j) + 1 by omega, recFrom, if_pos he, show 12 - (j + 1) = 11 - j by omega]
theorem RecAtTag.good {r : RecV} {d : List Int} {T : Nat} (h : RecAtTag r d T 12) : recFrom r d T 9 3 = 0 := by
  rw [h]; rfl

theorem stands_is {T tag : Nat} {b : Bool} (h : standsB T tag = b) (h0 : T < 65536) (h1 : tag < 12) (w : World) :
    Calls Tryd.prog 41 #[.int .u16 T, .int .i64 tag] w fun e w' => e = .returned (.bool b) ∧ w' = w := by
  rw [← h]; exact stands_any T tag h0 h1 w
theorem zero_is {r : RecV} {g tag : Nat} {b : Bool} (h : zeroB r tag = b) (h1 : 3 ≤ tag) (h2 : tag ≤ 11) (w : World) (hr : RecIn w g 0 r) :
    Calls Tryd.prog 42 #[.pointer (some ⟨g, 0, none⟩), .int .i64 tag] w fun e w' => e = .returned (.bool b) ∧ w' = w := by
  rw [← h]; exact zero_any g tag r h1 h2 w hr
theorem bounds_is {g tag : Nat} {r : RecV} {d : List Int} {x : Int} (h : boundsN r d tag = x) (h1 : 3 ≤ tag) (h2 : tag ≤ 11) (w : World) (hn : r.name.size ≤ 4611686018427387904) (ht : Tabs w) (hr : RecIn w g 0 r) (hd : BytesAt w r.data d) (hdl : d.length ≤ 4611686018427387904) :
    Calls Tryd.prog 43 #[.pointer (some ⟨g, 0, none⟩), .int .i64 tag] w fun e w' => e = .returned (.int .i64 x) ∧ Below w.heap.size w w' := by
  rw [← h]; exact bounds_any g tag r d h1 h2 w hn ht hr hd hdl

/-- What a record handed in is to be. -/
structure RecOk (w : World) (r : RecV) (d : List Int) : Prop where
  name : r.name.size ≤ 4611686018427387904
  len : d.length ≤ 4611686018427387904
  data : BytesAt w r.data d
theorem RecOk.below {w w' : World} {r : RecV} {d : List Int} (h : RecOk w r d) (hb : Below w.heap.size w w') : RecOk w' r d := ⟨h.name, h.len, h.data.below hb⟩

/-- What a round of record.Check's loop leans on. -/
structure RecRound (w : World) (g : Nat) (r : RecV) (d : List Int) : Prop where
  tabs : Tabs w
  ok : RecOk w r d
  here : RecIn w g 0 r
theorem RecRound.below {w w' : World} {g : Nat} {r : RecV} {d : List Int} (h : RecRound w g r d) (hb : Below w.heap.size w w') : RecRound w' g r d := ⟨h.tabs.below hb, h.ok.below hb, h.here.below hb⟩

theorem recN_v {r : RecV} {d : List Int} (h : r.v < 1 ∨ 3 < r.v) : recN r d = 3 := by unfold recN; rw [if_pos h]
theorem recN_kind {r : RecV} {d : List Int} (h : ¬ (r.v < 1 ∨ 3 < r.v)) (h2 : r.kind < 1 ∨ 7 < r.kind) : recN r d = 31 := by unfold recN; rw [if_neg h, if_pos h2]
theorem recN_saga {r : RecV} {d : List Int} (h : ¬ (r.v < 1 ∨ 3 < r.v)) (h2 : ¬ (r.kind < 1 ∨ 7 < r.kind)) (h3 : r.saga < 1) : recN r d = 32 := by unfold recN; rw [if_neg h, if_neg h2, if_pos h3]
theorem recN_tags {r : RecV} {d : List Int} {V K : Nat} (h : r.v = V + 1) (h2 : r.kind = K + 1) (hV : V < 3) (hK : K < 7) (h3 : ¬ r.saga < 1) : recN r d = recFrom r d (mayL.getD (V * 7 + K) 0) 9 3 := by
  unfold recN; rw [if_neg (by omega), if_neg (by omega), if_neg h3]
  congr 2
  omega

set_option maxRecDepth 10000000 in
set_option maxHeartbeats 4000000 in
theorem recCheck_any (r : RecV) (d : List Int) (w : World) (ht : Tabs w) (hm : MayAt w) (hok : RecOk w r d) :
    Calls Tryd.prog 27 #[r.val] w fun e w' => e = .returned (.int .i64 (recN r d)) ∧ Below w.heap.size w w' := by
  have hB := Below.refl w.heap.size w
  by_cases hv : r.v < 1 ∨ 3 < r.v
  · rw [recN_v hv]
    obtain ⟨v, kind, saga, step, try_, at_, last, code, count, pivot, name, ⟨da, dn, dc⟩⟩ := r
    simp only at hv
    clear ht hm hok
    dsimp only [RecV.val, Sl.v]
    rcases hv with hv | hv
    all_goals
      go_enter Tryd.func27, Tryd.ntmps27
      go_wp2
      all_goals go_ret
      all_goals exact ⟨rfl, boxd hB⟩
  by_cases hk : r.kind < 1 ∨ 7 < r.kind
  · rw [recN_kind hv hk]
    obtain ⟨v, kind, saga, step, try_, at_, last, code, count, pivot, name, ⟨da, dn, dc⟩⟩ := r
    simp only at hv hk
    have hv1 : ¬ v < 1 := by omega
    have hv3 : ¬ 3 < v := by omega
    clear ht hm hok hv
    dsimp only [RecV.val, Sl.v]
    rcases hk with hk | hk
    all_goals
      go_enter Tryd.func27, Tryd.ntmps27
      go_wp2
      all_goals go_ret
      all_goals exact ⟨rfl, boxd hB⟩
  by_cases hs : r.saga < 1
  · rw [recN_saga hv hk hs]
    obtain ⟨v, kind, saga, step, try_, at_, last, code, count, pivot, name, ⟨da, dn, dc⟩⟩ := r
    simp only at hv hk hs
    have hv1 : ¬ v < 1 := by omega
    have hv3 : ¬ 3 < v := by omega
    have hk1 : ¬ kind < 1 := by omega
    have hk3 : ¬ 7 < kind := by omega
    clear ht hm hok hv hk
    dsimp only [RecV.val, Sl.v]
    go_enter Tryd.func27, Tryd.ntmps27
    go_wp2
    all_goals go_ret
    all_goals exact ⟨rfl, boxd hB⟩
  obtain ⟨V, hV⟩ : ∃ V : Nat, r.v = V + 1 := ⟨(r.v - 1).toNat, by omega⟩
  obtain ⟨K, hK⟩ : ∃ K : Nat, r.kind = K + 1 := ⟨(r.kind - 1).toNat, by omega⟩
  have hV3 : V < 3 := by omega
  have hK7 : K < 7 := by omega
  rw [recN_tags hV hK hV3 hK7 hs]
  have hcell := (hm.below (boxd (o := .cells #[.int .i64 r.v, .int .i64 r.kind, .int .i64 r.saga, .int .i64 r.step, .int .i64 r.try_, .int .i64 r.at_, .int .i64 r.last, .int .i64 r.code, .int .i64 r.count, .int .i64 r.pivot, .string r.name, r.data.v] 44) hB)) (V * 7 + K) (by omega)
  have hR := Lib.hid (RecIn.new w r 44)
  have hT : mayL.getD (V * 7 + K) 0 < 65536 := by
    have : ∀ i, i < 21 → mayL.getD i 0 < 65536 := by decide
    exact this _ (by omega)
  obtain ⟨T, hTT⟩ : ∃ x, mayL.getD (V * 7 + K) 0 = x := ⟨_, rfl⟩
  rw [hTT] at hcell hT
  rw [hTT]
  clear hTT hm hv hk
  have RR : Hid (RecRound _ w.heap.size r d) := Lib.hid (⟨ht.below (boxd hB), hok.below (boxd hB), hR.out⟩ : RecRound _ w.heap.size r d)
  clear hR ht hok
  obtain ⟨res, hres⟩ : ∃ x, recFrom r d T 9 3 = x := ⟨_, rfl⟩
  obtain ⟨v, kind, saga, step, try_, at_, last, code, count, pivot, name, ⟨da, dn, dc⟩⟩ := r
  simp only at hV hK hs
  subst hV hK
  dsimp only [Sl.v] at hcell RR
  dsimp only [RecV.val, Sl.v]
  have HRES := Lib.hid hres
  rw [hres]
  clear hres
  go_enter Tryd.func27, Tryd.ntmps27
  go_wp2
  go_quiet (fail)
  go_wp2
  go_loopw [4] (fun c wr => ∃ j : Nat, 3 ≤ j ∧ j ≤ 12 ∧ c = .int .i64 j ∧ Hid (RecRound wr w.heap.size ⟨V + 1, K + 1, saga, step, try_, at_, last, code, count, pivot, name, ⟨da, dn, dc⟩⟩ d) ∧ Hid (Below w.heap.size w wr) ∧ Hid (RecAtTag ⟨V + 1, K + 1, saga, step, try_, at_, last, code, count, pivot, name, ⟨da, dn, dc⟩⟩ d T j)) (fun c _ => 12 - (intOf c).toNat)
  case atStart => exact ⟨3, by omega, by omega, rfl, Lib.hid (RR.out.below (Drawn.below ⟨⟨_, rfl⟩⟩)), Lib.hid (then_ (boxd hB) (Drawn.below ⟨⟨_, rfl⟩⟩)), Lib.hid (RecAtTag.start _ _ _)⟩
  case round =>
    obtain ⟨j, hj3, hj12, rfl, HR, HB, HA⟩ := hrel
    by_cases hlt : j < 12
    · obtain ⟨sb, hsb⟩ : ∃ x, standsB T j = x := ⟨_, rfl⟩
      have cS := Lib.hid (fun w => stands_is hsb hT hlt w)
      cases sb with
      | false =>
        obtain ⟨zb, hzb⟩ : ∃ x, zeroB ⟨V + 1, K + 1, saga, step, try_, at_, last, code, count, pivot, name, ⟨da, dn, dc⟩⟩ j = x := ⟨_, rfl⟩
        have cZ := Lib.hid (zero_is hzb hj3 (by omega) wr HR.out.here)
        have hte : tagErr ⟨V + 1, K + 1, saga, step, try_, at_, last, code, count, pivot, name, ⟨da, dn, dc⟩⟩ d T j = if zb = true then 0 else 33 := by unfold tagErr; rw [hsb, hzb]; rfl
        cases zb with
        | false =>
          have hr := HA.out.bad hlt hte (by decide)
          rw [HRES.out] at hr
          simp at hr
          subst hr
          clear hzb hsb hte HRES
          go_wp2_with (first
            | (go_at_call 41; (with_reducible refine (cS.out _).mono ?_); rintro e w2 ⟨rfl, rfl⟩)
            | (go_at_call 42; (with_reducible refine cZ.out.mono ?_); rintro e w2 ⟨rfl, rfl⟩))
          all_goals go_ret
          all_goals exact ⟨rfl, HB.out⟩
        | true =>
          have HA2 := Lib.hid (HA.out.on hlt hte)
          clear hzb hsb hte HA
          go_wp2_with (first
            | (go_at_call 41; (with_reducible refine (cS.out _).mono ?_); rintro e w2 ⟨rfl, rfl⟩)
            | (go_at_call 42; (with_reducible refine cZ.out.mono ?_); rintro e w2 ⟨rfl, rfl⟩))
          all_goals go_roundw
          case rel => exact ⟨j + 1, by omega, by omega, by go_num, HR, HB, HA2⟩
          case measure => simp [intOf]; omega
      | true =>
        obtain ⟨x, hx⟩ : ∃ x, boundsN ⟨V + 1, K + 1, saga, step, try_, at_, last, code, count, pivot, name, ⟨da, dn, dc⟩⟩ d j = x := ⟨_, rfl⟩
        have cN := Lib.hid (bounds_is hx hj3 (by omega) wr HR.out.ok.name HR.out.tabs HR.out.here HR.out.ok.data HR.out.ok.len)
        have hte : tagErr ⟨V + 1, K + 1, saga, step, try_, at_, last, code, count, pivot, name, ⟨da, dn, dc⟩⟩ d T j = x := by unfold tagErr; rw [hsb, hx]; rfl
        by_cases hx0 : x = 0
        · subst hx0
          have HA2 := Lib.hid (HA.out.on hlt hte)
          clear hx hsb hte HA
          go_wp2_with (first
            | (go_at_call 41; (with_reducible refine (cS.out _).mono ?_); rintro e w2 ⟨rfl, rfl⟩)
            | (go_at_call 43; (with_reducible refine cN.out.mono ?_); rintro e w2 ⟨rfl, hb⟩; have HX := Lib.hid hb; clear hb))
          all_goals go_roundw
          case rel => exact ⟨j + 1, by omega, by omega, by go_num, Lib.hid (HR.out.below HX.out), Lib.hid (then_ HB.out HX.out), HA2⟩
          case measure => simp [intOf]; omega
        · have hr := HA.out.bad hlt hte hx0
          rw [HRES.out] at hr
          subst hr
          clear hx hsb hte HRES
          go_wp2_with (first
            | (go_at_call 41; (with_reducible refine (cS.out _).mono ?_); rintro e w2 ⟨rfl, rfl⟩)
            | (go_at_call 43; (with_reducible refine cN.out.mono ?_); rintro e w2 ⟨rfl, hb⟩; have HX := Lib.hid hb; clear hb))
          all_goals go_ret
          all_goals exact ⟨rfl, then_ HB.out HX.out⟩
    · obtain rfl : j = 12 := by omega
      have hr := HA.out.good
      rw [HRES.out] at hr
      subst hr
      go_wp2
      all_goals go_ret
      all_goals exact ⟨rfl, HB.out⟩
end Go.Proofs.YtfbaliimjmimhaaDoor
namespace Go.Proofs.YtfbaliimjmimhaaDoor
open Go.RowKit

theorem wpList_append_row {P : Program} (w : World) {ops : Array Oper} {rest : List Oper} {o : Oper} {a : Act} {Q : Exit → Act → World → Prop} (hgd : o.guard = none) (s x : Operand) (t : TypeId)
    (ho : o.op = .call { callee := .builtin .append, args := #[s, x], argTypes := #[t, t] })
    (base : Nat) (e : TypeId) (z : Value) (bytes : Nat) (ht : P.underlying t = some (.slice e)) (hinfo : (P.info? e).map (fun i => (i.zero, i.size, i.bytes)) = some (some z, 1, bytes)) (hzs : z.cells.size = 1)
    (v : Value) (n : Nat) (xs : List Value) (hs : a.eval s = v) (hown : w.ownsRow base e 1 v n xs)
    (src : Sl) (vs : List Value) (hx : a.eval x = src.v) (hrow : RowAt w src vs) (h1 : ∀ u ∈ vs, u.oneCell' = true)
    (h63 : n + src.n ≤ maxLen) (hbytes : (n + src.n) * bytes ≤ 140737488355328) (hbase : base ≤ w.heap.size)
    (h : ∀ v' w', w'.ownsRow base e 1 v' (n + src.n) (xs ++ vs) → w.grownBy w' v.ownBlock → wpList P ops Q rest (a.put o.dst v') w') : wpList P ops Q (o :: rest) a w := by
  obtain ⟨i, hi, hzz⟩ := Option.map_eq_some_iff.1 hinfo
  simp only [Prod.mk.injEq] at hzz
  obtain ⟨hz, hsz, hby⟩ := hzz
  obtain ⟨A, m, c⟩ := src
  have hlen := hrow.1
  simp only at hlen h63 hbytes
  cases A with
  | none =>
    have hc := hrow.2.1.2 rfl
    have hm : m = 0 := by
      rcases Nat.eq_zero_or_pos m with h0 | h0
      · exact h0
      · obtain ⟨_, _, h', _⟩ := hrow.2.2 h0
        cases h'
    simp only at hc
    subst hc hm
    have hvs : vs = [] := List.eq_nil_of_length_eq_zero hlen.symm
    subst hvs
    refine wpList_append_own_none hgd s x t ho base e i 1 ht hi v n xs hs hown hx ?_
    exact h v w (by simpa using hown) (World.grownBy.refl _ _)
  | some ad =>
    refine wpList_append_own w hgd s x t ho base e i z 1 bytes ht hi hz hsz hby hzs (by decide) v n xs hs hown ad m c vs hx (by simp [hlen]) ?_ h1 h63 hbytes hbase (fun v' w' p q _ => h v' w' p q)
    intro j u hu
    have hj : j < vs.length := (List.getElem?_eq_some_iff.1 hu).1
    obtain ⟨b, o', e', hc⟩ := hrow.2.2 (show 0 < m by omega)
    obtain rfl : ad = ⟨b, o', none⟩ := Option.some.inj e'
    rw [show (⟨b, o', none⟩ : Addr).add j = ⟨b, o' + j, none⟩ by unfold Addr.add; split <;> simp_all, hc j (show j < m by omega)]
    exact hu

/-- What an own row of one-cell values holds. -/
theorem own_row {w : World} {base : Nat} {e : TypeId} {v : Value} {n : Nat} {xs : List Value} (h : w.ownsRow base e 1 v n xs) (hn : n ≤ 9223372036854775807) : ∃ s : Sl, v = s.v ∧ s.n = n ∧ RowAt w s xs := by
  have hl := h.1
  rcases h.2 with ⟨rfl, hn0⟩ | ⟨g, cap, cur, rfl, h3, h4, h5, h6, h7, h8⟩
  · subst hn0
    have hxs : xs = [] := List.eq_nil_of_length_eq_zero (by simpa using hl)
    subst hxs
    exact ⟨⟨none, 0, 0⟩, rfl, rfl, RowAt.nil _ _ _ (fun _ => rfl)⟩
  · refine ⟨⟨some ⟨g, 0, none⟩, n, cap⟩, rfl, rfl, by simpa using hl.symm, ⟨hn, fun h' => by cases h'⟩, fun _ => ⟨g, 0, rfl, fun i hi => ?_⟩⟩
    rw [Nat.zero_add]
    exact h.cellAt i (by simpa using hi)
theorem byteCells_one (d : List Int) : ∀ u ∈ byteCells d, u.oneCell' = true := by
  intro u hu
  obtain ⟨n, _, rfl⟩ := List.mem_map.1 hu
  rfl
theorem infoByte : (Tryd.prog.info? 5).map (fun i => (i.zero, i.size, i.bytes)) = some (some (.int .u8 0), 1, 1) := by kernel_rfl
theorem infoBytes : (Tryd.prog.info? 37).map (fun i => (i.zero, i.size, i.bytes)) = some (some (.slice none 0 0), 1, 24) := by kernel_rfl
end Go.Proofs.YtfbaliimjmimhaaDoor
namespace Go.Proofs.YtfbaliimjmimhaaDoor
open Go.RowKit

/-- Bytes that lie in blocks of one's own, from a block on. -/
def OwnBytes (w : World) (base : Nat) (v : Value) (d : List Int) : Prop := w.ownsRow base 5 1 v d.length (byteCells d)
theorem OwnBytes.at {w : World} {base : Nat} {v : Value} {d : List Int} (h : OwnBytes w base v d) (hl : d.length ≤ 9223372036854775807) : ∃ s : Sl, v = s.v ∧ BytesAt w s d := by
  obtain ⟨s, e, _, hr⟩ := own_row h hl
  exact ⟨s, e, hr⟩

set_option maxRecDepth 100000 in
theorem bytesOf_any (s : Sl) (d : List Int) (w : World) (h : BytesAt w s d) (hd : d.length ≤ 1073741824) :
    Calls Tryd.prog 48 #[s.v] w fun e w' => ∃ v, e = .returned v ∧ OwnBytes w' w.heap.size v d ∧ Below w.heap.size w w' := by
  have H := Lib.hid h
  have hl := h.len
  clear h
  obtain ⟨a, n, c⟩ := s
  simp only at hl
  subst hl
  dsimp only [Sl.v]
  have hE : (w.alloc (.cells #[] 5)).ownsRow w.heap.size 5 1 (.slice (some ⟨w.heap.size, 0, none⟩) 0 0) 0 [] := World.ownsRow_lit (base := w.heap.size) w #[] 0 (Nat.le_refl _) (by unfold maxLen; omega) rfl
  have hb0 := boxd (o := .cells #[] 5) (Below.refl w.heap.size w)
  go_enter Tryd.func48, Tryd.ntmps48
  go_wp2_with (at_builtin; refine wpList_append_row _ rfl (.tmp 3) (.tmp 4) 37 rfl w.heap.size 5 (.int .u8 0) 1 Tryd.underlying37 infoByte rfl _ 0 [] rfl hE ⟨a, d.length, c⟩ (byteCells d) rfl (RowAt.below H.out hb0) (byteCells_one d) ?c1 ?c2 ?c3 ?_)
  case c1 => simp only [maxLen]; omega
  case c2 => omega
  case c3 => simp
  intro v' w2 hown hgr
  have HO : Hid (OwnBytes w2 w.heap.size v' d) := Lib.hid (by unfold OwnBytes; simpa using hown)
  have HB : Hid (Below w.heap.size w w2) := Lib.hid (hb0.grown hgr (by simp) (by intro k hk; simp [Value.ownBlock] at hk; omega))
  clear hown hgr hE hb0
  go_wp2
  all_goals go_ret
  all_goals exact ⟨_, rfl, HO.out, HB.out⟩

theorem OwnBytes.set {w : World} {base : Nat} {v : Value} {d : List Int} (h : OwnBytes w base v d) {a : Addr} {u : Value} (ha : a.block < base) : OwnBytes (w.setCell a u) base v d := ownsRow_setCell_below h ha u
theorem OwnBytes.lower {w : World} {base b : Nat} {v : Value} {d : List Int} (h : OwnBytes w b v d) (ha : base ≤ b) : OwnBytes w base v d := own_lower h ha
theorem Below.set {w w' : World} {B : Nat} (h : Below B w w') {p : Addr} {u : Value} (hp : B ≤ p.block) : Below B w (w'.setCell p u) := h.setCell hp u

/-- Two new blocks behind something that has grown. -/
theorem after_two {w w2 : World} {A B : Array Value} {t u : TypeId} (hgr : ((w.alloc (.cells A t)).alloc (.cells B u)).grownBy w2 none) :
    (∀ i, w2.cell? ⟨w.heap.size, i, none⟩ = A[i]?) ∧ (∀ i, w2.frozen? ⟨w.heap.size, i, none⟩ = false) ∧ (∀ i, w2.cell? ⟨w.heap.size + 1, i, none⟩ = B[i]?) ∧ (∀ i, w2.frozen? ⟨w.heap.size + 1, i, none⟩ = false) := by
  have e : ((w.alloc (.cells A t)).alloc (.cells B u)).heap = (w.heap.push (.cells A t)).push (.cells B u) := rfl
  have h0 : w2.heap[w.heap.size]? = some (.cells A t) := by
    rw [hgr.block _ (by rw [e]; simp only [Array.size_push]; omega) (by simp), e, Array.getElem?_push, Array.getElem?_push]
    simp
  have h1 : w2.heap[w.heap.size + 1]? = some (.cells B u) := by
    rw [hgr.block _ (by rw [e]; simp only [Array.size_push]; omega) (by simp), e, Array.getElem?_push]
    simp
  refine ⟨fun i => ?_, fun i => ?_, fun i => ?_, fun i => ?_⟩
  · simp [World.cell?, h0]
  · simp [World.frozen?, h0]
  · simp [World.cell?, h1]
  · simp [World.frozen?, h1]

set_option maxRecDepth 100000 in
set_option maxHeartbeats 1000000 in
theorem recClone_any (r : RecV) (d : List Int) (w : World) (h : BytesAt w r.data d) (hd : d.length ≤ 1073741824) :
    Calls Tryd.prog 44 #[r.val] w fun e w' => ∃ s : Sl, e = .returned ({ r with data := s } : RecV).val ∧ OwnBytes w' w.heap.size s.v d ∧ Below w.heap.size w w' := by
  have H := Lib.hid h
  have hl := h.len
  clear h
  have hR := Lib.hid (RecIn.new w r 44)
  obtain ⟨v, kind, saga, step, try_, at_, last, code, count, pivot, name, ⟨da, dn, dc⟩⟩ := r
  simp only at hl
  subst hl
  dsimp only [RecV.val, Sl.v]
  dsimp only [Sl.v] at hR
  have hb0 := boxd (o := .cells #[.int .i64 v, .int .i64 kind, .int .i64 saga, .int .i64 step, .int .i64 try_, .int .i64 at_, .int .i64 last, .int .i64 code, .int .i64 count, .int .i64 pivot, .string name, .slice da d.length dc] 44) (Below.refl w.heap.size w)
  have hb1 := boxd (o := .cells #[.int .i64 0, .int .i64 0, .int .i64 0, .int .i64 0, .int .i64 0, .int .i64 0, .int .i64 0, .int .i64 0, .int .i64 0, .int .i64 0, .string ⟨#[]⟩, .slice none 0 0] 44) hb0
  go_enter Tryd.func44, Tryd.ntmps44
  go_wp2_with (at_builtin; refine wpList_append_row _ rfl (.const (.slice none 0 0)) (.tmp 4) 37 rfl (w.heap.size + 2) 5 (.int .u8 0) 1 Tryd.underlying37 infoByte rfl _ 0 [] rfl (World.ownsRow_nil _ _ _ _) ⟨da, d.length, dc⟩ (byteCells d) rfl (RowAt.below H.out hb1) (byteCells_one d) ?c1 ?c2 ?c3 ?_)
  case c1 => simp only [maxLen]; omega
  case c2 => omega
  intro v' w2 hown hgr
  have hB2 := hb1.grown hgr (by simp; omega) (by intro k hk; simp [Value.ownBlock] at hk)
  obtain ⟨s', rfl, -, -⟩ := own_row hown (by omega)
  obtain ⟨sa, sn, sc⟩ := s'
  have HO : Hid (OwnBytes w2 (w.heap.size + 2) (.slice sa sn sc) d) := Lib.hid (by unfold OwnBytes; simpa using hown)
  have HB := Lib.hid hB2
  obtain ⟨hA, fA, hB, fB⟩ := after_two hgr
  have a0 := hA 0; have a1 := hA 1; have a2 := hA 2; have a3 := hA 3; have a4 := hA 4; have a5 := hA 5; have a6 := hA 6; have a7 := hA 7; have a8 := hA 8; have a9 := hA 9; have a10 := hA 10; have a11 := hA 11
  have b0 := hB 0; have b1 := hB 1; have b2 := hB 2; have b3 := hB 3; have b4 := hB 4; have b5 := hB 5; have b6 := hB 6; have b7 := hB 7; have b8 := hB 8; have b9 := hB 9; have b10 := hB 10; have b11 := hB 11
  simp only [List.getElem?_toArray, List.getElem?_cons_zero, List.getElem?_cons_succ] at a0 a1 a2 a3 a4 a5 a6 a7 a8 a9 a10 a11 b0 b1 b2 b3 b4 b5 b6 b7 b8 b9 b10 b11
  clear hown hB2 hb0 hb1 hR hgr hA hB
  dsimp only [Sl.v]
  go_wp2
  refine bodyPost_ret (v := .agg #[.int .i64 v, .int .i64 kind, .int .i64 saga, .int .i64 step, .int .i64 try_, .int .i64 at_, .int .i64 last, .int .i64 code, .int .i64 count, .int .i64 pivot, .string name, .slice sa sn sc]) (by simp [results, Tryd.results44, go_sem, *]) rfl ⟨⟨sa, sn, sc⟩, rfl, ?_, ?_⟩
  · refine OwnBytes.lower (b := w.heap.size + 2) ?_ (by omega)
    repeat (refine OwnBytes.set ?_ (by simp only; omega))
    exact HO.out
  · repeat (refine Below.set ?_ (by simp only; omega))
    exact HB.out
theorem OwnBytes.bytes {w : World} {b : Nat} {s : Sl} {d : List Int} (h : OwnBytes w b s.v d) (hl : d.length ≤ 9223372036854775807) : BytesAt w s d := by
  obtain ⟨s', e, hs⟩ := h.at hl
  obtain ⟨a, n, c⟩ := s
  obtain ⟨a', n', c'⟩ := s'
  simp only [Sl.v, Value.slice.injEq] at e
  obtain ⟨rfl, rfl, rfl⟩ := e
  exact hs
theorem OwnBytes.through {w w' : World} {b : Nat} {v : Value} {d : List Int} (h : OwnBytes w b v d) (hb : Below w.heap.size w w') : OwnBytes w' b v d := own_through h hb
end Go.Proofs.YtfbaliimjmimhaaDoor
namespace Go.Proofs.YtfbaliimjmimhaaDoor
open Go.RowKit

/-- A row of rows of bytes of one's own. -/
def OwnLists (w : World) (base : Nat) (v : Value) (ls : List (List Int)) : Prop :=
  ∃ vs : List Sl, w.ownsRow base 37 1 v ls.length (vs.map Sl.v) ∧ vs.length = ls.length ∧ ∀ i (h1 : i < vs.length) (h2 : i < ls.length), OwnBytes w base (vs[i]).v ls[i]
theorem OwnLists.nil (w : World) (base : Nat) : OwnLists w base (.slice none 0 0) [] := ⟨[], World.ownsRow_nil _ _ _ _, rfl, fun i h => by simp at h⟩
theorem OwnLists.through {w w' : World} {base : Nat} {v : Value} {ls : List (List Int)} (h : OwnLists w base v ls) (hb : Below w.heap.size w w') : OwnLists w' base v ls := by
  obtain ⟨vs, h1, h2, h3⟩ := h
  exact ⟨vs, own_through h1 hb, h2, fun i a b => (h3 i a b).through hb⟩
/-- Bytes and a row of rows lie in blocks of different types. -/
theorem own_apart {w : World} {b b' : Nat} {v u : Value} {d : List Int} {n : Nat} {xs : List Value} (h : OwnBytes w b v d) (k : w.ownsRow b' 37 1 u n xs) : v.ownBlock = none ∨ v.ownBlock ≠ u.ownBlock := by
  rcases h.2 with ⟨rfl, _⟩ | ⟨g, cap, cur, rfl, _, hg, _⟩
  · exact .inl rfl
  · refine .inr fun e => ?_
    rcases k.2 with ⟨rfl, _⟩ | ⟨g', cap', cur', rfl, _, hg', _⟩
    · cases e
    · simp only [Value.ownBlock, Option.some.injEq] at e
      subst e
      rw [hg] at hg'
      simp at hg'
theorem OwnLists.grown {w w' : World} {base : Nat} {v v' : Value} {ls : List (List Int)} {s : Sl} {d : List Int} {vs : List Sl} (h2 : vs.length = ls.length) (h3 : ∀ i (h1 : i < vs.length) (h2 : i < ls.length), OwnBytes w base (vs[i]).v ls[i])
    (h1 : w.ownsRow base 37 1 v ls.length (vs.map Sl.v)) (hs : OwnBytes w base s.v d) (hn : w'.ownsRow base 37 1 v' (ls.length + 1) (vs.map Sl.v ++ [s.v])) (hg : w.grownBy w' v.ownBlock) : OwnLists w' base v' (ls ++ [d]) := by
  refine ⟨vs ++ [s], by simpa using hn, by simp [h2], fun i a b => ?_⟩
  have keep : ∀ {x : Sl} {y : List Int}, OwnBytes w base x.v y → OwnBytes w' base x.v y := fun hx => World.ownsRow.kept hx hg (own_apart hx h1)
  by_cases e : i < vs.length
  · rw [List.getElem_append_left e, List.getElem_append_left (by omega)]
    exact keep (h3 i e (by omega))
  · have e1 : i = vs.length := by simp at a; omega
    subst e1
    rw [List.getElem_append_right (by omega), List.getElem_append_right (by omega)]
    simpa using keep hs

theorem RowAt.of_lit1 (w : World) (a : Value) (t : TypeId) : RowAt (w.alloc (.cells #[a] t)) ⟨some ⟨w.heap.size, 0, none⟩, 1, 1⟩ [a] := by
  refine ⟨rfl, ⟨by simp, fun h => by cases h⟩, fun _ => ⟨w.heap.size, 0, rfl, fun i hi => ?_⟩⟩
  match i, hi with
  | 0, _ => simp
theorem take_snoc {α : Type} (l : List α) (j : Nat) (h : j < l.length) : l.take (j + 1) = l.take j ++ [l[j]] := by rw [List.take_succ_eq_append_getElem h]

set_option maxRecDepth 100000 in
set_option maxHeartbeats 1000000 in
theorem lists_any (l : Sl) (ls : List (List Int)) (w : World) (h : ListsAt w l ls) (hn : ls.length ≤ 1048576) (hd : ∀ d ∈ ls, d.length ≤ 1073741824) :
    Calls Tryd.prog 53 #[l.v] w fun e w' => ∃ v, e = .returned v ∧ OwnLists w' w.heap.size v ls ∧ Below w.heap.size w w' := by
  obtain ⟨vs, h1, h2, h3⟩ := h
  have hl := h1.1
  rw [List.length_map] at hl
  have hmax := h1.2.1.1
  have H := Lib.hid (fun j hj => row_get h1 (j := j) hj)
  have H3 := Lib.hid h3
  clear h1 h3
  obtain ⟨a, n, c⟩ := l
  simp only at hl hmax
  subst hl
  dsimp only [Sl.v]
  go_enter Tryd.func53, Tryd.ntmps53
  go_wp2
  go_loopw [3, 8] (fun v c wr => ∃ j : Nat, j ≤ vs.length ∧ c = .int .i64 j ∧ Hid (OwnLists wr w.heap.size v (ls.take j)) ∧ Hid (Below w.heap.size w wr)) (fun _ c _ => vs.length - (intOf c).toNat)
  case atStart => exact ⟨0, by omega, rfl, Lib.hid (OwnLists.nil _ _), Lib.hid (Below.refl _ _)⟩
  case round =>
    obtain ⟨j, hj, rfl, HO, HB⟩ := hrel
    by_cases hlt : j < vs.length
    · obtain ⟨b, o, hA, hc⟩ := H.out j hlt
      have hc := (HB.out.cell (World.block_lt_of_cell? _ _ hc)).trans hc
      subst hA
      have hbs := H3.out j hlt (by omega)
      have hj2 : j < ls.length := by omega
      have hgd : vs.getD j nilSl = vs[j] := by simp [List.getD, hlt]
      rw [hgd] at hc
      have cB := Lib.hid (bytesOf_any vs[j] ls[j] wr (hbs.below HB.out) (hd _ (List.getElem_mem _)))
      have hsn := take_snoc ls j hj2
      have hDl := hd ls[j] (List.getElem_mem _)
      obtain ⟨D, hD⟩ : ∃ x, ls[j] = x := ⟨_, rfl⟩
      rw [hD] at cB hsn hDl
      obtain ⟨⟨va, vn, vc⟩, hv⟩ : ∃ x, vs[j] = x := ⟨_, rfl⟩
      rw [hv] at hc cB
      dsimp only [Sl.v] at hc cB
      have hlen : (ls.take j).length = j := by rw [List.length_take]; omega
      have HS := Lib.hid hsn
      clear hv hD hbs hgd hsn
      go_wp2_with fail
      refine cB.out.mono ?_
      rintro e w2 ⟨v, rfl, hov, hb⟩
      obtain ⟨⟨sa, sn, sc⟩, rfl, -⟩ := hov.at (by omega)
      dsimp only [Sl.v] at hov
      have hsz := HB.out.size
      have hov2 := hov.lower (base := w.heap.size) hsz
      obtain ⟨us, o1, o2, o3⟩ := HO.out.through hb
      have hb1 := boxd (o := .cells #[.slice sa sn sc] 37) (Below.refl w2.heap.size w2)
      have HB2 := Lib.hid (boxd (o := .cells #[.slice sa sn sc] 37) (then_ HB.out hb))
      have O1 := Lib.hid (o1.alloc (.cells #[.slice sa sn sc] 37))
      have O3 := Lib.hid (fun i a b => (o3 i a b).through hb1)
      have OV := Lib.hid (hov2.through hb1)
      have hb2 := hb.size
      have OL := Lib.hid o2
      clear hov hov2 o1 o3 hb1 hb HO o2
      go_wp2_with (at_builtin; refine wpList_append_row _ rfl (.tmp 12) (.tmp 15) 38 rfl w.heap.size 37 (.slice none 0 0) 24 Tryd.underlying38 infoBytes rfl _ _ _ rfl O1.out ⟨some ⟨w2.heap.size, 0, none⟩, 1, 1⟩ [.slice sa sn sc] rfl (RowAt.of_lit1 w2 _ _) (by simp [Value.oneCell']) ?c1 ?c2 ?c3 ?_)
      case c1 => simp only [maxLen]; omega
      case c2 => omega
      case c3 => simp; omega
      intro v' w3 hown hgr
      have HG : Hid (OwnLists w3 w.heap.size v' (ls.take j ++ [D])) := Lib.hid (OwnLists.grown (s := ⟨sa, sn, sc⟩) OL.out O3.out O1.out OV.out (by rw [hlen]; exact hown) hgr)
      rw [← HS.out] at HG
      have HB3 : Hid (Below w.heap.size w w3) := Lib.hid (HB2.out.grown hgr (by simp; omega) (fun k hk => (O1.out.lt k hk).1))
      clear hown hgr O1 O3 OV HB2 OL
      go_wp2
      all_goals go_roundw
      case rel => exact ⟨j + 1, by omega, by go_num, HG, HB3⟩
      case measure => simp [intOf]; omega
    · obtain rfl : j = vs.length := by omega
      have HO2 : Hid (OwnLists wr w.heap.size _ ls) := Lib.hid (by have := HO.out; rwa [h2, List.take_length] at this)
      go_wp2
      all_goals go_ret
      all_goals exact ⟨_, rfl, HO2.out, HB.out⟩
end Go.Proofs.YtfbaliimjmimhaaDoor
