/-
  Sagas and records as plain data; how words in a world are read as such data; what saga.Check asks of them. Conditions: none.
-/
import Derived.Test.YteaiadpigpehaaaDoorSagaClone
import Derived.Test.YteaiadpigpehaaaDoorLiftUp
namespace Go.Proofs.YteaiadpigpehaaaDoor
open Go.RowKit

structure RecD where
  v : Int
  kind : Int
  saga : Int
  step : Int
  try_ : Int
  at_ : Int
  last : Int
  code : Int
  count : Int
  pivot : Int
  name : ByteArray
  data : List Int
structure SagaD where
  id : Int
  name : ByteArray
  count : Int
  pivot : Int
  begun : Int
  at_ : Int
  input : List Int
  phase : Int
  next : Int
  flight : Bool
  tries : Int
  outs : List (List Int)
  undos : List (List Int)
  failStep : Int
  failCode : Int
  fail : List Int

@[reducible] def RecD.words (R : RecD) (d : Sl) : RecV := ⟨R.v, R.kind, R.saga, R.step, R.try_, R.at_, R.last, R.code, R.count, R.pivot, R.name, d⟩
@[reducible] def SagaD.words (D : SagaD) (i o u f : Sl) : SagaV := ⟨D.id, D.name, D.count, D.pivot, D.begun, D.at_, i, D.phase, D.next, D.flight, D.tries, o, u, D.failStep, D.failCode, f⟩
@[reducible] def SagaD.held (D : SagaD) : Held := ⟨D.input, D.outs, D.undos, D.fail⟩

/-- A record's words read as such data. -/
structure RecRd (w : World) (r : RecV) (R : RecD) : Prop where
  eq : r = R.words r.data
  data : BytesAt w r.data R.data
theorem RecRd.below {w w' : World} {r : RecV} {R : RecD} (h : RecRd w r R) (hb : Below w.heap.size w w') : RecRd w' r R := ⟨h.eq, h.data.below hb⟩
structure SagaRd (w : World) (s : SagaV) (D : SagaD) : Prop where
  eq : s = D.words s.input s.outs s.undos s.fail
  held : HeldAt w s D.held
theorem SagaRd.below {w w' : World} {s : SagaV} {D : SagaD} (h : SagaRd w s D) (hb : Below w.heap.size w w') : SagaRd w' s D := ⟨h.eq, h.held.below hb⟩
/-- The same, the lists in blocks of one's own. -/
structure SagaOwn (w : World) (base : Nat) (s : SagaV) (D : SagaD) : Prop where
  eq : s = D.words s.input s.outs s.undos s.fail
  held : OwnHeld w base s D.held
theorem SagaOwn.through {w w' : World} {b : Nat} {s : SagaV} {D : SagaD} (h : SagaOwn w b s D) (hb : Below w.heap.size w w') : SagaOwn w' b s D :=
  ⟨h.eq, h.held.input.through hb, h.held.outs.through hb, h.held.undos.through hb, h.held.fail.through hb, h.held.apart⟩
theorem SagaOwn.lower {w : World} {b c : Nat} {s : SagaV} {D : SagaD} (h : SagaOwn w b s D) (hb : c ≤ b) : SagaOwn w c s D :=
  ⟨h.eq, h.held.input.lower hb, h.held.outs.lower hb, h.held.undos.lower hb, h.held.fail.lower hb, h.held.apart⟩
theorem SagaOwn.set {w : World} {base : Nat} {s : SagaV} {D : SagaD} (h : SagaOwn w base s D) {a : Addr} {u : Value} (ha : a.block < base) : SagaOwn (w.setCell a u) base s D :=
  ⟨h.eq, h.held.input.set ha, h.held.outs.set ha, h.held.undos.set ha, h.held.fail.set ha, h.held.apart⟩

theorem slv_inj {a b : Sl} (h : a.v = b.v) : a = b := by
  obtain ⟨x, n, c⟩ := a
  obtain ⟨x', n', c'⟩ := b
  simp only [Sl.v, Value.slice.injEq] at h
  obtain ⟨rfl, rfl, rfl⟩ := h
  rfl
theorem OwnLists.lists {w : World} {b : Nat} {s : Sl} {ls : List (List Int)} (h : OwnLists w b s.v ls) (hl : ls.length ≤ 1048576) (hd : ∀ d ∈ ls, d.length ≤ 1073741824) : ListsAt w s ls := by
  obtain ⟨s', e, h'⟩ := h.at hl hd
  rw [slv_inj e]; exact h'
theorem SagaOwn.rd {w : World} {b : Nat} {s : SagaV} {D : SagaD} (h : SagaOwn w b s D) (k : D.held.Small) : SagaRd w s D :=
  ⟨h.eq, h.held.input.bytes (by have := k.input; omega), h.held.outs.lists k.outs k.outs2, h.held.undos.lists k.undos k.undos2, h.held.fail.bytes (by have := k.fail; omega)⟩

def lenSl (d : List Int) : Sl := ⟨none, d.length, 0⟩
def checkD (D : SagaD) : Int := checkN (D.words (lenSl D.input) ⟨none, D.outs.length, 0⟩ ⟨none, D.undos.length, 0⟩ (lenSl D.fail)) (D.outs.map lenSl) (D.undos.map lenSl)
def recD (R : RecD) : Int := recN (R.words (lenSl R.data)) R.data

theorem smallB_of {vs us : List Sl} (h : vs.map Sl.n = us.map Sl.n) : smallB vs = smallB us := by
  have key : ∀ l : List Sl, l.any bigOne = (l.map Sl.n).any (fun n => decide (16384 < n)) := fun l => by rw [List.any_map]; rfl
  unfold smallB
  rw [key, key, h]
/-- The lists of a saga as they stand. -/
theorem SagaRd.parts {w : World} {s : SagaV} {D : SagaD} (h : SagaRd w s D) : ∃ os us : List Sl, RowAt w s.outs (os.map Sl.v) ∧ RowAt w s.undos (us.map Sl.v) ∧ checkN s os us = checkD D := by
  obtain ⟨he, hi, ⟨os, o1, o2, o3⟩, ⟨us, u1, u2, u3⟩, hf⟩ := h
  refine ⟨os, us, o1, u1, ?_⟩
  have e1 : os.map Sl.n = (D.outs.map lenSl).map Sl.n := by
    refine List.ext_getElem (by simpa using o2) fun i a b => ?_
    simp only [List.getElem_map]
    exact (o3 i (by simpa using a) (by simpa using b)).len
  have e2 : us.map Sl.n = (D.undos.map lenSl).map Sl.n := by
    refine List.ext_getElem (by simpa using u2) fun i a b => ?_
    simp only [List.getElem_map]
    exact (u3 i (by simpa using a) (by simpa using b)).len
  have l1 := hi.len
  have l2 := hf.len
  have l3 : s.outs.n = D.outs.length := by have := o1.len; rw [this]; simpa using o2
  have l4 : s.undos.n = D.undos.length := by have := u1.len; rw [this]; simpa using u2
  have e3 : smallB [s.input, s.fail] = smallB [lenSl D.input, lenSl D.fail] := smallB_of (by simp [lenSl, l1, l2])
  unfold checkD checkN fitB plainB
  rw [he] at *
  simp only at l1 l2 l3 l4 e3 ⊢
  rw [smallB_of e1, smallB_of e2, e3]
  have e4 : ∀ (i o u f i' o' u' f' : Sl), o.n = o'.n → u.n = u'.n → f.n = f'.n → forwardB (D.words i o u f) = forwardB (D.words i' o' u' f') ∧ backB (D.words i o u f) = backB (D.words i' o' u' f') ∧ plainNum (D.words i o u f) = plainNum (D.words i' o' u' f') := by
    intro i o u f i' o' u' f' ho hu hf
    unfold forwardB backB plainNum
    simp only [ho, hu, hf, and_self]
  obtain ⟨q1, q2, q3⟩ := e4 s.input s.outs s.undos s.fail (lenSl D.input) ⟨none, D.outs.length, 0⟩ ⟨none, D.undos.length, 0⟩ (lenSl D.fail) l3 l4 l2
  rw [q1, q2, q3]
theorem boundsN_of {r r' : RecV} {d : List Int} (h : r' = { r with data := r'.data }) (hn : r'.data.n = r.data.n) (tag : Nat) : boundsN r' d tag = boundsN r d tag := by
  unfold boundsN
  rw [h] at *
  simp only at hn ⊢
  rw [hn]
theorem zeroB_of {r r' : RecV} (h : r' = { r with data := r'.data }) (hn : r'.data.n = r.data.n) (tag : Nat) : zeroB r' tag = zeroB r tag := by
  unfold zeroB
  have e : numberN r' tag = numberN r tag := by rw [h]; rfl
  rw [e, hn, h]
theorem recN_of {r r' : RecV} {d : List Int} (h : r' = { r with data := r'.data }) (hn : r'.data.n = r.data.n) : recN r' d = recN r d := by
  have e : ∀ T tag, tagErr r' d T tag = tagErr r d T tag := fun T tag => by unfold tagErr; rw [boundsN_of h hn, zeroB_of h hn]
  have e2 : ∀ T f tag, recFrom r' d T f tag = recFrom r d T f tag := by
    intro T f
    induction f with
    | zero => intro tag; rfl
    | succ f ih => intro tag; rw [recFrom, recFrom, e, ih]
  unfold recN
  simp only [e2]
  rw [h]
theorem RecRd.recEq {w : World} {r : RecV} {R : RecD} (h : RecRd w r R) : recN r R.data = recD R := by
  unfold recD
  refine recN_of ?_ (by simpa [lenSl] using h.data.len)
  exact h.eq

/-- The record as one of version 3. -/
def up3 (R : RecD) : RecD :=
  if R.v = 1 then
    (if R.kind = 1 then { R with v := 3, name := strOfNums R.data, data := [], count := R.step, step := 0 }
     else if R.kind = 2 ∨ R.kind = 5 then { R with v := 3, try_ := 1 }
     else if R.kind = 4 then { R with v := 3, last := 1 } else { R with v := 3 })
  else { R with v := 3 }
theorem up3_kind (R : RecD) : (up3 R).kind = R.kind := by unfold up3; split; split; rfl; split; rfl; split; rfl; rfl; rfl
theorem up3_saga (R : RecD) : (up3 R).saga = R.saga := by unfold up3; split; split; rfl; split; rfl; split; rfl; rfl; rfl
theorem up3_v (R : RecD) : (up3 R).v = 3 := by unfold up3; split; split; rfl; split; rfl; split; rfl; rfl; rfl
theorem up3_at (R : RecD) : (up3 R).at_ = R.at_ := by unfold up3; split; split; rfl; split; rfl; split; rfl; rfl; rfl
theorem up3_3 {R : RecD} (h : R.v = 3) : up3 R = R := by
  unfold up3
  rw [if_neg (by omega)]
  cases R
  simp only at h
  subst h
  rfl
/-- What finish makes of a record's words. -/
theorem finish_rd {w : World} {b : Nat} {s : Sl} {R : RecD} (ho : OwnBytes w b s.v R.data) : ∃ t : Sl, finish (R.words s) R.data = (up3 R).words t ∧ OwnBytes w b t.v (up3 R).data := by
  unfold finish up3 fillV
  simp only
  split
  · split
    · exact ⟨⟨none, 0, 0⟩, rfl, World.ownsRow_nil _ _ _ _⟩
    · split
      · exact ⟨s, rfl, ho⟩
      · split
        · exact ⟨s, rfl, ho⟩
        · exact ⟨s, rfl, ho⟩
  · exact ⟨s, rfl, ho⟩
end Go.Proofs.YteaiadpigpehaaaDoor
