/-
  What the kinds of records do to saga's walk: begun, landed, failed, ended walked. Conditions: none.
-/
import Derived.Test.YteaiadpigpehaaaDoorData
import Derived.Test.YteaiadpigpehaaaDoorRefused
import Derived.BigRegion
namespace Go.Proofs.YteaiadpigpehaaaDoor
open Go.RowKit

@[reducible] def walkArr (s : SagaV) (r : RecV) : Array Value := #[.int .i64 s.id, .string s.name, .int .i64 s.count, .int .i64 s.pivot, .int .i64 s.begun, .int .i64 s.at_, s.input.v, .int .i64 s.phase, .int .i64 s.next, .bool s.flight, .int .i64 s.tries, s.outs.v, s.undos.v, .int .i64 s.failStep, .int .i64 s.failCode, s.fail.v,
  .int .i64 r.v, .int .i64 r.kind, .int .i64 r.saga, .int .i64 r.step, .int .i64 r.try_, .int .i64 r.at_, .int .i64 r.last, .int .i64 r.code, .int .i64 r.count, .int .i64 r.pivot, .string r.name, r.data.v]

/-- A row of one's own is kept where its block is. -/
theorem own_heap {w w' : World} {base : Nat} {e : TypeId} {size n : Nat} {v : Value} {xs : List Value} (h : w.ownsRow base e size v n xs) (hh : ∀ (k : Nat) (cur : Array Value), w.heap[k]? = some (Obj.cells cur e) → w'.heap[k]? = w.heap[k]?) : w'.ownsRow base e size v n xs := by
  refine ⟨h.1, ?_⟩
  rcases h.2 with hn | ⟨g, cap, cur, rfl, hb, hgg, rest⟩
  · exact .inl hn
  · exact .inr ⟨g, cap, cur, rfl, hb, (hh g cur hgg).trans hgg, rest⟩
/-- Blocks of bytes and of rows of bytes are as they were. -/
structure RowsKept (w w' : World) : Prop where
  bytes : ∀ (k : Nat) (cur : Array Value), w.heap[k]? = some (Obj.cells cur 5) → w'.heap[k]? = w.heap[k]?
  lists : ∀ (k : Nat) (cur : Array Value), w.heap[k]? = some (Obj.cells cur 22) → w'.heap[k]? = w.heap[k]?
theorem OwnBytes.keep {w w' : World} {b : Nat} {v : Value} {d : List Int} (h : OwnBytes w b v d) (k : RowsKept w w') : OwnBytes w' b v d := own_heap h k.bytes
theorem OwnLists.keep {w w' : World} {b : Nat} {v : Value} {ls : List (List Int)} (h : OwnLists w b v ls) (k : RowsKept w w') : OwnLists w' b v ls := by
  obtain ⟨vs, h1, h2, h3⟩ := h
  exact ⟨vs, own_heap h1 k.lists, h2, fun i a b => (h3 i a b).keep k⟩
theorem OwnHeld.keep {w w' : World} {b : Nat} {s : SagaV} {h : Held} (k : OwnHeld w b s h) (q : RowsKept w w') : OwnHeld w' b s h := ⟨k.input.keep q, k.outs.keep q, k.undos.keep q, k.fail.keep q, k.apart⟩
theorem RowsKept.set {w : World} {g i : Nat} {cs : Array Value} {t : TypeId} (h : BlkAt w g cs t) (h1 : t ≠ 5) (h2 : t ≠ 22) (u : Value) : RowsKept w (w.setCell ⟨g, i, none⟩ u) := by
  have key : ∀ e, t ≠ e → ∀ (k : Nat) (cur : Array Value), w.heap[k]? = some (Obj.cells cur e) → (w.setCell ⟨g, i, none⟩ u).heap[k]? = w.heap[k]? := by
    intro e he k cur hk
    refine Below.heap_setCell w ⟨g, i, none⟩ u k (fun e' => ?_)
    simp only at e'
    subst e'
    rw [show w.heap[k]? = _ from h] at hk
    simp at hk
    exact he hk.2
  exact ⟨key _ h1, key _ h2⟩
theorem RowsKept.below {w w' : World} (h : Below w.heap.size w w') : RowsKept w w' :=
  ⟨fun k _ hk => h.block k (Array.getElem?_eq_some_iff.1 hk).1, fun k _ hk => h.block k (Array.getElem?_eq_some_iff.1 hk).1⟩

/-- A saga's walk at a block, its lists in blocks of one's own. -/
structure WalkOwn (w : World) (B g : Nat) (s : SagaV) (h : Held) (r : RecV) (d : List Int) : Prop where
  blk : BlkAt w g (walkArr s r) 83
  own : OwnHeld w B s h
  data : OwnBytes w B r.data.v d
  le : B ≤ g
theorem WalkOwn.kept {w : World} {B g i : Nat} {s : SagaV} {h : Held} {r : RecV} {d : List Int} (k : WalkOwn w B g s h r d) (u : Value) : RowsKept w (w.setCell ⟨g, i, none⟩ u) := RowsKept.set k.blk (by decide) (by decide) u
/-- One word of it is written. -/
theorem WalkOwn.step {w : World} {B g i : Nat} {s s' : SagaV} {h h' : Held} {r : RecV} {d : List Int} {u : Value} (k : WalkOwn w B g s h r d) (e : (walkArr s r).setIfInBounds i u = walkArr s' r) (ho : OwnHeld w B s' h') : WalkOwn (w.setCell ⟨g, i, none⟩ u) B g s' h' r d :=
  ⟨e ▸ k.blk.set u, ho.keep (k.kept u), k.data.keep (k.kept u), k.le⟩
theorem OwnHeld.of {w : World} {B : Nat} {s s' : SagaV} {h : Held} (k : OwnHeld w B s h) (h1 : s'.input = s.input) (h2 : s'.outs = s.outs) (h3 : s'.undos = s.undos) (h4 : s'.fail = s.fail) : OwnHeld w B s' h :=
  ⟨h1 ▸ k.input, h2 ▸ k.outs, h3 ▸ k.undos, h4 ▸ k.fail, by rw [h2, h3]; exact k.apart⟩
theorem WalkOwn.num {w : World} {B g i : Nat} {s : SagaV} {h : Held} {r : RecV} {d : List Int} {u : Value} (k : WalkOwn w B g s h r d) (s' : SagaV) (e : (walkArr s r).setIfInBounds i u = walkArr s' r) (h1 : s'.input = s.input) (h2 : s'.outs = s.outs) (h3 : s'.undos = s.undos) (h4 : s'.fail = s.fail) : WalkOwn (w.setCell ⟨g, i, none⟩ u) B g s' h r d :=
  k.step e (k.own.of h1 h2 h3 h4)
theorem WalkOwn.through {w w' : World} {B g : Nat} {s : SagaV} {h : Held} {r : RecV} {d : List Int} (k : WalkOwn w B g s h r d) (hb : Below w.heap.size w w') : WalkOwn w' B g s h r d :=
  ⟨k.blk.below hb (Array.getElem?_eq_some_iff.1 k.blk).1, ⟨k.own.input.through hb, k.own.outs.through hb, k.own.undos.through hb, k.own.fail.through hb, k.own.apart⟩, k.data.through hb, k.le⟩
theorem WalkOwn.walkIn {w : World} {B g : Nat} {s : SagaV} {h : Held} {r : RecV} {d : List Int} (k : WalkOwn w B g s h r d) : WalkIn w g s r := by
  have hc := k.blk.cell
  constructor <;> constructor <;> (rw [hc]; rfl)

theorem WalkOwn.drew {w : World} {B g : Nat} {s : SagaV} {h : Held} {r : RecV} {d : List Int} (k : WalkOwn w B g s h r d) : WalkOwn w.drew B g s h r d := k.through (Below.refl _ _).drew
/-- The record's data as what is kept of a failure. -/
theorem WalkOwn.put15 {w : World} {B g : Nat} {s : SagaV} {h : Held} {r : RecV} {d : List Int} (k : WalkOwn w B g s h r d) {s' : SagaV} (e : s' = { s with fail := r.data }) : WalkOwn (w.setCell ⟨g, 15, none⟩ r.data.v) B g s' { h with fail := d } r d := by
  subst e
  exact k.step rfl ⟨k.own.input, k.own.outs, k.own.undos, k.data, k.own.apart⟩

set_option maxRecDepth 100000 in
theorem landed_any (B g : Nat) (s : SagaV) (h : Held) (r : RecV) (d : List Int) (w : World) (k : WalkOwn w B g s h r d) :
    Calls Tryd.prog 100 #[.pointer (some ⟨g, 0, none⟩)] w fun e w' => e = .returned (.tuple #[]) ∧ WalkOwn w' B g { s with flight := false, tries := 0 } h r d ∧ Below B w w' := by
  have hf := k.blk.frozen
  have h9 := k.blk.cell 9
  have h10 := k.blk.cell 10
  simp only [List.getElem?_toArray, List.getElem?_cons_zero, List.getElem?_cons_succ] at h9 h10
  have K := Lib.hid k
  clear k
  go_enter Tryd.func100, Tryd.ntmps100
  go_wp2
  go_end0
  refine ⟨rfl, ?_, ((Below.refl _ _).setCell K.out.le _).setCell K.out.le _⟩
  exact (K.out.num (i := 9) { s with flight := false } rfl rfl rfl rfl rfl).num (i := 10) { s with flight := false, tries := 0 } rfl rfl rfl rfl rfl

set_option maxRecDepth 100000 in
theorem begun_any (B g : Nat) (s : SagaV) (h : Held) (r : RecV) (d : List Int) (w : World) (k : WalkOwn w B g s h r d) :
    Calls Tryd.prog 79 #[.pointer (some ⟨g, 0, none⟩)] w fun e w' => e = .returned (.tuple #[]) ∧ WalkOwn w' B g { s with flight := true, tries := r.try_ } h r d ∧ Below B w w' := by
  have hf := k.blk.frozen
  have h9 := k.blk.cell 9
  have h10 := k.blk.cell 10
  have h20 := k.blk.cell 20
  simp only [List.getElem?_toArray, List.getElem?_cons_zero, List.getElem?_cons_succ] at h9 h10 h20
  have K := Lib.hid k
  clear k
  go_enter Tryd.func79, Tryd.ntmps79
  go_wp2
  all_goals try (go_quiet (fail); go_wp2)
  go_end0
  refine ⟨rfl, ?_, ((Below.refl _ _).setCell K.out.le _).setCell K.out.le _⟩
  exact (K.out.num (i := 9) { s with flight := true } rfl rfl rfl rfl rfl).num (i := 10) { s with flight := true, tries := r.try_ } rfl rfl rfl rfl rfl

def endPhase (n : Int) : Int := if n = 1 then 3 else 4
set_option maxRecDepth 100000 in
theorem ended_any (B g : Nat) (s : SagaV) (h : Held) (r : RecV) (d : List Int) (w : World) (k : WalkOwn w B g s h r d) :
    Calls Tryd.prog 83 #[.pointer (some ⟨g, 0, none⟩)] w fun e w' => e = .returned (.tuple #[]) ∧ WalkOwn w' B g { s with phase := endPhase s.phase } h r d ∧ Below B w w' := by
  have hf := k.blk.frozen
  have h7 := k.blk.cell 7
  simp only [List.getElem?_toArray, List.getElem?_cons_zero, List.getElem?_cons_succ] at h7
  have K := Lib.hid k
  clear k
  obtain ⟨P, hP⟩ : ∃ x, s.phase = x := ⟨_, rfl⟩
  rw [hP] at h7
  have HP := Lib.hid hP
  clear hP
  by_cases h1 : P = 1
  · subst h1
    go_enter Tryd.func83, Tryd.ntmps83
    go_wp2
    all_goals go_end0
    all_goals refine ⟨rfl, ?_, (Below.refl _ _).setCell K.out.le _⟩
    all_goals exact K.out.num (i := 7) _ (by rw [HP.out]; rfl) rfl rfl rfl rfl
  · go_enter Tryd.func83, Tryd.ntmps83
    go_wp2
    all_goals go_end0
    all_goals refine ⟨rfl, ?_, (Below.refl _ _).setCell K.out.le _⟩
    all_goals exact K.out.num (i := 7) _ (by rw [HP.out]; unfold endPhase; rw [if_neg h1]; rfl) rfl rfl rfl rfl

/-- What a failure for good leaves. -/
def failS (s : SagaV) (r : RecV) : SagaV := { s with flight := false, tries := 0, phase := 2, failStep := r.step, failCode := r.code, fail := r.data }
def failH (h : Held) (d : List Int) : Held := { h with fail := d }

set_option maxRecDepth 100000 in
theorem failed_any (B g : Nat) (s : SagaV) (h : Held) (r : RecV) (d : List Int) (w : World) (k : WalkOwn w B g s h r d) :
    Calls Tryd.prog 81 #[.pointer (some ⟨g, 0, none⟩)] w fun e w' => e = .returned (.tuple #[]) ∧ WalkOwn w' B g (if r.last = 0 then { s with flight := false } else failS s r) (if r.last = 0 then h else failH h d) r d ∧ Below B w w' := by
  have hf := k.blk.frozen
  have h9 := k.blk.cell 9
  have h22 := k.blk.cell 22
  simp only [List.getElem?_toArray, List.getElem?_cons_zero, List.getElem?_cons_succ] at h9 h22
  obtain ⟨L, hL⟩ : ∃ x, r.last = x := ⟨_, rfl⟩
  rw [hL] at h22
  rw [hL]
  by_cases h0 : L = 0
  · rw [if_pos h0, if_pos h0]
    subst h0
    have K := Lib.hid k
    clear k hL
    go_enter Tryd.func81, Tryd.ntmps81
    go_wp2
    all_goals ((try simp only [Exit.inBlock, Exit.then]); refine bodyPost_ret (results_none rfl _ _ _) rfl ?_)
    all_goals refine ⟨rfl, ?_, (Below.refl _ _).setCell K.out.le _⟩
    all_goals exact K.out.num (i := 9) { s with flight := false } rfl rfl rfl rfl rfl
  · rw [if_neg h0, if_neg h0]
    have cL := Lib.hid (landed_any B g s h r d w k)
    clear k hf h9
    go_enter Tryd.func81, Tryd.ntmps81
    go_wp2_with (go_at_call 100; (with_reducible refine cL.out.mono ?_); rintro e w2 ⟨rfl, k, hb⟩; have hf := k.blk.frozen; have h7 := k.blk.cell 7; have h13 := k.blk.cell 13; have h14 := k.blk.cell 14; have h15 := k.blk.cell 15; have h19 := k.blk.cell 19; have h23 := k.blk.cell 23; have h27 := k.blk.cell 27; simp only [List.getElem?_toArray, List.getElem?_cons_zero, List.getElem?_cons_succ] at h7 h13 h14 h15 h19 h23 h27; have K := Lib.hid k; have HB := Lib.hid hb; clear k hb)
    go_region
    all_goals go_end0
    refine ⟨rfl, ?_, ?_⟩
    · refine WalkOwn.drew ?_
      exact (((K.out.num (i := 7) { s with flight := false, tries := 0, phase := 2 } rfl rfl rfl rfl rfl).num (i := 13) { s with flight := false, tries := 0, phase := 2, failStep := r.step } rfl rfl rfl rfl rfl).num (i := 14) { s with flight := false, tries := 0, phase := 2, failStep := r.step, failCode := r.code } rfl rfl rfl rfl rfl).put15 rfl
    · exact ((((HB.out.setCell K.out.le _).setCell K.out.le _).setCell K.out.le _).setCell K.out.le _).drew
end Go.Proofs.YteaiadpigpehaaaDoor
