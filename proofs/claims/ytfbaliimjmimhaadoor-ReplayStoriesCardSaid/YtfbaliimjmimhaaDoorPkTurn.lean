/-
  What the kinds of records do to saga's walk: begun, landed, failed, ended walked.
  done and undone of saga's walk walked: a record's data is laid behind the outs, the undos.
  undone of saga's walk walked.
  saga.turn walked.
  The function that saga.turn picks, at a walk whose words are read as plain data.
  Laws for whole structs in a block: a struct is loaded, stored and handed back at one stroke.
  The laws for whole structs at an operation that stands behind a guard.
  Conditions: as each theorem says. (Joined by wip/tools/pack.py.)
-/
import Derived.Test.YtfbaliimjmimhaaDoorPkWalk
import Derived.BigRegion
import Derived.Deep.RegionLaw
import Derived.Deep.RegionLawGrows
import Derived.Deep.AppendLies
import Derived.Laws.Rows
import Derived.Laws.CopyRow
import Derived.BigFrame
namespace Go.Proofs.YtfbaliimjmimhaaDoor
open Go.RowKit

@[reducible] def walkArr (s : SagaV) (r : RecV) : Array Value := #[.int .i64 s.id, .string s.name, .int .i64 s.count, .int .i64 s.pivot, .int .i64 s.begun, .int .i64 s.at_, s.input.v, .int .i64 s.phase, .int .i64 s.next, .bool s.flight, .int .i64 s.tries, s.outs.v, s.undos.v, .int .i64 s.failStep, .int .i64 s.failCode, s.fail.v,
  .int .i64 r.v, .int .i64 r.kind, .int .i64 r.saga, .int .i64 r.step, .int .i64 r.try_, .int .i64 r.at_, .int .i64 r.last, .int .i64 r.code, .int .i64 r.count, .int .i64 r.pivot, .string r.name, r.data.v]

/-- A row of one's own is kept where its block is. -/
theorem own_heap {w w' : World} {base : Nat} {e : TypeId} {size n : Nat} {v : Value} {xs : List Value} (h : w.ownsRow base e size v n xs) (hh : ∀ (k : Nat) (cur : Array Value), w.heap[k]? = some (Obj.cells cur e) → w'.heap[k]? = w.heap[k]?) : w'.ownsRow base e size v n xs := by
  refine ⟨h.1, ?_⟩
  rcases h.2 with hn | ⟨g, cap, cur, rfl, hb, hgg, rest⟩
  · exact .inl hn
  · exact .inr ⟨g, cap, cur, rfl, hb, (hh g cur hgg).trans hgg, rest⟩
/-- Blocks of bytes and of rows of bytes are as they were. -/
structure RowsKept (w w' : World) : Prop where
  bytes : ∀ (k : Nat) (cur : Array Value), w.heap[k]? = some (Obj.cells cur 5) → w'.heap[k]? = w.heap[k]?
  lists : ∀ (k : Nat) (cur : Array Value), w.heap[k]? = some (Obj.cells cur 37) → w'.heap[k]? = w.heap[k]?
theorem OwnBytes.keep {w w' : World} {b : Nat} {v : Value} {d : List Int} (h : OwnBytes w b v d) (k : RowsKept w w') : OwnBytes w' b v d := own_heap h k.bytes
theorem OwnLists.keep {w w' : World} {b : Nat} {v : Value} {ls : List (List Int)} (h : OwnLists w b v ls) (k : RowsKept w w') : OwnLists w' b v ls := by
  obtain ⟨vs, h1, h2, h3⟩ := h
  exact ⟨vs, own_heap h1 k.lists, h2, fun i a b => (h3 i a b).keep k⟩
theorem OwnHeld.keep {w w' : World} {b : Nat} {s : SagaV} {h : Held} (k : OwnHeld w b s h) (q : RowsKept w w') : OwnHeld w' b s h := ⟨k.input.keep q, k.outs.keep q, k.undos.keep q, k.fail.keep q, k.apart⟩
theorem RowsKept.set {w : World} {g i : Nat} {cs : Array Value} {t : TypeId} (h : BlkAt w g cs t) (h1 : t ≠ 5) (h2 : t ≠ 37) (u : Value) : RowsKept w (w.setCell ⟨g, i, none⟩ u) := by
  have key : ∀ e, t ≠ e → ∀ (k : Nat) (cur : Array Value), w.heap[k]? = some (Obj.cells cur e) → (w.setCell ⟨g, i, none⟩ u).heap[k]? = w.heap[k]? := by
    intro e he k cur hk
    refine Below.heap_setCell w ⟨g, i, none⟩ u k (fun e' => ?_)
    simp only at e'
    subst e'
    rw [show w.heap[k]? = _ from h] at hk
    simp at hk
    exact he hk.2
  exact ⟨key _ h1, key _ h2⟩
theorem RowsKept.below {w w' : World} (h : Below w.heap.size w w') : RowsKept w w' :=
  ⟨fun k _ hk => h.block k (Array.getElem?_eq_some_iff.1 hk).1, fun k _ hk => h.block k (Array.getElem?_eq_some_iff.1 hk).1⟩

/-- A saga's walk at a block, its lists in blocks of one's own. -/
structure WalkOwn (w : World) (B g : Nat) (s : SagaV) (h : Held) (r : RecV) (d : List Int) : Prop where
  blk : BlkAt w g (walkArr s r) 100
  own : OwnHeld w B s h
  data : OwnBytes w B r.data.v d
  le : B ≤ g
theorem WalkOwn.kept {w : World} {B g i : Nat} {s : SagaV} {h : Held} {r : RecV} {d : List Int} (k : WalkOwn w B g s h r d) (u : Value) : RowsKept w (w.setCell ⟨g, i, none⟩ u) := RowsKept.set k.blk (by decide) (by decide) u
/-- One word of it is written. -/
theorem WalkOwn.step {w : World} {B g i : Nat} {s s' : SagaV} {h h' : Held} {r : RecV} {d : List Int} {u : Value} (k : WalkOwn w B g s h r d) (e : (walkArr s r).setIfInBounds i u = walkArr s' r) (ho : OwnHeld w B s' h') : WalkOwn (w.setCell ⟨g, i, none⟩ u) B g s' h' r d :=
  ⟨e ▸ k.blk.set u, ho.keep (k.kept u), k.data.keep (k.kept u), k.le⟩
theorem OwnHeld.of {w : World} {B : Nat} {s s' : SagaV} {h : Held} (k : OwnHeld w B s h) (h1 : s'.input = s.input) (h2 : s'.outs = s.outs) (h3 : s'.undos = s.undos) (h4 : s'.fail = s.fail) : OwnHeld w B s' h :=
  ⟨h1 ▸ k.input, h2 ▸ k.outs, h3 ▸ k.undos, h4 ▸ k.fail, by rw [h2, h3]; exact k.apart⟩
theorem WalkOwn.num {w : World} {B g i : Nat} {s : SagaV} {h : Held} {r : RecV} {d : List Int} {u : Value} (k : WalkOwn w B g s h r d) (s' : SagaV) (e : (walkArr s r).setIfInBounds i u = walkArr s' r) (h1 : s'.input = s.input) (h2 : s'.outs = s.outs) (h3 : s'.undos = s.undos) (h4 : s'.fail = s.fail) : WalkOwn (w.setCell ⟨g, i, none⟩ u) B g s' h r d :=
  k.step e (k.own.of h1 h2 h3 h4)
theorem WalkOwn.through {w w' : World} {B g : Nat} {s : SagaV} {h : Held} {r : RecV} {d : List Int} (k : WalkOwn w B g s h r d) (hb : Below w.heap.size w w') : WalkOwn w' B g s h r d :=
  ⟨k.blk.below hb (Array.getElem?_eq_some_iff.1 k.blk).1, ⟨k.own.input.through hb, k.own.outs.through hb, k.own.undos.through hb, k.own.fail.through hb, k.own.apart⟩, k.data.through hb, k.le⟩
theorem WalkOwn.walkIn {w : World} {B g : Nat} {s : SagaV} {h : Held} {r : RecV} {d : List Int} (k : WalkOwn w B g s h r d) : WalkIn w g s r := by
  have hc := k.blk.cell
  constructor <;> constructor <;> (rw [hc]; rfl)

theorem WalkOwn.drew {w : World} {B g : Nat} {s : SagaV} {h : Held} {r : RecV} {d : List Int} (k : WalkOwn w B g s h r d) : WalkOwn w.drew B g s h r d := k.through (Below.refl _ _).drew
/-- The record's data as what is kept of a failure. -/
theorem WalkOwn.put15 {w : World} {B g : Nat} {s : SagaV} {h : Held} {r : RecV} {d : List Int} (k : WalkOwn w B g s h r d) {s' : SagaV} (e : s' = { s with fail := r.data }) : WalkOwn (w.setCell ⟨g, 15, none⟩ r.data.v) B g s' { h with fail := d } r d := by
  subst e
  exact k.step rfl ⟨k.own.input, k.own.outs, k.own.undos, k.data, k.own.apart⟩

set_option maxRecDepth 100000 in
theorem landed_any (B g : Nat) (s : SagaV) (h : Held) (r : RecV) (d : List Int) (w : World) (k : WalkOwn w B g s h r d) :
    Calls Tryd.prog 88 #[.pointer (some ⟨g, 0, none⟩)] w fun e w' => e = .returned (.tuple #[]) ∧ WalkOwn w' B g { s with flight := false, tries := 0 } h r d ∧ Below B w w' := by
  have hf := k.blk.frozen
  have h9 := k.blk.cell 9
  have h10 := k.blk.cell 10
  simp only [List.getElem?_toArray, List.getElem?_cons_zero, List.getElem?_cons_succ] at h9 h10
  have K := Lib.hid k
  clear k
  go_enter Tryd.func88, Tryd.ntmps88
  go_wp2
  go_end0
  refine ⟨rfl, ?_, ((Below.refl _ _).setCell K.out.le _).setCell K.out.le _⟩
  exact (K.out.num (i := 9) { s with flight := false } rfl rfl rfl rfl rfl).num (i := 10) { s with flight := false, tries := 0 } rfl rfl rfl rfl rfl

set_option maxRecDepth 100000 in
theorem begun_any (B g : Nat) (s : SagaV) (h : Held) (r : RecV) (d : List Int) (w : World) (k : WalkOwn w B g s h r d) :
    Calls Tryd.prog 67 #[.pointer (some ⟨g, 0, none⟩)] w fun e w' => e = .returned (.tuple #[]) ∧ WalkOwn w' B g { s with flight := true, tries := r.try_ } h r d ∧ Below B w w' := by
  have hf := k.blk.frozen
  have h9 := k.blk.cell 9
  have h10 := k.blk.cell 10
  have h20 := k.blk.cell 20
  simp only [List.getElem?_toArray, List.getElem?_cons_zero, List.getElem?_cons_succ] at h9 h10 h20
  have K := Lib.hid k
  clear k
  go_enter Tryd.func67, Tryd.ntmps67
  go_wp2
  all_goals try (go_quiet (fail); go_wp2)
  go_end0
  refine ⟨rfl, ?_, ((Below.refl _ _).setCell K.out.le _).setCell K.out.le _⟩
  exact (K.out.num (i := 9) { s with flight := true } rfl rfl rfl rfl rfl).num (i := 10) { s with flight := true, tries := r.try_ } rfl rfl rfl rfl rfl

def endPhase (n : Int) : Int := if n = 1 then 3 else 4
set_option maxRecDepth 100000 in
theorem ended_any (B g : Nat) (s : SagaV) (h : Held) (r : RecV) (d : List Int) (w : World) (k : WalkOwn w B g s h r d) :
    Calls Tryd.prog 71 #[.pointer (some ⟨g, 0, none⟩)] w fun e w' => e = .returned (.tuple #[]) ∧ WalkOwn w' B g { s with phase := endPhase s.phase } h r d ∧ Below B w w' := by
  have hf := k.blk.frozen
  have h7 := k.blk.cell 7
  simp only [List.getElem?_toArray, List.getElem?_cons_zero, List.getElem?_cons_succ] at h7
  have K := Lib.hid k
  clear k
  obtain ⟨P, hP⟩ : ∃ x, s.phase = x := ⟨_, rfl⟩
  rw [hP] at h7
  have HP := Lib.hid hP
  clear hP
  by_cases h1 : P = 1
  · subst h1
    go_enter Tryd.func71, Tryd.ntmps71
    go_wp2
    all_goals go_end0
    all_goals refine ⟨rfl, ?_, (Below.refl _ _).setCell K.out.le _⟩
    all_goals exact K.out.num (i := 7) _ (by rw [HP.out]; rfl) rfl rfl rfl rfl
  · go_enter Tryd.func71, Tryd.ntmps71
    go_wp2
    all_goals go_end0
    all_goals refine ⟨rfl, ?_, (Below.refl _ _).setCell K.out.le _⟩
    all_goals exact K.out.num (i := 7) _ (by rw [HP.out]; unfold endPhase; rw [if_neg h1]; rfl) rfl rfl rfl rfl

/-- What a failure for good leaves. -/
def failS (s : SagaV) (r : RecV) : SagaV := { s with flight := false, tries := 0, phase := 2, failStep := r.step, failCode := r.code, fail := r.data }
def failH (h : Held) (d : List Int) : Held := { h with fail := d }

set_option maxRecDepth 100000 in
theorem failed_any (B g : Nat) (s : SagaV) (h : Held) (r : RecV) (d : List Int) (w : World) (k : WalkOwn w B g s h r d) :
    Calls Tryd.prog 69 #[.pointer (some ⟨g, 0, none⟩)] w fun e w' => e = .returned (.tuple #[]) ∧ WalkOwn w' B g (if r.last = 0 then { s with flight := false } else failS s r) (if r.last = 0 then h else failH h d) r d ∧ Below B w w' := by
  have hf := k.blk.frozen
  have h9 := k.blk.cell 9
  have h22 := k.blk.cell 22
  simp only [List.getElem?_toArray, List.getElem?_cons_zero, List.getElem?_cons_succ] at h9 h22
  obtain ⟨L, hL⟩ : ∃ x, r.last = x := ⟨_, rfl⟩
  rw [hL] at h22
  rw [hL]
  by_cases h0 : L = 0
  · rw [if_pos h0, if_pos h0]
    subst h0
    have K := Lib.hid k
    clear k hL
    go_enter Tryd.func69, Tryd.ntmps69
    go_wp2
    all_goals ((try simp only [Exit.inBlock, Exit.then]); refine bodyPost_ret (results_none rfl _ _ _) rfl ?_)
    all_goals refine ⟨rfl, ?_, (Below.refl _ _).setCell K.out.le _⟩
    all_goals exact K.out.num (i := 9) { s with flight := false } rfl rfl rfl rfl rfl
  · rw [if_neg h0, if_neg h0]
    have cL := Lib.hid (landed_any B g s h r d w k)
    clear k hf h9
    go_enter Tryd.func69, Tryd.ntmps69
    go_wp2_with (go_at_call 88; (with_reducible refine cL.out.mono ?_); rintro e w2 ⟨rfl, k, hb⟩; have hf := k.blk.frozen; have h7 := k.blk.cell 7; have h13 := k.blk.cell 13; have h14 := k.blk.cell 14; have h15 := k.blk.cell 15; have h19 := k.blk.cell 19; have h23 := k.blk.cell 23; have h27 := k.blk.cell 27; simp only [List.getElem?_toArray, List.getElem?_cons_zero, List.getElem?_cons_succ] at h7 h13 h14 h15 h19 h23 h27; have K := Lib.hid k; have HB := Lib.hid hb; clear k hb)
    go_region
    all_goals go_end0
    refine ⟨rfl, ?_, ?_⟩
    · refine WalkOwn.drew ?_
      exact (((K.out.num (i := 7) { s with flight := false, tries := 0, phase := 2 } rfl rfl rfl rfl rfl).num (i := 13) { s with flight := false, tries := 0, phase := 2, failStep := r.step } rfl rfl rfl rfl rfl).num (i := 14) { s with flight := false, tries := 0, phase := 2, failStep := r.step, failCode := r.code } rfl rfl rfl rfl rfl).put15 rfl
    · exact ((((HB.out.setCell K.out.le _).setCell K.out.le _).setCell K.out.le _).setCell K.out.le _).drew
end Go.Proofs.YtfbaliimjmimhaaDoor
namespace Go.Proofs.YtfbaliimjmimhaaDoor
open Go.RowKit

theorem blk_grown {w w' : World} {row : Option Nat} {g : Nat} {cs : Array Value} {t : TypeId} (h : BlkAt w g cs t) (hg : w.grownBy w' row) (hne : some g ≠ row) : BlkAt w' g cs t := by
  unfold BlkAt
  rw [hg.block g (Array.getElem?_eq_some_iff.1 h).1 hne]
  exact h
/-- A block of another type is not a row's own. -/
theorem own_ne_blk {w : World} {base n g : Nat} {e t : TypeId} {v : Value} {xs : List Value} {cs : Array Value} (h : w.ownsRow base e 1 v n xs) (k : BlkAt w g cs t) (hne : t ≠ e) : v.ownBlock ≠ some g := by
  intro e'
  rcases h.2 with ⟨rfl, _⟩ | ⟨g', cap, cur, rfl, _, hg', _⟩
  · cases e'
  · simp only [Value.ownBlock, Option.some.injEq] at e'
    subst e'
    rw [show w.heap[g']? = _ from k] at hg'
    simp at hg'
    exact hne hg'.2
theorem blk_after {w w1 : World} {row : Option Nat} {g : Nat} {cs : Array Value} {t : TypeId} {o : Obj} (h : BlkAt w g cs t) (hg : (w.alloc o).drew.grownBy w1 row) (hne : row ≠ some g) : BlkAt w1 g cs t :=
  blk_grown (show BlkAt (w.alloc o).drew g cs t from h.push o) hg (Ne.symm hne)
theorem Below.drewn {w w' : World} {B : Nat} (h : Below B w w') : Below B w w'.drew := h.drew
theorem own_drew {w : World} {base : Nat} {e : TypeId} {size n : Nat} {v : Value} {xs : List Value} (h : w.ownsRow base e size v n xs) : w.drew.ownsRow base e size v n xs := own_through h (Below.refl _ _).drew

theorem apart_sym {a b : Option Nat} (h : a = none ∨ a ≠ b) : b = none ∨ b ≠ a := by
  cases b with
  | none => exact .inl rfl
  | some k => exact .inr (fun e => by rcases h with h | h; (rw [h] at e; cases e); exact h e.symm)
theorem lists_kept {w w' : World} {B : Nat} {u v : Value} {ls : List (List Int)} {n : Nat} {xs : List Value} (h : OwnLists w B u ls) (k : w.ownsRow B 37 1 v n xs) (hg : w.grownBy w' v.ownBlock) (ha : u.ownBlock = none ∨ u.ownBlock ≠ v.ownBlock) : OwnLists w' B u ls := by
  obtain ⟨vs, h1, h2, h3⟩ := h
  exact ⟨vs, h1.kept hg ha, h2, fun i a b => World.ownsRow.kept (h3 i a b) hg (own_apart (h3 i a b) k)⟩
theorem bytes_kept {w w' : World} {B : Nat} {u v : Value} {d : List Int} {n : Nat} {xs : List Value} (h : OwnBytes w B u d) (k : w.ownsRow B 37 1 v n xs) (hg : w.grownBy w' v.ownBlock) : OwnBytes w' B u d :=
  World.ownsRow.kept h hg (own_apart h k)
/-- Below, behind a growth in the row of one's own. -/
theorem below_grown {w w3 w1 : World} {B : Nat} {v : Value} {e : TypeId} {n : Nat} {xs : List Value} {o : Obj} (hb : Below B w w3) (hB : B ≤ w3.heap.size) (k : w3.ownsRow B e 1 v n xs) (hg : (w3.alloc o).drew.grownBy w1 v.ownBlock) : Below B w w1 :=
  ((hb.alloc hB o).drew).grown hg (by show B ≤ (w3.alloc o).heap.size; simp; omega) (fun q hq => (k.lt q hq).1)

/-- How done ends. -/
theorem done_end {w w3 w1 : World} {B g : Nat} {S : SagaV} {h : Held} {r : RecV} {d : List Int} {x : Obj} {o : Sl} {vs : List Sl} (K : WalkOwn w3 B g S h r d) (hb : Below B w w3) (o1 : w3.ownsRow B 37 1 S.outs.v h.outs.length (vs.map Sl.v)) (o2 : vs.length = h.outs.length) (o3 : ∀ i (h1 : i < vs.length) (h2 : i < h.outs.length), OwnBytes w3 B (vs[i]).v h.outs[i])
    (hg : (w3.alloc x).drew.grownBy w1 S.outs.v.ownBlock) (hown : w1.ownsRow B 37 1 o.v (h.outs.length + 1) (vs.map Sl.v ++ [r.data.v])) (hat : ∃ gg, o.v.ownBlock = some gg ∧ (S.outs.v.ownBlock = some gg ∨ gg = w3.heap.size + 1)) (ag : S.outs.v.ownBlock ≠ some g) :
    WalkOwn (w1.setCell ⟨g, 11, none⟩ o.v) B g { S with outs := o } { h with outs := h.outs ++ [d] } r d ∧ Below B w (w1.setCell ⟨g, 11, none⟩ o.v) := by
  have hbW : Below w3.heap.size w3 (w3.alloc x).drew := ((Below.refl _ _).alloc (Nat.le_refl _) _).drew
  have KW := K.through hbW
  have p1 := own_through o1 hbW
  have hgl := (Array.getElem?_eq_some_iff.1 K.blk).1
  have KB := blk_after K.blk hg ag
  have RK := RowsKept.set (i := 11) KB (by decide) (by decide) o.v
  have q : OwnLists w1 B o.v (h.outs ++ [d]) := OwnLists.grown (s := r.data) o2 (fun i a b => (o3 i a b).through hbW) p1 KW.data hown hg
  have hu : OwnLists w1 B S.undos.v h.undos := lists_kept KW.own.undos p1 hg (apart_sym K.own.apart)
  refine ⟨⟨?_, ⟨?_, q.keep RK, hu.keep RK, ?_, ?_⟩, ?_, K.le⟩, ?_⟩
  · exact KB.set (i := 11) o.v
  · exact (bytes_kept KW.own.input p1 hg).keep RK
  · exact (bytes_kept KW.own.fail p1 hg).keep RK
  · obtain ⟨gg, e, hat⟩ := hat
    rcases hat with hat | hat
    · show o.v.ownBlock = none ∨ o.v.ownBlock ≠ S.undos.v.ownBlock
      rw [e, ← hat]
      exact K.own.apart
    · refine .inr fun e' => ?_
      have h1 := (K.own.undos.lt gg (by rw [← show o.v.ownBlock = _ from e']; exact e)).2
      omega
  · exact (bytes_kept KW.data p1 hg).keep RK
  · exact (below_grown hb (by have := K.le; omega) o1 hg).setCell K.le _
set_option maxRecDepth 100000 in
set_option maxHeartbeats 3200000 in
theorem done_any (B g : Nat) (s : SagaV) (h : Held) (r : RecV) (d : List Int) (w : World) (k : WalkOwn w B g s h r d) (hn : 0 ≤ s.next ∧ s.next ≤ 1000) (hl : h.outs.length ≤ 1000) :
    Calls Tryd.prog 68 #[.pointer (some ⟨g, 0, none⟩)] w fun e w' => ∃ o : Sl, e = .returned (.tuple #[]) ∧ WalkOwn w' B g { s with flight := false, tries := 0, next := s.next + 1, outs := o } { h with outs := h.outs ++ [d] } r d ∧ Below B w w' := by
  obtain ⟨i0, hi0, hz0, hz1, hz2⟩ := info_parts infoBytes
  have cL := Lib.hid (landed_any B g s h r d w k)
  clear k
  obtain ⟨hn0, hn1⟩ := hn
  have hcap : h.outs.length + 1 ≤ maxLen := by simp only [maxLen]; omega
  go_enter Tryd.func68, Tryd.ntmps68
  go_wp2_with (go_at_call 88; (with_reducible refine cL.out.mono ?_); rintro e w2 ⟨rfl, k, hb⟩; have hf := k.blk.frozen; have h8 := k.blk.cell 8; simp only [List.getElem?_toArray, List.getElem?_cons_zero, List.getElem?_cons_succ] at h8; have K := Lib.hid k; have HB := Lib.hid hb; clear k hb)
  have K3 := K.out.num (i := 8) { s with flight := false, tries := 0, next := s.next + 1 } rfl rfl rfl rfl rfl
  have HB3 := Lib.hid (HB.out.setCell (p := ⟨g, 8, none⟩) K.out.le (.int .i64 (s.next + 1)))
  obtain ⟨w3, hw3⟩ : ∃ x, w2.setCell ⟨g, 8, none⟩ (.int .i64 (s.next + 1)) = x := ⟨_, rfl⟩
  rw [hw3] at K3 HB3
  rw [hw3]
  have h11 := K3.blk.cell 11
  have h27 := K3.blk.cell 27
  simp only [List.getElem?_toArray, List.getElem?_cons_zero, List.getElem?_cons_succ] at h11 h27
  have hf3 := K3.blk.frozen 11
  obtain ⟨vs, o1, o2, o3⟩ := K3.own.outs
  have ag := own_ne_blk o1 K3.blk (by decide)
  have hsz := (Array.getElem?_eq_some_iff.1 K3.blk).1
  have hle := K3.le
  clear hw3 h8 hf cL
  have KK := Lib.hid K3
  have O1 := Lib.hid o1
  clear K3 K HB o1
  go_region_law
    ((refine step_append_lies _ (by rfl) _ _ _ (by rfl) B 37 i0 _ 1 24 Tryd.underlying38 hi0 hz0 hz1 hz2 rfl (by omega) s.outs.v h.outs.length (vs.map Sl.v) (by rfl) ((O1.out.alloc _).drew)
        ⟨w3.heap.size, 0, none⟩ 1 1 [r.data.v] (by rfl) (by rfl) (World.news_of_block (cs := #[r.data.v]) (t := 37) (fr := (0, 0)) (heap_alloc_new w3 _)) (by simp [Value.oneCell'])
        (by omega) hcap (by omega) (by simp; omega) (w3.heap.size + 1) (by simp) ?_; intro gg cap w1 hown1 hgrow hat hlt; have KB := blk_after KK.out.blk hgrow ag; have hf1 := KB.frozen 11; have hc1 : w1.cell? ⟨g, 11, none⟩ = some s.outs.v := (KB.cell 11).trans rfl))
  all_goals go_end0
  all_goals exact ⟨⟨some ⟨gg, 0, none⟩, h.outs.length + 1, cap⟩, rfl, done_end (o := ⟨some ⟨gg, 0, none⟩, h.outs.length + 1, cap⟩) KK.out HB3.out O1.out o2 o3 hgrow hown1 ⟨gg, rfl, hat⟩ ag⟩
end Go.Proofs.YtfbaliimjmimhaaDoor
namespace Go.Proofs.YtfbaliimjmimhaaDoor
open Go.RowKit

/-- How undone ends. -/
theorem undone_end {w w3 w1 : World} {B g : Nat} {S : SagaV} {h : Held} {r : RecV} {d : List Int} {x : Obj} {o : Sl} {vs : List Sl} (K : WalkOwn w3 B g S h r d) (hb : Below B w w3) (o1 : w3.ownsRow B 37 1 S.undos.v h.undos.length (vs.map Sl.v)) (o2 : vs.length = h.undos.length) (o3 : ∀ i (h1 : i < vs.length) (h2 : i < h.undos.length), OwnBytes w3 B (vs[i]).v h.undos[i])
    (hg : (w3.alloc x).drew.grownBy w1 S.undos.v.ownBlock) (hown : w1.ownsRow B 37 1 o.v (h.undos.length + 1) (vs.map Sl.v ++ [r.data.v])) (hat : ∃ gg, o.v.ownBlock = some gg ∧ (S.undos.v.ownBlock = some gg ∨ gg = w3.heap.size + 1)) (ag : S.undos.v.ownBlock ≠ some g) :
    WalkOwn (w1.setCell ⟨g, 12, none⟩ o.v) B g { S with undos := o } { h with undos := h.undos ++ [d] } r d ∧ Below B w (w1.setCell ⟨g, 12, none⟩ o.v) := by
  have hbW : Below w3.heap.size w3 (w3.alloc x).drew := ((Below.refl _ _).alloc (Nat.le_refl _) _).drew
  have KW := K.through hbW
  have p1 := own_through o1 hbW
  have hgl := (Array.getElem?_eq_some_iff.1 K.blk).1
  have KB := blk_after K.blk hg ag
  have RK := RowsKept.set (i := 12) KB (by decide) (by decide) o.v
  have q : OwnLists w1 B o.v (h.undos ++ [d]) := OwnLists.grown (s := r.data) o2 (fun i a b => (o3 i a b).through hbW) p1 KW.data hown hg
  have hu : OwnLists w1 B S.outs.v h.outs := lists_kept KW.own.outs p1 hg K.own.apart
  refine ⟨⟨?_, ⟨?_, hu.keep RK, q.keep RK, ?_, ?_⟩, ?_, K.le⟩, ?_⟩
  · exact KB.set (i := 12) o.v
  · exact (bytes_kept KW.own.input p1 hg).keep RK
  · exact (bytes_kept KW.own.fail p1 hg).keep RK
  · obtain ⟨gg, e, hat⟩ := hat
    refine apart_sym ?_
    rcases hat with hat | hat
    · show o.v.ownBlock = none ∨ o.v.ownBlock ≠ S.outs.v.ownBlock
      rw [e, ← hat]
      exact apart_sym K.own.apart
    · refine .inr fun e' => ?_
      have h1 := (K.own.outs.lt gg (by rw [← show o.v.ownBlock = _ from e']; exact e)).2
      omega
  · exact (bytes_kept KW.data p1 hg).keep RK
  · exact (below_grown hb (by have := K.le; omega) o1 hg).setCell K.le _
set_option maxRecDepth 100000 in
set_option maxHeartbeats 3200000 in
theorem undone_any (B g : Nat) (s : SagaV) (h : Held) (r : RecV) (d : List Int) (w : World) (k : WalkOwn w B g s h r d) (hn : 0 ≤ s.next ∧ s.next ≤ 1000) (hl : h.undos.length ≤ 1000) :
    Calls Tryd.prog 70 #[.pointer (some ⟨g, 0, none⟩)] w fun e w' => ∃ o : Sl, e = .returned (.tuple #[]) ∧ WalkOwn w' B g { s with flight := false, tries := 0, next := s.next - 1, undos := o } { h with undos := h.undos ++ [d] } r d ∧ Below B w w' := by
  obtain ⟨i0, hi0, hz0, hz1, hz2⟩ := info_parts infoBytes
  have cL := Lib.hid (landed_any B g s h r d w k)
  clear k
  obtain ⟨hn0, hn1⟩ := hn
  have hcap : h.undos.length + 1 ≤ maxLen := by simp only [maxLen]; omega
  go_enter Tryd.func70, Tryd.ntmps70
  go_wp2_with (go_at_call 88; (with_reducible refine cL.out.mono ?_); rintro e w2 ⟨rfl, k, hb⟩; have hf := k.blk.frozen; have h8 := k.blk.cell 8; simp only [List.getElem?_toArray, List.getElem?_cons_zero, List.getElem?_cons_succ] at h8; have K := Lib.hid k; have HB := Lib.hid hb; clear k hb)
  have K3 := K.out.num (i := 8) { s with flight := false, tries := 0, next := s.next - 1 } rfl rfl rfl rfl rfl
  have HB3 := Lib.hid (HB.out.setCell (p := ⟨g, 8, none⟩) K.out.le (.int .i64 (s.next - 1)))
  obtain ⟨w3, hw3⟩ : ∃ x, w2.setCell ⟨g, 8, none⟩ (.int .i64 (s.next - 1)) = x := ⟨_, rfl⟩
  rw [hw3] at K3 HB3
  rw [hw3]
  have h12 := K3.blk.cell 12
  have h27 := K3.blk.cell 27
  simp only [List.getElem?_toArray, List.getElem?_cons_zero, List.getElem?_cons_succ] at h12 h27
  have hf3 := K3.blk.frozen 12
  obtain ⟨vs, o1, o2, o3⟩ := K3.own.undos
  have ag := own_ne_blk o1 K3.blk (by decide)
  have hsz := (Array.getElem?_eq_some_iff.1 K3.blk).1
  have hle := K3.le
  clear hw3 h8 hf cL
  have KK := Lib.hid K3
  have O1 := Lib.hid o1
  clear K3 K HB o1
  go_region_law
    ((refine step_append_lies _ (by rfl) _ _ _ (by rfl) B 37 i0 _ 1 24 Tryd.underlying38 hi0 hz0 hz1 hz2 rfl (by omega) s.undos.v h.undos.length (vs.map Sl.v) (by rfl) ((O1.out.alloc _).drew)
        ⟨w3.heap.size, 0, none⟩ 1 1 [r.data.v] (by rfl) (by rfl) (World.news_of_block (cs := #[r.data.v]) (t := 37) (fr := (0, 0)) (heap_alloc_new w3 _)) (by simp [Value.oneCell'])
        (by omega) hcap (by omega) (by simp; omega) (w3.heap.size + 1) (by simp) ?_; intro gg cap w1 hown1 hgrow hat hlt; have KB := blk_after KK.out.blk hgrow ag; have hf1 := KB.frozen 12; have hc1 : w1.cell? ⟨g, 12, none⟩ = some s.undos.v := (KB.cell 12).trans rfl))
  all_goals go_end0
  all_goals exact ⟨⟨some ⟨gg, 0, none⟩, h.undos.length + 1, cap⟩, rfl, undone_end (o := ⟨some ⟨gg, 0, none⟩, h.undos.length + 1, cap⟩) KK.out HB3.out O1.out o2 o3 hgrow hown1 ⟨gg, rfl, hat⟩ ag⟩
end Go.Proofs.YtfbaliimjmimhaaDoor
namespace Go.Proofs.YtfbaliimjmimhaaDoor
open Go.RowKit

def turnF (k : Int) : FuncId := if k = 2 ∨ k = 5 then 67 else if k = 3 then 68 else if k = 4 then 69 else if k = 6 then 70 else 71

set_option maxRecDepth 100000 in
theorem turn_any (k : Int) (w : World) : Calls Tryd.prog 50 #[.int .i64 k] w fun e w' => e = .returned (.func (.func (turnF k)) #[] #[]) ∧ w' = w := by
  obtain ⟨V, hV⟩ : ∃ x, turnF k = x := ⟨_, rfl⟩
  rw [hV]
  have HV := Lib.hid hV
  clear hV
  by_cases h2 : k = 2
  · subst h2
    obtain rfl : V = 67 := HV.out.symm
    go_enter Tryd.func50, Tryd.ntmps50
    go_wp2
    all_goals go_ret
    all_goals exact ⟨rfl, rfl⟩
  by_cases h5 : k = 5
  · subst h5
    obtain rfl : V = 67 := HV.out.symm
    go_enter Tryd.func50, Tryd.ntmps50
    go_wp2
    all_goals go_ret
    all_goals exact ⟨rfl, rfl⟩
  by_cases h3 : k = 3
  · subst h3
    obtain rfl : V = 68 := HV.out.symm
    go_enter Tryd.func50, Tryd.ntmps50
    go_wp2
    all_goals go_ret
    all_goals exact ⟨rfl, rfl⟩
  by_cases h4 : k = 4
  · subst h4
    obtain rfl : V = 69 := HV.out.symm
    go_enter Tryd.func50, Tryd.ntmps50
    go_wp2
    all_goals go_ret
    all_goals exact ⟨rfl, rfl⟩
  by_cases h6 : k = 6
  · subst h6
    obtain rfl : V = 70 := HV.out.symm
    go_enter Tryd.func50, Tryd.ntmps50
    go_wp2
    all_goals go_ret
    all_goals exact ⟨rfl, rfl⟩
  · obtain rfl : V = 71 := by rw [← HV.out]; unfold turnF; rw [if_neg (by omega), if_neg h3, if_neg h4, if_neg h6]
    clear HV
    go_enter Tryd.func50, Tryd.ntmps50
    go_wp2
    all_goals go_ret
    all_goals exact ⟨rfl, rfl⟩
end Go.Proofs.YtfbaliimjmimhaaDoor
namespace Go.Proofs.YtfbaliimjmimhaaDoor
open Go.RowKit

/-- A walk at a block, read as plain data. -/
structure WalkD (w : World) (B g : Nat) (D : SagaD) (X : RecD) (s : SagaV) (x : RecV) : Prop where
  eqs : s = D.words s.input s.outs s.undos s.fail
  eqx : x = X.words x.data
  own : WalkOwn w B g s D.held x X.data
theorem WalkD.sagaOwn {w : World} {B g : Nat} {D : SagaD} {X : RecD} {s : SagaV} {x : RecV} (k : WalkD w B g D X s x) : SagaOwn w B s D := ⟨k.eqs, k.own.own⟩
theorem WalkD.through {w w' : World} {B g : Nat} {D : SagaD} {X : RecD} {s : SagaV} {x : RecV} (k : WalkD w B g D X s x) (hb : Below w.heap.size w w') : WalkD w' B g D X s x := ⟨k.eqs, k.eqx, k.own.through hb⟩

theorem act_any (B g : Nat) (D : SagaD) (X : RecD) (s : SagaV) (x : RecV) (w : World) (k : WalkD w B g D X s x) (hn : 0 ≤ D.next ∧ D.next ≤ 1000) (ho : D.outs.length ≤ 1000) (hu : D.undos.length ≤ 1000) :
    Calls Tryd.prog (turnF X.kind) #[.pointer (some ⟨g, 0, none⟩)] w fun e w' => ∃ s' : SagaV, e = .returned (.tuple #[]) ∧ WalkD w' B g (turnD D X) X s' x ∧ Below B w w' := by
  obtain ⟨e1, e2, k⟩ := k
  have n1 : s.next = D.next := by rw [e1]
  have x1 : x.last = X.last := by rw [e2]
  unfold turnF turnD
  split
  · refine (begun_any B g s D.held x X.data w k).mono ?_
    rintro e w' ⟨rfl, h1, h2⟩
    exact ⟨_, rfl, ⟨by rw [e1, e2], e2, h1⟩, h2⟩
  · split
    · refine (done_any B g s D.held x X.data w k (by rw [n1]; exact hn) ho).mono ?_
      rintro e w' ⟨o, rfl, h1, h2⟩
      exact ⟨_, rfl, ⟨by rw [e1], e2, h1⟩, h2⟩
    · split
      · refine (failed_any B g s D.held x X.data w k).mono ?_
        rintro e w' ⟨rfl, h1, h2⟩
        rw [x1] at h1
        split at h1
        · next h0 =>
          rw [if_pos h0]
          exact ⟨_, rfl, ⟨by rw [e1], e2, h1⟩, h2⟩
        · next h0 =>
          rw [if_neg h0]
          exact ⟨_, rfl, ⟨by unfold failS; rw [e1, e2], e2, h1⟩, h2⟩
      · split
        · refine (undone_any B g s D.held x X.data w k (by rw [n1]; exact hn) hu).mono ?_
          rintro e w' ⟨o, rfl, h1, h2⟩
          exact ⟨_, rfl, ⟨by rw [e1], e2, h1⟩, h2⟩
        · refine (ended_any B g s D.held x X.data w k).mono ?_
          rintro e w' ⟨rfl, h1, h2⟩
          exact ⟨_, rfl, ⟨by unfold endPhase; rw [e1], e2, h1⟩, h2⟩
end Go.Proofs.YtfbaliimjmimhaaDoor
namespace Go.Proofs.YtfbaliimjmimhaaDoor
open Go.RowKit

/-- One block has been written, all else is as it was. -/
structure Wrote (w w' : World) (g : Nat) : Prop where
  os : w'.os = w.os
  tape : w'.tape = w.tape
  output : w'.output = w.output
  size : w'.heap.size = w.heap.size
  other : ∀ k, k ≠ g → w'.heap[k]? = w.heap[k]?
theorem Wrote.setRow (w : World) (g : Nat) (cs : Array Value) : Wrote w (w.setRow g cs) g := by
  refine ⟨rfl, rfl, rfl, by simp [World.setRow], fun k hk => ?_⟩
  simp only [World.setRow]
  rw [Array.getElem?_modify]
  simp [Ne.symm hk]
theorem Wrote.below {w0 w w' : World} {B g : Nat} (h : Wrote w w' g) (hb : Below B w0 w) (hB : B ≤ g) : Below B w0 w' :=
  hb.trans ⟨h.os, h.tape, h.output, by rw [h.size]; exact Nat.le_refl _, fun k hk => h.other k (by omega)⟩
theorem Wrote.blk {w w' : World} {g k : Nat} {cs : Array Value} {t : TypeId} (h : Wrote w w' g) (hk : BlkAt w k cs t) (hne : k ≠ g) : BlkAt w' k cs t := (h.other k hne).trans hk
theorem Wrote.grown {w w' : World} {g : Nat} (h : Wrote w w' g) : w.grownBy w' (some g) := ⟨h.os, h.tape, h.output, by rw [h.size]; exact Nat.le_refl _, fun k _ hne => h.other k (fun e => hne (by rw [e]))⟩
theorem Wrote.rows {w w' : World} {g : Nat} {cs : Array Value} {t : TypeId} (h : Wrote w w' g) (hk : BlkAt w g cs t) (h1 : t ≠ 5) (h2 : t ≠ 37) : RowsKept w w' := by
  have key : ∀ e, t ≠ e → ∀ (k : Nat) (cur : Array Value), w.heap[k]? = some (Obj.cells cur e) → w'.heap[k]? = w.heap[k]? := by
    intro e he k cur hc
    refine h.other k (fun e' => ?_)
    subst e'
    rw [show w.heap[k]? = _ from hk] at hc
    simp at hc
    exact he hc.2
  exact ⟨key _ h1, key _ h2⟩

section
variable {P : Program}
def aggDesc : TypeDesc → Bool
  | .struct _ => true
  | .array _ _ => true
  | _ => false
/-- A type of so many cells that is laid in a row. -/
def RowTy (P : Program) (ty : TypeId) (n : Nat) : Prop := (∃ d, P.underlying ty = some d ∧ aggDesc d = true) ∧ (P.info? ty).map (·.size) = some n
theorem RowTy.mk' {ty : TypeId} {n : Nat} {d : TypeDesc} (h1 : P.underlying ty = some d) (h2 : aggDesc d = true) (h3 : (P.info? ty).map (·.size) = some n) : RowTy P ty n := ⟨⟨d, h1, h2⟩, h3⟩
theorem run_loadVar_part (w : World) (g o : Nat) (t ty : TypeId) (cs vs : Array Value) (hg : BlkAt w g cs t) (hv : ∀ i, i < vs.size → cs[o + i]? = vs[i]?) (hu : RowTy P ty vs.size) :
    (loadVar ty ⟨g, o, none⟩).run P w = .ok (.agg vs) w := by
  have hl : (loadCells ⟨g, o, none⟩ vs.toList.length).run P w = .ok vs.toList.toArray w :=
    run_loadCells_list (P := P) w ⟨g, o, none⟩ vs.toList (fun j v hj => by
      have hadd : (⟨g, o, none⟩ : Addr).add j = ⟨g, o + j, none⟩ := by unfold Addr.add; split <;> simp_all
      have hj' : j < vs.size := by simpa using (List.getElem?_eq_some_iff.1 hj).1
      rw [hadd, cell_of_row w g (o + j) cs t _ hg, hv j hj']
      simpa using hj)
  obtain ⟨⟨d, hu, hd⟩, hi⟩ := hu
  cases hq : P.info? ty with
  | none => simp [hq] at hi
  | some i =>
    have hs : i.size = vs.size := by simpa [hq] using hi
    have hagg : (isAgg ty).run P w = .ok true w := by
      unfold isAgg
      rw [Sem.run_bind, run_underlying hu w]
      cases d <;> simp_all [aggDesc]
    simp only [Array.length_toList, Array.toArray_toList] at hl
    simp [loadVar, Sem.run_bind, hagg, sizeOf, typeInfo, hq, hs, hl]
theorem run_storeVar_part (w : World) (g o : Nat) (t ty : TypeId) (cs vs : Array Value) (hg : BlkAt w g cs t) (hl : o + vs.size ≤ cs.size) (h1 : ∀ v ∈ vs.toList, v.oneCell' = true) (hu : RowTy P ty vs.size) :
    (storeVar ty ⟨g, o, none⟩ (.agg vs)).run P w = .ok () (w.setRow g (cs.toList.take o ++ vs.toList ++ cs.toList.drop (o + vs.size)).toArray) := by
  obtain ⟨_, hi⟩ := hu
  cases hq : P.info? ty with
  | none => simp [hq] at hi
  | some i =>
    have hs : i.size = vs.size := by simpa [hq] using hi
    have hst := run_storeCells_at (P := P) g o t vs.toList 0 cs w hg (by simpa using hl) h1
    simp only [Nat.add_zero, Array.length_toList] at hst
    simp [storeVar, Sem.run_bind, sizeOf, typeInfo, hq, hs, Value.cells, hst]

theorem wpList_load_part {ops : Array Oper} {rest : List Oper} {o : Oper} {a : Act} {w : World} {Q : Exit → Act → World → Prop} (hgd : o.guard = none) (ty : TypeId) (x : Operand) (ho : o.op = .load ty x)
    (g k : Nat) (hx : a.eval x = .pointer (some ⟨g, k, none⟩)) (t : TypeId) (cs vs : Array Value) (hg : BlkAt w g cs t) (hv : ∀ i, i < vs.size → cs[k + i]? = vs[i]?) (hu : RowTy P ty vs.size)
    (h : wpList P ops Q rest (a.put o.dst (.agg vs)) w) : wpList P ops Q (o :: rest) a w :=
  wpList_plain hgd fun _ hK => by
    unfold Oper.wp execOp
    simp only [ho, hx, Instr.loadAt, Instr.sureAddr, Sem.run_bind, Sem.run_pure, Result.andThen_ok, run_loadVar_part w g k t ty cs vs hg hv hu]
    exact hK _ _ h
theorem wpList_store_part {ops : Array Oper} {rest : List Oper} {o : Oper} {a : Act} {w : World} {Q : Exit → Act → World → Prop} (hgd : o.guard = none) (ty : TypeId) (x y : Operand) (ho : o.op = .store ty x y)
    (g k : Nat) (hx : a.eval x = .pointer (some ⟨g, k, none⟩)) (vs : Array Value) (hy : a.eval y = .agg vs) (t : TypeId) (cs : Array Value) (hg : BlkAt w g cs t) (hl : k + vs.size ≤ cs.size) (h1 : ∀ v ∈ vs.toList, v.oneCell' = true) (hu : RowTy P ty vs.size)
    (h : ∀ w', Wrote w w' g → BlkAt w' g (cs.toList.take k ++ vs.toList ++ cs.toList.drop (k + vs.size)).toArray t → wpList P ops Q rest (a.put o.dst undef) w') : wpList P ops Q (o :: rest) a w :=
  wpList_plain hgd fun _ hK => by
    unfold Oper.wp execOp
    simp only [ho, hx, hy, Instr.storeAt, Instr.sureAddr, Sem.run_bind, Sem.run_pure, Result.andThen_ok, run_storeVar_part w g k t ty cs vs hg hl h1 hu]
    exact hK _ _ (h _ (Wrote.setRow _ _ _) (setRow_heap w g cs _ t _ hg))
/-- The same at a step of a region that draws its order. -/
theorem step_load_part {ops : Array Oper} {o : Oper} {a : Act} {w : World} {K : Act → World → Prop} {Q : Exit → Act → World → Prop} {E : Prop} (hgd : o.guard = none) (ty : TypeId) (x : Operand) (ho : o.op = .load ty x)
    (g k : Nat) (hx : a.eval x = .pointer (some ⟨g, k, none⟩)) (t : TypeId) (cs vs : Array Value) (hg : BlkAt w g cs t) (hv : ∀ i, i < vs.size → cs[k + i]? = vs[i]?) (hu : RowTy P ty vs.size)
    (h : K (a.put o.dst (.agg vs)) w) : if Region.wanted o (yielded ops a.tmps) = true then Oper.wp P o a w K Q else E := by
  have hw : Region.wanted o (yielded ops a.tmps) = true := by simp [Region.wanted, hgd]
  rw [if_pos hw]
  unfold Oper.wp execOp
  simp only [ho, hx, Instr.loadAt, Instr.sureAddr, Sem.run_bind, Sem.run_pure, Result.andThen_ok, run_loadVar_part w g k t ty cs vs hg hv hu]
  exact h
theorem wpList_load_blk {ops : Array Oper} {rest : List Oper} {o : Oper} {a : Act} {w : World} {Q : Exit → Act → World → Prop} (hgd : o.guard = none) (ty : TypeId) (x : Operand) (ho : o.op = .load ty x)
    (g : Nat) (hx : a.eval x = .pointer (some ⟨g, 0, none⟩)) (t : TypeId) (cs : Array Value) (hg : BlkAt w g cs t) (hu : RowTy P ty cs.size)
    (h : wpList P ops Q rest (a.put o.dst (.agg cs)) w) : wpList P ops Q (o :: rest) a w := wpList_load_part hgd ty x ho g 0 hx t cs cs hg (fun i _ => by rw [Nat.zero_add]) hu h
theorem step_load_blk {ops : Array Oper} {o : Oper} {a : Act} {w : World} {K : Act → World → Prop} {Q : Exit → Act → World → Prop} {E : Prop} (hgd : o.guard = none) (ty : TypeId) (x : Operand) (ho : o.op = .load ty x)
    (g : Nat) (hx : a.eval x = .pointer (some ⟨g, 0, none⟩)) (t : TypeId) (cs : Array Value) (hg : BlkAt w g cs t) (hu : RowTy P ty cs.size)
    (h : K (a.put o.dst (.agg cs)) w) : if Region.wanted o (yielded ops a.tmps) = true then Oper.wp P o a w K Q else E := step_load_part hgd ty x ho g 0 hx t cs cs hg (fun i _ => by rw [Nat.zero_add]) hu h
theorem results_row {fn : Func} {p : Tmp} {ty : TypeId} (h : fn.results = #[.cell p ty]) (tmps : Array Value) (w : World) (g : Nat) (t : TypeId) (cs : Array Value)
    (hp : tmps.getD p undef = .pointer (some ⟨g, 0, none⟩)) (hg : BlkAt w g cs t) (hu : RowTy P ty cs.size) : (results fn tmps).run P w = .ok (.agg cs) w := by
  have hp' : tmps[p]?.getD undef = .pointer (some ⟨g, 0, none⟩) := by simpa using hp
  simp [results, h, hp', asAddr, run_loadVar_part w g 0 t ty cs cs hg (fun i _ => by rw [Nat.zero_add]) hu]
theorem results_row2 {fn : Func} {p q : Tmp} {ty : TypeId} (h : fn.results = #[.cell p ty, .tmp q]) (tmps : Array Value) (w : World) (g : Nat) (t : TypeId) (cs : Array Value)
    (hp : tmps.getD p undef = .pointer (some ⟨g, 0, none⟩)) (hg : BlkAt w g cs t) (hu : RowTy P ty cs.size) : (results fn tmps).run P w = .ok (.tuple #[.agg cs, tmps.getD q undef]) w := by
  have hp' : tmps[p]?.getD undef = .pointer (some ⟨g, 0, none⟩) := by simpa using hp
  simp [results, h, hp', asAddr, run_loadVar_part w g 0 t ty cs cs hg (fun i _ => by rw [Nat.zero_add]) hu]
theorem results_rows {fn : Func} {p q : Tmp} {ty tz : TypeId} (h : fn.results = #[.cell p ty, .cell q tz]) (tmps : Array Value) (w : World) (g k : Nat) (t u : TypeId) (cs ds : Array Value)
    (hp : tmps.getD p undef = .pointer (some ⟨g, 0, none⟩)) (hg : BlkAt w g cs t) (hu : RowTy P ty cs.size) (hq : tmps.getD q undef = .pointer (some ⟨k, 0, none⟩)) (hk : BlkAt w k ds u) (hz : RowTy P tz ds.size) : (results fn tmps).run P w = .ok (.tuple #[.agg cs, .agg ds]) w := by
  have hp' : tmps[p]?.getD undef = .pointer (some ⟨g, 0, none⟩) := by simpa using hp
  have hq' : tmps[q]?.getD undef = .pointer (some ⟨k, 0, none⟩) := by simpa using hq
  simp [results, h, hp', hq', asAddr, run_loadVar_part w g 0 t ty cs cs hg (fun i _ => by rw [Nat.zero_add]) hu, run_loadVar_part w k 0 u tz ds ds hk (fun i _ => by rw [Nat.zero_add]) hz]
end
theorem rowSaga : RowTy Tryd.prog 40 16 := RowTy.mk' Tryd.underlying40 rfl (by kernel_rfl)
theorem rowRec : RowTy Tryd.prog 44 12 := RowTy.mk' Tryd.underlying44 rfl (by kernel_rfl)
theorem rowWalk : RowTy Tryd.prog 100 28 := RowTy.mk' Tryd.underlying100 rfl (by kernel_rfl)
end Go.Proofs.YtfbaliimjmimhaaDoor
namespace Go.Proofs.YtfbaliimjmimhaaDoor
open Go.RowKit

theorem wpList_load_blk_g {P : Program} {ops : Array Oper} {rest : List Oper} {o : Oper} {a : Act} {w : World} {Q : Exit → Act → World → Prop} (hw : Region.wanted o (yielded ops a.tmps) = true) (ty : TypeId) (x : Operand) (ho : o.op = .load ty x)
    (g : Nat) (hx : a.eval x = .pointer (some ⟨g, 0, none⟩)) (t : TypeId) (cs : Array Value) (hg : BlkAt w g cs t) (hu : RowTy P ty cs.size)
    (h : wpList P ops Q rest (a.put o.dst (.agg cs)) w) : wpList P ops Q (o :: rest) a w :=
  BigFrame.wpList_want hw fun _ hK => by
    unfold Oper.wp execOp
    simp only [ho, hx, Instr.loadAt, Instr.sureAddr, Sem.run_bind, Sem.run_pure, Result.andThen_ok, run_loadVar_part w g 0 t ty cs cs hg (fun i _ => by rw [Nat.zero_add]) hu]
    exact hK _ _ h
theorem full_row {cs vs : Array Value} (h : cs.size = vs.size) : (cs.toList.take 0 ++ vs.toList ++ cs.toList.drop (0 + vs.size)).toArray = vs := by
  rw [Nat.zero_add, List.drop_of_length_le (by simp [h])]
  simp
theorem wpList_store_blk {P : Program} {ops : Array Oper} {rest : List Oper} {o : Oper} {a : Act} {w : World} {Q : Exit → Act → World → Prop} (hgd : o.guard = none) (ty : TypeId) (x y : Operand) (ho : o.op = .store ty x y)
    (g : Nat) (hx : a.eval x = .pointer (some ⟨g, 0, none⟩)) (vs : Array Value) (hy : a.eval y = .agg vs) (t : TypeId) (cs : Array Value) (hg : BlkAt w g cs t) (hl : cs.size = vs.size) (h1 : ∀ v ∈ vs.toList, v.oneCell' = true) (hu : RowTy P ty vs.size)
    (h : ∀ w', Wrote w w' g → BlkAt w' g vs t → wpList P ops Q rest (a.put o.dst undef) w') : wpList P ops Q (o :: rest) a w :=
  wpList_store_part hgd ty x y ho g 0 hx vs hy t cs hg (by omega) h1 hu (fun w' h2 h3 => h w' h2 (by rw [full_row hl] at h3; exact h3))
/-- The same at a step of a region that draws. -/
theorem step_store_blk {P : Program} {ops : Array Oper} {o : Oper} {a : Act} {w : World} {K : Act → World → Prop} {Q : Exit → Act → World → Prop} {E : Prop} (hgd : o.guard = none) (ty : TypeId) (x y : Operand) (ho : o.op = .store ty x y)
    (g : Nat) (hx : a.eval x = .pointer (some ⟨g, 0, none⟩)) (vs : Array Value) (hy : a.eval y = .agg vs) (t : TypeId) (cs : Array Value) (hg : BlkAt w g cs t) (hl : cs.size = vs.size) (h1 : ∀ v ∈ vs.toList, v.oneCell' = true) (hu : RowTy P ty vs.size)
    (h : ∀ w', Wrote w w' g → BlkAt w' g vs t → K (a.put o.dst undef) w') : if Region.wanted o (yielded ops a.tmps) = true then Oper.wp P o a w K Q else E := by
  have hw : Region.wanted o (yielded ops a.tmps) = true := by simp [Region.wanted, hgd]
  rw [if_pos hw]
  have e : (cs.toList.take 0 ++ vs.toList ++ cs.toList.drop (0 + vs.size)).toArray = vs := full_row hl
  have hst := run_storeVar_part (P := P) w g 0 t ty cs vs hg (by omega) h1 hu
  rw [e] at hst
  unfold Oper.wp execOp
  simp only [ho, hx, hy, Instr.storeAt, Instr.sureAddr, Sem.run_bind, Sem.run_pure, Result.andThen_ok, hst]
  exact h _ (Wrote.setRow _ _ _) (setRow_heap w g cs _ t _ hg)
end Go.Proofs.YtfbaliimjmimhaaDoor
