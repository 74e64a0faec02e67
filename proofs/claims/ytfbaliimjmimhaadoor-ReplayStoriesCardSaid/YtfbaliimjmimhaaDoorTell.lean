/-
  add of saga's teller walked: a record behind the story. Conditions: none.
-/
import Derived.Test.YtfbaliimjmimhaaDoorRecs
import Derived.Deep.RegionLaw
import Derived.Deep.AppendLies
import Derived.BigRegion
namespace Go.Proofs.YtfbaliimjmimhaaDoor
open Go.RowKit

theorem infoRecT : (Tryd.prog.info? 44).map (fun i => (i.zero, i.size, i.bytes)) = some (some (.agg zeroRec), 12, 120) := by kernel_rfl
@[reducible] def tellArr (s : SagaV) (v : Sl) : Array Value := #[.int .i64 s.id, .string s.name, .int .i64 s.count, .int .i64 s.pivot, .int .i64 s.begun, .int .i64 s.at_, s.input.v, .int .i64 s.phase, .int .i64 s.next, .bool s.flight, .int .i64 s.tries, s.outs.v, s.undos.v, .int .i64 s.failStep, .int .i64 s.failCode, s.fail.v, v.v]
/-- A teller at a block. -/
structure TellOwn (w : World) (B g : Nat) (s : SagaV) (v : Sl) (Rs : List RecD) : Prop where
  blk : BlkAt w g (tellArr s v) 69
  recs : OwnRecs w B v.v Rs
  le : B ≤ g
theorem TellOwn.through {w w' : World} {B g : Nat} {s : SagaV} {v : Sl} {Rs : List RecD} (k : TellOwn w B g s v Rs) (hb : Below w.heap.size w w') : TellOwn w' B g s v Rs :=
  ⟨k.blk.below hb (Array.getElem?_eq_some_iff.1 k.blk).1, k.recs.through hb, k.le⟩
def toldR (s : SagaV) (R : RecD) : RecD := { R with v := 3, saga := s.id, at_ := s.at_ }

theorem RecsKept.set {w : World} {g i : Nat} {cs : Array Value} {t : TypeId} (h : BlkAt w g cs t) (h1 : t ≠ 5) (h2 : t ≠ 37) (h3 : t ≠ 44) (u : Value) : RecsKept w (w.setCell ⟨g, i, none⟩ u) := by
  refine ⟨RowsKept.set h h1 h2 u, fun k cur hk => Below.heap_setCell w ⟨g, i, none⟩ u k (fun e' => ?_)⟩
  simp only at e'
  subst e'
  rw [show w.heap[k]? = _ from h] at hk
  simp at hk
  exact h3 hk.2
/-- A block of another type is not a row's own: rows of any size. -/
theorem own_ne_blk' {w : World} {base n g size : Nat} {e t : TypeId} {v : Value} {xs : List Value} {cs : Array Value} (h : w.ownsRow base e size v n xs) (k : BlkAt w g cs t) (hne : t ≠ e) : v.ownBlock ≠ some g := by
  intro e'
  rcases h.2 with ⟨rfl, _⟩ | ⟨g', cap, cur, rfl, _, hg', _⟩
  · cases e'
  · simp only [Value.ownBlock, Option.some.injEq] at e'
    subst e'
    rw [show w.heap[g']? = _ from k] at hg'
    simp at hg'
    exact hne hg'.2
theorem below_grown' {w w3 w1 : World} {B size : Nat} {v : Value} {e : TypeId} {n : Nat} {xs : List Value} {o : Obj} (hb : Below B w w3) (hB : B ≤ w3.heap.size) (k : w3.ownsRow B e size v n xs) (hg : (w3.alloc o).drew.grownBy w1 v.ownBlock) : Below B w w1 :=
  ((hb.alloc hB o).drew).grown hg (by show B ≤ (w3.alloc o).heap.size; simp; omega) (fun q hq => (k.lt q hq).1)
/-- How add ends. -/
theorem add_end {w w3 w1 : World} {B g : Nat} {s : SagaV} {v o sl : Sl} {Rs : List RecD} {rs : List RecV} {R : RecD} {x : Obj} (K : TellOwn w3 B g s v Rs) (hb : Below B w w3) (h2 : rs.length = Rs.length) (h3 : ∀ i (h1 : i < rs.length) (h2 : i < Rs.length), rs[i] = Rs[i].words (rs[i]).data ∧ OwnBytes w3 B (rs[i]).data.v Rs[i].data)
    (h1 : w3.ownsRow B 44 12 v.v Rs.length (rs.flatMap RecV.cells)) (hd : OwnBytes w3 B sl.v R.data) (hg : (w3.alloc x).drew.grownBy w1 v.v.ownBlock) (hn : w1.ownsRow B 44 12 o.v (Rs.length + 1) (rs.flatMap RecV.cells ++ ((toldR s R).words sl).cells)) (ag : v.v.ownBlock ≠ some g) :
    TellOwn (w1.setCell ⟨g, 16, none⟩ o.v) B g s o (Rs ++ [toldR s R]) ∧ Below B w (w1.setCell ⟨g, 16, none⟩ o.v) := by
  have hbW : Below w3.heap.size w3 (w3.alloc x).drew := ((Below.refl _ _).alloc (Nat.le_refl _) _).drew
  have KB := blk_after K.blk hg ag
  refine ⟨⟨KB.set (i := 16) o.v, ?_, K.le⟩, ?_⟩
  · exact (OwnRecs.grown (r := (toldR s R).words sl) h2 (fun i a b => ⟨(h3 i a b).1, (h3 i a b).2.through hbW⟩) (own_through h1 hbW) rfl (hd.through hbW) hn hg).keep (RecsKept.set KB (by decide) (by decide) (by decide) o.v)
  · have hgl := (Array.getElem?_eq_some_iff.1 K.blk).1
    exact (below_grown' hb (by have := K.le; omega) h1 hg).setCell K.le _

set_option maxRecDepth 10000000 in
set_option maxHeartbeats 4000000 in
theorem add_any (B g : Nat) (s : SagaV) (v : Sl) (Rs : List RecD) (r : RecV) (R : RecD) (w : World) (k : TellOwn w B g s v Rs) (hr : RecRd w r R) (hd : R.data.length ≤ 16384) (hlen : Rs.length ≤ 5000) :
    Calls Tryd.prog 33 #[.pointer (some ⟨g, 0, none⟩), r.val] w fun e w' => ∃ v' : Sl, e = .returned (.tuple #[]) ∧ TellOwn w' B g s v' (Rs ++ [toldR s R]) ∧ Below B w w' := by
  obtain ⟨i0, hi0, hz0, hz1, hz2⟩ := info_parts infoRecT
  have g0 := k.blk.cell 0
  have g5 := k.blk.cell 5
  simp only [List.getElem?_toArray, List.getElem?_cons_zero, List.getElem?_cons_succ] at g0 g5
  have hg := (Array.getElem?_eq_some_iff.1 k.blk).1
  have hcb := Lib.hid (fun w (h : BytesAt w r.data R.data) => bytesOf_any r.data R.data w h (by omega))
  have K := Lib.hid k
  have HR := Lib.hid hr
  have hBw : B ≤ w.heap.size := by have := k.le; omega
  clear k hr
  dsimp only [RecV.val, Sl.v] at *
  go_enter Tryd.func33, Tryd.ntmps33
  go_wp2
  go_region
  have hD1 := HR.out.data.below (((Below.refl w.heap.size w).alloc (Nat.le_refl _) (Obj.cells #[Value.int IntKind.i64 3, Value.int IntKind.i64 r.kind, Value.int IntKind.i64 s.id, Value.int IntKind.i64 r.step, Value.int IntKind.i64 r.try_, Value.int IntKind.i64 s.at_, Value.int IntKind.i64 r.last, Value.int IntKind.i64 r.code, Value.int IntKind.i64 r.count, Value.int IntKind.i64 r.pivot, Value.string r.name, Value.slice r.data.a r.data.n r.data.c] 44)).drew)
  go_wp2_with (go_at_call 48; (with_reducible refine (hcb.out _ hD1).mono ?_); rintro e w2 ⟨v0, rfl, ho, hb⟩; obtain ⟨sl, rfl, _⟩ := ho.at (by omega); have hU : BlkAt w2 w.heap.size _ _ := BlkAt.below (B := w.heap.size + 1) (show BlkAt (w.alloc _).drew w.heap.size _ _ from heap_alloc_new w _) (by simpa using hb) (by omega); have hfu := hU.frozen; have hcu := hU.cell 11; simp only [List.getElem?_toArray, List.getElem?_cons_zero, List.getElem?_cons_succ] at hcu)
  have hbw2 : Below w.heap.size w w2 := (((Below.refl w.heap.size w).alloc (Nat.le_refl _) _).drew).trans (hb.mono (by show w.heap.size ≤ (w.alloc _).heap.size; simp))
  have U3 := hU.set (i := 11) sl.v
  have hb2 : Below w.heap.size w (w2.setCell ⟨w.heap.size, 11, none⟩ sl.v) := hbw2.setCell (Nat.le_refl _) _
  have hb3 := hb2.mono hBw
  have K3 := K.out.through hb2
  have D3 : OwnBytes (w2.setCell ⟨w.heap.size, 11, none⟩ sl.v) B sl.v R.data := (ho.set (a := ⟨w.heap.size, 11, none⟩) (by show _ < (w.alloc _).heap.size; simp)).lower (by show B ≤ (w.alloc _).heap.size; simp; omega)
  obtain ⟨w3, hw3⟩ : ∃ x, w2.setCell ⟨w.heap.size, 11, none⟩ sl.v = x := ⟨_, rfl⟩
  rw [hw3] at U3 K3 D3 hb3
  rw [hw3]
  clear hw3 hb2 hbw2 hU hb ho hcb hD1 hcu hfu
  have g16 := K3.blk.cell 16
  have e0 := U3.cell 0
  have e1 := U3.cell 1
  have e2 := U3.cell 2
  have e3 := U3.cell 3
  have e4 := U3.cell 4
  have e5 := U3.cell 5
  have e6 := U3.cell 6
  have e7 := U3.cell 7
  have e8 := U3.cell 8
  have e9 := U3.cell 9
  have e10 := U3.cell 10
  have e11 := U3.cell 11
  simp at g16 e0 e1 e2 e3 e4 e5 e6 e7 e8 e9 e10 e11
  have hg3 := (Array.getElem?_eq_some_iff.1 K3.blk).1
  have hu3 := (Array.getElem?_eq_some_iff.1 U3).1
  obtain ⟨rs, o1, o2, o3⟩ := K3.recs
  have ag := own_ne_blk' o1 K3.blk (by decide)
  have KK := Lib.hid K3
  have O1 := Lib.hid o1
  have DD := Lib.hid D3
  have HB := Lib.hid hb3
  have HR' := Lib.hid HR.out.eq
  have hle := K3.le
  have E := Lib.hid (show [Value.int IntKind.i64 3, Value.int IntKind.i64 r.kind, Value.int IntKind.i64 s.id, Value.int IntKind.i64 r.step, Value.int IntKind.i64 r.try_, Value.int IntKind.i64 s.at_, Value.int IntKind.i64 r.last, Value.int IntKind.i64 r.code, Value.int IntKind.i64 r.count, Value.int IntKind.i64 r.pivot, Value.string r.name, sl.v] = ((toldR s R).words sl).cells by rw [HR'.out]; rfl)
  clear K3 o1 D3 hb3 U3 K g0 g5
  go_region_law
    ((refine step_append_lies _ (by rfl) _ _ _ (by rfl) B 44 i0 _ 12 120 Tryd.underlying22 hi0 hz0 hz1 hz2 rfl (by omega) v.v Rs.length (rs.flatMap RecV.cells) (by rfl) ((O1.out.alloc _).drew)
        ⟨w3.heap.size, 0, none⟩ 1 1 [Value.int IntKind.i64 3, Value.int IntKind.i64 r.kind, Value.int IntKind.i64 s.id, Value.int IntKind.i64 r.step, Value.int IntKind.i64 r.try_, Value.int IntKind.i64 s.at_, Value.int IntKind.i64 r.last, Value.int IntKind.i64 r.code, Value.int IntKind.i64 r.count, Value.int IntKind.i64 r.pivot, Value.string r.name, sl.v] (by rfl) (by rfl) (World.news_of_block (cs := #[Value.int IntKind.i64 3, Value.int IntKind.i64 r.kind, Value.int IntKind.i64 s.id, Value.int IntKind.i64 r.step, Value.int IntKind.i64 r.try_, Value.int IntKind.i64 s.at_, Value.int IntKind.i64 r.last, Value.int IntKind.i64 r.code, Value.int IntKind.i64 r.count, Value.int IntKind.i64 r.pivot, Value.string r.name, sl.v]) (t := 44) (fr := (0, 0)) (heap_alloc_new w3 _)) (by simp [Value.oneCell'])
        (by omega) (by simp only [maxLen]; omega) (by omega) (by simp; omega) (w3.heap.size + 1) (by simp) ?_; intro gg cap w1 hown1 hgrow hat hlt; have KB := blk_after KK.out.blk hgrow ag; have hf1 := KB.frozen 16; have hc1 : w1.cell? ⟨g, 16, none⟩ = some v.v := (KB.cell 16).trans rfl))
  all_goals go_end0
  all_goals refine ⟨⟨some ⟨gg, 0, none⟩, Rs.length + 1, cap⟩, rfl, add_end (o := ⟨some ⟨gg, 0, none⟩, Rs.length + 1, cap⟩) (sl := sl) KK.out HB.out o2 o3 O1.out DD.out hgrow ?_ ag⟩
  all_goals rw [← E.out]
  all_goals exact hown1
end Go.Proofs.YtfbaliimjmimhaaDoor
