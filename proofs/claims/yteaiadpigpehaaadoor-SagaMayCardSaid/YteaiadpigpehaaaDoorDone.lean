/-
  done and undone of saga's walk walked: a record's data is laid behind the outs, the undos. Conditions: none.
-/
import Derived.Test.YteaiadpigpehaaaDoorTurns
import Derived.Deep.RegionLaw
import Derived.Deep.RegionLawGrows
import Derived.Deep.AppendLies
namespace Go.Proofs.YteaiadpigpehaaaDoor
open Go.RowKit

theorem blk_grown {w w' : World} {row : Option Nat} {g : Nat} {cs : Array Value} {t : TypeId} (h : BlkAt w g cs t) (hg : w.grownBy w' row) (hne : some g ≠ row) : BlkAt w' g cs t := by
  unfold BlkAt
  rw [hg.block g (Array.getElem?_eq_some_iff.1 h).1 hne]
  exact h
/-- A block of another type is not a row's own. -/
theorem own_ne_blk {w : World} {base n g : Nat} {e t : TypeId} {v : Value} {xs : List Value} {cs : Array Value} (h : w.ownsRow base e 1 v n xs) (k : BlkAt w g cs t) (hne : t ≠ e) : v.ownBlock ≠ some g := by
  intro e'
  rcases h.2 with ⟨rfl, _⟩ | ⟨g', cap, cur, rfl, _, hg', _⟩
  · cases e'
  · simp only [Value.ownBlock, Option.some.injEq] at e'
    subst e'
    rw [show w.heap[g']? = _ from k] at hg'
    simp at hg'
    exact hne hg'.2
theorem blk_after {w w1 : World} {row : Option Nat} {g : Nat} {cs : Array Value} {t : TypeId} {o : Obj} (h : BlkAt w g cs t) (hg : (w.alloc o).drew.grownBy w1 row) (hne : row ≠ some g) : BlkAt w1 g cs t :=
  blk_grown (show BlkAt (w.alloc o).drew g cs t from h.push o) hg (Ne.symm hne)
theorem Below.drewn {w w' : World} {B : Nat} (h : Below B w w') : Below B w w'.drew := h.drew
theorem own_drew {w : World} {base : Nat} {e : TypeId} {size n : Nat} {v : Value} {xs : List Value} (h : w.ownsRow base e size v n xs) : w.drew.ownsRow base e size v n xs := own_through h (Below.refl _ _).drew

theorem apart_sym {a b : Option Nat} (h : a = none ∨ a ≠ b) : b = none ∨ b ≠ a := by
  cases b with
  | none => exact .inl rfl
  | some k => exact .inr (fun e => by rcases h with h | h; (rw [h] at e; cases e); exact h e.symm)
theorem lists_kept {w w' : World} {B : Nat} {u v : Value} {ls : List (List Int)} {n : Nat} {xs : List Value} (h : OwnLists w B u ls) (k : w.ownsRow B 22 1 v n xs) (hg : w.grownBy w' v.ownBlock) (ha : u.ownBlock = none ∨ u.ownBlock ≠ v.ownBlock) : OwnLists w' B u ls := by
  obtain ⟨vs, h1, h2, h3⟩ := h
  exact ⟨vs, h1.kept hg ha, h2, fun i a b => World.ownsRow.kept (h3 i a b) hg (own_apart (h3 i a b) k)⟩
theorem bytes_kept {w w' : World} {B : Nat} {u v : Value} {d : List Int} {n : Nat} {xs : List Value} (h : OwnBytes w B u d) (k : w.ownsRow B 22 1 v n xs) (hg : w.grownBy w' v.ownBlock) : OwnBytes w' B u d :=
  World.ownsRow.kept h hg (own_apart h k)
/-- Below, behind a growth in the row of one's own. -/
theorem below_grown {w w3 w1 : World} {B : Nat} {v : Value} {e : TypeId} {n : Nat} {xs : List Value} {o : Obj} (hb : Below B w w3) (hB : B ≤ w3.heap.size) (k : w3.ownsRow B e 1 v n xs) (hg : (w3.alloc o).drew.grownBy w1 v.ownBlock) : Below B w w1 :=
  ((hb.alloc hB o).drew).grown hg (by show B ≤ (w3.alloc o).heap.size; simp; omega) (fun q hq => (k.lt q hq).1)

/-- How done ends. -/
theorem done_end {w w3 w1 : World} {B g : Nat} {S : SagaV} {h : Held} {r : RecV} {d : List Int} {x : Obj} {o : Sl} {vs : List Sl} (K : WalkOwn w3 B g S h r d) (hb : Below B w w3) (o1 : w3.ownsRow B 22 1 S.outs.v h.outs.length (vs.map Sl.v)) (o2 : vs.length = h.outs.length) (o3 : ∀ i (h1 : i < vs.length) (h2 : i < h.outs.length), OwnBytes w3 B (vs[i]).v h.outs[i])
    (hg : (w3.alloc x).drew.grownBy w1 S.outs.v.ownBlock) (hown : w1.ownsRow B 22 1 o.v (h.outs.length + 1) (vs.map Sl.v ++ [r.data.v])) (hat : ∃ gg, o.v.ownBlock = some gg ∧ (S.outs.v.ownBlock = some gg ∨ gg = w3.heap.size + 1)) (ag : S.outs.v.ownBlock ≠ some g) :
    WalkOwn (w1.setCell ⟨g, 11, none⟩ o.v) B g { S with outs := o } { h with outs := h.outs ++ [d] } r d ∧ Below B w (w1.setCell ⟨g, 11, none⟩ o.v) := by
  have hbW : Below w3.heap.size w3 (w3.alloc x).drew := ((Below.refl _ _).alloc (Nat.le_refl _) _).drew
  have KW := K.through hbW
  have p1 := own_through o1 hbW
  have hgl := (Array.getElem?_eq_some_iff.1 K.blk).1
  have KB := blk_after K.blk hg ag
  have RK := RowsKept.set (i := 11) KB (by decide) (by decide) o.v
  have q : OwnLists w1 B o.v (h.outs ++ [d]) := OwnLists.grown (s := r.data) o2 (fun i a b => (o3 i a b).through hbW) p1 KW.data hown hg
  have hu : OwnLists w1 B S.undos.v h.undos := lists_kept KW.own.undos p1 hg (apart_sym K.own.apart)
  refine ⟨⟨?_, ⟨?_, q.keep RK, hu.keep RK, ?_, ?_⟩, ?_, K.le⟩, ?_⟩
  · exact KB.set (i := 11) o.v
  · exact (bytes_kept KW.own.input p1 hg).keep RK
  · exact (bytes_kept KW.own.fail p1 hg).keep RK
  · obtain ⟨gg, e, hat⟩ := hat
    rcases hat with hat | hat
    · show o.v.ownBlock = none ∨ o.v.ownBlock ≠ S.undos.v.ownBlock
      rw [e, ← hat]
      exact K.own.apart
    · refine .inr fun e' => ?_
      have h1 := (K.own.undos.lt gg (by rw [← show o.v.ownBlock = _ from e']; exact e)).2
      omega
  · exact (bytes_kept KW.data p1 hg).keep RK
  · exact (below_grown hb (by have := K.le; omega) o1 hg).setCell K.le _
set_option maxRecDepth 100000 in
set_option maxHeartbeats 3200000 in
theorem done_any (B g : Nat) (s : SagaV) (h : Held) (r : RecV) (d : List Int) (w : World) (k : WalkOwn w B g s h r d) (hn : 0 ≤ s.next ∧ s.next ≤ 1000) (hl : h.outs.length ≤ 1000) :
    Calls Tryd.prog 80 #[.pointer (some ⟨g, 0, none⟩)] w fun e w' => ∃ o : Sl, e = .returned (.tuple #[]) ∧ WalkOwn w' B g { s with flight := false, tries := 0, next := s.next + 1, outs := o } { h with outs := h.outs ++ [d] } r d ∧ Below B w w' := by
  obtain ⟨i0, hi0, hz0, hz1, hz2⟩ := info_parts infoBytes
  have cL := Lib.hid (landed_any B g s h r d w k)
  clear k
  obtain ⟨hn0, hn1⟩ := hn
  have hcap : h.outs.length + 1 ≤ maxLen := by simp only [maxLen]; omega
  go_enter Tryd.func80, Tryd.ntmps80
  go_wp2_with (go_at_call 100; (with_reducible refine cL.out.mono ?_); rintro e w2 ⟨rfl, k, hb⟩; have hf := k.blk.frozen; have h8 := k.blk.cell 8; simp only [List.getElem?_toArray, List.getElem?_cons_zero, List.getElem?_cons_succ] at h8; have K := Lib.hid k; have HB := Lib.hid hb; clear k hb)
  have K3 := K.out.num (i := 8) { s with flight := false, tries := 0, next := s.next + 1 } rfl rfl rfl rfl rfl
  have HB3 := Lib.hid (HB.out.setCell (p := ⟨g, 8, none⟩) K.out.le (.int .i64 (s.next + 1)))
  obtain ⟨w3, hw3⟩ : ∃ x, w2.setCell ⟨g, 8, none⟩ (.int .i64 (s.next + 1)) = x := ⟨_, rfl⟩
  rw [hw3] at K3 HB3
  rw [hw3]
  have h11 := K3.blk.cell 11
  have h27 := K3.blk.cell 27
  simp only [List.getElem?_toArray, List.getElem?_cons_zero, List.getElem?_cons_succ] at h11 h27
  have hf3 := K3.blk.frozen 11
  obtain ⟨vs, o1, o2, o3⟩ := K3.own.outs
  have ag := own_ne_blk o1 K3.blk (by decide)
  have hsz := (Array.getElem?_eq_some_iff.1 K3.blk).1
  have hle := K3.le
  clear hw3 h8 hf cL
  have KK := Lib.hid K3
  have O1 := Lib.hid o1
  clear K3 K HB o1
  go_region_law
    ((refine step_append_lies _ (by rfl) _ _ _ (by rfl) B 22 i0 _ 1 24 Tryd.underlying23 hi0 hz0 hz1 hz2 rfl (by omega) s.outs.v h.outs.length (vs.map Sl.v) (by rfl) ((O1.out.alloc _).drew)
        ⟨w3.heap.size, 0, none⟩ 1 1 [r.data.v] (by rfl) (by rfl) (World.news_of_block (cs := #[r.data.v]) (t := 22) (fr := (0, 0)) (heap_alloc_new w3 _)) (by simp [Value.oneCell'])
        (by omega) hcap (by omega) (by simp; omega) (w3.heap.size + 1) (by simp) ?_; intro gg cap w1 hown1 hgrow hat hlt; have KB := blk_after KK.out.blk hgrow ag; have hf1 := KB.frozen 11; have hc1 : w1.cell? ⟨g, 11, none⟩ = some s.outs.v := (KB.cell 11).trans rfl))
  all_goals go_end0
  all_goals exact ⟨⟨some ⟨gg, 0, none⟩, h.outs.length + 1, cap⟩, rfl, done_end (o := ⟨some ⟨gg, 0, none⟩, h.outs.length + 1, cap⟩) KK.out HB3.out O1.out o2 o3 hgrow hown1 ⟨gg, rfl, hat⟩ ag⟩
end Go.Proofs.YteaiadpigpehaaaDoor
