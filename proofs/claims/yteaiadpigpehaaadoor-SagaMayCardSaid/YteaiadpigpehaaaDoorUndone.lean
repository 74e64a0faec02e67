/-
  undone of saga's walk walked. Conditions: none. (Printed by wip/gen_undone.py.)
-/
import Derived.Test.YteaiadpigpehaaaDoorDone
namespace Go.Proofs.YteaiadpigpehaaaDoor
open Go.RowKit

/-- How undone ends. -/
theorem undone_end {w w3 w1 : World} {B g : Nat} {S : SagaV} {h : Held} {r : RecV} {d : List Int} {x : Obj} {o : Sl} {vs : List Sl} (K : WalkOwn w3 B g S h r d) (hb : Below B w w3) (o1 : w3.ownsRow B 22 1 S.undos.v h.undos.length (vs.map Sl.v)) (o2 : vs.length = h.undos.length) (o3 : ∀ i (h1 : i < vs.length) (h2 : i < h.undos.length), OwnBytes w3 B (vs[i]).v h.undos[i])
    (hg : (w3.alloc x).drew.grownBy w1 S.undos.v.ownBlock) (hown : w1.ownsRow B 22 1 o.v (h.undos.length + 1) (vs.map Sl.v ++ [r.data.v])) (hat : ∃ gg, o.v.ownBlock = some gg ∧ (S.undos.v.ownBlock = some gg ∨ gg = w3.heap.size + 1)) (ag : S.undos.v.ownBlock ≠ some g) :
    WalkOwn (w1.setCell ⟨g, 12, none⟩ o.v) B g { S with undos := o } { h with undos := h.undos ++ [d] } r d ∧ Below B w (w1.setCell ⟨g, 12, none⟩ o.v) := by
  have hbW : Below w3.heap.size w3 (w3.alloc x).drew := ((Below.refl _ _).alloc (Nat.le_refl _) _).drew
  have KW := K.through hbW
  have p1 := own_through o1 hbW
  have hgl := (Array.getElem?_eq_some_iff.1 K.blk).1
  have KB := blk_after K.blk hg ag
  have RK := RowsKept.set (i := 12) KB (by decide) (by decide) o.v
  have q : OwnLists w1 B o.v (h.undos ++ [d]) := OwnLists.grown (s := r.data) o2 (fun i a b => (o3 i a b).through hbW) p1 KW.data hown hg
  have hu : OwnLists w1 B S.outs.v h.outs := lists_kept KW.own.outs p1 hg K.own.apart
  refine ⟨⟨?_, ⟨?_, hu.keep RK, q.keep RK, ?_, ?_⟩, ?_, K.le⟩, ?_⟩
  · exact KB.set (i := 12) o.v
  · exact (bytes_kept KW.own.input p1 hg).keep RK
  · exact (bytes_kept KW.own.fail p1 hg).keep RK
  · obtain ⟨gg, e, hat⟩ := hat
    refine apart_sym ?_
    rcases hat with hat | hat
    · show o.v.ownBlock = none ∨ o.v.ownBlock ≠ S.outs.v.ownBlock
      rw [e, ← hat]
      exact apart_sym K.own.apart
    · refine .inr fun e' => ?_
      have h1 := (K.own.outs.lt gg (by rw [← show o.v.ownBlock = _ from e']; exact e)).2
      omega
  · exact (bytes_kept KW.data p1 hg).keep RK
  · exact (below_grown hb (by have := K.le; omega) o1 hg).setCell K.le _
set_option maxRecDepth 100000 in
set_option maxHeartbeats 3200000 in
theorem undone_any (B g : Nat) (s : SagaV) (h : Held) (r : RecV) (d : List Int) (w : World) (k : WalkOwn w B g s h r d) (hn : 0 ≤ s.next ∧ s.next ≤ 1000) (hl : h.undos.length ≤ 1000) :
    Calls Tryd.prog 82 #[.pointer (some ⟨g, 0, none⟩)] w fun e w' => ∃ o : Sl, e = .returned (.tuple #[]) ∧ WalkOwn w' B g { s with flight := false, tries := 0, next := s.next - 1, undos := o } { h with undos := h.undos ++ [d] } r d ∧ Below B w w' := by
  obtain ⟨i0, hi0, hz0, hz1, hz2⟩ := info_parts infoBytes
  have cL := Lib.hid (landed_any B g s h r d w k)
  clear k
  obtain ⟨hn0, hn1⟩ := hn
  have hcap : h.undos.length + 1 ≤ maxLen := by simp only [maxLen]; omega
  go_enter Tryd.func82, Tryd.ntmps82
  go_wp2_with (go_at_call 100; (with_reducible refine cL.out.mono ?_); rintro e w2 ⟨rfl, k, hb⟩; have hf := k.blk.frozen; have h8 := k.blk.cell 8; simp only [List.getElem?_toArray, List.getElem?_cons_zero, List.getElem?_cons_succ] at h8; have K := Lib.hid k; have HB := Lib.hid hb; clear k hb)
  have K3 := K.out.num (i := 8) { s with flight := false, tries := 0, next := s.next - 1 } rfl rfl rfl rfl rfl
  have HB3 := Lib.hid (HB.out.setCell (p := ⟨g, 8, none⟩) K.out.le (.int .i64 (s.next - 1)))
  obtain ⟨w3, hw3⟩ : ∃ x, w2.setCell ⟨g, 8, none⟩ (.int .i64 (s.next - 1)) = x := ⟨_, rfl⟩
  rw [hw3] at K3 HB3
  rw [hw3]
  have h12 := K3.blk.cell 12
  have h27 := K3.blk.cell 27
  simp only [List.getElem?_toArray, List.getElem?_cons_zero, List.getElem?_cons_succ] at h12 h27
  have hf3 := K3.blk.frozen 12
  obtain ⟨vs, o1, o2, o3⟩ := K3.own.undos
  have ag := own_ne_blk o1 K3.blk (by decide)
  have hsz := (Array.getElem?_eq_some_iff.1 K3.blk).1
  have hle := K3.le
  clear hw3 h8 hf cL
  have KK := Lib.hid K3
  have O1 := Lib.hid o1
  clear K3 K HB o1
  go_region_law
    ((refine step_append_lies _ (by rfl) _ _ _ (by rfl) B 22 i0 _ 1 24 Tryd.underlying23 hi0 hz0 hz1 hz2 rfl (by omega) s.undos.v h.undos.length (vs.map Sl.v) (by rfl) ((O1.out.alloc _).drew)
        ⟨w3.heap.size, 0, none⟩ 1 1 [r.data.v] (by rfl) (by rfl) (World.news_of_block (cs := #[r.data.v]) (t := 22) (fr := (0, 0)) (heap_alloc_new w3 _)) (by simp [Value.oneCell'])
        (by omega) hcap (by omega) (by simp; omega) (w3.heap.size + 1) (by simp) ?_; intro gg cap w1 hown1 hgrow hat hlt; have KB := blk_after KK.out.blk hgrow ag; have hf1 := KB.frozen 12; have hc1 : w1.cell? ⟨g, 12, none⟩ = some s.undos.v := (KB.cell 12).trans rfl))
  all_goals go_end0
  all_goals exact ⟨⟨some ⟨gg, 0, none⟩, h.undos.length + 1, cap⟩, rfl, undone_end (o := ⟨some ⟨gg, 0, none⟩, h.undos.length + 1, cap⟩) KK.out HB3.out O1.out o2 o3 hgrow hown1 ⟨gg, rfl, hat⟩ ag⟩
end Go.Proofs.YteaiadpigpehaaaDoor
