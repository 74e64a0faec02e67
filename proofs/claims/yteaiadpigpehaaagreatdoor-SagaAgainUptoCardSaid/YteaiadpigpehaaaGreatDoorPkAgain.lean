/-
  A byte that is written in place: what one owns keeps its lengths.
  annalslaw10.turned walked: at most one byte is written, in a block of one's own.
  annalslaw10.SagaAgain walked: it answers true.
  Conditions: as each theorem says. (Joined by wip/tools/pack.py.)
-/
import Derived.Test.YteaiadpigpehaaaGreatDoorAnswered
import Derived.Test.YteaiadpigpehaaaGreatDoorRef10ToldAll
import Derived.Deep.DeepCutAuto
import Derived.Deep.CutBlock
import Derived.Maps.RangeWalk
import Derived.Test.YteaiadpigpehaaaGreatDoorStarted
import Derived.Laws.Tables
namespace Go.Proofs.YteaiadpigpehaaaGreatDoor
open Go.RowKit

theorem rec_put {r : RecV} {R : RecD} (h : r = R.words r.data) (d : Sl) : ({ r with data := d } : RecV) = R.words d := by rw [h]
/-- At most one byte was written, in a block of one's own. -/
def Wrote8 (w w' : World) (B : Nat) : Prop := w' = w ∨ ∃ (g i : Nat) (x : Int) (cur : Array Value), B ≤ g ∧ BlkAt w g cur 5 ∧ Wrote w w' g ∧ BlkAt w' g (cur.setIfInBounds i (.int .u8 x)) 5
theorem byteCells_set (d : List Int) (i : Nat) (x : Int) : byteCells (d.set i x) = (byteCells d).set i (.int .u8 x) := by
  unfold byteCells
  rw [List.map_set]
theorem OwnBytes.put {w w' : World} {B : Nat} {v : Value} {d : List Int} (h : OwnBytes w B v d) (hw : Wrote8 w w' B) : ∃ d' : List Int, d'.length = d.length ∧ OwnBytes w' B v d' := by
  rcases hw with rfl | ⟨g, i, x, cur, h1, h2, h3, h4⟩
  · exact ⟨d, rfl, h⟩
  · rcases h.2 with ⟨e, e0⟩ | ⟨g0, cap, cur0, e, q1, q2, q3, q4, q5, q6⟩
    · exact ⟨d, rfl, h.1, .inl ⟨e, e0⟩⟩
    · by_cases hg : g0 = g
      · subst hg
        have hc : cur0 = cur := by
          have := q2.symm.trans h2
          simpa using this
        subst hc
        refine ⟨d.set i x, by simp, by simp [byteCells], .inr ⟨g0, cap, cur0.setIfInBounds i (.int .u8 x), by rw [List.length_set]; exact e, q1, h4, by rw [List.length_set]; exact q3, q4, by simpa using q5, ?_⟩⟩
        rw [List.length_set, byteCells_set, ← q6, Array.toList_setIfInBounds, List.take_set]
      · exact ⟨d, rfl, h.1, .inr ⟨g0, cap, cur0, e, q1, (h3.other g0 hg).trans q2, q3, q4, q5, q6⟩⟩
theorem row_put {w w' : World} {B b n : Nat} {v : Value} {xs : List Value} (h : w.ownsRow b 26 1 v n xs) (hw : Wrote8 w w' B) : w'.ownsRow b 26 1 v n xs := by
  rcases hw with rfl | ⟨g, i, x, cur, h1, h2, h3, h4⟩
  · exact h
  · exact own_heap h (fun k c hk => h3.other k (fun e => by
      subst e
      rw [show w.heap[k]? = _ from h2] at hk
      simp at hk))
theorem OwnLists.put {w w' : World} {B : Nat} {v : Value} {ls : List (List Int)} (h : OwnLists w B v ls) (hw : Wrote8 w w' B) : ∃ ls' : List (List Int), ls'.map List.length = ls.map List.length ∧ OwnLists w' B v ls' := by
  obtain ⟨vs, o1, o2, o3⟩ := h
  have key : ∀ i : Fin ls.length, ∃ d' : List Int, d'.length = ls[i].length ∧ OwnBytes w' B (vs[i.1]'(by rw [o2]; exact i.2)).v d' := fun i => (o3 i.1 (by rw [o2]; exact i.2) i.2).put hw
  refine ⟨List.ofFn (fun i => Classical.choose (key i)), ?_, vs, ?_, by simp [o2], fun i a b => ?_⟩
  · apply List.ext_getElem (by simp)
    intro i h1 h2
    simp only [List.getElem_map, List.getElem_ofFn]
    exact (Classical.choose_spec (key ⟨i, by simpa using h2⟩)).1
  · rw [List.length_ofFn]
    exact row_put o1 hw
  · simp only [List.getElem_ofFn]
    exact (Classical.choose_spec (key ⟨i, by simpa using b⟩)).2
/-- A saga that holds lists of the same lengths. -/
structure LikeD (D E : SagaD) : Prop where
  eq : E = { D with input := E.input, outs := E.outs, undos := E.undos, fail := E.fail }
  input : E.input.length = D.input.length
  outs : E.outs.map List.length = D.outs.map List.length
  undos : E.undos.map List.length = D.undos.map List.length
  fail : E.fail.length = D.fail.length
theorem SagaOwn.put {w w' : World} {B : Nat} {s : SagaV} {D : SagaD} (h : SagaOwn w B s D) (hw : Wrote8 w w' B) : ∃ E, LikeD D E ∧ SagaOwn w' B s E := by
  obtain ⟨a, a1, a2⟩ := h.held.input.put hw
  obtain ⟨b, b1, b2⟩ := h.held.outs.put hw
  obtain ⟨c, c1, c2⟩ := h.held.undos.put hw
  obtain ⟨d, d1, d2⟩ := h.held.fail.put hw
  exact ⟨{ D with input := a, outs := b, undos := c, fail := d }, ⟨rfl, a1, b1, c1, d1⟩, ⟨h.eq, ⟨a2, b2, c2, d2, h.held.apart⟩⟩⟩
theorem all_len {l m : List (List Int)} (h : m.map List.length = l.map List.length) {n : Nat} (k : ∀ d ∈ l, d.length ≤ n) : ∀ d ∈ m, d.length ≤ n := by
  intro d hd
  have h1 : d.length ∈ m.map List.length := List.mem_map.2 ⟨d, hd, rfl⟩
  rw [h] at h1
  obtain ⟨x, hx, e⟩ := List.mem_map.1 h1
  have := k x hx
  omega
/-- What a saga must be to be asked again and again. -/
structure AgD (D : SagaD) : Prop where
  name : D.name.size ≤ 1048576
  next : D.next ≤ 9223372036854775807
  step : D.failStep ≤ 9223372036854775807
  begun : D.begun ≤ 9223372036854775807
  at_ : D.at_ ≤ 9223372036854775807
  small : D.held.Small
theorem AgD.like {D E : SagaD} (h : AgD D) (k : LikeD D E) : AgD E := by
  have hs := h.small
  have l1 : E.outs.length = D.outs.length := by have := congrArg List.length k.outs; simpa using this
  have l2 : E.undos.length = D.undos.length := by have := congrArg List.length k.undos; simpa using this
  have hsm : E.held.Small := ⟨by have := hs.input; have := k.input; simp only at *; omega, by have := hs.outs; simp only at *; omega, all_len k.outs hs.outs2, by have := hs.undos; simp only at *; omega, all_len k.undos hs.undos2, by have := hs.fail; have := k.fail; simp only at *; omega⟩
  have e := k.eq
  exact ⟨by rw [e]; exact h.name, by rw [e]; exact h.next, by rw [e]; exact h.step, by rw [e]; exact h.begun, by rw [e]; exact h.at_, hsm⟩
theorem AgD.fits {D : SagaD} (h : AgD D) : SagaFits D := ⟨by have := h.name; omega, h.next, h.step⟩
theorem AgD.ref {D : SagaD} (h : AgD D) : RefSaga D := ⟨h.small, by have := h.name; omega, h.begun, h.at_, told_sized h.small⟩
/-- What a record must be. -/
structure AgR (R : RecD) : Prop where
  name : R.name.size ≤ 1048576
  data : R.data.length ≤ 1048576
theorem AgR.fits {R : RecD} (h : AgR R) : RecFits R := ⟨by have := h.name; omega, by have := h.data; omega⟩
theorem AgR.ref {R : RecD} (h : AgR R) : RefFits R := ⟨by have := h.name; omega, by have := h.data; omega⟩
end Go.Proofs.YteaiadpigpehaaaGreatDoor
namespace Go.Proofs.YteaiadpigpehaaaGreatDoor
open Go.RowKit

def turnArr (k a b : Int) : Array Value := #[.int .i64 k, .int .i64 a, .int .i64 b]
theorem size_u8 : (Tryz.prog.info? 5).map (·.size) = some 1 := by kernel_rfl
theorem OwnLists.head {w : World} {B : Nat} {v : Value} {ls : List (List Int)} (h : OwnLists w B v ls) (h0 : 0 < ls.length) (hn : ls.length ≤ 9223372036854775807) : ∃ (g c : Nat) (u : Sl), v = .slice (some ⟨g, 0, none⟩) ls.length c ∧ w.cell? ⟨g, 0, none⟩ = some u.v ∧ ∃ d ∈ ls, OwnBytes w B u.v d := by
  obtain ⟨vs, o1, o2, o3⟩ := h
  obtain ⟨s, e, en, hr⟩ := own_row o1 hn
  rcases o1.2 with ⟨_, e0⟩ | ⟨g, cap, cur, e1, _⟩
  · omega
  · obtain ⟨b, o, e2, hc⟩ := row_get hr (j := 0) (by omega)
    rw [e1] at e
    simp only [Sl.v, Value.slice.injEq] at e
    rw [← e.1] at e2
    simp only [Option.some.injEq, Addr.mk.injEq] at e2
    obtain ⟨rfl, rfl, _⟩ := e2
    refine ⟨g, cap, vs.getD 0 nilSl, e1, by simpa using hc, ls[0], List.getElem_mem h0, ?_⟩
    have hv : vs.getD 0 nilSl = vs[0]'(by omega) := by simp [List.getD, show 0 < vs.length by omega]
    rw [hv]
    exact o3 0 (by omega) h0
set_option maxRecDepth 10000000 in
set_option maxHeartbeats 4000000 in
theorem turn8_any (B : Nat) (s : SagaV) (D : SagaD) (r : RecV) (R : RecD) (k ta tb : Int) (w : World) (hs : SagaOwn w B s D) (hd : OwnBytes w B r.data.v R.data) (hm : D.held.Small) (hl : R.data.length ≤ 1073741824) (hta : -9223372036854775808 ≤ ta ∧ ta ≤ 9223372036854775807) :
    Calls Tryz.prog 15 #[s.val, r.val, .agg (turnArr k ta tb)] w fun e w' => e = .returned (.tuple #[]) ∧ ∃ wq, Below w.heap.size w wq ∧ Wrote8 wq w' B := by
  obtain ⟨w1, hw1⟩ : ∃ q, ((w.alloc (.cells (sagaArr s) 29)).alloc (.cells (recArr r) 31)).alloc (.cells (turnArr k ta tb) 42) = q := ⟨_, rfl⟩
  have hb1 : Below w.heap.size w w1 := by rw [← hw1]; exact boxd (boxd (boxd (Below.refl _ _)))
  have KS : Hid (BlkAt w1 w.heap.size (sagaArr s) 29) := Lib.hid (by rw [← hw1]; exact ((BlkAt.new _ _ _).push _).push _)
  have KR : Hid (BlkAt w1 (w.heap.size + 1) (recArr r) 31) := Lib.hid (by
    rw [← hw1]
    have := (BlkAt.new (w.alloc (.cells (sagaArr s) 29)) (recArr r) 31).push (.cells (turnArr k ta tb) 42)
    simpa using this)
  have KT : Hid (BlkAt w1 (w.heap.size + 2) (turnArr k ta tb) 42) := Lib.hid (by
    rw [← hw1]
    have := BlkAt.new ((w.alloc (.cells (sagaArr s) 29)).alloc (.cells (recArr r) 31)) (turnArr k ta tb) 42
    simpa using this)
  have HS := Lib.hid (hs.through hb1)
  have HD := Lib.hid (hd.through hb1)
  have HB := Lib.hid hb1
  have HM := Lib.hid hm
  have HLN := Lib.hid hl
  have HTA := Lib.hid hta
  dsimp only [sagaArr, recArr, turnArr, Sl.v] at hw1
  have HW1 := Lib.hid hw1
  clear hw1 hb1 hs hd hm hl hta
  dsimp only [turnArr, SagaV.val, RecV.val, Sl.v]
  go_enter Tryz.func15, Tryz.ntmps15
  go_upto_region 1 with fail
  rw [HW1.out]
  clear HW1
  go_upto_block 0 with ((with_reducible refine wpList_load_field ?_ _ (.tmp 8) ?_ (w.heap.size + 2) 0 ?_ 42 (turnArr k ta tb) KT.out (.int .i64 k) ?_ one_int ?_); rotate_left; exact rfl; exact rfl; exact rfl; rotate_left; exact rfl)
  try go_frame
  go_cut [6] (fun s6 wx => ∃ (v : Value) (d : List Int), v = s6 ∧ Hid (OwnBytes w1 B v d) ∧ Hid (d.length ≤ 1073741824) ∧ wx = w1)
  case first =>
    by_cases k0 : k = 0
    · subst k0
      go_wp2_with ((with_reducible refine wpList_load_field ?_ _ (.tmp 12) ?_ w.heap.size 6 ?_ 29 (sagaArr s) KS.out (.slice s.input.a s.input.n s.input.c) ?_ one_bytes ?_); rotate_left; exact rfl; exact rfl; exact rfl; rotate_left; exact rfl)
      go_meet
      exact ⟨_, D.input, rfl, Lib.hid HS.out.held.input, Lib.hid HM.out.input, rfl⟩
    · have n0 : (k == 0) = false := by rw [beq_eq_false_iff_ne]; exact k0
      by_cases k1 : k = 1
      · subst k1
        go_wp2_with ((with_reducible refine wpList_load_field ?_ _ (.tmp 16) ?_ w.heap.size 15 ?_ 29 (sagaArr s) KS.out (.slice s.fail.a s.fail.n s.fail.c) ?_ one_bytes ?_); rotate_left; exact rfl; exact rfl; exact rfl; rotate_left; exact rfl)
        go_meet
        exact ⟨_, D.fail, rfl, Lib.hid HS.out.held.fail, Lib.hid HM.out.fail, rfl⟩
      · have n1 : (k == 1) = false := by rw [beq_eq_false_iff_ne]; exact k1
        by_cases k2 : k = 2
        · subst k2
          by_cases h0 : 0 < D.outs.length
          · obtain ⟨g, c, u, e, hc, d, hd, ho⟩ := OwnLists.head HS.out.held.outs h0 (by have := HM.out.outs; simp only at this; show D.outs.length ≤ _; omega)
            have e' : s.outs.v = .slice (some ⟨g, 0, none⟩) D.outs.length c := e
            have HV : Hid ((sagaArr s)[11]? = some (.slice (some ⟨g, 0, none⟩) D.outs.length c)) := Lib.hid (by rw [← e']; rfl)
            have HO := Lib.hid ho
            have HL := Lib.hid (HM.out.outs2 d hd)
            obtain ⟨ua, un, uc⟩ := u
            dsimp only [Sl.v] at hc
            clear e e' ho
            go_wp2_with (first
  | ((with_reducible refine wpList_load_field ?_ _ (.tmp 20) ?_ w.heap.size 11 ?_ 29 (sagaArr s) KS.out (.slice (some ⟨g, 0, none⟩) D.outs.length c) ?_ one_lists ?_); rotate_left; exact rfl; exact rfl; exact HV.out; rotate_left; exact rfl)
  | ((with_reducible refine wpList_load_field ?_ _ (.tmp 24) ?_ w.heap.size 11 ?_ 29 (sagaArr s) KS.out (.slice (some ⟨g, 0, none⟩) D.outs.length c) ?_ one_lists ?_); rotate_left; exact rfl; exact rfl; exact HV.out; rotate_left; exact rfl))
            go_meet
            exact ⟨_, d, rfl, HO, HL, rfl⟩
          · have e0 : D.outs.length = 0 := by omega
            obtain ⟨vs, o1, _⟩ := HS.out.held.outs
            obtain ⟨q, c, e⟩ : ∃ q c, s.outs.v = .slice q 0 c := by
              rcases o1.2 with ⟨e, _⟩ | ⟨g, cap, cur, e, _⟩
              · exact ⟨none, 0, e⟩
              · exact ⟨_, cap, by rw [e]; simp only at e0 ⊢; rw [e0]⟩
            have HV : Hid ((sagaArr s)[11]? = some (.slice q 0 c)) := Lib.hid (by rw [← e]; rfl)
            clear e o1
            go_wp2_with ((with_reducible refine wpList_load_field ?_ _ (.tmp 20) ?_ w.heap.size 11 ?_ 29 (sagaArr s) KS.out (.slice q 0 c) ?_ one_lists ?_); rotate_left; exact rfl; exact rfl; exact HV.out; rotate_left; exact rfl)
            go_meet
            exact ⟨_, [], rfl, Lib.hid (World.ownsRow_nil _ _ _ _), Lib.hid (by simp), rfl⟩
        · have n2 : (k == 2) = false := by rw [beq_eq_false_iff_ne]; exact k2
          by_cases k3 : k = 3
          · subst k3
            by_cases h0 : 0 < D.undos.length
            · obtain ⟨g, c, u, e, hc, d, hd, ho⟩ := OwnLists.head HS.out.held.undos h0 (by have := HM.out.undos; simp only at this; show D.undos.length ≤ _; omega)
              have e' : s.undos.v = .slice (some ⟨g, 0, none⟩) D.undos.length c := e
              have HV : Hid ((sagaArr s)[12]? = some (.slice (some ⟨g, 0, none⟩) D.undos.length c)) := Lib.hid (by rw [← e']; rfl)
              have HO := Lib.hid ho
              have HL := Lib.hid (HM.out.undos2 d hd)
              obtain ⟨ua, un, uc⟩ := u
              dsimp only [Sl.v] at hc
              clear e e' ho
              go_wp2_with (first
  | ((with_reducible refine wpList_load_field ?_ _ (.tmp 30) ?_ w.heap.size 12 ?_ 29 (sagaArr s) KS.out (.slice (some ⟨g, 0, none⟩) D.undos.length c) ?_ one_lists ?_); rotate_left; exact rfl; exact rfl; exact HV.out; rotate_left; exact rfl)
  | ((with_reducible refine wpList_load_field ?_ _ (.tmp 34) ?_ w.heap.size 12 ?_ 29 (sagaArr s) KS.out (.slice (some ⟨g, 0, none⟩) D.undos.length c) ?_ one_lists ?_); rotate_left; exact rfl; exact rfl; exact HV.out; rotate_left; exact rfl))
              go_meet
              exact ⟨_, d, rfl, HO, HL, rfl⟩
            · have e0 : D.undos.length = 0 := by omega
              obtain ⟨vs, o1, _⟩ := HS.out.held.undos
              obtain ⟨q, c, e⟩ : ∃ q c, s.undos.v = .slice q 0 c := by
                rcases o1.2 with ⟨e, _⟩ | ⟨g, cap, cur, e, _⟩
                · exact ⟨none, 0, e⟩
                · exact ⟨_, cap, by rw [e]; simp only at e0 ⊢; rw [e0]⟩
              have HV : Hid ((sagaArr s)[12]? = some (.slice q 0 c)) := Lib.hid (by rw [← e]; rfl)
              clear e o1
              go_wp2_with ((with_reducible refine wpList_load_field ?_ _ (.tmp 30) ?_ w.heap.size 12 ?_ 29 (sagaArr s) KS.out (.slice q 0 c) ?_ one_lists ?_); rotate_left; exact rfl; exact rfl; exact HV.out; rotate_left; exact rfl)
              go_meet
              exact ⟨_, [], rfl, Lib.hid (World.ownsRow_nil _ _ _ _), Lib.hid (by simp), rfl⟩
          · have n3 : (k == 3) = false := by rw [beq_eq_false_iff_ne]; exact k3
            by_cases k4 : k = 4
            · subst k4
              go_wp2_with ((with_reducible refine wpList_load_field ?_ _ (.tmp 40) ?_ (w.heap.size + 1) 11 ?_ 31 (recArr r) KR.out (.slice r.data.a r.data.n r.data.c) ?_ one_bytes ?_); rotate_left; exact rfl; exact rfl; exact rfl; rotate_left; exact rfl)
              go_meet
              exact ⟨_, R.data, rfl, HD, HLN, rfl⟩
            · have n4 : (k == 4) = false := by rw [beq_eq_false_iff_ne]; exact k4
              go_wp2_with fail
              go_meet
              exact ⟨_, [], rfl, Lib.hid (World.ownsRow_nil _ _ _ _), Lib.hid (by simp), rfl⟩
  case rest =>
  obtain ⟨v, d, rfl, HO, HL, hwq⟩ := hcut
  obtain ⟨wx, rfl⟩ : ∃ q : World, q = wc := ⟨_, rfl⟩
  subst hwq
  by_cases hd0 : d.length = 0
  · obtain ⟨q, c, rfl⟩ : ∃ q c, v = .slice q 0 c := by
      rcases HO.out.2 with ⟨e, _⟩ | ⟨g, cap, cur, e, _⟩
      · exact ⟨none, 0, e⟩
      · exact ⟨_, cap, by rw [e, hd0]⟩
    go_wp2
    all_goals (refine bodyPost_ret (results_none rfl _ _ _) rfl ?_)
    all_goals exact ⟨rfl, _, HB.out, .inl rfl⟩
  · obtain ⟨g, cap, cur, rfl, q1, K8, q3, q4, q5⟩ : ∃ g cap cur, v = .slice (some ⟨g, 0, none⟩) d.length cap ∧ B ≤ g ∧ Hid (BlkAt wx g cur 5) ∧ d.length ≤ cap ∧ cap ≤ maxLen ∧ cur.size = cap := by
      rcases HO.out.2 with ⟨_, e⟩ | ⟨g, cap, cur, e, q1, q2, q3, q4, q5, _⟩
      · exact absurd e hd0
      · exact ⟨g, cap, cur, e, q1, Lib.hid q2, q3, q4, by omega⟩
    obtain ⟨n, hn⟩ : ∃ n : Nat, d.length = n := ⟨_, rfl⟩
    rw [hn] at hd0 q3 HL
    rw [hn]
    have hlen := HL.out
    have hnz : ¬ (n : Int) = 0 := by omega
    have h1 := Int.tmod_lt_of_pos ta (b := (n : Int)) (by omega)
    have h2 := Int.lt_tmod_of_pos ta (b := (n : Int)) (by omega)
    obtain ⟨t, ht⟩ : ∃ q, Int.tmod ta (n : Int) = q := ⟨_, rfl⟩
    rw [ht] at h1 h2
    clear HO hn
    by_cases hneg : t < 0
    · obtain ⟨m, hm⟩ : ∃ m : Nat, t + (n : Int) = m := ⟨(t + n).toNat, by omega⟩
      have hm2 : m < n := by omega
      go_wp2_with (first
  | (refine wpList_store_one rfl _ (.tmp 61) (.tmp 60) rfl g m rfl _ rfl _ cur K8.out (by omega) rfl size_u8 ?_; intro wS hwS K)
  | ((with_reducible refine wpList_load_field ?_ _ (.tmp 45) ?_ (w.heap.size + 2) 1 ?_ 42 (turnArr k ta tb) KT.out (.int .i64 ta) ?_ one_int ?_); rotate_left; exact rfl; exact rfl; exact rfl; rotate_left; exact rfl)
  | ((with_reducible refine wpList_load_field ?_ _ (.tmp 58) ?_ (w.heap.size + 2) 2 ?_ 42 (turnArr k ta tb) KT.out (.int .i64 tb) ?_ one_int ?_); rotate_left; exact rfl; exact rfl; exact rfl; rotate_left; exact rfl))
      all_goals go_end0
      all_goals exact ⟨rfl, _, HB.out, .inr ⟨g, m, _, cur, q1, K8.out, hwS, K⟩⟩
    · obtain ⟨m, rfl⟩ : ∃ m : Nat, t = m := ⟨t.toNat, by omega⟩
      have hm2 : m < n := by omega
      go_wp2_with (first
  | (refine wpList_store_one rfl _ (.tmp 61) (.tmp 60) rfl g m rfl _ rfl _ cur K8.out (by omega) rfl size_u8 ?_; intro wS hwS K)
  | ((with_reducible refine wpList_load_field ?_ _ (.tmp 45) ?_ (w.heap.size + 2) 1 ?_ 42 (turnArr k ta tb) KT.out (.int .i64 ta) ?_ one_int ?_); rotate_left; exact rfl; exact rfl; exact rfl; rotate_left; exact rfl)
  | ((with_reducible refine wpList_load_field ?_ _ (.tmp 58) ?_ (w.heap.size + 2) 2 ?_ 42 (turnArr k ta tb) KT.out (.int .i64 tb) ?_ one_int ?_); rotate_left; exact rfl; exact rfl; exact rfl; rotate_left; exact rfl))
      all_goals go_end0
      all_goals exact ⟨rfl, _, HB.out, .inr ⟨g, m, _, cur, q1, K8.out, hwS, K⟩⟩
end Go.Proofs.YteaiadpigpehaaaGreatDoor
namespace Go.Proofs.YteaiadpigpehaaaGreatDoor
open Go.RowKit

theorem rowTurn : RowTy Tryz.prog 42 3 := RowTy.mk' Tryz.underlying42 rfl (by kernel_rfl)
/-- The changes that a slice holds. -/
def TurnsAt (w : World) (s : Sl) (Ts : List (Int × Int × Int)) : Prop :=
  s.n = Ts.length ∧ (s.n ≤ 9223372036854775807 ∧ (s.a = none → s.c = 0)) ∧ (0 < s.n → ∃ b o, s.a = some ⟨b, o, none⟩ ∧ ∀ i (h1 : i < Ts.length), ∀ j, j < 3 → w.cell? ⟨b, o + i * 3 + j, none⟩ = (turnArr Ts[i].1 Ts[i].2.1 Ts[i].2.2)[j]?)
namespace sagaAgain

theorem built_op3 (k : Int) (s : SagaV) (r : RecV) : Tryz.prog.built 37 [(0, .int .i64 k), (1, .agg (sagaArr s)), (2, .agg (recArr r))] = some (opArr ⟨k, s, r⟩) := by kernel_rfl
section
variable {ops : Array Oper} {rest : List Oper} {o : Oper} {a : Act} {w : World} {Q : Exit → Act → World → Prop}
theorem parts_op3 (k : Int) (x y z : Tmp) (s : SagaV) (r : RecV) (hx : a.eval (.tmp x) = .int .i64 k) (hy : a.eval (.tmp y) = .agg (sagaArr s)) (hz : a.eval (.tmp z) = .agg (recArr r)) :
    Tryz.prog.built 37 ((#[(0, Operand.tmp x), (1, .tmp y), (2, .tmp z)] : Array (Nat × Operand)).map fun (i, y) => (i, a.eval y)).toList = some (opArr ⟨k, s, r⟩) := by
  rw [show ((#[(0, Operand.tmp x), (1, .tmp y), (2, .tmp z)] : Array (Nat × Operand)).map fun (i, y) => (i, a.eval y)).toList = [(0, a.eval (.tmp x)), (1, a.eval (.tmp y)), (2, a.eval (.tmp z))] from by simp, hx, hy, hz]
  exact built_op3 k s r
theorem wpList_op3 (hg : o.guard = none) (k : Int) (x y z : Tmp) (ho : o.op = .build 37 #[(0, .tmp x), (1, .tmp y), (2, .tmp z)]) (s : SagaV) (r : RecV) (hx : a.eval (.tmp x) = .int .i64 k) (hy : a.eval (.tmp y) = .agg (sagaArr s)) (hz : a.eval (.tmp z) = .agg (recArr r))
    (h : wpList Tryz.prog ops Q rest (a.put o.dst (.agg (opArr ⟨k, s, r⟩))) w) : wpList Tryz.prog ops Q (o :: rest) a w := by
  refine wpList_build hg _ _ ho (by rw [parts_op3 k x y z s r hx hy hz]; rfl) ?_
  rw [parts_op3 k x y z s r hx hy hz]
  exact h
end
/-- A saga and a record of one's own, in their boxes. -/
structure AgAt (w wr : World) (g h : Nat) (s : SagaV) (r : RecV) (D : SagaD) (R : RecD) : Prop where
  below : Below w.heap.size w wr
  k7 : BlkAt wr g (sagaArr s) 29
  k8 : BlkAt wr h (recArr r) 31
  s : SagaOwn wr w.heap.size s D
  req : r = R.words r.data
  r : OwnBytes wr w.heap.size r.data.v R.data
  okD : AgD D
  okR : AgR R
section
variable {w wr w' : World} {g h : Nat} {s : SagaV} {r : RecV} {D : SagaD} {R : RecD}
theorem AgAt.bl (k : AgAt w wr g h s r D R) (hb : Below wr.heap.size wr w') : AgAt w w' g h s r D R :=
  ⟨then_ k.below hb, k.k7.below hb (blk_lt k.k7), k.k8.below hb (blk_lt k.k8), k.s.through hb, k.req, k.r.through hb, k.okD, k.okR⟩
theorem AgAt.rdS (k : AgAt w wr g h s r D R) : SagaRd wr s D := k.s.rd k.okD.small
theorem AgAt.rdR (k : AgAt w wr g h s r D R) : RecRd wr r R := ⟨k.req, k.r.bytes (by have := k.okR.data; omega)⟩
theorem blk_put {B b : Nat} {cs : Array Value} {t : TypeId} (k : BlkAt wr b cs t) (ht : t ≠ 5) (hw : Wrote8 wr w' B) : BlkAt w' b cs t := by
  rcases hw with rfl | ⟨g, i, x, cur, h1, h2, h3, h4⟩
  · exact k
  · refine h3.blk k (fun e => ?_)
    subst e
    have e1 : some (Obj.cells cs t) = some (Obj.cells cur 5) := (show wr.heap[b]? = _ from k).symm.trans h2
    simp at e1
    exact ht e1.2
theorem AgAt.put (k : AgAt w wr g h s r D R) (hw : Wrote8 wr w' w.heap.size) : ∃ D' R', AgAt w w' g h s r D' R' := by
  obtain ⟨E, hE, hs⟩ := k.s.put hw
  obtain ⟨d, hd, hr⟩ := k.r.put hw
  refine ⟨E, { R with data := d }, ⟨?_, blk_put k.k7 (by decide) hw, blk_put k.k8 (by decide) hw, hs, by have := k.req; rw [this], hr, k.okD.like hE, ⟨k.okR.name, by have := k.okR.data; simp only; omega⟩⟩⟩
  rcases hw with rfl | ⟨b, i, x, cur, h1, h2, h3, h4⟩
  · exact k.below
  · exact h3.below k.below h1
end
/-- What the last change reads. -/
structure LdAt (W : World) (g h b o : Nat) (s : SagaV) (r : RecV) (vs : Array Value) : Prop where
  k7 : BlkAt W g (sagaArr s) 29
  k8 : BlkAt W h (recArr r) 31
  ts : ∀ i, i < vs.size → W.cell? ⟨b, o + i, none⟩ = vs[i]?
theorem LdAt.drew {W : World} {g h b o : Nat} {s : SagaV} {r : RecV} {vs : Array Value} (k : LdAt W g h b o s r vs) : LdAt W.drew g h b o s r vs := ⟨k.k7, k.k8, k.ts⟩
theorem ld_cell {w W : World} {ad : Addr} {vs : Array Value} {i : Nat} (h : Below w.heap.size w W) (hc : w.cell? ad = vs[i]?) (hi : i < vs.size) : W.cell? ad = vs[i]? := by
  rw [Array.getElem?_eq_getElem hi] at hc ⊢
  exact (h.cell (World.block_lt_of_cell? w _ hc)).trans hc
set_option maxRecDepth 10000000 in
set_option maxHeartbeats 16000000 in
theorem walk (s : SagaV) (D : SagaD) (r : RecV) (R : RecD) (q : Sl) (Ts : List (Int × Int × Int)) (w : World) (ht : Tables w) (hl : LandsAt w) (hrt : RefTabs w) (hs : SagaRd w s D) (hr : RecRd w r R) (htn : TurnsAt w q Ts) (hD : AgD D) (hR : AgR R) (hTl : Ts.length ≤ 1048576) (hI : ∀ t ∈ Ts, -9223372036854775808 ≤ t.2.1 ∧ t.2.1 ≤ 9223372036854775807) :
    Calls Tryz.prog 7 #[s.val, r.val, q.v] w fun e w' => e = .returned (.bool true) ∧ Below w.heap.size w w' := by
  obtain ⟨qn, q2, q3⟩ := htn
  obtain ⟨qa, n, qc⟩ := q
  simp only at qn q2 q3
  subst qn
  have hmax := q2.1
  have HQ := Lib.hid q3
  have HI := Lib.hid hI
  clear q2 q3 hI
  obtain ⟨w1, hw1⟩ : ∃ q, (w.alloc (.cells (sagaArr s) 29)).alloc (.cells (recArr r) 31) = q := ⟨_, rfl⟩
  have hb1 : Below w.heap.size w w1 := by rw [← hw1]; exact boxd (boxd (Below.refl _ _))
  have KS : Hid (BlkAt w1 w.heap.size (sagaArr s) 29) := Lib.hid (by rw [← hw1]; exact (BlkAt.new _ _ _).push _)
  have KR : Hid (BlkAt w1 (w.heap.size + 1) (recArr r) 31) := Lib.hid (by
    rw [← hw1]
    have := BlkAt.new (w.alloc (.cells (sagaArr s) 29)) (recArr r) 31
    rw [World.size_alloc] at this
    exact this)
  have C1 := Lib.hid (ref10Clone_any s D w1 (hs.below hb1) hD.small)
  have HRR := Lib.hid hr
  have HT := Lib.hid ht
  have HL := Lib.hid hl
  have HRT := Lib.hid hrt
  have HD := Lib.hid hD
  have HR := Lib.hid hR
  have HB := Lib.hid hb1
  dsimp only [recArr, sagaArr, Sl.v] at hw1
  have HW1 := Lib.hid hw1
  clear hw1 hb1 hs hr ht hl hrt hD hR
  dsimp only [SagaV.val, RecV.val, Sl.v]
  go_enter Tryz.func7, Tryz.ntmps7
  go_upto_region 1 with fail
  rw [HW1.out]
  clear HW1
  go_wp2_with ((with_reducible refine wpList_load_blk ?_ _ (.tmp 3) ?_ w.heap.size ?_ 29 (sagaArr s) KS.out rowSaga ?_); rotate_left; exact rfl; exact rfl; rotate_left; exact rfl)
  refine C1.out.mono ?_
  clear C1
  rintro e w2 ⟨s1, rfl, ho, hb⟩
  obtain ⟨w3, hw3⟩ : ∃ q, w2.alloc (.cells (sagaArr s1) 29) = q := ⟨_, rfl⟩
  have hb3 : Below w2.heap.size w2 w3 := by rw [← hw3]; exact boxd (Below.refl _ _)
  have hT := then_ hb hb3
  have K7 : Hid (BlkAt w3 w2.heap.size (sagaArr s1) 29) := Lib.hid (by rw [← hw3]; exact BlkAt.new _ _ _)
  have O7 := Lib.hid ((ho.through hb3).lower (c := w.heap.size) HB.out.size)
  have KR3 := Lib.hid (KR.out.below hT (blk_lt KR.out))
  have HB3 := Lib.hid (then_ HB.out hT)
  have C2 := Lib.hid (ref3Clone_any r R.data w3 (HRR.out.data.below HB3.out) (by have := HR.out.data; omega))
  dsimp only [sagaArr, Sl.v] at hw3
  have HW3 := Lib.hid hw3
  clear hw3 hb3 hb ho hT KR KS HB
  dsimp only [SagaV.val, Sl.v]
  go_upto_region 2 with fail
  rw [HW3.out]
  clear HW3
  go_wp2_with ((with_reducible refine wpList_load_blk ?_ _ (.tmp 4) ?_ (w.heap.size + 1) ?_ 31 (recArr r) KR3.out rowRec ?_); rotate_left; exact rfl; exact rfl; rotate_left; exact rfl)
  refine C2.out.mono ?_
  clear C2
  rintro e w4 ⟨rs, rfl, ho, hb⟩
  obtain ⟨w5, hw5⟩ : ∃ q, w4.alloc (.cells (recArr { r with data := rs }) 31) = q := ⟨_, rfl⟩
  have hb5 : Below w4.heap.size w4 w5 := by rw [← hw5]; exact boxd (Below.refl _ _)
  have hT := then_ hb hb5
  have hall : AgAt w w5 w2.heap.size w4.heap.size s1 { r with data := rs } D R := ⟨then_ HB3.out hT, K7.out.below hT (blk_lt K7.out), (by rw [← hw5]; exact BlkAt.new _ _ _), O7.out.through hT, rec_put HRR.out.eq rs, (ho.through hb5).lower (base := w.heap.size) HB3.out.size, HD.out, HR.out⟩
  have AG := Lib.hid hall
  obtain ⟨r1, hr1⟩ : ∃ q : RecV, { r with data := rs } = q := ⟨_, rfl⟩
  rw [hr1] at AG
  obtain ⟨g7, hg7⟩ : ∃ q, w2.heap.size = q := ⟨_, rfl⟩
  obtain ⟨g8, hg8⟩ : ∃ q, w4.heap.size = q := ⟨_, rfl⟩
  rw [hg7, hg8] at AG
  clear hr1
  dsimp only [recArr, Sl.v] at hw5
  have HW5 := Lib.hid hw5
  clear hw5 hb5 hb ho hT hall KR3 HB3 K7 O7
  dsimp only [RecV.val, Sl.v]
  go_upto_region 3 with fail
  rw [HW5.out]
  try rw [hg7]
  try rw [hg8]
  clear HW5 hg7 hg8
  go_wp2_with fail
  go_loopw [9] (fun i wr => ∃ (j : Nat) (D : SagaD) (R : RecD), j ≤ Ts.length + 1 ∧ i = .int .i64 j ∧ Hid (AgAt w wr g7 g8 s1 r1 D R)) (fun i _ => Ts.length + 1 - (intOf i).toNat)
  case atStart => exact ⟨0, D, R, by omega, rfl, AG⟩
  case round =>
    clear AG
    obtain ⟨j, D, R, hj, rfl, AG⟩ := hrel
    by_cases hlt : j ≤ Ts.length
    · have C1 := Lib.hid (ref10Clone_any s1 D wr AG.out.rdS AG.out.okD.small)
      go_wp2_with ((with_reducible refine wpList_load_blk ?_ _ (.tmp 7) ?_ g7 ?_ 29 (sagaArr s1) AG.out.k7 rowSaga ?_); rotate_left; exact rfl; exact rfl; rotate_left; exact rfl)
      refine C1.out.mono ?_
      clear C1
      rintro e w2 ⟨s2, rfl, ho, hb⟩
      obtain ⟨w3, hw3⟩ : ∃ q, w2.alloc (.cells (sagaArr s2) 29) = q := ⟨_, rfl⟩
      have hb3 : Below w2.heap.size w2 w3 := by rw [← hw3]; exact boxd (Below.refl _ _)
      have hT := then_ hb hb3
      have K10 : Hid (BlkAt w3 w2.heap.size (sagaArr s2) 29) := Lib.hid (by rw [← hw3]; exact BlkAt.new _ _ _)
      have O10 := Lib.hid (ho.through hb3)
      have AG3 := Lib.hid (AG.out.bl hT)
      have C2 := Lib.hid (ref3Clone_any r1 R.data w3 AG3.out.rdR.data (by have := AG3.out.okR.data; omega))
      obtain ⟨g10, hg10⟩ : ∃ q, w2.heap.size = q := ⟨_, rfl⟩
      rw [hg10] at K10
      dsimp only [sagaArr, Sl.v] at hw3
      have HW3 := Lib.hid hw3
      clear hw3 hb3 hb ho hT AG
      dsimp only [SagaV.val, Sl.v]
      go_upto_region 7 with fail
      rw [HW3.out]
      try rw [hg10]
      clear HW3 hg10
      go_wp2_with ((with_reducible refine wpList_load_blk ?_ _ (.tmp 8) ?_ g8 ?_ 31 (recArr r1) AG3.out.k8 rowRec ?_); rotate_left; exact rfl; exact rfl; rotate_left; exact rfl)
      refine C2.out.mono ?_
      clear C2
      rintro e w4 ⟨rs, rfl, ho, hb⟩
      obtain ⟨w5, hw5⟩ : ∃ q, w4.alloc (.cells (recArr { r1 with data := rs }) 31) = q := ⟨_, rfl⟩
      have hb5 : Below w4.heap.size w4 w5 := by rw [← hw5]; exact boxd (Below.refl _ _)
      have hT := then_ hb hb5
      have K11 : Hid (BlkAt w5 w4.heap.size (recArr { r1 with data := rs }) 31) := Lib.hid (by rw [← hw5]; exact BlkAt.new _ _ _)
      have K105 := Lib.hid (K10.out.below hT (blk_lt K10.out))
      have RD10 := Lib.hid ((O10.out.through hT).rd AG3.out.okD.small)
      have RD11 := Lib.hid (show RecRd w5 { r1 with data := rs } R from ⟨rec_put AG3.out.req rs, (ho.through hb5).bytes (by have := AG3.out.okR.data; omega)⟩)
      have AG5 := Lib.hid (AG3.out.bl hT)
      obtain ⟨g11, hg11⟩ : ∃ q, w4.heap.size = q := ⟨_, rfl⟩
      rw [hg11] at K11
      dsimp only [recArr, Sl.v] at hw5
      have HW5 := Lib.hid hw5
      clear hw5 hb5 hb ho hT AG3 K10 O10
      dsimp only [RecV.val, Sl.v]
      go_upto_region 8 with fail
      rw [HW5.out]
      try rw [hg11]
      clear HW5 hg11
      have CA := Lib.hid (fun (k : Int) W (h : Below w5.heap.size w5 W) => answered_any ⟨k, s1, r1⟩ ⟨k, D, R⟩ W (HT.out.below (then_ AG5.out.below h)) (HL.out.below (then_ AG5.out.below h)) (HRT.out.below (then_ AG5.out.below h)) ⟨rfl, (AG5.out.bl h).rdS, (AG5.out.bl h).rdR⟩ AG5.out.okD.fits AG5.out.okR.fits AG5.out.okD.ref AG5.out.okR.ref)
      have cM := fun W (h : Below w5.heap.size w5 W) => same_any s1 s2 D D W (AG5.out.bl h).rdS (RD10.out.below h)
      rw [sameB_refl] at cM
      have CM := Lib.hid cM
      have CR := Lib.hid (fun W (h : Below w5.heap.size w5 W) => recSame_eq r1 { r1 with data := rs } R W (AG5.out.bl h).rdR (RD11.out.below h))
      clear cM
      go_wp2_with fail
      go_loopw [12] (fun i wx => ∃ k : Nat, k ≤ 8 ∧ i = .int .i64 ((k : Int) + 1) ∧ Hid (Below w5.heap.size w5 wx)) (fun i _ => 9 - (intOf i).toNat)
      case atStart => exact ⟨0, by omega, by go_num, Lib.hid (Below.refl _ _)⟩
      case round =>
        obtain ⟨k, hk, rfl, HX⟩ := hrel
        by_cases hk8 : k < 8
        · have hk9 : (k : Int) + 1 ≤ 8 := by omega
          have AX := Lib.hid (AG5.out.bl HX.out)
          have KX10 := Lib.hid (K105.out.below HX.out (blk_lt K105.out))
          have KX11 := Lib.hid (K11.out.below HX.out (blk_lt K11.out))
          go_wp2_with (first
  | (go_at_call 14; refine (CR.out _ HY2.out).mono ?_; rintro e y3 ⟨rfl, hb⟩; have HZ := Lib.hid (then_ HY2.out hb); clear hb)
  | ((with_reducible refine wpList_load_blk_g ?_ _ (.tmp 8) ?_ g8 ?_ 31 (recArr r1) (AG5.out.bl HY2.out).k8 rowRec ?_); rotate_left; exact rfl; exact rfl; rotate_left; kernel_rfl)
  | ((with_reducible refine wpList_load_blk_g ?_ _ (.tmp 11) ?_ g11 ?_ 31 (recArr { r1 with data := rs }) (BlkAt.below K11.out HY2.out (blk_lt K11.out)) rowRec ?_); rotate_left; exact rfl; exact rfl; rotate_left; kernel_rfl)
  | (go_at_call 13; refine (CM.out _ HY1.out).mono ?_; rintro e y2 ⟨rfl, hb⟩; have HY2 := Lib.hid (then_ HY1.out hb); clear hb)
  | ((with_reducible refine wpList_load_blk_g ?_ _ (.tmp 7) ?_ g7 ?_ 29 (sagaArr s1) (AG5.out.bl HY1.out).k7 rowSaga ?_); rotate_left; exact rfl; exact rfl; rotate_left; kernel_rfl)
  | ((with_reducible refine wpList_load_blk_g ?_ _ (.tmp 10) ?_ g10 ?_ 29 (sagaArr s2) (BlkAt.below K105.out HY1.out (blk_lt K105.out)) rowSaga ?_); rotate_left; exact rfl; exact rfl; rotate_left; kernel_rfl)
  | (go_at_call 12; refine (CA.out _ _ HX.out).mono ?_; rintro e y1 ⟨rfl, hb⟩; have HY1 := Lib.hid (then_ HX.out hb); clear hb)
  | ((with_reducible refine wpList_op3 ?_ ((k : Int) + 1) 32 33 34 ?_ s1 r1 ?_ ?_ ?_ ?_); rotate_left; exact rfl; exact rfl; exact rfl; exact rfl; rotate_left; exact rfl)
  | ((with_reducible refine wpList_load_blk ?_ _ (.tmp 7) ?_ g7 ?_ 29 (sagaArr s1) AX.out.k7 rowSaga ?_); rotate_left; exact rfl; exact rfl; rotate_left; exact rfl)
  | ((with_reducible refine wpList_load_blk ?_ _ (.tmp 8) ?_ g8 ?_ 31 (recArr r1) AX.out.k8 rowRec ?_); rotate_left; exact rfl; exact rfl; rotate_left; exact rfl))
          all_goals go_roundw
          case rel => exact ⟨k + 1, by omega, by go_num, HZ⟩
          case measure => simp [intOf]; omega
        · have hk' : k = 8 := by omega
          subst hk'
          have AG := Lib.hid (AG5.out.bl HX.out)
          clear AG5 CA CM CR RD10 RD11 K105 K11 HX
          by_cases hj2 : j < Ts.length
          · obtain ⟨b0, o0, e0, hc0⟩ := HQ.out (by omega)
            subst e0
            have hti := HI.out Ts[j] (List.getElem_mem hj2)
            have lt0 := fun i (hi : i < 3) => hc0 j hj2 i hi
            obtain ⟨⟨ta, tb, tc⟩, htj⟩ : ∃ q, Ts[j] = q := ⟨_, rfl⟩
            rw [htj] at lt0 hti
            have LT := Lib.hid (fun W (h : Below w.heap.size w W) i (hi : i < (turnArr ta tb tc).size) => ld_cell h (lt0 i hi) hi)
            have CT := Lib.hid (fun W (h : Below wr.heap.size wr W) => turn8_any w.heap.size s1 D r1 R ta tb tc W (AG.out.bl h).s (AG.out.bl h).r AG.out.okD.small (by have := AG.out.okR.data; omega) hti)
            have hld : LdAt wr g7 g8 b0 (o0 + j * 3) s1 r1 (turnArr ta tb tc) := ⟨AG.out.k7, AG.out.k8, LT.out wr AG.out.below⟩
            clear htj lt0 hti hc0
            go_upto_region 15 with fail
            refine wp_region_held_drew (S := (fun W => LdAt W g7 g8 b0 (o0 + j * 3) s1 r1 (turnArr ta tb tc))) (by kernel_rfl) (hld.drew) (fun hHeld => ?_)
            refine wpAnyH_take (i := 0) (oi := { dst := some 55, op := Op.load 29 (Operand.tmp 7), type := 29, pos := "again.go:62", after := #[], guard := none }) (v := .agg (sagaArr s1)) rfl (by kernel_rfl) (by kernel_rfl) (by kernel_rfl) (fun _ _ _ h => h) (yl_blk rfl _ _ rfl _ rfl _ _ (fun w' h => h.k7) rowSaga) (by assumption) ?_
            try go_frame
            refine wpAnyH_take (i := 1) (oi := { dst := some 56, op := Op.load 31 (Operand.tmp 8), type := 31, pos := "again.go:62", after := #[], guard := none }) (v := .agg (recArr r1)) rfl (by kernel_rfl) (by kernel_rfl) (by kernel_rfl) (fun _ _ _ h => h) (yl_blk rfl _ _ rfl _ rfl _ _ (fun w' h => h.k8) rowRec) (by assumption) ?_
            try go_frame
            refine wpAnyH_take (i := 2) (oi := { dst := some 57, op := Op.move (Operand.tmp 2), type := 32, pos := "again.go:62", after := #[], guard := none }) (v := ?_) rfl (by kernel_rfl) (by kernel_rfl) (by kernel_rfl) (fun _ _ _ h => h) (Or.inl ⟨by rfl, ?_⟩) (by assumption) ?_
            rotate_left 1
            focus (intro w hSw; (try clear hSw); go_simp; try (with_reducible rfl))
            try go_frame
            refine wpAnyH_take (i := 3) (oi := { dst := some 58, op := Op.move (Operand.tmp 9), type := 3, pos := "again.go:62", after := #[], guard := none }) (v := ?_) rfl (by kernel_rfl) (by kernel_rfl) (by kernel_rfl) (fun _ _ _ h => h) (Or.inl ⟨by rfl, ?_⟩) (by assumption) ?_
            rotate_left 1
            focus (intro w hSw; (try clear hSw); go_simp; try (with_reducible rfl))
            try go_frame
            refine wpAnyH_take (i := 4) (oi := { dst := some 59, op := Op.indexAddr 32 (Operand.tmp 57) (Operand.tmp 58), type := 0, pos := "again.go:62", after := #[{ on := 2, ground := Ground.data }, { on := 3, ground := Ground.data }], guard := none }) (v := ?_) rfl (by kernel_rfl) (by kernel_rfl) (by kernel_rfl) (fun _ _ _ h => h) (Or.inl ⟨by rfl, ?_⟩) (by assumption) ?_
            rotate_left 1
            focus (intro w hSw; (try clear hSw); go_simp; try (with_reducible rfl))
            try go_frame
            refine wpAnyH_take (i := 5) (oi := { dst := some 60, op := Op.load 42 (Operand.tmp 59), type := 42, pos := "again.go:62", after := #[{ on := 4, ground := Ground.data }], guard := none }) (v := .agg (turnArr ta tb tc)) rfl (by kernel_rfl) (by kernel_rfl) (by kernel_rfl) (fun _ _ _ h => h) (yl_at rfl _ _ rfl _ _ rfl _ (fun w' h => h.ts) rowTurn) (by assumption) ?_
            try go_frame
            refine wpAnyH_ready (rs := [6]) (by kernel_rfl) (by simp) ?_
            refine AllReadyH.cons (o := { dst := some 61, op := Op.call { callee := Callee.value (Operand.func 15), args := #[Operand.tmp 55, Operand.tmp 56, Operand.tmp 60], argTypes := #[29, 31, 42] }, type := 0, pos := "again.go:62", after := #[{ on := 0, ground := Ground.data }, { on := 1, ground := Ground.data }, { on := 5, ground := Ground.data }], guard := none }) rfl (fun K hK => ?_) ?_
            · go_simp
              refine (CT.out _ (Below.refl wr.heap.size wr).drew).mono ?_
              rintro e w6 ⟨rfl, wq, hb, hw⟩
              obtain ⟨D2, R2, hA⟩ := ((AG.out.bl (Below.refl wr.heap.size wr).drew).bl hb).put hw
              try go_wp2_with fail
              refine hK.out _ _ (⟨hA.k7, hA.k8, LT.out _ hA.below⟩) (fun hHeld => ?_)
              clear hK K
              try go_frame
              refine wpAnyH_done (by kernel_rfl) ?_ _
              try go_wp2_with fail
              all_goals go_roundw
              case rel => exact ⟨j + 1, D2, R2, by omega, by go_num, Lib.hid hA⟩
              case measure => simp [intOf]; omega
            exact AllReadyH.nil
          · have hj3 : j = Ts.length := by omega
            subst hj3
            go_wp2
            all_goals go_roundw
            case rel => exact ⟨Ts.length + 1, D, R, by omega, by go_num, AG⟩
            case measure => simp [intOf]
    · have hk : j = Ts.length + 1 := by omega
      subst hk
      have CS := Lib.hid (started_any wr (HT.out.below AG.out.below) (HL.out.below AG.out.below) (HRT.out.below AG.out.below))
      go_wp2_with (go_at_call 8; refine CS.out.mono ?_; rintro e w9 ⟨rfl, hb⟩; have HB9 := Lib.hid (then_ AG.out.below hb); clear hb)
      all_goals go_ret
      all_goals exact ⟨rfl, HB9.out⟩
end sagaAgain
end Go.Proofs.YteaiadpigpehaaaGreatDoor
