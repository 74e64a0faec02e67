/-
  saga.bytesOf and record.Clone walked: a copy of bytes and of a record, in new memory. Conditions: none.
-/
import Derived.Test.YteaiadpigpehaaaDoorAppend
namespace Go.Proofs.YteaiadpigpehaaaDoor
open Go.RowKit

/-- Bytes that lie in blocks of one's own, from a block on. -/
def OwnBytes (w : World) (base : Nat) (v : Value) (d : List Int) : Prop := w.ownsRow base 5 1 v d.length (byteCells d)
theorem OwnBytes.at {w : World} {base : Nat} {v : Value} {d : List Int} (h : OwnBytes w base v d) (hl : d.length ≤ 9223372036854775807) : ∃ s : Sl, v = s.v ∧ BytesAt w s d := by
  obtain ⟨s, e, _, hr⟩ := own_row h hl
  exact ⟨s, e, hr⟩

set_option maxRecDepth 100000 in
theorem bytesOf_any (s : Sl) (d : List Int) (w : World) (h : BytesAt w s d) (hd : d.length ≤ 1073741824) :
    Calls Tryd.prog 65 #[s.v] w fun e w' => ∃ v, e = .returned v ∧ OwnBytes w' w.heap.size v d ∧ Below w.heap.size w w' := by
  have H := Lib.hid h
  have hl := h.len
  clear h
  obtain ⟨a, n, c⟩ := s
  simp only at hl
  subst hl
  dsimp only [Sl.v]
  have hE : (w.alloc (.cells #[] 5)).ownsRow w.heap.size 5 1 (.slice (some ⟨w.heap.size, 0, none⟩) 0 0) 0 [] := World.ownsRow_lit (base := w.heap.size) w #[] 0 (Nat.le_refl _) (by unfold maxLen; omega) rfl
  have hb0 := boxd (o := .cells #[] 5) (Below.refl w.heap.size w)
  go_enter Tryd.func65, Tryd.ntmps65
  go_wp2_with (at_builtin; refine wpList_append_row _ rfl (.tmp 3) (.tmp 4) 22 rfl w.heap.size 5 (.int .u8 0) 1 Tryd.underlying22 infoByte rfl _ 0 [] rfl hE ⟨a, d.length, c⟩ (byteCells d) rfl (RowAt.below H.out hb0) (byteCells_one d) ?c1 ?c2 ?c3 ?_)
  case c1 => simp only [maxLen]; omega
  case c2 => omega
  case c3 => simp
  intro v' w2 hown hgr
  have HO : Hid (OwnBytes w2 w.heap.size v' d) := Lib.hid (by unfold OwnBytes; simpa using hown)
  have HB : Hid (Below w.heap.size w w2) := Lib.hid (hb0.grown hgr (by simp) (by intro k hk; simp [Value.ownBlock] at hk; omega))
  clear hown hgr hE hb0
  go_wp2
  all_goals go_ret
  all_goals exact ⟨_, rfl, HO.out, HB.out⟩

theorem OwnBytes.set {w : World} {base : Nat} {v : Value} {d : List Int} (h : OwnBytes w base v d) {a : Addr} {u : Value} (ha : a.block < base) : OwnBytes (w.setCell a u) base v d := ownsRow_setCell_below h ha u
theorem OwnBytes.lower {w : World} {base b : Nat} {v : Value} {d : List Int} (h : OwnBytes w b v d) (ha : base ≤ b) : OwnBytes w base v d := own_lower h ha
theorem Below.set {w w' : World} {B : Nat} (h : Below B w w') {p : Addr} {u : Value} (hp : B ≤ p.block) : Below B w (w'.setCell p u) := h.setCell hp u

/-- Two new blocks behind something that has grown. -/
theorem after_two {w w2 : World} {A B : Array Value} {t u : TypeId} (hgr : ((w.alloc (.cells A t)).alloc (.cells B u)).grownBy w2 none) :
    (∀ i, w2.cell? ⟨w.heap.size, i, none⟩ = A[i]?) ∧ (∀ i, w2.frozen? ⟨w.heap.size, i, none⟩ = false) ∧ (∀ i, w2.cell? ⟨w.heap.size + 1, i, none⟩ = B[i]?) ∧ (∀ i, w2.frozen? ⟨w.heap.size + 1, i, none⟩ = false) := by
  have e : ((w.alloc (.cells A t)).alloc (.cells B u)).heap = (w.heap.push (.cells A t)).push (.cells B u) := rfl
  have h0 : w2.heap[w.heap.size]? = some (.cells A t) := by
    rw [hgr.block _ (by rw [e]; simp only [Array.size_push]; omega) (by simp), e, Array.getElem?_push, Array.getElem?_push]
    simp
  have h1 : w2.heap[w.heap.size + 1]? = some (.cells B u) := by
    rw [hgr.block _ (by rw [e]; simp only [Array.size_push]; omega) (by simp), e, Array.getElem?_push]
    simp
  refine ⟨fun i => ?_, fun i => ?_, fun i => ?_, fun i => ?_⟩
  · simp [World.cell?, h0]
  · simp [World.frozen?, h0]
  · simp [World.cell?, h1]
  · simp [World.frozen?, h1]

set_option maxRecDepth 100000 in
set_option maxHeartbeats 1000000 in
theorem recClone_any (r : RecV) (d : List Int) (w : World) (h : BytesAt w r.data d) (hd : d.length ≤ 1073741824) :
    Calls Tryd.prog 72 #[r.val] w fun e w' => ∃ s : Sl, e = .returned ({ r with data := s } : RecV).val ∧ OwnBytes w' w.heap.size s.v d ∧ Below w.heap.size w w' := by
  have H := Lib.hid h
  have hl := h.len
  clear h
  have hR := Lib.hid (RecIn.new w r 27)
  obtain ⟨v, kind, saga, step, try_, at_, last, code, count, pivot, name, ⟨da, dn, dc⟩⟩ := r
  simp only at hl
  subst hl
  dsimp only [RecV.val, Sl.v]
  dsimp only [Sl.v] at hR
  have hb0 := boxd (o := .cells #[.int .i64 v, .int .i64 kind, .int .i64 saga, .int .i64 step, .int .i64 try_, .int .i64 at_, .int .i64 last, .int .i64 code, .int .i64 count, .int .i64 pivot, .string name, .slice da d.length dc] 27) (Below.refl w.heap.size w)
  have hb1 := boxd (o := .cells #[.int .i64 0, .int .i64 0, .int .i64 0, .int .i64 0, .int .i64 0, .int .i64 0, .int .i64 0, .int .i64 0, .int .i64 0, .int .i64 0, .string ⟨#[]⟩, .slice none 0 0] 27) hb0
  go_enter Tryd.func72, Tryd.ntmps72
  go_wp2_with (at_builtin; refine wpList_append_row _ rfl (.const (.slice none 0 0)) (.tmp 4) 22 rfl (w.heap.size + 2) 5 (.int .u8 0) 1 Tryd.underlying22 infoByte rfl _ 0 [] rfl (World.ownsRow_nil _ _ _ _) ⟨da, d.length, dc⟩ (byteCells d) rfl (RowAt.below H.out hb1) (byteCells_one d) ?c1 ?c2 ?c3 ?_)
  case c1 => simp only [maxLen]; omega
  case c2 => omega
  intro v' w2 hown hgr
  have hB2 := hb1.grown hgr (by simp; omega) (by intro k hk; simp [Value.ownBlock] at hk)
  obtain ⟨s', rfl, -, -⟩ := own_row hown (by omega)
  obtain ⟨sa, sn, sc⟩ := s'
  have HO : Hid (OwnBytes w2 (w.heap.size + 2) (.slice sa sn sc) d) := Lib.hid (by unfold OwnBytes; simpa using hown)
  have HB := Lib.hid hB2
  obtain ⟨hA, fA, hB, fB⟩ := after_two hgr
  have a0 := hA 0; have a1 := hA 1; have a2 := hA 2; have a3 := hA 3; have a4 := hA 4; have a5 := hA 5; have a6 := hA 6; have a7 := hA 7; have a8 := hA 8; have a9 := hA 9; have a10 := hA 10; have a11 := hA 11
  have b0 := hB 0; have b1 := hB 1; have b2 := hB 2; have b3 := hB 3; have b4 := hB 4; have b5 := hB 5; have b6 := hB 6; have b7 := hB 7; have b8 := hB 8; have b9 := hB 9; have b10 := hB 10; have b11 := hB 11
  simp only [List.getElem?_toArray, List.getElem?_cons_zero, List.getElem?_cons_succ] at a0 a1 a2 a3 a4 a5 a6 a7 a8 a9 a10 a11 b0 b1 b2 b3 b4 b5 b6 b7 b8 b9 b10 b11
  clear hown hB2 hb0 hb1 hR hgr hA hB
  dsimp only [Sl.v]
  go_wp2
  refine bodyPost_ret (v := .agg #[.int .i64 v, .int .i64 kind, .int .i64 saga, .int .i64 step, .int .i64 try_, .int .i64 at_, .int .i64 last, .int .i64 code, .int .i64 count, .int .i64 pivot, .string name, .slice sa sn sc]) (by simp [results, Tryd.results72, go_sem, *]) rfl ⟨⟨sa, sn, sc⟩, rfl, ?_, ?_⟩
  · refine OwnBytes.lower (b := w.heap.size + 2) ?_ (by omega)
    repeat (refine OwnBytes.set ?_ (by simp only; omega))
    exact HO.out
  · repeat (refine Below.set ?_ (by simp only; omega))
    exact HB.out
theorem OwnBytes.bytes {w : World} {b : Nat} {s : Sl} {d : List Int} (h : OwnBytes w b s.v d) (hl : d.length ≤ 9223372036854775807) : BytesAt w s d := by
  obtain ⟨s', e, hs⟩ := h.at hl
  obtain ⟨a, n, c⟩ := s
  obtain ⟨a', n', c'⟩ := s'
  simp only [Sl.v, Value.slice.injEq] at e
  obtain ⟨rfl, rfl, rfl⟩ := e
  exact hs
theorem OwnBytes.through {w w' : World} {b : Nat} {v : Value} {d : List Int} (h : OwnBytes w b v d) (hb : Below w.heap.size w w') : OwnBytes w' b v d := own_through h hb
end Go.Proofs.YteaiadpigpehaaaDoor
