/-
  num, first, sameInts, of of annalslaw10 walked. Conditions: none.
-/
import Derived.Test.YteaiadpigpehaaaDoorAsks
import Derived.Lib.SlBytesConst
namespace Go.Proofs.YteaiadpigpehaaaDoor
open Go.RowKit

theorem num_any (n : Int) (w : World) : Calls Tryd.prog 14 #[.int .i64 n] w fun e w' => e = .returned (.int .i64 n) ∧ w' = w := by
  go_enter Tryd.func14, Tryd.ntmps14
  go_wp2
  all_goals go_ret
  all_goals exact ⟨rfl, rfl⟩

/-- The whole numbers that a slice holds. -/
def IntsAt (w : World) (s : Sl) (l : List Int) : Prop := RowAt w s (l.map (Value.int .i64))
theorem IntsAt.below {w w' : World} {s : Sl} {l : List Int} (h : IntsAt w s l) (hb : Below w.heap.size w w') : IntsAt w' s l := RowAt.below h hb
theorem IntsAt.len {w : World} {s : Sl} {l : List Int} (h : IntsAt w s l) : s.n = l.length := by have := RowAt.len h; rw [this]; simp
theorem IntsAt.get {w : World} {s : Sl} {l : List Int} (h : IntsAt w s l) {j : Nat} (hj : j < l.length) : ∃ b o, s.a = some ⟨b, o, none⟩ ∧ w.cell? ⟨b, o + j, none⟩ = some (.int .i64 l[j]) := by
  have hl := h.len
  obtain ⟨b, o, e, hc⟩ := h.2.2 (by omega)
  refine ⟨b, o, e, ?_⟩
  rw [hc j (by omega)]
  simp [hj]
theorem OwnInts.at {w : World} {base : Nat} {v : Value} {l : List Int} (h : OwnInts w base v l) (hl : l.length ≤ 9223372036854775807) : ∃ s : Sl, v = s.v ∧ IntsAt w s l := by
  obtain ⟨s, e, _, hr⟩ := own_row h hl
  exact ⟨s, e, hr⟩
theorem IntsAt.of_lit1 (w : World) (a : Int) (t : TypeId) : IntsAt (w.alloc (.cells #[.int .i64 a] t)) ⟨some ⟨w.heap.size, 0, none⟩, 1, 1⟩ [a] := RowAt.of_lit1 w _ t

set_option maxRecDepth 100000 in
set_option maxHeartbeats 1000000 in
theorem of_any (s : Sl) (l : List Int) (k : Int) (w : World) (h : IntsAt w s l) :
    Calls Tryd.prog 23 #[s.v, .int .i64 k] w fun e w' => e = .returned (.bool (l.any (· == k))) ∧ w' = w := by
  have hl := h.len
  have hmax := h.2.1.1
  have H := Lib.hid (fun j hj => h.get (j := j) hj)
  clear h
  obtain ⟨a, n, c⟩ := s
  simp only at hl hmax
  subst hl
  dsimp only [Sl.v]
  obtain ⟨B, hB⟩ : ∃ x, l.any (· == k) = x := ⟨_, rfl⟩
  rw [hB]
  have HB := Lib.hid hB
  clear hB
  go_enter Tryd.func23, Tryd.ntmps23
  go_wp2
  go_loop [5] (fun i => ∃ j : Nat, j ≤ l.length ∧ i = .int .i64 j ∧ Hid ((l.take j).any (· == k) = false)) (fun i => l.length - (intOf i).toNat)
  case atStart => exact ⟨0, by omega, rfl, Lib.hid (by simp)⟩
  case round =>
    obtain ⟨j, hj, rfl, HN⟩ := hrel
    by_cases hlt : j < l.length
    · obtain ⟨b, o, hA, hc⟩ := H.out j hlt
      try simp only at hA
      subst hA
      have ha := Lib.hid (any_take l (· == k) 0 j hlt)
      have hb := Lib.hid (any_at l (· == k) 0 j hlt)
      have hgd : l.getD j 0 = l[j] := by simp [List.getD, hlt]
      rw [hgd] at ha hb
      obtain ⟨x, hx⟩ : ∃ x, l[j] = x := ⟨_, rfl⟩
      rw [hx] at hc ha hb
      clear hx hgd
      by_cases he : x = k
      · have hr := Lib.hid (hb.out (by simp [he]))
        subst he
        clear ha hb
        go_wp2
        all_goals go_ret
        all_goals exact ⟨ret_bool (by rw [← HB.out, hr.out]), rfl⟩
      · have hr : Hid ((l.take (j + 1)).any (· == k) = false) := Lib.hid (by rw [ha.out, HN.out]; simp [he])
        have he' : (x == k) = false := by rw [beq_eq_false_iff_ne]; exact he
        clear ha hb HN
        go_wp2
        all_goals go_round
        case rel => exact ⟨j + 1, by omega, by go_num, hr⟩
        case measure => simp [intOf]; omega
    · obtain rfl : j = l.length := by omega
      have hr : Hid (l.any (· == k) = false) := Lib.hid (by have := HN.out; rwa [List.take_length] at this)
      go_wp2
      all_goals go_ret
      all_goals exact ⟨ret_bool (by rw [← HB.out, hr.out]), rfl⟩

theorem take_eq {l m : List Int} {j : Nat} (h1 : j < l.length) (h2 : j < m.length) (h : l.take j = m.take j) (he : l[j] = m[j]) : l.take (j + 1) = m.take (j + 1) := by
  rw [take_snoc l j h1, take_snoc m j h2, h, he]
theorem take_ne {l m : List Int} {j : Nat} (h1 : j < l.length) (h2 : j < m.length) (he : l[j] ≠ m[j]) : l ≠ m := by
  rintro rfl
  exact he rfl

set_option maxRecDepth 100000 in
set_option maxHeartbeats 1000000 in
theorem sameInts_any (s t : Sl) (l m : List Int) (w : World) (h : IntsAt w s l) (k : IntsAt w t m) :
    Calls Tryd.prog 21 #[s.v, t.v] w fun e w' => e = .returned (.bool (decide (l = m))) ∧ Drawn w w' := by
  have hl := h.len
  have hk := k.len
  have hmax := h.2.1.1
  have hmax2 := k.2.1.1
  have H := Lib.hid (fun j hj => h.get (j := j) hj)
  have K := Lib.hid (fun j hj => k.get (j := j) hj)
  have hd0 := Drawn.refl w
  clear h k
  obtain ⟨a, n, c⟩ := s
  obtain ⟨a', n', c'⟩ := t
  simp only at hl hmax hk hmax2
  subst hl hk
  dsimp only [Sl.v]
  obtain ⟨B, hB⟩ : ∃ x, decide (l = m) = x := ⟨_, rfl⟩
  rw [hB]
  have HB := Lib.hid hB
  clear hB
  by_cases hlen : l.length = m.length
  · have HL := Lib.hid hlen
    have hlen' : ((l.length : Int) != (m.length : Int)) = false := by simp [hlen]
    rw [hlen] at hlen' hmax
    go_enter Tryd.func21, Tryd.ntmps21
    rw [hlen]
    clear hlen
    go_wp2
    go_loopw [5] (fun i wr => ∃ j : Nat, j ≤ m.length ∧ i = .int .i64 j ∧ Hid (l.take j = m.take j) ∧ Hid (Drawn w wr)) (fun i _ => m.length - (intOf i).toNat)
    case atStart => exact ⟨0, by omega, rfl, Lib.hid (by simp), Lib.hid hd0⟩
    case round =>
      obtain ⟨j, hj, rfl, HN, HD⟩ := hrel
      by_cases hlt : j < m.length
      · have hlt2 : j < l.length := by rw [HL.out]; exact hlt
        obtain ⟨b, o, hA, hc⟩ := H.out j hlt2
        obtain ⟨b', o', hA', hc'⟩ := K.out j hlt
        try simp only at hA hA'
        subst hA hA'
        have hc := (HD.out.cell _).trans hc
        have hc' := (HD.out.cell _).trans hc'
        have ht := Lib.hid (take_eq hlt2 hlt HN.out)
        have hn := Lib.hid (take_ne hlt2 hlt)
        obtain ⟨x, hx⟩ : ∃ x, l[j] = x := ⟨_, rfl⟩
        obtain ⟨y, hy⟩ : ∃ x, m[j] = x := ⟨_, rfl⟩
        rw [hx, hy] at ht hn
        rw [hx] at hc
        rw [hy] at hc'
        clear hx hy
        by_cases he : x = y
        · subst he
          have hr := Lib.hid (ht.out rfl)
          clear ht hn HN
          go_wp2
          go_quiet (fail)
          have HD2 := Lib.hid (HD.out.step nq)
          go_wp2
          all_goals go_roundw
          case rel => exact ⟨j + 1, by omega, by go_num, hr, HD2⟩
          case measure => simp [intOf]; omega
        · have hr := Lib.hid (hn.out he)
          have he' : (x != y) = true := by rw [bne_iff_ne]; exact he
          clear ht hn HN
          go_wp2
          go_quiet (fail)
          have HD2 := Lib.hid (HD.out.step nq)
          go_wp2
          all_goals go_ret
          all_goals exact ⟨ret_bool (by rw [← HB.out]; simp [hr.out]), HD2.out⟩
      · obtain rfl : j = m.length := by omega
        have hr : Hid (l = m) := Lib.hid (by have := HN.out; rwa [List.take_length, ← HL.out, List.take_length] at this)
        go_wp2
        all_goals go_ret
        all_goals exact ⟨ret_bool (by rw [← HB.out]; simp [hr.out]), HD.out⟩
  · have hne : Hid (l ≠ m) := Lib.hid (fun e => hlen (by rw [e]))
    have hlen' : decide (l.length = m.length) = false := by simp [hlen]
    go_enter Tryd.func21, Tryd.ntmps21
    go_wp2
    all_goals go_ret
    all_goals exact ⟨ret_bool (by rw [← HB.out]; simp [hne.out]), hd0⟩

def firstR : RecD := ⟨3, 1, 7, 0, 0, 5, 0, 0, 2, 1, ⟨#[98, 117, 121]⟩, [105, 110]⟩
def firstD : SagaD := ⟨7, ⟨#[98, 117, 121]⟩, 2, 1, 5, 5, [105, 110], 1, 0, false, 0, [], [], 0, 0, []⟩

theorem bytes_lit2 (w : World) (a b : Int) (t : TypeId) (f : Nat × Nat) : BytesAt (w.alloc (.cells #[.int .u8 a, .int .u8 b] t f)) ⟨some ⟨w.heap.size, 0, none⟩, 2, 2⟩ [a, b] := by
  refine ⟨rfl, ⟨by simp, fun h => by cases h⟩, fun _ => ⟨w.heap.size, 0, rfl, fun i hi => ?_⟩⟩
  have hb : (w.alloc (.cells #[.int .u8 a, .int .u8 b] t f)).heap[w.heap.size]? = some (.cells #[.int .u8 a, .int .u8 b] t f) := heap_alloc_new w _
  match i, hi with
  | 0, _ => rw [cell_of_row _ _ _ _ _ _ hb]; rfl
  | 1, _ => rw [cell_of_row _ _ _ _ _ _ hb]; rfl

set_option maxRecDepth 100000 in
set_option maxHeartbeats 1000000 in
theorem first_any (w : World) : Calls Tryd.prog 18 #[] w fun e w' => ∃ t u : Sl, e = .returned (.tuple #[(firstR.words t).val, (firstD.words u nilSl nilSl nilSl).val]) ∧ BytesAt w' t [105, 110] ∧ BytesAt w' u [105, 110] ∧ Below w.heap.size w w' := by
  have hb0 := Below.refl w.heap.size w
  have kc1 := Lib.run_convert_bytes_const (P := Tryd.prog) ((w.alloc (.cells zeroRec 27)).alloc (.cells zeroSagaArr 25)) 22 5 #[.int .u8 105, .int .u8 110] 2 2 Tryd.underlying22 Tryd.underlying5
  have kc2 := Lib.run_convert_bytes_const (P := Tryd.prog) ((((w.alloc (.cells zeroRec 27)).alloc (.cells zeroSagaArr 25)).alloc (.cells #[.int .u8 105, .int .u8 110] 5 (2, 3))).alloc (.cells #[.int .i64 3, .int .i64 1, .int .i64 7, .int .i64 0, .int .i64 0, .int .i64 5, .int .i64 0, .int .i64 0, .int .i64 2, .int .i64 1, .string ⟨#[98, 117, 121]⟩, .slice (some ⟨w.heap.size + 1 + 1, 0, none⟩) 2 2] 27)) 22 5 #[.int .u8 105, .int .u8 110] 2 2 Tryd.underlying22 Tryd.underlying5
  simp only [World.size_alloc, List.size_toArray, List.length_cons, List.length_nil, Nat.zero_add, Nat.reduceAdd] at kc1 kc2
  go_enter Tryd.func18, Tryd.ntmps18
  go_wp2
  clear kc1 kc2
  (try simp only [Exit.inBlock, Exit.then])
  refine bodyPost_ret (results_rows rfl _ _ w.heap.size (w.heap.size + 1) 27 25 (recArr (firstR.words ⟨some ⟨w.heap.size + 1 + 1, 0, none⟩, 2, 2⟩)) (sagaArr (firstD.words ⟨some ⟨w.heap.size + 1 + 1 + 1 + 1, 0, none⟩, 2, 2⟩ nilSl nilSl nilSl)) rfl ?_ rowRec rfl ?_ rowSaga) rfl ⟨⟨some ⟨w.heap.size + 1 + 1, 0, none⟩, 2, 2⟩, ⟨some ⟨w.heap.size + 1 + 1 + 1 + 1, 0, none⟩, 2, 2⟩, rfl, ?_, ?_, ?_⟩
  · exact ((((BlkAt.new w _ _).push _).push _).push _).push _
  · have h := (((BlkAt.new (w.alloc (.cells (recArr (firstR.words ⟨some ⟨w.heap.size + 1 + 1, 0, none⟩, 2, 2⟩)) 27)) (sagaArr (firstD.words ⟨some ⟨w.heap.size + 1 + 1 + 1 + 1, 0, none⟩, 2, 2⟩ nilSl nilSl nilSl)) 25).push (.cells #[.int .u8 105, .int .u8 110] 5 (2, 3))).push (.cells (recArr (firstR.words ⟨some ⟨w.heap.size + 1 + 1, 0, none⟩, 2, 2⟩)) 27)).push (.cells #[.int .u8 105, .int .u8 110] 5 (2, 3))
    rw [World.size_alloc] at h
    exact h
  · have h := (((bytes_lit2 ((w.alloc (.cells (recArr (firstR.words ⟨some ⟨w.heap.size + 1 + 1, 0, none⟩, 2, 2⟩)) 27)).alloc (.cells (sagaArr (firstD.words ⟨some ⟨w.heap.size + 1 + 1 + 1 + 1, 0, none⟩, 2, 2⟩ nilSl nilSl nilSl)) 25)) 105 110 5 (2, 3)).below (boxd (o := .cells (recArr (firstR.words ⟨some ⟨w.heap.size + 1 + 1, 0, none⟩, 2, 2⟩)) 27) (Below.refl _ _))).below (boxd (o := .cells #[.int .u8 105, .int .u8 110] 5 (2, 3)) (Below.refl _ _)))
    simp only [World.size_alloc] at h
    exact h
  · have h := bytes_lit2 ((((w.alloc (.cells (recArr (firstR.words ⟨some ⟨w.heap.size + 1 + 1, 0, none⟩, 2, 2⟩)) 27)).alloc (.cells (sagaArr (firstD.words ⟨some ⟨w.heap.size + 1 + 1 + 1 + 1, 0, none⟩, 2, 2⟩ nilSl nilSl nilSl)) 25)).alloc (.cells #[.int .u8 105, .int .u8 110] 5 (2, 3))).alloc (.cells (recArr (firstR.words ⟨some ⟨w.heap.size + 1 + 1, 0, none⟩, 2, 2⟩)) 27)) 105 110 5 (2, 3)
    simp only [World.size_alloc] at h
    exact h
  · exact boxd (boxd (boxd (boxd (boxd hb0))))
theorem recArr_first (t : Sl) : recArr (firstR.words t) = #[.int .i64 3, .int .i64 1, .int .i64 7, .int .i64 0, .int .i64 0, .int .i64 5, .int .i64 0, .int .i64 0, .int .i64 2, .int .i64 1, .string ⟨#[98, 117, 121]⟩, t.v] := rfl
theorem firstD_begun : firstD = begunD firstR := rfl
end Go.Proofs.YteaiadpigpehaaaDoor
