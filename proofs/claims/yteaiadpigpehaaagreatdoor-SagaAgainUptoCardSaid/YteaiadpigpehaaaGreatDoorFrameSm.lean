/-
  How lists of records and of numbers are read, where what is read is of bulk at most 2^20. Conditions: none. (Printed by wip/gen_frameops.py.)
-/
import Derived.Test.YteaiadpigpehaaaGreatDoorPkFrame
import Derived.Test.YteaiadpigpehaaaGreatDoorRef10Apply
import Derived.Test.YteaiadpigpehaaaGreatDoorPkFrames
import Derived.Test.YteaiadpigpehaaaGreatDoorRef10ToldAll
namespace Go.Proofs.YteaiadpigpehaaaGreatDoor
open Go.ChangeShapes Go.WideShapes Go.ChangeAt Go.RowKit Go.Deep

section
variable {H : Type} {enc : TypeId × Value → H} {P : Program} {w : World}
/-- Of bulk at most 2^20. -/
def Lite (d : DataW H) : Prop := Rows.uptoBulk d ≤ 1048576
theorem one_bulk (d : DataW H) : 1 ≤ Rows.uptoBulk d := by
  cases d with
  | lit l => cases l <;> simp [Rows.uptoBulk]
  | nil => simp [Rows.uptoBulk]
  | ptr d => simp [Rows.uptoBulk]
  | slice elems spare => simp [Rows.uptoBulk]
  | agg parts => simp [Rows.uptoBulk]
  | iface t d => simp [Rows.uptoBulk]
  | map entries => simp [Rows.uptoBulk]
  | held h => simp [Rows.uptoBulk]
theorem part_bulk {d : DataW H} {l : List (DataW H)} (h : d ∈ l) : Rows.uptoBulk d ≤ Rows.uptoBulkAll l := by
  induction l with
  | nil => cases h
  | cons x r ih =>
    simp only [Rows.uptoBulkAll]
    rcases List.mem_cons.1 h with rfl | h
    · omega
    · have := ih h; omega
theorem len_bulk (l : List (DataW H)) : l.length ≤ Rows.uptoBulkAll l := by
  induction l with
  | nil => simp
  | cons x r ih => have := one_bulk x; simp only [Rows.uptoBulkAll, List.length_cons]; omega
theorem lite_agg {l : List (DataW H)} {d : DataW H} (h : Lite (.agg l)) (hd : d ∈ l) : Lite d := by
  have := part_bulk hd
  unfold Lite at h ⊢
  simp only [Rows.uptoBulk] at h
  omega
theorem lite_elem {el sp : List (DataW H)} {d : DataW H} (h : Lite (.slice el sp)) (hd : d ∈ el) : Lite d := by
  have := part_bulk hd
  unfold Lite at h ⊢
  simp only [Rows.uptoBulk] at h
  omega
theorem lite_len {el sp : List (DataW H)} (h : Lite (.slice el sp)) : el.length + sp.length ≤ 1048576 := by
  have := len_bulk el
  have := len_bulk sp
  unfold Lite at h
  simp only [Rows.uptoBulk] at h
  omega
theorem lite_of {ds gs : List (DataW H)} (h : Rows.uptoSmall H (ds ++ gs) = true) {d : DataW H} (hd : d ∈ ds) : Lite d :=
  Nat.le_trans (part_bulk (List.mem_append_left gs hd)) (of_decide_eq_true h)
theorem open_fields_b {t : TypeId} {fs : Array Field} (hs : P.underlying t = some (.struct fs)) (hone : oneCellFields P fs = true) {fuel : Nat} {cs : List Value} {x : DataW H × List MemPlace} (h : RD enc P w fuel t cs = some x) (hL : Lite x.1) :
    cs.length = P.cellsOf t ∧ ∃ n, ∀ (i : Nat) (f : Field) (v : Value), fs[i]? = some f → cs[i]? = some v → ∃ y, RD enc P w n f.type [v] = some y ∧ Lite y.1 := by
  obtain ⟨xs, n, _, rfl, hl, hlen, hf⟩ := DataW.trod_struct hs h
  refine ⟨hl, n, fun i f v hfi hv => ?_⟩
  obtain ⟨o, c⟩ := hone_of hone i f hfi
  have hi := hf i f hfi
  have hlt : i < cs.length := (List.getElem?_eq_some_iff.1 hv).1
  have e : (cs.drop f.offset).take (P.cellsOf f.type) = [v] := by
    rw [o, c, List.drop_eq_getElem_cons hlt]
    simp [(List.getElem?_eq_some_iff.1 hv).2]
  rw [e] at hi
  have hx : i < xs.length := by rw [hlen]; exact (Array.getElem?_eq_some_iff.1 hfi).1
  rw [List.getElem?_eq_getElem hx] at hi
  exact ⟨xs[i], hi, lite_agg hL (List.mem_map.2 ⟨xs[i], List.getElem_mem hx, rfl⟩)⟩

theorem open_text_b {t : TypeId} (ht : P.underlying t = some .string) {n : Nat} {v : Value} {y : DataW H × List MemPlace} (h : RD enc P w n t [v] = some y) (hL : Lite y.1) : ∃ s : ByteArray, v = .string s ∧ s.size ≤ 1048576 := by
  obtain ⟨s, e, rfl, _⟩ := DataW.trod_string ht h
  refine ⟨s, by simpa using e, ?_⟩
  unfold Lite at hL
  simp only [Rows.uptoBulk, Array.length_toList] at hL
  show s.data.size ≤ _
  omega

theorem open_bytes_b {t e : TypeId} (ht : P.underlying t = some (.slice e)) (he : P.underlying e = some (.int .u8)) (hc : P.cellsOf e = 1) (_hy : P.bytesOf e = 1) {n : Nat} {v : Value} {y : DataW H × List MemPlace} (h : RD enc P w n t [v] = some y) (hL : Lite y.1) :
    ∃ (s : Sl) (b : List Int), v = s.v ∧ BytesAt w s b ∧ b.length ≤ 1048576 ∧ ∀ x ∈ b, 0 ≤ x ∧ x ≤ 255 := by
  rcases open_ints ht he hc h with ⟨e1, _⟩ | ⟨a, len, cap, zs, e1, _, h1, h2, h3, e2, h4, h5⟩
  · exact ⟨⟨none, 0, 0⟩, [], by simpa using e1, RowAt.nil _ _ _ (fun _ => rfl), by simp, by simp⟩
  · refine ⟨⟨some a, len, cap⟩, zs.take len, by simpa using e1, ⟨?_, ⟨?_, fun h => by cases h⟩, fun h0 => ?_⟩, ?_, ?_⟩
    · simp [byteCells]; simp at h3; omega
    · simp only; unfold maxLen at h2; omega
    · simp at h3
      have c0 := h4 0 (by simp only at h0; omega)
      have ea : a = ⟨a.block, a.off, none⟩ := addr_at (by simpa [Addr.add] using c0)
      refine ⟨a.block, a.off, congrArg some ea, fun i hi => ?_⟩
      simp only at hi
      have ci := h4 i (by omega)
      have e' : a.add i = ⟨a.block, a.off + i, none⟩ := by rw [ea]; exact addr_add' _ _ _
      rw [e'] at ci
      rw [ci]
      simp [byteCells, hi, List.getD, show i < zs.length by omega]
    · rw [e2] at hL
      have := lite_len hL
      simp only [lits, List.length_map, List.length_take, List.length_drop] at this
      rw [List.length_take]
      omega
    · intro x hx
      have hw := h5 x (List.mem_of_mem_take hx)
      exact bounds_u8 hw

theorem open_lists_b {t e q : TypeId} (ht : P.underlying t = some (.slice e)) (he : P.underlying e = some (.slice q)) (hc : P.cellsOf e = 1) (_hy : P.bytesOf e = 24) (hq : P.underlying q = some (.int .u8)) (hcq : P.cellsOf q = 1) (hyq : P.bytesOf q = 1) {n : Nat} {v : Value} {y : DataW H × List MemPlace} (h : RD enc P w n t [v] = some y) (hL : Lite y.1) :
    ∃ (s : Sl) (ls : List (List Int)), v = s.v ∧ ListsAt w s ls ∧ ls.length ≤ 1048576 ∧ ∀ d ∈ ls, d.length ≤ 1048576 := by
  rcases open_slice1 ht hc h with ⟨e1, _⟩ | ⟨a, len, cap, m, n', V, D, Pl, e1, _, h1, h2, h3, e2, h4⟩
  · exact ⟨⟨none, 0, 0⟩, [], by simpa using e1, ⟨[], RowAt.nil _ _ _ (fun _ => rfl), rfl, fun i h => by simp at h⟩, by simp, by simp⟩
  · simp only [if_true] at h3
    subst h3
    rw [e2] at hL
    obtain ⟨vs, ls, l1, l2, l3, l4⟩ := slices_of (n := len) (V := V) (Q := fun s b => BytesAt w s b ∧ b.length ≤ 1048576) (fun i hi => by
      obtain ⟨c, hx⟩ := h4 i (by omega)
      obtain ⟨s, b, e, hb, hl, _⟩ := open_bytes_b he hq hcq hyq hx (lite_elem hL (List.mem_map.2 ⟨i, List.mem_range.2 hi, rfl⟩))
      exact ⟨s, b, e, hb, hl⟩)
    refine ⟨⟨some a, len, m⟩, ls, by simpa using e1, ⟨vs, ⟨by simp [l1], ⟨?_, fun h => by cases h⟩, fun h0 => ?_⟩, by omega, fun i a b => (l4 i a b).1⟩, ?_, ?_⟩
    · simp only; unfold maxLen at h2; omega
    · simp only at h0
      obtain ⟨c0, _⟩ := h4 0 (by omega)
      have ea : a = ⟨a.block, a.off, none⟩ := addr_at (by simpa [Addr.add] using c0)
      refine ⟨a.block, a.off, congrArg some ea, fun i hi => ?_⟩
      simp only at hi
      obtain ⟨ci, _⟩ := h4 i (by omega)
      have e' : a.add i = ⟨a.block, a.off + i, none⟩ := by rw [ea]; exact addr_add' _ _ _
      rw [e'] at ci
      rw [ci, l3 i (by omega)]
      simp [show i < vs.length by omega]
    · have := lite_len hL
      rw [List.length_map, List.length_range] at this
      omega
    · intro d hd
      obtain ⟨i, hi, rfl⟩ := List.getElem_of_mem hd
      exact (l4 i (by omega) hi).2

end
structure RecSm (R : RecD) : Prop where
  v : I64 R.v
  kind : I64 R.kind
  saga : I64 R.saga
  step : I64 R.step
  try_ : I64 R.try_
  at_ : I64 R.at_
  last : I64 R.last
  code : I64 R.code
  count : I64 R.count
  pivot : I64 R.pivot
  name : R.name.size ≤ 1048576
  data : R.data.length ≤ 1048576
  bytes : ∀ x ∈ R.data, 0 ≤ x ∧ x ≤ 255

structure SagaSm (D : SagaD) : Prop where
  id : I64 D.id
  count : I64 D.count
  pivot : I64 D.pivot
  begun : I64 D.begun
  at_ : I64 D.at_
  phase : I64 D.phase
  next : I64 D.next
  tries : I64 D.tries
  failStep : I64 D.failStep
  failCode : I64 D.failCode
  name : D.name.size ≤ 1048576
  input : D.input.length ≤ 1048576
  fail : D.fail.length ≤ 1048576
  outs : D.outs.length ≤ 1048576
  outs2 : ∀ d ∈ D.outs, d.length ≤ 1048576
  undos : D.undos.length ≤ 1048576
  undos2 : ∀ d ∈ D.undos, d.length ≤ 1048576

section
variable {H : Type} {enc : TypeId × Value → H} {w : World}
theorem open_rec_b {n : Nat} {cs : List Value} {y : DataW H × List MemPlace} (h : RD enc Tryz.prog w n 31 cs = some y) (hL : Lite y.1) :
    ∃ (r : RecV) (R : RecD), cs = r.cells ∧ RecRd w r R ∧ RecSm R := by
  obtain ⟨hl, m, hf⟩ := open_fields_b Tryz.underlying31 (by kernel_rfl) h hL
  obtain ⟨c0, c1, c2, c3, c4, c5, c6, c7, c8, c9, c10, c11, rfl⟩ := list12 (hl.trans (by kernel_rfl))
  obtain ⟨y0, r0, _⟩ := hf 0 _ c0 rfl rfl
  obtain ⟨x0, rfl, b0⟩ := open_i64 Tryz.underlying3 r0
  obtain ⟨y1, r1, _⟩ := hf 1 _ c1 rfl rfl
  obtain ⟨x1, rfl, b1⟩ := open_i64 Tryz.underlying3 r1
  obtain ⟨y2, r2, _⟩ := hf 2 _ c2 rfl rfl
  obtain ⟨x2, rfl, b2⟩ := open_i64 Tryz.underlying3 r2
  obtain ⟨y3, r3, _⟩ := hf 3 _ c3 rfl rfl
  obtain ⟨x3, rfl, b3⟩ := open_i64 Tryz.underlying3 r3
  obtain ⟨y4, r4, _⟩ := hf 4 _ c4 rfl rfl
  obtain ⟨x4, rfl, b4⟩ := open_i64 Tryz.underlying3 r4
  obtain ⟨y5, r5, _⟩ := hf 5 _ c5 rfl rfl
  obtain ⟨x5, rfl, b5⟩ := open_i64 Tryz.underlying3 r5
  obtain ⟨y6, r6, _⟩ := hf 6 _ c6 rfl rfl
  obtain ⟨x6, rfl, b6⟩ := open_i64 Tryz.underlying3 r6
  obtain ⟨y7, r7, _⟩ := hf 7 _ c7 rfl rfl
  obtain ⟨x7, rfl, b7⟩ := open_i64 Tryz.underlying3 r7
  obtain ⟨y8, r8, _⟩ := hf 8 _ c8 rfl rfl
  obtain ⟨x8, rfl, b8⟩ := open_i64 Tryz.underlying3 r8
  obtain ⟨y9, r9, _⟩ := hf 9 _ c9 rfl rfl
  obtain ⟨x9, rfl, b9⟩ := open_i64 Tryz.underlying3 r9
  obtain ⟨y10, r10, l10⟩ := hf 10 _ c10 rfl rfl
  obtain ⟨x10, rfl, b10⟩ := open_text_b Tryz.underlying9 r10 l10
  obtain ⟨y11, r11, l11⟩ := hf 11 _ c11 rfl rfl
  obtain ⟨s, b, rfl, hb, hlen, hx⟩ := open_bytes_b Tryz.underlying26 Tryz.underlying5 (by kernel_rfl) (by kernel_rfl) r11 l11
  exact ⟨⟨x0, x1, x2, x3, x4, x5, x6, x7, x8, x9, x10, s⟩, ⟨x0, x1, x2, x3, x4, x5, x6, x7, x8, x9, x10, b⟩, rfl, ⟨rfl, hb⟩, ⟨b0, b1, b2, b3, b4, b5, b6, b7, b8, b9, b10, hlen, hx⟩⟩

theorem open_saga_b {n : Nat} {cs : List Value} {y : DataW H × List MemPlace} (h : RD enc Tryz.prog w n 29 cs = some y) (hL : Lite y.1) :
    ∃ (s : SagaV) (D : SagaD), cs = (sagaArr s).toList ∧ SagaRd w s D ∧ SagaSm D := by
  obtain ⟨hl, m, hf⟩ := open_fields_b Tryz.underlying29 (by kernel_rfl) h hL
  obtain ⟨c0, c1, c2, c3, c4, c5, c6, c7, c8, c9, c10, c11, c12, c13, c14, c15, rfl⟩ := list16 (hl.trans (by kernel_rfl))
  obtain ⟨y0, r0, l0⟩ := hf 0 _ c0 rfl rfl
  obtain ⟨y1, r1, l1⟩ := hf 1 _ c1 rfl rfl
  obtain ⟨y2, r2, l2⟩ := hf 2 _ c2 rfl rfl
  obtain ⟨y3, r3, l3⟩ := hf 3 _ c3 rfl rfl
  obtain ⟨y4, r4, l4⟩ := hf 4 _ c4 rfl rfl
  obtain ⟨y5, r5, l5⟩ := hf 5 _ c5 rfl rfl
  obtain ⟨y6, r6, l6⟩ := hf 6 _ c6 rfl rfl
  obtain ⟨y7, r7, l7⟩ := hf 7 _ c7 rfl rfl
  obtain ⟨y8, r8, l8⟩ := hf 8 _ c8 rfl rfl
  obtain ⟨y9, r9, l9⟩ := hf 9 _ c9 rfl rfl
  obtain ⟨y10, r10, l10⟩ := hf 10 _ c10 rfl rfl
  obtain ⟨y11, r11, l11⟩ := hf 11 _ c11 rfl rfl
  obtain ⟨y12, r12, l12⟩ := hf 12 _ c12 rfl rfl
  obtain ⟨y13, r13, l13⟩ := hf 13 _ c13 rfl rfl
  obtain ⟨y14, r14, l14⟩ := hf 14 _ c14 rfl rfl
  obtain ⟨y15, r15, l15⟩ := hf 15 _ c15 rfl rfl
  obtain ⟨x0, rfl, b0⟩ := open_i64 Tryz.underlying3 r0
  obtain ⟨x2, rfl, b2⟩ := open_i64 Tryz.underlying3 r2
  obtain ⟨x3, rfl, b3⟩ := open_i64 Tryz.underlying3 r3
  obtain ⟨x4, rfl, b4⟩ := open_i64 Tryz.underlying3 r4
  obtain ⟨x5, rfl, b5⟩ := open_i64 Tryz.underlying3 r5
  obtain ⟨x7, rfl, b7⟩ := open_i64 Tryz.underlying3 r7
  obtain ⟨x8, rfl, b8⟩ := open_i64 Tryz.underlying3 r8
  obtain ⟨x10, rfl, b10⟩ := open_i64 Tryz.underlying3 r10
  obtain ⟨x13, rfl, b13⟩ := open_i64 Tryz.underlying3 r13
  obtain ⟨x14, rfl, b14⟩ := open_i64 Tryz.underlying3 r14
  obtain ⟨x1, rfl, b1⟩ := open_text_b Tryz.underlying9 r1 l1
  obtain ⟨x9, rfl⟩ := open_flag Tryz.underlying4 r9
  obtain ⟨s6, d6, rfl, h6, k6, _⟩ := open_bytes_b Tryz.underlying26 Tryz.underlying5 (by kernel_rfl) (by kernel_rfl) r6 l6
  obtain ⟨s15, d15, rfl, h15, k15, _⟩ := open_bytes_b Tryz.underlying26 Tryz.underlying5 (by kernel_rfl) (by kernel_rfl) r15 l15
  obtain ⟨s11, d11, rfl, h11, k11, q11⟩ := open_lists_b Tryz.underlying27 Tryz.underlying26 (by kernel_rfl) (by kernel_rfl) Tryz.underlying5 (by kernel_rfl) (by kernel_rfl) r11 l11
  obtain ⟨s12, d12, rfl, h12, k12, q12⟩ := open_lists_b Tryz.underlying27 Tryz.underlying26 (by kernel_rfl) (by kernel_rfl) Tryz.underlying5 (by kernel_rfl) (by kernel_rfl) r12 l12
  exact ⟨⟨x0, x1, x2, x3, x4, x5, s6, x7, x8, x9, x10, s11, s12, x13, x14, s15⟩, ⟨x0, x1, x2, x3, x4, x5, d6, x7, x8, x9, x10, d11, d12, x13, x14, d15⟩, rfl, ⟨rfl, h6, h11, h12, h15⟩, ⟨b0, b2, b3, b4, b5, b7, b8, b10, b13, b14, b1, k6, k15, k11, q11, k12, q12⟩⟩

theorem RecSm.fits {R : RecD} (h : RecSm R) : RecFits R := ⟨by have := h.name; omega, by have := h.data; omega⟩
theorem RecSm.ref {R : RecD} (h : RecSm R) : RefFits R := ⟨by have := h.name; omega, by have := h.data; omega⟩
theorem SagaSm.fits {D : SagaD} (h : SagaSm D) : SagaFits D := ⟨by have := h.name; omega, h.next.2, h.failStep.2⟩
theorem SagaSm.small {D : SagaD} (h : SagaSm D) : D.held.Small := ⟨by have := h.input; simp; omega, h.outs, fun d hd => by have := h.outs2 d hd; omega, h.undos, fun d hd => by have := h.undos2 d hd; omega, by have := h.fail; simp; omega⟩
theorem SagaSm.ref {D : SagaD} (h : SagaSm D) : RefSaga D := ⟨h.small, by have := h.name; omega, h.begun.2, h.at_.2, told_sized h.small⟩
set_option maxRecDepth 100000 in
theorem open_recs_sm {r : Reach} {b0 : Nat} {v : Value} {d : DataW H} {p : List MemPlace} (hv : Value.okWide Tryz.prog w r b0 57 v) (h : DataW.Trod enc Tryz.prog w 0 (fun _ => true) true 57 v d p) (hL : Lite d) :
    ∃ (s : Sl) (Rs : List RecD), v = s.v ∧ RecsAt w s Rs ∧ (∀ R ∈ Rs, RecSm R) := by
  obtain ⟨a, len, cap, rfl⟩ := okWide_slice Tryz.underlying57 hv
  obtain ⟨fuel, hf⟩ := h
  have hc : Tryz.prog.cellsOf 31 = 12 := by kernel_rfl
  rcases open_slice Tryz.underlying57 hf with ⟨e1, e2⟩ | ⟨x, len', cap', m, n', V, Pl, e1, _, h1, h2, h3, e2, h4⟩
  · simp [Value.cells] at e1
    obtain ⟨rfl, rfl, rfl⟩ := e1
    exact ⟨⟨none, 0, 0⟩, [], rfl, ⟨[], rfl, rfl, ⟨by simp, fun _ => rfl⟩, fun h => by simp at h, fun i h => by simp at h⟩, by simp⟩
  · simp [Value.cells] at e1
    obtain ⟨rfl, rfl, rfl⟩ := e1
    simp only [if_true] at h3
    subst h3
    simp only [Prod.mk.injEq] at e2
    obtain ⟨rfl, _⟩ := e2
    obtain ⟨C, hC⟩ := choose_lt (p := fun i (cs : List Value) => w.cells? 0 (x.add (i * 12)) 12 = some cs ∧ ∃ r R, cs = RecV.cells r ∧ RecRd w r R ∧ RecSm R) (n := len) (fun i hi => by
      obtain ⟨cs, k1, k2⟩ := h4 i (by omega)
      rw [hc] at k1
      obtain ⟨r, R, e, q1, q2⟩ := open_rec_b k2 (lite_elem hL (List.mem_map.2 ⟨i, List.mem_range.2 hi, rfl⟩))
      exact ⟨cs, k1, r, R, e, q1, q2⟩)
    obtain ⟨rs, Rs, l1, l2, l3, l4⟩ := recs_of (n := len) (V := C) (Q := fun r R => RecRd w r R ∧ RecSm R) (fun i hi => by
      obtain ⟨_, r, R, e, q1, q2⟩ := hC i hi
      exact ⟨r, R, e, q1, q2⟩)
    refine ⟨⟨some x, len, _⟩, Rs, rfl, ⟨rs, l1.symm, by omega, ⟨?_, fun h => by cases h⟩, fun h0 => ?_, fun i a b => (l4 i a b).1⟩, fun R hR => ?_⟩
    · simp only; unfold maxLen at h2; omega
    · simp only at h0
      obtain ⟨k1, _⟩ := hC 0 h0
      have c0' : ∃ u, w.cell? x = some u := by
        obtain ⟨hb, hl, hi⟩ := World.cells?_some k1
        have := hi 0 (by omega)
        simp [Addr.add] at this
        exact ⟨_, this.trans (List.getElem?_eq_getElem (by omega))⟩
      obtain ⟨u, hu⟩ := c0'
      have ea : x = ⟨x.block, x.off, none⟩ := addr_at hu
      refine ⟨x.block, x.off, congrArg some ea, fun i hi j hj => ?_⟩
      obtain ⟨k1, _⟩ := hC i (by omega)
      have := (World.cells?_some k1).2.2 j hj
      rw [ea, addr_add', addr_add'] at this
      rw [this, l3 i hi]
    · obtain ⟨i, hi, rfl⟩ := List.getElem_of_mem hR
      exact (l4 i (by omega) hi).2

set_option maxRecDepth 100000 in
theorem open_ints_sm {r : Reach} {b0 : Nat} {v : Value} {d : DataW H} {p : List MemPlace} (hv : Value.okWide Tryz.prog w r b0 80 v) (h : DataW.Trod enc Tryz.prog w 0 (fun _ => true) true 80 v d p) (hL : Lite d) :
    ∃ (s : Sl) (l : List Int), v = s.v ∧ IntsAt w s l ∧ l.length ≤ 1048576 := by
  obtain ⟨a, len, cap, rfl⟩ := okWide_slice Tryz.underlying80 hv
  obtain ⟨fuel, hf⟩ := h
  have hc : Tryz.prog.cellsOf 3 = 1 := by kernel_rfl
  rcases open_ints Tryz.underlying80 Tryz.underlying3 hc hf with ⟨e1, _⟩ | ⟨x, len', cap', zs, e1, _, h1, h2, h3, e2, h4, h5⟩
  · simp [Value.cells] at e1
    obtain ⟨rfl, rfl, rfl⟩ := e1
    exact ⟨⟨none, 0, 0⟩, [], rfl, RowAt.nil _ _ _ (fun _ => rfl), by simp⟩
  · simp [Value.cells] at e1
    obtain ⟨rfl, rfl, rfl⟩ := e1
    simp at h3
    simp only [Prod.mk.injEq] at e2
    obtain ⟨rfl, _⟩ := e2
    refine ⟨⟨some x, len, _⟩, zs.take len, rfl, ⟨?_, ⟨?_, fun h => by cases h⟩, fun h0 => ?_⟩, ?_⟩
    · simp; omega
    · simp only; unfold maxLen at h2; omega
    · simp only at h0
      have c0 := h4 0 (by omega)
      have ea : x = ⟨x.block, x.off, none⟩ := addr_at (by simpa [Addr.add] using c0)
      refine ⟨x.block, x.off, congrArg some ea, fun i hi => ?_⟩
      simp only at hi
      have ci := h4 i (by omega)
      have e' : x.add i = ⟨x.block, x.off + i, none⟩ := by rw [ea]; exact addr_add' _ _ _
      rw [e'] at ci
      rw [ci]
      simp [hi, List.getD, show i < zs.length by omega]
    · have := lite_len hL
      simp only [lits, List.length_map, List.length_take, List.length_drop] at this
      rw [List.length_take]
      omega
end
end Go.Proofs.YteaiadpigpehaaaGreatDoor
