/-
  strings.Builder's copyCheck, WriteByte, WriteString walked, as the program's text has them. Conditions: as each theorem says.
-/
import Derived.Test.YtepmfjhhmnmmeaaDoorBase
import Derived.Test.YtepmfjhhmnmmeaaDoorShelf
import Derived.Lib.Builder
import Derived.Lib.AppendStr
import Derived.Laws.Externs
namespace Go.Proofs.YtepmfjhhmnmmeaaDoor
open Go.RowKit

theorem bldInfo : (Tryd.prog.info? 83).map (·.size) = some 2 := by kernel_rfl
theorem bldLies : liesAt Tryd.prog Tryd.prog.depth 83 (2 / Tryd.prog.cellsOf 83) 0 83 1 = true := by kernel_rfl
theorem byteInfo : (Tryd.prog.info? 5).map (fun i => (i.zero, i.size, i.bytes)) = some (some (.int .u8 0), 1, 1) := by kernel_rfl
/-- A builder of this program. -/
abbrev Bld (B b : Nat) (bs : List Value) (w : World) : Prop := Lib.IsBuilder 83 5 B b bs w
abbrev BldUsed (B b : Nat) (bs : List Value) (w : World) : Prop := Lib.BuilderAt 83 5 B b (.pointer (some ⟨b, 0, none⟩)) bs w

/-- Where a text's iterator lay, it lies still. -/
def IterKept (w w' : World) : Prop := ∀ (k : Nat) (s : ByteArray) (p : Nat), w.heap[k]? = some (.stringIter s p) → w'.heap[k]? = some (.stringIter s p)
theorem IterKept.refl (w : World) : IterKept w w := fun _ _ _ h => h
theorem IterKept.trans {w w' w'' : World} (h : IterKept w w') (h' : IterKept w' w'') : IterKept w w'' := fun k s p hk => h' k s p (h k s p hk)
theorem iter_setCell {w : World} (a : Addr) {cs : Array Value} {T : TypeId} {fr : Nat × Nat} (h : w.heap[a.block]? = some (.cells cs T fr)) (v : Value) : IterKept w (w.setCell a v) := fun k s p hk => by
  rw [Below.heap_setCell w a v k (fun e => by subst e; rw [h] at hk; cases hk)]
  exact hk
theorem lt_some {w : World} {k : Nat} {o : Obj} (h : w.heap[k]? = some o) : k < w.heap.size := (Array.getElem?_eq_some_iff.1 h).1
theorem iter_grown {w w1 : World} {row : Option Nat} (hg : w.grownBy w1 row) (hrow : ∀ k, row = some k → ∃ cs T fr, w.heap[k]? = some (.cells cs T fr)) : IterKept w w1 := fun k s p hk =>
  (hg.block k (lt_some hk) (fun e => by
    obtain ⟨cs, T, fr, h⟩ := hrow k e.symm
    rw [h] at hk
    cases hk)).trans hk
theorem iter_alloc (w : World) (o : Obj) : IterKept w (w.alloc o) := fun k _ _ hk => (Lib.alloc_old w o k (lt_some hk)).trans hk
theorem iter_below {w w' : World} (h : Below w.heap.size w w') : IterKept w w' := fun k _ _ hk => (h.block k (lt_some hk)).trans hk
theorem own_cells {w : World} {B : Nat} {e : TypeId} {size n : Nat} {v : Value} {xs : List Value} (h : w.ownsRow B e size v n xs) (k : Nat) (hk : v.ownBlock = some k) : ∃ cs T fr, w.heap[k]? = some (.cells cs T fr) := by
  rcases h.2 with ⟨rfl, _⟩ | ⟨g, cap, cur, rfl, _, hg, _⟩
  · simp [Value.ownBlock] at hk
  · simp only [Value.ownBlock, Option.some.injEq] at hk
    subst hk
    exact ⟨_, _, _, hg⟩
theorem BldUsed.through {B b : Nat} {bs : List Value} {w w' : World} (h : BldUsed B b bs w) (hb : Below w.heap.size w w') : BldUsed B b bs w' := by
  obtain ⟨hB, v, hk, hown, hne⟩ := h
  exact ⟨hB, v, (hb.block b (lt_some hk)).trans hk, own_through hown hb, hne⟩
set_option maxHeartbeats 1000000 in
set_option maxRecDepth 100000 in
theorem copyCheck_used (b : Nat) (w : World) (h0 : w.cell? ⟨b, 0, none⟩ = some (.pointer (some ⟨b, 0, none⟩))) :
    Calls Tryd.prog 65 #[.pointer (some ⟨b, 0, none⟩)] w fun e w' => e = .returned (.tuple #[]) ∧ w' = w := by
  obtain ⟨j, hj, _⟩ := Option.map_eq_some_iff.1 bldInfo
  go_enter Tryd.func65, Tryd.ntmps65
  go_wp2
  rw [Lib.run_neq_ptr_same w _ Tryd.underlying80 hj]
  go_wp2
  go_end0
  exact ⟨rfl, rfl⟩
set_option maxHeartbeats 1000000 in
set_option maxRecDepth 100000 in
theorem copyCheck_fresh (b : Nat) (w : World) (h0 : w.cell? ⟨b, 0, none⟩ = some (.pointer none)) (hsh : w.shape? b = some (83, 2)) (hfz : w.frozen? ⟨b, 0, none⟩ = false) :
    Calls Tryd.prog 65 #[.pointer (some ⟨b, 0, none⟩)] w fun e w' => e = .returned (.tuple #[]) ∧ w' = w.setCell ⟨b, 0, none⟩ (.pointer (some ⟨b, 0, none⟩)) := by
  obtain ⟨j, hj, hjs⟩ := Option.map_eq_some_iff.1 bldInfo
  go_enter Tryd.func65, Tryd.ntmps65
  go_wp2
  rw [Lib.run_to_unsafe w ⟨b, 0, none⟩ Tryd.underlying80 Tryd.underlying117 hj (by rw [hjs]; decide) hsh (Nat.zero_lt_succ 1)]
  simp only [Result.andThen]
  rw [Oper.upon_value]
  go_wp2
  rw [run_callFunc_extern Tryd.func80 (by kernel_rfl) (by kernel_rfl) (by kernel_rfl) (e := Extern.AbiNoEscape.same) (by kernel_rfl)]
  rw [Lib.run_noEscape]
  simp only [Result.andThen]
  rw [Oper.upon_value]
  go_wp2
  rw [Lib.run_from_unsafe w ⟨b, 0, none⟩ Tryd.underlying117 Tryd.underlying80 hj hsh bldLies]
  simp only [Result.andThen]
  rw [Oper.upon_value]
  go_wp2
  go_end0
  exact ⟨rfl, rfl⟩
theorem copyCheck_any (B b : Nat) (bs : List Value) (w : World) (h : Bld B b bs w) :
    Calls Tryd.prog 65 #[.pointer (some ⟨b, 0, none⟩)] w fun e w' => e = .returned (.tuple #[]) ∧ BldUsed B b bs w' ∧ Below B w w' ∧ IterKept w w' := by
  rcases h with h | h
  · refine (copyCheck_fresh b w h.cell0 h.shape h.frozen0).mono ?_
    rintro e w' ⟨rfl, rfl⟩
    obtain ⟨v, hv, _⟩ := h.2
    exact ⟨rfl, h.used _, (Below.refl B w).setCell (p := ⟨b, 0, none⟩) h.1 _, iter_setCell ⟨b, 0, none⟩ hv _⟩
  · refine (copyCheck_used b w h.cell0).mono ?_
    rintro e w' ⟨rfl, rfl⟩
    exact ⟨rfl, h, Below.refl B _, IterKept.refl _⟩
/-- What a write leaves: the buffer behind its append. -/
theorem bld_wrote {w1 w2 : World} {B b : Nat} {v v' : Value} {bs bs' : List Value} (hB : B ≤ b) (hbk : w1.heap[b]? = some (.cells #[.pointer (some ⟨b, 0, none⟩), v] 83 (0, 0))) (hne : v.ownBlock ≠ some b) (hg : w1.grownBy w2 v.ownBlock) (hown : w2.ownsRow B 5 1 v' bs'.length bs') (_hl : bs.length ≤ bs'.length) :
    w2.heap[b]? = some (.cells #[.pointer (some ⟨b, 0, none⟩), v] 83 (0, 0)) ∧ BldUsed B b bs' (w2.setCell ⟨b, 1, none⟩ v') := by
  have hlt : b < w1.heap.size := by
    rcases Nat.lt_or_ge b w1.heap.size with h' | h'
    · exact h'
    · simp [Array.getElem?_eq_none h'] at hbk
  have hb2 : w2.heap[b]? = some (.cells #[.pointer (some ⟨b, 0, none⟩), v] 83 (0, 0)) := by
    rw [hg.block b hlt (fun e => hne e.symm)]; exact hbk
  exact ⟨hb2, Lib.BuilderAt.put hB hb2 hown (by decide)⟩
set_option maxHeartbeats 2000000 in
set_option maxRecDepth 100000 in
theorem writeString_any (B b : Nat) (bs : List Value) (s : ByteArray) (w : World) (h : Bld B b bs w) (hlen : bs.length + s.size ≤ 140737488355328) (hBw : B ≤ w.heap.size) :
    Calls Tryd.prog 44 #[.pointer (some ⟨b, 0, none⟩), .string s] w fun e w' => e = .returned (.tuple #[.int .i64 s.size, .nilIface]) ∧ BldUsed B b (bs ++ Lib.strCells s) w' ∧ Below B w w' ∧ IterKept w w' := by
  obtain ⟨i0, hi, hz0, hz1, hz2⟩ := info_parts byteInfo
  go_enter Tryd.func44, Tryd.ntmps44
  go_wp2_with (go_at_call 65; refine (copyCheck_any B b bs _ h).mono ?_)
  rintro e w1 ⟨rfl, h1, hb1, hi1⟩
  obtain ⟨hB, v, hbk, hown, hne⟩ := h1
  have c1 : w1.cell? ⟨b, 1, none⟩ = some v := by rw [Lib.cell_of_heap hbk]; rfl
  go_wp2_with (at_builtin; refine Lib.wpList_append_own_string _ rfl _ _ 81 9 rfl B 5 i0 Tryd.underlying81 Tryd.underlying9 hi hz0 hz1 hz2 _ _ _ rfl hown s rfl ?c3 ?c4 ?c5 ?_)
  case c3 => unfold maxLen; omega
  case c4 => omega
  case c5 => have := hb1.size; omega
  intro v' w2 hown' hgrow _
  have HIT := Lib.hid (iter_grown hgrow (fun k hk => own_cells hown k hk))
  obtain ⟨hb2, hbw⟩ := bld_wrote (bs := bs) (bs' := bs ++ Lib.strCells s) hB hbk hne hgrow (by simpa [Lib.strCells_length] using hown') (by simp)
  have d1 : w2.cell? ⟨b, 1, none⟩ = some v := by rw [Lib.cell_of_heap hb2]; rfl
  have f1 : w2.frozen? ⟨b, 1, none⟩ = false := Lib.frozen_of_heap hb2 1
  have hbel : Below B w w2 := hb1.grown hgrow (by have := hb1.size; omega) (fun k hk => (hown.lt k hk).1)
  obtain ⟨ao, n', cap, rfl⟩ : ∃ ao n' cap, v' = .slice ao n' cap := by
    rcases hown'.2 with ⟨hv, _⟩ | ⟨g, cap, cur, hv, _⟩
    · exact ⟨_, _, _, hv⟩
    · exact ⟨_, _, _, hv⟩
  go_wp2
  go_ret2
  exact ⟨rfl, hbw, hbel.setCell (p := ⟨b, 1, none⟩) hB _, (hi1.trans HIT.out).trans (iter_setCell ⟨b, 1, none⟩ hb2 _)⟩
set_option maxHeartbeats 2000000 in
set_option maxRecDepth 100000 in
theorem writeByte_any (B b : Nat) (bs : List Value) (c : Int) (w : World) (h : Bld B b bs w) (hlen : bs.length + 1 ≤ 140737488355328) (hBw : B ≤ w.heap.size) :
    Calls Tryd.prog 51 #[.pointer (some ⟨b, 0, none⟩), .int .u8 c] w fun e w' => e = .returned .nilIface ∧ BldUsed B b (bs ++ [.int .u8 c]) w' ∧ Below B w w' ∧ IterKept w w' := by
  obtain ⟨i0, hi, hz0, hz1, hz2⟩ := info_parts byteInfo
  go_enter Tryd.func51, Tryd.ntmps51
  go_wp2_with (go_at_call 65; refine (copyCheck_any B b bs _ h).mono ?_)
  rintro e w1 ⟨rfl, h1, hb1, hi1⟩
  obtain ⟨hB, v, hbk, hown, hne⟩ := h1
  have c1 : w1.cell? ⟨b, 1, none⟩ = some v := by rw [Lib.cell_of_heap hbk]; rfl
  go_wp2_with (at_builtin; refine wpList_append_own _ rfl _ _ 81 rfl B 5 i0 (.int .u8 0) 1 1 Tryd.underlying81 hi hz0 hz1 hz2 rfl (by decide) _ _ _ rfl (hown.alloc _) ⟨w1.heap.size, 0, none⟩ 1 1 [.int .u8 c] rfl rfl ?c1 ?c2 ?c3 ?c4 ?c5 ?_)
  case c1 => intro j u hj; match j, hj with | 0, hj => simp at hj; subst hj; simp [Addr.add]
  case c2 => intro u hu; simp at hu; subst hu; rfl
  case c3 => unfold maxLen; omega
  case c4 => omega
  case c5 => have := hb1.size; simp; omega
  intro v' w2 hown' hgrow _
  have hlt : b < w1.heap.size := by
    rcases Nat.lt_or_ge b w1.heap.size with h' | h'
    · exact h'
    · simp [Array.getElem?_eq_none h'] at hbk
  have HIT := Lib.hid ((iter_alloc w1 _).trans (iter_grown hgrow (fun k hk => own_cells (hown.alloc _) k hk)))
  obtain ⟨hb2, hbw⟩ := bld_wrote (bs := bs) (bs' := bs ++ [.int .u8 c]) hB (by rw [Lib.alloc_old w1 _ b hlt]; exact hbk) hne hgrow (by simpa using hown') (by simp)
  have d1 : w2.cell? ⟨b, 1, none⟩ = some v := by rw [Lib.cell_of_heap hb2]; rfl
  have f1 : w2.frozen? ⟨b, 1, none⟩ = false := Lib.frozen_of_heap hb2 1
  have hbel : Below B w w2 := (hb1.alloc (by have := hb1.size; omega) _).grown hgrow (by have := hb1.size; simp; omega) (fun k hk => (hown.lt k hk).1)
  obtain ⟨g, cap, rfl⟩ : ∃ g cap, v' = .slice (some ⟨g, 0, none⟩) (bs.length + 1) cap := by
    rcases hown'.2 with ⟨_, h0⟩ | ⟨g, cap, cur, hv, _⟩
    · omega
    · exact ⟨g, cap, hv⟩
  go_wp2
  go_ret
  exact ⟨rfl, hbw, hbel.setCell (p := ⟨b, 1, none⟩) hB _, (hi1.trans HIT.out).trans (iter_setCell ⟨b, 1, none⟩ hb2 _)⟩
end Go.Proofs.YtepmfjhhmnmmeaaDoor
