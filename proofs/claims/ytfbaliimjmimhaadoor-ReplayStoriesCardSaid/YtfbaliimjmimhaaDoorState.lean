/-
  Folder.State walked: it tells the sagas of its bag, their ids rising, in rows of the caller's own. Conditions: as each theorem says. (Printed by wip/gen_state.py.)
-/
import Derived.Test.YtfbaliimjmimhaaDoorFolder
import Derived.Test.YtfbaliimjmimhaaDoorSortShelf
import Derived.Sort.OwnSortedInts
import Derived.Deep.AppendLies
namespace Go.Proofs.YtfbaliimjmimhaaDoor
open Go.RowKit

theorem one_sagas : OneTy Tryd.prog 25 := ⟨_, Tryd.underlying25, rfl⟩
theorem size_sagas : (Tryd.prog.info? 25).map (·.size) = some 1 := by kernel_rfl
theorem rowState : RowTy Tryd.prog 27 2 := RowTy.mk' Tryd.underlying27 rfl (by kernel_rfl)
theorem infoI : (Tryd.prog.info? 3).map (fun i => (i.zero, i.size, i.bytes)) = some (some (.int .i64 0), 1, 8) := by kernel_rfl
theorem infoSaga : (Tryd.prog.info? 40).map (fun i => (i.zero, i.size, i.bytes)) = some (some (.agg zeroSagaArr), 16, 200) := by kernel_rfl
section
variable {P : Program} {ops : Array Oper}
theorem step_load_c1 {o : Oper} {a : Act} {w : World} {K : Act → World → Prop} {Q : Exit → Act → World → Prop} {E : Prop} (hgd : o.guard = none) (ty : TypeId) (x : Operand) (ho : o.op = .load ty x)
    (ad : Addr) (hx : a.eval x = .pointer (some ad)) (v : Value) (hv : w.cell? ad = some v) (hu : OneTy P ty)
    (h : K (a.put o.dst v) w) : if Region.wanted o (yielded ops a.tmps) = true then Oper.wp P o a w K Q else E := by
  have hw : Region.wanted o (yielded ops a.tmps) = true := by simp [Region.wanted, hgd]
  rw [if_pos hw]
  unfold Oper.wp execOp
  simp only [ho, hx, Instr.loadAt, Instr.sureAddr, Sem.run_bind, Sem.run_pure, Result.andThen_ok, run_loadVar_one hu w ad v hv]
  exact h
/-- The step of a range loop over a map of sagas. -/
theorem wpList_next_held (w : World) {rest : List Oper} {o : Oper} {a : Act} {Q : Exit → Act → World → Prop} (hg : o.guard = none) (it : Operand) (hop : o.op = Op.next it false) (k : TypeId) (K : Maps.Keyed P k) (hk : P.underlying k = some (.int .i64))
    (b r n : Nat) (D : DataW Value) (left : Lit → Bool) (cnt : Nat) (hit : a.eval it = .pointer (some ⟨r, 0, none⟩)) (h : w.ranges P k heldR b r n D left cnt)
    (hDone : cnt = 0 → (∀ kl, left kl = false) → wpList P ops Q rest (a.put o.dst (.tuple #[.bool false])) w)
    (hMore : ∀ (x : Int) (c : Value) (w' : World) (cnt' : Nat), (Lit.int .i64 x).wf = true → left (.int .i64 x) = true → (∀ zd, D.atKey (.int .i64 x) zd = .held c) → w'.ranges P k heldR b r n D (fun z => left z && !z.sameKey (.int .i64 x)) cnt' → cnt' < cnt →
      w.grownBy w' (some r) → w'.heap.size = w.heap.size → (Instr.entry (.pointer (some ⟨r, 0, none⟩))).run P w' = .ok (.tuple #[.int .i64 x, c]) w' → wpList P ops Q rest (a.put o.dst (.tuple #[.bool true, .int .i64 x, c])) w') :
    wpList P ops Q (o :: rest) a w :=
  wpList_next_ranges w hg it hop k K heldR (Value.int .i64) (fun v : Value => v) (fun key kl hkey => by obtain ⟨x, rfl, _⟩ := Maps.keyOf_int_inv hk hkey; exact ⟨x, rfl⟩) (fun v y hv => ⟨v, rfl⟩)
    b r n D left cnt hit h hDone (fun x c kl y w' cnt' hkey hlk hv hat hrg hlt hgr hsz hen => by
      obtain ⟨x', ex, rfl, hwx⟩ := Maps.keyOf_int_inv hk hkey
      cases ex
      have hy : y.1 = .held c := by
        unfold heldR at hv
        simp only [Option.some.injEq] at hv
        rw [← hv]
      exact hMore x c w' cnt' hwx hlk (fun zd => (hat zd).trans hy) hrg hlt hgr hsz hen)
end
/-- The keys met so far. -/
structure CollectedI (D0 : DataW Value) (left : Lit → Bool) (ks : List Int) : Prop where
  nodup : ks.Nodup
  mem : ∀ x, x ∈ ks ↔ (Maps.has D0 (.int .i64 x) = true ∧ left (.int .i64 x) = false)
  wf : ∀ x ∈ ks, (Lit.int .i64 x).wf = true
theorem CollectedI.start (D0 : DataW Value) : CollectedI D0 (Maps.has D0) [] := ⟨List.nodup_nil, (fun x => by cases Maps.has D0 (.int .i64 x) <;> simp), (fun x h => by cases h)⟩
theorem CollectedI.step {D0 : DataW Value} {left : Lit → Bool} {ks : List Int} (h : CollectedI D0 left ks) {x : Int} {y : DataW Value} (hw : (Lit.int .i64 x).wf = true) (hlk : left (.int .i64 x) = true) (hat : ∀ zd, D0.atKey (.int .i64 x) zd = y) :
    CollectedI D0 (fun z => left z && !z.sameKey (.int .i64 x)) (ks ++ [x]) := by
  have hhas : Maps.has D0 (.int .i64 x) = true := Maps.has_true_of_atKey hat
  have hnew : x ∉ ks := fun hx => by have := ((h.mem x).1 hx).2; rw [hlk] at this; cases this
  refine ⟨List.nodup_append.2 ⟨h.nodup, by simp, fun a ha b hb => by simp at hb; subst hb; exact fun e => hnew (e ▸ ha)⟩, fun y => ?_, fun y hy => ?_⟩
  · by_cases hy : y = x
    · subst hy; simp [hhas, Lit.sameKey]
    · simp [h.mem y, hy, Lit.sameKey]
  · rcases List.mem_append.1 hy with h1 | h1
    · exact h.wf y h1
    · simp at h1; rw [h1]; exact hw
/-- slices.Sort of a row of one's own. -/
theorem sort_own (w : World) (B : Nat) (v : Value) (ks : List Int) (h : w.ownsRow B 3 1 v ks.length (ks.map (Value.int .i64))) (hl : ks.length ≤ 1099511627776) :
    Calls Tryd.prog 39 #[v] w fun e w' => e = .returned (.tuple #[]) ∧ ∃ ts : List Int, ts.Perm ks ∧ ts.Pairwise (fun x y => x ≤ y) ∧ w'.ownsRow B 3 1 v ts.length (ts.map (Value.int .i64)) ∧ w.grownBy w' v.ownBlock := by
  rcases h.2 with ⟨rfl, h0⟩ | ⟨g, cap, cur, rfl, hb, hg, hn, hc, hs, ht⟩
  · have hks : ks = [] := List.eq_nil_of_length_eq_zero h0
    subst hks
    refine (Tryd.slices_Sort_int_none none 0 w).mono ?_
    rintro e w' ⟨rfl, rfl⟩
    exact ⟨rfl, [], List.Perm.nil, List.Pairwise.nil, World.ownsRow_nil _ _ _ _, ⟨rfl, rfl, rfl, Nat.le_refl _, fun _ _ _ => rfl⟩⟩
  · have ht' : cur.toList.take ks.length = ks.map (Value.int .i64) := by rw [Nat.mul_one] at ht; exact ht
    refine (Tryd.slices_Sort_int g 0 cap ks w (holds_of_blockI hg ht') (Array.getElem?_eq_some_iff.1 hg).1 (by omega)).mono ?_
    rintro e w' ⟨rfl, n, os, rfl⟩
    have hlen : (ks.mergeSort fun x y => decide (x ≤ y)).length = ks.length := List.length_mergeSort ks
    refine ⟨rfl, (ks.mergeSort fun x y => decide (x ≤ y)), List.mergeSort_perm ks _, ?_, ?_, grownBy_sortedI _⟩
    · refine (List.pairwise_mergeSort (le := fun x y : Int => decide (x ≤ y)) (fun a b c h1 h2 => ?_) (fun a b => ?_) ks).imp (fun {a b} h => by simpa using h)
      · simp only [decide_eq_true_eq] at *; omega
      · simp only [Bool.or_eq_true, decide_eq_true_eq]; omega
    · rw [hlen]
      exact ownsRow_sortedI hlen hb hg hn hc hs
theorem But.row {w w' : World} {o : Option Nat} {b q : Nat} (h : w.grownBy w' o) (ho : o = none ∨ o = some q) : But w w' b q :=
  ⟨h.os, h.tape, h.output, h.size, fun k hk _ h2 => h.block k hk (fun e => by
    rcases ho with rfl | rfl
    · cases e
    · cases e; exact h2 rfl)⟩
theorem own_but {w w' : World} {b q m n : Nat} {D : DataW Value} (h : w.ownsMap Tryd.prog 3 heldR m n D) (hb : But w w' b q) (h1 : m ≠ b) (h2 : m ≠ q) : w'.ownsMap Tryd.prog 3 heldR m n D := by
  have hlt := h.lt
  obtain ⟨es, clock, hb', rest⟩ := h
  exact ⟨es, clock, (hb.block m hlt h1 h2).trans hb', rest⟩
/-- A block of another type is not a row's own. -/
theorem own_no_blk {w : World} {base n g size : Nat} {e t : TypeId} {v : Value} {xs : List Value} {cs : Array Value} (h : w.ownsRow base e size v n xs) (k : BlkAt w g cs t) (hne : t ≠ e) : v.ownBlock ≠ some g := by
  intro e'
  rcases h.2 with ⟨rfl, _⟩ | ⟨g', cap, cur, rfl, _, hg', _⟩
  · cases e'
  · simp only [Value.ownBlock, Option.some.injEq] at e'
    subst e'
    rw [show w.heap[g']? = _ from k] at hg'
    simp at hg'
    exact hne hg'.2
theorem own_rows_apart {w : World} {b b' size size' n n' : Nat} {e e' : TypeId} {v u : Value} {xs ys : List Value} (h : w.ownsRow b e size v n xs) (k : w.ownsRow b' e' size' u n' ys) (hne : e ≠ e') : v.ownBlock = none ∨ v.ownBlock ≠ u.ownBlock := by
  rcases h.2 with ⟨rfl, _⟩ | ⟨g', cap, cur, rfl, _, hg', _⟩
  · exact .inl rfl
  · refine .inr fun q => ?_
    exact own_no_blk k (show BlkAt w g' cur e from hg') hne q.symm

theorem own_no_obj {w : World} {base n k size : Nat} {e : TypeId} {v : Value} {xs : List Value} {o : Obj} (h : w.ownsRow base e size v n xs) (hk : w.heap[k]? = some o) (ho : ∀ cs t fr, o ≠ .cells cs t fr) : some k ≠ v.ownBlock := by
  intro e'
  rcases h.2 with ⟨rfl, _⟩ | ⟨g', cap, cur, rfl, _, hg', _⟩
  · cases e'
  · simp only [Value.ownBlock, Option.some.injEq] at e'
    subst e'
    rw [hg'] at hk
    cases hk
    exact ho _ _ _ rfl
theorem own_no_iter {w : World} {base nn size b r n cnt : Nat} {e : TypeId} {v : Value} {xs : List Value} {D : DataW Value} {left : Lit → Bool} (h : w.ownsRow base e size v nn xs) (k : w.ranges Tryd.prog 3 heldR b r n D left cnt) : some r ≠ v.ownBlock := by
  obtain ⟨es, clock, since, seen, c0, hb, F, hs, hD, hr, rest⟩ := k
  exact own_no_obj h hr (fun _ _ _ e => by cases e)
theorem own_no_map {w : World} {base nn size b r n cnt : Nat} {e : TypeId} {v : Value} {xs : List Value} {D : DataW Value} {left : Lit → Bool} (h : w.ownsRow base e size v nn xs) (k : w.ranges Tryd.prog 3 heldR b r n D left cnt) : some b ≠ v.ownBlock := by
  obtain ⟨es, clock, since, seen, c0, hb, rest⟩ := k
  exact own_no_obj h hb (fun _ _ _ e => by cases e)
/-- How the second loop stands. -/
structure St2 (w wr : World) (G n : Nat) (v q : Sl) (ts : List Int) (j : Nat) (f : Bag) (Ss : List SagaD) : Prop where
  box : BlkAt wr G #[.int .i64 n, .slice v.a v.n v.c] 27
  own : OwnSagas wr w.heap.size (.slice v.a v.n v.c) Ss
  ids : Ss.map SagaD.id = ts.take j
  mem : ∀ E ∈ Ss, f E.id = some E
  row : wr.ownsRow w.heap.size 3 1 (.slice q.a q.n q.c) ts.length (ts.map (Value.int .i64))
  zb : BlkAt wr w.heap.size #[.int .i64 0, .slice none 0 0] 27
  below : Below w.heap.size w wr
  lt : w.heap.size < G
theorem st2_end {w wr w5 w6 w7 : World} {G n gg cap : Nat} {v q : Sl} {ts : List Int} {j : Nat} {f : Bag} {Ss : List SagaD} {ss : List SagaV} {s : SagaV} {E : SagaD} {x : Obj} (h : St2 w wr G n v q ts j f Ss) (hj : j < ts.length) (hx : ts[j] = E.id) (hE : f E.id = some E)
    (hb : Below wr.heap.size wr w5) (ho : SagaOwn w5 w.heap.size s E) (h1 : w5.ownsRow w.heap.size 40 16 (.slice v.a v.n v.c) Ss.length (ss.flatMap SagaV.cells)) (h2 : ss.length = Ss.length) (h3 : ∀ i (h1 : i < ss.length) (h2 : i < Ss.length), SagaOwn w5 w.heap.size ss[i] Ss[i])
    (hn : w6.ownsRow w.heap.size 40 16 (.slice (some ⟨gg, 0, none⟩) (Ss.length + 1) cap) (Ss.length + 1) (ss.flatMap SagaV.cells ++ s.cells)) (hg : (w5.alloc x).grownBy w6 (Value.slice v.a v.n v.c).ownBlock)
    (hw : Wrote w6 w7 G) (hB : BlkAt w7 G #[.int .i64 n, .slice (some ⟨gg, 0, none⟩) (Ss.length + 1) cap] 27) :
    St2 w w7 G n ⟨some ⟨gg, 0, none⟩, Ss.length + 1, cap⟩ q ts (j + 1) f (Ss ++ [E]) := by
  have hbp : Below w5.heap.size w5 (w5.alloc x) := boxd (Below.refl _ _)
  have p1 := own_through h1 hbp
  have KG5 : BlkAt (w5.alloc x) G _ _ := (h.box.below hb (blk_lt h.box)).push x
  have KZ5 : BlkAt (w5.alloc x) w.heap.size _ _ := (h.zb.below hb (blk_lt h.zb)).push x
  have KG6 := blk_grown KG5 hg (Ne.symm (own_no_blk p1 KG5 (by decide)))
  have KZ6 := blk_grown KZ5 hg (Ne.symm (own_no_blk p1 KZ5 (by decide)))
  have r5 := own_through (own_through h.row hb) hbp
  have r6 := r5.kept hg (own_rows_apart r5 p1 (by decide))
  have o6 : OwnSagas w6 w.heap.size _ (Ss ++ [E]) := OwnSagas.grown p1 h2 (fun i a b => (h3 i a b).through hbp) (ho.through hbp) hn hg
  have hlt := h.lt
  refine ⟨hB, o6.wrote hw KG6 (by decide) (by decide) (by decide), ?_, fun F hF => ?_, ?_, hw.blk KZ6 (by omega), ?_, h.lt⟩
  · rw [List.map_append, h.ids, List.take_succ_eq_append_getElem hj, hx]; rfl
  · rcases List.mem_append.1 hF with h' | h'
    · exact h.mem F h'
    · simp at h'; rw [h']; exact hE
  · refine own_heap r6 (fun k cur hc => hw.other k (fun e => ?_))
    subst e
    rw [show w6.heap[k]? = _ from KG6] at hc
    simp at hc
  · have b5 := then_ h.below hb
    exact hw.below (((b5.alloc b5.size x).grown hg (by simp; have := b5.size; omega) (fun q hq => (p1.lt q hq).1))) (by omega)
/-- What the collected, sorted keys give. -/
theorem state_of {f : Bag} {D : DataW Value} {w : World} {base : Nat} {ks ts : List Int} {Ss : List SagaD} {left : Lit → Bool} (hD : BagD w base f D) (hC : CollectedI D left ks) (hl : ∀ kl, left kl = false) (hp : ts.Perm ks) (hs : ts.Pairwise (fun x y => x ≤ y))
    (hi : Ss.map SagaD.id = ts) (hm : ∀ E ∈ Ss, f E.id = some E) : StateOf f Ss := by
  have hnd : ts.Nodup := hp.nodup_iff.2 hC.nodup
  refine ⟨?_, fun E => ⟨hm E, fun hE => ?_⟩⟩
  · have h1 : ts.Pairwise (fun x y => x < y) := by
      refine (List.Pairwise.and hs hnd).imp (fun {a b} h => ?_)
      have h2 := h.1
      have h3 : a ≠ b := h.2
      omega
    rw [← hi] at h1
    exact List.pairwise_map.1 h1
  · have hw := (hD.at_ _ _ hE).1
    have h1 : E.id ∈ ks := (hC.mem _).2 ⟨(hD.has _ hw).2 (by rw [hE]; simp), hl _⟩
    have h2 : E.id ∈ Ss.map SagaD.id := by rw [hi]; exact hp.mem_iff.2 h1
    obtain ⟨F, hF, e⟩ := List.mem_map.1 h2
    have h3 := hm F hF
    rw [e, hE] at h3
    cases h3
    exact hF

set_option maxRecDepth 10000000 in
set_option maxHeartbeats 8000000 in
theorem state_any (base b m n : Nat) (f : Bag) (w : World) (hF : FolderAt w base b m n f) (hg : GoodBag f) (hn : n ≤ 1099511627) :
    Calls Tryd.prog 24 #[.pointer (some ⟨b, 0, none⟩)] w fun e w' => ∃ (v : Sl) (Ss : List SagaD), e = .returned (.agg #[.int .i64 n, .slice v.a v.n v.c]) ∧ OwnSagas w' w.heap.size (.slice v.a v.n v.c) Ss ∧ StateOf f Ss ∧ Below w.heap.size w w' := by
  obtain ⟨iI, hI0, hI1, hI2, hI3⟩ := info_parts infoI
  obtain ⟨i0, hi0, hz0, hz1, hz2⟩ := info_parts infoSaga
  obtain ⟨hbase, D, hown, hD⟩ := hF.bag
  have hsize := hown.size_le
  have hbm := hF.bag.blk_ne hF.blk
  have hlb := blk_lt hF.blk
  have hlm := hown.lt
  have HF := Lib.hid hF
  have HD := Lib.hid hD
  have HG := Lib.hid hg
  have HBM := Lib.hid hbm
  have hb1 := boxd (o := .cells #[.int .i64 0, .slice none 0 0] 27) (Below.refl w.heap.size w)
  have KZ := BlkAt.new w #[.int .i64 0, .slice none 0 0] 27
  have hown1 := hown.kept (grown_below' hb1 none) (by simp)
  have kf := hF.blk.below hb1 hlb
  have c1 := kf.cell 1
  simp only [List.getElem?_toArray, List.getElem?_cons_zero, List.getElem?_cons_succ] at c1
  have HO := Lib.hid hown
  have HO1 := Lib.hid hown1
  have HB1 := Lib.hid hb1
  have HZ1 := Lib.hid KZ
  clear hown hown1 hF hD hg hbm hb1 KZ kf
  go_enter Tryd.func24, Tryd.ntmps24
  go_wp2_with (first
    | (at_len; refine wpList_len_own _ rfl _ 74 rfl 3 40 Tryd.underlying74 heldR m n D rfl HO1.out ?_)
    | (at_make; refine wpList_make_own _ rfl _ _ 34 rfl w.heap.size 3 iI (.int .i64 0) 1 Tryd.underlying34 hI0 hI1 hI2 .i64 .i64 (Maps.size D) (Maps.size D) rfl rfl rfl (by rw [hI3]; omega) (by unfold maxLen; omega) (by simp) ?_
       intro w3 hown3 hgr3
       have HB3 := Lib.hid (HB1.out.grown hgr3 (by simp) (fun q hq => by cases hq))
       have HO3 := Lib.hid (HO.out.kept (grown_below' HB3.out none) (by simp))
       have KF3 := HF.out.blk.below HB3.out hlb
       have c3 := KF3.cell 1
       simp only [List.getElem?_toArray, List.getElem?_cons_zero, List.getElem?_cons_succ] at c3
       have HZ3 := Lib.hid ((blk_grown HZ1.out hgr3 (by simp))))
    | (at_range; refine wpList_range_own _ rfl _ 74 rfl 3 40 key_int Tryd.underlying74 heldR m n D rfl HO3.out ?_
       intro w4 hrg4 hgr4 hs4))
  obtain ⟨R, hR⟩ : ∃ x, w3.heap.size = x := ⟨_, rfl⟩
  rw [hR] at hrg4 hs4
  rw [hR]
  have hwR : w.heap.size < R := by have := blk_lt HZ3.out; omega
  simp only [World.size_alloc] at hown3
  have O4 := Lib.hid (hown3.kept hgr4 (Or.inr (by simp [Value.ownBlock])))
  have HB4 := Lib.hid (HB3.out.grown hgr4 (by have := HB3.out.size; omega) (fun q hq => by cases hq))
  have HZ4 := Lib.hid (blk_grown HZ3.out hgr4 (by simp))
  have HRG4 := Lib.hid hrg4
  clear hown3 hgr4 hgr3 hrg4 KF3 c1 c3 HZ3 HZ1 HO3 HB3 HB1 HO1 hR hs4
  go_frame
  go_loopw [3] (fun v3 wr => ∃ (left : Lit → Bool) (cnt : Nat) (ks : List Int), Hid (wr.ranges Tryd.prog 3 heldR m R n D left cnt) ∧ Hid (CollectedI D left ks) ∧ Hid (ks.length + cnt ≤ Maps.size D) ∧ Hid (wr.ownsRow w.heap.size 3 1 v3 ks.length (ks.map (Value.int .i64))) ∧ Hid (Below w.heap.size w wr) ∧ Hid (BlkAt wr w.heap.size #[.int .i64 0, .slice none 0 0] 27)) (fun _ wr => wr.rangeLeft m R)
  case atStart => exact ⟨Maps.has D, Maps.size D, [], HRG4, Lib.hid (CollectedI.start D), Lib.hid (by simp), O4, HB4, HZ4⟩
  case round =>
    obtain ⟨left, cnt, ks, HRG, HC, HL, HOR, HB, HZ⟩ := hrel
    clear HRG4 O4 HB4 HZ4
    go_wp2_with (at_next; refine wpList_next_held _ rfl _ rfl 3 key_int Tryd.underlying3 m R n D left cnt rfl HRG.out ?_ ?_)
    · intro hc0 hl0
      have hlen : ks.length ≤ n := by have := HL.out; omega
      have HL0 := Lib.hid hl0
      clear hl0 hc0
      go_wp2_with (go_at_call 39; refine (sort_own _ _ _ ks HOR.out (by omega)).mono ?_)
      rintro e w6 ⟨rfl, ts, hp, hs, ho, hg6⟩
      have hlt : ts.length = ks.length := hp.length_eq
      obtain ⟨⟨qa, qn, qc⟩, rfl, hqn, -⟩ := own_row ho (by omega)
      simp only at hqn
      subst hqn
      dsimp only [Sl.v] at ho ⊢
      have HB6 := Lib.hid (HB.out.grown hg6 HB.out.size (fun q hq => (HOR.out.lt q hq).1))
      have HZ6 := Lib.hid (blk_grown HZ.out hg6 (Ne.symm (own_no_blk HOR.out HZ.out (by decide))))
      have KF6 := HF.out.blk.below HB6.out hlb
      have c0 := KF6.cell 0
      simp only [List.getElem?_toArray, List.getElem?_cons_zero] at c0
      have HP := Lib.hid hp
      have HS := Lib.hid hs
      have HO6 := Lib.hid ho
      have h6 := HB6.out.size
      clear hp hs ho hg6 HRG HOR HB HZ KF6
      have KG := BlkAt.new w6 #[.int .i64 0, .slice none 0 0] 27
      have hb7 := boxd (o := .cells #[.int .i64 0, .slice none 0 0] 27) (Below.refl w6.heap.size w6)
      go_wp2_with (refine wpList_store_blk rfl _ _ _ rfl _ rfl #[.int .i64 n, .slice none 0 0] rfl _ _ KG (by rfl) (by simp [Value.oneCell']) rowState ?_; intro w8 hw8 K8)
      have HST : Hid (St2 w w8 w6.heap.size n ⟨none, 0, 0⟩ ⟨qa, ts.length, qc⟩ ts 0 f []) := Lib.hid ⟨K8, OwnSagas.nil _ _, rfl, (fun E hE => by cases hE),
        own_heap (own_through HO6.out hb7) (fun k cur hc => hw8.other k (fun e => by subst e; rw [show _ = _ from KG] at hc; simp at hc)), hw8.blk (HZ6.out.push _) (by have := blk_lt HZ6.out; omega), hw8.below (HB6.out.alloc h6 _) h6, blk_lt HZ6.out⟩
      obtain ⟨G, hG⟩ : ∃ x, w6.heap.size = x := ⟨_, rfl⟩
      rw [hG] at HST
      rw [hG]
      clear KG hb7 hw8 K8 HO6 HZ6 c0 HB6 h6 hG
      go_loopw [36] (fun i wr => ∃ (j : Nat) (v : Sl) (Ss : List SagaD), i = .int .i64 j ∧ j ≤ ts.length ∧ Hid (St2 w wr G n v ⟨qa, ts.length, qc⟩ ts j f Ss)) (fun i _ => ts.length - (intOf i).toNat)
      case atStart => exact ⟨0, ⟨none, 0, 0⟩, [], rfl, by omega, HST⟩
      case round =>
        obtain ⟨j, ⟨va, vn, vc⟩, Ss, rfl, hj, HA⟩ := hrel
        clear HST
        by_cases hlt0 : j < ts.length
        · obtain ⟨⟨ra, rn, rc⟩, e0, hn0, -, -, hrow⟩ := own_row HA.out.row (by omega)
          simp only [Sl.v, Value.slice.injEq] at e0 hn0
          obtain ⟨e1, e2, e3⟩ := e0
          subst e1 e3
          subst hn0
          obtain ⟨b0, o0, e4, hc0⟩ := hrow (by simp only; omega)
          simp only at e4
          subst e4
          obtain ⟨x, hx⟩ : ∃ q, ts[j] = q := ⟨_, rfl⟩
          have hcx : wr.cell? ⟨b0, o0 + j, none⟩ = some (.int .i64 x) := by rw [hc0 j (by simp only; omega)]; simp [hlt0, hx]
          have hxk : x ∈ ks := HP.out.mem_iff.1 (by rw [← hx]; exact List.getElem_mem hlt0)
          have hwx := HC.out.wf x hxk
          have hfx : f x ≠ none := (HD.out.has x hwx).1 ((HC.out.mem x).1 hxk).1
          obtain ⟨E, hE⟩ := Option.ne_none_iff_exists'.1 hfx
          obtain ⟨_, s, hat, hso⟩ := HD.out.at_ x E hE
          have hid := HG.out.id x E hE
          have HSM := Lib.hid (HG.out.good x E hE).small
          have HRD := Lib.hid ((hso.rd HSM.out).below HA.out.below)
          have HXE : Hid (ts[j] = E.id) := Lib.hid (by rw [hx, hid])
          have HFE : Hid (f E.id = some E) := Lib.hid (by rw [hid]; exact hE)
          have HKEY := Lib.hid (Maps.keyOf_int_mk (P := Tryd.prog) Tryd.underlying3 hwx)
          have HAT := Lib.hid (hat (.held (.agg zeroSagaArr)))
          have KFr := Lib.hid (HF.out.blk.below HA.out.below hlb)
          have HOr := Lib.hid (HO.out.kept (grown_below' HA.out.below none) (by simp))
          have KB := Lib.hid HA.out.box
          obtain ⟨ss, o1, o2, o3⟩ := HA.out.own
          have hwG := HA.out.lt
          obtain ⟨qb, hqb, hqw⟩ : ∃ q, ((Value.slice va vn vc).ownBlock = none ∨ (Value.slice va vn vc).ownBlock = some q) ∧ w.heap.size ≤ q := by
            cases h : (Value.slice va vn vc).ownBlock with
            | none => exact ⟨w.heap.size, .inl rfl, Nat.le_refl _⟩
            | some q => exact ⟨q, .inr rfl, (o1.lt q h).1⟩
          have HQB := Lib.hid hqb
          have HbG := Lib.hid (show b ≠ G by omega)
          have Hbq := Lib.hid (show b ≠ qb by omega)
          have HmG := Lib.hid (show m ≠ G by omega)
          have Hmq := Lib.hid (show m ≠ qb by omega)
          have hSl : Ss.length = j := by have := congrArg List.length HA.out.ids; simp at this; omega
          have O1 := Lib.hid o1
          have O2 := Lib.hid o2
          have O3 := Lib.hid o3
          have hjn : j < n := by have := HP.out.length_eq; omega
          clear hx hc0 hrow hxk hwx hfx hE hat hso hid o1 o2 o3 hqb
          go_upto_region 11 with fail
          clear hcx
          refine wp_region_held_drew (S := (fun W => But wr W G qb)) (by kernel_rfl) (But.of (Below.refl _ _).drew) (fun hHeld => ?_)
          refine wpAnyH_take (i := 0) (oi := { dst := some 40, op := Op.fieldAddr 27 (Operand.tmp 5) 1, type := 0, pos := "replay.go:53", after := #[], guard := none }) (v := ?_) rfl (by kernel_rfl) (by kernel_rfl) (by kernel_rfl) (fun _ _ _ h => h) (Or.inl ⟨by rfl, ?_⟩) (by assumption) ?_
          rotate_left 1
          focus (intro w hSw; (try clear hSw); go_simp; try (with_reducible rfl))
          try go_frame
          refine wpAnyH_take (i := 2) (oi := { dst := some 42, op := Op.move (Operand.tmp 0), type := 57, pos := "replay.go:53", after := #[], guard := none }) (v := ?_) rfl (by kernel_rfl) (by kernel_rfl) (by kernel_rfl) (fun _ _ _ h => h) (Or.inl ⟨by rfl, ?_⟩) (by assumption) ?_
          rotate_left 1
          focus (intro w hSw; (try clear hSw); go_simp; try (with_reducible rfl))
          try go_frame
          refine wpAnyH_take (i := 3) (oi := { dst := some 43, op := Op.nilCheck (Operand.tmp 42), type := 0, pos := "replay.go:53", after := #[{ on := 2, ground := Ground.data }], guard := none }) (v := ?_) rfl (by kernel_rfl) (by kernel_rfl) (by kernel_rfl) (fun _ _ _ h => h) (Or.inl ⟨by rfl, ?_⟩) (by assumption) ?_
          rotate_left 1
          focus (intro w hSw; (try clear hSw); go_simp; try (with_reducible rfl))
          try go_frame
          refine wpAnyH_take (i := 4) (oi := { dst := some 44, op := Op.fieldAddr 76 (Operand.tmp 43) 1, type := 0, pos := "replay.go:53", after := #[{ on := 3, ground := Ground.data }], guard := none }) (v := ?_) rfl (by kernel_rfl) (by kernel_rfl) (by kernel_rfl) (fun _ _ _ h => h) (Or.inl ⟨by rfl, ?_⟩) (by assumption) ?_
          rotate_left 1
          focus (intro w hSw; (try clear hSw); go_simp; try (with_reducible rfl))
          try go_frame
          refine wpAnyH_take (i := 5) (oi := { dst := some 45, op := Op.load 74 (Operand.tmp 44), type := 74, pos := "replay.go:53", after := #[{ on := 4, ground := Ground.data }], guard := none }) (v := .map (some m)) rfl (by kernel_rfl) (by kernel_rfl) (by kernel_rfl) (fun _ _ _ h => h) (yl_cell rfl _ _ rfl ⟨b, 1, none⟩ rfl _ (fun w' h => ((h.blk KFr.out HbG.out Hbq.out).cell 1).trans rfl) one_map) (by assumption) ?_
          try go_frame
          refine wpAnyH_take (i := 6) (oi := { dst := some 46, op := Op.move (Operand.tmp 7), type := 3, pos := "replay.go:53", after := #[], guard := none }) (v := ?_) rfl (by kernel_rfl) (by kernel_rfl) (by kernel_rfl) (fun _ _ _ h => h) (Or.inl ⟨by rfl, ?_⟩) (by assumption) ?_
          rotate_left 1
          focus (intro w hSw; (try clear hSw); go_simp; try (with_reducible rfl))
          try go_frame
          refine wpAnyH_take (i := 7) (oi := { dst := some 47, op := Op.lookup 74 (Operand.tmp 45) (Operand.tmp 46) false, type := 40, pos := "replay.go:53", after := #[{ on := 5, ground := Ground.data }, { on := 6, ground := Ground.data }], guard := none }) (v := s.val) rfl (by kernel_rfl) (by kernel_rfl) (by kernel_rfl) (fun _ _ _ h => h) (yl_lookup rfl _ _ _ rfl m n D _ _ key_int Tryd.underlying74 _ zeroSagaVal rfl (.int .i64 x) _ rfl HKEY.out (fun w' h => own_but HOr.out h HmG.out Hmq.out) (s.val) HAT.out) (by assumption) ?_
          try go_frame
          refine wpAnyH_ready (rs := [1, 8]) (by kernel_rfl) (by simp) ?_
          refine AllReadyH.cons (o := { dst := some 41, op := Op.load 25 (Operand.tmp 40), type := 25, pos := "replay.go:53", after := #[{ on := 0, ground := Ground.data }], guard := none }) rfl (fun K hK => ?_) ?_
          · refine step_load_c1 rfl _ _ rfl _ rfl (.slice va vn vc) (((show BlkAt wr.drew G #[.int .i64 n, .slice va vn vc] 27 from KB.out).cell 1).trans rfl) one_sagas ?_
            refine hK.out _ _ (hHeld) (fun hHeld => ?_)
            clear hK K
            try go_frame
            refine wpAnyH_ready (rs := [8]) (by kernel_rfl) (by simp) ?_
            refine AllReadyH.cons (o := { dst := some 48, op := Op.call { callee := Callee.value (Operand.func 40), args := #[Operand.tmp 47], argTypes := #[40] }, type := 40, pos := "replay.go:53", after := #[{ on := 7, ground := Ground.data }], guard := none }) rfl (fun K hK => ?_) ?_
            · go_simp
              refine (clone_rd s E _ (HRD.out.below (Below.refl _ _).drew) HSM.out).mono ?_
              rintro e w5 ⟨s', rfl, ho5, hb5⟩
              have hs5 : wr.heap.size ≤ w5.heap.size := hb5.size
              have HBC := Lib.hid (show Below wr.heap.size wr w5 from ⟨hb5.os, hb5.tape, hb5.output, hb5.size, hb5.block⟩)
              have HO5 := Lib.hid (ho5.lower (c := w.heap.size) HA.out.below.size)
              have KB5 := Lib.hid (KB.out.below HBC.out (blk_lt KB.out))
              have P1 := Lib.hid (own_through O1.out HBC.out)
              clear ho5
              try dsimp only [SagaV.val, Sl.v]
              try go_wp2_with fail
              refine hK.out _ _ (But.trans hHeld (But.of hb5)) (fun hHeld => ?_)
              clear hK K
              try go_frame
              refine wpAnyH_ready (rs := [9]) (by kernel_rfl) (by simp) ?_
              refine AllReadyH.cons (o := { dst := some 49, op := Op.buildSlice 25 1 #[(0, Operand.tmp 48)], type := 25, pos := "replay.go:53", after := #[{ on := 8, ground := Ground.data }], guard := none }) rfl (fun K hK => ?_) ?_
              · go_simp
                have KB5p := Lib.hid (KB5.out.push (.cells #[.int .i64 s'.id, .string s'.name, .int .i64 s'.count, .int .i64 s'.pivot, .int .i64 s'.begun, .int .i64 s'.at_, .slice s'.input.a s'.input.n s'.input.c, .int .i64 s'.phase, .int .i64 s'.next, .bool s'.flight, .int .i64 s'.tries, .slice s'.outs.a s'.outs.n s'.outs.c, .slice s'.undos.a s'.undos.n s'.undos.c, .int .i64 s'.failStep, .int .i64 s'.failCode, .slice s'.fail.a s'.fail.n s'.fail.c] 40))
                refine hK.out _ _ (But.trans hHeld (But.of (boxd (Below.refl _ _)))) (fun hHeld => ?_)
                clear hK K
                try go_frame
                refine wpAnyH_ready (rs := [10]) (by kernel_rfl) (by simp) ?_
                refine AllReadyH.cons (o := { dst := some 50, op := Op.call { callee := Callee.builtin Builtin.append, args := #[Operand.tmp 41, Operand.tmp 49], argTypes := #[25, 25] }, type := 25, pos := "replay.go:53", after := #[{ on := 1, ground := Ground.data }, { on := 9, ground := Ground.data }, { on := 8, ground := Ground.chain }], guard := none }) rfl (fun K hK => ?_) ?_
                · refine step_append_lies _ (by rfl) _ _ _ (by rfl) w.heap.size 40 i0 _ 16 200 Tryd.underlying25 hi0 hz0 hz1 hz2 rfl (by omega) (.slice va vn vc) Ss.length (ss.flatMap SagaV.cells) (by rfl) (P1.out.alloc _) ⟨w5.heap.size, 0, none⟩ 1 1 [.int .i64 s'.id, .string s'.name, .int .i64 s'.count, .int .i64 s'.pivot, .int .i64 s'.begun, .int .i64 s'.at_, .slice s'.input.a s'.input.n s'.input.c, .int .i64 s'.phase, .int .i64 s'.next, .bool s'.flight, .int .i64 s'.tries, .slice s'.outs.a s'.outs.n s'.outs.c, .slice s'.undos.a s'.undos.n s'.undos.c, .int .i64 s'.failStep, .int .i64 s'.failCode, .slice s'.fail.a s'.fail.n s'.fail.c] (by rfl) (by rfl) (World.news_of_block (cs := #[.int .i64 s'.id, .string s'.name, .int .i64 s'.count, .int .i64 s'.pivot, .int .i64 s'.begun, .int .i64 s'.at_, .slice s'.input.a s'.input.n s'.input.c, .int .i64 s'.phase, .int .i64 s'.next, .bool s'.flight, .int .i64 s'.tries, .slice s'.outs.a s'.outs.n s'.outs.c, .slice s'.undos.a s'.undos.n s'.undos.c, .int .i64 s'.failStep, .int .i64 s'.failCode, .slice s'.fail.a s'.fail.n s'.fail.c]) (t := 40) (fr := (0, 0)) (heap_alloc_new w5 _)) (by simp [Value.oneCell']) (by omega) (by simp only [maxLen]; omega) (by omega) (by simp; have := HA.out.below.size; omega) (w5.heap.size + 1) (by simp) ?_
                  intro gg cap w6 hown6 hgrow hat hlt
                  have KB6 := Lib.hid (blk_grown KB5p.out hgrow (Ne.symm (own_no_blk (P1.out.alloc _) KB5p.out (by decide))))
                  refine hK.out _ _ (But.trans hHeld (But.row hgrow HQB.out)) (fun hHeld => ?_)
                  clear hK K
                  try go_frame
                  refine wpAnyH_take (i := 11) (oi := { dst := some 51, op := Op.fieldAddr 27 (Operand.tmp 5) 1, type := 0, pos := "replay.go:53", after := #[{ on := 0, ground := Ground.phase }, { on := 1, ground := Ground.phase }, { on := 2, ground := Ground.phase }, { on := 3, ground := Ground.phase }, { on := 4, ground := Ground.phase }, { on := 5, ground := Ground.phase }, { on := 6, ground := Ground.phase }, { on := 7, ground := Ground.phase }, { on := 8, ground := Ground.phase }, { on := 9, ground := Ground.phase }, { on := 10, ground := Ground.phase }], guard := none }) (v := ?_) rfl (by kernel_rfl) (by kernel_rfl) (by kernel_rfl) (fun _ _ _ h => h) (Or.inl ⟨by rfl, ?_⟩) (by assumption) ?_
                  rotate_left 1
                  focus (intro w hSw; (try clear hSw); go_simp; try (with_reducible rfl))
                  try go_frame
                  refine wpAnyH_ready (rs := [12]) (by kernel_rfl) (by simp) ?_
                  refine AllReadyH.cons (o := { dst := none, op := Op.store 25 (Operand.tmp 51) (Operand.tmp 50), type := 0, pos := "replay.go:53", after := #[{ on := 11, ground := Ground.data }, { on := 10, ground := Ground.data }, { on := 10, ground := Ground.chain }, { on := 0, ground := Ground.phase }, { on := 1, ground := Ground.phase }, { on := 2, ground := Ground.phase }, { on := 3, ground := Ground.phase }, { on := 4, ground := Ground.phase }, { on := 5, ground := Ground.phase }, { on := 6, ground := Ground.phase }, { on := 7, ground := Ground.phase }, { on := 8, ground := Ground.phase }, { on := 9, ground := Ground.phase }, { on := 10, ground := Ground.phase }], guard := none }) rfl (fun K hK => ?_) ?_
                  · refine step_store_one rfl _ _ _ rfl _ 1 rfl (.slice (some ⟨gg, 0, none⟩) (Ss.length + 1) cap) rfl _ _ KB6.out (by simp) rfl size_sagas ?_
                    intro w7 hw7 K7
                    refine hK.out _ _ (But.trans hHeld (But.wrote hw7)) (fun hHeld => ?_)
                    clear hK K
                    try go_frame
                    refine wpAnyH_done (by kernel_rfl) ?_ _
                    have HS2 := Lib.hid (st2_end HA.out hlt0 HXE.out HFE.out HBC.out HO5.out P1.out O2.out (fun i a b => (O3.out i a b).through HBC.out) hown6 hgrow hw7 K7)
                    clear hHeld hw7 K7 hown6 hgrow
                    go_wp2_with fail
                    all_goals go_roundw
                    case rel => exact ⟨j + 1, ⟨some ⟨gg, 0, none⟩, Ss.length + 1, cap⟩, Ss ++ [E], by go_num, by omega, HS2⟩
                    case measure => simp [intOf]; omega
                  exact AllReadyH.nil
                exact AllReadyH.nil
              exact AllReadyH.nil
            exact AllReadyH.nil
          refine AllReadyH.cons (o := { dst := some 48, op := Op.call { callee := Callee.value (Operand.func 40), args := #[Operand.tmp 47], argTypes := #[40] }, type := 40, pos := "replay.go:53", after := #[{ on := 7, ground := Ground.data }], guard := none }) rfl (fun K hK => ?_) ?_
          · go_simp
            refine (clone_rd s E _ (HRD.out.below (Below.refl _ _).drew) HSM.out).mono ?_
            rintro e w5 ⟨s', rfl, ho5, hb5⟩
            have hs5 : wr.heap.size ≤ w5.heap.size := hb5.size
            have HBC := Lib.hid (show Below wr.heap.size wr w5 from ⟨hb5.os, hb5.tape, hb5.output, hb5.size, hb5.block⟩)
            have HO5 := Lib.hid (ho5.lower (c := w.heap.size) HA.out.below.size)
            have KB5 := Lib.hid (KB.out.below HBC.out (blk_lt KB.out))
            have P1 := Lib.hid (own_through O1.out HBC.out)
            clear ho5
            try dsimp only [SagaV.val, Sl.v]
            try go_wp2_with fail
            refine hK.out _ _ (But.trans hHeld (But.of hb5)) (fun hHeld => ?_)
            clear hK K
            try go_frame
            refine wpAnyH_ready (rs := [1, 9]) (by kernel_rfl) (by simp) ?_
            refine AllReadyH.cons (o := { dst := some 41, op := Op.load 25 (Operand.tmp 40), type := 25, pos := "replay.go:53", after := #[{ on := 0, ground := Ground.data }], guard := none }) rfl (fun K hK => ?_) ?_
            · refine step_load_c1 rfl _ _ rfl _ rfl (.slice va vn vc) (((show BlkAt w5 G #[.int .i64 n, .slice va vn vc] 27 from KB5.out).cell 1).trans rfl) one_sagas ?_
              refine hK.out _ _ (hHeld) (fun hHeld => ?_)
              clear hK K
              try go_frame
              refine wpAnyH_ready (rs := [9]) (by kernel_rfl) (by simp) ?_
              refine AllReadyH.cons (o := { dst := some 49, op := Op.buildSlice 25 1 #[(0, Operand.tmp 48)], type := 25, pos := "replay.go:53", after := #[{ on := 8, ground := Ground.data }], guard := none }) rfl (fun K hK => ?_) ?_
              · go_simp
                have KB5p := Lib.hid (KB5.out.push (.cells #[.int .i64 s'.id, .string s'.name, .int .i64 s'.count, .int .i64 s'.pivot, .int .i64 s'.begun, .int .i64 s'.at_, .slice s'.input.a s'.input.n s'.input.c, .int .i64 s'.phase, .int .i64 s'.next, .bool s'.flight, .int .i64 s'.tries, .slice s'.outs.a s'.outs.n s'.outs.c, .slice s'.undos.a s'.undos.n s'.undos.c, .int .i64 s'.failStep, .int .i64 s'.failCode, .slice s'.fail.a s'.fail.n s'.fail.c] 40))
                refine hK.out _ _ (But.trans hHeld (But.of (boxd (Below.refl _ _)))) (fun hHeld => ?_)
                clear hK K
                try go_frame
                refine wpAnyH_ready (rs := [10]) (by kernel_rfl) (by simp) ?_
                refine AllReadyH.cons (o := { dst := some 50, op := Op.call { callee := Callee.builtin Builtin.append, args := #[Operand.tmp 41, Operand.tmp 49], argTypes := #[25, 25] }, type := 25, pos := "replay.go:53", after := #[{ on := 1, ground := Ground.data }, { on := 9, ground := Ground.data }, { on := 8, ground := Ground.chain }], guard := none }) rfl (fun K hK => ?_) ?_
                · refine step_append_lies _ (by rfl) _ _ _ (by rfl) w.heap.size 40 i0 _ 16 200 Tryd.underlying25 hi0 hz0 hz1 hz2 rfl (by omega) (.slice va vn vc) Ss.length (ss.flatMap SagaV.cells) (by rfl) (P1.out.alloc _) ⟨w5.heap.size, 0, none⟩ 1 1 [.int .i64 s'.id, .string s'.name, .int .i64 s'.count, .int .i64 s'.pivot, .int .i64 s'.begun, .int .i64 s'.at_, .slice s'.input.a s'.input.n s'.input.c, .int .i64 s'.phase, .int .i64 s'.next, .bool s'.flight, .int .i64 s'.tries, .slice s'.outs.a s'.outs.n s'.outs.c, .slice s'.undos.a s'.undos.n s'.undos.c, .int .i64 s'.failStep, .int .i64 s'.failCode, .slice s'.fail.a s'.fail.n s'.fail.c] (by rfl) (by rfl) (World.news_of_block (cs := #[.int .i64 s'.id, .string s'.name, .int .i64 s'.count, .int .i64 s'.pivot, .int .i64 s'.begun, .int .i64 s'.at_, .slice s'.input.a s'.input.n s'.input.c, .int .i64 s'.phase, .int .i64 s'.next, .bool s'.flight, .int .i64 s'.tries, .slice s'.outs.a s'.outs.n s'.outs.c, .slice s'.undos.a s'.undos.n s'.undos.c, .int .i64 s'.failStep, .int .i64 s'.failCode, .slice s'.fail.a s'.fail.n s'.fail.c]) (t := 40) (fr := (0, 0)) (heap_alloc_new w5 _)) (by simp [Value.oneCell']) (by omega) (by simp only [maxLen]; omega) (by omega) (by simp; have := HA.out.below.size; omega) (w5.heap.size + 1) (by simp) ?_
                  intro gg cap w6 hown6 hgrow hat hlt
                  have KB6 := Lib.hid (blk_grown KB5p.out hgrow (Ne.symm (own_no_blk (P1.out.alloc _) KB5p.out (by decide))))
                  refine hK.out _ _ (But.trans hHeld (But.row hgrow HQB.out)) (fun hHeld => ?_)
                  clear hK K
                  try go_frame
                  refine wpAnyH_take (i := 11) (oi := { dst := some 51, op := Op.fieldAddr 27 (Operand.tmp 5) 1, type := 0, pos := "replay.go:53", after := #[{ on := 0, ground := Ground.phase }, { on := 1, ground := Ground.phase }, { on := 2, ground := Ground.phase }, { on := 3, ground := Ground.phase }, { on := 4, ground := Ground.phase }, { on := 5, ground := Ground.phase }, { on := 6, ground := Ground.phase }, { on := 7, ground := Ground.phase }, { on := 8, ground := Ground.phase }, { on := 9, ground := Ground.phase }, { on := 10, ground := Ground.phase }], guard := none }) (v := ?_) rfl (by kernel_rfl) (by kernel_rfl) (by kernel_rfl) (fun _ _ _ h => h) (Or.inl ⟨by rfl, ?_⟩) (by assumption) ?_
                  rotate_left 1
                  focus (intro w hSw; (try clear hSw); go_simp; try (with_reducible rfl))
                  try go_frame
                  refine wpAnyH_ready (rs := [12]) (by kernel_rfl) (by simp) ?_
                  refine AllReadyH.cons (o := { dst := none, op := Op.store 25 (Operand.tmp 51) (Operand.tmp 50), type := 0, pos := "replay.go:53", after := #[{ on := 11, ground := Ground.data }, { on := 10, ground := Ground.data }, { on := 10, ground := Ground.chain }, { on := 0, ground := Ground.phase }, { on := 1, ground := Ground.phase }, { on := 2, ground := Ground.phase }, { on := 3, ground := Ground.phase }, { on := 4, ground := Ground.phase }, { on := 5, ground := Ground.phase }, { on := 6, ground := Ground.phase }, { on := 7, ground := Ground.phase }, { on := 8, ground := Ground.phase }, { on := 9, ground := Ground.phase }, { on := 10, ground := Ground.phase }], guard := none }) rfl (fun K hK => ?_) ?_
                  · refine step_store_one rfl _ _ _ rfl _ 1 rfl (.slice (some ⟨gg, 0, none⟩) (Ss.length + 1) cap) rfl _ _ KB6.out (by simp) rfl size_sagas ?_
                    intro w7 hw7 K7
                    refine hK.out _ _ (But.trans hHeld (But.wrote hw7)) (fun hHeld => ?_)
                    clear hK K
                    try go_frame
                    refine wpAnyH_done (by kernel_rfl) ?_ _
                    have HS2 := Lib.hid (st2_end HA.out hlt0 HXE.out HFE.out HBC.out HO5.out P1.out O2.out (fun i a b => (O3.out i a b).through HBC.out) hown6 hgrow hw7 K7)
                    clear hHeld hw7 K7 hown6 hgrow
                    go_wp2_with fail
                    all_goals go_roundw
                    case rel => exact ⟨j + 1, ⟨some ⟨gg, 0, none⟩, Ss.length + 1, cap⟩, Ss ++ [E], by go_num, by omega, HS2⟩
                    case measure => simp [intOf]; omega
                  exact AllReadyH.nil
                exact AllReadyH.nil
              exact AllReadyH.nil
            refine AllReadyH.cons (o := { dst := some 49, op := Op.buildSlice 25 1 #[(0, Operand.tmp 48)], type := 25, pos := "replay.go:53", after := #[{ on := 8, ground := Ground.data }], guard := none }) rfl (fun K hK => ?_) ?_
            · go_simp
              have KB5p := Lib.hid (KB5.out.push (.cells #[.int .i64 s'.id, .string s'.name, .int .i64 s'.count, .int .i64 s'.pivot, .int .i64 s'.begun, .int .i64 s'.at_, .slice s'.input.a s'.input.n s'.input.c, .int .i64 s'.phase, .int .i64 s'.next, .bool s'.flight, .int .i64 s'.tries, .slice s'.outs.a s'.outs.n s'.outs.c, .slice s'.undos.a s'.undos.n s'.undos.c, .int .i64 s'.failStep, .int .i64 s'.failCode, .slice s'.fail.a s'.fail.n s'.fail.c] 40))
              refine hK.out _ _ (But.trans hHeld (But.of (boxd (Below.refl _ _)))) (fun hHeld => ?_)
              clear hK K
              try go_frame
              refine wpAnyH_ready (rs := [1]) (by kernel_rfl) (by simp) ?_
              refine AllReadyH.cons (o := { dst := some 41, op := Op.load 25 (Operand.tmp 40), type := 25, pos := "replay.go:53", after := #[{ on := 0, ground := Ground.data }], guard := none }) rfl (fun K hK => ?_) ?_
              · refine step_load_c1 rfl _ _ rfl _ rfl (.slice va vn vc) (((show BlkAt (w5.alloc (.cells #[.int .i64 s'.id, .string s'.name, .int .i64 s'.count, .int .i64 s'.pivot, .int .i64 s'.begun, .int .i64 s'.at_, .slice s'.input.a s'.input.n s'.input.c, .int .i64 s'.phase, .int .i64 s'.next, .bool s'.flight, .int .i64 s'.tries, .slice s'.outs.a s'.outs.n s'.outs.c, .slice s'.undos.a s'.undos.n s'.undos.c, .int .i64 s'.failStep, .int .i64 s'.failCode, .slice s'.fail.a s'.fail.n s'.fail.c] 40)) G #[.int .i64 n, .slice va vn vc] 27 from KB5p.out).cell 1).trans rfl) one_sagas ?_
                refine hK.out _ _ (hHeld) (fun hHeld => ?_)
                clear hK K
                try go_frame
                refine wpAnyH_ready (rs := [10]) (by kernel_rfl) (by simp) ?_
                refine AllReadyH.cons (o := { dst := some 50, op := Op.call { callee := Callee.builtin Builtin.append, args := #[Operand.tmp 41, Operand.tmp 49], argTypes := #[25, 25] }, type := 25, pos := "replay.go:53", after := #[{ on := 1, ground := Ground.data }, { on := 9, ground := Ground.data }, { on := 8, ground := Ground.chain }], guard := none }) rfl (fun K hK => ?_) ?_
                · refine step_append_lies _ (by rfl) _ _ _ (by rfl) w.heap.size 40 i0 _ 16 200 Tryd.underlying25 hi0 hz0 hz1 hz2 rfl (by omega) (.slice va vn vc) Ss.length (ss.flatMap SagaV.cells) (by rfl) (P1.out.alloc _) ⟨w5.heap.size, 0, none⟩ 1 1 [.int .i64 s'.id, .string s'.name, .int .i64 s'.count, .int .i64 s'.pivot, .int .i64 s'.begun, .int .i64 s'.at_, .slice s'.input.a s'.input.n s'.input.c, .int .i64 s'.phase, .int .i64 s'.next, .bool s'.flight, .int .i64 s'.tries, .slice s'.outs.a s'.outs.n s'.outs.c, .slice s'.undos.a s'.undos.n s'.undos.c, .int .i64 s'.failStep, .int .i64 s'.failCode, .slice s'.fail.a s'.fail.n s'.fail.c] (by rfl) (by rfl) (World.news_of_block (cs := #[.int .i64 s'.id, .string s'.name, .int .i64 s'.count, .int .i64 s'.pivot, .int .i64 s'.begun, .int .i64 s'.at_, .slice s'.input.a s'.input.n s'.input.c, .int .i64 s'.phase, .int .i64 s'.next, .bool s'.flight, .int .i64 s'.tries, .slice s'.outs.a s'.outs.n s'.outs.c, .slice s'.undos.a s'.undos.n s'.undos.c, .int .i64 s'.failStep, .int .i64 s'.failCode, .slice s'.fail.a s'.fail.n s'.fail.c]) (t := 40) (fr := (0, 0)) (heap_alloc_new w5 _)) (by simp [Value.oneCell']) (by omega) (by simp only [maxLen]; omega) (by omega) (by simp; have := HA.out.below.size; omega) (w5.heap.size + 1) (by simp) ?_
                  intro gg cap w6 hown6 hgrow hat hlt
                  have KB6 := Lib.hid (blk_grown KB5p.out hgrow (Ne.symm (own_no_blk (P1.out.alloc _) KB5p.out (by decide))))
                  refine hK.out _ _ (But.trans hHeld (But.row hgrow HQB.out)) (fun hHeld => ?_)
                  clear hK K
                  try go_frame
                  refine wpAnyH_take (i := 11) (oi := { dst := some 51, op := Op.fieldAddr 27 (Operand.tmp 5) 1, type := 0, pos := "replay.go:53", after := #[{ on := 0, ground := Ground.phase }, { on := 1, ground := Ground.phase }, { on := 2, ground := Ground.phase }, { on := 3, ground := Ground.phase }, { on := 4, ground := Ground.phase }, { on := 5, ground := Ground.phase }, { on := 6, ground := Ground.phase }, { on := 7, ground := Ground.phase }, { on := 8, ground := Ground.phase }, { on := 9, ground := Ground.phase }, { on := 10, ground := Ground.phase }], guard := none }) (v := ?_) rfl (by kernel_rfl) (by kernel_rfl) (by kernel_rfl) (fun _ _ _ h => h) (Or.inl ⟨by rfl, ?_⟩) (by assumption) ?_
                  rotate_left 1
                  focus (intro w hSw; (try clear hSw); go_simp; try (with_reducible rfl))
                  try go_frame
                  refine wpAnyH_ready (rs := [12]) (by kernel_rfl) (by simp) ?_
                  refine AllReadyH.cons (o := { dst := none, op := Op.store 25 (Operand.tmp 51) (Operand.tmp 50), type := 0, pos := "replay.go:53", after := #[{ on := 11, ground := Ground.data }, { on := 10, ground := Ground.data }, { on := 10, ground := Ground.chain }, { on := 0, ground := Ground.phase }, { on := 1, ground := Ground.phase }, { on := 2, ground := Ground.phase }, { on := 3, ground := Ground.phase }, { on := 4, ground := Ground.phase }, { on := 5, ground := Ground.phase }, { on := 6, ground := Ground.phase }, { on := 7, ground := Ground.phase }, { on := 8, ground := Ground.phase }, { on := 9, ground := Ground.phase }, { on := 10, ground := Ground.phase }], guard := none }) rfl (fun K hK => ?_) ?_
                  · refine step_store_one rfl _ _ _ rfl _ 1 rfl (.slice (some ⟨gg, 0, none⟩) (Ss.length + 1) cap) rfl _ _ KB6.out (by simp) rfl size_sagas ?_
                    intro w7 hw7 K7
                    refine hK.out _ _ (But.trans hHeld (But.wrote hw7)) (fun hHeld => ?_)
                    clear hK K
                    try go_frame
                    refine wpAnyH_done (by kernel_rfl) ?_ _
                    have HS2 := Lib.hid (st2_end HA.out hlt0 HXE.out HFE.out HBC.out HO5.out P1.out O2.out (fun i a b => (O3.out i a b).through HBC.out) hown6 hgrow hw7 K7)
                    clear hHeld hw7 K7 hown6 hgrow
                    go_wp2_with fail
                    all_goals go_roundw
                    case rel => exact ⟨j + 1, ⟨some ⟨gg, 0, none⟩, Ss.length + 1, cap⟩, Ss ++ [E], by go_num, by omega, HS2⟩
                    case measure => simp [intOf]; omega
                  exact AllReadyH.nil
                exact AllReadyH.nil
              exact AllReadyH.nil
            exact AllReadyH.nil
          exact AllReadyH.nil
        · have hje : j = ts.length := by omega
          subst hje
          have KB := HA.out.box
          have KZ := HA.out.zb
          have hSO : StateOf f Ss := state_of HD.out HC.out HL0.out HP.out HS.out (by rw [HA.out.ids, List.take_length]) HA.out.mem
          go_wp2_with (first
            | (refine wpList_load_blk rfl _ _ rfl _ rfl _ _ KB rowState ?_)
            | (refine wpList_store_blk rfl _ _ _ rfl _ rfl #[.int .i64 n, .slice va vn vc] rfl _ _ KZ (by rfl) (by simp [Value.oneCell']) rowState ?_; intro w9 hw9 K9))
          exact bodyPost_ret (results_row rfl _ _ _ _ _ rfl K9 rowState) rfl ⟨⟨va, vn, vc⟩, rfl, Ss, HA.out.own.wrote hw9 KZ (by decide) (by decide) (by decide), hSO, hw9.below HA.out.below (Nat.le_refl _)⟩
    · intro x c w1 cnt1 hwx hlx hat hrg1 hlt hg1 hs1 hen
      have hnR := own_no_iter HOR.out HRG.out
      have HO1 := Lib.hid (HOR.out.kept hg1 (by rcases h : u3.ownBlock with _ | q
                                                · exact .inl rfl
                                                · exact .inr (by rw [h] at hnR; exact fun e => hnR e.symm)))
      have HB1 := Lib.hid (HB.out.grown hg1 HB.out.size (fun q hq => by cases hq; omega))
      have HZ1 := Lib.hid (blk_grown HZ.out hg1 (by simp; omega))
      have HC1 := Lib.hid (HC.out.step hwx hlx hat)
      have HRG1 := Lib.hid hrg1
      have HG1 := Lib.hid hg1
      have HL1 := Lib.hid (show (ks ++ [x]).length + cnt1 ≤ Maps.size D by have := HL.out; simp; omega)
      have hkn : ks.length ≤ n := by have := HL.out; omega
      have HLT := Lib.hid hlt
      have HRGO := Lib.hid HRG.out
      clear hwx hlx hat hrg1 hg1 hs1 HOR HB HZ HC HL hnR hlt HRG
      go_wp2_with (at_builtin; refine wpList_append_row _ rfl (.tmp 23) (.tmp 25) 34 rfl w.heap.size 3 (.int .i64 0) 8 Tryd.underlying34 infoI rfl _ _ _ rfl (World.ownsRow.alloc HO1.out _) ⟨some ⟨w1.heap.size, 0, none⟩, 1, 1⟩ [.int .i64 x] rfl (RowAt.of_lit1 w1 _ _) (by simp [Value.oneCell']) ?c1 ?c2 ?c3 ?_)
      case c1 => simp only [maxLen]; omega
      case c2 => omega
      case c3 => have := HB1.out.size; simp; omega
      intro v' w2 hown hgr
      have HO2 : Hid (w2.ownsRow w.heap.size 3 1 v' (ks ++ [x]).length ((ks ++ [x]).map (Value.int .i64))) := Lib.hid (by simpa using hown)
      have HB2 := Lib.hid ((HB1.out.alloc HB1.out.size _).grown hgr (by have := HB1.out.size; simp; omega) (fun q hq => (HO1.out.lt q hq).1))
      have KA := World.ownsRow.alloc HO1.out (.cells #[.int .i64 x] 3)
      have HZ2 := Lib.hid (blk_grown (HZ1.out.push _) hgr (Ne.symm (own_no_blk KA (HZ1.out.push _) (by decide))))
      have HRG2 := Lib.hid ((HRG1.out.alloc _).kept hgr (own_no_map KA (HRG1.out.alloc _)) (own_no_iter KA (HRG1.out.alloc _)))
      clear hown hgr HO1 HB1 HZ1 HRG1 KA
      go_wp2
      all_goals go_roundw
      case rel => exact ⟨_, cnt1, ks ++ [x], HRG2, HC1, HL1, HO2, HB2, HZ2⟩
      case measure => rw [HRG2.out.left_eq, HRGO.out.left_eq]; exact HLT.out

end Go.Proofs.YtfbaliimjmimhaaDoor
