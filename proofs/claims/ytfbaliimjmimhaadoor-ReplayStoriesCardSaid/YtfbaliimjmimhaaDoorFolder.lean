/-
  NewFolder and Folder.Add walked: a folder takes a record as addN says, and holds addB's bag. Conditions: as each theorem says. (Printed by wip/gen_folder.py.)
-/
import Derived.Test.YtfbaliimjmimhaaDoorBagAt
import Derived.Test.YtfbaliimjmimhaaDoorReg3
import Derived.Deep.DeepCutAuto
import Derived.Deep.CutBlock
namespace Go.Proofs.YtfbaliimjmimhaaDoor
open Go.RowKit

/-- A folder at a block: it has folded n records. -/
structure FolderAt (w : World) (base b m n : Nat) (f : Bag) : Prop where
  blk : BlkAt w b #[.int .i64 n, .map (some m)] 76
  bag : BagAt w base m n f
  le : base ≤ b
theorem FolderAt.below {w w' : World} {base b m n : Nat} {f : Bag} (h : FolderAt w base b m n f) (hb : Below w.heap.size w w') : FolderAt w' base b m n f := ⟨h.blk.below hb (blk_lt h.blk), h.bag.below hb, h.le⟩
theorem FolderAt.wrote {w w' : World} {base b m n g : Nat} {f : Bag} {cs : Array Value} {t : TypeId} (h : FolderAt w base b m n f) (hw : Wrote w w' g) (hk : BlkAt w g cs t) (h1 : t ≠ 5) (h2 : t ≠ 37) (h3 : t ≠ 76) : FolderAt w' base b m n f := by
  refine ⟨hw.blk h.blk (fun e => ?_), h.bag.wrote hw hk h1 h2, h.le⟩
  subst e
  have := h.blk
  rw [BlkAt, show w.heap[b]? = _ from hk] at this
  simp at this
  exact h3 this.2
theorem one_map : OneTy Tryd.prog 74 := ⟨_, Tryd.underlying74, rfl⟩
theorem zeroSagaVal : ∀ w, (zeroValue 40).run Tryd.prog w = .ok (.agg zeroSagaArr) w := fun _ => by kernel_rfl

section
variable {P : Program} {ops : Array Oper} {S : World → Prop}
theorem yl_lookup_ok {o : Oper} {a : Act} (hgd : o.guard = none) (m x : Operand) (t : TypeId) (ho : o.op = Op.lookup t m x true) (b n : Nat) (D : DataW Value) (k e : TypeId) (K : Maps.Keyed P k) (ht : P.underlying t = some (.map k e)) (z : Value) (hz : ∀ w, (zeroValue e).run P w = .ok z w)
    (hm : a.eval m = .map (some b)) (key : Value) (kl : Lit) (hx : a.eval x = key) (hkey : keyOf P k key = some kl) (hown : ∀ w, S w → w.ownsMap P k heldR b n D) (v : Value) (c : Bool) (hc : Maps.has D kl = c) (hv : D.atKey kl (.held z) = .held v) : YieldsIf P ops S o (.tuple #[v, .bool c]) a := .inl ⟨by simp [Region.wanted, hgd], fun w hS => by
  obtain ⟨v', ps, hrun, hR⟩ := (hown w hS).look_ok K ht (hz w) (zd := .held z) (zp := []) rfl hkey
  have e1 : v' = v := by
    unfold heldR at hR
    rw [hv] at hR
    simp only [Option.some.injEq, Prod.mk.injEq, DataW.held.injEq] at hR
    exact hR.1
  subst e1
  rw [hc] at hrun
  unfold execOp
  simp [ho, hm, hx, hrun, Result.andThen]⟩
theorem yl_lookup {o : Oper} {a : Act} (hgd : o.guard = none) (m x : Operand) (t : TypeId) (ho : o.op = Op.lookup t m x false) (b n : Nat) (D : DataW Value) (k e : TypeId) (K : Maps.Keyed P k) (ht : P.underlying t = some (.map k e)) (z : Value) (hz : ∀ w, (zeroValue e).run P w = .ok z w)
    (hm : a.eval m = .map (some b)) (key : Value) (kl : Lit) (hx : a.eval x = key) (hkey : keyOf P k key = some kl) (hown : ∀ w, S w → w.ownsMap P k heldR b n D) (v : Value) (hv : D.atKey kl (.held z) = .held v) : YieldsIf P ops S o v a := .inl ⟨by simp [Region.wanted, hgd], fun w hS => by
  obtain ⟨v', ps, hrun, hR⟩ := (hown w hS).lookup K ht (hz w) (zd := .held z) (zp := []) rfl hkey
  have e1 : v' = v := by
    unfold heldR at hR
    rw [hv] at hR
    simp only [Option.some.injEq, Prod.mk.injEq, DataW.held.injEq] at hR
    exact hR.1
  subst e1
  unfold execOp
  simp [ho, hm, hx, hrun, Result.andThen]⟩
theorem step_mapUpdate {o : Oper} {a : Act} {w : World} {K : Act → World → Prop} {Q : Exit → Act → World → Prop} {E : Prop} (hgd : o.guard = none) (m x v : Operand) (t : TypeId) (ho : o.op = Op.mapUpdate t m x v) (k e : TypeId) (Ky : Maps.Keyed P k) (ht : P.underlying t = some (.map k e)) (b n : Nat) (D : DataW Value)
    (hm : a.eval m = .map (some b)) (hown : w.ownsMap P k heldR b n D) (hn : n < maxLen) (key val : Value) (kl : Lit) (hx : a.eval x = key) (hv : a.eval v = val) (hkey : keyOf P k key = some kl)
    (h : ∀ w', w'.ownsMap P k heldR b (n + 1) (D.put kl (.held val)) → w.grownBy w' (some b) → K (a.put o.dst undef) w') : if Region.wanted o (yielded ops a.tmps) = true then Oper.wp P o a w K Q else E := by
  have hw : Region.wanted o (yielded ops a.tmps) = true := by simp [Region.wanted, hgd]
  rw [if_pos hw]
  obtain ⟨w', hrun, r1, r2⟩ := hown.update Ky ht hn hkey (d := .held val) (ps := []) (val := val) rfl
  unfold Oper.wp
  simp [execOp, ho, hm, hx, hv, hrun, Result.andThen]
  exact h w' r1 r2
end

/-- How a record's taking ends. -/
theorem folder_end {w wd wy : World} {base b m n : Nat} {f : Bag} {D : DataW Value} {id : Int} {s : SagaV} {A : SagaD} (hF : FolderAt w base b m n f) (hB : Below w.heap.size w wd) (hK : BlkAt wd b #[.int .i64 n, .map (some m)] 76)
    (hO : wd.ownsMap Tryd.prog 3 heldR m n D) (hD : BagD wd base f D) (hw : (Lit.int .i64 id).wf = true) (hs : SagaOwn wd base s A) (hM : wy.ownsMap Tryd.prog 3 heldR m (n + 1) (D.put (.int .i64 id) (.held (.agg (sagaArr s))))) (hG : wd.grownBy wy (some m)) (hbm : b ≠ m) :
    FolderAt (wy.setCell ⟨b, 0, none⟩ (.int .i64 ((n : Int) + 1))) base b m (n + 1) (putB f id A) ∧ But w (wy.setCell ⟨b, 0, none⟩ (.int .i64 ((n : Int) + 1))) b m := by
  have hDy := BagD.put hD hO hw hs hG
  have KFy := (But.grown (b := m) hG).blk hK hbm hbm
  have RK := RowsKept.set (i := 0) KFy (by decide) (by decide) (.int .i64 ((n : Int) + 1))
  have hm : (wy.setCell ⟨b, 0, none⟩ (.int .i64 ((n : Int) + 1))).heap[m]? = wy.heap[m]? := Below.heap_setCell wy _ _ m (fun e => hbm e.symm)
  refine ⟨⟨?_, BagAt.heap ⟨hF.bag.1, _, hM, hDy⟩ hm RK, hF.le⟩, ?_⟩
  · have := KFy.set (i := 0) (.int .i64 ((n : Int) + 1))
    simpa using this
  · have q := (But.of (b := b) (m := m) hB).trans (But.grown hG)
    exact ⟨q.os, q.tape, q.output, by simpa using q.size, fun k hk h1 h2 => (Below.heap_setCell wy _ _ k h1).trans (q.block k hk h1 h2)⟩
set_option maxRecDepth 100000 in
theorem newFolder_any (w : World) : Calls Tryd.prog 22 #[] w fun e w' => ∃ b m : Nat, e = .returned (.pointer (some ⟨b, 0, none⟩)) ∧ FolderAt w' w.heap.size b m 0 (fun _ => none) ∧ Below w.heap.size w w' := by
  have K := Lib.hid (BagAt.made w (Nat.le_refl _))
  have hB := Below.refl w.heap.size w
  have KB := BlkAt.new (w.alloc (.map #[] 0)) #[.int .i64 0, .map (some w.heap.size)] 76
  rw [World.size_alloc] at KB
  have KB := Lib.hid KB
  have hmk : (Instr.makeMap 74 none).run Tryd.prog w = .ok (.map (some w.heap.size)) (w.alloc (.map #[] 0)) := rfl
  go_enter Tryd.func22, Tryd.ntmps22
  go_wp2
  all_goals go_ret
  all_goals exact ⟨_, w.heap.size, rfl, ⟨KB.out, K.out.below ((Below.refl _ _).alloc (Nat.le_refl _) _), by simp⟩, (hB.alloc (Nat.le_refl _) _).alloc (by simp) _⟩

set_option maxRecDepth 10000000 in
set_option maxHeartbeats 4000000 in
theorem folderAdd_1 (base b m n : Nat) (f : Bag) (r : RecV) (R : RecD) (w : World) (ht : Tables w) (hF : FolderAt w base b m n f) (hr : RecRd w r R) (fr : RecFits R) (h1 : ¬ recD R = 0) :
    Calls Tryd.prog 23 #[.pointer (some ⟨b, 0, none⟩), r.val] w fun e w' => e = .returned (.int .i64 (addN f R)) ∧ FolderAt w' base b m (if addN f R = 0 then n + 1 else n) (addB f R) ∧ But w w' b m := by
  have e1 : addN f R = recD R := by unfold addN oneN; rw [if_pos h1]
  have e2 : addB f R = f := by unfold addB; rw [if_pos (by rw [e1]; exact h1)]
  rw [e1, e2, if_neg h1]
  have hrs : r.saga = R.saga := by rw [hr.eq]
  have hok : RecOk w r R.data := ⟨by rw [hr.eq]; exact fr.name, fr.len, hr.data⟩
  have hRN := hr.recEq
  have hb1 := boxd (o := .cells (recArr r) 44) (Below.refl w.heap.size w)
  have KR := BlkAt.new w (recArr r) 44
  have cC := recCheck_any r R.data _ (ht.below hb1).tabs (ht.below hb1).may (hok.below hb1)
  rw [hRN] at cC
  have CC := Lib.hid cC
  have HF := Lib.hid hF
  have HB1 := Lib.hid hb1
  obtain ⟨E, hE⟩ : ∃ x, recD R = x := ⟨_, rfl⟩
  rw [hE] at CC h1
  rw [hE]
  have H2 : (E != 0) = true := by rw [bne_iff_ne]; exact h1
  clear cC hok hRN hb1 hE h1 e1 e2 ht hr fr hF hrs
  dsimp only [RecV.val, recArr, Sl.v] at CC KR HB1
  dsimp only [RecV.val, Sl.v]
  go_enter Tryd.func23, Tryd.ntmps23
  go_wp2_with (refine wpList_load_blk rfl _ _ rfl _ rfl _ _ KR rowRec ?_)
  refine CC.out.mono ?_
  rintro e w2 ⟨rfl, hb⟩
  have HB2 := Lib.hid (then_ HB1.out hb)
  clear hb CC KR HB1
  go_wp2
  all_goals go_ret
  all_goals exact ⟨rfl, HF.out.below HB2.out, But.of HB2.out⟩

set_option maxRecDepth 10000000 in
set_option maxHeartbeats 8000000 in
theorem folderAdd_2 (base b m n : Nat) (f : Bag) (r : RecV) (R : RecD) (w : World) (ht : Tables w) (hl : LandsAt w) (hF : FolderAt w base b m n f) (hg : GoodBag f) (hr : RecRd w r R) (fr : RecFits R) (hw : (Lit.int .i64 R.saga).wf = true) (hn : n ≤ 1099511627776) (h1 : recD R = 0) (E : SagaD) (hE : f R.saga = some E) :
    Calls Tryd.prog 23 #[.pointer (some ⟨b, 0, none⟩), r.val] w fun e w' => e = .returned (.int .i64 (addN f R)) ∧ FolderAt w' base b m (if addN f R = 0 then n + 1 else n) (addB f R) ∧ But w w' b m := by
  have e1 : addN f R = applyN E R := by unfold addN oneN; rw [if_neg (by simp [h1]), hE]
  have e3 : oneD (f R.saga) R = applyD E R := by unfold oneD; rw [hE]
  have e2 : addB f R = if ¬ applyN E R = 0 then f else putB f R.saga (applyD E R) := by unfold addB; rw [e1, e3]
  rw [e1, e2]
  obtain ⟨N, hN⟩ : ∃ x, applyN E R = x := ⟨_, rfl⟩
  obtain ⟨A, hA⟩ : ∃ x, applyD E R = x := ⟨_, rfl⟩
  rw [hN, hA]
  obtain ⟨n', hn'⟩ : ∃ x, (if N = 0 then n + 1 else n) = x := ⟨_, rfl⟩
  obtain ⟨g', hg'⟩ : ∃ x, (if ¬ N = 0 then f else putB f R.saga A) = x := ⟨_, rfl⟩
  rw [hn', hg']
  have HN' := Lib.hid hn'
  have HG' := Lib.hid hg'
  have HN := Lib.hid hN
  have HA := Lib.hid hA
  clear hn' hg' hN hA
  have hrs : r.saga = R.saga := by rw [hr.eq]
  have hok : RecOk w r R.data := ⟨by rw [hr.eq]; exact fr.name, fr.len, hr.data⟩
  have hRN := hr.recEq
  have hb1 := boxd (o := .cells (recArr r) 44) (Below.refl w.heap.size w)
  have KR := BlkAt.new w (recArr r) 44
  have cC := recCheck_any r R.data _ (ht.below hb1).tabs (ht.below hb1).may (hok.below hb1)
  rw [hRN] at cC
  rw [h1] at cC
  obtain ⟨hbase, D, hown, hD⟩ := hF.bag
  have hkey : keyOf Tryd.prog 3 (.int .i64 r.saga) = some (.int .i64 R.saga) := by rw [hrs]; exact Maps.keyOf_int_mk Tryd.underlying3 hw
  have hbm := hF.bag.blk_ne hF.blk
  obtain ⟨_, s, hat, hso⟩ := hD.at_ _ _ hE
  have hhas : Maps.has D (.int .i64 R.saga) = true := (hD.has _ hw).2 (by rw [hE]; simp)
  have HAT := Lib.hid (hat (.held (.agg zeroSagaArr)))
  have FE := Lib.hid (hg.fits hE)
  have HSO := Lib.hid hso
  have HSM := Lib.hid (hg.good _ _ hE).small
  have HHAS := Lib.hid hhas
  have HKEY := Lib.hid hkey
  have HW := Lib.hid hw
  have CC := Lib.hid cC
  have HF := Lib.hid hF
  have HB1 := Lib.hid hb1
  have HO := Lib.hid hown
  have HD := Lib.hid hD
  have HT := Lib.hid ht
  have HL := Lib.hid hl
  have HRR := Lib.hid hr
  have FR := Lib.hid fr
  have HBM := Lib.hid hbm
  have hlb := blk_lt hF.blk
  have hlm := hown.lt
  clear cC hok hRN hb1 h1 e1 e2 e3 ht hl hr fr hF hrs hown hD hhas hkey hw hE hat hso hg hbm
  dsimp only [RecV.val, recArr, Sl.v] at CC KR HB1
  dsimp only [RecV.val, Sl.v]
  go_enter Tryd.func23, Tryd.ntmps23
  go_wp2_with (refine wpList_load_blk rfl _ _ rfl _ rfl _ _ KR rowRec ?_)
  refine CC.out.mono ?_
  rintro e w2 ⟨rfl, hb⟩
  have h12 := hb.size
  simp only [World.size_alloc] at h12
  have HB2 := Lib.hid (then_ HB1.out hb)
  have KR2 := Lib.hid (KR.below hb (by simp))
  have KF := Lib.hid (HF.out.blk.below HB2.out hlb)
  have HO2 := Lib.hid (HO.out.kept (grown_below' HB2.out none) (by simp))
  clear hb CC KR HB1
  go_upto_region 4 with fail
  go_cut [6, 7] (fun s6 s7 wx => s6 = .pointer (some ⟨w2.heap.size, 0, none⟩) ∧ s7 = .bool true ∧ Hid (Since w2 wx) ∧ Hid (BlkAt wx w2.heap.size (sagaArr s) 40))
  case first =>
    refine wp_region_held_drew (S := Since w2) (by kernel_rfl) ((Since.refl w2).drew) (fun hHeld => ?_)
    refine wpAnyH_take (i := 0) (oi := { dst := some 15, op := Op.move (Operand.tmp 0), type := 57, pos := "replay.go:29", after := #[], guard := none }) (v := ?_) rfl (by kernel_rfl) (by kernel_rfl) (by kernel_rfl) (fun _ _ _ h => h) (Or.inl ⟨by rfl, ?_⟩) (by assumption) ?_
    rotate_left 1
    focus (intro w hSw; (try clear hSw); go_simp; try (with_reducible rfl))
    try go_frame
    refine wpAnyH_take (i := 1) (oi := { dst := some 16, op := Op.nilCheck (Operand.tmp 15), type := 0, pos := "replay.go:29", after := #[{ on := 0, ground := Ground.data }], guard := none }) (v := ?_) rfl (by kernel_rfl) (by kernel_rfl) (by kernel_rfl) (fun _ _ _ h => h) (Or.inl ⟨by rfl, ?_⟩) (by assumption) ?_
    rotate_left 1
    focus (intro w hSw; (try clear hSw); go_simp; try (with_reducible rfl))
    try go_frame
    refine wpAnyH_take (i := 2) (oi := { dst := some 17, op := Op.fieldAddr 76 (Operand.tmp 16) 1, type := 0, pos := "replay.go:29", after := #[{ on := 1, ground := Ground.data }], guard := none }) (v := ?_) rfl (by kernel_rfl) (by kernel_rfl) (by kernel_rfl) (fun _ _ _ h => h) (Or.inl ⟨by rfl, ?_⟩) (by assumption) ?_
    rotate_left 1
    focus (intro w hSw; (try clear hSw); go_simp; try (with_reducible rfl))
    try go_frame
    refine wpAnyH_take (i := 3) (oi := { dst := some 18, op := Op.load 74 (Operand.tmp 17), type := 74, pos := "replay.go:29", after := #[{ on := 2, ground := Ground.data }], guard := none }) (v := .map (some m)) rfl (by kernel_rfl) (by kernel_rfl) (by kernel_rfl) (fun _ _ _ h => h) (yl_cell rfl _ _ rfl ⟨b, 1, none⟩ rfl _ (fun w' h => ((h.blk KF.out).cell 1).trans rfl) one_map) (by assumption) ?_
    try go_frame
    refine wpAnyH_take (i := 4) (oi := { dst := some 19, op := Op.fieldAddr 44 (Operand.tmp 3) 2, type := 0, pos := "replay.go:29", after := #[], guard := none }) (v := ?_) rfl (by kernel_rfl) (by kernel_rfl) (by kernel_rfl) (fun _ _ _ h => h) (Or.inl ⟨by rfl, ?_⟩) (by assumption) ?_
    rotate_left 1
    focus (intro w hSw; (try clear hSw); go_simp; try (with_reducible rfl))
    try go_frame
    refine wpAnyH_take (i := 5) (oi := { dst := some 20, op := Op.load 3 (Operand.tmp 19), type := 3, pos := "replay.go:29", after := #[{ on := 4, ground := Ground.data }], guard := none }) (v := .int .i64 r.saga) rfl (by kernel_rfl) (by kernel_rfl) (by kernel_rfl) (fun _ _ _ h => h) (yl_cell rfl _ _ rfl ⟨w.heap.size, 2, none⟩ rfl _ (fun w' h => ((h.blk KR2.out).cell 2).trans rfl) one_int) (by assumption) ?_
    try go_frame
    refine wpAnyH_take (i := 6) (oi := { dst := some 21, op := Op.lookup 74 (Operand.tmp 18) (Operand.tmp 20) true, type := 77, pos := "replay.go:29", after := #[{ on := 3, ground := Ground.data }, { on := 5, ground := Ground.data }], guard := none }) (v := .tuple #[.agg (sagaArr s), .bool true]) rfl (by kernel_rfl) (by kernel_rfl) (by kernel_rfl) (fun _ _ _ h => h) (yl_lookup_ok rfl _ _ _ rfl m n D _ _ key_int Tryd.underlying74 _ zeroSagaVal rfl (.int .i64 r.saga) _ rfl HKEY.out (fun w' h => HO2.out.kept (grown_below' h.out none) (by simp)) _ true HHAS.out HAT.out) (by assumption) ?_
    try go_frame
    refine wpAnyH_take (i := 7) (oi := { dst := some 14, op := Op.move (Operand.tmp 21), type := 77, pos := "replay.go:29", after := #[{ on := 6, ground := Ground.data }], guard := none }) (v := ?_) rfl (by kernel_rfl) (by kernel_rfl) (by kernel_rfl) (fun _ _ _ h => h) (Or.inl ⟨by rfl, ?_⟩) (by assumption) ?_
    rotate_left 1
    focus (intro w hSw; (try clear hSw); go_simp; try (with_reducible rfl))
    try go_frame
    refine wpAnyH_take (i := 8) (oi := { dst := some 22, op := Op.extract (Operand.tmp 14) 0, type := 40, pos := "replay.go:29", after := #[{ on := 7, ground := Ground.data }], guard := none }) (v := ?_) rfl (by kernel_rfl) (by kernel_rfl) (by kernel_rfl) (fun _ _ _ h => h) (Or.inl ⟨by rfl, ?_⟩) (by assumption) ?_
    rotate_left 1
    focus (intro w hSw; (try clear hSw); go_simp; try (with_reducible rfl))
    try go_frame
    refine wpAnyH_take (i := 9) (oi := { dst := some 23, op := Op.extract (Operand.tmp 14) 1, type := 4, pos := "replay.go:29", after := #[{ on := 7, ground := Ground.data }, { on := 11, ground := Ground.gcOnly Departure.lateStores }], guard := none }) (v := ?_) rfl (by kernel_rfl) (by kernel_rfl) (by kernel_rfl) (fun _ _ _ h => h) (Or.inl ⟨by rfl, ?_⟩) (by assumption) ?_
    rotate_left 1
    focus (intro w hSw; (try clear hSw); go_simp; try (with_reducible rfl))
    try go_frame
    refine wpAnyH_ready (rs := [10]) (by kernel_rfl) (by simp) ?_
    refine AllReadyH.cons (o := { dst := some 6, op := Op.alloc 40, type := 0, pos := "replay.go:29", after := #[], guard := none }) rfl (fun K hK => ?_) ?_
    · refine step_alloc_row rfl _ _ rfl zeroSaga_row ?_
      intro wA KA hbA
      refine hK.out _ _ (hHeld.call hbA) (fun hHeld => ?_)
      clear hK K
      try go_frame
      refine wpAnyH_ready (rs := [11]) (by kernel_rfl) (by simp) ?_
      refine AllReadyH.cons (o := { dst := none, op := Op.store 40 (Operand.tmp 6) (Operand.tmp 22), type := 0, pos := "replay.go:29", after := #[{ on := 10, ground := Ground.data }, { on := 8, ground := Ground.data }, { on := 0, ground := Ground.phase }, { on := 1, ground := Ground.phase }, { on := 2, ground := Ground.phase }, { on := 3, ground := Ground.phase }, { on := 4, ground := Ground.phase }, { on := 5, ground := Ground.phase }, { on := 6, ground := Ground.phase }, { on := 7, ground := Ground.phase }, { on := 8, ground := Ground.phase }, { on := 9, ground := Ground.textOnly Departure.lateStores }, { on := 10, ground := Ground.phase }], guard := none }) rfl (fun K hK => ?_) ?_
      · refine step_store_blk rfl _ _ _ rfl _ rfl (sagaArr s) rfl _ _ KA (by rfl) (by simp [sagaArr, Value.oneCell']) rowSaga ?_
        intro w7 hw7 KS7
        refine hK.out _ _ (hHeld.wrote hw7 (Nat.le_refl _)) (fun hHeld => ?_)
        clear hK K
        try go_frame
        refine wpAnyH_ready (rs := [12]) (by kernel_rfl) (by simp) ?_
        refine AllReadyH.cons (o := { dst := some 7, op := Op.assign (Operand.tmp 23), type := 4, pos := "replay.go:29", after := #[{ on := 9, ground := Ground.data }, { on := 11, ground := Ground.chain }, { on := 0, ground := Ground.phase }, { on := 1, ground := Ground.phase }, { on := 2, ground := Ground.phase }, { on := 3, ground := Ground.phase }, { on := 4, ground := Ground.phase }, { on := 5, ground := Ground.phase }, { on := 6, ground := Ground.phase }, { on := 7, ground := Ground.phase }, { on := 8, ground := Ground.phase }, { on := 9, ground := Ground.phase }, { on := 10, ground := Ground.phase }, { on := 11, ground := Ground.phase }], guard := none }) rfl (fun K hK => ?_) ?_
        · go_simp
          refine hK.out _ _ (by assumption) (fun hHeld => ?_)
          clear hK K
          try go_frame
          refine wpAnyH_done (by kernel_rfl) ?_ _
          try go_wp2_with fail
          go_meet
          exact ⟨rfl, rfl, Lib.hid hHeld, Lib.hid KS7⟩
        exact AllReadyH.nil
      exact AllReadyH.nil
    exact AllReadyH.nil
  case rest =>
  obtain ⟨wx, rfl⟩ : ∃ q : World, q = wc := ⟨_, rfl⟩
  obtain ⟨rfl, rfl, HS, KS⟩ := hcut
  have HB3 := Lib.hid (then_ HB2.out HS.out.out)
  have KRx := HS.out.blk KR2.out
  have KSx := KS.out
  have h2x : w2.heap.size < wx.heap.size := blk_lt KSx
  try dsimp only [recArr, Sl.v] at KRx
  try dsimp only [sagaArr, Sl.v] at KSx
  have cA := apply_any s E r R wx (HT.out.below HB3.out) (HL.out.below HB3.out) ((HSO.out.rd HSM.out).below HB3.out) (HRR.out.below HB3.out) FE.out FR.out
  rw [HN.out, HA.out] at cA
  have CA := Lib.hid cA
  clear cA HN HA HT HRR FR HB2 HHAS HAT FE HSO HSM HL
  try dsimp only [RecV.val, SagaV.val, Sl.v] at CA
  go_wp2_with (first
    | (refine wpList_load_blk rfl _ _ rfl _ rfl _ _ KRx rowRec ?_)
    | (refine wpList_load_blk rfl _ _ rfl _ rfl _ _ KSx rowSaga ?_))
  refine CA.out.mono ?_
  rintro e w9 ⟨s2, rfl, ho, hb⟩
  have KS9 := KS.out.below hb h2x
  have KR9 := (HS.out.blk KR2.out).below hb (blk_lt KRx)
  have h9 := hb.size
  have HB9 := Lib.hid (then_ HB3.out hb)
  have HO9 := Lib.hid (ho.lower (c := base) (by have := HF.out.le; have := HB3.out.size; omega))
  clear ho hb CA KRx KSx
  by_cases h0 : N = 0
  · subst h0
    have e4 := HN'.out
    have e5 := HG'.out
    rw [if_pos rfl] at e4
    rw [if_neg (by simp)] at e5
    subst e4 e5
    clear HN' HG'
    go_wp2_with (refine wpList_store_blk rfl _ _ _ rfl _ rfl (sagaArr s2) rfl _ _ KS9 (by rfl) (by simp [sagaArr, Value.oneCell']) rowSaga ?_; intro wd hwd KSd)
    go_upto_region 11 with fail
    have KSd := Lib.hid KSd
    have HBd := Lib.hid (hwd.below HB9.out (by omega))
    have KRd := Lib.hid (hwd.blk KR9 (by omega))
    have KFd := Lib.hid (HF.out.blk.below HBd.out hlb)
    have HOd := Lib.hid (HO.out.kept (grown_below' HBd.out none) (by simp))
    have HDd := Lib.hid (HD.out.keep (RowsKept.below HBd.out))
    have HSd := Lib.hid (HO9.out.keep (hwd.rows KS9 (by decide) (by decide)))
    have HRM := Lib.hid (show w.heap.size ≠ m by omega)
    have HSM := Lib.hid (show w2.heap.size ≠ m by omega)
    clear KR9 KS9 hwd HB9 HO9
    go_cut [4] (fun s4 wx => s4 = .int .i64 0 ∧ Hid (wx.ownsMap Tryd.prog 3 heldR m (n + 1) (D.put (.int .i64 R.saga) (.held (.agg (sagaArr s2))))) ∧ Hid (wd.grownBy wx (some m)))
    case first =>
      refine wp_region_held_drew (S := (fun w' => But wd w' m m)) (by kernel_rfl) (But.of (Below.refl _ _).drew) (fun hHeld => ?_)
      refine wpAnyH_take (i := 0) (oi := { dst := some 39, op := Op.move (Operand.tmp 0), type := 57, pos := "replay.go:39", after := #[], guard := none }) (v := ?_) rfl (by kernel_rfl) (by kernel_rfl) (by kernel_rfl) (fun _ _ _ h => h) (Or.inl ⟨by rfl, ?_⟩) (by assumption) ?_
      rotate_left 1
      focus (intro w hSw; (try clear hSw); go_simp; try (with_reducible rfl))
      try go_frame
      refine wpAnyH_take (i := 1) (oi := { dst := some 40, op := Op.nilCheck (Operand.tmp 39), type := 0, pos := "replay.go:39", after := #[{ on := 0, ground := Ground.data }], guard := none }) (v := ?_) rfl (by kernel_rfl) (by kernel_rfl) (by kernel_rfl) (fun _ _ _ h => h) (Or.inl ⟨by rfl, ?_⟩) (by assumption) ?_
      rotate_left 1
      focus (intro w hSw; (try clear hSw); go_simp; try (with_reducible rfl))
      try go_frame
      refine wpAnyH_take (i := 2) (oi := { dst := some 41, op := Op.fieldAddr 76 (Operand.tmp 40) 1, type := 0, pos := "replay.go:39", after := #[{ on := 1, ground := Ground.data }], guard := none }) (v := ?_) rfl (by kernel_rfl) (by kernel_rfl) (by kernel_rfl) (fun _ _ _ h => h) (Or.inl ⟨by rfl, ?_⟩) (by assumption) ?_
      rotate_left 1
      focus (intro w hSw; (try clear hSw); go_simp; try (with_reducible rfl))
      try go_frame
      refine wpAnyH_take (i := 3) (oi := { dst := some 42, op := Op.load 74 (Operand.tmp 41), type := 74, pos := "replay.go:39", after := #[{ on := 2, ground := Ground.data }], guard := none }) (v := .map (some m)) rfl (by kernel_rfl) (by kernel_rfl) (by kernel_rfl) (fun _ _ _ h => h) (yl_cell rfl _ _ rfl ⟨b, 1, none⟩ rfl _ (fun w' h => ((h.blk KFd.out HBM.out HBM.out).cell 1).trans rfl) one_map) (by assumption) ?_
      try go_frame
      refine wpAnyH_take (i := 4) (oi := { dst := some 43, op := Op.fieldAddr 44 (Operand.tmp 3) 2, type := 0, pos := "replay.go:39", after := #[], guard := none }) (v := ?_) rfl (by kernel_rfl) (by kernel_rfl) (by kernel_rfl) (fun _ _ _ h => h) (Or.inl ⟨by rfl, ?_⟩) (by assumption) ?_
      rotate_left 1
      focus (intro w hSw; (try clear hSw); go_simp; try (with_reducible rfl))
      try go_frame
      refine wpAnyH_take (i := 5) (oi := { dst := some 44, op := Op.load 3 (Operand.tmp 43), type := 3, pos := "replay.go:39", after := #[{ on := 4, ground := Ground.data }], guard := none }) (v := .int .i64 r.saga) rfl (by kernel_rfl) (by kernel_rfl) (by kernel_rfl) (fun _ _ _ h => h) (yl_cell rfl _ _ rfl ⟨w.heap.size, 2, none⟩ rfl _ (fun w' h => ((h.blk KRd.out HRM.out HRM.out).cell 2).trans rfl) one_int) (by assumption) ?_
      try go_frame
      refine wpAnyH_take (i := 6) (oi := { dst := some 45, op := Op.load 40 (Operand.tmp 6), type := 40, pos := "replay.go:39", after := #[], guard := none }) (v := .agg (sagaArr s2)) rfl (by kernel_rfl) (by kernel_rfl) (by kernel_rfl) (fun _ _ _ h => h) (yl_blk rfl _ _ rfl w2.heap.size rfl _ (sagaArr s2) (fun w' h => h.blk KSd.out HSM.out HSM.out) rowSaga) (by assumption) ?_
      try go_frame
      refine wpAnyH_ready (rs := [7]) (by kernel_rfl) (by simp) ?_
      refine AllReadyH.cons (o := { dst := none, op := Op.mapUpdate 74 (Operand.tmp 42) (Operand.tmp 44) (Operand.tmp 45), type := 0, pos := "replay.go:39", after := #[{ on := 3, ground := Ground.data }, { on := 5, ground := Ground.data }, { on := 6, ground := Ground.data }, { on := 0, ground := Ground.phase }, { on := 1, ground := Ground.phase }, { on := 2, ground := Ground.phase }, { on := 3, ground := Ground.phase }, { on := 4, ground := Ground.phase }, { on := 5, ground := Ground.phase }, { on := 6, ground := Ground.phase }], guard := none }) rfl (fun K hK => ?_) ?_
      · refine step_mapUpdate rfl _ _ _ _ rfl _ _ key_int Tryd.underlying74 m n D rfl (show wd.drew.ownsMap _ _ _ _ _ _ from HOd.out) (by simp only [maxLen]; omega) _ _ _ rfl rfl HKEY.out ?_
        intro wm howm hgm
        refine hK.out _ _ (But.trans hHeld (But.grown hgm)) (fun hHeld => ?_)
        clear hK K
        try go_frame
        refine wpAnyH_done (by kernel_rfl) ?_ _
        try go_wp2_with fail
        go_meet
        exact ⟨rfl, Lib.hid howm, Lib.hid (show wd.grownBy wm (some m) from ⟨hgm.os, hgm.tape, hgm.output, hgm.size, hgm.block⟩)⟩
      exact AllReadyH.nil
    case rest =>
    obtain ⟨wy, rfl⟩ : ∃ q : World, q = wc := ⟨_, rfl⟩
    obtain ⟨rfl, HM, HG⟩ := hcut
    have KFy := (But.grown (b := m) HG.out).blk KFd.out HBM.out HBM.out
    have hend := folder_end HF.out HBd.out KFd.out HOd.out HDd.out HW.out HSd.out HM.out HG.out HBM.out
    have HEND := Lib.hid hend
    have c0 := KFy.cell 0
    have fz := KFy.frozen 0
    simp only [List.getElem?_toArray, List.getElem?_cons_zero] at c0
    clear hend KFy HM HG HOd HDd HSd HBd KFd KRd KSd HF HO HD
    go_wp2
    all_goals go_ret
    all_goals exact ⟨rfl, HEND.out⟩
  · have e4 := HN'.out
    have e5 := HG'.out
    rw [if_neg h0] at e4
    rw [if_pos h0] at e5
    subst e4 e5
    clear HN' HG'
    have H2 : (N != 0) = true := by rw [bne_iff_ne]; exact h0
    clear h0
    go_wp2_with (refine wpList_store_blk rfl _ _ _ rfl _ rfl (sagaArr s2) rfl _ _ KS9 (by rfl) (by simp [sagaArr, Value.oneCell']) rowSaga ?_; intro wd hwd KSd)
    have HBd := Lib.hid (hwd.below HB9.out (by omega))
    clear KS9 KR9 hwd KSd HB9 HO9
    go_wp2
    all_goals go_ret
    all_goals exact ⟨rfl, HF.out.below HBd.out, But.of HBd.out⟩
set_option maxRecDepth 10000000 in
set_option maxHeartbeats 8000000 in
theorem folderAdd_3 (base b m n : Nat) (f : Bag) (r : RecV) (R : RecD) (w : World) (ht : Tables w) (hF : FolderAt w base b m n f) (hr : RecRd w r R) (fr : RecFits R) (hw : (Lit.int .i64 R.saga).wf = true) (hn : n ≤ 1099511627776) (h1 : recD R = 0) (hE : f R.saga = none) :
    Calls Tryd.prog 23 #[.pointer (some ⟨b, 0, none⟩), r.val] w fun e w' => e = .returned (.int .i64 (addN f R)) ∧ FolderAt w' base b m (if addN f R = 0 then n + 1 else n) (addB f R) ∧ But w w' b m := by
  have e1 : addN f R = beginN R := by unfold addN oneN; rw [if_neg (by simp [h1]), hE]
  have e3 : oneD (f R.saga) R = beginD R := by unfold oneD; rw [hE]
  have e2 : addB f R = if ¬ beginN R = 0 then f else putB f R.saga (beginD R) := by unfold addB; rw [e1, e3]
  rw [e1, e2]
  obtain ⟨N, hN⟩ : ∃ x, beginN R = x := ⟨_, rfl⟩
  obtain ⟨A, hA⟩ : ∃ x, beginD R = x := ⟨_, rfl⟩
  rw [hN, hA]
  obtain ⟨n', hn'⟩ : ∃ x, (if N = 0 then n + 1 else n) = x := ⟨_, rfl⟩
  obtain ⟨g', hg'⟩ : ∃ x, (if ¬ N = 0 then f else putB f R.saga A) = x := ⟨_, rfl⟩
  rw [hn', hg']
  have HN' := Lib.hid hn'
  have HG' := Lib.hid hg'
  have HN := Lib.hid hN
  have HA := Lib.hid hA
  clear hn' hg' hN hA
  have hrs : r.saga = R.saga := by rw [hr.eq]
  have hok : RecOk w r R.data := ⟨by rw [hr.eq]; exact fr.name, fr.len, hr.data⟩
  have hRN := hr.recEq
  have hb1 := boxd (o := .cells (recArr r) 44) (Below.refl w.heap.size w)
  have KR := BlkAt.new w (recArr r) 44
  have cC := recCheck_any r R.data _ (ht.below hb1).tabs (ht.below hb1).may (hok.below hb1)
  rw [hRN] at cC
  rw [h1] at cC
  obtain ⟨hbase, D, hown, hD⟩ := hF.bag
  have hkey : keyOf Tryd.prog 3 (.int .i64 r.saga) = some (.int .i64 R.saga) := by rw [hrs]; exact Maps.keyOf_int_mk Tryd.underlying3 hw
  have hbm := hF.bag.blk_ne hF.blk
  have hhas : Maps.has D (.int .i64 R.saga) = false := by
    cases h : Maps.has D (.int .i64 R.saga) with
    | false => rfl
    | true => exact absurd hE ((hD.has _ hw).1 h)
  obtain ⟨es, rfl⟩ := hown.isMap
  have hat : (DataW.map es).atKey (.int .i64 R.saga) (.held (.agg zeroSagaArr)) = .held (.agg zeroSagaArr) := Maps.atKey_of_not_has (h := hhas) _
  have HAT := Lib.hid hat
  obtain ⟨D, hDe⟩ : ∃ x, DataW.map es = x := ⟨_, rfl⟩
  rw [hDe] at hown hD hhas HAT hat
  have HHAS := Lib.hid hhas
  have HKEY := Lib.hid hkey
  have HW := Lib.hid hw
  have CC := Lib.hid cC
  have HF := Lib.hid hF
  have HB1 := Lib.hid hb1
  have HO := Lib.hid hown
  have HD := Lib.hid hD
  have HT := Lib.hid ht
  have HRR := Lib.hid hr
  have FR := Lib.hid fr
  have HBM := Lib.hid hbm
  have hlb := blk_lt hF.blk
  have hlm := hown.lt
  clear cC hok hRN hb1 h1 e1 e2 e3 ht hr fr hF hrs hown hD hhas hkey hw hE hat hbm
  dsimp only [RecV.val, recArr, Sl.v] at CC KR HB1
  dsimp only [RecV.val, Sl.v]
  go_enter Tryd.func23, Tryd.ntmps23
  go_wp2_with (refine wpList_load_blk rfl _ _ rfl _ rfl _ _ KR rowRec ?_)
  refine CC.out.mono ?_
  rintro e w2 ⟨rfl, hb⟩
  have h12 := hb.size
  simp only [World.size_alloc] at h12
  have HB2 := Lib.hid (then_ HB1.out hb)
  have KR2 := Lib.hid (KR.below hb (by simp))
  have KF := Lib.hid (HF.out.blk.below HB2.out hlb)
  have HO2 := Lib.hid (HO.out.kept (grown_below' HB2.out none) (by simp))
  clear hb CC KR HB1
  go_upto_region 4 with fail
  go_cut [6, 7] (fun s6 s7 wx => s6 = .pointer (some ⟨w2.heap.size, 0, none⟩) ∧ s7 = .bool false ∧ Hid (Since w2 wx) ∧ Hid (BlkAt wx w2.heap.size zeroSagaArr 40))
  case first =>
    refine wp_region_held_drew (S := Since w2) (by kernel_rfl) ((Since.refl w2).drew) (fun hHeld => ?_)
    refine wpAnyH_take (i := 0) (oi := { dst := some 15, op := Op.move (Operand.tmp 0), type := 57, pos := "replay.go:29", after := #[], guard := none }) (v := ?_) rfl (by kernel_rfl) (by kernel_rfl) (by kernel_rfl) (fun _ _ _ h => h) (Or.inl ⟨by rfl, ?_⟩) (by assumption) ?_
    rotate_left 1
    focus (intro w hSw; (try clear hSw); go_simp; try (with_reducible rfl))
    try go_frame
    refine wpAnyH_take (i := 1) (oi := { dst := some 16, op := Op.nilCheck (Operand.tmp 15), type := 0, pos := "replay.go:29", after := #[{ on := 0, ground := Ground.data }], guard := none }) (v := ?_) rfl (by kernel_rfl) (by kernel_rfl) (by kernel_rfl) (fun _ _ _ h => h) (Or.inl ⟨by rfl, ?_⟩) (by assumption) ?_
    rotate_left 1
    focus (intro w hSw; (try clear hSw); go_simp; try (with_reducible rfl))
    try go_frame
    refine wpAnyH_take (i := 2) (oi := { dst := some 17, op := Op.fieldAddr 76 (Operand.tmp 16) 1, type := 0, pos := "replay.go:29", after := #[{ on := 1, ground := Ground.data }], guard := none }) (v := ?_) rfl (by kernel_rfl) (by kernel_rfl) (by kernel_rfl) (fun _ _ _ h => h) (Or.inl ⟨by rfl, ?_⟩) (by assumption) ?_
    rotate_left 1
    focus (intro w hSw; (try clear hSw); go_simp; try (with_reducible rfl))
    try go_frame
    refine wpAnyH_take (i := 3) (oi := { dst := some 18, op := Op.load 74 (Operand.tmp 17), type := 74, pos := "replay.go:29", after := #[{ on := 2, ground := Ground.data }], guard := none }) (v := .map (some m)) rfl (by kernel_rfl) (by kernel_rfl) (by kernel_rfl) (fun _ _ _ h => h) (yl_cell rfl _ _ rfl ⟨b, 1, none⟩ rfl _ (fun w' h => ((h.blk KF.out).cell 1).trans rfl) one_map) (by assumption) ?_
    try go_frame
    refine wpAnyH_take (i := 4) (oi := { dst := some 19, op := Op.fieldAddr 44 (Operand.tmp 3) 2, type := 0, pos := "replay.go:29", after := #[], guard := none }) (v := ?_) rfl (by kernel_rfl) (by kernel_rfl) (by kernel_rfl) (fun _ _ _ h => h) (Or.inl ⟨by rfl, ?_⟩) (by assumption) ?_
    rotate_left 1
    focus (intro w hSw; (try clear hSw); go_simp; try (with_reducible rfl))
    try go_frame
    refine wpAnyH_take (i := 5) (oi := { dst := some 20, op := Op.load 3 (Operand.tmp 19), type := 3, pos := "replay.go:29", after := #[{ on := 4, ground := Ground.data }], guard := none }) (v := .int .i64 r.saga) rfl (by kernel_rfl) (by kernel_rfl) (by kernel_rfl) (fun _ _ _ h => h) (yl_cell rfl _ _ rfl ⟨w.heap.size, 2, none⟩ rfl _ (fun w' h => ((h.blk KR2.out).cell 2).trans rfl) one_int) (by assumption) ?_
    try go_frame
    refine wpAnyH_take (i := 6) (oi := { dst := some 21, op := Op.lookup 74 (Operand.tmp 18) (Operand.tmp 20) true, type := 77, pos := "replay.go:29", after := #[{ on := 3, ground := Ground.data }, { on := 5, ground := Ground.data }], guard := none }) (v := .tuple #[.agg zeroSagaArr, .bool false]) rfl (by kernel_rfl) (by kernel_rfl) (by kernel_rfl) (fun _ _ _ h => h) (yl_lookup_ok rfl _ _ _ rfl m n D _ _ key_int Tryd.underlying74 _ zeroSagaVal rfl (.int .i64 r.saga) _ rfl HKEY.out (fun w' h => HO2.out.kept (grown_below' h.out none) (by simp)) _ false HHAS.out HAT.out) (by assumption) ?_
    try go_frame
    refine wpAnyH_take (i := 7) (oi := { dst := some 14, op := Op.move (Operand.tmp 21), type := 77, pos := "replay.go:29", after := #[{ on := 6, ground := Ground.data }], guard := none }) (v := ?_) rfl (by kernel_rfl) (by kernel_rfl) (by kernel_rfl) (fun _ _ _ h => h) (Or.inl ⟨by rfl, ?_⟩) (by assumption) ?_
    rotate_left 1
    focus (intro w hSw; (try clear hSw); go_simp; try (with_reducible rfl))
    try go_frame
    refine wpAnyH_take (i := 8) (oi := { dst := some 22, op := Op.extract (Operand.tmp 14) 0, type := 40, pos := "replay.go:29", after := #[{ on := 7, ground := Ground.data }], guard := none }) (v := ?_) rfl (by kernel_rfl) (by kernel_rfl) (by kernel_rfl) (fun _ _ _ h => h) (Or.inl ⟨by rfl, ?_⟩) (by assumption) ?_
    rotate_left 1
    focus (intro w hSw; (try clear hSw); go_simp; try (with_reducible rfl))
    try go_frame
    refine wpAnyH_take (i := 9) (oi := { dst := some 23, op := Op.extract (Operand.tmp 14) 1, type := 4, pos := "replay.go:29", after := #[{ on := 7, ground := Ground.data }, { on := 11, ground := Ground.gcOnly Departure.lateStores }], guard := none }) (v := ?_) rfl (by kernel_rfl) (by kernel_rfl) (by kernel_rfl) (fun _ _ _ h => h) (Or.inl ⟨by rfl, ?_⟩) (by assumption) ?_
    rotate_left 1
    focus (intro w hSw; (try clear hSw); go_simp; try (with_reducible rfl))
    try go_frame
    refine wpAnyH_ready (rs := [10]) (by kernel_rfl) (by simp) ?_
    refine AllReadyH.cons (o := { dst := some 6, op := Op.alloc 40, type := 0, pos := "replay.go:29", after := #[], guard := none }) rfl (fun K hK => ?_) ?_
    · refine step_alloc_row rfl _ _ rfl zeroSaga_row ?_
      intro wA KA hbA
      refine hK.out _ _ (hHeld.call hbA) (fun hHeld => ?_)
      clear hK K
      try go_frame
      refine wpAnyH_ready (rs := [11]) (by kernel_rfl) (by simp) ?_
      refine AllReadyH.cons (o := { dst := none, op := Op.store 40 (Operand.tmp 6) (Operand.tmp 22), type := 0, pos := "replay.go:29", after := #[{ on := 10, ground := Ground.data }, { on := 8, ground := Ground.data }, { on := 0, ground := Ground.phase }, { on := 1, ground := Ground.phase }, { on := 2, ground := Ground.phase }, { on := 3, ground := Ground.phase }, { on := 4, ground := Ground.phase }, { on := 5, ground := Ground.phase }, { on := 6, ground := Ground.phase }, { on := 7, ground := Ground.phase }, { on := 8, ground := Ground.phase }, { on := 9, ground := Ground.textOnly Departure.lateStores }, { on := 10, ground := Ground.phase }], guard := none }) rfl (fun K hK => ?_) ?_
      · refine step_store_blk rfl _ _ _ rfl _ rfl zeroSagaArr rfl _ _ KA (by rfl) (by simp [Value.oneCell']) rowSaga ?_
        intro w7 hw7 KS7
        refine hK.out _ _ (hHeld.wrote hw7 (Nat.le_refl _)) (fun hHeld => ?_)
        clear hK K
        try go_frame
        refine wpAnyH_ready (rs := [12]) (by kernel_rfl) (by simp) ?_
        refine AllReadyH.cons (o := { dst := some 7, op := Op.assign (Operand.tmp 23), type := 4, pos := "replay.go:29", after := #[{ on := 9, ground := Ground.data }, { on := 11, ground := Ground.chain }, { on := 0, ground := Ground.phase }, { on := 1, ground := Ground.phase }, { on := 2, ground := Ground.phase }, { on := 3, ground := Ground.phase }, { on := 4, ground := Ground.phase }, { on := 5, ground := Ground.phase }, { on := 6, ground := Ground.phase }, { on := 7, ground := Ground.phase }, { on := 8, ground := Ground.phase }, { on := 9, ground := Ground.phase }, { on := 10, ground := Ground.phase }, { on := 11, ground := Ground.phase }], guard := none }) rfl (fun K hK => ?_) ?_
        · go_simp
          refine hK.out _ _ (by assumption) (fun hHeld => ?_)
          clear hK K
          try go_frame
          refine wpAnyH_done (by kernel_rfl) ?_ _
          try go_wp2_with fail
          go_meet
          exact ⟨rfl, rfl, Lib.hid hHeld, Lib.hid KS7⟩
        exact AllReadyH.nil
      exact AllReadyH.nil
    exact AllReadyH.nil
  case rest =>
  obtain ⟨wx, rfl⟩ : ∃ q : World, q = wc := ⟨_, rfl⟩
  obtain ⟨rfl, rfl, HS, KS⟩ := hcut
  have HB3 := Lib.hid (then_ HB2.out HS.out.out)
  have KRx := HS.out.blk KR2.out
  have KSx := KS.out
  have h2x : w2.heap.size < wx.heap.size := blk_lt KSx
  try dsimp only [recArr, Sl.v] at KRx
  try dsimp only [sagaArr, Sl.v] at KSx
  have cA := begin_any r R wx (HT.out.below HB3.out) (HRR.out.below HB3.out) FR.out
  rw [HN.out, HA.out] at cA
  have CA := Lib.hid cA
  clear cA HN HA HT HRR FR HB2 HHAS HAT
  try dsimp only [RecV.val, SagaV.val, Sl.v] at CA
  go_wp2_with (first
    | (refine wpList_load_blk rfl _ _ rfl _ rfl _ _ KRx rowRec ?_))
  refine CA.out.mono ?_
  rintro e w9 ⟨s2, rfl, ho, hb⟩
  have KS9 := KS.out.below hb h2x
  have KR9 := (HS.out.blk KR2.out).below hb (blk_lt KRx)
  have h9 := hb.size
  have HB9 := Lib.hid (then_ HB3.out hb)
  have HO9 := Lib.hid (ho.lower (c := base) (by have := HF.out.le; have := HB3.out.size; omega))
  clear ho hb CA KRx KSx
  by_cases h0 : N = 0
  · subst h0
    have e4 := HN'.out
    have e5 := HG'.out
    rw [if_pos rfl] at e4
    rw [if_neg (by simp)] at e5
    subst e4 e5
    clear HN' HG'
    go_wp2_with (refine wpList_store_blk rfl _ _ _ rfl _ rfl (sagaArr s2) rfl _ _ KS9 (by rfl) (by simp [sagaArr, Value.oneCell']) rowSaga ?_; intro wd hwd KSd)
    go_upto_region 11 with fail
    have KSd := Lib.hid KSd
    have HBd := Lib.hid (hwd.below HB9.out (by omega))
    have KRd := Lib.hid (hwd.blk KR9 (by omega))
    have KFd := Lib.hid (HF.out.blk.below HBd.out hlb)
    have HOd := Lib.hid (HO.out.kept (grown_below' HBd.out none) (by simp))
    have HDd := Lib.hid (HD.out.keep (RowsKept.below HBd.out))
    have HSd := Lib.hid (HO9.out.keep (hwd.rows KS9 (by decide) (by decide)))
    have HRM := Lib.hid (show w.heap.size ≠ m by omega)
    have HSM := Lib.hid (show w2.heap.size ≠ m by omega)
    clear KR9 KS9 hwd HB9 HO9
    go_cut [4] (fun s4 wx => s4 = .int .i64 0 ∧ Hid (wx.ownsMap Tryd.prog 3 heldR m (n + 1) (D.put (.int .i64 R.saga) (.held (.agg (sagaArr s2))))) ∧ Hid (wd.grownBy wx (some m)))
    case first =>
      refine wp_region_held_drew (S := (fun w' => But wd w' m m)) (by kernel_rfl) (But.of (Below.refl _ _).drew) (fun hHeld => ?_)
      refine wpAnyH_take (i := 0) (oi := { dst := some 39, op := Op.move (Operand.tmp 0), type := 57, pos := "replay.go:39", after := #[], guard := none }) (v := ?_) rfl (by kernel_rfl) (by kernel_rfl) (by kernel_rfl) (fun _ _ _ h => h) (Or.inl ⟨by rfl, ?_⟩) (by assumption) ?_
      rotate_left 1
      focus (intro w hSw; (try clear hSw); go_simp; try (with_reducible rfl))
      try go_frame
      refine wpAnyH_take (i := 1) (oi := { dst := some 40, op := Op.nilCheck (Operand.tmp 39), type := 0, pos := "replay.go:39", after := #[{ on := 0, ground := Ground.data }], guard := none }) (v := ?_) rfl (by kernel_rfl) (by kernel_rfl) (by kernel_rfl) (fun _ _ _ h => h) (Or.inl ⟨by rfl, ?_⟩) (by assumption) ?_
      rotate_left 1
      focus (intro w hSw; (try clear hSw); go_simp; try (with_reducible rfl))
      try go_frame
      refine wpAnyH_take (i := 2) (oi := { dst := some 41, op := Op.fieldAddr 76 (Operand.tmp 40) 1, type := 0, pos := "replay.go:39", after := #[{ on := 1, ground := Ground.data }], guard := none }) (v := ?_) rfl (by kernel_rfl) (by kernel_rfl) (by kernel_rfl) (fun _ _ _ h => h) (Or.inl ⟨by rfl, ?_⟩) (by assumption) ?_
      rotate_left 1
      focus (intro w hSw; (try clear hSw); go_simp; try (with_reducible rfl))
      try go_frame
      refine wpAnyH_take (i := 3) (oi := { dst := some 42, op := Op.load 74 (Operand.tmp 41), type := 74, pos := "replay.go:39", after := #[{ on := 2, ground := Ground.data }], guard := none }) (v := .map (some m)) rfl (by kernel_rfl) (by kernel_rfl) (by kernel_rfl) (fun _ _ _ h => h) (yl_cell rfl _ _ rfl ⟨b, 1, none⟩ rfl _ (fun w' h => ((h.blk KFd.out HBM.out HBM.out).cell 1).trans rfl) one_map) (by assumption) ?_
      try go_frame
      refine wpAnyH_take (i := 4) (oi := { dst := some 43, op := Op.fieldAddr 44 (Operand.tmp 3) 2, type := 0, pos := "replay.go:39", after := #[], guard := none }) (v := ?_) rfl (by kernel_rfl) (by kernel_rfl) (by kernel_rfl) (fun _ _ _ h => h) (Or.inl ⟨by rfl, ?_⟩) (by assumption) ?_
      rotate_left 1
      focus (intro w hSw; (try clear hSw); go_simp; try (with_reducible rfl))
      try go_frame
      refine wpAnyH_take (i := 5) (oi := { dst := some 44, op := Op.load 3 (Operand.tmp 43), type := 3, pos := "replay.go:39", after := #[{ on := 4, ground := Ground.data }], guard := none }) (v := .int .i64 r.saga) rfl (by kernel_rfl) (by kernel_rfl) (by kernel_rfl) (fun _ _ _ h => h) (yl_cell rfl _ _ rfl ⟨w.heap.size, 2, none⟩ rfl _ (fun w' h => ((h.blk KRd.out HRM.out HRM.out).cell 2).trans rfl) one_int) (by assumption) ?_
      try go_frame
      refine wpAnyH_take (i := 6) (oi := { dst := some 45, op := Op.load 40 (Operand.tmp 6), type := 40, pos := "replay.go:39", after := #[], guard := none }) (v := .agg (sagaArr s2)) rfl (by kernel_rfl) (by kernel_rfl) (by kernel_rfl) (fun _ _ _ h => h) (yl_blk rfl _ _ rfl w2.heap.size rfl _ (sagaArr s2) (fun w' h => h.blk KSd.out HSM.out HSM.out) rowSaga) (by assumption) ?_
      try go_frame
      refine wpAnyH_ready (rs := [7]) (by kernel_rfl) (by simp) ?_
      refine AllReadyH.cons (o := { dst := none, op := Op.mapUpdate 74 (Operand.tmp 42) (Operand.tmp 44) (Operand.tmp 45), type := 0, pos := "replay.go:39", after := #[{ on := 3, ground := Ground.data }, { on := 5, ground := Ground.data }, { on := 6, ground := Ground.data }, { on := 0, ground := Ground.phase }, { on := 1, ground := Ground.phase }, { on := 2, ground := Ground.phase }, { on := 3, ground := Ground.phase }, { on := 4, ground := Ground.phase }, { on := 5, ground := Ground.phase }, { on := 6, ground := Ground.phase }], guard := none }) rfl (fun K hK => ?_) ?_
      · refine step_mapUpdate rfl _ _ _ _ rfl _ _ key_int Tryd.underlying74 m n D rfl (show wd.drew.ownsMap _ _ _ _ _ _ from HOd.out) (by simp only [maxLen]; omega) _ _ _ rfl rfl HKEY.out ?_
        intro wm howm hgm
        refine hK.out _ _ (But.trans hHeld (But.grown hgm)) (fun hHeld => ?_)
        clear hK K
        try go_frame
        refine wpAnyH_done (by kernel_rfl) ?_ _
        try go_wp2_with fail
        go_meet
        exact ⟨rfl, Lib.hid howm, Lib.hid (show wd.grownBy wm (some m) from ⟨hgm.os, hgm.tape, hgm.output, hgm.size, hgm.block⟩)⟩
      exact AllReadyH.nil
    case rest =>
    obtain ⟨wy, rfl⟩ : ∃ q : World, q = wc := ⟨_, rfl⟩
    obtain ⟨rfl, HM, HG⟩ := hcut
    have KFy := (But.grown (b := m) HG.out).blk KFd.out HBM.out HBM.out
    have hend := folder_end HF.out HBd.out KFd.out HOd.out HDd.out HW.out HSd.out HM.out HG.out HBM.out
    have HEND := Lib.hid hend
    have c0 := KFy.cell 0
    have fz := KFy.frozen 0
    simp only [List.getElem?_toArray, List.getElem?_cons_zero] at c0
    clear hend KFy HM HG HOd HDd HSd HBd KFd KRd KSd HF HO HD
    go_wp2
    all_goals go_ret
    all_goals exact ⟨rfl, HEND.out⟩
  · have e4 := HN'.out
    have e5 := HG'.out
    rw [if_neg h0] at e4
    rw [if_pos h0] at e5
    subst e4 e5
    clear HN' HG'
    have H2 : (N != 0) = true := by rw [bne_iff_ne]; exact h0
    clear h0
    go_wp2_with (refine wpList_store_blk rfl _ _ _ rfl _ rfl (sagaArr s2) rfl _ _ KS9 (by rfl) (by simp [sagaArr, Value.oneCell']) rowSaga ?_; intro wd hwd KSd)
    have HBd := Lib.hid (hwd.below HB9.out (by omega))
    clear KS9 KR9 hwd KSd HB9 HO9
    go_wp2
    all_goals go_ret
    all_goals exact ⟨rfl, HF.out.below HBd.out, But.of HBd.out⟩
/-- A folder takes a record. -/
theorem folderAdd_any (base b m n : Nat) (f : Bag) (r : RecV) (R : RecD) (w : World) (ht : Tables w) (hl : LandsAt w) (hF : FolderAt w base b m n f) (hg : GoodBag f) (hr : RecRd w r R) (fr : RecFits R) (hw : (Lit.int .i64 R.saga).wf = true) (hn : n ≤ 1099511627776) :
    Calls Tryd.prog 23 #[.pointer (some ⟨b, 0, none⟩), r.val] w fun e w' => e = .returned (.int .i64 (addN f R)) ∧ FolderAt w' base b m (if addN f R = 0 then n + 1 else n) (addB f R) ∧ But w w' b m := by
  by_cases h1 : recD R = 0
  · cases hE : f R.saga with
    | some E => exact folderAdd_2 base b m n f r R w ht hl hF hg hr fr hw hn h1 E hE
    | none => exact folderAdd_3 base b m n f r R w ht hF hr fr hw hn h1 hE
  · exact folderAdd_1 base b m n f r R w ht hF hr fr h1

end Go.Proofs.YtfbaliimjmimhaaDoor
