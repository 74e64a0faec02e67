/-
  annalslaw11.legal walked: the records ahead of the first that may not come, and their state. Conditions: as the theorem says. (Printed by wip/gen_legal.py.)
-/
import Derived.Test.YtfbaliimjmimhaaDoorOf
namespace Go.Proofs.YtfbaliimjmimhaaDoor
open Go.RowKit

theorem results_mid {P : Program} {fn : Func} {p q r : Tmp} {ty : TypeId} (h : fn.results = #[.tmp p, .cell q ty, .tmp r]) (tmps : Array Value) (w : World) (g : Nat) (t : TypeId) (cs : Array Value)
    (hp : tmps.getD q undef = .pointer (some ⟨g, 0, none⟩)) (hg : BlkAt w g cs t) (hu : RowTy P ty cs.size) : (results fn tmps).run P w = .ok (.tuple #[tmps.getD p undef, .agg cs, tmps.getD r undef]) w := by
  have hp' : tmps[q]?.getD undef = .pointer (some ⟨g, 0, none⟩) := by simpa using hp
  simp [results, h, hp', asAddr, run_loadVar_part w g 0 t ty cs cs hg (fun i _ => by rw [Nat.zero_add]) hu]
/-- How the end stands. -/
structure LgSt (w W : World) (g k : Nat) (va : Option Addr) (vn vc : Nat) (Ss : List SagaD) : Prop where
  box : BlkAt W g #[.int .i64 k, .slice va vn vc] 27
  res : ∃ cs : Array Value, BlkAt W w.heap.size cs 27 ∧ cs.size = 2
  own : OwnSagas W w.heap.size (.slice va vn vc) Ss
  below : Below w.heap.size w W
theorem LgSt.drew {w W : World} {g k : Nat} {va : Option Addr} {vn vc : Nat} {Ss : List SagaD} (h : LgSt w W g k va vn vc Ss) : LgSt w W.drew g k va vn vc Ss := ⟨h.box, h.res, h.own.through (Below.refl _ _).drew, h.below.drew⟩
set_option maxRecDepth 10000000 in
set_option maxHeartbeats 4000000 in
theorem legal_any (s : Sl) (Rs : List RecD) (B : Nat) (w : World) (ht : Tables w) (hl : LandsAt w) (h : RecsIn w B s Rs) (hf : ∀ R ∈ Rs, FoldOk R) (hd : ∀ R ∈ Rs, R.data.length ≤ 9223372036854775807) (hn : Rs.length ≤ 1048576) :
    Calls Tryd.prog 10 #[s.v] w fun e w' => ∃ (v : Sl) (Ss : List SagaD), e = .returned (.tuple #[.slice s.a (foldB noBag Rs).2 s.c, .agg #[.int .i64 ((foldB noBag Rs).2 : Nat), .slice v.a v.n v.c], .bool true]) ∧ OwnSagas w' w.heap.size (.slice v.a v.n v.c) Ss ∧ StateOf (foldB noBag Rs).1 Ss ∧ Below w.heap.size w w' := by
  have hra := h.recsAt hd
  obtain ⟨rs, q1, q2, q3, q4, q5⟩ := h
  obtain ⟨a, n, c⟩ := s
  simp only at q1 q3 q4
  have hnr : n = Rs.length := by omega
  subst hnr
  have ha0 : Rs.length ≠ 0 → ∃ b o, a = some ⟨b, o, none⟩ := fun h0 => by obtain ⟨b, o, e, _⟩ := q4 (by omega); exact ⟨b, o, e⟩
  have hcap : Rs.length ≤ c := q3.1
  have hb1 := boxd (o := .cells #[.int .i64 0, .slice none 0 0] 27) (Below.refl w.heap.size w)
  have KZ := Lib.hid (BlkAt.new w #[.int .i64 0, .slice none 0 0] 27)
  have cF := fold_any ⟨a, Rs.length, c⟩ Rs (w.alloc (.cells #[.int .i64 0, .slice none 0 0] 27)) (ht.below hb1) (hl.below hb1) (hra.below hb1) hf hn
  have HK := foldB_le Rs noBag
  obtain ⟨k, hk⟩ : ∃ x, (foldB noBag Rs).2 = x := ⟨_, rfl⟩
  obtain ⟨F1, hF1⟩ : ∃ x, (foldB noBag Rs).1 = x := ⟨_, rfl⟩
  rw [hk, hF1] at cF
  rw [hk] at HK
  rw [hk, hF1]
  clear hk hF1
  dsimp only [Sl.v] at cF
  have HB1 := Lib.hid hb1
  clear q4 q5 q3 q1 q2 ht hl hf hd hra hb1
  dsimp only [Sl.v]
  by_cases hkl : k = Rs.length
  · subst hkl
    rw [if_pos rfl] at cF
    have CF := Lib.hid cF
    clear cF ha0
    go_enter Tryd.func10, Tryd.ntmps10
    go_wp2_with fail
    refine CF.out.mono ?_
    rintro e w2 ⟨⟨va, vn, vc⟩, Ss, rfl, ho, hso, hb⟩
    obtain ⟨w3, hw3⟩ : ∃ q, w2.alloc (.cells #[.int .i64 Rs.length, .slice va vn vc] 27) = q := ⟨_, rfl⟩
    have hb3 : Below w2.heap.size w2 w3 := by rw [← hw3]; exact boxd (Below.refl _ _)
    have HS3 : Hid (LgSt w w3 w2.heap.size (Rs.length) va vn vc Ss) := Lib.hid ⟨by rw [← hw3]; exact BlkAt.new _ _ _, ⟨_, (KZ.out.below hb (blk_lt KZ.out)).below hb3 (blk_lt (KZ.out.below hb (blk_lt KZ.out))), rfl⟩, (ho.lower (by rw [World.size_alloc]; omega)).through hb3, then_ (then_ HB1.out hb) hb3⟩
    have HSO := Lib.hid hso
    have HNE : w2.heap.size ≠ w.heap.size := by have := hb.size; rw [World.size_alloc] at this; omega
    have HNE' := Lib.hid HNE
    have HW3 := Lib.hid hw3
    clear hw3 hb3 ho hso hb CF KZ HB1 HNE
    go_upto_region 2 with fail
    rw [HW3.out]
    clear HW3
    go_upto_region 6 with fail
    refine wp_region_held_drew (S := (fun W => LgSt w W w2.heap.size (Rs.length) va vn vc Ss)) (by kernel_rfl) (HS3.out.drew) (fun hHeld => ?_)
    refine wpAnyH_take (i := 0) (oi := { dst := some 26, op := Op.move (Operand.tmp 0), type := 22, pos := "outright.go:23", after := #[], guard := none }) (v := ?_) rfl (by kernel_rfl) (by kernel_rfl) (by kernel_rfl) (fun _ _ _ h => h) (Or.inl ⟨by rfl, ?_⟩) (by assumption) ?_
    rotate_left 1
    focus (intro w hSw; (try clear hSw); go_simp; try (with_reducible rfl))
    try go_frame
    refine wpAnyH_take (i := 1) (oi := { dst := some 27, op := Op.load 27 (Operand.tmp 5), type := 27, pos := "outright.go:23", after := #[{ on := 7, ground := Ground.gcOnly Departure.lateStores }], guard := none }) (v := .agg #[.int .i64 (Rs.length : Nat), .slice va vn vc]) rfl (by kernel_rfl) (by kernel_rfl) (by kernel_rfl) (fun _ _ _ h => h) (yl_blk rfl _ _ rfl w2.heap.size rfl _ _ (fun w' h => h.box) rowState) (by assumption) ?_
    try go_frame
    refine wpAnyH_take (i := 2) (oi := { dst := some 28, op := Op.fieldAddr 27 (Operand.tmp 5) 0, type := 0, pos := "outright.go:23", after := #[{ on := 8, ground := Ground.gcOnly Departure.lateStores }], guard := none }) (v := ?_) rfl (by kernel_rfl) (by kernel_rfl) (by kernel_rfl) (fun _ _ _ h => h) (Or.inl ⟨by rfl, ?_⟩) (by assumption) ?_
    rotate_left 1
    focus (intro w hSw; (try clear hSw); go_simp; try (with_reducible rfl))
    try go_frame
    refine wpAnyH_take (i := 3) (oi := { dst := some 29, op := Op.load 3 (Operand.tmp 28), type := 3, pos := "outright.go:23", after := #[{ on := 2, ground := Ground.data }, { on := 8, ground := Ground.gcOnly Departure.lateStores }], guard := none }) (v := .int .i64 (Rs.length : Nat)) rfl (by kernel_rfl) (by kernel_rfl) (by kernel_rfl) (fun _ _ _ h => h) (yl_cell rfl _ _ rfl ⟨w2.heap.size, 0, none⟩ rfl _ (fun w' h => (h.box.cell 0).trans rfl) one_int) (by assumption) ?_
    try go_frame
    refine wpAnyH_take (i := 4) (oi := { dst := some 30, op := Op.move (Operand.tmp 0), type := 22, pos := "outright.go:23", after := #[], guard := none }) (v := ?_) rfl (by kernel_rfl) (by kernel_rfl) (by kernel_rfl) (fun _ _ _ h => h) (Or.inl ⟨by rfl, ?_⟩) (by assumption) ?_
    rotate_left 1
    focus (intro w hSw; (try clear hSw); go_simp; try (with_reducible rfl))
    try go_frame
    refine wpAnyH_take (i := 5) (oi := { dst := some 31, op := Op.call { callee := Callee.builtin Builtin.len, args := #[Operand.tmp 30], argTypes := #[22] }, type := 3, pos := "outright.go:23", after := #[{ on := 4, ground := Ground.data }], guard := none }) (v := ?_) rfl (by kernel_rfl) (by kernel_rfl) (by kernel_rfl) (fun _ _ _ h => h) (Or.inl ⟨by rfl, ?_⟩) (by assumption) ?_
    rotate_left 1
    focus (intro w hSw; (try clear hSw); go_simp; try (with_reducible rfl))
    try go_frame
    refine wpAnyH_take (i := 6) (oi := { dst := some 32, op := Op.binOp BinOp.eql 3 (Operand.tmp 29) (Operand.tmp 31) 3, type := 4, pos := "outright.go:23", after := #[{ on := 3, ground := Ground.data }, { on := 5, ground := Ground.data }, { on := 8, ground := Ground.gcOnly Departure.lateStores }], guard := none }) (v := ?_) rfl (by kernel_rfl) (by kernel_rfl) (by kernel_rfl) (fun _ _ _ h => h) (Or.inl ⟨by rfl, ?_⟩) (by assumption) ?_
    rotate_left 1
    focus (intro w hSw; (try clear hSw); go_simp; try (with_reducible rfl))
    try go_frame
    refine wpAnyH_ready (rs := [7]) (by kernel_rfl) (by simp) ?_
    refine AllReadyH.cons (o := { dst := some 2, op := Op.assign (Operand.tmp 26), type := 22, pos := "outright.go:23", after := #[{ on := 0, ground := Ground.data }, { on := 0, ground := Ground.phase }, { on := 1, ground := Ground.textOnly Departure.lateStores }, { on := 2, ground := Ground.textOnly Departure.lateStores }, { on := 3, ground := Ground.textOnly Departure.lateStores }, { on := 4, ground := Ground.textOnly Departure.lateStores }, { on := 5, ground := Ground.textOnly Departure.lateStoresUnsure }, { on := 6, ground := Ground.textOnly Departure.lateStores }], guard := none }) rfl (fun K hK => ?_) ?_
    · go_simp
      refine hK.out _ _ (by assumption) (fun hHeld => ?_)
      clear hK K
      try go_frame
      refine wpAnyH_ready (rs := [8]) (by kernel_rfl) (by simp) ?_
      refine AllReadyH.cons (o := { dst := none, op := Op.store 27 (Operand.tmp 3) (Operand.tmp 27), type := 0, pos := "outright.go:23", after := #[{ on := 1, ground := Ground.data }, { on := 7, ground := Ground.chain }, { on := 0, ground := Ground.phase }, { on := 1, ground := Ground.phase }, { on := 2, ground := Ground.textOnly Departure.lateStores }, { on := 3, ground := Ground.textOnly Departure.lateStores }, { on := 4, ground := Ground.textOnly Departure.lateStores }, { on := 5, ground := Ground.textOnly Departure.lateStoresUnsure }, { on := 6, ground := Ground.textOnly Departure.lateStores }, { on := 7, ground := Ground.phase }], guard := none }) rfl (fun K hK => ?_) ?_
      · obtain ⟨cz, KZ5, hz5⟩ := hHeld.res
        refine step_store_blk rfl _ _ _ rfl w.heap.size rfl #[.int .i64 (Rs.length : Nat), .slice va vn vc] rfl _ _ KZ5 hz5 (by simp [Value.oneCell']) rowState ?_
        intro w9 hw9 K9
        refine hK.out _ _ (⟨hw9.blk hHeld.box HNE'.out, ⟨_, K9, rfl⟩, hHeld.own.wrote hw9 KZ5 (by decide) (by decide) (by decide), hw9.below hHeld.below (Nat.le_refl _)⟩) (fun hHeld => ?_)
        clear hK K
        try go_frame
        refine wpAnyH_ready (rs := [9]) (by kernel_rfl) (by simp) ?_
        refine AllReadyH.cons (o := { dst := some 4, op := Op.assign (Operand.tmp 32), type := 4, pos := "outright.go:23", after := #[{ on := 6, ground := Ground.data }, { on := 8, ground := Ground.chain }, { on := 0, ground := Ground.phase }, { on := 1, ground := Ground.phase }, { on := 2, ground := Ground.phase }, { on := 3, ground := Ground.phase }, { on := 4, ground := Ground.phase }, { on := 5, ground := Ground.phase }, { on := 6, ground := Ground.phase }, { on := 7, ground := Ground.phase }, { on := 8, ground := Ground.phase }], guard := none }) rfl (fun K hK => ?_) ?_
        · go_simp
          refine hK.out _ _ (by assumption) (fun hHeld => ?_)
          clear hK K
          try go_frame
          refine wpAnyH_done (by kernel_rfl) ?_ _
          try go_wp2_with fail
          refine bodyPost_ret (results_mid rfl _ _ _ _ _ rfl K9 rowState) rfl ⟨⟨va, vn, vc⟩, Ss, ?_, hHeld.own, HSO.out, hHeld.below⟩
          rfl
        exact AllReadyH.nil
      exact AllReadyH.nil
    exact AllReadyH.nil
  · rw [if_neg hkl] at cF
    have CF := Lib.hid cF
    obtain ⟨b, o, e⟩ := ha0 (by omega)
    subst e
    have hklt : k < Rs.length := by omega
    have hkc : k ≤ c := by omega
    clear cF ha0 HK
    go_enter Tryd.func10, Tryd.ntmps10
    go_wp2_with fail
    refine CF.out.mono ?_
    rintro e w2 ⟨⟨va, vn, vc⟩, Ss, rfl, ho, hso, hb⟩
    obtain ⟨w3, hw3⟩ : ∃ q, w2.alloc (.cells #[.int .i64 k, .slice va vn vc] 27) = q := ⟨_, rfl⟩
    have hb3 : Below w2.heap.size w2 w3 := by rw [← hw3]; exact boxd (Below.refl _ _)
    have HS3 : Hid (LgSt w w3 w2.heap.size (k) va vn vc Ss) := Lib.hid ⟨by rw [← hw3]; exact BlkAt.new _ _ _, ⟨_, (KZ.out.below hb (blk_lt KZ.out)).below hb3 (blk_lt (KZ.out.below hb (blk_lt KZ.out))), rfl⟩, (ho.lower (by rw [World.size_alloc]; omega)).through hb3, then_ (then_ HB1.out hb) hb3⟩
    have HSO := Lib.hid hso
    have HNE : w2.heap.size ≠ w.heap.size := by have := hb.size; rw [World.size_alloc] at this; omega
    have HNE' := Lib.hid HNE
    have HW3 := Lib.hid hw3
    clear hw3 hb3 ho hso hb CF KZ HB1 HNE
    go_upto_region 2 with fail
    rw [HW3.out]
    clear HW3
    go_upto_region 6 with fail
    refine wp_region_held_drew (S := (fun W => LgSt w W w2.heap.size (k) va vn vc Ss)) (by kernel_rfl) (HS3.out.drew) (fun hHeld => ?_)
    refine wpAnyH_take (i := 0) (oi := { dst := some 26, op := Op.move (Operand.tmp 0), type := 22, pos := "outright.go:23", after := #[], guard := none }) (v := ?_) rfl (by kernel_rfl) (by kernel_rfl) (by kernel_rfl) (fun _ _ _ h => h) (Or.inl ⟨by rfl, ?_⟩) (by assumption) ?_
    rotate_left 1
    focus (intro w hSw; (try clear hSw); go_simp; try (with_reducible rfl))
    try go_frame
    refine wpAnyH_take (i := 1) (oi := { dst := some 27, op := Op.load 27 (Operand.tmp 5), type := 27, pos := "outright.go:23", after := #[{ on := 7, ground := Ground.gcOnly Departure.lateStores }], guard := none }) (v := .agg #[.int .i64 (k : Nat), .slice va vn vc]) rfl (by kernel_rfl) (by kernel_rfl) (by kernel_rfl) (fun _ _ _ h => h) (yl_blk rfl _ _ rfl w2.heap.size rfl _ _ (fun w' h => h.box) rowState) (by assumption) ?_
    try go_frame
    refine wpAnyH_take (i := 2) (oi := { dst := some 28, op := Op.fieldAddr 27 (Operand.tmp 5) 0, type := 0, pos := "outright.go:23", after := #[{ on := 8, ground := Ground.gcOnly Departure.lateStores }], guard := none }) (v := ?_) rfl (by kernel_rfl) (by kernel_rfl) (by kernel_rfl) (fun _ _ _ h => h) (Or.inl ⟨by rfl, ?_⟩) (by assumption) ?_
    rotate_left 1
    focus (intro w hSw; (try clear hSw); go_simp; try (with_reducible rfl))
    try go_frame
    refine wpAnyH_take (i := 3) (oi := { dst := some 29, op := Op.load 3 (Operand.tmp 28), type := 3, pos := "outright.go:23", after := #[{ on := 2, ground := Ground.data }, { on := 8, ground := Ground.gcOnly Departure.lateStores }], guard := none }) (v := .int .i64 (k : Nat)) rfl (by kernel_rfl) (by kernel_rfl) (by kernel_rfl) (fun _ _ _ h => h) (yl_cell rfl _ _ rfl ⟨w2.heap.size, 0, none⟩ rfl _ (fun w' h => (h.box.cell 0).trans rfl) one_int) (by assumption) ?_
    try go_frame
    refine wpAnyH_take (i := 4) (oi := { dst := some 30, op := Op.move (Operand.tmp 0), type := 22, pos := "outright.go:23", after := #[], guard := none }) (v := ?_) rfl (by kernel_rfl) (by kernel_rfl) (by kernel_rfl) (fun _ _ _ h => h) (Or.inl ⟨by rfl, ?_⟩) (by assumption) ?_
    rotate_left 1
    focus (intro w hSw; (try clear hSw); go_simp; try (with_reducible rfl))
    try go_frame
    refine wpAnyH_take (i := 5) (oi := { dst := some 31, op := Op.call { callee := Callee.builtin Builtin.len, args := #[Operand.tmp 30], argTypes := #[22] }, type := 3, pos := "outright.go:23", after := #[{ on := 4, ground := Ground.data }], guard := none }) (v := ?_) rfl (by kernel_rfl) (by kernel_rfl) (by kernel_rfl) (fun _ _ _ h => h) (Or.inl ⟨by rfl, ?_⟩) (by assumption) ?_
    rotate_left 1
    focus (intro w hSw; (try clear hSw); go_simp; try (with_reducible rfl))
    try go_frame
    refine wpAnyH_take (i := 6) (oi := { dst := some 32, op := Op.binOp BinOp.eql 3 (Operand.tmp 29) (Operand.tmp 31) 3, type := 4, pos := "outright.go:23", after := #[{ on := 3, ground := Ground.data }, { on := 5, ground := Ground.data }, { on := 8, ground := Ground.gcOnly Departure.lateStores }], guard := none }) (v := ?_) rfl (by kernel_rfl) (by kernel_rfl) (by kernel_rfl) (fun _ _ _ h => h) (Or.inl ⟨by rfl, ?_⟩) (by assumption) ?_
    rotate_left 1
    focus (intro w hSw; (try clear hSw); go_simp; try (with_reducible rfl))
    try go_frame
    refine wpAnyH_ready (rs := [7]) (by kernel_rfl) (by simp) ?_
    refine AllReadyH.cons (o := { dst := some 2, op := Op.assign (Operand.tmp 26), type := 22, pos := "outright.go:23", after := #[{ on := 0, ground := Ground.data }, { on := 0, ground := Ground.phase }, { on := 1, ground := Ground.textOnly Departure.lateStores }, { on := 2, ground := Ground.textOnly Departure.lateStores }, { on := 3, ground := Ground.textOnly Departure.lateStores }, { on := 4, ground := Ground.textOnly Departure.lateStores }, { on := 5, ground := Ground.textOnly Departure.lateStoresUnsure }, { on := 6, ground := Ground.textOnly Departure.lateStores }], guard := none }) rfl (fun K hK => ?_) ?_
    · go_simp
      refine hK.out _ _ (by assumption) (fun hHeld => ?_)
      clear hK K
      try go_frame
      refine wpAnyH_ready (rs := [8]) (by kernel_rfl) (by simp) ?_
      refine AllReadyH.cons (o := { dst := none, op := Op.store 27 (Operand.tmp 3) (Operand.tmp 27), type := 0, pos := "outright.go:23", after := #[{ on := 1, ground := Ground.data }, { on := 7, ground := Ground.chain }, { on := 0, ground := Ground.phase }, { on := 1, ground := Ground.phase }, { on := 2, ground := Ground.textOnly Departure.lateStores }, { on := 3, ground := Ground.textOnly Departure.lateStores }, { on := 4, ground := Ground.textOnly Departure.lateStores }, { on := 5, ground := Ground.textOnly Departure.lateStoresUnsure }, { on := 6, ground := Ground.textOnly Departure.lateStores }, { on := 7, ground := Ground.phase }], guard := none }) rfl (fun K hK => ?_) ?_
      · obtain ⟨cz, KZ5, hz5⟩ := hHeld.res
        refine step_store_blk rfl _ _ _ rfl w.heap.size rfl #[.int .i64 (k : Nat), .slice va vn vc] rfl _ _ KZ5 hz5 (by simp [Value.oneCell']) rowState ?_
        intro w9 hw9 K9
        refine hK.out _ _ (⟨hw9.blk hHeld.box HNE'.out, ⟨_, K9, rfl⟩, hHeld.own.wrote hw9 KZ5 (by decide) (by decide) (by decide), hw9.below hHeld.below (Nat.le_refl _)⟩) (fun hHeld => ?_)
        clear hK K
        try go_frame
        refine wpAnyH_ready (rs := [9]) (by kernel_rfl) (by simp) ?_
        refine AllReadyH.cons (o := { dst := some 4, op := Op.assign (Operand.tmp 32), type := 4, pos := "outright.go:23", after := #[{ on := 6, ground := Ground.data }, { on := 8, ground := Ground.chain }, { on := 0, ground := Ground.phase }, { on := 1, ground := Ground.phase }, { on := 2, ground := Ground.phase }, { on := 3, ground := Ground.phase }, { on := 4, ground := Ground.phase }, { on := 5, ground := Ground.phase }, { on := 6, ground := Ground.phase }, { on := 7, ground := Ground.phase }, { on := 8, ground := Ground.phase }], guard := none }) rfl (fun K hK => ?_) ?_
        · go_simp
          refine hK.out _ _ (by assumption) (fun hHeld => ?_)
          clear hK K
          try go_frame
          refine wpAnyH_done (by kernel_rfl) ?_ _
          try go_wp2_with fail
          refine bodyPost_ret (results_mid rfl _ _ _ _ _ rfl K9 rowState) rfl ⟨⟨va, vn, vc⟩, Ss, ?_, hHeld.own, HSO.out, hHeld.below⟩
          rfl
        exact AllReadyH.nil
      exact AllReadyH.nil
    exact AllReadyH.nil
end Go.Proofs.YtfbaliimjmimhaaDoor
