/-
  annalslaw10.SagaRuns walked: it answers true. Conditions: the tables, as laid; records whose texts are small. (Printed by wip/gen_runs.py.)
-/
import Derived.Test.YteaiadpigpehaaaDoorPkOps
import Derived.Test.YteaiadpigpehaaaDoorStarted
import Derived.Test.YteaiadpigpehaaaDoorRef10ToldAll
import Derived.Test.YteaiadpigpehaaaDoorPkTold
import Derived.Maps.RangeWalk
import Derived.Laws.Tables
import Derived.Deep.DeepCutAuto
import Derived.Deep.CutBlock
namespace Go.Proofs.YteaiadpigpehaaaDoor
open Go.RowKit
namespace sagaRuns

/-- What a record must be to be handed on. -/
structure RecOk2 (R : RecD) : Prop where
  fits : RecFits R
  ref : RefFits R
  at_ : R.at_ ≤ 9223372036854775807
  name : R.name.size ≤ 1099511627776
/-- What a saga must be to be asked. -/
structure SagaOk2 (D : SagaD) : Prop where
  fits : SagaFits D
  ref : RefSaga D
theorem sagaOk {D : SagaD} (hg : GoodD D) (hn : D.name.size ≤ 1099511627776) (hb : D.begun ≤ 9223372036854775807) (ha : D.at_ ≤ 9223372036854775807) : SagaOk2 D := by
  have h := hg.fits (by omega)
  exact ⟨⟨h.1, h.2.1, h.2.2⟩, ⟨hg.small, hn, hb, ha, told_sized hg.small⟩⟩
theorem up3_small {R : RecD} (hr : RecOk2 R) : (up3 R).name.size ≤ 1099511627776 := by
  have h1 := hr.name
  have h2 := hr.ref.len
  unfold up3
  split
  · split
    · show (strOfNums R.data).size ≤ _
      rw [strOfNums_size]; omega
    · split
      · exact h1
      · split
        · exact h1
        · exact h1
  · exact h1
theorem moved_at (D : SagaD) (X : RecD) : (movedD D X).at_ = X.at_ := by
  unfold movedD turnD
  split
  · rfl
  · split
    · rfl
    · split
      · split <;> rfl
      · split <;> rfl
theorem beginOk {R : RecD} (hr : RecOk2 R) (h : beginN R = 0) : SagaOk2 (beginD R) := by
  obtain ⟨_, _, e, hg⟩ := begin_taken h
  have hn := hr.name
  have ha := hr.at_
  have hd : (up3 R).name.size ≤ 1099511627776 := up3_small hr
  refine sagaOk hg ?_ ?_ ?_ <;> rw [e]
  · exact hd
  · show (up3 R).at_ ≤ _; rw [up3_at]; exact ha
  · show (up3 R).at_ ≤ _; rw [up3_at]; exact ha
theorem applyOk {D : SagaD} {R : RecD} (hd : SagaOk2 D) (hr : RecOk2 R) (h : applyN D R = 0) : SagaOk2 (applyD D R) := by
  obtain ⟨_, _, _, e, hg⟩ := apply_taken h
  have k := moved_kept D (up3 R)
  have ha : (movedD D (up3 R)).at_ = R.at_ := by rw [moved_at, up3_at]
  refine sagaOk hg ?_ ?_ ?_ <;> rw [e]
  · rw [k.name]; exact hd.ref.name
  · rw [k.begun]; exact hd.ref.begun
  · rw [ha]; exact hr.at_
theorem built_op (k : Int) (s : SagaV) : Tryd.prog.built 59 [(0, .int .i64 k), (1, .agg (sagaArr s))] = some (opArr ⟨k, s, zeroRecV⟩) := by kernel_rfl
section
variable {ops : Array Oper} {rest : List Oper} {o : Oper} {a : Act} {w : World} {Q : Exit → Act → World → Prop}
theorem parts_op (k : Int) (x : Tmp) (s : SagaV) (hx : a.eval (.tmp x) = .agg (sagaArr s)) : Tryd.prog.built 59 ((#[(0, Operand.const (.int .i64 k)), (1, .tmp x)] : Array (Nat × Operand)).map fun (i, y) => (i, a.eval y)).toList = some (opArr ⟨k, s, zeroRecV⟩) := by
  rw [show ((#[(0, Operand.const (.int .i64 k)), (1, .tmp x)] : Array (Nat × Operand)).map fun (i, y) => (i, a.eval y)).toList = [(0, a.eval (.const (.int .i64 k))), (1, a.eval (.tmp x))] from by simp, hx]
  exact built_op k s
theorem wpList_op (hg : o.guard = none) (k : Int) (x : Tmp) (ho : o.op = .build 59 #[(0, .const (.int .i64 k)), (1, .tmp x)]) (s : SagaV) (hx : a.eval (.tmp x) = .agg (sagaArr s))
    (h : wpList Tryd.prog ops Q rest (a.put o.dst (.agg (opArr ⟨k, s, zeroRecV⟩))) w) : wpList Tryd.prog ops Q (o :: rest) a w := by
  refine wpList_build hg _ _ ho (by rw [parts_op k x s hx]; rfl) ?_
  rw [parts_op k x s hx]
  exact h
theorem wpList_op_g (hw : Region.wanted o (yielded ops a.tmps) = true) (k : Int) (x : Tmp) (ho : o.op = .build 59 #[(0, .const (.int .i64 k)), (1, .tmp x)]) (s : SagaV) (hx : a.eval (.tmp x) = .agg (sagaArr s))
    (h : wpList Tryd.prog ops Q rest (a.put o.dst (.agg (opArr ⟨k, s, zeroRecV⟩))) w) : wpList Tryd.prog ops Q (o :: rest) a w :=
  BigFrame.wpList_want hw fun _ hK => wp_build _ _ ho (by rw [parts_op k x s hx]; rfl) (by
    rw [parts_op k x s hx]
    exact hK _ _ h)
end
def zeroRD : RecD := ⟨0, 0, 0, 0, 0, 0, 0, 0, 0, 0, ⟨#[]⟩, []⟩
theorem zero_rd (w : World) : RecRd w zeroRecV zeroRD := ⟨rfl, RowAt.nil _ _ _ (fun _ => rfl)⟩
/-- How the run stands. -/
structure RunAt (w wr : World) (g7 g9 : Nat) (s t : SagaV) (D : SagaD) : Prop where
  below : Below w.heap.size w wr
  ks : BlkAt wr g7 (sagaArr s) 25
  kt : BlkAt wr g9 (sagaArr t) 25
  g70 : w.heap.size ≤ g7
  g90 : w.heap.size ≤ g9
  ne : g7 ≠ g9
  s : SagaOwn wr w.heap.size s D
  t : SagaOwn wr w.heap.size t D
  ok : SagaOk2 D
theorem RunAt.bl {w wr w' : World} {g7 g9 : Nat} {s t : SagaV} {D : SagaD} (h : RunAt w wr g7 g9 s t D) (hb : Below wr.heap.size wr w') : RunAt w w' g7 g9 s t D :=
  ⟨then_ h.below hb, h.ks.below hb (blk_lt h.ks), h.kt.below hb (blk_lt h.kt), h.g70, h.g90, h.ne, h.s.through hb, h.t.through hb, h.ok⟩
theorem RunAt.wrote {w wr w' : World} {g g7 g9 : Nat} {s t : SagaV} {D : SagaD} {cs : Array Value} (h : RunAt w wr g7 g9 s t D) (hk : BlkAt wr g cs 25) (hw : Wrote wr w' g) (h0 : w.heap.size ≤ g) (h7 : g7 ≠ g) (h9 : g9 ≠ g) : RunAt w w' g7 g9 s t D :=
  have k := hw.rows hk (by decide) (by decide)
  ⟨hw.below h.below h0, hw.blk h.ks h7, hw.blk h.kt h9, h.g70, h.g90, h.ne, h.s.keep k, h.t.keep k, h.ok⟩
/-- A saga that was answered, in its box. -/
structure Ans2 (w wr : World) (g : Nat) (u : SagaV) (E : SagaD) : Prop where
  blk : BlkAt wr g (sagaArr u) 25
  own : SagaOwn wr w.heap.size u E
theorem Ans2.bl {w wr w' : World} {g : Nat} {u : SagaV} {E : SagaD} (h : Ans2 w wr g u E) (hb : Below wr.heap.size wr w') : Ans2 w w' g u E := ⟨h.blk.below hb (blk_lt h.blk), h.own.through hb⟩
theorem Ans2.wrote {w wr w' : World} {g k : Nat} {u : SagaV} {E : SagaD} {cs : Array Value} (h : Ans2 w wr g u E) (hk : BlkAt wr k cs 25) (hw : Wrote wr w' k) (hne : g ≠ k) : Ans2 w w' g u E := ⟨hw.blk h.blk hne, h.own.keep (hw.rows hk (by decide) (by decide))⟩
set_option maxRecDepth 10000000 in
set_option maxHeartbeats 16000000 in
theorem walk (s : Sl) (Rs : List RecD) (q : Sl) (ask : List Int) (w : World) (ht : Tables w) (hl : LandsAt w) (hrt : RefTabs w) (h : RecsAt w s Rs) (k : IntsAt w q ask) (hq : ∀ R ∈ Rs, RecOk2 R) (hla : ask.length ≤ 9223372036854775807) :
    Calls Tryd.prog 7 #[s.v, q.v] w fun e w' => e = .returned (.bool true) ∧ Below w.heap.size w w' := by
  obtain ⟨rs, q1, q2, q3, q4, q5⟩ := h
  obtain ⟨a, n, c⟩ := s
  obtain ⟨qa, qn, qc⟩ := q
  simp only at q1 q3 q4
  have hn : n = Rs.length := by omega
  subst hn
  have hmax := q3.1
  have hqn := k.len
  simp only at hqn
  subst hqn
  have HA := Lib.hid q4
  have HR := Lib.hid q5
  have HQ2 := Lib.hid q2
  have HI := Lib.hid k
  have HQ := Lib.hid hq
  have HT := Lib.hid ht
  have HL := Lib.hid hl
  have HRT := Lib.hid hrt
  clear q4 q5 q3 q1 q2 ht hl hrt hq k
  dsimp only [Sl.v]
  go_enter Tryd.func7, Tryd.ntmps7
  go_wp2_with fail
  refine (first_any w).mono ?_
  rintro e w2 ⟨t, u, rfl, bt, bu, hb⟩
  obtain ⟨w3, hw3⟩ : ∃ q, (w2.alloc (.cells (recArr (firstR.words t)) 27)).alloc (.cells (sagaArr (firstD.words u nilSl nilSl nilSl)) 25) = q := ⟨_, rfl⟩
  have hb3 : Below w2.heap.size w2 w3 := by rw [← hw3]; exact boxd (boxd (Below.refl _ _))
  have KB3 : Hid (BlkAt w3 w2.heap.size (recArr (firstR.words t)) 27) := Lib.hid (by rw [← hw3]; exact (BlkAt.new _ _ _).push _)
  have HB3 := Lib.hid (then_ hb hb3)
  have BT3 := Lib.hid (bt.below hb3)
  have cB := begin_any (firstR.words t) firstR w3 (HT.out.below HB3.out) ⟨rfl, BT3.out⟩ ⟨by decide, by decide⟩
  rw [begin_first, begin_firstD] at cB
  have CB := Lib.hid cB
  dsimp only [RecD.words, SagaD.words, recArr, sagaArr, firstR, firstD, nilSl, Sl.v] at hw3
  have HW3 := Lib.hid hw3
  clear hw3 hb hb3 bt bu cB
  dsimp only [RecD.words, SagaD.words, RecV.val, SagaV.val, firstR, firstD, nilSl, Sl.v]
  go_upto_region 2 with fail
  rw [HW3.out]
  clear HW3
  go_wp2_with (refine wpList_load_blk rfl _ _ rfl _ rfl _ _ KB3.out rowRec ?_)
  refine CB.out.mono ?_
  clear CB
  rintro e w4 ⟨s5, rfl, ho, hb⟩
  obtain ⟨w5, hw5⟩ : ∃ q, w4.alloc (.cells (sagaArr s5) 25) = q := ⟨_, rfl⟩
  have hb5 : Below w4.heap.size w4 w5 := by rw [← hw5]; exact boxd (Below.refl _ _)
  have hT := then_ hb hb5
  have hz4 : w.heap.size ≤ w4.heap.size := (then_ HB3.out hb).size
  have K5 : Hid (BlkAt w5 w4.heap.size (sagaArr s5) 25) := Lib.hid (by rw [← hw5]; exact BlkAt.new _ _ _)
  have O5 := Lib.hid ((ho.through hb5).lower (c := w.heap.size) HB3.out.size)
  have KB5 := Lib.hid (KB3.out.below hT (blk_lt KB3.out))
  have HB5 := Lib.hid (then_ HB3.out hT)
  have hs5 : w5.heap.size = w4.heap.size + 1 := by rw [← hw5]; simp
  have cB := ref10Begin_any (firstR.words t) firstR w5 (HRT.out.below HB5.out) ⟨rfl, BT3.out.below hT⟩ ⟨by decide, by decide⟩
  rw [begin_first, begin_firstD] at cB
  have CB := Lib.hid cB
  obtain ⟨g7, hg7⟩ : ∃ q, w4.heap.size = q := ⟨_, rfl⟩
  rw [hg7] at K5 hz4 hs5
  dsimp only [sagaArr, Sl.v] at hw5
  have HW5 := Lib.hid hw5
  clear hw5 hb5 hb ho hT KB3 HB3 BT3 cB
  dsimp only [SagaV.val, Sl.v]
  go_upto_region 3 with fail
  rw [HW5.out]
  clear HW5 hg7
  go_wp2_with (refine wpList_load_blk rfl _ _ rfl _ rfl _ _ KB5.out rowRec ?_)
  refine CB.out.mono ?_
  clear CB
  rintro e w6 ⟨s7, rfl, ho, hb⟩
  obtain ⟨w7, hw7⟩ : ∃ q, w6.alloc (.cells (sagaArr s7) 25) = q := ⟨_, rfl⟩
  have hb7 : Below w6.heap.size w6 w7 := by rw [← hw7]; exact boxd (Below.refl _ _)
  have hT := then_ hb hb7
  have hz6 := hb.size
  have hrun : RunAt w w7 g7 w6.heap.size s5 s7 firstD := ⟨then_ HB5.out hT, K5.out.below hT (blk_lt K5.out), (by rw [← hw7]; exact BlkAt.new _ _ _), hz4, by omega, by omega, O5.out.through hT, (ho.through hb7).lower (by omega), sagaOk good_first (by decide) (by decide) (by decide)⟩
  have RA := Lib.hid hrun
  obtain ⟨g9, hg9⟩ : ∃ q, w6.heap.size = q := ⟨_, rfl⟩
  rw [hg9] at RA
  dsimp only [sagaArr, Sl.v] at hw7
  have HW7 := Lib.hid hw7
  clear hw7 hb7 hb ho hT KB5 HB5 K5 O5 hz4 hz6 hs5 hrun
  dsimp only [SagaV.val, Sl.v]
  go_upto_region 4 with fail
  rw [HW7.out]
  clear HW7 hg9
  have cM := same_any s5 s7 firstD firstD w7 (RA.out.s.rd good_first.small) (RA.out.t.rd good_first.small)
  rw [sameB_refl] at cM
  have CM := Lib.hid cM
  clear cM
  go_wp2_with (first
  | (go_at_call 14; (with_reducible refine (num_keep2 _ _).mono ?_); rintro e w9 ⟨rfl, rfl⟩)
  | ((with_reducible refine wpList_load_blk_g ?_ _ (.tmp 7) ?_ g7 ?_ 25 (sagaArr s5) RA.out.ks rowSaga ?_); rotate_left; exact rfl; exact rfl; rotate_left; kernel_rfl)
  | ((with_reducible refine wpList_load_blk_g ?_ _ (.tmp 9) ?_ g9 ?_ 25 (sagaArr s7) RA.out.kt rowSaga ?_); rotate_left; exact rfl; exact rfl; rotate_left; kernel_rfl)
  | (go_at_call 17; refine CM.out.mono ?_; rintro e w8 ⟨rfl, hb⟩; have RB := Lib.hid (RA.out.bl hb); clear hb))
  clear CM RA
  go_loopw [11] (fun i wr => ∃ (j : Nat) (s t : SagaV) (D : SagaD), j ≤ Rs.length ∧ i = .int .i64 j ∧ Hid (RunAt w wr g7 g9 s t D)) (fun i _ => Rs.length - (intOf i).toNat)
  case atStart => exact ⟨0, s5, s7, firstD, by omega, rfl, RB⟩
  case round =>
    clear RB
    obtain ⟨j, s, t, D, hj, rfl, RA⟩ := hrel
    by_cases hlt : j < Rs.length
    · obtain ⟨b0, o0, e0, hc0⟩ := HA.out (by omega)
      subst e0
      have ja : j < rs.length := by have := HQ2.out; omega
      have lda := recs_ld hc0 j ja
      have ra := HR.out j ja hlt
      have hin := HQ.out Rs[j] (List.getElem_mem hlt)
      obtain ⟨x, hx⟩ : ∃ q, rs[j] = q := ⟨_, rfl⟩
      obtain ⟨R, hR⟩ : ∃ q, Rs[j] = q := ⟨_, rfl⟩
      rw [hx] at lda ra
      rw [hR] at ra hin
      have LD := Lib.hid lda
      have RD := Lib.hid ra
      have HK := Lib.hid hin
      clear hx hR lda ra hin ja hc0
      obtain ⟨wA, hwA⟩ : ∃ q, (wr.alloc (.cells zeroSagaArr 25)).alloc (.cells zeroSagaArr 25) = q := ⟨_, rfl⟩
      have hbA : Below wr.heap.size wr wA := by rw [← hwA]; exact boxd (boxd (Below.refl _ _))
      have KU : Hid (BlkAt wA wr.heap.size zeroSagaArr 25) := Lib.hid (by rw [← hwA]; exact (BlkAt.new _ _ _).push _)
      have KV : Hid (BlkAt wA (wr.heap.size + 1) zeroSagaArr 25) := Lib.hid (by
        rw [← hwA]
        have := BlkAt.new (wr.alloc (.cells zeroSagaArr 25)) zeroSagaArr 25
        rw [World.size_alloc] at this
        exact this)
      have l7 := blk_lt RA.out.ks
      have l9 := blk_lt RA.out.kt
      have hws := RA.out.below.size
      have RAA := Lib.hid (RA.out.bl hbA)
      have HBA := Lib.hid hbA
      dsimp only [zeroSagaArr] at hwA
      have HWA := Lib.hid hwA
      clear hwA hbA
      go_upto_region 10 with fail
      rw [HWA.out]
      clear HWA
      have hg7u : g7 ≠ wr.heap.size := by omega
      have hg9u : g9 ≠ wr.heap.size := by omega
      have hg7v : g7 ≠ wr.heap.size + 1 := by omega
      have hg9v : g9 ≠ wr.heap.size + 1 := by omega
      obtain ⟨gu, hgu⟩ : ∃ q, wr.heap.size = q := ⟨_, rfl⟩
      have hlu : w.heap.size ≤ gu := by omega
      have hsA : gu + 1 < wA.heap.size := by rw [← hgu]; exact blk_lt KV.out
      have LDA := Lib.hid (LD.out wA RAA.out.below)
      have hc1 := LDA.out 1 (by show 1 < 12; omega)
      rw [show (recArr x)[1]? = some (Value.int .i64 x.kind) from rfl] at hc1
      have RDA := Lib.hid (RD.out.below RAA.out.below)
      obtain ⟨kd, hkd⟩ : ∃ q, x.kind = q := ⟨_, rfl⟩
      rw [hkd] at hc1
      rw [hgu] at KU KV hg7u hg9u hg7v hg9v
      have LD0 := LD
      have RD0 := RD
      clear hws l7 l9 LD RD
      go_upto_if 52 with fail
      rw [hgu]
      have HGU := Lib.hid hgu
      clear hgu
      go_cut [14, 15] (fun s14 s15 wx => ∃ (N : Int) (u v : SagaV) (E : SagaD), s14 = .int .i64 N ∧ s15 = .int .i64 N ∧ Hid (RunAt w wx g7 g9 s t D) ∧ Hid (Ans2 w wx gu u E) ∧ Hid (Ans2 w wx (gu + 1) v E) ∧ Hid (E.held.Small) ∧ Hid (N = 0 → SagaOk2 E))
      case first =>
        by_cases hk1 : kd = 1
        · subst hk1
          have C1 := Lib.hid (begin_any x R wA (HT.out.below RAA.out.below) RDA.out HK.out.fits)
          have C2 := Lib.hid (fun W (h : Below w.heap.size w W) (hr : RecRd W x R) => ref10Begin_any x R W (HRT.out.below h) hr HK.out.ref)
          have HSM := Lib.hid (beginD_small R)
          have HOK := Lib.hid (fun h : beginN R = 0 => beginOk HK.out h)
          obtain ⟨N, hN⟩ : ∃ q, beginN R = q := ⟨_, rfl⟩
          obtain ⟨E, hE⟩ : ∃ q, beginD R = q := ⟨_, rfl⟩
          rw [hN, hE] at C1 C2 HOK
          rw [hE] at HSM
          clear hN hE
          go_wp2_with (refine wpList_load_at rfl _ _ rfl _ _ rfl (recArr x) LDA.out rowRec ?_)
          refine C1.out.mono ?_
          clear C1
          rintro e w6 ⟨u, rfl, ho, hb⟩
          have hsz6 := hb.size
          have KU6 := Lib.hid (KU.out.below hb (by omega))
          have KV6 := Lib.hid (KV.out.below hb (by omega))
          have RA6 := Lib.hid (RAA.out.bl hb)
          have O6 := Lib.hid (ho.lower (c := w.heap.size) RAA.out.below.size)
          clear ho hb KU KV RAA
          go_upto_region 14 with (refine wpList_store_blk rfl _ _ _ rfl _ rfl (sagaArr u) rfl _ _ KU6.out (by rfl) (by simp [sagaArr, Value.oneCell']) rowSaga ?_; intro wS hwS K; have AU := Lib.hid (show Ans2 w wS gu u E from ⟨K, O6.out.keep (hwS.rows KU6.out (by decide) (by decide))⟩); have KVS := Lib.hid (hwS.blk KV6.out (by omega)); have RAS := Lib.hid (RA6.out.wrote KU6.out hwS hlu hg7u hg9u); have LDS := Lib.hid (LD0.out wS RAS.out.below); have RDS := Lib.hid (RD0.out.below RAS.out.below); clear hwS K)
          clear KU6 KV6 RA6 O6 LDA
          go_wp2_with (refine wpList_load_at rfl _ _ rfl _ _ rfl (recArr x) LDS.out rowRec ?_)
          refine (C2.out _ RAS.out.below RDS.out).mono ?_
          clear C2
          rintro e w7 ⟨v, rfl, ho, hb⟩
          have KV7 := Lib.hid (KVS.out.below hb (blk_lt KVS.out))
          have RA7 := Lib.hid (RAS.out.bl hb)
          have AU7 := Lib.hid (AU.out.bl hb)
          have O7 := Lib.hid (ho.lower (c := w.heap.size) RAS.out.below.size)
          clear ho hb KVS RAS AU LDS RDS
          go_wp2_with (refine wpList_store_blk rfl _ _ _ rfl _ rfl (sagaArr v) rfl _ _ KV7.out (by rfl) (by simp [sagaArr, Value.oneCell']) rowSaga ?_; intro wT hwT K; have AV := Lib.hid (show Ans2 w wT (gu + 1) v E from ⟨K, O7.out.keep (hwT.rows KV7.out (by decide) (by decide))⟩); have AUT := Lib.hid (AU7.out.wrote KV7.out hwT (by omega)); have RAT := Lib.hid (RA7.out.wrote KV7.out hwT (by omega) hg7v hg9v); clear hwT K)
          go_meet
          exact ⟨N, u, v, E, rfl, rfl, RAT, AUT, AV, HSM, HOK⟩
        · have hk2 : (kd == 1) = false := by rw [beq_eq_false_iff_ne]; exact hk1
          have C1 := Lib.hid (fun W (h : Since wr W) => apply_any s D x R W (HT.out.below (then_ RA.out.below h.out)) (HL.out.below (then_ RA.out.below h.out)) ((RA.out.bl h.out).s.rd RA.out.ok.ref.small) (RD0.out.below (then_ RA.out.below h.out)) RA.out.ok.fits HK.out.fits)
          have C2 := Lib.hid (fun W (h : Since wr W) => ref10Apply_any t D x R W (HRT.out.below (then_ RA.out.below h.out)) ((RA.out.bl h.out).t.rd RA.out.ok.ref.small) (RD0.out.below (then_ RA.out.below h.out)) RA.out.ok.ref HK.out.ref)
          have HSM := Lib.hid (applyD_small D R)
          have HOK := Lib.hid (fun h : applyN D R = 0 => applyOk RA.out.ok HK.out h)
          obtain ⟨N, hN⟩ : ∃ q, applyN D R = q := ⟨_, rfl⟩
          obtain ⟨E, hE⟩ : ∃ q, applyD D R = q := ⟨_, rfl⟩
          rw [hN, hE] at C1 C2 HOK
          rw [hE] at HSM
          have hge : wr.heap.size ≤ gu := by have := HGU.out; omega
          have hge1 : wr.heap.size ≤ gu + 1 := by omega
          clear hN hE
          go_upto_region 15 with fail
          go_cut [14] (fun s14 wy => ∃ u : SagaV, s14 = .int .i64 N ∧ Hid (RunAt w wy g7 g9 s t D) ∧ Hid (Ans2 w wy gu u E) ∧ Hid (BlkAt wy (gu + 1) zeroSagaArr 25) ∧ Hid (Since wr wy))
          case first =>
            refine wp_region_held_drew (S := Since wr) (by kernel_rfl) (⟨HBA.out.drew⟩) (fun hHeld => ?_)
            refine wpAnyH_take (i := 0) (oi := { dst := some 70, op := Op.load 25 (Operand.tmp 7), type := 25, pos := "law.go:226", after := #[], guard := none }) (v := .agg (sagaArr s)) rfl (by kernel_rfl) (by kernel_rfl) (by kernel_rfl) (fun _ _ _ h => h) (yl_blk rfl _ _ rfl _ rfl _ _ (fun w' h => h.blk RA.out.ks) rowSaga) (by assumption) ?_
            try go_frame
            refine wpAnyH_take (i := 1) (oi := { dst := some 71, op := Op.move (Operand.tmp 0), type := 38, pos := "law.go:226", after := #[], guard := none }) (v := ?_) rfl (by kernel_rfl) (by kernel_rfl) (by kernel_rfl) (fun _ _ _ h => h) (Or.inl ⟨by rfl, ?_⟩) (by assumption) ?_
            rotate_left 1
            focus (intro w hSw; (try clear hSw); go_simp; try (with_reducible rfl))
            try go_frame
            refine wpAnyH_take (i := 2) (oi := { dst := some 72, op := Op.move (Operand.tmp 11), type := 3, pos := "law.go:226", after := #[], guard := none }) (v := ?_) rfl (by kernel_rfl) (by kernel_rfl) (by kernel_rfl) (fun _ _ _ h => h) (Or.inl ⟨by rfl, ?_⟩) (by assumption) ?_
            rotate_left 1
            focus (intro w hSw; (try clear hSw); go_simp; try (with_reducible rfl))
            try go_frame
            refine wpAnyH_take (i := 3) (oi := { dst := some 73, op := Op.indexAddr 38 (Operand.tmp 71) (Operand.tmp 72), type := 0, pos := "law.go:226", after := #[{ on := 1, ground := Ground.data }, { on := 2, ground := Ground.data }], guard := none }) (v := ?_) rfl (by kernel_rfl) (by kernel_rfl) (by kernel_rfl) (fun _ _ _ h => h) (Or.inl ⟨by rfl, ?_⟩) (by assumption) ?_
            rotate_left 1
            focus (intro w hSw; (try clear hSw); go_simp; try (with_reducible rfl))
            try go_frame
            refine wpAnyH_take (i := 4) (oi := { dst := some 74, op := Op.load 27 (Operand.tmp 73), type := 27, pos := "law.go:226", after := #[{ on := 3, ground := Ground.data }], guard := none }) (v := .agg (recArr x)) rfl (by kernel_rfl) (by kernel_rfl) (by kernel_rfl) (fun _ _ _ h => h) (yl_at rfl _ _ rfl _ _ rfl _ (fun w' h => LD0.out w' (then_ RA.out.below h.out)) rowRec) (by assumption) ?_
            try go_frame
            refine wpAnyH_ready (rs := [5]) (by kernel_rfl) (by simp) ?_
            refine AllReadyH.cons (o := { dst := some 75, op := Op.call { callee := Callee.value (Operand.func 16), args := #[Operand.tmp 70, Operand.tmp 74], argTypes := #[25, 27] }, type := 33, pos := "law.go:226", after := #[{ on := 0, ground := Ground.data }, { on := 4, ground := Ground.data }], guard := none }) rfl (fun K hK => ?_) ?_
            · go_simp
              refine (C1.out _ hHeld).mono ?_
              rintro e w6 ⟨u, rfl, ho, hb⟩
              have KU6 := BlkAt.below (show BlkAt wA.drew gu zeroSagaArr 25 from KU.out) hb (blk_lt KU.out)
              have KV6 := BlkAt.below (show BlkAt wA.drew (gu + 1) zeroSagaArr 25 from KV.out) hb (blk_lt KV.out)
              have RA6 := (RAA.out.bl (Below.refl wA.heap.size wA).drew).bl hb
              have O6 := ho.lower (c := w.heap.size) RAA.out.below.size
              try go_wp2_with fail
              refine hK.out _ _ (hHeld.call hb) (fun hHeld => ?_)
              clear hK K
              try go_frame
              refine wpAnyH_take (i := 6) (oi := { dst := some 69, op := Op.move (Operand.tmp 75), type := 33, pos := "law.go:226", after := #[{ on := 5, ground := Ground.data }], guard := none }) (v := ?_) rfl (by kernel_rfl) (by kernel_rfl) (by kernel_rfl) (fun _ _ _ h => h) (Or.inl ⟨by rfl, ?_⟩) (by assumption) ?_
              rotate_left 1
              focus (intro w hSw; (try clear hSw); go_simp; try (with_reducible rfl))
              try go_frame
              refine wpAnyH_take (i := 7) (oi := { dst := some 76, op := Op.extract (Operand.tmp 69) 0, type := 25, pos := "law.go:226", after := #[{ on := 6, ground := Ground.data }], guard := none }) (v := ?_) rfl (by kernel_rfl) (by kernel_rfl) (by kernel_rfl) (fun _ _ _ h => h) (Or.inl ⟨by rfl, ?_⟩) (by assumption) ?_
              rotate_left 1
              focus (intro w hSw; (try clear hSw); go_simp; try (with_reducible rfl))
              try go_frame
              refine wpAnyH_take (i := 8) (oi := { dst := some 77, op := Op.extract (Operand.tmp 69) 1, type := 29, pos := "law.go:226", after := #[{ on := 6, ground := Ground.data }, { on := 9, ground := Ground.gcOnly Departure.lateStores }], guard := none }) (v := ?_) rfl (by kernel_rfl) (by kernel_rfl) (by kernel_rfl) (fun _ _ _ h => h) (Or.inl ⟨by rfl, ?_⟩) (by assumption) ?_
              rotate_left 1
              focus (intro w hSw; (try clear hSw); go_simp; try (with_reducible rfl))
              try go_frame
              refine wpAnyH_ready (rs := [9]) (by kernel_rfl) (by simp) ?_
              refine AllReadyH.cons (o := { dst := none, op := Op.store 25 (Operand.tmp 12) (Operand.tmp 76), type := 0, pos := "law.go:226", after := #[{ on := 7, ground := Ground.data }, { on := 5, ground := Ground.chain }, { on := 0, ground := Ground.phase }, { on := 1, ground := Ground.phase }, { on := 2, ground := Ground.phase }, { on := 3, ground := Ground.phase }, { on := 4, ground := Ground.phase }, { on := 5, ground := Ground.phase }, { on := 6, ground := Ground.phase }, { on := 7, ground := Ground.phase }, { on := 8, ground := Ground.textOnly Departure.lateStores }], guard := none }) rfl (fun K hK => ?_) ?_
              · refine step_store_blk rfl _ _ _ rfl _ rfl (sagaArr u) rfl _ _ KU6 (by rfl) (by simp [sagaArr, Value.oneCell']) rowSaga ?_
                intro wS hwS KSt
                refine hK.out _ _ (hHeld.wrote hwS hge) (fun hHeld => ?_)
                clear hK K
                try go_frame
                refine wpAnyH_ready (rs := [10]) (by kernel_rfl) (by simp) ?_
                refine AllReadyH.cons (o := { dst := some 14, op := Op.assign (Operand.tmp 77), type := 29, pos := "law.go:226", after := #[{ on := 8, ground := Ground.data }, { on := 9, ground := Ground.chain }, { on := 0, ground := Ground.phase }, { on := 1, ground := Ground.phase }, { on := 2, ground := Ground.phase }, { on := 3, ground := Ground.phase }, { on := 4, ground := Ground.phase }, { on := 5, ground := Ground.phase }, { on := 6, ground := Ground.phase }, { on := 7, ground := Ground.phase }, { on := 8, ground := Ground.phase }, { on := 9, ground := Ground.phase }], guard := none }) rfl (fun K hK => ?_) ?_
                · go_simp
                  refine hK.out _ _ (by assumption) (fun hHeld => ?_)
                  clear hK K
                  try go_frame
                  refine wpAnyH_done (by kernel_rfl) ?_ _
                  try go_wp2_with fail
                  go_meet
                  exact ⟨u, rfl, Lib.hid (RA6.wrote KU6 hwS hlu hg7u hg9u), Lib.hid ⟨KSt, O6.keep (hwS.rows KU6 (by decide) (by decide))⟩, Lib.hid (hwS.blk KV6 (by omega)), Lib.hid hHeld⟩
                exact AllReadyH.nil
              exact AllReadyH.nil
            exact AllReadyH.nil
          case rest =>
          obtain ⟨wy, rfl⟩ : ∃ q : World, q = wc := ⟨_, rfl⟩
          obtain ⟨u, rfl, RAY, AUY, KVY, HSY⟩ := hcut
          go_upto_region 16 with fail
          refine wp_region_held_drew (S := Since wr) (by kernel_rfl) (HSY.out.drew) (fun hHeld => ?_)
          refine wpAnyH_take (i := 0) (oi := { dst := some 79, op := Op.load 25 (Operand.tmp 9), type := 25, pos := "law.go:227", after := #[], guard := none }) (v := .agg (sagaArr t)) rfl (by kernel_rfl) (by kernel_rfl) (by kernel_rfl) (fun _ _ _ h => h) (yl_blk rfl _ _ rfl _ rfl _ _ (fun w' h => h.blk RA.out.kt) rowSaga) (by assumption) ?_
          try go_frame
          refine wpAnyH_take (i := 1) (oi := { dst := some 80, op := Op.move (Operand.tmp 0), type := 38, pos := "law.go:227", after := #[], guard := none }) (v := ?_) rfl (by kernel_rfl) (by kernel_rfl) (by kernel_rfl) (fun _ _ _ h => h) (Or.inl ⟨by rfl, ?_⟩) (by assumption) ?_
          rotate_left 1
          focus (intro w hSw; (try clear hSw); go_simp; try (with_reducible rfl))
          try go_frame
          refine wpAnyH_take (i := 2) (oi := { dst := some 81, op := Op.move (Operand.tmp 11), type := 3, pos := "law.go:227", after := #[], guard := none }) (v := ?_) rfl (by kernel_rfl) (by kernel_rfl) (by kernel_rfl) (fun _ _ _ h => h) (Or.inl ⟨by rfl, ?_⟩) (by assumption) ?_
          rotate_left 1
          focus (intro w hSw; (try clear hSw); go_simp; try (with_reducible rfl))
          try go_frame
          refine wpAnyH_take (i := 3) (oi := { dst := some 82, op := Op.indexAddr 38 (Operand.tmp 80) (Operand.tmp 81), type := 0, pos := "law.go:227", after := #[{ on := 1, ground := Ground.data }, { on := 2, ground := Ground.data }], guard := none }) (v := ?_) rfl (by kernel_rfl) (by kernel_rfl) (by kernel_rfl) (fun _ _ _ h => h) (Or.inl ⟨by rfl, ?_⟩) (by assumption) ?_
          rotate_left 1
          focus (intro w hSw; (try clear hSw); go_simp; try (with_reducible rfl))
          try go_frame
          refine wpAnyH_take (i := 4) (oi := { dst := some 83, op := Op.load 27 (Operand.tmp 82), type := 27, pos := "law.go:227", after := #[{ on := 3, ground := Ground.data }], guard := none }) (v := .agg (recArr x)) rfl (by kernel_rfl) (by kernel_rfl) (by kernel_rfl) (fun _ _ _ h => h) (yl_at rfl _ _ rfl _ _ rfl _ (fun w' h => LD0.out w' (then_ RA.out.below h.out)) rowRec) (by assumption) ?_
          try go_frame
          refine wpAnyH_ready (rs := [5]) (by kernel_rfl) (by simp) ?_
          refine AllReadyH.cons (o := { dst := some 84, op := Op.call { callee := Callee.value (Operand.func 27), args := #[Operand.tmp 79, Operand.tmp 83], argTypes := #[25, 27] }, type := 54, pos := "law.go:227", after := #[{ on := 0, ground := Ground.data }, { on := 4, ground := Ground.data }], guard := none }) rfl (fun K hK => ?_) ?_
          · go_simp
            refine (C2.out _ hHeld).mono ?_
            rintro e w6 ⟨v, rfl, ho, hb⟩
            have KV6 := BlkAt.below (show BlkAt wy.drew (gu + 1) zeroSagaArr 25 from KVY.out) hb (blk_lt KVY.out)
            have RA6 := (RAY.out.bl (Below.refl wy.heap.size wy).drew).bl hb
            have AU6 := (AUY.out.bl (Below.refl wy.heap.size wy).drew).bl hb
            have O6 := ho.lower (c := w.heap.size) RAY.out.below.size
            try go_wp2_with fail
            refine hK.out _ _ (hHeld.call hb) (fun hHeld => ?_)
            clear hK K
            try go_frame
            refine wpAnyH_take (i := 6) (oi := { dst := some 78, op := Op.move (Operand.tmp 84), type := 54, pos := "law.go:227", after := #[{ on := 5, ground := Ground.data }], guard := none }) (v := ?_) rfl (by kernel_rfl) (by kernel_rfl) (by kernel_rfl) (fun _ _ _ h => h) (Or.inl ⟨by rfl, ?_⟩) (by assumption) ?_
            rotate_left 1
            focus (intro w hSw; (try clear hSw); go_simp; try (with_reducible rfl))
            try go_frame
            refine wpAnyH_take (i := 7) (oi := { dst := some 85, op := Op.extract (Operand.tmp 78) 0, type := 25, pos := "law.go:227", after := #[{ on := 6, ground := Ground.data }], guard := none }) (v := ?_) rfl (by kernel_rfl) (by kernel_rfl) (by kernel_rfl) (fun _ _ _ h => h) (Or.inl ⟨by rfl, ?_⟩) (by assumption) ?_
            rotate_left 1
            focus (intro w hSw; (try clear hSw); go_simp; try (with_reducible rfl))
            try go_frame
            refine wpAnyH_take (i := 8) (oi := { dst := some 86, op := Op.extract (Operand.tmp 78) 1, type := 3, pos := "law.go:227", after := #[{ on := 6, ground := Ground.data }, { on := 9, ground := Ground.gcOnly Departure.lateStores }], guard := none }) (v := ?_) rfl (by kernel_rfl) (by kernel_rfl) (by kernel_rfl) (fun _ _ _ h => h) (Or.inl ⟨by rfl, ?_⟩) (by assumption) ?_
            rotate_left 1
            focus (intro w hSw; (try clear hSw); go_simp; try (with_reducible rfl))
            try go_frame
            refine wpAnyH_ready (rs := [9]) (by kernel_rfl) (by simp) ?_
            refine AllReadyH.cons (o := { dst := none, op := Op.store 25 (Operand.tmp 13) (Operand.tmp 85), type := 0, pos := "law.go:227", after := #[{ on := 7, ground := Ground.data }, { on := 5, ground := Ground.chain }, { on := 0, ground := Ground.phase }, { on := 1, ground := Ground.phase }, { on := 2, ground := Ground.phase }, { on := 3, ground := Ground.phase }, { on := 4, ground := Ground.phase }, { on := 5, ground := Ground.phase }, { on := 6, ground := Ground.phase }, { on := 7, ground := Ground.phase }, { on := 8, ground := Ground.textOnly Departure.lateStores }], guard := none }) rfl (fun K hK => ?_) ?_
            · refine step_store_blk rfl _ _ _ rfl _ rfl (sagaArr v) rfl _ _ KV6 (by rfl) (by simp [sagaArr, Value.oneCell']) rowSaga ?_
              intro wS hwS KSt
              refine hK.out _ _ (hHeld.wrote hwS hge1) (fun hHeld => ?_)
              clear hK K
              try go_frame
              refine wpAnyH_ready (rs := [10]) (by kernel_rfl) (by simp) ?_
              refine AllReadyH.cons (o := { dst := some 15, op := Op.assign (Operand.tmp 86), type := 3, pos := "law.go:227", after := #[{ on := 8, ground := Ground.data }, { on := 9, ground := Ground.chain }, { on := 0, ground := Ground.phase }, { on := 1, ground := Ground.phase }, { on := 2, ground := Ground.phase }, { on := 3, ground := Ground.phase }, { on := 4, ground := Ground.phase }, { on := 5, ground := Ground.phase }, { on := 6, ground := Ground.phase }, { on := 7, ground := Ground.phase }, { on := 8, ground := Ground.phase }, { on := 9, ground := Ground.phase }], guard := none }) rfl (fun K hK => ?_) ?_
              · go_simp
                refine hK.out _ _ (by assumption) (fun hHeld => ?_)
                clear hK K
                try go_frame
                refine wpAnyH_done (by kernel_rfl) ?_ _
                try go_wp2_with fail
                go_meet
                exact ⟨N, u, v, E, rfl, rfl, Lib.hid (RA6.wrote KV6 hwS (by omega) hg7v hg9v), Lib.hid (AU6.wrote KV6 hwS (by omega)), Lib.hid ⟨KSt, O6.keep (hwS.rows KV6 (by decide) (by decide))⟩, HSM, HOK⟩
              exact AllReadyH.nil
            exact AllReadyH.nil
          exact AllReadyH.nil
      case rest =>
      obtain ⟨wx, rfl⟩ : ∃ q : World, q = wc := ⟨_, rfl⟩
      obtain ⟨N, u, v, E, rfl, rfl, RA, AU, AV, HSM, HOK⟩ := hcut
      clear KU KV LDA RDA hc1 RAA LD0 RD0 HBA hsA hkd HGU HK
      have cM := same_any u v E E wx (AU.out.own.rd HSM.out) (AV.out.own.rd HSM.out)
      rw [sameB_refl] at cM
      have CM := Lib.hid cM
      clear cM
      go_upto_if 98 with (first
  | (go_at_call 14; (with_reducible refine (num_keep2 _ _).mono ?_); rintro e w9 ⟨rfl, rfl⟩)
  | ((with_reducible refine wpList_load_blk_g ?_ _ (.tmp 12) ?_ gu ?_ 25 (sagaArr u) AU.out.blk rowSaga ?_); rotate_left; exact rfl; exact rfl; rotate_left; kernel_rfl)
  | ((with_reducible refine wpList_load_blk_g ?_ _ (.tmp 13) ?_ (gu + 1) ?_ 25 (sagaArr v) AV.out.blk rowSaga ?_); rotate_left; exact rfl; exact rfl; rotate_left; kernel_rfl)
  | (go_at_call 17; refine CM.out.mono ?_; rintro e w8 ⟨rfl, hb⟩; have RA8 := Lib.hid (RA.out.bl hb); have AU8 := Lib.hid (AU.out.bl hb); have AV8 := Lib.hid (AV.out.bl hb); clear hb))
      clear RA AU AV CM
      go_cut [15] (fun s15 wy => ∃ (s' t' : SagaV) (D' : SagaD), s15 = .int .i64 N ∧ Hid (RunAt w wy g7 g9 s' t' D'))
      case first =>
        by_cases hN : N = 0
        · subst hN
          go_upto_region 21 with (first
  | ((with_reducible refine wpList_load_blk ?_ _ (.tmp 12) ?_ gu ?_ 25 (sagaArr u) AU8.out.blk rowSaga ?_); rotate_left; exact rfl; exact rfl; rotate_left; exact rfl)
  | ((with_reducible refine wpList_store_blk ?_ _ (.tmp 7) (.tmp 99) ?_ g7 ?_ (sagaArr u) ?_ 25 _ RA8.out.ks ?_ ?_ rowSaga ?_); rotate_left; exact rfl; exact rfl; exact rfl; exact rfl; (simp [sagaArr, Value.oneCell']); rotate_left; exact rfl; intro wS hwS K; have K7 := Lib.hid K; have OUS := Lib.hid (AU8.out.own.keep (hwS.rows RA8.out.ks (by decide) (by decide))); have AVS := Lib.hid (AV8.out.wrote RA8.out.ks hwS (Ne.symm hg7v)); have KT := Lib.hid (hwS.blk RA8.out.kt (Ne.symm RA8.out.ne)); have HBS := Lib.hid (hwS.below RA8.out.below RA8.out.g70); have G1 := Lib.hid RA8.out.g70; have G2 := Lib.hid RA8.out.g90; have G3 := Lib.hid RA8.out.ne; clear hwS K))
          clear RA8 AU8 AV8
          go_wp2_with (first
  | ((with_reducible refine wpList_load_blk ?_ _ (.tmp 13) ?_ (gu + 1) ?_ 25 (sagaArr v) AVS.out.blk rowSaga ?_); rotate_left; exact rfl; exact rfl; rotate_left; exact rfl)
  | ((with_reducible refine wpList_store_blk ?_ _ (.tmp 9) (.tmp 100) ?_ g9 ?_ (sagaArr v) ?_ 25 _ KT.out ?_ ?_ rowSaga ?_); rotate_left; exact rfl; exact rfl; exact rfl; exact rfl; (simp [sagaArr, Value.oneCell']); rotate_left; exact rfl; intro wT hwT K; have RN : Hid (RunAt w wT g7 g9 u v E) := Lib.hid ⟨hwT.below HBS.out G2.out, hwT.blk K7.out G3.out, K, G1.out, G2.out, G3.out, OUS.out.keep (hwT.rows KT.out (by decide) (by decide)), AVS.out.own.keep (hwT.rows KT.out (by decide) (by decide)), HOK.out (by first | trivial | rfl)⟩; clear hwT K))
          go_meet
          exact ⟨u, v, E, rfl, RN⟩
        · have hN2 : (N == 0) = false := by rw [beq_eq_false_iff_ne]; exact hN
          go_wp2_with fail
          go_meet
          exact ⟨s, t, D, rfl, RA8⟩
      case rest =>
      obtain ⟨wy, rfl⟩ : ∃ q : World, q = wc := ⟨_, rfl⟩
      obtain ⟨s', t', D', rfl, RA⟩ := hcut
      clear AU8 AV8 RA8 HSM HOK
      by_cases ha : j < ask.length
      · obtain ⟨b1, o1, e1, hq1⟩ := HI.out.get ha
        simp only at e1
        subst e1
        have hq2 := (RA.out.below.cell (World.block_lt_of_cell? _ _ hq1)).trans hq1
        obtain ⟨av, hav⟩ : ∃ q, ask[j] = q := ⟨_, rfl⟩
        rw [hav] at hq2
        clear hq1 hav
        by_cases h1 : av = 1
        · subst h1
          have CQ := Lib.hid (fun (k : Int) W (h : Below wy.heap.size wy W) => asked_any ⟨k, s', zeroRecV⟩ ⟨k, D', zeroRD⟩ W (HT.out.below (then_ RA.out.below h)) (HRT.out.below (then_ RA.out.below h)) ⟨rfl, (RA.out.bl h).s.rd RA.out.ok.ref.small, zero_rd W⟩ RA.out.ok.fits RA.out.ok.ref)
          have cM := fun W (h : Below wy.heap.size wy W) => same_any s' t' D' D' W ((RA.out.bl h).s.rd RA.out.ok.ref.small) ((RA.out.bl h).t.rd RA.out.ok.ref.small)
          rw [sameB_refl] at cM
          have CM := Lib.hid cM
          clear cM
          go_wp2_with (first
  | (go_at_call 17; refine (CM.out _ HY3.out).mono ?_; rintro e y4 ⟨rfl, hb⟩; have RB4 := Lib.hid (RB3.out.bl hb); clear hb)
  | ((with_reducible refine wpList_load_blk_g ?_ _ (.tmp 9) ?_ g9 ?_ 25 (sagaArr t') RB3.out.kt rowSaga ?_); rotate_left; exact rfl; exact rfl; rotate_left; kernel_rfl)
  | ((with_reducible refine wpList_load_blk_g ?_ _ (.tmp 7) ?_ g7 ?_ 25 (sagaArr s') RB3.out.ks rowSaga ?_); rotate_left; exact rfl; exact rfl; rotate_left; kernel_rfl)
  | (go_at_call 28; refine (CQ.out 5 _ HY2.out).mono ?_; rintro e y3 ⟨rfl, hb⟩; have RB3 := Lib.hid (RB2.out.bl hb); have HY3 := Lib.hid (then_ HY2.out hb); clear hb)
  | ((with_reducible refine wpList_op_g ?_ 5 121 ?_ s' ?_ ?_); rotate_left; exact rfl; exact rfl; rotate_left; kernel_rfl)
  | ((with_reducible refine wpList_load_blk_g ?_ _ (.tmp 7) ?_ g7 ?_ 25 (sagaArr s') RB2.out.ks rowSaga ?_); rotate_left; exact rfl; exact rfl; rotate_left; kernel_rfl)
  | (go_at_call 28; refine (CQ.out 4 _ HY1.out).mono ?_; rintro e y2 ⟨rfl, hb⟩; have RB2 := Lib.hid (RB1.out.bl hb); have HY2 := Lib.hid (then_ HY1.out hb); clear hb)
  | ((with_reducible refine wpList_op_g ?_ 4 116 ?_ s' ?_ ?_); rotate_left; exact rfl; exact rfl; rotate_left; kernel_rfl)
  | ((with_reducible refine wpList_load_blk_g ?_ _ (.tmp 7) ?_ g7 ?_ 25 (sagaArr s') RB1.out.ks rowSaga ?_); rotate_left; exact rfl; exact rfl; rotate_left; kernel_rfl)
  | (go_at_call 28; refine (CQ.out 3 _ (Below.refl _ _)).mono ?_; rintro e y1 ⟨rfl, hb⟩; have RB1 := Lib.hid (RA.out.bl hb); have HY1 := Lib.hid (hb); clear hb)
  | ((with_reducible refine wpList_op ?_ 3 112 ?_ s' ?_ ?_); rotate_left; exact rfl; exact rfl; rotate_left; exact rfl)
  | ((with_reducible refine wpList_load_blk ?_ _ (.tmp 7) ?_ g7 ?_ 25 (sagaArr s') RA.out.ks rowSaga ?_); rotate_left; exact rfl; exact rfl; rotate_left; exact rfl))
          all_goals go_roundw
          case rel => exact ⟨j + 1, s', t', D', by omega, by go_num, RB4⟩
          case measure => simp [intOf]; omega
        · have h2 : (av == 1) = false := by rw [beq_eq_false_iff_ne]; exact h1
          go_wp2
          all_goals go_roundw
          case rel => exact ⟨j + 1, s', t', D', by omega, by go_num, RA⟩
          case measure => simp [intOf]; omega
      · go_wp2
        all_goals go_roundw
        case rel => exact ⟨j + 1, s', t', D', by omega, by go_num, RA⟩
        case measure => simp [intOf]; omega
    · have hk : j = Rs.length := by omega
      subst hk
      go_wp2
      all_goals go_ret
      all_goals exact ⟨rfl, RA.out.below⟩
end sagaRuns
end Go.Proofs.YteaiadpigpehaaaDoor
