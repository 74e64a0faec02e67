/-
  annalslaw11.begin, awake walked: it answers true. Conditions: the tables, as laid. (Printed by wip/gen_awake.py.)
-/
import Derived.Test.YtfbaliimjmimhaaDoorSame11
import Derived.Test.YtfbaliimjmimhaaDoorRecsIn
import Derived.Test.YtfbaliimjmimhaaDoorReplayLaw
namespace Go.Proofs.YtfbaliimjmimhaaDoor
open Go.RowKit

def wakeR : RecD := ⟨1, 1, 7, 1, 0, 0, 0, 0, 0, 0, ⟨#[]⟩, [98, 117, 121]⟩
def wakeD : SagaD := ⟨7, ⟨#[98, 117, 121]⟩, 1, 0, 0, 0, [], 1, 0, false, 0, [], [], 0, 0, []⟩
@[reducible] def nil0 : Sl := ⟨none, 0, 0⟩
theorem wake_rec : recD wakeR = 0 := by decide +kernel
theorem wake_begin : beginN wakeR = 0 := by
  unfold beginN
  rw [if_neg (by rw [wake_rec]; simp), if_neg (by decide)]
theorem wake_beginD : beginD wakeR = wakeD := by
  unfold beginD
  rw [if_neg (by rw [wake_begin]; simp)]
  rfl
theorem wake_add : addN noBag wakeR = 0 := by
  unfold addN oneN
  rw [if_neg (by rw [wake_rec]; simp)]
  exact wake_begin
theorem wake_fold : foldB noBag [wakeR] = (putB noBag 7 wakeD, 1) := by
  rw [foldB_one, if_neg (by rw [wake_add]; simp)]
  unfold addB
  rw [if_neg (by rw [wake_add]; simp)]
  show (putB noBag 7 (beginD wakeR), 1) = _
  rw [wake_beginD]
theorem wake_state {Ss : List SagaD} (h : StateOf (putB noBag 7 wakeD) Ss) : Ss = [wakeD] := by
  refine StateOf.unique h (g := putB noBag 7 wakeD) ⟨List.pairwise_singleton _ _, fun D => ?_⟩ (fun _ => rfl)
  rw [List.mem_singleton]
  unfold putB
  constructor
  · rintro rfl; rfl
  · intro k
    split at k
    · cases k; rfl
    · cases k
theorem wake_check : checkD wakeD = 0 := by decide +kernel
theorem wake_good : GoodD wakeD := (checkD_iff _).1 wake_check
theorem wake_ok : ∀ R ∈ [wakeR], FoldOk R := by
  intro R h
  rw [List.mem_singleton] at h
  subst h
  exact ⟨⟨by decide, by decide⟩, by decide⟩
theorem bytes_lit3 (w : World) (a b c : Int) (t : TypeId) (f : Nat × Nat) : BytesAt (w.alloc (.cells #[.int .u8 a, .int .u8 b, .int .u8 c] t f)) ⟨some ⟨w.heap.size, 0, none⟩, 3, 3⟩ [a, b, c] := by
  refine ⟨rfl, ⟨by simp, fun h => by cases h⟩, fun _ => ⟨w.heap.size, 0, rfl, fun i hi => ?_⟩⟩
  have hb : (w.alloc (.cells #[.int .u8 a, .int .u8 b, .int .u8 c] t f)).heap[w.heap.size]? = some (.cells #[.int .u8 a, .int .u8 b, .int .u8 c] t f) := heap_alloc_new w _
  match i, hi with
  | 0, _ => rw [cell_of_row _ _ _ _ _ _ hb]; rfl
  | 1, _ => rw [cell_of_row _ _ _ _ _ _ hb]; rfl
  | 2, _ => rw [cell_of_row _ _ _ _ _ _ hb]; rfl
/-- One record, one saga in a block, as a slice. -/
theorem RecsAt.one {w : World} {g : Nat} {r : RecV} {R : RecD} (k : BlkAt w g (recArr r) 44) (hr : RecRd w r R) : RecsAt w ⟨some ⟨g, 0, none⟩, 1, 1⟩ [R] := by
  refine ⟨[r], rfl, rfl, ⟨by simp, fun h => by cases h⟩, fun _ => ⟨g, 0, rfl, fun i hi j hj => ?_⟩, fun i p q => ?_⟩
  · have : i = 0 := by simpa using hi
    subst this
    simp only [Nat.zero_mul, Nat.zero_add]
    rw [BlkAt.cell k]
    simp [recArr]
  · have : i = 0 := by simpa using p
    subst this
    exact hr
theorem SagasAt.one {w : World} {g : Nat} {s : SagaV} {D : SagaD} (k : BlkAt w g (sagaArr s) 40) (hr : SagaRd w s D) : SagasAt w ⟨some ⟨g, 0, none⟩, 1, 1⟩ [D] := by
  refine ⟨[s], rfl, rfl, ⟨by simp, fun h => by cases h⟩, fun _ => ⟨g, 0, rfl, fun i hi j hj => ?_⟩, fun i p q => ?_⟩
  · have : i = 0 := by simpa using hi
    subst this
    simp only [Nat.zero_mul, Nat.zero_add]
    rw [BlkAt.cell k]
    simp [sagaArr]
  · have : i = 0 := by simpa using p
    subst this
    exact hr
theorem lists_nil0 (w : World) : ListsAt w nil0 [] := ⟨[], RowAt.nil _ _ _ (fun _ => rfl), rfl, fun i h => by simp at h⟩
theorem wake_rd (w : World) : SagaRd w (wakeD.words nil0 nil0 nil0 nil0) wakeD := ⟨rfl, RowAt.nil _ _ _ (fun _ => rfl), lists_nil0 w, lists_nil0 w, RowAt.nil _ _ _ (fun _ => rfl)⟩

set_option maxRecDepth 100000 in
set_option maxHeartbeats 1000000 in
theorem begin11_any (w : World) : Calls Tryd.prog 21 #[] w fun e w' => ∃ (t : Sl) (g : Nat), e = .returned (.tuple #[(wakeR.words t).val, .agg #[.int .i64 1, .slice (some ⟨g, 0, none⟩) 1 1]]) ∧ BytesAt w' t [98, 117, 121] ∧ SagasAt w' ⟨some ⟨g, 0, none⟩, 1, 1⟩ [wakeD] ∧ Below w.heap.size w w' := by
  have hb0 := Below.refl w.heap.size w
  have kc1 := Lib.run_convert_bytes_const (P := Tryd.prog) ((w.alloc (.cells zeroRec 44)).alloc (.cells #[.int .i64 0, .slice none 0 0] 27)) 37 5 #[.int .u8 98, .int .u8 117, .int .u8 121] 3 3 Tryd.underlying37 Tryd.underlying5
  simp only [World.size_alloc, List.size_toArray, List.length_cons, List.length_nil, Nat.zero_add, Nat.reduceAdd] at kc1
  go_enter Tryd.func21, Tryd.ntmps21
  go_wp2
  clear kc1
  (try simp only [Exit.inBlock, Exit.then])
  refine bodyPost_ret (results_rows rfl _ _ w.heap.size (w.heap.size + 1) 44 27 (recArr (wakeR.words ⟨some ⟨w.heap.size + 1 + 1, 0, none⟩, 3, 3⟩)) #[.int .i64 1, .slice (some ⟨w.heap.size + 1 + 1 + 1 + 1, 0, none⟩) 1 1] rfl ?_ rowRec rfl ?_ rowState) rfl ⟨⟨some ⟨w.heap.size + 1 + 1, 0, none⟩, 3, 3⟩, w.heap.size + 1 + 1 + 1 + 1, rfl, ?_, ?_, ?_⟩
  · exact ((((BlkAt.new w _ _).push _).push _).push _).push _
  · have h := (((BlkAt.new (w.alloc (.cells (recArr (wakeR.words ⟨some ⟨w.heap.size + 1 + 1, 0, none⟩, 3, 3⟩)) 44)) #[.int .i64 1, .slice (some ⟨w.heap.size + 1 + 1 + 1 + 1, 0, none⟩) 1 1] 27).push (.cells #[.int .u8 98, .int .u8 117, .int .u8 121] 5 (3, 4))).push (.cells (recArr (wakeR.words ⟨some ⟨w.heap.size + 1 + 1, 0, none⟩, 3, 3⟩)) 44)).push (.cells (sagaArr (wakeD.words nil0 nil0 nil0 nil0)) 40)
    rw [World.size_alloc] at h
    exact h
  · have h := (((bytes_lit3 ((w.alloc (.cells (recArr (wakeR.words ⟨some ⟨w.heap.size + 1 + 1, 0, none⟩, 3, 3⟩)) 44)).alloc (.cells #[.int .i64 1, .slice (some ⟨w.heap.size + 1 + 1 + 1 + 1, 0, none⟩) 1 1] 27)) 98 117 121 5 (3, 4)).below (boxd (o := .cells (recArr (wakeR.words ⟨some ⟨w.heap.size + 1 + 1, 0, none⟩, 3, 3⟩)) 44) (Below.refl _ _))).below (boxd (o := .cells (sagaArr (wakeD.words nil0 nil0 nil0 nil0)) 40) (Below.refl _ _)))
    simp only [World.size_alloc] at h
    exact h
  · refine SagasAt.one (s := wakeD.words nil0 nil0 nil0 nil0) ?_ (wake_rd _)
    have h := BlkAt.new ((((w.alloc (.cells (recArr (wakeR.words ⟨some ⟨w.heap.size + 1 + 1, 0, none⟩, 3, 3⟩)) 44)).alloc (.cells #[.int .i64 1, .slice (some ⟨w.heap.size + 1 + 1 + 1 + 1, 0, none⟩) 1 1] 27)).alloc (.cells #[.int .u8 98, .int .u8 117, .int .u8 121] 5 (3, 4))).alloc (.cells (recArr (wakeR.words ⟨some ⟨w.heap.size + 1 + 1, 0, none⟩, 3, 3⟩)) 44)) (sagaArr (wakeD.words nil0 nil0 nil0 nil0)) 40
    simp only [World.size_alloc] at h
    exact h
  · exact boxd (boxd (boxd (boxd (boxd hb0))))

set_option maxRecDepth 10000000 in
set_option maxHeartbeats 2000000 in
theorem awake_any (w : World) (ht : Tables w) (hl : LandsAt w) : Calls Tryd.prog 9 #[] w fun e w' => e = .returned (.bool true) ∧ Below w.heap.size w w' := by
  have HT := Lib.hid ht
  have HL := Lib.hid hl
  clear ht hl
  go_enter Tryd.func9, Tryd.ntmps9
  go_wp2_with fail
  refine (begin11_any w).mono ?_
  rintro e w2 ⟨t, g, rfl, bt, sg, hb⟩
  obtain ⟨w3, hw3⟩ : ∃ q, (w2.alloc (.cells (recArr (wakeR.words t)) 44)).alloc (.cells #[.int .i64 1, .slice (some ⟨g, 0, none⟩) 1 1] 27) = q := ⟨_, rfl⟩
  have hb3 : Below w2.heap.size w2 w3 := by rw [← hw3]; exact boxd (boxd (Below.refl _ _))
  have KB3 : Hid (BlkAt w3 w2.heap.size (recArr (wakeR.words t)) 44) := Lib.hid (by rw [← hw3]; exact (BlkAt.new _ _ _).push _)
  have KZ3 : Hid (BlkAt w3 (w2.heap.size + 1) #[.int .i64 1, .slice (some ⟨g, 0, none⟩) 1 1] 27) := Lib.hid (by
    rw [← hw3]
    have := BlkAt.new (w2.alloc (.cells (recArr (wakeR.words t)) 44)) #[.int .i64 1, .slice (some ⟨g, 0, none⟩) 1 1] 27
    rw [World.size_alloc] at this
    exact this)
  obtain ⟨w4, hw4⟩ : ∃ q, w3.alloc (.cells (recArr (wakeR.words t)) 44) = q := ⟨_, rfl⟩
  have hb4 : Below w3.heap.size w3 w4 := by rw [← hw4]; exact boxd (Below.refl _ _)
  have KB4 : BlkAt w4 w3.heap.size (recArr (wakeR.words t)) 44 := by rw [← hw4]; exact BlkAt.new _ _ _
  have HB4 := Lib.hid (then_ (then_ hb hb3) hb4)
  have cF := (fold_any ⟨some ⟨w3.heap.size, 0, none⟩, 1, 1⟩ [wakeR] w4 (HT.out.below HB4.out) (HL.out.below HB4.out) (RecsAt.one KB4 ⟨rfl, (bt.below hb3).below hb4⟩) wake_ok (by simp))
  have KZ4 := Lib.hid (KZ3.out.below hb4 (blk_lt KZ3.out))
  have SG4 := Lib.hid ((sg.below hb3).below hb4)
  rw [wake_fold] at cF
  have CF : Hid (Calls Tryd.prog 11 #[.slice (some ⟨w3.heap.size, 0, none⟩) 1 1] w4 fun e w' => ∃ (v : Sl) (Ss : List SagaD), e = .returned (.tuple #[.agg #[.int .i64 1, .slice v.a v.n v.c], .int .i64 (-1)]) ∧ OwnSagas w' w4.heap.size (.slice v.a v.n v.c) Ss ∧ StateOf (putB noBag 7 wakeD) Ss ∧ Below w4.heap.size w4 w') := Lib.hid cF
  clear cF
  dsimp only [RecD.words, recArr, wakeR, Sl.v] at hw3 hw4 KB3
  have HW3 := Lib.hid hw3
  have HW4 := Lib.hid hw4
  clear hw3 hw4 hb hb3 bt sg hb4 KB4
  dsimp only [RecD.words, RecV.val, wakeR, Sl.v]
  go_upto_region 2 with fail
  rw [HW3.out]
  clear HW3
  go_wp2_with (first | ((with_reducible refine wpList_load_blk ?_ _ (.tmp 1) ?_ (w2.heap.size) ?_ 44 (_) KB3.out rowRec ?_); rotate_left; exact rfl; exact rfl; rotate_left; exact rfl) | fail)
  rw [HW4.out]
  clear HW4
  refine CF.out.mono ?_
  rintro e w5 ⟨⟨va, vn, vc⟩, Ss, rfl, ho, hso, hb5⟩
  have hSs := wake_state hso
  subst hSs
  obtain ⟨w6, hw6⟩ : ∃ q, w5.alloc (.cells #[.int .i64 1, .slice va vn vc] 27) = q := ⟨_, rfl⟩
  have hb6 : Below w5.heap.size w5 w6 := by rw [← hw6]; exact boxd (Below.refl _ _)
  have K6 : Hid (BlkAt w6 w5.heap.size #[.int .i64 1, .slice va vn vc] 27) := Lib.hid (by rw [← hw6]; exact BlkAt.new _ _ _)
  have h56 := then_ hb5 hb6
  have KZ6 := Lib.hid (KZ4.out.below h56 (blk_lt KZ4.out))
  have HB6 := Lib.hid (then_ HB4.out h56)
  have CM := Lib.hid (same11_any 1 1 ⟨va, vn, vc⟩ ⟨some ⟨g, 0, none⟩, 1, 1⟩ [wakeD] [wakeD] w6 (SagasAt.below (OwnSagas.sagasAt (v := ⟨va, vn, vc⟩) ho (fun E hE => by rw [List.mem_singleton.1 hE]; exact wake_good)) hb6) (SG4.out.below h56))
  rw [stateB_same] at CM
  have HW6 := Lib.hid hw6
  clear hw6 hb6 h56 ho hso hb5 CF KB3 KZ3 KZ4 SG4 HB4
  go_upto_region 3 with fail
  rw [HW6.out]
  clear HW6
  go_wp2_with (first
    | ((with_reducible refine wpList_load_blk_g ?_ _ (.tmp 3) ?_ (w5.heap.size) ?_ 27 (#[.int .i64 1, .slice va vn vc]) K6.out rowState ?_); rotate_left; exact rfl; exact rfl; rotate_left; kernel_rfl)
    | ((with_reducible refine wpList_load_blk_g ?_ _ (.tmp 2) ?_ (w2.heap.size + 1) ?_ 27 (#[.int .i64 1, .slice (some ⟨g, 0, none⟩) 1 1]) KZ6.out rowState ?_); rotate_left; exact rfl; exact rfl; rotate_left; kernel_rfl))
  refine CM.out.mono ?_
  rintro e w7 ⟨rfl, hb7⟩
  have HB7 := Lib.hid (then_ HB6.out hb7)
  clear hb7 CM
  go_wp2_with fail
  all_goals go_ret
  all_goals exact ⟨rfl, HB7.out⟩
end Go.Proofs.YtfbaliimjmimhaaDoor
