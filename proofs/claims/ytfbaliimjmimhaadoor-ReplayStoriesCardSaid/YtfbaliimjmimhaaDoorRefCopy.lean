/-
  annalsref1.Part, annalsref3.Clone, annalsref10.bytes walked: copies of one's own. Conditions: none.
-/
import Derived.Test.YtfbaliimjmimhaaDoorRef3Check
namespace Go.Proofs.YtfbaliimjmimhaaDoor
open Go.RowKit

theorem one_u8 : OneTy Tryd.prog 5 := ⟨_, Tryd.underlying5, rfl⟩
theorem size_bytes : (Tryd.prog.info? 37).map (·.size) = some 1 := by kernel_rfl
theorem size_str : (Tryd.prog.info? 9).map (·.size) = some 1 := by kernel_rfl
theorem size_lists : (Tryd.prog.info? 38).map (·.size) = some 1 := by kernel_rfl
set_option maxRecDepth 1000000 in
set_option maxHeartbeats 1000000 in
theorem part_any (s : Sl) (d : List Int) (w : World) (h : BytesAt w s d) (hd : d.length ≤ 140737488351232) :
    Calls Tryd.prog 36 #[s.v, .int .i64 0, .int .i64 s.n] w fun e w' => ∃ v, e = .returned v ∧ OwnBytes w' w.heap.size v d ∧ Below w.heap.size w w' := by
  have hl := h.len
  have H := Lib.hid h.2.2
  clear h
  obtain ⟨a, n, c⟩ := s
  simp only at hl
  subst hl
  dsimp only [Sl.v] at H ⊢
  go_enter Tryd.func36, Tryd.ntmps36
  go_wp2
  go_loopw [7, 8] (fun o i wr => ∃ k : Nat, k ≤ d.length ∧ i = .int .i64 k ∧ Hid (OwnBytes wr w.heap.size o (d.take k)) ∧ Hid (Below w.heap.size w wr)) (fun _ i _ => d.length - (intOf i).toNat)
  case atStart => exact ⟨0, by omega, rfl, Lib.hid (World.ownsRow_nil _ _ _ _), Lib.hid (Below.refl _ _)⟩
  case round =>
    obtain ⟨k, hk, rfl, HO, HB⟩ := hrel
    by_cases hlt : k < d.length
    · obtain ⟨b, o, e, hc⟩ := H.out (by omega)
      subst e
      obtain ⟨x, hx⟩ : ∃ q, d[k] = q := ⟨_, rfl⟩
      have hck : w.cell? ⟨b, o + k, none⟩ = some (.int .u8 x) := by rw [hc k hlt]; simp [byteCells, hlt, hx]
      have HE := Lib.hid ((HB.out.cell (World.block_lt_of_cell? w _ hck)).trans hck)
      have hsn : d.take (k + 1) = d.take k ++ [x] := by rw [List.take_succ_eq_append_getElem hlt, hx]
      have hlk : (d.take k).length = k := by simp; omega
      have HSN := Lib.hid hsn
      have HLK := Lib.hid hlk
      have ho := HO.out
      unfold OwnBytes at ho
      rw [hlk] at ho
      have O1 := Lib.hid (fun (o : Obj) => own_through ho (boxd (o := o) (Below.refl wr.heap.size wr)))
      have hB1 : w.heap.size ≤ wr.heap.size := HB.out.size
      clear hc hx hck hsn hlk ho HO
      go_wp2_with (first
        | (refine wpList_load_cell rfl _ _ rfl _ rfl _ HE.out one_u8 ?_)
        | (at_builtin; refine wpList_append_row _ rfl (.tmp 15) (.tmp 20) 37 rfl w.heap.size 5 (.int .u8 0) 1 Tryd.underlying37 infoByte rfl _ _ _ rfl (O1.out _) ⟨some ⟨wr.heap.size, 0, none⟩, 1, 1⟩ [.int .u8 x] rfl (RowAt.of_lit1 wr _ _) (by simp [Value.oneCell']) ?c1 ?c2 ?c3 ?_))
      case c1 => simp only [maxLen]; omega
      case c2 => omega
      case c3 => simp; omega
      intro v' w1 hown hgr
      have HO2 : Hid (OwnBytes w1 w.heap.size v' (d.take (k + 1))) := Lib.hid (by
        rw [HSN.out]
        unfold OwnBytes byteCells
        rw [List.length_append, HLK.out, List.map_append]
        exact hown)
      have HB2 : Hid (Below w.heap.size w w1) := Lib.hid ((boxd HB.out).grown hgr (by simp; omega) (fun q hq => ((O1.out (.cells #[] 0)).lt q hq).1))
      clear hown hgr O1 HSN HLK
      go_wp2
      all_goals go_roundw
      case rel => exact ⟨k + 1, by omega, by go_num, HO2, HB2⟩
      case measure => simp [intOf]; omega
    · have hk' : k = d.length := by omega
      subst hk'
      have HO3 : Hid (OwnBytes wr w.heap.size u7 d) := Lib.hid (by
        have := HO.out
        rw [List.take_length] at this
        exact this)
      go_wp2
      all_goals go_ret
      all_goals exact ⟨_, rfl, HO3.out, HB.out⟩

set_option maxRecDepth 1000000 in
set_option maxHeartbeats 1000000 in
theorem refBytes_any (s : Sl) (d : List Int) (w : World) (h : BytesAt w s d) (hd : d.length ≤ 140737488351232) :
    Calls Tryd.prog 34 #[s.v] w fun e w' => ∃ v, e = .returned v ∧ OwnBytes w' w.heap.size v d ∧ Below w.heap.size w w' := by
  have H := Lib.hid h
  have hl := h.len
  clear h
  obtain ⟨a, n, c⟩ := s
  simp only at hl
  subst hl
  dsimp only [Sl.v]
  go_enter Tryd.func34, Tryd.ntmps34
  go_wp2_with (at_builtin; refine wpList_append_row _ rfl (.tmp 4) (.tmp 5) 37 rfl w.heap.size 5 (.int .u8 0) 1 Tryd.underlying37 infoByte rfl _ 0 [] rfl (World.ownsRow_nil _ _ _ _) ⟨a, d.length, c⟩ (byteCells d) rfl H.out (byteCells_one d) ?c1 ?c2 ?c3 ?_)
  case c1 => simp only [maxLen]; omega
  case c2 => omega
  case c3 => omega
  intro v' w2 hown hgr
  have HO : Hid (OwnBytes w2 w.heap.size v' d) := Lib.hid (by unfold OwnBytes; simpa using hown)
  have HB : Hid (Below w.heap.size w w2) := Lib.hid ((Below.refl w.heap.size w).grown hgr (Nat.le_refl _) (by intro k hk; simp [Value.ownBlock] at hk))
  clear hown hgr
  go_wp2
  all_goals go_ret
  all_goals exact ⟨_, rfl, HO.out, HB.out⟩

set_option maxRecDepth 1000000 in
set_option maxHeartbeats 1000000 in
theorem ref3Clone_any (r : RecV) (d : List Int) (w : World) (h : BytesAt w r.data d) (hd : d.length ≤ 140737488351232) :
    Calls Tryd.prog 20 #[r.val] w fun e w' => ∃ s : Sl, e = .returned ({ r with data := s } : RecV).val ∧ OwnBytes w' w.heap.size s.v d ∧ Below w.heap.size w w' := by
  obtain ⟨w1, hw1⟩ : ∃ q, (w.alloc (.cells (recArr r) 44)).alloc (.cells #[.int .i64 0, .int .i64 0, .int .i64 0, .int .i64 0, .int .i64 0, .int .i64 0, .int .i64 0, .int .i64 0, .int .i64 0, .int .i64 0, .string ⟨#[]⟩, .slice none 0 0] 44) = q := ⟨_, rfl⟩
  have hb1 : Below w.heap.size w w1 := by rw [← hw1]; exact boxd (boxd (Below.refl _ _))
  have KB : Hid (BlkAt w1 w.heap.size (recArr r) 44) := Lib.hid (by rw [← hw1]; exact (BlkAt.new _ _ _).push _)
  have KZ : Hid (BlkAt w1 (w.heap.size + 1) #[.int .i64 0, .int .i64 0, .int .i64 0, .int .i64 0, .int .i64 0, .int .i64 0, .int .i64 0, .int .i64 0, .int .i64 0, .int .i64 0, .string ⟨#[]⟩, .slice none 0 0] 44) := Lib.hid (by
    rw [← hw1]
    have := BlkAt.new (w.alloc (.cells (recArr r) 44)) #[.int .i64 0, .int .i64 0, .int .i64 0, .int .i64 0, .int .i64 0, .int .i64 0, .int .i64 0, .int .i64 0, .int .i64 0, .int .i64 0, .string ⟨#[]⟩, .slice none 0 0] 44
    rw [World.size_alloc] at this
    exact this)
  have cP := Lib.hid (part_any r.data d w1 (h.below hb1) hd)
  have HB1 := Lib.hid hb1
  have hs1 : w.heap.size + 2 ≤ w1.heap.size := by rw [← hw1]; simp
  dsimp only [recArr, Sl.v] at hw1
  have HW1 := Lib.hid hw1
  clear hw1 hb1 h
  dsimp only [RecV.val, Sl.v]
  go_enter Tryd.func20, Tryd.ntmps20
  go_upto_region 1 with fail
  rw [HW1.out]
  clear HW1
  go_wp2_with (refine wpList_load_field rfl _ _ rfl _ 11 rfl _ _ KB.out (.slice r.data.a r.data.n r.data.c) rfl one_bytes ?_)
  refine cP.out.mono ?_
  rintro e w2 ⟨v, rfl, ho, hb⟩
  obtain ⟨s, rfl, _⟩ := ho.at (by omega)
  have KB2 := Lib.hid (KB.out.below hb (by omega))
  have KZ2 := Lib.hid (KZ.out.below hb (by omega))
  have HB2 := Lib.hid (then_ HB1.out hb)
  have HO2 := Lib.hid (ho.lower (b := w1.heap.size) (base := w.heap.size + 2) hs1)
  clear ho hb cP KB KZ HB1
  dsimp only [Sl.v]
  go_wp2_with (first
    | (refine wpList_store_one rfl _ _ _ rfl _ 11 rfl (.slice s.a s.n s.c) rfl _ _ KB2.out (by show 11 < 12; omega) rfl size_bytes ?_; intro w3 hw3 K3; have KB3 : Hid (BlkAt w3 w.heap.size (recArr { r with data := s }) 44) := Lib.hid K3; have KZ3 := Lib.hid (hw3.blk KZ2.out (by omega)); have HB3 := Lib.hid (hw3.below HB2.out (Nat.le_refl _)); have HO3 := Lib.hid (HO2.out.keep (hw3.rows KB2.out (by decide) (by decide))); clear hw3 K3 KB2 KZ2 HB2 HO2)
    | (refine wpList_load_blk rfl _ _ rfl _ rfl _ _ KB3.out rowRec ?_)
    | (refine wpList_store_blk rfl _ _ _ rfl _ rfl (recArr { r with data := s }) rfl _ _ KZ3.out (by rfl) (by simp [recArr, Value.oneCell']) rowRec ?_; intro w4 hw4 K4; have KZ4 := Lib.hid K4; have HB4 := Lib.hid (hw4.below HB3.out (by omega)); have HO4 := Lib.hid (HO3.out.keep (hw4.rows KZ3.out (by decide) (by decide))); clear hw4 K4))
  exact bodyPost_ret (results_row rfl _ _ _ _ _ rfl KZ4.out rowRec) rfl ⟨s, rfl, HO4.out.lower (by omega), HB4.out⟩
end Go.Proofs.YtfbaliimjmimhaaDoor
