/-
  annalsref10.third, lists and Clone walked: a valid record as one of version 3, a saga in new memory. Conditions: as each theorem says. (Printed by wip/gen_ref10copy.py.)
-/
import Derived.Test.YtfbaliimjmimhaaDoorRefUp2
import Derived.Test.YtfbaliimjmimhaaDoorPkApply
namespace Go.Proofs.YtfbaliimjmimhaaDoor
open Go.RowKit

set_option maxRecDepth 100000 in
set_option maxHeartbeats 1000000 in
theorem ref10Lists_any (l : Sl) (ls : List (List Int)) (w : World) (h : ListsAt w l ls) (hn : ls.length ≤ 1048576) (hd : ∀ d ∈ ls, d.length ≤ 1073741824) :
    Calls Tryd.prog 35 #[l.v] w fun e w' => ∃ v, e = .returned v ∧ OwnLists w' w.heap.size v ls ∧ Below w.heap.size w w' := by
  obtain ⟨vs, h1, h2, h3⟩ := h
  have hl := h1.1
  rw [List.length_map] at hl
  have hmax := h1.2.1.1
  have H := Lib.hid (fun j hj => row_get h1 (j := j) hj)
  have H3 := Lib.hid h3
  clear h1 h3
  obtain ⟨a, n, c⟩ := l
  simp only at hl hmax
  subst hl
  dsimp only [Sl.v]
  go_enter Tryd.func35, Tryd.ntmps35
  go_wp2
  go_loopw [3, 4] (fun v c wr => ∃ j : Nat, j ≤ vs.length ∧ c = .int .i64 j ∧ Hid (OwnLists wr w.heap.size v (ls.take j)) ∧ Hid (Below w.heap.size w wr)) (fun _ c _ => vs.length - (intOf c).toNat)
  case atStart => exact ⟨0, by omega, rfl, Lib.hid (OwnLists.nil _ _), Lib.hid (Below.refl _ _)⟩
  case round =>
    obtain ⟨j, hj, rfl, HO, HB⟩ := hrel
    by_cases hlt : j < vs.length
    · obtain ⟨b, o, hA, hc⟩ := H.out j hlt
      have hc := (HB.out.cell (World.block_lt_of_cell? _ _ hc)).trans hc
      subst hA
      have hbs := H3.out j hlt (by omega)
      have hj2 : j < ls.length := by omega
      have hgd : vs.getD j nilSl = vs[j] := by simp [List.getD, hlt]
      rw [hgd] at hc
      have cB := Lib.hid (refBytes_any vs[j] ls[j] wr (hbs.below HB.out) (Nat.le_trans (hd _ (List.getElem_mem _)) (by decide)))
      have hsn := take_snoc ls j hj2
      have hDl := hd ls[j] (List.getElem_mem _)
      obtain ⟨D, hD⟩ : ∃ x, ls[j] = x := ⟨_, rfl⟩
      rw [hD] at cB hsn hDl
      obtain ⟨⟨va, vn, vc⟩, hv⟩ : ∃ x, vs[j] = x := ⟨_, rfl⟩
      rw [hv] at hc cB
      dsimp only [Sl.v] at hc cB
      have hlen : (ls.take j).length = j := by rw [List.length_take]; omega
      have HS := Lib.hid hsn
      clear hv hD hbs hgd hsn
      go_wp2_with fail
      refine cB.out.mono ?_
      rintro e w2 ⟨v, rfl, hov, hb⟩
      obtain ⟨⟨sa, sn, sc⟩, rfl, -⟩ := hov.at (by omega)
      dsimp only [Sl.v] at hov
      have hsz := HB.out.size
      have hov2 := hov.lower (base := w.heap.size) hsz
      obtain ⟨us, o1, o2, o3⟩ := HO.out.through hb
      have hb1 := boxd (o := .cells #[.slice sa sn sc] 37) (Below.refl w2.heap.size w2)
      have HB2 := Lib.hid (boxd (o := .cells #[.slice sa sn sc] 37) (then_ HB.out hb))
      have O1 := Lib.hid (o1.alloc (.cells #[.slice sa sn sc] 37))
      have O3 := Lib.hid (fun i a b => (o3 i a b).through hb1)
      have OV := Lib.hid (hov2.through hb1)
      have hb2 := hb.size
      have OL := Lib.hid o2
      clear hov hov2 o1 o3 hb1 hb HO o2
      go_wp2_with (at_builtin; refine wpList_append_row _ rfl (.tmp 17) (.tmp 19) 38 rfl w.heap.size 37 (.slice none 0 0) 24 Tryd.underlying38 infoBytes rfl _ _ _ rfl O1.out ⟨some ⟨w2.heap.size, 0, none⟩, 1, 1⟩ [.slice sa sn sc] rfl (RowAt.of_lit1 w2 _ _) (by simp [Value.oneCell']) ?c1 ?c2 ?c3 ?_)
      case c1 => simp only [maxLen]; omega
      case c2 => omega
      case c3 => simp; omega
      intro v' w3 hown hgr
      have HG : Hid (OwnLists w3 w.heap.size v' (ls.take j ++ [D])) := Lib.hid (OwnLists.grown (s := ⟨sa, sn, sc⟩) OL.out O3.out O1.out OV.out (by rw [hlen]; exact hown) hgr)
      rw [← HS.out] at HG
      have HB3 : Hid (Below w.heap.size w w3) := Lib.hid (HB2.out.grown hgr (by simp; omega) (fun k hk => (O1.out.lt k hk).1))
      clear hown hgr O1 O3 OV HB2 OL
      go_wp2
      all_goals go_roundw
      case rel => exact ⟨j + 1, by omega, by go_num, HG, HB3⟩
      case measure => simp [intOf]; omega
    · obtain rfl : j = vs.length := by omega
      have HO2 : Hid (OwnLists wr w.heap.size _ ls) := Lib.hid (by have := HO.out; rwa [h2, List.take_length] at this)
      go_wp2
      all_goals go_ret
      all_goals exact ⟨_, rfl, HO2.out, HB.out⟩

set_option maxRecDepth 10000000 in
set_option maxHeartbeats 4000000 in
theorem ref10Clone_any0 (s : SagaV) (h : Held) (w : World) (k : HeldAt w s h) (hs : h.Small) :
    Calls Tryd.prog 19 #[s.val] w fun e w' => ∃ s' : SagaV, e = .returned s'.val ∧ s' = { s with input := s'.input, outs := s'.outs, undos := s'.undos, fail := s'.fail } ∧ OwnHeld w' w.heap.size s' h ∧ Below w.heap.size w w' := by
  obtain ⟨id, name, count, pivot, begun, at_, ⟨ia, il, ic⟩, phase, next, flight, tries, ⟨oa, ol, oc⟩, ⟨ua, ul, uc⟩, fs, fc, ⟨fa, fl, fcap⟩⟩ := s
  obtain ⟨D1, D2, D3, D4⟩ := h
  obtain ⟨k1, k2, k3, k4⟩ := k
  obtain ⟨s1, s2, s3, s4, s5, s6⟩ := hs
  simp only at k1 k2 k3 k4 s1 s2 s3 s4 s5 s6
  have hb0 := Below.refl w.heap.size w
  have hb1 := boxd (o := .cells #[.int .i64 id, .string name, .int .i64 count, .int .i64 pivot, .int .i64 begun, .int .i64 at_, .slice ia il ic, .int .i64 phase, .int .i64 next, .bool flight, .int .i64 tries, .slice oa ol oc, .slice ua ul uc, .int .i64 fs, .int .i64 fc, .slice fa fl fcap] 40) hb0
  have hb2 := boxd (o := .cells #[.int .i64 0, .string ⟨#[]⟩, .int .i64 0, .int .i64 0, .int .i64 0, .int .i64 0, .slice none 0 0, .int .i64 0, .int .i64 0, .bool false, .int .i64 0, .slice none 0 0, .slice none 0 0, .int .i64 0, .int .i64 0, .slice none 0 0] 40) hb1
  have B0 := Lib.hid ((BlkAt.new w #[.int .i64 id, .string name, .int .i64 count, .int .i64 pivot, .int .i64 begun, .int .i64 at_, .slice ia il ic, .int .i64 phase, .int .i64 next, .bool flight, .int .i64 tries, .slice oa ol oc, .slice ua ul uc, .int .i64 fs, .int .i64 fc, .slice fa fl fcap] 40).push (.cells #[.int .i64 0, .string ⟨#[]⟩, .int .i64 0, .int .i64 0, .int .i64 0, .int .i64 0, .slice none 0 0, .int .i64 0, .int .i64 0, .bool false, .int .i64 0, .slice none 0 0, .slice none 0 0, .int .i64 0, .int .i64 0, .slice none 0 0] 40))
  have Z0 := BlkAt.new (w.alloc (.cells #[.int .i64 id, .string name, .int .i64 count, .int .i64 pivot, .int .i64 begun, .int .i64 at_, .slice ia il ic, .int .i64 phase, .int .i64 next, .bool flight, .int .i64 tries, .slice oa ol oc, .slice ua ul uc, .int .i64 fs, .int .i64 fc, .slice fa fl fcap] 40)) #[.int .i64 0, .string ⟨#[]⟩, .int .i64 0, .int .i64 0, .int .i64 0, .int .i64 0, .slice none 0 0, .int .i64 0, .int .i64 0, .bool false, .int .i64 0, .slice none 0 0, .slice none 0 0, .int .i64 0, .int .i64 0, .slice none 0 0] 40
  dsimp only [SagaV.val, Sl.v]
  have K1 := Lib.hid k1
  have K2 := Lib.hid k2
  have K3 := Lib.hid k3
  have K4 := Lib.hid k4
  have HB := Lib.hid hb2
  have HZ := Lib.hid Z0
  clear k1 k2 k3 k4 hb0 hb1 hb2 Z0
  go_enter Tryd.func19, Tryd.ntmps19
  go_wp2_with fail
  refine (refBytes_any ⟨ia, il, ic⟩ D1 _ (K1.out.below HB.out) (Nat.le_trans s1 (by decide))).mono ?_
  rintro e w2 ⟨v, rfl, o1, hb⟩
  obtain ⟨⟨a1, n1, c1⟩, rfl, -⟩ := o1.at (by omega)
  dsimp only [Sl.v] at o1
  have hsz : w.heap.size + 2 ≤ w2.heap.size := by have := hb.size; simp at this; omega
  have P1 : BlkAt w2 w.heap.size #[.int .i64 id, .string name, .int .i64 count, .int .i64 pivot, .int .i64 begun, .int .i64 at_, .slice ia il ic, .int .i64 phase, .int .i64 next, .bool flight, .int .i64 tries, .slice oa ol oc, .slice ua ul uc, .int .i64 fs, .int .i64 fc, .slice fa fl fcap] 40 := B0.out.below hb (by simp; omega)
  have b0 := P1.cell 0
  have b1 := P1.cell 1
  have b2 := P1.cell 2
  have b3 := P1.cell 3
  have b4 := P1.cell 4
  have b5 := P1.cell 5
  have b6 := P1.cell 6
  have b7 := P1.cell 7
  have b8 := P1.cell 8
  have b9 := P1.cell 9
  have b10 := P1.cell 10
  have b11 := P1.cell 11
  have b12 := P1.cell 12
  have b13 := P1.cell 13
  have b14 := P1.cell 14
  have b15 := P1.cell 15
  simp only [List.getElem?_toArray, List.getElem?_cons_zero, List.getElem?_cons_succ] at b0 b1 b2 b3 b4 b5 b6 b7 b8 b9 b10 b11 b12 b13 b14 b15
  have bf := P1.frozen
  have HP1 := Lib.hid P1
  have HZ1 : Hid (BlkAt w2 (w.heap.size + 1) _ 40) := Lib.hid (by simpa using HZ.out.below hb (by simp))
  have HB1 := Lib.hid (Below.set (p := ⟨w.heap.size, 6, none⟩) (u := .slice a1 n1 c1) (then_ HB.out hb) (Nat.le_refl _))
  have HO1 : Hid (OwnBytes w2 (w.heap.size + 2) (.slice a1 n1 c1) D1) := Lib.hid (by simpa using o1)
  clear o1 hb P1 B0 HZ HB
  go_wp2_with fail
  refine (ref10Lists_any ⟨oa, ol, oc⟩ D2 _ (K2.out.below HB1.out) s2 s3).mono ?_
  rintro e w3 ⟨v, rfl, o2, hb⟩
  obtain ⟨⟨a2, n2, c2⟩, rfl, -⟩ := o2.at (by omega) s3
  dsimp only [Sl.v] at o2
  have L2 := Lib.hid (fun k hk => (o2.lt k hk).2)
  have hle := hb.size
  simp only [World.size_setCell] at hle
  have P2 : BlkAt w3 w.heap.size #[.int .i64 id, .string name, .int .i64 count, .int .i64 pivot, .int .i64 begun, .int .i64 at_, .slice a1 n1 c1, .int .i64 phase, .int .i64 next, .bool flight, .int .i64 tries, .slice oa ol oc, .slice ua ul uc, .int .i64 fs, .int .i64 fc, .slice fa fl fcap] 40 := BlkAt.below (by simpa using HP1.out.set (i := 6) (.slice a1 n1 c1)) hb (by simp only [World.size_setCell]; omega)
  clear b0 b1 b2 b3 b4 b5 b6 b7 b8 b9 b10 b11 b12 b13 b14 b15 bf
  have d0 := P2.cell 0
  have d1 := P2.cell 1
  have d2 := P2.cell 2
  have d3 := P2.cell 3
  have d4 := P2.cell 4
  have d5 := P2.cell 5
  have d6 := P2.cell 6
  have d7 := P2.cell 7
  have d8 := P2.cell 8
  have d9 := P2.cell 9
  have d10 := P2.cell 10
  have d11 := P2.cell 11
  have d12 := P2.cell 12
  have d13 := P2.cell 13
  have d14 := P2.cell 14
  have d15 := P2.cell 15
  simp only [List.getElem?_toArray, List.getElem?_cons_zero, List.getElem?_cons_succ] at d0 d1 d2 d3 d4 d5 d6 d7 d8 d9 d10 d11 d12 d13 d14 d15
  have df := P2.frozen
  have HP2 := Lib.hid P2
  have HZ2 : Hid (BlkAt w3 (w.heap.size + 1) _ 40) := Lib.hid ((HZ1.out.other (a := ⟨w.heap.size, 6, none⟩) (by simp only; omega) (.slice a1 n1 c1)).below hb (by simp only [World.size_setCell]; omega))
  have HB2 := Lib.hid (Below.set (p := ⟨w.heap.size, 11, none⟩) (u := .slice a2 n2 c2) (then_ HB1.out hb) (Nat.le_refl _))
  have HO1' := Lib.hid ((OwnBytes.set (a := ⟨w.heap.size, 6, none⟩) (u := .slice a1 n1 c1) HO1.out (by simp only; omega)).through hb)
  clear HO1
  have HO1 := HO1'
  clear HO1'
  have HO2 := Lib.hid (o2.lower (base := w.heap.size + 2) (by simp only [World.size_setCell]; omega))
  have hsz' : w.heap.size + 2 ≤ w3.heap.size := by omega
  clear hsz hle
  have hsz := hsz'
  clear hsz'
  clear o2 hb P2 HP1 HZ1 HB1
  go_wp2_with fail
  refine (ref10Lists_any ⟨ua, ul, uc⟩ D3 _ (K3.out.below HB2.out) s4 s5).mono ?_
  rintro e w4 ⟨v, rfl, o3, hb⟩
  obtain ⟨⟨a3, n3, c3⟩, rfl, -⟩ := o3.at (by omega) s5
  dsimp only [Sl.v] at o3
  have L3 := Lib.hid (fun k hk => (o3.lt k hk).1)
  have hle := hb.size
  simp only [World.size_setCell] at hle
  have P3 : BlkAt w4 w.heap.size #[.int .i64 id, .string name, .int .i64 count, .int .i64 pivot, .int .i64 begun, .int .i64 at_, .slice a1 n1 c1, .int .i64 phase, .int .i64 next, .bool flight, .int .i64 tries, .slice a2 n2 c2, .slice ua ul uc, .int .i64 fs, .int .i64 fc, .slice fa fl fcap] 40 := BlkAt.below (by simpa using HP2.out.set (i := 11) (.slice a2 n2 c2)) hb (by simp only [World.size_setCell]; omega)
  clear d0 d1 d2 d3 d4 d5 d6 d7 d8 d9 d10 d11 d12 d13 d14 d15 df
  have q0 := P3.cell 0
  have q1 := P3.cell 1
  have q2 := P3.cell 2
  have q3 := P3.cell 3
  have q4 := P3.cell 4
  have q5 := P3.cell 5
  have q6 := P3.cell 6
  have q7 := P3.cell 7
  have q8 := P3.cell 8
  have q9 := P3.cell 9
  have q10 := P3.cell 10
  have q11 := P3.cell 11
  have q12 := P3.cell 12
  have q13 := P3.cell 13
  have q14 := P3.cell 14
  have q15 := P3.cell 15
  simp only [List.getElem?_toArray, List.getElem?_cons_zero, List.getElem?_cons_succ] at q0 q1 q2 q3 q4 q5 q6 q7 q8 q9 q10 q11 q12 q13 q14 q15
  have qf := P3.frozen
  have HP3 := Lib.hid P3
  have HZ3 : Hid (BlkAt w4 (w.heap.size + 1) _ 40) := Lib.hid ((HZ2.out.other (a := ⟨w.heap.size, 11, none⟩) (by simp only; omega) (.slice a2 n2 c2)).below hb (by simp only [World.size_setCell]; omega))
  have HB3 := Lib.hid (Below.set (p := ⟨w.heap.size, 12, none⟩) (u := .slice a3 n3 c3) (then_ HB2.out hb) (Nat.le_refl _))
  have HO1' := Lib.hid ((OwnBytes.set (a := ⟨w.heap.size, 11, none⟩) (u := .slice a2 n2 c2) HO1.out (by simp only; omega)).through hb)
  clear HO1
  have HO1 := HO1'
  clear HO1'
  have HO2' := Lib.hid ((OwnLists.set (a := ⟨w.heap.size, 11, none⟩) (u := .slice a2 n2 c2) HO2.out (by simp only; omega)).through hb)
  clear HO2
  have HO2 := HO2'
  clear HO2'
  have HO3 := Lib.hid (o3.lower (base := w.heap.size + 2) (by simp only [World.size_setCell]; omega))
  have hsz' : w.heap.size + 2 ≤ w4.heap.size := by omega
  clear hsz hle
  have hsz := hsz'
  clear hsz'
  clear o3 hb P3 HP2 HZ2 HB2
  go_wp2_with fail
  refine (refBytes_any ⟨fa, fl, fcap⟩ D4 _ (K4.out.below HB3.out) (Nat.le_trans s6 (by decide))).mono ?_
  rintro e w5 ⟨v, rfl, o4, hb⟩
  obtain ⟨⟨a4, n4, c4⟩, rfl, -⟩ := o4.at (by omega)
  dsimp only [Sl.v] at o4
  have hle := hb.size
  simp only [World.size_setCell] at hle
  have P4 : BlkAt w5 w.heap.size #[.int .i64 id, .string name, .int .i64 count, .int .i64 pivot, .int .i64 begun, .int .i64 at_, .slice a1 n1 c1, .int .i64 phase, .int .i64 next, .bool flight, .int .i64 tries, .slice a2 n2 c2, .slice a3 n3 c3, .int .i64 fs, .int .i64 fc, .slice fa fl fcap] 40 := BlkAt.below (by simpa using HP3.out.set (i := 12) (.slice a3 n3 c3)) hb (by simp only [World.size_setCell]; omega)
  clear q0 q1 q2 q3 q4 q5 q6 q7 q8 q9 q10 q11 q12 q13 q14 q15 qf
  have y0 := P4.cell 0
  have y1 := P4.cell 1
  have y2 := P4.cell 2
  have y3 := P4.cell 3
  have y4 := P4.cell 4
  have y5 := P4.cell 5
  have y6 := P4.cell 6
  have y7 := P4.cell 7
  have y8 := P4.cell 8
  have y9 := P4.cell 9
  have y10 := P4.cell 10
  have y11 := P4.cell 11
  have y12 := P4.cell 12
  have y13 := P4.cell 13
  have y14 := P4.cell 14
  have y15 := P4.cell 15
  simp only [List.getElem?_toArray, List.getElem?_cons_zero, List.getElem?_cons_succ] at y0 y1 y2 y3 y4 y5 y6 y7 y8 y9 y10 y11 y12 y13 y14 y15
  have yf := P4.frozen
  have HP4 := Lib.hid P4
  have HZ4 : Hid (BlkAt w5 (w.heap.size + 1) _ 40) := Lib.hid ((HZ3.out.other (a := ⟨w.heap.size, 12, none⟩) (by simp only; omega) (.slice a3 n3 c3)).below hb (by simp only [World.size_setCell]; omega))
  have HB4 := Lib.hid (then_ HB3.out hb)
  have HO1' := Lib.hid ((OwnBytes.set (a := ⟨w.heap.size, 12, none⟩) (u := .slice a3 n3 c3) HO1.out (by simp only; omega)).through hb)
  clear HO1
  have HO1 := HO1'
  clear HO1'
  have HO2' := Lib.hid ((OwnLists.set (a := ⟨w.heap.size, 12, none⟩) (u := .slice a3 n3 c3) HO2.out (by simp only; omega)).through hb)
  clear HO2
  have HO2 := HO2'
  clear HO2'
  have HO3' := Lib.hid ((OwnLists.set (a := ⟨w.heap.size, 12, none⟩) (u := .slice a3 n3 c3) HO3.out (by simp only; omega)).through hb)
  clear HO3
  have HO3 := HO3'
  clear HO3'
  have HO4 := Lib.hid (o4.lower (base := w.heap.size + 2) (by simp only [World.size_setCell]; omega))
  have hsz' : w.heap.size + 2 ≤ w5.heap.size := by omega
  clear hsz hle
  have hsz := hsz'
  clear hsz'
  clear o4 hb P4 HP3 HZ3 HB3
  have ZZ := HZ4.out
  have z0 := ZZ.cell 0
  have z1 := ZZ.cell 1
  have z2 := ZZ.cell 2
  have z3 := ZZ.cell 3
  have z4 := ZZ.cell 4
  have z5 := ZZ.cell 5
  have z6 := ZZ.cell 6
  have z7 := ZZ.cell 7
  have z8 := ZZ.cell 8
  have z9 := ZZ.cell 9
  have z10 := ZZ.cell 10
  have z11 := ZZ.cell 11
  have z12 := ZZ.cell 12
  have z13 := ZZ.cell 13
  have z14 := ZZ.cell 14
  have z15 := ZZ.cell 15
  simp only [List.getElem?_toArray, List.getElem?_cons_zero, List.getElem?_cons_succ] at z0 z1 z2 z3 z4 z5 z6 z7 z8 z9 z10 z11 z12 z13 z14 z15
  have zf := ZZ.frozen
  clear ZZ
  go_wp2
  refine bodyPost_ret (v := .agg #[.int .i64 id, .string name, .int .i64 count, .int .i64 pivot, .int .i64 begun, .int .i64 at_, .slice a1 n1 c1, .int .i64 phase, .int .i64 next, .bool flight, .int .i64 tries, .slice a2 n2 c2, .slice a3 n3 c3, .int .i64 fs, .int .i64 fc, .slice a4 n4 c4]) (by simp [results, Tryd.results19, go_sem, *]) rfl ⟨⟨id, name, count, pivot, begun, at_, ⟨a1, n1, c1⟩, phase, next, flight, tries, ⟨a2, n2, c2⟩, ⟨a3, n3, c3⟩, fs, fc, ⟨a4, n4, c4⟩⟩, rfl, rfl, ⟨?_, ?_, ?_, ?_, ?_⟩, ?_⟩
  · refine OwnBytes.lower (b := w.heap.size + 2) ?_ (by omega)
    repeat (refine OwnBytes.set ?_ (by simp only; omega))
    exact HO1.out
  · refine OwnLists.lower (b := w.heap.size + 2) ?_ (by omega)
    repeat (refine OwnLists.set ?_ (by simp only; omega))
    exact HO2.out
  · refine OwnLists.lower (b := w.heap.size + 2) ?_ (by omega)
    repeat (refine OwnLists.set ?_ (by simp only; omega))
    exact HO3.out
  · refine OwnBytes.lower (b := w.heap.size + 2) ?_ (by omega)
    repeat (refine OwnBytes.set ?_ (by simp only; omega))
    exact HO4.out
  · exact lists_apart L2.out L3.out (by simp only [World.size_setCell]; omega)
  · repeat (refine Below.set ?_ (by simp only; omega))
    exact HB4.out
theorem ref10Clone_any (s : SagaV) (D : SagaD) (w : World) (k : SagaRd w s D) (hs : D.held.Small) : Calls Tryd.prog 19 #[s.val] w fun e w' => ∃ s' : SagaV, e = .returned s'.val ∧ SagaOwn w' w.heap.size s' D ∧ Below w.heap.size w w' := by
  refine (ref10Clone_any0 s D.held w k.held hs).mono ?_
  rintro e w' ⟨s', rfl, h1, h2, h3⟩
  refine ⟨s', rfl, ⟨?_, h2⟩, h3⟩
  rw [k.eq] at h1
  exact h1
end Go.Proofs.YtfbaliimjmimhaaDoor
