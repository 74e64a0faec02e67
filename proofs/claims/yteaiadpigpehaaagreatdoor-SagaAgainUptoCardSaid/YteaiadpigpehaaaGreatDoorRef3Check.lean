/-
  annalsref3.Check walked: it answers as record.Check does. Conditions: the tables that it reads, as laid; texts of at most 2^40 bytes.
-/
import Derived.Test.YteaiadpigpehaaaGreatDoorRef3
namespace Go.Proofs.YteaiadpigpehaaaGreatDoor
open Go.RowKit

structure RefTabs (w : World) : Prop where
  lr : LR w
  rows : RowsAt w
theorem RefTabs.below {w w' : World} (h : RefTabs w) (hb : Below w.heap.size w w') : RefTabs w' := ⟨PairsAt.below h.lr hb, h.rows.below hb⟩
structure RefSt (w wr : World) (g : Nat) (r : RecV) (d : List Int) : Prop where
  blk : BlkAt wr g (recArr r) 31
  tabs : RefTabs wr
  data : BytesAt wr r.data d
  below : Below w.heap.size w wr
theorem RefSt.bl {w wr w' : World} {g : Nat} {r : RecV} {d : List Int} (h : RefSt w wr g r d) (hb : Below wr.heap.size wr w') : RefSt w w' g r d := ⟨h.blk.below hb (blk_lt h.blk), h.tabs.below hb, h.data.below hb, then_ h.below hb⟩

set_option maxRecDepth 10000000 in
set_option maxHeartbeats 2000000 in
theorem ref3Check_any (r : RecV) (d : List Int) (w : World) (ht : RefTabs w) (hn : r.name.size ≤ 1099511627776) (hdl : d.length ≤ 1099511627776) (hd : BytesAt w r.data d) :
    Calls Tryz.prog 39 #[r.val] w fun e w' => e = .returned (.int .i64 (recN r d)) ∧ Below w.heap.size w w' := by
  by_cases hv : r.v < 1 ∨ 3 < r.v
  · rw [recN_v hv]
    obtain ⟨v, kind, saga, step, try_, at_, last, code, count, pivot, name, ⟨da, dn, dc⟩⟩ := r
    simp only at hv
    clear ht hn hdl hd
    dsimp only [RecV.val, Sl.v]
    rcases hv with hv | hv
    all_goals
      go_enter Tryz.func39, Tryz.ntmps39
      go_wp2
      all_goals go_ret
      all_goals exact ⟨rfl, boxd (Below.refl _ _)⟩
  by_cases hk : r.kind < 1 ∨ 7 < r.kind
  · rw [recN_kind hv hk]
    obtain ⟨v, kind, saga, step, try_, at_, last, code, count, pivot, name, ⟨da, dn, dc⟩⟩ := r
    simp only at hv hk
    have hv1 : ¬ v < 1 := by omega
    have hv3 : ¬ 3 < v := by omega
    clear ht hn hdl hd hv
    dsimp only [RecV.val, Sl.v]
    rcases hk with hk | hk
    all_goals
      go_enter Tryz.func39, Tryz.ntmps39
      go_wp2
      all_goals go_ret
      all_goals exact ⟨rfl, boxd (Below.refl _ _)⟩
  by_cases hs : r.saga < 1
  · rw [recN_saga hv hk hs]
    obtain ⟨v, kind, saga, step, try_, at_, last, code, count, pivot, name, ⟨da, dn, dc⟩⟩ := r
    simp only at hv hk hs
    have hv1 : ¬ v < 1 := by omega
    have hv3 : ¬ 3 < v := by omega
    have hk1 : ¬ kind < 1 := by omega
    have hk3 : ¬ 7 < kind := by omega
    clear ht hn hdl hd hv hk
    dsimp only [RecV.val, Sl.v]
    go_enter Tryz.func39, Tryz.ntmps39
    go_wp2
    all_goals go_ret
    all_goals exact ⟨rfl, boxd (Below.refl _ _)⟩
  obtain ⟨V, hV⟩ : ∃ V : Nat, r.v = V + 1 := ⟨(r.v - 1).toNat, by omega⟩
  obtain ⟨K, hK⟩ : ∃ K : Nat, r.kind = K + 1 := ⟨(r.kind - 1).toNat, by omega⟩
  have hV3 : V < 3 := by omega
  have hK7 : K < 7 := by omega
  rw [recN_tags hV hK hV3 hK7 hs]
  obtain ⟨T, hT⟩ : ∃ q, mayL.getD (V * 7 + K) 0 = q := ⟨_, rfl⟩
  have cS := fun (tag : Nat) (h1 : 3 ≤ tag) (h2 : tag ≤ 11) (W : World) (h : RefTabs W) => refStands_any V K tag hV3 hK7 h1 h2 W h.rows
  rw [hT] at cS ⊢
  have CS := Lib.hid cS
  have KK : RefSt w (w.alloc (.cells (recArr r) 31)) w.heap.size r d := ⟨BlkAt.new _ _ _, ht.below (boxd (Below.refl _ _)), hd.below (boxd (Below.refl _ _)), boxd (Below.refl _ _)⟩
  obtain ⟨w0, hw0⟩ : ∃ q, w.alloc (.cells (recArr r) 31) = q := ⟨_, rfl⟩
  rw [hw0] at KK
  have TO := Lib.hid KK
  dsimp only [recArr, Sl.v] at hw0
  have HW0 := Lib.hid hw0
  have f0 : (recArr r)[0]? = some (.int .i64 ((V : Int) + 1)) := by show some (Value.int .i64 r.v) = _; rw [hV]
  have f1 : (recArr r)[1]? = some (.int .i64 ((K : Int) + 1)) := by show some (Value.int .i64 r.kind) = _; rw [hK]
  have F0 := Lib.hid f0
  have F1 := Lib.hid f1
  have hs1 : 1 ≤ r.saga := by omega
  obtain ⟨sg, hsg⟩ : ∃ q, r.saga = q := ⟨_, rfl⟩
  have f2 : (recArr r)[2]? = some (.int .i64 sg) := by show some (Value.int .i64 r.saga) = _; rw [hsg]
  have F2 := Lib.hid f2
  rw [hsg] at hs1
  have HA0 := Lib.hid (RecAtTag.start r d T)
  obtain ⟨res, hres⟩ : ∃ q, recFrom r d T 9 3 = q := ⟨_, rfl⟩
  rw [hres]
  have HRES := Lib.hid hres
  clear ht hd hw0 KK f0 f1 f2 hv hk hs hV hK hT cS hsg hres
  dsimp only [RecV.val, Sl.v]
  go_enter Tryz.func39, Tryz.ntmps39
  go_upto_region 1 with fail
  rw [HW0.out]
  clear HW0
  go_wp2_with (first
    | (refine wpList_load_field rfl _ _ rfl _ 0 rfl _ _ TO.out.blk _ F0.out one_int ?_)
    | (refine wpList_load_field_g rfl _ _ rfl _ 0 rfl _ _ TO.out.blk _ F0.out one_int ?_)
    | (refine wpList_load_field rfl _ _ rfl _ 1 rfl _ _ TO.out.blk _ F1.out one_int ?_)
    | (refine wpList_load_field_g rfl _ _ rfl _ 1 rfl _ _ TO.out.blk _ F1.out one_int ?_)
    | (refine wpList_load_field rfl _ _ rfl _ 2 rfl _ _ TO.out.blk _ F2.out one_int ?_))
  go_loopw [3] (fun c wr => ∃ j : Nat, 3 ≤ j ∧ j ≤ 12 ∧ c = .int .i64 j ∧ Hid (RefSt w wr w.heap.size r d) ∧ Hid (RecAtTag r d T j)) (fun c _ => 12 - (intOf c).toNat)
  case atStart => exact ⟨3, by omega, by omega, rfl, TO, HA0⟩
  case round =>
    clear TO HA0
    obtain ⟨j, hj3, hj12, rfl, TO, HA⟩ := hrel
    by_cases hlt : j < 12
    · go_wp2_with (first
        | (refine wpList_load_field rfl _ _ rfl _ 0 rfl _ _ TO.out.blk _ F0.out one_int ?_)
        | (refine wpList_load_field rfl _ _ rfl _ 1 rfl _ _ TO.out.blk _ F1.out one_int ?_))
      refine (CS.out j hj3 (by omega) _ TO.out.tabs).mono ?_
      rintro e w2 ⟨rfl, hb⟩
      have TP := Lib.hid (TO.out.bl hb)
      clear TO hb
      go_wp2_with (refine wpList_load_blk rfl _ _ rfl _ rfl _ _ TP.out.blk rowRec ?_)
      refine (refZero_any r j hj3 (by omega) _).mono ?_
      rintro e w3 ⟨rfl, hb⟩
      have TO := Lib.hid (TP.out.bl hb)
      clear TP hb
      obtain ⟨sb, hsb⟩ : ∃ q, standsB T j = q := ⟨_, rfl⟩
      obtain ⟨zb, hzb⟩ : ∃ q, zeroB r j = q := ⟨_, rfl⟩
      rw [hsb, hzb]
      cases sb with
      | false =>
        have hte : tagErr r d T j = if zb = true then 0 else 33 := by unfold tagErr; rw [hsb, hzb]; rfl
        cases zb with
        | false =>
          have hr := HRES.out.symm.trans (HA.out.bad hlt hte (by decide))
          simp only [Bool.false_eq_true, if_false] at hr
          subst hr
          clear hsb hzb hte HRES HA
          go_wp2
          all_goals go_ret
          all_goals exact ⟨rfl, TO.out.below⟩
        | true =>
          have HA2 := Lib.hid (HA.out.on hlt hte)
          clear hsb hzb hte HA
          go_wp2
          all_goals go_roundw
          case rel => exact ⟨j + 1, by omega, by omega, by go_num, TO, HA2⟩
          case measure => simp [intOf]; omega
      | true =>
        obtain ⟨E, hE⟩ : ∃ q, boundsN r d j = q := ⟨_, rfl⟩
        have hte : tagErr r d T j = E := by unfold tagErr; rw [hsb, if_pos rfl, hE]
        have cB := refBounds_any r d j hj3 (by omega) w3 hn TO.out.tabs.lr TO.out.data hdl
        rw [hE] at cB
        have CB := Lib.hid cB
        clear hsb hzb hE cB
        by_cases hE0 : E = 0
        · subst hE0
          have HA2 := Lib.hid (HA.out.on hlt hte)
          clear hte HA
          go_wp2_with (refine wpList_load_blk rfl _ _ rfl _ rfl _ _ TO.out.blk rowRec ?_)
          all_goals
            refine CB.out.mono ?_
            rintro e w4 ⟨rfl, hb⟩
            have TP := Lib.hid (TO.out.bl hb)
            clear TO hb CB
            go_wp2
            all_goals go_roundw
            case rel => exact ⟨j + 1, by omega, by omega, by go_num, TP, HA2⟩
            case measure => simp [intOf]; omega
        · have hE0' : (E == 0) = false := by rw [beq_eq_false_iff_ne]; exact hE0
          have hr := HRES.out.symm.trans (HA.out.bad hlt hte hE0)
          subst hr
          clear hte HRES HA
          go_wp2_with (refine wpList_load_blk rfl _ _ rfl _ rfl _ _ TO.out.blk rowRec ?_)
          all_goals
            refine CB.out.mono ?_
            rintro e w4 ⟨rfl, hb⟩
            have TP := Lib.hid (TO.out.bl hb)
            clear TO hb CB
            go_wp2
            all_goals go_ret
            all_goals exact ⟨rfl, TP.out.below⟩
    · obtain rfl : j = 12 := by omega
      have hr := HRES.out.symm.trans HA.out.good
      subst hr
      clear HRES HA
      go_wp2
      all_goals go_ret
      all_goals exact ⟨rfl, TO.out.below⟩
end Go.Proofs.YteaiadpigpehaaaGreatDoor
