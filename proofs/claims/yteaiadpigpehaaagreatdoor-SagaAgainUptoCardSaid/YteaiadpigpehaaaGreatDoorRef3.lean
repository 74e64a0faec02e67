/-
  annalsref3's within, label, zero, bounds walked: they answer as package record's do. Conditions: the letters that annalsref2.Name reads, as laid; texts of at most 2^40 bytes.
-/
import Derived.Test.YteaiadpigpehaaaGreatDoorPkTold
import Derived.Test.YteaiadpigpehaaaGreatDoorPkText
namespace Go.Proofs.YteaiadpigpehaaaGreatDoor
open Go.RowKit

theorem refWithin_any (n lo hi : Int) (w : World) :
    Calls Tryz.prog 87 #[.int .i64 n, .int .i64 lo, .int .i64 hi] w fun e w' => e = .returned (.int .i64 (withinN n lo hi)) ∧ w' = w := by
  unfold withinN
  by_cases h1 : n < lo
  · rw [if_pos (.inl h1)]
    go_enter Tryz.func87, Tryz.ntmps87
    go_wp2
    all_goals go_ret
    all_goals exact ⟨rfl, rfl⟩
  by_cases h2 : hi < n
  · rw [if_pos (.inr h2)]
    go_enter Tryz.func87, Tryz.ntmps87
    go_wp2
    all_goals go_ret
    all_goals exact ⟨rfl, rfl⟩
  · rw [if_neg (by omega)]
    go_enter Tryz.func87, Tryz.ntmps87
    go_wp2
    all_goals go_ret
    all_goals exact ⟨rfl, rfl⟩
theorem refLabel_any (s : ByteArray) (hs : s.size ≤ 1099511627776) (w : World) (ht : LR w) :
    Calls Tryz.prog 88 #[.string s] w fun e w' => e = .returned (.int .i64 (labelN s)) ∧ Below w.heap.size w w' := by
  have c := refName_any s hs w ht
  unfold labelN
  obtain ⟨E, hE⟩ : ∃ q, (nameA s).1 = q := ⟨_, rfl⟩
  obtain ⟨F, hF⟩ : ∃ q, (nameA s).2 = q := ⟨_, rfl⟩
  rw [hE, hF] at c
  rw [hE]
  have C := Lib.hid c
  clear c hE hF ht
  by_cases h0 : E = 0
  · subst h0
    rw [if_pos rfl]
    go_enter Tryz.func88, Tryz.ntmps88
    go_wp2_with fail
    refine C.out.mono ?_
    rintro e w2 ⟨rfl, hb⟩
    have HB := Lib.hid hb
    clear hb
    go_wp2
    all_goals go_ret
    all_goals exact ⟨rfl, HB.out⟩
  · have h0' : (E == 0) = false := by rw [beq_eq_false_iff_ne]; exact h0
    rw [if_neg h0]
    go_enter Tryz.func88, Tryz.ntmps88
    go_wp2_with fail
    refine C.out.mono ?_
    rintro e w2 ⟨rfl, hb⟩
    have HB := Lib.hid hb
    clear hb
    go_wp2
    all_goals go_ret
    all_goals exact ⟨rfl, HB.out⟩
set_option maxRecDepth 1000000 in
set_option maxHeartbeats 1000000 in
theorem refZero_any (r : RecV) (tag : Nat) (h1 : 3 ≤ tag) (h2 : tag ≤ 11) (w : World) :
    Calls Tryz.prog 61 #[r.val, .int .i64 tag] w fun e w' => e = .returned (.bool (zeroB r tag)) ∧ Below w.heap.size w w' := by
  have h : tag = 3 ∨ tag = 4 ∨ tag = 5 ∨ tag = 6 ∨ tag = 7 ∨ tag = 8 ∨ tag = 9 ∨ tag = 10 ∨ tag = 11 := by omega
  have K0 := BlkAt.new w (recArr r) 31
  have HB0 := Lib.hid (boxd (o := .cells (recArr r) 31) (Below.refl w.heap.size w))
  obtain ⟨v, kind, saga, step, try_, at_, last, code, count, pivot, name, ⟨da, dn, dc⟩⟩ := r
  dsimp only [recArr, Sl.v] at K0 HB0
  dsimp only [RecV.val, Sl.v]
  rcases h with rfl | rfl | rfl | rfl | rfl | rfl | rfl | rfl | rfl
  all_goals clear h1 h2
  all_goals
    as_aux_lemma =>
    go_enter Tryz.func61, Tryz.ntmps61
    go_wp2_with (first
      | (refine wpList_load_blk rfl _ _ rfl _ rfl _ _ K0 rowRec ?_)
      | (go_at_call 34; refine (refNumber_any ⟨v, kind, saga, step, try_, at_, last, code, count, pivot, name, ⟨da, dn, dc⟩⟩ _ (by decide) (by decide) _).mono ?_; rintro e w2 ⟨rfl, hb⟩; have HB := Lib.hid (then_ HB0.out hb); clear hb; try simp only [numV]))
    all_goals go_ret
    all_goals exact ⟨rfl, by first | exact HB.out | exact HB0.out⟩
set_option maxRecDepth 1000000 in
set_option maxHeartbeats 2000000 in
theorem refBounds_any (r : RecV) (d : List Int) (tag : Nat) (h1 : 3 ≤ tag) (h2 : tag ≤ 11) (w : World) (hn : r.name.size ≤ 1099511627776) (ht : LR w) (hd : BytesAt w r.data d) (hdl : d.length ≤ 1099511627776) :
    Calls Tryz.prog 62 #[r.val, .int .i64 tag] w fun e w' => e = .returned (.int .i64 (boundsN r d tag)) ∧ Below w.heap.size w w' := by
  have hlen := hd.len
  have hcv := fun (o : Obj) => bytes_string (P := Tryz.prog) (dst := 9) (hd.below (boxd (o := o) (Below.refl w.heap.size w))) Tryz.underlying26 Tryz.underlying5 Tryz.underlying9
  have cL := Lib.hid (fun (o : Obj) => refLabel_any r.name hn (w.alloc o) (PairsAt.below ht (boxd (Below.refl _ _))))
  have hz : (strOfNums d).size ≤ 1099511627776 := by rw [strOfNums_size]; omega
  have cM := Lib.hid (fun (o : Obj) => refLabel_any (strOfNums d) hz (w.alloc o) (PairsAt.below ht (boxd (Below.refl _ _))))
  obtain ⟨v, kind, saga, step, try_, at_, last, code, count, pivot, name, ⟨da, dn, dc⟩⟩ := r
  dsimp only [Sl.v] at hcv
  simp only at hlen hn
  clear hd ht hz
  subst hlen
  dsimp only [RecV.val, Sl.v]
  have h : tag = 3 ∨ tag = 4 ∨ tag = 5 ∨ tag = 6 ∨ tag = 7 ∨ tag = 8 ∨ tag = 9 ∨ tag = 10 ∨ tag = 11 := by omega
  rcases h with rfl | rfl | rfl | rfl | rfl | rfl | rfl | rfl | rfl
  all_goals clear h1 h2
  all_goals
    as_aux_lemma =>
    go_enter Tryz.func62, Tryz.ntmps62
    go_wp2_with (first
      | (go_at_call 87; (with_reducible refine (refWithin_any _ _ _ _).mono ?_); rintro e w2 ⟨rfl, rfl⟩)
      | (go_at_call 88; (with_reducible refine (cL.out _).mono ?_); rintro e w2 ⟨rfl, hB⟩)
      | (go_at_call 88; (with_reducible refine (cM.out _).mono ?_); rintro e w2 ⟨rfl, hB⟩))
    all_goals go_ret
    all_goals refine ⟨ret_int ?_, by first | exact then_ (boxd (Below.refl _ _)) hB | exact boxd (Below.refl _ _)⟩
    all_goals (simp_all [boundsN] <;> omega)

/-- The rows of tags that annalsref3 keeps, as texts. -/
def rowStr (i : Nat) : ByteArray := ([⟨#[97, 98, 99, 107]⟩, ⟨#[97, 98, 101, 104, 106, 107]⟩, ⟨#[97, 98, 101, 104, 105, 106, 107]⟩, ⟨#[97, 98, 99]⟩, ⟨#[97, 98, 99, 100, 101]⟩, ⟨#[97, 98, 99, 100, 101]⟩, ⟨#[97, 98, 99, 107]⟩, ⟨#[97, 98, 99, 101, 107]⟩, ⟨#[97, 98, 99, 101, 107]⟩, ⟨#[97, 98, 99, 107]⟩, ⟨#[97, 98, 99, 101, 102, 107]⟩, ⟨#[97, 98, 99, 101, 102, 103, 107]⟩, ⟨#[97, 98, 99]⟩, ⟨#[97, 98, 99, 100, 101]⟩, ⟨#[97, 98, 99, 100, 101]⟩, ⟨#[97, 98, 99, 107]⟩, ⟨#[97, 98, 99, 101, 107]⟩, ⟨#[97, 98, 99, 101, 107]⟩, ⟨#[97, 98]⟩, ⟨#[97, 98, 101]⟩, ⟨#[97, 98, 101, 103]⟩] : List ByteArray).getD i ⟨#[]⟩
def RowsAt (w : World) : Prop := ∀ i, i < 21 → w.cell? ⟨3, i, none⟩ = some (.string (rowStr i))
theorem RowsAt.below {w w' : World} (h : RowsAt w) (hb : Below w.heap.size w w') : RowsAt w' := fun i hi => (hb.cell (World.block_lt_of_cell? w _ (h i hi))).trans (h i hi)
def fieldsS (s : ByteArray) : List Int := s.data.toList.map (fun c => (c.toNat : Int) - 97 + 1)
structure RowStr (s : ByteArray) : Prop where
  size : s.size ≤ 11
  lo : ∀ c ∈ s.data.toList, 97 ≤ c.toNat
theorem rowStr_ok (i : Nat) (hi : i < 21) : RowStr (rowStr i) := by
  have h1 : ∀ i, i < 21 → (rowStr i).size ≤ 11 ∧ (rowStr i).data.toList.all (fun c => decide (97 ≤ c.toNat)) = true := by decide
  obtain ⟨a, b⟩ := h1 i hi
  exact ⟨a, fun c hc => by simpa using List.all_eq_true.1 b c hc⟩
theorem infoInt : (Tryz.prog.info? 3).map (fun i => (i.zero, i.size, i.bytes)) = some (some (.int .i64 0), 1, 8) := by kernel_rfl

set_option maxRecDepth 1000000 in
set_option maxHeartbeats 1000000 in
theorem refFields_any (V K : Nat) (hV : V < 3) (hK : K < 7) (w : World) (ht : RowsAt w) :
    Calls Tryz.prog 86 #[.int .i64 ((V : Int) + 1), .int .i64 ((K : Int) + 1)] w fun e w' => ∃ v, e = .returned v ∧ OwnInts w' w.heap.size v (fieldsS (rowStr (K * 3 + V))) ∧ Below w.heap.size w w' := by
  have hcell := ht (K * 3 + V) (by omega)
  have hok := rowStr_ok (K * 3 + V) (by omega)
  obtain ⟨s, hs⟩ : ∃ q, rowStr (K * 3 + V) = q := ⟨_, rfl⟩
  rw [hs] at hcell hok
  rw [hs]
  clear hs ht
  have hsz := hok.size
  have HOK := Lib.hid hok
  clear hok
  go_enter Tryz.func86, Tryz.ntmps86
  go_wp2
  go_loopw [6, 7] (fun o i wr => ∃ k : Nat, k ≤ s.size ∧ i = .int .i64 k ∧ Hid (OwnInts wr w.heap.size o ((fieldsS s).take k)) ∧ Hid (Below w.heap.size w wr)) (fun _ i _ => s.size - (intOf i).toNat)
  case atStart => exact ⟨0, by omega, rfl, Lib.hid (OwnInts.nil _ _), Lib.hid (Below.refl _ _)⟩
  case round =>
    obtain ⟨k, hk, rfl, HO, HB⟩ := hrel
    by_cases hlt : k < s.size
    · have hc := HOK.out.lo (s[k]) (Array.mem_toList_iff.2 (Array.getElem_mem (xs := s.data) (i := k) hlt))
      have hc2 := (s[k]).toNat_lt
      have hlk : ((fieldsS s).take k).length = k := by simp [fieldsS]; omega
      have hsn : (fieldsS s).take (k + 1) = (fieldsS s).take k ++ [((s[k]).toNat : Int) - 97 + 1] := by
        rw [List.take_succ_eq_append_getElem (by simpa [fieldsS] using hlt)]
        simp [fieldsS]
        rfl
      have HSN := Lib.hid hsn
      have HLK := Lib.hid hlk
      have hB1 : w.heap.size ≤ wr.heap.size := HB.out.size
      clear hsn hlk
      have h1 : (97 : Int) ≤ ((s[k]).toNat : Int) := by omega
      have h2 : ((s[k]).toNat : Int) ≤ 255 := by omega
      clear hc hc2
      have ho := HO.out
      unfold OwnInts at ho
      rw [HLK.out] at ho
      have O1 := Lib.hid (fun (o : Obj) => own_through ho (boxd (o := o) (Below.refl wr.heap.size wr)))
      clear ho HO
      go_wp2_with (at_builtin; refine wpList_append_row _ rfl (.tmp 35) (.tmp 42) 80 rfl w.heap.size 3 (.int .i64 0) 8 Tryz.underlying80 infoInt rfl _ _ _ rfl (O1.out _) ⟨some ⟨wr.heap.size, 0, none⟩, 1, 1⟩ [.int .i64 (((s[k]).toNat : Int) - 97 + 1)] rfl (RowAt.of_lit1 wr _ _) (by simp [Value.oneCell']) ?c1 ?c2 ?c3 ?_)
      case c1 => simp only [maxLen]; omega
      case c2 => omega
      case c3 => simp; omega
      intro v' w1 hown hgr
      have HO2 : Hid (OwnInts w1 w.heap.size v' ((fieldsS s).take (k + 1))) := Lib.hid (by
        rw [HSN.out]
        unfold OwnInts
        rw [List.length_append, HLK.out, List.map_append, List.map_take]
        exact hown)
      have HB2 : Hid (Below w.heap.size w w1) := Lib.hid ((boxd HB.out).grown hgr (by simp; omega) (fun q hq => ((O1.out (.cells #[] 0)).lt q hq).1))
      clear hown hgr O1 HSN HLK
      go_wp2
      all_goals go_roundw
      case rel => exact ⟨k + 1, by omega, by go_num, HO2, HB2⟩
      case measure => simp [intOf]; omega
    · have hk' : k = s.size := by omega
      subst hk'
      have HO3 : Hid (OwnInts wr w.heap.size u6 (fieldsS s)) := Lib.hid (by
        have := HO.out
        rw [List.take_of_length_le (by simp [fieldsS])] at this
        exact this)
      go_wp2
      all_goals go_ret
      all_goals exact ⟨_, rfl, HO3.out, HB.out⟩
theorem rows_may : ∀ V, V < 3 → ∀ K, K < 7 → ∀ t, t < 9 → (fieldsS (rowStr (K * 3 + V))).any (· == ((t + 3 : Nat) : Int)) = standsB (mayL.getD (V * 7 + K) 0) (t + 3) := by decide +kernel

set_option maxRecDepth 1000000 in
set_option maxHeartbeats 1000000 in
theorem refStands_any (V K tag : Nat) (hV : V < 3) (hK : K < 7) (h1 : 3 ≤ tag) (h2 : tag ≤ 11) (w : World) (ht : RowsAt w) :
    Calls Tryz.prog 60 #[.int .i64 ((V : Int) + 1), .int .i64 ((K : Int) + 1), .int .i64 tag] w fun e w' => e = .returned (.bool (standsB (mayL.getD (V * 7 + K) 0) tag)) ∧ Below w.heap.size w w' := by
  have hq := rows_may V hV K hK (tag - 3) (by omega)
  rw [show tag - 3 + 3 = tag by omega] at hq
  have cF := Lib.hid (refFields_any V K hV hK w ht)
  have hlen : (fieldsS (rowStr (K * 3 + V))).length ≤ 11 := by
    have := (rowStr_ok (K * 3 + V) (by omega)).size
    simpa [fieldsS] using this
  obtain ⟨l, hl⟩ : ∃ q, fieldsS (rowStr (K * 3 + V)) = q := ⟨_, rfl⟩
  rw [hl] at cF hq hlen
  obtain ⟨B, hB⟩ : ∃ q, standsB (mayL.getD (V * 7 + K) 0) tag = q := ⟨_, rfl⟩
  rw [hB] at hq
  rw [hB]
  have HQ := Lib.hid hq
  clear hq hl hB ht
  go_enter Tryz.func60, Tryz.ntmps60
  go_wp2_with fail
  refine cF.out.mono ?_
  rintro e w2 ⟨v, rfl, ho, hb⟩
  obtain ⟨⟨a, n, c⟩, rfl, ha⟩ := ho.at (by omega)
  have hn := ha.len
  simp only at hn
  subst hn
  have H := Lib.hid (fun j hj => ha.get (j := j) hj)
  have HB := Lib.hid hb
  clear ho ha hb cF
  dsimp only [Sl.v]
  go_wp2
  go_loop [8] (fun i => ∃ j : Nat, j ≤ l.length ∧ i = .int .i64 j ∧ Hid ((l.take j).any (· == (tag : Int)) = false)) (fun i => l.length - (intOf i).toNat)
  case atStart => exact ⟨0, by omega, rfl, Lib.hid (by simp)⟩
  case round =>
    obtain ⟨j, hj, rfl, HN⟩ := hrel
    by_cases hlt : j < l.length
    · obtain ⟨b, o, hA, hc⟩ := H.out j hlt
      try simp only at hA
      subst hA
      have ha := Lib.hid (any_take l (· == (tag : Int)) 0 j hlt)
      have hb := Lib.hid (any_at l (· == (tag : Int)) 0 j hlt)
      have hgd : l.getD j 0 = l[j] := by simp [List.getD, hlt]
      rw [hgd] at ha hb
      obtain ⟨x, hx⟩ : ∃ x, l[j] = x := ⟨_, rfl⟩
      rw [hx] at hc ha hb
      clear hx hgd
      by_cases he : x = (tag : Int)
      · have hr := Lib.hid (hb.out (by simp [he]))
        subst he
        clear ha hb
        go_wp2
        all_goals go_ret
        all_goals exact ⟨ret_bool (by rw [← HQ.out, hr.out]), HB.out⟩
      · have hr : Hid ((l.take (j + 1)).any (· == (tag : Int)) = false) := Lib.hid (by rw [ha.out, HN.out]; simp [he])
        have he' : (x == (tag : Int)) = false := by rw [beq_eq_false_iff_ne]; exact he
        clear ha hb HN
        go_wp2
        all_goals go_round
        case rel => exact ⟨j + 1, by omega, by go_num, hr⟩
        case measure => simp [intOf]; omega
    · obtain rfl : j = l.length := by omega
      have hr : Hid (l.any (· == (tag : Int)) = false) := Lib.hid (by have := HN.out; rwa [List.take_length] at this)
      go_wp2
      all_goals go_ret
      all_goals exact ⟨ret_bool (by rw [← HQ.out, hr.out]), HB.out⟩
end Go.Proofs.YteaiadpigpehaaaGreatDoor
