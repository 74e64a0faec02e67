/-
  annalsref2.Quote walked: the reference writes a text as text.Quote does. Conditions: the reference's table of hidden runes as laid.
-/
import Derived.Test.YtepmfjhhmnmmeaaDoorRefShown
import Derived.Test.YtepmfjhhmnmmeaaDoorRefText
import Derived.Test.YtepmfjhhmnmmeaaDoorQuote
namespace Go.Proofs.YtepmfjhhmnmmeaaDoor
open Go.RowKit

/-- A row of bytes of one's own. -/
abbrev ByteRow (B : Nat) (l : List UInt8) (v : Value) (w : World) : Prop := w.ownsRow B 5 1 v l.length (Lib.byteCells l)
theorem byteRow_nil (B : Nat) (w : World) : ByteRow B [] (.slice none 0 0) w := World.ownsRow_nil _ _ _ _
theorem byteRow_push {B : Nat} {l : List UInt8} {c : UInt8} {v : Value} {w : World} (h : w.ownsRow B 5 1 v (l.length + 1) (Lib.byteCells l ++ [.int .u8 (c.toNat : Int)])) : ByteRow B (l ++ [c]) v w := by
  show w.ownsRow B 5 1 v (l ++ [c]).length (Lib.byteCells (l ++ [c]))
  rw [bytes_app, List.length_append]
  exact h
theorem byteRow_string {B : Nat} {l : List UInt8} {v : Value} {w : World} (h : ByteRow B l v w) : (convert 81 9 v).run Tryd.prog w = .ok (.string ⟨l.toArray⟩) w := by
  rcases h.2 with ⟨rfl, h0⟩ | ⟨g, cap, cur, rfl, h3, h4, h5, h6, h7, h8⟩
  · have hl : l = [] := List.eq_nil_of_length_eq_zero h0
    subst hl
    rw [run_convert_bytes_string w _ _ 5 _ _ _ Tryd.underlying81 Tryd.underlying5 Tryd.underlying9]
    rfl
  · exact run_convert_bytes_back w 81 9 5 ⟨g, 0, none⟩ cap l Tryd.underlying81 Tryd.underlying5 Tryd.underlying9 (fun j hj => by
      have e := h.cellAt j (by omega)
      have e2 : (⟨g, 0, none⟩ : Addr).add j = ⟨g, j, none⟩ := by
        simp [Addr.add]
        intro h
        omega
      rw [e2, e]
      simp [Lib.byteCells, hj])
theorem take_one {T : ByteArray} {q : Nat} (h : q < T.size) (out : List UInt8) : out ++ T.data.toList.take (q + 1) = (out ++ T.data.toList.take q) ++ [T.get! q] := by
  rw [take_get h, List.append_assoc]
set_option maxHeartbeats 4000000 in
set_option maxRecDepth 100000 in
theorem refQuote_any (s : ByteArray) (hs : s.size ≤ 1099511627776) (w : World) (hH : RefHid w) :
    Calls Tryd.prog 25 #[.string s] w fun e w' => e = .returned (.string ⟨(quoteL s).toArray⟩) ∧ Below w.heap.size w w' := by
  obtain ⟨i0, hi, hz0, hz1, hz2⟩ := info_parts byteInfo
  have HH := Lib.hid hH
  have hp := Lib.hid (fun w => pieces_read s hs w)
  clear hH
  go_enter Tryd.func25, Tryd.ntmps25
  go_wp2_with (first
    | (go_at_call 41; (with_reducible refine (hp.out _).mono ?_); rintro e w2 ⟨A, c, k, rfl, hend, hj, hat, hb⟩; have Hend := Lib.hid hend; have HJ := Lib.hid hj; have HAT := Lib.hid hat; have HB := Lib.hid hb; clear hend hj hat hb)
    | (at_builtin; refine wpList_append_own _ rfl _ _ 81 rfl w2.heap.size 5 i0 (.int .u8 0) 1 1 Tryd.underlying81 hi hz0 hz1 hz2 rfl (by decide) _ 0 [] rfl (World.ownsRow_nil _ _ _ _) ⟨w2.heap.size, 0, none⟩ 1 1 [.int .u8 34] rfl rfl ?c1 ?c2 ?c3 ?c4 ?c5 ?_))
  case c1 => intro j u hj; match j, hj with | 0, hj => simp at hj; subst hj; simp [Addr.add]
  case c2 => intro u hu; simp at hu; subst hu; rfl
  case c3 => unfold maxLen; omega
  case c4 => omega
  case c5 => simp
  intro v3 w3 hown3 hgrow3 _
  have hkl := count_le HJ.out
  have HB3 : Hid (Below w2.heap.size w2 w3) := Lib.hid (((Below.refl _ w2).alloc (Nat.le_refl _) _).grown hgrow3 (by simp) (fun b hb => by simp [Value.ownBlock] at hb))
  have HO3 : Hid (ByteRow w2.heap.size [34] v3 w3) := Lib.hid (byteRow_push (l := []) (c := 34) hown3)
  clear hown3 hgrow3
  go_wp2
  go_loopw [4, 5, 6, 7] (fun l i _ _ wr => ∃ (j : Nat) (out : List UInt8), j ≤ k ∧ i = .int .i64 j ∧ ByteRow w2.heap.size out l wr ∧ Below w2.heap.size w2 wr ∧ Hid (QuoteAt s (posAt s j) out)) (fun _ i _ _ _ => k - (intOf i).toNat)
  case atStart => exact ⟨0, [34], by omega, rfl, HO3.out, HB3.out, Lib.hid (QuoteAt.start s)⟩
  case round =>
    obtain ⟨j, out, hjk, rfl, ho, hb, HQ⟩ := hrel
    have hol := HQ.out.2
    have hpl := posAt_le s j
    by_cases hlt : j < k
    · obtain ⟨g, hAg, hcs⟩ := HAT.out (by omega)
      obtain ⟨hc0, hc1, hc2⟩ := hcs j hlt
      have hc0 := (hb.cell (World.block_lt_of_cell? _ _ hc0)).trans hc0
      have hc1 := (hb.cell (World.block_lt_of_cell? _ _ hc1)).trans hc1
      have hc2 := (hb.cell (World.block_lt_of_cell? _ _ hc2)).trans hc2
      have hjs := HJ.out j hlt
      have hsh := fun w h => shown_any s (posAt s j) hjs (by omega) w h
      have hst := HQ.out.step hjs
      have hps := posAt_succ hjs
      have hwl := writtenL_len s (posAt s j)
      obtain ⟨T, hT⟩ : ∃ T : ByteArray, (⟨(writtenL s (posAt s j)).toArray⟩ : ByteArray) = T := ⟨_, rfl⟩
      have hTl : T.data.toList = writtenL s (posAt s j) := by rw [← hT]
      have hTs : T.size = (writtenL s (posAt s j)).length := by rw [← hT]; rfl
      rw [← hTs] at hwl
      rw [← hTl, ← hps] at hst
      rw [hT] at hsh
      have Hst := Lib.hid hst
      have HO := Lib.hid ho
      have Hb := Lib.hid hb
      have HHr := Lib.hid (PairsAt.below (PairsAt.below HH.out HB.out) (show Below w2.heap.size w2 wr from hb))
      subst hAg
      obtain ⟨R, hR⟩ : ∃ R, pieceR s (posAt s j) = R := ⟨_, rfl⟩
      obtain ⟨N, hN⟩ : ∃ N, (Utf8.decode s (posAt s j)).2 = N := ⟨_, rfl⟩
      obtain ⟨p, hp'⟩ : ∃ p, posAt s j = p := ⟨_, rfl⟩
      rw [hR] at hc0 hsh
      rw [hN] at hc2 hsh
      rw [hp'] at hc1 hsh hol hpl
      have hsh := Lib.hid hsh
      clear hR hN hp' hTl hTs hT hst hps hjs ho hb hcs HQ
      go_wp2_with (go_at_call 53; (with_reducible refine (hsh.out _ (by first | exact HHr.out | exact PairsAt.below HHr.out (Below.refl _ _).drew)).mono ?_); rintro e w4 ⟨rfl, hb4⟩; have HB4 := Lib.hid (then_ Hb.out hb4); have HO4 := Lib.hid (own_through HO.out hb4); clear hb4)
      go_loopw [4, 7] (fun l m wi => ∃ q : Nat, q ≤ T.size ∧ m = .int .i64 q ∧ ByteRow w2.heap.size (out ++ T.data.toList.take q) l wi ∧ Below w2.heap.size w2 wi) (fun _ m _ => T.size - (intOf m).toNat)
      case atStart => exact ⟨0, by omega, rfl, by rw [List.take_zero, List.append_nil]; exact HO4.out, HB4.out⟩
      case round =>
        obtain ⟨q, hq, rfl, ho, hb⟩ := hrel
        clear HO HO4 Hb HB4 hc0 hc1 hc2 hsh HHr
        by_cases hqt : q < T.size
        · have hg := get_at' (s := T) (p := q) hqt
          have hone := take_one hqt out
          have hll : (out ++ T.data.toList.take q).length = out.length + q := by
            have : T.data.toList.length = T.size := rfl
            rw [List.length_append, List.length_take]
            omega
          obtain ⟨L, hL⟩ : ∃ L, out ++ T.data.toList.take q = L := ⟨_, rfl⟩
          rw [hL] at ho hone hll
          obtain ⟨c, hc⟩ : ∃ c, T.get! q = c := ⟨_, rfl⟩
          rw [hc] at hg hone
          have HO := Lib.hid ho
          have Hb := Lib.hid hb
          have hsz := hb.size
          have Hone := Lib.hid hone
          clear hone hL hc ho hb
          go_wp2_with (at_builtin; refine wpList_append_own _ rfl _ _ 81 rfl w2.heap.size 5 i0 (.int .u8 0) 1 1 Tryd.underlying81 hi hz0 hz1 hz2 rfl (by decide) _ L.length (Lib.byteCells L) rfl (HO.out.alloc _) ⟨wr.heap.size, 0, none⟩ 1 1 [.int .u8 (c.toNat : Int)] rfl rfl ?c1 ?c2 ?c3 ?c4 ?c5 ?_)
          case c1 => intro j u hj; match j, hj with | 0, hj => simp at hj; subst hj; simp [Addr.add]
          case c2 => intro u hu; simp at hu; subst hu; rfl
          case c3 => unfold maxLen; omega
          case c4 => omega
          case c5 => simp; omega
          intro v5 w5 hown5 hgrow5 _
          have HB5 : Hid (Below w2.heap.size w2 w5) := Lib.hid ((Hb.out.alloc hsz _).grown hgrow5 (by simp; omega) (fun b hb => (HO.out.lt b hb).1))
          have HO5 : Hid (ByteRow w2.heap.size (L ++ [c]) v5 w5) := Lib.hid (byteRow_push (by rw [hll]; exact hown5))
          clear hown5 hgrow5 HO Hb
          go_wp2
          all_goals go_roundw
          case rel => exact ⟨q + 1, by omega, by go_num, by rw [Hone.out]; exact HO5.out, HB5.out⟩
          case measure => simp [intOf]; omega
        · obtain rfl : q = T.size := by omega
          rw [List.take_of_length_le (Nat.le_refl T.size)] at ho
          have HO := Lib.hid ho
          have Hb := Lib.hid hb
          clear ho hb
          go_wp2
          all_goals go_roundw
          case rel => exact ⟨j + 1, out ++ T.data.toList, by omega, by go_num, HO.out, Hb.out, Hst⟩
          case measure => simp [intOf]; omega
    · obtain rfl : j = k := by omega
      have hdone := HQ.out.done (by rw [Hend.out]; omega)
      have HO := Lib.hid ho
      have Hb := Lib.hid hb
      have hsz := hb.size
      have Hdone := Lib.hid hdone
      clear hdone ho hb HQ
      go_wp2_with (at_builtin; refine wpList_append_own _ rfl _ _ 81 rfl w2.heap.size 5 i0 (.int .u8 0) 1 1 Tryd.underlying81 hi hz0 hz1 hz2 rfl (by decide) _ out.length (Lib.byteCells out) rfl (HO.out.alloc _) ⟨wr.heap.size, 0, none⟩ 1 1 [.int .u8 34] rfl rfl ?c1 ?c2 ?c3 ?c4 ?c5 ?_)
      case c1 => intro j u hj; match j, hj with | 0, hj => simp at hj; subst hj; simp [Addr.add]
      case c2 => intro u hu; simp at hu; subst hu; rfl
      case c3 => unfold maxLen; omega
      case c4 => omega
      case c5 => simp; omega
      intro v5 w5 hown5 hgrow5 _
      have HB5 : Hid (Below w2.heap.size w2 w5) := Lib.hid ((Hb.out.alloc hsz _).grown hgrow5 (by simp; omega) (fun b hb => (HO.out.lt b hb).1))
      have hcv := byteRow_string (byteRow_push (c := 34) hown5)
      rw [Hdone.out] at hcv
      clear hown5 hgrow5 HO Hb
      go_wp2
      all_goals go_ret
      all_goals exact ⟨rfl, then_ HB.out HB5.out⟩
end Go.Proofs.YtepmfjhhmnmmeaaDoor
