/-
  text.Unquote walked: it answers what the plain reading says. Conditions: the tables of unicode/utf8 and of math/bits as laid.
-/
import Derived.Test.YtepmfjhhmnmmeaaDoorUnqLaw
import Derived.Test.YtepmfjhhmnmmeaaDoorQuote
import Derived.OwnWalk
namespace Go.Proofs.YtepmfjhhmnmmeaaDoor
open Go.RowKit

def unqV (x : ByteArray × Int × Int) : Value := .tuple #[.string x.1, .int .i64 x.2.1, .int .i64 x.2.2]
theorem unquote_out (s : ByteArray) (a : Int) (h : a < 0 ∨ (s.size : Int) < a) (w : World) :
    Calls Tryd.prog 22 #[.string s, .int .i64 a] w fun e w' => e = .returned (unqV (unquoteR s a)) ∧ Below w.heap.size w w' := by
  have HR : Hid (unqV (unquoteR s a) = .tuple #[.string ⟨#[]⟩, .int .i64 0, .int .i64 1]) := Lib.hid (by
    unfold unquoteR
    rw [if_pos h]
    rfl)
  by_cases h0 : a < 0
  · clear h
    go_enter Tryd.func22, Tryd.ntmps22
    go_wp2
    all_goals go_ret3
    all_goals exact ⟨by rw [HR.out]; rfl, Below.refl _ _⟩
  · have h1 : (s.size : Int) < a := by omega
    clear h
    go_enter Tryd.func22, Tryd.ntmps22
    go_wp2
    all_goals go_ret3
    all_goals exact ⟨by rw [HR.out]; rfl, Below.refl _ _⟩
theorem unquote_no (s : ByteArray) (p : Nat) (hp : p ≤ s.size) (h : p = s.size ∨ s.get! p ≠ 34) (w : World) :
    Calls Tryd.prog 22 #[.string s, .int .i64 p] w fun e w' => e = .returned (unqV (unquoteR s p)) ∧ Below w.heap.size w w' := by
  have HR : Hid (unqV (unquoteR s p) = .tuple #[.string ⟨#[]⟩, .int .i64 0, .int .i64 24]) := Lib.hid (by
    unfold unquoteR
    rw [if_neg (by omega), if_pos (by rcases h with h | h; left; omega; right; simpa using h)]
    rfl)
  have h0 : ¬ (p : Int) < 0 := by omega
  have h1 : ¬ (s.size : Int) < (p : Int) := by omega
  by_cases he : p = s.size
  · subst he
    clear h
    go_enter Tryd.func22, Tryd.ntmps22
    go_wp2
    all_goals go_ret3
    all_goals exact ⟨by rw [HR.out]; rfl, Below.refl _ _⟩
  · have hlt : p < s.size := by omega
    have hg := get_at' (s := s) (p := p) hlt
    have hn : s.get! p ≠ 34 := by rcases h with h | h; exact absurd h he; exact h
    obtain ⟨c, hc⟩ : ∃ c, s.get! p = c := ⟨_, rfl⟩
    rw [hc] at hg hn
    have e34 := ne_int (k := 34) hn
    have e1 : (((p : Int) == (s.size : Int))) = false := by rw [beq_eq_false_iff_ne]; omega
    have z1 : (0 : Int) ≤ (p : Int) := by omega
    have z2 : (p : Int) < (s.size : Int) := by omega
    clear h he hn hc
    go_enter Tryd.func22, Tryd.ntmps22
    go_wp2
    all_goals go_ret3
    all_goals exact ⟨by rw [HR.out]; rfl, Below.refl _ _⟩
/-- Where the reading stands. -/
def UnqAt (s : ByteArray) (a p : Nat) (acc : List UInt8) : Prop := unqFrom s s.size (a + 1) [] = unqFrom s s.size p acc ∧ acc.length ≤ 4 * p
theorem unq_head {s : ByteArray} {a : Nat} (ha : a < s.size) (hq : s.get! a = 34) : unquoteR s (a : Int) = (match unqFrom s s.size (a + 1) [] with
    | .inl e => (⟨#[]⟩, 0, e)
    | .inr (t, i) => if quoteL ⟨t.toArray⟩ = partL s a (i + 1 - a) then (⟨t.toArray⟩, (i : Int) + 1, 0) else (⟨#[]⟩, 0, 28)) := by
  unfold unquoteR
  rw [if_neg (by omega), if_neg (by rintro (h | h); omega; exact h (by simpa using hq))]
  rfl
theorem unq_ans {s : ByteArray} {a p : Nat} {acc : List UInt8} {e : Int} (ha : a < s.size) (hq : s.get! a = 34) (h : UnqAt s a p acc) (he : unqFrom s s.size p acc = .inl e) : unqV (unquoteR s a) = .tuple #[.string ⟨#[]⟩, .int .i64 0, .int .i64 e] := by
  rw [unq_head ha hq, h.1, he]
  rfl
theorem unq_good {s : ByteArray} {a p i : Nat} {acc t : List UInt8} (ha : a < s.size) (hq : s.get! a = 34) (h : UnqAt s a p acc) (he : unqFrom s s.size p acc = .inr (t, i)) :
    unqV (unquoteR s a) = if quoteL ⟨t.toArray⟩ = partL s a (i + 1 - a) then .tuple #[.string ⟨t.toArray⟩, .int .i64 ((i : Int) + 1), .int .i64 0] else .tuple #[.string ⟨#[]⟩, .int .i64 0, .int .i64 28] := by
  rw [unq_head ha hq, h.1, he]
  simp only
  split <;> rfl
theorem cell_str (t : List UInt8) : Lib.strCells ⟨t.toArray⟩ = Lib.byteCells t := by unfold Lib.strCells; rfl
theorem list_eq (a b : ByteArray) : (a.toList == b.toList) = decide (a.data.toList = b.data.toList) := by
  rw [ByteArray.toList_eq, ByteArray.toList_eq, Bool.eq_iff_iff]
  simp
theorem bld_through {B b : Nat} {bs : List Value} {w w' : World} (h : Bld B b bs w) (hb : Below w.heap.size w w') : Bld B b bs w' := by
  rcases h with h | h
  · obtain ⟨hB, v, hk, hown, hne⟩ := h
    exact Or.inl ⟨hB, v, (hb.block b (lt_some hk)).trans hk, own_through hown hb, hne⟩
  · exact Or.inr (BldUsed.through h hb)
theorem unqAt_step {s : ByteArray} {a p q : Nat} {acc x : List UInt8} (h : UnqAt s a p acc) (e : unqFrom s s.size p acc = unqFrom s s.size q (acc ++ x)) (hx : x.length ≤ 4) (hq : p < q) : UnqAt s a q (acc ++ x) := by
  refine ⟨h.1.trans e, ?_⟩
  have := h.2
  rw [List.length_append]
  omega
set_option maxHeartbeats 8000000 in
set_option maxRecDepth 100000 in
theorem unquote_in (s : ByteArray) (a : Nat) (ha : a < s.size) (hq : s.get! a = 34) (hs : s.size ≤ 274877906944) (w : World) (hU : U8 w) (hT : TZ w) :
    Calls Tryd.prog 22 #[.string s, .int .i64 a] w fun e w' => e = .returned (unqV (unquoteR s a)) ∧ Below w.heap.size w w' := by
  have HU := Lib.hid hU
  have HT := Lib.hid hT
  have HQ := Lib.hid hq
  have hg := get_at' (s := s) (p := a) ha
  rw [hq] at hg
  have h0 : ¬ (a : Int) < 0 := by omega
  have h1 : ¬ (s.size : Int) < (a : Int) := by omega
  have e1 : (((a : Int) == (s.size : Int))) = false := by rw [beq_eq_false_iff_ne]; omega
  have z1 : (0 : Int) ≤ (a : Int) := by omega
  have z2 : (a : Int) < (s.size : Int) := by omega
  have hfresh := Lib.fresh_isBuilder 83 5 w
  have HF := Lib.hid hfresh
  clear hfresh hU hT hq
  go_enter Tryd.func22, Tryd.ntmps22
  go_wp2
  go_loopw [8, 9, 10, 11, 12] (fun i _ _ _ _ wr => ∃ (p : Nat) (acc : List UInt8), i = .int .i64 p ∧ a + 1 ≤ p ∧ p ≤ s.size ∧ Bld w.heap.size w.heap.size (Lib.byteCells acc) wr ∧ Below w.heap.size w wr ∧ Hid (UnqAt s a p acc)) (fun i _ _ _ _ _ => s.size - (intOf i).toNat)
  case atStart => exact ⟨a + 1, [], by go_num, by omega, by omega, HF.out, (Below.refl _ w).alloc (Nat.le_refl _) _, Lib.hid ⟨rfl, by simp⟩⟩
  case round =>
    obtain ⟨p, acc, rfl, hp1, hp, hB, hb, hA⟩ := hrel
    clear HF hg e1
    have HB := Lib.hid hB
    have Hb := Lib.hid hb
    clear hB hb
    by_cases hlt : p < s.size
    · have hpg := get_at' (s := s) (p := p) hlt
      have e1 : (((p : Int) == (s.size : Int))) = false := by rw [beq_eq_false_iff_ne]; omega
      have y1 : (0 : Int) ≤ (p : Int) := by omega
      have y2 : (p : Int) < (s.size : Int) := by omega
      have hstep := unqFrom_body (acc := acc) hlt
      obtain ⟨c, hc⟩ : ∃ c, s.get! p = c := ⟨_, rfl⟩
      rw [hc] at hpg hstep
      by_cases c34 : c = 34
      · subst c34
        have hH := unq_good ha HQ.out hA.out (hstep.trans (if_pos rfl))
        have hl4 := hA.out.2
        have hstr := Lib.hid (Tryd.Builder_String_any w.heap.size w.heap.size acc wr HB.out Hb.out.size)
        have hqt := Lib.hid (fun w2 h1 => quote_any ⟨acc.toArray⟩ (by show acc.length ≤ _; omega) w2 (u8_below HU.out h1) (HT.out.below h1))
        obtain ⟨T, hT⟩ : ∃ T : ByteArray, ⟨acc.toArray⟩ = T := ⟨_, rfl⟩
        rw [hT] at hH hqt hstr
        obtain ⟨Q, hQ⟩ : ∃ Q : ByteArray, ⟨(quoteL T).toArray⟩ = Q := ⟨_, rfl⟩
        rw [hQ] at hqt
        have hcmp : (Q.toList == (s.extract a (p + 1)).toList) = decide (quoteL T = partL s a (p + 1 - a)) := by
          rw [list_eq, part_extract, ← hQ]
        obtain ⟨d, hd⟩ : ∃ d : Bool, decide (quoteL T = partL s a (p + 1 - a)) = d := ⟨_, rfl⟩
        rw [hd] at hcmp
        have x1 : (a : Int) ≤ (p : Int) + 1 := by omega
        have x2 : (p : Int) + 1 ≤ (s.size : Int) := by omega
        have x3 : ((p : Int) + 1).toNat = p + 1 := by omega
        have x4 : IntKind.i64.wrap ((p : Int) + 1) = (p : Int) + 1 := by simp [IntKind.wrap, IntKind.bits, IntKind.signed]; omega
        cases d with
        | true =>
          have HR := Lib.hid (hH.trans (if_pos (by simpa using hd)))
          clear hH hd hA hstep hc HQ hT hQ hl4
          go_wp2_with (first
            | (go_at_call 47; (with_reducible refine hstr.out.mono ?_); rintro e w3 ⟨rfl, hb3⟩; have Hb3 := Lib.hid (Hb.out.trans hb3); clear hb3))
          go_region_with (go_at_call 24; (with_reducible refine (hqt.out _ (by first | exact Hb3.out | exact Hb3.out.drew)).mono ?_); rintro e w4 ⟨rfl, hb4⟩; have Hb4 := Lib.hid (then_ (by first | exact Hb3.out | exact Hb3.out.drew) hb4); clear hb4)
          all_goals go_wp2
          all_goals go_ret3
          all_goals exact ⟨by rw [HR.out]; rfl, by first | exact Hb4.out | exact Hb4.out.drew⟩
        | false =>
          have HR := Lib.hid (hH.trans (if_neg (by simpa using hd)))
          clear hH hd hA hstep hc HQ hT hQ hl4
          go_wp2_with (first
            | (go_at_call 47; (with_reducible refine hstr.out.mono ?_); rintro e w3 ⟨rfl, hb3⟩; have Hb3 := Lib.hid (Hb.out.trans hb3); clear hb3))
          go_region_with (go_at_call 24; (with_reducible refine (hqt.out _ (by first | exact Hb3.out | exact Hb3.out.drew)).mono ?_); rintro e w4 ⟨rfl, hb4⟩; have Hb4 := Lib.hid (then_ (by first | exact Hb3.out | exact Hb3.out.drew) hb4); clear hb4)
          all_goals go_wp2
          all_goals go_ret3
          all_goals exact ⟨by rw [HR.out]; rfl, by first | exact Hb4.out | exact Hb4.out.drew⟩
      rw [if_neg c34] at hstep
      by_cases c92 : c = 92
      · subst c92
        rw [if_pos rfl] at hstep
        have hub := fun w2 => unescaped_any (s.extract (p + 1) s.size) (by rw [ByteArray.size_extract]; omega) w2
        have hle := unescL_le s (p + 1) (by omega)
        have hlen := unescL_len s (p + 1)
        rw [unescL_tail s (p + 1) (by omega)] at hub
        unfold escV at hub
        obtain ⟨⟨x, n⟩, hxn⟩ : ∃ y, unescL s (p + 1) = y := ⟨_, rfl⟩
        rw [hxn] at hub hstep hle hlen
        simp only at hub hstep hle hlen
        have x2 : (p : Int) + 1 ≤ (s.size : Int) := by omega
        have x3 : ((p : Int) + 1).toNat = p + 1 := by omega
        have x4 : IntKind.i64.wrap ((p : Int) + 1) = (p : Int) + 1 := by simp [IntKind.wrap, IntKind.bits, IntKind.signed]; omega
        have x5 : (0 : Int) ≤ (p : Int) + 1 := by omega
        have hub := Lib.hid hub
        by_cases hn : n = 0
        · subst hn
          have HR := Lib.hid (unq_ans ha HQ.out hA.out (hstep.trans (if_pos rfl)))
          clear hA hstep hxn HQ hc
          go_wp2_with (first
            | (go_at_call 43; (with_reducible refine (hub.out _).mono ?_); rintro e w3 ⟨rfl, hb3⟩; have Hb3 := Lib.hid (then_ Hb.out hb3); clear hb3))
          all_goals go_ret3
          all_goals exact ⟨by rw [HR.out]; rfl, Hb3.out⟩
        · have hst := Lib.hid (unqAt_step hA.out (hstep.trans (if_neg hn)) hlen (by omega))
          have hn0 : ((n : Int) == 0) = false := by rw [beq_eq_false_iff_ne]; omega
          have hl4 := hA.out.2
          have hws := Lib.hid (fun w2 h1 h2 => writeString_any w.heap.size w.heap.size (Lib.byteCells acc) ⟨x.toArray⟩ w2 h1 (by rw [bytes_len]; show acc.length + x.length ≤ _; omega) h2)
          have y5 : IntKind.i64.wrap (1 + (n : Int)) = ((1 + n : Nat) : Int) := by simp [IntKind.wrap, IntKind.bits, IntKind.signed]; omega
          have y6 : IntKind.i64.wrap ((p : Int) + ((1 + n : Nat) : Int)) = ((p + 1 + n : Nat) : Int) := by simp [IntKind.wrap, IntKind.bits, IntKind.signed]; omega
          have hmes : s.size - (p + 1 + n) < s.size - p := by omega
          clear hA hstep hxn hn hl4 hlen
          go_wp2_with (first
            | (go_at_call 43; (with_reducible refine (hub.out _).mono ?_); rintro e w3 ⟨rfl, hb3⟩; have Hb3 := Lib.hid (then_ Hb.out hb3); have HB3 := Lib.hid (bld_through HB.out hb3); clear hb3)
            | (go_at_call 44; (with_reducible refine (hws.out _ HB3.out Hb3.out.size).mono ?_); rintro e w4 ⟨rfl, hB4, hb4, _⟩; have hB4 := Lib.hid hB4; have hb4 := Lib.hid (Hb3.out.trans hb4)))
          all_goals go_roundw
          case rel => exact ⟨p + 1 + n, acc ++ x, by first | rfl | go_num | (simp only [y5, y6]), by omega, by omega, by rw [bytes_app]; exact Or.inr hB4.out, hb4.out, hst⟩
          case measure => simp [intOf]; omega
      rw [if_neg c92] at hstep
      have e34 := ne_int (k := 34) c34
      have e92 := ne_int (k := 92) c92
      clear c34 c92
      obtain ⟨C, hC⟩ : ∃ C : Int, (c.toNat : Int) = C := ⟨_, rfl⟩
      rw [hC] at e34 e92
      have x3 : (p : Int) ≤ (s.size : Int) := by omega
      have hd := Tryd.utf8_DecodeRuneInString (s.extract p s.size) wr (u8_below HU.out Hb.out)
      rw [decodeGo_at s p hlt] at hd
      have hgt := next_gt hlt
      have hle := width_le' hlt
      have hlen := partL_len s p (Utf8.decode s p).2
      have hw4 := width4 s p
      have hsa : strayAt s p = ((Utf8.decode s p).1 == 65533 && (Utf8.decode s p).2 == 1) := rfl
      have hH := fun w => hidden_any ((Utf8.decode s p).1 : Int) w
      simp only [hiddenI_nat] at hH
      have hyy : Lib.strCells (s.extract p (nextPos s p)) = Lib.byteCells (partL s p (Utf8.decode s p).2) := by
        rw [← cell_str]
        congr 1
        apply ByteArray.ext
        apply Array.toList_inj.1
        rw [part_extract]
        unfold nextPos
        rw [Nat.add_sub_cancel_left]
      obtain ⟨q, hqq⟩ : ∃ q, nextPos s p = q := ⟨_, rfl⟩
      have hqn : p + (Utf8.decode s p).2 = q := hqq
      rw [hqq] at hgt hle hyy hstep
      obtain ⟨r, hr⟩ : ∃ r, (Utf8.decode s p).1 = r := ⟨_, rfl⟩
      obtain ⟨n, hn⟩ : ∃ n, (Utf8.decode s p).2 = n := ⟨_, rfl⟩
      rw [hr, hn] at hd hsa
      rw [hr] at hH hstep
      rw [hn] at hstep hlen hw4 hyy hqn
      obtain ⟨y, hy⟩ : ∃ y, partL s p n = y := ⟨_, rfl⟩
      rw [hy] at hstep hlen hyy
      obtain ⟨b, hb⟩ : ∃ b, strayAt s p = b := ⟨_, rfl⟩
      rw [hb] at hstep hsa
      obtain ⟨hh, hhh⟩ : ∃ b, hiddenB r = b := ⟨_, rfl⟩
      simp only [hhh] at hH hstep
      have hd := Lib.hid hd
      have hH := Lib.hid hH
      have hy := Lib.hid hyy
      clear hyy hr hn hqq hb
      obtain ⟨R, hR⟩ : ∃ R : Int, (r : Int) = R := ⟨_, rfl⟩
      have v0 : IntKind.i64.wrap ((p : Int) + (n : Int)) = (q : Int) := by simp [IntKind.wrap, IntKind.bits, IntKind.signed]; omega
      have v1 : (p : Int) + (n : Int) = (q : Int) := by omega
      have v2 : (p : Int) ≤ (q : Int) := by omega
      have v3 : (q : Int) ≤ (s.size : Int) := by omega
      have v4 : q ≤ s.size := hle
      rw [hR] at hd hH
      by_cases k0 : b = true ∨ r < 32 ∨ r = 127 ∨ hh = true
      · have HR := Lib.hid (unq_ans ha HQ.out hA.out (hstep.trans (if_pos k0)))
        clear hA hstep HQ hc
        by_cases k1 : r = 65533
        · have hh2 : hiddenB 65533 = false := by decide
          rw [k1, hh2] at hhh
          subst hhh
          have n1 : n = 1 := by
            rcases k0 with h | h | h | h
            · rw [h, k1] at hsa
              have := hsa.symm
              simpa using this
            · omega
            · omega
            · cases h
          have R1 : R = 65533 := by omega
          subst n1 R1
          clear hsa k0 hR k1 hqn
          go_wp2_with (first
            | (go_at_call 45; (with_reducible refine hd.out.mono ?_); rintro e w3 ⟨rfl, hb3⟩; have Hb3 := Lib.hid (then_ Hb.out hb3); have HB3 := Lib.hid (bld_through HB.out hb3); clear hb3)
            | (go_at_call 46; (with_reducible refine (hH.out _).mono ?_); rintro e w4 ⟨rfl, rfl⟩))
          all_goals go_ret3
          all_goals exact ⟨by rw [HR.out]; rfl, Hb3.out⟩
        have R0 : (R == 65533) = false := by rw [beq_eq_false_iff_ne]; omega
        have hb0 : b = false := by rw [hsa]; simp [k1]
        by_cases k2 : r < 32
        · have R2 : R < 32 := by omega
          clear hsa k0 hR k1 k2 hqn hb0
          go_wp2_with (first
            | (go_at_call 45; (with_reducible refine hd.out.mono ?_); rintro e w3 ⟨rfl, hb3⟩; have Hb3 := Lib.hid (then_ Hb.out hb3); have HB3 := Lib.hid (bld_through HB.out hb3); clear hb3)
            | (go_at_call 46; (with_reducible refine (hH.out _).mono ?_); rintro e w4 ⟨rfl, rfl⟩))
          all_goals go_ret3
          all_goals exact ⟨by rw [HR.out]; rfl, Hb3.out⟩
        have R2 : ¬ R < 32 := by omega
        by_cases k3 : r = 127
        · have R3 : R = 127 := by omega
          subst R3
          clear hsa k0 hR k1 k2 k3 hqn hb0 R2 R0
          go_wp2_with (first
            | (go_at_call 45; (with_reducible refine hd.out.mono ?_); rintro e w3 ⟨rfl, hb3⟩; have Hb3 := Lib.hid (then_ Hb.out hb3); have HB3 := Lib.hid (bld_through HB.out hb3); clear hb3)
            | (go_at_call 46; (with_reducible refine (hH.out _).mono ?_); rintro e w4 ⟨rfl, rfl⟩))
          all_goals go_ret3
          all_goals exact ⟨by rw [HR.out]; rfl, Hb3.out⟩
        have R3 : (R == 127) = false := by rw [beq_eq_false_iff_ne]; omega
        have hh1 : hh = true := by
          rcases k0 with h | h | h | h
          · rw [hb0] at h; cases h
          · exact absurd h k2
          · exact absurd h k3
          · exact h
        subst hh1
        clear hsa k0 hR k1 k2 k3 hqn hb0
        go_wp2_with (first
          | (go_at_call 45; (with_reducible refine hd.out.mono ?_); rintro e w3 ⟨rfl, hb3⟩; have Hb3 := Lib.hid (then_ Hb.out hb3); have HB3 := Lib.hid (bld_through HB.out hb3); clear hb3)
          | (go_at_call 46; (with_reducible refine (hH.out _).mono ?_); rintro e w4 ⟨rfl, rfl⟩))
        all_goals go_ret3
        all_goals exact ⟨by rw [HR.out]; rfl, Hb3.out⟩
      · have hst := Lib.hid (unqAt_step hA.out (hstep.trans (if_neg k0)) (by omega) hgt)
        have hl4 := hA.out.2
        have hws := Lib.hid (fun w2 h1 h2 => writeString_any w.heap.size w.heap.size (Lib.byteCells acc) (s.extract p q) w2 h1 (by rw [bytes_len, ByteArray.size_extract]; omega) h2)
        have hmes : s.size - q < s.size - p := by omega
        simp only [not_or] at k0
        obtain ⟨k1, k2, k3, k4⟩ := k0
        have hh1 : hh = false := by simpa using k4
        subst hh1
        have R2 : ¬ R < 32 := by omega
        have R3 : (R == 127) = false := by rw [beq_eq_false_iff_ne]; omega
        have hb0 : b = false := by simpa using k1
        rw [hb0] at hsa
        by_cases k5 : r = 65533
        · have N1 : ((n : Int) == 1) = false := by
            rw [beq_eq_false_iff_ne]
            intro e
            have e1 : n = 1 := by omega
            rw [k5, e1] at hsa
            exact absurd hsa (by decide)
          have R1 : R = 65533 := by omega
          subst R1
          clear hsa hR k1 k2 k3 k4 k5 hb0 hhh hA hstep HQ hc hl4 hlen R2 R3
          go_wp2_with (first
            | (go_at_call 45; (with_reducible refine hd.out.mono ?_); rintro e w3 ⟨rfl, hb3⟩; have Hb3 := Lib.hid (then_ Hb.out hb3); have HB3 := Lib.hid (bld_through HB.out hb3); clear hb3)
            | (go_at_call 46; (with_reducible refine (hH.out _).mono ?_); rintro e w4 ⟨rfl, rfl⟩)
            | (go_at_call 44; (with_reducible refine (hws.out _ HB3.out Hb3.out.size).mono ?_); rintro e w5 ⟨rfl, hB5, hb5, _⟩; have hB5 := Lib.hid hB5; have hb5 := Lib.hid (Hb3.out.trans hb5)))
          all_goals go_roundw
          case rel => exact ⟨q, acc ++ y, by first | rfl | go_num | (simp only [v1]), by omega, v4, by rw [bytes_app, ← hy.out]; exact Or.inr hB5.out, hb5.out, hst⟩
          case measure => simp [intOf]; omega
        · have R0 : (R == 65533) = false := by rw [beq_eq_false_iff_ne]; omega
          clear hsa hR k1 k2 k3 k4 k5 hb0 hhh hA hstep HQ hc hl4 hlen
          go_wp2_with (first
            | (go_at_call 45; (with_reducible refine hd.out.mono ?_); rintro e w3 ⟨rfl, hb3⟩; have Hb3 := Lib.hid (then_ Hb.out hb3); have HB3 := Lib.hid (bld_through HB.out hb3); clear hb3)
            | (go_at_call 46; (with_reducible refine (hH.out _).mono ?_); rintro e w4 ⟨rfl, rfl⟩)
            | (go_at_call 44; (with_reducible refine (hws.out _ HB3.out Hb3.out.size).mono ?_); rintro e w5 ⟨rfl, hB5, hb5, _⟩; have hB5 := Lib.hid hB5; have hb5 := Lib.hid (Hb3.out.trans hb5)))
          all_goals go_roundw
          case rel => exact ⟨q, acc ++ y, by first | rfl | go_num | (simp only [v1]), by omega, v4, by rw [bytes_app, ← hy.out]; exact Or.inr hB5.out, hb5.out, hst⟩
          case measure => simp [intOf]; omega
    · obtain rfl : p = s.size := by omega
      have HR := Lib.hid (unq_ans ha HQ.out hA.out (unqFrom_open hlt))
      clear hA HQ hlt
      go_wp2
      all_goals go_ret3
      all_goals exact ⟨by rw [HR.out]; rfl, Hb.out⟩
theorem unquote_any (s : ByteArray) (a : Int) (hs : s.size ≤ 274877906944) (w : World) (hU : U8 w) (hT : TZ w) :
    Calls Tryd.prog 22 #[.string s, .int .i64 a] w fun e w' => e = .returned (unqV (unquoteR s a)) ∧ Below w.heap.size w w' := by
  by_cases h : a < 0 ∨ (s.size : Int) < a
  · exact unquote_out s a h w
  · obtain ⟨p, rfl⟩ : ∃ p : Nat, a = (p : Int) := ⟨a.toNat, by omega⟩
    by_cases h2 : p = s.size ∨ s.get! p ≠ 34
    · exact unquote_no s p (by omega) h2 w
    · simp only [not_or] at h2
      exact unquote_in s p (by omega) (by simpa using h2.2) hs w hU hT
end Go.Proofs.YtepmfjhhmnmmeaaDoor
