/-
  annalsref2.shown walked: how the reference writes a piece. Conditions: the reference's table of hidden runes as laid.
-/
import Derived.Test.YtepmfjhhmnmmeaaDoorRefHex
import Derived.Test.YtepmfjhhmnmmeaaDoorWritten
import Derived.Test.YtepmfjhhmnmmeaaDoorPieceWalk
namespace Go.Proofs.YtepmfjhhmnmmeaaDoor
open Go.RowKit

theorem hexL_one {r : Nat} (h : r < 16) : hexL r = [hexDig r] := if_pos h
theorem hexL_two {b : Nat} (h : 16 ≤ b) (h2 : b < 256) : hexL b = [hexDig (b / 16), hexDig (b % 16)] := by
  show (if b < 16 then [hexDig b] else (if b / 16 < 16 then [hexDig (b / 16)] else _) ++ [hexDig (b % 16)]) = _
  rw [if_neg (by omega), if_pos (by omega)]
  rfl
theorem part_extract' (t : ByteArray) (a e : Nat) : (t.extract a e).data.toList = partL t a (e - a) := by
  unfold partL
  rw [ByteArray.data_extract, Array.toList_extract]
theorem box3 {w w3 : World} {a b c : Value} {t : Nat} (hd : Drawn (w.alloc (.cells #[a, b, c] t)) w3) :
    w3.cell? ⟨w.heap.size, 0, none⟩ = some a ∧ w3.cell? ⟨w.heap.size, 1, none⟩ = some b ∧ w3.cell? ⟨w.heap.size, 2, none⟩ = some c ∧ Below w.heap.size w w3 := by
  have h0 : (w.alloc (.cells #[a, b, c] t)).cell? ⟨w.heap.size, 0, none⟩ = some a := by simp
  have h1 : (w.alloc (.cells #[a, b, c] t)).cell? ⟨w.heap.size, 1, none⟩ = some b := by simp
  have h2 : (w.alloc (.cells #[a, b, c] t)).cell? ⟨w.heap.size, 2, none⟩ = some c := by simp
  have hb : Below w.heap.size w (w.alloc (.cells #[a, b, c] t)) := (Below.refl _ _).alloc (Nat.le_refl _) _
  have hd2 := hd.below
  obtain ⟨n, rfl⟩ := hd.out
  exact ⟨h0, h1, h2, then_ hb hd2⟩
theorem stray_big {s : ByteArray} {p : Nat} (h : strayAt s p = true) : 128 ≤ (s.get! p).toNat := by
  rcases Nat.lt_or_ge (s.get! p).toNat 128 with k | k
  · have e := decode_ascii k
    unfold strayAt at h
    rw [e] at h
    simp at h
    omega
  · exact k
set_option maxHeartbeats 4000000 in
set_option maxRecDepth 100000 in
theorem shown_any (s : ByteArray) (p : Nat) (hp : p < s.size) (hs : s.size ≤ 4611686018427387904) (w : World) (hH : RefHid w) :
    Calls Tryd.prog 53 #[.string s, .agg #[.int .i64 (pieceR s p), .int .i64 p, .int .i64 (Utf8.decode s p).2]] w fun e w' => e = .returned (.string ⟨(writtenL s p).toArray⟩) ∧ Below w.heap.size w w' := by
  have HH := Lib.hid hH
  clear hH
  rw [written_eq]
  have hle := width_le' hp
  unfold nextPos at hle
  have hpe : pieceR s p = if strayAt s p = true then -1 else ((Utf8.decode s p).1 : Int) := rfl
  have hst1 : strayAt s p = true → (Utf8.decode s p).1 = 65533 := fun h => by
    unfold strayAt at h
    simp at h
    exact h.1
  have hvr := fun h => validR_at (s := s) (p := p) h
  obtain ⟨r, hr⟩ : ∃ r, (Utf8.decode s p).1 = r := ⟨_, rfl⟩
  obtain ⟨n, hn⟩ : ∃ n, (Utf8.decode s p).2 = n := ⟨_, rfl⟩
  rw [hr] at hpe hst1 hvr ⊢
  rw [hn] at hle ⊢
  have z0 : (0 : Int) ≤ (p : Int) := by omega
  have z1 : (p : Int) < (s.size : Int) := by omega
  by_cases hb : strayAt s p = true
  · rw [if_pos hb] at hpe
    have hr3 := hst1 hb
    have h128 := stray_big hb
    have hg := get_at' (s := s) (p := p) hp
    obtain ⟨c, hc⟩ : ∃ c, s.get! p = c := ⟨_, rfl⟩
    have HW : Hid (writtenR s p r n = [92, 120] ++ hexL c.toNat) := Lib.hid (by
      unfold writtenR
      rw [hr3]
      rw [if_neg (by omega), if_neg (by omega), if_neg (by omega), if_neg (by omega), if_neg (by omega), if_pos hb, hc, hexL_two (by rw [← hc]; omega) c.toNat_lt]
      rfl)
    rw [hc] at hg h128
    have hhx := fun w => refHex_any c.toNat (by have := c.toNat_lt; omega) w
    have hl := hexL_len c.toNat
    obtain ⟨X, hX⟩ : ∃ X, hexL c.toNat = X := ⟨_, rfl⟩
    rw [hX] at hhx HW hl
    obtain ⟨C, hC⟩ : ∃ C : Int, (c.toNat : Int) = C := ⟨_, rfl⟩
    rw [hC] at hhx
    have hhx := Lib.hid hhx
    have o1 : ¬ 9223372036854775807 < 2 + X.length := by omega
    have C0 : 0 ≤ C := by omega
    have C1 : C < 256 := by have := c.toNat_lt; omega
    rw [hpe]
    clear hpe hst1 hvr hr3 hb hc hX HH
    go_enter Tryd.func53, Tryd.ntmps53
    go_wp2_with (first
      | (go_at_call 71; (with_reducible refine (hhx.out _).mono ?_); rintro e w2 ⟨rfl, rfl⟩))
    all_goals go_ret
    all_goals exact ⟨by rw [HW.out]; exact esc_str _ (by apply ByteArray.ext; simp) rfl, (Below.refl _ _).alloc (Nat.le_refl _) _⟩
  · rw [if_neg hb] at hpe
    have hpr := hpe
    have hb0 : strayAt s p = false := by simpa using hb
    have hvr := hvr hb0
    clear hpe hst1
    by_cases c34 : r = 34
    · subst c34
      have HW : Hid (writtenR s p 34 n = [92, 34]) := Lib.hid rfl
      rw [show pieceR s p = ((34 : Nat) : Int) from hpr]
      clear hpr HH
      go_enter Tryd.func53, Tryd.ntmps53
      go_wp2
      all_goals go_ret
      all_goals exact ⟨by rw [HW.out]; exact esc_str _ rfl rfl, (Below.refl _ _).alloc (Nat.le_refl _) _⟩
    by_cases c92 : r = 92
    · subst c92
      have HW : Hid (writtenR s p 92 n = [92, 92]) := Lib.hid rfl
      rw [show pieceR s p = ((92 : Nat) : Int) from hpr]
      clear hpr HH
      go_enter Tryd.func53, Tryd.ntmps53
      go_wp2
      all_goals go_ret
      all_goals exact ⟨by rw [HW.out]; exact esc_str _ rfl rfl, (Below.refl _ _).alloc (Nat.le_refl _) _⟩
    by_cases c10 : r = 10
    · subst c10
      have HW : Hid (writtenR s p 10 n = [92, 110]) := Lib.hid rfl
      rw [show pieceR s p = ((10 : Nat) : Int) from hpr]
      clear hpr HH
      go_enter Tryd.func53, Tryd.ntmps53
      go_wp2
      all_goals go_ret
      all_goals exact ⟨by rw [HW.out]; exact esc_str _ rfl rfl, (Below.refl _ _).alloc (Nat.le_refl _) _⟩
    by_cases c9 : r = 9
    · subst c9
      have HW : Hid (writtenR s p 9 n = [92, 116]) := Lib.hid rfl
      rw [show pieceR s p = ((9 : Nat) : Int) from hpr]
      clear hpr HH
      go_enter Tryd.func53, Tryd.ntmps53
      go_wp2
      all_goals go_ret
      all_goals exact ⟨by rw [HW.out]; exact esc_str _ rfl rfl, (Below.refl _ _).alloc (Nat.le_refl _) _⟩
    by_cases c13 : r = 13
    · subst c13
      have HW : Hid (writtenR s p 13 n = [92, 114]) := Lib.hid rfl
      rw [show pieceR s p = ((13 : Nat) : Int) from hpr]
      clear hpr HH
      go_enter Tryd.func53, Tryd.ntmps53
      go_wp2
      all_goals go_ret
      all_goals exact ⟨by rw [HW.out]; exact esc_str _ rfl rfl, (Below.refl _ _).alloc (Nat.le_refl _) _⟩
    obtain ⟨R, hR⟩ : ∃ R : Int, (r : Int) = R := ⟨_, rfl⟩
    have e34 : ¬ R = 34 := by omega
    have e92 : ¬ R = 92 := by omega
    have e10 : ¬ R = 10 := by omega
    have e9 : ¬ R = 9 := by omega
    have e13 : ¬ R = 13 := by omega
    have R0 : ¬ R < 0 := by omega
    have hrb : r ≤ 1114111 := by
      unfold validR at hvr
      simp at hvr
      omega
    have hhx := fun w => refHex_any r (by omega) w
    have hl := hexL_len r
    rw [hpr]
    by_cases k1 : r < 16
    · have HW : Hid (writtenR s p r n = [92, 120, 48] ++ hexL r) := Lib.hid (by
        unfold writtenR
        rw [if_neg (by omega), if_neg c10, if_neg c9, if_neg c13, if_pos (by omega), hexL_one k1]
        unfold escB
        rw [Nat.div_eq_of_lt k1, Nat.mod_eq_of_lt k1]
        rfl)
      obtain ⟨X, hX⟩ : ∃ X, hexL r = X := ⟨_, rfl⟩
      rw [hX] at hhx HW hl
      rw [hR] at hhx ⊢
      have hhx := Lib.hid hhx
      have o1 : ¬ 9223372036854775807 < 3 + X.length := by omega
      have R1 : R < 16 := by omega
      clear c34 c92 c10 c9 c13 hX hpr hvr k1 hR HH
      go_enter Tryd.func53, Tryd.ntmps53
      go_wp2_with (first
        | (go_at_call 71; (with_reducible refine (hhx.out _).mono ?_); rintro e w2 ⟨rfl, rfl⟩))
      all_goals go_ret
      all_goals exact ⟨by rw [HW.out]; exact esc_str _ (by apply ByteArray.ext; simp) rfl, (Below.refl _ _).alloc (Nat.le_refl _) _⟩
    have R1 : ¬ R < 16 := by omega
    by_cases k2 : r < 32 ∨ r = 127
    · have HW : Hid (writtenR s p r n = [92, 120] ++ hexL r) := Lib.hid (by
        unfold writtenR
        rw [if_neg (by omega), if_neg c10, if_neg c9, if_neg c13, if_pos k2, hexL_two (by omega) (by omega)]
        rfl)
      obtain ⟨X, hX⟩ : ∃ X, hexL r = X := ⟨_, rfl⟩
      rw [hX] at hhx HW hl
      rw [hR] at hhx ⊢
      have hhx := Lib.hid hhx
      have o1 : ¬ 9223372036854775807 < 2 + X.length := by omega
      by_cases k3 : R < 32
      · clear c34 c92 c10 c9 c13 hX hpr hvr k1 k2 hR HH
        go_enter Tryd.func53, Tryd.ntmps53
        go_wp2_with (first
          | (go_at_call 71; (with_reducible refine (hhx.out _).mono ?_); rintro e w2 ⟨rfl, rfl⟩))
        all_goals go_ret
        all_goals exact ⟨by rw [HW.out]; exact esc_str _ (by apply ByteArray.ext; simp) rfl, (Below.refl _ _).alloc (Nat.le_refl _) _⟩
      · have R3 : R = 127 := by omega
        clear c34 c92 c10 c9 c13 hX hpr hvr k1 k2 hR HH
        subst R3
        clear e34 e92 e10 e9 e13 R0 R1 k3
        go_enter Tryd.func53, Tryd.ntmps53
        go_wp2_with (first
          | (go_at_call 71; (with_reducible refine (hhx.out _).mono ?_); rintro e w2 ⟨rfl, rfl⟩))
        all_goals go_ret
        all_goals exact ⟨by rw [HW.out]; exact esc_str _ (by apply ByteArray.ext; simp) rfl, (Below.refl _ _).alloc (Nat.le_refl _) _⟩
    have R2 : ¬ R < 32 := by omega
    have R3 : (R == 127) = false := by rw [beq_eq_false_iff_ne]; omega
    have hhi := fun w h => isHidden_any (r : Int) w h
    rw [hiddenI_nat, hR] at hhi
    have boxW : Below w.heap.size w (w.alloc (.cells #[.int .i64 R, .int .i64 p, .int .i64 n] 79)) := (Below.refl _ _).alloc (Nat.le_refl _) _
    cases hq : hiddenB r with
    | true =>
      have HW : Hid (writtenR s p r n = [92, 117, 123] ++ hexL r ++ [125]) := Lib.hid (by
        unfold writtenR
        rw [if_neg (by omega), if_neg c10, if_neg c9, if_neg c13, if_neg k2, if_neg hb, if_pos hq])
      rw [hq] at hhi
      obtain ⟨X, hX⟩ : ∃ X, hexL r = X := ⟨_, rfl⟩
      rw [hX] at hhx HW hl
      rw [hR] at hhx ⊢
      have hhx := Lib.hid hhx
      have hhi := Lib.hid hhi
      have o1 : ¬ 9223372036854775807 < 3 + X.length := by omega
      have o2 : ¬ 9223372036854775807 < 3 + X.length + 1 := by omega
      clear c34 c92 c10 c9 c13 hX hpr hvr k1 k2 hR hq hb hb0
      go_enter Tryd.func53, Tryd.ntmps53
      go_wp2_with (first
        | (go_at_call 50; (with_reducible refine (hhi.out _ (PairsAt.below HH.out boxW)).mono ?_); rintro e w3 ⟨rfl, hd⟩; obtain ⟨x0, x1, x2, hb⟩ := box3 hd; have HB3 := Lib.hid hb; clear hb hd)
        | (go_at_call 71; (with_reducible refine (hhx.out _).mono ?_); rintro e w2 ⟨rfl, rfl⟩))
      all_goals go_ret
      all_goals exact ⟨by rw [HW.out]; exact esc_str _ (by apply ByteArray.ext; simp) rfl, HB3.out⟩
    | false =>
      have HW : Hid (writtenR s p r n = partL s p n) := Lib.hid (by
        unfold writtenR
        rw [if_neg (by omega), if_neg c10, if_neg c9, if_neg c13, if_neg k2, if_neg hb, if_neg (by rw [hq]; simp)])
      have HP : Hid (s.extract p (p + n) = ⟨(partL s p n).toArray⟩) := Lib.hid (by
        apply ByteArray.ext
        apply Array.toList_inj.1
        rw [part_extract', Nat.add_sub_cancel_left])
      rw [hq] at hhi
      rw [hR]
      have hhi := Lib.hid hhi
      obtain ⟨q, hqq⟩ : ∃ q, p + n = q := ⟨_, rfl⟩
      rw [hqq] at HP hle
      have v0 : IntKind.i64.wrap ((p : Int) + (n : Int)) = (q : Int) := by simp [IntKind.wrap, IntKind.bits, IntKind.signed]; omega
      have v1 : (p : Int) + (n : Int) = (q : Int) := by omega
      have v2 : (p : Int) ≤ (q : Int) := by omega
      have v3 : (q : Int) ≤ (s.size : Int) := by omega
      clear c34 c92 c10 c9 c13 hpr hvr k1 k2 hR hq hb hb0 hhx hl
      go_enter Tryd.func53, Tryd.ntmps53
      go_wp2_with (first
        | (go_at_call 50; (with_reducible refine (hhi.out _ (PairsAt.below HH.out boxW)).mono ?_); rintro e w3 ⟨rfl, hd⟩; obtain ⟨x0, x1, x2, hb⟩ := box3 hd; have HB3 := Lib.hid hb; clear hb hd))
      all_goals go_ret
      all_goals exact ⟨by rw [HW.out, ← HP.out]; rfl, HB3.out⟩
end Go.Proofs.YtepmfjhhmnmmeaaDoor
