/-
  annalsref2.piece walked: what stands at a place of a text is what the model's own decoding says. Conditions: none.
-/
import Derived.Test.YtepmfjhhmnmmeaaDoorPiece
namespace Go.Proofs.YtepmfjhhmnmmeaaDoor
open Go.RowKit

def pieceV (s : ByteArray) (p : Nat) : Value := .agg #[.int .i64 (pieceR s p), .int .i64 p, .int .i64 (Utf8.decode s p).2]

theorem pieceV_stray {s : ByteArray} {p : Nat} (h : Utf8.decode s p = (65533, 1)) : pieceV s p = .agg #[.int .i64 (-1), .int .i64 p, .int .i64 1] := by
  unfold pieceV pieceR strayAt
  rw [h]
  rfl
theorem pieceV_rune {s : ByteArray} {p c n : Nat} (h : Utf8.decode s p = (c, n)) (hn : n ≠ 1 ∨ c ≠ 65533) : pieceV s p = .agg #[.int .i64 c, .int .i64 p, .int .i64 n] := by
  unfold pieceV pieceR strayAt
  rw [h]
  rw [if_neg (by simp; omega)]

theorem acc_range {s : ByteArray} {i : Nat} {r : Int} (h0 : 0 ≤ r) (h1 : r ≤ 31) : ∀ k : Nat, k ≤ 3 → (∀ j, 1 ≤ j → j ≤ k → isCont (byteAt s (i + j))) → 0 ≤ acc s i r k ∧ acc s i r k ≤ 8388607
  | 0, _, _ => ⟨h0, by simp only [acc]; omega⟩
  | 1, _, h => by
    have := h 1 (by omega) (by omega)
    unfold isCont at this
    simp only [acc, Nat.add_zero] at *
    omega
  | 2, _, h => by
    have c1 := h 1 (by omega) (by omega)
    have c2 := h 2 (by omega) (by omega)
    unfold isCont at c1 c2
    simp only [acc, Nat.add_zero, show i + 1 + 1 = i + 2 by omega] at *
    omega
  | 3, _, h => by
    have c1 := h 1 (by omega) (by omega)
    have c2 := h 2 (by omega) (by omega)
    have c3 := h 3 (by omega) (by omega)
    unfold isCont at c1 c2 c3
    simp only [acc, Nat.add_zero, show i + 1 + 1 = i + 2 by omega, show i + 2 + 1 = i + 3 by omega] at *
    omega
  | k + 4, h, _ => by omega

theorem acc_bd1 {s : ByteArray} {i : Nat} {r : Int} (c1 : isCont (byteAt s (i + 1))) : acc s i r 1 ≤ r * 64 + 63 := by
  unfold isCont at c1
  simp only [acc, Nat.add_zero]
  omega
theorem acc_bd2 {s : ByteArray} {i : Nat} {r : Int} (c1 : isCont (byteAt s (i + 1))) (c2 : isCont (byteAt s (i + 2))) : acc s i r 2 ≤ r * 4096 + 4095 := by
  unfold isCont at c1 c2
  simp only [acc, Nat.add_zero, show i + 1 + 1 = i + 2 by omega]
  omega

/-- A byte as the walk reads it. -/
theorem byte_at {s : ByteArray} {i j : Nat} {c : Int} (h : i + j < s.size) (hc : byteAt s (i + j) = c) : ((s[i + j]'h).toNat : Int) = c := (byteAt_of h).trans hc

set_option maxHeartbeats 2000000 in
theorem piece_2 (s : ByteArray) (i : Nat) (hi : i < s.size) (hs : s.size ≤ 4611686018427387904) (w : World) (b : Int) (hb : byteAt s i = b) (h1 : 192 ≤ b) (h2 : b < 224) :
    Calls Tryd.prog 49 #[.string s, .int .i64 i] w fun e w' => e = .returned (pieceV s i) ∧ Below w.heap.size w w' := by
  have hb0 := byte_at (j := 0) hi hb
  simp only [Nat.add_zero] at hb0
  have hz : (0 : Int) ≤ (i : Int) := by omega
  have HB := Lib.hid hb
  clear hb
  by_cases hsz : s.size < i + 2
  · have hv := Lib.hid (pieceV_stray (decode_two_bad (s := s) (i := i) (by rw [HB.out]; omega) (by rw [HB.out]; omega) (Or.inl hsz)))
    go_enter Tryd.func49, Tryd.ntmps49
    go_wp2
    all_goals exact bodyPost_ret (v := .agg #[.int .i64 (-1), .int .i64 i, .int .i64 1]) (by simp [results, Tryd.results49, go_sem]) rfl ⟨congrArg Ending.returned hv.out.symm, by repeat (first | exact Below.refl _ _ | (refine Below.setCell ?_ (by simp) _) | (refine Below.alloc ?_ (by simp) _))⟩
  · go_enter Tryd.func49, Tryd.ntmps49
    go_wp2
    go_loop [8, 10] (fun r k => ∃ j : Nat, 1 ≤ j ∧ j ≤ 2 ∧ k = .int .i64 j ∧ r = .int .i64 (acc s i (b - 192) (j - 1)) ∧ Hid (∀ m, 1 ≤ m → m ≤ j - 1 → isCont (byteAt s (i + m)))) (fun _ k => 2 - (intOf k).toNat)
    case atStart => exact ⟨1, by omega, by omega, rfl, rfl, Lib.hid (fun m h h' => by omega)⟩
    case round =>
      obtain ⟨j, hj1, hjn, rfl, rfl, HC⟩ := hrel
      have hR := acc_range (s := s) (i := i) (r := b - 192) (by omega) (by omega) (j - 1) (by omega) HC.out
      by_cases hlt : j < 2
      · obtain ⟨c, hcj⟩ : ∃ c, byteAt s (i + j) = c := ⟨_, rfl⟩
        have hlt2 : i + j < s.size := by omega
        have hbj := byte_at hlt2 hcj
        have hrc := byteAt_range s (i + j)
        rw [hcj] at hrc
        by_cases hc : isCont c
        · have hacc : acc s i (b - 192) (j + 1 - 1) = acc s i (b - 192) (j - 1) * 64 + c - 128 := by
            obtain ⟨q, rfl⟩ : ∃ q, j = q + 1 := ⟨j - 1, by omega⟩
            simp only [Nat.add_sub_cancel, acc]
            rw [show i + q + 1 = i + (q + 1) by omega, hcj]
          have HA := Lib.hid hacc
          have HC' : Hid (∀ m, 1 ≤ m → m ≤ j + 1 - 1 → isCont (byteAt s (i + m))) := Lib.hid (fun m h h' => by
            by_cases e : m = j
            · rw [e, hcj]; exact hc
            · exact HC.out m h (by omega))
          clear hacc hcj HC
          unfold isCont at hc
          obtain ⟨R, hRR⟩ : ∃ R, acc s i (b - 192) (j - 1) = R := ⟨_, rfl⟩
          rw [hRR] at hR HA ⊢
          clear hRR
          obtain ⟨hc1, hc2⟩ := hc
          obtain ⟨hR1, hR2⟩ := hR
          go_wp2
          all_goals go_round
          case rel => exact ⟨j + 1, by omega, by omega, by go_num, by rw [HA.out], HC'⟩
          case measure => simp [intOf]; omega
        · have hbad : s.size < i + 2 ∨ ¬ isCont (byteAt s (i + 1)) := Or.inr (by
          obtain rfl : j = 1 := by omega
          rw [hcj]; exact hc)
          have hv := Lib.hid (pieceV_stray (decode_two_bad (s := s) (i := i) (by rw [HB.out]; omega) (by rw [HB.out]; omega) hbad))
          clear hbad hcj HC
          unfold isCont at hc
          by_cases hc1 : c < 128
          all_goals go_wp2
          all_goals exact bodyPost_ret (v := .agg #[.int .i64 (-1), .int .i64 i, .int .i64 1]) (by simp [results, Tryd.results49, go_sem]) rfl ⟨congrArg Ending.returned hv.out.symm, by repeat (first | exact Below.refl _ _ | (refine Below.setCell ?_ (by simp) _) | (refine Below.alloc ?_ (by simp) _))⟩
      · obtain rfl : j = 2 := by omega
        have hcs := HC.out
        have hd := decode_two (s := s) (i := i) (by rw [HB.out]; omega) (by rw [HB.out]; omega) (by omega) (hcs 1 (by omega) (by omega))
        rw [HB.out] at hd
        have hS := acc_bd1 (s := s) (i := i) (r := b - 192) (hcs 1 (by omega) (by omega))
        simp only [Nat.reduceSub] at hR ⊢
        obtain ⟨R, hRR⟩ : ∃ R, acc s i (b - 192) 1 = R := ⟨_, rfl⟩
        rw [hRR] at hR hd hS ⊢
        obtain ⟨hR1, hR2⟩ := hR
        clear hcs HC hRR
        by_cases hf : R < 128
        · rw [if_pos hf] at hd
          have hv := Lib.hid (pieceV_stray hd)
          clear hd
          go_wp2
          all_goals exact bodyPost_ret (v := .agg #[.int .i64 (-1), .int .i64 i, .int .i64 1]) (by simp [results, Tryd.results49, go_sem]) rfl ⟨congrArg Ending.returned hv.out.symm, by repeat (first | exact Below.refl _ _ | (refine Below.setCell ?_ (by simp) _) | (refine Below.alloc ?_ (by simp) _))⟩
        · rw [if_neg hf] at hd
          have hv := Lib.hid (pieceV_rune hd (by left; omega))
          have hR3 : ((R.toNat : Nat) : Int) = R := by omega
          rw [hR3] at hv
          clear hd hR3
          go_wp2
          all_goals exact bodyPost_ret (v := .agg #[.int .i64 R, .int .i64 i, .int .i64 2]) (by simp [results, Tryd.results49, go_sem]) rfl ⟨congrArg Ending.returned hv.out.symm, by repeat (first | exact Below.refl _ _ | (refine Below.setCell ?_ (by simp) _) | (refine Below.alloc ?_ (by simp) _))⟩

set_option maxHeartbeats 2000000 in
theorem piece_3 (s : ByteArray) (i : Nat) (hi : i < s.size) (hs : s.size ≤ 4611686018427387904) (w : World) (b : Int) (hb : byteAt s i = b) (h1 : 224 ≤ b) (h2 : b < 240) :
    Calls Tryd.prog 49 #[.string s, .int .i64 i] w fun e w' => e = .returned (pieceV s i) ∧ Below w.heap.size w w' := by
  have hb0 := byte_at (j := 0) hi hb
  simp only [Nat.add_zero] at hb0
  have hz : (0 : Int) ≤ (i : Int) := by omega
  have HB := Lib.hid hb
  clear hb
  by_cases hsz : s.size < i + 3
  · have hv := Lib.hid (pieceV_stray (decode_three_bad (s := s) (i := i) (by rw [HB.out]; omega) (by rw [HB.out]; omega) (Or.inl hsz)))
    go_enter Tryd.func49, Tryd.ntmps49
    go_wp2
    all_goals exact bodyPost_ret (v := .agg #[.int .i64 (-1), .int .i64 i, .int .i64 1]) (by simp [results, Tryd.results49, go_sem]) rfl ⟨congrArg Ending.returned hv.out.symm, by repeat (first | exact Below.refl _ _ | (refine Below.setCell ?_ (by simp) _) | (refine Below.alloc ?_ (by simp) _))⟩
  · go_enter Tryd.func49, Tryd.ntmps49
    go_wp2
    go_loop [8, 10] (fun r k => ∃ j : Nat, 1 ≤ j ∧ j ≤ 3 ∧ k = .int .i64 j ∧ r = .int .i64 (acc s i (b - 224) (j - 1)) ∧ Hid (∀ m, 1 ≤ m → m ≤ j - 1 → isCont (byteAt s (i + m)))) (fun _ k => 3 - (intOf k).toNat)
    case atStart => exact ⟨1, by omega, by omega, rfl, rfl, Lib.hid (fun m h h' => by omega)⟩
    case round =>
      obtain ⟨j, hj1, hjn, rfl, rfl, HC⟩ := hrel
      have hR := acc_range (s := s) (i := i) (r := b - 224) (by omega) (by omega) (j - 1) (by omega) HC.out
      by_cases hlt : j < 3
      · obtain ⟨c, hcj⟩ : ∃ c, byteAt s (i + j) = c := ⟨_, rfl⟩
        have hlt2 : i + j < s.size := by omega
        have hbj := byte_at hlt2 hcj
        have hrc := byteAt_range s (i + j)
        rw [hcj] at hrc
        by_cases hc : isCont c
        · have hacc : acc s i (b - 224) (j + 1 - 1) = acc s i (b - 224) (j - 1) * 64 + c - 128 := by
            obtain ⟨q, rfl⟩ : ∃ q, j = q + 1 := ⟨j - 1, by omega⟩
            simp only [Nat.add_sub_cancel, acc]
            rw [show i + q + 1 = i + (q + 1) by omega, hcj]
          have HA := Lib.hid hacc
          have HC' : Hid (∀ m, 1 ≤ m → m ≤ j + 1 - 1 → isCont (byteAt s (i + m))) := Lib.hid (fun m h h' => by
            by_cases e : m = j
            · rw [e, hcj]; exact hc
            · exact HC.out m h (by omega))
          clear hacc hcj HC
          unfold isCont at hc
          obtain ⟨R, hRR⟩ : ∃ R, acc s i (b - 224) (j - 1) = R := ⟨_, rfl⟩
          rw [hRR] at hR HA ⊢
          clear hRR
          obtain ⟨hc1, hc2⟩ := hc
          obtain ⟨hR1, hR2⟩ := hR
          go_wp2
          all_goals go_round
          case rel => exact ⟨j + 1, by omega, by omega, by go_num, by rw [HA.out], HC'⟩
          case measure => simp [intOf]; omega
        · have hbad : s.size < i + 3 ∨ ¬ isCont (byteAt s (i + 1)) ∨ ¬ isCont (byteAt s (i + 2)) := Or.inr (by
          rcases (by omega : j = 1 ∨ j = 2) with rfl | rfl
          · left; rw [hcj]; exact hc
          · right; rw [hcj]; exact hc)
          have hv := Lib.hid (pieceV_stray (decode_three_bad (s := s) (i := i) (by rw [HB.out]; omega) (by rw [HB.out]; omega) hbad))
          clear hbad hcj HC
          unfold isCont at hc
          by_cases hc1 : c < 128
          all_goals go_wp2
          all_goals exact bodyPost_ret (v := .agg #[.int .i64 (-1), .int .i64 i, .int .i64 1]) (by simp [results, Tryd.results49, go_sem]) rfl ⟨congrArg Ending.returned hv.out.symm, by repeat (first | exact Below.refl _ _ | (refine Below.setCell ?_ (by simp) _) | (refine Below.alloc ?_ (by simp) _))⟩
      · obtain rfl : j = 3 := by omega
        have hcs := HC.out
        have hd := decode_three (s := s) (i := i) (by rw [HB.out]; omega) (by rw [HB.out]; omega) (by omega) (hcs 1 (by omega) (by omega)) (hcs 2 (by omega) (by omega))
        rw [HB.out] at hd
        have hS := acc_bd2 (s := s) (i := i) (r := b - 224) (hcs 1 (by omega) (by omega)) (hcs 2 (by omega) (by omega))
        simp only [Nat.reduceSub] at hR ⊢
        obtain ⟨R, hRR⟩ : ∃ R, acc s i (b - 224) 2 = R := ⟨_, rfl⟩
        rw [hRR] at hR hd hS ⊢
        obtain ⟨hR1, hR2⟩ := hR
        clear hcs HC hRR
        by_cases hf : R < 2048 ∨ (55296 ≤ R ∧ R ≤ 57343)
        · rw [if_pos hf] at hd
          have hv := Lib.hid (pieceV_stray hd)
          clear hd
          rcases hf with hf | ⟨hf1, hf2⟩
          all_goals go_wp2
          all_goals exact bodyPost_ret (v := .agg #[.int .i64 (-1), .int .i64 i, .int .i64 1]) (by simp [results, Tryd.results49, go_sem]) rfl ⟨congrArg Ending.returned hv.out.symm, by repeat (first | exact Below.refl _ _ | (refine Below.setCell ?_ (by simp) _) | (refine Below.alloc ?_ (by simp) _))⟩
        · rw [if_neg hf] at hd
          have hv := Lib.hid (pieceV_rune hd (by left; omega))
          have hR3 : ((R.toNat : Nat) : Int) = R := by omega
          rw [hR3] at hv
          clear hd hR3
          have hf1 : ¬ R < 2048 := by omega
          have hf2 : ¬ (1114111 : Int) < R := by omega
          by_cases hf3 : (55296 : Int) ≤ R
          all_goals go_wp2
          all_goals exact bodyPost_ret (v := .agg #[.int .i64 R, .int .i64 i, .int .i64 3]) (by simp [results, Tryd.results49, go_sem]) rfl ⟨congrArg Ending.returned hv.out.symm, by repeat (first | exact Below.refl _ _ | (refine Below.setCell ?_ (by simp) _) | (refine Below.alloc ?_ (by simp) _))⟩

set_option maxHeartbeats 2000000 in
theorem piece_4 (s : ByteArray) (i : Nat) (hi : i < s.size) (hs : s.size ≤ 4611686018427387904) (w : World) (b : Int) (hb : byteAt s i = b) (h1 : 240 ≤ b) (h2 : b < 248) :
    Calls Tryd.prog 49 #[.string s, .int .i64 i] w fun e w' => e = .returned (pieceV s i) ∧ Below w.heap.size w w' := by
  have hb0 := byte_at (j := 0) hi hb
  simp only [Nat.add_zero] at hb0
  have hz : (0 : Int) ≤ (i : Int) := by omega
  have HB := Lib.hid hb
  clear hb
  by_cases hsz : s.size < i + 4
  · have hv := Lib.hid (pieceV_stray (decode_four_bad (s := s) (i := i) (by rw [HB.out]; omega) (by rw [HB.out]; omega) (Or.inl hsz)))
    go_enter Tryd.func49, Tryd.ntmps49
    go_wp2
    all_goals exact bodyPost_ret (v := .agg #[.int .i64 (-1), .int .i64 i, .int .i64 1]) (by simp [results, Tryd.results49, go_sem]) rfl ⟨congrArg Ending.returned hv.out.symm, by repeat (first | exact Below.refl _ _ | (refine Below.setCell ?_ (by simp) _) | (refine Below.alloc ?_ (by simp) _))⟩
  · go_enter Tryd.func49, Tryd.ntmps49
    go_wp2
    go_loop [8, 10] (fun r k => ∃ j : Nat, 1 ≤ j ∧ j ≤ 4 ∧ k = .int .i64 j ∧ r = .int .i64 (acc s i (b - 240) (j - 1)) ∧ Hid (∀ m, 1 ≤ m → m ≤ j - 1 → isCont (byteAt s (i + m)))) (fun _ k => 4 - (intOf k).toNat)
    case atStart => exact ⟨1, by omega, by omega, rfl, rfl, Lib.hid (fun m h h' => by omega)⟩
    case round =>
      obtain ⟨j, hj1, hjn, rfl, rfl, HC⟩ := hrel
      have hR := acc_range (s := s) (i := i) (r := b - 240) (by omega) (by omega) (j - 1) (by omega) HC.out
      by_cases hlt : j < 4
      · obtain ⟨c, hcj⟩ : ∃ c, byteAt s (i + j) = c := ⟨_, rfl⟩
        have hlt2 : i + j < s.size := by omega
        have hbj := byte_at hlt2 hcj
        have hrc := byteAt_range s (i + j)
        rw [hcj] at hrc
        by_cases hc : isCont c
        · have hacc : acc s i (b - 240) (j + 1 - 1) = acc s i (b - 240) (j - 1) * 64 + c - 128 := by
            obtain ⟨q, rfl⟩ : ∃ q, j = q + 1 := ⟨j - 1, by omega⟩
            simp only [Nat.add_sub_cancel, acc]
            rw [show i + q + 1 = i + (q + 1) by omega, hcj]
          have HA := Lib.hid hacc
          have HC' : Hid (∀ m, 1 ≤ m → m ≤ j + 1 - 1 → isCont (byteAt s (i + m))) := Lib.hid (fun m h h' => by
            by_cases e : m = j
            · rw [e, hcj]; exact hc
            · exact HC.out m h (by omega))
          clear hacc hcj HC
          unfold isCont at hc
          obtain ⟨R, hRR⟩ : ∃ R, acc s i (b - 240) (j - 1) = R := ⟨_, rfl⟩
          rw [hRR] at hR HA ⊢
          clear hRR
          obtain ⟨hc1, hc2⟩ := hc
          obtain ⟨hR1, hR2⟩ := hR
          go_wp2
          all_goals go_round
          case rel => exact ⟨j + 1, by omega, by omega, by go_num, by rw [HA.out], HC'⟩
          case measure => simp [intOf]; omega
        · have hbad : s.size < i + 4 ∨ ¬ isCont (byteAt s (i + 1)) ∨ ¬ isCont (byteAt s (i + 2)) ∨ ¬ isCont (byteAt s (i + 3)) := Or.inr (by
          rcases (by omega : j = 1 ∨ j = 2 ∨ j = 3) with rfl | rfl | rfl
          · left; rw [hcj]; exact hc
          · right; left; rw [hcj]; exact hc
          · right; right; rw [hcj]; exact hc)
          have hv := Lib.hid (pieceV_stray (decode_four_bad (s := s) (i := i) (by rw [HB.out]; omega) (by rw [HB.out]; omega) hbad))
          clear hbad hcj HC
          unfold isCont at hc
          by_cases hc1 : c < 128
          all_goals go_wp2
          all_goals exact bodyPost_ret (v := .agg #[.int .i64 (-1), .int .i64 i, .int .i64 1]) (by simp [results, Tryd.results49, go_sem]) rfl ⟨congrArg Ending.returned hv.out.symm, by repeat (first | exact Below.refl _ _ | (refine Below.setCell ?_ (by simp) _) | (refine Below.alloc ?_ (by simp) _))⟩
      · obtain rfl : j = 4 := by omega
        have hcs := HC.out
        have hd := decode_four (s := s) (i := i) (by rw [HB.out]; omega) (by rw [HB.out]; omega) (by omega) (hcs 1 (by omega) (by omega)) (hcs 2 (by omega) (by omega)) (hcs 3 (by omega) (by omega))
        rw [HB.out] at hd
        simp only [Nat.reduceSub] at hR ⊢
        obtain ⟨R, hRR⟩ : ∃ R, acc s i (b - 240) 3 = R := ⟨_, rfl⟩
        rw [hRR] at hR hd ⊢
        obtain ⟨hR1, hR2⟩ := hR
        clear hcs HC hRR
        by_cases hf : R < 65536 ∨ 1114111 < R
        · rw [if_pos hf] at hd
          have hv := Lib.hid (pieceV_stray hd)
          clear hd
          rcases hf with hf | hf
          all_goals go_wp2
          all_goals exact bodyPost_ret (v := .agg #[.int .i64 (-1), .int .i64 i, .int .i64 1]) (by simp [results, Tryd.results49, go_sem]) rfl ⟨congrArg Ending.returned hv.out.symm, by repeat (first | exact Below.refl _ _ | (refine Below.setCell ?_ (by simp) _) | (refine Below.alloc ?_ (by simp) _))⟩
        · rw [if_neg hf] at hd
          have hv := Lib.hid (pieceV_rune hd (by left; omega))
          have hR3 : ((R.toNat : Nat) : Int) = R := by omega
          rw [hR3] at hv
          clear hd hR3
          have hf1 : ¬ R < 65536 := by omega
          have hf2 : ¬ (1114111 : Int) < R := by omega
          have hf3 : ¬ R ≤ 57343 := by omega
          go_wp2
          all_goals exact bodyPost_ret (v := .agg #[.int .i64 R, .int .i64 i, .int .i64 4]) (by simp [results, Tryd.results49, go_sem]) rfl ⟨congrArg Ending.returned hv.out.symm, by repeat (first | exact Below.refl _ _ | (refine Below.setCell ?_ (by simp) _) | (refine Below.alloc ?_ (by simp) _))⟩

set_option maxHeartbeats 1000000 in
theorem piece_any (s : ByteArray) (i : Nat) (hi : i < s.size) (hs : s.size ≤ 4611686018427387904) (w : World) :
    Calls Tryd.prog 49 #[.string s, .int .i64 i] w fun e w' => e = .returned (pieceV s i) ∧ Below w.heap.size w w' := by
  have hr0 := byteAt_range s i
  obtain ⟨b, hb⟩ : ∃ b, byteAt s i = b := ⟨_, rfl⟩
  rw [hb] at hr0
  by_cases k1 : 192 ≤ b ∧ b < 224
  · exact piece_2 s i hi hs w b hb k1.1 k1.2
  by_cases k2 : 224 ≤ b ∧ b < 240
  · exact piece_3 s i hi hs w b hb k2.1 k2.2
  by_cases k3 : 240 ≤ b ∧ b < 248
  · exact piece_4 s i hi hs w b hb k3.1 k3.2
  have hb0 := byte_at (j := 0) hi hb
  simp only [Nat.add_zero] at hb0
  have hz : (0 : Int) ≤ (i : Int) := by omega
  by_cases h1 : b < 128
  · have hv := pieceV_rune (decode_one (s := s) (i := i) (by omega)) (by right; omega)
    rw [hb, show ((b.toNat : Nat) : Int) = b by omega] at hv
    have hv := Lib.hid hv
    clear hb k1 k2 k3
    go_enter Tryd.func49, Tryd.ntmps49
    go_wp2
    all_goals exact bodyPost_ret (v := .agg #[.int .i64 b, .int .i64 i, .int .i64 1]) (by simp [results, Tryd.results49, go_sem]) rfl ⟨congrArg Ending.returned hv.out.symm, by repeat (first | exact Below.refl _ _ | (refine Below.setCell ?_ (by simp) _) | (refine Below.alloc ?_ (by simp) _))⟩
  · have hv := Lib.hid (pieceV_stray (decode_no (s := s) (i := i) (by omega) (by omega)))
    by_cases h2 : b < 192
    all_goals clear hb
    all_goals go_enter Tryd.func49, Tryd.ntmps49
    all_goals go_wp2
    all_goals exact bodyPost_ret (v := .agg #[.int .i64 (-1), .int .i64 i, .int .i64 1]) (by simp [results, Tryd.results49, go_sem]) rfl ⟨congrArg Ending.returned hv.out.symm, by repeat (first | exact Below.refl _ _ | (refine Below.setCell ?_ (by simp) _) | (refine Below.alloc ?_ (by simp) _))⟩
end Go.Proofs.YtepmfjhhmnmmeaaDoor
