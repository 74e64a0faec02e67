/-
  strconv.FormatInt at base 16 walked: the digits of a number below 2^32. Conditions: the table of math/bits as laid.
-/
import Derived.Test.YtepmfjhhmnmmeaaDoorBase
import Derived.Test.YtepmfjhhmnmmeaaDoorLitLaw
import Derived.Laws.IdiomStrings
import Derived.Lib.ItoaMem
import Derived.Laws.Bits64b
namespace Go.Proofs.YtepmfjhhmnmmeaaDoor
open Go.RowKit

abbrev TZ (w : World) : Prop := w.cell? ⟨8, 15, none⟩ = some (.int .u8 4)
theorem TZ.below {w w' : World} (h : TZ w) (hb : Below w.heap.size w w') : TZ w' := (hb.cell (World.block_lt_of_cell? w _ h)).trans h
theorem tz64_any (w : World) (h : TZ w) : Calls Tryd.prog 97 #[.int .u64 16] w fun e w' => e = .returned (.int .i64 4) ∧ w' = w := by
  unfold TZ at h
  have e0 : bits .and .u64 16 (IntKind.u64.wrap (-16)) = 16 := by decide +kernel
  have e1 : IntKind.u64.wrap (16 * 285870213051353865) = 4573923408821661840 := by decide +kernel
  go_enter Tryd.func97, Tryd.ntmps97
  go_wp2
  go_ret
  exact ⟨rfl, rfl⟩
theorem tz_any (w : World) (h : TZ w) : Calls Tryd.prog 95 #[.int .u64 16] w fun e w' => e = .returned (.int .i64 4) ∧ w' = w := by
  go_enter Tryd.func95, Tryd.ntmps95
  go_wp2_with (go_at_call 97; (refine (tz64_any _ h).mono ?_); rintro e w2 ⟨rfl, rfl⟩)
  go_ret
  exact ⟨rfl, rfl⟩
theorem pow2_any (w : World) : Calls Tryd.prog 94 #[.int .i64 16] w fun e w' => e = .returned (.bool true) ∧ w' = w := by
  go_enter Tryd.func94, Tryd.ntmps94
  go_wp2
  go_ret
  exact ⟨rfl, rfl⟩
def digs : ByteArray := ⟨#[48, 49, 50, 51, 52, 53, 54, 55, 56, 57, 97, 98, 99, 100, 101, 102, 103, 104, 105, 106, 107, 108, 109, 110, 111, 112, 113, 114, 115, 116, 117, 118, 119, 120, 121, 122]⟩
theorem digs_at (q : Nat) (hq : q < 16) (h : q < digs.size) : digs[q]'h = hexDig q := by
  have k : ∀ c : Fin 16, digs[c.val]? = some (hexDig c.val) := by decide +kernel
  have := k ⟨q, hq⟩
  simpa [h] using this
theorem and15_64 (u : Nat) (hu : u < 18446744073709551616) : bits .and .u64 u 15 = ((u % 16 : Nat) : Int) := by
  have h := bits_and_u64_nat u 15 hu (by omega)
  rw [show (15 : Nat) = 2 ^ 4 - 1 from rfl, Nat.and_two_pow_sub_one_eq_mod] at h
  exact h
/-- Digits behind a place of the box. -/
def DigAt (w : World) (B k : Nat) (l : List UInt8) : Prop :=
  l.length = k ∧ (∀ j (h : j < l.length), w.cell? ⟨B, 65 - k + j, none⟩ = some (.int .u8 (l[j].toNat : Int))) ∧ (∀ j, j < 65 - k → w.cell? ⟨B, j, none⟩ = some (.int .u8 0)) ∧ ∀ j, j < 65 → w.frozen? ⟨B, j, none⟩ = false
theorem DigAt.put {w : World} {B k : Nat} {l : List UInt8} (h : DigAt w B k l) (hk : k < 65) (x : UInt8) : DigAt (w.setCell ⟨B, 64 - k, none⟩ (.int .u8 (x.toNat : Int))) B (k + 1) (x :: l) := by
  obtain ⟨h1, h2, h3, h4⟩ := h
  refine ⟨by simp [h1], fun j hj => ?_, fun j hj => ?_, fun j hj => by rw [World.frozen?_setCell]; exact h4 j hj⟩
  · cases j with
    | zero =>
      have e : 65 - (k + 1) + 0 = 64 - k := by omega
      rw [e]
      exact World.cell?_setCell_same _ _ _ (h3 (64 - k) (by omega))
    | succ j =>
      have e : 65 - (k + 1) + (j + 1) = 65 - k + j := by omega
      rw [e, World.cell?_setCell_other _ _ _ _ (by simp <;> omega)]
      exact h2 j (by simpa using hj)
  · rw [World.cell?_setCell_other _ _ _ _ (by simp <;> omega)]
    exact h3 j (by omega)
set_option maxHeartbeats 2000000 in
set_option maxRecDepth 100000 in
theorem formatBits_any (n : Nat) (hn : n < 4294967296) (w : World) (hT : TZ w) :
    Calls Tryd.prog 90 #[.slice none 0 0, .int .u64 n, .int .i64 16, .bool false, .bool false] w fun e w' => e = .returned (.tuple #[.slice none 0 0, .string ⟨(hexL n).toArray⟩]) ∧ Below w.heap.size w w' := by
  have HT := Lib.hid hT
  clear hT
  go_enter Tryd.func90, Tryd.ntmps90
  go_wp2_with (first | (go_at_call 94; (refine (pow2_any _).mono ?_); rintro e w2 ⟨rfl, rfl⟩) | (go_at_call 95; (refine (tz_any _ (HT.out.below ((Below.refl _ _).alloc (Nat.le_refl _) _))).mono ?_); rintro e w2 ⟨rfl, rfl⟩))
  go_loopw [1, 13] (fun a b wr => ∃ (u k : Nat) (l : List UInt8), a = .int .u64 u ∧ b = .int .i64 (65 - k : Nat) ∧ k ≤ 7 ∧ u < 2 ^ (32 - 4 * k) ∧ Hid (hexUp (15 - k) u ++ l = hexL n) ∧ Hid (DigAt wr w.heap.size k l) ∧ Below w.heap.size w wr) (fun a _ _ => (intOf a).toNat)
  case atStart =>
    refine ⟨n, 0, [], rfl, rfl, by omega, by omega, Lib.hid (by simp [hexL]), Lib.hid ⟨rfl, fun j h => absurd h (by simp), fun j hj => ?_, fun j hj => ?_⟩, (Below.refl _ _).alloc (Nat.le_refl _) _⟩
    · show (w.alloc _).cell? ⟨w.heap.size, j, none⟩ = _
      rw [World.cell?_alloc_new]
      have h : ∀ l : List Value, l = List.replicate 65 (.int .u8 0) → l.toArray[j]? = some (.int .u8 0) := fun l e => by subst e; rw [List.getElem?_toArray, List.getElem?_replicate, if_pos (by omega)]
      exact h _ rfl
    · exact World.frozen?_alloc_new _ _ _ _
  case round =>
    obtain ⟨u, k, l, rfl, rfl, hk, hu, HL, HD, HB⟩ := hrel
    by_cases h16 : 16 ≤ u
    · have hk6 : k ≤ 6 := by
        by_cases h7 : k = 7
        · subst h7; simp at hu; omega
        · omega
      have hu32 : u < 4294967296 := Nat.lt_of_lt_of_le hu (by
        have := Nat.pow_le_pow_right (n := 2) (by omega) (show 32 - 4 * k ≤ 32 by omega)
        simpa using this)
      have hA := and15_64 u (by omega)
      obtain ⟨r, hr⟩ : ∃ r, u % 16 = r := ⟨_, rfl⟩
      obtain ⟨q, hq⟩ : ∃ q, u / 16 = q := ⟨_, rfl⟩
      have hr16 : r < 16 := by omega
      have hqi : (u : Int) / 16 = (q : Int) := by omega
      have hq2 : q < 2 ^ (32 - 4 * (k + 1)) := by
        have : 32 - 4 * k = 32 - 4 * (k + 1) + 4 := by omega
        rw [this, Nat.pow_add] at hu
        omega
      rw [hr] at hA
      obtain ⟨i, hi⟩ : ∃ i, 65 - k = i + 1 := ⟨64 - k, by omega⟩
      have hi2 : 64 - k = i := by omega
      have hi64 : i < 65 := by omega
      have HP := Lib.hid (HD.out.put (by omega) (hexDig r))
      have c1 := HD.out.2.2.1 i (by omega)
      have f1 := HD.out.2.2.2 i (by omega)
      have hd := digs_at r hr16 (Nat.lt_of_lt_of_le hr16 (by decide))
      unfold digs at hd
      have HL2 : Hid (hexUp (15 - (k + 1)) q ++ (hexDig r :: l) = hexL n) := Lib.hid (by
        have e : 15 - k = 15 - (k + 1) + 1 := by omega
        have h := HL.out
        rw [e, hexUp, if_neg (by omega), hq, hr] at h
        rw [← h]; simp)
      rw [hi]
      rw [hi2] at HP
      have hlt := Nat.lt_of_lt_of_le (show w.heap.size < w.heap.size + 1 by omega) (Nat.le_refl _)
      have hm : q < u := by omega
      have hi3 : 65 - (k + 1) = i := by omega
      clear hq hr hu HL HD hi hi2
      go_wp2
      exact ⟨⟨q, k + 1, hexDig r :: l, rfl, by rw [hi3], by omega, hq2, HL2, HP, HB.setCell (Nat.le_refl _) _⟩, by simp [intOf]; omega⟩
    · have hu16 : u < 16 := by omega
      obtain ⟨i, hi⟩ : ∃ i, 65 - k = i + 1 := ⟨64 - k, by omega⟩
      have hi2 : 64 - k = i := by omega
      have hi64 : i < 65 := by omega
      have HP := Lib.hid (HD.out.put (by omega) (hexDig u))
      have c1 := HD.out.2.2.1 i (by omega)
      have f1 := HD.out.2.2.2 i (by omega)
      have hd := digs_at u hu16 (Nat.lt_of_lt_of_le hu16 (by decide))
      unfold digs at hd
      have HL2 : Hid (hexDig u :: l = hexL n) := Lib.hid (by
        have e : 15 - k = 14 - k + 1 := by omega
        have h := HL.out
        rw [e, hexUp, if_pos hu16] at h
        exact h)
      have hlen : 65 - i = (hexDig u :: l).length := by
        have := HD.out.1
        simp
        omega
      rw [hi]
      rw [hi2] at HP
      have hcv : (convert 81 9 (.slice (some ⟨w.heap.size, i, none⟩) (65 - i) (65 - i))).run Tryd.prog (wr.setCell ⟨w.heap.size, i, none⟩ (.int .u8 ((hexDig u).toNat : Int))) = .ok (.string ⟨(hexDig u :: l).toArray⟩) (wr.setCell ⟨w.heap.size, i, none⟩ (.int .u8 ((hexDig u).toNat : Int))) := by
        rw [hlen]
        have e : 65 - (k + 1) = i := by omega
        exact run_convert_bytes_back _ 81 9 5 ⟨w.heap.size, i, none⟩ _ (hexDig u :: l) Tryd.underlying81 Tryd.underlying5 Tryd.underlying9 (fun j hj => by
          have := HP.out.2.1 j hj
          rw [e] at this
          rw [Lib.add_plain]
          exact this)
      have hal : Tryd.prog.arrayLen 135 = 65 := by simp [Program.arrayLen, Tryd.underlying135]
      have hsl : ∀ W, (Instr.sliceAt 135 (.pointer (some ⟨w.heap.size, 0, none⟩)) (some (.int .i64 i)) none none).run Tryd.prog W = .ok (.slice (some ⟨w.heap.size, i, none⟩) (65 - i) (65 - i)) W := fun W => by
        rw [run_sliceAt_array_l W 135 ⟨w.heap.size, 0, none⟩ (by simp [Program.arrayLen, Program.elem, Tryd.underlying135]) .i64 (i : Int) (by omega) (by rw [hal]; omega)]
        rw [hal]
        go_simp
        all_goals (try omega)
      clear hal
      clear hu HL HD hi hi2 hlen
      go_wp2
      go_ret2
      refine ⟨?_, HB.setCell (Nat.le_refl _) _⟩
      rw [← HL2.out]
      rfl
theorem fmtInt_in (n : Nat) (hn : n < 4294967296) (w : World) (hT : TZ w) :
    Calls Tryd.prog 82 #[.int .i64 n, .int .i64 16] w fun e w' => e = .returned (.string ⟨(hexL n).toArray⟩) ∧ Below w.heap.size w w' := by
  have HT := Lib.hid hT
  clear hT
  go_enter Tryd.func82, Tryd.ntmps82
  go_wp2_with (go_at_call 90; (refine (formatBits_any n hn _ HT.out).mono ?_); rintro e w2 ⟨rfl, hb⟩)
  go_ret
  exact ⟨rfl, hb⟩
theorem fmtInt_any (n : Nat) (hn : n < 4294967296) (w : World) (hT : TZ w) :
    Calls Tryd.prog 70 #[.int .i64 n, .int .i64 16] w fun e w' => e = .returned (.string ⟨(hexL n).toArray⟩) ∧ Below w.heap.size w w' := by
  have HT := Lib.hid hT
  clear hT
  go_enter Tryd.func70, Tryd.ntmps70
  go_wp2_with (go_at_call 82; (refine (fmtInt_in n hn _ HT.out).mono ?_); rintro e w2 ⟨rfl, hb⟩)
  go_ret
  exact ⟨rfl, hb⟩
end Go.Proofs.YtepmfjhhmnmmeaaDoor
