/-
  strings.IndexRune over the sixteen digits, text.hex walked. Conditions: none.
-/
import Derived.Test.YtepmfjhhmnmmeaaDoorTextLoops
import Derived.Test.YtepmfjhhmnmmeaaDoorLitEnc
import Derived.Laws.Runes
import Derived.WalkMore
namespace Go.Proofs.YtepmfjhhmnmmeaaDoor
open Go.RowKit

def dig16 : ByteArray := ⟨#[48, 49, 50, 51, 52, 53, 54, 55, 56, 57, 97, 98, 99, 100, 101, 102]⟩
theorem dig_next : ∀ p : Fin 16, Utf8.decode dig16 p.val = ((dig16.get! p.val).toNat, 1) ∧ (dig16.get! p.val).toNat < 128 := by decide +kernel
set_option maxHeartbeats 2000000 in
set_option maxRecDepth 100000 in
theorem idx_err (w : World) :
    Calls Tryd.prog 78 #[.string dig16, .int .i32 65533] w fun e w' => e = .returned (.int .i64 (-1)) ∧ Below w.heap.size w w' := by
  go_enter Tryd.func78, Tryd.ntmps78
  go_wp2
  go_loopw [5, 6] (fun _ _ wr => ∃ p : Nat, p ≤ 16 ∧ wr.heap[w.heap.size]? = some (.stringIter dig16 p) ∧ Below w.heap.size w wr) (fun _ _ wr => 16 - wr.iterPos w.heap.size)
  case atStart => exact ⟨0, by omega, World.iter_heap _ _ _, below_iter _ _ _⟩
  case round =>
    obtain ⟨p, hp, hit, hb⟩ := hrel
    by_cases hlt : p < 16
    · have hnx := fun ty => Lib.run_next_any_at (P := Tryd.prog) wr w.heap.size dig16 p ty hit hlt
      obtain ⟨d1, d2⟩ := dig_next ⟨p, hlt⟩
      simp only at d1 d2
      obtain ⟨c, hc⟩ : ∃ c, (dig16.get! p).toNat = c := ⟨_, rfl⟩
      rw [hc] at d1 d2
      rw [d1] at hnx
      have hpos := iterPos_of hit
      have h2 := Lib.iterAt_heap wr w.heap.size dig16 p (p + 1) hit
      have hb2 := Lib.below_iterAt hb (Nat.le_refl _) dig16 (p + 1)
      have hne : ¬ (c : Int) = 65533 := by omega
      clear d1 hc hit
      go_wp2
      all_goals go_roundw
      case rel => exact ⟨p + 1, by omega, h2, hb2⟩
      case measure => rw [iterPos_of h2, hpos]; omega
    · have hnx := fun ty => Lib.run_next_end_at (P := Tryd.prog) wr w.heap.size dig16 p ty hit hlt
      go_wp2
      all_goals go_ret
      all_goals exact ⟨rfl, hb⟩
theorem index_none (c : UInt8) : ∀ l : List UInt8, (∀ b ∈ l, b ≠ c) → Lib.indexByte l c = -1
  | [], _ => rfl
  | b :: l, h => by
    have h1 : (b == c) = false := by simpa using h b (by simp)
    have h2 := index_none c l (fun x hx => h x (by simp [hx]))
    unfold Lib.indexByte
    rw [h1, h2]
    rfl
theorem dig_small : ∀ b ∈ dig16.data.toList, b.toNat < 128 := by decide +kernel
theorem idx_none (k : Nat) (x : UInt8) (hx : 128 ≤ x.toNat) (w : World) : Calls Tryd.prog 58 #[.string ((⟨#[48, 49, 50, 51, 52, 53, 54, 55, 56, 57, 97, 98, 99, 100, 101, 102]⟩ : ByteArray).extract k 16), .int .u8 (x.toNat : Int)] w fun e w' => e = .returned (.int .i64 (-1)) ∧ w' = w := by
  have h := Tryd.strings_IndexByte (dig16.extract k 16) (x.toNat : Int) w
  have e : Lib.indexByte (dig16.extract k 16).data.toList ((x.toNat : Int).toNat.toUInt8) = -1 := index_none _ _ (fun b hb e => by
    have := dig_small b (mem_extract hb)
    rw [e] at this
    simp at this
    omega)
  rw [e] at h
  exact h
set_option maxHeartbeats 2000000 in
set_option maxRecDepth 100000 in
theorem idx_far (c : Nat) (hc : 128 ≤ c) (hv : validR c = true) (hne : c ≠ 65533) (w : World) :
    Calls Tryd.prog 78 #[.string dig16, .int .i32 c] w fun e w' => e = .returned (.int .i64 (-1)) ∧ Below w.heap.size w w' := by
  have hV : Lib.validRune (c : Int) = true := by
    unfold validR at hv
    simp at hv
    unfold Lib.validRune
    simp
    omega
  have hvv : Utf8.valid (c : Int) = true := by rw [validRune_eq]; unfold validR at hv; simp at hv; unfold validRune; simp; omega
  obtain ⟨e1, e2, e3⟩ := encode_facts (c : Int) hvv (by omega)
  obtain ⟨E, hE⟩ : ∃ E, Utf8.encode (c : Int) = E := ⟨_, rfl⟩
  rw [hE] at e1 e2 e3
  obtain ⟨n, hn⟩ : ∃ n, E.size = n + 1 := ⟨E.size - 1, by omega⟩
  have hlast : ∀ h : n < E.size, 128 ≤ (E[n]'h).toNat := fun h => by
    have := e3 (by omega)
    have e : E.size - 1 = n := by omega
    simp only [e] at this
    exact this
  clear e3
  have hn3 : n ≤ 3 := by omega
  have hn0 : 1 ≤ n := by omega
  have hn1 : n < E.size := by omega
  obtain ⟨x, hx⟩ : ∃ x, E[n]'hn1 = x := ⟨_, rfl⟩
  have hx1 : 128 ≤ x.toNat := by rw [← hx]; exact hlast hn1
  obtain ⟨R, hR⟩ : ∃ R : Int, (c : Int) = R := ⟨_, rfl⟩
  have r1 : 0 ≤ R := by omega
  have r2 : ¬ R < 128 := by omega
  have r3 : ¬ R = 65533 := by omega
  rw [hR] at hV hE ⊢
  have hvr := Tryd.utf8_ValidRune R w
  rw [hV] at hvr
  have HVR := Lib.hid hvr
  unfold dig16
  clear hvr hV hvv hlast hR hv hc hne e1 e2
  go_enter Tryd.func78, Tryd.ntmps78
  go_wp2_with (go_at_call 79; (refine HVR.out.mono ?_); rintro e w2 ⟨rfl, rfl⟩)
  go_step3
  go_wp2
  go_loopw [9, 10] (fun i f wr => i = .int .i64 n ∧ f = .int .i64 0 ∧ wr = w2) (fun _ _ _ => 0)
  case atStart => exact ⟨rfl, rfl, rfl⟩
  case round =>
    obtain ⟨rfl, rfl, rfl⟩ := hrel
    have x1 : ((49 : Int) != (x.toNat : Int)) = true := by simp; omega
    have x2 : ((50 : Int) != (x.toNat : Int)) = true := by simp; omega
    have x3 : ((51 : Int) != (x.toNat : Int)) = true := by simp; omega
    have y1 : ((⟨#[48, 49, 50, 51, 52, 53, 54, 55, 56, 57, 97, 98, 99, 100, 101, 102]⟩ : ByteArray)[1]'(by decide)) = 49 := rfl
    have y2 : ((⟨#[48, 49, 50, 51, 52, 53, 54, 55, 56, 57, 97, 98, 99, 100, 101, 102]⟩ : ByteArray)[2]'(by decide)) = 50 := rfl
    have y3 : ((⟨#[48, 49, 50, 51, 52, 53, 54, 55, 56, 57, 97, 98, 99, 100, 101, 102]⟩ : ByteArray)[3]'(by decide)) = 51 := rfl
    have hIB := Lib.hid (fun (k : Nat) (W : World) => idx_none k x hx1 W)
    obtain ⟨N, hN⟩ : ∃ N : Int, (n : Int) = N := ⟨_, rfl⟩
    have t1 : N.toNat = n := by omega
    have hNs : N < (E.size : Int) := by omega
    have hN0 : 0 ≤ N := by omega
    have hmem : ∀ h : N.toNat < E.size, E[N.toNat]'h = x := fun h => by simp only [t1]; exact hx
    rw [hN]
    rcases (show n = 1 ∨ n = 2 ∨ n = 3 by omega) with rfl | rfl | rfl
    · obtain rfl : N = 1 := by omega
      go_wp2
      go_step3
      go_wp2
      go_region
      all_goals go_wp2
      all_goals go_region_with (go_at_call 58; (with_reducible refine (hIB.out _ _).mono ?_); rintro e w3 ⟨rfl, rfl⟩)
      all_goals go_wp2
      all_goals (show bodyPost Tryd.prog Tryd.f78 (fun e w' => e = Ending.returned (.int .i64 (-1)) ∧ Below wr.heap.size wr w') Exit.ret _ _)
      all_goals go_ret
      all_goals exact ⟨rfl, ((Below.refl _ _).drew).drew⟩
    · obtain rfl : N = 2 := by omega
      go_wp2
      go_step3
      go_wp2
      go_region
      all_goals go_wp2
      all_goals go_region_with (go_at_call 58; (with_reducible refine (hIB.out _ _).mono ?_); rintro e w3 ⟨rfl, rfl⟩)
      all_goals go_wp2
      all_goals (show bodyPost Tryd.prog Tryd.f78 (fun e w' => e = Ending.returned (.int .i64 (-1)) ∧ Below wr.heap.size wr w') Exit.ret _ _)
      all_goals go_ret
      all_goals exact ⟨rfl, ((Below.refl _ _).drew).drew⟩
    · obtain rfl : N = 3 := by omega
      go_wp2
      go_step3
      go_wp2
      go_region
      all_goals go_wp2
      all_goals go_region_with (go_at_call 58; (with_reducible refine (hIB.out _ _).mono ?_); rintro e w3 ⟨rfl, rfl⟩)
      all_goals go_wp2
      all_goals (show bodyPost Tryd.prog Tryd.f78 (fun e w' => e = Ending.returned (.int .i64 (-1)) ∧ Below wr.heap.size wr w') Exit.ret _ _)
      all_goals go_ret
      all_goals exact ⟨rfl, ((Below.refl _ _).drew).drew⟩
theorem idx_ascii (b : UInt8) (hb : b.toNat < 128) (w : World) :
    Calls Tryd.prog 78 #[.string dig16, .int .i32 (b.toNat : Int)] w fun e w' => e = .returned (.int .i64 (match hexV b with | some v => (v : Int) | none => -1)) ∧ w' = w := by
  have h := Tryd.strings_IndexRune_ascii dig16 (b.toNat : Int) w (by omega) (by omega)
  have k : ∀ c : Fin 128, Lib.indexByte dig16.data.toList (UInt8.ofNat c.val) = (match hexV (UInt8.ofNat c.val) with | some v => (v : Int) | none => -1) := by decide +kernel
  have k2 := k ⟨b.toNat, hb⟩
  simp only at k2
  rw [UInt8.ofNat_toNat] at k2
  rw [show ((b.toNat : Int).toNat.toUInt8) = b by simp, k2] at h
  exact h
theorem decode_big {s : ByteArray} {p : Nat} (h : 128 ≤ (s.get! p).toNat) : 128 ≤ (Utf8.decode s p).1 := by
  rw [Lib.decode_at]
  rcases Lib.decodeN_shape (s.size - p) (s.get! p).toNat (s.get! (p + 1)).toNat (s.get! (p + 2)).toNat (s.get! (p + 3)).toNat with ⟨c, e⟩ | ⟨c1, c2, c3, cv, e⟩ | ⟨c1, c2, c3, c4, cv, cs, e⟩ | ⟨c1, c2, c3, c4, c5, cv, cw, e⟩ | e
  all_goals rw [e]
  all_goals simp only
  all_goals omega
theorem idx_big {s : ByteArray} {p : Nat} (h : 128 ≤ (s.get! p).toNat) (w : World) :
    Calls Tryd.prog 78 #[.string dig16, .int .i32 (Utf8.decode s p).1] w fun e w' => e = .returned (.int .i64 (-1)) ∧ Below w.heap.size w w' := by
  by_cases he : (Utf8.decode s p).1 = 65533
  · rw [he]
    exact idx_err w
  · refine idx_far _ (decode_big h) (validR_at ?_) he w
    unfold strayAt
    simp [he]
theorem decode_ascii {s : ByteArray} {p : Nat} (h : (s.get! p).toNat < 128) : Utf8.decode s p = ((s.get! p).toNat, 1) := by
  rw [Lib.decode_at]
  unfold Lib.decodeN
  rw [if_pos h]
def hexStep (a : Option Nat) (b : UInt8) : Option Nat := match a, hexV b with | some a, some v => some (a * 16 + v) | _, _ => none
theorem hexN_fold (l : List UInt8) : hexN l = l.foldl hexStep (some 0) := by
  cases l with
  | nil => rfl
  | cons b l => rfl
theorem hexStep_none : ∀ l : List UInt8, l.foldl hexStep none = none
  | [] => rfl
  | b :: l => by
    show l.foldl hexStep (hexStep none b) = none
    exact hexStep_none l
theorem get_at' {s : ByteArray} {p : Nat} (h : p < s.size) : s[p]'h = s.get! p := (Utf8W.get!_of_lt _ _ h).symm
theorem take_get {s : ByteArray} {p : Nat} (hp : p < s.size) : s.data.toList.take (p + 1) = s.data.toList.take p ++ [s.get! p] := by
  have h : p < s.data.toList.length := hp
  rw [List.take_succ_eq_append_getElem h]
  have e : s.data.toList[p]'h = s.get! p := by
    rw [← get_at' hp]
    rfl
  rw [e]
theorem hexN_take {s : ByteArray} {p v : Nat} (hp : p < s.size) (h : hexN (s.data.toList.take p) = some v) : hexN (s.data.toList.take (p + 1)) = hexStep (some v) (s.get! p) := by
  rw [hexN_fold] at h ⊢
  rw [take_get hp, List.foldl_append, h]
  rfl
theorem hexN_stop {s : ByteArray} {p v : Nat} (hp : p < s.size) (h : hexN (s.data.toList.take p) = some v) (hv : hexV (s.get! p) = none) : hexN s.data.toList = none := by
  have h1 := hexN_take hp h
  have e : s.data.toList = s.data.toList.take (p + 1) ++ s.data.toList.drop (p + 1) := (List.take_append_drop _ _).symm
  rw [hexN_fold] at h1 ⊢
  rw [e, List.foldl_append, h1]
  unfold hexStep
  rw [hv]
  exact hexStep_none _
theorem hexV_big {b : UInt8} (h : 128 ≤ b.toNat) : hexV b = none := by
  unfold hexV
  rw [if_neg, if_neg]
  all_goals
    rw [UInt8.le_iff_toNat_le, UInt8.le_iff_toNat_le]
    simp
    omega
theorem hexV_lt {b : UInt8} {v : Nat} (h : hexV b = some v) : v < 16 := by
  unfold hexV at h
  split at h
  · rename_i c
    rw [UInt8.le_iff_toNat_le, UInt8.le_iff_toNat_le] at c
    simp at c h
    omega
  · split at h
    · rename_i c
      rw [UInt8.le_iff_toNat_le, UInt8.le_iff_toNat_le] at c
      simp at c h
      omega
    · cases h
end Go.Proofs.YtepmfjhhmnmmeaaDoor
