/-
  Texts of small letters, and one with a stray byte among them, in plain terms.
  annalslaw2.letters walked: a text of so many small letters.
  annalslaw2.TextLong walked: it answers true, of any three numbers.
  Conditions: as each theorem says. (Joined by wip/tools/pack.py.)
-/
import Derived.Test.YtepmfjhhmnmmeaaDoorRoundLaw
import Derived.Test.YtepmfjhhmnmmeaaDoorRefText
import Derived.Test.YtepmfjhhmnmmeaaDoorRefQuote
import Derived.Test.YtepmfjhhmnmmeaaDoorPkKept
import Derived.Deep.RegionHeld3
import Derived.Maps.RangeWalk
namespace Go.Proofs.YtepmfjhhmnmmeaaDoor
open Go.RowKit

def lowB (b : UInt8) : Bool := decide (97 ≤ b.toNat) && decide (b.toNat ≤ 122)
theorem lowB_of {b : UInt8} (h : lowB b = true) : 97 ≤ b.toNat ∧ b.toNat ≤ 122 := by
  unfold lowB at h
  simpa using h
theorem low_at {s : ByteArray} {p : Nat} (hp : p < s.size) (h : lowB (s.get! p) = true) : writtenL s p = [s.get! p] ∧ nextPos s p = p + 1 ∧ strayAt s p = false := by
  obtain ⟨h1, h2⟩ := lowB_of h
  have hd := decode_ascii (s := s) (p := p) (by omega)
  have hst : strayAt s p = false := by
    unfold strayAt
    rw [hd]
    simp
    omega
  refine ⟨?_, by unfold nextPos; rw [hd], hst⟩
  unfold writtenL
  rw [hd]
  simp only
  have hh : hiddenB (s.get! p).toNat = false := by
    unfold hiddenB
    simp
    omega
  rw [if_neg (by omega), if_neg (by omega), if_neg (by omega), if_neg (by omega), if_neg (by omega), if_neg (by rw [hst]; simp), if_neg (by rw [hh]; simp)]
  have := take_get hp
  unfold partL
  rw [List.take_add] at this
  exact List.append_cancel_left this
theorem bad_at {s : ByteArray} {p : Nat} (h : s.get! p = 255) (hp : p < s.size) : (writtenL s p).length = 4 ∧ nextPos s p = p + 1 ∧ strayAt s p = true := by
  have hb : byteAt s p = 255 := by
    rw [byteAt_of hp |>.symm, get_at' hp, h]
    rfl
  have hd : Utf8.decode s p = (65533, 1) := decode_no (by omega) (Or.inr (by omega))
  have hst : strayAt s p = true := by
    unfold strayAt
    rw [hd]
    rfl
  refine ⟨?_, by unfold nextPos; rw [hd], hst⟩
  unfold writtenL
  rw [hd]
  simp only
  rw [if_neg (by omega), if_neg (by omega), if_neg (by omega), if_neg (by omega), if_neg (by omega), if_pos hst]
  rfl
theorem quote_low (s : ByteArray) : ∀ (f p : Nat), s.size ≤ p + f → (∀ i, p ≤ i → i < s.size → lowB (s.get! i) = true) → quoteFrom s s.size p = s.data.toList.drop p
  | 0, p, h, _ => by
    rw [quoteFrom_end (by omega), List.drop_eq_nil_of_le (by show s.size ≤ p; omega)]
  | f + 1, p, h, hl => by
    by_cases hp : p < s.size
    · obtain ⟨h1, h2, _⟩ := low_at hp (hl p (Nat.le_refl _) hp)
      rw [quoteFrom_step hp, h1, h2, quote_low s f (p + 1) (by omega) (fun i hi hs => hl i (by omega) hs)]
      have hlen : p < s.data.toList.length := hp
      rw [List.drop_eq_getElem_cons hlen, ← get_at' hp]
      rfl
    · rw [quoteFrom_end hp, List.drop_eq_nil_of_le (by show s.size ≤ p; omega)]
theorem quote_bad (s : ByteArray) (k : Nat) (hk : k < s.size) (hb : s.get! k = 255) (hl : ∀ i, i ≠ k → i < s.size → lowB (s.get! i) = true) : ∀ (f p : Nat), p + f = k → (quoteFrom s s.size p).length = s.size - p + 3
  | 0, p, h => by
    obtain rfl : p = k := by omega
    obtain ⟨h1, h2, _⟩ := bad_at hb hk
    rw [quoteFrom_step hk, List.length_append, h1, h2, quote_low s s.size (p + 1) (by omega) (fun i hi hs => hl i (by omega) hs), List.length_drop]
    show 4 + (s.size - (p + 1)) = _
    omega
  | f + 1, p, h => by
    have hp : p < s.size := by omega
    obtain ⟨h1, h2, _⟩ := low_at hp (hl p (by omega) hp)
    rw [quoteFrom_step hp, List.length_append, h1, h2, quote_bad s k hk hb hl f (p + 1) (by omega)]
    simp
    omega
theorem quoteL_low (s : ByteArray) (hl : ∀ i, i < s.size → lowB (s.get! i) = true) : quoteL s = 34 :: (s.data.toList ++ [34]) := by
  unfold quoteL
  rw [quote_low s s.size 0 (by omega) (fun i _ hs => hl i hs), List.drop_zero]
theorem quoteL_bad (s : ByteArray) (k : Nat) (hk : k < s.size) (hb : s.get! k = 255) (hl : ∀ i, i ≠ k → i < s.size → lowB (s.get! i) = true) : (quoteL s).length = s.size + 5 := by
  unfold quoteL
  rw [List.length_cons, List.length_append, quote_bad s k hk hb hl k 0 (by omega)]
  simp
theorem posAt_low (s : ByteArray) (k : Nat) (hk : k ≤ s.size) (hl : ∀ i, i < k → lowB (s.get! i) = true) : ∀ m, m ≤ k → posAt s m = m
  | 0, _ => rfl
  | m + 1, h => by
    have ih := posAt_low s k hk hl m (by omega)
    have hp : posAt s m < s.size := by rw [ih]; omega
    rw [posAt_succ hp, ih]
    exact (low_at (by omega) (hl m (by omega))).2.1
theorem valid_low (s : ByteArray) (hl : ∀ i, i < s.size → lowB (s.get! i) = true) : valid s = -1 :=
  valid_none (j := s.size) (fun m hm => by
    rw [posAt_low s s.size (Nat.le_refl _) hl m (by omega)]
    exact ⟨hm, (low_at hm (hl m hm)).2.2⟩) (posAt_low s s.size (Nat.le_refl _) hl s.size (Nat.le_refl _))
theorem valid_bad (s : ByteArray) (k : Nat) (hk : k < s.size) (hb : s.get! k = 255) (hl : ∀ i, i < k → lowB (s.get! i) = true) : valid s = (k : Int) := by
  have hp := posAt_low s k (by omega) hl
  have := valid_found (s := s) (j := k) (fun m hm => by
    rw [hp m (by omega)]
    exact ⟨by omega, (low_at (by omega) (hl m hm)).2.2⟩) (by rw [hp k (Nat.le_refl _)]; exact hk) (by rw [hp k (Nat.le_refl _)]; exact (bad_at hb hk).2.2)
  rw [hp k (Nat.le_refl _)] at this
  exact this
theorem clip_low (s : ByteArray) (m : Nat) (hm : m ≤ s.size) (hl : ∀ i, i < s.size → lowB (s.get! i) = true) : clip s (m : Int) = s.extract 0 m := by
  show s.extract 0 (posAt s ((m : Int).toNat)) = _
  rw [Int.toNat_natCast, posAt_low s s.size (Nat.le_refl _) hl m hm]
end Go.Proofs.YtepmfjhhmnmmeaaDoor
namespace Go.Proofs.YtepmfjhhmnmmeaaDoor
open Go.RowKit

theorem low_byte : ∀ r : Nat, r < 26 → (⟨#[97, 98, 99, 100, 101, 102, 103, 104, 105, 106, 107, 108, 109, 110, 111, 112, 113, 114, 115, 116, 117, 118, 119, 120, 121, 122]⟩ : ByteArray).get! r = UInt8.ofNat (97 + r) ∧ lowB (UInt8.ofNat (97 + r)) = true := by
  have h : ∀ r : Fin 26, (⟨#[97, 98, 99, 100, 101, 102, 103, 104, 105, 106, 107, 108, 109, 110, 111, 112, 113, 114, 115, 116, 117, 118, 119, 120, 121, 122]⟩ : ByteArray).get! r.val = UInt8.ofNat (97 + r.val) ∧ lowB (UInt8.ofNat (97 + r.val)) = true := by decide +kernel
  exact fun r hr => h ⟨r, hr⟩
set_option maxHeartbeats 2000000 in
set_option maxRecDepth 100000 in
theorem letters_any (n : Nat) (hn : n ≤ 1048576) (w : World) :
    Calls Tryd.prog 36 #[.int .i64 n] w fun e w' => ∃ l : List UInt8, e = .returned (.string ⟨l.toArray⟩) ∧ l.length = n ∧ (∀ b ∈ l, lowB b = true) ∧ Below w.heap.size w w' := by
  obtain ⟨i0, hi, hz0, hz1, hz2⟩ := info_parts byteInfo
  go_enter Tryd.func36, Tryd.ntmps36
  go_wp2
  obtain ⟨S, hS⟩ : ∃ S : ByteArray, S = ⟨#[97, 98, 99, 100, 101, 102, 103, 104, 105, 106, 107, 108, 109, 110, 111, 112, 113, 114, 115, 116, 117, 118, 119, 120, 121, 122]⟩ := ⟨_, rfl⟩
  have hSz : S.size = 26 := by rw [hS]; rfl
  have HAT : Hid (∀ r : Nat, r < 26 → S.get! r = UInt8.ofNat (97 + r) ∧ lowB (UInt8.ofNat (97 + r)) = true) := Lib.hid (by rw [hS]; exact low_byte)
  rw [← hS]
  clear hS
  go_loopw [3, 4] (fun l i wr => ∃ (k : Nat) (out : List UInt8), i = .int .i64 k ∧ k ≤ n ∧ ByteRow w.heap.size out l wr ∧ Below w.heap.size w wr ∧ Hid (out.length = k ∧ ∀ b ∈ out, lowB b = true)) (fun _ i _ => n - (intOf i).toNat)
  case atStart => exact ⟨0, [], rfl, by omega, byteRow_nil _ _, Below.refl _ _, Lib.hid ⟨rfl, fun b h => by cases h⟩⟩
  case round =>
    obtain ⟨k, out, rfl, hk, ho, hb, HL⟩ := hrel
    have HO := Lib.hid ho
    have Hb := Lib.hid hb
    have hsz := hb.size
    have hol := HL.out.1
    clear ho hb
    by_cases hlt : k < n
    · have hr : k % 26 < 26 := by omega
      have a1 : ((k : Int) % 26) = ((k % 26 : Nat) : Int) := by omega
      have a2 : ((k : Int).tmod 26) = ((k % 26 : Nat) : Int) := by
        rw [Int.tmod_eq_emod_of_nonneg (by omega)]
        omega
      obtain ⟨r, hrr⟩ : ∃ r, k % 26 = r := ⟨_, rfl⟩
      rw [hrr] at hr a1 a2
      have hg := get_at' (s := S) (p := r) (by omega)
      obtain ⟨hc1, hc2⟩ := HAT.out r hr
      obtain ⟨c, hc⟩ : ∃ c, S.get! r = c := ⟨_, rfl⟩
      rw [hc] at hg hc1
      rw [← hc1] at hc2
      have y1 : (r : Int) < (S.size : Int) := by omega
      have y0 : (0 : Int) ≤ (r : Int) := by omega
      have HL2 : Hid ((out ++ [c]).length = k + 1 ∧ ∀ b ∈ out ++ [c], lowB b = true) := Lib.hid ⟨by rw [List.length_append]; simp; omega, fun b hb => by
        rcases List.mem_append.1 hb with h | h
        · exact HL.out.2 b h
        · rw [List.mem_singleton.1 h]
          exact hc2⟩
      have HOL := Lib.hid hol
      have hol2 : out.length ≤ 1048576 := by omega
      clear hc1 hc2 hc hrr HL hol
      go_wp2_with (at_builtin; refine wpList_append_own _ rfl _ _ 81 rfl w.heap.size 5 i0 (.int .u8 0) 1 1 Tryd.underlying81 hi hz0 hz1 hz2 rfl (by decide) _ out.length (Lib.byteCells out) rfl (HO.out.alloc _) ⟨wr.heap.size, 0, none⟩ 1 1 [.int .u8 (c.toNat : Int)] rfl rfl ?c1 ?c2 ?c3 ?c4 ?c5 ?_)
      case c1 => intro j u hj; match j, hj with | 0, hj => simp at hj; subst hj; simp [Addr.add]
      case c2 => intro u hu; simp at hu; subst hu; rfl
      case c3 => unfold maxLen; omega
      case c4 => omega
      case c5 => simp; omega
      intro v5 w5 hown5 hgrow5 _
      have HB5 : Hid (Below w.heap.size w w5) := Lib.hid ((Hb.out.alloc hsz _).grown hgrow5 (by simp; omega) (fun b hb => (HO.out.lt b hb).1))
      have HO5 : Hid (ByteRow w.heap.size (out ++ [c]) v5 w5) := Lib.hid (byteRow_push hown5)
      clear hown5 hgrow5
      go_wp2
      all_goals go_roundw
      case rel => exact ⟨k + 1, out ++ [c], by go_num, by omega, HO5.out, HB5.out, HL2⟩
      case measure => simp [intOf]; omega
    · obtain rfl : k = n := by omega
      have hcv := byteRow_string HO.out
      clear hol
      go_wp2
      all_goals go_ret
      all_goals exact ⟨out, rfl, HL.out.1, HL.out.2, Hb.out⟩
end Go.Proofs.YtepmfjhhmnmmeaaDoor
namespace Go.Proofs.YtepmfjhhmnmmeaaDoor.textLong
open Go.RowKit

theorem get_list {s : ByteArray} {i : Nat} (h : i < s.size) : s.get! i = s.data.toList[i]'h := by
  rw [← get_at' h]
  rfl
theorem letters_at (n : Nat) (hn : n ≤ 1048576) (w : World) :
    Calls Tryd.prog 36 #[.int .i64 n] w fun e w' => ∃ s : ByteArray, e = .returned (.string s) ∧ s.size = n ∧ (∀ i, i < s.size → lowB (s.get! i) = true) ∧ Below w.heap.size w w' :=
  (letters_any n hn w).mono fun e w' ⟨l, he, h1, h2, hb⟩ => ⟨⟨l.toArray⟩, he, h1, fun i hi => by
    rw [get_list hi]
    exact h2 _ (List.getElem_mem _), hb⟩
/-- A stray byte in the place k. -/
def badT (s : ByteArray) (k : Nat) : ByteArray := s.extract 0 k ++ ⟨#[255]⟩ ++ s.extract (k + 1) s.size
theorem bad_list (s : ByteArray) (k : Nat) : (badT s k).data.toList = s.data.toList.take k ++ 255 :: s.data.toList.drop (k + 1) := by
  unfold badT
  simp only [ByteArray.data_append, Array.toList_append]
  rw [part_extract, tail_bytes]
  unfold partL
  simp
theorem bad_size (s : ByteArray) (k : Nat) (hk : k < s.size) : (badT s k).size = s.size := by
  have h := congrArg List.length (bad_list s k)
  rw [dlen] at h
  rw [h]
  have : s.data.toList.length = s.size := rfl
  simp only [List.length_append, List.length_take, List.length_cons, List.length_drop]
  omega
theorem bad_get (s : ByteArray) (k : Nat) (hk : k < s.size) : (badT s k).get! k = 255 ∧ ∀ i, i ≠ k → i < s.size → (badT s k).get! i = s.get! i := by
  have hz := bad_size s k hk
  have hl : s.data.toList.length = s.size := rfl
  have ht : (s.data.toList.take k).length = k := by rw [List.length_take]; omega
  refine ⟨?_, fun i hne hi => ?_⟩
  · rw [get_list (show k < (badT s k).size by omega)]
    simp only [bad_list]
    rw [List.getElem_append_right (by omega)]
    simp only [ht, Nat.sub_self, List.getElem_cons_zero]
  · rw [get_list (show i < (badT s k).size by omega), get_list hi]
    simp only [bad_list]
    by_cases h : i < k
    · rw [List.getElem_append_left (by omega), List.getElem_take]
    · rw [List.getElem_append_right (by omega)]
      obtain ⟨j, hj⟩ : ∃ j, i = k + 1 + j := ⟨i - (k + 1), by omega⟩
      subst hj
      simp only [ht, show k + 1 + j - k = j + 1 by omega, List.getElem_cons_succ, List.getElem_drop]
set_option maxHeartbeats 8000000 in
set_option maxRecDepth 100000 in
theorem walk (n0 k0 m0 : Int) (w : World) (hn0 : -9223372036854775808 ≤ n0 ∧ n0 ≤ 9223372036854775807) (hk0 : -9223372036854775808 ≤ k0 ∧ k0 ≤ 9223372036854775807) (hm0 : -9223372036854775808 ≤ m0 ∧ m0 ≤ 9223372036854775807) (hU : U8 w) (hT : TZ w) (hL : LT w) (hR : LR w) (hH : RefHid w) :
    Calls Tryd.prog 12 #[.int .i64 n0, .int .i64 k0, .int .i64 m0] w fun e w' => e = .returned (.bool true) ∧ Below w.heap.size w w' := by
  have HU := Lib.hid hU
  have HT := Lib.hid hT
  have HL := Lib.hid hL
  have HR := Lib.hid hR
  have HH := Lib.hid hH
  clear hU hT hL hR hH
  obtain ⟨A, hA⟩ : ∃ A, max n0 1 = A := ⟨_, rfl⟩
  obtain ⟨N, hN⟩ : ∃ N : Nat, min A 1048576 = (N : Int) := ⟨(min A 1048576).toNat, by omega⟩
  obtain ⟨B, hB⟩ : ∃ B, max k0 0 = B := ⟨_, rfl⟩
  obtain ⟨k, hk⟩ : ∃ k : Nat, min B ((N : Int) - 1) = (k : Int) := ⟨(min B ((N : Int) - 1)).toNat, by omega⟩
  obtain ⟨D, hD⟩ : ∃ D, max m0 0 = D := ⟨_, rfl⟩
  obtain ⟨m, hm⟩ : ∃ m : Nat, min D (N : Int) = (m : Int) := ⟨(min D (N : Int)).toNat, by omega⟩
  have hN1 : 1 ≤ N := by omega
  have hN2 : N ≤ 1048576 := by omega
  have hkN : k < N := by omega
  have hmN : m ≤ N := by omega
  have hle := Lib.hid (fun w => letters_at N hN2 w)
  clear hn0 hk0 hm0
  go_enter Tryd.func12, Tryd.ntmps12
  go_wp2_with (go_at_call 36; (with_reducible refine (hle.out _).mono ?_); rintro e w1 ⟨s, rfl, hl1, hl2, hb1⟩; have HB1 := Lib.hid hb1; have HLS := Lib.hid hl1; have HL2 := Lib.hid hl2; clear hb1 hl1 hl2)
  have hsz := HLS.out
  have x0 : (0 : Int) ≤ (k : Int) := by omega
  have x1 : (k : Int) ≤ (s.size : Int) := by omega
  have x2 : IntKind.i64.wrap ((k : Int) + 1) = (k : Int) + 1 := by simp [IntKind.wrap, IntKind.bits, IntKind.signed]; omega
  have x3 : (k : Int) + 1 ≤ (s.size : Int) := by omega
  have x4 : ((k : Int) + 1).toNat = k + 1 := by omega
  have x5 : (0 : Int) ≤ (k : Int) + 1 := by omega
  have x6 : ¬ 9223372036854775807 < (s.extract 0 k ++ (⟨#[255]⟩ : ByteArray)).size + (s.extract (k + 1) s.size).size := by
    rw [ByteArray.size_append, ByteArray.size_extract, ByteArray.size_extract]
    show ¬ 9223372036854775807 < _ + 1 + _
    omega
  have hs2 : s.size ≤ 1048576 := by omega
  clear hsz
  go_region
  have HB : Hid (Below w.heap.size w w1.drew) := Lib.hid HB1.out.drew
  have hsz' := HLS.out
  have hbz := bad_size s k (by omega)
  obtain ⟨hb1, hb2⟩ := bad_get s k (by omega)
  have hlow := HL2.out
  have hlowb : ∀ i, i ≠ k → i < (badT s k).size → lowB ((badT s k).get! i) = true := fun i hi hs => by
    rw [hb2 i hi (by omega)]
    exact hlow i (by omega)
  have hv1 := fun W (h : Below w.heap.size w W) => valid_any s W (by omega) (u8_below HU.out h)
  have hv2 := fun W (h : Below w.heap.size w W) => valid_any (badT s k) W (by omega) (u8_below HU.out h)
  rw [valid_low s hlow] at hv1
  rw [valid_bad (badT s k) k (by omega) hb1 (fun i hi => hlowb i (by omega) (by omega))] at hv2
  have hc1 := fun W (_ : Below w.heap.size w W) => clip_any s (m : Int) W (by omega)
  have hc2 := fun W (_ : Below w.heap.size w W) => clip_any s (N : Int) W (by omega)
  have hc3 := fun W (_ : Below w.heap.size w W) => clip_any (badT s k) (N : Int) W (by omega)
  rw [clip_low s m (by omega) hlow] at hc1
  rw [show clip s (N : Int) = s by rw [← HLS.out]; exact clip_whole s] at hc2
  rw [show clip (badT s k) (N : Int) = badT s k by rw [← HLS.out, ← hbz]; exact clip_whole _] at hc3
  have hql := quoteL_low s hlow
  have hqb := quoteL_bad (badT s k) k (by omega) hb1 hlowb
  have hq1 := fun W (h : Below w.heap.size w W) => quote_any s (by omega) W (u8_below HU.out h) (HT.out.below h)
  have hq2 := fun W (h : Below w.heap.size w W) => quote_any (badT s k) (by omega) W (u8_below HU.out h) (HT.out.below h)
  have hz1 : (quoteL s).length = N + 2 := by
    rw [hql]
    simp only [List.length_cons, List.length_append, List.length_nil]
    have : s.data.toList.length = s.size := rfl
    have := HLS.out
    omega
  have hz2 : (quoteL (badT s k)).length = N + 5 := by rw [hqb, hbz, HLS.out]
  have hu1 := fun W (h : Below w.heap.size w W) => unquote_any ⟨(quoteL s).toArray⟩ 0 (by show (quoteL s).length ≤ _; omega) W (u8_below HU.out h) (HT.out.below h)
  have hu2 := fun W (h : Below w.heap.size w W) => unquote_any ⟨(quoteL (badT s k)).toArray⟩ 0 (by show (quoteL (badT s k)).length ≤ _; omega) W (u8_below HU.out h) (HT.out.below h)
  have e1 : unquoteR ⟨(quoteL s).toArray⟩ 0 = (s, ((N + 2 : Nat) : Int), 0) := by
    have h := unquote_quote ⟨(quoteL s).toArray⟩ s 0 [] (by simp)
    rw [Nat.zero_add, hz1] at h
    exact h
  have e2 : unquoteR ⟨(quoteL (badT s k)).toArray⟩ 0 = (badT s k, ((N + 5 : Nat) : Int), 0) := by
    have h := unquote_quote ⟨(quoteL (badT s k)).toArray⟩ (badT s k) 0 [] (by simp)
    rw [Nat.zero_add, hz2] at h
    exact h
  rw [e1] at hu1
  rw [e2] at hu2
  unfold unqV at hu1 hu2
  have hQ1 : (⟨(quoteL s).toArray⟩ : ByteArray) = ⟨#[34]⟩ ++ s ++ ⟨#[34]⟩ := by
    apply ByteArray.ext
    rw [hql]
    simp
  rw [hQ1] at hq1 hu1
  obtain ⟨Q2, hQ2⟩ : ∃ Q : ByteArray, ⟨(quoteL (badT s k)).toArray⟩ = Q := ⟨_, rfl⟩
  rw [hQ2] at hq2 hu2
  obtain ⟨T, hTT⟩ : ∃ T, badT s k = T := ⟨_, rfl⟩
  rw [hTT] at hv2 hc3 hq2 hu2 hbz
  have hTT2 : s.extract 0 k ++ (⟨#[255]⟩ : ByteArray) ++ s.extract (k + 1) s.size = T := hTT
  rw [hTT2]
  have hv1 := Lib.hid hv1
  have hv2 := Lib.hid hv2
  have hc1 := Lib.hid hc1
  have hc2 := Lib.hid hc2
  have hc3 := Lib.hid hc3
  have hq1 := Lib.hid hq1
  have hq2 := Lib.hid hq2
  have hu1 := Lib.hid hu1
  have hu2 := Lib.hid hu2
  have HBZ := Lib.hid hbz
  have y1 : (m : Int) ≤ (s.size : Int) := by have := HLS.out; omega
  have y0 : (0 : Int) ≤ (m : Int) := by omega
  have w2 : IntKind.i64.wrap ((N : Int) + 2) = ((N + 2 : Nat) : Int) := by simp [IntKind.wrap, IntKind.bits, IntKind.signed]; omega
  have w5 : IntKind.i64.wrap ((N : Int) + 5) = ((N + 5 : Nat) : Int) := by simp [IntKind.wrap, IntKind.bits, IntKind.signed]; omega
  clear hsz' hTT hTT2 hQ1 hQ2 e1 e2 hz1 hz2 hql hqb hlow hlowb hb1 hb2 hbz
  go_wp2_with (first
    | (go_at_call 17; (with_reducible refine (hv1.out _ HB.out).mono ?_); rintro e wx ⟨rfl, hb⟩; have HB' := Lib.hid (then_ HB.out hb); clear HB hb; have HB := HB'; clear HB')
    | (go_at_call 17; (with_reducible refine (hv2.out _ HB.out).mono ?_); rintro e wx ⟨rfl, hb⟩; have HB' := Lib.hid (then_ HB.out hb); clear HB hb; have HB := HB'; clear HB'))
  refine wp_region_held_drew (S := (fun W => Below w.heap.size w W)) (by kernel_rfl) (HB.out.drew) (fun hHeld => ?_)
  refine wpAnyH_take (i := 0) (oi := { dst := some 57, op := Op.move (Operand.tmp 7), type := 9, pos := "again.go:30", after := #[], guard := none }) (v := ?_) rfl (by kernel_rfl) (by kernel_rfl) (by kernel_rfl) (fun _ _ _ h => h) (Or.inl ⟨by rfl, ?_⟩) (by assumption) ?_
  rotate_left 1
  focus (intro w hSw; (try clear hSw); go_simp; try (with_reducible rfl))
  try go_frame
  refine wpAnyH_take (i := 1) (oi := { dst := some 58, op := Op.move (Operand.tmp 2), type := 3, pos := "again.go:30", after := #[], guard := none }) (v := ?_) rfl (by kernel_rfl) (by kernel_rfl) (by kernel_rfl) (fun _ _ _ h => h) (Or.inl ⟨by rfl, ?_⟩) (by assumption) ?_
  rotate_left 1
  focus (intro w hSw; (try clear hSw); go_simp; try (with_reducible rfl))
  try go_frame
  refine wpAnyH_take (i := 3) (oi := { dst := some 60, op := Op.move (Operand.tmp 7), type := 9, pos := "again.go:30", after := #[], guard := none }) (v := ?_) rfl (by kernel_rfl) (by kernel_rfl) (by kernel_rfl) (fun _ _ _ h => h) (Or.inl ⟨by rfl, ?_⟩) (by assumption) ?_
  rotate_left 1
  focus (intro w hSw; (try clear hSw); go_simp; try (with_reducible rfl))
  try go_frame
  refine wpAnyH_take (i := 4) (oi := { dst := some 61, op := Op.move (Operand.tmp 2), type := 3, pos := "again.go:30", after := #[], guard := none }) (v := ?_) rfl (by kernel_rfl) (by kernel_rfl) (by kernel_rfl) (fun _ _ _ h => h) (Or.inl ⟨by rfl, ?_⟩) (by assumption) ?_
  rotate_left 1
  focus (intro w hSw; (try clear hSw); go_simp; try (with_reducible rfl))
  try go_frame
  refine wpAnyH_take (i := 5) (oi := { dst := some 62, op := Op.slice 9 (Operand.tmp 60) none (some (Operand.tmp 61)) none, type := 9, pos := "again.go:30", after := #[{ on := 3, ground := Ground.data }, { on := 4, ground := Ground.data }], guard := none }) (v := ?_) rfl (by kernel_rfl) (by kernel_rfl) (by kernel_rfl) (fun _ _ _ h => h) (Or.inl ⟨by rfl, ?_⟩) (by assumption) ?_
  rotate_left 1
  focus (intro w hSw; (try clear hSw); go_simp; try (with_reducible rfl))
  try go_frame
  refine wpAnyH_ready (rs := [2]) (by kernel_rfl) (by simp) ?_
  refine AllReadyH.cons (o := { dst := some 59, op := Op.call { callee := Callee.value (Operand.func 16), args := #[Operand.tmp 57, Operand.tmp 58], argTypes := #[9, 3] }, type := 9, pos := "again.go:30", after := #[{ on := 0, ground := Ground.data }, { on := 1, ground := Ground.data }], guard := none }) rfl (fun K hK => ?_) ?_
  · go_simp
    refine (hc1.out _ hHeld).mono ?_
    rintro e w5 ⟨rfl, hb5⟩
    try go_wp2_with fail
    refine hK.out _ _ (then_ hHeld hb5) (fun hHeld => ?_)
    clear hK K
    try go_frame
    refine wpAnyH_take (i := 6) (oi := { dst := some 63, op := Op.binOp BinOp.neq 9 (Operand.tmp 59) (Operand.tmp 62) 9, type := 4, pos := "again.go:30", after := #[{ on := 2, ground := Ground.data }, { on := 5, ground := Ground.data }], guard := none }) (v := ?_) rfl (by kernel_rfl) (by kernel_rfl) (by kernel_rfl) (fun _ _ _ h => h) (Or.inl ⟨by rfl, ?_⟩) (by assumption) ?_
    rotate_left 1
    focus (intro w hSw; (try clear hSw); go_simp; try (with_reducible rfl))
    try go_frame
    refine wpAnyH_take (i := 7) (oi := { dst := some 64, op := Op.move (Operand.tmp 63), type := 4, pos := "again.go:30", after := #[{ on := 6, ground := Ground.data }, { on := 2, ground := Ground.chain }], guard := none }) (v := ?_) rfl (by kernel_rfl) (by kernel_rfl) (by kernel_rfl) (fun _ _ _ h => h) (Or.inl ⟨by rfl, ?_⟩) (by assumption) ?_
    rotate_left 1
    focus (intro w hSw; (try clear hSw); go_simp; try (with_reducible rfl))
    try go_frame
    refine wpAnyH_take (i := 8) (oi := { dst := some 65, op := Op.move (Operand.tmp 7), type := 9, pos := "again.go:30", after := #[{ on := 7, ground := Ground.guard }], guard := some (7, false) }) (v := ?_) rfl (by kernel_rfl) (by kernel_rfl) (by kernel_rfl) (fun _ _ _ h => h) (Or.inl ⟨by rfl, ?_⟩) (by assumption) ?_
    rotate_left 1
    focus (intro w hSw; (try clear hSw); go_simp; try (with_reducible rfl))
    try go_frame
    refine wpAnyH_take (i := 9) (oi := { dst := some 66, op := Op.move (Operand.tmp 0), type := 3, pos := "again.go:30", after := #[{ on := 7, ground := Ground.guard }], guard := some (7, false) }) (v := ?_) rfl (by kernel_rfl) (by kernel_rfl) (by kernel_rfl) (fun _ _ _ h => h) (Or.inl ⟨by rfl, ?_⟩) (by assumption) ?_
    rotate_left 1
    focus (intro w hSw; (try clear hSw); go_simp; try (with_reducible rfl))
    try go_frame
    refine wpAnyH_take (i := 11) (oi := { dst := some 68, op := Op.move (Operand.tmp 7), type := 9, pos := "again.go:30", after := #[{ on := 7, ground := Ground.guard }], guard := some (7, false) }) (v := ?_) rfl (by kernel_rfl) (by kernel_rfl) (by kernel_rfl) (fun _ _ _ h => h) (Or.inl ⟨by rfl, ?_⟩) (by assumption) ?_
    rotate_left 1
    focus (intro w hSw; (try clear hSw); go_simp; try (with_reducible rfl))
    try go_frame
    refine wpAnyH_ready (rs := [10]) (by kernel_rfl) (by simp) ?_
    refine AllReadyH.cons (o := { dst := some 67, op := Op.call { callee := Callee.value (Operand.func 16), args := #[Operand.tmp 65, Operand.tmp 66], argTypes := #[9, 3] }, type := 9, pos := "again.go:30", after := #[{ on := 8, ground := Ground.data }, { on := 9, ground := Ground.data }, { on := 7, ground := Ground.chain }, { on := 7, ground := Ground.guard }], guard := some (7, false) }) rfl (fun K hK => ?_) ?_
    · go_simp
      refine (hc2.out _ hHeld).mono ?_
      rintro e w5 ⟨rfl, hb5⟩
      try go_wp2_with fail
      refine hK.out _ _ (then_ hHeld hb5) (fun hHeld => ?_)
      clear hK K
      try go_frame
      refine wpAnyH_take (i := 12) (oi := { dst := some 69, op := Op.binOp BinOp.neq 9 (Operand.tmp 67) (Operand.tmp 68) 9, type := 4, pos := "again.go:30", after := #[{ on := 10, ground := Ground.data }, { on := 11, ground := Ground.data }, { on := 7, ground := Ground.guard }], guard := some (7, false) }) (v := ?_) rfl (by kernel_rfl) (by kernel_rfl) (by kernel_rfl) (fun _ _ _ h => h) (Or.inl ⟨by rfl, ?_⟩) (by assumption) ?_
      rotate_left 1
      focus (intro w hSw; (try clear hSw); go_simp; try (with_reducible rfl))
      try go_frame
      refine wpAnyH_take (i := 13) (oi := { dst := some 70, op := Op.pick (Operand.tmp 64) (Operand.const (Value.bool true)) (Operand.tmp 69), type := 4, pos := "again.go:30", after := #[{ on := 7, ground := Ground.data }, { on := 12, ground := Ground.data }], guard := none }) (v := ?_) rfl (by kernel_rfl) (by kernel_rfl) (by kernel_rfl) (fun _ _ _ h => h) (Or.inl ⟨by rfl, ?_⟩) (by assumption) ?_
      rotate_left 1
      focus (intro w hSw; (try clear hSw); go_simp; try (with_reducible rfl))
      try go_frame
      refine wpAnyH_take (i := 14) (oi := { dst := some 71, op := Op.move (Operand.tmp 70), type := 4, pos := "again.go:30", after := #[{ on := 13, ground := Ground.data }, { on := 10, ground := Ground.chain }], guard := none }) (v := ?_) rfl (by kernel_rfl) (by kernel_rfl) (by kernel_rfl) (fun _ _ _ h => h) (Or.inl ⟨by rfl, ?_⟩) (by assumption) ?_
      rotate_left 1
      focus (intro w hSw; (try clear hSw); go_simp; try (with_reducible rfl))
      try go_frame
      refine wpAnyH_take (i := 15) (oi := { dst := some 72, op := Op.move (Operand.tmp 8), type := 9, pos := "again.go:30", after := #[{ on := 14, ground := Ground.guard }], guard := some (14, false) }) (v := ?_) rfl (by kernel_rfl) (by kernel_rfl) (by kernel_rfl) (fun _ _ _ h => h) (Or.inl ⟨by rfl, ?_⟩) (by assumption) ?_
      rotate_left 1
      focus (intro w hSw; (try clear hSw); go_simp; try (with_reducible rfl))
      try go_frame
      refine wpAnyH_take (i := 16) (oi := { dst := some 73, op := Op.move (Operand.tmp 0), type := 3, pos := "again.go:30", after := #[{ on := 14, ground := Ground.guard }], guard := some (14, false) }) (v := ?_) rfl (by kernel_rfl) (by kernel_rfl) (by kernel_rfl) (fun _ _ _ h => h) (Or.inl ⟨by rfl, ?_⟩) (by assumption) ?_
      rotate_left 1
      focus (intro w hSw; (try clear hSw); go_simp; try (with_reducible rfl))
      try go_frame
      refine wpAnyH_take (i := 18) (oi := { dst := some 75, op := Op.move (Operand.tmp 8), type := 9, pos := "again.go:30", after := #[{ on := 14, ground := Ground.guard }], guard := some (14, false) }) (v := ?_) rfl (by kernel_rfl) (by kernel_rfl) (by kernel_rfl) (fun _ _ _ h => h) (Or.inl ⟨by rfl, ?_⟩) (by assumption) ?_
      rotate_left 1
      focus (intro w hSw; (try clear hSw); go_simp; try (with_reducible rfl))
      try go_frame
      refine wpAnyH_ready (rs := [17]) (by kernel_rfl) (by simp) ?_
      refine AllReadyH.cons (o := { dst := some 74, op := Op.call { callee := Callee.value (Operand.func 16), args := #[Operand.tmp 72, Operand.tmp 73], argTypes := #[9, 3] }, type := 9, pos := "again.go:30", after := #[{ on := 15, ground := Ground.data }, { on := 16, ground := Ground.data }, { on := 14, ground := Ground.chain }, { on := 14, ground := Ground.guard }], guard := some (14, false) }) rfl (fun K hK => ?_) ?_
      · go_simp
        refine (hc3.out _ hHeld).mono ?_
        rintro e w5 ⟨rfl, hb5⟩
        try go_wp2_with fail
        refine hK.out _ _ (then_ hHeld hb5) (fun hHeld => ?_)
        clear hK K
        try go_frame
        refine wpAnyH_take (i := 19) (oi := { dst := some 76, op := Op.binOp BinOp.neq 9 (Operand.tmp 74) (Operand.tmp 75) 9, type := 4, pos := "again.go:30", after := #[{ on := 17, ground := Ground.data }, { on := 18, ground := Ground.data }, { on := 14, ground := Ground.guard }], guard := some (14, false) }) (v := ?_) rfl (by kernel_rfl) (by kernel_rfl) (by kernel_rfl) (fun _ _ _ h => h) (Or.inl ⟨by rfl, ?_⟩) (by assumption) ?_
        rotate_left 1
        focus (intro w hSw; (try clear hSw); go_simp; try (with_reducible rfl))
        try go_frame
        refine wpAnyH_take (i := 20) (oi := { dst := some 77, op := Op.pick (Operand.tmp 71) (Operand.const (Value.bool true)) (Operand.tmp 76), type := 4, pos := "again.go:30", after := #[{ on := 14, ground := Ground.data }, { on := 19, ground := Ground.data }], guard := none }) (v := ?_) rfl (by kernel_rfl) (by kernel_rfl) (by kernel_rfl) (fun _ _ _ h => h) (Or.inl ⟨by rfl, ?_⟩) (by assumption) ?_
        rotate_left 1
        focus (intro w hSw; (try clear hSw); go_simp; try (with_reducible rfl))
        try go_frame
        refine wpAnyH_done (by kernel_rfl) ?_ _
        have HB := Lib.hid hHeld
        clear hHeld
        go_wp2_with (first
          | (go_at_call 24; (with_reducible refine (hq1.out _ HB.out).mono ?_); rintro e wx ⟨rfl, hb⟩; have HB' := Lib.hid (then_ HB.out hb); clear HB hb; have HB := HB'; clear HB')
          | (go_at_call 24; (with_reducible refine (hq2.out _ HB.out).mono ?_); rintro e wx ⟨rfl, hb⟩; have HB' := Lib.hid (then_ HB.out hb); clear HB hb; have HB := HB'; clear HB')
          | (go_at_call 22; (with_reducible refine (hu1.out _ HB.out).mono ?_); rintro e wx ⟨rfl, hb⟩; have HB' := Lib.hid (then_ HB.out hb); clear HB hb; have HB := HB'; clear HB')
          | (go_at_call 22; (with_reducible refine (hu2.out _ HB.out).mono ?_); rintro e wx ⟨rfl, hb⟩; have HB' := Lib.hid (then_ HB.out hb); clear HB hb; have HB := HB'; clear HB'))
        have hTs : T.size ≤ 1048576 := by have := HBZ.out; omega
        go_loopw [14, 15, 16, 17, 18, 19, 20, 21, 22, 23, 24, 129] (fun _ _ _ _ _ _ _ _ _ _ _ x wr => ∃ q : Nat, x = .int .i64 q ∧ q ≤ 2 ∧ Below w.heap.size w wr) (fun _ _ _ _ _ _ _ _ _ _ _ x _ => 2 - (intOf x).toNat)
        case atStart => exact ⟨0, rfl, by omega, HB.out⟩
        case round =>
          obtain ⟨q, rfl, hq, hb⟩ := hrel
          clear HB
          have HB := Lib.hid hb
          clear hb
          by_cases q0 : q = 0
          · subst q0
            have n1 := fun W (h : Below w.heap.size w W) => name_any s W (by omega) (u8_below HU.out h) (PairsAt.below HL.out h)
            have n2 := fun W (h : Below w.heap.size w W) => refName_any s (by omega) W (PairsAt.below HR.out h)
            have n3 := fun W (h : Below w.heap.size w W) => words_any s (by omega) W (u8_below HU.out h) (HT.out.below h) (PairsAt.below HL.out h)
            have n4 := fun W (h : Below w.heap.size w W) => refWords_any s (by omega) W (PairsAt.below HH.out h) (PairsAt.below HR.out h)
            have hln := wordsR_len s
            obtain ⟨⟨L, E, P⟩, hx⟩ : ∃ x, wordsR s = x := ⟨_, rfl⟩
            obtain ⟨⟨E2, P2⟩, hx2⟩ : ∃ x, nameA s = x := ⟨_, rfl⟩
            simp only [hx] at n3 n4 hln
            simp only [hx2] at n1 n2
            have hLn : L.length ≤ 1099511627776 := by omega
            have n1 := Lib.hid n1
            have n2 := Lib.hid n2
            have n3 := Lib.hid n3
            have n4 := Lib.hid n4
            clear hx hx2 hln
            go_wp2_with fail
            rename_i hKa
            refine hKa (Act.put _ _ (.string s)) _ ?_
            clear hKa
            go_wp2_with (first
              | (go_at_call 18; (with_reducible refine (n1.out _ HB.out).mono ?_); rintro e wx ⟨rfl, hb⟩; have HB' := Lib.hid (then_ HB.out hb); clear HB hb; have HB := HB'; clear HB')
              | (go_at_call 19; (with_reducible refine (n2.out _ HB.out).mono ?_); rintro e wx ⟨rfl, hb⟩; have HB' := Lib.hid (then_ HB.out hb); clear HB hb; have HB := HB'; clear HB')
              | (go_at_call 28; (with_reducible refine (n3.out _ HB.out).mono ?_); rintro e wx ⟨v1, rfl, r1, hb⟩; have R1 := Lib.hid r1.in_; clear r1; have HB' := Lib.hid (then_ HB.out hb); clear HB hb; have HB := HB'; clear HB')
              | (go_at_call 30; (with_reducible refine (n4.out _ HB.out).mono ?_); rintro e wx ⟨v2, rfl, r2, hb⟩; have R2 := Lib.hid r2.in_; have R3 := Lib.hid (R1.out.below hb); clear r2; have HB' := Lib.hid (then_ HB.out hb); clear HB hb; have HB := HB'; clear HB')
              | (go_at_call 29; (with_reducible refine (sameWords_any L _ _ _ R3.out R2.out hLn).mono ?_); rintro e wx ⟨rfl, hd⟩; have hb := hd.below; clear hd; have HB' := Lib.hid (then_ HB.out hb); clear HB hb; have HB := HB'; clear HB'))
            all_goals go_roundw
            case rel => exact ⟨1, rfl, by omega, HB.out⟩
            case measure => simp [intOf]
          by_cases q1 : q = 1
          · subst q1
            have n1 := fun W (h : Below w.heap.size w W) => name_any T W (by omega) (u8_below HU.out h) (PairsAt.below HL.out h)
            have n2 := fun W (h : Below w.heap.size w W) => refName_any T (by omega) W (PairsAt.below HR.out h)
            have n3 := fun W (h : Below w.heap.size w W) => words_any T (by omega) W (u8_below HU.out h) (HT.out.below h) (PairsAt.below HL.out h)
            have n4 := fun W (h : Below w.heap.size w W) => refWords_any T (by omega) W (PairsAt.below HH.out h) (PairsAt.below HR.out h)
            have hln := wordsR_len T
            obtain ⟨⟨L, E, P⟩, hx⟩ : ∃ x, wordsR T = x := ⟨_, rfl⟩
            obtain ⟨⟨E2, P2⟩, hx2⟩ : ∃ x, nameA T = x := ⟨_, rfl⟩
            simp only [hx] at n3 n4 hln
            simp only [hx2] at n1 n2
            have hLn : L.length ≤ 1099511627776 := by omega
            have n1 := Lib.hid n1
            have n2 := Lib.hid n2
            have n3 := Lib.hid n3
            have n4 := Lib.hid n4
            clear hx hx2 hln
            go_wp2_with fail
            rename_i hKa
            refine hKa (Act.put _ _ (.string T)) _ ?_
            clear hKa
            go_wp2_with (first
              | (go_at_call 18; (with_reducible refine (n1.out _ HB.out).mono ?_); rintro e wx ⟨rfl, hb⟩; have HB' := Lib.hid (then_ HB.out hb); clear HB hb; have HB := HB'; clear HB')
              | (go_at_call 19; (with_reducible refine (n2.out _ HB.out).mono ?_); rintro e wx ⟨rfl, hb⟩; have HB' := Lib.hid (then_ HB.out hb); clear HB hb; have HB := HB'; clear HB')
              | (go_at_call 28; (with_reducible refine (n3.out _ HB.out).mono ?_); rintro e wx ⟨v1, rfl, r1, hb⟩; have R1 := Lib.hid r1.in_; clear r1; have HB' := Lib.hid (then_ HB.out hb); clear HB hb; have HB := HB'; clear HB')
              | (go_at_call 30; (with_reducible refine (n4.out _ HB.out).mono ?_); rintro e wx ⟨v2, rfl, r2, hb⟩; have R2 := Lib.hid r2.in_; have R3 := Lib.hid (R1.out.below hb); clear r2; have HB' := Lib.hid (then_ HB.out hb); clear HB hb; have HB := HB'; clear HB')
              | (go_at_call 29; (with_reducible refine (sameWords_any L _ _ _ R3.out R2.out hLn).mono ?_); rintro e wx ⟨rfl, hd⟩; have hb := hd.below; clear hd; have HB' := Lib.hid (then_ HB.out hb); clear HB hb; have HB := HB'; clear HB'))
            all_goals go_roundw
            case rel => exact ⟨2, rfl, by omega, HB.out⟩
            case measure => simp [intOf]
          obtain rfl : q = 2 := by omega
          go_wp2_with fail
          all_goals go_ret
          all_goals exact ⟨rfl, HB.out⟩
      exact AllReadyH.nil
    exact AllReadyH.nil
  exact AllReadyH.nil
end Go.Proofs.YtepmfjhhmnmmeaaDoor.textLong
