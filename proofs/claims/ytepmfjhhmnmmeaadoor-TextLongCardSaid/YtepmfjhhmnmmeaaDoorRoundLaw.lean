/-
  What is quoted is read as it was, with anything ahead of it and behind it, in plain terms. Conditions: none.
-/
import Derived.Test.YtepmfjhhmnmmeaaDoorUnqLaw
namespace Go.Proofs.YtepmfjhhmnmmeaaDoor
open Go.RowKit

theorem at_size {t : ByteArray} {P : Nat} {l : List UInt8} (H : t.data.toList.drop P = l) (h0 : l ≠ []) : t.size = P + l.length := by
  have h := congrArg List.length H
  rw [List.length_drop, dlen] at h
  have : 0 < l.length := List.length_pos_iff.2 h0
  omega
theorem at_get {t : ByteArray} {P : Nat} {l : List UInt8} (H : t.data.toList.drop P = l) (j : Nat) (hj : j < l.length) : t.get! (P + j) = l[j] := by
  have hs := at_size H (fun e => by subst e; simp at hj)
  rw [← get_at' (show P + j < t.size by omega)]
  subst H
  rw [List.getElem_drop]
  rfl
theorem at_drop {t : ByteArray} {P : Nat} {l : List UInt8} (H : t.data.toList.drop P = l) (j : Nat) : t.data.toList.drop (P + j) = l.drop j := by
  rw [← List.drop_drop, H]
theorem at_part {t : ByteArray} {P : Nat} {l : List UInt8} (H : t.data.toList.drop P = l) (a n : Nat) : partL t (P + a) n = (l.drop a).take n := by
  unfold partL
  rw [at_drop H]
theorem at_decode {t : ByteArray} {P : Nat} {l : List UInt8} (H : t.data.toList.drop P = l) : Utf8.decode t P = Lib.decodeL l := by
  rw [← H, Lib.decodeL_drop]
theorem byteN {n : Nat} (h : n < 256) : (UInt8.ofNat n).toNat = n := by
  rw [UInt8.toNat_ofNat']
  omega
theorem decode_enc {r : Nat} (h : validR r = true) (rest : List UInt8) : Lib.decodeL (encL r ++ rest) = (r, (encL r).length) := by
  unfold validR at h
  simp at h
  rw [Lib.decodeL_N]
  unfold encL
  by_cases c1 : r < 128
  · rw [if_pos c1]
    simp only [List.cons_append, List.nil_append, List.getD_cons_zero, List.length_cons, List.length_nil]
    rw [byteN (by omega)]
    unfold Lib.decodeN
    rw [if_pos c1]
  by_cases c2 : r < 2048
  · rw [if_neg c1, if_pos c2]
    simp only [List.cons_append, List.nil_append, List.getD_cons_zero, List.getD_cons_succ, List.length_cons, List.length_nil]
    rw [byteN (show 0xC0 + r / 64 < 256 by omega), byteN (show 0x80 + r % 64 < 256 by omega)]
    unfold Lib.decodeN
    rw [if_neg (by omega), if_pos (by refine ⟨?_, ?_, ?_⟩ <;> omega), if_pos (by omega)]
    exact Prod.ext (by simp only; omega) rfl
  by_cases c3 : r < 65536
  · rw [if_neg c1, if_neg c2, if_pos c3]
    simp only [List.cons_append, List.nil_append, List.getD_cons_zero, List.getD_cons_succ, List.length_cons, List.length_nil]
    rw [byteN (show 0xE0 + r / 4096 < 256 by omega), byteN (show 0x80 + r / 64 % 64 < 256 by omega), byteN (show 0x80 + r % 64 < 256 by omega)]
    unfold Lib.decodeN
    rw [if_neg (by omega), if_neg (by omega), if_pos (by refine ⟨?_, ⟨?_, ?_⟩, ?_, ?_⟩ <;> omega), if_pos (by omega)]
    exact Prod.ext (by simp only; omega) rfl
  · rw [if_neg c1, if_neg c2, if_neg c3]
    simp only [List.cons_append, List.nil_append, List.getD_cons_zero, List.getD_cons_succ, List.length_cons, List.length_nil]
    rw [byteN (show 0xF0 + r / 262144 < 256 by omega), byteN (show 0x80 + r / 4096 % 64 < 256 by omega), byteN (show 0x80 + r / 64 % 64 < 256 by omega), byteN (show 0x80 + r % 64 < 256 by omega)]
    unfold Lib.decodeN
    rw [if_neg (by omega), if_neg (by omega), if_neg (by omega), if_pos (by refine ⟨?_, ⟨?_, ?_⟩, ⟨?_, ?_⟩, ?_, ?_⟩ <;> omega), if_pos (by omega)]
    exact Prod.ext (by simp only; omega) rfl
theorem dig_val : ∀ d : Nat, d < 16 → hexV (hexDig d) = some d := by
  have h : ∀ d : Fin 16, hexV (hexDig d.val) = some d.val := by decide +kernel
  exact fun d hd => h ⟨d, hd⟩
theorem dig_brace : ∀ d : Nat, d < 16 → (hexDig d == 125) = false := by
  have h : ∀ d : Fin 16, (hexDig d.val == 125) = false := by decide +kernel
  exact fun d hd => h ⟨d, hd⟩
theorem hexN_snoc (l : List UInt8) (v d : Nat) (h : hexN l = some v) (hd : d < 16) : hexN (l ++ [hexDig d]) = some (v * 16 + d) := by
  rw [hexN_fold] at h ⊢
  rw [List.foldl_append, h]
  show hexStep (some v) (hexDig d) = _
  unfold hexStep
  rw [dig_val d hd]
theorem hexUp_read : ∀ (f n : Nat), n < 16 ^ (f + 1) → hexN (hexUp f n) = some n
  | 0, n, h => by
    have hn : n < 16 := by simpa using h
    have := hexN_snoc [] 0 (n % 16) rfl (by omega)
    unfold hexUp
    simp only [List.nil_append] at this
    rw [this]
    congr 1
    omega
  | f + 1, n, h => by
    unfold hexUp
    split
    · have := hexN_snoc [] 0 n rfl (by omega)
      simp only [List.nil_append] at this
      rw [this]
      congr 1
      omega
    · have hn : n / 16 < 16 ^ (f + 1) := by
        rw [Nat.pow_succ] at h
        omega
      rw [hexN_snoc _ _ _ (hexUp_read f (n / 16) hn) (by omega)]
      congr 1
      omega
theorem hexUp_short : ∀ (k f n : Nat), n < 16 ^ (k + 1) → 1 ≤ (hexUp f n).length ∧ (hexUp f n).length ≤ k + 1
  | _, 0, _, _ => by unfold hexUp; simp
  | 0, f + 1, n, h => by
    unfold hexUp
    rw [if_pos (by simpa using h)]
    simp
  | k + 1, f + 1, n, h => by
    unfold hexUp
    split
    · simp
    · have hn : n / 16 < 16 ^ (k + 1) := by
        rw [Nat.pow_succ] at h
        omega
      have := hexUp_short k f (n / 16) hn
      rw [List.length_append]
      simp only [List.length_cons, List.length_nil]
      omega
theorem hexUp_plain : ∀ (f n : Nat) (b : UInt8), b ∈ hexUp f n → (b == 125) = false
  | 0, n, b, h => by
    unfold hexUp at h
    rw [List.mem_singleton] at h
    rw [h]
    exact dig_brace _ (by omega)
  | f + 1, n, b, h => by
    unfold hexUp at h
    split at h
    · rw [List.mem_singleton] at h
      rw [h]
      exact dig_brace _ (by omega)
    · rw [List.mem_append, List.mem_singleton] at h
      rcases h with h | h
      · exact hexUp_plain f _ b h
      · rw [h]
        exact dig_brace _ (by omega)
theorem find_brace : ∀ (l rest : List UInt8), (∀ b ∈ l, (b == 125) = false) → (l ++ 125 :: rest).findIdx? (· == 125) = some l.length
  | [], rest, _ => by
    rw [List.nil_append, List.findIdx?_cons]
    simp
  | b :: l, rest, h => by
    rw [List.cons_append, List.findIdx?_cons, h b (by simp)]
    rw [find_brace l rest (fun c hc => h c (by simp [hc]))]
    simp
theorem hidden_small {r : Nat} (h : hiddenB r = true) : r < 16 ^ 6 := by
  unfold hiddenB at h
  simp at h
  omega
theorem two_digits : ∀ b : Nat, b < 256 → hexN [hexDig (b / 16), hexDig (b % 16)] = some b := by
  have h : ∀ b : Fin 256, hexN [hexDig (b.val / 16), hexDig (b.val % 16)] = some b.val := by decide +kernel
  exact fun b hb => h ⟨b, hb⟩
/-- An escape of one letter. -/
theorem read_short {t : ByteArray} {P : Nat} {c x : UInt8} {rest : List UInt8} (H : t.data.toList.drop P = 92 :: c :: rest) (hx : ((c = 34 ∨ c = 92) ∧ x = c) ∨ (c = 110 ∧ x = 10) ∨ (c = 116 ∧ x = 9) ∨ (c = 114 ∧ x = 13)) : unescL t (P + 1) = ([x], 1) := by
  have hs := at_size H (by simp)
  have h1 := at_get H 1 (by simp)
  simp only [List.length_cons] at hs
  simp only [List.getElem_cons_succ, List.getElem_cons_zero] at h1
  unfold unescL
  rw [if_pos (by omega)]
  simp only [h1]
  rcases hx with ⟨h | h, rfl⟩ | ⟨rfl, rfl⟩ | ⟨rfl, rfl⟩ | ⟨rfl, rfl⟩
  · rw [if_pos (Or.inl h)]
  · rw [if_pos (Or.inr h)]
  · rfl
  · rfl
  · rfl
/-- The escape of a byte. -/
theorem read_byte {t : ByteArray} {P b : Nat} {rest : List UInt8} (hb : b < 256) (H : t.data.toList.drop P = escB b ++ rest) : unescL t (P + 1) = ([UInt8.ofNat b], 3) := by
  have H' : t.data.toList.drop P = 92 :: 120 :: hexDig (b / 16) :: hexDig (b % 16) :: rest := H
  have hs := at_size H' (by simp)
  have h1 := at_get H' 1 (by simp)
  have h2 := at_part H' 2 2
  simp only [List.length_cons] at hs
  simp only [List.getElem_cons_succ, List.getElem_cons_zero] at h1
  simp only [List.drop_succ_cons, List.drop_zero, List.take_succ_cons, List.take_zero] at h2
  unfold unescL
  rw [if_pos (by omega)]
  simp only [h1]
  rw [if_neg (by decide), if_neg (by decide), if_neg (by decide), if_neg (by decide), if_pos (by decide), if_pos (by omega), show P + 1 + 1 = P + 2 by omega, h2, two_digits b hb]
/-- The escape of a rune. -/
theorem read_rune {t : ByteArray} {P r : Nat} {rest : List UInt8} (hv : validR r = true) (hr : r < 16 ^ 6) (H : t.data.toList.drop P = [92, 117, 123] ++ hexL r ++ [125] ++ rest) : unescL t (P + 1) = (encL r, (hexL r).length + 3) := by
  have H' : t.data.toList.drop P = 92 :: 117 :: 123 :: (hexL r ++ 125 :: rest) := by rw [H]; simp
  have hs := at_size H' (by simp)
  have h1 := at_get H' 1 (by simp)
  have h2 := at_get H' 2 (by simp)
  have h3 := at_part H' 3 (hexL r).length
  have h4 := at_drop H' 1
  have hl := hexUp_short 5 15 r hr
  have hN := hexUp_read 15 r (Nat.lt_of_lt_of_le hr (Nat.pow_le_pow_right (by omega) (by omega)))
  have hf := find_brace (117 :: 123 :: hexL r) rest (by
    intro b hb
    simp only [List.mem_cons] at hb
    rcases hb with rfl | rfl | hb
    · rfl
    · rfl
    · exact hexUp_plain 15 r b hb)
  simp only [List.length_cons, List.length_append] at hs
  simp only [List.getElem_cons_succ, List.getElem_cons_zero] at h1 h2
  simp only [List.drop_succ_cons, List.drop_zero, List.take_left] at h3 h4
  simp only [List.cons_append, List.length_cons] at hf
  have hX : hexL r = hexUp 15 r := rfl
  unfold unescL
  rw [if_pos (by omega)]
  simp only [h1]
  rw [if_neg (by decide), if_neg (by decide), if_neg (by decide), if_neg (by decide), if_neg (by decide), if_pos (by decide)]
  unfold bracedL
  rw [if_pos ⟨by omega, h2⟩, h4, hf]
  simp only
  rw [← hX] at hl hN
  rw [if_pos (by omega), show P + 1 + 2 = P + 3 by omega, show (hexL r).length + 1 + 1 - 2 = (hexL r).length by omega, h3, hN]
  simp only
  rw [if_pos hv]
theorem enc_cons (r : Nat) : ∃ b l, encL r = b :: l := by
  unfold encL
  repeat' split
  all_goals exact ⟨_, _, rfl⟩
theorem enc_first {r : Nat} (h : validR r = true) {b : UInt8} {l : List UInt8} (e : encL r = b :: l) (c : Nat) (hc : c < 128) (hr : r ≠ c) : b ≠ UInt8.ofNat c := by
  unfold validR at h
  simp at h
  intro hb
  have hbn : b.toNat = c := by rw [hb, byteN (by omega)]
  unfold encL at e
  split at e
  · simp only [List.cons.injEq] at e
    rw [← e.1, byteN (by omega)] at hbn
    omega
  · split at e
    · simp only [List.cons.injEq] at e
      rw [← e.1, byteN (by omega)] at hbn
      omega
    · split at e
      · simp only [List.cons.injEq] at e
        rw [← e.1, byteN (by omega)] at hbn
        omega
      · simp only [List.cons.injEq] at e
        rw [← e.1, byteN (by omega)] at hbn
        omega
theorem enc_small {r : Nat} (h : r < 128) : encL r = [UInt8.ofNat r] := by
  unfold encL
  rw [if_pos h]
theorem size_lt {t : ByteArray} {P : Nat} {b : UInt8} {l : List UInt8} (H : t.data.toList.drop P = b :: l) : P < t.size ∧ t.get! P = b := by
  have hs := at_size H (by simp)
  have h0 := at_get H 0 (by simp)
  simp only [List.length_cons] at hs
  exact ⟨by omega, h0⟩
theorem unq_escape {t : ByteArray} {P n : Nat} {x acc rest : List UInt8} (H : t.data.toList.drop P = 92 :: rest) (hu : unescL t (P + 1) = (x, n)) (hn : 0 < n) : unqFrom t t.size P acc = unqFrom t t.size (P + 1 + n) (acc ++ x) := by
  obtain ⟨hp, hg⟩ := size_lt H
  rw [unqFrom_body hp, hg, if_neg (by decide), if_pos rfl, hu]
  simp only
  rw [if_neg (by omega)]
theorem stray_rune {s : ByteArray} {p : Nat} (h : (Utf8.decode s p).1 ≠ 65533) : strayAt s p = false := by
  unfold strayAt
  simp [h]
/-- One piece is read as it was written. -/
theorem read_piece {t s : ByteArray} {P p : Nat} {acc rest : List UInt8} (hp : p < s.size) (H : t.data.toList.drop P = writtenL s p ++ rest) :
    unqFrom t t.size P acc = unqFrom t t.size (P + (writtenL s p).length) (acc ++ partL s p (Utf8.decode s p).2) := by
  have hrune := fun h => rune_at (s := s) (p := p) hp h
  have hvalid := fun h => validR_at (s := s) (p := p) h
  have hstray := fun h => stray_rune (s := s) (p := p) h
  obtain ⟨r, hr⟩ : ∃ r, (Utf8.decode s p).1 = r := ⟨_, rfl⟩
  unfold writtenL at H ⊢
  rw [hr] at H hrune hvalid hstray ⊢
  simp only at H ⊢
  by_cases c1 : r = 34 ∨ r = 92
  · rw [if_pos c1] at H ⊢
    rw [← hrune (hstray (by omega)), enc_small (by omega)]
    exact unq_escape H (read_short H (Or.inl ⟨by rcases c1 with rfl | rfl; exact Or.inl rfl; exact Or.inr rfl, rfl⟩)) (by omega)
  rw [if_neg c1] at H ⊢
  by_cases c2 : r = 10
  · rw [if_pos c2] at H ⊢
    rw [← hrune (hstray (by omega)), enc_small (by omega), c2]
    exact unq_escape H (read_short H (Or.inr (Or.inl ⟨rfl, rfl⟩))) (by omega)
  rw [if_neg c2] at H ⊢
  by_cases c3 : r = 9
  · rw [if_pos c3] at H ⊢
    rw [← hrune (hstray (by omega)), enc_small (by omega), c3]
    exact unq_escape H (read_short H (Or.inr (Or.inr (Or.inl ⟨rfl, rfl⟩)))) (by omega)
  rw [if_neg c3] at H ⊢
  by_cases c4 : r = 13
  · rw [if_pos c4] at H ⊢
    rw [← hrune (hstray (by omega)), enc_small (by omega), c4]
    exact unq_escape H (read_short H (Or.inr (Or.inr (Or.inr ⟨rfl, rfl⟩)))) (by omega)
  rw [if_neg c4] at H ⊢
  by_cases c5 : r < 32 ∨ r = 127
  · rw [if_pos c5] at H ⊢
    rw [← hrune (hstray (by omega)), enc_small (by omega)]
    exact unq_escape H (read_byte (by omega) H) (by omega)
  rw [if_neg c5] at H ⊢
  by_cases c6 : strayAt s p = true
  · rw [if_pos c6] at H ⊢
    have hb : partL s p (Utf8.decode s p).2 = [UInt8.ofNat (s.get! p).toNat] := by
      have h1 : (Utf8.decode s p).2 = 1 := by
        unfold strayAt at c6
        simp at c6
        exact c6.2
      rw [h1, UInt8.ofNat_toNat]
      have := take_get hp
      unfold partL
      rw [List.take_add] at this
      exact List.append_cancel_left this
    rw [hb]
    exact unq_escape H (read_byte (UInt8.toNat_lt _) H) (by omega)
  rw [if_neg c6] at H ⊢
  have c6' : strayAt s p = false := by simpa using c6
  have hv := hvalid c6'
  have hR := hrune c6'
  by_cases c7 : hiddenB r = true
  · rw [if_pos c7] at H ⊢
    rw [← hR]
    have hu := read_rune hv (hidden_small c7) H
    have := unq_escape (acc := acc) (rest := 117 :: 123 :: (hexL r ++ [125] ++ rest)) (by rw [H]; simp only [List.cons_append, List.nil_append]) hu (by omega)
    rw [this]
    congr 1
    simp
    omega
  · rw [if_neg c7, ← hR] at H ⊢
    obtain ⟨b, l, e⟩ := enc_cons r
    have H' : t.data.toList.drop P = b :: (l ++ rest) := by rw [H, e]; rfl
    obtain ⟨hP, hg⟩ := size_lt H'
    have hd := (at_decode H).trans (decode_enc hv rest)
    have n34 : b ≠ 34 := enc_first hv e 34 (by omega) (by omega)
    have n92 : b ≠ 92 := enc_first hv e 92 (by omega) (by omega)
    have hpart : partL t P (encL r).length = encL r := by
      have := at_part H 0 (encL r).length
      rw [Nat.add_zero, List.drop_zero, List.take_left] at this
      exact this
    have hns : strayAt t P = false := by
      unfold strayAt
      rw [hd]
      simp only
      by_cases h1 : r = 65533
      · rw [h1]; decide
      · simp [h1]
    rw [unqFrom_body hP, hg, if_neg n34, if_neg n92, hns, hd]
    rw [if_neg (by rintro (h | h | h | h); cases h; omega; omega; exact c7 h)]
    unfold nextPos
    rw [hd]
    simp only
    rw [hpart]
theorem part_rest {s : ByteArray} {p : Nat} (_hp : p < s.size) : partL s p (Utf8.decode s p).2 ++ s.data.toList.drop (nextPos s p) = s.data.toList.drop p := by
  unfold partL nextPos
  rw [← List.drop_drop]
  exact List.take_append_drop _ _
/-- The whole body of a literal is read. -/
theorem read_body (t s : ByteArray) (rest : List UInt8) : ∀ (f P p : Nat) (acc : List UInt8), s.size ≤ p + f → t.data.toList.drop P = quoteFrom s s.size p ++ 34 :: rest →
    unqFrom t t.size P acc = .inr (acc ++ s.data.toList.drop p, P + (quoteFrom s s.size p).length) := by
  intro f
  induction f with
  | zero =>
    intro P p acc hf H
    have hp : ¬ p < s.size := by omega
    rw [quoteFrom_end hp] at H ⊢
    obtain ⟨hP, hg⟩ := size_lt H
    rw [unqFrom_body hP, hg, if_pos rfl, List.drop_eq_nil_of_le (by rw [dlen]; omega)]
    simp
  | succ f ih =>
    intro P p acc hf H
    by_cases hp : p < s.size
    · have hq := quoteFrom_step hp
      have hn := next_gt hp
      rw [hq, List.append_assoc] at H
      rw [read_piece hp H, ih _ (nextPos s p) _ (by omega) (by rw [at_drop H, List.drop_left]), List.append_assoc, part_rest hp, hq, List.length_append, Nat.add_assoc]
    · rw [quoteFrom_end hp] at H ⊢
      obtain ⟨hP, hg⟩ := size_lt H
      rw [unqFrom_body hP, hg, if_pos rfl, List.drop_eq_nil_of_le (by rw [dlen]; omega)]
      simp
/-- What is quoted is read as it was. -/
theorem unquote_quote (t s : ByteArray) (P : Nat) (rest : List UInt8) (H : t.data.toList.drop P = quoteL s ++ rest) :
    unquoteR t (P : Int) = (s, ((P + (quoteL s).length : Nat) : Int), 0) := by
  have H' : t.data.toList.drop P = 34 :: (quoteFrom s s.size 0 ++ 34 :: rest) := by rw [H]; unfold quoteL; simp
  obtain ⟨hP, hg⟩ := size_lt H'
  have H1 := at_drop H' 1
  rw [List.drop_succ_cons, List.drop_zero] at H1
  have hb := read_body t s rest s.size (P + 1) 0 [] (by omega) H1
  have hq : (quoteL s).length = (quoteFrom s s.size 0).length + 2 := by unfold quoteL; simp
  have hpart := at_part H 0 (quoteL s).length
  rw [Nat.add_zero, List.drop_zero, List.take_left] at hpart
  have hs : (⟨([] ++ s.data.toList.drop 0).toArray⟩ : ByteArray) = s := by
    apply ByteArray.ext
    simp
  unfold unquoteR
  rw [if_neg (by omega), if_neg (by rintro (h | h); omega; exact h (by simpa using hg))]
  rw [show ((P : Int).toNat) = P by omega, hb]
  simp only
  rw [hs, show P + 1 + (quoteFrom s s.size 0).length + 1 - P = (quoteL s).length by omega, hpart, if_pos rfl]
  congr 2
  omega
theorem quote_a : quoteL ⟨#[97]⟩ = [34, 97, 34] := by decide +kernel
theorem unquote_a : unquoteR ⟨#[34, 97, 34]⟩ 0 = (⟨#[97]⟩, 3, 0) := by
  have := unquote_quote ⟨#[34, 97, 34]⟩ ⟨#[97]⟩ 0 [] (by rw [quote_a]; rfl)
  rw [quote_a] at this
  exact this
end Go.Proofs.YtepmfjhhmnmmeaaDoor
