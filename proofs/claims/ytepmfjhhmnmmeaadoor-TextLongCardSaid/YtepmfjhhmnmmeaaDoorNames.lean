/-
  text.Name and annalsref2.Name walked: one answer of any text. Conditions: the tables of letters and of unicode/utf8 as laid.
-/
import Derived.Test.YtepmfjhhmnmmeaaDoorNameFns
namespace Go.Proofs.YtepmfjhhmnmmeaaDoor
open Go.RowKit

def badAt (k : Nat) (r : Int) : Bool := !inNameB r || (k == 0 && !letterB r)
/-- Whether a text is a name, from its k-th piece on, which begins at p: the error and the place. -/
def nameFrom (s : ByteArray) : Nat → Nat → Nat → Int × Int
  | 0, _, _ => (0, 0)
  | f + 1, k, p =>
    if p < s.size then
      (if k = 48 then (23, (p : Int)) else if strayAt s p = true then (21, (p : Int)) else if badAt k (Utf8.decode s p).1 = true then (22, (p : Int)) else nameFrom s f (k + 1) (nextPos s p))
    else if k = 0 then (20, 0) else (0, 0)
def nameA (s : ByteArray) : Int × Int := nameFrom s (s.size + 1) 0 0

/-- What is left to be asked at the k-th piece. -/
def NameAt (s : ByteArray) (k p : Nat) : Prop := ∃ f, s.size + 1 ≤ p + f ∧ nameA s = nameFrom s f k p
theorem NameAt.start (s : ByteArray) : NameAt s 0 0 := ⟨s.size + 1, by omega, rfl⟩
theorem NameAt.open_ {s : ByteArray} {k p : Nat} (h : NameAt s k p) (hp : p ≤ s.size) : ∃ f, s.size ≤ p + f ∧ nameA s = nameFrom s (f + 1) k p := by
  obtain ⟨f, h1, h2⟩ := h
  cases f with
  | zero => omega
  | succ f => exact ⟨f, by omega, h2⟩
theorem NameAt.long {s : ByteArray} {k p : Nat} (h : NameAt s k p) (hp : p < s.size) (hk : k = 48) : nameA s = (23, (p : Int)) := by
  obtain ⟨f, _, e⟩ := h.open_ (by omega)
  rw [e, nameFrom, if_pos hp, if_pos hk]
theorem NameAt.stray {s : ByteArray} {k p : Nat} (h : NameAt s k p) (hp : p < s.size) (hk : ¬ k = 48) (hs : strayAt s p = true) : nameA s = (21, (p : Int)) := by
  obtain ⟨f, _, e⟩ := h.open_ (by omega)
  rw [e, nameFrom, if_pos hp, if_neg hk, if_pos hs]
theorem NameAt.bad {s : ByteArray} {k p : Nat} (h : NameAt s k p) (hp : p < s.size) (hk : ¬ k = 48) (hs : strayAt s p = false) (hb : badAt k (Utf8.decode s p).1 = true) : nameA s = (22, (p : Int)) := by
  obtain ⟨f, _, e⟩ := h.open_ (by omega)
  rw [e, nameFrom, if_pos hp, if_neg hk, if_neg (by rw [hs]; exact Bool.false_ne_true), if_pos hb]
theorem NameAt.on {s : ByteArray} {k p : Nat} (h : NameAt s k p) (hp : p < s.size) (hk : ¬ k = 48) (hs : strayAt s p = false) (hb : badAt k (Utf8.decode s p).1 = false) : NameAt s (k + 1) (nextPos s p) := by
  obtain ⟨f, hf, e⟩ := h.open_ (by omega)
  have := next_gt hp
  exact ⟨f, by omega, by rw [e, nameFrom, if_pos hp, if_neg hk, if_neg (by rw [hs]; exact Bool.false_ne_true), if_neg (by rw [hb]; exact Bool.false_ne_true)]⟩
theorem NameAt.none_ {s : ByteArray} {p : Nat} (h : NameAt s 0 p) (hp : ¬ p < s.size) (hp2 : p ≤ s.size) : nameA s = (20, 0) := by
  obtain ⟨f, _, e⟩ := h.open_ hp2
  rw [e, nameFrom, if_neg hp, if_pos rfl]
theorem NameAt.good {s : ByteArray} {k p : Nat} (h : NameAt s k p) (hp : ¬ p < s.size) (hp2 : p ≤ s.size) (hk : ¬ k = 0) : nameA s = (0, 0) := by
  obtain ⟨f, _, e⟩ := h.open_ hp2
  rw [e, nameFrom, if_neg hp, if_neg hk]

theorem bad_in {k : Nat} {r : Int} (h : inNameB r = false) : badAt k r = true := by simp [badAt, h]
theorem bad_first {r : Int} (h : letterB r = false) : badAt 0 r = true := by simp [badAt, h]
theorem fine_first {r : Int} (h : letterB r = true) : badAt 0 r = false := by
  have : inNameB r = true := by simp [inNameB, h]
  simp [badAt, h, this]
theorem fine_later {k : Nat} {r : Int} (h : inNameB r = true) (hk : ¬ k = 0) : badAt k r = false := by simp [badAt, h, hk]
theorem in_of_letter {r : Int} (h : letterB r = true) : inNameB r = true := by simp [inNameB, h]

theorem inName_at {r : Int} {b : Bool} (h : inNameB r = b) (w : World) (ht : LT w) : Calls Tryd.prog 40 #[.int .i32 r] w fun e w' => e = .returned (.bool b) ∧ Drawn w w' := by
  rw [← h]; exact inName_any r w ht
theorem letter_at {r : Int} {b : Bool} (h : letterB r = b) (w : World) (ht : LT w) : Calls Tryd.prog 13 #[.int .i32 r] w fun e w' => e = .returned (.bool b) ∧ Drawn w w' := by
  rw [← h]; exact letter_any r w ht
theorem refLetter_at {r : Int} {b : Bool} (h : letterB r = b) (w : World) (ht : LR w) : Calls Tryd.prog 14 #[.int .i64 r] w fun e w' => e = .returned (.bool b) ∧ Drawn w w' := by
  rw [← h]; exact refLetter_any r w ht
theorem nameRune_at {r : Int} {b : Bool} (h : inNameB r = b) (w : World) (ht : LR w) : Calls Tryd.prog 42 #[.int .i64 r] w fun e w' => e = .returned (.bool b) ∧ Drawn w w' := by
  rw [← h]; exact nameRune_any r w ht

/-- The iterator stands, and what was below it. -/
def IterAt (w : World) (s : ByteArray) (q : Nat) (w2 : World) : Prop := w2.heap[w.heap.size]? = some (.stringIter s q) ∧ Below w.heap.size w w2
theorem IterAt.under {w w2 : World} {s : ByteArray} {q : Nat} (h : IterAt w s q w2) : Below w.heap.size w w2 := h.2
theorem IterAt.drawn {w w2 w3 : World} {s : ByteArray} {q : Nat} (h : IterAt w s q w2) (hd : Drawn w2 w3) : IterAt w s q w3 := by
  obtain ⟨n, rfl⟩ := hd.out
  exact ⟨h.1, then_ h.2 hd.below⟩
theorem ret_name {x : Int × Int} {a b : Int} (h : x = (a, b)) : Ending.returned (.tuple #[.int .i64 a, .int .i64 b]) = .returned (.tuple #[.int .i64 x.1, .int .i64 x.2]) := by rw [h]

set_option maxRecDepth 100000 in
set_option maxHeartbeats 2000000 in
theorem name_any (s : ByteArray) (w : World) (hs : s.size ≤ 4611686018427387904) (hu : U8 w) (ht : LT w) :
    Calls Tryd.prog 18 #[.string s] w fun e w' => e = .returned (.tuple #[.int .i64 (nameA s).1, .int .i64 (nameA s).2]) ∧ Below w.heap.size w w' := by
  have HU := Lib.hid hu
  have HT := Lib.hid ht
  clear hu ht
  go_enter Tryd.func18, Tryd.ntmps18
  go_wp2
  go_loopw [4] (fun c wr => ∃ k p : Nat, k ≤ 48 ∧ c = .int .i64 k ∧ p ≤ s.size ∧ IterAt w s p wr ∧ Hid (NameAt s k p)) (fun _ wr => s.size - wr.iterPos w.heap.size)
  case atStart => exact ⟨0, 0, by omega, rfl, by omega, ⟨World.iter_heap _ _ _, below_iter _ _ _⟩, Lib.hid (NameAt.start s)⟩
  case round =>
    obtain ⟨k, p, hk, rfl, hp, ⟨hit, hb⟩, HN⟩ := hrel
    by_cases hlt : p < s.size
    · have hnx := fun ty => Lib.run_next_any_at (P := Tryd.prog) wr w.heap.size s p ty hit hlt
      have hgt := next_gt hlt
      have hle := width_le' hlt
      have hpos := Lib.hid (iterPos_of hit)
      have hU1 := u8_below HU.out (Lib.below_iterAt hb (Nat.le_refl _) s (nextPos s p))
      have H : Hid (∀ w2, Below (wr.iterAt w.heap.size s (nextPos s p)).heap.size (wr.iterAt w.heap.size s (nextPos s p)) w2 → IterAt w s (nextPos s p) w2) := Lib.hid (fun w2 h => iter_after hit h rfl hb)
      have HB1 := Lib.hid (Lib.below_iterAt hb (Nat.le_refl _) s (nextPos s p))
      obtain ⟨q, hq⟩ : ∃ q, nextPos s p = q := ⟨_, rfl⟩
      have hq' : p + (Utf8.decode s p).2 = q := hq
      rw [hq] at hgt hle hU1 H HB1
      rw [hq'] at hnx
      by_cases h48 : k = 48
      · have hv := Lib.hid (NameAt.long HN.out hlt h48)
        subst h48
        clear HN hit hb hU1 H hq hq'
        go_wp2
        all_goals go_ret2
        all_goals exact ⟨ret_name hv.out, HB1.out⟩
      · have hk48 : ((k : Int) == 48) = false := by
          rw [beq_eq_false_iff_ne]; omega
        cases hst : strayAt s p with
        | true =>
          have hv := Lib.hid (NameAt.stray HN.out hlt h48 hst)
          have cS := Lib.hid (stray_at hst hlt hs _ hU1)
          clear HN hit hb hU1 hst hq hq'
          go_wp2_with (first
            | (go_at_call 39; (with_reducible refine cS.out.mono ?_); rintro e w2 ⟨rfl, hb2⟩; have HI := Lib.hid (H.out w2 hb2); clear hb2))
          all_goals go_ret2
          all_goals exact ⟨ret_name hv.out, HI.out.2⟩
        | false =>
          have cS := Lib.hid (stray_at hst hlt hs _ hU1)
          obtain ⟨r, hr⟩ : ∃ r, (Utf8.decode s p).1 = r := ⟨_, rfl⟩
          cases hin : inNameB (r : Int) with
          | false =>
            have hv := Lib.hid (NameAt.bad HN.out hlt h48 hst (by rw [hr]; exact bad_in hin))
            have cI := Lib.hid (fun w h => inName_at hin w h)
            rw [hr] at cS hnx
            clear HN hit hb hU1 hst hq hq' hin hr
            go_wp2_with (first
            | (go_at_call 39; (with_reducible refine cS.out.mono ?_); rintro e w2 ⟨rfl, hb2⟩; have HI := Lib.hid (H.out w2 hb2); clear hb2)
            | (go_at_call 40; (with_reducible refine (cI.out _ (PairsAt.below HT.out HI.out.under)).mono ?_); rintro e w3 ⟨rfl, hd⟩; have HI' := Lib.hid (HI.out.drawn hd); clear HI hd; have HI := HI'; clear HI'))
            all_goals go_ret2
            all_goals exact ⟨ret_name hv.out, HI.out.2⟩
          | true =>
            have cI := Lib.hid (fun w h => inName_at hin w h)
            by_cases h0 : k = 0
            · cases hl : letterB (r : Int) with
              | false =>
                have hv := Lib.hid (NameAt.bad HN.out hlt h48 hst (by rw [hr, h0]; exact bad_first hl))
                have cL := Lib.hid (fun w h => letter_at hl w h)
                rw [hr] at cS hnx
                subst h0
                clear HN hit hb hU1 hst hq hq' hin hr hl
                go_wp2_with (first
            | (go_at_call 39; (with_reducible refine cS.out.mono ?_); rintro e w2 ⟨rfl, hb2⟩; have HI := Lib.hid (H.out w2 hb2); clear hb2)
            | (go_at_call 40; (with_reducible refine (cI.out _ (PairsAt.below HT.out HI.out.under)).mono ?_); rintro e w3 ⟨rfl, hd⟩; have HI' := Lib.hid (HI.out.drawn hd); clear HI hd; have HI := HI'; clear HI')
            | (go_at_call 13; (with_reducible refine (cL.out _ (PairsAt.below HT.out HI.out.under)).mono ?_); rintro e w3 ⟨rfl, hd⟩; have HI' := Lib.hid (HI.out.drawn hd); clear HI hd; have HI := HI'; clear HI'))
                all_goals go_ret2
                all_goals exact ⟨ret_name hv.out, HI.out.2⟩
              | true =>
                have hv := NameAt.on HN.out hlt h48 hst (by rw [hr, h0]; exact fine_first hl)
                rw [hq] at hv
                have hv := Lib.hid hv
                have cL := Lib.hid (fun w h => letter_at hl w h)
                rw [hr] at cS hnx
                subst h0
                clear HN hit hb hU1 hst hq hq' hin hr hl
                go_wp2_with (first
            | (go_at_call 39; (with_reducible refine cS.out.mono ?_); rintro e w2 ⟨rfl, hb2⟩; have HI := Lib.hid (H.out w2 hb2); clear hb2)
            | (go_at_call 40; (with_reducible refine (cI.out _ (PairsAt.below HT.out HI.out.under)).mono ?_); rintro e w3 ⟨rfl, hd⟩; have HI' := Lib.hid (HI.out.drawn hd); clear HI hd; have HI := HI'; clear HI')
            | (go_at_call 13; (with_reducible refine (cL.out _ (PairsAt.below HT.out HI.out.under)).mono ?_); rintro e w3 ⟨rfl, hd⟩; have HI' := Lib.hid (HI.out.drawn hd); clear HI hd; have HI := HI'; clear HI'))
                all_goals go_roundw
                case rel => exact ⟨0 + 1, q, by omega, by go_num, hle, HI.out, hv⟩
                case measure => rw [iterPos_of HI.out.1, hpos.out]; omega
            · have hv := NameAt.on HN.out hlt h48 hst (by rw [hr]; exact fine_later hin h0)
              rw [hq] at hv
              have hv := Lib.hid hv
              have hk0 : ((k : Int) == 0) = false := by
                rw [beq_eq_false_iff_ne]; omega
              rw [hr] at cS hnx
              clear HN hit hb hU1 hst hq hq' hin hr
              go_wp2_with (first
            | (go_at_call 39; (with_reducible refine cS.out.mono ?_); rintro e w2 ⟨rfl, hb2⟩; have HI := Lib.hid (H.out w2 hb2); clear hb2)
            | (go_at_call 40; (with_reducible refine (cI.out _ (PairsAt.below HT.out HI.out.under)).mono ?_); rintro e w3 ⟨rfl, hd⟩; have HI' := Lib.hid (HI.out.drawn hd); clear HI hd; have HI := HI'; clear HI'))
              all_goals go_roundw
              case rel => exact ⟨k + 1, q, by omega, by go_num, hle, HI.out, hv⟩
              case measure => rw [iterPos_of HI.out.1, hpos.out]; omega
    · have hnx := fun ty => Lib.run_next_end_at (P := Tryd.prog) wr w.heap.size s p ty hit hlt
      by_cases h0 : k = 0
      · subst h0
        have hv := Lib.hid (NameAt.none_ HN.out hlt hp)
        clear HN
        go_wp2
        all_goals go_ret2
        all_goals exact ⟨ret_name hv.out, hb⟩
      · have hv := Lib.hid (NameAt.good HN.out hlt hp h0)
        have hk0 : ((k : Int) == 0) = false := by simp [h0]
        clear HN
        go_wp2
        all_goals go_ret2
        all_goals exact ⟨ret_name hv.out, hb⟩
end Go.Proofs.YtepmfjhhmnmmeaaDoor
