/-
  text.Words walked: the words of any line. Conditions: the tables of unicode/utf8, of letters and of math/bits as laid.
-/
import Derived.Test.YtepmfjhhmnmmeaaDoorWordOne
import Derived.Test.YtepmfjhhmnmmeaaDoorPieceWalk
namespace Go.Proofs.YtepmfjhhmnmmeaaDoor
open Go.RowKit

theorem scan_le (t : ByteArray) : ∀ (f p c : Nat), p ≤ t.size → (∀ q, nameScan t f p c = .inl q → q ≤ t.size) ∧ (∀ e k, nameScan t f p c = .inr (e, k) → p ≤ e ∧ e ≤ t.size ∧ (c < k → p < e))
  | 0, p, c, h => ⟨fun q h => (by cases h), fun e k hh => by cases hh; exact ⟨by omega, h, by omega⟩⟩
  | f + 1, p, c, h => by
    unfold nameScan
    by_cases hp : p < t.size
    · rw [if_neg (by omega)]
      by_cases h1 : nameStop t p = true
      · rw [if_pos h1]
        exact ⟨fun q h => (by cases h), fun e k hh => by cases hh; exact ⟨by omega, h, by omega⟩⟩
      rw [if_neg h1]
      by_cases h2 : c = 48
      · rw [if_pos h2]
        exact ⟨fun q hh => (by cases hh; exact h), fun e k hh => by cases hh⟩
      rw [if_neg h2]
      have hg := next_gt hp
      have hl := width_le' hp
      have ih := scan_le t f (nextPos t p) (c + 1) hl
      exact ⟨ih.1, fun e k hh => by
        have := ih.2 e k hh
        omega⟩
    · rw [if_pos hp]
      exact ⟨fun q h => (by cases h), fun e k hh => by cases hh; exact ⟨by omega, h, by omega⟩⟩
theorem other_ne (t : ByteArray) : otherE t ≠ 0 := by
  unfold otherE
  split <;> decide
/-- What a word's reading may be. -/
theorem wordT_law (t : ByteArray) (ht : 0 < t.size) : (∀ er p, wordT t = .inl (er, p) → er ≠ 0 ∧ p ≤ t.size) ∧ (∀ d n, wordT t = .inr (d, n) → 0 < n ∧ n ≤ t.size) := by
  unfold wordT
  by_cases c34 : t.get! 0 = 34
  · rw [if_pos c34]
    unfold litT
    rcases textOne.unq_law t 0 with ⟨er, he, hR⟩ | ⟨p, i, v, hp, hpi, hi, hv, hx, hR⟩
    · rw [hR, if_neg he]
      exact ⟨fun er p h => by cases h; exact ⟨he, by omega⟩, fun d n h => by cases h⟩
    · rw [hR, if_pos rfl]
      exact ⟨fun er p h => (by cases h), fun d n h => by cases h; simp only [Int.toNat_natCast]; omega⟩
  rw [if_neg c34]
  by_cases hs : signB (t.get! 0) = true
  · rw [if_pos hs]
    exact ⟨fun er p h => (by cases h), fun d n h => by cases h; omega⟩
  rw [if_neg hs]
  by_cases hn : numB t = true
  · rw [if_pos hn]
    unfold numberT
    have h1 := run_ge t t.size 1
    have h2 := run_le t t.size 1 (by omega)
    cases worthL (t.data.toList.take (runEnd t t.size 1)) with
    | none => exact ⟨fun er p h => by cases h; exact ⟨by decide, by omega⟩, fun d n h => by cases h⟩
    | some v => exact ⟨fun er p h => (by cases h), fun d n h => by cases h; omega⟩
  rw [if_neg hn]
  unfold nameT
  have hl := scan_le t t.size 0 0 (by omega)
  cases hx : nameScan t t.size 0 0 with
  | inl p =>
    have := hl.1 p hx
    exact ⟨fun er q h => by cases h; exact ⟨by decide, this⟩, fun d n h => by cases h⟩
  | inr y =>
    obtain ⟨e, k⟩ := y
    have := hl.2 e k hx
    simp only
    by_cases hk : k = 0
    · rw [if_pos hk]
      exact ⟨fun er q h => by cases h; exact ⟨other_ne t, by omega⟩, fun d n h => by cases h⟩
    · rw [if_neg hk]
      exact ⟨fun er q h => (by cases h), fun d n h => by cases h; omega⟩
/-- Where the cutting stands. -/
def WordsAt (s : ByteArray) (i : Nat) (out : List WordD) : Prop := wordsR s = wordsFrom s s.size i out
theorem words_body (s : ByteArray) (i : Nat) (out : List WordD) : wordsFrom s s.size i out = if ¬ i < s.size then (out, 0, 0) else if s.get! i = 35 then (out, 0, 0) else if blankB (s.get! i) = true then wordsFrom s s.size (i + 1) out
    else match wordT (s.extract i s.size) with
      | .inl (e, p) => ([], e, ((i + p : Nat) : Int))
      | .inr (d, n) => if gapless s d (i + n) = true then ([], otherE (s.extract (i + n) s.size), ((i + n : Nat) : Int)) else wordsFrom s s.size (i + n) (out ++ [d.put i]) := by
  have hw : ∀ i, i < s.size → ∀ d n, wordT (s.extract i s.size) = .inr (d, n) → 0 < n := fun i hi d n h => ((wordT_law _ (by rw [tail_size]; omega)).2 d n h).1
  rw [words_more s hw s.size (s.size + 1) i out (by omega) (by omega)]
  rfl
theorem infoWord : (Tryd.prog.info? 41).map (fun i => (i.zero, i.size, i.bytes)) = some (some (.agg #[.int .i64 0, .int .i64 0, .string ⟨#[]⟩, .int .i64 0]), 4, 40) := by kernel_rfl
/-- A row of words of one's own. -/
abbrev WordRow (B : Nat) (l : List WordD) (v : Value) (w : World) : Prop := w.ownsRow B 41 4 v l.length (l.flatMap WordD.cells)
theorem wordRow_push {B i : Nat} {l : List WordD} {d : WordD} {v : Value} {w : World} (h : w.ownsRow B 41 4 v (l.length + 1) (l.flatMap WordD.cells ++ [.int .i64 d.kind, .int .i64 (i : Int), .string d.text, .int .i64 d.num])) : WordRow B (l ++ [d.put i]) v w := by
  show w.ownsRow B 41 4 v (l ++ [d.put i]).length ((l ++ [d.put i]).flatMap WordD.cells)
  rw [List.flatMap_append, List.length_append]
  exact h
set_option maxHeartbeats 16000000 in
set_option maxRecDepth 100000 in
theorem words_any (s : ByteArray) (hs : s.size ≤ 274877906944) (w : World) (hU : U8 w) (hT : TZ w) (hL : LT w) :
    Calls Tryd.prog 28 #[.string s] w fun e w' => ∃ v, e = .returned (.tuple #[v, .int .i64 (wordsR s).2.1, .int .i64 (wordsR s).2.2]) ∧ WordRow w.heap.size (wordsR s).1 v w' ∧ Below w.heap.size w w' := by
  obtain ⟨i0, hi, hz0, hz1, hz2⟩ := info_parts infoWord
  have HU := Lib.hid hU
  have HT := Lib.hid hT
  have HL := Lib.hid hL
  clear hU hT hL
  by_cases hbig : 65536 < s.size
  · have HR : Hid (wordsR s = ([], 2, 65536)) := Lib.hid (if_pos hbig)
    have z1 : (65536 : Int) < (s.size : Int) := by omega
    go_enter Tryd.func28, Tryd.ntmps28
    go_wp2
    all_goals go_ret3
    all_goals exact ⟨_, by rw [HR.out]; rfl, by rw [HR.out]; exact World.ownsRow_nil _ _ _ _, Below.refl _ _⟩
  have z1 : ¬ (65536 : Int) < (s.size : Int) := by omega
  have HS0 : Hid (WordsAt s 0 []) := Lib.hid (if_neg hbig)
  go_enter Tryd.func28, Tryd.ntmps28
  go_wp2
  go_loopw [5, 6, 7, 8, 9, 10, 11] (fun o x _ _ _ _ _ wr => ∃ (i : Nat) (out : List WordD), x = .int .i64 i ∧ i ≤ s.size ∧ out.length ≤ i ∧ WordRow w.heap.size out o wr ∧ Below w.heap.size w wr ∧ Hid (WordsAt s i out)) (fun _ x _ _ _ _ _ _ => s.size - (intOf x).toNat)
  case atStart => exact ⟨0, [], rfl, by omega, by simp, World.ownsRow_nil _ _ _ _, Below.refl _ _, HS0⟩
  case round =>
    obtain ⟨i, out, rfl, hi9, hol, ho, hb, HN⟩ := hrel
    have HO := Lib.hid ho
    have Hb := Lib.hid hb
    have hbody := HN.out.trans (words_body s i out)
    clear ho hb HS0
    by_cases hlt : i < s.size
    · have hg := get_at' (s := s) (p := i) hlt
      rw [if_neg (by omega)] at hbody
      have x1 : (i : Int) ≤ (s.size : Int) := by omega
      have x0 : (0 : Int) ≤ (i : Int) := by omega
      obtain ⟨c, hc⟩ : ∃ c, s.get! i = c := ⟨_, rfl⟩
      rw [hc] at hg hbody
      by_cases c35 : c = 35
      · rw [if_pos c35] at hbody
        have HR := Lib.hid hbody
        subst c35
        clear hbody hc HN
        go_wp2
        all_goals go_ret3
        all_goals exact ⟨_, by rw [HR.out]; rfl, by rw [HR.out]; exact HO.out, Hb.out⟩
      rw [if_neg c35] at hbody
      have e35 := ne_int (k := 35) c35
      have hbl := fun w => blank_any c w
      obtain ⟨C, hC⟩ : ∃ C : Int, (c.toNat : Int) = C := ⟨_, rfl⟩
      rw [hC] at e35 hbl
      cases hbk : blankB c with
      | true =>
        rw [hbk, if_pos rfl] at hbody
        rw [hbk] at hbl
        have hbl := Lib.hid hbl
        have HN2 : Hid (WordsAt s (i + 1) out) := Lib.hid hbody
        clear hbody hc HN hbk c35
        go_wp2_with (first
          | (go_at_call 56; (with_reducible refine (hbl.out _).mono ?_); rintro e w1 ⟨rfl, rfl⟩))
        all_goals go_roundw
        case rel => exact ⟨i + 1, out, by go_num, by omega, by omega, HO.out, Hb.out, HN2⟩
        case measure => simp [intOf]; omega
      | false =>
        rw [hbk, if_neg (by simp)] at hbody
        rw [hbk] at hbl
        have hbl := Lib.hid hbl
        have hts : (s.extract i s.size).size = s.size - i := tail_size s i
        have hlaw := wordT_law (s.extract i s.size) (by omega)
        have hwd := word_any (s.extract i s.size) (by omega) (by omega) wr (u8_below HU.out Hb.out) (HT.out.below Hb.out) (PairsAt.below HL.out (show Below w.heap.size w wr from Hb.out))
        rw [hts] at hlaw
        clear hc HN hbk c35 hts
        cases hx : wordT (s.extract i s.size) with
        | inl y =>
          obtain ⟨er, p⟩ := y
          have hl1 := hlaw.1 er p hx
          rw [hx] at hbody
          have HR := Lib.hid hbody
          have hwd := Lib.hid (hwd.mono fun e w' ⟨ha, hb⟩ => (⟨WordAns.left_ (hx ▸ ha), hb⟩ : (∃ d z, e = Ending.returned (wordV d z er p)) ∧ Below wr.heap.size wr w'))
          unfold wordV at hwd
          have he : (er != 0) = true := by simpa using hl1.1
          have v1 : (i : Int) + (p : Int) = ((i + p : Nat) : Int) := by omega
          have V1 := Lib.hid v1
          have v2 : (i : Int) + (p : Int) ≤ (s.size : Int) := by have := hl1.2; omega
          clear hbody hx hlaw hl1 v1
          go_wp2_with (first
            | (go_at_call 56; (with_reducible refine (hbl.out _).mono ?_); rintro e w1 ⟨rfl, rfl⟩)
            | (go_at_call 57; (with_reducible refine hwd.out.mono ?_); rintro e w2 ⟨⟨d, z, rfl⟩, hb2⟩; have HW := Lib.hid hb2; clear hb2))
          all_goals go_ret3
          all_goals exact ⟨_, by rw [HR.out, ← V1.out]; rfl, by rw [HR.out]; exact World.ownsRow_nil _ _ _ _, (then_ Hb.out HW.out).alloc (then_ Hb.out HW.out).size _⟩
        | inr y =>
          obtain ⟨d, n⟩ := y
          have hl1 := hlaw.2 d n hx
          rw [hx] at hbody
          have hwd := Lib.hid (hwd.mono fun e w' ⟨ha, hb⟩ => (⟨WordAns.right_ (hx ▸ ha), hb⟩ : e = Ending.returned (wordV d n 0 0) ∧ Below wr.heap.size wr w'))
          unfold wordV at hwd
          have v1 : (i : Int) + (n : Int) = ((i + n : Nat) : Int) := by omega
          have V1 := Lib.hid v1
          have v2 : (i : Int) + (n : Int) ≤ (s.size : Int) := by have := hl1.2; omega
          have v3 : (0 : Int) < (n : Int) := by omega
          have hn0 := hl1.1
          have hn1 := hl1.2
          have hgl : gapless s d (i + n) = (d.kind != 4 && decide (i + n < s.size) && !blankB (s.get! (i + n)) && s.get! (i + n) != 35 && !signB (s.get! (i + n))) := rfl
          clear hx hlaw hl1 v1
          simp only at hbody
          by_cases k4 : d.kind = 4
          · have hf : gapless s d (i + n) = false := by rw [hgl, k4]; rfl
            rw [hf, if_neg (by simp)] at hbody
            have HN2 : Hid (WordsAt s (i + n) (out ++ [d.put i])) := Lib.hid hbody
            have e4 : (d.kind != 4) = false := by rw [k4]; rfl
            clear hbody hf hgl k4
            go_wp2_with (first
              | (go_at_call 56; (with_reducible refine (hbl.out _).mono ?_); rintro e w1 ⟨rfl, rfl⟩)
              | (go_at_call 57; (with_reducible refine hwd.out.mono ?_); rintro e w2 ⟨rfl, hb2⟩; have HW := Lib.hid hb2; clear hb2)
              | (at_builtin; refine wpList_append_own _ rfl _ _ 42 rfl w.heap.size 41 i0 _ 4 40 Tryd.underlying42 hi hz0 hz1 hz2 rfl (by decide) _ out.length _ rfl (((own_through HO.out HW.out).alloc _).alloc _) ⟨w2.heap.size + 1, 0, none⟩ 1 1 [.int .i64 d.kind, .int .i64 (i : Int), .string d.text, .int .i64 d.num] rfl rfl ?c1 ?c2 ?c3 ?c4 ?c5 ?_))
            case c1 => exact cells_new1 _ _ _ _
            case c2 => intro u hu; simp at hu; rcases hu with rfl | rfl | rfl | rfl <;> rfl
            case c3 => unfold maxLen; omega
            case c4 => omega
            case c5 => have := Hb.out.size; have := HW.out.size; simp; omega
            intro v' w5 hown5 hgrow5 _
            have hsz := HW.out.size
            have hsz0 := Hb.out.size
            have hne : some w2.heap.size ≠ u5.ownBlock := own_ne HO.out hsz
            have hc0 : w5.cell? ⟨w2.heap.size, 0, none⟩ = some (.int .i64 d.kind) := cell_grown hgrow5 (by simp) hne
            have HB5 : Hid (Below w.heap.size w w5) := Lib.hid ((((then_ Hb.out HW.out).alloc (by omega) _).alloc (by simp; omega) _).grown hgrow5 (by simp; omega) (fun b hb => (HO.out.lt b hb).1))
            have HO5 : Hid (WordRow w.heap.size (out ++ [d.put i]) v' w5) := Lib.hid (wordRow_push hown5)
            clear hown5 hgrow5 hne hwd
            go_wp2
            all_goals go_roundw
            case rel => exact ⟨i + n, out ++ [d.put i], by first | rfl | (simp only [V1.out]), by omega, by rw [List.length_append]; simp; omega, HO5.out, HB5.out, HN2⟩
            case measure => have := V1.out; simp [intOf]; omega
          have e4 : (d.kind != 4) = true := by simpa using k4
          by_cases hj : i + n < s.size
          · have z2 : (i : Int) + (n : Int) < (s.size : Int) := by omega
            have z3 : ((i : Int) + (n : Int)).toNat = i + n := by omega
            have gj := get_at' (s := s) (p := i + n) hj
            obtain ⟨b, hb⟩ : ∃ b, s.get! (i + n) = b := ⟨_, rfl⟩
            rw [hb] at gj hgl
            have hbl2 := fun w => blank_any b w
            have hix2 := fun w => index_any b w
            have hsi := sign_index b
            obtain ⟨I, hI⟩ : ∃ I, Lib.indexByte signsL b = I := ⟨_, rfl⟩
            rw [hI] at hix2 hsi
            obtain ⟨B, hB⟩ : ∃ B : Int, (b.toNat : Int) = B := ⟨_, rfl⟩
            rw [hB] at hbl2 hix2
            have hix2 := Lib.hid hix2
            cases hbk : blankB b with
            | true =>
              rw [hbk] at hbl2
              have hbl2 := Lib.hid hbl2
              have hf : gapless s d (i + n) = false := by rw [hgl, hbk]; simp
              rw [hf, if_neg (by simp)] at hbody
              have HN2 : Hid (WordsAt s (i + n) (out ++ [d.put i])) := Lib.hid hbody
              clear hbody hf hgl k4 hb hbk hsi hI
              go_wp2_with (first
                | (go_at_call 56; (with_reducible refine (hbl.out _).mono ?_); rintro e w1 ⟨rfl, rfl⟩)
                | (go_at_call 57; (with_reducible refine hwd.out.mono ?_); rintro e w2 ⟨rfl, hb2⟩; have HW := Lib.hid hb2; clear hb2)
                | (at_builtin; refine wpList_append_own _ rfl _ _ 42 rfl w.heap.size 41 i0 _ 4 40 Tryd.underlying42 hi hz0 hz1 hz2 rfl (by decide) _ out.length _ rfl (((own_through HO.out HW.out).alloc _).alloc _) ⟨w2.heap.size + 1, 0, none⟩ 1 1 [.int .i64 d.kind, .int .i64 (i : Int), .string d.text, .int .i64 d.num] rfl rfl ?c1 ?c2 ?c3 ?c4 ?c5 ?_))
              case c1 => exact cells_new1 _ _ _ _
              case c2 => intro u hu; simp at hu; rcases hu with rfl | rfl | rfl | rfl <;> rfl
              case c3 => unfold maxLen; omega
              case c4 => omega
              case c5 => have := Hb.out.size; have := HW.out.size; simp; omega
              intro v' w5 hown5 hgrow5 _
              have hsz := HW.out.size
              have hsz0 := Hb.out.size
              have hne : some w2.heap.size ≠ u5.ownBlock := own_ne HO.out hsz
              have hc0 : w5.cell? ⟨w2.heap.size, 0, none⟩ = some (.int .i64 d.kind) := cell_grown hgrow5 (by simp) hne
              have HB5 : Hid (Below w.heap.size w w5) := Lib.hid ((((then_ Hb.out HW.out).alloc (by omega) _).alloc (by simp; omega) _).grown hgrow5 (by simp; omega) (fun b hb => (HO.out.lt b hb).1))
              have HO5 : Hid (WordRow w.heap.size (out ++ [d.put i]) v' w5) := Lib.hid (wordRow_push hown5)
              clear hown5 hgrow5 hne hwd
              go_wp2_with (first
                | (go_at_call 56; (with_reducible refine (hbl2.out _).mono ?_); rintro e w8 ⟨rfl, rfl⟩))
              all_goals go_roundw
              case rel => exact ⟨i + n, out ++ [d.put i], by first | rfl | (simp only [V1.out]), by omega, by rw [List.length_append]; simp; omega, HO5.out, HB5.out, HN2⟩
              case measure => have := V1.out; simp [intOf]; omega
            | false =>
              rw [hbk] at hbl2
              have hbl2 := Lib.hid hbl2
              by_cases b35 : b = 35
              · have hf : gapless s d (i + n) = false := by rw [hgl, b35]; simp
                rw [hf, if_neg (by simp)] at hbody
                have HN2 : Hid (WordsAt s (i + n) (out ++ [d.put i])) := Lib.hid hbody
                have e3 : (B != 35) = false := by rw [← hB, b35]; rfl
                clear hbody hf hgl k4 hb hbk hsi hI b35
                go_wp2_with (first
                  | (go_at_call 56; (with_reducible refine (hbl.out _).mono ?_); rintro e w1 ⟨rfl, rfl⟩)
                  | (go_at_call 57; (with_reducible refine hwd.out.mono ?_); rintro e w2 ⟨rfl, hb2⟩; have HW := Lib.hid hb2; clear hb2)
                  | (at_builtin; refine wpList_append_own _ rfl _ _ 42 rfl w.heap.size 41 i0 _ 4 40 Tryd.underlying42 hi hz0 hz1 hz2 rfl (by decide) _ out.length _ rfl (((own_through HO.out HW.out).alloc _).alloc _) ⟨w2.heap.size + 1, 0, none⟩ 1 1 [.int .i64 d.kind, .int .i64 (i : Int), .string d.text, .int .i64 d.num] rfl rfl ?c1 ?c2 ?c3 ?c4 ?c5 ?_))
                case c1 => exact cells_new1 _ _ _ _
                case c2 => intro u hu; simp at hu; rcases hu with rfl | rfl | rfl | rfl <;> rfl
                case c3 => unfold maxLen; omega
                case c4 => omega
                case c5 => have := Hb.out.size; have := HW.out.size; simp; omega
                intro v' w5 hown5 hgrow5 _
                have hsz := HW.out.size
                have hsz0 := Hb.out.size
                have hne : some w2.heap.size ≠ u5.ownBlock := own_ne HO.out hsz
                have hc0 : w5.cell? ⟨w2.heap.size, 0, none⟩ = some (.int .i64 d.kind) := cell_grown hgrow5 (by simp) hne
                have HB5 : Hid (Below w.heap.size w w5) := Lib.hid ((((then_ Hb.out HW.out).alloc (by omega) _).alloc (by simp; omega) _).grown hgrow5 (by simp; omega) (fun b hb => (HO.out.lt b hb).1))
                have HO5 : Hid (WordRow w.heap.size (out ++ [d.put i]) v' w5) := Lib.hid (wordRow_push hown5)
                clear hown5 hgrow5 hne hwd
                go_wp2_with (first
                  | (go_at_call 56; (with_reducible refine (hbl2.out _).mono ?_); rintro e w8 ⟨rfl, rfl⟩))
                all_goals go_roundw
                case rel => exact ⟨i + n, out ++ [d.put i], by first | rfl | (simp only [V1.out]), by omega, by rw [List.length_append]; simp; omega, HO5.out, HB5.out, HN2⟩
                case measure => have := V1.out; simp [intOf]; omega
              have e3 : (B != 35) = true := by rw [bne_iff_ne, ← hB]; exact ne_int (k := 35) b35
              by_cases hsg : signB b = true
              · have hf : gapless s d (i + n) = false := by rw [hgl, hsg]; simp
                rw [hf, if_neg (by simp)] at hbody
                have HN2 : Hid (WordsAt s (i + n) (out ++ [d.put i])) := Lib.hid hbody
                have hI0 := hsi.2 hsg
                clear hbody hf hgl k4 hb hbk hsi hI b35 hsg
                go_wp2_with (first
                  | (go_at_call 56; (with_reducible refine (hbl.out _).mono ?_); rintro e w1 ⟨rfl, rfl⟩)
                  | (go_at_call 57; (with_reducible refine hwd.out.mono ?_); rintro e w2 ⟨rfl, hb2⟩; have HW := Lib.hid hb2; clear hb2)
                  | (at_builtin; refine wpList_append_own _ rfl _ _ 42 rfl w.heap.size 41 i0 _ 4 40 Tryd.underlying42 hi hz0 hz1 hz2 rfl (by decide) _ out.length _ rfl (((own_through HO.out HW.out).alloc _).alloc _) ⟨w2.heap.size + 1, 0, none⟩ 1 1 [.int .i64 d.kind, .int .i64 (i : Int), .string d.text, .int .i64 d.num] rfl rfl ?c1 ?c2 ?c3 ?c4 ?c5 ?_))
                case c1 => exact cells_new1 _ _ _ _
                case c2 => intro u hu; simp at hu; rcases hu with rfl | rfl | rfl | rfl <;> rfl
                case c3 => unfold maxLen; omega
                case c4 => omega
                case c5 => have := Hb.out.size; have := HW.out.size; simp; omega
                intro v' w5 hown5 hgrow5 _
                have hsz := HW.out.size
                have hsz0 := Hb.out.size
                have hne : some w2.heap.size ≠ u5.ownBlock := own_ne HO.out hsz
                have hc0 : w5.cell? ⟨w2.heap.size, 0, none⟩ = some (.int .i64 d.kind) := cell_grown hgrow5 (by simp) hne
                have HB5 : Hid (Below w.heap.size w w5) := Lib.hid ((((then_ Hb.out HW.out).alloc (by omega) _).alloc (by simp; omega) _).grown hgrow5 (by simp; omega) (fun b hb => (HO.out.lt b hb).1))
                have HO5 : Hid (WordRow w.heap.size (out ++ [d.put i]) v' w5) := Lib.hid (wordRow_push hown5)
                clear hown5 hgrow5 hne hwd
                go_wp2_with (first
                  | (go_at_call 56; (with_reducible refine (hbl2.out _).mono ?_); rintro e w8 ⟨rfl, rfl⟩)
                  | (go_at_call 58; (with_reducible refine (hix2.out _).mono ?_); rintro e w8 ⟨rfl, rfl⟩))
                all_goals go_roundw
                case rel => exact ⟨i + n, out ++ [d.put i], by first | rfl | (simp only [V1.out]), by omega, by rw [List.length_append]; simp; omega, HO5.out, HB5.out, HN2⟩
                case measure => have := V1.out; simp [intOf]; omega
              · have hf : gapless s d (i + n) = true := by rw [hgl, hbk]; simp [k4, hj, b35, hsg]
                rw [hf, if_pos rfl] at hbody
                have HR := Lib.hid hbody
                have hI0 : I < 0 := by
                  rcases Int.lt_or_le I 0 with k | k
                  · exact k
                  · exact absurd (hsi.1 k) hsg
                have hot := Lib.hid (fun w h => other_any (s.extract (i + n) s.size) (by rw [tail_size]; omega) w h)
                clear hbody hf hgl k4 hb hbk hsi hI b35 hsg
                go_wp2_with (first
                  | (go_at_call 56; (with_reducible refine (hbl.out _).mono ?_); rintro e w1 ⟨rfl, rfl⟩)
                  | (go_at_call 57; (with_reducible refine hwd.out.mono ?_); rintro e w2 ⟨rfl, hb2⟩; have HW := Lib.hid hb2; clear hb2)
                  | (at_builtin; refine wpList_append_own _ rfl _ _ 42 rfl w.heap.size 41 i0 _ 4 40 Tryd.underlying42 hi hz0 hz1 hz2 rfl (by decide) _ out.length _ rfl (((own_through HO.out HW.out).alloc _).alloc _) ⟨w2.heap.size + 1, 0, none⟩ 1 1 [.int .i64 d.kind, .int .i64 (i : Int), .string d.text, .int .i64 d.num] rfl rfl ?c1 ?c2 ?c3 ?c4 ?c5 ?_))
                case c1 => exact cells_new1 _ _ _ _
                case c2 => intro u hu; simp at hu; rcases hu with rfl | rfl | rfl | rfl <;> rfl
                case c3 => unfold maxLen; omega
                case c4 => omega
                case c5 => have := Hb.out.size; have := HW.out.size; simp; omega
                intro v' w5 hown5 hgrow5 _
                have hsz := HW.out.size
                have hsz0 := Hb.out.size
                have hne : some w2.heap.size ≠ u5.ownBlock := own_ne HO.out hsz
                have hc0 : w5.cell? ⟨w2.heap.size, 0, none⟩ = some (.int .i64 d.kind) := cell_grown hgrow5 (by simp) hne
                have HB5 : Hid (Below w.heap.size w w5) := Lib.hid ((((then_ Hb.out HW.out).alloc (by omega) _).alloc (by simp; omega) _).grown hgrow5 (by simp; omega) (fun b hb => (HO.out.lt b hb).1))
                have HO5 : Hid (WordRow w.heap.size (out ++ [d.put i]) v' w5) := Lib.hid (wordRow_push hown5)
                clear hown5 hgrow5 hne hwd
                go_wp2_with (first
                  | (go_at_call 56; (with_reducible refine (hbl2.out _).mono ?_); rintro e w8 ⟨rfl, rfl⟩)
                  | (go_at_call 58; (with_reducible refine (hix2.out _).mono ?_); rintro e w8 ⟨rfl, rfl⟩)
                  | (go_at_call 59; (with_reducible refine (hot.out _ (u8_below HU.out HB5.out)).mono ?_); rintro e w9 ⟨rfl, hb9⟩; have HB9 := Lib.hid (then_ HB5.out hb9); clear hb9))
                all_goals go_ret3
                all_goals exact ⟨_, by rw [HR.out]; rfl, by rw [HR.out]; exact World.ownsRow_nil _ _ _ _, HB9.out⟩
          · have hf : gapless s d (i + n) = false := by rw [hgl]; simp [hj]
            rw [hf, if_neg (by simp)] at hbody
            have HN2 : Hid (WordsAt s (i + n) (out ++ [d.put i])) := Lib.hid hbody
            have z2 : ¬ (i : Int) + (n : Int) < (s.size : Int) := by omega
            clear hbody hf hgl k4 hj
            go_wp2_with (first
              | (go_at_call 56; (with_reducible refine (hbl.out _).mono ?_); rintro e w1 ⟨rfl, rfl⟩)
              | (go_at_call 57; (with_reducible refine hwd.out.mono ?_); rintro e w2 ⟨rfl, hb2⟩; have HW := Lib.hid hb2; clear hb2)
              | (at_builtin; refine wpList_append_own _ rfl _ _ 42 rfl w.heap.size 41 i0 _ 4 40 Tryd.underlying42 hi hz0 hz1 hz2 rfl (by decide) _ out.length _ rfl (((own_through HO.out HW.out).alloc _).alloc _) ⟨w2.heap.size + 1, 0, none⟩ 1 1 [.int .i64 d.kind, .int .i64 (i : Int), .string d.text, .int .i64 d.num] rfl rfl ?c1 ?c2 ?c3 ?c4 ?c5 ?_))
            case c1 => exact cells_new1 _ _ _ _
            case c2 => intro u hu; simp at hu; rcases hu with rfl | rfl | rfl | rfl <;> rfl
            case c3 => unfold maxLen; omega
            case c4 => omega
            case c5 => have := Hb.out.size; have := HW.out.size; simp; omega
            intro v' w5 hown5 hgrow5 _
            have hsz := HW.out.size
            have hsz0 := Hb.out.size
            have hne : some w2.heap.size ≠ u5.ownBlock := own_ne HO.out hsz
            have hc0 : w5.cell? ⟨w2.heap.size, 0, none⟩ = some (.int .i64 d.kind) := cell_grown hgrow5 (by simp) hne
            have HB5 : Hid (Below w.heap.size w w5) := Lib.hid ((((then_ Hb.out HW.out).alloc (by omega) _).alloc (by simp; omega) _).grown hgrow5 (by simp; omega) (fun b hb => (HO.out.lt b hb).1))
            have HO5 : Hid (WordRow w.heap.size (out ++ [d.put i]) v' w5) := Lib.hid (wordRow_push hown5)
            clear hown5 hgrow5 hne hwd
            go_wp2
            all_goals go_roundw
            case rel => exact ⟨i + n, out ++ [d.put i], by first | rfl | (simp only [V1.out]), by omega, by rw [List.length_append]; simp; omega, HO5.out, HB5.out, HN2⟩
            case measure => have := V1.out; simp [intOf]; omega
    · rw [if_pos hlt] at hbody
      have HR := Lib.hid hbody
      obtain rfl : i = s.size := by omega
      clear hbody HN hlt
      go_wp2
      all_goals go_ret3
      all_goals exact ⟨_, by rw [HR.out]; rfl, by rw [HR.out]; exact HO.out, Hb.out⟩
end Go.Proofs.YtepmfjhhmnmmeaaDoor
