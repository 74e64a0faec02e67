/-
  annalsref2.Words walked: the reference's words of any line.
  annalslaw2.sameWords walked: of lists that hold the same words it answers true.
  annalslaw2.filled, marked walked: a list is written full with a mark and lengthened by forty more.
  Conditions: as each theorem says. (Joined by wip/tools/pack.py.)
-/
import Derived.Test.YtepmfjhhmnmmeaaDoorRefWord
import Derived.Laws.StructEq
import Derived.Deep.DeepAppendRoom
import Derived.Deep.Onto
import Derived.ArgAppend
namespace Go.Proofs.YtepmfjhhmnmmeaaDoor
open Go.RowKit

theorem RefAns.left_ {i : Nat} {er : Int} {p : Nat} {e : Ending} (h : RefAns i (.inl (er, p)) e) : ∃ d z, e = .returned (wordV d z er ((i + p : Nat) : Int)) := by
  rcases h with ⟨er', p', d, z, h1, h2⟩ | ⟨d, n, h1, _⟩
  · cases h1
    exact ⟨d, z, h2⟩
  · cases h1
theorem RefAns.right_ {i : Nat} {d : WordD} {n : Nat} {e : Ending} (h : RefAns i (.inr (d, n)) e) : e = .returned (wordV (d.put i) ((i + n : Nat) : Int) 0 0) := by
  rcases h with ⟨er', p', d', z, h1, _⟩ | ⟨d', n', h1, h2⟩
  · cases h1
  · cases h1
    exact h2
theorem other_at (s : ByteArray) (j : Nat) : otherE (s.extract j s.size) = if strayAt s j = true then 21 else 22 := by
  unfold otherE
  rw [stray_tail, Nat.add_zero]
set_option maxHeartbeats 16000000 in
set_option maxRecDepth 100000 in
theorem refWords_any (s : ByteArray) (hs : s.size ≤ 274877906944) (w : World) (hH : RefHid w) (hL : LR w) :
    Calls Tryd.prog 30 #[.string s] w fun e w' => ∃ v, e = .returned (.tuple #[v, .int .i64 (wordsR s).2.1, .int .i64 (wordsR s).2.2]) ∧ WordRow w.heap.size (wordsR s).1 v w' ∧ Below w.heap.size w w' := by
  obtain ⟨i0, hi, hz0, hz1, hz2⟩ := info_parts infoWord
  have HH := Lib.hid hH
  have HL := Lib.hid hL
  clear hH hL
  by_cases hbig : 65536 < s.size
  · have HR : Hid (wordsR s = ([], 2, 65536)) := Lib.hid (if_pos hbig)
    have z1 : (65536 : Int) < (s.size : Int) := by omega
    go_enter Tryd.func30, Tryd.ntmps30
    go_wp2
    all_goals go_ret3
    all_goals exact ⟨_, by rw [HR.out]; rfl, by rw [HR.out]; exact World.ownsRow_nil _ _ _ _, Below.refl _ _⟩
  have z1 : ¬ (65536 : Int) < (s.size : Int) := by omega
  have HS0 : Hid (WordsAt s 0 []) := Lib.hid (if_neg hbig)
  go_enter Tryd.func30, Tryd.ntmps30
  go_wp2
  go_loopw [5, 6, 7, 8, 9, 10] (fun o x _ _ _ _ wr => ∃ (i : Nat) (out : List WordD), x = .int .i64 i ∧ i ≤ s.size ∧ out.length ≤ i ∧ WordRow w.heap.size out o wr ∧ Below w.heap.size w wr ∧ Hid (WordsAt s i out)) (fun _ x _ _ _ _ _ => s.size - (intOf x).toNat)
  case atStart => exact ⟨0, [], rfl, by omega, by simp, World.ownsRow_nil _ _ _ _, Below.refl _ _, HS0⟩
  case round =>
    obtain ⟨i, out, rfl, hi9, hol, ho, hb, HN⟩ := hrel
    have HO := Lib.hid ho
    have Hb := Lib.hid hb
    have hbody := HN.out.trans (words_body s i out)
    clear ho hb HS0
    by_cases hlt : i < s.size
    · have hg := get_at' (s := s) (p := i) hlt
      rw [if_neg (by omega)] at hbody
      have x1 : (i : Int) ≤ (s.size : Int) := by omega
      have x0 : (0 : Int) ≤ (i : Int) := by omega
      obtain ⟨c, hc⟩ : ∃ c, s.get! i = c := ⟨_, rfl⟩
      rw [hc] at hg hbody
      by_cases c35 : c = 35
      · rw [if_pos c35] at hbody
        have HR := Lib.hid hbody
        subst c35
        clear hbody hc HN
        go_wp2
        all_goals go_ret3
        all_goals exact ⟨_, by rw [HR.out]; rfl, by rw [HR.out]; exact HO.out, Hb.out⟩
      rw [if_neg c35] at hbody
      have e35 : ((c.toNat : Int) != 35) = true := by rw [bne_iff_ne]; exact ne_int (k := 35) c35
      have hbl := fun w => refBlank_any c w
      obtain ⟨C, hC⟩ : ∃ C : Int, (c.toNat : Int) = C := ⟨_, rfl⟩
      rw [hC] at e35 hbl
      cases hbk : blankB c with
      | true =>
        rw [hbk, if_pos rfl] at hbody
        rw [hbk] at hbl
        have hbl := Lib.hid hbl
        have HN2 : Hid (WordsAt s (i + 1) out) := Lib.hid hbody
        clear hbody hc HN hbk c35
        go_wp2_with (first
          | (go_at_call 60; (with_reducible refine (hbl.out _).mono ?_); rintro e w1 ⟨rfl, rfl⟩))
        all_goals go_roundw
        case rel => exact ⟨i + 1, out, by go_num, by omega, by omega, HO.out, Hb.out, HN2⟩
        case measure => simp [intOf]; omega
      | false =>
        rw [hbk, if_neg (by simp)] at hbody
        rw [hbk] at hbl
        have hbl := Lib.hid hbl
        have hts : (s.extract i s.size).size = s.size - i := tail_size s i
        have hlaw := wordT_law (s.extract i s.size) (by omega)
        have hwd := refWord_any s i hlt (by omega) wr (PairsAt.below HH.out (show Below w.heap.size w wr from Hb.out)) (PairsAt.below HL.out (show Below w.heap.size w wr from Hb.out))
        rw [hts] at hlaw
        clear hc HN hbk c35 hts
        cases hx : wordT (s.extract i s.size) with
        | inl y =>
          obtain ⟨er, p⟩ := y
          have hl1 := hlaw.1 er p hx
          rw [hx] at hbody
          have hwd := hwd.mono fun e w' ⟨ha, hb⟩ => (⟨RefAns.left_ (hx ▸ ha), hb⟩ : (∃ d z, e = Ending.returned (wordV d z er ((i + p : Nat) : Int))) ∧ Below wr.heap.size wr w')
          unfold wordV at hwd
          simp only at hbody
          obtain ⟨P, hP⟩ : ∃ P : Int, ((i + p : Nat) : Int) = P := ⟨_, rfl⟩
          rw [hP] at hwd hbody
          have HR := Lib.hid hbody
          have hwd := Lib.hid hwd
          clear hP
          have he : (er != 0) = true := by simpa using hl1.1
          clear hbody hx hlaw hl1
          go_wp2_with (first
            | (go_at_call 60; (with_reducible refine (hbl.out _).mono ?_); rintro e w1 ⟨rfl, rfl⟩)
            | (go_at_call 61; (with_reducible refine hwd.out.mono ?_); rintro e w2 ⟨⟨d, z, rfl⟩, hb2⟩; have HW := Lib.hid hb2; clear hb2))
          all_goals go_ret3
          all_goals exact ⟨_, by rw [HR.out]; rfl, by rw [HR.out]; exact World.ownsRow_nil _ _ _ _, (then_ Hb.out HW.out).alloc (then_ Hb.out HW.out).size _⟩
        | inr y =>
          obtain ⟨d, n⟩ := y
          have hl1 := hlaw.2 d n hx
          rw [hx] at hbody
          have hwd := hwd.mono fun e w' ⟨ha, hb⟩ => (⟨RefAns.right_ (hx ▸ ha), hb⟩ : e = Ending.returned (wordV (d.put i) ((i + n : Nat) : Int) 0 0) ∧ Below wr.heap.size wr w')
          unfold wordV WordD.put at hwd
          simp only at hbody
          obtain ⟨j, hj0⟩ : ∃ j, i + n = j := ⟨_, rfl⟩
          rw [hj0] at hwd hbody
          have hwd := Lib.hid hwd
          have hn0 : i < j := by have := hl1.1; omega
          have hn1 : j ≤ s.size := by have := hl1.2; omega
          have j0 : (0 : Int) ≤ (j : Int) := by omega
          have j1 : (j : Int) ≤ (s.size : Int) := by omega
          have hgl : gapless s d j = (d.kind != 4 && decide (j < s.size) && !blankB (s.get! j) && s.get! j != 35 && !signB (s.get! j)) := rfl
          clear hx hlaw hl1 hj0
          by_cases k4 : d.kind = 4
          · have hf : gapless s d j = false := by rw [hgl, k4]; rfl
            rw [hf, if_neg (by simp)] at hbody
            have HN2 : Hid (WordsAt s j (out ++ [d.put i])) := Lib.hid hbody
            have e4 : (d.kind != 4) = false := by rw [k4]; rfl
            clear hbody hf hgl k4
            go_wp2_with (first
              | (go_at_call 60; (with_reducible refine (hbl.out _).mono ?_); rintro e w1 ⟨rfl, rfl⟩)
              | (go_at_call 61; (with_reducible refine hwd.out.mono ?_); rintro e w2 ⟨rfl, hb2⟩; have HW := Lib.hid hb2; clear hb2)
              | (at_builtin; refine wpList_append_own _ rfl _ _ 42 rfl w.heap.size 41 i0 _ 4 40 Tryd.underlying42 hi hz0 hz1 hz2 rfl (by decide) _ out.length _ rfl (((own_through HO.out HW.out).alloc _).alloc _) ⟨w2.heap.size + 1, 0, none⟩ 1 1 [.int .i64 d.kind, .int .i64 (i : Int), .string d.text, .int .i64 d.num] rfl rfl ?c1 ?c2 ?c3 ?c4 ?c5 ?_))
            case c1 => exact cells_new1 _ _ _ _
            case c2 => intro u hu; simp at hu; rcases hu with rfl | rfl | rfl | rfl <;> rfl
            case c3 => unfold maxLen; omega
            case c4 => omega
            case c5 => have := Hb.out.size; have := HW.out.size; simp; omega
            intro v' w5 hown5 hgrow5 _
            have hsz := HW.out.size
            have hsz0 := Hb.out.size
            have hne : some w2.heap.size ≠ u5.ownBlock := own_ne HO.out hsz
            have hc0 : w5.cell? ⟨w2.heap.size, 0, none⟩ = some (.int .i64 d.kind) := cell_grown hgrow5 (by simp) hne
            have HB5 : Hid (Below w.heap.size w w5) := Lib.hid ((((then_ Hb.out HW.out).alloc (by omega) _).alloc (by simp; omega) _).grown hgrow5 (by simp; omega) (fun b hb => (HO.out.lt b hb).1))
            have HO5 : Hid (WordRow w.heap.size (out ++ [d.put i]) v' w5) := Lib.hid (wordRow_push hown5)
            clear hown5 hgrow5 hne hwd
            go_wp2
            all_goals go_roundw
            case rel => exact ⟨j, out ++ [d.put i], rfl, by omega, by rw [List.length_append]; simp; omega, HO5.out, HB5.out, HN2⟩
            case measure => simp [intOf]; omega
          have e4 : (d.kind != 4) = true := by simpa using k4
          by_cases hj : j < s.size
          · have z2 : (j : Int) < (s.size : Int) := by omega
            have gj := get_at' (s := s) (p := j) hj
            obtain ⟨b, hb⟩ : ∃ b, s.get! j = b := ⟨_, rfl⟩
            rw [hb] at gj hgl
            have hbl2 := fun w => refBlank_any b w
            have hix2 := fun w => refSign_any b w
            obtain ⟨B, hB⟩ : ∃ B : Int, (b.toNat : Int) = B := ⟨_, rfl⟩
            rw [hB] at hbl2 hix2
            cases hbk : blankB b with
            | true =>
              rw [hbk] at hbl2
              have hbl2 := Lib.hid hbl2
              clear hix2
              have hf : gapless s d j = false := by rw [hgl, hbk]; simp
              rw [hf, if_neg (by simp)] at hbody
              have HN2 : Hid (WordsAt s j (out ++ [d.put i])) := Lib.hid hbody
              clear hbody hf hgl k4 hb hbk
              go_wp2_with (first
                | (go_at_call 60; (with_reducible refine (hbl.out _).mono ?_); rintro e w1 ⟨rfl, rfl⟩)
                | (go_at_call 61; (with_reducible refine hwd.out.mono ?_); rintro e w2 ⟨rfl, hb2⟩; have HW := Lib.hid hb2; clear hb2)
                | (at_builtin; refine wpList_append_own _ rfl _ _ 42 rfl w.heap.size 41 i0 _ 4 40 Tryd.underlying42 hi hz0 hz1 hz2 rfl (by decide) _ out.length _ rfl (((own_through HO.out HW.out).alloc _).alloc _) ⟨w2.heap.size + 1, 0, none⟩ 1 1 [.int .i64 d.kind, .int .i64 (i : Int), .string d.text, .int .i64 d.num] rfl rfl ?c1 ?c2 ?c3 ?c4 ?c5 ?_))
              case c1 => exact cells_new1 _ _ _ _
              case c2 => intro u hu; simp at hu; rcases hu with rfl | rfl | rfl | rfl <;> rfl
              case c3 => unfold maxLen; omega
              case c4 => omega
              case c5 => have := Hb.out.size; have := HW.out.size; simp; omega
              intro v' w5 hown5 hgrow5 _
              have hsz := HW.out.size
              have hsz0 := Hb.out.size
              have hne : some w2.heap.size ≠ u5.ownBlock := own_ne HO.out hsz
              have hc0 : w5.cell? ⟨w2.heap.size, 0, none⟩ = some (.int .i64 d.kind) := cell_grown hgrow5 (by simp) hne
              have HB5 : Hid (Below w.heap.size w w5) := Lib.hid ((((then_ Hb.out HW.out).alloc (by omega) _).alloc (by simp; omega) _).grown hgrow5 (by simp; omega) (fun b hb => (HO.out.lt b hb).1))
              have HO5 : Hid (WordRow w.heap.size (out ++ [d.put i]) v' w5) := Lib.hid (wordRow_push hown5)
              clear hown5 hgrow5 hne hwd
              go_wp2_with (first
                | (go_at_call 60; (with_reducible refine (hbl2.out _).mono ?_); rintro e w8 ⟨rfl, rfl⟩))
              all_goals go_roundw
              case rel => exact ⟨j, out ++ [d.put i], rfl, by omega, by rw [List.length_append]; simp; omega, HO5.out, HB5.out, HN2⟩
              case measure => simp [intOf]; omega
            | false =>
              rw [hbk] at hbl2
              have hbl2 := Lib.hid hbl2
              by_cases b35 : b = 35
              · rw [show signB b = false by rw [b35]; rfl] at hix2
                have hix2 := Lib.hid hix2
                have hf : gapless s d j = false := by rw [hgl, b35]; simp
                rw [hf, if_neg (by simp)] at hbody
                have HN2 : Hid (WordsAt s j (out ++ [d.put i])) := Lib.hid hbody
                have e3 : (B != 35) = false := by rw [← hB, b35]; rfl
                clear hbody hf hgl k4 hb hbk b35
                go_wp2_with (first
                  | (go_at_call 60; (with_reducible refine (hbl.out _).mono ?_); rintro e w1 ⟨rfl, rfl⟩)
                  | (go_at_call 61; (with_reducible refine hwd.out.mono ?_); rintro e w2 ⟨rfl, hb2⟩; have HW := Lib.hid hb2; clear hb2)
                  | (at_builtin; refine wpList_append_own _ rfl _ _ 42 rfl w.heap.size 41 i0 _ 4 40 Tryd.underlying42 hi hz0 hz1 hz2 rfl (by decide) _ out.length _ rfl (((own_through HO.out HW.out).alloc _).alloc _) ⟨w2.heap.size + 1, 0, none⟩ 1 1 [.int .i64 d.kind, .int .i64 (i : Int), .string d.text, .int .i64 d.num] rfl rfl ?c1 ?c2 ?c3 ?c4 ?c5 ?_))
                case c1 => exact cells_new1 _ _ _ _
                case c2 => intro u hu; simp at hu; rcases hu with rfl | rfl | rfl | rfl <;> rfl
                case c3 => unfold maxLen; omega
                case c4 => omega
                case c5 => have := Hb.out.size; have := HW.out.size; simp; omega
                intro v' w5 hown5 hgrow5 _
                have hsz := HW.out.size
                have hsz0 := Hb.out.size
                have hne : some w2.heap.size ≠ u5.ownBlock := own_ne HO.out hsz
                have hc0 : w5.cell? ⟨w2.heap.size, 0, none⟩ = some (.int .i64 d.kind) := cell_grown hgrow5 (by simp) hne
                have HB5 : Hid (Below w.heap.size w w5) := Lib.hid ((((then_ Hb.out HW.out).alloc (by omega) _).alloc (by simp; omega) _).grown hgrow5 (by simp; omega) (fun b hb => (HO.out.lt b hb).1))
                have HO5 : Hid (WordRow w.heap.size (out ++ [d.put i]) v' w5) := Lib.hid (wordRow_push hown5)
                clear hown5 hgrow5 hne hwd
                go_wp2_with (first
                  | (go_at_call 60; (with_reducible refine (hbl2.out _).mono ?_); rintro e w8 ⟨rfl, rfl⟩)
                  | (go_at_call 62; (with_reducible refine (hix2.out _).mono ?_); rintro e w8 ⟨rfl, rfl⟩))
                all_goals go_roundw
                case rel => exact ⟨j, out ++ [d.put i], rfl, by omega, by rw [List.length_append]; simp; omega, HO5.out, HB5.out, HN2⟩
                case measure => simp [intOf]; omega
              have e3 : (B != 35) = true := by rw [bne_iff_ne, ← hB]; exact ne_int (k := 35) b35
              by_cases hsg : signB b = true
              · rw [hsg] at hix2
                have hix2 := Lib.hid hix2
                have hf : gapless s d j = false := by rw [hgl, hsg]; simp
                rw [hf, if_neg (by simp)] at hbody
                have HN2 : Hid (WordsAt s j (out ++ [d.put i])) := Lib.hid hbody
                clear hbody hf hgl k4 hb hbk b35 hsg
                go_wp2_with (first
                  | (go_at_call 60; (with_reducible refine (hbl.out _).mono ?_); rintro e w1 ⟨rfl, rfl⟩)
                  | (go_at_call 61; (with_reducible refine hwd.out.mono ?_); rintro e w2 ⟨rfl, hb2⟩; have HW := Lib.hid hb2; clear hb2)
                  | (at_builtin; refine wpList_append_own _ rfl _ _ 42 rfl w.heap.size 41 i0 _ 4 40 Tryd.underlying42 hi hz0 hz1 hz2 rfl (by decide) _ out.length _ rfl (((own_through HO.out HW.out).alloc _).alloc _) ⟨w2.heap.size + 1, 0, none⟩ 1 1 [.int .i64 d.kind, .int .i64 (i : Int), .string d.text, .int .i64 d.num] rfl rfl ?c1 ?c2 ?c3 ?c4 ?c5 ?_))
                case c1 => exact cells_new1 _ _ _ _
                case c2 => intro u hu; simp at hu; rcases hu with rfl | rfl | rfl | rfl <;> rfl
                case c3 => unfold maxLen; omega
                case c4 => omega
                case c5 => have := Hb.out.size; have := HW.out.size; simp; omega
                intro v' w5 hown5 hgrow5 _
                have hsz := HW.out.size
                have hsz0 := Hb.out.size
                have hne : some w2.heap.size ≠ u5.ownBlock := own_ne HO.out hsz
                have hc0 : w5.cell? ⟨w2.heap.size, 0, none⟩ = some (.int .i64 d.kind) := cell_grown hgrow5 (by simp) hne
                have HB5 : Hid (Below w.heap.size w w5) := Lib.hid ((((then_ Hb.out HW.out).alloc (by omega) _).alloc (by simp; omega) _).grown hgrow5 (by simp; omega) (fun b hb => (HO.out.lt b hb).1))
                have HO5 : Hid (WordRow w.heap.size (out ++ [d.put i]) v' w5) := Lib.hid (wordRow_push hown5)
                clear hown5 hgrow5 hne hwd
                go_wp2_with (first
                  | (go_at_call 60; (with_reducible refine (hbl2.out _).mono ?_); rintro e w8 ⟨rfl, rfl⟩)
                  | (go_at_call 62; (with_reducible refine (hix2.out _).mono ?_); rintro e w8 ⟨rfl, rfl⟩))
                all_goals go_roundw
                case rel => exact ⟨j, out ++ [d.put i], rfl, by omega, by rw [List.length_append]; simp; omega, HO5.out, HB5.out, HN2⟩
                case measure => simp [intOf]; omega
              · have hf : gapless s d j = true := by rw [hgl, hbk]; simp [k4, hj, b35, hsg]
                rw [hf, if_pos rfl, other_at] at hbody
                rw [show signB b = false by simpa using hsg] at hix2
                have hix2 := Lib.hid hix2
                have hpc := fun w => piece_any s j hj (by omega) w
                unfold pieceV at hpc
                obtain ⟨R, hR⟩ : ∃ R, pieceR s j = R := ⟨_, rfl⟩
                have hRe : R = if strayAt s j = true then -1 else ((Utf8.decode s j).1 : Int) := hR.symm
                rw [hR] at hpc
                have hpc := Lib.hid hpc
                by_cases hst : strayAt s j = true
                · rw [if_pos hst] at hbody hRe
                  have HR := Lib.hid hbody
                  have R0 : R < 0 := by omega
                  clear hbody hf hgl k4 hb hbk b35 hsg hRe hR hst
                  go_wp2_with (first
                    | (go_at_call 60; (with_reducible refine (hbl.out _).mono ?_); rintro e w1 ⟨rfl, rfl⟩)
                    | (go_at_call 61; (with_reducible refine hwd.out.mono ?_); rintro e w2 ⟨rfl, hb2⟩; have HW := Lib.hid hb2; clear hb2)
                    | (at_builtin; refine wpList_append_own _ rfl _ _ 42 rfl w.heap.size 41 i0 _ 4 40 Tryd.underlying42 hi hz0 hz1 hz2 rfl (by decide) _ out.length _ rfl (((own_through HO.out HW.out).alloc _).alloc _) ⟨w2.heap.size + 1, 0, none⟩ 1 1 [.int .i64 d.kind, .int .i64 (i : Int), .string d.text, .int .i64 d.num] rfl rfl ?c1 ?c2 ?c3 ?c4 ?c5 ?_))
                  case c1 => exact cells_new1 _ _ _ _
                  case c2 => intro u hu; simp at hu; rcases hu with rfl | rfl | rfl | rfl <;> rfl
                  case c3 => unfold maxLen; omega
                  case c4 => omega
                  case c5 => have := Hb.out.size; have := HW.out.size; simp; omega
                  intro v' w5 hown5 hgrow5 _
                  have hsz := HW.out.size
                  have hsz0 := Hb.out.size
                  have hne : some w2.heap.size ≠ u5.ownBlock := own_ne HO.out hsz
                  have hc0 : w5.cell? ⟨w2.heap.size, 0, none⟩ = some (.int .i64 d.kind) := cell_grown hgrow5 (by simp) hne
                  have HB5 : Hid (Below w.heap.size w w5) := Lib.hid ((((then_ Hb.out HW.out).alloc (by omega) _).alloc (by simp; omega) _).grown hgrow5 (by simp; omega) (fun b hb => (HO.out.lt b hb).1))
                  have HO5 : Hid (WordRow w.heap.size (out ++ [d.put i]) v' w5) := Lib.hid (wordRow_push hown5)
                  clear hown5 hgrow5 hne hwd
                  go_wp2_with (first
                    | (go_at_call 60; (with_reducible refine (hbl2.out _).mono ?_); rintro e w8 ⟨rfl, rfl⟩)
                    | (go_at_call 62; (with_reducible refine (hix2.out _).mono ?_); rintro e w8 ⟨rfl, rfl⟩)
                    | (go_at_call 49; (with_reducible refine (hpc.out _).mono ?_); rintro e w9 ⟨rfl, hb9⟩; have HB9 := Lib.hid (then_ HB5.out hb9); clear hb9))
                  rename_i hKa
                  refine hKa (Act.put _ _ (.int .i64 R)) _ ?_
                  clear hKa
                  go_wp2
                  all_goals go_ret3
                  all_goals exact ⟨_, by rw [HR.out]; rfl, by rw [HR.out]; exact World.ownsRow_nil _ _ _ _, HB9.out⟩
                · rw [if_neg hst] at hbody hRe
                  have HR := Lib.hid hbody
                  have R0 : ¬ R < 0 := by omega
                  clear hbody hf hgl k4 hb hbk b35 hsg hRe hR hst
                  go_wp2_with (first
                    | (go_at_call 60; (with_reducible refine (hbl.out _).mono ?_); rintro e w1 ⟨rfl, rfl⟩)
                    | (go_at_call 61; (with_reducible refine hwd.out.mono ?_); rintro e w2 ⟨rfl, hb2⟩; have HW := Lib.hid hb2; clear hb2)
                    | (at_builtin; refine wpList_append_own _ rfl _ _ 42 rfl w.heap.size 41 i0 _ 4 40 Tryd.underlying42 hi hz0 hz1 hz2 rfl (by decide) _ out.length _ rfl (((own_through HO.out HW.out).alloc _).alloc _) ⟨w2.heap.size + 1, 0, none⟩ 1 1 [.int .i64 d.kind, .int .i64 (i : Int), .string d.text, .int .i64 d.num] rfl rfl ?c1 ?c2 ?c3 ?c4 ?c5 ?_))
                  case c1 => exact cells_new1 _ _ _ _
                  case c2 => intro u hu; simp at hu; rcases hu with rfl | rfl | rfl | rfl <;> rfl
                  case c3 => unfold maxLen; omega
                  case c4 => omega
                  case c5 => have := Hb.out.size; have := HW.out.size; simp; omega
                  intro v' w5 hown5 hgrow5 _
                  have hsz := HW.out.size
                  have hsz0 := Hb.out.size
                  have hne : some w2.heap.size ≠ u5.ownBlock := own_ne HO.out hsz
                  have hc0 : w5.cell? ⟨w2.heap.size, 0, none⟩ = some (.int .i64 d.kind) := cell_grown hgrow5 (by simp) hne
                  have HB5 : Hid (Below w.heap.size w w5) := Lib.hid ((((then_ Hb.out HW.out).alloc (by omega) _).alloc (by simp; omega) _).grown hgrow5 (by simp; omega) (fun b hb => (HO.out.lt b hb).1))
                  have HO5 : Hid (WordRow w.heap.size (out ++ [d.put i]) v' w5) := Lib.hid (wordRow_push hown5)
                  clear hown5 hgrow5 hne hwd
                  go_wp2_with (first
                    | (go_at_call 60; (with_reducible refine (hbl2.out _).mono ?_); rintro e w8 ⟨rfl, rfl⟩)
                    | (go_at_call 62; (with_reducible refine (hix2.out _).mono ?_); rintro e w8 ⟨rfl, rfl⟩)
                    | (go_at_call 49; (with_reducible refine (hpc.out _).mono ?_); rintro e w9 ⟨rfl, hb9⟩; have HB9 := Lib.hid (then_ HB5.out hb9); clear hb9))
                  rename_i hKa
                  refine hKa (Act.put _ _ (.int .i64 R)) _ ?_
                  clear hKa
                  go_wp2
                  all_goals go_ret3
                  all_goals exact ⟨_, by rw [HR.out]; rfl, by rw [HR.out]; exact World.ownsRow_nil _ _ _ _, HB9.out⟩
          · have hf : gapless s d j = false := by rw [hgl]; simp [hj]
            rw [hf, if_neg (by simp)] at hbody
            have HN2 : Hid (WordsAt s j (out ++ [d.put i])) := Lib.hid hbody
            have z2 : ¬ (j : Int) < (s.size : Int) := by omega
            clear hbody hf hgl k4 hj
            go_wp2_with (first
              | (go_at_call 60; (with_reducible refine (hbl.out _).mono ?_); rintro e w1 ⟨rfl, rfl⟩)
              | (go_at_call 61; (with_reducible refine hwd.out.mono ?_); rintro e w2 ⟨rfl, hb2⟩; have HW := Lib.hid hb2; clear hb2)
              | (at_builtin; refine wpList_append_own _ rfl _ _ 42 rfl w.heap.size 41 i0 _ 4 40 Tryd.underlying42 hi hz0 hz1 hz2 rfl (by decide) _ out.length _ rfl (((own_through HO.out HW.out).alloc _).alloc _) ⟨w2.heap.size + 1, 0, none⟩ 1 1 [.int .i64 d.kind, .int .i64 (i : Int), .string d.text, .int .i64 d.num] rfl rfl ?c1 ?c2 ?c3 ?c4 ?c5 ?_))
            case c1 => exact cells_new1 _ _ _ _
            case c2 => intro u hu; simp at hu; rcases hu with rfl | rfl | rfl | rfl <;> rfl
            case c3 => unfold maxLen; omega
            case c4 => omega
            case c5 => have := Hb.out.size; have := HW.out.size; simp; omega
            intro v' w5 hown5 hgrow5 _
            have hsz := HW.out.size
            have hsz0 := Hb.out.size
            have hne : some w2.heap.size ≠ u5.ownBlock := own_ne HO.out hsz
            have hc0 : w5.cell? ⟨w2.heap.size, 0, none⟩ = some (.int .i64 d.kind) := cell_grown hgrow5 (by simp) hne
            have HB5 : Hid (Below w.heap.size w w5) := Lib.hid ((((then_ Hb.out HW.out).alloc (by omega) _).alloc (by simp; omega) _).grown hgrow5 (by simp; omega) (fun b hb => (HO.out.lt b hb).1))
            have HO5 : Hid (WordRow w.heap.size (out ++ [d.put i]) v' w5) := Lib.hid (wordRow_push hown5)
            clear hown5 hgrow5 hne hwd
            go_wp2
            all_goals go_roundw
            case rel => exact ⟨j, out ++ [d.put i], rfl, by omega, by rw [List.length_append]; simp; omega, HO5.out, HB5.out, HN2⟩
            case measure => simp [intOf]; omega
    · rw [if_pos hlt] at hbody
      have HR := Lib.hid hbody
      obtain rfl : i = s.size := by omega
      clear hbody HN hlt
      go_wp2
      all_goals go_ret3
      all_goals exact ⟨_, by rw [HR.out]; rfl, by rw [HR.out]; exact HO.out, Hb.out⟩
end Go.Proofs.YtepmfjhhmnmmeaaDoor
namespace Go.Proofs.YtepmfjhhmnmmeaaDoor
open Go.RowKit

/-- A list of words lies there. -/
def WordsIn (w : World) (v : Value) (l : List WordD) : Prop := ∃ ao c, v = .slice ao l.length c ∧ (0 < l.length → ∃ g, ao = some ⟨g, 0, none⟩ ∧ ∀ j d, l[j]? = some d →
  w.cell? ⟨g, j * 4, none⟩ = some (.int .i64 d.kind) ∧ w.cell? ⟨g, j * 4 + 1, none⟩ = some (.int .i64 d.at_) ∧ w.cell? ⟨g, j * 4 + 2, none⟩ = some (.string d.text) ∧ w.cell? ⟨g, j * 4 + 3, none⟩ = some (.int .i64 d.num))
theorem words_get : ∀ (l : List WordD) (j : Nat) (d : WordD), l[j]? = some d → (l.flatMap WordD.cells)[j * 4]? = some (.int .i64 d.kind) ∧ (l.flatMap WordD.cells)[j * 4 + 1]? = some (.int .i64 d.at_) ∧ (l.flatMap WordD.cells)[j * 4 + 2]? = some (.string d.text) ∧ (l.flatMap WordD.cells)[j * 4 + 3]? = some (.int .i64 d.num)
  | [], j, d, h => by simp at h
  | x :: l, 0, d, h => by
    simp at h
    subst h
    simp [WordD.cells]
  | x :: l, j + 1, d, h => by
    have ih := words_get l j d (by simpa using h)
    rw [List.flatMap_cons]
    have hx : (WordD.cells x).length = 4 := rfl
    rw [List.getElem?_append_right (by omega), List.getElem?_append_right (by omega), List.getElem?_append_right (by omega), List.getElem?_append_right (by omega), hx]
    rw [show (j + 1) * 4 - 4 = j * 4 by omega, show (j + 1) * 4 + 1 - 4 = j * 4 + 1 by omega, show (j + 1) * 4 + 2 - 4 = j * 4 + 2 by omega, show (j + 1) * 4 + 3 - 4 = j * 4 + 3 by omega]
    exact ih
theorem words_len (l : List WordD) : (l.flatMap WordD.cells).length = l.length * 4 := by
  induction l with
  | nil => rfl
  | cons d l ih =>
    rw [List.flatMap_cons, List.length_append, ih, List.length_cons]
    show 4 + l.length * 4 = _
    omega
theorem WordRow.in_ {B : Nat} {l : List WordD} {v : Value} {w : World} (h : WordRow B l v w) : WordsIn w v l := by
  have hc := h
  rcases h.2 with ⟨rfl, h0⟩ | ⟨g, cap, cur, rfl, h3, h4, h5, h6, h7, h8⟩
  · have hl : l = [] := List.eq_nil_of_length_eq_zero h0
    subst hl
    exact ⟨none, 0, rfl, fun h => by simp at h⟩
  · refine ⟨_, cap, rfl, fun _ => ⟨g, rfl, fun j d hj => ?_⟩⟩
    have hjl : j < l.length := (List.getElem?_eq_some_iff.1 hj).1
    obtain ⟨e0, e1, e2, e3⟩ := words_get l j d hj
    exact ⟨(hc.cellAt (j * 4) (by omega)).trans e0, (hc.cellAt (j * 4 + 1) (by omega)).trans e1, (hc.cellAt (j * 4 + 2) (by omega)).trans e2, (hc.cellAt (j * 4 + 3) (by omega)).trans e3⟩
theorem WordsIn.below {w w' : World} {v : Value} {l : List WordD} (h : WordsIn w v l) (hb : Below w.heap.size w w') : WordsIn w' v l := by
  obtain ⟨ao, c, e, hc⟩ := h
  refine ⟨ao, c, e, fun h0 => ?_⟩
  obtain ⟨g, e2, hcs⟩ := hc h0
  refine ⟨g, e2, fun j d hj => ?_⟩
  obtain ⟨h1, h2, h3, h4⟩ := hcs j d hj
  exact ⟨(hb.cell (World.block_lt_of_cell? _ _ h1)).trans h1, (hb.cell (World.block_lt_of_cell? _ _ h2)).trans h2, (hb.cell (World.block_lt_of_cell? _ _ h3)).trans h3, (hb.cell (World.block_lt_of_cell? _ _ h4)).trans h4⟩
set_option maxHeartbeats 4000000 in
set_option maxRecDepth 100000 in
theorem sameWords_any (l : List WordD) (v1 v2 : Value) (w : World) (h1 : WordsIn w v1 l) (h2 : WordsIn w v2 l) (hl : l.length ≤ 1099511627776) :
    Calls Tryd.prog 29 #[v1, v2] w fun e w' => e = .returned (.bool true) ∧ Drawn w w' := by
  obtain ⟨a1, c1, rfl, r1⟩ := h1
  obtain ⟨a2, c2, rfl, r2⟩ := h2
  have R1 := Lib.hid r1
  have R2 := Lib.hid r2
  clear r1 r2
  go_enter Tryd.func29, Tryd.ntmps29
  go_wp2
  go_loopw [5] (fun x wr => ∃ j : Nat, x = .int .i64 j ∧ j ≤ l.length ∧ Drawn w wr) (fun x _ => l.length - (intOf x).toNat)
  case atStart => exact ⟨0, rfl, by omega, Drawn.refl _⟩
  case round =>
    obtain ⟨j, rfl, hj, HD⟩ := hrel
    by_cases hlt : j < l.length
    · obtain ⟨g1, rfl, k1⟩ := R1.out (by omega)
      obtain ⟨g2, rfl, k2⟩ := R2.out (by omega)
      obtain ⟨d, hd⟩ : ∃ d, l[j]? = some d := ⟨l[j], List.getElem?_eq_getElem hlt⟩
      obtain ⟨p0, p1, p2, p3⟩ := k1 j d hd
      obtain ⟨q0, q1, q2, q3⟩ := k2 j d hd
      obtain ⟨m, rfl⟩ := HD.out
      clear k1 k2 hd
      go_wp2
      go_region
      all_goals go_wp2
      all_goals go_roundw
      case rel => exact ⟨j + 1, by go_num, by omega, by first | exact HD.step 1 | exact HD⟩
      case measure => simp [intOf]; omega
    · obtain rfl : j = l.length := by omega
      go_wp2
      all_goals go_ret
      all_goals exact ⟨rfl, HD⟩
end Go.Proofs.YtepmfjhhmnmmeaaDoor
namespace Go.Proofs.YtepmfjhhmnmmeaaDoor
open Go.RowKit

def mkW (m : Int) : WordD := ⟨m, 0, ⟨#[]⟩, 0⟩
theorem grown_trans {w w1 w2 : World} {row row' : Option Nat} (h : w.grownBy w1 row) (h2 : w1.grownBy w2 row') (hr : row' = row ∨ ∀ k, row' = some k → w.heap.size ≤ k) : w.grownBy w2 row := by
  obtain ⟨a1, a2, a3, a4, a5⟩ := h
  obtain ⟨b1, b2, b3, b4, b5⟩ := h2
  refine ⟨b1.trans a1, b2.trans a2, b3.trans a3, by omega, fun k hk hne => ?_⟩
  rw [b5 k (by omega) (fun e => ?_), a5 k hk hne]
  rcases hr with rfl | hr
  · exact hne e
  · have := hr k e.symm
    omega
theorem grown_refl (w : World) (row : Option Nat) : w.grownBy w row := ⟨rfl, rfl, rfl, Nat.le_refl _, fun _ _ _ => rfl⟩
theorem grown_alloc (w : World) (o : Obj) (row : Option Nat) : w.grownBy (w.alloc o) row := ⟨rfl, rfl, rfl, by simp, fun k hk _ => Lib.alloc_old w o k hk⟩
theorem WordsIn.grown {w w' : World} {v : Value} {l : List WordD} {row : Option Nat} (h : WordsIn w v l) (hg : w.grownBy w' row) (hne : ∀ g o n c, v = .slice (some ⟨g, o, none⟩) n c → row ≠ some g) : WordsIn w' v l := by
  obtain ⟨ao, c, e, hc⟩ := h
  refine ⟨ao, c, e, fun h0 => ?_⟩
  obtain ⟨g, e2, hcs⟩ := hc h0
  have hn : some g ≠ row := fun k => hne g 0 _ _ (by rw [e, e2]) k.symm
  refine ⟨g, e2, fun j d hj => ?_⟩
  obtain ⟨h1, h2, h3, h4⟩ := hcs j d hj
  exact ⟨cell_grown hg h1 hn, cell_grown hg h2 hn, cell_grown hg h3 hn, cell_grown hg h4 hn⟩
theorem wordRow_put {B g cap : Nat} {l1 l2 : List WordD} {d d' : WordD} {w' : World} {cur : Array Value} (hB : B ≤ g) (h5 : (l1 ++ d :: l2).length ≤ cap) (h6 : cap ≤ maxLen) (h7 : cur.size = cap * 4)
    (h8 : cur.toList.take ((l1 ++ d :: l2).length * 4) = (l1 ++ d :: l2).flatMap WordD.cells) (hk : BlkAt w' g (cur.toList.take (l1.length * 4) ++ d'.cells ++ cur.toList.drop (l1.length * 4 + 4)).toArray 41) :
    WordRow B (l1 ++ d' :: l2) (.slice (some ⟨g, 0, none⟩) (l1 ++ d' :: l2).length cap) w' := by
  have hlen : (l1 ++ d' :: l2).length = (l1 ++ d :: l2).length := by simp
  have hc : cur.toList.length = cap * 4 := h7
  have hn : (l1 ++ d :: l2).length = l1.length + 1 + l2.length := by simp; omega
  have e1 : cur.toList.take (l1.length * 4) = l1.flatMap WordD.cells := by
    have := congrArg (List.take (l1.length * 4)) h8
    rw [List.take_take, Nat.min_eq_left (by omega), List.flatMap_append, List.take_left' (words_len l1)] at this
    exact this
  have e2 : (cur.toList.drop (l1.length * 4 + 4)).take (l2.length * 4) = l2.flatMap WordD.cells := by
    have := congrArg (List.drop (l1.length * 4 + 4)) h8
    rw [List.drop_take, show (l1 ++ d :: l2).length * 4 - (l1.length * 4 + 4) = l2.length * 4 by omega, List.flatMap_append, List.flatMap_cons, ← List.append_assoc, List.drop_left' (by rw [List.length_append, words_len]; rfl)] at this
    exact this
  refine ⟨words_len _, Or.inr ⟨g, cap, _, rfl, hB, hk, by omega, h6, ?_, ?_⟩⟩
  · have hd : (WordD.cells d').length = 4 := rfl
    simp only [List.size_toArray, List.length_append, List.length_take, List.length_drop, hd]
    omega
  · have hd : (WordD.cells d').length = 4 := rfl
    show List.take ((l1 ++ d' :: l2).length * 4) (cur.toList.take (l1.length * 4) ++ d'.cells ++ cur.toList.drop (l1.length * 4 + 4)) = _
    rw [e1, hlen, List.flatMap_append, List.flatMap_cons, ← List.append_assoc]
    have hl : (l1.flatMap WordD.cells ++ WordD.cells d').length = l1.length * 4 + 4 := by rw [List.length_append, words_len, hd]
    rw [List.take_append, List.take_of_length_le (by omega), hl, show (l1 ++ d :: l2).length * 4 - (l1.length * 4 + 4) = l2.length * 4 by omega, e2]
theorem cell_alloc {w : World} {a : Addr} {u : Value} (o : Obj) (h : w.cell? a = some u) : (w.alloc o).cell? a = some u := by
  have hb := World.block_lt_of_cell? w a h
  have e := Lib.alloc_old w o a.block hb
  unfold World.cell? at h ⊢
  rw [e]
  exact h
/-- What filled leaves. -/
structure Filled (w w' : World) (B n : Nat) (v x : Value) (mk : Int) : Prop where
  new : WordsIn w' x (List.replicate (n + 40) (mkW mk))
  old : WordsIn w' v (List.replicate n (mkW mk))
  grown : w.grownBy w' v.ownBlock
  lies : ∀ k, x.ownBlock = some k → B ≤ k
  where_ : x.ownBlock = v.ownBlock ∨ ∀ q, x.ownBlock = some q → w.heap.size ≤ q
set_option maxHeartbeats 8000000 in
set_option maxRecDepth 100000 in
theorem filled_any (B : Nat) (l : List WordD) (v : Value) (w : World) (mk : Int) (h : WordRow B l v w) (hB : B ≤ w.heap.size) (hl : l.length ≤ 131072) :
    Calls Tryd.prog 31 #[v, .int .i64 mk] w fun e w' => ∃ x, e = .returned x ∧ Filled w w' B l.length v x mk := by
  obtain ⟨i0, hi, hz0, hz1, hz2⟩ := info_parts infoWord
  obtain ⟨ao, cv, rfl⟩ : ∃ ao c, v = .slice ao l.length c := by
    obtain ⟨ao, c, e, _⟩ := h.in_
    exact ⟨ao, c, e⟩
  have HBase := Lib.hid (fun k hk => (h.lt k hk))
  obtain ⟨n, hn⟩ : ∃ n, l.length = n := ⟨_, rfl⟩
  have H0 := Lib.hid h
  have Hn := Lib.hid hn
  rw [hn] at hl ⊢
  have Hv : Hid ((Value.slice ao l.length cv) = .slice ao n cv) := Lib.hid (by rw [hn])
  clear h hn
  go_enter Tryd.func31, Tryd.ntmps31
  go_wp2
  go_loopw [5] (fun x wr => ∃ k : Nat, x = .int .i64 k ∧ k ≤ n ∧ WordRow B (List.replicate k (mkW mk) ++ l.drop k) (.slice ao n cv) wr ∧ w.grownBy wr (Value.slice ao n cv).ownBlock) (fun x _ => n - (intOf x).toNat)
  case atStart => exact ⟨0, rfl, by omega, by rw [← Hv.out]; exact H0.out, grown_refl _ _⟩
  case round =>
    obtain ⟨k, rfl, hk, ho, hg⟩ := hrel
    by_cases hlt : k < n
    · obtain ⟨g, cap, cur, he, h3, h4, h5, h6, h7, h8⟩ : ∃ g cap cur, (Value.slice ao n cv) = .slice (some ⟨g, 0, none⟩) (List.replicate k (mkW mk) ++ l.drop k).length cap ∧ B ≤ g ∧ wr.heap[g]? = some (.cells cur 41) ∧ (List.replicate k (mkW mk) ++ l.drop k).length ≤ cap ∧ cap ≤ maxLen ∧ cur.size = cap * 4 ∧ cur.toList.take ((List.replicate k (mkW mk) ++ l.drop k).length * 4) = (List.replicate k (mkW mk) ++ l.drop k).flatMap WordD.cells := by
        rcases ho.2 with ⟨e, h0⟩ | ⟨g, cap, cur, e, r⟩
        · have := Hn.out
          simp at h0
          omega
        · exact ⟨g, cap, cur, e, r⟩
      have hl2 := Hn.out
      obtain ⟨d, l2, hd⟩ : ∃ d l2, l.drop k = d :: l2 := by
        cases hx : l.drop k with
        | nil =>
          have := congrArg List.length hx
          simp at this
          omega
        | cons d l2 => exact ⟨d, l2, rfl⟩
      have hd2 : l.drop (k + 1) = l2 := by
        have := congrArg (List.drop 1) hd
        rw [List.drop_drop] at this
        exact this
      have hlen : (List.replicate k (mkW mk) ++ l.drop k).length = n := by simp; omega
      rw [hlen] at he h5
      simp only [Value.slice.injEq] at he
      obtain ⟨rfl, _, rfl⟩ := he
      rw [hd] at h8 hlen
      have H8 := Lib.hid h8
      have H5 : Hid ((List.replicate k (mkW mk) ++ d :: l2).length ≤ cv) := Lib.hid (by omega)
      have HL := Lib.hid hlen
      have HD2 := Lib.hid hd2
      have hBlk : BlkAt wr g cur 41 := h4
      have hfit : k * 4 + 4 ≤ cur.size := by omega
      have Hg := Lib.hid hg
      have hkc : (k : Int) < (cv : Int) := by omega
      clear h8 hlen hd2 hd h4 hg ho HBase H0 Hv hl2
      go_wp2_with (refine wpList_store_part rfl _ _ _ rfl g (k * 4) rfl #[.int .i64 mk, .int .i64 0, .string ⟨#[]⟩, .int .i64 0] rfl _ cur hBlk hfit (by simp [Value.oneCell']) rowWord ?_; intro w5 hw5 K5)
      have HR5 : Hid (WordRow B (List.replicate (k + 1) (mkW mk) ++ l.drop (k + 1)) (.slice (some ⟨g, 0, none⟩) n cv) w5) := Lib.hid (by
        have hput := wordRow_put (l1 := List.replicate k (mkW mk)) (l2 := l2) (d := d) (d' := mkW mk) (w' := w5) h3 H5.out h6 h7 H8.out (by rw [List.length_replicate]; exact K5)
        rw [HD2.out, List.replicate_succ', List.append_assoc]
        have hlen2 : (List.replicate k (mkW mk) ++ mkW mk :: l2).length = n := by
          have := HL.out
          simp at this ⊢
          omega
        rw [hlen2] at hput
        exact hput)
      have HG5 : Hid (w.grownBy w5 (Value.slice (some ⟨g, 0, none⟩) n cv).ownBlock) := Lib.hid (grown_trans Hg.out hw5.grown (Or.inl rfl))
      clear hw5 K5 hBlk
      go_wp2
      all_goals go_roundw
      case rel => exact ⟨k + 1, by go_num, by omega, HR5.out, HG5.out⟩
      case measure => simp [intOf]; omega
    · obtain rfl : k = n := by omega
      have hdr : l.drop k = [] := List.drop_eq_nil_of_le (by rw [Hn.out]; omega)
      rw [hdr, List.append_nil] at ho
      have Ho := Lib.hid ho
      have Hg := Lib.hid hg
      have HV0 : Hid (WordsIn wr (.slice ao k cv) (List.replicate k (mkW mk))) := Lib.hid ho.in_
      have hlt0 := fun q hq => ho.lt q hq
      have HLT := Lib.hid hlt0
      clear ho hg hdr H0 Hv Hn hlt hlt0
      go_wp2
      go_loopw [0, 6] (fun x y wr => ∃ m : Nat, y = .int .i64 m ∧ m ≤ 40 ∧ WordRow B (List.replicate (k + m) (mkW mk)) x wr ∧ WordsIn wr (.slice ao k cv) (List.replicate k (mkW mk)) ∧ w.grownBy wr (Value.slice ao k cv).ownBlock ∧ (x.ownBlock = (Value.slice ao k cv).ownBlock ∨ ∀ q, x.ownBlock = some q → w.heap.size ≤ q)) (fun _ y _ => 40 - (intOf y).toNat)
      case atStart => exact ⟨0, rfl, by omega, Ho.out, HV0.out, Hg.out, Or.inl rfl⟩
      case round =>
        obtain ⟨m, rfl, hm, ho, hv, hg, hx⟩ := hrel
        have hsz := hg.size
        have Ho2 := Lib.hid ho
        have Hv2 := Lib.hid hv
        have Hg2 := Lib.hid hg
        have Hx2 := Lib.hid hx
        have hmk : (List.replicate (k + m) (mkW mk)).flatMap WordD.cells ++ [.int .i64 mk, .int .i64 0, .string ⟨#[]⟩, .int .i64 0] = (List.replicate (k + (m + 1)) (mkW mk)).flatMap WordD.cells := by
          rw [← Nat.add_assoc, List.replicate_succ', List.flatMap_append]
          rfl
        have Hmk := Lib.hid hmk
        have hlen : (List.replicate (k + m) (mkW mk)).length = k + m := List.length_replicate
        have hlen2 : (List.replicate (k + (m + 1)) (mkW mk)).length = k + m + 1 := by rw [List.length_replicate]; omega
        have HL := Lib.hid hlen
        have HL2 := Lib.hid hlen2
        clear hmk hlen hlen2 hv hx
        by_cases hlt : m < 40
        · obtain ⟨ax, cx, rfl⟩ : ∃ a c, u0 = .slice a (k + m) c := by
            obtain ⟨a, c, e, _⟩ := ho.in_
            rw [List.length_replicate] at e
            exact ⟨a, c, e⟩
          by_cases hroom : k + m + 1 ≤ cx
          · obtain ⟨gx, rfl⟩ : ∃ g, ax = some ⟨g, 0, none⟩ := by
              rcases ho.2 with ⟨e, h0⟩ | ⟨g, cap, cur, e, r⟩
              · simp only [Value.slice.injEq] at e
                omega
              · simp only [Value.slice.injEq] at e
                exact ⟨g, e.1⟩
            have hon : wr.ownsRow B 41 4 (.slice (some ⟨gx, 0, none⟩) (k + m) cx) (k + m) ((List.replicate (k + m) (mkW mk)).flatMap WordD.cells) := by
              have := Ho2.out
              unfold WordRow at this
              rw [HL.out] at this
              exact this
            have Hon := Lib.hid hon
            clear ho hg hon
            go_wp2_with (at_builtin; refine wpList_append_own_spare _ rfl _ _ 42 rfl B 41 i0 4 Tryd.underlying42 hi hz1 gx (k + m) cx _ rfl (Hon.out.alloc _) ⟨wr.heap.size, 0, none⟩ 1 1 [.int .i64 mk, .int .i64 0, .string ⟨#[]⟩, .int .i64 0] rfl rfl ?c1 ?c2 hroom ?_)
            case c1 => exact cells_new _ _ _
            case c2 => intro u hu; simp at hu; rcases hu with rfl | rfl | rfl | rfl <;> rfl
            intro w5 hown5 hgrow5
            have HR5 : Hid (WordRow B (List.replicate (k + (m + 1)) (mkW mk)) (.slice (some ⟨gx, 0, none⟩) (k + m + 1) cx) w5) := Lib.hid (by
              unfold WordRow
              rw [HL2.out, ← Hmk.out]
              exact hown5)
            have hgr5 : wr.grownBy w5 (some gx) := grown_trans (grown_alloc wr _ (some gx)) hgrow5 (Or.inl rfl)
            have HG5 : Hid (w.grownBy w5 (Value.slice ao k cv).ownBlock) := Lib.hid (grown_trans Hg2.out hgr5 (by
              rcases Hx2.out with e | e
              · exact Or.inl e
              · exact Or.inr e))
            have HV5 : Hid (WordsIn w5 (.slice ao k cv) (List.replicate k (mkW mk))) := Lib.hid (by
              by_cases hs : ∃ o n c, (Value.slice ao k cv) = .slice (some ⟨gx, o, none⟩) n c
              · obtain ⟨o, n2, c2, e⟩ := hs
                obtain ⟨bo, cc, e2, hcs⟩ := Hv2.out
                obtain ⟨bn, cn, e3, hcn⟩ := HR5.out.in_
                refine ⟨bo, cc, e2, fun h0 => ?_⟩
                obtain ⟨g2, e4, _⟩ := hcs h0
                obtain ⟨g3, e5, hc3⟩ := hcn (by rw [HL2.out]; omega)
                have hg23 : g2 = g3 := by
                  rw [e4] at e2
                  rw [e2] at e
                  rw [e5] at e3
                  simp only [Value.slice.injEq, Option.some.injEq, Addr.mk.injEq] at e e3
                  omega
                subst hg23
                refine ⟨g2, e4, fun j d hj => ?_⟩
                have hjl : j < k := by
                  have := (List.getElem?_eq_some_iff.1 hj).1
                  simpa using this
                have hdm : d = mkW mk := by
                  rw [List.getElem?_replicate, if_pos hjl] at hj
                  exact (Option.some.inj hj).symm
                exact hc3 j d (by rw [List.getElem?_replicate, if_pos (by omega), hdm])
              · exact Hv2.out.grown hgr5 (fun g o n c e k2 => hs ⟨o, n, c, by rw [e, Option.some.inj k2]⟩))
            clear hown5 hgrow5 hgr5
            go_wp2
            all_goals go_roundw
            case rel => exact ⟨m + 1, by go_num, by omega, HR5.out, HV5.out, HG5.out, Hx2.out⟩
            case measure => simp [intOf]; omega
          · have hon : wr.ownsRow B 41 4 (.slice ax (k + m) cx) (k + m) ((List.replicate (k + m) (mkW mk)).flatMap WordD.cells) := by
              have := Ho2.out
              unfold WordRow at this
              rw [HL.out] at this
              exact this
            have Hnone : Hid (ax = none → k + m = 0 ∧ cx = 0) := Lib.hid (fun e => by
              rcases hon.2 with ⟨e2, h0⟩ | ⟨g, cap, cur, e2, r⟩
              · simp only [Value.slice.injEq] at e2
                omega
              · simp only [Value.slice.injEq] at e2
                rw [e] at e2
                cases e2.1)
            have Holds : Hid (∀ b, ax = some b → ∀ j u, ((List.replicate (k + m) (mkW mk)).flatMap WordD.cells)[j]? = some u → wr.cell? (b.add j) = some u) := Lib.hid (fun b e j u hu => by
              rcases hon.2 with ⟨e2, h0⟩ | ⟨g, cap, cur, e2, r⟩
              · simp only [Value.slice.injEq] at e2
                rw [e] at e2
                cases e2.1
              · simp only [Value.slice.injEq] at e2
                rw [e] at e2
                obtain ⟨e3, _⟩ := e2
                obtain rfl := Option.some.inj e3
                subst e
                exact hon.cells (g := g) rfl j u hu)
            have Hlo : Hid (((List.replicate (k + m) (mkW mk)).flatMap WordD.cells).length = (k + m) * 4) := Lib.hid (by rw [words_len, HL.out])
            clear ho hg hon
            go_wp2_with (at_builtin; refine wpList_append_grows _ rfl _ _ 42 rfl 41 i0 _ 4 40 Tryd.underlying42 hi hz0 hz1 hz2 rfl (by decide) ax (k + m) cx _ rfl Hnone.out Hlo.out (fun b e j u hu => (cell_alloc _ (Holds.out b e j u hu))) ⟨wr.heap.size, 0, none⟩ 1 1 [.int .i64 mk, .int .i64 0, .string ⟨#[]⟩, .int .i64 0] rfl rfl ?c1 ?c2 (by omega) ?c3 (by omega) ?_)
            case c1 => exact cells_new _ _ _
            case c2 => intro u hu; simp at hu; rcases hu with rfl | rfl | rfl | rfl <;> rfl
            case c3 => unfold maxLen; omega
            intro v5 w5 hown5 hgrow5
            have hsz1 : w.heap.size ≤ (wr.alloc (.cells #[.int .i64 mk, .int .i64 0, .string ⟨#[]⟩, .int .i64 0] 41)).heap.size := by simp; omega
            have HR5 : Hid (WordRow B (List.replicate (k + (m + 1)) (mkW mk)) v5 w5) := Lib.hid (by
              unfold WordRow
              rw [HL2.out, ← Hmk.out]
              exact hown5.mono (by omega))
            have hgr5 : wr.grownBy w5 none := grown_trans (grown_alloc wr _ none) hgrow5 (Or.inl rfl)
            have HG5 : Hid (w.grownBy w5 (Value.slice ao k cv).ownBlock) := Lib.hid (grown_trans Hg2.out hgr5 (Or.inr (fun q e => by cases e)))
            have HV5 : Hid (WordsIn w5 (.slice ao k cv) (List.replicate k (mkW mk))) := Lib.hid (Hv2.out.grown hgr5 (fun g o n c e k2 => by cases k2))
            have HX5 : Hid (∀ q, v5.ownBlock = some q → w.heap.size ≤ q) := Lib.hid (fun q e => by have := (hown5.lt q e).1; omega)
            clear hown5 hgrow5 hgr5
            go_wp2
            all_goals go_roundw
            case rel => exact ⟨m + 1, by go_num, by omega, HR5.out, HV5.out, HG5.out, Or.inr HX5.out⟩
            case measure => simp [intOf]; omega
        · obtain rfl : m = 40 := by omega
          clear ho hg
          go_wp2
          all_goals go_ret
          all_goals exact ⟨_, rfl, Ho2.out.in_, Hv2.out, Hg2.out, fun q e => (Ho2.out.lt q e).1, Hx2.out⟩
theorem WordsIn.keep {w w' : World} {v : Value} {l : List WordD} {row : Option Nat} (h : WordsIn w v l) (hg : w.grownBy w' row) (hne : ∀ q, v.ownBlock = some q → row ≠ some q) : WordsIn w' v l :=
  h.grown hg (fun g o n c e => hne g (by rw [e]; rfl))
set_option maxHeartbeats 4000000 in
set_option maxRecDepth 100000 in
theorem marked_any (n : Nat) (v : Value) (mk : Int) (w : World) (h : WordsIn w v (List.replicate n (mkW mk))) (hn : n ≤ 1099511627776) :
    Calls Tryd.prog 32 #[v, .int .i64 mk] w fun e w' => e = .returned (.bool true) ∧ w' = w := by
  obtain ⟨a1, c1, e1, r1⟩ := h
  rw [List.length_replicate] at e1 r1
  subst e1
  have R1 := Lib.hid r1
  clear r1
  go_enter Tryd.func32, Tryd.ntmps32
  go_wp2
  go_loop [5] (fun x => ∃ j : Nat, x = .int .i64 j ∧ j ≤ n) (fun x => n - (intOf x).toNat)
  case atStart => exact ⟨0, rfl, by omega⟩
  case round =>
    obtain ⟨j, rfl, hj⟩ := hrel
    by_cases hlt : j < n
    · obtain ⟨g1, rfl, k1⟩ := R1.out (by omega)
      obtain ⟨p0, p1, p2, p3⟩ := k1 j (mkW mk) (by rw [List.getElem?_replicate, if_pos hlt])
      dsimp only [mkW] at p0 p1 p2 p3
      clear k1
      go_wp2
      all_goals go_round
      case rel => exact ⟨j + 1, by go_num, by omega⟩
      case measure => simp [intOf]; omega
    · obtain rfl : j = n := by omega
      go_wp2
      all_goals go_ret
      all_goals exact ⟨rfl, rfl⟩
theorem words_count (s : ByteArray) : ∀ (f i : Nat) (out : List WordD), out.length ≤ i → i ≤ s.size → (wordsFrom s f i out).1.length ≤ s.size
  | 0, i, out, h1, h2 => by
    show out.length ≤ s.size
    omega
  | f + 1, i, out, h1, h2 => by
    unfold wordsFrom
    by_cases hi : i < s.size
    · rw [if_neg (by omega)]
      by_cases c1 : s.get! i = 35
      · rw [if_pos c1]
        show out.length ≤ s.size
        omega
      rw [if_neg c1]
      by_cases c2 : blankB (s.get! i) = true
      · rw [if_pos c2]
        exact words_count s f (i + 1) out (by omega) (by omega)
      rw [if_neg c2]
      have hlaw := (wordT_law (s.extract i s.size) (by rw [tail_size]; omega)).2
      rw [tail_size] at hlaw
      cases hx : wordT (s.extract i s.size) with
      | inl y => exact Nat.zero_le _
      | inr y =>
        obtain ⟨d, n⟩ := y
        have := hlaw d n hx
        simp only
        by_cases c3 : gapless s d (i + n) = true
        · rw [if_pos c3]
          exact Nat.zero_le _
        · rw [if_neg c3]
          exact words_count s f (i + n) _ (by rw [List.length_append]; simp; omega) (by omega)
    · rw [if_pos hi]
      show out.length ≤ s.size
      omega
theorem wordsR_len (s : ByteArray) : (wordsR s).1.length ≤ s.size := by
  unfold wordsR
  split
  · exact Nat.zero_le _
  · exact words_count s s.size 0 [] (by simp) (by omega)
theorem words_one : (wordsR ⟨#[97, 32, 49]⟩).1.length = 2 := by decide +kernel
end Go.Proofs.YtepmfjhhmnmmeaaDoor
