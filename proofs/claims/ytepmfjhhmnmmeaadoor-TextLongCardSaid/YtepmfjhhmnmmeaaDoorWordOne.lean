/-
  text.word walked: the word with which a text begins. Conditions: the tables of unicode/utf8, of letters and of math/bits as laid.
-/
import Derived.Test.YtepmfjhhmnmmeaaDoorWordName
import Derived.Test.YtepmfjhhmnmmeaaDoorTextOneWalk
namespace Go.Proofs.YtepmfjhhmnmmeaaDoor
open Go.RowKit

theorem WordAns.left_ {er : Int} {p : Nat} {e : Ending} (h : WordAns (.inl (er, p)) e) : ∃ d z, e = .returned (wordV d z er p) := by
  rcases h with ⟨er', p', d, z, h1, h2⟩ | ⟨d, n, h1, _⟩
  · cases h1
    exact ⟨d, z, h2⟩
  · cases h1
theorem WordAns.right_ {d : WordD} {n : Nat} {e : Ending} (h : WordAns (.inr (d, n)) e) : e = .returned (wordV d n 0 0) := by
  rcases h with ⟨er', p', d', z, h1, _⟩ | ⟨d', n', h1, h2⟩
  · cases h1
  · cases h1
    exact h2
theorem sign_index (b : UInt8) : (0 ≤ Lib.indexByte signsL b) ↔ signB b = true := by
  have k : ∀ b : Fin 256, decide (0 ≤ Lib.indexByte signsL (UInt8.ofNat b.val)) = signB (UInt8.ofNat b.val) := by decide +kernel
  have k2 := k ⟨b.toNat, b.toNat_lt⟩
  simp only at k2
  rw [UInt8.ofNat_toNat] at k2
  rw [← k2]
  simp
theorem index_any (b : UInt8) (w : World) :
    Calls Tryd.prog 58 #[.string ⟨#[58, 44, 59, 126, 33, 61, 47, 64, 42, 43, 40, 41]⟩, .int .u8 (b.toNat : Int)] w fun e w' => e = .returned (.int .i64 (Lib.indexByte signsL b)) ∧ w' = w := by
  have h := Tryd.strings_IndexByte ⟨#[58, 44, 59, 126, 33, 61, 47, 64, 42, 43, 40, 41]⟩ (b.toNat : Int) w
  rw [show ((b.toNat : Int).toNat.toUInt8) = b by simp] at h
  exact h
theorem boxed0 (w : World) : Below w.heap.size w (w.alloc (.cells zeroWord 41)) := (Below.refl _ _).alloc (Nat.le_refl _) _
theorem blk5 {w w5 : World} (h : Below (w.alloc (.cells zeroWord 41)).heap.size (w.alloc (.cells zeroWord 41)) w5) : BlkAt w5 w.heap.size zeroWord 41 :=
  (h.block _ (by simp)).trans (BlkAt.new w zeroWord _)
set_option maxHeartbeats 8000000 in
set_option maxRecDepth 100000 in
theorem word_any (t : ByteArray) (ht : 0 < t.size) (hs : t.size ≤ 274877906944) (w : World) (hU : U8 w) (hT : TZ w) (hL : LT w) :
    Calls Tryd.prog 57 #[.string t] w fun e w' => WordAns (wordT t) e ∧ Below w.heap.size w w' := by
  have HU := Lib.hid hU
  have HT := Lib.hid hT
  have HL := Lib.hid hL
  have hg := get_at' (s := t) (p := 0) ht
  have z0 : (0 : Int) < (t.size : Int) := by omega
  obtain ⟨c, hc⟩ : ∃ c, t.get! 0 = c := ⟨_, rfl⟩
  have hw0 : wordT t = if c = 34 then litT t else if signB c = true then .inr (⟨4, 0, t.extract 0 1, 0⟩, 1) else if numB t = true then numberT t else nameT t := by
    unfold wordT
    rw [hc]
  rw [hc] at hg
  clear hU hT hL
  by_cases c34 : c = 34
  · subst c34
    rw [if_pos rfl] at hw0
    have hlaw := textOne.unq_law t 0
    have hu := fun w2 h => unquote_any t 0 (by omega) w2 (u8_below HU.out (show Below w.heap.size w w2 from h)) (HT.out.below h)
    rcases hlaw with ⟨er, he, hR⟩ | ⟨p, i, v, hp, hpi, hi, hv, hx, hR⟩
    · have HX : Hid (wordT t = .inl (er, 0)) := Lib.hid (by
        rw [hw0]
        unfold litT
        rw [hR]
        exact if_neg he)
      rw [hR] at hu
      unfold unqV at hu
      have hcall := Lib.hid hu
      clear hw0 hc hR hu he
      go_enter Tryd.func57, Tryd.ntmps57
      go_wp2_with (first
        | (go_at_call 22; (with_reducible refine (hcall.out _ (boxed0 _)).mono ?_); rintro e w5 ⟨he, hb5⟩; have HB5 := Lib.hid (Below.trans (boxed0 _) (hb5.mono (by simp))); have HBK := Lib.hid (blk5 hb5); clear hb5; obtain rfl := he)
        | (refine wpList_store_all rfl _ _ _ rfl _ rfl _ rfl _ _ HBK.out (by rfl) (by simp [Value.oneCell']) rowWord ?_; intro w9 hw9 K9; have HB9 := Lib.hid (hw9.below HB5.out (Nat.le_refl _)); have HK9 := Lib.hid K9; clear hw9 K9))
      all_goals exact bodyPost_ret (results_row4 rfl _ _ _ _ _ rfl HK9.out rowWord) rfl ⟨Or.inl ⟨_, _, ⟨3, 0, ⟨#[]⟩, 0⟩, 0, HX.out, rfl⟩, HB9.out⟩
    · have HX : Hid (wordT t = .inr (⟨3, 0, v, 0⟩, i)) := Lib.hid (by
        rw [hw0]
        unfold litT
        rw [hR]
        exact if_pos rfl)
      rw [hR] at hu
      unfold unqV at hu
      have hcall := Lib.hid hu
      clear hw0 hc hR hu hx hp
      go_enter Tryd.func57, Tryd.ntmps57
      go_wp2_with (first
        | (go_at_call 22; (with_reducible refine (hcall.out _ (boxed0 _)).mono ?_); rintro e w5 ⟨he, hb5⟩; have HB5 := Lib.hid (Below.trans (boxed0 _) (hb5.mono (by simp))); have HBK := Lib.hid (blk5 hb5); clear hb5; obtain rfl := he)
        | (refine wpList_store_all rfl _ _ _ rfl _ rfl _ rfl _ _ HBK.out (by rfl) (by simp [Value.oneCell']) rowWord ?_; intro w9 hw9 K9; have HB9 := Lib.hid (hw9.below HB5.out (Nat.le_refl _)); have HK9 := Lib.hid K9; clear hw9 K9))
      all_goals exact bodyPost_ret (results_row4 rfl _ _ _ _ _ rfl HK9.out rowWord) rfl ⟨Or.inr ⟨⟨3, 0, v, 0⟩, i, HX.out, rfl⟩, HB9.out⟩
  rw [if_neg c34] at hw0
  have e34 := ne_int (k := 34) c34
  have hib := fun w => index_any c w
  have hsi := sign_index c
  obtain ⟨I, hI⟩ : ∃ I, Lib.indexByte signsL c = I := ⟨_, rfl⟩
  rw [hI] at hib hsi
  have hd0 := fun w => dig_any c w
  obtain ⟨C, hC⟩ : ∃ C : Int, (c.toNat : Int) = C := ⟨_, rfl⟩
  rw [hC] at hib e34 hd0
  have hib := Lib.hid hib
  by_cases hsg : signB c = true
  · rw [if_pos hsg] at hw0
    have HX := Lib.hid hw0
    have hI0 := hsi.2 hsg
    have z1 : (1 : Int) ≤ (t.size : Int) := by omega
    clear hw0 hc hsg hsi c34 hd0 hI
    go_enter Tryd.func57, Tryd.ntmps57
    go_wp2_with (first
      | (go_at_call 58; (with_reducible refine (hib.out _).mono ?_); rintro e w2 ⟨rfl, rfl⟩))
    all_goals exact bodyPost_ret (v := wordV ⟨4, 0, t.extract 0 1, 0⟩ 1 0 0) (by simp [wordV, results, Tryd.results57, go_sem]) rfl ⟨Or.inr ⟨_, _, HX.out, rfl⟩, (Below.refl _ _).alloc (Nat.le_refl _) _⟩
  rw [if_neg hsg] at hw0
  have hI0 : ¬ 0 ≤ I := fun k => hsg (hsi.1 k)
  have hnb : numB t = (digB c || (c == 45 && decide (1 < t.size) && digB (t.get! 1))) := by
    unfold numB
    rw [hc]
  clear hsi hsg c34 hI
  cases hdc : digB c with
  | true =>
    rw [hdc] at hd0 hnb
    have hd0 := Lib.hid hd0
    have hn : numB t = true := by rw [hnb]; rfl
    rw [if_pos hn] at hw0
    have hW := Lib.hid hw0
    clear hw0 hnb hdc hc
    cases hx : numberT t with
    | inl y =>
      obtain ⟨er, p⟩ := y
      have HX := Lib.hid (hW.out.trans hx)
      have hcall := Lib.hid (fun w2 h => ((fun w2 (_ : Below w.heap.size w w2) => number_any t ht hn (by omega) w2) w2 h).mono fun e w' ⟨ha, hb⟩ => (⟨WordAns.left_ (hx ▸ ha), hb⟩ : (∃ d z, e = Ending.returned (wordV d z er p)) ∧ Below w2.heap.size w2 w'))
      unfold wordV at hcall
      clear hx
      go_enter Tryd.func57, Tryd.ntmps57
      go_wp2_with (first
        | (go_at_call 58; (with_reducible refine (hib.out _).mono ?_); rintro e w2 ⟨rfl, rfl⟩)
        | (go_at_call 72; (with_reducible refine (hd0.out _).mono ?_); rintro e w3 ⟨rfl, rfl⟩)
        | (go_at_call 73; (with_reducible refine (hcall.out _ (boxed0 _)).mono ?_); rintro e w5 ⟨he, hb5⟩; have HB5 := Lib.hid (Below.trans (boxed0 _) (hb5.mono (by simp))); have HBK := Lib.hid (blk5 hb5); clear hb5; obtain ⟨d, z, rfl⟩ := he)
        | (refine wpList_store_all rfl _ _ _ rfl _ rfl _ rfl _ _ HBK.out (by rfl) (by simp [Value.oneCell']) rowWord ?_; intro w9 hw9 K9; have HB9 := Lib.hid (hw9.below HB5.out (Nat.le_refl _)); have HK9 := Lib.hid K9; clear hw9 K9))
      all_goals exact bodyPost_ret (results_row4 rfl _ _ _ _ _ rfl HK9.out rowWord) rfl ⟨Or.inl ⟨_, _, d, z, HX.out, rfl⟩, HB9.out⟩
    | inr y =>
      obtain ⟨d, n⟩ := y
      have HX := Lib.hid (hW.out.trans hx)
      have hcall := Lib.hid (fun w2 h => ((fun w2 (_ : Below w.heap.size w w2) => number_any t ht hn (by omega) w2) w2 h).mono fun e w' ⟨ha, hb⟩ => (⟨WordAns.right_ (hx ▸ ha), hb⟩ : e = Ending.returned (wordV d n 0 0) ∧ Below w2.heap.size w2 w'))
      unfold wordV at hcall
      clear hx
      go_enter Tryd.func57, Tryd.ntmps57
      go_wp2_with (first
        | (go_at_call 58; (with_reducible refine (hib.out _).mono ?_); rintro e w2 ⟨rfl, rfl⟩)
        | (go_at_call 72; (with_reducible refine (hd0.out _).mono ?_); rintro e w3 ⟨rfl, rfl⟩)
        | (go_at_call 73; (with_reducible refine (hcall.out _ (boxed0 _)).mono ?_); rintro e w5 ⟨he, hb5⟩; have HB5 := Lib.hid (Below.trans (boxed0 _) (hb5.mono (by simp))); have HBK := Lib.hid (blk5 hb5); clear hb5; obtain rfl := he)
        | (refine wpList_store_all rfl _ _ _ rfl _ rfl _ rfl _ _ HBK.out (by rfl) (by simp [Value.oneCell']) rowWord ?_; intro w9 hw9 K9; have HB9 := Lib.hid (hw9.below HB5.out (Nat.le_refl _)); have HK9 := Lib.hid K9; clear hw9 K9))
      all_goals exact bodyPost_ret (results_row4 rfl _ _ _ _ _ rfl HK9.out rowWord) rfl ⟨Or.inr ⟨d, n, HX.out, rfl⟩, HB9.out⟩
  | false =>
    rw [hdc] at hd0 hnb
    have hd0 := Lib.hid hd0
    by_cases c45 : c = 45
    · have e45 : (C == 45) = true := by rw [← hC, c45]; rfl
      by_cases h1 : 1 < t.size
      · have g1 := get_at' (s := t) (p := 1) h1
        have z1 : (1 : Int) < (t.size : Int) := by omega
        have hd1 := fun w => dig_any (t.get! 1) w
        obtain ⟨b, hb⟩ : ∃ b, t.get! 1 = b := ⟨_, rfl⟩
        rw [hb] at g1 hd1 hnb
        obtain ⟨B, hB⟩ : ∃ B : Int, (b.toNat : Int) = B := ⟨_, rfl⟩
        rw [hB] at hd1
        cases hdb : digB b with
        | true =>
          rw [hdb] at hd1 hnb
          have hd1 := Lib.hid hd1
          have hn : numB t = true := by rw [hnb, c45]; simp [h1]
          rw [if_pos hn] at hw0
          have hW := Lib.hid hw0
          clear hw0 hnb hdc hc hb hdb c45
          cases hx : numberT t with
          | inl y =>
            obtain ⟨er, p⟩ := y
            have HX := Lib.hid (hW.out.trans hx)
            have hcall := Lib.hid (fun w2 h => ((fun w2 (_ : Below w.heap.size w w2) => number_any t ht hn (by omega) w2) w2 h).mono fun e w' ⟨ha, hb⟩ => (⟨WordAns.left_ (hx ▸ ha), hb⟩ : (∃ d z, e = Ending.returned (wordV d z er p)) ∧ Below w2.heap.size w2 w'))
            unfold wordV at hcall
            clear hx
            go_enter Tryd.func57, Tryd.ntmps57
            go_wp2_with (first
              | (go_at_call 58; (with_reducible refine (hib.out _).mono ?_); rintro e w2 ⟨rfl, rfl⟩)
              | (go_at_call 72; (with_reducible refine (hd0.out _).mono ?_); rintro e w3 ⟨rfl, rfl⟩)
              | (go_at_call 72; (with_reducible refine (hd1.out _).mono ?_); rintro e w4 ⟨rfl, rfl⟩)
              | (go_at_call 73; (with_reducible refine (hcall.out _ (boxed0 _)).mono ?_); rintro e w5 ⟨he, hb5⟩; have HB5 := Lib.hid (Below.trans (boxed0 _) (hb5.mono (by simp))); have HBK := Lib.hid (blk5 hb5); clear hb5; obtain ⟨d, z, rfl⟩ := he)
              | (refine wpList_store_all rfl _ _ _ rfl _ rfl _ rfl _ _ HBK.out (by rfl) (by simp [Value.oneCell']) rowWord ?_; intro w9 hw9 K9; have HB9 := Lib.hid (hw9.below HB5.out (Nat.le_refl _)); have HK9 := Lib.hid K9; clear hw9 K9))
            all_goals exact bodyPost_ret (results_row4 rfl _ _ _ _ _ rfl HK9.out rowWord) rfl ⟨Or.inl ⟨_, _, d, z, HX.out, rfl⟩, HB9.out⟩
          | inr y =>
            obtain ⟨d, n⟩ := y
            have HX := Lib.hid (hW.out.trans hx)
            have hcall := Lib.hid (fun w2 h => ((fun w2 (_ : Below w.heap.size w w2) => number_any t ht hn (by omega) w2) w2 h).mono fun e w' ⟨ha, hb⟩ => (⟨WordAns.right_ (hx ▸ ha), hb⟩ : e = Ending.returned (wordV d n 0 0) ∧ Below w2.heap.size w2 w'))
            unfold wordV at hcall
            clear hx
            go_enter Tryd.func57, Tryd.ntmps57
            go_wp2_with (first
              | (go_at_call 58; (with_reducible refine (hib.out _).mono ?_); rintro e w2 ⟨rfl, rfl⟩)
              | (go_at_call 72; (with_reducible refine (hd0.out _).mono ?_); rintro e w3 ⟨rfl, rfl⟩)
              | (go_at_call 72; (with_reducible refine (hd1.out _).mono ?_); rintro e w4 ⟨rfl, rfl⟩)
              | (go_at_call 73; (with_reducible refine (hcall.out _ (boxed0 _)).mono ?_); rintro e w5 ⟨he, hb5⟩; have HB5 := Lib.hid (Below.trans (boxed0 _) (hb5.mono (by simp))); have HBK := Lib.hid (blk5 hb5); clear hb5; obtain rfl := he)
              | (refine wpList_store_all rfl _ _ _ rfl _ rfl _ rfl _ _ HBK.out (by rfl) (by simp [Value.oneCell']) rowWord ?_; intro w9 hw9 K9; have HB9 := Lib.hid (hw9.below HB5.out (Nat.le_refl _)); have HK9 := Lib.hid K9; clear hw9 K9))
            all_goals exact bodyPost_ret (results_row4 rfl _ _ _ _ _ rfl HK9.out rowWord) rfl ⟨Or.inr ⟨d, n, HX.out, rfl⟩, HB9.out⟩
        | false =>
          rw [hdb] at hd1 hnb
          have hd1 := Lib.hid hd1
          have hn : ¬ numB t = true := by rw [hnb]; simp
          rw [if_neg hn] at hw0
          have hW := Lib.hid hw0
          clear hw0 hnb hdc hc hb hdb c45 hn
          cases hx : nameT t with
          | inl y =>
            obtain ⟨er, p⟩ := y
            have HX := Lib.hid (hW.out.trans hx)
            have hcall := Lib.hid (fun w2 h => ((fun w2 h => wname_any t ht (by omega) w2 (u8_below HU.out (show Below w.heap.size w w2 from h)) (PairsAt.below HL.out (show Below w.heap.size w w2 from h))) w2 h).mono fun e w' ⟨ha, hb⟩ => (⟨WordAns.left_ (hx ▸ ha), hb⟩ : (∃ d z, e = Ending.returned (wordV d z er p)) ∧ Below w2.heap.size w2 w'))
            unfold wordV at hcall
            clear hx
            go_enter Tryd.func57, Tryd.ntmps57
            go_wp2_with (first
              | (go_at_call 58; (with_reducible refine (hib.out _).mono ?_); rintro e w2 ⟨rfl, rfl⟩)
              | (go_at_call 72; (with_reducible refine (hd0.out _).mono ?_); rintro e w3 ⟨rfl, rfl⟩)
              | (go_at_call 72; (with_reducible refine (hd1.out _).mono ?_); rintro e w4 ⟨rfl, rfl⟩)
              | (go_at_call 74; (with_reducible refine (hcall.out _ (boxed0 _)).mono ?_); rintro e w5 ⟨he, hb5⟩; have HB5 := Lib.hid (Below.trans (boxed0 _) (hb5.mono (by simp))); have HBK := Lib.hid (blk5 hb5); clear hb5; obtain ⟨d, z, rfl⟩ := he)
              | (refine wpList_store_all rfl _ _ _ rfl _ rfl _ rfl _ _ HBK.out (by rfl) (by simp [Value.oneCell']) rowWord ?_; intro w9 hw9 K9; have HB9 := Lib.hid (hw9.below HB5.out (Nat.le_refl _)); have HK9 := Lib.hid K9; clear hw9 K9))
            all_goals exact bodyPost_ret (results_row4 rfl _ _ _ _ _ rfl HK9.out rowWord) rfl ⟨Or.inl ⟨_, _, d, z, HX.out, rfl⟩, HB9.out⟩
          | inr y =>
            obtain ⟨d, n⟩ := y
            have HX := Lib.hid (hW.out.trans hx)
            have hcall := Lib.hid (fun w2 h => ((fun w2 h => wname_any t ht (by omega) w2 (u8_below HU.out (show Below w.heap.size w w2 from h)) (PairsAt.below HL.out (show Below w.heap.size w w2 from h))) w2 h).mono fun e w' ⟨ha, hb⟩ => (⟨WordAns.right_ (hx ▸ ha), hb⟩ : e = Ending.returned (wordV d n 0 0) ∧ Below w2.heap.size w2 w'))
            unfold wordV at hcall
            clear hx
            go_enter Tryd.func57, Tryd.ntmps57
            go_wp2_with (first
              | (go_at_call 58; (with_reducible refine (hib.out _).mono ?_); rintro e w2 ⟨rfl, rfl⟩)
              | (go_at_call 72; (with_reducible refine (hd0.out _).mono ?_); rintro e w3 ⟨rfl, rfl⟩)
              | (go_at_call 72; (with_reducible refine (hd1.out _).mono ?_); rintro e w4 ⟨rfl, rfl⟩)
              | (go_at_call 74; (with_reducible refine (hcall.out _ (boxed0 _)).mono ?_); rintro e w5 ⟨he, hb5⟩; have HB5 := Lib.hid (Below.trans (boxed0 _) (hb5.mono (by simp))); have HBK := Lib.hid (blk5 hb5); clear hb5; obtain rfl := he)
              | (refine wpList_store_all rfl _ _ _ rfl _ rfl _ rfl _ _ HBK.out (by rfl) (by simp [Value.oneCell']) rowWord ?_; intro w9 hw9 K9; have HB9 := Lib.hid (hw9.below HB5.out (Nat.le_refl _)); have HK9 := Lib.hid K9; clear hw9 K9))
            all_goals exact bodyPost_ret (results_row4 rfl _ _ _ _ _ rfl HK9.out rowWord) rfl ⟨Or.inr ⟨d, n, HX.out, rfl⟩, HB9.out⟩
      · have hn : ¬ numB t = true := by rw [hnb]; simp [h1]
        have z1 : ¬ (1 : Int) < (t.size : Int) := by omega
        rw [if_neg hn] at hw0
        have hW := Lib.hid hw0
        clear hw0 hnb hdc hc c45 hn
        cases hx : nameT t with
        | inl y =>
          obtain ⟨er, p⟩ := y
          have HX := Lib.hid (hW.out.trans hx)
          have hcall := Lib.hid (fun w2 h => ((fun w2 h => wname_any t ht (by omega) w2 (u8_below HU.out (show Below w.heap.size w w2 from h)) (PairsAt.below HL.out (show Below w.heap.size w w2 from h))) w2 h).mono fun e w' ⟨ha, hb⟩ => (⟨WordAns.left_ (hx ▸ ha), hb⟩ : (∃ d z, e = Ending.returned (wordV d z er p)) ∧ Below w2.heap.size w2 w'))
          unfold wordV at hcall
          clear hx
          go_enter Tryd.func57, Tryd.ntmps57
          go_wp2_with (first
            | (go_at_call 58; (with_reducible refine (hib.out _).mono ?_); rintro e w2 ⟨rfl, rfl⟩)
            | (go_at_call 72; (with_reducible refine (hd0.out _).mono ?_); rintro e w3 ⟨rfl, rfl⟩)
            | (go_at_call 74; (with_reducible refine (hcall.out _ (boxed0 _)).mono ?_); rintro e w5 ⟨he, hb5⟩; have HB5 := Lib.hid (Below.trans (boxed0 _) (hb5.mono (by simp))); have HBK := Lib.hid (blk5 hb5); clear hb5; obtain ⟨d, z, rfl⟩ := he)
            | (refine wpList_store_all rfl _ _ _ rfl _ rfl _ rfl _ _ HBK.out (by rfl) (by simp [Value.oneCell']) rowWord ?_; intro w9 hw9 K9; have HB9 := Lib.hid (hw9.below HB5.out (Nat.le_refl _)); have HK9 := Lib.hid K9; clear hw9 K9))
          all_goals exact bodyPost_ret (results_row4 rfl _ _ _ _ _ rfl HK9.out rowWord) rfl ⟨Or.inl ⟨_, _, d, z, HX.out, rfl⟩, HB9.out⟩
        | inr y =>
          obtain ⟨d, n⟩ := y
          have HX := Lib.hid (hW.out.trans hx)
          have hcall := Lib.hid (fun w2 h => ((fun w2 h => wname_any t ht (by omega) w2 (u8_below HU.out (show Below w.heap.size w w2 from h)) (PairsAt.below HL.out (show Below w.heap.size w w2 from h))) w2 h).mono fun e w' ⟨ha, hb⟩ => (⟨WordAns.right_ (hx ▸ ha), hb⟩ : e = Ending.returned (wordV d n 0 0) ∧ Below w2.heap.size w2 w'))
          unfold wordV at hcall
          clear hx
          go_enter Tryd.func57, Tryd.ntmps57
          go_wp2_with (first
            | (go_at_call 58; (with_reducible refine (hib.out _).mono ?_); rintro e w2 ⟨rfl, rfl⟩)
            | (go_at_call 72; (with_reducible refine (hd0.out _).mono ?_); rintro e w3 ⟨rfl, rfl⟩)
            | (go_at_call 74; (with_reducible refine (hcall.out _ (boxed0 _)).mono ?_); rintro e w5 ⟨he, hb5⟩; have HB5 := Lib.hid (Below.trans (boxed0 _) (hb5.mono (by simp))); have HBK := Lib.hid (blk5 hb5); clear hb5; obtain rfl := he)
            | (refine wpList_store_all rfl _ _ _ rfl _ rfl _ rfl _ _ HBK.out (by rfl) (by simp [Value.oneCell']) rowWord ?_; intro w9 hw9 K9; have HB9 := Lib.hid (hw9.below HB5.out (Nat.le_refl _)); have HK9 := Lib.hid K9; clear hw9 K9))
          all_goals exact bodyPost_ret (results_row4 rfl _ _ _ _ _ rfl HK9.out rowWord) rfl ⟨Or.inr ⟨d, n, HX.out, rfl⟩, HB9.out⟩
    · have hn : ¬ numB t = true := by rw [hnb]; simp [c45]
      have e45 : (C == 45) = false := by rw [beq_eq_false_iff_ne, ← hC]; exact ne_int (k := 45) c45
      rw [if_neg hn] at hw0
      have hW := Lib.hid hw0
      clear hw0 hnb hdc hc c45 hn
      cases hx : nameT t with
      | inl y =>
        obtain ⟨er, p⟩ := y
        have HX := Lib.hid (hW.out.trans hx)
        have hcall := Lib.hid (fun w2 h => ((fun w2 h => wname_any t ht (by omega) w2 (u8_below HU.out (show Below w.heap.size w w2 from h)) (PairsAt.below HL.out (show Below w.heap.size w w2 from h))) w2 h).mono fun e w' ⟨ha, hb⟩ => (⟨WordAns.left_ (hx ▸ ha), hb⟩ : (∃ d z, e = Ending.returned (wordV d z er p)) ∧ Below w2.heap.size w2 w'))
        unfold wordV at hcall
        clear hx
        go_enter Tryd.func57, Tryd.ntmps57
        go_wp2_with (first
          | (go_at_call 58; (with_reducible refine (hib.out _).mono ?_); rintro e w2 ⟨rfl, rfl⟩)
          | (go_at_call 72; (with_reducible refine (hd0.out _).mono ?_); rintro e w3 ⟨rfl, rfl⟩)
          | (go_at_call 74; (with_reducible refine (hcall.out _ (boxed0 _)).mono ?_); rintro e w5 ⟨he, hb5⟩; have HB5 := Lib.hid (Below.trans (boxed0 _) (hb5.mono (by simp))); have HBK := Lib.hid (blk5 hb5); clear hb5; obtain ⟨d, z, rfl⟩ := he)
          | (refine wpList_store_all rfl _ _ _ rfl _ rfl _ rfl _ _ HBK.out (by rfl) (by simp [Value.oneCell']) rowWord ?_; intro w9 hw9 K9; have HB9 := Lib.hid (hw9.below HB5.out (Nat.le_refl _)); have HK9 := Lib.hid K9; clear hw9 K9))
        all_goals exact bodyPost_ret (results_row4 rfl _ _ _ _ _ rfl HK9.out rowWord) rfl ⟨Or.inl ⟨_, _, d, z, HX.out, rfl⟩, HB9.out⟩
      | inr y =>
        obtain ⟨d, n⟩ := y
        have HX := Lib.hid (hW.out.trans hx)
        have hcall := Lib.hid (fun w2 h => ((fun w2 h => wname_any t ht (by omega) w2 (u8_below HU.out (show Below w.heap.size w w2 from h)) (PairsAt.below HL.out (show Below w.heap.size w w2 from h))) w2 h).mono fun e w' ⟨ha, hb⟩ => (⟨WordAns.right_ (hx ▸ ha), hb⟩ : e = Ending.returned (wordV d n 0 0) ∧ Below w2.heap.size w2 w'))
        unfold wordV at hcall
        clear hx
        go_enter Tryd.func57, Tryd.ntmps57
        go_wp2_with (first
          | (go_at_call 58; (with_reducible refine (hib.out _).mono ?_); rintro e w2 ⟨rfl, rfl⟩)
          | (go_at_call 72; (with_reducible refine (hd0.out _).mono ?_); rintro e w3 ⟨rfl, rfl⟩)
          | (go_at_call 74; (with_reducible refine (hcall.out _ (boxed0 _)).mono ?_); rintro e w5 ⟨he, hb5⟩; have HB5 := Lib.hid (Below.trans (boxed0 _) (hb5.mono (by simp))); have HBK := Lib.hid (blk5 hb5); clear hb5; obtain rfl := he)
          | (refine wpList_store_all rfl _ _ _ rfl _ rfl _ rfl _ _ HBK.out (by rfl) (by simp [Value.oneCell']) rowWord ?_; intro w9 hw9 K9; have HB9 := Lib.hid (hw9.below HB5.out (Nat.le_refl _)); have HK9 := Lib.hid K9; clear hw9 K9))
        all_goals exact bodyPost_ret (results_row4 rfl _ _ _ _ _ rfl HK9.out rowWord) rfl ⟨Or.inr ⟨d, n, HX.out, rfl⟩, HB9.out⟩
end Go.Proofs.YtepmfjhhmnmmeaaDoor
