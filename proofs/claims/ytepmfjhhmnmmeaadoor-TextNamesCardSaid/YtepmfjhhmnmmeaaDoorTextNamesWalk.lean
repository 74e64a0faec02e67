/-
  annalslaw2.TextNames walked: it answers true, of any text and any number. Conditions: the tables of letters and of unicode/utf8 as laid.
-/
import Derived.Test.YtepmfjhhmnmmeaaDoorRefName
namespace Go.Proofs.YtepmfjhhmnmmeaaDoor.textNames
open Go.RowKit

set_option maxHeartbeats 4000000 in
theorem walk (s0 : ByteArray) (n : Int) (w : World) (hs0 : s0.size ≤ 9223372036854775807) (hu : U8 w) (ht : LT w) (hr : LR w) :
    Calls Tryd.prog 5 #[.string s0, .int .i64 n] w fun e w' => e = .returned (.bool true) ∧ Below w.heap.size w w' := by
  have HU := Lib.hid hu
  have HT := Lib.hid ht
  have HR := Lib.hid hr
  clear hu ht hr
  have HB := Below.refl w.heap.size w
  have hcut := Lib.hid (fun w => cutText_any s0 w hs0)
  obtain ⟨S, hS⟩ : ∃ S, s0.extract 0 131072 = S := ⟨_, rfl⟩
  have hSz : S.size ≤ 131072 := by rw [← hS, ByteArray.size_extract]; omega
  rw [hS] at hcut
  have h1 : S.size ≤ 4611686018427387904 := by omega
  have h2 : S.size ≤ 1099511627776 := by omega
  have c1 := fun w hu ht => name_any S w h1 hu ht
  have c2 := fun w ht => refName_any S h2 w ht
  have c3 := fun w hu => valid_any S w h1 hu
  have c4 := fun w => refValid_any S h2 w
  have c5 := fun w => clip_any S n w h1
  have c6 := fun w => refClip_any S n h2 w
  obtain ⟨a, ha⟩ : ∃ x, (nameA S).1 = x := ⟨_, rfl⟩
  obtain ⟨b, hb⟩ : ∃ x, (nameA S).2 = x := ⟨_, rfl⟩
  obtain ⟨V, hV⟩ : ∃ x, valid S = x := ⟨_, rfl⟩
  obtain ⟨C, hC⟩ : ∃ x, clip S n = x := ⟨_, rfl⟩
  rw [ha, hb] at c1 c2
  rw [hV] at c3 c4
  rw [hC] at c5 c6
  have C1 := Lib.hid c1
  have C2 := Lib.hid c2
  have C3 := Lib.hid c3
  have C4 := Lib.hid c4
  have C5 := Lib.hid c5
  have C6 := Lib.hid c6
  clear c1 c2 c3 c4 c5 c6 hS ha hb hV hC h1 h2
  go_enter Tryd.func5, Tryd.ntmps5
  go_wp2_with (first
      | (go_at_call 15; (with_reducible refine (hcut.out _).mono ?_); rintro e w2 ⟨rfl, rfl⟩)
      | (go_at_call 18; (with_reducible refine (C1.out _ (u8_below HU.out HB) (PairsAt.below HT.out HB)).mono ?_); rintro e w2 ⟨rfl, hb⟩; have HB' := then_ HB hb; clear HB hb; have HB := HB'; clear HB')
      | (go_at_call 19; (with_reducible refine (C2.out _ (PairsAt.below HR.out HB)).mono ?_); rintro e w2 ⟨rfl, hb⟩; have HB' := then_ HB hb; clear HB hb; have HB := HB'; clear HB')
      | (go_at_call 17; (with_reducible refine (C3.out _ (u8_below HU.out HB)).mono ?_); rintro e w2 ⟨rfl, hb⟩; have HB' := then_ HB hb; clear HB hb; have HB := HB'; clear HB')
      | (go_at_call 20; (with_reducible refine (C4.out _).mono ?_); rintro e w2 ⟨rfl, hb⟩; have HB' := then_ HB hb; clear HB hb; have HB := HB'; clear HB')
      | (go_at_call 16; (with_reducible refine (C5.out _).mono ?_); rintro e w2 ⟨rfl, hb⟩; have HB' := then_ HB hb; clear HB hb; have HB := HB'; clear HB')
      | (go_at_call 21; (with_reducible refine (C6.out _).mono ?_); rintro e w2 ⟨rfl, hb⟩; have HB' := then_ HB hb; clear HB hb; have HB := HB'; clear HB'))
  all_goals go_ret
  all_goals exact ⟨rfl, HB⟩
end Go.Proofs.YtepmfjhhmnmmeaaDoor.textNames
