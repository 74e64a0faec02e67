/-
  annalslaw2.TextLiterals walked: it answers true, of any text and any number. Conditions: the tables of unicode/utf8, of math/bits and the reference's table of hidden runes as laid.
-/
import Derived.Test.YtepmfjhhmnmmeaaDoorRefUnquote
import Derived.Test.YtepmfjhhmnmmeaaDoorTextFns
namespace Go.Proofs.YtepmfjhhmnmmeaaDoor.textLiterals
open Go.RowKit

set_option maxHeartbeats 4000000 in
set_option maxRecDepth 100000 in
theorem walk (s0 : ByteArray) (a : Int) (w : World) (hs0 : s0.size ≤ 9223372036854775807) (hU : U8 w) (hT : TZ w) (hH : RefHid w) :
    Calls Tryd.prog 6 #[.string s0, .int .i64 a] w fun e w' => e = .returned (.bool true) ∧ Below w.heap.size w w' := by
  have HU := Lib.hid hU
  have HT := Lib.hid hT
  have HH := Lib.hid hH
  clear hU hT hH
  have hcut := Lib.hid (fun w => cutText_any s0 w hs0)
  obtain ⟨S, hS⟩ : ∃ S, s0.extract 0 131072 = S := ⟨_, rfl⟩
  have hSz : S.size ≤ 131072 := by rw [← hS, ByteArray.size_extract]; omega
  rw [hS] at hcut
  clear hS
  have h1 := unquote_any S a (by omega) w HU.out HT.out
  have h2 := fun w2 h => refUnquote_any S a (by omega) w2 (PairsAt.below HH.out (show Below w.heap.size w w2 from h))
  have h3 := Lib.hid (fun w2 h => quote_any S (by omega) w2 (u8_below HU.out (show Below w.heap.size w w2 from h)) (HT.out.below h))
  have h4 := Lib.hid (fun w2 h => refQuote_any S (by omega) w2 (PairsAt.below HH.out (show Below w.heap.size w w2 from h)))
  unfold unqV at h1 h2
  obtain ⟨⟨v, t, e⟩, hv⟩ : ∃ x, unquoteR S a = x := ⟨_, rfl⟩
  rw [hv] at h1
  simp only [hv] at h2
  obtain ⟨Q, hQ⟩ : ∃ Q : ByteArray, ⟨(quoteL S).toArray⟩ = Q := ⟨_, rfl⟩
  rw [hQ] at h3 h4
  have h1 := Lib.hid h1
  have h2 := Lib.hid h2
  clear hv hQ
  go_enter Tryd.func6, Tryd.ntmps6
  go_wp2_with (first
    | (go_at_call 15; (with_reducible refine (hcut.out _).mono ?_); rintro e w2 ⟨rfl, rfl⟩)
    | (go_at_call 22; (with_reducible refine h1.out.mono ?_); rintro e w3 ⟨rfl, hb3⟩; have Hb3 := Lib.hid hb3; clear hb3)
    | (go_at_call 23; (with_reducible refine (h2.out _ Hb3.out).mono ?_); rintro e w4 ⟨rfl, hb4⟩; have Hb4 := Lib.hid (then_ Hb3.out hb4); clear hb4)
    | (go_at_call 24; (with_reducible refine (h3.out _ Hb4.out).mono ?_); rintro e w5 ⟨rfl, hb5⟩; have Hb5 := Lib.hid (then_ Hb4.out hb5); clear hb5)
    | (go_at_call 25; (with_reducible refine (h4.out _ Hb5.out).mono ?_); rintro e w6 ⟨rfl, hb6⟩; have Hb6 := Lib.hid (then_ Hb5.out hb6); clear hb6))
  all_goals go_ret
  all_goals exact ⟨rfl, Hb6.out⟩
end Go.Proofs.YtepmfjhhmnmmeaaDoor.textLiterals
