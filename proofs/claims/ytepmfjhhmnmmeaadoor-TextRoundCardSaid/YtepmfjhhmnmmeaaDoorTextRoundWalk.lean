/-
  annalslaw2.TextRound walked: it answers true, of any three texts. Conditions: the tables of unicode/utf8 and of math/bits as laid.
-/
import Derived.Test.YtepmfjhhmnmmeaaDoorUnquote
import Derived.Test.YtepmfjhhmnmmeaaDoorRoundLaw
import Derived.Test.YtepmfjhhmnmmeaaDoorTextFns
namespace Go.Proofs.YtepmfjhhmnmmeaaDoor.textRound
open Go.RowKit

set_option maxHeartbeats 4000000 in
set_option maxRecDepth 100000 in
theorem walk (a0 s0 b0 : ByteArray) (w : World) (ha0 : a0.size ≤ 9223372036854775807) (hs0 : s0.size ≤ 9223372036854775807) (hb0 : b0.size ≤ 9223372036854775807) (hU : U8 w) (hT : TZ w) :
    Calls Tryd.prog 7 #[.string a0, .string s0, .string b0] w fun e w' => e = .returned (.bool true) ∧ Below w.heap.size w w' := by
  have HU := Lib.hid hU
  have HT := Lib.hid hT
  clear hU hT
  have cA := Lib.hid (fun w => cutText_any a0 w ha0)
  have cS := Lib.hid (fun w => cutText_any s0 w hs0)
  have cB := Lib.hid (fun w => cutText_any b0 w hb0)
  obtain ⟨A, hA⟩ : ∃ S, a0.extract 0 131072 = S := ⟨_, rfl⟩
  obtain ⟨S, hS⟩ : ∃ S, s0.extract 0 131072 = S := ⟨_, rfl⟩
  obtain ⟨B, hB⟩ : ∃ S, b0.extract 0 131072 = S := ⟨_, rfl⟩
  have hAz : A.size ≤ 131072 := by rw [← hA, ByteArray.size_extract]; omega
  have hSz : S.size ≤ 131072 := by rw [← hS, ByteArray.size_extract]; omega
  have hBz : B.size ≤ 131072 := by rw [← hB, ByteArray.size_extract]; omega
  rw [hA] at cA
  rw [hS] at cS
  rw [hB] at cB
  clear hA hS hB
  have hqa := quote_any ⟨#[97]⟩ (by decide) w HU.out HT.out
  rw [show (⟨(quoteL ⟨#[97]⟩).toArray⟩ : ByteArray) = ⟨#[34, 97, 34]⟩ from by rw [quote_a]] at hqa
  have hqa := Lib.hid hqa
  have hql := quoteL_len S
  have hqs := Lib.hid (fun w2 h1 => quote_any S (by omega) w2 (u8_below HU.out h1) (HT.out.below h1))
  obtain ⟨Q, hQ⟩ : ∃ Q : ByteArray, ⟨(quoteL S).toArray⟩ = Q := ⟨_, rfl⟩
  rw [hQ] at hqs
  have hQs : Q.size = (quoteL S).length := by rw [← hQ]; rfl
  have hT : (A ++ Q ++ B).data.toList.drop A.size = quoteL S ++ B.data.toList := by
    rw [← hQ]
    simp only [ByteArray.data_append, Array.toList_append, List.append_assoc]
    exact List.drop_left
  have hun := unquote_quote _ S A.size _ hT
  have hz : (A ++ Q ++ B).size = A.size + Q.size + B.size := by rw [ByteArray.size_append, ByteArray.size_append]
  have hz2 : (A ++ Q).size = A.size + Q.size := by rw [ByteArray.size_append]
  have huq := Lib.hid (fun w2 h1 => unquote_any (A ++ Q ++ B) (A.size : Int) (by omega) w2 (u8_below HU.out h1) (HT.out.below h1))
  rw [hun] at huq
  unfold unqV at huq
  have x1 : ¬ 9223372036854775807 < A.size + Q.size := by omega
  have x2 : ¬ 9223372036854775807 < A.size + Q.size + B.size := by omega
  rw [← hQs] at huq
  have x3 : IntKind.i64.wrap ((A.size : Int) + (Q.size : Int)) = ((A.size + Q.size : Nat) : Int) := by simp [IntKind.wrap, IntKind.bits, IntKind.signed]; omega
  clear hun hT hQ hql
  go_enter Tryd.func7, Tryd.ntmps7
  go_wp2_with (first
    | (go_at_call 15; (with_reducible refine (cA.out _).mono ?_); rintro e w2 ⟨rfl, rfl⟩; clear cA)
    | (go_at_call 15; (with_reducible refine (cS.out _).mono ?_); rintro e w2 ⟨rfl, rfl⟩; clear cS)
    | (go_at_call 15; (with_reducible refine (cB.out _).mono ?_); rintro e w2 ⟨rfl, rfl⟩; clear cB)
    | (go_at_call 24; (with_reducible refine hqa.out.mono ?_); rintro e w3 ⟨rfl, hb3⟩; have Hb3 := Lib.hid hb3; clear hb3; clear hqa)
    | (go_at_call 24; (with_reducible refine (hqs.out _ Hb3.out).mono ?_); rintro e w4 ⟨rfl, hb4⟩; have Hb4 := Lib.hid (then_ Hb3.out hb4); clear hb4)
    | (go_at_call 22; (with_reducible refine (huq.out _ Hb4.out).mono ?_); rintro e w5 ⟨rfl, hb5⟩; have Hb5 := Lib.hid (then_ Hb4.out hb5); clear hb5))
  all_goals go_ret
  all_goals exact ⟨rfl, Hb5.out⟩
end Go.Proofs.YtepmfjhhmnmmeaaDoor.textRound
