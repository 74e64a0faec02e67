/-
  text.Quote walked: it answers the literal of any text. Conditions: the tables of unicode/utf8 and of math/bits as laid.
-/
import Derived.Test.YtepmfjhhmnmmeaaDoorWritten
import Derived.Test.YtepmfjhhmnmmeaaDoorBuilder
namespace Go.Proofs.YtepmfjhhmnmmeaaDoor
open Go.RowKit

theorem bytes_app (a b : List UInt8) : Lib.byteCells (a ++ b) = Lib.byteCells a ++ Lib.byteCells b := by simp [Lib.byteCells]
theorem bytes_len (a : List UInt8) : (Lib.byteCells a).length = a.length := by simp [Lib.byteCells]
/-- What is written of a literal when the place p is reached. -/
def QuoteAt (s : ByteArray) (p : Nat) (l : List UInt8) : Prop := l ++ (quoteFrom s s.size p ++ [34]) = quoteL s ∧ l.length ≤ 20 * p + 1
theorem QuoteAt.start (s : ByteArray) : QuoteAt s 0 [34] := ⟨rfl, by simp⟩
theorem QuoteAt.step {s : ByteArray} {p : Nat} {l : List UInt8} (h : QuoteAt s p l) (hp : p < s.size) : QuoteAt s (nextPos s p) (l ++ writtenL s p) := by
  obtain ⟨h1, h2⟩ := h
  rw [quoteFrom_step hp] at h1
  refine ⟨by rw [← h1]; simp, ?_⟩
  have := writtenL_len s p
  have := next_gt hp
  simp
  omega
theorem QuoteAt.done {s : ByteArray} {p : Nat} {l : List UInt8} (h : QuoteAt s p l) (hp : ¬ p < s.size) : l ++ [34] = quoteL s := by
  have := h.1
  rw [quoteFrom_end hp] at this
  exact this
theorem iter_lt {w w1 : World} {B K : Nat} (hb : Below B w w1) (hK : B ≤ K) (s : ByteArray) (q : Nat) : Below B w (w1.iterAt K s q) := Lib.below_iterAt hb hK s q
theorem iter_new (w : World) (s : ByteArray) (p : Nat) : IterKept w (w.iter s p) := iter_alloc w _
theorem bld_iterAt {B b K : Nat} {bs : List Value} {w : World} {s t : ByteArray} {p q : Nat} (h : BldUsed B b bs w) (hK : w.heap[K]? = some (.stringIter s p)) : BldUsed B b bs (w.iterAt K t q) := by
  obtain ⟨hB, v, hk, hown, hne⟩ := h
  have hKb : b ≠ K := fun e => by subst e; rw [hk] at hK; cases hK
  have ho : ∀ k, k ≠ K → (w.iterAt K t q).heap[k]? = w.heap[k]? := fun k hk => by
    simp only [World.iterAt, Array.getElem?_setIfInBounds]
    rw [if_neg (fun e => hk e.symm)]
  refine ⟨hB, v, (ho b hKb).trans hk, hown.kept (row := some K) ⟨rfl, rfl, rfl, by simp [World.iterAt], fun k _ hk => ho k (fun e => hk (by rw [e]))⟩ (Or.inr (fun e => ?_)), hne⟩
  obtain ⟨cs, T, fr, hc⟩ := own_cells hown K e
  rw [hc] at hK
  cases hK
set_option maxHeartbeats 2000000 in
set_option maxRecDepth 100000 in
theorem quote_any (s : ByteArray) (hs : s.size ≤ 1099511627776) (w : World) (hU : U8 w) (hT : TZ w) :
    Calls Tryd.prog 24 #[.string s] w fun e w' => e = .returned (.string ⟨(quoteL s).toArray⟩) ∧ Below w.heap.size w w' := by
  have HU := Lib.hid hU
  have HT := Lib.hid hT
  clear hU hT
  have hfresh := Lib.fresh_isBuilder 83 5 w
  have hW1 := writeByte_any w.heap.size w.heap.size [] 34 _ hfresh (by simp) (by simp)
  have HW1 := Lib.hid hW1
  clear hfresh hW1
  go_enter Tryd.func24, Tryd.ntmps24
  go_wp2_with (go_at_call 51; (with_reducible refine HW1.out.mono ?_); rintro e w1 ⟨rfl, hB1, hb1, _⟩)
  have hb0 : Below w.heap.size w w1 := ((Below.refl _ w).alloc (Nat.le_refl _) _).trans hb1
  obtain ⟨K, hK⟩ : ∃ K, w1.heap.size = K := ⟨_, rfl⟩
  have hKB : w.heap.size ≤ K := by rw [← hK]; exact hb0.size
  have hit0 : (w1.iter s 0).heap[K]? = some (.stringIter s 0) := by rw [← hK]; exact World.iter_heap _ _ _
  have hB0 : BldUsed w.heap.size w.heap.size (Lib.byteCells [34]) (w1.iter s 0) := BldUsed.through (w' := w1.iter s 0) hB1 (below_iter _ _ _)
  have hb00 : Below w.heap.size w (w1.iter s 0) := hb0.trans ((below_iter w1 s 0).mono hb0.size)
  rw [hK]
  go_loopw [4, 5] (fun _ _ wr => ∃ (p : Nat) (l : List UInt8), p ≤ s.size ∧ wr.heap[K]? = some (.stringIter s p) ∧ BldUsed w.heap.size w.heap.size (Lib.byteCells l) wr ∧ Below w.heap.size w wr ∧ Hid (QuoteAt s p l)) (fun _ _ wr => s.size - wr.iterPos K)
  case atStart => exact ⟨0, [34], by omega, hit0, hB0, hb00, Lib.hid (QuoteAt.start s)⟩
  case round =>
    obtain ⟨p, l, hp, hit, hB, hb, hq⟩ := hrel
    by_cases hlt : p < s.size
    · have hnx := fun ty => Lib.run_next_any_at (P := Tryd.prog) wr K s p ty hit hlt
      have hgt := next_gt hlt
      have hle := width_le' hlt
      have hpos := iterPos_of hit
      have hbi := iter_lt hb hKB s (nextPos s p)
      have hU1 := u8_below HU.out hbi
      have hT1 := HT.out.below hbi
      have hBi := bld_iterAt (t := s) (q := nextPos s p) hB hit
      have hiti := Lib.iterAt_heap wr K s p (nextPos s p) hit
      have hst := Lib.hid (hq.out.step hlt)
      have hwr := written_any s p hlt (by omega) _ hU1 hT1
      have hlen := hq.out.2
      have hwl := writtenL_len s p
      obtain ⟨q, hqq⟩ : ∃ q, nextPos s p = q := ⟨_, rfl⟩
      have hq' : p + (Utf8.decode s p).2 = q := hqq
      obtain ⟨x, hx⟩ : ∃ x, writtenL s p = x := ⟨_, rfl⟩
      rw [hqq] at hgt hle hbi hBi hiti hst hwr
      rw [hx] at hst hwr hwl
      rw [hq'] at hnx
      have hws := Lib.hid (fun w2 h1 h2 => writeString_any w.heap.size w.heap.size (Lib.byteCells l) ⟨x.toArray⟩ w2 (Or.inr h1) (by rw [bytes_len]; show l.length + x.length ≤ _; omega) h2)
      have HW := Lib.hid hwr
      have HI := Lib.hid hiti
      have HBi := Lib.hid hBi
      have Hbi := Lib.hid hbi
      have hpos := Lib.hid hpos
      clear hq hqq hq' hit hB hb hU1 hT1 hx hwr hiti hBi hbi HW1 hB1 hb1 hb0 hit0 hB0 hb00
      go_wp2_with (first
        | (go_at_call 52; (with_reducible refine HW.out.mono ?_); rintro e w2 ⟨rfl, hb2⟩; have hB2 := Lib.hid (HBi.out.through hb2); have hI2 := Lib.hid (iter_below hb2 _ _ _ HI.out); have hbw2 := Lib.hid (then_ Hbi.out hb2); clear hb2)
        | (go_at_call 44; (with_reducible refine (hws.out _ hB2.out hbw2.out.size).mono ?_); rintro e w3 ⟨rfl, hB3, hb3, hi3⟩; have hB3 := Lib.hid hB3; have hI3 := Lib.hid (hi3 _ _ _ hI2.out); have hbw3 := Lib.hid (hbw2.out.trans hb3); clear hi3 hb3))
      all_goals go_roundw
      case rel => exact ⟨q, l ++ x, hle, hI3.out, by rw [bytes_app]; exact hB3.out, hbw3.out, hst⟩
      case measure => rw [iterPos_of hI3.out, hpos.out]; omega
    · have hnx := fun ty => Lib.run_next_end_at (P := Tryd.prog) wr K s p ty hit hlt
      have hdone := hq.out.done hlt
      have hlen := hq.out.2
      have hWb := Lib.hid (writeByte_any w.heap.size w.heap.size (Lib.byteCells l) 34 wr (Or.inr hB) (by rw [bytes_len]; omega) hb.size)
      have Hb := Lib.hid hb
      have hdone := Lib.hid hdone
      have hstr := Lib.hid (fun w2 h1 h2 => Tryd.Builder_String_any w.heap.size w.heap.size (quoteL s) w2 (Or.inr h1) h2)
      clear hq hit hB hb HW1 hB1 hb1 hb0 hit0 hB0 hb00
      go_wp2_with (first
        | (go_at_call 51; (with_reducible refine hWb.out.mono ?_); rintro e w2 ⟨rfl, hB2, hb2, _⟩; have hB2 := Lib.hid (show BldUsed w.heap.size w.heap.size (Lib.byteCells (quoteL s)) w2 from by rw [← hdone.out, bytes_app]; exact hB2); have hbw2 := Lib.hid (Hb.out.trans hb2); clear hb2)
        | (go_at_call 47; (with_reducible refine (hstr.out _ hB2.out hbw2.out.size).mono ?_); rintro e w3 ⟨rfl, hb3⟩))
      all_goals go_ret
      all_goals exact ⟨rfl, hbw2.out.trans hb3⟩
end Go.Proofs.YtepmfjhhmnmmeaaDoor
