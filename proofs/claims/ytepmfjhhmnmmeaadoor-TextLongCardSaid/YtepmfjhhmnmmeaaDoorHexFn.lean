/-
  text.hex walked: the value of at most six hexadecimal digits. Conditions: none.
-/
import Derived.Test.YtepmfjhhmnmmeaaDoorHexRead
namespace Go.Proofs.YtepmfjhhmnmmeaaDoor
open Go.RowKit

def hexRes (t : ByteArray) : Value := match hexN t.data.toList with | some v => .tuple #[.int .i32 v, .bool true] | none => .tuple #[.int .i32 0, .bool false]
theorem or_low (v k : Nat) (hv : v < 1048576) (hk : k < 16) : bits .or .i32 ((v * 16 : Nat) : Int) (k : Int) = ((v * 16 + k : Nat) : Int) := by
  have h1 : v * 16 ||| k = v * 16 + k := by
    have := Nat.shiftLeft_add_eq_or_of_lt (i := 4) (b := k) (by omega) v
    rw [Nat.shiftLeft_eq] at this
    exact this.symm
  have e1 : (BitVec.ofInt 32 ((v * 16 : Nat) : Int)).toNat = v * 16 := by
    rw [BitVec.ofInt_natCast, BitVec.toNat_ofNat]; exact Nat.mod_eq_of_lt (by omega)
  have e2 : (BitVec.ofInt 32 (k : Int)).toNat = k := by
    rw [BitVec.ofInt_natCast, BitVec.toNat_ofNat]; exact Nat.mod_eq_of_lt (by omega)
  show IntKind.i32.wrap ((BitVec.ofInt 32 ((v * 16 : Nat) : Int) ||| BitVec.ofInt 32 (k : Int)).toNat : Int) = _
  rw [BitVec.toNat_or, e1, e2, h1]
  simp only [IntKind.wrap, IntKind.bits, IntKind.signed]
  simp
  omega
set_option maxHeartbeats 2000000 in
set_option maxRecDepth 100000 in
theorem hex_any (t : ByteArray) (ht : t.size ≤ 6) (w : World) :
    Calls Tryd.prog 63 #[.string t] w fun e w' => e = .returned (hexRes t) ∧ Below w.heap.size w w' := by
  go_enter Tryd.func63, Tryd.ntmps63
  go_wp2
  go_loopw [4, 6, 7] (fun a _ _ wr => ∃ p v : Nat, p ≤ t.size ∧ wr.heap[w.heap.size]? = some (.stringIter t p) ∧ a = .int .i32 v ∧ v < 16 ^ p ∧ Below w.heap.size w wr ∧ Hid (hexN (t.data.toList.take p) = some v)) (fun _ _ _ wr => t.size - wr.iterPos w.heap.size)
  case atStart => exact ⟨0, 0, by omega, World.iter_heap _ _ _, rfl, by simp, below_iter _ _ _, Lib.hid rfl⟩
  case round =>
    obtain ⟨p, v, hp, hit, rfl, hv, hb, hN⟩ := hrel
    by_cases hlt : p < t.size
    · have hnx := fun ty => Lib.run_next_any_at (P := Tryd.prog) wr w.heap.size t p ty hit hlt
      have hv20 : v < 1048576 := Nat.lt_of_lt_of_le hv (by
        have := Nat.pow_le_pow_right (n := 16) (by omega) (show p ≤ 5 by omega)
        simpa using this)
      by_cases hbig : 128 ≤ (t.get! p).toNat
      · have hI := Lib.hid (fun w => idx_big (s := t) (p := p) hbig w)
        have hR := Lib.hid (show hexRes t = .tuple #[.int .i32 0, .bool false] from by unfold hexRes; rw [hexN_stop hlt hN.out (hexV_big hbig)])
        have hbi := Lib.hid (Lib.below_iterAt hb (Nat.le_refl _) t (nextPos t p))
        have hq' : p + (Utf8.decode t p).2 = nextPos t p := rfl
        rw [hq'] at hnx
        unfold dig16 at hI
        clear hq' hN hit hb hv
        go_wp2_with (go_at_call 78; (with_reducible refine (hI.out _).mono ?_); rintro e w2 ⟨rfl, hb2⟩)
        all_goals go_ret2
        all_goals exact ⟨by rw [hR.out]; rfl, then_ hbi.out hb2⟩
      · have hsm : (t.get! p).toNat < 128 := by omega
        have hI := fun w => idx_ascii (t.get! p) hsm w
        have hpos := Lib.hid (iterPos_of hit)
        have h2 := Lib.hid (Lib.iterAt_heap wr w.heap.size t p (p + 1) hit)
        have hb2 := Lib.hid (Lib.below_iterAt hb (Nat.le_refl _) t (p + 1))
        rw [decode_ascii hsm] at hnx
        obtain ⟨c, hc⟩ : ∃ c, t.get! p = c := ⟨_, rfl⟩
        have hstop := hexN_stop hlt hN.out
        have hstep := hexN_take hlt hN.out
        rw [hc] at hnx hI hstop hstep
        unfold dig16 at hI
        obtain ⟨o, ho⟩ : ∃ o, hexV c = o := ⟨_, rfl⟩
        rw [ho] at hI hstop
        cases o with
        | none =>
          have hI := Lib.hid hI
          have hR := Lib.hid (show hexRes t = .tuple #[.int .i32 0, .bool false] from by unfold hexRes; rw [hstop rfl])
          clear hN hit hb hv hstop hstep hc ho hbig
          go_wp2_with (go_at_call 78; (with_reducible refine (hI.out _).mono ?_); rintro e w2 ⟨rfl, rfl⟩)
          all_goals go_ret2
          all_goals exact ⟨by rw [hR.out]; rfl, hb2.out⟩
        | some k =>
          have hk := hexV_lt ho
          have hI := Lib.hid hI
          have hN2 : Hid (hexN (t.data.toList.take (p + 1)) = some (v * 16 + k)) := Lib.hid (by rw [hstep]; unfold hexStep; rw [ho])
          have hv2 : v * 16 + k < 16 ^ (p + 1) := by
            rw [Nat.pow_succ]
            omega
          have hor := or_low v k hv20 hk
          rw [Int.natCast_mul] at hor
          clear hN hit hb hv hstop hstep hc ho hbig
          go_wp2_with (go_at_call 78; (with_reducible refine (hI.out _).mono ?_); rintro e w2 ⟨rfl, rfl⟩)
          all_goals go_roundw
          case rel => exact ⟨p + 1, v * 16 + k, by omega, h2.out, congrArg _ hor, hv2, hb2.out, hN2⟩
          case measure => rw [iterPos_of h2.out, hpos.out]; omega
    · have hnx := fun ty => Lib.run_next_end_at (P := Tryd.prog) wr w.heap.size t p ty hit hlt
      have hR := Lib.hid (show hexRes t = .tuple #[.int .i32 v, .bool true] from by
        have h := hN.out
        rw [List.take_of_length_le (show t.data.toList.length ≤ p by show t.size ≤ p; omega)] at h
        unfold hexRes
        rw [h])
      clear hN
      go_wp2
      all_goals go_ret2
      all_goals exact ⟨by rw [hR.out]; rfl, hb⟩
end Go.Proofs.YtepmfjhhmnmmeaaDoor
