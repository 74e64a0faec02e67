/-
  text.Clip and text.Valid walked: what each answers, of any text. Conditions: the two tables of unicode/utf8 as laid.
-/
import Derived.Test.YtepmfjhhmnmmeaaDoorTextFns
namespace Go.Proofs.YtepmfjhhmnmmeaaDoor
open Go.RowKit

/-- The world with a text's iterator laid is what was, below it. -/
theorem below_iter (w : World) (s : ByteArray) (p : Nat) : Below w.heap.size w (w.iter s p) := (Below.refl _ _).alloc (Nat.le_refl _) _

theorem clip_at {s : ByteArray} {n : Int} {k : Nat} (h : n ≤ (k : Int)) (hk : k ≤ n.toNat) : clip s n = s.extract 0 (posAt s k) := by
  have : n.toNat = k := by omega
  rw [clip, this, clipN]
theorem clip_all {s : ByteArray} {n : Int} {k : Nat} (h : posAt s k = s.size) (hk : k ≤ n.toNat) : clip s n = s := by
  rw [clip, clipN, posAt_stays h hk]
  apply ByteArray.ext
  simp
theorem clip_none {s : ByteArray} {n : Int} (h : n < 1) : clip s n = ⟨#[]⟩ := by
  have : n.toNat = 0 := by omega
  rw [clip, this, clipN]
  apply ByteArray.ext
  simp [posAt]

set_option maxHeartbeats 1000000 in
theorem clip_any (s : ByteArray) (n : Int) (w : World) (hs : s.size ≤ 4611686018427387904) :
    Calls Tryd.prog 16 #[.string s, .int .i64 n] w fun e w' => e = .returned (.string (clip s n)) ∧ Below w.heap.size w w' := by
  go_enter Tryd.func16, Tryd.ntmps16
  go_wp2
  go_loopw [5] (fun c wr => ∃ k : Nat, k ≤ s.size ∧ k ≤ n.toNat ∧ c = .int .i64 k ∧ wr = w.iter s (posAt s k)) (fun _ wr => s.size - wr.iterPos w.heap.size)
  case atStart => exact ⟨0, by omega, by omega, rfl, rfl⟩
  case round =>
    obtain ⟨k, hk, hkn, rfl, rfl⟩ := hrel
    by_cases hlt : posAt s k < s.size
    · have hnx := fun ty => run_next_any (P := Tryd.prog) w s (posAt s k) ty hlt
      have hge := posAt_ge hlt
      have hsuc := Lib.hid (posAt_succ hlt)
      have hgt := next_gt hlt
      have hle := width_le' hlt
      obtain ⟨q, hq⟩ : ∃ q, nextPos s (posAt s k) = q := ⟨_, rfl⟩
      have hq' : posAt s k + (Utf8.decode s (posAt s k)).2 = q := hq
      rw [hq] at hsuc hgt hle
      rw [hq'] at hnx
      have hcl := Lib.hid (fun h : n ≤ (k : Int) => clip_at (s := s) h hkn)
      obtain ⟨p, hp⟩ : ∃ p, posAt s k = p := ⟨_, rfl⟩
      rw [hp] at hnx hge hgt hlt hcl ⊢
      clear hq hq' hp
      by_cases hc : n ≤ (k : Int)
      · have hcl' := Lib.hid (hcl.out hc)
        clear hcl
        have hz : (p : Int) ≤ (s.size : Int) := by omega
        go_wp2
        all_goals go_ret
        all_goals exact ⟨ret_str hcl'.out.symm, below_iter _ _ _⟩
      · clear hcl
        go_wp2
        all_goals go_roundw
        case rel => exact ⟨k + 1, by omega, by omega, by go_num, by rw [hsuc.out]⟩
        case measure => simp; omega
    · have hpe : posAt s k = s.size := by have := posAt_le s k; omega
      have hnx := fun ty => run_next_end (P := Tryd.prog) w s (posAt s k) ty hlt
      have hcl := Lib.hid (clip_all (n := n) hpe hkn)
      have hcn := Lib.hid (fun h : n < 1 => clip_none (s := s) h)
      clear hpe
      by_cases hn : n < 1
      · have hcn' := Lib.hid (hcn.out hn)
        clear hcl hcn
        go_wp2
        all_goals go_ret
        all_goals exact ⟨ret_str hcn'.out.symm, below_iter _ _ _⟩
      · clear hcn
        go_wp2
        all_goals go_ret
        all_goals exact ⟨ret_str hcl.out.symm, below_iter _ _ _⟩

/-- The first stray byte's place from the k-th piece on, or -1. -/
def validFrom (s : ByteArray) : Nat → Nat → Int
  | 0, _ => -1
  | f + 1, p => if p < s.size then (if strayAt s p = true then (p : Int) else validFrom s f (nextPos s p)) else -1
def valid (s : ByteArray) : Int := validFrom s s.size 0

theorem validFrom_more (s : ByteArray) : ∀ (f g p : Nat), s.size ≤ p + f → s.size ≤ p + g → validFrom s f p = validFrom s g p
  | 0, 0, _, _, _ => rfl
  | 0, g + 1, p, h, _ => by
    have : ¬ p < s.size := by omega
    simp [validFrom, this]
  | f + 1, 0, p, _, h => by
    have : ¬ p < s.size := by omega
    simp [validFrom, this]
  | f + 1, g + 1, p, h, h' => by
    by_cases hp : p < s.size
    · have := next_gt hp
      simp only [validFrom, if_pos hp, validFrom_more s f g (nextPos s p) (by omega) (by omega)]
    · simp [validFrom, hp]
theorem validFrom_end {s : ByteArray} {f p : Nat} (h : ¬ p < s.size) : validFrom s f p = -1 := by cases f <;> simp [validFrom, h]
theorem validFrom_stray {s : ByteArray} {p : Nat} (h : p < s.size) (hs : strayAt s p = true) : validFrom s s.size p = (p : Int) := by
  rw [validFrom_more s s.size (s.size + 1) p (by omega) (by omega)]
  simp [validFrom, h, hs]
theorem validFrom_step {s : ByteArray} {p : Nat} (h : p < s.size) (hs : strayAt s p = false) : validFrom s s.size p = validFrom s s.size (nextPos s p) := by
  rw [validFrom_more s s.size (s.size + 1) p (by omega) (by omega)]
  simp [validFrom, h, hs]

theorem stray_at {s : ByteArray} {p : Nat} {b : Bool} (h : strayAt s p = b) (hi : p < s.size) (hs : s.size ≤ 4611686018427387904) (w : World) (hU : U8 w) :
    Calls Tryd.prog 39 #[.string s, .int .i64 p, .int .i32 (Utf8.decode s p).1] w fun e w' => e = .returned (.bool b) ∧ Below w.heap.size w w' := by
  rw [← h]; exact stray_any s p hi (by omega) w hU
theorem u8_below {w w' : World} (h : U8 w) (hb : Below w.heap.size w w') : U8 w' := Utf8Tabs_below h hb
theorem iter_after {w wr w2 : World} {s : ByteArray} {k p q : Nat} (hit : wr.heap[k]? = some (.stringIter s p)) (hb2 : Below (wr.iterAt k s q).heap.size (wr.iterAt k s q) w2) (hw : w.heap.size = k) (hb : Below w.heap.size w wr) :
    w2.heap[k]? = some (.stringIter s q) ∧ Below w.heap.size w w2 := by
  have h1 := Lib.iterAt_heap wr k s p q hit
  have hlt : k < (wr.iterAt k s q).heap.size := (Array.getElem?_eq_some_iff.1 h1).1
  exact ⟨(hb2.block _ hlt).trans h1, (Lib.below_iterAt hb (by omega) s q).trans (hb2.mono (by omega))⟩
theorem iterPos_of {w : World} {k p : Nat} {s : ByteArray} (h : w.heap[k]? = some (.stringIter s p)) : w.iterPos k = p := by simp [World.iterPos, h]

set_option maxHeartbeats 1000000 in
theorem valid_any (s : ByteArray) (w : World) (hs : s.size ≤ 4611686018427387904) (hu : U8 w) :
    Calls Tryd.prog 17 #[.string s] w fun e w' => e = .returned (.int .i64 (valid s)) ∧ Below w.heap.size w w' := by
  have HU := Lib.hid hu
  clear hu
  go_enter Tryd.func17, Tryd.ntmps17
  go_wp2
  go_loopw [] (fun wr => ∃ p : Nat, p ≤ s.size ∧ wr.heap[w.heap.size]? = some (.stringIter s p) ∧ Below w.heap.size w wr ∧ Hid (valid s = validFrom s s.size p)) (fun wr => s.size - wr.iterPos w.heap.size)
  case atStart => exact ⟨0, by omega, World.iter_heap _ _ _, below_iter _ _ _, Lib.hid rfl⟩
  case round =>
    obtain ⟨p, hp, hit, hb, hv⟩ := hrel
    by_cases hlt : p < s.size
    · have hnx := fun ty => Lib.run_next_any_at (P := Tryd.prog) wr w.heap.size s p ty hit hlt
      have hgt := next_gt hlt
      have hle := width_le' hlt
      have hpos := iterPos_of hit
      have hU1 := u8_below HU.out (Lib.below_iterAt hb (Nat.le_refl _) s (nextPos s p))
      obtain ⟨q, hq⟩ : ∃ q, nextPos s p = q := ⟨_, rfl⟩
      have hq' : p + (Utf8.decode s p).2 = q := hq
      rw [hq] at hgt hle hU1
      rw [hq'] at hnx
      have H : Hid (∀ w2, Below (wr.iterAt w.heap.size s q).heap.size (wr.iterAt w.heap.size s q) w2 → w2.heap[w.heap.size]? = some (.stringIter s q) ∧ Below w.heap.size w w2) := Lib.hid (fun w2 h => iter_after hit h rfl hb)
      cases hst : strayAt s p with
      | true =>
        have hv' := Lib.hid (hv.out.trans (validFrom_stray hlt hst))
        have hcall := Lib.hid (stray_at hst hlt hs _ hU1)
        clear hv hst hq hq' hit hb hpos hU1
        go_wp2_with (go_at_call 39; (with_reducible refine hcall.out.mono ?_); rintro e w2 ⟨rfl, hb2⟩; have hw2 := Lib.hid (H.out w2 hb2); clear hb2)
        all_goals go_ret
        all_goals exact ⟨ret_int hv'.out.symm, hw2.out.2⟩
      | false =>
        have hv' := hv.out.trans (validFrom_step hlt hst)
        rw [hq] at hv'
        have hv' := Lib.hid hv'
        have hcall := Lib.hid (stray_at hst hlt hs _ hU1)
        have hpos := Lib.hid hpos
        clear hv hst hq hq' hit hb hU1
        go_wp2_with (go_at_call 39; (with_reducible refine hcall.out.mono ?_); rintro e w2 ⟨rfl, hb2⟩; have hw2 := Lib.hid (H.out w2 hb2); clear hb2)
        all_goals go_roundw
        case rel => exact ⟨q, hle, hw2.out.1, hw2.out.2, hv'⟩
        case measure => rw [iterPos_of hw2.out.1, hpos.out]; omega
    · have hnx := fun ty => Lib.run_next_end_at (P := Tryd.prog) wr w.heap.size s p ty hit hlt
      have hv' := Lib.hid (hv.out.trans (validFrom_end hlt))
      clear hv
      go_wp2
      all_goals go_ret
      all_goals exact ⟨ret_int hv'.out.symm, hb⟩
end Go.Proofs.YtepmfjhhmnmmeaaDoor
