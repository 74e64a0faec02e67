/-
  annalslaw2.TextClips walked: it answers true, of any text and any two numbers. Conditions: the two tables of unicode/utf8 as laid.
-/
import Derived.Test.YtepmfjhhmnmmeaaDoorClipLaw
namespace Go.Proofs.YtepmfjhhmnmmeaaDoor.textClips
open Go.RowKit

theorem clip_ab_val : clip ⟨#[97, 98]⟩ 1 = ⟨#[97]⟩ := by decide +kernel
theorem clip_ab (w : World) : Calls Tryd.prog 16 #[.string ⟨#[97, 98]⟩, .int .i64 1] w fun e w' => e = .returned (.string ⟨#[97]⟩) ∧ Below w.heap.size w w' := by
  have h := clip_any ⟨#[97, 98]⟩ 1 w (by decide)
  rwa [clip_ab_val] at h
theorem clip_is {s r : ByteArray} {n : Int} (h : clip s n = r) (hs : s.size ≤ 4611686018427387904) (w : World) : Calls Tryd.prog 16 #[.string s, .int .i64 n] w fun e w' => e = .returned (.string r) ∧ Below w.heap.size w w' := by
  rw [← h]; exact clip_any s n w hs
theorem valid_is {s : ByteArray} {r : Int} (h : valid s = r) (hs : s.size ≤ 4611686018427387904) (w : World) (hU : U8 w) : Calls Tryd.prog 17 #[.string s] w fun e w' => e = .returned (.int .i64 r) ∧ Below w.heap.size w w' := by
  rw [← h]; exact valid_any s w hs hU

/-- Behind a call that leaves what was below it. -/
theorem then_ {w wr w2 : World} (hb : Below w.heap.size w wr) (h : Below wr.heap.size wr w2) : Below w.heap.size w w2 := hb.trans (h.mono hb.size)

set_option maxHeartbeats 4000000 in
theorem walk (s0 : ByteArray) (n m : Int) (w : World) (hs0 : s0.size ≤ 9223372036854775807) (hu : U8 w) :
    Calls Tryd.prog 4 #[.string s0, .int .i64 n, .int .i64 m] w fun e w' => e = .returned (.bool true) ∧ Below w.heap.size w w' := by
  have HU := Lib.hid hu
  clear hu
  have HB := Below.refl w.heap.size w
  have hcut := Lib.hid (fun w => cutText_any s0 w hs0)
  obtain ⟨S, hS⟩ : ∃ S, s0.extract 0 131072 = S := ⟨_, rfl⟩
  have hSz : S.size ≤ 131072 := by rw [← hS, ByteArray.size_extract]; omega
  rw [hS] at hcut
  have hbig : S.size ≤ 4611686018427387904 := by omega
  obtain ⟨lo, hlo⟩ : ∃ x, min n m = x := ⟨_, rfl⟩
  obtain ⟨hi, hhi⟩ : ∃ x, max n m = x := ⟨_, rfl⟩
  have hle : lo ≤ hi := by omega
  have f1 := clip_mono S hle
  have f2 := clip_size_le S hi
  have f3 := clip_head S hi
  have f4 := clip_head2 S hle
  have f5 := clip_clip S hle
  have f6 := clip_whole S
  have f7 := valid_cut S lo
  obtain ⟨A, hA⟩ : ∃ A, clip S lo = A := ⟨_, rfl⟩
  obtain ⟨B, hB⟩ : ∃ B, clip S hi = B := ⟨_, rfl⟩
  rw [hA] at f1 f4 f5 f7
  rw [hB] at f1 f2 f3 f4 f5
  have hBbig : B.size ≤ 4611686018427387904 := by omega
  have hAbig : A.size ≤ 4611686018427387904 := by omega
  have cW := Lib.hid (fun w => clip_is f6 hbig w)
  have cBA := Lib.hid (fun w => clip_is f5 hBbig w)
  have cA := Lib.hid (fun w => clip_is hA hbig w)
  have cB := Lib.hid (fun w => clip_is hB hbig w)
  have hz1 : (0 : Int) ≤ (A.size : Int) := by omega
  have hz2 : (A.size : Int) ≤ (B.size : Int) := by omega
  have hz3 : (B.size : Int) ≤ (S.size : Int) := by omega
  have hz4 : (A.size : Int) ≤ (S.size : Int) := by omega
  obtain ⟨T, hT⟩ : ∃ T, S.extract A.size S.size = T := ⟨_, rfl⟩
  have hTbig : T.size ≤ 4611686018427387904 := by rw [← hT, ByteArray.size_extract]; omega
  rw [hT] at f7
  have F7 := Lib.hid f7
  clear f7
  clear hS f5 f6 hA hB hBbig hle
  by_cases hmn : m < n
  · obtain rfl : lo = m := by omega
    obtain rfl : hi = n := by omega
    have hmin : min hi lo = lo := by omega
    clear hlo hhi
    by_cases hv : valid S = -1
    · obtain ⟨v1, v2⟩ := F7.out hv
      have vS := Lib.hid (fun w h => valid_is hv hbig w h)
      have vA := Lib.hid (fun w h => valid_is v1 hAbig w h)
      have vT := Lib.hid (fun w h => valid_is v2 hTbig w h)
      clear hv v1 v2 F7 hbig hAbig hTbig
      go_enter Tryd.func4, Tryd.ntmps4
      go_wp2_with (first
      | (go_at_call 15; (with_reducible refine (hcut.out _).mono ?_); rintro e w2 ⟨rfl, rfl⟩)
      | (go_at_call 16; (with_reducible refine (clip_ab _).mono ?_); rintro e w2 ⟨rfl, hb⟩; have HB' := then_ HB hb; clear HB hb; have HB := HB'; clear HB')
      | (go_at_call 16; (with_reducible refine (cW.out _).mono ?_); rintro e w2 ⟨rfl, hb⟩; have HB' := then_ HB hb; clear HB hb; have HB := HB'; clear HB')
      | (go_at_call 16; (with_reducible refine (cBA.out _).mono ?_); rintro e w2 ⟨rfl, hb⟩; have HB' := then_ HB hb; clear HB hb; have HB := HB'; clear HB')
      | (go_at_call 16; (with_reducible refine (cA.out _).mono ?_); rintro e w2 ⟨rfl, hb⟩; have HB' := then_ HB hb; clear HB hb; have HB := HB'; clear HB')
      | (go_at_call 16; (with_reducible refine (cB.out _).mono ?_); rintro e w2 ⟨rfl, hb⟩; have HB' := then_ HB hb; clear HB hb; have HB := HB'; clear HB')
      | (go_at_call 17; (with_reducible refine (vS.out _ (u8_below HU.out HB)).mono ?_); rintro e w2 ⟨rfl, hb⟩; have HB' := then_ HB hb; clear HB hb; have HB := HB'; clear HB')
      | (go_at_call 17; (with_reducible refine (vA.out _ (u8_below HU.out HB)).mono ?_); rintro e w2 ⟨rfl, hb⟩; have HB' := then_ HB hb; clear HB hb; have HB := HB'; clear HB')
      | (go_at_call 17; (with_reducible refine (vT.out _ (u8_below HU.out HB)).mono ?_); rintro e w2 ⟨rfl, hb⟩; have HB' := then_ HB hb; clear HB hb; have HB := HB'; clear HB'))
      go_ret
      exact ⟨rfl, HB⟩
    · obtain ⟨V, hV⟩ : ∃ V, valid S = V := ⟨_, rfl⟩
      have vS := Lib.hid (fun w h => valid_is hV hbig w h)
      have hV1 : (V != -1) = true := by rw [bne_iff_ne, ← hV]; exact hv
      clear hv hV F7 hbig hAbig hTbig
      go_enter Tryd.func4, Tryd.ntmps4
      go_wp2_with (first
      | (go_at_call 15; (with_reducible refine (hcut.out _).mono ?_); rintro e w2 ⟨rfl, rfl⟩)
      | (go_at_call 16; (with_reducible refine (clip_ab _).mono ?_); rintro e w2 ⟨rfl, hb⟩; have HB' := then_ HB hb; clear HB hb; have HB := HB'; clear HB')
      | (go_at_call 16; (with_reducible refine (cW.out _).mono ?_); rintro e w2 ⟨rfl, hb⟩; have HB' := then_ HB hb; clear HB hb; have HB := HB'; clear HB')
      | (go_at_call 16; (with_reducible refine (cBA.out _).mono ?_); rintro e w2 ⟨rfl, hb⟩; have HB' := then_ HB hb; clear HB hb; have HB := HB'; clear HB')
      | (go_at_call 16; (with_reducible refine (cA.out _).mono ?_); rintro e w2 ⟨rfl, hb⟩; have HB' := then_ HB hb; clear HB hb; have HB := HB'; clear HB')
      | (go_at_call 16; (with_reducible refine (cB.out _).mono ?_); rintro e w2 ⟨rfl, hb⟩; have HB' := then_ HB hb; clear HB hb; have HB := HB'; clear HB')
      | (go_at_call 17; (with_reducible refine (vS.out _ (u8_below HU.out HB)).mono ?_); rintro e w2 ⟨rfl, hb⟩; have HB' := then_ HB hb; clear HB hb; have HB := HB'; clear HB'))
      go_ret
      exact ⟨rfl, HB⟩
  · obtain rfl : lo = n := by omega
    obtain rfl : hi = m := by omega
    have hmin : min lo hi = lo := by omega
    clear hlo hhi
    by_cases hv : valid S = -1
    · obtain ⟨v1, v2⟩ := F7.out hv
      have vS := Lib.hid (fun w h => valid_is hv hbig w h)
      have vA := Lib.hid (fun w h => valid_is v1 hAbig w h)
      have vT := Lib.hid (fun w h => valid_is v2 hTbig w h)
      clear hv v1 v2 F7 hbig hAbig hTbig
      go_enter Tryd.func4, Tryd.ntmps4
      go_wp2_with (first
      | (go_at_call 15; (with_reducible refine (hcut.out _).mono ?_); rintro e w2 ⟨rfl, rfl⟩)
      | (go_at_call 16; (with_reducible refine (clip_ab _).mono ?_); rintro e w2 ⟨rfl, hb⟩; have HB' := then_ HB hb; clear HB hb; have HB := HB'; clear HB')
      | (go_at_call 16; (with_reducible refine (cW.out _).mono ?_); rintro e w2 ⟨rfl, hb⟩; have HB' := then_ HB hb; clear HB hb; have HB := HB'; clear HB')
      | (go_at_call 16; (with_reducible refine (cBA.out _).mono ?_); rintro e w2 ⟨rfl, hb⟩; have HB' := then_ HB hb; clear HB hb; have HB := HB'; clear HB')
      | (go_at_call 16; (with_reducible refine (cA.out _).mono ?_); rintro e w2 ⟨rfl, hb⟩; have HB' := then_ HB hb; clear HB hb; have HB := HB'; clear HB')
      | (go_at_call 16; (with_reducible refine (cB.out _).mono ?_); rintro e w2 ⟨rfl, hb⟩; have HB' := then_ HB hb; clear HB hb; have HB := HB'; clear HB')
      | (go_at_call 17; (with_reducible refine (vS.out _ (u8_below HU.out HB)).mono ?_); rintro e w2 ⟨rfl, hb⟩; have HB' := then_ HB hb; clear HB hb; have HB := HB'; clear HB')
      | (go_at_call 17; (with_reducible refine (vA.out _ (u8_below HU.out HB)).mono ?_); rintro e w2 ⟨rfl, hb⟩; have HB' := then_ HB hb; clear HB hb; have HB := HB'; clear HB')
      | (go_at_call 17; (with_reducible refine (vT.out _ (u8_below HU.out HB)).mono ?_); rintro e w2 ⟨rfl, hb⟩; have HB' := then_ HB hb; clear HB hb; have HB := HB'; clear HB'))
      go_ret
      exact ⟨rfl, HB⟩
    · obtain ⟨V, hV⟩ : ∃ V, valid S = V := ⟨_, rfl⟩
      have vS := Lib.hid (fun w h => valid_is hV hbig w h)
      have hV1 : (V != -1) = true := by rw [bne_iff_ne, ← hV]; exact hv
      clear hv hV F7 hbig hAbig hTbig
      go_enter Tryd.func4, Tryd.ntmps4
      go_wp2_with (first
      | (go_at_call 15; (with_reducible refine (hcut.out _).mono ?_); rintro e w2 ⟨rfl, rfl⟩)
      | (go_at_call 16; (with_reducible refine (clip_ab _).mono ?_); rintro e w2 ⟨rfl, hb⟩; have HB' := then_ HB hb; clear HB hb; have HB := HB'; clear HB')
      | (go_at_call 16; (with_reducible refine (cW.out _).mono ?_); rintro e w2 ⟨rfl, hb⟩; have HB' := then_ HB hb; clear HB hb; have HB := HB'; clear HB')
      | (go_at_call 16; (with_reducible refine (cBA.out _).mono ?_); rintro e w2 ⟨rfl, hb⟩; have HB' := then_ HB hb; clear HB hb; have HB := HB'; clear HB')
      | (go_at_call 16; (with_reducible refine (cA.out _).mono ?_); rintro e w2 ⟨rfl, hb⟩; have HB' := then_ HB hb; clear HB hb; have HB := HB'; clear HB')
      | (go_at_call 16; (with_reducible refine (cB.out _).mono ?_); rintro e w2 ⟨rfl, hb⟩; have HB' := then_ HB hb; clear HB hb; have HB := HB'; clear HB')
      | (go_at_call 17; (with_reducible refine (vS.out _ (u8_below HU.out HB)).mono ?_); rintro e w2 ⟨rfl, hb⟩; have HB' := then_ HB hb; clear HB hb; have HB := HB'; clear HB'))
      go_ret
      exact ⟨rfl, HB⟩
end Go.Proofs.YtepmfjhhmnmmeaaDoor.textClips
