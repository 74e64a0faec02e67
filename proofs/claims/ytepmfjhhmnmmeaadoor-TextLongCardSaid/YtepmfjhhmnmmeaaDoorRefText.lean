/-
  annalsref2.Valid, Clip, nameRune and Name walked: the reference's answers, of any text. Conditions: the reference's table of letters as laid.
-/
import Derived.Test.YtepmfjhhmnmmeaaDoorPieces
import Derived.Test.YtepmfjhhmnmmeaaDoorLetters
import Derived.Test.YtepmfjhhmnmmeaaDoorClipLaw
namespace Go.Proofs.YtepmfjhhmnmmeaaDoor
open Go.RowKit

theorem piecesTo_get (s : ByteArray) : ∀ (k j : Nat), j < k → (piecesTo s k)[j * 3]? = some (.int .i64 (pieceR s (posAt s j))) ∧ (piecesTo s k)[j * 3 + 1]? = some (.int .i64 (posAt s j)) ∧ (piecesTo s k)[j * 3 + 2]? = some (.int .i64 (Utf8.decode s (posAt s j)).2)
  | 0, _, h => by omega
  | k + 1, j, h => by
    have hl : ∀ m, (piecesTo s m).length = m * 3 := fun m => by
      induction m with
      | zero => rfl
      | succ m ih => rw [piecesTo_succ, List.length_append, ih]; simp [pieceCells]; omega
    rw [piecesTo_succ]
    by_cases e : j = k
    · subst e
      rw [List.getElem?_append_right (by rw [hl]; omega), List.getElem?_append_right (by rw [hl]; omega), List.getElem?_append_right (by rw [hl]; omega), hl]
      simp [pieceCells]
    · rw [List.getElem?_append_left (by rw [hl]; omega), List.getElem?_append_left (by rw [hl]; omega), List.getElem?_append_left (by rw [hl]; omega)]
      exact piecesTo_get s k j (by omega)

/-- What a list of pieces holds, cell by cell. -/
def PiecesAt (s : ByteArray) (w : World) (A : Option Addr) (k : Nat) : Prop :=
  0 < k → ∃ g, A = some ⟨g, 0, none⟩ ∧ ∀ j, j < k → w.cell? ⟨g, j * 3, none⟩ = some (.int .i64 (pieceR s (posAt s j))) ∧ w.cell? ⟨g, j * 3 + 1, none⟩ = some (.int .i64 (posAt s j)) ∧ w.cell? ⟨g, j * 3 + 2, none⟩ = some (.int .i64 (Utf8.decode s (posAt s j)).2)
theorem PiecesAt.below {s : ByteArray} {w w' : World} {A : Option Addr} {k : Nat} (h : PiecesAt s w A k) (hb : Below w.heap.size w w') : PiecesAt s w' A k := fun hk => by
  obtain ⟨g, e, hc⟩ := h hk
  exact ⟨g, e, fun j hj => ⟨(hb.cell (World.block_lt_of_cell? w _ (hc j hj).1)).trans (hc j hj).1, (hb.cell (World.block_lt_of_cell? w _ (hc j hj).2.1)).trans (hc j hj).2.1, (hb.cell (World.block_lt_of_cell? w _ (hc j hj).2.2)).trans (hc j hj).2.2⟩⟩
theorem pieces_shape {s : ByteArray} {w : World} {base : Nat} {v : Value} {k : Nat} (h : w.ownsRow base 79 3 v k (piecesTo s k)) : ∃ A c, v = .slice A k c ∧ PiecesAt s w A k := by
  have hc := h
  rcases h.2 with ⟨rfl, rfl⟩ | ⟨g, cap, cur, rfl, h3, h4, h5, h6, h7, h8⟩
  · exact ⟨none, 0, rfl, fun h => by omega⟩
  · refine ⟨_, cap, rfl, fun _ => ⟨g, rfl, fun j hj => ?_⟩⟩
    obtain ⟨e0, e1, e2⟩ := piecesTo_get s k j hj
    exact ⟨(hc.cellAt (j * 3) (by omega)).trans e0, (hc.cellAt (j * 3 + 1) (by omega)).trans e1, (hc.cellAt (j * 3 + 2) (by omega)).trans e2⟩

theorem pieces_read (s : ByteArray) (hs : s.size ≤ 1099511627776) (w : World) :
    Calls Tryd.prog 41 #[.string s] w fun e w' => ∃ A c k, e = .returned (.slice A k c) ∧ posAt s k = s.size ∧ (∀ j, j < k → posAt s j < s.size) ∧ PiecesAt s w' A k ∧ Below w.heap.size w w' :=
  (pieces_any s hs w).mono fun e w' ⟨v, k, he, h1, h2, h3, h4⟩ => by
    obtain ⟨A, c, rfl, hp⟩ := pieces_shape h3
    exact ⟨A, c, k, he, h1, h2, hp, h4⟩

theorem valid_skip {s : ByteArray} : ∀ j, (∀ m, m < j → posAt s m < s.size ∧ strayAt s (posAt s m) = false) → valid s = validFrom s s.size (posAt s j)
  | 0, _ => rfl
  | j + 1, h => by
    have h1 := h j (by omega)
    rw [valid_skip j (fun m hm => h m (by omega)), validFrom_step h1.1 h1.2, posAt_succ h1.1]
theorem valid_found {s : ByteArray} {j : Nat} (h : ∀ m, m < j → posAt s m < s.size ∧ strayAt s (posAt s m) = false) (h1 : posAt s j < s.size) (h2 : strayAt s (posAt s j) = true) : valid s = (posAt s j : Int) := by
  rw [valid_skip j h, validFrom_stray h1 h2]
theorem valid_none {s : ByteArray} {j : Nat} (h : ∀ m, m < j → posAt s m < s.size ∧ strayAt s (posAt s m) = false) (h1 : posAt s j = s.size) : valid s = -1 := by
  rw [valid_skip j h, validFrom_end (by omega)]
theorem count_le {s : ByteArray} {k : Nat} (h : ∀ j, j < k → posAt s j < s.size) : k ≤ s.size := by
  cases k with
  | zero => omega
  | succ k =>
    have h1 := h k (by omega)
    have := posAt_ge h1
    omega

set_option maxRecDepth 100000 in
set_option maxHeartbeats 1000000 in
theorem refValid_any (s : ByteArray) (hs : s.size ≤ 1099511627776) (w : World) :
    Calls Tryd.prog 20 #[.string s] w fun e w' => e = .returned (.int .i64 (valid s)) ∧ Below w.heap.size w w' := by
  have hp := Lib.hid (fun w => pieces_read s hs w)
  go_enter Tryd.func20, Tryd.ntmps20
  go_wp2_with (go_at_call 41; (with_reducible refine (hp.out _).mono ?_); rintro e w2 ⟨A, c, k, rfl, hend, hj, hat, hb⟩; have Hend := Lib.hid hend; have HJ := Lib.hid hj; have HAT := Lib.hid hat; have HB := Lib.hid hb; clear hend hj hat hb)
  have hkl := count_le HJ.out
  go_loop [4] (fun i => ∃ j : Nat, j ≤ k ∧ i = .int .i64 j ∧ Hid (∀ m, m < j → posAt s m < s.size ∧ strayAt s (posAt s m) = false)) (fun i => k - (intOf i).toNat)
  case atStart => exact ⟨0, by omega, rfl, Lib.hid (fun m h => by omega)⟩
  case round =>
    obtain ⟨j, hjk, rfl, HN⟩ := hrel
    by_cases hlt : j < k
    · obtain ⟨g, rfl, hc⟩ := HAT.out (by omega)
      obtain ⟨hc0, hc1, -⟩ := hc j hlt
      have hjs := HJ.out j hlt
      clear hc
      obtain ⟨p, hp'⟩ : ∃ p, posAt s j = p := ⟨_, rfl⟩
      cases hst : strayAt s (posAt s j) with
      | true =>
        have hv := Lib.hid (valid_found HN.out hjs hst)
        have hR : pieceR s (posAt s j) = -1 := by unfold pieceR; rw [if_pos hst]
        rw [hR] at hc0
        rw [hp'] at hc1 hv
        clear hst hjs hp' hR
        go_wp2
        all_goals go_ret
        all_goals exact ⟨ret_int hv.out.symm, HB.out⟩
      | false =>
        have hR : pieceR s (posAt s j) = ((Utf8.decode s (posAt s j)).1 : Int) := by unfold pieceR; rw [if_neg (by rw [hst]; exact Bool.false_ne_true)]
        have HN' : Hid (∀ m, m < j + 1 → posAt s m < s.size ∧ strayAt s (posAt s m) = false) := Lib.hid (fun m hm => by
          by_cases e : m = j
          · rw [e]; exact ⟨hjs, hst⟩
          · exact HN.out m (by omega))
        rw [hR] at hc0
        obtain ⟨R, hRR⟩ : ∃ R, (Utf8.decode s (posAt s j)).1 = R := ⟨_, rfl⟩
        rw [hRR] at hc0
        rw [hp'] at hc1
        have hR0 : ¬ ((R : Int) < 0) := by omega
        clear hst hjs hp' hR hRR HN
        go_wp2
        all_goals go_round
        case rel => exact ⟨j + 1, by omega, by go_num, HN'⟩
        case measure => simp [intOf]; omega
    · obtain rfl : j = k := by omega
      have hv := Lib.hid (valid_none HN.out Hend.out)
      go_wp2
      all_goals go_ret
      all_goals exact ⟨ret_int hv.out.symm, HB.out⟩

theorem refClip_at {s : ByteArray} {w : World} {A : Option Addr} {k m : Nat} (h : PiecesAt s w A k) (he : posAt s k = s.size) :
    (m < k → ∃ g, A = some ⟨g, 0, none⟩ ∧ w.cell? ⟨g, m * 3 + 1, none⟩ = some (.int .i64 (posAt s m)) ∧ posAt s m ≤ s.size ∧ clip s (m : Int) = s.extract 0 (posAt s m)) ∧ (k ≤ m → clip s (m : Int) = s) := by
  refine ⟨fun hm => ?_, fun hm => clip_all (k := k) he (by omega)⟩
  obtain ⟨g, e, hc⟩ := h (by omega)
  exact ⟨g, e, (hc m hm).2.1, posAt_le s m, rfl⟩

set_option maxRecDepth 100000 in
set_option maxHeartbeats 1000000 in
theorem refClip_any (s : ByteArray) (n : Int) (hs : s.size ≤ 1099511627776) (w : World) :
    Calls Tryd.prog 21 #[.string s, .int .i64 n] w fun e w' => e = .returned (.string (clip s n)) ∧ Below w.heap.size w w' := by
  have hp := Lib.hid (fun w => pieces_read s hs w)
  by_cases hn : n ≤ 0
  · have hcn := Lib.hid (clip_none (s := s) (n := n) (by omega))
    go_enter Tryd.func21, Tryd.ntmps21
    go_wp2_with (go_at_call 41; (with_reducible refine (hp.out _).mono ?_); rintro e w2 ⟨A, c, k, rfl, hend, hj, hat, hb⟩; have Hend := Lib.hid hend; have HJ := Lib.hid hj; have HAT := Lib.hid hat; have HB := Lib.hid hb; clear hend hj hat hb)
    all_goals go_ret
    all_goals exact ⟨ret_str hcn.out.symm, HB.out⟩
  · obtain ⟨m, rfl⟩ : ∃ m : Nat, n = m := ⟨n.toNat, by omega⟩
    have hm0 : (0 : Int) ≤ (m : Int) := by omega
    go_enter Tryd.func21, Tryd.ntmps21
    go_wp2_with fail
    refine (hp.out _).mono ?_
    rintro e w2 ⟨A, c, k, rfl, hend, hj, hat, hb⟩
    have HB := Lib.hid hb
    obtain ⟨h1, h2⟩ := refClip_at (m := m) hat hend
    clear hend hj hat hb
    by_cases hmk : m < k
    · obtain ⟨g, hA, hc1, hle, hv⟩ := h1 hmk
      subst hA
      obtain ⟨q, hq⟩ : ∃ q, posAt s m = q := ⟨_, rfl⟩
      rw [hq] at hc1 hle hv
      have Hv := Lib.hid hv
      clear hq h1 h2 hv
      have hz1 : (0 : Int) ≤ (q : Int) := by omega
      have hz2 : (q : Int) ≤ (s.size : Int) := by omega
      go_wp2
      all_goals go_ret
      all_goals exact ⟨ret_str Hv.out.symm, HB.out⟩
    · have Hv := Lib.hid (h2 (by omega))
      clear h1 h2
      go_wp2
      all_goals go_ret
      all_goals exact ⟨ret_str Hv.out.symm, HB.out⟩
end Go.Proofs.YtepmfjhhmnmmeaaDoor
