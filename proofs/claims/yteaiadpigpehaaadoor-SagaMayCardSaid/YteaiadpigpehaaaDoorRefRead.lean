/-
  annalsref2.Pieces: the list as it is read. Conditions: none.
-/
import Derived.Test.YteaiadpigpehaaaDoorPieces
import Derived.Test.YteaiadpigpehaaaDoorLetters
import Derived.Test.YteaiadpigpehaaaDoorIter
namespace Go.Proofs.YteaiadpigpehaaaDoor
open Go.RowKit

theorem piecesTo_get (s : ByteArray) : ∀ (k j : Nat), j < k → (piecesTo s k)[j * 3]? = some (.int .i64 (pieceR s (posAt s j))) ∧ (piecesTo s k)[j * 3 + 1]? = some (.int .i64 (posAt s j)) ∧ (piecesTo s k)[j * 3 + 2]? = some (.int .i64 (Utf8.decode s (posAt s j)).2)
  | 0, _, h => by omega
  | k + 1, j, h => by
    have hl : ∀ m, (piecesTo s m).length = m * 3 := fun m => by
      induction m with
      | zero => rfl
      | succ m ih => rw [piecesTo_succ, List.length_append, ih]; simp [pieceCells]; omega
    rw [piecesTo_succ]
    by_cases e : j = k
    · subst e
      rw [List.getElem?_append_right (by rw [hl]; omega), List.getElem?_append_right (by rw [hl]; omega), List.getElem?_append_right (by rw [hl]; omega), hl]
      simp [pieceCells]
    · rw [List.getElem?_append_left (by rw [hl]; omega), List.getElem?_append_left (by rw [hl]; omega), List.getElem?_append_left (by rw [hl]; omega)]
      exact piecesTo_get s k j (by omega)

/-- What a list of pieces holds, cell by cell. -/
def PiecesAt (s : ByteArray) (w : World) (A : Option Addr) (k : Nat) : Prop :=
  0 < k → ∃ g, A = some ⟨g, 0, none⟩ ∧ ∀ j, j < k → w.cell? ⟨g, j * 3, none⟩ = some (.int .i64 (pieceR s (posAt s j))) ∧ w.cell? ⟨g, j * 3 + 1, none⟩ = some (.int .i64 (posAt s j)) ∧ w.cell? ⟨g, j * 3 + 2, none⟩ = some (.int .i64 (Utf8.decode s (posAt s j)).2)
theorem PiecesAt.below {s : ByteArray} {w w' : World} {A : Option Addr} {k : Nat} (h : PiecesAt s w A k) (hb : Below w.heap.size w w') : PiecesAt s w' A k := fun hk => by
  obtain ⟨g, e, hc⟩ := h hk
  exact ⟨g, e, fun j hj => ⟨(hb.cell (World.block_lt_of_cell? w _ (hc j hj).1)).trans (hc j hj).1, (hb.cell (World.block_lt_of_cell? w _ (hc j hj).2.1)).trans (hc j hj).2.1, (hb.cell (World.block_lt_of_cell? w _ (hc j hj).2.2)).trans (hc j hj).2.2⟩⟩
theorem pieces_shape {s : ByteArray} {w : World} {base : Nat} {v : Value} {k : Nat} (h : w.ownsRow base 148 3 v k (piecesTo s k)) : ∃ A c, v = .slice A k c ∧ PiecesAt s w A k := by
  have hc := h
  rcases h.2 with ⟨rfl, rfl⟩ | ⟨g, cap, cur, rfl, h3, h4, h5, h6, h7, h8⟩
  · exact ⟨none, 0, rfl, fun h => by omega⟩
  · refine ⟨_, cap, rfl, fun _ => ⟨g, rfl, fun j hj => ?_⟩⟩
    obtain ⟨e0, e1, e2⟩ := piecesTo_get s k j hj
    exact ⟨(hc.cellAt (j * 3) (by omega)).trans e0, (hc.cellAt (j * 3 + 1) (by omega)).trans e1, (hc.cellAt (j * 3 + 2) (by omega)).trans e2⟩

theorem pieces_read (s : ByteArray) (hs : s.size ≤ 1099511627776) (w : World) :
    Calls Tryd.prog 115 #[.string s] w fun e w' => ∃ A c k, e = .returned (.slice A k c) ∧ posAt s k = s.size ∧ (∀ j, j < k → posAt s j < s.size) ∧ PiecesAt s w' A k ∧ Below w.heap.size w w' :=
  (pieces_any s hs w).mono fun e w' ⟨v, k, he, h1, h2, h3, h4⟩ => by
    obtain ⟨A, c, rfl, hp⟩ := pieces_shape h3
    exact ⟨A, c, k, he, h1, h2, hp, h4⟩

theorem count_le {s : ByteArray} {k : Nat} (h : ∀ j, j < k → posAt s j < s.size) : k ≤ s.size := by
  cases k with
  | zero => omega
  | succ k =>
    have h1 := h k (by omega)
    have := posAt_ge h1
    omega

end Go.Proofs.YteaiadpigpehaaaDoor
