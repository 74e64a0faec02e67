/-
  annalsref2.Pieces walked: all of a text's pieces, in a list of the call's own. Conditions: none.
-/
import Derived.Test.YtepmfjhhmnmmeaaDoorPieceWalk
import Derived.OwnWalk
namespace Go.Proofs.YtepmfjhhmnmmeaaDoor
open Go.RowKit

def pieceCells (s : ByteArray) (p : Nat) : List Value := [.int .i64 (pieceR s p), .int .i64 p, .int .i64 (Utf8.decode s p).2]
def piecesTo (s : ByteArray) (k : Nat) : List Value := (List.range k).flatMap fun j => pieceCells s (posAt s j)
theorem piecesTo_succ (s : ByteArray) (k : Nat) : piecesTo s (k + 1) = piecesTo s k ++ pieceCells s (posAt s k) := by
  simp [piecesTo, List.range_succ]
theorem infoPiece : (Tryd.prog.info? 79).map (fun i => (i.zero, i.size, i.bytes)) = some (some (.agg #[.int .i64 0, .int .i64 0, .int .i64 0]), 3, 24) := by kernel_rfl

set_option maxRecDepth 100000 in
set_option maxHeartbeats 1000000 in
theorem pieces_any (s : ByteArray) (hs : s.size ≤ 1099511627776) (w : World) :
    Calls Tryd.prog 41 #[.string s] w fun e w' => ∃ v k, e = .returned v ∧ posAt s k = s.size ∧ (∀ j, j < k → posAt s j < s.size) ∧ w'.ownsRow w.heap.size 79 3 v k (piecesTo s k) ∧ Below w.heap.size w w' := by
  obtain ⟨i0, hi, hz0, hz1, hz2⟩ := info_parts infoPiece
  go_enter Tryd.func41, Tryd.ntmps41
  go_wp2
  go_loopw [3, 4, 5] (fun l i b wr => ∃ k : Nat, k ≤ s.size ∧ i = .int .i64 (posAt s k) ∧ wr.ownsRow w.heap.size 79 3 l k (piecesTo s k) ∧ Below w.heap.size w wr ∧ Hid (∀ j, j < k → posAt s j < s.size)) (fun _ i _ _ => s.size - (intOf i).toNat)
  case atStart => exact ⟨0, by omega, rfl, World.ownsRow_nil _ _ _ _, Below.refl _ _, Lib.hid (fun j h => by omega)⟩
  case round =>
    obtain ⟨k, hk, rfl, ho, hb, HJ⟩ := hrel
    obtain ⟨p, hp⟩ : ∃ p, posAt s k = p := ⟨_, rfl⟩
    rw [hp]
    by_cases hlt : p < s.size
    · have hpc := fun w => piece_any s p hlt (by omega) w
      unfold pieceV at hpc
      have hgt := next_gt hlt
      have hle := width_le' hlt
      have hsucc := piecesTo_succ s k
      have hpos := posAt_succ (s := s) (k := k) (by rw [hp]; exact hlt)
      rw [hp] at hsucc hpos
      unfold pieceCells at hsucc
      unfold nextPos at hgt hle hpos
      have hge : k ≤ p := by
        have := posAt_ge (s := s) (k := k) (by rw [hp]; exact hlt)
        omega
      obtain ⟨R, hR⟩ : ∃ R, pieceR s p = R := ⟨_, rfl⟩
      obtain ⟨N, hN⟩ : ∃ N, (Utf8.decode s p).2 = N := ⟨_, rfl⟩
      rw [hR, hN] at hpc hsucc
      rw [hN] at hgt hle hpos
      have Hpc := Lib.hid hpc
      have Hsucc := Lib.hid hsucc
      have Hpos := Lib.hid hpos
      have HO := Lib.hid ho
      have HBB := Lib.hid hb
      have HP := Lib.hid hp
      clear hR hN ho hb hp hpc hsucc hpos
      have hk1 : k + 1 ≤ 9223372036854775807 := by omega
      have hk2 : (k + 1) * 24 ≤ 140737488355328 := by omega
      go_wp2_with (first
        | (go_at_call 49; (with_reducible refine (Hpc.out _).mono ?_); rintro e w2 ⟨rfl, hb2⟩; have HW := Lib.hid hb2; clear hb2)
        | (at_builtin; refine wpList_append_own _ rfl (.tmp 13) (.tmp 15) 76 rfl w.heap.size 79 i0 _ 3 24 Tryd.underlying76 hi hz0 hz1 hz2 rfl (by decide) _ k _ rfl (((own_through HO.out HW.out).alloc _).alloc _) ⟨w2.heap.size + 1, 0, none⟩ 1 1 [.int .i64 R, .int .i64 p, .int .i64 N] rfl rfl ?c1 ?c2 ?c3 ?c4 ?c5 ?_))
      case c1 => exact cells_new1 _ _ _ _
      case c2 => intro u hu; simp at hu; rcases hu with rfl | rfl | rfl <;> rfl
      case c3 => unfold maxLen; omega
      case c4 => exact hk2
      case c5 => have := HBB.out.size; have := HW.out.size; simp; omega
      intro v' w3 hown' hgrow hnn
      have hsz := HW.out.size
      have hsz0 := HBB.out.size
      have hne : some w2.heap.size ≠ u3.ownBlock := own_ne HO.out hsz
      have hc : w3.cell? ⟨w2.heap.size, 2, none⟩ = some (.int .i64 N) := cell_grown hgrow (by simp) hne
      have HB3 : Hid (Below w.heap.size w w3) := Lib.hid ((((then_ HBB.out HW.out).alloc (by omega) _).alloc (by simp; omega) _).grown hgrow (by simp; omega) (fun b hb => (HO.out.lt b hb).1))
      rw [← Hsucc.out] at hown'
      have HO3 := Lib.hid hown'
      have HJ' : Hid (∀ j, j < k + 1 → posAt s j < s.size) := Lib.hid (fun j hj => by
        by_cases e : j = k
        · rw [e, HP.out]; exact hlt
        · exact HJ.out j (by omega))
      clear hown' hgrow hnn hne HW HO HBB HJ Hpc Hsucc
      go_wp2
      all_goals go_roundw
      case rel => exact ⟨k + 1, by omega, by rw [Hpos.out]; go_num, HO3.out, HB3.out, HJ'⟩
      case measure => simp [intOf]; omega
    · have hend : posAt s k = s.size := by have := posAt_le s k; omega
      have Hend := Lib.hid hend
      have HO := Lib.hid ho
      have HBB := Lib.hid hb
      clear hend ho hb hp
      go_wp2
      all_goals go_ret
      all_goals exact ⟨_, k, rfl, Hend.out, HJ.out, HO.out, HBB.out⟩
end Go.Proofs.YtepmfjhhmnmmeaaDoor
