/-
  saga.small walked: whether no list of a row of lists is above the bound. Conditions: none.
-/
import Derived.Test.YteaiadpigpehaaaDoorCells
namespace Go.Proofs.YteaiadpigpehaaaDoor
open Go.RowKit

def bigOne (v : Sl) : Bool := decide (16384 < v.n)
def smallB (vs : List Sl) : Bool := !vs.any bigOne
def nilSl : Sl := ⟨none, 0, 0⟩

theorem row_get {w : World} {l : Sl} {vs : List Sl} (h : RowAt w l (vs.map Sl.v)) {j : Nat} (hj : j < vs.length) : ∃ b o, l.a = some ⟨b, o, none⟩ ∧ w.cell? ⟨b, o + j, none⟩ = some (vs.getD j nilSl).v := by
  have hl := h.1
  rw [List.length_map] at hl
  obtain ⟨b, o, e, hc⟩ := h.2.2 (by omega)
  refine ⟨b, o, e, ?_⟩
  rw [hc j (by omega)]
  simp [List.getD, hj]

set_option maxRecDepth 100000 in
set_option maxHeartbeats 1000000 in
theorem small_any (l : Sl) (vs : List Sl) (w : World) (h : RowAt w l (vs.map Sl.v)) : Calls Tryd.prog 85 #[l.v] w fun e w' => e = .returned (.bool (smallB vs)) ∧ w' = w := by
  have hl := h.1
  rw [List.length_map] at hl
  have hmax := h.2.1.1
  have H := Lib.hid (fun j hj => row_get h (j := j) hj)
  clear h
  obtain ⟨a, n, c⟩ := l
  simp only at hl hmax
  subst hl
  dsimp only [Sl.v]
  unfold smallB
  go_enter Tryd.func85, Tryd.ntmps85
  go_wp2
  go_loop [7] (fun i => ∃ j : Nat, j ≤ vs.length ∧ i = .int .i64 j ∧ Hid ((vs.take j).any bigOne = false)) (fun i => vs.length - (intOf i).toNat)
  case atStart => exact ⟨0, by omega, rfl, Lib.hid (by simp)⟩
  case round =>
    obtain ⟨j, hj, rfl, HN⟩ := hrel
    by_cases hlt : j < vs.length
    · obtain ⟨b, o, hA, hc⟩ := H.out j hlt
      subst hA
      have ha := Lib.hid (any_take vs bigOne nilSl j hlt)
      have hb := Lib.hid (any_at vs bigOne nilSl j hlt)
      obtain ⟨⟨va, vn, vc⟩, hv⟩ : ∃ x, vs.getD j nilSl = x := ⟨_, rfl⟩
      rw [hv] at hc ha hb
      clear hv
      dsimp only [Sl.v] at hc
      by_cases hbig : 16384 < vn
      · have hr := Lib.hid (hb.out (by simp [bigOne, hbig]))
        clear ha hb
        go_wp2
        all_goals go_ret
        all_goals exact ⟨ret_bool (by rw [hr.out]; rfl), rfl⟩
      · have hr : Hid ((vs.take (j + 1)).any bigOne = false) := Lib.hid (by rw [ha.out, HN.out]; simp [bigOne, hbig])
        clear ha hb HN
        go_wp2
        all_goals go_round
        case rel => exact ⟨j + 1, by omega, by go_num, hr⟩
        case measure => simp [intOf]; omega
    · obtain rfl : j = vs.length := by omega
      have hr : Hid (vs.any bigOne = false) := Lib.hid (by have := HN.out; rwa [List.take_length] at this)
      go_wp2
      all_goals go_ret
      all_goals exact ⟨ret_bool (by rw [hr.out]; rfl), rfl⟩
end Go.Proofs.YteaiadpigpehaaaDoor
