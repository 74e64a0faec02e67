/-
  annalslaw0.NamesNumbers walked: it answers true. Conditions: strconv's table of powers of ten as laid.
-/
import Derived.Test.YtkbhaolclghagaaDoorPairLits
import Derived.Test.YtkbhaolclghagaaDoorShelf
import Derived.Lib.SmallJoins
import Derived.Lib.AppendIntMem
namespace Go.Proofs.YtkbhaolclghagaaDoor.namesNumbers
open Go.RowKit

abbrev Pow (w : World) : Prop := Lib.TabIs Tryd.prog w "internal/strconv.uint64pow10" .u64 Lib.pow10Tab
theorem pow_below {w w' : World} (h : Pow w) (hb : Below w.heap.size w w') : Pow w' := Joins.tab_stays (show Tryd.prog.globalNamed "internal/strconv.uint64pow10" = some 0 by kernel_rfl) h hb (Nat.le_refl _)

theorem boxd {w a : World} {o : Obj} (h : Below w.heap.size w a) : Below w.heap.size w (a.alloc o) := h.alloc (by have := h.size; omega) _

theorem error_of {n : Int} {l s : ByteArray} (h0 : -9223372036854775808 ≤ n) (h1 : n ≤ 9223372036854775807) (hl : (⟨(Lib.itoa n).toArray⟩ : ByteArray) = l) (hs : (⟨#[101, 114, 114, 111, 114, 32]⟩ : ByteArray) ++ l = s) (hz : ¬ 9223372036854775807 < 6 + l.size) (w : World) (ht : Pow w) :
    Calls Tryd.prog 7 #[.int .i64 n] w fun e w' => e = .returned (.string s) ∧ Below w.heap.size w w' := by
  have c := Tryd.strconv_Itoa n h0 h1 w ht
  rw [hl] at c
  go_enter Tryd.func7, Tryd.ntmps7
  go_wp2_with (go_at_call 8; (with_reducible refine c.mono ?_); rintro e w2 ⟨rfl, k, os, rfl⟩)
  all_goals go_ret
  all_goals exact ⟨rfl, Lib.below_grow _ w (Nat.le_refl _) k os⟩

theorem error_64 (w : World) (ht : Pow w) : Calls Tryd.prog 7 #[.int .i64 64] w fun e w' => e = .returned (.string ⟨#[101, 114, 114, 111, 114, 32, 54, 52]⟩) ∧ Below w.heap.size w w' :=
  error_of (l := ⟨#[54, 52]⟩) (by decide) (by decide) (by decide +kernel) (by decide +kernel) (by decide) w ht
theorem error_m5 (w : World) (ht : Pow w) : Calls Tryd.prog 7 #[.int .i64 (-5)] w fun e w' => e = .returned (.string ⟨#[101, 114, 114, 111, 114, 32, 45, 53]⟩) ∧ Below w.heap.size w w' :=
  error_of (l := ⟨#[45, 53]⟩) (by decide) (by decide) (by decide +kernel) (by decide +kernel) (by decide) w ht

theorem errno_any (n : Int) (w : World) : Calls Tryd.prog 6 #[.int .i64 n] w fun e w' => e = .returned (.int .i64 n) ∧ w' = w := by
  go_enter Tryd.func6, Tryd.ntmps6
  go_wp2
  all_goals go_ret
  all_goals exact ⟨rfl, rfl⟩

/-- The cells of a list of pairs at a block. -/
def PairsIn (zs : List Int) (g : Nat) (w : World) : Prop := ∀ i, i < zs.length → w.cell? ⟨g, i * 2, none⟩ = some (.int .i64 (zs.getD i 0)) ∧ w.cell? ⟨g, i * 2 + 1, none⟩ = some (.int .i64 (zs.getD i 0))
theorem PairsIn.new (zs : List Int) (w : World) (t : TypeId) : PairsIn zs w.heap.size (w.alloc (.cells (pairCells zs) t)) := fun i hi => by
  have h := pairCells_get zs i hi
  have e : zs.getD i 0 = zs[i] := by simp [List.getD, hi]
  rw [e]
  have h1 := cells_new w (zs.flatMap pair2) t (i * 2) _ h.1
  have h2 := cells_new w (zs.flatMap pair2) t (i * 2 + 1) _ h.2
  rw [addr_add] at h1 h2
  exact ⟨h1, h2⟩
theorem PairsIn.below {zs : List Int} {g : Nat} {w w' : World} (h : PairsIn zs g w) (hb : Below w.heap.size w w') : PairsIn zs g w' := fun i hi =>
  ⟨(hb.cell (World.block_lt_of_cell? w _ (h i hi).1)).trans (h i hi).1, (hb.cell (World.block_lt_of_cell? w _ (h i hi).2)).trans (h i hi).2⟩

set_option maxRecDepth 100000 in
set_option maxHeartbeats 4000000 in
theorem walk (w : World) (ht : Pow w) : Calls Tryd.prog 3 #[] w fun e w' => e = .returned (.bool true) ∧ Below w.heap.size w w' := by
  have HT := Lib.hid ht
  clear ht
  have cE := Lib.hid (fun w => errs_any w)
  have cL := Lib.hid (fun w => limits_any w)
  have nE := Lib.hid (PairsIn.new errsZ)
  have nL := Lib.hid (PairsIn.new limitsZ)
  have l1 : errsZ.length = 122 := by decide
  have l2 : limitsZ.length = 80 := by decide
  obtain ⟨cse, hcse⟩ : ∃ x, pairCells errsZ = x := ⟨_, rfl⟩
  obtain ⟨csl, hcsl⟩ : ∃ x, pairCells limitsZ = x := ⟨_, rfl⟩
  obtain ⟨E, hE⟩ : ∃ x, errsZ = x := ⟨_, rfl⟩
  obtain ⟨L, hL⟩ : ∃ x, limitsZ = x := ⟨_, rfl⟩
  rw [hcse] at cE nE
  rw [hcsl] at cL nL
  rw [hE] at nE l1
  rw [hL] at nL l2
  clear hcse hcsl hE hL
  go_enter Tryd.func3, Tryd.ntmps3
  go_wp2_with (go_at_call 4; (with_reducible refine (cE.out _).mono ?_); rintro e w2 ⟨rfl, rfl⟩)
  have hb0 : Below w.heap.size w (w.alloc (.cells cse 25)) := boxd (Below.refl _ _)
  have hp0 := nE.out w 25
  obtain ⟨g, hg⟩ : ∃ x, w.heap.size = x := ⟨_, rfl⟩
  rw [hg] at hp0
  simp only [hg]
  obtain ⟨w1, hw1⟩ : ∃ x, w.alloc (.cells cse 25) = x := ⟨_, rfl⟩
  rw [hw1] at hb0 hp0
  rw [hw1]
  have HB := Lib.hid hb0
  have HP := Lib.hid hp0
  clear hb0 hp0 hw1
  go_loopw [8] (fun c wr => ∃ j : Nat, j ≤ 122 ∧ c = .int .i64 j ∧ Below w1.heap.size w1 wr) (fun c _ => 122 - (intOf c).toNat)
  case atStart => exact ⟨0, by omega, rfl, Below.refl _ _⟩
  case round =>
    obtain ⟨j, hj, rfl, hb⟩ := hrel
    by_cases hlt : j < 122
    · obtain ⟨hc0, hc1⟩ := (PairsIn.below HP.out hb) j (by omega)
      have HB2 := Lib.hid hb
      obtain ⟨z, hz⟩ : ∃ x, E.getD j 0 = x := ⟨_, rfl⟩
      rw [hz] at hc0 hc1
      clear hb hz
      go_wp2
      all_goals go_roundw
      case rel => exact ⟨j + 1, by omega, by go_num, boxd HB2.out⟩
      case measure => simp [intOf]; omega
    · obtain rfl : j = 122 := by omega
      have HB2 := Lib.hid (then_ HB.out hb)
      clear hb HP HB
      go_wp2_with (go_at_call 5; (with_reducible refine (cL.out _).mono ?_); rintro e w3 ⟨rfl, rfl⟩)
      have hb1 : Below wr.heap.size wr (wr.alloc (.cells csl 25)) := boxd (Below.refl _ _)
      have hp1 := nL.out wr 25
      obtain ⟨g1, hg1⟩ : ∃ x, wr.heap.size = x := ⟨_, rfl⟩
      rw [hg1] at hp1
      simp only [hg1]
      obtain ⟨w4, hw4⟩ : ∃ x, wr.alloc (.cells csl 25) = x := ⟨_, rfl⟩
      rw [hw4] at hb1 hp1
      rw [hw4]
      have HB3 := Lib.hid (then_ HB2.out hb1)
      have HP1 := Lib.hid hp1
      clear hb1 hp1 hw4
      go_loopw [20] (fun c wr => ∃ j : Nat, j ≤ 80 ∧ c = .int .i64 j ∧ Below w4.heap.size w4 wr) (fun c _ => 80 - (intOf c).toNat)
      case atStart => exact ⟨0, by omega, rfl, Below.refl _ _⟩
      case round =>
        obtain ⟨j, hj, rfl, hb⟩ := hrel
        by_cases hlt : j < 80
        · obtain ⟨hc0, hc1⟩ := (PairsIn.below HP1.out hb) j (by omega)
          have HB4 := Lib.hid hb
          obtain ⟨z, hz⟩ : ∃ x, L.getD j 0 = x := ⟨_, rfl⟩
          rw [hz] at hc0 hc1
          clear hb hz
          go_wp2
          all_goals go_roundw
          case rel => exact ⟨j + 1, by omega, by go_num, boxd HB4.out⟩
          case measure => simp [intOf]; omega
        · obtain rfl : j = 80 := by omega
          have HB5 := then_ HB3.out hb
          clear hb HP1 HB3 HB2
          go_wp2_with (first
            | (go_at_call 6; (with_reducible refine (errno_any _ _).mono ?_); rintro e w5 ⟨rfl, rfl⟩)
            | (go_at_call 7; (with_reducible refine (error_64 _ (pow_below HT.out HB5)).mono ?_); rintro e w5 ⟨rfl, hb⟩; have HB5' := then_ HB5 hb; clear HB5 hb; have HB5 := HB5'; clear HB5')
            | (go_at_call 7; (with_reducible refine (error_m5 _ (pow_below HT.out HB5)).mono ?_); rintro e w5 ⟨rfl, hb⟩; have HB5' := then_ HB5 hb; clear HB5 hb; have HB5 := HB5'; clear HB5'))
          all_goals go_ret
          all_goals exact ⟨rfl, HB5⟩
end Go.Proofs.YtkbhaolclghagaaDoor.namesNumbers
