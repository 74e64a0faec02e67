/-
  text.braced walked: the escape of a rune by its number. Conditions: none.
-/
import Derived.Test.YtepmfjhhmnmmeaaDoorHexFn
namespace Go.Proofs.YtepmfjhhmnmmeaaDoor
open Go.RowKit

def escV (x : List UInt8 × Nat) : Value := .tuple #[.string ⟨x.1.toArray⟩, .int .i64 x.2]
theorem index_find (c : UInt8) : ∀ l : List UInt8, Lib.indexByte l c = (match l.findIdx? (· == c) with | some e => (e : Int) | none => -1)
  | [] => rfl
  | b :: l => by
    have ih := index_find c l
    unfold Lib.indexByte
    rw [List.findIdx?_cons]
    cases hb : (b == c) with
    | true => simp
    | false =>
      simp only [Bool.false_eq_true, if_false]
      rw [ih]
      cases hf : l.findIdx? (· == c) with
      | none => simp
      | some e =>
        simp only [Option.map_some]
        rw [if_neg (by simp <;> omega)]
        simp
theorem find_lt {l : List UInt8} {c : UInt8} {e : Nat} (h : l.findIdx? (· == c) = some e) : e < l.length := by
  have := List.findIdx?_eq_some_iff_getElem.1 h
  exact this.1
theorem part_extract (t : ByteArray) (a e : Nat) : (t.extract a e).data.toList = partL t a (e - a) := by
  unfold partL
  rw [ByteArray.data_extract, Array.toList_extract]
set_option maxHeartbeats 2000000 in
set_option maxRecDepth 100000 in
theorem braced_any (t : ByteArray) (ht : t.size ≤ 4611686018427387904) (w : World) :
    Calls Tryd.prog 64 #[.string t] w fun e w' => e = .returned (escV (bracedL t 0)) ∧ Below w.heap.size w w' := by
  by_cases h1 : 1 < t.size
  · have hg := get_at' (s := t) (p := 1) h1
    obtain ⟨c, hc⟩ : ∃ c, t.get! 1 = c := ⟨_, rfl⟩
    rw [hc] at hg
    have s1 : (1 : Int) < (t.size : Int) := by omega
    have s2 : ¬ (t.size : Int) < 2 := by omega
    by_cases h2 : c = 123
    · subst h2
      have hI := index_find 125 t.data.toList
      have hib := fun w => Tryd.strings_IndexByte t 125 w
      rw [show ((125 : Int).toNat.toUInt8) = 125 from rfl, hI] at hib
      cases hf : t.data.toList.findIdx? (· == 125) with
      | none =>
        have HR : Hid (escV (bracedL t 0) = .tuple #[.string ⟨#[]⟩, .int .i64 0]) := Lib.hid (by
          unfold bracedL
          rw [if_pos ⟨h1, hc⟩, List.drop_zero, hf]
          rfl)
        rw [hf] at hib
        have hib := Lib.hid hib
        clear hI hc hf
        go_enter Tryd.func64, Tryd.ntmps64
        go_wp2_with (go_at_call 58; (with_reducible refine (hib.out _).mono ?_); rintro e w2 ⟨rfl, rfl⟩)
        all_goals go_ret2
        all_goals exact ⟨by rw [HR.out]; rfl, Below.refl _ _⟩
      | some e =>
        have hel : e < t.size := find_lt hf
        rw [hf] at hib
        have hib := Lib.hid hib
        by_cases h38 : 3 ≤ e ∧ e ≤ 8
        · obtain ⟨h3, h8⟩ := h38
          have hx := hex_any (t.extract 2 e) (by rw [ByteArray.size_extract]; omega)
          have z1 : (2 : Int) ≤ (e : Int) := by omega
          have z2 : (e : Int) ≤ (t.size : Int) := by omega
          have z3 : ¬ (e : Int) < 3 := by omega
          have z4 : ¬ (8 : Int) < (e : Int) := by omega
          unfold hexRes at hx
          rw [part_extract] at hx
          cases hn : hexN (partL t 2 (e - 2)) with
          | none =>
            have HR : Hid (escV (bracedL t 0) = .tuple #[.string ⟨#[]⟩, .int .i64 0]) := Lib.hid (by
              unfold bracedL
              rw [if_pos ⟨h1, hc⟩, List.drop_zero, hf]
              simp only
              rw [if_pos ⟨h3, h8⟩, Nat.zero_add, hn]
              rfl)
            rw [hn] at hx
            have hx := Lib.hid hx
            clear hI hc hf hn
            go_enter Tryd.func64, Tryd.ntmps64
            go_wp2_with (first
              | (go_at_call 58; (with_reducible refine (hib.out _).mono ?_); rintro e w2 ⟨rfl, rfl⟩)
              | (go_at_call 63; (with_reducible refine (hx.out _).mono ?_); rintro e w3 ⟨rfl, hb3⟩))
            all_goals go_ret2
            all_goals exact ⟨by rw [HR.out]; rfl, hb3⟩
          | some v =>
            rw [hn] at hx
            have hx := Lib.hid hx
            have hvr := fun w => Tryd.utf8_ValidRune (v : Int) w
            have evr : Lib.validRune (v : Int) = validR v := by
              unfold Lib.validRune validR
              rw [Bool.eq_iff_iff]
              simp
              omega
            rw [evr] at hvr
            cases hv : validR v with
            | false =>
              have HR : Hid (escV (bracedL t 0) = .tuple #[.string ⟨#[]⟩, .int .i64 0]) := Lib.hid (by
                unfold bracedL
                rw [if_pos ⟨h1, hc⟩, List.drop_zero, hf]
                simp only
                rw [if_pos ⟨h3, h8⟩, Nat.zero_add, hn]
                simp only
                rw [if_neg (by simp [hv])]
                rfl)
              rw [hv] at hvr
              have hvr := Lib.hid hvr
              clear hI hc hf hn evr hv
              go_enter Tryd.func64, Tryd.ntmps64
              go_wp2_with (first
                | (go_at_call 58; (with_reducible refine (hib.out _).mono ?_); rintro e w2 ⟨rfl, rfl⟩)
                | (go_at_call 63; (with_reducible refine (hx.out _).mono ?_); rintro e w3 ⟨rfl, hb3⟩)
                | (go_at_call 79; (with_reducible refine (hvr.out _).mono ?_); rintro e w4 ⟨rfl, rfl⟩))
              all_goals go_ret2
              all_goals exact ⟨by rw [HR.out]; rfl, hb3⟩
            | true =>
              have HR : Hid (escV (bracedL t 0) = .tuple #[.string ⟨(encL v).toArray⟩, .int .i64 ((e + 1 : Nat) : Int)]) := Lib.hid (by
                unfold bracedL
                rw [if_pos ⟨h1, hc⟩, List.drop_zero, hf]
                simp only
                rw [if_pos ⟨h3, h8⟩, Nat.zero_add, hn]
                simp only
                rw [if_pos hv]
                rfl)
              have HV := Lib.hid hv
              rw [hv] at hvr
              have hvr := Lib.hid hvr
              clear hI hc hf hn evr hv
              go_enter Tryd.func64, Tryd.ntmps64
              go_wp2_with (first
                | (go_at_call 58; (with_reducible refine (hib.out _).mono ?_); rintro e w2 ⟨rfl, rfl⟩)
                | (go_at_call 63; (with_reducible refine (hx.out _).mono ?_); rintro e w3 ⟨rfl, hb3⟩)
                | (go_at_call 79; (with_reducible refine (hvr.out _).mono ?_); rintro e w4 ⟨rfl, rfl⟩))
              all_goals go_ret2
              all_goals exact ⟨by rw [HR.out, ← enc_encL HV.out]; rfl, hb3⟩
        · have HR : Hid (escV (bracedL t 0) = .tuple #[.string ⟨#[]⟩, .int .i64 0]) := Lib.hid (by
            unfold bracedL
            rw [if_pos ⟨h1, hc⟩, List.drop_zero, hf]
            simp only
            rw [if_neg h38]
            rfl)
          clear hI hc hf
          by_cases h3 : e < 3
          · have hib := hib.out
            obtain ⟨R, hR⟩ : ∃ R : Int, (e : Int) = R := ⟨_, rfl⟩
            have z1 : R < 3 := by omega
            simp only [hR] at hib
            have hib := Lib.hid hib
            clear h38 hR
            go_enter Tryd.func64, Tryd.ntmps64
            go_wp2_with (go_at_call 58; (with_reducible refine (hib.out _).mono ?_); rintro e w2 ⟨rfl, rfl⟩)
            all_goals go_ret2
            all_goals exact ⟨by rw [HR.out]; rfl, Below.refl _ _⟩
          · have z1 : ¬ (e : Int) < 3 := by omega
            have z2 : (8 : Int) < (e : Int) := by omega
            clear h38
            go_enter Tryd.func64, Tryd.ntmps64
            go_wp2_with (go_at_call 58; (with_reducible refine (hib.out _).mono ?_); rintro e w2 ⟨rfl, rfl⟩)
            all_goals go_ret2
            all_goals exact ⟨by rw [HR.out]; rfl, Below.refl _ _⟩
    · have HR : Hid (escV (bracedL t 0) = .tuple #[.string ⟨#[]⟩, .int .i64 0]) := Lib.hid (by
        unfold bracedL
        rw [if_neg (by rintro ⟨_, k⟩; exact h2 (hc.symm.trans k))]
        rfl)
      have h3 : ((c.toNat : Int) != 123) = true := by
        rw [bne_iff_ne]
        intro k
        apply h2
        have : c.toNat = 123 := by omega
        rw [← UInt8.ofNat_toNat (x := c), this]
        rfl
      clear hc h2
      go_enter Tryd.func64, Tryd.ntmps64
      go_wp2
      all_goals go_ret2
      all_goals exact ⟨by rw [HR.out]; rfl, Below.refl _ _⟩
  · have HR : Hid (escV (bracedL t 0) = .tuple #[.string ⟨#[]⟩, .int .i64 0]) := Lib.hid (by
      unfold bracedL
      rw [if_neg (fun k => h1 k.1)]
      rfl)
    have s2 : (t.size : Int) < 2 := by omega
    go_enter Tryd.func64, Tryd.ntmps64
    go_wp2
    all_goals go_ret2
    all_goals exact ⟨by rw [HR.out]; rfl, Below.refl _ _⟩
end Go.Proofs.YtepmfjhhmnmmeaaDoor
