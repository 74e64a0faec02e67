/-
  annalsref2.braced walked: the escape of a rune by its number. Conditions: none.
-/
import Derived.Test.YtepmfjhhmnmmeaaDoorRefBracedLaw
namespace Go.Proofs.YtepmfjhhmnmmeaaDoor
open Go.RowKit

/-- What an escape's reading answers. -/
def EscAns (u : List UInt8 × Nat) (e : Ending) (w' : World) : Prop :=
  (u.2 = 0 ∧ e = .returned (.tuple #[.slice none 0 0, .int .i64 0])) ∨ (u.2 ≠ 0 ∧ ∃ v, e = .returned (.tuple #[v, .int .i64 ((u.2 + 1 : Nat) : Int)]) ∧ BytesIn w' v u.1)
set_option maxHeartbeats 8000000 in
set_option maxRecDepth 100000 in
theorem refBraced_any (s : ByteArray) (i : Nat) (hi : i + 1 < s.size) (hu1 : s.get! (i + 1) = 117) (hs : s.size ≤ 4611686018427387904) (w : World) :
    Calls Tryd.prog 68 #[.string s, .int .i64 i] w fun e w' => EscAns (bracedL s (i + 1)) e w' ∧ Below w.heap.size w w' := by
  have hu := Lib.hid hu1
  clear hu1
  have i0 : (0 : Int) ≤ (i : Int) := by omega
  by_cases h2 : i + 2 < s.size
  · have hg := get_at' (s := s) (p := i + 2) h2
    obtain ⟨b, hb⟩ : ∃ b, s.get! (i + 2) = b := ⟨_, rfl⟩
    rw [hb] at hg
    have z1 : ¬ (s.size : Int) ≤ (i : Int) + 2 := by omega
    have z2 : (i : Int) + 2 < (s.size : Int) := by omega
    have z3 : ((i : Int) + 2).toNat = i + 2 := by omega
    by_cases h3 : b = 123
    · have h123 : s.get! (i + 1 + 1) = 123 := by rw [show i + 1 + 1 = i + 2 by omega, hb, h3]
      subst h3
      clear hb
      go_enter Tryd.func68, Tryd.ntmps68
      go_wp2
      clear hg z1 z2 z3
      go_loop [6, 7] (fun x y => ∃ d v K : Nat, K = i + 3 + d ∧ x = .int .i64 K ∧ y = .int .i64 v ∧ d ≤ 6 ∧ K ≤ s.size ∧ v < 16 ^ d ∧ Hid (RunAt s (i + 1) d v)) (fun x _ => s.size - (intOf x).toNat)
      case atStart => exact ⟨0, 0, i + 3, rfl, by first | rfl | go_num, rfl, by omega, by omega, by decide, Lib.hid ⟨by omega, by omega, by rw [part_zero]; rfl⟩⟩
      case round =>
        obtain ⟨d, v, K, hK, rfl, rfl, hd6, hKs, hv, HR⟩ := hrel
        have K0 : (0 : Int) ≤ (K : Int) := by omega
        by_cases hlt : K < s.size
        · have hg := get_at' (s := s) (p := K) hlt
          obtain ⟨c, hc⟩ : ∃ c, s.get! K = c := ⟨_, rfl⟩
          rw [hc] at hg
          have hKc : Hid (s.get! (i + 1 + 2 + d) = c) := Lib.hid (by rw [← hc]; congr 1; omega)
          have y1 : (K : Int) < (s.size : Int) := by omega
          have y2 : ¬ (s.size : Int) ≤ (K : Int) := by omega
          by_cases hd : d = 6
          · have y3 : ¬ (K : Int) < (i : Int) + 9 := by omega
            have HS : Hid (i + 1 + 2 + d = s.size ∨ d = 6 ∨ hexV (s.get! (i + 1 + 2 + d)) = none) := Lib.hid (Or.inr (Or.inl hd))
            obtain ⟨C, hC⟩ : ∃ C : Int, (c.toNat : Int) = C := ⟨_, rfl⟩
            clear hc hv hd
            by_cases d0 : d = 0
            · have k0 : ((K : Int) == (i : Int) + 3) = true := by rw [beq_iff_eq]; omega
              have HN := Lib.hid (run_bad HR.out HS.out (Or.inl d0))
              clear HR HS
              clear hK
              go_wp2
              all_goals go_ret2
              all_goals exact ⟨Or.inl ⟨HN.out, rfl⟩, Below.refl _ _⟩

            have k0 : ((K : Int) == (i : Int) + 3) = false := by rw [beq_eq_false_iff_ne]; omega
            by_cases d1 : c = 125
            · have e1 : (C != 125) = false := by rw [← hC, d1]; rfl
              by_cases d2 : validR v = true
              · have HG := Lib.hid (run_good HR.out hu.out h123 (by omega) (by omega) (hKc.out.trans d1) d2)
                have v1 : ¬ (1114111 : Int) < (v : Int) := by unfold validR at d2; simp at d2; omega
                have v2 : inB (v : Int) 55296 57343 = false := by
                  unfold validR at d2
                  unfold inB
                  simp at d2 ⊢
                  omega
                have hen := fun w => encoded_any v (by omega) w
                have hwi := fun w => within_no v2 w
                obtain ⟨R, hR⟩ : ∃ R : Int, (v : Int) = R := ⟨_, rfl⟩
                rw [hR] at v1 hen hwi
                have hen := Lib.hid hen
                have hwi := Lib.hid hwi
                have hn4 : Hid (IntKind.i64.wrap ((K : Int) + 1 - (i : Int)) = ((d + 3 + 1 : Nat) : Int)) := Lib.hid (by simp [IntKind.wrap, IntKind.bits, IntKind.signed]; omega)
                have hn5 : (K : Int) + 1 - (i : Int) = ((d + 3 + 1 : Nat) : Int) := by omega
                have HN5 := Lib.hid hn5
                clear HR HS d0 d1 d2 v2 hn5 hK
                go_wp2_with (first
                  | (go_at_call 38; (with_reducible refine (hwi.out _).mono ?_); rintro e w3 ⟨rfl, rfl⟩)
                  | (go_at_call 81; (with_reducible refine (hen.out _).mono ?_); rintro e w4 ⟨vv, rfl, hv4, hb4⟩; have HV4 := Lib.hid hv4; have HB4 := Lib.hid hb4; obtain ⟨vg, vc, rfl, -⟩ := hv4; clear hb4))

                all_goals go_ret2
                all_goals refine ⟨Or.inr ?_, HB4.out⟩
                all_goals rw [HG.out]
                all_goals exact ⟨by simp, _, congrArg (fun z => Ending.returned (.tuple #[.slice (some ⟨vg, 0, none⟩) (encL v).length vc, .int .i64 z])) HN5.out, HV4.out⟩
              · have HN := Lib.hid (run_bad HR.out HS.out (Or.inr (Or.inr (Or.inr (by simpa using d2)))))
                by_cases d3 : 1114111 < v
                · have v1 : (1114111 : Int) < (v : Int) := by omega
                  obtain ⟨R, hR⟩ : ∃ R : Int, (v : Int) = R := ⟨_, rfl⟩
                  rw [hR] at v1
                  clear HR HS d0 d1 d2 d3
                  clear hK
                  go_wp2
                  all_goals go_ret2
                  all_goals exact ⟨Or.inl ⟨HN.out, rfl⟩, Below.refl _ _⟩

                · have v1 : ¬ (1114111 : Int) < (v : Int) := by omega
                  have v2 : inB (v : Int) 55296 57343 = true := by
                    unfold validR at d2
                    unfold inB
                    simp at d2 ⊢
                    omega
                  have hwi := fun w => within_yes v2 w
                  obtain ⟨R, hR⟩ : ∃ R : Int, (v : Int) = R := ⟨_, rfl⟩
                  rw [hR] at v1 hwi
                  have hwi := Lib.hid hwi
                  clear HR HS d0 d1 d2 d3 v2
                  clear hK
                  go_wp2_with (first
                    | (go_at_call 38; (with_reducible refine (hwi.out _).mono ?_); rintro e w3 ⟨rfl, rfl⟩))
                  all_goals go_ret2
                  all_goals exact ⟨Or.inl ⟨HN.out, rfl⟩, Below.refl _ _⟩

            · have e1 : (C != 125) = true := by
                rw [bne_iff_ne, ← hC]
                exact ne_int (k := 125) d1
              have HN := Lib.hid (run_bad HR.out HS.out (Or.inr (Or.inr (Or.inl (by rw [hKc.out]; exact d1)))))
              obtain ⟨R, hR⟩ : ∃ R : Int, (v : Int) = R := ⟨_, rfl⟩
              clear HR HS d0 d1
              clear hK
              go_wp2
              all_goals go_ret2
              all_goals exact ⟨Or.inl ⟨HN.out, rfl⟩, Below.refl _ _⟩
          · have y3 : (K : Int) < (i : Int) + 9 := by omega
            cases hx : hexV c with
            | none =>
              have HS : Hid (i + 1 + 2 + d = s.size ∨ d = 6 ∨ hexV (s.get! (i + 1 + 2 + d)) = none) := Lib.hid (Or.inr (Or.inr (by rw [hKc.out]; exact hx)))
              have hdg := fun w => digit_any c.toNat c.toNat_lt w
              obtain ⟨C, hC⟩ : ∃ C : Int, (c.toNat : Int) = C := ⟨_, rfl⟩
              rw [digN_none hx, hC] at hdg
              have hdg := Lib.hid hdg
              clear hc hv hx
              by_cases d0 : d = 0
              · have k0 : ((K : Int) == (i : Int) + 3) = true := by rw [beq_iff_eq]; omega
                have HN := Lib.hid (run_bad HR.out HS.out (Or.inl d0))
                clear HR HS
                clear hK
                go_wp2_with (first
                  | (go_at_call 67; (with_reducible refine (hdg.out _).mono ?_); rintro e w2 ⟨rfl, rfl⟩))
                all_goals go_ret2
                all_goals exact ⟨Or.inl ⟨HN.out, rfl⟩, Below.refl _ _⟩

              have k0 : ((K : Int) == (i : Int) + 3) = false := by rw [beq_eq_false_iff_ne]; omega
              by_cases d1 : c = 125
              · have e1 : (C != 125) = false := by rw [← hC, d1]; rfl
                by_cases d2 : validR v = true
                · have HG := Lib.hid (run_good HR.out hu.out h123 (by omega) (by omega) (hKc.out.trans d1) d2)
                  have v1 : ¬ (1114111 : Int) < (v : Int) := by unfold validR at d2; simp at d2; omega
                  have v2 : inB (v : Int) 55296 57343 = false := by
                    unfold validR at d2
                    unfold inB
                    simp at d2 ⊢
                    omega
                  have hen := fun w => encoded_any v (by omega) w
                  have hwi := fun w => within_no v2 w
                  obtain ⟨R, hR⟩ : ∃ R : Int, (v : Int) = R := ⟨_, rfl⟩
                  rw [hR] at v1 hen hwi
                  have hen := Lib.hid hen
                  have hwi := Lib.hid hwi
                  have hn4 : Hid (IntKind.i64.wrap ((K : Int) + 1 - (i : Int)) = ((d + 3 + 1 : Nat) : Int)) := Lib.hid (by simp [IntKind.wrap, IntKind.bits, IntKind.signed]; omega)
                  have hn5 : (K : Int) + 1 - (i : Int) = ((d + 3 + 1 : Nat) : Int) := by omega
                  have HN5 := Lib.hid hn5
                  clear HR HS d0 d1 d2 v2 hn5 hK
                  go_wp2_with (first
                    | (go_at_call 67; (with_reducible refine (hdg.out _).mono ?_); rintro e w2 ⟨rfl, rfl⟩)
                    | (go_at_call 38; (with_reducible refine (hwi.out _).mono ?_); rintro e w3 ⟨rfl, rfl⟩)
                    | (go_at_call 81; (with_reducible refine (hen.out _).mono ?_); rintro e w4 ⟨vv, rfl, hv4, hb4⟩; have HV4 := Lib.hid hv4; have HB4 := Lib.hid hb4; obtain ⟨vg, vc, rfl, -⟩ := hv4; clear hb4))

                  all_goals go_ret2
                  all_goals refine ⟨Or.inr ?_, HB4.out⟩
                  all_goals rw [HG.out]
                  all_goals exact ⟨by simp, _, congrArg (fun z => Ending.returned (.tuple #[.slice (some ⟨vg, 0, none⟩) (encL v).length vc, .int .i64 z])) HN5.out, HV4.out⟩
                · have HN := Lib.hid (run_bad HR.out HS.out (Or.inr (Or.inr (Or.inr (by simpa using d2)))))
                  by_cases d3 : 1114111 < v
                  · have v1 : (1114111 : Int) < (v : Int) := by omega
                    obtain ⟨R, hR⟩ : ∃ R : Int, (v : Int) = R := ⟨_, rfl⟩
                    rw [hR] at v1
                    clear HR HS d0 d1 d2 d3
                    clear hK
                    go_wp2_with (first
                      | (go_at_call 67; (with_reducible refine (hdg.out _).mono ?_); rintro e w2 ⟨rfl, rfl⟩))
                    all_goals go_ret2
                    all_goals exact ⟨Or.inl ⟨HN.out, rfl⟩, Below.refl _ _⟩

                  · have v1 : ¬ (1114111 : Int) < (v : Int) := by omega
                    have v2 : inB (v : Int) 55296 57343 = true := by
                      unfold validR at d2
                      unfold inB
                      simp at d2 ⊢
                      omega
                    have hwi := fun w => within_yes v2 w
                    obtain ⟨R, hR⟩ : ∃ R : Int, (v : Int) = R := ⟨_, rfl⟩
                    rw [hR] at v1 hwi
                    have hwi := Lib.hid hwi
                    clear HR HS d0 d1 d2 d3 v2
                    clear hK
                    go_wp2_with (first
                      | (go_at_call 67; (with_reducible refine (hdg.out _).mono ?_); rintro e w2 ⟨rfl, rfl⟩)
                      | (go_at_call 38; (with_reducible refine (hwi.out _).mono ?_); rintro e w3 ⟨rfl, rfl⟩))
                    all_goals go_ret2
                    all_goals exact ⟨Or.inl ⟨HN.out, rfl⟩, Below.refl _ _⟩

              · have e1 : (C != 125) = true := by
                  rw [bne_iff_ne, ← hC]
                  exact ne_int (k := 125) d1
                have HN := Lib.hid (run_bad HR.out HS.out (Or.inr (Or.inr (Or.inl (by rw [hKc.out]; exact d1)))))
                obtain ⟨R, hR⟩ : ∃ R : Int, (v : Int) = R := ⟨_, rfl⟩
                clear HR HS d0 d1
                clear hK
                go_wp2_with (first
                  | (go_at_call 67; (with_reducible refine (hdg.out _).mono ?_); rintro e w2 ⟨rfl, rfl⟩))
                all_goals go_ret2
                all_goals exact ⟨Or.inl ⟨HN.out, rfl⟩, Below.refl _ _⟩
            | some k =>
              obtain ⟨hk1, hk2⟩ := digN_some hx
              have hdg := fun w => digit_any c.toNat c.toNat_lt w
              rw [hk1] at hdg
              have hdg := Lib.hid hdg
              have HR2 := Lib.hid (RunAt.next HR.out (by omega) (by omega) (by rw [hKc.out]; exact hx))
              have hv5 : v < 1048576 := Nat.lt_of_lt_of_le hv (by
                have := Nat.pow_le_pow_right (n := 16) (by omega) (show d ≤ 5 by omega)
                simpa using this)
              have hv2 : v * 16 + k < 16 ^ (d + 1) := by
                rw [Nat.pow_succ]
                omega
              have k0 : (0 : Int) ≤ (k : Int) := by omega
              have v0 : (0 : Int) ≤ (v : Int) := by omega
              have v9 : (v : Int) < 1048576 := by omega
              have k9 : (k : Int) < 16 := by omega
              have hV : (v : Int) * 16 + (k : Int) = ((v * 16 + k : Nat) : Int) := by omega
              have HV := Lib.hid hV
              have HK := Lib.hid hK
              have HV2 := Lib.hid hv2
              clear hc hv hx HR hK hv2 hV hk1
              go_wp2_with (go_at_call 67; (with_reducible refine (hdg.out _).mono ?_); rintro e w2 ⟨rfl, rfl⟩)
              all_goals go_round
              case rel => exact ⟨d + 1, v * 16 + k, K + 1, by rw [HK.out]; omega, by first | rfl | go_num, by first | rfl | (simp only [HV.out]), by have := HK.out; omega, by omega, HV2.out, HR2⟩
              case measure => simp [intOf]; omega
        · obtain rfl : K = s.size := by omega
          have HN := Lib.hid (run_bad HR.out (Or.inl (by omega)) (Or.inr (Or.inl (by omega))))
          by_cases hd : d = 0
          · have k0 : ((s.size : Int) == (i : Int) + 3) = true := by rw [beq_iff_eq]; omega
            clear HR hv hlt hK
            go_wp2
            all_goals go_ret2
            all_goals exact ⟨Or.inl ⟨HN.out, rfl⟩, Below.refl _ _⟩
          · have k0 : ((s.size : Int) == (i : Int) + 3) = false := by rw [beq_eq_false_iff_ne]; omega
            clear HR hv hlt hK
            go_wp2
            all_goals go_ret2
            all_goals exact ⟨Or.inl ⟨HN.out, rfl⟩, Below.refl _ _⟩
    · have HN : Hid ((bracedL s (i + 1)).2 = 0) := Lib.hid (by
        unfold bracedL
        rw [if_neg (fun k => h3 (by rw [← hb]; exact k.2))])
      have h3' : ((b.toNat : Int) != 123) = true := by
        rw [bne_iff_ne]
        exact ne_int (k := 123) h3
      clear hb h3
      go_enter Tryd.func68, Tryd.ntmps68
      go_wp2
      all_goals go_ret2
      all_goals exact ⟨Or.inl ⟨HN.out, rfl⟩, Below.refl _ _⟩
  · have HN : Hid ((bracedL s (i + 1)).2 = 0) := Lib.hid (by
      unfold bracedL
      rw [if_neg (fun k => h2 k.1)])
    have z1 : (s.size : Int) ≤ (i : Int) + 2 := by omega
    go_enter Tryd.func68, Tryd.ntmps68
    go_wp2
    all_goals go_ret2
    all_goals exact ⟨Or.inl ⟨HN.out, rfl⟩, Below.refl _ _⟩
end Go.Proofs.YtepmfjhhmnmmeaaDoor
