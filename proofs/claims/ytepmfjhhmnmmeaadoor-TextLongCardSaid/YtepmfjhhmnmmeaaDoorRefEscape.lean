/-
  annalsref2.escape walked: what an escape stands for. Conditions: none.
-/
import Derived.Test.YtepmfjhhmnmmeaaDoorRefBraced
import Derived.Deep.RegionHeld3
import Derived.Maps.RangeWalk
namespace Go.Proofs.YtepmfjhhmnmmeaaDoor
open Go.RowKit

theorem unesc_in {s : ByteArray} {i : Nat} {c : UInt8} (h : i + 1 < s.size) (hc : s.get! (i + 1) = c) : unescL s (i + 1) = (
    if c = 34 ∨ c = 92 then ([c], 1) else if c = 110 then ([10], 1) else if c = 116 then ([9], 1) else if c = 114 then ([13], 1)
    else if c = 120 then (if i + 3 < s.size then (match hexN (partL s (i + 2) 2) with | some v => ([UInt8.ofNat v], 3) | none => ([], 0)) else ([], 0))
    else if c = 117 then bracedL s (i + 1) else ([], 0)) := by
  unfold unescL
  rw [if_pos h]
  simp only [hc]
  rfl
theorem BytesIn.drew {w : World} {v : Value} {x : List UInt8} (h : BytesIn w v x) : BytesIn w.drew v x := by
  obtain ⟨g, c, e, hc⟩ := h
  exact ⟨g, c, e, hc⟩
theorem two_at {s : ByteArray} {p : Nat} (h : p + 1 < s.size) : partL s p 2 = [s.get! p, s.get! (p + 1)] := by
  rw [part_next (by omega), part_next (d := 0) (by omega), part_zero]
  rfl
set_option maxHeartbeats 8000000 in
set_option maxRecDepth 100000 in
theorem escape_any (s : ByteArray) (i : Nat) (hi : i < s.size) (hs : s.size ≤ 4611686018427387904) (w : World) :
    Calls Tryd.prog 48 #[.string s, .int .i64 i] w fun e w' => EscAns (unescL s (i + 1)) e w' ∧ Below w.heap.size w w' := by
  have i0 : (0 : Int) ≤ (i : Int) := by omega
  by_cases h1 : i + 1 < s.size
  · have hg := get_at' (s := s) (p := i + 1) h1
    obtain ⟨c, hc⟩ : ∃ c, s.get! (i + 1) = c := ⟨_, rfl⟩
    have HR := unesc_in h1 hc
    rw [hc] at hg
    have z1 : ¬ (s.size : Int) ≤ (i : Int) + 1 := by omega
    have z2 : (i : Int) + 1 < (s.size : Int) := by omega
    have z3 : ((i : Int) + 1).toNat = i + 1 := by omega
    by_cases c34 : c = 34
    · subst c34
      rw [if_pos (Or.inl rfl)] at HR
      have HE := Lib.hid HR
      clear HR hc
      go_enter Tryd.func48, Tryd.ntmps48
      go_wp2
      all_goals go_ret2
      all_goals exact ⟨by rw [HE.out]; exact Or.inr ⟨by simp, _, rfl, bytesIn_new w [.int .u8 34] [34] rfl _⟩, (Below.refl _ _).alloc (Nat.le_refl _) _⟩
    by_cases c92 : c = 92
    · subst c92
      rw [if_pos (Or.inr rfl)] at HR
      have HE := Lib.hid HR
      clear HR hc
      go_enter Tryd.func48, Tryd.ntmps48
      go_wp2
      all_goals go_ret2
      all_goals exact ⟨by rw [HE.out]; exact Or.inr ⟨by simp, _, rfl, bytesIn_new w [.int .u8 92] [92] rfl _⟩, (Below.refl _ _).alloc (Nat.le_refl _) _⟩
    rw [if_neg (by rintro (h | h); exact c34 h; exact c92 h)] at HR
    by_cases c110 : c = 110
    · subst c110
      rw [if_pos rfl] at HR
      have HE := Lib.hid HR
      clear HR hc c34 c92
      go_enter Tryd.func48, Tryd.ntmps48
      go_wp2
      all_goals go_ret2
      all_goals exact ⟨by rw [HE.out]; exact Or.inr ⟨by simp, _, rfl, bytesIn_new w [.int .u8 10] [10] rfl _⟩, (Below.refl _ _).alloc (Nat.le_refl _) _⟩
    rw [if_neg c110] at HR
    by_cases c116 : c = 116
    · subst c116
      rw [if_pos rfl] at HR
      have HE := Lib.hid HR
      clear HR hc c34 c92 c110
      go_enter Tryd.func48, Tryd.ntmps48
      go_wp2
      all_goals go_ret2
      all_goals exact ⟨by rw [HE.out]; exact Or.inr ⟨by simp, _, rfl, bytesIn_new w [.int .u8 9] [9] rfl _⟩, (Below.refl _ _).alloc (Nat.le_refl _) _⟩
    rw [if_neg c116] at HR
    by_cases c114 : c = 114
    · subst c114
      rw [if_pos rfl] at HR
      have HE := Lib.hid HR
      clear HR hc c34 c92 c110 c116
      go_enter Tryd.func48, Tryd.ntmps48
      go_wp2
      all_goals go_ret2
      all_goals exact ⟨by rw [HE.out]; exact Or.inr ⟨by simp, _, rfl, bytesIn_new w [.int .u8 13] [13] rfl _⟩, (Below.refl _ _).alloc (Nat.le_refl _) _⟩
    rw [if_neg c114] at HR
    by_cases c120 : c = 120
    · subst c120
      rw [if_pos rfl] at HR
      clear hc c34 c92 c110 c116 c114
      by_cases h3 : i + 3 < s.size
      · rw [if_pos h3, two_at (by omega)] at HR
        have ga := get_at' (s := s) (p := i + 2) (by omega)
        have gb := get_at' (s := s) (p := i + 3) h3
        obtain ⟨a, ha⟩ : ∃ c, s.get! (i + 2) = c := ⟨_, rfl⟩
        obtain ⟨b, hb⟩ : ∃ c, s.get! (i + 3) = c := ⟨_, rfl⟩
        rw [show i + 2 + 1 = i + 3 by omega, ha, hb] at HR
        rw [ha] at ga
        rw [hb] at gb
        have y1 : ¬ (s.size : Int) ≤ (i : Int) + 3 := by omega
        have y2 : (i : Int) + 2 < (s.size : Int) := by omega
        have y3 : (i : Int) + 3 < (s.size : Int) := by omega
        have y4 : ((i : Int) + 2).toNat = i + 2 := by omega
        have y5 : ((i : Int) + 3).toNat = i + 3 := by omega
        have hda := fun w => digit_any a.toNat a.toNat_lt w
        have hdb := fun w => digit_any b.toNat b.toNat_lt w
        have hh : hexN [a, b] = hexStep (hexStep (some 0) a) b := by rw [hexN_fold]; rfl
        rw [hh] at HR
        clear hh ha hb
        cases hxa : hexV a with
        | none =>
          have h0 : hexStep (hexStep (some 0) a) b = none := by unfold hexStep; rw [hxa]
          rw [h0] at HR
          rw [digN_none hxa] at hda
          obtain ⟨A, hA⟩ : ∃ A : Int, (a.toNat : Int) = A := ⟨_, rfl⟩
          rw [hA] at hda
          have HE := Lib.hid HR
          have hda := Lib.hid hda
          clear HR h0 hxa hdb
          go_enter Tryd.func48, Tryd.ntmps48
          go_wp2_with (first
            | (go_at_call 67; (with_reducible refine (hda.out _).mono ?_); rintro e w2 ⟨rfl, rfl⟩))
          all_goals go_ret2
          all_goals exact ⟨Or.inl ⟨by rw [HE.out], rfl⟩, Below.refl _ _⟩
        | some va =>
          obtain ⟨ea, la⟩ := digN_some hxa
          rw [ea] at hda
          obtain ⟨A, hA⟩ : ∃ A : Int, (a.toNat : Int) = A := ⟨_, rfl⟩
          obtain ⟨B, hB⟩ : ∃ B : Int, (b.toNat : Int) = B := ⟨_, rfl⟩
          rw [hA] at hda
          rw [hB] at hdb
          have hda := Lib.hid hda
          have va0 : ¬ (va : Int) < 0 := by omega
          cases hxb : hexV b with
          | none =>
            have h0 : hexStep (hexStep (some 0) a) b = none := by unfold hexStep; rw [hxa, hxb]
            rw [h0] at HR
            rw [digN_none hxb] at hdb
            have HE := Lib.hid HR
            have hdb := Lib.hid hdb
            clear HR h0 hxa hxb ea
            go_enter Tryd.func48, Tryd.ntmps48
            go_wp2_with (first
              | (go_at_call 67; (with_reducible refine (hda.out _).mono ?_); rintro e w2 ⟨rfl, rfl⟩)
              | (go_at_call 67; (with_reducible refine (hdb.out _).mono ?_); rintro e w3 ⟨rfl, rfl⟩))
            all_goals go_ret2
            all_goals exact ⟨Or.inl ⟨by rw [HE.out], rfl⟩, Below.refl _ _⟩
          | some vb =>
            obtain ⟨eb, lb⟩ := digN_some hxb
            have h0 : hexStep (hexStep (some 0) a) b = some (va * 16 + vb) := by
              unfold hexStep
              rw [hxa, hxb]
              simp
            rw [h0] at HR
            rw [eb] at hdb
            have HE := Lib.hid HR
            have hdb := Lib.hid hdb
            have vb0 : ¬ (vb : Int) < 0 := by omega
            obtain ⟨X, hX⟩ : ∃ X : Int, ((va * 16 + vb : Nat) : Int) = X := ⟨_, rfl⟩
            have w1 : IntKind.i64.wrap ((va : Int) * 16) = (va : Int) * 16 := by simp [IntKind.wrap, IntKind.bits, IntKind.signed]; omega
            have w2 : IntKind.i64.wrap ((va : Int) * 16 + (vb : Int)) = X := by rw [← hX]; simp [IntKind.wrap, IntKind.bits, IntKind.signed]; omega
            have w3 : IntKind.u8.wrap X = X := by rw [← hX]; simp [IntKind.wrap, IntKind.bits, IntKind.signed]; omega
            have w4 : IntKind.i64.wrap ((i : Int) + 2) = (i : Int) + 2 := by simp [IntKind.wrap, IntKind.bits, IntKind.signed]; omega
            have w5 : IntKind.i64.wrap ((i : Int) + 3) = (i : Int) + 3 := by simp [IntKind.wrap, IntKind.bits, IntKind.signed]; omega
            have HC : Hid (((UInt8.ofNat (va * 16 + vb)).toNat : Int) = X) := Lib.hid ((cell8 (n := va * 16 + vb) (by omega)).trans hX)
            have W1 := Lib.hid w1
            have W2 := Lib.hid w2
            have W3 := Lib.hid w3
            clear HR h0 hxa hxb ea eb w1 w2 w3 w4 w5 hX
            go_enter Tryd.func48, Tryd.ntmps48
            go_wp2_with (first
              | (go_at_call 67; (with_reducible refine (hda.out _).mono ?_); rintro e w2 ⟨rfl, rfl⟩)
              | (go_at_call 67; (with_reducible refine (hdb.out _).mono ?_); rintro e w3 ⟨rfl, rfl⟩))
            have p1 := W1.out
            have p6 : (0 : Int) ≤ (i : Int) + 2 := by omega
            have p7 : (0 : Int) ≤ (i : Int) + 3 := by omega
            have p2 := W2.out
            have p3 := W3.out
            have w4 : IntKind.i64.wrap ((i : Int) + 2) = (i : Int) + 2 := by simp [IntKind.wrap, IntKind.bits, IntKind.signed]; omega
            have w5 : IntKind.i64.wrap ((i : Int) + 3) = (i : Int) + 3 := by simp [IntKind.wrap, IntKind.bits, IntKind.signed]; omega
            refine wp_region_held_drew (S := (fun W => Below w3.heap.size w3 W)) (by kernel_rfl) ((Below.refl _ w3).drew) (fun hHeld => ?_)
            refine wpAnyH_take (i := 0) (oi := { dst := some 55, op := Op.move (Operand.tmp 0), type := 9, pos := "ref.go:246", after := #[], guard := none }) (v := ?_) rfl (by kernel_rfl) (by kernel_rfl) (by kernel_rfl) (fun _ _ _ h => h) (Or.inl ⟨by rfl, ?_⟩) (by assumption) ?_
            rotate_left 1
            focus (intro w hSw; (try clear hSw); go_simp; try (with_reducible rfl))
            try go_frame
            refine wpAnyH_take (i := 1) (oi := { dst := some 56, op := Op.move (Operand.tmp 1), type := 3, pos := "ref.go:246", after := #[], guard := none }) (v := ?_) rfl (by kernel_rfl) (by kernel_rfl) (by kernel_rfl) (fun _ _ _ h => h) (Or.inl ⟨by rfl, ?_⟩) (by assumption) ?_
            rotate_left 1
            focus (intro w hSw; (try clear hSw); go_simp; try (with_reducible rfl))
            try go_frame
            refine wpAnyH_take (i := 2) (oi := { dst := some 57, op := Op.binOp BinOp.add 3 (Operand.tmp 56) (Operand.const (Value.int IntKind.i64 2)) 3, type := 3, pos := "ref.go:246", after := #[{ on := 1, ground := Ground.data }], guard := none }) (v := ?_) rfl (by kernel_rfl) (by kernel_rfl) (by kernel_rfl) (fun _ _ _ h => h) (Or.inl ⟨by rfl, ?_⟩) (by assumption) ?_
            rotate_left 1
            focus (intro w hSw; (try clear hSw); go_simp; try (with_reducible rfl))
            try go_frame
            refine wpAnyH_take (i := 3) (oi := { dst := some 58, op := Op.index 9 (Operand.tmp 55) (Operand.tmp 57), type := 5, pos := "ref.go:246", after := #[{ on := 0, ground := Ground.data }, { on := 2, ground := Ground.data }], guard := none }) (v := ?_) rfl (by kernel_rfl) (by kernel_rfl) (by kernel_rfl) (fun _ _ _ h => h) (Or.inl ⟨by rfl, ?_⟩) (by assumption) ?_
            rotate_left 1
            focus (intro w hSw; (try clear hSw); go_simp; try (with_reducible rfl))
            try go_frame
            refine wpAnyH_take (i := 6) (oi := { dst := some 61, op := Op.move (Operand.tmp 0), type := 9, pos := "ref.go:246", after := #[], guard := none }) (v := ?_) rfl (by kernel_rfl) (by kernel_rfl) (by kernel_rfl) (fun _ _ _ h => h) (Or.inl ⟨by rfl, ?_⟩) (by assumption) ?_
            rotate_left 1
            focus (intro w hSw; (try clear hSw); go_simp; try (with_reducible rfl))
            try go_frame
            refine wpAnyH_take (i := 7) (oi := { dst := some 62, op := Op.move (Operand.tmp 1), type := 3, pos := "ref.go:246", after := #[], guard := none }) (v := ?_) rfl (by kernel_rfl) (by kernel_rfl) (by kernel_rfl) (fun _ _ _ h => h) (Or.inl ⟨by rfl, ?_⟩) (by assumption) ?_
            rotate_left 1
            focus (intro w hSw; (try clear hSw); go_simp; try (with_reducible rfl))
            try go_frame
            refine wpAnyH_take (i := 8) (oi := { dst := some 63, op := Op.binOp BinOp.add 3 (Operand.tmp 62) (Operand.const (Value.int IntKind.i64 3)) 3, type := 3, pos := "ref.go:246", after := #[{ on := 7, ground := Ground.data }], guard := none }) (v := ?_) rfl (by kernel_rfl) (by kernel_rfl) (by kernel_rfl) (fun _ _ _ h => h) (Or.inl ⟨by rfl, ?_⟩) (by assumption) ?_
            rotate_left 1
            focus (intro w hSw; (try clear hSw); go_simp; try (with_reducible rfl))
            try go_frame
            refine wpAnyH_take (i := 9) (oi := { dst := some 64, op := Op.index 9 (Operand.tmp 61) (Operand.tmp 63), type := 5, pos := "ref.go:246", after := #[{ on := 6, ground := Ground.data }, { on := 8, ground := Ground.data }], guard := none }) (v := ?_) rfl (by kernel_rfl) (by kernel_rfl) (by kernel_rfl) (fun _ _ _ h => h) (Or.inl ⟨by rfl, ?_⟩) (by assumption) ?_
            rotate_left 1
            focus (intro w hSw; (try clear hSw); go_simp; try (with_reducible rfl))
            try go_frame
            refine wpAnyH_ready (rs := [4]) (by kernel_rfl) (by simp) ?_
            refine AllReadyH.cons (o := { dst := some 59, op := Op.call { callee := Callee.value (Operand.func 67), args := #[Operand.tmp 58], argTypes := #[5] }, type := 3, pos := "ref.go:246", after := #[{ on := 3, ground := Ground.data }], guard := none }) rfl (fun K hK => ?_) ?_
            · go_simp
              refine (hda.out _).mono ?_
              rintro e w5 ⟨rfl, rfl⟩
              try go_wp2_with fail
              refine hK.out _ _ (hHeld) (fun hHeld => ?_)
              clear hK K
              try go_frame
              refine wpAnyH_take (i := 5) (oi := { dst := some 60, op := Op.binOp BinOp.mul 3 (Operand.tmp 59) (Operand.const (Value.int IntKind.i64 16)) 3, type := 3, pos := "ref.go:246", after := #[{ on := 4, ground := Ground.data }], guard := none }) (v := ?_) rfl (by kernel_rfl) (by kernel_rfl) (by kernel_rfl) (fun _ _ _ h => h) (Or.inl ⟨by rfl, ?_⟩) (by assumption) ?_
              rotate_left 1
              focus (intro w hSw; (try clear hSw); go_simp; try (with_reducible rfl))
              try go_frame
              refine wpAnyH_ready (rs := [10]) (by kernel_rfl) (by simp) ?_
              refine AllReadyH.cons (o := { dst := some 65, op := Op.call { callee := Callee.value (Operand.func 67), args := #[Operand.tmp 64], argTypes := #[5] }, type := 3, pos := "ref.go:246", after := #[{ on := 9, ground := Ground.data }, { on := 4, ground := Ground.chain }], guard := none }) rfl (fun K hK => ?_) ?_
              · go_simp
                refine (hdb.out _).mono ?_
                rintro e w6 ⟨rfl, rfl⟩
                try go_wp2_with fail
                refine hK.out _ _ (hHeld) (fun hHeld => ?_)
                clear hK K
                try go_frame
                refine wpAnyH_take (i := 11) (oi := { dst := some 66, op := Op.binOp BinOp.add 3 (Operand.tmp 60) (Operand.tmp 65) 3, type := 3, pos := "ref.go:246", after := #[{ on := 5, ground := Ground.data }, { on := 10, ground := Ground.data }], guard := none }) (v := ?_) rfl (by kernel_rfl) (by kernel_rfl) (by kernel_rfl) (fun _ _ _ h => h) (Or.inl ⟨by rfl, ?_⟩) (by assumption) ?_
                rotate_left 1
                focus (intro w hSw; (try clear hSw); go_simp; try (with_reducible rfl))
                try go_frame
                refine wpAnyH_take (i := 12) (oi := { dst := some 67, op := Op.convert 3 5 (Operand.tmp 66), type := 5, pos := "ref.go:246", after := #[{ on := 11, ground := Ground.data }], guard := none }) (v := ?_) rfl (by kernel_rfl) (by kernel_rfl) (by kernel_rfl) (fun _ _ _ h => h) (Or.inl ⟨by rfl, ?_⟩) (by assumption) ?_
                rotate_left 1
                focus (intro w hSw; (try clear hSw); go_simp; try (with_reducible rfl))
                try go_frame
                refine wpAnyH_ready (rs := [13]) (by kernel_rfl) (by simp) ?_
                refine AllReadyH.cons (o := { dst := some 68, op := Op.buildSlice 81 1 #[(0, Operand.tmp 67)], type := 81, pos := "ref.go:246", after := #[{ on := 12, ground := Ground.data }], guard := none }) rfl (fun K hK => ?_) ?_
                · go_simp
                  refine hK.out _ _ (Below.alloc hHeld (by have := Below.size hHeld; omega) _) (fun hHeld => ?_)
                  clear hK K
                  try go_frame
                  refine wpAnyH_ready (rs := [14]) (by kernel_rfl) (by simp) ?_
                  refine AllReadyH.cons (o := { dst := some 4, op := Op.assign (Operand.tmp 68), type := 81, pos := "ref.go:246", after := #[{ on := 13, ground := Ground.data }, { on := 10, ground := Ground.chain }, { on := 0, ground := Ground.phase }, { on := 1, ground := Ground.phase }, { on := 2, ground := Ground.phase }, { on := 3, ground := Ground.phase }, { on := 4, ground := Ground.phase }, { on := 5, ground := Ground.phase }, { on := 6, ground := Ground.phase }, { on := 7, ground := Ground.phase }, { on := 8, ground := Ground.phase }, { on := 9, ground := Ground.phase }, { on := 10, ground := Ground.phase }, { on := 11, ground := Ground.phase }, { on := 12, ground := Ground.phase }, { on := 13, ground := Ground.phase }], guard := none }) rfl (fun K hK => ?_) ?_
                  · go_simp
                    refine hK.out _ _ (by assumption) (fun hHeld => ?_)
                    clear hK K
                    try go_frame
                    refine wpAnyH_ready (rs := [15]) (by kernel_rfl) (by simp) ?_
                    refine AllReadyH.cons (o := { dst := some 5, op := Op.assign (Operand.const (Value.int IntKind.i64 4)), type := 3, pos := "ref.go:246", after := #[{ on := 14, ground := Ground.chain }, { on := 0, ground := Ground.phase }, { on := 1, ground := Ground.phase }, { on := 2, ground := Ground.phase }, { on := 3, ground := Ground.phase }, { on := 4, ground := Ground.phase }, { on := 5, ground := Ground.phase }, { on := 6, ground := Ground.phase }, { on := 7, ground := Ground.phase }, { on := 8, ground := Ground.phase }, { on := 9, ground := Ground.phase }, { on := 10, ground := Ground.phase }, { on := 11, ground := Ground.phase }, { on := 12, ground := Ground.phase }, { on := 13, ground := Ground.phase }, { on := 14, ground := Ground.phase }], guard := none }) rfl (fun K hK => ?_) ?_
                    · go_simp
                      refine hK.out _ _ (by assumption) (fun hHeld => ?_)
                      clear hK K
                      try go_frame
                      refine wpAnyH_done (by kernel_rfl) ?_ _
                      try go_wp2_with fail
                      all_goals go_ret2
                      all_goals exact ⟨by rw [HE.out]; exact Or.inr ⟨by simp, _, rfl, by first | exact (bytesIn_new _ [.int .u8 X] [UInt8.ofNat (va * 16 + vb)] (by simp only [Lib.byteCells, List.map_cons, List.map_nil, HC.out]) _).drew | exact bytesIn_new _ [.int .u8 X] [UInt8.ofNat (va * 16 + vb)] (by simp only [Lib.byteCells, List.map_cons, List.map_nil, HC.out]) _⟩, hHeld⟩
                    exact AllReadyH.nil
                  exact AllReadyH.nil
                exact AllReadyH.nil
              exact AllReadyH.nil
            exact AllReadyH.nil
      · rw [if_neg h3] at HR
        have HE := Lib.hid HR
        have y1 : (s.size : Int) ≤ (i : Int) + 3 := by omega
        clear HR
        go_enter Tryd.func48, Tryd.ntmps48
        go_wp2
        all_goals go_ret2
        all_goals exact ⟨Or.inl ⟨by rw [HE.out], rfl⟩, Below.refl _ _⟩
    rw [if_neg c120] at HR
    by_cases c117 : c = 117
    · subst c117
      rw [if_pos rfl] at HR
      have HB := Lib.hid (fun w => refBraced_any s i h1 hc hs w)
      have HE := Lib.hid HR
      clear HR hc c34 c92 c110 c116 c114 c120
      go_enter Tryd.func48, Tryd.ntmps48
      go_wp2_with fail
      refine (HB.out w).mono ?_
      rintro e w2 ⟨h | ⟨hn, v, rfl, hv⟩, hb2⟩
      · obtain ⟨hn, rfl⟩ := h
        have HB2 := Lib.hid hb2
        have HN := Lib.hid hn
        clear hn hb2
        go_wp2
        all_goals go_ret2
        all_goals exact ⟨by rw [HE.out]; exact Or.inl ⟨HN.out, rfl⟩, HB2.out⟩
      · have HB2 := Lib.hid hb2
        have HN := Lib.hid hn
        have HV := Lib.hid hv
        obtain ⟨vg, vc, rfl, -⟩ := hv
        obtain ⟨⟨x, n⟩, hxn⟩ : ∃ y, bracedL s (i + 1) = y := ⟨_, rfl⟩
        rw [hxn] at HE HN HV ⊢
        clear hn hb2 hxn HB
        go_wp2
        all_goals go_ret2
        all_goals exact ⟨by rw [HE.out]; exact Or.inr ⟨HN.out, _, rfl, HV.out⟩, HB2.out⟩
    rw [if_neg c117] at HR
    have HE := Lib.hid HR
    have e34 := ne_int (k := 34) c34
    have e92 := ne_int (k := 92) c92
    have e110 := ne_int (k := 110) c110
    have e116 := ne_int (k := 116) c116
    have e114 := ne_int (k := 114) c114
    have e120 := ne_int (k := 120) c120
    have e117 := ne_int (k := 117) c117
    clear c34 c92 c110 c116 c114 c120 c117 HR hc
    obtain ⟨C, hC⟩ : ∃ C : Int, (c.toNat : Int) = C := ⟨_, rfl⟩
    rw [hC] at e34 e92 e110 e116 e114 e120 e117
    go_enter Tryd.func48, Tryd.ntmps48
    go_wp2
    all_goals go_ret2
    all_goals exact ⟨Or.inl ⟨by rw [HE.out], rfl⟩, Below.refl _ _⟩
  · have HE : Hid (unescL s (i + 1) = ([], 0)) := Lib.hid (by
      unfold unescL
      rw [if_neg h1])
    have z1 : (s.size : Int) ≤ (i : Int) + 1 := by omega
    go_enter Tryd.func48, Tryd.ntmps48
    go_wp2
    all_goals go_ret2
    all_goals exact ⟨Or.inl ⟨by rw [HE.out], rfl⟩, Below.refl _ _⟩
end Go.Proofs.YtepmfjhhmnmmeaaDoor
