/-
  annalslaw2.TextOne walked: it answers true, of any text and any number. Conditions: the tables of unicode/utf8 and of math/bits as laid.
-/
import Derived.Test.YtepmfjhhmnmmeaaDoorUnquote
import Derived.Test.YtepmfjhhmnmmeaaDoorRoundLaw
import Derived.Test.YtepmfjhhmnmmeaaDoorTextFns
import Derived.Deep.RegionHeld3
import Derived.Maps.RangeWalk
namespace Go.Proofs.YtepmfjhhmnmmeaaDoor.textOne
open Go.RowKit

theorem unq_ends (s : ByteArray) : ∀ (f p : Nat) (acc : List UInt8), (∀ e, unqFrom s f p acc = .inl e → e ≠ 0) ∧ (∀ t i, unqFrom s f p acc = .inr (t, i) → p ≤ i ∧ i < s.size ∧ t.length + 4 * p ≤ acc.length + 4 * i)
  | 0, p, acc => ⟨fun e h => by cases h; decide, fun t i h => by cases h⟩
  | f + 1, p, acc => by
    unfold unqFrom
    by_cases hp : p < s.size
    · rw [if_neg (by omega)]
      by_cases c1 : s.get! p = 34
      · rw [if_pos c1]
        exact ⟨fun e h => (by cases h), fun t i h => by cases h; exact ⟨by omega, hp, by omega⟩⟩
      rw [if_neg c1]
      by_cases c2 : s.get! p = 92
      · rw [if_pos c2]
        by_cases c3 : (unescL s (p + 1)).2 = 0
        · rw [if_pos c3]
          exact ⟨fun e h => by cases h; decide, fun t i h => by cases h⟩
        · rw [if_neg c3]
          have ih := unq_ends s f (p + 1 + (unescL s (p + 1)).2) (acc ++ (unescL s (p + 1)).1)
          have hl := unescL_len s (p + 1)
          refine ⟨ih.1, fun t i h => ?_⟩
          have := ih.2 t i h
          rw [List.length_append] at this
          omega
      rw [if_neg c2]
      split
      · exact ⟨fun e h => by cases h; decide, fun t i h => by cases h⟩
      · have ih := unq_ends s f (nextPos s p) (acc ++ partL s p (Utf8.decode s p).2)
        have hl := partL_len s p (Utf8.decode s p).2
        have hn : nextPos s p = p + (Utf8.decode s p).2 := rfl
        refine ⟨ih.1, fun t i h => ?_⟩
        have := ih.2 t i h
        rw [List.length_append] at this
        omega
    · rw [if_pos hp]
      exact ⟨fun e h => by cases h; decide, fun t i h => by cases h⟩
/-- What Unquote answers: an error alone; or the literal just as it stands there. -/
theorem unq_law (s : ByteArray) (a : Int) : (∃ e, e ≠ 0 ∧ unquoteR s a = (⟨#[]⟩, 0, e)) ∨ (∃ (p i : Nat) (v : ByteArray), a = (p : Int) ∧ p < i ∧ i ≤ s.size ∧ v.size ≤ 4 * s.size ∧ (s.extract p i).data.toList = quoteL v ∧ unquoteR s a = (v, (i : Int), 0)) := by
  unfold unquoteR
  by_cases h1 : a < 0 ∨ (s.size : Int) < a
  · rw [if_pos h1]
    exact Or.inl ⟨1, by decide, rfl⟩
  rw [if_neg h1]
  by_cases h2 : a = (s.size : Int) ∨ s.get! a.toNat ≠ 34
  · rw [if_pos h2]
    exact Or.inl ⟨24, by decide, rfl⟩
  rw [if_neg h2]
  obtain ⟨p, rfl⟩ : ∃ p : Nat, a = (p : Int) := ⟨a.toNat, by omega⟩
  simp only [Int.toNat_natCast]
  have ih := unq_ends s s.size (p + 1) []
  cases hq : unqFrom s s.size (p + 1) [] with
  | inl e => exact Or.inl ⟨e, ih.1 e hq, rfl⟩
  | inr x =>
    obtain ⟨t, i⟩ := x
    have h3 := ih.2 t i hq
    simp only [List.length_nil] at h3
    simp only
    by_cases h4 : quoteL ⟨t.toArray⟩ = partL s p (i + 1 - p)
    · rw [if_pos h4]
      refine Or.inr ⟨p, i + 1, ⟨t.toArray⟩, rfl, by omega, by omega, by show t.length ≤ _; omega, ?_, ?_⟩
      · rw [part_extract, h4]
      · congr 1
    · rw [if_neg h4]
      exact Or.inl ⟨28, by decide, rfl⟩
theorem unq_is {s v : ByteArray} {a i e : Int} (h : unquoteR s a = (v, i, e)) (hs : s.size ≤ 131072) (w : World) (hU : U8 w) (hT : TZ w) :
    Calls Tryd.prog 22 #[.string s, .int .i64 a] w fun x w' => x = .returned (.tuple #[.string v, .int .i64 i, .int .i64 e]) ∧ Below w.heap.size w w' := by
  have := unquote_any s a (by omega) w hU hT
  rw [h] at this
  exact this
set_option maxHeartbeats 4000000 in
set_option maxRecDepth 100000 in
theorem walk (s0 : ByteArray) (a : Int) (w : World) (hs0 : s0.size ≤ 9223372036854775807) (hU : U8 w) (hT : TZ w) :
    Calls Tryd.prog 8 #[.string s0, .int .i64 a] w fun e w' => e = .returned (.bool true) ∧ Below w.heap.size w w' := by
  have HU := Lib.hid hU
  have HT := Lib.hid hT
  clear hU hT
  have hcut := Lib.hid (fun w => cutText_any s0 w hs0)
  obtain ⟨S, hS⟩ : ∃ S, s0.extract 0 131072 = S := ⟨_, rfl⟩
  have hSz : S.size ≤ 131072 := by rw [← hS, ByteArray.size_extract]; omega
  rw [hS] at hcut
  clear hS
  have hA := Lib.hid (unq_is unquote_a (by decide) w HU.out HT.out)
  have hlaw := unq_law S a
  rcases hlaw with ⟨e, he, hR⟩ | ⟨p, i, v, rfl, hpi, hi, hv, hx, hR⟩
  · have hB := Lib.hid (fun w2 h1 => unq_is hR hSz w2 (u8_below HU.out h1) (HT.out.below h1))
    have he2 : (e != 0) = true := by simpa using he
    clear he hR
    go_enter Tryd.func8, Tryd.ntmps8
    go_wp2_with (first
      | (go_at_call 15; (with_reducible refine (hcut.out _).mono ?_); rintro e w2 ⟨rfl, rfl⟩)
      | (go_at_call 22; (with_reducible refine hA.out.mono ?_); rintro e w3 ⟨rfl, hb3⟩; have Hb3 := Lib.hid hb3; clear hb3; clear hA)
      | (go_at_call 22; (with_reducible refine (hB.out _ Hb3.out).mono ?_); rintro e w4 ⟨rfl, hb4⟩; have Hb4 := Lib.hid (then_ Hb3.out hb4); clear hb4))
    all_goals go_ret
    all_goals exact ⟨rfl, Hb4.out⟩
  · have hB := Lib.hid (fun w2 h1 => unq_is hR hSz w2 (u8_below HU.out h1) (HT.out.below h1))
    have hqt := Lib.hid (fun w2 h1 => quote_any v (by omega) w2 (u8_below HU.out h1) (HT.out.below h1))
    obtain ⟨Q, hQ⟩ : ∃ Q : ByteArray, ⟨(quoteL v).toArray⟩ = Q := ⟨_, rfl⟩
    rw [hQ] at hqt
    have hcmp : (Q.toList == (S.extract p i).toList) = true := by
      rw [list_eq, hx, ← hQ]
      simp
    have z1 : (0 : Int) ≤ (p : Int) := by omega
    have z2 : (p : Int) < (i : Int) := by omega
    have z3 : (i : Int) ≤ (S.size : Int) := by omega
    have z4 : (p : Int) ≤ (i : Int) := by omega
    clear hR hQ hx
    go_enter Tryd.func8, Tryd.ntmps8
    go_wp2_with (first
      | (go_at_call 15; (with_reducible refine (hcut.out _).mono ?_); rintro e w2 ⟨rfl, rfl⟩)
      | (go_at_call 22; (with_reducible refine hA.out.mono ?_); rintro e w3 ⟨rfl, hb3⟩; have Hb3 := Lib.hid hb3; clear hb3; clear hA)
      | (go_at_call 22; (with_reducible refine (hB.out _ Hb3.out).mono ?_); rintro e w4 ⟨rfl, hb4⟩; have Hb4 := Lib.hid (then_ Hb3.out hb4); clear hb4))
    refine wp_region_held_drew (S := (fun W => Below w2.heap.size w2 W)) (by kernel_rfl) (Hb4.out.drew) (fun hHeld => ?_)
    refine wpAnyH_take (i := 0) (oi := { dst := some 43, op := Op.move (Operand.tmp 1), type := 3, pos := "law.go:149", after := #[], guard := none }) (v := ?_) rfl (by kernel_rfl) (by kernel_rfl) (by kernel_rfl) (fun _ _ _ h => h) (Or.inl ⟨by rfl, ?_⟩) (by assumption) ?_
    rotate_left 1
    focus (intro w hSw; (try clear hSw); go_simp; try (with_reducible rfl))
    try go_frame
    refine wpAnyH_take (i := 1) (oi := { dst := some 44, op := Op.binOp BinOp.geq 3 (Operand.tmp 43) (Operand.const (Value.int IntKind.i64 0)) 3, type := 4, pos := "law.go:149", after := #[{ on := 0, ground := Ground.data }], guard := none }) (v := ?_) rfl (by kernel_rfl) (by kernel_rfl) (by kernel_rfl) (fun _ _ _ h => h) (Or.inl ⟨by rfl, ?_⟩) (by assumption) ?_
    rotate_left 1
    focus (intro w hSw; (try clear hSw); go_simp; try (with_reducible rfl))
    try go_frame
    refine wpAnyH_take (i := 2) (oi := { dst := some 45, op := Op.move (Operand.tmp 44), type := 4, pos := "law.go:149", after := #[{ on := 1, ground := Ground.data }], guard := none }) (v := ?_) rfl (by kernel_rfl) (by kernel_rfl) (by kernel_rfl) (fun _ _ _ h => h) (Or.inl ⟨by rfl, ?_⟩) (by assumption) ?_
    rotate_left 1
    focus (intro w hSw; (try clear hSw); go_simp; try (with_reducible rfl))
    try go_frame
    refine wpAnyH_take (i := 3) (oi := { dst := some 46, op := Op.move (Operand.tmp 1), type := 3, pos := "law.go:149", after := #[{ on := 2, ground := Ground.guard }], guard := some (2, true) }) (v := ?_) rfl (by kernel_rfl) (by kernel_rfl) (by kernel_rfl) (fun _ _ _ h => h) (Or.inl ⟨by rfl, ?_⟩) (by assumption) ?_
    rotate_left 1
    focus (intro w hSw; (try clear hSw); go_simp; try (with_reducible rfl))
    try go_frame
    refine wpAnyH_take (i := 4) (oi := { dst := some 47, op := Op.move (Operand.tmp 9), type := 3, pos := "law.go:149", after := #[{ on := 2, ground := Ground.guard }], guard := some (2, true) }) (v := ?_) rfl (by kernel_rfl) (by kernel_rfl) (by kernel_rfl) (fun _ _ _ h => h) (Or.inl ⟨by rfl, ?_⟩) (by assumption) ?_
    rotate_left 1
    focus (intro w hSw; (try clear hSw); go_simp; try (with_reducible rfl))
    try go_frame
    refine wpAnyH_take (i := 5) (oi := { dst := some 48, op := Op.binOp BinOp.lss 3 (Operand.tmp 46) (Operand.tmp 47) 3, type := 4, pos := "law.go:149", after := #[{ on := 3, ground := Ground.data }, { on := 4, ground := Ground.data }, { on := 2, ground := Ground.guard }], guard := some (2, true) }) (v := ?_) rfl (by kernel_rfl) (by kernel_rfl) (by kernel_rfl) (fun _ _ _ h => h) (Or.inl ⟨by rfl, ?_⟩) (by assumption) ?_
    rotate_left 1
    focus (intro w hSw; (try clear hSw); go_simp; try (with_reducible rfl))
    try go_frame
    refine wpAnyH_take (i := 6) (oi := { dst := some 49, op := Op.pick (Operand.tmp 45) (Operand.tmp 48) (Operand.const (Value.bool false)), type := 4, pos := "law.go:149", after := #[{ on := 2, ground := Ground.data }, { on := 5, ground := Ground.data }], guard := none }) (v := ?_) rfl (by kernel_rfl) (by kernel_rfl) (by kernel_rfl) (fun _ _ _ h => h) (Or.inl ⟨by rfl, ?_⟩) (by assumption) ?_
    rotate_left 1
    focus (intro w hSw; (try clear hSw); go_simp; try (with_reducible rfl))
    try go_frame
    refine wpAnyH_take (i := 7) (oi := { dst := some 50, op := Op.move (Operand.tmp 49), type := 4, pos := "law.go:149", after := #[{ on := 6, ground := Ground.data }, { on := 2, ground := Ground.chain }], guard := none }) (v := ?_) rfl (by kernel_rfl) (by kernel_rfl) (by kernel_rfl) (fun _ _ _ h => h) (Or.inl ⟨by rfl, ?_⟩) (by assumption) ?_
    rotate_left 1
    focus (intro w hSw; (try clear hSw); go_simp; try (with_reducible rfl))
    try go_frame
    refine wpAnyH_take (i := 8) (oi := { dst := some 51, op := Op.move (Operand.tmp 9), type := 3, pos := "law.go:149", after := #[{ on := 7, ground := Ground.guard }], guard := some (7, true) }) (v := ?_) rfl (by kernel_rfl) (by kernel_rfl) (by kernel_rfl) (fun _ _ _ h => h) (Or.inl ⟨by rfl, ?_⟩) (by assumption) ?_
    rotate_left 1
    focus (intro w hSw; (try clear hSw); go_simp; try (with_reducible rfl))
    try go_frame
    refine wpAnyH_take (i := 9) (oi := { dst := some 52, op := Op.move (Operand.tmp 0), type := 9, pos := "law.go:149", after := #[{ on := 7, ground := Ground.guard }], guard := some (7, true) }) (v := ?_) rfl (by kernel_rfl) (by kernel_rfl) (by kernel_rfl) (fun _ _ _ h => h) (Or.inl ⟨by rfl, ?_⟩) (by assumption) ?_
    rotate_left 1
    focus (intro w hSw; (try clear hSw); go_simp; try (with_reducible rfl))
    try go_frame
    refine wpAnyH_take (i := 10) (oi := { dst := some 53, op := Op.call { callee := Callee.builtin Builtin.len, args := #[Operand.tmp 52], argTypes := #[9] }, type := 3, pos := "law.go:149", after := #[{ on := 9, ground := Ground.data }, { on := 7, ground := Ground.guard }], guard := some (7, true) }) (v := ?_) rfl (by kernel_rfl) (by kernel_rfl) (by kernel_rfl) (fun _ _ _ h => h) (Or.inl ⟨by rfl, ?_⟩) (by assumption) ?_
    rotate_left 1
    focus (intro w hSw; (try clear hSw); go_simp; try (with_reducible rfl))
    try go_frame
    refine wpAnyH_take (i := 11) (oi := { dst := some 54, op := Op.binOp BinOp.leq 3 (Operand.tmp 51) (Operand.tmp 53) 3, type := 4, pos := "law.go:149", after := #[{ on := 8, ground := Ground.data }, { on := 10, ground := Ground.data }, { on := 7, ground := Ground.guard }], guard := some (7, true) }) (v := ?_) rfl (by kernel_rfl) (by kernel_rfl) (by kernel_rfl) (fun _ _ _ h => h) (Or.inl ⟨by rfl, ?_⟩) (by assumption) ?_
    rotate_left 1
    focus (intro w hSw; (try clear hSw); go_simp; try (with_reducible rfl))
    try go_frame
    refine wpAnyH_take (i := 12) (oi := { dst := some 55, op := Op.pick (Operand.tmp 50) (Operand.tmp 54) (Operand.const (Value.bool false)), type := 4, pos := "law.go:149", after := #[{ on := 7, ground := Ground.data }, { on := 11, ground := Ground.data }], guard := none }) (v := ?_) rfl (by kernel_rfl) (by kernel_rfl) (by kernel_rfl) (fun _ _ _ h => h) (Or.inl ⟨by rfl, ?_⟩) (by assumption) ?_
    rotate_left 1
    focus (intro w hSw; (try clear hSw); go_simp; try (with_reducible rfl))
    try go_frame
    refine wpAnyH_take (i := 13) (oi := { dst := some 56, op := Op.move (Operand.tmp 55), type := 4, pos := "law.go:149", after := #[{ on := 12, ground := Ground.data }, { on := 7, ground := Ground.chain }], guard := none }) (v := ?_) rfl (by kernel_rfl) (by kernel_rfl) (by kernel_rfl) (fun _ _ _ h => h) (Or.inl ⟨by rfl, ?_⟩) (by assumption) ?_
    rotate_left 1
    focus (intro w hSw; (try clear hSw); go_simp; try (with_reducible rfl))
    try go_frame
    refine wpAnyH_take (i := 14) (oi := { dst := some 57, op := Op.move (Operand.tmp 8), type := 9, pos := "law.go:149", after := #[{ on := 13, ground := Ground.guard }], guard := some (13, true) }) (v := ?_) rfl (by kernel_rfl) (by kernel_rfl) (by kernel_rfl) (fun _ _ _ h => h) (Or.inl ⟨by rfl, ?_⟩) (by assumption) ?_
    rotate_left 1
    focus (intro w hSw; (try clear hSw); go_simp; try (with_reducible rfl))
    try go_frame
    refine wpAnyH_take (i := 16) (oi := { dst := some 59, op := Op.move (Operand.tmp 0), type := 9, pos := "law.go:149", after := #[{ on := 13, ground := Ground.guard }], guard := some (13, true) }) (v := ?_) rfl (by kernel_rfl) (by kernel_rfl) (by kernel_rfl) (fun _ _ _ h => h) (Or.inl ⟨by rfl, ?_⟩) (by assumption) ?_
    rotate_left 1
    focus (intro w hSw; (try clear hSw); go_simp; try (with_reducible rfl))
    try go_frame
    refine wpAnyH_take (i := 17) (oi := { dst := some 60, op := Op.move (Operand.tmp 1), type := 3, pos := "law.go:149", after := #[{ on := 13, ground := Ground.guard }], guard := some (13, true) }) (v := ?_) rfl (by kernel_rfl) (by kernel_rfl) (by kernel_rfl) (fun _ _ _ h => h) (Or.inl ⟨by rfl, ?_⟩) (by assumption) ?_
    rotate_left 1
    focus (intro w hSw; (try clear hSw); go_simp; try (with_reducible rfl))
    try go_frame
    refine wpAnyH_take (i := 18) (oi := { dst := some 61, op := Op.move (Operand.tmp 9), type := 3, pos := "law.go:149", after := #[{ on := 13, ground := Ground.guard }], guard := some (13, true) }) (v := ?_) rfl (by kernel_rfl) (by kernel_rfl) (by kernel_rfl) (fun _ _ _ h => h) (Or.inl ⟨by rfl, ?_⟩) (by assumption) ?_
    rotate_left 1
    focus (intro w hSw; (try clear hSw); go_simp; try (with_reducible rfl))
    try go_frame
    refine wpAnyH_take (i := 19) (oi := { dst := some 62, op := Op.slice 9 (Operand.tmp 59) (some (Operand.tmp 60)) (some (Operand.tmp 61)) none, type := 9, pos := "law.go:149", after := #[{ on := 16, ground := Ground.data }, { on := 17, ground := Ground.data }, { on := 18, ground := Ground.data }, { on := 13, ground := Ground.guard }], guard := some (13, true) }) (v := ?_) rfl (by kernel_rfl) (by kernel_rfl) (by kernel_rfl) (fun _ _ _ h => h) (Or.inl ⟨by rfl, ?_⟩) (by assumption) ?_
    rotate_left 1
    focus (intro w hSw; (try clear hSw); go_simp; try (with_reducible rfl))
    try go_frame
    refine wpAnyH_ready (rs := [15]) (by kernel_rfl) (by simp) ?_
    refine AllReadyH.cons (o := { dst := some 58, op := Op.call { callee := Callee.value (Operand.func 24), args := #[Operand.tmp 57], argTypes := #[9] }, type := 9, pos := "law.go:149", after := #[{ on := 14, ground := Ground.data }, { on := 13, ground := Ground.chain }, { on := 13, ground := Ground.guard }], guard := some (13, true) }) rfl (fun K hK => ?_) ?_
    · go_simp
      refine (hqt.out _ hHeld).mono ?_
      rintro e w5 ⟨rfl, hb5⟩
      try go_wp2_with fail
      refine hK.out _ _ (then_ hHeld hb5) (fun hHeld => ?_)
      clear hK K
      try go_frame
      refine wpAnyH_take (i := 20) (oi := { dst := some 63, op := Op.binOp BinOp.eql 9 (Operand.tmp 58) (Operand.tmp 62) 9, type := 4, pos := "law.go:149", after := #[{ on := 15, ground := Ground.data }, { on := 19, ground := Ground.data }, { on := 13, ground := Ground.guard }], guard := some (13, true) }) (v := ?_) rfl (by kernel_rfl) (by kernel_rfl) (by kernel_rfl) (fun _ _ _ h => h) (Or.inl ⟨by rfl, ?_⟩) (by assumption) ?_
      rotate_left 1
      focus (intro w hSw; (try clear hSw); go_simp; try (with_reducible rfl))
      try go_frame
      refine wpAnyH_take (i := 21) (oi := { dst := some 64, op := Op.pick (Operand.tmp 56) (Operand.tmp 63) (Operand.const (Value.bool false)), type := 4, pos := "law.go:149", after := #[{ on := 13, ground := Ground.data }, { on := 20, ground := Ground.data }], guard := none }) (v := ?_) rfl (by kernel_rfl) (by kernel_rfl) (by kernel_rfl) (fun _ _ _ h => h) (Or.inl ⟨by rfl, ?_⟩) (by assumption) ?_
      rotate_left 1
      focus (intro w hSw; (try clear hSw); go_simp; try (with_reducible rfl))
      try go_frame
      refine wpAnyH_ready (rs := [22]) (by kernel_rfl) (by simp) ?_
      refine AllReadyH.cons (o := { dst := some 4, op := Op.assign (Operand.tmp 64), type := 4, pos := "law.go:149", after := #[{ on := 21, ground := Ground.data }, { on := 15, ground := Ground.chain }, { on := 0, ground := Ground.phase }, { on := 1, ground := Ground.phase }, { on := 2, ground := Ground.phase }, { on := 3, ground := Ground.phase }, { on := 4, ground := Ground.phase }, { on := 5, ground := Ground.phase }, { on := 6, ground := Ground.phase }, { on := 7, ground := Ground.phase }, { on := 8, ground := Ground.phase }, { on := 9, ground := Ground.phase }, { on := 10, ground := Ground.phase }, { on := 11, ground := Ground.phase }, { on := 12, ground := Ground.phase }, { on := 13, ground := Ground.phase }, { on := 14, ground := Ground.phase }, { on := 15, ground := Ground.phase }, { on := 16, ground := Ground.phase }, { on := 17, ground := Ground.phase }, { on := 18, ground := Ground.phase }, { on := 19, ground := Ground.phase }, { on := 20, ground := Ground.phase }, { on := 21, ground := Ground.phase }], guard := none }) rfl (fun K hK => ?_) ?_
      · go_simp
        refine hK.out _ _ (by assumption) (fun hHeld => ?_)
        clear hK K
        try go_frame
        refine wpAnyH_done (by kernel_rfl) ?_ _
        try go_wp2_with fail
        all_goals go_ret
        all_goals exact ⟨rfl, hHeld⟩
      exact AllReadyH.nil
    exact AllReadyH.nil
end Go.Proofs.YtepmfjhhmnmmeaaDoor.textOne
