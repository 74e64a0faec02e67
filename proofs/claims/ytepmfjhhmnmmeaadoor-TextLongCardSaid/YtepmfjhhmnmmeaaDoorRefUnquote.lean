/-
  annalsref2.Unquote walked: the reference reads a literal as text.Unquote does. Conditions: the reference's table of hidden runes as laid.
-/
import Derived.Test.YtepmfjhhmnmmeaaDoorRefEscape
import Derived.Test.YtepmfjhhmnmmeaaDoorRefQuote
import Derived.Test.YtepmfjhhmnmmeaaDoorUnquote
import Derived.Lib.AppendStr
namespace Go.Proofs.YtepmfjhhmnmmeaaDoor
open Go.RowKit

theorem refUnquote_out (s : ByteArray) (a : Int) (h : a < 0 ∨ (s.size : Int) < a) (w : World) :
    Calls Tryd.prog 23 #[.string s, .int .i64 a] w fun e w' => e = .returned (unqV (unquoteR s a)) ∧ Below w.heap.size w w' := by
  have HR : Hid (unqV (unquoteR s a) = .tuple #[.string ⟨#[]⟩, .int .i64 0, .int .i64 1]) := Lib.hid (by
    unfold unquoteR
    rw [if_pos h]
    rfl)
  by_cases h0 : a < 0
  · clear h
    go_enter Tryd.func23, Tryd.ntmps23
    go_wp2
    all_goals go_ret3
    all_goals exact ⟨by rw [HR.out]; rfl, Below.refl _ _⟩
  · have h1 : (s.size : Int) < a := by omega
    clear h
    go_enter Tryd.func23, Tryd.ntmps23
    go_wp2
    all_goals go_ret3
    all_goals exact ⟨by rw [HR.out]; rfl, Below.refl _ _⟩
theorem refUnquote_no (s : ByteArray) (p : Nat) (hp : p ≤ s.size) (h : p = s.size ∨ s.get! p ≠ 34) (w : World) :
    Calls Tryd.prog 23 #[.string s, .int .i64 p] w fun e w' => e = .returned (unqV (unquoteR s p)) ∧ Below w.heap.size w w' := by
  have HR : Hid (unqV (unquoteR s p) = .tuple #[.string ⟨#[]⟩, .int .i64 0, .int .i64 24]) := Lib.hid (by
    unfold unquoteR
    rw [if_neg (by omega), if_pos (by rcases h with h | h; left; omega; right; simpa using h)]
    rfl)
  have h0 : ¬ (p : Int) < 0 := by omega
  have h1 : ¬ (s.size : Int) < (p : Int) := by omega
  by_cases he : p = s.size
  · subst he
    clear h
    go_enter Tryd.func23, Tryd.ntmps23
    go_wp2
    all_goals go_ret3
    all_goals exact ⟨by rw [HR.out]; rfl, Below.refl _ _⟩
  · have hlt : p < s.size := by omega
    have hg := get_at' (s := s) (p := p) hlt
    have hn : s.get! p ≠ 34 := by rcases h with h | h; exact absurd h he; exact h
    obtain ⟨c, hc⟩ : ∃ c, s.get! p = c := ⟨_, rfl⟩
    rw [hc] at hg hn
    have e34 := ne_int (k := 34) hn
    have e1 : (((p : Int) == (s.size : Int))) = false := by rw [beq_eq_false_iff_ne]; omega
    have z1 : (0 : Int) ≤ (p : Int) := by omega
    have z2 : (p : Int) < (s.size : Int) := by omega
    clear h he hn hc
    go_enter Tryd.func23, Tryd.ntmps23
    go_wp2
    all_goals go_ret3
    all_goals exact ⟨by rw [HR.out]; rfl, Below.refl _ _⟩
theorem EscAns.none_ {u : List UInt8 × Nat} {e : Ending} {w : World} (h : EscAns u e w) (h0 : u.2 = 0) : e = .returned (.tuple #[.slice none 0 0, .int .i64 0]) := by
  rcases h with ⟨_, h⟩ | ⟨h, _⟩
  · exact h
  · exact absurd h0 h
theorem EscAns.some_ {u : List UInt8 × Nat} {e : Ending} {w : World} (h : EscAns u e w) (h0 : u.2 ≠ 0) :
    ∃ g c, e = .returned (.tuple #[.slice (some ⟨g, 0, none⟩) u.1.length c, .int .i64 ((u.2 + 1 : Nat) : Int)]) ∧ ∀ j x, (Lib.byteCells u.1)[j]? = some x → w.cell? ((⟨g, 0, none⟩ : Addr).add j) = some x := by
  rcases h with ⟨h, _⟩ | ⟨_, v, rfl, g, c, rfl, hc⟩
  · exact absurd h h0
  · exact ⟨g, c, rfl, hc⟩
theorem byteRow_add {B : Nat} {l x : List UInt8} {v : Value} {w : World} (h : w.ownsRow B 5 1 v (l.length + x.length) (Lib.byteCells l ++ Lib.byteCells x)) : ByteRow B (l ++ x) v w := by
  show w.ownsRow B 5 1 v (l ++ x).length (Lib.byteCells (l ++ x))
  rw [bytes_app, List.length_append]
  exact h
set_option maxHeartbeats 8000000 in
set_option maxRecDepth 100000 in
theorem refUnquote_in (s : ByteArray) (a : Nat) (ha : a < s.size) (hq : s.get! a = 34) (hs : s.size ≤ 274877906944) (w : World) (hH : RefHid w) :
    Calls Tryd.prog 23 #[.string s, .int .i64 a] w fun e w' => e = .returned (unqV (unquoteR s a)) ∧ Below w.heap.size w w' := by
  obtain ⟨i0, hi, hz0, hz1, hz2⟩ := info_parts byteInfo
  have HH := Lib.hid hH
  have HQ := Lib.hid hq
  have hg := get_at' (s := s) (p := a) ha
  rw [hq] at hg
  have h0 : ¬ (a : Int) < 0 := by omega
  have h1 : ¬ (s.size : Int) < (a : Int) := by omega
  have e1 : (((a : Int) == (s.size : Int))) = false := by rw [beq_eq_false_iff_ne]; omega
  have z1 : (0 : Int) ≤ (a : Int) := by omega
  have z2 : (a : Int) < (s.size : Int) := by omega
  clear hH hq
  go_enter Tryd.func23, Tryd.ntmps23
  go_wp2
  go_loopw [7, 8, 9, 10, 11] (fun o i _ _ _ wr => ∃ (p : Nat) (acc : List UInt8), i = .int .i64 p ∧ a + 1 ≤ p ∧ p ≤ s.size ∧ ByteRow w.heap.size acc o wr ∧ Below w.heap.size w wr ∧ Hid (UnqAt s a p acc)) (fun _ i _ _ _ _ => s.size - (intOf i).toNat)
  case atStart => exact ⟨a + 1, [], by go_num, by omega, by omega, byteRow_nil _ _, Below.refl _ _, Lib.hid ⟨rfl, by simp⟩⟩
  case round =>
    obtain ⟨p, acc, rfl, hp1, hp, ho, hb, hA⟩ := hrel
    clear hg e1
    have HO := Lib.hid ho
    have Hb := Lib.hid hb
    have HHr := Lib.hid (PairsAt.below HH.out hb)
    have hsz := hb.size
    have hl4 := hA.out.2
    clear ho hb
    by_cases hlt : p < s.size
    · have hpg := get_at' (s := s) (p := p) hlt
      have e1 : ¬ (s.size : Int) ≤ (p : Int) := by omega
      have y1 : (0 : Int) ≤ (p : Int) := by omega
      have y2 : (p : Int) < (s.size : Int) := by omega
      have hstep := unqFrom_body (acc := acc) hlt
      obtain ⟨c, hc⟩ : ∃ c, s.get! p = c := ⟨_, rfl⟩
      rw [hc] at hpg hstep
      by_cases c34 : c = 34
      · subst c34
        have hG := unq_good ha HQ.out hA.out (hstep.trans (if_pos rfl))
        have hqt := Lib.hid (fun w2 h1 => refQuote_any ⟨acc.toArray⟩ (by show acc.length ≤ _; omega) w2 (PairsAt.below HH.out h1))
        have hcv := byteRow_string HO.out
        obtain ⟨T, hT⟩ : ∃ T : ByteArray, ⟨acc.toArray⟩ = T := ⟨_, rfl⟩
        rw [hT] at hG hqt hcv
        obtain ⟨Q, hQ⟩ : ∃ Q : ByteArray, ⟨(quoteL T).toArray⟩ = Q := ⟨_, rfl⟩
        rw [hQ] at hqt
        have hcmp : (Q.toList == (s.extract a (p + 1)).toList) = decide (quoteL T = partL s a (p + 1 - a)) := by
          rw [list_eq, part_extract, ← hQ]
        obtain ⟨d, hd⟩ : ∃ d : Bool, decide (quoteL T = partL s a (p + 1 - a)) = d := ⟨_, rfl⟩
        rw [hd] at hcmp
        have x1 : (a : Int) ≤ (p : Int) + 1 := by omega
        have x2 : (p : Int) + 1 ≤ (s.size : Int) := by omega
        have x3 : ((p : Int) + 1).toNat = p + 1 := by omega
        have x4 : IntKind.i64.wrap ((p : Int) + 1) = (p : Int) + 1 := by simp [IntKind.wrap, IntKind.bits, IntKind.signed]; omega
        have X4 := Lib.hid x4
        clear x4
        cases d with
        | true =>
          have HR := Lib.hid (hG.trans (if_pos (by simpa using hd)))
          have hcmp2 : (Q.toList != (s.extract a (p + 1)).toList) = false := by unfold bne; rw [hcmp]; rfl
          clear hG hd hA hstep hc HQ hT hQ hl4
          go_wp2_with fail
          have x4 := X4.out
          refine wp_region_held_drew (S := (fun W => Below w.heap.size w W)) (by kernel_rfl) (Hb.out.drew) (fun hHeld => ?_)
          refine wpAnyH_take (i := 0) (oi := { dst := some 96, op := Op.move (Operand.tmp 12), type := 9, pos := "ref.go:300", after := #[], guard := none }) (v := ?_) rfl (by kernel_rfl) (by kernel_rfl) (by kernel_rfl) (fun _ _ _ h => h) (Or.inl ⟨by rfl, ?_⟩) (by assumption) ?_
          rotate_left 1
          focus (intro w hSw; (try clear hSw); go_simp; try (with_reducible rfl))
          try go_frame
          refine wpAnyH_take (i := 2) (oi := { dst := some 98, op := Op.move (Operand.tmp 0), type := 9, pos := "ref.go:300", after := #[], guard := none }) (v := ?_) rfl (by kernel_rfl) (by kernel_rfl) (by kernel_rfl) (fun _ _ _ h => h) (Or.inl ⟨by rfl, ?_⟩) (by assumption) ?_
          rotate_left 1
          focus (intro w hSw; (try clear hSw); go_simp; try (with_reducible rfl))
          try go_frame
          refine wpAnyH_take (i := 3) (oi := { dst := some 99, op := Op.move (Operand.tmp 1), type := 3, pos := "ref.go:300", after := #[], guard := none }) (v := ?_) rfl (by kernel_rfl) (by kernel_rfl) (by kernel_rfl) (fun _ _ _ h => h) (Or.inl ⟨by rfl, ?_⟩) (by assumption) ?_
          rotate_left 1
          focus (intro w hSw; (try clear hSw); go_simp; try (with_reducible rfl))
          try go_frame
          refine wpAnyH_take (i := 4) (oi := { dst := some 100, op := Op.move (Operand.tmp 8), type := 3, pos := "ref.go:300", after := #[], guard := none }) (v := ?_) rfl (by kernel_rfl) (by kernel_rfl) (by kernel_rfl) (fun _ _ _ h => h) (Or.inl ⟨by rfl, ?_⟩) (by assumption) ?_
          rotate_left 1
          focus (intro w hSw; (try clear hSw); go_simp; try (with_reducible rfl))
          try go_frame
          refine wpAnyH_take (i := 5) (oi := { dst := some 101, op := Op.binOp BinOp.add 3 (Operand.tmp 100) (Operand.const (Value.int IntKind.i64 1)) 3, type := 3, pos := "ref.go:300", after := #[{ on := 4, ground := Ground.data }], guard := none }) (v := ?_) rfl (by kernel_rfl) (by kernel_rfl) (by kernel_rfl) (fun _ _ _ h => h) (Or.inl ⟨by rfl, ?_⟩) (by assumption) ?_
          rotate_left 1
          focus (intro w hSw; (try clear hSw); go_simp; try (with_reducible rfl))
          try go_frame
          refine wpAnyH_take (i := 6) (oi := { dst := some 102, op := Op.slice 9 (Operand.tmp 98) (some (Operand.tmp 99)) (some (Operand.tmp 101)) none, type := 9, pos := "ref.go:300", after := #[{ on := 2, ground := Ground.data }, { on := 3, ground := Ground.data }, { on := 5, ground := Ground.data }], guard := none }) (v := ?_) rfl (by kernel_rfl) (by kernel_rfl) (by kernel_rfl) (fun _ _ _ h => h) (Or.inl ⟨by rfl, ?_⟩) (by assumption) ?_
          rotate_left 1
          focus (intro w hSw; (try clear hSw); go_simp; try (with_reducible rfl))
          try go_frame
          refine wpAnyH_ready (rs := [1]) (by kernel_rfl) (by simp) ?_
          refine AllReadyH.cons (o := { dst := some 97, op := Op.call { callee := Callee.value (Operand.func 25), args := #[Operand.tmp 96], argTypes := #[9] }, type := 9, pos := "ref.go:300", after := #[{ on := 0, ground := Ground.data }], guard := none }) rfl (fun K hK => ?_) ?_
          · go_simp
            refine (hqt.out _ hHeld).mono ?_
            rintro e w5 ⟨rfl, hb5⟩
            try go_wp2_with fail
            refine hK.out _ _ (then_ hHeld hb5) (fun hHeld => ?_)
            clear hK K
            try go_frame
            refine wpAnyH_take (i := 7) (oi := { dst := some 103, op := Op.binOp BinOp.neq 9 (Operand.tmp 97) (Operand.tmp 102) 9, type := 4, pos := "ref.go:300", after := #[{ on := 1, ground := Ground.data }, { on := 6, ground := Ground.data }], guard := none }) (v := ?_) rfl (by kernel_rfl) (by kernel_rfl) (by kernel_rfl) (fun _ _ _ h => h) (Or.inl ⟨by rfl, ?_⟩) (by assumption) ?_
            rotate_left 1
            focus (intro w hSw; (try clear hSw); go_simp; try (with_reducible rfl))
            try go_frame
            refine wpAnyH_done (by kernel_rfl) ?_ _
            try go_wp2_with fail
            all_goals go_ret3
            all_goals exact ⟨by rw [HR.out]; rfl, hHeld⟩
          exact AllReadyH.nil
        | false =>
          have HR := Lib.hid (hG.trans (if_neg (by simpa using hd)))
          have hcmp2 : (Q.toList != (s.extract a (p + 1)).toList) = true := by unfold bne; rw [hcmp]; rfl
          clear hG hd hA hstep hc HQ hT hQ hl4
          go_wp2_with fail
          have x4 := X4.out
          refine wp_region_held_drew (S := (fun W => Below w.heap.size w W)) (by kernel_rfl) (Hb.out.drew) (fun hHeld => ?_)
          refine wpAnyH_take (i := 0) (oi := { dst := some 96, op := Op.move (Operand.tmp 12), type := 9, pos := "ref.go:300", after := #[], guard := none }) (v := ?_) rfl (by kernel_rfl) (by kernel_rfl) (by kernel_rfl) (fun _ _ _ h => h) (Or.inl ⟨by rfl, ?_⟩) (by assumption) ?_
          rotate_left 1
          focus (intro w hSw; (try clear hSw); go_simp; try (with_reducible rfl))
          try go_frame
          refine wpAnyH_take (i := 2) (oi := { dst := some 98, op := Op.move (Operand.tmp 0), type := 9, pos := "ref.go:300", after := #[], guard := none }) (v := ?_) rfl (by kernel_rfl) (by kernel_rfl) (by kernel_rfl) (fun _ _ _ h => h) (Or.inl ⟨by rfl, ?_⟩) (by assumption) ?_
          rotate_left 1
          focus (intro w hSw; (try clear hSw); go_simp; try (with_reducible rfl))
          try go_frame
          refine wpAnyH_take (i := 3) (oi := { dst := some 99, op := Op.move (Operand.tmp 1), type := 3, pos := "ref.go:300", after := #[], guard := none }) (v := ?_) rfl (by kernel_rfl) (by kernel_rfl) (by kernel_rfl) (fun _ _ _ h => h) (Or.inl ⟨by rfl, ?_⟩) (by assumption) ?_
          rotate_left 1
          focus (intro w hSw; (try clear hSw); go_simp; try (with_reducible rfl))
          try go_frame
          refine wpAnyH_take (i := 4) (oi := { dst := some 100, op := Op.move (Operand.tmp 8), type := 3, pos := "ref.go:300", after := #[], guard := none }) (v := ?_) rfl (by kernel_rfl) (by kernel_rfl) (by kernel_rfl) (fun _ _ _ h => h) (Or.inl ⟨by rfl, ?_⟩) (by assumption) ?_
          rotate_left 1
          focus (intro w hSw; (try clear hSw); go_simp; try (with_reducible rfl))
          try go_frame
          refine wpAnyH_take (i := 5) (oi := { dst := some 101, op := Op.binOp BinOp.add 3 (Operand.tmp 100) (Operand.const (Value.int IntKind.i64 1)) 3, type := 3, pos := "ref.go:300", after := #[{ on := 4, ground := Ground.data }], guard := none }) (v := ?_) rfl (by kernel_rfl) (by kernel_rfl) (by kernel_rfl) (fun _ _ _ h => h) (Or.inl ⟨by rfl, ?_⟩) (by assumption) ?_
          rotate_left 1
          focus (intro w hSw; (try clear hSw); go_simp; try (with_reducible rfl))
          try go_frame
          refine wpAnyH_take (i := 6) (oi := { dst := some 102, op := Op.slice 9 (Operand.tmp 98) (some (Operand.tmp 99)) (some (Operand.tmp 101)) none, type := 9, pos := "ref.go:300", after := #[{ on := 2, ground := Ground.data }, { on := 3, ground := Ground.data }, { on := 5, ground := Ground.data }], guard := none }) (v := ?_) rfl (by kernel_rfl) (by kernel_rfl) (by kernel_rfl) (fun _ _ _ h => h) (Or.inl ⟨by rfl, ?_⟩) (by assumption) ?_
          rotate_left 1
          focus (intro w hSw; (try clear hSw); go_simp; try (with_reducible rfl))
          try go_frame
          refine wpAnyH_ready (rs := [1]) (by kernel_rfl) (by simp) ?_
          refine AllReadyH.cons (o := { dst := some 97, op := Op.call { callee := Callee.value (Operand.func 25), args := #[Operand.tmp 96], argTypes := #[9] }, type := 9, pos := "ref.go:300", after := #[{ on := 0, ground := Ground.data }], guard := none }) rfl (fun K hK => ?_) ?_
          · go_simp
            refine (hqt.out _ hHeld).mono ?_
            rintro e w5 ⟨rfl, hb5⟩
            try go_wp2_with fail
            refine hK.out _ _ (then_ hHeld hb5) (fun hHeld => ?_)
            clear hK K
            try go_frame
            refine wpAnyH_take (i := 7) (oi := { dst := some 103, op := Op.binOp BinOp.neq 9 (Operand.tmp 97) (Operand.tmp 102) 9, type := 4, pos := "ref.go:300", after := #[{ on := 1, ground := Ground.data }, { on := 6, ground := Ground.data }], guard := none }) (v := ?_) rfl (by kernel_rfl) (by kernel_rfl) (by kernel_rfl) (fun _ _ _ h => h) (Or.inl ⟨by rfl, ?_⟩) (by assumption) ?_
            rotate_left 1
            focus (intro w hSw; (try clear hSw); go_simp; try (with_reducible rfl))
            try go_frame
            refine wpAnyH_done (by kernel_rfl) ?_ _
            try go_wp2_with fail
            all_goals go_ret3
            all_goals exact ⟨by rw [HR.out]; rfl, hHeld⟩
          exact AllReadyH.nil
      rw [if_neg c34] at hstep
      by_cases c92 : c = 92
      · subst c92
        rw [if_pos rfl] at hstep
        have hub := fun w2 => escape_any s p hlt (by omega) w2
        have hle := unescL_le s (p + 1) (by omega)
        have hlen := unescL_len s (p + 1)
        obtain ⟨⟨x, n⟩, hxn⟩ : ∃ y, unescL s (p + 1) = y := ⟨_, rfl⟩
        rw [hxn] at hub hstep hle hlen
        simp only at hstep hle hlen
        by_cases hn : n = 0
        · subst hn
          have HR := Lib.hid (unq_ans ha HQ.out hA.out (hstep.trans (if_pos rfl)))
          have hub0 := Lib.hid (fun w2 => (hub w2).mono fun e w' ⟨h, hb⟩ => (⟨h.none_ rfl, hb⟩ : e = Ending.returned (.tuple #[.slice none 0 0, .int .i64 0]) ∧ Below w2.heap.size w2 w'))
          clear hA hstep hxn HQ hc hub
          go_wp2_with (go_at_call 48; (with_reducible refine (hub0.out _).mono ?_); rintro e w3 ⟨rfl, hb3⟩; have Hb3 := Lib.hid (then_ Hb.out hb3); clear hb3)
          all_goals go_ret3
          all_goals exact ⟨by rw [HR.out]; rfl, Hb3.out⟩
        · have hst := Lib.hid (unqAt_step hA.out (hstep.trans (if_neg hn)) hlen (by omega))
          have hub1 := Lib.hid (fun w2 => (hub w2).mono fun e w' ⟨h, hb⟩ => (⟨h.some_ hn, hb⟩ : (∃ g c, e = Ending.returned (.tuple #[.slice (some ⟨g, 0, none⟩) x.length c, .int .i64 ((n + 1 : Nat) : Int)]) ∧ ∀ j u, (Lib.byteCells x)[j]? = some u → w'.cell? ((⟨g, 0, none⟩ : Addr).add j) = some u) ∧ Below w2.heap.size w2 w'))
          obtain ⟨N, hN⟩ : ∃ N, n + 1 = N := ⟨_, rfl⟩
          rw [hN] at hub1
          have hN0 : ((N : Int) == 0) = false := by rw [beq_eq_false_iff_ne]; omega
          have y6 : (p : Int) + (N : Int) = ((p + 1 + n : Nat) : Int) := by omega
          have Y6 := Lib.hid y6
          have y7 : (p : Int) + (N : Int) ≤ (s.size : Int) := by omega
          have n0 : (0 : Int) ≤ (N : Int) := by omega
          have xl : (Lib.byteCells x).length = x.length := bytes_len x
          have hmes : s.size - (p + 1 + n) < s.size - p := by omega
          clear hA hstep hxn hn hub hN y6
          go_wp2_with (first
            | (go_at_call 48; (with_reducible refine (hub1.out _).mono ?_); rintro e w3 ⟨⟨g, cp, rfl, hcells⟩, hb3⟩; have HC3 := Lib.hid hcells; have HW3 := Lib.hid hb3; have Hb3 := Lib.hid (then_ Hb.out hb3); clear hb3 hcells)
            | (at_builtin; refine wpList_append_own _ rfl _ _ 81 rfl w.heap.size 5 i0 (.int .u8 0) 1 1 Tryd.underlying81 hi hz0 hz1 hz2 rfl (by decide) _ acc.length (Lib.byteCells acc) rfl (own_through HO.out HW3.out) ⟨g, 0, none⟩ x.length cp (Lib.byteCells x) rfl (by rw [xl]; first | rfl | omega) ?c1 ?c2 ?c3 ?c4 ?c5 ?_))
          case c1 => exact HC3.out
          case c2 => intro u hu; simp only [Lib.byteCells, List.mem_map] at hu; obtain ⟨b, _, rfl⟩ := hu; rfl
          case c3 => unfold maxLen; omega
          case c4 => omega
          case c5 => have := HW3.out.size; omega
          intro v' w5 hown5 hgrow5 _
          have HB5 : Hid (Below w.heap.size w w5) := Lib.hid (Hb3.out.grown hgrow5 (Hb3.out.size) (fun b hb => (HO.out.lt b hb).1))
          have HO5 : Hid (ByteRow w.heap.size (acc ++ x) v' w5) := Lib.hid (byteRow_add hown5)
          clear hown5 hgrow5
          go_wp2
          all_goals go_roundw
          case rel => exact ⟨p + 1 + n, acc ++ x, by first | rfl | (rw [Y6.out]) | (simp only [Y6.out]), by omega, by omega, HO5.out, HB5.out, hst⟩
          case measure => have := Y6.out; simp [intOf]; omega
      rw [if_neg c92] at hstep
      have e34 : ((c.toNat : Int) != 34) = true := by rw [bne_iff_ne]; exact ne_int (k := 34) c34
      have e92 := ne_int (k := 92) c92
      clear c34 c92
      obtain ⟨C, hC⟩ : ∃ C : Int, (c.toNat : Int) = C := ⟨_, rfl⟩
      rw [hC] at e34 e92
      have hpc := fun w => piece_any s p hlt (by omega) w
      have hle := width_le' hlt
      have hgt := next_gt hlt
      have hlen := partL_len s p (Utf8.decode s p).2
      have hw4 := width4 s p
      have hpe : pieceR s p = if strayAt s p = true then -1 else ((Utf8.decode s p).1 : Int) := rfl
      unfold pieceV at hpc
      have hyy : Lib.strCells (s.extract p (nextPos s p)) = Lib.byteCells (partL s p (Utf8.decode s p).2) := by
        rw [← cell_str]
        congr 1
        apply ByteArray.ext
        apply Array.toList_inj.1
        rw [part_extract]
        unfold nextPos
        rw [Nat.add_sub_cancel_left]
      have hyl : (s.extract p (nextPos s p)).size = (partL s p (Utf8.decode s p).2).length := by
        have := congrArg List.length hyy
        rw [bytes_len] at this
        rw [← this]
        exact (Lib.strCells_length _).symm
      obtain ⟨q, hqq⟩ : ∃ q, nextPos s p = q := ⟨_, rfl⟩
      have hqn : p + (Utf8.decode s p).2 = q := hqq
      rw [hqq] at hgt hle hyy hstep hyl
      obtain ⟨r, hr⟩ : ∃ r, (Utf8.decode s p).1 = r := ⟨_, rfl⟩
      obtain ⟨n, hn⟩ : ∃ n, (Utf8.decode s p).2 = n := ⟨_, rfl⟩
      rw [hr] at hpe hstep
      rw [hn] at hpc hstep hlen hw4 hyy hqn hyl
      obtain ⟨y, hy⟩ : ∃ y, partL s p n = y := ⟨_, rfl⟩
      rw [hy] at hstep hlen hyy hyl
      obtain ⟨b, hbb⟩ : ∃ b, strayAt s p = b := ⟨_, rfl⟩
      rw [hbb] at hstep hpe
      obtain ⟨R, hR⟩ : ∃ R, pieceR s p = R := ⟨_, rfl⟩
      rw [hR] at hpc hpe
      have hpc := Lib.hid hpc
      have HY := Lib.hid hyy
      clear hyy hr hn hqq hbb hy hR
      have v0 : IntKind.i64.wrap ((p : Int) + (n : Int)) = (q : Int) := by simp [IntKind.wrap, IntKind.bits, IntKind.signed]; omega
      have v1 : (p : Int) + (n : Int) = (q : Int) := by omega
      have v2 : (p : Int) ≤ (q : Int) := by omega
      have v3 : (q : Int) ≤ (s.size : Int) := by omega
      have v4 : q ≤ s.size := hle
      have hhi := fun w h => isHidden_any (r : Int) w h
      rw [hiddenI_nat] at hhi
      by_cases k0 : b = true ∨ r < 32 ∨ r = 127 ∨ hiddenB r = true
      · have HR := Lib.hid (unq_ans ha HQ.out hA.out (hstep.trans (if_pos k0)))
        clear hA hstep HQ hc
        by_cases k1 : R < 32
        · clear hpe k0 hqn hhi
          go_wp2_with (first
            | (go_at_call 49; (with_reducible refine (hpc.out _).mono ?_); rintro e w2 ⟨rfl, hb2⟩; have HB2 := Lib.hid hb2; clear hb2))
          all_goals go_ret3
          all_goals exact ⟨by rw [HR.out]; rfl, then_ Hb.out (HB2.out.alloc HB2.out.size _)⟩
        have hb0 : b = false := by
          cases b with
          | true => rw [if_pos rfl] at hpe; omega
          | false => rfl
        rw [hb0, if_neg (by simp)] at hpe
        by_cases k3 : R = 127
        · subst k3
          clear k0 hqn hhi hpe k1
          go_wp2_with (first
            | (go_at_call 49; (with_reducible refine (hpc.out _).mono ?_); rintro e w2 ⟨rfl, hb2⟩; have HB2 := Lib.hid hb2; clear hb2))
          all_goals go_ret3
          all_goals exact ⟨by rw [HR.out]; rfl, then_ Hb.out (HB2.out.alloc HB2.out.size _)⟩
        have R3 : (R == 127) = false := by rw [beq_eq_false_iff_ne]; exact k3
        have hh1 : hiddenB r = true := by
          rcases k0 with h | h | h | h
          · rw [hb0] at h; cases h
          · omega
          · omega
          · exact h
        rw [hh1, ← hpe] at hhi
        have hhi := Lib.hid hhi
        clear k0 hqn hpe hb0 hh1 k3
        go_wp2_with (first
          | (go_at_call 49; (with_reducible refine (hpc.out _).mono ?_); rintro e w2 ⟨rfl, hb2⟩; have HB2 := Lib.hid hb2; clear hb2)
          | (go_at_call 50; (with_reducible refine (hhi.out _ (PairsAt.below HHr.out (HB2.out.alloc HB2.out.size _))).mono ?_); rintro e w3 ⟨rfl, hd⟩; obtain ⟨x0, x1, x2, hb⟩ := box3 hd; have HB3 := Lib.hid (then_ HB2.out hb); clear hb hd))
        all_goals go_ret3
        all_goals exact ⟨by rw [HR.out]; rfl, then_ Hb.out HB3.out⟩
      · have hst := Lib.hid (unqAt_step hA.out (hstep.trans (if_neg k0)) (by omega) hgt)
        have hmes : s.size - q < s.size - p := by omega
        simp only [not_or] at k0
        obtain ⟨k1, k2, k3, k4⟩ := k0
        have hh1 : hiddenB r = false := by simpa using k4
        rw [if_neg k1] at hpe
        rw [hh1, ← hpe] at hhi
        have hhi := Lib.hid hhi
        have R2 : ¬ R < 32 := by omega
        have R3 : (R == 127) = false := by rw [beq_eq_false_iff_ne]; omega
        clear k1 k2 k3 k4 hpe hh1 hA hstep HQ hc hqn
        go_wp2_with (first
          | (go_at_call 49; (with_reducible refine (hpc.out _).mono ?_); rintro e w2 ⟨rfl, hb2⟩; have HB2 := Lib.hid hb2; clear hb2)
          | (go_at_call 50; (with_reducible refine (hhi.out _ (PairsAt.below HHr.out (HB2.out.alloc HB2.out.size _))).mono ?_); rintro e w3 ⟨rfl, hd⟩; obtain ⟨x0, x1, x2, hb⟩ := box3 hd; have HB3 := Lib.hid (then_ HB2.out hb); clear hb hd)
          | (at_builtin; refine Lib.wpList_append_own_string _ rfl _ _ 81 9 rfl w.heap.size 5 i0 Tryd.underlying81 Tryd.underlying9 hi hz0 hz1 hz2 _ acc.length (Lib.byteCells acc) rfl (own_through HO.out HB3.out) (s.extract p q) rfl ?c3 ?c4 ?c5 ?_))
        case c3 => unfold maxLen; omega
        case c4 => omega
        case c5 => have := HB3.out.size; omega
        intro v' w5 hown5 hgrow5 _
        have hne : some w2.heap.size ≠ u7.ownBlock := own_ne HO.out HB2.out.size
        have x2' : w5.cell? ⟨w2.heap.size, 2, none⟩ = some (.int .i64 (n : Int)) := cell_grown hgrow5 x2 hne
        have HB5 : Hid (Below w.heap.size w w5) := Lib.hid ((then_ Hb.out HB3.out).grown hgrow5 ((then_ Hb.out HB3.out).size) (fun b hb => (HO.out.lt b hb).1))
        have HO5 : Hid (ByteRow w.heap.size (acc ++ y) v' w5) := Lib.hid (byteRow_add (by rw [← HY.out]; exact hown5))
        clear hown5 hgrow5 x0 x1 x2 hne
        go_wp2
        all_goals go_roundw
        case rel => exact ⟨q, acc ++ y, by first | rfl | (simp only [v1]), by omega, v4, HO5.out, HB5.out, hst⟩
        case measure => simp [intOf]; omega
    · obtain rfl : p = s.size := by omega
      have HR := Lib.hid (unq_ans ha HQ.out hA.out (unqFrom_open hlt))
      clear hA HQ hlt
      go_wp2
      all_goals go_ret3
      all_goals exact ⟨by rw [HR.out]; rfl, Hb.out⟩
theorem refUnquote_any (s : ByteArray) (a : Int) (hs : s.size ≤ 274877906944) (w : World) (hH : RefHid w) :
    Calls Tryd.prog 23 #[.string s, .int .i64 a] w fun e w' => e = .returned (unqV (unquoteR s a)) ∧ Below w.heap.size w w' := by
  by_cases h : a < 0 ∨ (s.size : Int) < a
  · exact refUnquote_out s a h w
  · obtain ⟨p, rfl⟩ : ∃ p : Nat, a = (p : Int) := ⟨a.toNat, by omega⟩
    by_cases h2 : p = s.size ∨ s.get! p ≠ 34
    · exact refUnquote_no s p (by omega) h2 w
    · simp only [not_or] at h2
      exact refUnquote_in s p (by omega) (by simpa using h2.2) hs w hH
end Go.Proofs.YtepmfjhhmnmmeaaDoor
