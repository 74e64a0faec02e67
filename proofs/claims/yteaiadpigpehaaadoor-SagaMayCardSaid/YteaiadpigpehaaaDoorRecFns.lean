/-
  record.stands, number, zero, within, label, bounds walked. Conditions: the tables of letters and of unicode/utf8 as laid.
-/
import Derived.Test.YteaiadpigpehaaaDoorSagaCheck
import Derived.Laws.BytesArg
namespace Go.Proofs.YteaiadpigpehaaaDoor
open Go.RowKit

def standsB (tags tag : Nat) : Bool := bits BinOp.and IntKind.u16 ((tags : Int) / 2 ^ tag) 1 == 1
def numberN (r : RecV) : Nat → Int
  | 1 => r.kind | 2 => r.saga | 3 => r.step | 4 => r.try_ | 5 => r.at_ | 6 => r.last | 7 => r.code | 8 => r.count | 9 => r.pivot | _ => 0
def zeroB (r : RecV) (tag : Nat) : Bool := if tag = 10 then r.name.toList.isEmpty else if tag = 11 then ((r.data.n : Int) == 0) else (numberN r tag == 0)
def withinN (n lo hi : Int) : Int := if n < lo ∨ hi < n then 34 else 0
def labelN (s : ByteArray) : Int := if (nameA s).1 = 0 then 0 else 35
def boundsN (r : RecV) (d : List Int) (tag : Nat) : Int :=
  if tag = 3 then (if r.v = 1 ∧ r.kind = 1 then withinN r.step 1 32 else withinN r.step 0 31)
  else if tag = 4 then withinN r.try_ 1 1000
  else if tag = 5 then withinN r.at_ 0 9223372036854775807
  else if tag = 6 then withinN r.last 0 1
  else if tag = 7 then (if r.kind = 7 then withinN r.code 0 2 else 0)
  else if tag = 8 then withinN r.count 1 32
  else if tag = 9 then withinN r.pivot 0 r.count
  else if tag = 10 then labelN r.name
  else if r.data.n > 16384 then 36
  else if r.v = 1 ∧ r.kind = 1 then labelN (strOfNums d) else 0

theorem stands_any (tags tag : Nat) (_h0 : tags < 65536) (h1 : tag < 12) (w : World) :
    Calls Tryd.prog 69 #[.int .u16 tags, .int .i64 tag] w fun e w' => e = .returned (.bool (standsB tags tag)) ∧ w' = w := by
  go_enter Tryd.func69, Tryd.ntmps69
  go_wp2
  all_goals go_ret
  all_goals exact ⟨rfl, rfl⟩

theorem recWithin_any (n lo hi : Int) (w : World) :
    Calls Tryd.prog 96 #[.int .i64 n, .int .i64 lo, .int .i64 hi] w fun e w' => e = .returned (.int .i64 (withinN n lo hi)) ∧ w' = w := by
  unfold withinN
  by_cases h1 : n < lo
  · rw [if_pos (.inl h1)]
    go_enter Tryd.func96, Tryd.ntmps96
    go_wp2
    all_goals go_ret
    all_goals exact ⟨rfl, rfl⟩
  by_cases h2 : hi < n
  · rw [if_pos (.inr h2)]
    go_enter Tryd.func96, Tryd.ntmps96
    go_wp2
    all_goals go_ret
    all_goals exact ⟨rfl, rfl⟩
  · rw [if_neg (by omega)]
    go_enter Tryd.func96, Tryd.ntmps96
    go_wp2
    all_goals go_ret
    all_goals exact ⟨rfl, rfl⟩

theorem label_any (s : ByteArray) (w : World) (hn : s.size ≤ 4611686018427387904) (ht : Tabs w) :
    Calls Tryd.prog 97 #[.string s] w fun e w' => e = .returned (.int .i64 (labelN s)) ∧ Below w.heap.size w w' := by
  have cN := name_any s w hn ht.u8 ht.lt
  unfold labelN
  obtain ⟨a, ha⟩ : ∃ x, (nameA s).1 = x := ⟨_, rfl⟩
  obtain ⟨b, hb⟩ : ∃ x, (nameA s).2 = x := ⟨_, rfl⟩
  rw [ha, hb] at cN
  rw [ha]
  have CN := Lib.hid cN
  clear cN ha hb
  by_cases h0 : a = 0
  · rw [if_pos h0]
    subst h0
    go_enter Tryd.func97, Tryd.ntmps97
    go_wp2_with (go_at_call 84; (with_reducible refine CN.out.mono ?_); rintro e w2 ⟨rfl, hb⟩)
    all_goals go_ret
    all_goals exact ⟨rfl, hb⟩
  · rw [if_neg h0]
    go_enter Tryd.func97, Tryd.ntmps97
    go_wp2_with (go_at_call 84; (with_reducible refine CN.out.mono ?_); rintro e w2 ⟨rfl, hb⟩)
    all_goals go_ret
    all_goals exact ⟨rfl, hb⟩

set_option maxRecDepth 100000 in
theorem number_any (g tag : Nat) (h1 : 3 ≤ tag) (h2 : tag ≤ 9) (w : World) :
    Calls Tryd.prog 95 #[.pointer (some ⟨g, 0, none⟩), .int .i64 tag] w fun e w' => e = .returned (.pointer (some ⟨g, tag, none⟩)) ∧ w' = w := by
  have h : tag = 3 ∨ tag = 4 ∨ tag = 5 ∨ tag = 6 ∨ tag = 7 ∨ tag = 8 ∨ tag = 9 := by omega
  rcases h with rfl | rfl | rfl | rfl | rfl | rfl | rfl
  all_goals
    clear h1 h2
    go_enter Tryd.func95, Tryd.ntmps95
    go_wp2
    all_goals go_ret
    all_goals exact ⟨rfl, rfl⟩

set_option maxRecDepth 100000 in
theorem zero_any (g tag : Nat) (r : RecV) (h1 : 3 ≤ tag) (h2 : tag ≤ 11) (w : World) (hr : RecIn w g 0 r) :
    Calls Tryd.prog 70 #[.pointer (some ⟨g, 0, none⟩), .int .i64 tag] w fun e w' => e = .returned (.bool (zeroB r tag)) ∧ w' = w := by
  have c := fun h1 h2 => number_any g tag h1 h2 w
  obtain ⟨c0, c1, c2, c3, c4, c5, c6, c7, c8, c9, c10, c11⟩ := hr
  obtain ⟨v, kind, saga, step, try_, at_, last, code, count, pivot, name, ⟨da, dn, dc⟩⟩ := r
  simp only [Nat.zero_add] at c0 c1 c2 c3 c4 c5 c6 c7 c8 c9 c10 c11
  dsimp only [Sl.v] at c11
  have h : tag = 3 ∨ tag = 4 ∨ tag = 5 ∨ tag = 6 ∨ tag = 7 ∨ tag = 8 ∨ tag = 9 ∨ tag = 10 ∨ tag = 11 := by omega
  rcases h with rfl | rfl | rfl | rfl | rfl | rfl | rfl | rfl | rfl
  all_goals
    first
    | (have c := c (by decide) (by decide); push_cast at c; have c := Lib.hid c)
    | clear c
    clear h1 h2
    go_enter Tryd.func70, Tryd.ntmps70
    go_wp2_with (go_at_call 95; (with_reducible refine c.out.mono ?_); rintro e w2 ⟨rfl, rfl⟩)
    all_goals go_ret
    all_goals exact ⟨rfl, rfl⟩

theorem bytes_string {P : Program} {w : World} {s : Sl} {d : List Int} {src dst e : TypeId} (h : BytesAt w s d) (hs : P.underlying src = some (.slice e)) (he : P.underlying e = some (.int .u8)) (hd : P.underlying dst = some .string) :
    (convert src dst s.v).run P w = .ok (.string (strOfNums d)) w := by
  have hl := h.len
  obtain ⟨_, _, hc⟩ := h
  obtain ⟨a, n, c⟩ := s
  simp only at hl hc
  by_cases h0 : n = 0
  · subst h0
    obtain rfl : d = [] := List.eq_nil_of_length_eq_zero hl.symm
    cases a with
    | none => exact run_convert_bytes_nil w src e hs he 0 c dst hd
    | some a =>
      rw [Sl.v, run_convert_bytes_string w src dst e _ 0 c hs he hd, run_bytesToString w a 0 c [] (by simp [loadCells, loadCellsFrom])]
      rfl
  · obtain ⟨b, o, rfl, hcc⟩ := hc (by omega)
    exact run_convert_bytes_arg w src e hs he b o n c d hl.symm (fun i hi => by
      rw [hcc i hi]
      simp [byteCells, List.getD, hl ▸ hi]) dst hd

theorem within_is {n lo hi r : Int} (h : withinN n lo hi = r) (w : World) : Calls Tryd.prog 96 #[.int .i64 n, .int .i64 lo, .int .i64 hi] w fun e w' => e = .returned (.int .i64 r) ∧ w' = w := by
  rw [← h]; exact recWithin_any n lo hi w

set_option maxRecDepth 10000000 in
set_option maxHeartbeats 4000000 in
theorem bounds_any (g tag : Nat) (r : RecV) (d : List Int) (h1 : 3 ≤ tag) (h2 : tag ≤ 11) (w : World) (hn : r.name.size ≤ 4611686018427387904) (ht : Tabs w) (hr : RecIn w g 0 r) (hd : BytesAt w r.data d) (hdl : d.length ≤ 4611686018427387904) :
    Calls Tryd.prog 71 #[.pointer (some ⟨g, 0, none⟩), .int .i64 tag] w fun e w' => e = .returned (.int .i64 (boundsN r d tag)) ∧ Below w.heap.size w w' := by
  have hlen := hd.len
  have hcv := bytes_string (P := Tryd.prog) (dst := 9) hd Tryd.underlying22 Tryd.underlying5 Tryd.underlying9
  obtain ⟨c0, c1, c2, c3, c4, c5, c6, c7, c8, c9, c10, c11⟩ := hr
  have cL := Lib.hid (label_any r.name w hn ht)
  have hB := Below.refl w.heap.size w
  have HT := Lib.hid ht
  obtain ⟨v, kind, saga, step, try_, at_, last, code, count, pivot, name, ⟨da, dn, dc⟩⟩ := r
  simp only [Nat.zero_add] at c0 c1 c2 c3 c4 c5 c6 c7 c8 c9 c10 c11
  dsimp only [Sl.v] at c11 hcv
  simp only at hlen hn
  clear hd ht
  subst hlen
  have hz : (strOfNums d).size ≤ 4611686018427387904 := by rw [strOfNums_size]; omega
  have h : tag = 3 ∨ tag = 4 ∨ tag = 5 ∨ tag = 6 ∨ tag = 7 ∨ tag = 8 ∨ tag = 9 ∨ tag = 10 ∨ tag = 11 := by omega
  rcases h with rfl | rfl | rfl | rfl | rfl | rfl | rfl | rfl | rfl
  all_goals clear h1 h2
  all_goals
    go_enter Tryd.func71, Tryd.ntmps71
    go_wp2_with (first
      | (go_at_call 96; (with_reducible refine (recWithin_any _ _ _ _).mono ?_); rintro e w2 ⟨rfl, rfl⟩)
      | (go_at_call 97; (with_reducible refine cL.out.mono ?_); rintro e w2 ⟨rfl, hB⟩)
      | (go_at_call 97; (with_reducible refine (label_any (strOfNums d) w hz HT.out).mono ?_); rintro e w2 ⟨rfl, hB⟩))
    all_goals try (go_quiet ((go_at_call 96; exact Calls.quiet_of_same (recWithin_any _ _ _ _))); go_wp2)
    all_goals go_ret
    all_goals refine ⟨ret_int ?_, by first | exact hB | exact Drawn.below ⟨⟨_, rfl⟩⟩⟩
    all_goals (simp_all [boundsN] <;> omega)
end Go.Proofs.YteaiadpigpehaaaDoor
