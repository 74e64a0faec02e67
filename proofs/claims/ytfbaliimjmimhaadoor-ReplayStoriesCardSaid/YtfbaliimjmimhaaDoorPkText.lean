/-
  Words of this seat's proofs: worlds that have only drawn orders, tables of pairs, and how a listed variable's reading gives its cells.
  What the two tables of letters answer: text.Letter and the reference's Letter at any number.
  Runes of a text as plain Lean: where the k-th piece begins, which bytes are stray, the first k pieces; no program.
  text.stray walked.
  A text's iterator in a world.
  annalsref2.piece walked: what stands at a place of a text is what the model's own decoding says.
  annalsref2.piece walked: what stands at a place of a text is what the model's own decoding says.
  annalsref2.Pieces walked: all of a text's pieces, in a list of the call's own.
  annalsref2.Pieces: the list as it is read.
  text.inName, annalsref2.nameRune, text.Name and annalsref2.Name walked: one answer of any text.
  text.Name and annalsref2.Name walked: one answer of any text.
  annalsref2.Name walked: one answer of any text, the very one of text.Name.
  Conditions: as each theorem says. (Joined by wip/tools/pack.py.)
-/
import Derived.Test.YtfbaliimjmimhaaDoorProg
import Derived.Below
import Derived.WalkKit
import Derived.KernelRfl
import Derived.Deep.LoopGhost
import Derived.Deep.QuietTactic
import Derived.BigQuiet
import Derived.Lib.Hide
import Derived.Lib.LaidU8
import Derived.Laws.Runes
import Derived.Laws.RangeAny
import Derived.Lib.RuneCount
import Derived.Lib.RuneCountTail
import Derived.Lib.QuoteLoop
import Derived.Lib.DecodeN
import Derived.Shelf.Unicode.DecodeSlow
import Derived.Test.YtfbaliimjmimhaaDoorShelf
import Derived.Lib.OthersKept
import Derived.OwnWalk
namespace Go.Proofs.YtfbaliimjmimhaaDoor
open Go.RowKit

/-- The world is the old one, some orders having been drawn. -/
structure Drawn (w w' : World) : Prop where mk :: (out : ∃ n, w' = w.drewN n)
theorem Drawn.refl (w : World) : Drawn w w := ⟨⟨0, rfl⟩⟩
theorem Drawn.step {w w' : World} (h : Drawn w w') (n : Nat) : Drawn w (w'.drewN n) := by
  obtain ⟨m, rfl⟩ := h
  exact ⟨⟨m + n, World.drewN_drewN ..⟩⟩
theorem Drawn.trans {w w' w'' : World} (h : Drawn w w') (k : Drawn w' w'') : Drawn w w'' := by
  obtain ⟨m, rfl⟩ := k
  exact h.step m
theorem Drawn.cell {w w' : World} (h : Drawn w w') (a : Addr) : w'.cell? a = w.cell? a := by
  obtain ⟨m, rfl⟩ := h
  rfl
theorem Drawn.grown {w w' : World} (h : Drawn w w') : Grown w w' := by
  obtain ⟨n, rfl⟩ := h
  induction n with
  | zero => exact Grown.refl _
  | succ n ih => rw [← World.drew_drewN]; exact Grown.drew ih
theorem Drawn.below {w w' : World} (h : Drawn w w') : Below w.heap.size w w' := by
  obtain ⟨n, rfl⟩ := h
  induction n with
  | zero => exact Below.refl _ _
  | succ n ih => rw [← World.drew_drewN]; exact ih.drew

/-- A table of pairs at a variable's block. -/
def PairsAt (k : IntKind) (g : Nat) (t : List (Int × Int)) (w : World) : Prop :=
  ∀ i, i < t.length → w.cell? ⟨g, i * 2, none⟩ = some (.int k (t.getD i (0, 0)).1) ∧ w.cell? ⟨g, i * 2 + 1, none⟩ = some (.int k (t.getD i (0, 0)).2)
theorem PairsAt.drawn {k : IntKind} {g : Nat} {t : List (Int × Int)} {w w' : World} (h : PairsAt k g t w) (hd : Drawn w w') : PairsAt k g t w' := fun i hi =>
  ⟨(hd.cell _).trans (h i hi).1, (hd.cell _).trans (h i hi).2⟩
theorem PairsAt.below {k : IntKind} {g : Nat} {t : List (Int × Int)} {w w' : World} (h : PairsAt k g t w) (hb : Below w.heap.size w w') : PairsAt k g t w' := fun i hi =>
  ⟨(hb.cell (World.block_lt_of_cell? w _ (h i hi).1)).trans (h i hi).1, (hb.cell (World.block_lt_of_cell? w _ (h i hi).2)).trans (h i hi).2⟩

/-- The datum of a table of pairs. -/
def pairsData (k : IntKind) (t : List (Int × Int)) : DataW Unit := .agg (t.map fun p => .agg ([p.1, p.2].map fun z => .lit (.int k z)))

/-- An array of structs of two whole numbers of one kind, as it is listed. -/
theorem pairsAt_structs {P : Program} {w : World} {name : String} {k : IntKind} {g : Nat} {ty e ei : TypeId} {fs : Array Field} {t : List (Int × Int)} (hg : P.globalNamed name = some g) (hty : (P.globals[g]?).map (·.type) = some ty) (hu : P.underlying ty = some (.array t.length e))
    (he : P.underlying e = some (.struct fs)) (h0 : fs.toList.map (fun f => (f.type, f.offset)) = [(ei, 0), (ei, 1)]) (hei : P.underlying ei = some (.int k)) (c1 : P.cellsOf ei = 1) (c2 : P.cellsOf e = 2) (h : Lib.VarReads P w name (pairsData k t)) : PairsAt k g t w := by
  obtain ⟨g', ty', cs, fuel, p, hg', hty', hvar, hd⟩ := h
  obtain rfl := Option.some.inj (hg.symm.trans hg')
  obtain rfl := Option.some.inj (hty.symm.trans hty')
  intro i hi
  obtain ⟨fuel', d, q, hdi, hed⟩ := Lib.array_elem hu hd i hi
  simp only [List.getElem?_map, List.getElem?_eq_getElem hi, Option.map_some, Option.some.injEq] at hdi
  subst hdi
  rw [c2] at hed
  have hsz : fs.size = 2 := by have := congrArg List.length h0; simpa using this
  have hcs := Lib.ints_of_struct he (fun j f hj => by
    have hj' : (fs.toList.map (fun f => (f.type, f.offset)))[j]? = some (f.type, f.offset) := by simp [hj]
    rw [h0] at hj'
    match j, hj' with
    | 0, hj' => simp at hj'; rw [← hj'.1, ← hj'.2]; exact ⟨hei, rfl, c1⟩
    | 1, hj' => simp at hj'; rw [← hj'.1, ← hj'.2]; exact ⟨hei, rfl, c1⟩
    | j + 2, hj' => simp at hj') (by rw [c2, hsz]) hed
  have e0 := congrArg (·[0]?) hcs
  have e1 := congrArg (·[1]?) hcs
  simp only [List.getElem?_take, List.getElem?_drop] at e0 e1
  have eg : t.getD i (0, 0) = t[i] := by simp [List.getD, hi]
  rw [eg]
  constructor
  · rw [World.var?_cell hg hvar (i * 2), ← Array.getElem?_toList]
    simpa using e0
  · rw [World.var?_cell hg hvar (i * 2 + 1), ← Array.getElem?_toList]
    simpa using e1

/-- An array of arrays of two whole numbers, as it is listed. -/
theorem pairsAt_arrays {P : Program} {w : World} {name : String} {k : IntKind} {g : Nat} {ty e ei : TypeId} {t : List (Int × Int)} (hg : P.globalNamed name = some g) (hty : (P.globals[g]?).map (·.type) = some ty) (hu : P.underlying ty = some (.array t.length e))
    (he : P.underlying e = some (.array 2 ei)) (hei : P.underlying ei = some (.int k)) (c1 : P.cellsOf ei = 1) (c2 : P.cellsOf e = 2) (h : Lib.VarReads P w name (pairsData k t)) : PairsAt k g t w := by
  obtain ⟨g', ty', cs, fuel, p, hg', hty', hvar, hd⟩ := h
  obtain rfl := Option.some.inj (hg.symm.trans hg')
  obtain rfl := Option.some.inj (hty.symm.trans hty')
  intro i hi
  obtain ⟨fuel', d, q, hdi, hed⟩ := Lib.array_elem hu hd i hi
  simp only [List.getElem?_map, List.getElem?_eq_getElem hi, Option.map_some, Option.some.injEq] at hdi
  subst hdi
  rw [c2] at hed
  have hcs := Lib.cells_of_tab (k := k) (zs := [t[i].1, t[i].2]) he hei c1 c2 hed
  have e0 := congrArg (·[0]?) hcs
  have e1 := congrArg (·[1]?) hcs
  simp only [List.getElem?_take, List.getElem?_drop] at e0 e1
  have eg : t.getD i (0, 0) = t[i] := by simp [List.getD, hi]
  rw [eg]
  constructor
  · rw [World.var?_cell hg hvar (i * 2), ← Array.getElem?_toList]
    simpa using e0
  · rw [World.var?_cell hg hvar (i * 2 + 1), ← Array.getElem?_toList]
    simpa using e1

theorem ret_str {a b : ByteArray} (h : a = b) : Ending.returned (.string a) = .returned (.string b) := by rw [h]
theorem ret_bool {a b : Bool} (h : a = b) : Ending.returned (.bool a) = .returned (.bool b) := by rw [h]
theorem ret_int {k : IntKind} {a b : Int} (h : a = b) : Ending.returned (.int k a) = .returned (.int k b) := by rw [h]
theorem any_take {α : Type} (l : List α) (p : α → Bool) (d : α) (k : Nat) (h : k < l.length) : (l.take (k + 1)).any p = ((l.take k).any p || p (l.getD k d)) := by
  rw [List.take_succ_eq_append_getElem h, List.any_append]
  simp [List.getD, h]
theorem any_at {α : Type} (l : List α) (p : α → Bool) (d : α) (k : Nat) (h : k < l.length) (hp : p (l.getD k d) = true) : l.any p = true := by
  rw [List.any_eq_true]
  refine ⟨l[k], List.getElem_mem h, ?_⟩
  simpa [List.getD, h] using hp
theorem grown_below' {w w1 : World} (h : Below w.heap.size w w1) (row : Option Nat) : w.grownBy w1 row := ⟨h.os, h.tape, h.output, h.size, fun i hi _ => h.block i hi⟩
theorem own_through {w w1 : World} {base : Nat} {e : TypeId} {size n : Nat} {v : Value} {xs : List Value} (h : w.ownsRow base e size v n xs) (hb : Below w.heap.size w w1) : w1.ownsRow base e size v n xs :=
  h.kept (grown_below' hb none) (by cases v.ownBlock <;> simp)
theorem own_ne {w : World} {base : Nat} {e : TypeId} {size n b : Nat} {v : Value} {xs : List Value} (h : w.ownsRow base e size v n xs) (hb : w.heap.size ≤ b) : some b ≠ v.ownBlock := by
  intro hk
  have := (h.lt b hk.symm).2
  omega
theorem cell_grown {W w3 : World} {row : Option Nat} (hg : W.grownBy w3 row) {b o : Nat} {v : Value} (hc : W.cell? ⟨b, o, none⟩ = some v) (hne : some b ≠ row) : w3.cell? ⟨b, o, none⟩ = some v :=
  (World.cell?_of_block (w := W) (hg.block b (World.block_lt_of_cell? W _ hc) hne)).trans hc
/-- Behind a call that leaves what was below it. -/
theorem then_ {w wr w2 : World} (hb : Below w.heap.size w wr) (h : Below wr.heap.size wr w2) : Below w.heap.size w w2 := hb.trans (h.mono hb.size)
theorem addr_add (b j : Nat) : (⟨b, 0, none⟩ : Addr).add j = ⟨b, j, none⟩ := by
  unfold Addr.add
  split <;> simp_all
theorem cells_new (w : World) (l : List Value) (t : TypeId) (j : Nat) (u : Value) (h : l[j]? = some u) : (w.alloc (.cells l.toArray t)).cell? ((⟨w.heap.size, 0, none⟩ : Addr).add j) = some u := by
  rw [addr_add]
  have e : (w.alloc (.cells l.toArray t)).heap[w.heap.size]? = some (.cells l.toArray t) := by
    show (w.heap.push _)[w.heap.size]? = _
    simp
  unfold World.cell?
  rw [e]
  simp [h]
theorem cells_new1 (w : World) (o : Obj) (l : List Value) (t : TypeId) (j : Nat) (u : Value) (h : l[j]? = some u) : ((w.alloc o).alloc (.cells l.toArray t)).cell? ((⟨w.heap.size + 1, 0, none⟩ : Addr).add j) = some u := by
  have := cells_new (w.alloc o) l t j u h
  simpa using this
theorem own_lower {w : World} {b base : Nat} {e : TypeId} {size n : Nat} {v : Value} {xs : List Value} (h : w.ownsRow b e size v n xs) (hle : base ≤ b) : w.ownsRow base e size v n xs := by
  refine ⟨h.1, ?_⟩
  rcases h.2 with h2 | ⟨g, cap, cur, h2, h3, h4⟩
  · exact .inl h2
  · exact .inr ⟨g, cap, cur, h2, by omega, h4⟩
end Go.Proofs.YtfbaliimjmimhaaDoor
namespace Go.Proofs.YtfbaliimjmimhaaDoor
open Go.RowKit

def inB (r lo hi : Int) : Bool := decide (lo ≤ r) && decide (r ≤ hi)
def letTab : List (Int × Int) :=
  [(65, 90), (97, 122), (192, 214), (216, 246), (248, 383), (913, 929), (931, 937), (940, 974), (1024, 1119), (1329, 1366), (1488, 1514), (1569, 1594), (1601, 1610), (2308, 2361), (3585, 3632), (4304, 4346), (12353, 12438), (12449, 12538), (19968, 40959), (44032, 55203), (66560, 66639), (131072, 173791)]
def letterB (r : Int) : Bool := letTab.any fun p => inB r p.1 p.2
theorem letTab_length : letTab.length = 22 := rfl

theorem from_any (r lo hi : Int) (w : World) :
    Calls Tryd.prog 87 #[.int .i32 r, .int .i32 lo, .int .i32 hi] w fun e w' => e = .returned (.bool (inB r lo hi)) ∧ w' = w := by
  unfold inB
  by_cases h : lo ≤ r
  · have h1 : decide (lo ≤ r) = true := decide_eq_true h
    rw [h1]
    go_enter Tryd.func87, Tryd.ntmps87
    go_wp2
    go_ret
    exact ⟨by simp, rfl⟩
  · have h1 : decide (lo ≤ r) = false := decide_eq_false h
    rw [h1]
    go_enter Tryd.func87, Tryd.ntmps87
    go_wp2
    go_ret
    exact ⟨by simp, rfl⟩

theorem from_yes {r lo hi : Int} (h : inB r lo hi = true) (w : World) : Calls Tryd.prog 87 #[.int .i32 r, .int .i32 lo, .int .i32 hi] w fun e w' => e = .returned (.bool true) ∧ w' = w := by rw [← h]; exact from_any r lo hi w
theorem from_no {r lo hi : Int} (h : inB r lo hi = false) (w : World) : Calls Tryd.prog 87 #[.int .i32 r, .int .i32 lo, .int .i32 hi] w fun e w' => e = .returned (.bool false) ∧ w' = w := by rw [← h]; exact from_any r lo hi w

set_option maxHeartbeats 1000000 in
theorem letter_any (r : Int) (w : World) (ht : PairsAt .i32 2 letTab w) :
    Calls Tryd.prog 61 #[.int .i32 r] w fun e w' => e = .returned (.bool (letterB r)) ∧ Drawn w w' := by
  have HT := Lib.hid ht
  clear ht
  go_enter Tryd.func61, Tryd.ntmps61
  go_wp2
  go_loopw [4] (fun i wr => ∃ k : Nat, k ≤ 22 ∧ i = .int .i64 k ∧ Drawn w wr ∧ Hid ((letTab.take k).any (fun p => inB r p.1 p.2) = false)) (fun i _ => 22 - (intOf i).toNat)
  case atStart => exact ⟨0, by omega, rfl, Drawn.refl _, Lib.hid (by simp)⟩
  case round =>
    obtain ⟨k, hk, rfl, HD, HN⟩ := hrel
    by_cases hlt : k < 22
    · obtain ⟨lo, hlo⟩ : ∃ x, x = (letTab.getD k (0, 0)).1 := ⟨_, rfl⟩
      obtain ⟨hi, hhi⟩ : ∃ x, x = (letTab.getD k (0, 0)).2 := ⟨_, rfl⟩
      have hp := (HT.out.drawn HD) k hlt
      rw [← hlo, ← hhi] at hp
      have h1 := hp.1
      have h2 := hp.2
      clear hp
      have ha := any_take letTab (fun p => inB r p.1 p.2) (0, 0) k (by rw [letTab_length]; exact hlt)
      have hat := any_at letTab (fun p => inB r p.1 p.2) (0, 0) k (by rw [letTab_length]; exact hlt)
      simp only [← hlo, ← hhi] at ha hat
      rw [HN.out, Bool.false_or] at ha
      have Ha := Lib.hid ha
      have Hat := Lib.hid hat
      clear ha hat hlo hhi
      cases hb : inB r lo hi with
      | true =>
        go_wp2
        go_quiet ((go_at_call 87; exact Calls.quiet_of_same (from_yes hb _)))
        go_wp2
        go_ret
        exact ⟨by unfold letterB; rw [Hat.out hb]; rfl, HD.step _⟩
      | false =>
        go_wp2
        go_quiet ((go_at_call 87; exact Calls.quiet_of_same (from_no hb _)))
        go_wp2
        go_roundw
        case rel => exact ⟨k + 1, by omega, by go_num, HD.step _, Lib.hid (Ha.out.trans hb)⟩
        case measure => simp [intOf]; omega
    · have e : k = 22 := by omega
      have hn := HN.out
      rw [List.take_of_length_le (by rw [letTab_length]; omega)] at hn
      have HN' := Lib.hid hn
      clear hn HN e
      go_wp2
      go_ret
      exact ⟨by unfold letterB; rw [HN'.out]; rfl, HD⟩

end Go.Proofs.YtfbaliimjmimhaaDoor
namespace Go.Proofs.YtfbaliimjmimhaaDoor

def nextPos (s : ByteArray) (p : Nat) : Nat := p + (Utf8.decode s p).2
/-- Where the k-th piece begins; the size from the last one on. -/
def posAt (s : ByteArray) : Nat → Nat
  | 0 => 0
  | k + 1 => if posAt s k < s.size then nextPos s (posAt s k) else posAt s k
def strayAt (s : ByteArray) (p : Nat) : Bool := (Utf8.decode s p).1 == 65533 && (Utf8.decode s p).2 == 1
def clipN (s : ByteArray) (k : Nat) : ByteArray := s.extract 0 (posAt s k)
def clip (s : ByteArray) (n : Int) : ByteArray := clipN s n.toNat

theorem width_pos {s : ByteArray} {p : Nat} (h : p < s.size) : 1 ≤ (Utf8.decode s p).2 := Lib.decode_width_pos s p h
theorem width_le' {s : ByteArray} {p : Nat} (h : p < s.size) : nextPos s p ≤ s.size := by
  unfold nextPos
  rw [Lib.decode_at]
  have := Lib.decodeN_width_le (s.size - p) (s.get! p).toNat (s.get! (p + 1)).toNat (s.get! (p + 2)).toNat (s.get! (p + 3)).toNat (by omega)
  omega
theorem next_gt {s : ByteArray} {p : Nat} (h : p < s.size) : p < nextPos s p := by
  have := width_pos h
  unfold nextPos
  omega
theorem posAt_succ {s : ByteArray} {k : Nat} (h : posAt s k < s.size) : posAt s (k + 1) = nextPos s (posAt s k) := by simp [posAt, h]
theorem posAt_stay {s : ByteArray} {k : Nat} (h : ¬ posAt s k < s.size) : posAt s (k + 1) = posAt s k := by simp [posAt, h]
theorem posAt_le (s : ByteArray) (k : Nat) : posAt s k ≤ s.size := by
  induction k with
  | zero => exact Nat.zero_le _
  | succ k ih =>
    by_cases h : posAt s k < s.size
    · rw [posAt_succ h]; exact width_le' h
    · rw [posAt_stay h]; exact ih
theorem posAt_mono1 (s : ByteArray) (k : Nat) : posAt s k ≤ posAt s (k + 1) := by
  by_cases h : posAt s k < s.size
  · rw [posAt_succ h]; exact Nat.le_of_lt (next_gt h)
  · rw [posAt_stay h]; exact Nat.le_refl _
theorem posAt_mono (s : ByteArray) {j k : Nat} (h : j ≤ k) : posAt s j ≤ posAt s k := by
  induction h with
  | refl => exact Nat.le_refl _
  | step _ ih => exact Nat.le_trans ih (posAt_mono1 s _)
theorem posAt_ge {s : ByteArray} {k : Nat} (h : posAt s k < s.size) : k ≤ posAt s k := by
  induction k with
  | zero => exact Nat.zero_le _
  | succ k ih =>
    have h0 : posAt s k < s.size := by have := posAt_mono1 s k; omega
    rw [posAt_succ h0]
    have := next_gt h0
    have := ih h0
    omega
theorem posAt_end (s : ByteArray) {k : Nat} (h : s.size ≤ k) : posAt s k = s.size := by
  have h1 := posAt_le s k
  by_cases h2 : posAt s k < s.size
  · have := posAt_ge h2; omega
  · omega
theorem posAt_stays {s : ByteArray} {j k : Nat} (h : posAt s j = s.size) (hk : j ≤ k) : posAt s k = s.size := by
  have := posAt_mono s hk
  have := posAt_le s k
  omega

/-- A piece that lies within what is left of a text is the same piece there. -/
theorem decodeN_cut (n m b0 b1 b2 b3 c1 c2 c3 : Nat) (h0 : 1 ≤ m) (hm : m ≤ n) (hw : (Lib.decodeN n b0 b1 b2 b3).2 ≤ m) (e1 : 1 < m → c1 = b1) (e2 : 2 < m → c2 = b2) (e3 : 3 < m → c3 = b3) :
    Lib.decodeN m b0 c1 c2 c3 = Lib.decodeN n b0 b1 b2 b3 := by
  by_cases k1 : 1 < m
  · have := e1 k1; subst this
    by_cases k2 : 2 < m
    · have := e2 k2; subst this
      by_cases k3 : 3 < m
      · have := e3 k3; subst this
        have n1 : 1 < n := by omega
        have n2 : 2 < n := by omega
        have n3 : 3 < n := by omega
        unfold Lib.decodeN
        simp only [n1, n2, n3, k1, k2, k3]
      · have n1 : 1 < n := by omega
        have n2 : 2 < n := by omega
        unfold Lib.decodeN at hw ⊢
        simp only [n1, n2, k1, k2, k3, true_and, false_and, and_false, if_false] at hw ⊢
        repeat' split
        all_goals first | rfl | (exfalso; simp_all; done) | (exfalso; simp_all; omega) | (simp_all; done)
    · have n1 : 1 < n := by omega
      have k3 : ¬ 3 < m := by omega
      unfold Lib.decodeN at hw ⊢
      simp only [n1, k1, k2, k3, true_and, false_and, and_false, if_false] at hw ⊢
      repeat' split
      all_goals first | rfl | (exfalso; simp_all; done) | (exfalso; simp_all; omega) | (simp_all; done)
  · have k2 : ¬ 2 < m := by omega
    have k3 : ¬ 3 < m := by omega
    unfold Lib.decodeN at hw ⊢
    simp only [k1, k2, k3, false_and, and_false, if_false] at hw ⊢
    repeat' split
    all_goals first | rfl | (exfalso; simp_all; done) | (exfalso; simp_all; omega) | (simp_all; done)

theorem head_get (s : ByteArray) (q j : Nat) (h : j < q) (hq : q ≤ s.size) : (s.extract 0 q).get! j = s.get! j := by
  have h1 : j < (s.extract 0 q).size := by rw [ByteArray.size_extract]; omega
  rw [Utf8W.get!_of_lt _ _ h1, Utf8W.get!_of_lt _ _ (by omega)]
  simp [ByteArray.getElem_extract]
theorem head_decode (s : ByteArray) (p q : Nat) (hp : p < q) (hq : q ≤ s.size) (hw : nextPos s p ≤ q) : Utf8.decode (s.extract 0 q) p = Utf8.decode s p := by
  have hsz : (s.extract 0 q).size = q := by rw [ByteArray.size_extract]; omega
  unfold nextPos at hw
  rw [Lib.decode_at] at hw
  rw [Lib.decode_at, Lib.decode_at, hsz, head_get s q p hp hq]
  exact decodeN_cut _ _ _ _ _ _ _ _ _ (by omega) (by omega) (by omega) (fun h => by rw [head_get s q _ (by omega) hq]) (fun h => by rw [head_get s q _ (by omega) hq]) (fun h => by rw [head_get s q _ (by omega) hq])
end Go.Proofs.YtfbaliimjmimhaaDoor
namespace Go.Proofs.YtfbaliimjmimhaaDoor
open Go.RowKit

abbrev U8 (w : World) : Prop := Lib.Utf8Tabs 4 5 w

theorem decodeGo_at (s : ByteArray) (i : Nat) (hi : i < s.size) : Lib.decodeGo (s.extract i s.size) = Utf8.decode s i := by
  unfold Lib.decodeGo
  rw [if_neg (by rw [Lib.tail_size]; omega), Lib.tail_decode]
  rfl

theorem stray_no (s : ByteArray) (i : Nat) (r : Int) (hr : (r != 65533) = true) (w : World) :
    Calls Tryd.prog 59 #[.string s, .int .i64 i, .int .i32 r] w fun e w' => e = .returned (.bool false) ∧ w' = w := by
  go_enter Tryd.func59, Tryd.ntmps59
  go_wp2
  go_ret
  exact ⟨rfl, rfl⟩

theorem stray_yes (s : ByteArray) (i : Nat) (hi : i < s.size) (_hs : s.size ≤ 9223372036854775807) (w : World) (hU : U8 w) :
    Calls Tryd.prog 59 #[.string s, .int .i64 i, .int .i32 65533] w fun e w' => e = .returned (.bool (((Utf8.decode s i).2 : Int) == 1)) ∧ Below w.heap.size w w' := by
  obtain ⟨n, hn⟩ : ∃ n, (Utf8.decode s i).2 = n := ⟨_, rfl⟩
  obtain ⟨c, hc⟩ : ∃ c, (Utf8.decode s i).1 = c := ⟨_, rfl⟩
  have hd := Tryd.utf8_DecodeRuneInString (s.extract i s.size) w hU
  rw [decodeGo_at s i hi, hn, hc] at hd
  rw [hn]
  have hz1 : (0 : Int) ≤ (i : Int) := by omega
  have hz2 : (i : Int) ≤ (s.size : Int) := by omega
  clear hn hc
  go_enter Tryd.func59, Tryd.ntmps59
  go_wp2_with (go_at_call 86; (with_reducible refine hd.mono ?_); rintro e w' ⟨rfl, hb⟩)
  all_goals go_ret
  all_goals exact ⟨by first | rfl | simp_all, hb⟩

theorem stray_any (s : ByteArray) (i : Nat) (hi : i < s.size) (hs : s.size ≤ 9223372036854775807) (w : World) (hU : U8 w) :
    Calls Tryd.prog 59 #[.string s, .int .i64 i, .int .i32 (Utf8.decode s i).1] w fun e w' => e = .returned (.bool (strayAt s i)) ∧ Below w.heap.size w w' := by
  unfold strayAt
  by_cases h : (Utf8.decode s i).1 = 65533
  · rw [h]
    have e : ((65533 : Nat) == 65533 && (Utf8.decode s i).2 == 1) = (((Utf8.decode s i).2 : Int) == 1) := by
      rw [Bool.eq_iff_iff]; simp; omega
    rw [e]
    exact stray_yes s i hi hs w hU
  · have hr : (((Utf8.decode s i).1 : Int) != 65533) = true := by rw [bne_iff_ne]; omega
    have e : ((Utf8.decode s i).1 == 65533 && (Utf8.decode s i).2 == 1) = false := by simp [h]
    rw [e]
    exact (stray_no s i _ hr w).mono fun e w' ⟨he, hw⟩ => ⟨he, hw ▸ Below.refl _ _⟩

end Go.Proofs.YtfbaliimjmimhaaDoor
namespace Go.Proofs.YtfbaliimjmimhaaDoor
open Go.RowKit

/-- The world with a text's iterator laid is what was, below it. -/
theorem below_iter (w : World) (s : ByteArray) (p : Nat) : Below w.heap.size w (w.iter s p) := (Below.refl _ _).alloc (Nat.le_refl _) _

theorem stray_at {s : ByteArray} {p : Nat} {b : Bool} (h : strayAt s p = b) (hi : p < s.size) (hs : s.size ≤ 4611686018427387904) (w : World) (hU : U8 w) :
    Calls Tryd.prog 59 #[.string s, .int .i64 p, .int .i32 (Utf8.decode s p).1] w fun e w' => e = .returned (.bool b) ∧ Below w.heap.size w w' := by
  rw [← h]; exact stray_any s p hi (by omega) w hU
theorem u8_below {w w' : World} (h : U8 w) (hb : Below w.heap.size w w') : U8 w' := Utf8Tabs_below h hb
theorem iter_after {w wr w2 : World} {s : ByteArray} {k p q : Nat} (hit : wr.heap[k]? = some (.stringIter s p)) (hb2 : Below (wr.iterAt k s q).heap.size (wr.iterAt k s q) w2) (hw : w.heap.size = k) (hb : Below w.heap.size w wr) :
    w2.heap[k]? = some (.stringIter s q) ∧ Below w.heap.size w w2 := by
  have h1 := Lib.iterAt_heap wr k s p q hit
  have hlt : k < (wr.iterAt k s q).heap.size := (Array.getElem?_eq_some_iff.1 h1).1
  exact ⟨(hb2.block _ hlt).trans h1, (Lib.below_iterAt hb (by omega) s q).trans (hb2.mono (by omega))⟩
theorem iterPos_of {w : World} {k p : Nat} {s : ByteArray} (h : w.heap[k]? = some (.stringIter s p)) : w.iterPos k = p := by simp [World.iterPos, h]

end Go.Proofs.YtfbaliimjmimhaaDoor
namespace Go.Proofs.YtfbaliimjmimhaaDoor
open Go.RowKit

def byteAt (s : ByteArray) (i : Nat) : Int := (s.get! i).toNat
theorem byteAt_range (s : ByteArray) (i : Nat) : 0 ≤ byteAt s i ∧ byteAt s i ≤ 255 := by
  have := (s.get! i).toNat_lt
  unfold byteAt
  omega
theorem byteAt_of {s : ByteArray} {i : Nat} (h : i < s.size) : ((s[i]'h).toNat : Int) = byteAt s i := by
  unfold byteAt
  rw [Utf8W.get!_of_lt s i h]

def pieceR (s : ByteArray) (p : Nat) : Int := if strayAt s p = true then -1 else ((Utf8.decode s p).1 : Int)
def isCont (b : Int) : Prop := 128 ≤ b ∧ b ≤ 191
/-- What is reckoned of the first byte's part and k bytes behind it. -/
def acc (s : ByteArray) (i : Nat) (r : Int) : Nat → Int
  | 0 => r
  | k + 1 => acc s i r k * 64 + byteAt s (i + k + 1) - 128

theorem decode_bytes (s : ByteArray) (i : Nat) : Utf8.decode s i = Lib.decodeN (s.size - i) (byteAt s i).toNat (byteAt s (i + 1)).toNat (byteAt s (i + 2)).toNat (byteAt s (i + 3)).toNat := by
  rw [Lib.decode_at]; rfl

theorem decode_one {s : ByteArray} {i : Nat} (h : byteAt s i < 128) : Utf8.decode s i = ((byteAt s i).toNat, 1) := by
  rw [decode_bytes]
  have := (byteAt_range s i).1
  unfold Lib.decodeN
  rw [if_pos (by omega)]
theorem decode_no {s : ByteArray} {i : Nat} (h1 : 128 ≤ byteAt s i) (h2 : byteAt s i < 192 ∨ 248 ≤ byteAt s i) : Utf8.decode s i = (65533, 1) := by
  rw [decode_bytes]
  unfold Lib.decodeN
  rw [if_neg (by omega), if_neg (by omega), if_neg (by omega), if_neg (by omega)]
theorem decode_two_bad {s : ByteArray} {i : Nat} (h1 : 192 ≤ byteAt s i) (h2 : byteAt s i < 224) (h : s.size < i + 2 ∨ ¬ isCont (byteAt s (i + 1))) : Utf8.decode s i = (65533, 1) := by
  rw [decode_bytes]
  have := byteAt_range s (i + 1)
  unfold isCont at h
  unfold Lib.decodeN
  rw [if_neg (by omega), if_neg (by omega), if_neg (by omega), if_neg (by omega)]
theorem decode_two {s : ByteArray} {i : Nat} (h1 : 192 ≤ byteAt s i) (h2 : byteAt s i < 224) (h : i + 2 ≤ s.size) (c1 : isCont (byteAt s (i + 1))) :
    Utf8.decode s i = if acc s i (byteAt s i - 192) 1 < 128 then (65533, 1) else ((acc s i (byteAt s i - 192) 1).toNat, 2) := by
  rw [decode_bytes]
  have := byteAt_range s (i + 1)
  unfold isCont at c1
  obtain ⟨r, hr⟩ : ∃ r, acc s i (byteAt s i - 192) 1 = r := ⟨_, rfl⟩
  have hr' : r = (byteAt s i - 192) * 64 + byteAt s (i + 1) - 128 := hr.symm
  rw [hr]
  unfold Lib.decodeN
  rw [if_neg (by omega), if_pos (by omega)]
  by_cases h3 : r < 128
  · rw [if_pos h3, if_neg (by omega)]
  · rw [if_neg h3, if_pos (by omega)]
    congr 1
    omega
theorem decode_three_bad {s : ByteArray} {i : Nat} (h1 : 224 ≤ byteAt s i) (h2 : byteAt s i < 240) (h : s.size < i + 3 ∨ ¬ isCont (byteAt s (i + 1)) ∨ ¬ isCont (byteAt s (i + 2))) : Utf8.decode s i = (65533, 1) := by
  rw [decode_bytes]
  have := byteAt_range s (i + 1)
  have := byteAt_range s (i + 2)
  unfold isCont at h
  unfold Lib.decodeN
  rw [if_neg (by omega), if_neg (by omega), if_neg (by omega), if_neg (by omega)]
theorem decode_three {s : ByteArray} {i : Nat} (h1 : 224 ≤ byteAt s i) (h2 : byteAt s i < 240) (h : i + 3 ≤ s.size) (c1 : isCont (byteAt s (i + 1))) (c2 : isCont (byteAt s (i + 2))) :
    Utf8.decode s i = if acc s i (byteAt s i - 224) 2 < 2048 ∨ (55296 ≤ acc s i (byteAt s i - 224) 2 ∧ acc s i (byteAt s i - 224) 2 ≤ 57343) then (65533, 1) else ((acc s i (byteAt s i - 224) 2).toNat, 3) := by
  rw [decode_bytes]
  have := byteAt_range s (i + 1)
  have := byteAt_range s (i + 2)
  unfold isCont at c1 c2
  obtain ⟨r, hr⟩ : ∃ r, acc s i (byteAt s i - 224) 2 = r := ⟨_, rfl⟩
  have hr' : r = ((byteAt s i - 224) * 64 + byteAt s (i + 1) - 128) * 64 + byteAt s (i + 2) - 128 := hr.symm
  rw [hr]
  unfold Lib.decodeN
  rw [if_neg (by omega), if_neg (by omega), if_pos (by omega)]
  by_cases h3 : r < 2048 ∨ (55296 ≤ r ∧ r ≤ 57343)
  · rw [if_pos h3, if_neg (by omega)]
  · rw [if_neg h3, if_pos (by omega)]
    congr 1
    omega
theorem decode_four_bad {s : ByteArray} {i : Nat} (h1 : 240 ≤ byteAt s i) (h2 : byteAt s i < 248) (h : s.size < i + 4 ∨ ¬ isCont (byteAt s (i + 1)) ∨ ¬ isCont (byteAt s (i + 2)) ∨ ¬ isCont (byteAt s (i + 3))) : Utf8.decode s i = (65533, 1) := by
  rw [decode_bytes]
  have := byteAt_range s (i + 1)
  have := byteAt_range s (i + 2)
  have := byteAt_range s (i + 3)
  unfold isCont at h
  unfold Lib.decodeN
  rw [if_neg (by omega), if_neg (by omega), if_neg (by omega), if_neg (by omega)]
theorem decode_four {s : ByteArray} {i : Nat} (h1 : 240 ≤ byteAt s i) (h2 : byteAt s i < 248) (h : i + 4 ≤ s.size) (c1 : isCont (byteAt s (i + 1))) (c2 : isCont (byteAt s (i + 2))) (c3 : isCont (byteAt s (i + 3))) :
    Utf8.decode s i = if acc s i (byteAt s i - 240) 3 < 65536 ∨ 1114111 < acc s i (byteAt s i - 240) 3 then (65533, 1) else ((acc s i (byteAt s i - 240) 3).toNat, 4) := by
  rw [decode_bytes]
  have := byteAt_range s (i + 1)
  have := byteAt_range s (i + 2)
  have := byteAt_range s (i + 3)
  unfold isCont at c1 c2 c3
  obtain ⟨r, hr⟩ : ∃ r, acc s i (byteAt s i - 240) 3 = r := ⟨_, rfl⟩
  have hr' : r = (((byteAt s i - 240) * 64 + byteAt s (i + 1) - 128) * 64 + byteAt s (i + 2) - 128) * 64 + byteAt s (i + 3) - 128 := hr.symm
  rw [hr]
  unfold Lib.decodeN
  rw [if_neg (by omega), if_neg (by omega), if_neg (by omega), if_pos (by omega)]
  by_cases h3 : r < 65536 ∨ 1114111 < r
  · rw [if_pos h3, if_neg (by omega)]
  · rw [if_neg h3, if_pos (by omega)]
    congr 1
    omega
end Go.Proofs.YtfbaliimjmimhaaDoor
namespace Go.Proofs.YtfbaliimjmimhaaDoor
open Go.RowKit

def pieceV (s : ByteArray) (p : Nat) : Value := .agg #[.int .i64 (pieceR s p), .int .i64 p, .int .i64 (Utf8.decode s p).2]

theorem pieceV_stray {s : ByteArray} {p : Nat} (h : Utf8.decode s p = (65533, 1)) : pieceV s p = .agg #[.int .i64 (-1), .int .i64 p, .int .i64 1] := by
  unfold pieceV pieceR strayAt
  rw [h]
  rfl
theorem pieceV_rune {s : ByteArray} {p c n : Nat} (h : Utf8.decode s p = (c, n)) (hn : n ≠ 1 ∨ c ≠ 65533) : pieceV s p = .agg #[.int .i64 c, .int .i64 p, .int .i64 n] := by
  unfold pieceV pieceR strayAt
  rw [h]
  rw [if_neg (by simp; omega)]

theorem acc_range {s : ByteArray} {i : Nat} {r : Int} (h0 : 0 ≤ r) (h1 : r ≤ 31) : ∀ k : Nat, k ≤ 3 → (∀ j, 1 ≤ j → j ≤ k → isCont (byteAt s (i + j))) → 0 ≤ acc s i r k ∧ acc s i r k ≤ 8388607
  | 0, _, _ => ⟨h0, by simp only [acc]; omega⟩
  | 1, _, h => by
    have := h 1 (by omega) (by omega)
    unfold isCont at this
    simp only [acc, Nat.add_zero] at *
    omega
  | 2, _, h => by
    have c1 := h 1 (by omega) (by omega)
    have c2 := h 2 (by omega) (by omega)
    unfold isCont at c1 c2
    simp only [acc, Nat.add_zero, show i + 1 + 1 = i + 2 by omega] at *
    omega
  | 3, _, h => by
    have c1 := h 1 (by omega) (by omega)
    have c2 := h 2 (by omega) (by omega)
    have c3 := h 3 (by omega) (by omega)
    unfold isCont at c1 c2 c3
    simp only [acc, Nat.add_zero, show i + 1 + 1 = i + 2 by omega, show i + 2 + 1 = i + 3 by omega] at *
    omega
  | k + 4, h, _ => by omega

theorem acc_bd1 {s : ByteArray} {i : Nat} {r : Int} (c1 : isCont (byteAt s (i + 1))) : acc s i r 1 ≤ r * 64 + 63 := by
  unfold isCont at c1
  simp only [acc, Nat.add_zero]
  omega
theorem acc_bd2 {s : ByteArray} {i : Nat} {r : Int} (c1 : isCont (byteAt s (i + 1))) (c2 : isCont (byteAt s (i + 2))) : acc s i r 2 ≤ r * 4096 + 4095 := by
  unfold isCont at c1 c2
  simp only [acc, Nat.add_zero, show i + 1 + 1 = i + 2 by omega]
  omega

/-- A byte as the walk reads it. -/
theorem byte_at {s : ByteArray} {i j : Nat} {c : Int} (h : i + j < s.size) (hc : byteAt s (i + j) = c) : ((s[i + j]'h).toNat : Int) = c := (byteAt_of h).trans hc

end Go.Proofs.YtfbaliimjmimhaaDoor
namespace Go.Proofs.YtfbaliimjmimhaaDoor
open Go.RowKit

def pieceCells (s : ByteArray) (p : Nat) : List Value := [.int .i64 (pieceR s p), .int .i64 p, .int .i64 (Utf8.decode s p).2]
def piecesTo (s : ByteArray) (k : Nat) : List Value := (List.range k).flatMap fun j => pieceCells s (posAt s j)
theorem piecesTo_succ (s : ByteArray) (k : Nat) : piecesTo s (k + 1) = piecesTo s k ++ pieceCells s (posAt s k) := by
  simp [piecesTo, List.range_succ]
end Go.Proofs.YtfbaliimjmimhaaDoor
namespace Go.Proofs.YtfbaliimjmimhaaDoor
open Go.RowKit

theorem piecesTo_get (s : ByteArray) : ∀ (k j : Nat), j < k → (piecesTo s k)[j * 3]? = some (.int .i64 (pieceR s (posAt s j))) ∧ (piecesTo s k)[j * 3 + 1]? = some (.int .i64 (posAt s j)) ∧ (piecesTo s k)[j * 3 + 2]? = some (.int .i64 (Utf8.decode s (posAt s j)).2)
  | 0, _, h => by omega
  | k + 1, j, h => by
    have hl : ∀ m, (piecesTo s m).length = m * 3 := fun m => by
      induction m with
      | zero => rfl
      | succ m ih => rw [piecesTo_succ, List.length_append, ih]; simp [pieceCells]; omega
    rw [piecesTo_succ]
    by_cases e : j = k
    · subst e
      rw [List.getElem?_append_right (by rw [hl]; omega), List.getElem?_append_right (by rw [hl]; omega), List.getElem?_append_right (by rw [hl]; omega), hl]
      simp [pieceCells]
    · rw [List.getElem?_append_left (by rw [hl]; omega), List.getElem?_append_left (by rw [hl]; omega), List.getElem?_append_left (by rw [hl]; omega)]
      exact piecesTo_get s k j (by omega)

/-- What a list of pieces holds, cell by cell. -/
def PiecesAt (s : ByteArray) (w : World) (A : Option Addr) (k : Nat) : Prop :=
  0 < k → ∃ g, A = some ⟨g, 0, none⟩ ∧ ∀ j, j < k → w.cell? ⟨g, j * 3, none⟩ = some (.int .i64 (pieceR s (posAt s j))) ∧ w.cell? ⟨g, j * 3 + 1, none⟩ = some (.int .i64 (posAt s j)) ∧ w.cell? ⟨g, j * 3 + 2, none⟩ = some (.int .i64 (Utf8.decode s (posAt s j)).2)
theorem PiecesAt.below {s : ByteArray} {w w' : World} {A : Option Addr} {k : Nat} (h : PiecesAt s w A k) (hb : Below w.heap.size w w') : PiecesAt s w' A k := fun hk => by
  obtain ⟨g, e, hc⟩ := h hk
  exact ⟨g, e, fun j hj => ⟨(hb.cell (World.block_lt_of_cell? w _ (hc j hj).1)).trans (hc j hj).1, (hb.cell (World.block_lt_of_cell? w _ (hc j hj).2.1)).trans (hc j hj).2.1, (hb.cell (World.block_lt_of_cell? w _ (hc j hj).2.2)).trans (hc j hj).2.2⟩⟩
theorem count_le {s : ByteArray} {k : Nat} (h : ∀ j, j < k → posAt s j < s.size) : k ≤ s.size := by
  cases k with
  | zero => omega
  | succ k =>
    have h1 := h k (by omega)
    have := posAt_ge h1
    omega

end Go.Proofs.YtfbaliimjmimhaaDoor
namespace Go.Proofs.YtfbaliimjmimhaaDoor
open Go.RowKit

def inNameB (r : Int) : Bool := (decide (48 ≤ r) && decide (r ≤ 57)) || r == 45 || r == 95 || r == 46 || letterB r
theorem inNameB_of (r : Int) (h1 : ¬ (48 ≤ r ∧ r ≤ 57)) (h2 : r ≠ 45) (h3 : r ≠ 95) (h4 : r ≠ 46) : inNameB r = letterB r := by
  unfold inNameB
  have e1 : (decide (48 ≤ r) && decide (r ≤ 57)) = false := by
    rw [Bool.eq_false_iff]; simp; omega
  have e2 : (r == 45) = false := by simp [h2]
  have e3 : (r == 95) = false := by simp [h3]
  have e4 : (r == 46) = false := by simp [h4]
  rw [e1, e2, e3, e4]
  simp

abbrev LT (w : World) : Prop := PairsAt .i32 2 letTab w
set_option maxHeartbeats 1000000 in
theorem inName_any (r : Int) (w : World) (ht : LT w) :
    Calls Tryd.prog 60 #[.int .i32 r] w fun e w' => e = .returned (.bool (inNameB r)) ∧ Drawn w w' := by
  have hl := Lib.hid (letter_any r w ht)
  by_cases h1 : 48 ≤ r ∧ r ≤ 57
  · have e : inNameB r = true := by unfold inNameB; simp [h1]
    rw [e]
    obtain ⟨h1, h2⟩ := h1
    go_enter Tryd.func60, Tryd.ntmps60
    go_wp2
    all_goals go_ret
    all_goals exact ⟨rfl, Drawn.refl _⟩
  by_cases h2 : r = 45
  · subst h2
    go_enter Tryd.func60, Tryd.ntmps60
    go_wp2
    all_goals go_ret
    all_goals exact ⟨rfl, Drawn.refl _⟩
  by_cases h3 : r = 95
  · subst h3
    go_enter Tryd.func60, Tryd.ntmps60
    go_wp2
    all_goals go_ret
    all_goals exact ⟨rfl, Drawn.refl _⟩
  by_cases h4 : r = 46
  · subst h4
    go_enter Tryd.func60, Tryd.ntmps60
    go_wp2
    all_goals go_ret
    all_goals exact ⟨rfl, Drawn.refl _⟩
  rw [inNameB_of r h1 h2 h3 h4]
  have k2 : (r == 45) = false := by simp [h2]
  have k3 : (r == 95) = false := by simp [h3]
  have k4 : (r == 46) = false := by simp [h4]
  by_cases h5 : 48 ≤ r
  · have h6 : ¬ r ≤ 57 := by omega
    go_enter Tryd.func60, Tryd.ntmps60
    go_wp2_with (go_at_call 61; (with_reducible refine hl.out.mono ?_); rintro e w2 ⟨rfl, hd⟩)
    all_goals go_ret
    all_goals exact ⟨rfl, hd⟩
  · go_enter Tryd.func60, Tryd.ntmps60
    go_wp2_with (go_at_call 61; (with_reducible refine hl.out.mono ?_); rintro e w2 ⟨rfl, hd⟩)
    all_goals go_ret
    all_goals exact ⟨rfl, hd⟩

end Go.Proofs.YtfbaliimjmimhaaDoor
namespace Go.Proofs.YtfbaliimjmimhaaDoor
open Go.RowKit

def badAt (k : Nat) (r : Int) : Bool := !inNameB r || (k == 0 && !letterB r)
/-- Whether a text is a name, from its k-th piece on, which begins at p: the error and the place. -/
def nameFrom (s : ByteArray) : Nat → Nat → Nat → Int × Int
  | 0, _, _ => (0, 0)
  | f + 1, k, p =>
    if p < s.size then
      (if k = 48 then (23, (p : Int)) else if strayAt s p = true then (21, (p : Int)) else if badAt k (Utf8.decode s p).1 = true then (22, (p : Int)) else nameFrom s f (k + 1) (nextPos s p))
    else if k = 0 then (20, 0) else (0, 0)
def nameA (s : ByteArray) : Int × Int := nameFrom s (s.size + 1) 0 0

/-- What is left to be asked at the k-th piece. -/
def NameAt (s : ByteArray) (k p : Nat) : Prop := ∃ f, s.size + 1 ≤ p + f ∧ nameA s = nameFrom s f k p
theorem NameAt.start (s : ByteArray) : NameAt s 0 0 := ⟨s.size + 1, by omega, rfl⟩
theorem NameAt.open_ {s : ByteArray} {k p : Nat} (h : NameAt s k p) (hp : p ≤ s.size) : ∃ f, s.size ≤ p + f ∧ nameA s = nameFrom s (f + 1) k p := by
  obtain ⟨f, h1, h2⟩ := h
  cases f with
  | zero => omega
  | succ f => exact ⟨f, by omega, h2⟩
theorem NameAt.long {s : ByteArray} {k p : Nat} (h : NameAt s k p) (hp : p < s.size) (hk : k = 48) : nameA s = (23, (p : Int)) := by
  obtain ⟨f, _, e⟩ := h.open_ (by omega)
  rw [e, nameFrom, if_pos hp, if_pos hk]
theorem NameAt.stray {s : ByteArray} {k p : Nat} (h : NameAt s k p) (hp : p < s.size) (hk : ¬ k = 48) (hs : strayAt s p = true) : nameA s = (21, (p : Int)) := by
  obtain ⟨f, _, e⟩ := h.open_ (by omega)
  rw [e, nameFrom, if_pos hp, if_neg hk, if_pos hs]
theorem NameAt.bad {s : ByteArray} {k p : Nat} (h : NameAt s k p) (hp : p < s.size) (hk : ¬ k = 48) (hs : strayAt s p = false) (hb : badAt k (Utf8.decode s p).1 = true) : nameA s = (22, (p : Int)) := by
  obtain ⟨f, _, e⟩ := h.open_ (by omega)
  rw [e, nameFrom, if_pos hp, if_neg hk, if_neg (by rw [hs]; exact Bool.false_ne_true), if_pos hb]
theorem NameAt.on {s : ByteArray} {k p : Nat} (h : NameAt s k p) (hp : p < s.size) (hk : ¬ k = 48) (hs : strayAt s p = false) (hb : badAt k (Utf8.decode s p).1 = false) : NameAt s (k + 1) (nextPos s p) := by
  obtain ⟨f, hf, e⟩ := h.open_ (by omega)
  have := next_gt hp
  exact ⟨f, by omega, by rw [e, nameFrom, if_pos hp, if_neg hk, if_neg (by rw [hs]; exact Bool.false_ne_true), if_neg (by rw [hb]; exact Bool.false_ne_true)]⟩
theorem NameAt.none_ {s : ByteArray} {p : Nat} (h : NameAt s 0 p) (hp : ¬ p < s.size) (hp2 : p ≤ s.size) : nameA s = (20, 0) := by
  obtain ⟨f, _, e⟩ := h.open_ hp2
  rw [e, nameFrom, if_neg hp, if_pos rfl]
theorem NameAt.good {s : ByteArray} {k p : Nat} (h : NameAt s k p) (hp : ¬ p < s.size) (hp2 : p ≤ s.size) (hk : ¬ k = 0) : nameA s = (0, 0) := by
  obtain ⟨f, _, e⟩ := h.open_ hp2
  rw [e, nameFrom, if_neg hp, if_neg hk]

theorem bad_in {k : Nat} {r : Int} (h : inNameB r = false) : badAt k r = true := by simp [badAt, h]
theorem bad_first {r : Int} (h : letterB r = false) : badAt 0 r = true := by simp [badAt, h]
theorem fine_first {r : Int} (h : letterB r = true) : badAt 0 r = false := by
  have : inNameB r = true := by simp [inNameB, h]
  simp [badAt, h, this]
theorem fine_later {k : Nat} {r : Int} (h : inNameB r = true) (hk : ¬ k = 0) : badAt k r = false := by simp [badAt, h, hk]
theorem in_of_letter {r : Int} (h : letterB r = true) : inNameB r = true := by simp [inNameB, h]

theorem inName_at {r : Int} {b : Bool} (h : inNameB r = b) (w : World) (ht : LT w) : Calls Tryd.prog 60 #[.int .i32 r] w fun e w' => e = .returned (.bool b) ∧ Drawn w w' := by
  rw [← h]; exact inName_any r w ht
theorem letter_at {r : Int} {b : Bool} (h : letterB r = b) (w : World) (ht : LT w) : Calls Tryd.prog 61 #[.int .i32 r] w fun e w' => e = .returned (.bool b) ∧ Drawn w w' := by
  rw [← h]; exact letter_any r w ht
/-- The iterator stands, and what was below it. -/
def IterAt (w : World) (s : ByteArray) (q : Nat) (w2 : World) : Prop := w2.heap[w.heap.size]? = some (.stringIter s q) ∧ Below w.heap.size w w2
theorem IterAt.under {w w2 : World} {s : ByteArray} {q : Nat} (h : IterAt w s q w2) : Below w.heap.size w w2 := h.2
theorem IterAt.drawn {w w2 w3 : World} {s : ByteArray} {q : Nat} (h : IterAt w s q w2) (hd : Drawn w2 w3) : IterAt w s q w3 := by
  obtain ⟨n, rfl⟩ := hd.out
  exact ⟨h.1, then_ h.2 hd.below⟩
theorem ret_name {x : Int × Int} {a b : Int} (h : x = (a, b)) : Ending.returned (.tuple #[.int .i64 a, .int .i64 b]) = .returned (.tuple #[.int .i64 x.1, .int .i64 x.2]) := by rw [h]

set_option maxRecDepth 100000 in
set_option maxHeartbeats 2000000 in
theorem name_any (s : ByteArray) (w : World) (hs : s.size ≤ 4611686018427387904) (hu : U8 w) (ht : LT w) :
    Calls Tryd.prog 46 #[.string s] w fun e w' => e = .returned (.tuple #[.int .i64 (nameA s).1, .int .i64 (nameA s).2]) ∧ Below w.heap.size w w' := by
  have HU := Lib.hid hu
  have HT := Lib.hid ht
  clear hu ht
  go_enter Tryd.func46, Tryd.ntmps46
  go_wp2
  go_loopw [4] (fun c wr => ∃ k p : Nat, k ≤ 48 ∧ c = .int .i64 k ∧ p ≤ s.size ∧ IterAt w s p wr ∧ Hid (NameAt s k p)) (fun _ wr => s.size - wr.iterPos w.heap.size)
  case atStart => exact ⟨0, 0, by omega, rfl, by omega, ⟨World.iter_heap _ _ _, below_iter _ _ _⟩, Lib.hid (NameAt.start s)⟩
  case round =>
    obtain ⟨k, p, hk, rfl, hp, ⟨hit, hb⟩, HN⟩ := hrel
    by_cases hlt : p < s.size
    · have hnx := fun ty => Lib.run_next_any_at (P := Tryd.prog) wr w.heap.size s p ty hit hlt
      have hgt := next_gt hlt
      have hle := width_le' hlt
      have hpos := Lib.hid (iterPos_of hit)
      have hU1 := u8_below HU.out (Lib.below_iterAt hb (Nat.le_refl _) s (nextPos s p))
      have H : Hid (∀ w2, Below (wr.iterAt w.heap.size s (nextPos s p)).heap.size (wr.iterAt w.heap.size s (nextPos s p)) w2 → IterAt w s (nextPos s p) w2) := Lib.hid (fun w2 h => iter_after hit h rfl hb)
      have HB1 := Lib.hid (Lib.below_iterAt hb (Nat.le_refl _) s (nextPos s p))
      obtain ⟨q, hq⟩ : ∃ q, nextPos s p = q := ⟨_, rfl⟩
      have hq' : p + (Utf8.decode s p).2 = q := hq
      rw [hq] at hgt hle hU1 H HB1
      rw [hq'] at hnx
      by_cases h48 : k = 48
      · have hv := Lib.hid (NameAt.long HN.out hlt h48)
        subst h48
        clear HN hit hb hU1 H hq hq'
        go_wp2
        all_goals go_ret2
        all_goals exact ⟨ret_name hv.out, HB1.out⟩
      · have hk48 : ((k : Int) == 48) = false := by
          rw [beq_eq_false_iff_ne]; omega
        cases hst : strayAt s p with
        | true =>
          have hv := Lib.hid (NameAt.stray HN.out hlt h48 hst)
          have cS := Lib.hid (stray_at hst hlt hs _ hU1)
          clear HN hit hb hU1 hst hq hq'
          go_wp2_with (first
            | (go_at_call 59; (with_reducible refine cS.out.mono ?_); rintro e w2 ⟨rfl, hb2⟩; have HI := Lib.hid (H.out w2 hb2); clear hb2))
          all_goals go_ret2
          all_goals exact ⟨ret_name hv.out, HI.out.2⟩
        | false =>
          have cS := Lib.hid (stray_at hst hlt hs _ hU1)
          obtain ⟨r, hr⟩ : ∃ r, (Utf8.decode s p).1 = r := ⟨_, rfl⟩
          cases hin : inNameB (r : Int) with
          | false =>
            have hv := Lib.hid (NameAt.bad HN.out hlt h48 hst (by rw [hr]; exact bad_in hin))
            have cI := Lib.hid (fun w h => inName_at hin w h)
            rw [hr] at cS hnx
            clear HN hit hb hU1 hst hq hq' hin hr
            go_wp2_with (first
            | (go_at_call 59; (with_reducible refine cS.out.mono ?_); rintro e w2 ⟨rfl, hb2⟩; have HI := Lib.hid (H.out w2 hb2); clear hb2)
            | (go_at_call 60; (with_reducible refine (cI.out _ (PairsAt.below HT.out HI.out.under)).mono ?_); rintro e w3 ⟨rfl, hd⟩; have HI' := Lib.hid (HI.out.drawn hd); clear HI hd; have HI := HI'; clear HI'))
            all_goals go_ret2
            all_goals exact ⟨ret_name hv.out, HI.out.2⟩
          | true =>
            have cI := Lib.hid (fun w h => inName_at hin w h)
            by_cases h0 : k = 0
            · cases hl : letterB (r : Int) with
              | false =>
                have hv := Lib.hid (NameAt.bad HN.out hlt h48 hst (by rw [hr, h0]; exact bad_first hl))
                have cL := Lib.hid (fun w h => letter_at hl w h)
                rw [hr] at cS hnx
                subst h0
                clear HN hit hb hU1 hst hq hq' hin hr hl
                go_wp2_with (first
            | (go_at_call 59; (with_reducible refine cS.out.mono ?_); rintro e w2 ⟨rfl, hb2⟩; have HI := Lib.hid (H.out w2 hb2); clear hb2)
            | (go_at_call 60; (with_reducible refine (cI.out _ (PairsAt.below HT.out HI.out.under)).mono ?_); rintro e w3 ⟨rfl, hd⟩; have HI' := Lib.hid (HI.out.drawn hd); clear HI hd; have HI := HI'; clear HI')
            | (go_at_call 61; (with_reducible refine (cL.out _ (PairsAt.below HT.out HI.out.under)).mono ?_); rintro e w3 ⟨rfl, hd⟩; have HI' := Lib.hid (HI.out.drawn hd); clear HI hd; have HI := HI'; clear HI'))
                all_goals go_ret2
                all_goals exact ⟨ret_name hv.out, HI.out.2⟩
              | true =>
                have hv := NameAt.on HN.out hlt h48 hst (by rw [hr, h0]; exact fine_first hl)
                rw [hq] at hv
                have hv := Lib.hid hv
                have cL := Lib.hid (fun w h => letter_at hl w h)
                rw [hr] at cS hnx
                subst h0
                clear HN hit hb hU1 hst hq hq' hin hr hl
                go_wp2_with (first
            | (go_at_call 59; (with_reducible refine cS.out.mono ?_); rintro e w2 ⟨rfl, hb2⟩; have HI := Lib.hid (H.out w2 hb2); clear hb2)
            | (go_at_call 60; (with_reducible refine (cI.out _ (PairsAt.below HT.out HI.out.under)).mono ?_); rintro e w3 ⟨rfl, hd⟩; have HI' := Lib.hid (HI.out.drawn hd); clear HI hd; have HI := HI'; clear HI')
            | (go_at_call 61; (with_reducible refine (cL.out _ (PairsAt.below HT.out HI.out.under)).mono ?_); rintro e w3 ⟨rfl, hd⟩; have HI' := Lib.hid (HI.out.drawn hd); clear HI hd; have HI := HI'; clear HI'))
                all_goals go_roundw
                case rel => exact ⟨0 + 1, q, by omega, by go_num, hle, HI.out, hv⟩
                case measure => rw [iterPos_of HI.out.1, hpos.out]; omega
            · have hv := NameAt.on HN.out hlt h48 hst (by rw [hr]; exact fine_later hin h0)
              rw [hq] at hv
              have hv := Lib.hid hv
              have hk0 : ((k : Int) == 0) = false := by
                rw [beq_eq_false_iff_ne]; omega
              rw [hr] at cS hnx
              clear HN hit hb hU1 hst hq hq' hin hr
              go_wp2_with (first
            | (go_at_call 59; (with_reducible refine cS.out.mono ?_); rintro e w2 ⟨rfl, hb2⟩; have HI := Lib.hid (H.out w2 hb2); clear hb2)
            | (go_at_call 60; (with_reducible refine (cI.out _ (PairsAt.below HT.out HI.out.under)).mono ?_); rintro e w3 ⟨rfl, hd⟩; have HI' := Lib.hid (HI.out.drawn hd); clear HI hd; have HI := HI'; clear HI'))
              all_goals go_roundw
              case rel => exact ⟨k + 1, q, by omega, by go_num, hle, HI.out, hv⟩
              case measure => rw [iterPos_of HI.out.1, hpos.out]; omega
    · have hnx := fun ty => Lib.run_next_end_at (P := Tryd.prog) wr w.heap.size s p ty hit hlt
      by_cases h0 : k = 0
      · subst h0
        have hv := Lib.hid (NameAt.none_ HN.out hlt hp)
        clear HN
        go_wp2
        all_goals go_ret2
        all_goals exact ⟨ret_name hv.out, hb⟩
      · have hv := Lib.hid (NameAt.good HN.out hlt hp h0)
        have hk0 : ((k : Int) == 0) = false := by simp [h0]
        clear HN
        go_wp2
        all_goals go_ret2
        all_goals exact ⟨ret_name hv.out, hb⟩
end Go.Proofs.YtfbaliimjmimhaaDoor
namespace Go.Proofs.YtfbaliimjmimhaaDoor
open Go.RowKit

theorem boxed {w a : World} {o : Obj} (h : Below w.heap.size w a) : Below w.heap.size w (a.alloc o) := h.alloc (by have := h.size; omega) _
structure Boxed (wr w3 : World) (R p : Int) : Prop where
  below : Below wr.heap.size wr w3
  c0 : w3.cell? ⟨wr.heap.size, 0, none⟩ = some (.int .i64 R)
  c1 : w3.cell? ⟨wr.heap.size, 1, none⟩ = some (.int .i64 p)
theorem Boxed.drawn {wr w3 w4 : World} {R p : Int} (h : Boxed wr w3 R p) (hd : Drawn w3 w4) : Boxed wr w4 R p := by
  obtain ⟨n, rfl⟩ := hd.out
  exact ⟨then_ h.below hd.below, h.c0, h.c1⟩
theorem Boxed.start (wr : World) (R p : Int) (v : Value) (t : Nat) : Boxed wr (wr.alloc (.cells #[.int .i64 R, .int .i64 p, v] t)) R p := ⟨boxed (Below.refl _ _), by simp, by simp⟩
theorem fin {w a b c : World} (h : Below w.heap.size w a) (h2 : Below a.heap.size a b) (hd : Drawn b c) : Below w.heap.size w c := then_ (then_ h h2) hd.below

end Go.Proofs.YtfbaliimjmimhaaDoor
