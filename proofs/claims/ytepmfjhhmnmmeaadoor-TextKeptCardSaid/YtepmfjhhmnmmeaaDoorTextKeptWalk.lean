/-
  annalslaw2.TextKept walked: it answers true, of any line. Conditions: the tables of unicode/utf8, of math/bits, of letters (two), and the reference's table of hidden runes as laid.
-/
import Derived.Test.YtepmfjhhmnmmeaaDoorPkKept
import Derived.Test.YtepmfjhhmnmmeaaDoorTextFns
namespace Go.Proofs.YtepmfjhhmnmmeaaDoor.textKept
open Go.RowKit

/-- A list of words that lies in blocks from lo on, below hi. -/
structure Lies (w : World) (lo hi : Nat) (v : Value) (l : List WordD) : Prop where
  in_ : WordsIn w v l
  own : ∀ q, v.ownBlock = some q → lo ≤ q ∧ q < hi
theorem Lies.of {w : World} {B : Nat} {v : Value} {l : List WordD} (h : WordRow B l v w) : Lies w B w.heap.size v l := ⟨h.in_, fun q e => h.lt q e⟩
theorem Lies.below {w w' : World} {lo hi : Nat} {v : Value} {l : List WordD} (h : Lies w lo hi v l) (hb : Below w.heap.size w w') : Lies w' lo hi v l := ⟨h.in_.below hb, h.own⟩
theorem Lies.keep {w w' : World} {lo hi lo2 hi2 : Nat} {v v2 : Value} {l : List WordD} (h : Lies w lo hi v l) (hg : w.grownBy w' v2.ownBlock) (h2 : ∀ q, v2.ownBlock = some q → lo2 ≤ q ∧ q < hi2) (hd : hi ≤ lo2 ∨ hi2 ≤ lo) : Lies w' lo hi v l :=
  ⟨h.in_.keep hg (fun q e k => by have a := h.own q e; have b := h2 q k; omega), h.own⟩
/-- What a list written full, and the longer one, are. -/
structure Two (w : World) (lo hi mid : Nat) (v x : Value) (n : Nat) (mk : Int) : Prop where
  old : WordsIn w v (List.replicate n (mkW mk))
  new : WordsIn w x (List.replicate (n + 40) (mkW mk))
  own : ∀ q, v.ownBlock = some q → lo ≤ q ∧ q < hi
  own2 : ∀ q, x.ownBlock = some q → (lo ≤ q ∧ q < hi) ∨ mid ≤ q
theorem Two.of {w w' : World} {B lo hi n : Nat} {v x : Value} {mk : Int} (h : Filled w w' B n v x mk) (ho : ∀ q, v.ownBlock = some q → lo ≤ q ∧ q < hi) : Two w' lo hi w.heap.size v x n mk :=
  ⟨h.old, h.new, ho, fun q e => by
    rcases h.where_ with k | k
    · exact Or.inl (ho q (k ▸ e))
    · exact Or.inr (k q e)⟩
theorem Two.below {w w' : World} {lo hi mid n : Nat} {v x : Value} {mk : Int} (h : Two w lo hi mid v x n mk) (hb : Below w.heap.size w w') : Two w' lo hi mid v x n mk := ⟨h.old.below hb, h.new.below hb, h.own, h.own2⟩
theorem Two.keep {w w' : World} {lo hi mid n lo2 hi2 : Nat} {v x v2 : Value} {mk : Int} (h : Two w lo hi mid v x n mk) (hg : w.grownBy w' v2.ownBlock) (h2 : ∀ q, v2.ownBlock = some q → lo2 ≤ q ∧ q < hi2) (hd : hi ≤ lo2 ∧ hi2 ≤ mid) : Two w' lo hi mid v x n mk :=
  ⟨h.old.keep hg (fun q e k => by have a := h.own q e; have b := h2 q k; omega), h.new.keep hg (fun q e k => by have a := h.own2 q e; have b := h2 q k; omega), h.own, h.own2⟩
theorem row_keep {w w' : World} {B : Nat} {v v2 : Value} {l : List WordD} {lo2 hi2 lo hi : Nat} (h : WordRow B l v w) (ho : ∀ q, v.ownBlock = some q → lo ≤ q ∧ q < hi) (hg : w.grownBy w' v2.ownBlock) (h2 : ∀ q, v2.ownBlock = some q → lo2 ≤ q ∧ q < hi2) (hd : hi ≤ lo2 ∨ hi2 ≤ lo) : WordRow B l v w' :=
  h.kept hg (by
    cases e : v.ownBlock with
    | none => exact Or.inl rfl
    | some q => exact Or.inr (fun k => by have a := ho q e; have b := h2 q k.symm; omega))
/-- All that stands before the lists are written full. -/
structure Four (w w4 : World) (L L1 : List WordD) (v0 va vb vo : Value) (h1 h2 h3 h4 : Nat) : Prop where
  ref : Lies w4 w.heap.size h1 v0 L
  a : WordRow h1 L va w4
  b : WordRow h2 L vb w4
  o : WordRow h3 L1 vo w4
  oa : ∀ q, va.ownBlock = some q → h1 ≤ q ∧ q < h2
  ob : ∀ q, vb.ownBlock = some q → h2 ≤ q ∧ q < h3
  oo : ∀ q, vo.ownBlock = some q → h3 ≤ q ∧ q < h4
  bel : Below w.heap.size w w4
  le : h1 ≤ h2 ∧ h2 ≤ h3 ∧ h3 ≤ h4 ∧ h4 ≤ w4.heap.size ∧ w.heap.size ≤ h1
theorem Four.of {w w1 w2 w3 w4 : World} {L L1 : List WordD} {v0 va vb vo : Value} (r0 : WordRow w.heap.size L v0 w1) (b0 : Below w.heap.size w w1) (r1 : WordRow w1.heap.size L va w2) (b1 : Below w1.heap.size w1 w2)
    (r2 : WordRow w2.heap.size L vb w3) (b2 : Below w2.heap.size w2 w3) (r3 : WordRow w3.heap.size L1 vo w4) (b3 : Below w3.heap.size w3 w4) : Four w w4 L L1 v0 va vb vo w1.heap.size w2.heap.size w3.heap.size w4.heap.size :=
  ⟨(((Lies.of r0).below b1).below b2).below b3, own_through (own_through r1 b2) b3, own_through r2 b3, r3, fun q e => r1.lt q e, fun q e => r2.lt q e, fun q e => r3.lt q e, then_ (then_ (then_ b0 b1) b2) b3,
    ⟨b1.size, b2.size, b3.size, Nat.le_refl _, b0.size⟩⟩
theorem Four.drawn {w w4 w5 : World} {L L1 : List WordD} {v0 va vb vo : Value} {h1 h2 h3 h4 : Nat} (h : Four w w4 L L1 v0 va vb vo h1 h2 h3 h4) (hb : Below w4.heap.size w4 w5) : Four w w5 L L1 v0 va vb vo h1 h2 h3 h4 :=
  ⟨h.ref.below hb, own_through h.a hb, own_through h.b hb, own_through h.o hb, h.oa, h.ob, h.oo, then_ h.bel hb, ⟨h.le.1, h.le.2.1, h.le.2.2.1, Nat.le_trans h.le.2.2.2.1 hb.size, h.le.2.2.2.2⟩⟩
/-- All three are written full. -/
structure Full (w w8 : World) (L L1 : List WordD) (v0 va vb vo xa xb xo : Value) : Prop where
  ref : WordsIn w8 v0 L
  a1 : WordsIn w8 va (List.replicate L.length (mkW (-71)))
  a2 : WordsIn w8 xa (List.replicate (L.length + 40) (mkW (-71)))
  b1 : WordsIn w8 vb (List.replicate L.length (mkW (-72)))
  b2 : WordsIn w8 xb (List.replicate (L.length + 40) (mkW (-72)))
  o1 : WordsIn w8 vo (List.replicate L1.length (mkW (-73)))
  o2 : WordsIn w8 xo (List.replicate (L1.length + 40) (mkW (-73)))
  bel : Below w.heap.size w w8
theorem Full.below {w w8 w9 : World} {L L1 : List WordD} {v0 va vb vo xa xb xo : Value} (h : Full w w8 L L1 v0 va vb vo xa xb xo) (hb : Below w8.heap.size w8 w9) : Full w w9 L L1 v0 va vb vo xa xb xo :=
  ⟨h.ref.below hb, h.a1.below hb, h.a2.below hb, h.b1.below hb, h.b2.below hb, h.o1.below hb, h.o2.below hb, then_ h.bel hb⟩
/-- Behind the first. -/
structure One (w w6 : World) (L L1 : List WordD) (v0 va vb vo xa : Value) (h1 h2 h3 h4 mid : Nat) : Prop where
  ref : Lies w6 w.heap.size h1 v0 L
  a : Two w6 h1 h2 mid va xa L.length (-71)
  b : WordRow h2 L vb w6
  o : WordRow h3 L1 vo w6
  ob : ∀ q, vb.ownBlock = some q → h2 ≤ q ∧ q < h3
  oo : ∀ q, vo.ownBlock = some q → h3 ≤ q ∧ q < h4
  bel : Below w.heap.size w w6
  le : h1 ≤ h2 ∧ h2 ≤ h3 ∧ h3 ≤ h4 ∧ h4 ≤ mid ∧ mid ≤ w6.heap.size ∧ w.heap.size ≤ h1
theorem One.of {w w5 w6 : World} {L L1 : List WordD} {v0 va vb vo xa : Value} {h1 h2 h3 h4 : Nat} (h : Four w w5 L L1 v0 va vb vo h1 h2 h3 h4) (f : Filled w5 w6 h1 L.length va xa (-71)) : One w w6 L L1 v0 va vb vo xa h1 h2 h3 h4 w5.heap.size := by
  obtain ⟨l1, l2, l3, l4, l5⟩ := h.le
  have hb := h.bel.size
  exact ⟨h.ref.keep f.grown h.oa (Or.inl (Nat.le_refl _)), Two.of f h.oa, row_keep h.b h.ob f.grown h.oa (Or.inr (Nat.le_refl _)), row_keep h.o h.oo f.grown h.oa (Or.inr l2), h.ob, h.oo,
    h.bel.grown f.grown (by omega) (fun q e => by have := h.oa q e; omega), ⟨l1, l2, l3, l4, f.grown.size, l5⟩⟩
/-- Behind the second. -/
structure Snd (w w7 : World) (L L1 : List WordD) (v0 va vb vo xa xb : Value) (h1 h2 h3 h4 mid mid2 : Nat) : Prop where
  ref : Lies w7 w.heap.size h1 v0 L
  a : Two w7 h1 h2 mid va xa L.length (-71)
  b : Two w7 h2 h3 mid2 vb xb L.length (-72)
  o : WordRow h3 L1 vo w7
  oo : ∀ q, vo.ownBlock = some q → h3 ≤ q ∧ q < h4
  bel : Below w.heap.size w w7
  le : h1 ≤ h2 ∧ h2 ≤ h3 ∧ h3 ≤ h4 ∧ h4 ≤ mid ∧ mid ≤ mid2 ∧ mid2 ≤ w7.heap.size ∧ w.heap.size ≤ h1
theorem Snd.of {w w6 w7 : World} {L L1 : List WordD} {v0 va vb vo xa xb : Value} {h1 h2 h3 h4 mid : Nat} (h : One w w6 L L1 v0 va vb vo xa h1 h2 h3 h4 mid) (f : Filled w6 w7 h2 L.length vb xb (-72)) : Snd w w7 L L1 v0 va vb vo xa xb h1 h2 h3 h4 mid w6.heap.size := by
  obtain ⟨l1, l2, l3, l4, l5, l6⟩ := h.le
  exact ⟨h.ref.keep f.grown h.ob (Or.inl l1), h.a.keep f.grown h.ob ⟨Nat.le_refl _, by omega⟩, Two.of f h.ob, row_keep h.o h.oo f.grown h.ob (Or.inr (Nat.le_refl _)), h.oo,
    h.bel.grown f.grown (by omega) (fun q e => by have := h.ob q e; omega), ⟨l1, l2, l3, l4, l5, f.grown.size, l6⟩⟩
theorem Full.of {w w7 w8 : World} {L L1 : List WordD} {v0 va vb vo xa xb xo : Value} {h1 h2 h3 h4 mid mid2 : Nat} (h : Snd w w7 L L1 v0 va vb vo xa xb h1 h2 h3 h4 mid mid2) (f : Filled w7 w8 h3 L1.length vo xo (-73)) : Full w w8 L L1 v0 va vb vo xa xb xo := by
  obtain ⟨l1, l2, l3, l4, l5, l6, l7⟩ := h.le
  have ra := h.ref.keep f.grown h.oo (Or.inl (by omega))
  have aa := h.a.keep f.grown h.oo ⟨by omega, by omega⟩
  have bb := h.b.keep f.grown h.oo ⟨Nat.le_refl _, by omega⟩
  exact ⟨ra.in_, aa.old, aa.new, bb.old, bb.new, f.old, f.new, h.bel.grown f.grown (by omega) (fun q e => by have := h.oo q e; omega)⟩
set_option maxHeartbeats 8000000 in
set_option maxRecDepth 100000 in
theorem walk (s0 : ByteArray) (w : World) (hs0 : s0.size ≤ 9223372036854775807) (hU : U8 w) (hT : TZ w) (hL : LT w) (hR : LR w) (hH : RefHid w) :
    Calls Tryd.prog 10 #[.string s0] w fun e w' => e = .returned (.bool true) ∧ Below w.heap.size w w' := by
  have hcut := Lib.hid (fun w => cutText_any s0 w hs0)
  obtain ⟨S, hS⟩ : ∃ S, s0.extract 0 131072 = S := ⟨_, rfl⟩
  have hSz : S.size ≤ 131072 := by rw [← hS, ByteArray.size_extract]; omega
  rw [hS] at hcut
  have hln := wordsR_len S
  have hl1 := words_one
  have hrw := refWords_any S (by omega) w hH hR
  have hw := fun w2 (h : Below w.heap.size w w2) => words_any S (by omega) w2 (u8_below hU h) (hT.below h) (PairsAt.below hL h)
  have ho := fun w2 (h : Below w.heap.size w w2) => words_any ⟨#[97, 32, 49]⟩ (by decide) w2 (u8_below hU h) (hT.below h) (PairsAt.below hL h)
  obtain ⟨⟨L, E, P⟩, hx⟩ : ∃ x, wordsR S = x := ⟨_, rfl⟩
  obtain ⟨⟨L1, E1, P1⟩, hx1⟩ : ∃ x, wordsR ⟨#[97, 32, 49]⟩ = x := ⟨_, rfl⟩
  rw [hx] at hrw hln
  simp only [hx] at hw
  rw [hx1] at hl1
  simp only [hx1] at ho
  simp only at hrw hln hl1
  have hLn : L.length ≤ 131072 := by omega
  have HL1 := Lib.hid hl1
  have hrw := Lib.hid hrw
  have hw := Lib.hid hw
  have ho := Lib.hid ho
  clear hS hx hx1 hU hT hL hR hH hl1 hln
  go_enter Tryd.func10, Tryd.ntmps10
  go_wp2_with (go_at_call 15; (with_reducible refine (hcut.out _).mono ?_); rintro e wz ⟨rfl, hwz⟩; have hwz2 := hwz.symm; clear hwz; subst hwz2)
  refine hrw.out.mono ?_
  rintro e w1 ⟨v0, rfl, r0, b0⟩
  have R0 := Lib.hid r0
  have B0 := Lib.hid b0
  clear r0 b0
  go_wp2_with fail
  refine (hw.out _ B0.out).mono ?_
  rintro e w2 ⟨va, rfl, r1, b1⟩
  have R1 := Lib.hid r1
  have B1 := Lib.hid b1
  clear r1 b1
  go_wp2_with fail
  refine (hw.out _ (then_ B0.out B1.out)).mono ?_
  rintro e w3 ⟨vb, rfl, r2, b2⟩
  have R2 := Lib.hid r2
  have B2 := Lib.hid b2
  clear r2 b2
  go_wp2_with fail
  refine (ho.out _ (then_ (then_ B0.out B1.out) B2.out)).mono ?_
  rintro e w4 ⟨vo, rfl, r3, b3⟩
  have F4 := Lib.hid (Four.of R0.out B0.out R1.out B1.out R2.out B2.out r3 b3)
  obtain ⟨ao, co, hvo, -⟩ := r3.in_
  rw [HL1.out] at hvo
  subst hvo
  clear r3 b3 R0 B0 R1 B1 R2 B2
  go_wp2_with fail
  refine (sameWords_any L va v0 _ F4.out.a.in_ F4.out.ref.in_ (by omega)).mono ?_
  rintro e w5 ⟨rfl, hd⟩
  have F5 := Lib.hid (F4.out.drawn hd.below)
  clear hd F4
  go_wp2_with fail
  refine (sameWords_any L vb v0 _ F5.out.b.in_ F5.out.ref.in_ (by omega)).mono ?_
  rintro e w6 ⟨rfl, hd⟩
  have F6 := Lib.hid (F5.out.drawn hd.below)
  clear hd F5
  go_wp2_with fail
  refine (filled_any _ L va w6 (-71) F6.out.a (by have := F6.out.le; omega) hLn).mono ?_
  rintro e w7 ⟨xa, rfl, hf⟩
  have G7 := Lib.hid (One.of F6.out hf)
  clear hf F6
  go_wp2_with fail
  refine (filled_any _ L vb w7 (-72) G7.out.b (by have := G7.out.le; omega) hLn).mono ?_
  rintro e w8 ⟨xb, rfl, hf⟩
  have G8 := Lib.hid (Snd.of G7.out hf)
  clear hf G7
  go_wp2_with fail
  refine (filled_any _ L1 _ w8 (-73) G8.out.o (by have := G8.out.le; omega) (by rw [HL1.out]; omega)).mono ?_
  rintro e w9 ⟨xo, rfl, hf⟩
  have G9 := Lib.hid (Full.of G8.out hf)
  clear hf G8
  go_wp2_with fail
  refine (hw.out _ G9.out.bel).mono ?_
  rintro e w10 ⟨vl, rfl, r4, b4⟩
  have R4 := Lib.hid r4.in_
  have G10 := Lib.hid (G9.out.below b4)
  clear r4 b4 G9
  go_wp2_with fail
  refine (sameWords_any L vl v0 _ R4.out G10.out.ref (by omega)).mono ?_
  rintro e w11 ⟨rfl, hd⟩
  have G11 := Lib.hid (G10.out.below hd.below)
  clear hd G10 R4
  go_wp2_with fail
  refine (marked_any _ va (-71) _ G11.out.a1 (by omega)).mono ?_
  rintro e wq ⟨rfl, rfl⟩
  go_wp2_with fail
  refine (marked_any _ xa (-71) _ G11.out.a2 (by omega)).mono ?_
  rintro e wq ⟨rfl, rfl⟩
  go_wp2_with fail
  refine (marked_any _ vb (-72) _ G11.out.b1 (by omega)).mono ?_
  rintro e wq ⟨rfl, rfl⟩
  go_wp2_with fail
  refine (marked_any _ xb (-72) _ G11.out.b2 (by omega)).mono ?_
  rintro e wq ⟨rfl, rfl⟩
  go_wp2_with fail
  refine (marked_any _ _ (-73) _ G11.out.o1 (by rw [HL1.out]; omega)).mono ?_
  rintro e wq ⟨rfl, rfl⟩
  go_wp2_with fail
  refine (marked_any _ xo (-73) _ G11.out.o2 (by rw [HL1.out]; omega)).mono ?_
  rintro e wq ⟨rfl, rfl⟩
  go_wp2_with fail
  all_goals go_ret
  all_goals exact ⟨rfl, G11.out.bel⟩
end Go.Proofs.YtepmfjhhmnmmeaaDoor.textKept
