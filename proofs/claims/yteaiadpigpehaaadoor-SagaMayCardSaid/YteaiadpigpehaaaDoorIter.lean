/-
  A text's iterator in a world. Conditions: none.
-/
import Derived.Test.YteaiadpigpehaaaDoorStray
namespace Go.Proofs.YteaiadpigpehaaaDoor
open Go.RowKit

/-- The world with a text's iterator laid is what was, below it. -/
theorem below_iter (w : World) (s : ByteArray) (p : Nat) : Below w.heap.size w (w.iter s p) := (Below.refl _ _).alloc (Nat.le_refl _) _

theorem stray_at {s : ByteArray} {p : Nat} {b : Bool} (h : strayAt s p = b) (hi : p < s.size) (hs : s.size ≤ 4611686018427387904) (w : World) (hU : U8 w) :
    Calls Tryd.prog 101 #[.string s, .int .i64 p, .int .i32 (Utf8.decode s p).1] w fun e w' => e = .returned (.bool b) ∧ Below w.heap.size w w' := by
  rw [← h]; exact stray_any s p hi (by omega) w hU
theorem u8_below {w w' : World} (h : U8 w) (hb : Below w.heap.size w w') : U8 w' := Utf8Tabs_below h hb
theorem iter_after {w wr w2 : World} {s : ByteArray} {k p q : Nat} (hit : wr.heap[k]? = some (.stringIter s p)) (hb2 : Below (wr.iterAt k s q).heap.size (wr.iterAt k s q) w2) (hw : w.heap.size = k) (hb : Below w.heap.size w wr) :
    w2.heap[k]? = some (.stringIter s q) ∧ Below w.heap.size w w2 := by
  have h1 := Lib.iterAt_heap wr k s p q hit
  have hlt : k < (wr.iterAt k s q).heap.size := (Array.getElem?_eq_some_iff.1 h1).1
  exact ⟨(hb2.block _ hlt).trans h1, (Lib.below_iterAt hb (by omega) s q).trans (hb2.mono (by omega))⟩
theorem iterPos_of {w : World} {k p : Nat} {s : ByteArray} (h : w.heap[k]? = some (.stringIter s p)) : w.iterPos k = p := by simp [World.iterPos, h]

end Go.Proofs.YteaiadpigpehaaaDoor
