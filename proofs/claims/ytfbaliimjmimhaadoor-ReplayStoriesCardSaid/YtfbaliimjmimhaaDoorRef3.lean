/-
  annalsref3's within, label, zero, bounds walked: they answer as package record's do. Conditions: the letters that annalsref2.Name reads, as laid; texts of at most 2^40 bytes.
-/
import Derived.Test.YtfbaliimjmimhaaDoorRecSame
import Derived.Test.YtfbaliimjmimhaaDoorPkText
namespace Go.Proofs.YtfbaliimjmimhaaDoor
open Go.RowKit

/-- The rows of tags that annalsref3 keeps, as texts. -/
def rowStr (i : Nat) : ByteArray := ([⟨#[97, 98, 99, 107]⟩, ⟨#[97, 98, 101, 104, 106, 107]⟩, ⟨#[97, 98, 101, 104, 105, 106, 107]⟩, ⟨#[97, 98, 99]⟩, ⟨#[97, 98, 99, 100, 101]⟩, ⟨#[97, 98, 99, 100, 101]⟩, ⟨#[97, 98, 99, 107]⟩, ⟨#[97, 98, 99, 101, 107]⟩, ⟨#[97, 98, 99, 101, 107]⟩, ⟨#[97, 98, 99, 107]⟩, ⟨#[97, 98, 99, 101, 102, 107]⟩, ⟨#[97, 98, 99, 101, 102, 103, 107]⟩, ⟨#[97, 98, 99]⟩, ⟨#[97, 98, 99, 100, 101]⟩, ⟨#[97, 98, 99, 100, 101]⟩, ⟨#[97, 98, 99, 107]⟩, ⟨#[97, 98, 99, 101, 107]⟩, ⟨#[97, 98, 99, 101, 107]⟩, ⟨#[97, 98]⟩, ⟨#[97, 98, 101]⟩, ⟨#[97, 98, 101, 103]⟩] : List ByteArray).getD i ⟨#[]⟩
def fieldsS (s : ByteArray) : List Int := s.data.toList.map (fun c => (c.toNat : Int) - 97 + 1)
structure RowStr (s : ByteArray) : Prop where
  size : s.size ≤ 11
  lo : ∀ c ∈ s.data.toList, 97 ≤ c.toNat
theorem rowStr_ok (i : Nat) (hi : i < 21) : RowStr (rowStr i) := by
  have h1 : ∀ i, i < 21 → (rowStr i).size ≤ 11 ∧ (rowStr i).data.toList.all (fun c => decide (97 ≤ c.toNat)) = true := by decide
  obtain ⟨a, b⟩ := h1 i hi
  exact ⟨a, fun c hc => by simpa using List.all_eq_true.1 b c hc⟩
theorem infoInt : (Tryd.prog.info? 3).map (fun i => (i.zero, i.size, i.bytes)) = some (some (.int .i64 0), 1, 8) := by kernel_rfl

theorem rows_may : ∀ V, V < 3 → ∀ K, K < 7 → ∀ t, t < 9 → (fieldsS (rowStr (K * 3 + V))).any (· == ((t + 3 : Nat) : Int)) = standsB (mayL.getD (V * 7 + K) 0) (t + 3) := by decide +kernel

end Go.Proofs.YtfbaliimjmimhaaDoor
