/-
  What SagaTold's way needs beside the walks: a row of records of one's own is read; the story's records are small; the first saga's story. Conditions: none.
-/
import Derived.Test.YtfbaliimjmimhaaDoorStoryLaw
import Derived.Test.YtfbaliimjmimhaaDoorRecs
namespace Go.Proofs.YtfbaliimjmimhaaDoor
open Go.RowKit

theorem flat_cells : ∀ (rs : List RecV) (i j : Nat) (h : i < rs.length), j < 12 → (rs.flatMap RecV.cells)[i * 12 + j]? = (rs[i]).cells[j]?
  | [], i, j, h, _ => absurd h (by simp)
  | r :: rs, 0, j, h, hj => by
    rw [List.flatMap_cons, Nat.zero_mul, Nat.zero_add, List.getElem?_append_left (by show j < 12; exact hj)]
    rfl
  | r :: rs, i + 1, j, h, hj => by
    rw [List.flatMap_cons, List.getElem?_append_right (by show 12 ≤ _; omega)]
    have e : (i + 1) * 12 + j - (r.cells).length = i * 12 + j := by show (i + 1) * 12 + j - 12 = _; omega
    rw [e, flat_cells rs i j (by simpa using h) hj]
    rfl
theorem OwnRecs.recsAt {w : World} {B : Nat} {v : Sl} {Rs : List RecD} (h : OwnRecs w B v.v Rs) (hd : ∀ R ∈ Rs, R.data.length ≤ 1073741824) : RecsAt w v Rs := by
  obtain ⟨rs, ⟨hl, h1⟩, h2, h3⟩ := h
  obtain ⟨va, vn, vc⟩ := v
  rcases h1 with ⟨e, h0⟩ | ⟨g, cap, cur, e, hb, hh, hc, hm, hz, ht⟩
  · simp only [Sl.v, Value.slice.injEq] at e
    obtain ⟨rfl, rfl, rfl⟩ := e
    have : rs = [] := List.eq_nil_of_length_eq_zero (by omega)
    subst this
    exact ⟨[], rfl, by simpa using h2, ⟨by simp, fun _ => rfl⟩, fun h => by simp at h, fun i h => by simp at h⟩
  · simp only [Sl.v, Value.slice.injEq] at e
    obtain ⟨rfl, rfl, rfl⟩ := e
    refine ⟨rs, h2.symm, h2, ⟨by simp only; unfold maxLen at hm; omega, fun h => by cases h⟩, fun _ => ⟨g, 0, rfl, fun i hi j hj => ?_⟩, fun i a b => ⟨(h3 i a b).1, ?_⟩⟩
    · have hlt : i * 12 + j < Rs.length * 12 := by omega
      have e2 : w.cell? ⟨g, 0 + i * 12 + j, none⟩ = cur[i * 12 + j]? := by
        rw [Nat.zero_add]
        exact BlkAt.cell (show BlkAt w g cur _ from hh) _
      rw [e2, ← Array.getElem?_toList, ← flat_cells rs i j hi hj, ← ht, List.getElem?_take, if_pos hlt]
    · exact (h3 i a b).2.bytes (by have := hd _ (List.getElem_mem b); omega)

theorem tell_small {D : SagaD} (hg : GoodD D) : ∀ R ∈ storyL D, R.data.length ≤ 16384 ∧ (R.name = D.name ∨ R.name = ⟨#[]⟩) := by
  have p := hg.plain
  intro R hR
  unfold storyL tellD at hR
  simp only [List.mem_cons, List.mem_append] at hR
  rcases hR with rfl | h | h | h | h
  · exact ⟨p.input, .inl rfl⟩
  · unfold outsL at h
    simp only [List.mem_flatMap, List.mem_cons, List.not_mem_nil, or_false] at h
    obtain ⟨i, _, rfl | rfl⟩ := h
    · exact ⟨by simp, .inr rfl⟩
    · exact ⟨getD_len p.outs i, .inr rfl⟩
  · unfold midL at h
    split at h
    · unfold undosL at h
      simp only [List.mem_append, List.mem_flatMap, List.mem_cons, List.not_mem_nil, or_false] at h
      rcases h with (rfl | rfl) | ⟨i, _, rfl | rfl⟩
      · exact ⟨by simp, .inr rfl⟩
      · exact ⟨p.fail, .inr rfl⟩
      · exact ⟨by simp, .inr rfl⟩
      · exact ⟨getD_len p.undos i, .inr rfl⟩
    · cases h
  · unfold lastL triesL at h
    simp only [List.mem_flatMap, List.mem_cons] at h
    obtain ⟨i, _, rfl | h⟩ := h
    · exact ⟨by simp, .inr rfl⟩
    · split at h
      · rw [List.mem_singleton] at h; subst h; exact ⟨by simp, .inr rfl⟩
      · cases h
  · unfold endL at h
    split at h
    · rw [List.mem_singleton] at h; subst h; exact ⟨by simp, .inr rfl⟩
    · split at h
      · rw [List.mem_singleton] at h; subst h; exact ⟨by simp, .inr rfl⟩
      · cases h
theorem tell_fits {D : SagaD} (hg : GoodD D) (hn : D.name.size ≤ 4611686018427387904) {R : RecD} (h : R ∈ storyL D) : RecFits R := by
  obtain ⟨h1, h2⟩ := tell_small hg R h
  refine ⟨?_, by omega⟩
  rcases h2 with e | e
  · rw [e]; exact hn
  · rw [e]; decide
theorem storyL_first : storyL firstD = [firstR] := by rfl
theorem tell_len {D : SagaD} : (storyL D).length = (tellD D).length + 1 := rfl
end Go.Proofs.YtfbaliimjmimhaaDoor
