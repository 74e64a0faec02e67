/-
  What saga.Check asks of a saga, as plain facts. Conditions: none.
-/
import Derived.Test.YteaiadpigpehaaaDoorData
namespace Go.Proofs.YteaiadpigpehaaaDoor
open Go.RowKit

theorem smallB_iff (ls : List (List Int)) : smallB (ls.map lenSl) = true ↔ ∀ d ∈ ls, d.length ≤ 16384 := by
  unfold smallB
  rw [Bool.not_eq_true', ← Bool.not_eq_true, List.any_eq_true]
  constructor
  · intro h d hd
    rcases Nat.lt_or_ge 16384 d.length with h1 | h1
    · exact absurd ⟨lenSl d, List.mem_map_of_mem hd, by simp [bigOne, lenSl, h1]⟩ h
    · exact h1
  · rintro h ⟨x, hx, hb⟩
    obtain ⟨d, hd, rfl⟩ := List.mem_map.1 hx
    have := h d hd
    have hb' : 16384 < d.length := of_decide_eq_true hb
    omega

structure PlainD (D : SagaD) : Prop where
  id : 1 ≤ D.id
  name : (nameA D.name).1 = 0
  count1 : 1 ≤ D.count
  count32 : D.count ≤ 32
  pivot0 : 0 ≤ D.pivot
  pivot : D.pivot ≤ D.count
  begun : 0 ≤ D.begun
  at0 : 0 ≤ D.at_
  phase1 : 1 ≤ D.phase
  phase4 : D.phase ≤ 4
  tries0 : 0 ≤ D.tries
  tries1000 : D.tries ≤ 1000
  flight : D.flight = true → D.tries ≠ 0
  input : D.input.length ≤ 16384
  fail : D.fail.length ≤ 16384
  outs : ∀ d ∈ D.outs, d.length ≤ 16384
  undos : ∀ d ∈ D.undos, d.length ≤ 16384
structure ForwardD (D : SagaD) : Prop where
  undos : D.undos = []
  failStep : D.failStep = 0
  failCode : D.failCode = 0
  fail : D.fail = []
  next0 : 0 ≤ D.next
  next : D.next ≤ D.count
  outs : (D.outs.length : Int) = D.next
  whole : D.phase = 3 → D.next = D.count
  full : D.next = D.count → D.tries = 0
  start : D.next ≠ D.count → (D.next > 0 ∨ D.tries > 0 ∨ D.at_ = D.begun)
structure BackD (D : SagaD) : Prop where
  failStep : D.failStep = D.outs.length
  count : D.failStep < D.count
  pivot : D.pivot > 0 → D.failStep < D.pivot
  next0 : 0 ≤ D.next
  next : D.next ≤ D.failStep
  undos : (D.undos.length : Int) = D.failStep - D.next
  undone : D.phase = 4 → D.next = 0
  none : D.next > 0 ∨ D.tries = 0
/-- A saga that may be. -/
structure GoodD (D : SagaD) : Prop where
  plain : PlainD D
  fw : D.phase = 1 ∨ D.phase = 3 → ForwardD D
  bk : ¬ (D.phase = 1 ∨ D.phase = 3) → BackD D

theorem plainB_iff (D : SagaD) (o u : Sl) : plainB (D.words (lenSl D.input) o u (lenSl D.fail)) (D.outs.map lenSl) (D.undos.map lenSl) = true ↔ PlainD D := by
  have e : [lenSl D.input, lenSl D.fail] = [D.input, D.fail].map lenSl := rfl
  unfold plainB plainNum
  simp only [e, Bool.and_eq_true, smallB_iff, decide_eq_true_eq, List.mem_cons, List.not_mem_nil, or_false, forall_eq_or_imp, forall_eq]
  constructor
  · rintro ⟨⟨a1, a2, a3, a4, a5, a6, a7, a8, a9, a10, a11, a12, a13⟩, ⟨a14, a15⟩, a16, a17⟩
    exact ⟨a1, a2, a3, a4, a5, a6, a7, a8, a9, a10, a11, a12, a13, a14, a15, a16, a17⟩
  · rintro ⟨a1, a2, a3, a4, a5, a6, a7, a8, a9, a10, a11, a12, a13, a14, a15, a16, a17⟩
    exact ⟨⟨a1, a2, a3, a4, a5, a6, a7, a8, a9, a10, a11, a12, a13⟩, ⟨a14, a15⟩, a16, a17⟩
theorem forwardB_iff (D : SagaD) (i : Sl) : forwardB (D.words i ⟨none, D.outs.length, 0⟩ ⟨none, D.undos.length, 0⟩ (lenSl D.fail)) = true ↔ ForwardD D := by
  unfold forwardB lenSl
  simp only [decide_eq_true_eq, List.length_eq_zero_iff]
  constructor
  · rintro ⟨a1, a2, a3, a4, a5, a6, a7, a8, a9, a10⟩
    exact ⟨a1, a2, a3, a4, a5, a6, a7, a8, a9, a10⟩
  · rintro ⟨a1, a2, a3, a4, a5, a6, a7, a8, a9, a10⟩
    exact ⟨a1, a2, a3, a4, a5, a6, a7, a8, a9, a10⟩
theorem backB_iff (D : SagaD) (i f : Sl) : backB (D.words i ⟨none, D.outs.length, 0⟩ ⟨none, D.undos.length, 0⟩ f) = true ↔ BackD D := by
  unfold backB
  simp only [decide_eq_true_eq]
  constructor
  · rintro ⟨a1, a2, a3, a4, a5, a6, a7, a8⟩
    exact ⟨a1, a2, a3, a4, a5, a6, a7, a8⟩
  · rintro ⟨a1, a2, a3, a4, a5, a6, a7, a8⟩
    exact ⟨a1, a2, a3, a4, a5, a6, a7, a8⟩
theorem checkD_iff (D : SagaD) : checkD D = 0 ↔ GoodD D := by
  have e : checkD D = 0 ↔ fitB (D.words (lenSl D.input) ⟨none, D.outs.length, 0⟩ ⟨none, D.undos.length, 0⟩ (lenSl D.fail)) (D.outs.map lenSl) (D.undos.map lenSl) = true := by
    unfold checkD checkN
    split
    · next h => simp [h]
    · next h => simp [h]
  rw [e]
  unfold fitB
  rw [Bool.and_eq_true, plainB_iff]
  by_cases h : D.phase = 1 ∨ D.phase = 3
  · rw [if_pos h, forwardB_iff]
    exact ⟨fun ⟨a, b⟩ => ⟨a, fun _ => b, fun k => absurd h k⟩, fun a => ⟨a.plain, a.fw h⟩⟩
  · rw [if_neg h, backB_iff]
    exact ⟨fun ⟨a, b⟩ => ⟨a, fun k => absurd k h, fun _ => b⟩, fun a => ⟨a.plain, a.bk h⟩⟩
theorem checkD_or (D : SagaD) : checkD D = 0 ∨ checkD D = 100 := by
  unfold checkD checkN
  split
  · exact .inl rfl
  · exact .inr rfl
theorem GoodD.small {D : SagaD} (h : GoodD D) : D.held.Small := by
  have hp := h.plain
  have ho : D.outs.length ≤ 1048576 := by
    by_cases k : D.phase = 1 ∨ D.phase = 3
    · have := (h.fw k).outs; have := (h.fw k).next; have := hp.count32; omega
    · have := (h.bk k).failStep; have := (h.bk k).count; have := hp.count32; omega
  have hu : D.undos.length ≤ 1048576 := by
    by_cases k : D.phase = 1 ∨ D.phase = 3
    · rw [(h.fw k).undos]; simp
    · have := (h.bk k).undos; have := (h.bk k).next; have := (h.bk k).next0; have := (h.bk k).count; have := hp.count32; omega
  exact ⟨by have := hp.input; simp only; omega, ho, fun d hd => by have := hp.outs d hd; omega, hu, fun d hd => by have := hp.undos d hd; omega, by have := hp.fail; simp only; omega⟩
end Go.Proofs.YteaiadpigpehaaaDoor
