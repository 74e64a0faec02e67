/-
  What Begin, Apply, Finished, Allowed and Pending answer, as plain functions. Conditions: none.
-/
import Derived.Test.YteaiadpigpehaaaDoorRecGood
import Derived.Test.YteaiadpigpehaaaDoorRefused
namespace Go.Proofs.YteaiadpigpehaaaDoor
open Go.RowKit

def refusedD (D : SagaD) (X : RecD) : Int := refusedN (D.words nilSl nilSl nilSl nilSl) (X.words nilSl)
/-- What the record's kind does. -/
def turnD (D : SagaD) (X : RecD) : SagaD :=
  if X.kind = 2 ∨ X.kind = 5 then { D with flight := true, tries := X.try_ }
  else if X.kind = 3 then { D with flight := false, tries := 0, next := D.next + 1, outs := D.outs ++ [X.data] }
  else if X.kind = 4 then (if X.last = 0 then { D with flight := false } else { D with flight := false, tries := 0, phase := 2, failStep := X.step, failCode := X.code, fail := X.data })
  else if X.kind = 6 then { D with flight := false, tries := 0, next := D.next - 1, undos := D.undos ++ [X.data] }
  else { D with phase := if D.phase = 1 then 3 else 4 }
def zeroD : SagaD := ⟨0, ⟨#[]⟩, 0, 0, 0, 0, [], 0, 0, false, 0, [], [], 0, 0, []⟩
def applyN (D : SagaD) (R : RecD) : Int := if checkD D ≠ 0 then 100 else if recD R ≠ 0 then recD R else refusedD D (up3 R)
def movedD (D : SagaD) (X : RecD) : SagaD := turnD { D with at_ := X.at_ } X
def applyD (D : SagaD) (R : RecD) : SagaD := if applyN D R ≠ 0 then zeroD else movedD D (up3 R)
def beginN (R : RecD) : Int := if recD R ≠ 0 then recD R else if R.kind ≠ 1 then 102 else 0
def begunD (X : RecD) : SagaD := ⟨X.saga, X.name, X.count, X.pivot, X.at_, X.at_, X.data, 1, 0, false, 0, [], [], 0, 0, []⟩
def beginD (R : RecD) : SagaD := if beginN R ≠ 0 then zeroD else begunD (up3 R)
def finishedD (D : SagaD) : Bool := decide (checkD D = 0 ∧ (D.phase = 3 ∨ D.phase = 4))
def allowedD (D : SagaD) : List Int :=
  if checkD D ≠ 0 ∨ D.phase = 3 ∨ D.phase = 4 then [] else if D.flight = true ∧ D.phase = 1 then [3, 4] else if D.flight = true then [4, 6]
  else if D.phase = 1 ∧ D.next < D.count then [2] else if D.phase = 2 ∧ D.next > 0 then [5] else [7]
def pendingD (D : SagaD) : List Int :=
  if checkD D ≠ 0 then [] else if ¬ (D.phase = 1 ∧ D.next < D.count ∧ (D.pivot = 0 ∨ D.next < D.pivot)) ∧ D.phase ≠ 2 then [] else (List.range D.next.toNat).reverse.map Int.ofNat

theorem applyN_0 {D : SagaD} {R : RecD} (h : applyN D R = 0) : checkD D = 0 ∧ recD R = 0 ∧ refusedD D (up3 R) = 0 := by
  unfold applyN at h
  split at h
  · cases h
  · next h1 =>
    split at h
    · next h2 => exact absurd h h2
    · next h2 => exact ⟨by simpa using h1, by simpa using h2, h⟩
/-- What a record that is not refused keeps. -/
structure TakenD (D : SagaD) (X : RecD) : Prop where
  saga : X.saga = D.id
  kind : X.kind ≠ 1
  phase : D.phase = 1 ∨ D.phase = 2
  running : X.kind = 2 ∨ X.kind = 3 → D.phase = 1
  undoing : X.kind = 5 ∨ X.kind = 6 → D.phase = 2
  failed : X.kind = 4 → X.last = 1 → D.phase = 1
  flight : D.flight = decide (X.kind = 3 ∨ X.kind = 4 ∨ X.kind = 6)
  ended1 : X.kind = 7 → D.phase = 1 → D.next = D.count
  ended2 : X.kind = 7 → D.phase = 2 → D.next = 0
  step1 : X.kind ≠ 7 → D.phase = 1 → X.step = D.next ∧ D.next ≠ D.count
  step2 : X.kind ≠ 7 → D.phase = 2 → X.step = D.next - 1
  try_ : X.kind = 2 ∨ X.kind = 5 → X.try_ = min (D.tries + 1) 1000
  pivot : X.kind = 4 → X.last = 1 → 0 < D.pivot → X.step < D.pivot
  code : X.kind = 7 → X.code ≠ 0 → X.code = D.phase
end Go.Proofs.YteaiadpigpehaaaDoor
