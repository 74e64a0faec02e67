/-
  DERIVED. GIVEN WITH THE SEED: THE CARDS: each row of YteaiadpigpehaaaDoorRows.lean that lists a variable, with what it lists TIED to the program's text (the seventh form; the later family's looks); each row that meets fmt, with fmt's text TOLD by the authors' own Lean function (tested against real Go, not proved from fmt's source: count such statements apart). THE CARD IS WHAT COUNTS. Prove the row's statement (the work); the ties are given (YteaiadpigpehaaaDoorTie.lean); close each card by the builder's one call (the guide's Derived/Test/ToyasCard.lean, 'card_holds'). Laid BY PROGRAM, IN A SANDBOX (cutbox-door.mjs). By AI agents, Wed Nov 11 2026. No macro, syntax, notation, axiom, sorry.
-/
import Derived.Test.YteaiadpigpehaaaDoorRows
import GoSem.ClaimSeven
namespace Go.Proofs.YteaiadpigpehaaaDoor
namespace Rows

/-- THE TIED CARD OF 'annalslaw10.SagaLifted'. -/
def sagaLiftedCard : Claim7 := { stood := { row := sagaLiftedRow, standIns := [], harness := (true, "01f28d8b2a98a5f3750a2872204ff7553b3227fca56154cbb85e144a79d1c179"), looks := false }, kinds := [], alts := [], laidByText := true, laidKinds := [.data, .data, .data, .data, .data, .wider, .data, .pinned], laidTests := true, laidLooks := .later }
def SagaLiftedCardSaid : Prop := Claim7.holds Tryd.pinned (.plain (OpenSpec.ofChange sagaLiftedSpec)) sagaLiftedCard

/-- THE TIED CARD OF 'annalslaw10.SagaWhole'. -/
def sagaWholeCard : Claim7 := { stood := { row := sagaWholeRow, standIns := [], harness := (true, "01f28d8b2a98a5f3750a2872204ff7553b3227fca56154cbb85e144a79d1c179"), looks := false }, kinds := [], alts := [], laidByText := true, laidKinds := [.data, .data, .data, .wider, .data, .pinned], laidTests := true, laidLooks := .later }
def SagaWholeCardSaid : Prop := Claim7.holds Tryd.pinned (.plain (OpenSpec.ofChange sagaWholeSpec)) sagaWholeCard

/-- THE TIED CARD OF 'annalslaw10.SagaMay'. -/
def sagaMayCard : Claim7 := { stood := { row := sagaMayRow, standIns := [], harness := (true, "01f28d8b2a98a5f3750a2872204ff7553b3227fca56154cbb85e144a79d1c179"), looks := false }, kinds := [], alts := [], laidByText := true, laidKinds := [.data, .data, .data, .wider, .data, .pinned], laidTests := true, laidLooks := .later }
def SagaMayCardSaid : Prop := Claim7.holds Tryd.pinned (.plain (OpenSpec.ofChange sagaMaySpec)) sagaMayCard

/-- THE TIED CARD OF 'annalslaw10.SagaEnds'. -/
def sagaEndsCard : Claim7 := { stood := { row := sagaEndsRow, standIns := [], harness := (true, "01f28d8b2a98a5f3750a2872204ff7553b3227fca56154cbb85e144a79d1c179"), looks := false }, kinds := [], alts := [], laidByText := true, laidKinds := [.data, .data, .data, .wider, .data, .pinned], laidTests := true, laidLooks := .later }
def SagaEndsCardSaid : Prop := Claim7.holds Tryd.pinned (.plain (OpenSpec.ofChange sagaEndsSpec)) sagaEndsCard

/-- THE TIED CARD OF 'annalslaw10.SagaRuns'. -/
def sagaRunsCard : Claim7 := { stood := { row := sagaRunsRow, standIns := [], harness := (true, "01f28d8b2a98a5f3750a2872204ff7553b3227fca56154cbb85e144a79d1c179"), looks := false }, kinds := [], alts := [], laidByText := true, laidKinds := [.data, .data, .data, .data, .data, .wider, .data, .pinned], laidTests := true, laidLooks := .later }
def SagaRunsCardSaid : Prop := Claim7.holds Tryd.pinned (.plain (OpenSpec.ofChange sagaRunsSpec)) sagaRunsCard

/-- THE TIED CARD OF 'annalslaw10.SagaTold'. -/
def sagaToldCard : Claim7 := { stood := { row := sagaToldRow, standIns := [], harness := (true, "01f28d8b2a98a5f3750a2872204ff7553b3227fca56154cbb85e144a79d1c179"), looks := false }, kinds := [], alts := [], laidByText := true, laidKinds := [.data, .data, .data, .wider, .data, .pinned], laidTests := true, laidLooks := .later }
def SagaToldCardSaid : Prop := Claim7.holds Tryd.pinned (.plain (OpenSpec.ofChange sagaToldSpec)) sagaToldCard

/-- THE TIED CARD OF 'annalslaw10.SagaEmpty'. -/
def sagaEmptyCard : Claim7 := { stood := { row := sagaEmptyRow, standIns := [], harness := (true, "01f28d8b2a98a5f3750a2872204ff7553b3227fca56154cbb85e144a79d1c179"), looks := false }, kinds := [], alts := [], laidByText := true, laidKinds := [.data, .data, .data, .data, .data, .wider, .data, .pinned], laidTests := true, laidLooks := .later }
def SagaEmptyCardSaid : Prop := Claim7.holds Tryd.pinned (.plain (OpenSpec.ofChange sagaEmptySpec)) sagaEmptyCard

/-- THE TIED CARD OF 'annalslaw10.SagaOwn'. -/
def sagaOwnCard : Claim7 := { stood := { row := sagaOwnRow, standIns := [], harness := (true, "01f28d8b2a98a5f3750a2872204ff7553b3227fca56154cbb85e144a79d1c179"), looks := false }, kinds := [], alts := [], laidByText := true, laidKinds := [.data, .data, .data, .data, .data, .wider, .data, .pinned], laidTests := true, laidLooks := .later }
def SagaOwnCardSaid : Prop := Claim7.holds Tryd.pinned (.plain (OpenSpec.ofChange sagaOwnSpec)) sagaOwnCard

/-- THE TIED CARD OF 'annalslaw10.SagaLent'. -/
def sagaLentCard : Claim7 := { stood := { row := sagaLentRow, standIns := [], harness := (true, "01f28d8b2a98a5f3750a2872204ff7553b3227fca56154cbb85e144a79d1c179"), looks := false }, kinds := [], alts := [], laidByText := true, laidKinds := [.data, .data, .data, .data, .data, .wider, .data, .pinned], laidTests := true, laidLooks := .later }
def SagaLentCardSaid : Prop := Claim7.holds Tryd.pinned (.plain (OpenSpec.ofChange sagaLentSpec)) sagaLentCard

/-- THE SECOND FORM's CARD OF 'annalslaw10.SagaLifted'. -/
def sagaLiftedUptoCard : Claim7 := { stood := { row := sagaLiftedUptoRow, standIns := [], harness := (true, "01f28d8b2a98a5f3750a2872204ff7553b3227fca56154cbb85e144a79d1c179"), looks := false }, kinds := [], alts := [], laidByText := true, laidKinds := [.data, .data, .data, .data, .data, .wider, .data, .pinned], laidTests := true, laidLooks := .later }
def SagaLiftedUptoCardSaid : Prop := Claim7.holds Tryd.pinned (.plain (OpenSpec.upto sagaLiftedSpec)) sagaLiftedUptoCard

/-- THE SECOND FORM's CARD OF 'annalslaw10.SagaWhole'. -/
def sagaWholeUptoCard : Claim7 := { stood := { row := sagaWholeUptoRow, standIns := [], harness := (true, "01f28d8b2a98a5f3750a2872204ff7553b3227fca56154cbb85e144a79d1c179"), looks := false }, kinds := [], alts := [], laidByText := true, laidKinds := [.data, .data, .data, .wider, .data, .pinned], laidTests := true, laidLooks := .later }
def SagaWholeUptoCardSaid : Prop := Claim7.holds Tryd.pinned (.plain (OpenSpec.upto sagaWholeSpec)) sagaWholeUptoCard

/-- THE SECOND FORM's CARD OF 'annalslaw10.SagaMay'. -/
def sagaMayUptoCard : Claim7 := { stood := { row := sagaMayUptoRow, standIns := [], harness := (true, "01f28d8b2a98a5f3750a2872204ff7553b3227fca56154cbb85e144a79d1c179"), looks := false }, kinds := [], alts := [], laidByText := true, laidKinds := [.data, .data, .data, .wider, .data, .pinned], laidTests := true, laidLooks := .later }
def SagaMayUptoCardSaid : Prop := Claim7.holds Tryd.pinned (.plain (OpenSpec.upto sagaMaySpec)) sagaMayUptoCard

/-- THE SECOND FORM's CARD OF 'annalslaw10.SagaEnds'. -/
def sagaEndsUptoCard : Claim7 := { stood := { row := sagaEndsUptoRow, standIns := [], harness := (true, "01f28d8b2a98a5f3750a2872204ff7553b3227fca56154cbb85e144a79d1c179"), looks := false }, kinds := [], alts := [], laidByText := true, laidKinds := [.data, .data, .data, .wider, .data, .pinned], laidTests := true, laidLooks := .later }
def SagaEndsUptoCardSaid : Prop := Claim7.holds Tryd.pinned (.plain (OpenSpec.upto sagaEndsSpec)) sagaEndsUptoCard

/-- THE SECOND FORM's CARD OF 'annalslaw10.SagaRuns'. -/
def sagaRunsUptoCard : Claim7 := { stood := { row := sagaRunsUptoRow, standIns := [], harness := (true, "01f28d8b2a98a5f3750a2872204ff7553b3227fca56154cbb85e144a79d1c179"), looks := false }, kinds := [], alts := [], laidByText := true, laidKinds := [.data, .data, .data, .data, .data, .wider, .data, .pinned], laidTests := true, laidLooks := .later }
def SagaRunsUptoCardSaid : Prop := Claim7.holds Tryd.pinned (.plain (OpenSpec.upto sagaRunsSpec)) sagaRunsUptoCard

/-- THE SECOND FORM's CARD OF 'annalslaw10.SagaTold'. -/
def sagaToldUptoCard : Claim7 := { stood := { row := sagaToldUptoRow, standIns := [], harness := (true, "01f28d8b2a98a5f3750a2872204ff7553b3227fca56154cbb85e144a79d1c179"), looks := false }, kinds := [], alts := [], laidByText := true, laidKinds := [.data, .data, .data, .wider, .data, .pinned], laidTests := true, laidLooks := .later }
def SagaToldUptoCardSaid : Prop := Claim7.holds Tryd.pinned (.plain (OpenSpec.upto sagaToldSpec)) sagaToldUptoCard

/-- THE SECOND FORM's CARD OF 'annalslaw10.SagaEmpty'. -/
def sagaEmptyUptoCard : Claim7 := { stood := { row := sagaEmptyUptoRow, standIns := [], harness := (true, "01f28d8b2a98a5f3750a2872204ff7553b3227fca56154cbb85e144a79d1c179"), looks := false }, kinds := [], alts := [], laidByText := true, laidKinds := [.data, .data, .data, .data, .data, .wider, .data, .pinned], laidTests := true, laidLooks := .later }
def SagaEmptyUptoCardSaid : Prop := Claim7.holds Tryd.pinned (.plain (OpenSpec.upto sagaEmptySpec)) sagaEmptyUptoCard

/-- THE SECOND FORM's CARD OF 'annalslaw10.SagaOwn'. -/
def sagaOwnUptoCard : Claim7 := { stood := { row := sagaOwnUptoRow, standIns := [], harness := (true, "01f28d8b2a98a5f3750a2872204ff7553b3227fca56154cbb85e144a79d1c179"), looks := false }, kinds := [], alts := [], laidByText := true, laidKinds := [.data, .data, .data, .data, .data, .wider, .data, .pinned], laidTests := true, laidLooks := .later }
def SagaOwnUptoCardSaid : Prop := Claim7.holds Tryd.pinned (.plain (OpenSpec.upto sagaOwnSpec)) sagaOwnUptoCard

/-- THE SECOND FORM's CARD OF 'annalslaw10.SagaLent'. -/
def sagaLentUptoCard : Claim7 := { stood := { row := sagaLentUptoRow, standIns := [], harness := (true, "01f28d8b2a98a5f3750a2872204ff7553b3227fca56154cbb85e144a79d1c179"), looks := false }, kinds := [], alts := [], laidByText := true, laidKinds := [.data, .data, .data, .data, .data, .wider, .data, .pinned], laidTests := true, laidLooks := .later }
def SagaLentUptoCardSaid : Prop := Claim7.holds Tryd.pinned (.plain (OpenSpec.upto sagaLentSpec)) sagaLentUptoCard
end Rows
end Go.Proofs.YteaiadpigpehaaaDoor
