/-
  DERIVED. GIVEN WITH THE SEED: THE CARDS: each row of YteaiadpigpehaaaGreatDoorRows.lean that lists a variable, with what it lists TIED to the program's text (the seventh form; the later family's looks); each row that meets fmt, with fmt's text TOLD by the authors' own Lean function (tested against real Go, not proved from fmt's source: count such statements apart). THE CARD IS WHAT COUNTS. Prove the row's statement (the work); the ties are given (YteaiadpigpehaaaGreatDoorTie.lean); close each card by the builder's one call (the guide's Derived/Test/ToyasCard.lean, 'card_holds'). Laid BY PROGRAM, IN A SANDBOX (cutbox-door.mjs). By AI agents, Wed Nov 11 2026. No macro, syntax, notation, axiom, sorry.
-/
import Derived.Test.YteaiadpigpehaaaGreatDoorRows
import GoSem.ClaimSeven
namespace Go.Proofs.YteaiadpigpehaaaGreatDoor
namespace Rows

/-- THE TIED CARD OF 'annalslaw10.SagaMoves'. -/
def sagaMovesCard : Claim7 := { stood := { row := sagaMovesRow, standIns := [], harness := (true, "ed3acb1257bed3178461b397cfe644912de9bf99b34d61079df0a716ca99c2da"), looks := false }, kinds := [], alts := [], laidByText := true, laidKinds := [.data, .data, .data, .data, .data, .wider, .data, .pinned], laidTests := true, laidLooks := .later }
def SagaMovesCardSaid : Prop := Claim7.holds Tryz.pinned (.plain (OpenSpec.ofChange sagaMovesSpec)) sagaMovesCard

/-- THE TIED CARD OF 'annalslaw10.SagaAsks'. -/
def sagaAsksCard : Claim7 := { stood := { row := sagaAsksRow, standIns := [], harness := (true, "ed3acb1257bed3178461b397cfe644912de9bf99b34d61079df0a716ca99c2da"), looks := false }, kinds := [], alts := [], laidByText := true, laidKinds := [.data, .data, .data, .data, .data, .wider, .data, .pinned], laidTests := true, laidLooks := .later }
def SagaAsksCardSaid : Prop := Claim7.holds Tryz.pinned (.plain (OpenSpec.ofChange sagaAsksSpec)) sagaAsksCard

/-- THE TIED CARD OF 'annalslaw10.SagaStories'. -/
def sagaStoriesCard : Claim7 := { stood := { row := sagaStoriesRow, standIns := [], harness := (true, "ed3acb1257bed3178461b397cfe644912de9bf99b34d61079df0a716ca99c2da"), looks := false }, kinds := [], alts := [], laidByText := true, laidKinds := [.data, .data, .data, .data, .data, .wider, .data, .pinned], laidTests := true, laidLooks := .later }
def SagaStoriesCardSaid : Prop := Claim7.holds Tryz.pinned (.plain (OpenSpec.ofChange sagaStoriesSpec)) sagaStoriesCard

/-- THE TIED CARD OF 'annalslaw10.SagaPlays'. -/
def sagaPlaysCard : Claim7 := { stood := { row := sagaPlaysRow, standIns := [], harness := (true, "ed3acb1257bed3178461b397cfe644912de9bf99b34d61079df0a716ca99c2da"), looks := false }, kinds := [], alts := [], laidByText := true, laidKinds := [.data, .data, .data, .data, .data, .wider, .data, .pinned], laidTests := true, laidLooks := .later }
def SagaPlaysCardSaid : Prop := Claim7.holds Tryz.pinned (.plain (OpenSpec.ofChange sagaPlaysSpec)) sagaPlaysCard

/-- THE TIED CARD OF 'annalslaw10.SagaAgain'. -/
def sagaAgainCard : Claim7 := { stood := { row := sagaAgainRow, standIns := [], harness := (true, "ed3acb1257bed3178461b397cfe644912de9bf99b34d61079df0a716ca99c2da"), looks := false }, kinds := [], alts := [], laidByText := true, laidKinds := [.data, .data, .data, .data, .data, .wider, .data, .pinned], laidTests := true, laidLooks := .later }
def SagaAgainCardSaid : Prop := Claim7.holds Tryz.pinned (.plain (OpenSpec.ofChange sagaAgainSpec)) sagaAgainCard

/-- THE SECOND FORM's CARD OF 'annalslaw10.SagaMoves'. -/
def sagaMovesUptoCard : Claim7 := { stood := { row := sagaMovesUptoRow, standIns := [], harness := (true, "ed3acb1257bed3178461b397cfe644912de9bf99b34d61079df0a716ca99c2da"), looks := false }, kinds := [], alts := [], laidByText := true, laidKinds := [.data, .data, .data, .data, .data, .wider, .data, .pinned], laidTests := true, laidLooks := .later }
def SagaMovesUptoCardSaid : Prop := Claim7.holds Tryz.pinned (.plain (OpenSpec.upto sagaMovesSpec)) sagaMovesUptoCard

/-- THE SECOND FORM's CARD OF 'annalslaw10.SagaAsks'. -/
def sagaAsksUptoCard : Claim7 := { stood := { row := sagaAsksUptoRow, standIns := [], harness := (true, "ed3acb1257bed3178461b397cfe644912de9bf99b34d61079df0a716ca99c2da"), looks := false }, kinds := [], alts := [], laidByText := true, laidKinds := [.data, .data, .data, .data, .data, .wider, .data, .pinned], laidTests := true, laidLooks := .later }
def SagaAsksUptoCardSaid : Prop := Claim7.holds Tryz.pinned (.plain (OpenSpec.upto sagaAsksSpec)) sagaAsksUptoCard

/-- THE SECOND FORM's CARD OF 'annalslaw10.SagaStories'. -/
def sagaStoriesUptoCard : Claim7 := { stood := { row := sagaStoriesUptoRow, standIns := [], harness := (true, "ed3acb1257bed3178461b397cfe644912de9bf99b34d61079df0a716ca99c2da"), looks := false }, kinds := [], alts := [], laidByText := true, laidKinds := [.data, .data, .data, .data, .data, .wider, .data, .pinned], laidTests := true, laidLooks := .later }
def SagaStoriesUptoCardSaid : Prop := Claim7.holds Tryz.pinned (.plain (OpenSpec.upto sagaStoriesSpec)) sagaStoriesUptoCard

/-- THE SECOND FORM's CARD OF 'annalslaw10.SagaPlays'. -/
def sagaPlaysUptoCard : Claim7 := { stood := { row := sagaPlaysUptoRow, standIns := [], harness := (true, "ed3acb1257bed3178461b397cfe644912de9bf99b34d61079df0a716ca99c2da"), looks := false }, kinds := [], alts := [], laidByText := true, laidKinds := [.data, .data, .data, .data, .data, .wider, .data, .pinned], laidTests := true, laidLooks := .later }
def SagaPlaysUptoCardSaid : Prop := Claim7.holds Tryz.pinned (.plain (OpenSpec.upto sagaPlaysSpec)) sagaPlaysUptoCard

/-- THE SECOND FORM's CARD OF 'annalslaw10.SagaAgain'. -/
def sagaAgainUptoCard : Claim7 := { stood := { row := sagaAgainUptoRow, standIns := [], harness := (true, "ed3acb1257bed3178461b397cfe644912de9bf99b34d61079df0a716ca99c2da"), looks := false }, kinds := [], alts := [], laidByText := true, laidKinds := [.data, .data, .data, .data, .data, .wider, .data, .pinned], laidTests := true, laidLooks := .later }
def SagaAgainUptoCardSaid : Prop := Claim7.holds Tryz.pinned (.plain (OpenSpec.upto sagaAgainSpec)) sagaAgainUptoCard
end Rows
end Go.Proofs.YteaiadpigpehaaaGreatDoor
