/-
  DERIVED. GIVEN WITH THE SEED: THE CARDS: each row of YtfbaliimjmimhaaDoorRows.lean that lists a variable, with what it lists TIED to the program's text (the seventh form; the later family's looks); each row that meets fmt, with fmt's text TOLD by the authors' own Lean function (tested against real Go, not proved from fmt's source: count such statements apart). THE CARD IS WHAT COUNTS. Prove the row's statement (the work); the ties are given (YtfbaliimjmimhaaDoorTie.lean); close each card by the builder's one call (the guide's Derived/Test/ToyasCard.lean, 'card_holds'). Laid BY PROGRAM, IN A SANDBOX (cutbox-door.mjs). By AI agents, Wed Nov 11 2026. No macro, syntax, notation, axiom, sorry.
-/
import Derived.Test.YtfbaliimjmimhaaDoorRows
import GoSem.ClaimSeven
namespace Go.Proofs.YtfbaliimjmimhaaDoor
namespace Rows

/-- THE TIED CARD OF 'annalslaw11.ReplayFirst'. -/
def replayFirstCard : Claim7 := { stood := { row := replayFirstRow, standIns := [], harness := (true, "3db5aac69a3eb99703ce5b853f871e2fc5ffea6544696c41f2b644423ca57777"), looks := false }, kinds := [], alts := [], laidByText := true, laidKinds := [.data, .data, .data, .wider, .data, .pinned], laidTests := true, laidLooks := .later }
def ReplayFirstCardSaid : Prop := Claim7.holds Tryd.pinned (.plain (OpenSpec.ofChange replayFirstSpec)) replayFirstCard

/-- THE TIED CARD OF 'annalslaw11.ReplayApart'. -/
def replayApartCard : Claim7 := { stood := { row := replayApartRow, standIns := [], harness := (true, "3db5aac69a3eb99703ce5b853f871e2fc5ffea6544696c41f2b644423ca57777"), looks := false }, kinds := [], alts := [], laidByText := true, laidKinds := [.data, .data, .data, .wider, .data, .pinned], laidTests := true, laidLooks := .later }
def ReplayApartCardSaid : Prop := Claim7.holds Tryd.pinned (.plain (OpenSpec.ofChange replayApartSpec)) replayApartCard

/-- THE TIED CARD OF 'annalslaw11.ReplayLifts'. -/
def replayLiftsCard : Claim7 := { stood := { row := replayLiftsRow, standIns := [], harness := (true, "3db5aac69a3eb99703ce5b853f871e2fc5ffea6544696c41f2b644423ca57777"), looks := false }, kinds := [], alts := [], laidByText := true, laidKinds := [.data, .data, .data, .wider, .data, .pinned], laidTests := true, laidLooks := .later }
def ReplayLiftsCardSaid : Prop := Claim7.holds Tryd.pinned (.plain (OpenSpec.ofChange replayLiftsSpec)) replayLiftsCard

/-- THE TIED CARD OF 'annalslaw11.ReplayEnded'. -/
def replayEndedCard : Claim7 := { stood := { row := replayEndedRow, standIns := [], harness := (true, "3db5aac69a3eb99703ce5b853f871e2fc5ffea6544696c41f2b644423ca57777"), looks := false }, kinds := [], alts := [], laidByText := true, laidKinds := [.data, .data, .data, .wider, .data, .pinned], laidTests := true, laidLooks := .later }
def ReplayEndedCardSaid : Prop := Claim7.holds Tryd.pinned (.plain (OpenSpec.ofChange replayEndedSpec)) replayEndedCard

/-- THE TIED CARD OF 'annalslaw11.ReplayStories'. -/
def replayStoriesCard : Claim7 := { stood := { row := replayStoriesRow, standIns := [], harness := (true, "3db5aac69a3eb99703ce5b853f871e2fc5ffea6544696c41f2b644423ca57777"), looks := false }, kinds := [], alts := [], laidByText := true, laidKinds := [.data, .data, .data, .wider, .data, .pinned], laidTests := true, laidLooks := .later }
def ReplayStoriesCardSaid : Prop := Claim7.holds Tryd.pinned (.plain (OpenSpec.ofChange replayStoriesSpec)) replayStoriesCard

/-- THE SECOND FORM's CARD OF 'annalslaw11.ReplayFirst'. -/
def replayFirstUptoCard : Claim7 := { stood := { row := replayFirstUptoRow, standIns := [], harness := (true, "3db5aac69a3eb99703ce5b853f871e2fc5ffea6544696c41f2b644423ca57777"), looks := false }, kinds := [], alts := [], laidByText := true, laidKinds := [.data, .data, .data, .wider, .data, .pinned], laidTests := true, laidLooks := .later }
def ReplayFirstUptoCardSaid : Prop := Claim7.holds Tryd.pinned (.plain (OpenSpec.upto replayFirstSpec)) replayFirstUptoCard

/-- THE SECOND FORM's CARD OF 'annalslaw11.ReplayApart'. -/
def replayApartUptoCard : Claim7 := { stood := { row := replayApartUptoRow, standIns := [], harness := (true, "3db5aac69a3eb99703ce5b853f871e2fc5ffea6544696c41f2b644423ca57777"), looks := false }, kinds := [], alts := [], laidByText := true, laidKinds := [.data, .data, .data, .wider, .data, .pinned], laidTests := true, laidLooks := .later }
def ReplayApartUptoCardSaid : Prop := Claim7.holds Tryd.pinned (.plain (OpenSpec.upto replayApartSpec)) replayApartUptoCard

/-- THE SECOND FORM's CARD OF 'annalslaw11.ReplayLifts'. -/
def replayLiftsUptoCard : Claim7 := { stood := { row := replayLiftsUptoRow, standIns := [], harness := (true, "3db5aac69a3eb99703ce5b853f871e2fc5ffea6544696c41f2b644423ca57777"), looks := false }, kinds := [], alts := [], laidByText := true, laidKinds := [.data, .data, .data, .wider, .data, .pinned], laidTests := true, laidLooks := .later }
def ReplayLiftsUptoCardSaid : Prop := Claim7.holds Tryd.pinned (.plain (OpenSpec.upto replayLiftsSpec)) replayLiftsUptoCard

/-- THE SECOND FORM's CARD OF 'annalslaw11.ReplayEnded'. -/
def replayEndedUptoCard : Claim7 := { stood := { row := replayEndedUptoRow, standIns := [], harness := (true, "3db5aac69a3eb99703ce5b853f871e2fc5ffea6544696c41f2b644423ca57777"), looks := false }, kinds := [], alts := [], laidByText := true, laidKinds := [.data, .data, .data, .wider, .data, .pinned], laidTests := true, laidLooks := .later }
def ReplayEndedUptoCardSaid : Prop := Claim7.holds Tryd.pinned (.plain (OpenSpec.upto replayEndedSpec)) replayEndedUptoCard

/-- THE SECOND FORM's CARD OF 'annalslaw11.ReplayStories'. -/
def replayStoriesUptoCard : Claim7 := { stood := { row := replayStoriesUptoRow, standIns := [], harness := (true, "3db5aac69a3eb99703ce5b853f871e2fc5ffea6544696c41f2b644423ca57777"), looks := false }, kinds := [], alts := [], laidByText := true, laidKinds := [.data, .data, .data, .wider, .data, .pinned], laidTests := true, laidLooks := .later }
def ReplayStoriesUptoCardSaid : Prop := Claim7.holds Tryd.pinned (.plain (OpenSpec.upto replayStoriesSpec)) replayStoriesUptoCard
end Rows
end Go.Proofs.YtfbaliimjmimhaaDoor
