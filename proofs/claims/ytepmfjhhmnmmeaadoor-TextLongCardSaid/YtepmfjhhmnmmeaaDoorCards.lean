/-
  DERIVED. GIVEN WITH THE SEED: THE CARDS: each row of YtepmfjhhmnmmeaaDoorRows.lean that lists a variable, with what it lists TIED to the program's text (the seventh form; the later family's looks); each row that meets fmt, with fmt's text TOLD by the authors' own Lean function (tested against real Go, not proved from fmt's source: count such statements apart). THE CARD IS WHAT COUNTS. Prove the row's statement (the work); the ties are given (YtepmfjhhmnmmeaaDoorTie.lean); close each card by the builder's one call (the guide's Derived/Test/ToyasCard.lean, 'card_holds'). Laid BY PROGRAM, IN A SANDBOX (cutbox-door.mjs). By AI agents, Wed Nov 11 2026. No macro, syntax, notation, axiom, sorry.
-/
import Derived.Test.YtepmfjhhmnmmeaaDoorRows
import GoSem.ClaimSeven
namespace Go.Proofs.YtepmfjhhmnmmeaaDoor
namespace Rows

/-- THE TIED CARD OF 'annalslaw2.TextLetters'. -/
def textLettersCard : Claim7 := { stood := { row := textLettersRow, standIns := [], harness := (true, "08602bd868d6d06af10ef4c2515e7f0b26700859c069d1222aa3536f60710a07"), looks := false }, kinds := [], alts := [], laidByText := true, laidKinds := [.data, .data], laidTests := true, laidLooks := .later }
def TextLettersCardSaid : Prop := Claim7.holds Tryd.pinned (.plain (OpenSpec.ofChange textLettersSpec)) textLettersCard

/-- THE TIED CARD OF 'annalslaw2.TextClips'. -/
def textClipsCard : Claim7 := { stood := { row := textClipsRow, standIns := [], harness := (true, "08602bd868d6d06af10ef4c2515e7f0b26700859c069d1222aa3536f60710a07"), looks := false }, kinds := [], alts := [], laidByText := true, laidKinds := [.data, .pinned], laidTests := true, laidLooks := .later }
def TextClipsCardSaid : Prop := Claim7.holds Tryd.pinned (.plain (OpenSpec.ofChange textClipsSpec)) textClipsCard

/-- THE TIED CARD OF 'annalslaw2.TextNames'. -/
def textNamesCard : Claim7 := { stood := { row := textNamesRow, standIns := [], harness := (true, "08602bd868d6d06af10ef4c2515e7f0b26700859c069d1222aa3536f60710a07"), looks := false }, kinds := [], alts := [], laidByText := true, laidKinds := [.data, .data, .data, .pinned], laidTests := true, laidLooks := .later }
def TextNamesCardSaid : Prop := Claim7.holds Tryd.pinned (.plain (OpenSpec.ofChange textNamesSpec)) textNamesCard

/-- THE TIED CARD OF 'annalslaw2.TextLiterals'. -/
def textLiteralsCard : Claim7 := { stood := { row := textLiteralsRow, standIns := [], harness := (true, "08602bd868d6d06af10ef4c2515e7f0b26700859c069d1222aa3536f60710a07"), looks := false }, kinds := [], alts := [], laidByText := true, laidKinds := [.data, .data, .data, .data, .data, .pinned], laidTests := true, laidLooks := .later }
def TextLiteralsCardSaid : Prop := Claim7.holds Tryd.pinned (.plain (OpenSpec.ofChange textLiteralsSpec)) textLiteralsCard

/-- THE TIED CARD OF 'annalslaw2.TextRound'. -/
def textRoundCard : Claim7 := { stood := { row := textRoundRow, standIns := [], harness := (true, "08602bd868d6d06af10ef4c2515e7f0b26700859c069d1222aa3536f60710a07"), looks := false }, kinds := [], alts := [], laidByText := true, laidKinds := [.data, .data, .data, .data, .pinned], laidTests := true, laidLooks := .later }
def TextRoundCardSaid : Prop := Claim7.holds Tryd.pinned (.plain (OpenSpec.ofChange textRoundSpec)) textRoundCard

/-- THE TIED CARD OF 'annalslaw2.TextOne'. -/
def textOneCard : Claim7 := { stood := { row := textOneRow, standIns := [], harness := (true, "08602bd868d6d06af10ef4c2515e7f0b26700859c069d1222aa3536f60710a07"), looks := false }, kinds := [], alts := [], laidByText := true, laidKinds := [.data, .data, .data, .data, .pinned], laidTests := true, laidLooks := .later }
def TextOneCardSaid : Prop := Claim7.holds Tryd.pinned (.plain (OpenSpec.ofChange textOneSpec)) textOneCard

/-- THE TIED CARD OF 'annalslaw2.TextLine'. -/
def textLineCard : Claim7 := { stood := { row := textLineRow, standIns := [], harness := (true, "08602bd868d6d06af10ef4c2515e7f0b26700859c069d1222aa3536f60710a07"), looks := false }, kinds := [], alts := [], laidByText := true, laidKinds := [.data, .data, .data, .data, .data, .pinned], laidTests := true, laidLooks := .later }
def TextLineCardSaid : Prop := Claim7.holds Tryd.pinned (.plain (OpenSpec.ofChange textLineSpec)) textLineCard

/-- THE TIED CARD OF 'annalslaw2.TextKept'. -/
def textKeptCard : Claim7 := { stood := { row := textKeptRow, standIns := [], harness := (true, "08602bd868d6d06af10ef4c2515e7f0b26700859c069d1222aa3536f60710a07"), looks := false }, kinds := [], alts := [], laidByText := true, laidKinds := [.data, .data, .data, .data, .data, .data, .data, .pinned], laidTests := true, laidLooks := .later }
def TextKeptCardSaid : Prop := Claim7.holds Tryd.pinned (.plain (OpenSpec.ofChange textKeptSpec)) textKeptCard

/-- THE TIED CARD OF 'annalslaw2.TextWords'. -/
def textWordsCard : Claim7 := { stood := { row := textWordsRow, standIns := [], harness := (true, "08602bd868d6d06af10ef4c2515e7f0b26700859c069d1222aa3536f60710a07"), looks := false }, kinds := [], alts := [], laidByText := true, laidKinds := [.data, .data, .data, .data, .data, .data, .data, .pinned], laidTests := true, laidLooks := .later }
def TextWordsCardSaid : Prop := Claim7.holds Tryd.pinned (.plain (OpenSpec.ofChange textWordsSpec)) textWordsCard

/-- THE TIED CARD OF 'annalslaw2.TextLong'. -/
def textLongCard : Claim7 := { stood := { row := textLongRow, standIns := [], harness := (true, "08602bd868d6d06af10ef4c2515e7f0b26700859c069d1222aa3536f60710a07"), looks := false }, kinds := [], alts := [], laidByText := true, laidKinds := [.data, .data, .data, .data, .data, .data, .data, .pinned], laidTests := true, laidLooks := .later }
def TextLongCardSaid : Prop := Claim7.holds Tryd.pinned (.plain (OpenSpec.ofChange textLongSpec)) textLongCard

/-- THE SECOND FORM's CARD OF 'annalslaw2.TextLetters'. -/
def textLettersUptoCard : Claim7 := { stood := { row := textLettersUptoRow, standIns := [], harness := (true, "08602bd868d6d06af10ef4c2515e7f0b26700859c069d1222aa3536f60710a07"), looks := false }, kinds := [], alts := [], laidByText := true, laidKinds := [.data, .data], laidTests := true, laidLooks := .later }
def TextLettersUptoCardSaid : Prop := Claim7.holds Tryd.pinned (.plain (OpenSpec.upto textLettersSpec)) textLettersUptoCard

/-- THE SECOND FORM's CARD OF 'annalslaw2.TextClips'. -/
def textClipsUptoCard : Claim7 := { stood := { row := textClipsUptoRow, standIns := [], harness := (true, "08602bd868d6d06af10ef4c2515e7f0b26700859c069d1222aa3536f60710a07"), looks := false }, kinds := [], alts := [], laidByText := true, laidKinds := [.data, .pinned], laidTests := true, laidLooks := .later }
def TextClipsUptoCardSaid : Prop := Claim7.holds Tryd.pinned (.plain (OpenSpec.upto textClipsSpec)) textClipsUptoCard

/-- THE SECOND FORM's CARD OF 'annalslaw2.TextNames'. -/
def textNamesUptoCard : Claim7 := { stood := { row := textNamesUptoRow, standIns := [], harness := (true, "08602bd868d6d06af10ef4c2515e7f0b26700859c069d1222aa3536f60710a07"), looks := false }, kinds := [], alts := [], laidByText := true, laidKinds := [.data, .data, .data, .pinned], laidTests := true, laidLooks := .later }
def TextNamesUptoCardSaid : Prop := Claim7.holds Tryd.pinned (.plain (OpenSpec.upto textNamesSpec)) textNamesUptoCard

/-- THE SECOND FORM's CARD OF 'annalslaw2.TextLiterals'. -/
def textLiteralsUptoCard : Claim7 := { stood := { row := textLiteralsUptoRow, standIns := [], harness := (true, "08602bd868d6d06af10ef4c2515e7f0b26700859c069d1222aa3536f60710a07"), looks := false }, kinds := [], alts := [], laidByText := true, laidKinds := [.data, .data, .data, .data, .data, .pinned], laidTests := true, laidLooks := .later }
def TextLiteralsUptoCardSaid : Prop := Claim7.holds Tryd.pinned (.plain (OpenSpec.upto textLiteralsSpec)) textLiteralsUptoCard

/-- THE SECOND FORM's CARD OF 'annalslaw2.TextRound'. -/
def textRoundUptoCard : Claim7 := { stood := { row := textRoundUptoRow, standIns := [], harness := (true, "08602bd868d6d06af10ef4c2515e7f0b26700859c069d1222aa3536f60710a07"), looks := false }, kinds := [], alts := [], laidByText := true, laidKinds := [.data, .data, .data, .data, .pinned], laidTests := true, laidLooks := .later }
def TextRoundUptoCardSaid : Prop := Claim7.holds Tryd.pinned (.plain (OpenSpec.upto textRoundSpec)) textRoundUptoCard

/-- THE SECOND FORM's CARD OF 'annalslaw2.TextOne'. -/
def textOneUptoCard : Claim7 := { stood := { row := textOneUptoRow, standIns := [], harness := (true, "08602bd868d6d06af10ef4c2515e7f0b26700859c069d1222aa3536f60710a07"), looks := false }, kinds := [], alts := [], laidByText := true, laidKinds := [.data, .data, .data, .data, .pinned], laidTests := true, laidLooks := .later }
def TextOneUptoCardSaid : Prop := Claim7.holds Tryd.pinned (.plain (OpenSpec.upto textOneSpec)) textOneUptoCard

/-- THE SECOND FORM's CARD OF 'annalslaw2.TextLine'. -/
def textLineUptoCard : Claim7 := { stood := { row := textLineUptoRow, standIns := [], harness := (true, "08602bd868d6d06af10ef4c2515e7f0b26700859c069d1222aa3536f60710a07"), looks := false }, kinds := [], alts := [], laidByText := true, laidKinds := [.data, .data, .data, .data, .data, .pinned], laidTests := true, laidLooks := .later }
def TextLineUptoCardSaid : Prop := Claim7.holds Tryd.pinned (.plain (OpenSpec.upto textLineSpec)) textLineUptoCard

/-- THE SECOND FORM's CARD OF 'annalslaw2.TextKept'. -/
def textKeptUptoCard : Claim7 := { stood := { row := textKeptUptoRow, standIns := [], harness := (true, "08602bd868d6d06af10ef4c2515e7f0b26700859c069d1222aa3536f60710a07"), looks := false }, kinds := [], alts := [], laidByText := true, laidKinds := [.data, .data, .data, .data, .data, .data, .data, .pinned], laidTests := true, laidLooks := .later }
def TextKeptUptoCardSaid : Prop := Claim7.holds Tryd.pinned (.plain (OpenSpec.upto textKeptSpec)) textKeptUptoCard

/-- THE SECOND FORM's CARD OF 'annalslaw2.TextWords'. -/
def textWordsUptoCard : Claim7 := { stood := { row := textWordsUptoRow, standIns := [], harness := (true, "08602bd868d6d06af10ef4c2515e7f0b26700859c069d1222aa3536f60710a07"), looks := false }, kinds := [], alts := [], laidByText := true, laidKinds := [.data, .data, .data, .data, .data, .data, .data, .pinned], laidTests := true, laidLooks := .later }
def TextWordsUptoCardSaid : Prop := Claim7.holds Tryd.pinned (.plain (OpenSpec.upto textWordsSpec)) textWordsUptoCard

/-- THE SECOND FORM's CARD OF 'annalslaw2.TextLong'. -/
def textLongUptoCard : Claim7 := { stood := { row := textLongUptoRow, standIns := [], harness := (true, "08602bd868d6d06af10ef4c2515e7f0b26700859c069d1222aa3536f60710a07"), looks := false }, kinds := [], alts := [], laidByText := true, laidKinds := [.data, .data, .data, .data, .data, .data, .data, .pinned], laidTests := true, laidLooks := .later }
def TextLongUptoCardSaid : Prop := Claim7.holds Tryd.pinned (.plain (OpenSpec.upto textLongSpec)) textLongUptoCard
end Rows
end Go.Proofs.YtepmfjhhmnmmeaaDoor
