/-
  NARROWER THAN 'FOR EVERY INPUT', by the rows' own cells (each row's printed sentence says how): TextLetters: laid · TextClips: laid · TextNames: laid · TextLiterals: laid · TextRound: laid · TextOne: laid · TextLine: laid · TextKept: laid · TextWords: laid · TextLong: laid.
  DERIVED. THE GIVEN ROWS OF THIS SEAT. 10 by the template 'for every input the law returns true; each argument reads behind the call as it read before'; 0 by the template 'total and deterministic' (their statements: YtepmfjhhmnmmeaaDoorTotals.lean).
  GIVEN WITH THE SEED: the statements are not yours to turn. If you find one false, say at which input.
  Laid BY PROGRAM, IN A SANDBOX (cutbox-rows.mjs): the forced cells as the released guide's own fill.sh prints them over the translation f109b21bf9c18140… (all of the seat's roots in one cut). By AI agents, Wed Nov 11 2026. No macro, syntax, notation, axiom, sorry.
-/
import Derived.Test.YtepmfjhhmnmmeaaDoorChecked
import GoSem.PinnedTables
import GoSem.Claim
import GoSem.ClaimJoined
import GoSem.ClaimMapViews
import Derived.JoinedTies
import Derived.KernelRfl
namespace Go.Proofs.YtepmfjhhmnmmeaaDoor
/- THE CELL 'sum', in the pinned program and in every row, IS THE sha256 OF THE DUMP (.gsa) THAT YtepmfjhhmnmmeaaDoorProg.lean LOADS. Nothing in Lean hashes anything: it is a label: what it is worth is what the hold of that sum in a sandbox is worth. -/
noncomputable def Tryd.pinned : Pinned := { name := "ytepmfjhhmnmmeaadoor", sum := "f109b21bf9c181402882e136cd3fef4ae175081742dda485b9bcec76120f481d", checked := Tryd.checked }
namespace Rows
def none {H : Type} : Left H := { results := [], args := [] }

/- WHAT THE LISTED PACKAGE-LEVEL VARIABLES READ AS WHEN THE CALL BEGINS. Each datum BY PROGRAM (the guide's laid-datum.mjs) off the statement by which the dump's own 'gosem.cut.vars' lays the variable. In a bare row this is a premise. The card (YtepmfjhhmnmmeaaDoorCards.lean) ties it to the program's text. -/
def laid_annals_annalsref2_letters {H : Type} : DataW H := .agg [.agg [.lit (.int .i64 65), .lit (.int .i64 90)], .agg [.lit (.int .i64 97), .lit (.int .i64 122)], .agg [.lit (.int .i64 192), .lit (.int .i64 214)], .agg [.lit (.int .i64 216), .lit (.int .i64 246)], .agg [.lit (.int .i64 248), .lit (.int .i64 383)], .agg [.lit (.int .i64 913), .lit (.int .i64 929)], .agg [.lit (.int .i64 931), .lit (.int .i64 937)], .agg [.lit (.int .i64 940), .lit (.int .i64 974)], .agg [.lit (.int .i64 1024), .lit (.int .i64 1119)], .agg [.lit (.int .i64 1329), .lit (.int .i64 1366)], .agg [.lit (.int .i64 1488), .lit (.int .i64 1514)], .agg [.lit (.int .i64 1569), .lit (.int .i64 1594)], .agg [.lit (.int .i64 1601), .lit (.int .i64 1610)], .agg [.lit (.int .i64 2308), .lit (.int .i64 2361)], .agg [.lit (.int .i64 3585), .lit (.int .i64 3632)], .agg [.lit (.int .i64 4304), .lit (.int .i64 4346)], .agg [.lit (.int .i64 12353), .lit (.int .i64 12438)], .agg [.lit (.int .i64 12449), .lit (.int .i64 12538)], .agg [.lit (.int .i64 19968), .lit (.int .i64 40959)], .agg [.lit (.int .i64 44032), .lit (.int .i64 55203)], .agg [.lit (.int .i64 66560), .lit (.int .i64 66639)], .agg [.lit (.int .i64 131072), .lit (.int .i64 173791)]]
def laid_annals_text_letters {H : Type} : DataW H := .agg [.agg [.lit (.int .i32 65), .lit (.int .i32 90)], .agg [.lit (.int .i32 97), .lit (.int .i32 122)], .agg [.lit (.int .i32 192), .lit (.int .i32 214)], .agg [.lit (.int .i32 216), .lit (.int .i32 246)], .agg [.lit (.int .i32 248), .lit (.int .i32 383)], .agg [.lit (.int .i32 913), .lit (.int .i32 929)], .agg [.lit (.int .i32 931), .lit (.int .i32 937)], .agg [.lit (.int .i32 940), .lit (.int .i32 974)], .agg [.lit (.int .i32 1024), .lit (.int .i32 1119)], .agg [.lit (.int .i32 1329), .lit (.int .i32 1366)], .agg [.lit (.int .i32 1488), .lit (.int .i32 1514)], .agg [.lit (.int .i32 1569), .lit (.int .i32 1594)], .agg [.lit (.int .i32 1601), .lit (.int .i32 1610)], .agg [.lit (.int .i32 2308), .lit (.int .i32 2361)], .agg [.lit (.int .i32 3585), .lit (.int .i32 3632)], .agg [.lit (.int .i32 4304), .lit (.int .i32 4346)], .agg [.lit (.int .i32 12353), .lit (.int .i32 12438)], .agg [.lit (.int .i32 12449), .lit (.int .i32 12538)], .agg [.lit (.int .i32 19968), .lit (.int .i32 40959)], .agg [.lit (.int .i32 44032), .lit (.int .i32 55203)], .agg [.lit (.int .i32 66560), .lit (.int .i32 66639)], .agg [.lit (.int .i32 131072), .lit (.int .i32 173791)]]
def laid_unicode_utf8_acceptRanges {H : Type} : DataW H := .agg [.agg [.lit (.int .u8 128), .lit (.int .u8 191)], .agg [.lit (.int .u8 160), .lit (.int .u8 191)], .agg [.lit (.int .u8 128), .lit (.int .u8 159)], .agg [.lit (.int .u8 144), .lit (.int .u8 191)], .agg [.lit (.int .u8 128), .lit (.int .u8 143)], .agg [.lit (.int .u8 0), .lit (.int .u8 0)], .agg [.lit (.int .u8 0), .lit (.int .u8 0)], .agg [.lit (.int .u8 0), .lit (.int .u8 0)], .agg [.lit (.int .u8 0), .lit (.int .u8 0)], .agg [.lit (.int .u8 0), .lit (.int .u8 0)], .agg [.lit (.int .u8 0), .lit (.int .u8 0)], .agg [.lit (.int .u8 0), .lit (.int .u8 0)], .agg [.lit (.int .u8 0), .lit (.int .u8 0)], .agg [.lit (.int .u8 0), .lit (.int .u8 0)], .agg [.lit (.int .u8 0), .lit (.int .u8 0)], .agg [.lit (.int .u8 0), .lit (.int .u8 0)]]
/-- One of Go's own tables, pinned by name: the form's constant. -/
def laid_unicode_utf8_first : DataW Unit := Go.Pinned.utf8First
def laid_math_bits_deBruijn32tab {H : Type} : DataW H := .agg [.lit (.int .u8 0), .lit (.int .u8 1), .lit (.int .u8 28), .lit (.int .u8 2), .lit (.int .u8 29), .lit (.int .u8 14), .lit (.int .u8 24), .lit (.int .u8 3), .lit (.int .u8 30), .lit (.int .u8 22), .lit (.int .u8 20), .lit (.int .u8 15), .lit (.int .u8 25), .lit (.int .u8 17), .lit (.int .u8 4), .lit (.int .u8 8), .lit (.int .u8 31), .lit (.int .u8 27), .lit (.int .u8 13), .lit (.int .u8 23), .lit (.int .u8 21), .lit (.int .u8 19), .lit (.int .u8 16), .lit (.int .u8 7), .lit (.int .u8 26), .lit (.int .u8 12), .lit (.int .u8 18), .lit (.int .u8 6), .lit (.int .u8 11), .lit (.int .u8 5), .lit (.int .u8 10), .lit (.int .u8 9)]
def laid_math_bits_deBruijn64tab {H : Type} : DataW H := .agg [.lit (.int .u8 0), .lit (.int .u8 1), .lit (.int .u8 56), .lit (.int .u8 2), .lit (.int .u8 57), .lit (.int .u8 49), .lit (.int .u8 28), .lit (.int .u8 3), .lit (.int .u8 61), .lit (.int .u8 58), .lit (.int .u8 42), .lit (.int .u8 50), .lit (.int .u8 38), .lit (.int .u8 29), .lit (.int .u8 17), .lit (.int .u8 4), .lit (.int .u8 62), .lit (.int .u8 47), .lit (.int .u8 59), .lit (.int .u8 36), .lit (.int .u8 45), .lit (.int .u8 43), .lit (.int .u8 51), .lit (.int .u8 22), .lit (.int .u8 53), .lit (.int .u8 39), .lit (.int .u8 33), .lit (.int .u8 30), .lit (.int .u8 24), .lit (.int .u8 18), .lit (.int .u8 12), .lit (.int .u8 5), .lit (.int .u8 63), .lit (.int .u8 55), .lit (.int .u8 48), .lit (.int .u8 27), .lit (.int .u8 60), .lit (.int .u8 41), .lit (.int .u8 37), .lit (.int .u8 16), .lit (.int .u8 46), .lit (.int .u8 35), .lit (.int .u8 44), .lit (.int .u8 21), .lit (.int .u8 52), .lit (.int .u8 32), .lit (.int .u8 23), .lit (.int .u8 11), .lit (.int .u8 54), .lit (.int .u8 26), .lit (.int .u8 40), .lit (.int .u8 15), .lit (.int .u8 34), .lit (.int .u8 20), .lit (.int .u8 31), .lit (.int .u8 10), .lit (.int .u8 25), .lit (.int .u8 14), .lit (.int .u8 19), .lit (.int .u8 9), .lit (.int .u8 13), .lit (.int .u8 8), .lit (.int .u8 7), .lit (.int .u8 6)]
def laid_internal_strconv_uint64pow10 {H : Type} : DataW H := .agg [.lit (.int .u64 1), .lit (.int .u64 10), .lit (.int .u64 100), .lit (.int .u64 1000), .lit (.int .u64 10000), .lit (.int .u64 100000), .lit (.int .u64 1000000), .lit (.int .u64 10000000), .lit (.int .u64 100000000), .lit (.int .u64 1000000000), .lit (.int .u64 10000000000), .lit (.int .u64 100000000000), .lit (.int .u64 1000000000000), .lit (.int .u64 10000000000000), .lit (.int .u64 100000000000000), .lit (.int .u64 1000000000000000), .lit (.int .u64 10000000000000000), .lit (.int .u64 100000000000000000), .lit (.int .u64 1000000000000000000), .lit (.int .u64 10000000000000000000)]
def laid_annals_annalsref2_hidden {H : Type} : DataW H := .agg [.agg [.lit (.int .i64 128), .lit (.int .i64 159)], .agg [.lit (.int .i64 173), .lit (.int .i64 173)], .agg [.lit (.int .i64 8203), .lit (.int .i64 8207)], .agg [.lit (.int .i64 8232), .lit (.int .i64 8238)], .agg [.lit (.int .i64 8288), .lit (.int .i64 8292)], .agg [.lit (.int .i64 65279), .lit (.int .i64 65279)], .agg [.lit (.int .i64 65529), .lit (.int .i64 65531)], .agg [.lit (.int .i64 917505), .lit (.int .i64 917631)]]

/-- 'annalslaw2.TextLetters': WHATEVER THE INPUT: true; the input reads as it did. -/
def textLettersSpec : ChangeSpec := { name := "textLetters", fn := fun _ => fun
  | [d] => { results := [.lit (.bool true)], args := [d] }
  | _ => none }
def textLettersRow : OpenClaim := { program := "ytepmfjhhmnmmeaadoor", sum := "f109b21bf9c181402882e136cd3fef4ae175081742dda485b9bcec76120f481d", func := "annals/annalslaw2.TextLetters", spec := "textLetters", named := ["annals/text.letters", "annals/annalsref2.letters"], apart := false, laid := [("annals/annalsref2.letters", laid_annals_annalsref2_letters), ("annals/text.letters", laid_annals_text_letters)] }
def TextLettersSaid : Prop := textLettersRow.holds Tryd.pinned (OpenSpec.ofChange textLettersSpec)

/-- ITS FALSE NEIGHBOUR: 'it returns false'. Refute it at one input. -/
def textLettersWrong : ChangeSpec := { name := "textLetters", fn := fun _ => fun
  | [d] => { results := [.lit (.bool false)], args := [d] }
  | _ => none }
def TextLettersWrongFalsely : Prop := textLettersRow.holds Tryd.pinned (OpenSpec.ofChange textLettersWrong)

/-- 'annalslaw2.TextClips': WHATEVER THE INPUT: true; the input reads as it did. -/
def textClipsSpec : ChangeSpec := { name := "textClips", fn := fun _ => fun
  | [d1, d2, d3] => { results := [.lit (.bool true)], args := [d1, d2, d3] }
  | _ => none }
def textClipsRow : OpenClaim := { program := "ytepmfjhhmnmmeaadoor", sum := "f109b21bf9c181402882e136cd3fef4ae175081742dda485b9bcec76120f481d", func := "annals/annalslaw2.TextClips", spec := "textClips", named := ["unicode/utf8.first", "unicode/utf8.acceptRanges"], apart := false, laid := [("unicode/utf8.acceptRanges", laid_unicode_utf8_acceptRanges), ("unicode/utf8.first", laid_unicode_utf8_first)] }
def TextClipsSaid : Prop := textClipsRow.holds Tryd.pinned (OpenSpec.ofChange textClipsSpec)

/-- ITS FALSE NEIGHBOUR: 'it returns false'. Refute it at one input. -/
def textClipsWrong : ChangeSpec := { name := "textClips", fn := fun _ => fun
  | [d1, d2, d3] => { results := [.lit (.bool false)], args := [d1, d2, d3] }
  | _ => none }
def TextClipsWrongFalsely : Prop := textClipsRow.holds Tryd.pinned (OpenSpec.ofChange textClipsWrong)

/-- 'annalslaw2.TextNames': WHATEVER THE INPUT: true; the input reads as it did. -/
def textNamesSpec : ChangeSpec := { name := "textNames", fn := fun _ => fun
  | [d1, d2] => { results := [.lit (.bool true)], args := [d1, d2] }
  | _ => none }
def textNamesRow : OpenClaim := { program := "ytepmfjhhmnmmeaadoor", sum := "f109b21bf9c181402882e136cd3fef4ae175081742dda485b9bcec76120f481d", func := "annals/annalslaw2.TextNames", spec := "textNames", named := ["unicode/utf8.first", "unicode/utf8.acceptRanges", "annals/text.letters", "annals/annalsref2.letters"], apart := false, laid := [("unicode/utf8.acceptRanges", laid_unicode_utf8_acceptRanges), ("annals/annalsref2.letters", laid_annals_annalsref2_letters), ("annals/text.letters", laid_annals_text_letters), ("unicode/utf8.first", laid_unicode_utf8_first)] }
def TextNamesSaid : Prop := textNamesRow.holds Tryd.pinned (OpenSpec.ofChange textNamesSpec)

/-- ITS FALSE NEIGHBOUR: 'it returns false'. Refute it at one input. -/
def textNamesWrong : ChangeSpec := { name := "textNames", fn := fun _ => fun
  | [d1, d2] => { results := [.lit (.bool false)], args := [d1, d2] }
  | _ => none }
def TextNamesWrongFalsely : Prop := textNamesRow.holds Tryd.pinned (OpenSpec.ofChange textNamesWrong)

/-- 'annalslaw2.TextLiterals': WHATEVER THE INPUT: true; the input reads as it did. -/
def textLiteralsSpec : ChangeSpec := { name := "textLiterals", fn := fun _ => fun
  | [d1, d2] => { results := [.lit (.bool true)], args := [d1, d2] }
  | _ => none }
def textLiteralsRow : OpenClaim := { program := "ytepmfjhhmnmmeaadoor", sum := "f109b21bf9c181402882e136cd3fef4ae175081742dda485b9bcec76120f481d", func := "annals/annalslaw2.TextLiterals", spec := "textLiterals", inPlace := ["internal/bytealg.IndexByteString", "internal/bytealg.IndexString", "internal/abi.NoEscape"], named := ["unicode/utf8.first", "unicode/utf8.acceptRanges", "internal/strconv.uint64pow10", "math/bits.deBruijn32tab", "math/bits.deBruijn64tab", "annals/annalsref2.hidden", "internal/bytealg.MaxLen"], apart := false, laid := [("math/bits.deBruijn32tab", laid_math_bits_deBruijn32tab), ("math/bits.deBruijn64tab", laid_math_bits_deBruijn64tab), ("internal/strconv.uint64pow10", laid_internal_strconv_uint64pow10), ("unicode/utf8.acceptRanges", laid_unicode_utf8_acceptRanges), ("annals/annalsref2.hidden", laid_annals_annalsref2_hidden), ("unicode/utf8.first", laid_unicode_utf8_first)] }
def TextLiteralsSaid : Prop := textLiteralsRow.holds Tryd.pinned (OpenSpec.ofChange textLiteralsSpec)

/-- ITS FALSE NEIGHBOUR: 'it returns false'. Refute it at one input. -/
def textLiteralsWrong : ChangeSpec := { name := "textLiterals", fn := fun _ => fun
  | [d1, d2] => { results := [.lit (.bool false)], args := [d1, d2] }
  | _ => none }
def TextLiteralsWrongFalsely : Prop := textLiteralsRow.holds Tryd.pinned (OpenSpec.ofChange textLiteralsWrong)

/-- 'annalslaw2.TextRound': WHATEVER THE INPUT: true; the input reads as it did. -/
def textRoundSpec : ChangeSpec := { name := "textRound", fn := fun _ => fun
  | [d1, d2, d3] => { results := [.lit (.bool true)], args := [d1, d2, d3] }
  | _ => none }
def textRoundRow : OpenClaim := { program := "ytepmfjhhmnmmeaadoor", sum := "f109b21bf9c181402882e136cd3fef4ae175081742dda485b9bcec76120f481d", func := "annals/annalslaw2.TextRound", spec := "textRound", inPlace := ["internal/abi.NoEscape", "internal/bytealg.IndexByteString", "internal/bytealg.IndexString"], named := ["unicode/utf8.first", "unicode/utf8.acceptRanges", "internal/strconv.uint64pow10", "math/bits.deBruijn32tab", "math/bits.deBruijn64tab", "internal/bytealg.MaxLen"], apart := false, laid := [("math/bits.deBruijn32tab", laid_math_bits_deBruijn32tab), ("math/bits.deBruijn64tab", laid_math_bits_deBruijn64tab), ("internal/strconv.uint64pow10", laid_internal_strconv_uint64pow10), ("unicode/utf8.acceptRanges", laid_unicode_utf8_acceptRanges), ("unicode/utf8.first", laid_unicode_utf8_first)] }
def TextRoundSaid : Prop := textRoundRow.holds Tryd.pinned (OpenSpec.ofChange textRoundSpec)

/-- ITS FALSE NEIGHBOUR: 'it returns false'. Refute it at one input. -/
def textRoundWrong : ChangeSpec := { name := "textRound", fn := fun _ => fun
  | [d1, d2, d3] => { results := [.lit (.bool false)], args := [d1, d2, d3] }
  | _ => none }
def TextRoundWrongFalsely : Prop := textRoundRow.holds Tryd.pinned (OpenSpec.ofChange textRoundWrong)

/-- 'annalslaw2.TextOne': WHATEVER THE INPUT: true; the input reads as it did. -/
def textOneSpec : ChangeSpec := { name := "textOne", fn := fun _ => fun
  | [d1, d2] => { results := [.lit (.bool true)], args := [d1, d2] }
  | _ => none }
def textOneRow : OpenClaim := { program := "ytepmfjhhmnmmeaadoor", sum := "f109b21bf9c181402882e136cd3fef4ae175081742dda485b9bcec76120f481d", func := "annals/annalslaw2.TextOne", spec := "textOne", inPlace := ["internal/bytealg.IndexByteString", "internal/bytealg.IndexString", "internal/abi.NoEscape"], named := ["unicode/utf8.first", "unicode/utf8.acceptRanges", "internal/strconv.uint64pow10", "math/bits.deBruijn32tab", "math/bits.deBruijn64tab", "internal/bytealg.MaxLen"], apart := false, laid := [("math/bits.deBruijn32tab", laid_math_bits_deBruijn32tab), ("math/bits.deBruijn64tab", laid_math_bits_deBruijn64tab), ("internal/strconv.uint64pow10", laid_internal_strconv_uint64pow10), ("unicode/utf8.acceptRanges", laid_unicode_utf8_acceptRanges), ("unicode/utf8.first", laid_unicode_utf8_first)] }
def TextOneSaid : Prop := textOneRow.holds Tryd.pinned (OpenSpec.ofChange textOneSpec)

/-- ITS FALSE NEIGHBOUR: 'it returns false'. Refute it at one input. -/
def textOneWrong : ChangeSpec := { name := "textOne", fn := fun _ => fun
  | [d1, d2] => { results := [.lit (.bool false)], args := [d1, d2] }
  | _ => none }
def TextOneWrongFalsely : Prop := textOneRow.holds Tryd.pinned (OpenSpec.ofChange textOneWrong)

/-- 'annalslaw2.TextLine': WHATEVER THE INPUT: true; the input reads as it did. -/
def textLineSpec : ChangeSpec := { name := "textLine", fn := fun _ => fun
  | [d1, d2] => { results := [.lit (.bool true)], args := [d1, d2] }
  | _ => none }
def textLineRow : OpenClaim := { program := "ytepmfjhhmnmmeaadoor", sum := "f109b21bf9c181402882e136cd3fef4ae175081742dda485b9bcec76120f481d", func := "annals/annalslaw2.TextLine", spec := "textLine", inPlace := ["internal/abi.NoEscape", "internal/bytealg.IndexByteString", "internal/bytealg.IndexString"], recurses := true, named := ["unicode/utf8.first", "unicode/utf8.acceptRanges", "internal/strconv.uint64pow10", "math/bits.deBruijn32tab", "math/bits.deBruijn64tab", "annals/text.letters", "internal/bytealg.MaxLen"], apart := false, laid := [("math/bits.deBruijn32tab", laid_math_bits_deBruijn32tab), ("math/bits.deBruijn64tab", laid_math_bits_deBruijn64tab), ("internal/strconv.uint64pow10", laid_internal_strconv_uint64pow10), ("unicode/utf8.acceptRanges", laid_unicode_utf8_acceptRanges), ("annals/text.letters", laid_annals_text_letters), ("unicode/utf8.first", laid_unicode_utf8_first)] }
def TextLineSaid : Prop := textLineRow.holds Tryd.pinned (OpenSpec.ofChange textLineSpec)

/-- ITS FALSE NEIGHBOUR: 'it returns false'. Refute it at one input. -/
def textLineWrong : ChangeSpec := { name := "textLine", fn := fun _ => fun
  | [d1, d2] => { results := [.lit (.bool false)], args := [d1, d2] }
  | _ => none }
def TextLineWrongFalsely : Prop := textLineRow.holds Tryd.pinned (OpenSpec.ofChange textLineWrong)

/-- 'annalslaw2.TextKept': WHATEVER THE INPUT: true; the input reads as it did. -/
def textKeptSpec : ChangeSpec := { name := "textKept", fn := fun _ => fun
  | [d] => { results := [.lit (.bool true)], args := [d] }
  | _ => none }
def textKeptRow : OpenClaim := { program := "ytepmfjhhmnmmeaadoor", sum := "f109b21bf9c181402882e136cd3fef4ae175081742dda485b9bcec76120f481d", func := "annals/annalslaw2.TextKept", spec := "textKept", inPlace := ["internal/bytealg.IndexByteString", "internal/bytealg.IndexString", "internal/abi.NoEscape"], named := ["annals/annalsref2.hidden", "annals/annalsref2.letters", "unicode/utf8.first", "unicode/utf8.acceptRanges", "internal/strconv.uint64pow10", "math/bits.deBruijn32tab", "math/bits.deBruijn64tab", "annals/text.letters", "internal/bytealg.MaxLen"], apart := false, laid := [("math/bits.deBruijn32tab", laid_math_bits_deBruijn32tab), ("math/bits.deBruijn64tab", laid_math_bits_deBruijn64tab), ("internal/strconv.uint64pow10", laid_internal_strconv_uint64pow10), ("unicode/utf8.acceptRanges", laid_unicode_utf8_acceptRanges), ("annals/annalsref2.letters", laid_annals_annalsref2_letters), ("annals/annalsref2.hidden", laid_annals_annalsref2_hidden), ("annals/text.letters", laid_annals_text_letters), ("unicode/utf8.first", laid_unicode_utf8_first)] }
def TextKeptSaid : Prop := textKeptRow.holds Tryd.pinned (OpenSpec.ofChange textKeptSpec)

/-- ITS FALSE NEIGHBOUR: 'it returns false'. Refute it at one input. -/
def textKeptWrong : ChangeSpec := { name := "textKept", fn := fun _ => fun
  | [d] => { results := [.lit (.bool false)], args := [d] }
  | _ => none }
def TextKeptWrongFalsely : Prop := textKeptRow.holds Tryd.pinned (OpenSpec.ofChange textKeptWrong)

/-- 'annalslaw2.TextWords': WHATEVER THE INPUT: true; the input reads as it did. -/
def textWordsSpec : ChangeSpec := { name := "textWords", fn := fun _ => fun
  | [d] => { results := [.lit (.bool true)], args := [d] }
  | _ => none }
def textWordsRow : OpenClaim := { program := "ytepmfjhhmnmmeaadoor", sum := "f109b21bf9c181402882e136cd3fef4ae175081742dda485b9bcec76120f481d", func := "annals/annalslaw2.TextWords", spec := "textWords", inPlace := ["internal/bytealg.IndexByteString", "internal/bytealg.IndexString", "internal/abi.NoEscape"], named := ["unicode/utf8.first", "unicode/utf8.acceptRanges", "annals/text.letters", "internal/strconv.uint64pow10", "math/bits.deBruijn32tab", "math/bits.deBruijn64tab", "annals/annalsref2.hidden", "annals/annalsref2.letters", "internal/bytealg.MaxLen"], apart := false, laid := [("math/bits.deBruijn32tab", laid_math_bits_deBruijn32tab), ("math/bits.deBruijn64tab", laid_math_bits_deBruijn64tab), ("internal/strconv.uint64pow10", laid_internal_strconv_uint64pow10), ("unicode/utf8.acceptRanges", laid_unicode_utf8_acceptRanges), ("annals/annalsref2.letters", laid_annals_annalsref2_letters), ("annals/annalsref2.hidden", laid_annals_annalsref2_hidden), ("annals/text.letters", laid_annals_text_letters), ("unicode/utf8.first", laid_unicode_utf8_first)] }
def TextWordsSaid : Prop := textWordsRow.holds Tryd.pinned (OpenSpec.ofChange textWordsSpec)

/-- ITS FALSE NEIGHBOUR: 'it returns false'. Refute it at one input. -/
def textWordsWrong : ChangeSpec := { name := "textWords", fn := fun _ => fun
  | [d] => { results := [.lit (.bool false)], args := [d] }
  | _ => none }
def TextWordsWrongFalsely : Prop := textWordsRow.holds Tryd.pinned (OpenSpec.ofChange textWordsWrong)

/-- 'annalslaw2.TextLong': WHATEVER THE INPUT: true; the input reads as it did. -/
def textLongSpec : ChangeSpec := { name := "textLong", fn := fun _ => fun
  | [d1, d2, d3] => { results := [.lit (.bool true)], args := [d1, d2, d3] }
  | _ => none }
def textLongRow : OpenClaim := { program := "ytepmfjhhmnmmeaadoor", sum := "f109b21bf9c181402882e136cd3fef4ae175081742dda485b9bcec76120f481d", func := "annals/annalslaw2.TextLong", spec := "textLong", inPlace := ["internal/abi.NoEscape", "internal/bytealg.IndexByteString", "internal/bytealg.IndexString"], named := ["unicode/utf8.first", "unicode/utf8.acceptRanges", "internal/strconv.uint64pow10", "math/bits.deBruijn32tab", "math/bits.deBruijn64tab", "annals/text.letters", "annals/annalsref2.letters", "annals/annalsref2.hidden", "internal/bytealg.MaxLen"], apart := false, laid := [("math/bits.deBruijn32tab", laid_math_bits_deBruijn32tab), ("math/bits.deBruijn64tab", laid_math_bits_deBruijn64tab), ("internal/strconv.uint64pow10", laid_internal_strconv_uint64pow10), ("unicode/utf8.acceptRanges", laid_unicode_utf8_acceptRanges), ("annals/annalsref2.letters", laid_annals_annalsref2_letters), ("annals/annalsref2.hidden", laid_annals_annalsref2_hidden), ("annals/text.letters", laid_annals_text_letters), ("unicode/utf8.first", laid_unicode_utf8_first)] }
def TextLongSaid : Prop := textLongRow.holds Tryd.pinned (OpenSpec.ofChange textLongSpec)

/-- ITS FALSE NEIGHBOUR: 'it returns false'. Refute it at one input. -/
def textLongWrong : ChangeSpec := { name := "textLong", fn := fun _ => fun
  | [d1, d2, d3] => { results := [.lit (.bool false)], args := [d1, d2, d3] }
  | _ => none }
def TextLongWrongFalsely : Prop := textLongRow.holds Tryd.pinned (OpenSpec.ofChange textLongWrong)

/- THE SECOND FORM. 'bulk': how many values and letters a reading holds, each counted each time it is reached (what is shared counts as often as it is met; a slice's spare places count too). A statement '..UptoSaid' is the law's where the arguments, and the package variables that the reading takes, are together of bulk at most 1048576: NARROWER than '..Said'. Prove '..Said' where nothing that the law and all that it calls make is longer than what came in: it says more and counts as full. Else prove '..UptoSaid'. A law counts once. -/
mutual
def uptoBulk {H : Type} : DataW H → Nat
  | .lit (.string bytes) => bytes.length + 1
  | .lit _ => 1
  | .nil => 1
  | .ptr d => uptoBulk d + 1
  | .slice elems spare => uptoBulkAll elems + uptoBulkAll spare + 1
  | .agg parts => uptoBulkAll parts + 1
  | .iface _ d => uptoBulk d + 1
  | .map entries => uptoBulkEntries entries + 1
  | .held _ => 1
def uptoBulkAll {H : Type} : List (DataW H) → Nat
  | [] => 0
  | d :: r => uptoBulk d + uptoBulkAll r
def uptoBulkEntries {H : Type} : List (Lit × DataW H) → Nat
  | [] => 0
  | x :: r => uptoBulkEntry x + uptoBulkEntries r
def uptoBulkEntry {H : Type} : Lit × DataW H → Nat
  | (.string bytes, d) => bytes.length + uptoBulk d + 1
  | (_, d) => uptoBulk d + 1
 end
def uptoSmall : (H : Type) → List (DataW H) → Bool := fun _ ds => decide (uptoBulkAll ds ≤ 1048576)
def OpenSpec.upto (s : _root_.Go.ChangeSpec) : _root_.Go.OpenSpec := { _root_.Go.OpenSpec.ofChange s with cond := some uptoSmall }

/-- 'annalslaw2.TextLetters', WHERE WHAT IT READS IS OF BULK AT MOST 1048576: true; the input reads as it did. -/
def textLettersUptoRow : OpenClaim := { program := "ytepmfjhhmnmmeaadoor", sum := "f109b21bf9c181402882e136cd3fef4ae175081742dda485b9bcec76120f481d", func := "annals/annalslaw2.TextLetters", spec := "textLetters", named := ["annals/text.letters", "annals/annalsref2.letters"], apart := false, laid := [("annals/annalsref2.letters", laid_annals_annalsref2_letters), ("annals/text.letters", laid_annals_text_letters)], narrowed := true }
def TextLettersUptoSaid : Prop := textLettersUptoRow.holds Tryd.pinned (OpenSpec.upto textLettersSpec)

/-- 'annalslaw2.TextClips', WHERE WHAT IT READS IS OF BULK AT MOST 1048576: true; the input reads as it did. -/
def textClipsUptoRow : OpenClaim := { program := "ytepmfjhhmnmmeaadoor", sum := "f109b21bf9c181402882e136cd3fef4ae175081742dda485b9bcec76120f481d", func := "annals/annalslaw2.TextClips", spec := "textClips", named := ["unicode/utf8.first", "unicode/utf8.acceptRanges"], apart := false, laid := [("unicode/utf8.acceptRanges", laid_unicode_utf8_acceptRanges), ("unicode/utf8.first", laid_unicode_utf8_first)], narrowed := true }
def TextClipsUptoSaid : Prop := textClipsUptoRow.holds Tryd.pinned (OpenSpec.upto textClipsSpec)

/-- 'annalslaw2.TextNames', WHERE WHAT IT READS IS OF BULK AT MOST 1048576: true; the input reads as it did. -/
def textNamesUptoRow : OpenClaim := { program := "ytepmfjhhmnmmeaadoor", sum := "f109b21bf9c181402882e136cd3fef4ae175081742dda485b9bcec76120f481d", func := "annals/annalslaw2.TextNames", spec := "textNames", named := ["unicode/utf8.first", "unicode/utf8.acceptRanges", "annals/text.letters", "annals/annalsref2.letters"], apart := false, laid := [("unicode/utf8.acceptRanges", laid_unicode_utf8_acceptRanges), ("annals/annalsref2.letters", laid_annals_annalsref2_letters), ("annals/text.letters", laid_annals_text_letters), ("unicode/utf8.first", laid_unicode_utf8_first)], narrowed := true }
def TextNamesUptoSaid : Prop := textNamesUptoRow.holds Tryd.pinned (OpenSpec.upto textNamesSpec)

/-- 'annalslaw2.TextLiterals', WHERE WHAT IT READS IS OF BULK AT MOST 1048576: true; the input reads as it did. -/
def textLiteralsUptoRow : OpenClaim := { program := "ytepmfjhhmnmmeaadoor", sum := "f109b21bf9c181402882e136cd3fef4ae175081742dda485b9bcec76120f481d", func := "annals/annalslaw2.TextLiterals", spec := "textLiterals", inPlace := ["internal/bytealg.IndexByteString", "internal/bytealg.IndexString", "internal/abi.NoEscape"], named := ["unicode/utf8.first", "unicode/utf8.acceptRanges", "internal/strconv.uint64pow10", "math/bits.deBruijn32tab", "math/bits.deBruijn64tab", "annals/annalsref2.hidden", "internal/bytealg.MaxLen"], apart := false, laid := [("math/bits.deBruijn32tab", laid_math_bits_deBruijn32tab), ("math/bits.deBruijn64tab", laid_math_bits_deBruijn64tab), ("internal/strconv.uint64pow10", laid_internal_strconv_uint64pow10), ("unicode/utf8.acceptRanges", laid_unicode_utf8_acceptRanges), ("annals/annalsref2.hidden", laid_annals_annalsref2_hidden), ("unicode/utf8.first", laid_unicode_utf8_first)], narrowed := true }
def TextLiteralsUptoSaid : Prop := textLiteralsUptoRow.holds Tryd.pinned (OpenSpec.upto textLiteralsSpec)

/-- 'annalslaw2.TextRound', WHERE WHAT IT READS IS OF BULK AT MOST 1048576: true; the input reads as it did. -/
def textRoundUptoRow : OpenClaim := { program := "ytepmfjhhmnmmeaadoor", sum := "f109b21bf9c181402882e136cd3fef4ae175081742dda485b9bcec76120f481d", func := "annals/annalslaw2.TextRound", spec := "textRound", inPlace := ["internal/abi.NoEscape", "internal/bytealg.IndexByteString", "internal/bytealg.IndexString"], named := ["unicode/utf8.first", "unicode/utf8.acceptRanges", "internal/strconv.uint64pow10", "math/bits.deBruijn32tab", "math/bits.deBruijn64tab", "internal/bytealg.MaxLen"], apart := false, laid := [("math/bits.deBruijn32tab", laid_math_bits_deBruijn32tab), ("math/bits.deBruijn64tab", laid_math_bits_deBruijn64tab), ("internal/strconv.uint64pow10", laid_internal_strconv_uint64pow10), ("unicode/utf8.acceptRanges", laid_unicode_utf8_acceptRanges), ("unicode/utf8.first", laid_unicode_utf8_first)], narrowed := true }
def TextRoundUptoSaid : Prop := textRoundUptoRow.holds Tryd.pinned (OpenSpec.upto textRoundSpec)

/-- 'annalslaw2.TextOne', WHERE WHAT IT READS IS OF BULK AT MOST 1048576: true; the input reads as it did. -/
def textOneUptoRow : OpenClaim := { program := "ytepmfjhhmnmmeaadoor", sum := "f109b21bf9c181402882e136cd3fef4ae175081742dda485b9bcec76120f481d", func := "annals/annalslaw2.TextOne", spec := "textOne", inPlace := ["internal/bytealg.IndexByteString", "internal/bytealg.IndexString", "internal/abi.NoEscape"], named := ["unicode/utf8.first", "unicode/utf8.acceptRanges", "internal/strconv.uint64pow10", "math/bits.deBruijn32tab", "math/bits.deBruijn64tab", "internal/bytealg.MaxLen"], apart := false, laid := [("math/bits.deBruijn32tab", laid_math_bits_deBruijn32tab), ("math/bits.deBruijn64tab", laid_math_bits_deBruijn64tab), ("internal/strconv.uint64pow10", laid_internal_strconv_uint64pow10), ("unicode/utf8.acceptRanges", laid_unicode_utf8_acceptRanges), ("unicode/utf8.first", laid_unicode_utf8_first)], narrowed := true }
def TextOneUptoSaid : Prop := textOneUptoRow.holds Tryd.pinned (OpenSpec.upto textOneSpec)

/-- 'annalslaw2.TextLine', WHERE WHAT IT READS IS OF BULK AT MOST 1048576: true; the input reads as it did. -/
def textLineUptoRow : OpenClaim := { program := "ytepmfjhhmnmmeaadoor", sum := "f109b21bf9c181402882e136cd3fef4ae175081742dda485b9bcec76120f481d", func := "annals/annalslaw2.TextLine", spec := "textLine", inPlace := ["internal/abi.NoEscape", "internal/bytealg.IndexByteString", "internal/bytealg.IndexString"], recurses := true, named := ["unicode/utf8.first", "unicode/utf8.acceptRanges", "internal/strconv.uint64pow10", "math/bits.deBruijn32tab", "math/bits.deBruijn64tab", "annals/text.letters", "internal/bytealg.MaxLen"], apart := false, laid := [("math/bits.deBruijn32tab", laid_math_bits_deBruijn32tab), ("math/bits.deBruijn64tab", laid_math_bits_deBruijn64tab), ("internal/strconv.uint64pow10", laid_internal_strconv_uint64pow10), ("unicode/utf8.acceptRanges", laid_unicode_utf8_acceptRanges), ("annals/text.letters", laid_annals_text_letters), ("unicode/utf8.first", laid_unicode_utf8_first)], narrowed := true }
def TextLineUptoSaid : Prop := textLineUptoRow.holds Tryd.pinned (OpenSpec.upto textLineSpec)

/-- 'annalslaw2.TextKept', WHERE WHAT IT READS IS OF BULK AT MOST 1048576: true; the input reads as it did. -/
def textKeptUptoRow : OpenClaim := { program := "ytepmfjhhmnmmeaadoor", sum := "f109b21bf9c181402882e136cd3fef4ae175081742dda485b9bcec76120f481d", func := "annals/annalslaw2.TextKept", spec := "textKept", inPlace := ["internal/bytealg.IndexByteString", "internal/bytealg.IndexString", "internal/abi.NoEscape"], named := ["annals/annalsref2.hidden", "annals/annalsref2.letters", "unicode/utf8.first", "unicode/utf8.acceptRanges", "internal/strconv.uint64pow10", "math/bits.deBruijn32tab", "math/bits.deBruijn64tab", "annals/text.letters", "internal/bytealg.MaxLen"], apart := false, laid := [("math/bits.deBruijn32tab", laid_math_bits_deBruijn32tab), ("math/bits.deBruijn64tab", laid_math_bits_deBruijn64tab), ("internal/strconv.uint64pow10", laid_internal_strconv_uint64pow10), ("unicode/utf8.acceptRanges", laid_unicode_utf8_acceptRanges), ("annals/annalsref2.letters", laid_annals_annalsref2_letters), ("annals/annalsref2.hidden", laid_annals_annalsref2_hidden), ("annals/text.letters", laid_annals_text_letters), ("unicode/utf8.first", laid_unicode_utf8_first)], narrowed := true }
def TextKeptUptoSaid : Prop := textKeptUptoRow.holds Tryd.pinned (OpenSpec.upto textKeptSpec)

/-- 'annalslaw2.TextWords', WHERE WHAT IT READS IS OF BULK AT MOST 1048576: true; the input reads as it did. -/
def textWordsUptoRow : OpenClaim := { program := "ytepmfjhhmnmmeaadoor", sum := "f109b21bf9c181402882e136cd3fef4ae175081742dda485b9bcec76120f481d", func := "annals/annalslaw2.TextWords", spec := "textWords", inPlace := ["internal/bytealg.IndexByteString", "internal/bytealg.IndexString", "internal/abi.NoEscape"], named := ["unicode/utf8.first", "unicode/utf8.acceptRanges", "annals/text.letters", "internal/strconv.uint64pow10", "math/bits.deBruijn32tab", "math/bits.deBruijn64tab", "annals/annalsref2.hidden", "annals/annalsref2.letters", "internal/bytealg.MaxLen"], apart := false, laid := [("math/bits.deBruijn32tab", laid_math_bits_deBruijn32tab), ("math/bits.deBruijn64tab", laid_math_bits_deBruijn64tab), ("internal/strconv.uint64pow10", laid_internal_strconv_uint64pow10), ("unicode/utf8.acceptRanges", laid_unicode_utf8_acceptRanges), ("annals/annalsref2.letters", laid_annals_annalsref2_letters), ("annals/annalsref2.hidden", laid_annals_annalsref2_hidden), ("annals/text.letters", laid_annals_text_letters), ("unicode/utf8.first", laid_unicode_utf8_first)], narrowed := true }
def TextWordsUptoSaid : Prop := textWordsUptoRow.holds Tryd.pinned (OpenSpec.upto textWordsSpec)

/-- 'annalslaw2.TextLong', WHERE WHAT IT READS IS OF BULK AT MOST 1048576: true; the input reads as it did. -/
def textLongUptoRow : OpenClaim := { program := "ytepmfjhhmnmmeaadoor", sum := "f109b21bf9c181402882e136cd3fef4ae175081742dda485b9bcec76120f481d", func := "annals/annalslaw2.TextLong", spec := "textLong", inPlace := ["internal/abi.NoEscape", "internal/bytealg.IndexByteString", "internal/bytealg.IndexString"], named := ["unicode/utf8.first", "unicode/utf8.acceptRanges", "internal/strconv.uint64pow10", "math/bits.deBruijn32tab", "math/bits.deBruijn64tab", "annals/text.letters", "annals/annalsref2.letters", "annals/annalsref2.hidden", "internal/bytealg.MaxLen"], apart := false, laid := [("math/bits.deBruijn32tab", laid_math_bits_deBruijn32tab), ("math/bits.deBruijn64tab", laid_math_bits_deBruijn64tab), ("internal/strconv.uint64pow10", laid_internal_strconv_uint64pow10), ("unicode/utf8.acceptRanges", laid_unicode_utf8_acceptRanges), ("annals/annalsref2.letters", laid_annals_annalsref2_letters), ("annals/annalsref2.hidden", laid_annals_annalsref2_hidden), ("annals/text.letters", laid_annals_text_letters), ("unicode/utf8.first", laid_unicode_utf8_first)], narrowed := true }
def TextLongUptoSaid : Prop := textLongUptoRow.holds Tryd.pinned (OpenSpec.upto textLongSpec)

end Rows
end Go.Proofs.YtepmfjhhmnmmeaaDoor
