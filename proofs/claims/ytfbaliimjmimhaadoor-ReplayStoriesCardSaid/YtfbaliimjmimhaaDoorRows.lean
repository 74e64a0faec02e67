/-
  NARROWER THAN 'FOR EVERY INPUT', by the rows' own cells (each row's printed sentence says how): ReplayFirst: laid · ReplayApart: laid · ReplayLifts: laid · ReplayEnded: laid · ReplayStories: laid.
  DERIVED. THE GIVEN ROWS OF THIS SEAT. 5 by the template 'for every input the law returns true; each argument reads behind the call as it read before'; 0 by the template 'total and deterministic' (their statements: YtfbaliimjmimhaaDoorTotals.lean).
  GIVEN WITH THE SEED: the statements are not yours to turn. If you find one false, say at which input.
  Laid BY PROGRAM, IN A SANDBOX (cutbox-rows.mjs): the forced cells as the released guide's own fill.sh prints them over the translation dfa5551afafa51b2… (all of the seat's roots in one cut). By AI agents, Wed Nov 11 2026. No macro, syntax, notation, axiom, sorry.
-/
import Derived.Test.YtfbaliimjmimhaaDoorChecked
import GoSem.PinnedTables
import GoSem.Claim
import GoSem.ClaimJoined
import GoSem.ClaimMapViews
import Derived.JoinedTies
import Derived.KernelRfl
namespace Go.Proofs.YtfbaliimjmimhaaDoor
/- THE CELL 'sum', in the pinned program and in every row, IS THE sha256 OF THE DUMP (.gsa) THAT YtfbaliimjmimhaaDoorProg.lean LOADS. Nothing in Lean hashes anything: it is a label: what it is worth is what the hold of that sum in a sandbox is worth. -/
noncomputable def Tryd.pinned : Pinned := { name := "ytfbaliimjmimhaadoor", sum := "dfa5551afafa51b2086bf4362b5e8fc157307e62e21d8cf2f948dbe7ab714a2c", checked := Tryd.checked }
namespace Rows
def none {H : Type} : Left H := { results := [], args := [] }

/- WHAT THE LISTED PACKAGE-LEVEL VARIABLES READ AS WHEN THE CALL BEGINS. Each datum BY PROGRAM (the guide's laid-datum.mjs) off the statement by which the dump's own 'gosem.cut.vars' lays the variable. In a bare row this is a premise. The card (YtfbaliimjmimhaaDoorCards.lean) ties it to the program's text. -/
def laid_unicode_utf8_acceptRanges {H : Type} : DataW H := .agg [.agg [.lit (.int .u8 128), .lit (.int .u8 191)], .agg [.lit (.int .u8 160), .lit (.int .u8 191)], .agg [.lit (.int .u8 128), .lit (.int .u8 159)], .agg [.lit (.int .u8 144), .lit (.int .u8 191)], .agg [.lit (.int .u8 128), .lit (.int .u8 143)], .agg [.lit (.int .u8 0), .lit (.int .u8 0)], .agg [.lit (.int .u8 0), .lit (.int .u8 0)], .agg [.lit (.int .u8 0), .lit (.int .u8 0)], .agg [.lit (.int .u8 0), .lit (.int .u8 0)], .agg [.lit (.int .u8 0), .lit (.int .u8 0)], .agg [.lit (.int .u8 0), .lit (.int .u8 0)], .agg [.lit (.int .u8 0), .lit (.int .u8 0)], .agg [.lit (.int .u8 0), .lit (.int .u8 0)], .agg [.lit (.int .u8 0), .lit (.int .u8 0)], .agg [.lit (.int .u8 0), .lit (.int .u8 0)], .agg [.lit (.int .u8 0), .lit (.int .u8 0)]]
def laid_annals_text_letters {H : Type} : DataW H := .agg [.agg [.lit (.int .i32 65), .lit (.int .i32 90)], .agg [.lit (.int .i32 97), .lit (.int .i32 122)], .agg [.lit (.int .i32 192), .lit (.int .i32 214)], .agg [.lit (.int .i32 216), .lit (.int .i32 246)], .agg [.lit (.int .i32 248), .lit (.int .i32 383)], .agg [.lit (.int .i32 913), .lit (.int .i32 929)], .agg [.lit (.int .i32 931), .lit (.int .i32 937)], .agg [.lit (.int .i32 940), .lit (.int .i32 974)], .agg [.lit (.int .i32 1024), .lit (.int .i32 1119)], .agg [.lit (.int .i32 1329), .lit (.int .i32 1366)], .agg [.lit (.int .i32 1488), .lit (.int .i32 1514)], .agg [.lit (.int .i32 1569), .lit (.int .i32 1594)], .agg [.lit (.int .i32 1601), .lit (.int .i32 1610)], .agg [.lit (.int .i32 2308), .lit (.int .i32 2361)], .agg [.lit (.int .i32 3585), .lit (.int .i32 3632)], .agg [.lit (.int .i32 4304), .lit (.int .i32 4346)], .agg [.lit (.int .i32 12353), .lit (.int .i32 12438)], .agg [.lit (.int .i32 12449), .lit (.int .i32 12538)], .agg [.lit (.int .i32 19968), .lit (.int .i32 40959)], .agg [.lit (.int .i32 44032), .lit (.int .i32 55203)], .agg [.lit (.int .i32 66560), .lit (.int .i32 66639)], .agg [.lit (.int .i32 131072), .lit (.int .i32 173791)]]
def laid_annals_record_may {H : Type} : DataW H := .agg [.agg [.lit (.int .u16 2062), .lit (.int .u16 14), .lit (.int .u16 2062), .lit (.int .u16 2062), .lit (.int .u16 14), .lit (.int .u16 2062), .lit (.int .u16 6)], .agg [.lit (.int .u16 3366), .lit (.int .u16 62), .lit (.int .u16 2094), .lit (.int .u16 2158), .lit (.int .u16 62), .lit (.int .u16 2094), .lit (.int .u16 38)], .agg [.lit (.int .u16 3878), .lit (.int .u16 62), .lit (.int .u16 2094), .lit (.int .u16 2286), .lit (.int .u16 62), .lit (.int .u16 2094), .lit (.int .u16 166)]]
def laid_annals_lift_ways {H : Type} : DataW H := .agg [.agg [.lit (.int .i64 1), .lit (.int .i64 2), .lit (.string [49, 116, 111, 50])], .agg [.lit (.int .i64 2), .lit (.int .i64 3), .lit (.string [50, 116, 111, 51])], .agg [.lit (.int .i64 3), .lit (.int .i64 2), .lit (.string [51, 116, 111, 50])], .agg [.lit (.int .i64 2), .lit (.int .i64 1), .lit (.string [50, 116, 111, 49])]]
def laid_annals_saga_lands {H : Type} : DataW H := .agg [.lit (.bool false), .lit (.bool false), .lit (.bool false), .lit (.bool true), .lit (.bool true), .lit (.bool false), .lit (.bool true), .lit (.bool false)]
/-- One of Go's own tables, pinned by name: the form's constant. -/
def laid_unicode_utf8_first : DataW Unit := Go.Pinned.utf8First

/-- 'annalslaw11.ReplayFirst': WHATEVER THE INPUT: true; the input reads as it did. -/
def replayFirstSpec : ChangeSpec := { name := "replayFirst", fn := fun _ => fun
  | [d1, d2] => { results := [.lit (.bool true)], args := [d1, d2] }
  | _ => none }
def replayFirstRow : OpenClaim := { program := "ytfbaliimjmimhaadoor", sum := "dfa5551afafa51b2086bf4362b5e8fc157307e62e21d8cf2f948dbe7ab714a2c", func := "annals/annalslaw11.ReplayFirst", spec := "replayFirst", unfollowed := true, recurses := true, named := ["annals/record.may", "unicode/utf8.first", "unicode/utf8.acceptRanges", "annals/text.letters", "annals/lift.ways", "annals/saga.lands"], apart := false, laid := [("unicode/utf8.acceptRanges", laid_unicode_utf8_acceptRanges), ("annals/text.letters", laid_annals_text_letters), ("annals/record.may", laid_annals_record_may), ("annals/lift.ways", laid_annals_lift_ways), ("annals/saga.lands", laid_annals_saga_lands), ("unicode/utf8.first", laid_unicode_utf8_first)] }
def ReplayFirstSaid : Prop := replayFirstRow.holds Tryd.pinned (OpenSpec.ofChange replayFirstSpec)

/-- ITS FALSE NEIGHBOUR: 'it returns false'. Refute it at one input. -/
def replayFirstWrong : ChangeSpec := { name := "replayFirst", fn := fun _ => fun
  | [d1, d2] => { results := [.lit (.bool false)], args := [d1, d2] }
  | _ => none }
def ReplayFirstWrongFalsely : Prop := replayFirstRow.holds Tryd.pinned (OpenSpec.ofChange replayFirstWrong)

/-- 'annalslaw11.ReplayApart': WHATEVER THE INPUT: true; the input reads as it did. -/
def replayApartSpec : ChangeSpec := { name := "replayApart", fn := fun _ => fun
  | [d1, d2] => { results := [.lit (.bool true)], args := [d1, d2] }
  | _ => none }
def replayApartRow : OpenClaim := { program := "ytfbaliimjmimhaadoor", sum := "dfa5551afafa51b2086bf4362b5e8fc157307e62e21d8cf2f948dbe7ab714a2c", func := "annals/annalslaw11.ReplayApart", spec := "replayApart", unfollowed := true, recurses := true, named := ["annals/record.may", "unicode/utf8.first", "unicode/utf8.acceptRanges", "annals/text.letters", "annals/lift.ways", "annals/saga.lands"], apart := false, laid := [("unicode/utf8.acceptRanges", laid_unicode_utf8_acceptRanges), ("annals/text.letters", laid_annals_text_letters), ("annals/record.may", laid_annals_record_may), ("annals/lift.ways", laid_annals_lift_ways), ("annals/saga.lands", laid_annals_saga_lands), ("unicode/utf8.first", laid_unicode_utf8_first)] }
def ReplayApartSaid : Prop := replayApartRow.holds Tryd.pinned (OpenSpec.ofChange replayApartSpec)

/-- ITS FALSE NEIGHBOUR: 'it returns false'. Refute it at one input. -/
def replayApartWrong : ChangeSpec := { name := "replayApart", fn := fun _ => fun
  | [d1, d2] => { results := [.lit (.bool false)], args := [d1, d2] }
  | _ => none }
def ReplayApartWrongFalsely : Prop := replayApartRow.holds Tryd.pinned (OpenSpec.ofChange replayApartWrong)

/-- 'annalslaw11.ReplayLifts': WHATEVER THE INPUT: true; the input reads as it did. -/
def replayLiftsSpec : ChangeSpec := { name := "replayLifts", fn := fun _ => fun
  | [d] => { results := [.lit (.bool true)], args := [d] }
  | _ => none }
def replayLiftsRow : OpenClaim := { program := "ytfbaliimjmimhaadoor", sum := "dfa5551afafa51b2086bf4362b5e8fc157307e62e21d8cf2f948dbe7ab714a2c", func := "annals/annalslaw11.ReplayLifts", spec := "replayLifts", unfollowed := true, recurses := true, named := ["annals/record.may", "unicode/utf8.first", "unicode/utf8.acceptRanges", "annals/text.letters", "annals/lift.ways", "annals/saga.lands"], apart := false, laid := [("unicode/utf8.acceptRanges", laid_unicode_utf8_acceptRanges), ("annals/text.letters", laid_annals_text_letters), ("annals/record.may", laid_annals_record_may), ("annals/lift.ways", laid_annals_lift_ways), ("annals/saga.lands", laid_annals_saga_lands), ("unicode/utf8.first", laid_unicode_utf8_first)] }
def ReplayLiftsSaid : Prop := replayLiftsRow.holds Tryd.pinned (OpenSpec.ofChange replayLiftsSpec)

/-- ITS FALSE NEIGHBOUR: 'it returns false'. Refute it at one input. -/
def replayLiftsWrong : ChangeSpec := { name := "replayLifts", fn := fun _ => fun
  | [d] => { results := [.lit (.bool false)], args := [d] }
  | _ => none }
def ReplayLiftsWrongFalsely : Prop := replayLiftsRow.holds Tryd.pinned (OpenSpec.ofChange replayLiftsWrong)

/-- 'annalslaw11.ReplayEnded': WHATEVER THE INPUT: true; the input reads as it did. -/
def replayEndedSpec : ChangeSpec := { name := "replayEnded", fn := fun _ => fun
  | [d] => { results := [.lit (.bool true)], args := [d] }
  | _ => none }
def replayEndedRow : OpenClaim := { program := "ytfbaliimjmimhaadoor", sum := "dfa5551afafa51b2086bf4362b5e8fc157307e62e21d8cf2f948dbe7ab714a2c", func := "annals/annalslaw11.ReplayEnded", spec := "replayEnded", unfollowed := true, recurses := true, named := ["annals/record.may", "unicode/utf8.first", "unicode/utf8.acceptRanges", "annals/text.letters", "annals/lift.ways", "annals/saga.lands"], apart := false, laid := [("unicode/utf8.acceptRanges", laid_unicode_utf8_acceptRanges), ("annals/text.letters", laid_annals_text_letters), ("annals/record.may", laid_annals_record_may), ("annals/lift.ways", laid_annals_lift_ways), ("annals/saga.lands", laid_annals_saga_lands), ("unicode/utf8.first", laid_unicode_utf8_first)] }
def ReplayEndedSaid : Prop := replayEndedRow.holds Tryd.pinned (OpenSpec.ofChange replayEndedSpec)

/-- ITS FALSE NEIGHBOUR: 'it returns false'. Refute it at one input. -/
def replayEndedWrong : ChangeSpec := { name := "replayEnded", fn := fun _ => fun
  | [d] => { results := [.lit (.bool false)], args := [d] }
  | _ => none }
def ReplayEndedWrongFalsely : Prop := replayEndedRow.holds Tryd.pinned (OpenSpec.ofChange replayEndedWrong)

/-- 'annalslaw11.ReplayStories': WHATEVER THE INPUT: true; the input reads as it did. -/
def replayStoriesSpec : ChangeSpec := { name := "replayStories", fn := fun _ => fun
  | [d] => { results := [.lit (.bool true)], args := [d] }
  | _ => none }
def replayStoriesRow : OpenClaim := { program := "ytfbaliimjmimhaadoor", sum := "dfa5551afafa51b2086bf4362b5e8fc157307e62e21d8cf2f948dbe7ab714a2c", func := "annals/annalslaw11.ReplayStories", spec := "replayStories", unfollowed := true, recurses := true, named := ["annals/record.may", "unicode/utf8.first", "unicode/utf8.acceptRanges", "annals/text.letters", "annals/lift.ways", "annals/saga.lands"], apart := false, laid := [("unicode/utf8.acceptRanges", laid_unicode_utf8_acceptRanges), ("annals/text.letters", laid_annals_text_letters), ("annals/record.may", laid_annals_record_may), ("annals/lift.ways", laid_annals_lift_ways), ("annals/saga.lands", laid_annals_saga_lands), ("unicode/utf8.first", laid_unicode_utf8_first)] }
def ReplayStoriesSaid : Prop := replayStoriesRow.holds Tryd.pinned (OpenSpec.ofChange replayStoriesSpec)

/-- ITS FALSE NEIGHBOUR: 'it returns false'. Refute it at one input. -/
def replayStoriesWrong : ChangeSpec := { name := "replayStories", fn := fun _ => fun
  | [d] => { results := [.lit (.bool false)], args := [d] }
  | _ => none }
def ReplayStoriesWrongFalsely : Prop := replayStoriesRow.holds Tryd.pinned (OpenSpec.ofChange replayStoriesWrong)

/- THE SECOND FORM. 'bulk': how many values and letters a reading holds, each counted each time it is reached (what is shared counts as often as it is met; a slice's spare places count too). A statement '..UptoSaid' is the law's where the arguments, and the package variables that the reading takes, are together of bulk at most 1048576: NARROWER than '..Said'. Prove '..Said' where nothing that the law and all that it calls make is longer than what came in: it says more and counts as full. Else prove '..UptoSaid'. A law counts once. -/
mutual
def uptoBulk {H : Type} : DataW H → Nat
  | .lit (.string bytes) => bytes.length + 1
  | .lit _ => 1
  | .nil => 1
  | .ptr d => uptoBulk d + 1
  | .slice elems spare => uptoBulkAll elems + uptoBulkAll spare + 1
  | .agg parts => uptoBulkAll parts + 1
  | .iface _ d => uptoBulk d + 1
  | .map entries => uptoBulkEntries entries + 1
  | .held _ => 1
def uptoBulkAll {H : Type} : List (DataW H) → Nat
  | [] => 0
  | d :: r => uptoBulk d + uptoBulkAll r
def uptoBulkEntries {H : Type} : List (Lit × DataW H) → Nat
  | [] => 0
  | x :: r => uptoBulkEntry x + uptoBulkEntries r
def uptoBulkEntry {H : Type} : Lit × DataW H → Nat
  | (.string bytes, d) => bytes.length + uptoBulk d + 1
  | (_, d) => uptoBulk d + 1
 end
def uptoSmall : (H : Type) → List (DataW H) → Bool := fun _ ds => decide (uptoBulkAll ds ≤ 1048576)
def OpenSpec.upto (s : _root_.Go.ChangeSpec) : _root_.Go.OpenSpec := { _root_.Go.OpenSpec.ofChange s with cond := some uptoSmall }

/-- 'annalslaw11.ReplayFirst', WHERE WHAT IT READS IS OF BULK AT MOST 1048576: true; the input reads as it did. -/
def replayFirstUptoRow : OpenClaim := { program := "ytfbaliimjmimhaadoor", sum := "dfa5551afafa51b2086bf4362b5e8fc157307e62e21d8cf2f948dbe7ab714a2c", func := "annals/annalslaw11.ReplayFirst", spec := "replayFirst", unfollowed := true, recurses := true, named := ["annals/record.may", "unicode/utf8.first", "unicode/utf8.acceptRanges", "annals/text.letters", "annals/lift.ways", "annals/saga.lands"], apart := false, laid := [("unicode/utf8.acceptRanges", laid_unicode_utf8_acceptRanges), ("annals/text.letters", laid_annals_text_letters), ("annals/record.may", laid_annals_record_may), ("annals/lift.ways", laid_annals_lift_ways), ("annals/saga.lands", laid_annals_saga_lands), ("unicode/utf8.first", laid_unicode_utf8_first)], narrowed := true }
def ReplayFirstUptoSaid : Prop := replayFirstUptoRow.holds Tryd.pinned (OpenSpec.upto replayFirstSpec)

/-- 'annalslaw11.ReplayApart', WHERE WHAT IT READS IS OF BULK AT MOST 1048576: true; the input reads as it did. -/
def replayApartUptoRow : OpenClaim := { program := "ytfbaliimjmimhaadoor", sum := "dfa5551afafa51b2086bf4362b5e8fc157307e62e21d8cf2f948dbe7ab714a2c", func := "annals/annalslaw11.ReplayApart", spec := "replayApart", unfollowed := true, recurses := true, named := ["annals/record.may", "unicode/utf8.first", "unicode/utf8.acceptRanges", "annals/text.letters", "annals/lift.ways", "annals/saga.lands"], apart := false, laid := [("unicode/utf8.acceptRanges", laid_unicode_utf8_acceptRanges), ("annals/text.letters", laid_annals_text_letters), ("annals/record.may", laid_annals_record_may), ("annals/lift.ways", laid_annals_lift_ways), ("annals/saga.lands", laid_annals_saga_lands), ("unicode/utf8.first", laid_unicode_utf8_first)], narrowed := true }
def ReplayApartUptoSaid : Prop := replayApartUptoRow.holds Tryd.pinned (OpenSpec.upto replayApartSpec)

/-- 'annalslaw11.ReplayLifts', WHERE WHAT IT READS IS OF BULK AT MOST 1048576: true; the input reads as it did. -/
def replayLiftsUptoRow : OpenClaim := { program := "ytfbaliimjmimhaadoor", sum := "dfa5551afafa51b2086bf4362b5e8fc157307e62e21d8cf2f948dbe7ab714a2c", func := "annals/annalslaw11.ReplayLifts", spec := "replayLifts", unfollowed := true, recurses := true, named := ["annals/record.may", "unicode/utf8.first", "unicode/utf8.acceptRanges", "annals/text.letters", "annals/lift.ways", "annals/saga.lands"], apart := false, laid := [("unicode/utf8.acceptRanges", laid_unicode_utf8_acceptRanges), ("annals/text.letters", laid_annals_text_letters), ("annals/record.may", laid_annals_record_may), ("annals/lift.ways", laid_annals_lift_ways), ("annals/saga.lands", laid_annals_saga_lands), ("unicode/utf8.first", laid_unicode_utf8_first)], narrowed := true }
def ReplayLiftsUptoSaid : Prop := replayLiftsUptoRow.holds Tryd.pinned (OpenSpec.upto replayLiftsSpec)

/-- 'annalslaw11.ReplayEnded', WHERE WHAT IT READS IS OF BULK AT MOST 1048576: true; the input reads as it did. -/
def replayEndedUptoRow : OpenClaim := { program := "ytfbaliimjmimhaadoor", sum := "dfa5551afafa51b2086bf4362b5e8fc157307e62e21d8cf2f948dbe7ab714a2c", func := "annals/annalslaw11.ReplayEnded", spec := "replayEnded", unfollowed := true, recurses := true, named := ["annals/record.may", "unicode/utf8.first", "unicode/utf8.acceptRanges", "annals/text.letters", "annals/lift.ways", "annals/saga.lands"], apart := false, laid := [("unicode/utf8.acceptRanges", laid_unicode_utf8_acceptRanges), ("annals/text.letters", laid_annals_text_letters), ("annals/record.may", laid_annals_record_may), ("annals/lift.ways", laid_annals_lift_ways), ("annals/saga.lands", laid_annals_saga_lands), ("unicode/utf8.first", laid_unicode_utf8_first)], narrowed := true }
def ReplayEndedUptoSaid : Prop := replayEndedUptoRow.holds Tryd.pinned (OpenSpec.upto replayEndedSpec)

/-- 'annalslaw11.ReplayStories', WHERE WHAT IT READS IS OF BULK AT MOST 1048576: true; the input reads as it did. -/
def replayStoriesUptoRow : OpenClaim := { program := "ytfbaliimjmimhaadoor", sum := "dfa5551afafa51b2086bf4362b5e8fc157307e62e21d8cf2f948dbe7ab714a2c", func := "annals/annalslaw11.ReplayStories", spec := "replayStories", unfollowed := true, recurses := true, named := ["annals/record.may", "unicode/utf8.first", "unicode/utf8.acceptRanges", "annals/text.letters", "annals/lift.ways", "annals/saga.lands"], apart := false, laid := [("unicode/utf8.acceptRanges", laid_unicode_utf8_acceptRanges), ("annals/text.letters", laid_annals_text_letters), ("annals/record.may", laid_annals_record_may), ("annals/lift.ways", laid_annals_lift_ways), ("annals/saga.lands", laid_annals_saga_lands), ("unicode/utf8.first", laid_unicode_utf8_first)], narrowed := true }
def ReplayStoriesUptoSaid : Prop := replayStoriesUptoRow.holds Tryd.pinned (OpenSpec.upto replayStoriesSpec)

end Rows
end Go.Proofs.YtfbaliimjmimhaaDoor
