/-
  NARROWER THAN 'FOR EVERY INPUT', by the rows' own cells (each row's printed sentence says how): TextTells: laid · TextEnds: laid · TextJoins: laid · TextChars: laid · TextEscape: laid · TextHex: laid · TextPlain: laid · QuoteTells: laid · QuoteApart: laid · QuotePlain: laid · QuoteByte: laid · QuoteBack: laid · QuoteText: laid.
  DERIVED. THE GIVEN ROWS OF THIS SEAT. 13 by the template 'for every input the law returns true; each argument reads behind the call as it read before'; 0 by the template 'total and deterministic' (their statements: YtcebkppagamjiaaDoorTotals.lean).
  GIVEN WITH THE SEED: the statements are not yours to turn. If you find one false, say at which input.
  Laid BY PROGRAM, IN A SANDBOX (cutbox-rows.mjs): the forced cells as the released guide's own fill.sh prints them over the translation 1037bd03ba4e4aba… (all of the seat's roots in one cut). By AI agents, Wed Nov 11 2026. No macro, syntax, notation, axiom, sorry.
-/
import Derived.Test.YtcebkppagamjiaaDoorChecked
import GoSem.PinnedTables
import GoSem.Claim
import GoSem.ClaimJoined
import GoSem.ClaimMapViews
import Derived.JoinedTies
import Derived.KernelRfl
namespace Go.Proofs.YtcebkppagamjiaaDoor
/- THE CELL 'sum', in the pinned program and in every row, IS THE sha256 OF THE DUMP (.gsa) THAT YtcebkppagamjiaaDoorProg.lean LOADS. Nothing in Lean hashes anything: it is a label: what it is worth is what the hold of that sum in a sandbox is worth. -/
noncomputable def Tryd.pinned : Pinned := { name := "ytcebkppagamjiaadoor", sum := "1037bd03ba4e4abab25fcebd09628cc35b379140960c7e37c6e921a89ba0a554", checked := Tryd.checked }
namespace Rows
def none {H : Type} : Left H := { results := [], args := [] }

/- WHAT THE LISTED PACKAGE-LEVEL VARIABLES READ AS WHEN THE CALL BEGINS. Each datum BY PROGRAM (the guide's laid-datum.mjs) off the statement by which the dump's own 'gosem.cut.vars' lays the variable. In a bare row this is a premise. The card (YtcebkppagamjiaaDoorCards.lean) ties it to the program's text. -/
def laid_unicode_utf8_acceptRanges {H : Type} : DataW H := .agg [.agg [.lit (.int .u8 128), .lit (.int .u8 191)], .agg [.lit (.int .u8 160), .lit (.int .u8 191)], .agg [.lit (.int .u8 128), .lit (.int .u8 159)], .agg [.lit (.int .u8 144), .lit (.int .u8 191)], .agg [.lit (.int .u8 128), .lit (.int .u8 143)], .agg [.lit (.int .u8 0), .lit (.int .u8 0)], .agg [.lit (.int .u8 0), .lit (.int .u8 0)], .agg [.lit (.int .u8 0), .lit (.int .u8 0)], .agg [.lit (.int .u8 0), .lit (.int .u8 0)], .agg [.lit (.int .u8 0), .lit (.int .u8 0)], .agg [.lit (.int .u8 0), .lit (.int .u8 0)], .agg [.lit (.int .u8 0), .lit (.int .u8 0)], .agg [.lit (.int .u8 0), .lit (.int .u8 0)], .agg [.lit (.int .u8 0), .lit (.int .u8 0)], .agg [.lit (.int .u8 0), .lit (.int .u8 0)], .agg [.lit (.int .u8 0), .lit (.int .u8 0)]]
/-- One of Go's own tables, pinned by name: the form's constant. -/
def laid_unicode_CaseRanges : DataW Unit := Go.Pinned.caseRanges
/-- One of Go's own tables, pinned by name: the form's constant. -/
def laid_unicode_utf8_first : DataW Unit := Go.Pinned.utf8First
def laid_copperplate_quote_escapes {H : Type} : DataW H := .agg [.agg [.lit (.string [34]), .lit (.string [92, 34])], .agg [.lit (.string [92]), .lit (.string [92, 92])], .agg [.lit (.string [8]), .lit (.string [92, 98])], .agg [.lit (.string [12]), .lit (.string [92, 102])], .agg [.lit (.string [10]), .lit (.string [92, 110])], .agg [.lit (.string [13]), .lit (.string [92, 114])], .agg [.lit (.string [9]), .lit (.string [92, 116])]]

/-- 'copperplatelaw06.TextTells': WHATEVER THE INPUT: true; the input reads as it did. -/
def textTellsSpec : ChangeSpec := { name := "textTells", fn := fun _ => fun
  | [d1, d2] => { results := [.lit (.bool true)], args := [d1, d2] }
  | _ => none }
def textTellsRow : OpenClaim := { program := "ytcebkppagamjiaadoor", sum := "1037bd03ba4e4abab25fcebd09628cc35b379140960c7e37c6e921a89ba0a554", func := "copperplate/copperplatelaw06.TextTells", spec := "textTells", inPlace := ["internal/abi.NoEscape", "internal/bytealg.MakeNoZero", "internal/bytealg.IndexByteString"], unfollowed := true, recurses := true, named := ["unicode/utf8.first", "unicode/utf8.acceptRanges", "unicode.CaseRanges"], apart := false, laid := [("unicode/utf8.acceptRanges", laid_unicode_utf8_acceptRanges), ("unicode.CaseRanges", laid_unicode_CaseRanges), ("unicode/utf8.first", laid_unicode_utf8_first)] }
def TextTellsSaid : Prop := textTellsRow.holds Tryd.pinned (OpenSpec.ofChange textTellsSpec)

/-- ITS FALSE NEIGHBOUR: 'it returns false'. Refute it at one input. -/
def textTellsWrong : ChangeSpec := { name := "textTells", fn := fun _ => fun
  | [d1, d2] => { results := [.lit (.bool false)], args := [d1, d2] }
  | _ => none }
def TextTellsWrongFalsely : Prop := textTellsRow.holds Tryd.pinned (OpenSpec.ofChange textTellsWrong)

/-- 'copperplatelaw06.TextEnds': WHATEVER THE INPUT: true; the input reads as it did. -/
def textEndsSpec : ChangeSpec := { name := "textEnds", fn := fun _ => fun
  | [d1, d2, d3] => { results := [.lit (.bool true)], args := [d1, d2, d3] }
  | _ => none }
def textEndsRow : OpenClaim := { program := "ytcebkppagamjiaadoor", sum := "1037bd03ba4e4abab25fcebd09628cc35b379140960c7e37c6e921a89ba0a554", func := "copperplate/copperplatelaw06.TextEnds", spec := "textEnds", inPlace := ["internal/abi.NoEscape", "internal/bytealg.MakeNoZero", "internal/bytealg.IndexByteString"], unfollowed := true, recurses := true, named := ["unicode/utf8.first", "unicode/utf8.acceptRanges", "unicode.CaseRanges"], apart := false, laid := [("unicode/utf8.acceptRanges", laid_unicode_utf8_acceptRanges), ("unicode.CaseRanges", laid_unicode_CaseRanges), ("unicode/utf8.first", laid_unicode_utf8_first)] }
def TextEndsSaid : Prop := textEndsRow.holds Tryd.pinned (OpenSpec.ofChange textEndsSpec)

/-- ITS FALSE NEIGHBOUR: 'it returns false'. Refute it at one input. -/
def textEndsWrong : ChangeSpec := { name := "textEnds", fn := fun _ => fun
  | [d1, d2, d3] => { results := [.lit (.bool false)], args := [d1, d2, d3] }
  | _ => none }
def TextEndsWrongFalsely : Prop := textEndsRow.holds Tryd.pinned (OpenSpec.ofChange textEndsWrong)

/-- 'copperplatelaw06.TextJoins': WHATEVER THE INPUT: true; the input reads as it did. -/
def textJoinsSpec : ChangeSpec := { name := "textJoins", fn := fun _ => fun
  | [d1, d2] => { results := [.lit (.bool true)], args := [d1, d2] }
  | _ => none }
def textJoinsRow : OpenClaim := { program := "ytcebkppagamjiaadoor", sum := "1037bd03ba4e4abab25fcebd09628cc35b379140960c7e37c6e921a89ba0a554", func := "copperplate/copperplatelaw06.TextJoins", spec := "textJoins", inPlace := ["internal/abi.NoEscape", "internal/bytealg.MakeNoZero", "internal/bytealg.IndexByteString"], unfollowed := true, recurses := true, named := ["unicode/utf8.first", "unicode/utf8.acceptRanges", "unicode.CaseRanges"], apart := false, laid := [("unicode/utf8.acceptRanges", laid_unicode_utf8_acceptRanges), ("unicode.CaseRanges", laid_unicode_CaseRanges), ("unicode/utf8.first", laid_unicode_utf8_first)] }
def TextJoinsSaid : Prop := textJoinsRow.holds Tryd.pinned (OpenSpec.ofChange textJoinsSpec)

/-- ITS FALSE NEIGHBOUR: 'it returns false'. Refute it at one input. -/
def textJoinsWrong : ChangeSpec := { name := "textJoins", fn := fun _ => fun
  | [d1, d2] => { results := [.lit (.bool false)], args := [d1, d2] }
  | _ => none }
def TextJoinsWrongFalsely : Prop := textJoinsRow.holds Tryd.pinned (OpenSpec.ofChange textJoinsWrong)

/-- 'copperplatelaw06.TextChars': WHATEVER THE INPUT: true; the input reads as it did. -/
def textCharsSpec : ChangeSpec := { name := "textChars", fn := fun _ => fun
  | [d] => { results := [.lit (.bool true)], args := [d] }
  | _ => none }
def textCharsRow : OpenClaim := { program := "ytcebkppagamjiaadoor", sum := "1037bd03ba4e4abab25fcebd09628cc35b379140960c7e37c6e921a89ba0a554", func := "copperplate/copperplatelaw06.TextChars", spec := "textChars", inPlace := ["internal/abi.NoEscape", "internal/bytealg.MakeNoZero", "internal/bytealg.IndexByteString"], unfollowed := true, recurses := true, named := ["unicode/utf8.first", "unicode/utf8.acceptRanges", "unicode.CaseRanges"], apart := false, laid := [("unicode/utf8.acceptRanges", laid_unicode_utf8_acceptRanges), ("unicode.CaseRanges", laid_unicode_CaseRanges), ("unicode/utf8.first", laid_unicode_utf8_first)] }
def TextCharsSaid : Prop := textCharsRow.holds Tryd.pinned (OpenSpec.ofChange textCharsSpec)

/-- ITS FALSE NEIGHBOUR: 'it returns false'. Refute it at one input. -/
def textCharsWrong : ChangeSpec := { name := "textChars", fn := fun _ => fun
  | [d] => { results := [.lit (.bool false)], args := [d] }
  | _ => none }
def TextCharsWrongFalsely : Prop := textCharsRow.holds Tryd.pinned (OpenSpec.ofChange textCharsWrong)

/-- 'copperplatelaw06.TextEscape': WHATEVER THE INPUT: true; the input reads as it did. -/
def textEscapeSpec : ChangeSpec := { name := "textEscape", fn := fun _ => fun
  | [d1, d2] => { results := [.lit (.bool true)], args := [d1, d2] }
  | _ => none }
def textEscapeRow : OpenClaim := { program := "ytcebkppagamjiaadoor", sum := "1037bd03ba4e4abab25fcebd09628cc35b379140960c7e37c6e921a89ba0a554", func := "copperplate/copperplatelaw06.TextEscape", spec := "textEscape", inPlace := ["internal/abi.NoEscape", "internal/bytealg.MakeNoZero", "internal/bytealg.IndexByteString"], unfollowed := true, recurses := true, named := ["unicode/utf8.first", "unicode/utf8.acceptRanges", "unicode.CaseRanges"], apart := false, laid := [("unicode/utf8.acceptRanges", laid_unicode_utf8_acceptRanges), ("unicode.CaseRanges", laid_unicode_CaseRanges), ("unicode/utf8.first", laid_unicode_utf8_first)] }
def TextEscapeSaid : Prop := textEscapeRow.holds Tryd.pinned (OpenSpec.ofChange textEscapeSpec)

/-- ITS FALSE NEIGHBOUR: 'it returns false'. Refute it at one input. -/
def textEscapeWrong : ChangeSpec := { name := "textEscape", fn := fun _ => fun
  | [d1, d2] => { results := [.lit (.bool false)], args := [d1, d2] }
  | _ => none }
def TextEscapeWrongFalsely : Prop := textEscapeRow.holds Tryd.pinned (OpenSpec.ofChange textEscapeWrong)

/-- 'copperplatelaw06.TextHex': WHATEVER THE INPUT: true; the input reads as it did. -/
def textHexSpec : ChangeSpec := { name := "textHex", fn := fun _ => fun
  | [d1, d2, d3] => { results := [.lit (.bool true)], args := [d1, d2, d3] }
  | _ => none }
def textHexRow : OpenClaim := { program := "ytcebkppagamjiaadoor", sum := "1037bd03ba4e4abab25fcebd09628cc35b379140960c7e37c6e921a89ba0a554", func := "copperplate/copperplatelaw06.TextHex", spec := "textHex", inPlace := ["internal/abi.NoEscape", "internal/bytealg.MakeNoZero", "internal/bytealg.IndexByteString"], unfollowed := true, recurses := true, named := ["unicode/utf8.first", "unicode/utf8.acceptRanges", "unicode.CaseRanges"], apart := false, laid := [("unicode/utf8.acceptRanges", laid_unicode_utf8_acceptRanges), ("unicode.CaseRanges", laid_unicode_CaseRanges), ("unicode/utf8.first", laid_unicode_utf8_first)] }
def TextHexSaid : Prop := textHexRow.holds Tryd.pinned (OpenSpec.ofChange textHexSpec)

/-- ITS FALSE NEIGHBOUR: 'it returns false'. Refute it at one input. -/
def textHexWrong : ChangeSpec := { name := "textHex", fn := fun _ => fun
  | [d1, d2, d3] => { results := [.lit (.bool false)], args := [d1, d2, d3] }
  | _ => none }
def TextHexWrongFalsely : Prop := textHexRow.holds Tryd.pinned (OpenSpec.ofChange textHexWrong)

/-- 'copperplatelaw06.TextPlain': WHATEVER THE INPUT: true; the input reads as it did. -/
def textPlainSpec : ChangeSpec := { name := "textPlain", fn := fun _ => fun
  | [d1, d2] => { results := [.lit (.bool true)], args := [d1, d2] }
  | _ => none }
def textPlainRow : OpenClaim := { program := "ytcebkppagamjiaadoor", sum := "1037bd03ba4e4abab25fcebd09628cc35b379140960c7e37c6e921a89ba0a554", func := "copperplate/copperplatelaw06.TextPlain", spec := "textPlain", inPlace := ["internal/abi.NoEscape", "internal/bytealg.MakeNoZero", "internal/bytealg.IndexByteString"], unfollowed := true, recurses := true, named := ["unicode/utf8.first", "unicode/utf8.acceptRanges", "unicode.CaseRanges"], apart := false, laid := [("unicode/utf8.acceptRanges", laid_unicode_utf8_acceptRanges), ("unicode.CaseRanges", laid_unicode_CaseRanges), ("unicode/utf8.first", laid_unicode_utf8_first)] }
def TextPlainSaid : Prop := textPlainRow.holds Tryd.pinned (OpenSpec.ofChange textPlainSpec)

/-- ITS FALSE NEIGHBOUR: 'it returns false'. Refute it at one input. -/
def textPlainWrong : ChangeSpec := { name := "textPlain", fn := fun _ => fun
  | [d1, d2] => { results := [.lit (.bool false)], args := [d1, d2] }
  | _ => none }
def TextPlainWrongFalsely : Prop := textPlainRow.holds Tryd.pinned (OpenSpec.ofChange textPlainWrong)

/-- 'copperplatelaw08.QuoteTells': WHATEVER THE INPUT: true; the input reads as it did. -/
def quoteTellsSpec : ChangeSpec := { name := "quoteTells", fn := fun _ => fun
  | [d] => { results := [.lit (.bool true)], args := [d] }
  | _ => none }
def quoteTellsRow : OpenClaim := { program := "ytcebkppagamjiaadoor", sum := "1037bd03ba4e4abab25fcebd09628cc35b379140960c7e37c6e921a89ba0a554", func := "copperplate/copperplatelaw08.QuoteTells", spec := "quoteTells", inPlace := ["internal/abi.NoEscape", "internal/bytealg.MakeNoZero"], unfollowed := true, recurses := true, named := ["unicode/utf8.first", "unicode/utf8.acceptRanges", "copperplate/quote.escapes"], apart := false, laid := [("unicode/utf8.acceptRanges", laid_unicode_utf8_acceptRanges), ("copperplate/quote.escapes", laid_copperplate_quote_escapes), ("unicode/utf8.first", laid_unicode_utf8_first)] }
def QuoteTellsSaid : Prop := quoteTellsRow.holds Tryd.pinned (OpenSpec.ofChange quoteTellsSpec)

/-- ITS FALSE NEIGHBOUR: 'it returns false'. Refute it at one input. -/
def quoteTellsWrong : ChangeSpec := { name := "quoteTells", fn := fun _ => fun
  | [d] => { results := [.lit (.bool false)], args := [d] }
  | _ => none }
def QuoteTellsWrongFalsely : Prop := quoteTellsRow.holds Tryd.pinned (OpenSpec.ofChange quoteTellsWrong)

/-- 'copperplatelaw08.QuoteApart': WHATEVER THE INPUT: true; the input reads as it did. -/
def quoteApartSpec : ChangeSpec := { name := "quoteApart", fn := fun _ => fun
  | [d1, d2] => { results := [.lit (.bool true)], args := [d1, d2] }
  | _ => none }
def quoteApartRow : OpenClaim := { program := "ytcebkppagamjiaadoor", sum := "1037bd03ba4e4abab25fcebd09628cc35b379140960c7e37c6e921a89ba0a554", func := "copperplate/copperplatelaw08.QuoteApart", spec := "quoteApart", inPlace := ["internal/abi.NoEscape", "internal/bytealg.MakeNoZero"], unfollowed := true, recurses := true, named := ["unicode/utf8.first", "unicode/utf8.acceptRanges", "copperplate/quote.escapes"], apart := false, laid := [("unicode/utf8.acceptRanges", laid_unicode_utf8_acceptRanges), ("copperplate/quote.escapes", laid_copperplate_quote_escapes), ("unicode/utf8.first", laid_unicode_utf8_first)] }
def QuoteApartSaid : Prop := quoteApartRow.holds Tryd.pinned (OpenSpec.ofChange quoteApartSpec)

/-- ITS FALSE NEIGHBOUR: 'it returns false'. Refute it at one input. -/
def quoteApartWrong : ChangeSpec := { name := "quoteApart", fn := fun _ => fun
  | [d1, d2] => { results := [.lit (.bool false)], args := [d1, d2] }
  | _ => none }
def QuoteApartWrongFalsely : Prop := quoteApartRow.holds Tryd.pinned (OpenSpec.ofChange quoteApartWrong)

/-- 'copperplatelaw08.QuotePlain': WHATEVER THE INPUT: true; the input reads as it did. -/
def quotePlainSpec : ChangeSpec := { name := "quotePlain", fn := fun _ => fun
  | [d] => { results := [.lit (.bool true)], args := [d] }
  | _ => none }
def quotePlainRow : OpenClaim := { program := "ytcebkppagamjiaadoor", sum := "1037bd03ba4e4abab25fcebd09628cc35b379140960c7e37c6e921a89ba0a554", func := "copperplate/copperplatelaw08.QuotePlain", spec := "quotePlain", inPlace := ["internal/abi.NoEscape", "internal/bytealg.MakeNoZero"], unfollowed := true, recurses := true, named := ["unicode/utf8.first", "unicode/utf8.acceptRanges", "copperplate/quote.escapes"], apart := false, laid := [("unicode/utf8.acceptRanges", laid_unicode_utf8_acceptRanges), ("copperplate/quote.escapes", laid_copperplate_quote_escapes), ("unicode/utf8.first", laid_unicode_utf8_first)] }
def QuotePlainSaid : Prop := quotePlainRow.holds Tryd.pinned (OpenSpec.ofChange quotePlainSpec)

/-- ITS FALSE NEIGHBOUR: 'it returns false'. Refute it at one input. -/
def quotePlainWrong : ChangeSpec := { name := "quotePlain", fn := fun _ => fun
  | [d] => { results := [.lit (.bool false)], args := [d] }
  | _ => none }
def QuotePlainWrongFalsely : Prop := quotePlainRow.holds Tryd.pinned (OpenSpec.ofChange quotePlainWrong)

/-- 'copperplatelaw08.QuoteByte': WHATEVER THE INPUT: true; the input reads as it did. -/
def quoteByteSpec : ChangeSpec := { name := "quoteByte", fn := fun _ => fun
  | [d] => { results := [.lit (.bool true)], args := [d] }
  | _ => none }
def quoteByteRow : OpenClaim := { program := "ytcebkppagamjiaadoor", sum := "1037bd03ba4e4abab25fcebd09628cc35b379140960c7e37c6e921a89ba0a554", func := "copperplate/copperplatelaw08.QuoteByte", spec := "quoteByte", inPlace := ["internal/abi.NoEscape", "internal/bytealg.MakeNoZero"], unfollowed := true, recurses := true, named := ["unicode/utf8.first", "unicode/utf8.acceptRanges", "copperplate/quote.escapes"], apart := false, laid := [("unicode/utf8.acceptRanges", laid_unicode_utf8_acceptRanges), ("copperplate/quote.escapes", laid_copperplate_quote_escapes), ("unicode/utf8.first", laid_unicode_utf8_first)] }
def QuoteByteSaid : Prop := quoteByteRow.holds Tryd.pinned (OpenSpec.ofChange quoteByteSpec)

/-- ITS FALSE NEIGHBOUR: 'it returns false'. Refute it at one input. -/
def quoteByteWrong : ChangeSpec := { name := "quoteByte", fn := fun _ => fun
  | [d] => { results := [.lit (.bool false)], args := [d] }
  | _ => none }
def QuoteByteWrongFalsely : Prop := quoteByteRow.holds Tryd.pinned (OpenSpec.ofChange quoteByteWrong)

/-- 'copperplatelaw08.QuoteBack': WHATEVER THE INPUT: true; the input reads as it did. -/
def quoteBackSpec : ChangeSpec := { name := "quoteBack", fn := fun _ => fun
  | [d1, d2] => { results := [.lit (.bool true)], args := [d1, d2] }
  | _ => none }
def quoteBackRow : OpenClaim := { program := "ytcebkppagamjiaadoor", sum := "1037bd03ba4e4abab25fcebd09628cc35b379140960c7e37c6e921a89ba0a554", func := "copperplate/copperplatelaw08.QuoteBack", spec := "quoteBack", inPlace := ["internal/abi.NoEscape", "internal/bytealg.MakeNoZero", "internal/bytealg.IndexByteString"], unfollowed := true, recurses := true, named := ["unicode/utf8.first", "unicode/utf8.acceptRanges", "copperplate/quote.escapes", "unicode.CaseRanges"], apart := false, laid := [("unicode/utf8.acceptRanges", laid_unicode_utf8_acceptRanges), ("copperplate/quote.escapes", laid_copperplate_quote_escapes), ("unicode.CaseRanges", laid_unicode_CaseRanges), ("unicode/utf8.first", laid_unicode_utf8_first)] }
def QuoteBackSaid : Prop := quoteBackRow.holds Tryd.pinned (OpenSpec.ofChange quoteBackSpec)

/-- ITS FALSE NEIGHBOUR: 'it returns false'. Refute it at one input. -/
def quoteBackWrong : ChangeSpec := { name := "quoteBack", fn := fun _ => fun
  | [d1, d2] => { results := [.lit (.bool false)], args := [d1, d2] }
  | _ => none }
def QuoteBackWrongFalsely : Prop := quoteBackRow.holds Tryd.pinned (OpenSpec.ofChange quoteBackWrong)

/-- 'copperplatelaw08.QuoteText': WHATEVER THE INPUT: true; the input reads as it did. -/
def quoteTextSpec : ChangeSpec := { name := "quoteText", fn := fun _ => fun
  | [d] => { results := [.lit (.bool true)], args := [d] }
  | _ => none }
def quoteTextRow : OpenClaim := { program := "ytcebkppagamjiaadoor", sum := "1037bd03ba4e4abab25fcebd09628cc35b379140960c7e37c6e921a89ba0a554", func := "copperplate/copperplatelaw08.QuoteText", spec := "quoteText", inPlace := ["internal/abi.NoEscape", "internal/bytealg.MakeNoZero", "internal/bytealg.IndexByteString"], unfollowed := true, recurses := true, named := ["unicode/utf8.first", "unicode/utf8.acceptRanges", "copperplate/quote.escapes", "unicode.CaseRanges"], apart := false, laid := [("unicode/utf8.acceptRanges", laid_unicode_utf8_acceptRanges), ("copperplate/quote.escapes", laid_copperplate_quote_escapes), ("unicode.CaseRanges", laid_unicode_CaseRanges), ("unicode/utf8.first", laid_unicode_utf8_first)] }
def QuoteTextSaid : Prop := quoteTextRow.holds Tryd.pinned (OpenSpec.ofChange quoteTextSpec)

/-- ITS FALSE NEIGHBOUR: 'it returns false'. Refute it at one input. -/
def quoteTextWrong : ChangeSpec := { name := "quoteText", fn := fun _ => fun
  | [d] => { results := [.lit (.bool false)], args := [d] }
  | _ => none }
def QuoteTextWrongFalsely : Prop := quoteTextRow.holds Tryd.pinned (OpenSpec.ofChange quoteTextWrong)

/- THE SECOND FORM. 'bulk': how many values and letters a reading holds, each counted each time it is reached (what is shared counts as often as it is met; a slice's spare places count too). A statement '..UptoSaid' is the law's where the arguments, and the package variables that the reading takes, are together of bulk at most 1048576: NARROWER than '..Said'. Prove '..Said' where nothing that the law and all that it calls make is longer than what came in: it says more and counts as full. Else prove '..UptoSaid'. A law counts once. -/
mutual
def uptoBulk {H : Type} : DataW H → Nat
  | .lit (.string bytes) => bytes.length + 1
  | .lit _ => 1
  | .nil => 1
  | .ptr d => uptoBulk d + 1
  | .slice elems spare => uptoBulkAll elems + uptoBulkAll spare + 1
  | .agg parts => uptoBulkAll parts + 1
  | .iface _ d => uptoBulk d + 1
  | .map entries => uptoBulkEntries entries + 1
  | .held _ => 1
def uptoBulkAll {H : Type} : List (DataW H) → Nat
  | [] => 0
  | d :: r => uptoBulk d + uptoBulkAll r
def uptoBulkEntries {H : Type} : List (Lit × DataW H) → Nat
  | [] => 0
  | x :: r => uptoBulkEntry x + uptoBulkEntries r
def uptoBulkEntry {H : Type} : Lit × DataW H → Nat
  | (.string bytes, d) => bytes.length + uptoBulk d + 1
  | (_, d) => uptoBulk d + 1
 end
def uptoSmall : (H : Type) → List (DataW H) → Bool := fun _ ds => decide (uptoBulkAll ds ≤ 1048576)
def OpenSpec.upto (s : _root_.Go.ChangeSpec) : _root_.Go.OpenSpec := { _root_.Go.OpenSpec.ofChange s with cond := some uptoSmall }

/-- 'copperplatelaw06.TextTells', WHERE WHAT IT READS IS OF BULK AT MOST 1048576: true; the input reads as it did. -/
def textTellsUptoRow : OpenClaim := { program := "ytcebkppagamjiaadoor", sum := "1037bd03ba4e4abab25fcebd09628cc35b379140960c7e37c6e921a89ba0a554", func := "copperplate/copperplatelaw06.TextTells", spec := "textTells", inPlace := ["internal/abi.NoEscape", "internal/bytealg.MakeNoZero", "internal/bytealg.IndexByteString"], unfollowed := true, recurses := true, named := ["unicode/utf8.first", "unicode/utf8.acceptRanges", "unicode.CaseRanges"], apart := false, laid := [("unicode/utf8.acceptRanges", laid_unicode_utf8_acceptRanges), ("unicode.CaseRanges", laid_unicode_CaseRanges), ("unicode/utf8.first", laid_unicode_utf8_first)], narrowed := true }
def TextTellsUptoSaid : Prop := textTellsUptoRow.holds Tryd.pinned (OpenSpec.upto textTellsSpec)

/-- 'copperplatelaw06.TextEnds', WHERE WHAT IT READS IS OF BULK AT MOST 1048576: true; the input reads as it did. -/
def textEndsUptoRow : OpenClaim := { program := "ytcebkppagamjiaadoor", sum := "1037bd03ba4e4abab25fcebd09628cc35b379140960c7e37c6e921a89ba0a554", func := "copperplate/copperplatelaw06.TextEnds", spec := "textEnds", inPlace := ["internal/abi.NoEscape", "internal/bytealg.MakeNoZero", "internal/bytealg.IndexByteString"], unfollowed := true, recurses := true, named := ["unicode/utf8.first", "unicode/utf8.acceptRanges", "unicode.CaseRanges"], apart := false, laid := [("unicode/utf8.acceptRanges", laid_unicode_utf8_acceptRanges), ("unicode.CaseRanges", laid_unicode_CaseRanges), ("unicode/utf8.first", laid_unicode_utf8_first)], narrowed := true }
def TextEndsUptoSaid : Prop := textEndsUptoRow.holds Tryd.pinned (OpenSpec.upto textEndsSpec)

/-- 'copperplatelaw06.TextJoins', WHERE WHAT IT READS IS OF BULK AT MOST 1048576: true; the input reads as it did. -/
def textJoinsUptoRow : OpenClaim := { program := "ytcebkppagamjiaadoor", sum := "1037bd03ba4e4abab25fcebd09628cc35b379140960c7e37c6e921a89ba0a554", func := "copperplate/copperplatelaw06.TextJoins", spec := "textJoins", inPlace := ["internal/abi.NoEscape", "internal/bytealg.MakeNoZero", "internal/bytealg.IndexByteString"], unfollowed := true, recurses := true, named := ["unicode/utf8.first", "unicode/utf8.acceptRanges", "unicode.CaseRanges"], apart := false, laid := [("unicode/utf8.acceptRanges", laid_unicode_utf8_acceptRanges), ("unicode.CaseRanges", laid_unicode_CaseRanges), ("unicode/utf8.first", laid_unicode_utf8_first)], narrowed := true }
def TextJoinsUptoSaid : Prop := textJoinsUptoRow.holds Tryd.pinned (OpenSpec.upto textJoinsSpec)

/-- 'copperplatelaw06.TextChars', WHERE WHAT IT READS IS OF BULK AT MOST 1048576: true; the input reads as it did. -/
def textCharsUptoRow : OpenClaim := { program := "ytcebkppagamjiaadoor", sum := "1037bd03ba4e4abab25fcebd09628cc35b379140960c7e37c6e921a89ba0a554", func := "copperplate/copperplatelaw06.TextChars", spec := "textChars", inPlace := ["internal/abi.NoEscape", "internal/bytealg.MakeNoZero", "internal/bytealg.IndexByteString"], unfollowed := true, recurses := true, named := ["unicode/utf8.first", "unicode/utf8.acceptRanges", "unicode.CaseRanges"], apart := false, laid := [("unicode/utf8.acceptRanges", laid_unicode_utf8_acceptRanges), ("unicode.CaseRanges", laid_unicode_CaseRanges), ("unicode/utf8.first", laid_unicode_utf8_first)], narrowed := true }
def TextCharsUptoSaid : Prop := textCharsUptoRow.holds Tryd.pinned (OpenSpec.upto textCharsSpec)

/-- 'copperplatelaw06.TextEscape', WHERE WHAT IT READS IS OF BULK AT MOST 1048576: true; the input reads as it did. -/
def textEscapeUptoRow : OpenClaim := { program := "ytcebkppagamjiaadoor", sum := "1037bd03ba4e4abab25fcebd09628cc35b379140960c7e37c6e921a89ba0a554", func := "copperplate/copperplatelaw06.TextEscape", spec := "textEscape", inPlace := ["internal/abi.NoEscape", "internal/bytealg.MakeNoZero", "internal/bytealg.IndexByteString"], unfollowed := true, recurses := true, named := ["unicode/utf8.first", "unicode/utf8.acceptRanges", "unicode.CaseRanges"], apart := false, laid := [("unicode/utf8.acceptRanges", laid_unicode_utf8_acceptRanges), ("unicode.CaseRanges", laid_unicode_CaseRanges), ("unicode/utf8.first", laid_unicode_utf8_first)], narrowed := true }
def TextEscapeUptoSaid : Prop := textEscapeUptoRow.holds Tryd.pinned (OpenSpec.upto textEscapeSpec)

/-- 'copperplatelaw06.TextHex', WHERE WHAT IT READS IS OF BULK AT MOST 1048576: true; the input reads as it did. -/
def textHexUptoRow : OpenClaim := { program := "ytcebkppagamjiaadoor", sum := "1037bd03ba4e4abab25fcebd09628cc35b379140960c7e37c6e921a89ba0a554", func := "copperplate/copperplatelaw06.TextHex", spec := "textHex", inPlace := ["internal/abi.NoEscape", "internal/bytealg.MakeNoZero", "internal/bytealg.IndexByteString"], unfollowed := true, recurses := true, named := ["unicode/utf8.first", "unicode/utf8.acceptRanges", "unicode.CaseRanges"], apart := false, laid := [("unicode/utf8.acceptRanges", laid_unicode_utf8_acceptRanges), ("unicode.CaseRanges", laid_unicode_CaseRanges), ("unicode/utf8.first", laid_unicode_utf8_first)], narrowed := true }
def TextHexUptoSaid : Prop := textHexUptoRow.holds Tryd.pinned (OpenSpec.upto textHexSpec)

/-- 'copperplatelaw06.TextPlain', WHERE WHAT IT READS IS OF BULK AT MOST 1048576: true; the input reads as it did. -/
def textPlainUptoRow : OpenClaim := { program := "ytcebkppagamjiaadoor", sum := "1037bd03ba4e4abab25fcebd09628cc35b379140960c7e37c6e921a89ba0a554", func := "copperplate/copperplatelaw06.TextPlain", spec := "textPlain", inPlace := ["internal/abi.NoEscape", "internal/bytealg.MakeNoZero", "internal/bytealg.IndexByteString"], unfollowed := true, recurses := true, named := ["unicode/utf8.first", "unicode/utf8.acceptRanges", "unicode.CaseRanges"], apart := false, laid := [("unicode/utf8.acceptRanges", laid_unicode_utf8_acceptRanges), ("unicode.CaseRanges", laid_unicode_CaseRanges), ("unicode/utf8.first", laid_unicode_utf8_first)], narrowed := true }
def TextPlainUptoSaid : Prop := textPlainUptoRow.holds Tryd.pinned (OpenSpec.upto textPlainSpec)

/-- 'copperplatelaw08.QuoteTells', WHERE WHAT IT READS IS OF BULK AT MOST 1048576: true; the input reads as it did. -/
def quoteTellsUptoRow : OpenClaim := { program := "ytcebkppagamjiaadoor", sum := "1037bd03ba4e4abab25fcebd09628cc35b379140960c7e37c6e921a89ba0a554", func := "copperplate/copperplatelaw08.QuoteTells", spec := "quoteTells", inPlace := ["internal/abi.NoEscape", "internal/bytealg.MakeNoZero"], unfollowed := true, recurses := true, named := ["unicode/utf8.first", "unicode/utf8.acceptRanges", "copperplate/quote.escapes"], apart := false, laid := [("unicode/utf8.acceptRanges", laid_unicode_utf8_acceptRanges), ("copperplate/quote.escapes", laid_copperplate_quote_escapes), ("unicode/utf8.first", laid_unicode_utf8_first)], narrowed := true }
def QuoteTellsUptoSaid : Prop := quoteTellsUptoRow.holds Tryd.pinned (OpenSpec.upto quoteTellsSpec)

/-- 'copperplatelaw08.QuoteApart', WHERE WHAT IT READS IS OF BULK AT MOST 1048576: true; the input reads as it did. -/
def quoteApartUptoRow : OpenClaim := { program := "ytcebkppagamjiaadoor", sum := "1037bd03ba4e4abab25fcebd09628cc35b379140960c7e37c6e921a89ba0a554", func := "copperplate/copperplatelaw08.QuoteApart", spec := "quoteApart", inPlace := ["internal/abi.NoEscape", "internal/bytealg.MakeNoZero"], unfollowed := true, recurses := true, named := ["unicode/utf8.first", "unicode/utf8.acceptRanges", "copperplate/quote.escapes"], apart := false, laid := [("unicode/utf8.acceptRanges", laid_unicode_utf8_acceptRanges), ("copperplate/quote.escapes", laid_copperplate_quote_escapes), ("unicode/utf8.first", laid_unicode_utf8_first)], narrowed := true }
def QuoteApartUptoSaid : Prop := quoteApartUptoRow.holds Tryd.pinned (OpenSpec.upto quoteApartSpec)

/-- 'copperplatelaw08.QuotePlain', WHERE WHAT IT READS IS OF BULK AT MOST 1048576: true; the input reads as it did. -/
def quotePlainUptoRow : OpenClaim := { program := "ytcebkppagamjiaadoor", sum := "1037bd03ba4e4abab25fcebd09628cc35b379140960c7e37c6e921a89ba0a554", func := "copperplate/copperplatelaw08.QuotePlain", spec := "quotePlain", inPlace := ["internal/abi.NoEscape", "internal/bytealg.MakeNoZero"], unfollowed := true, recurses := true, named := ["unicode/utf8.first", "unicode/utf8.acceptRanges", "copperplate/quote.escapes"], apart := false, laid := [("unicode/utf8.acceptRanges", laid_unicode_utf8_acceptRanges), ("copperplate/quote.escapes", laid_copperplate_quote_escapes), ("unicode/utf8.first", laid_unicode_utf8_first)], narrowed := true }
def QuotePlainUptoSaid : Prop := quotePlainUptoRow.holds Tryd.pinned (OpenSpec.upto quotePlainSpec)

/-- 'copperplatelaw08.QuoteByte', WHERE WHAT IT READS IS OF BULK AT MOST 1048576: true; the input reads as it did. -/
def quoteByteUptoRow : OpenClaim := { program := "ytcebkppagamjiaadoor", sum := "1037bd03ba4e4abab25fcebd09628cc35b379140960c7e37c6e921a89ba0a554", func := "copperplate/copperplatelaw08.QuoteByte", spec := "quoteByte", inPlace := ["internal/abi.NoEscape", "internal/bytealg.MakeNoZero"], unfollowed := true, recurses := true, named := ["unicode/utf8.first", "unicode/utf8.acceptRanges", "copperplate/quote.escapes"], apart := false, laid := [("unicode/utf8.acceptRanges", laid_unicode_utf8_acceptRanges), ("copperplate/quote.escapes", laid_copperplate_quote_escapes), ("unicode/utf8.first", laid_unicode_utf8_first)], narrowed := true }
def QuoteByteUptoSaid : Prop := quoteByteUptoRow.holds Tryd.pinned (OpenSpec.upto quoteByteSpec)

/-- 'copperplatelaw08.QuoteBack', WHERE WHAT IT READS IS OF BULK AT MOST 1048576: true; the input reads as it did. -/
def quoteBackUptoRow : OpenClaim := { program := "ytcebkppagamjiaadoor", sum := "1037bd03ba4e4abab25fcebd09628cc35b379140960c7e37c6e921a89ba0a554", func := "copperplate/copperplatelaw08.QuoteBack", spec := "quoteBack", inPlace := ["internal/abi.NoEscape", "internal/bytealg.MakeNoZero", "internal/bytealg.IndexByteString"], unfollowed := true, recurses := true, named := ["unicode/utf8.first", "unicode/utf8.acceptRanges", "copperplate/quote.escapes", "unicode.CaseRanges"], apart := false, laid := [("unicode/utf8.acceptRanges", laid_unicode_utf8_acceptRanges), ("copperplate/quote.escapes", laid_copperplate_quote_escapes), ("unicode.CaseRanges", laid_unicode_CaseRanges), ("unicode/utf8.first", laid_unicode_utf8_first)], narrowed := true }
def QuoteBackUptoSaid : Prop := quoteBackUptoRow.holds Tryd.pinned (OpenSpec.upto quoteBackSpec)

/-- 'copperplatelaw08.QuoteText', WHERE WHAT IT READS IS OF BULK AT MOST 1048576: true; the input reads as it did. -/
def quoteTextUptoRow : OpenClaim := { program := "ytcebkppagamjiaadoor", sum := "1037bd03ba4e4abab25fcebd09628cc35b379140960c7e37c6e921a89ba0a554", func := "copperplate/copperplatelaw08.QuoteText", spec := "quoteText", inPlace := ["internal/abi.NoEscape", "internal/bytealg.MakeNoZero", "internal/bytealg.IndexByteString"], unfollowed := true, recurses := true, named := ["unicode/utf8.first", "unicode/utf8.acceptRanges", "copperplate/quote.escapes", "unicode.CaseRanges"], apart := false, laid := [("unicode/utf8.acceptRanges", laid_unicode_utf8_acceptRanges), ("copperplate/quote.escapes", laid_copperplate_quote_escapes), ("unicode.CaseRanges", laid_unicode_CaseRanges), ("unicode/utf8.first", laid_unicode_utf8_first)], narrowed := true }
def QuoteTextUptoSaid : Prop := quoteTextUptoRow.holds Tryd.pinned (OpenSpec.upto quoteTextSpec)

end Rows
end Go.Proofs.YtcebkppagamjiaaDoor
