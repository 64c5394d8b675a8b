/-
  DERIVED. GIVEN WITH THE SEED: THE CARDS: each row of YtcebkppagamjiaaDoorRows.lean that lists a variable, with what it lists TIED to the program's text (the seventh form; the later family's looks); each row that meets fmt, with fmt's text TOLD by the authors' own Lean function (tested against real Go, not proved from fmt's source: count such statements apart). THE CARD IS WHAT COUNTS. Prove the row's statement (the work); the ties are given (YtcebkppagamjiaaDoorTie.lean); close each card by the builder's one call (the guide's Derived/Test/ToyasCard.lean, 'card_holds'). Laid BY PROGRAM, IN A SANDBOX (cutbox-door.mjs). By AI agents, Wed Nov 11 2026. No macro, syntax, notation, axiom, sorry.
-/
import Derived.Test.YtcebkppagamjiaaDoorRows
import GoSem.ClaimSeven
namespace Go.Proofs.YtcebkppagamjiaaDoor
namespace Rows

/-- THE TIED CARD OF 'copperplatelaw06.TextTells'. -/
def textTellsCard : Claim7 := { stood := { row := textTellsRow, standIns := [], harness := (true, "f9e3388e586af2da57d6e7834cba13cca993d4b3c4a6db64104591d662bd23df"), looks := true }, kinds := [], alts := [], laidByText := true, laidKinds := [.data, .pinned, .pinned], laidTests := true, laidLooks := .later }
def TextTellsCardSaid : Prop := Claim7.holds Tryd.pinned (.plain (OpenSpec.ofChange textTellsSpec)) textTellsCard

/-- THE TIED CARD OF 'copperplatelaw06.TextEnds'. -/
def textEndsCard : Claim7 := { stood := { row := textEndsRow, standIns := [], harness := (true, "f9e3388e586af2da57d6e7834cba13cca993d4b3c4a6db64104591d662bd23df"), looks := true }, kinds := [], alts := [], laidByText := true, laidKinds := [.data, .pinned, .pinned], laidTests := true, laidLooks := .later }
def TextEndsCardSaid : Prop := Claim7.holds Tryd.pinned (.plain (OpenSpec.ofChange textEndsSpec)) textEndsCard

/-- THE TIED CARD OF 'copperplatelaw06.TextJoins'. -/
def textJoinsCard : Claim7 := { stood := { row := textJoinsRow, standIns := [], harness := (true, "f9e3388e586af2da57d6e7834cba13cca993d4b3c4a6db64104591d662bd23df"), looks := true }, kinds := [], alts := [], laidByText := true, laidKinds := [.data, .pinned, .pinned], laidTests := true, laidLooks := .later }
def TextJoinsCardSaid : Prop := Claim7.holds Tryd.pinned (.plain (OpenSpec.ofChange textJoinsSpec)) textJoinsCard

/-- THE TIED CARD OF 'copperplatelaw06.TextChars'. -/
def textCharsCard : Claim7 := { stood := { row := textCharsRow, standIns := [], harness := (true, "f9e3388e586af2da57d6e7834cba13cca993d4b3c4a6db64104591d662bd23df"), looks := true }, kinds := [], alts := [], laidByText := true, laidKinds := [.data, .pinned, .pinned], laidTests := true, laidLooks := .later }
def TextCharsCardSaid : Prop := Claim7.holds Tryd.pinned (.plain (OpenSpec.ofChange textCharsSpec)) textCharsCard

/-- THE TIED CARD OF 'copperplatelaw06.TextEscape'. -/
def textEscapeCard : Claim7 := { stood := { row := textEscapeRow, standIns := [], harness := (true, "f9e3388e586af2da57d6e7834cba13cca993d4b3c4a6db64104591d662bd23df"), looks := true }, kinds := [], alts := [], laidByText := true, laidKinds := [.data, .pinned, .pinned], laidTests := true, laidLooks := .later }
def TextEscapeCardSaid : Prop := Claim7.holds Tryd.pinned (.plain (OpenSpec.ofChange textEscapeSpec)) textEscapeCard

/-- THE TIED CARD OF 'copperplatelaw06.TextHex'. -/
def textHexCard : Claim7 := { stood := { row := textHexRow, standIns := [], harness := (true, "f9e3388e586af2da57d6e7834cba13cca993d4b3c4a6db64104591d662bd23df"), looks := true }, kinds := [], alts := [], laidByText := true, laidKinds := [.data, .pinned, .pinned], laidTests := true, laidLooks := .later }
def TextHexCardSaid : Prop := Claim7.holds Tryd.pinned (.plain (OpenSpec.ofChange textHexSpec)) textHexCard

/-- THE TIED CARD OF 'copperplatelaw06.TextPlain'. -/
def textPlainCard : Claim7 := { stood := { row := textPlainRow, standIns := [], harness := (true, "f9e3388e586af2da57d6e7834cba13cca993d4b3c4a6db64104591d662bd23df"), looks := true }, kinds := [], alts := [], laidByText := true, laidKinds := [.data, .pinned, .pinned], laidTests := true, laidLooks := .later }
def TextPlainCardSaid : Prop := Claim7.holds Tryd.pinned (.plain (OpenSpec.ofChange textPlainSpec)) textPlainCard

/-- THE TIED CARD OF 'copperplatelaw08.QuoteTells'. -/
def quoteTellsCard : Claim7 := { stood := { row := quoteTellsRow, standIns := [], harness := (true, "f9e3388e586af2da57d6e7834cba13cca993d4b3c4a6db64104591d662bd23df"), looks := true }, kinds := [], alts := [], laidByText := true, laidKinds := [.data, .data, .pinned], laidTests := true, laidLooks := .later }
def QuoteTellsCardSaid : Prop := Claim7.holds Tryd.pinned (.plain (OpenSpec.ofChange quoteTellsSpec)) quoteTellsCard

/-- THE TIED CARD OF 'copperplatelaw08.QuoteApart'. -/
def quoteApartCard : Claim7 := { stood := { row := quoteApartRow, standIns := [], harness := (true, "f9e3388e586af2da57d6e7834cba13cca993d4b3c4a6db64104591d662bd23df"), looks := true }, kinds := [], alts := [], laidByText := true, laidKinds := [.data, .data, .pinned], laidTests := true, laidLooks := .later }
def QuoteApartCardSaid : Prop := Claim7.holds Tryd.pinned (.plain (OpenSpec.ofChange quoteApartSpec)) quoteApartCard

/-- THE TIED CARD OF 'copperplatelaw08.QuotePlain'. -/
def quotePlainCard : Claim7 := { stood := { row := quotePlainRow, standIns := [], harness := (true, "f9e3388e586af2da57d6e7834cba13cca993d4b3c4a6db64104591d662bd23df"), looks := true }, kinds := [], alts := [], laidByText := true, laidKinds := [.data, .data, .pinned], laidTests := true, laidLooks := .later }
def QuotePlainCardSaid : Prop := Claim7.holds Tryd.pinned (.plain (OpenSpec.ofChange quotePlainSpec)) quotePlainCard

/-- THE TIED CARD OF 'copperplatelaw08.QuoteByte'. -/
def quoteByteCard : Claim7 := { stood := { row := quoteByteRow, standIns := [], harness := (true, "f9e3388e586af2da57d6e7834cba13cca993d4b3c4a6db64104591d662bd23df"), looks := true }, kinds := [], alts := [], laidByText := true, laidKinds := [.data, .data, .pinned], laidTests := true, laidLooks := .later }
def QuoteByteCardSaid : Prop := Claim7.holds Tryd.pinned (.plain (OpenSpec.ofChange quoteByteSpec)) quoteByteCard

/-- THE TIED CARD OF 'copperplatelaw08.QuoteBack'. -/
def quoteBackCard : Claim7 := { stood := { row := quoteBackRow, standIns := [], harness := (true, "f9e3388e586af2da57d6e7834cba13cca993d4b3c4a6db64104591d662bd23df"), looks := true }, kinds := [], alts := [], laidByText := true, laidKinds := [.data, .data, .pinned, .pinned], laidTests := true, laidLooks := .later }
def QuoteBackCardSaid : Prop := Claim7.holds Tryd.pinned (.plain (OpenSpec.ofChange quoteBackSpec)) quoteBackCard

/-- THE TIED CARD OF 'copperplatelaw08.QuoteText'. -/
def quoteTextCard : Claim7 := { stood := { row := quoteTextRow, standIns := [], harness := (true, "f9e3388e586af2da57d6e7834cba13cca993d4b3c4a6db64104591d662bd23df"), looks := true }, kinds := [], alts := [], laidByText := true, laidKinds := [.data, .data, .pinned, .pinned], laidTests := true, laidLooks := .later }
def QuoteTextCardSaid : Prop := Claim7.holds Tryd.pinned (.plain (OpenSpec.ofChange quoteTextSpec)) quoteTextCard

/-- THE SECOND FORM's CARD OF 'copperplatelaw06.TextTells'. -/
def textTellsUptoCard : Claim7 := { stood := { row := textTellsUptoRow, standIns := [], harness := (true, "f9e3388e586af2da57d6e7834cba13cca993d4b3c4a6db64104591d662bd23df"), looks := true }, kinds := [], alts := [], laidByText := true, laidKinds := [.data, .pinned, .pinned], laidTests := true, laidLooks := .later }
def TextTellsUptoCardSaid : Prop := Claim7.holds Tryd.pinned (.plain (OpenSpec.upto textTellsSpec)) textTellsUptoCard

/-- THE SECOND FORM's CARD OF 'copperplatelaw06.TextEnds'. -/
def textEndsUptoCard : Claim7 := { stood := { row := textEndsUptoRow, standIns := [], harness := (true, "f9e3388e586af2da57d6e7834cba13cca993d4b3c4a6db64104591d662bd23df"), looks := true }, kinds := [], alts := [], laidByText := true, laidKinds := [.data, .pinned, .pinned], laidTests := true, laidLooks := .later }
def TextEndsUptoCardSaid : Prop := Claim7.holds Tryd.pinned (.plain (OpenSpec.upto textEndsSpec)) textEndsUptoCard

/-- THE SECOND FORM's CARD OF 'copperplatelaw06.TextJoins'. -/
def textJoinsUptoCard : Claim7 := { stood := { row := textJoinsUptoRow, standIns := [], harness := (true, "f9e3388e586af2da57d6e7834cba13cca993d4b3c4a6db64104591d662bd23df"), looks := true }, kinds := [], alts := [], laidByText := true, laidKinds := [.data, .pinned, .pinned], laidTests := true, laidLooks := .later }
def TextJoinsUptoCardSaid : Prop := Claim7.holds Tryd.pinned (.plain (OpenSpec.upto textJoinsSpec)) textJoinsUptoCard

/-- THE SECOND FORM's CARD OF 'copperplatelaw06.TextChars'. -/
def textCharsUptoCard : Claim7 := { stood := { row := textCharsUptoRow, standIns := [], harness := (true, "f9e3388e586af2da57d6e7834cba13cca993d4b3c4a6db64104591d662bd23df"), looks := true }, kinds := [], alts := [], laidByText := true, laidKinds := [.data, .pinned, .pinned], laidTests := true, laidLooks := .later }
def TextCharsUptoCardSaid : Prop := Claim7.holds Tryd.pinned (.plain (OpenSpec.upto textCharsSpec)) textCharsUptoCard

/-- THE SECOND FORM's CARD OF 'copperplatelaw06.TextEscape'. -/
def textEscapeUptoCard : Claim7 := { stood := { row := textEscapeUptoRow, standIns := [], harness := (true, "f9e3388e586af2da57d6e7834cba13cca993d4b3c4a6db64104591d662bd23df"), looks := true }, kinds := [], alts := [], laidByText := true, laidKinds := [.data, .pinned, .pinned], laidTests := true, laidLooks := .later }
def TextEscapeUptoCardSaid : Prop := Claim7.holds Tryd.pinned (.plain (OpenSpec.upto textEscapeSpec)) textEscapeUptoCard

/-- THE SECOND FORM's CARD OF 'copperplatelaw06.TextHex'. -/
def textHexUptoCard : Claim7 := { stood := { row := textHexUptoRow, standIns := [], harness := (true, "f9e3388e586af2da57d6e7834cba13cca993d4b3c4a6db64104591d662bd23df"), looks := true }, kinds := [], alts := [], laidByText := true, laidKinds := [.data, .pinned, .pinned], laidTests := true, laidLooks := .later }
def TextHexUptoCardSaid : Prop := Claim7.holds Tryd.pinned (.plain (OpenSpec.upto textHexSpec)) textHexUptoCard

/-- THE SECOND FORM's CARD OF 'copperplatelaw06.TextPlain'. -/
def textPlainUptoCard : Claim7 := { stood := { row := textPlainUptoRow, standIns := [], harness := (true, "f9e3388e586af2da57d6e7834cba13cca993d4b3c4a6db64104591d662bd23df"), looks := true }, kinds := [], alts := [], laidByText := true, laidKinds := [.data, .pinned, .pinned], laidTests := true, laidLooks := .later }
def TextPlainUptoCardSaid : Prop := Claim7.holds Tryd.pinned (.plain (OpenSpec.upto textPlainSpec)) textPlainUptoCard

/-- THE SECOND FORM's CARD OF 'copperplatelaw08.QuoteTells'. -/
def quoteTellsUptoCard : Claim7 := { stood := { row := quoteTellsUptoRow, standIns := [], harness := (true, "f9e3388e586af2da57d6e7834cba13cca993d4b3c4a6db64104591d662bd23df"), looks := true }, kinds := [], alts := [], laidByText := true, laidKinds := [.data, .data, .pinned], laidTests := true, laidLooks := .later }
def QuoteTellsUptoCardSaid : Prop := Claim7.holds Tryd.pinned (.plain (OpenSpec.upto quoteTellsSpec)) quoteTellsUptoCard

/-- THE SECOND FORM's CARD OF 'copperplatelaw08.QuoteApart'. -/
def quoteApartUptoCard : Claim7 := { stood := { row := quoteApartUptoRow, standIns := [], harness := (true, "f9e3388e586af2da57d6e7834cba13cca993d4b3c4a6db64104591d662bd23df"), looks := true }, kinds := [], alts := [], laidByText := true, laidKinds := [.data, .data, .pinned], laidTests := true, laidLooks := .later }
def QuoteApartUptoCardSaid : Prop := Claim7.holds Tryd.pinned (.plain (OpenSpec.upto quoteApartSpec)) quoteApartUptoCard

/-- THE SECOND FORM's CARD OF 'copperplatelaw08.QuotePlain'. -/
def quotePlainUptoCard : Claim7 := { stood := { row := quotePlainUptoRow, standIns := [], harness := (true, "f9e3388e586af2da57d6e7834cba13cca993d4b3c4a6db64104591d662bd23df"), looks := true }, kinds := [], alts := [], laidByText := true, laidKinds := [.data, .data, .pinned], laidTests := true, laidLooks := .later }
def QuotePlainUptoCardSaid : Prop := Claim7.holds Tryd.pinned (.plain (OpenSpec.upto quotePlainSpec)) quotePlainUptoCard

/-- THE SECOND FORM's CARD OF 'copperplatelaw08.QuoteByte'. -/
def quoteByteUptoCard : Claim7 := { stood := { row := quoteByteUptoRow, standIns := [], harness := (true, "f9e3388e586af2da57d6e7834cba13cca993d4b3c4a6db64104591d662bd23df"), looks := true }, kinds := [], alts := [], laidByText := true, laidKinds := [.data, .data, .pinned], laidTests := true, laidLooks := .later }
def QuoteByteUptoCardSaid : Prop := Claim7.holds Tryd.pinned (.plain (OpenSpec.upto quoteByteSpec)) quoteByteUptoCard

/-- THE SECOND FORM's CARD OF 'copperplatelaw08.QuoteBack'. -/
def quoteBackUptoCard : Claim7 := { stood := { row := quoteBackUptoRow, standIns := [], harness := (true, "f9e3388e586af2da57d6e7834cba13cca993d4b3c4a6db64104591d662bd23df"), looks := true }, kinds := [], alts := [], laidByText := true, laidKinds := [.data, .data, .pinned, .pinned], laidTests := true, laidLooks := .later }
def QuoteBackUptoCardSaid : Prop := Claim7.holds Tryd.pinned (.plain (OpenSpec.upto quoteBackSpec)) quoteBackUptoCard

/-- THE SECOND FORM's CARD OF 'copperplatelaw08.QuoteText'. -/
def quoteTextUptoCard : Claim7 := { stood := { row := quoteTextUptoRow, standIns := [], harness := (true, "f9e3388e586af2da57d6e7834cba13cca993d4b3c4a6db64104591d662bd23df"), looks := true }, kinds := [], alts := [], laidByText := true, laidKinds := [.data, .data, .pinned, .pinned], laidTests := true, laidLooks := .later }
def QuoteTextUptoCardSaid : Prop := Claim7.holds Tryd.pinned (.plain (OpenSpec.upto quoteTextSpec)) quoteTextUptoCard
end Rows
end Go.Proofs.YtcebkppagamjiaaDoor
