/-
  NARROWER THAN 'FOR EVERY INPUT', by the rows' own cells (each row's printed sentence says how): LexPlaces: laid · LexJoins: laid · LexText: laid · LexNone: laid · LexFirst: laid · LexNumber: laid · KindText: laid.
  DERIVED. THE GIVEN ROWS OF THIS SEAT. 7 by the template 'for every input the law returns true; each argument reads behind the call as it read before'; 0 by the template 'total and deterministic' (their statements: YtjgpmfjkcioinaaDoorTotals.lean).
  GIVEN WITH THE SEED: the statements are not yours to turn. If you find one false, say at which input.
  Laid BY PROGRAM, IN A SANDBOX (cutbox-rows.mjs): the forced cells as the released guide's own fill.sh prints them over the translation df109fcb0f947a95… (all of the seat's roots in one cut). By AI agents, Wed Nov 11 2026. No macro, syntax, notation, axiom, sorry.
-/
import Derived.Test.YtjgpmfjkcioinaaDoorChecked
import GoSem.PinnedTables
import GoSem.Claim
import GoSem.ClaimJoined
import GoSem.ClaimMapViews
import Derived.JoinedTies
import Derived.KernelRfl
namespace Go.Proofs.YtjgpmfjkcioinaaDoor
/- THE CELL 'sum', in the pinned program and in every row, IS THE sha256 OF THE DUMP (.gsa) THAT YtjgpmfjkcioinaaDoorProg.lean LOADS. Nothing in Lean hashes anything: it is a label: what it is worth is what the hold of that sum in a sandbox is worth. -/
noncomputable def Tryd.pinned : Pinned := { name := "ytjgpmfjkcioinaadoor", sum := "df109fcb0f947a958ae148c7931f32ee248ac86718b253808947bd58619845ac", checked := Tryd.checked }
namespace Rows
def none {H : Type} : Left H := { results := [], args := [] }

/- WHAT THE LISTED PACKAGE-LEVEL VARIABLES READ AS WHEN THE CALL BEGINS. Each datum BY PROGRAM (the guide's laid-datum.mjs) off the statement by which the dump's own 'gosem.cut.vars' lays the variable. In a bare row this is a premise. The card (YtjgpmfjkcioinaaDoorCards.lean) ties it to the program's text. -/
def laid_unicode_utf8_acceptRanges {H : Type} : DataW H := .agg [.agg [.lit (.int .u8 128), .lit (.int .u8 191)], .agg [.lit (.int .u8 160), .lit (.int .u8 191)], .agg [.lit (.int .u8 128), .lit (.int .u8 159)], .agg [.lit (.int .u8 144), .lit (.int .u8 191)], .agg [.lit (.int .u8 128), .lit (.int .u8 143)], .agg [.lit (.int .u8 0), .lit (.int .u8 0)], .agg [.lit (.int .u8 0), .lit (.int .u8 0)], .agg [.lit (.int .u8 0), .lit (.int .u8 0)], .agg [.lit (.int .u8 0), .lit (.int .u8 0)], .agg [.lit (.int .u8 0), .lit (.int .u8 0)], .agg [.lit (.int .u8 0), .lit (.int .u8 0)], .agg [.lit (.int .u8 0), .lit (.int .u8 0)], .agg [.lit (.int .u8 0), .lit (.int .u8 0)], .agg [.lit (.int .u8 0), .lit (.int .u8 0)], .agg [.lit (.int .u8 0), .lit (.int .u8 0)], .agg [.lit (.int .u8 0), .lit (.int .u8 0)]]
/-- One of Go's own tables, pinned by name: the form's constant. -/
def laid_unicode_CaseRanges : DataW Unit := Go.Pinned.caseRanges
/-- One of Go's own tables, pinned by name: the form's constant. -/
def laid_unicode_utf8_first : DataW Unit := Go.Pinned.utf8First
def laid_copperplate_quote_escapes {H : Type} : DataW H := .agg [.agg [.lit (.string [34]), .lit (.string [92, 34])], .agg [.lit (.string [92]), .lit (.string [92, 92])], .agg [.lit (.string [8]), .lit (.string [92, 98])], .agg [.lit (.string [12]), .lit (.string [92, 102])], .agg [.lit (.string [10]), .lit (.string [92, 110])], .agg [.lit (.string [13]), .lit (.string [92, 114])], .agg [.lit (.string [9]), .lit (.string [92, 116])]]
def laid_copperplate_kind_texts {H : Type} : DataW H := .agg [.lit (.string []), .lit (.string [33]), .lit (.string [36]), .lit (.string [38]), .lit (.string [40]), .lit (.string [41]), .lit (.string [46, 46, 46]), .lit (.string [58]), .lit (.string [61]), .lit (.string [64]), .lit (.string [91]), .lit (.string [93]), .lit (.string [123]), .lit (.string [124]), .lit (.string [125]), .lit (.string []), .lit (.string []), .lit (.string []), .lit (.string []), .lit (.string [113, 117, 101, 114, 121]), .lit (.string [109, 117, 116, 97, 116, 105, 111, 110]), .lit (.string [115, 117, 98, 115, 99, 114, 105, 112, 116, 105, 111, 110]), .lit (.string [102, 114, 97, 103, 109, 101, 110, 116]), .lit (.string [111, 110]), .lit (.string [116, 121, 112, 101]), .lit (.string [105, 110, 116, 101, 114, 102, 97, 99, 101]), .lit (.string [101, 110, 117, 109]), .lit (.string [117, 110, 105, 111, 110]), .lit (.string [105, 110, 112, 117, 116]), .lit (.string [115, 99, 97, 108, 97, 114]), .lit (.string [105, 109, 112, 108, 101, 109, 101, 110, 116, 115])]

/-- 'copperplatelaw09.LexPlaces': WHATEVER THE INPUT: true; the input reads as it did. -/
def lexPlacesSpec : ChangeSpec := { name := "lexPlaces", fn := fun _ => fun
  | [d1, d2] => { results := [.lit (.bool true)], args := [d1, d2] }
  | _ => none }
def lexPlacesRow : OpenClaim := { program := "ytjgpmfjkcioinaadoor", sum := "df109fcb0f947a958ae148c7931f32ee248ac86718b253808947bd58619845ac", func := "copperplate/copperplatelaw09.LexPlaces", spec := "lexPlaces", inPlace := ["internal/bytealg.IndexByteString", "internal/bytealg.IndexString", "internal/abi.NoEscape", "internal/bytealg.MakeNoZero"], unfollowed := true, recurses := true, named := ["unicode/utf8.first", "unicode/utf8.acceptRanges", "unicode.CaseRanges", "internal/bytealg.MaxLen"], apart := false, laid := [("unicode/utf8.acceptRanges", laid_unicode_utf8_acceptRanges), ("unicode.CaseRanges", laid_unicode_CaseRanges), ("unicode/utf8.first", laid_unicode_utf8_first)] }
def LexPlacesSaid : Prop := lexPlacesRow.holds Tryd.pinned (OpenSpec.ofChange lexPlacesSpec)

/-- ITS FALSE NEIGHBOUR: 'it returns false'. Refute it at one input. -/
def lexPlacesWrong : ChangeSpec := { name := "lexPlaces", fn := fun _ => fun
  | [d1, d2] => { results := [.lit (.bool false)], args := [d1, d2] }
  | _ => none }
def LexPlacesWrongFalsely : Prop := lexPlacesRow.holds Tryd.pinned (OpenSpec.ofChange lexPlacesWrong)

/-- 'copperplatelaw09.LexJoins': WHATEVER THE INPUT: true; the input reads as it did. -/
def lexJoinsSpec : ChangeSpec := { name := "lexJoins", fn := fun _ => fun
  | [d1, d2] => { results := [.lit (.bool true)], args := [d1, d2] }
  | _ => none }
def lexJoinsRow : OpenClaim := { program := "ytjgpmfjkcioinaadoor", sum := "df109fcb0f947a958ae148c7931f32ee248ac86718b253808947bd58619845ac", func := "copperplate/copperplatelaw09.LexJoins", spec := "lexJoins", inPlace := ["internal/bytealg.IndexByteString", "internal/bytealg.IndexString", "internal/abi.NoEscape", "internal/bytealg.MakeNoZero"], unfollowed := true, recurses := true, named := ["unicode/utf8.first", "unicode/utf8.acceptRanges", "unicode.CaseRanges", "internal/bytealg.MaxLen"], apart := false, laid := [("unicode/utf8.acceptRanges", laid_unicode_utf8_acceptRanges), ("unicode.CaseRanges", laid_unicode_CaseRanges), ("unicode/utf8.first", laid_unicode_utf8_first)] }
def LexJoinsSaid : Prop := lexJoinsRow.holds Tryd.pinned (OpenSpec.ofChange lexJoinsSpec)

/-- ITS FALSE NEIGHBOUR: 'it returns false'. Refute it at one input. -/
def lexJoinsWrong : ChangeSpec := { name := "lexJoins", fn := fun _ => fun
  | [d1, d2] => { results := [.lit (.bool false)], args := [d1, d2] }
  | _ => none }
def LexJoinsWrongFalsely : Prop := lexJoinsRow.holds Tryd.pinned (OpenSpec.ofChange lexJoinsWrong)

/-- 'copperplatelaw09.LexText': WHATEVER THE INPUT: true; the input reads as it did. -/
def lexTextSpec : ChangeSpec := { name := "lexText", fn := fun _ => fun
  | [d1, d2] => { results := [.lit (.bool true)], args := [d1, d2] }
  | _ => none }
def lexTextRow : OpenClaim := { program := "ytjgpmfjkcioinaadoor", sum := "df109fcb0f947a958ae148c7931f32ee248ac86718b253808947bd58619845ac", func := "copperplate/copperplatelaw09.LexText", spec := "lexText", inPlace := ["internal/bytealg.IndexByteString", "internal/bytealg.IndexString", "internal/abi.NoEscape", "internal/bytealg.MakeNoZero"], unfollowed := true, recurses := true, named := ["unicode/utf8.first", "unicode/utf8.acceptRanges", "unicode.CaseRanges", "copperplate/quote.escapes", "internal/bytealg.MaxLen"], apart := false, laid := [("unicode/utf8.acceptRanges", laid_unicode_utf8_acceptRanges), ("copperplate/quote.escapes", laid_copperplate_quote_escapes), ("unicode.CaseRanges", laid_unicode_CaseRanges), ("unicode/utf8.first", laid_unicode_utf8_first)] }
def LexTextSaid : Prop := lexTextRow.holds Tryd.pinned (OpenSpec.ofChange lexTextSpec)

/-- ITS FALSE NEIGHBOUR: 'it returns false'. Refute it at one input. -/
def lexTextWrong : ChangeSpec := { name := "lexText", fn := fun _ => fun
  | [d1, d2] => { results := [.lit (.bool false)], args := [d1, d2] }
  | _ => none }
def LexTextWrongFalsely : Prop := lexTextRow.holds Tryd.pinned (OpenSpec.ofChange lexTextWrong)

/-- 'copperplatelaw09.LexNone': WHATEVER THE INPUT: true; the input reads as it did. -/
def lexNoneSpec : ChangeSpec := { name := "lexNone", fn := fun _ => fun
  | [d] => { results := [.lit (.bool true)], args := [d] }
  | _ => none }
def lexNoneRow : OpenClaim := { program := "ytjgpmfjkcioinaadoor", sum := "df109fcb0f947a958ae148c7931f32ee248ac86718b253808947bd58619845ac", func := "copperplate/copperplatelaw09.LexNone", spec := "lexNone", inPlace := ["internal/bytealg.IndexByteString", "internal/bytealg.IndexString", "internal/abi.NoEscape", "internal/bytealg.MakeNoZero"], unfollowed := true, recurses := true, named := ["unicode/utf8.first", "unicode/utf8.acceptRanges", "unicode.CaseRanges", "internal/bytealg.MaxLen"], apart := false, laid := [("unicode/utf8.acceptRanges", laid_unicode_utf8_acceptRanges), ("unicode.CaseRanges", laid_unicode_CaseRanges), ("unicode/utf8.first", laid_unicode_utf8_first)] }
def LexNoneSaid : Prop := lexNoneRow.holds Tryd.pinned (OpenSpec.ofChange lexNoneSpec)

/-- ITS FALSE NEIGHBOUR: 'it returns false'. Refute it at one input. -/
def lexNoneWrong : ChangeSpec := { name := "lexNone", fn := fun _ => fun
  | [d] => { results := [.lit (.bool false)], args := [d] }
  | _ => none }
def LexNoneWrongFalsely : Prop := lexNoneRow.holds Tryd.pinned (OpenSpec.ofChange lexNoneWrong)

/-- 'copperplatelaw09.LexFirst': WHATEVER THE INPUT: true; the input reads as it did. -/
def lexFirstSpec : ChangeSpec := { name := "lexFirst", fn := fun _ => fun
  | [d1, d2] => { results := [.lit (.bool true)], args := [d1, d2] }
  | _ => none }
def lexFirstRow : OpenClaim := { program := "ytjgpmfjkcioinaadoor", sum := "df109fcb0f947a958ae148c7931f32ee248ac86718b253808947bd58619845ac", func := "copperplate/copperplatelaw09.LexFirst", spec := "lexFirst", inPlace := ["internal/bytealg.IndexByteString", "internal/bytealg.IndexString", "internal/abi.NoEscape", "internal/bytealg.MakeNoZero"], unfollowed := true, recurses := true, named := ["unicode/utf8.first", "unicode/utf8.acceptRanges", "unicode.CaseRanges", "internal/bytealg.MaxLen"], apart := false, laid := [("unicode/utf8.acceptRanges", laid_unicode_utf8_acceptRanges), ("unicode.CaseRanges", laid_unicode_CaseRanges), ("unicode/utf8.first", laid_unicode_utf8_first)] }
def LexFirstSaid : Prop := lexFirstRow.holds Tryd.pinned (OpenSpec.ofChange lexFirstSpec)

/-- ITS FALSE NEIGHBOUR: 'it returns false'. Refute it at one input. -/
def lexFirstWrong : ChangeSpec := { name := "lexFirst", fn := fun _ => fun
  | [d1, d2] => { results := [.lit (.bool false)], args := [d1, d2] }
  | _ => none }
def LexFirstWrongFalsely : Prop := lexFirstRow.holds Tryd.pinned (OpenSpec.ofChange lexFirstWrong)

/-- 'copperplatelaw09.LexNumber': WHATEVER THE INPUT: true; the input reads as it did. -/
def lexNumberSpec : ChangeSpec := { name := "lexNumber", fn := fun _ => fun
  | [d] => { results := [.lit (.bool true)], args := [d] }
  | _ => none }
def lexNumberRow : OpenClaim := { program := "ytjgpmfjkcioinaadoor", sum := "df109fcb0f947a958ae148c7931f32ee248ac86718b253808947bd58619845ac", func := "copperplate/copperplatelaw09.LexNumber", spec := "lexNumber", inPlace := ["internal/bytealg.IndexByteString", "internal/bytealg.IndexString", "internal/abi.NoEscape", "internal/bytealg.MakeNoZero"], unfollowed := true, recurses := true, named := ["unicode/utf8.first", "unicode/utf8.acceptRanges", "unicode.CaseRanges", "internal/bytealg.MaxLen"], apart := false, laid := [("unicode/utf8.acceptRanges", laid_unicode_utf8_acceptRanges), ("unicode.CaseRanges", laid_unicode_CaseRanges), ("unicode/utf8.first", laid_unicode_utf8_first)] }
def LexNumberSaid : Prop := lexNumberRow.holds Tryd.pinned (OpenSpec.ofChange lexNumberSpec)

/-- ITS FALSE NEIGHBOUR: 'it returns false'. Refute it at one input. -/
def lexNumberWrong : ChangeSpec := { name := "lexNumber", fn := fun _ => fun
  | [d] => { results := [.lit (.bool false)], args := [d] }
  | _ => none }
def LexNumberWrongFalsely : Prop := lexNumberRow.holds Tryd.pinned (OpenSpec.ofChange lexNumberWrong)

/-- 'copperplatelaw10.KindText': WHATEVER THE INPUT: true; the input reads as it did. -/
def kindTextSpec : ChangeSpec := { name := "kindText", fn := fun _ => fun
  | [d] => { results := [.lit (.bool true)], args := [d] }
  | _ => none }
def kindTextRow : OpenClaim := { program := "ytjgpmfjkcioinaadoor", sum := "df109fcb0f947a958ae148c7931f32ee248ac86718b253808947bd58619845ac", func := "copperplate/copperplatelaw10.KindText", spec := "kindText", inPlace := ["internal/bytealg.IndexByteString", "internal/bytealg.IndexString", "internal/abi.NoEscape", "internal/bytealg.MakeNoZero"], unfollowed := true, recurses := true, named := ["copperplate/kind.texts", "unicode/utf8.first", "unicode/utf8.acceptRanges", "unicode.CaseRanges", "internal/bytealg.MaxLen"], apart := false, laid := [("unicode/utf8.acceptRanges", laid_unicode_utf8_acceptRanges), ("copperplate/kind.texts", laid_copperplate_kind_texts), ("unicode.CaseRanges", laid_unicode_CaseRanges), ("unicode/utf8.first", laid_unicode_utf8_first)] }
def KindTextSaid : Prop := kindTextRow.holds Tryd.pinned (OpenSpec.ofChange kindTextSpec)

/-- ITS FALSE NEIGHBOUR: 'it returns false'. Refute it at one input. -/
def kindTextWrong : ChangeSpec := { name := "kindText", fn := fun _ => fun
  | [d] => { results := [.lit (.bool false)], args := [d] }
  | _ => none }
def KindTextWrongFalsely : Prop := kindTextRow.holds Tryd.pinned (OpenSpec.ofChange kindTextWrong)

/- THE SECOND FORM. 'bulk': how many values and letters a reading holds, each counted each time it is reached (what is shared counts as often as it is met; a slice's spare places count too). A statement '..UptoSaid' is the law's where the arguments, and the package variables that the reading takes, are together of bulk at most 1048576: NARROWER than '..Said'. Prove '..Said' where nothing that the law and all that it calls make is longer than what came in: it says more and counts as full. Else prove '..UptoSaid'. A law counts once. -/
mutual
def uptoBulk {H : Type} : DataW H → Nat
  | .lit (.string bytes) => bytes.length + 1
  | .lit _ => 1
  | .nil => 1
  | .ptr d => uptoBulk d + 1
  | .slice elems spare => uptoBulkAll elems + uptoBulkAll spare + 1
  | .agg parts => uptoBulkAll parts + 1
  | .iface _ d => uptoBulk d + 1
  | .map entries => uptoBulkEntries entries + 1
  | .held _ => 1
def uptoBulkAll {H : Type} : List (DataW H) → Nat
  | [] => 0
  | d :: r => uptoBulk d + uptoBulkAll r
def uptoBulkEntries {H : Type} : List (Lit × DataW H) → Nat
  | [] => 0
  | x :: r => uptoBulkEntry x + uptoBulkEntries r
def uptoBulkEntry {H : Type} : Lit × DataW H → Nat
  | (.string bytes, d) => bytes.length + uptoBulk d + 1
  | (_, d) => uptoBulk d + 1
 end
def uptoSmall : (H : Type) → List (DataW H) → Bool := fun _ ds => decide (uptoBulkAll ds ≤ 1048576)
def OpenSpec.upto (s : _root_.Go.ChangeSpec) : _root_.Go.OpenSpec := { _root_.Go.OpenSpec.ofChange s with cond := some uptoSmall }

/-- 'copperplatelaw09.LexPlaces', WHERE WHAT IT READS IS OF BULK AT MOST 1048576: true; the input reads as it did. -/
def lexPlacesUptoRow : OpenClaim := { program := "ytjgpmfjkcioinaadoor", sum := "df109fcb0f947a958ae148c7931f32ee248ac86718b253808947bd58619845ac", func := "copperplate/copperplatelaw09.LexPlaces", spec := "lexPlaces", inPlace := ["internal/bytealg.IndexByteString", "internal/bytealg.IndexString", "internal/abi.NoEscape", "internal/bytealg.MakeNoZero"], unfollowed := true, recurses := true, named := ["unicode/utf8.first", "unicode/utf8.acceptRanges", "unicode.CaseRanges", "internal/bytealg.MaxLen"], apart := false, laid := [("unicode/utf8.acceptRanges", laid_unicode_utf8_acceptRanges), ("unicode.CaseRanges", laid_unicode_CaseRanges), ("unicode/utf8.first", laid_unicode_utf8_first)], narrowed := true }
def LexPlacesUptoSaid : Prop := lexPlacesUptoRow.holds Tryd.pinned (OpenSpec.upto lexPlacesSpec)

/-- 'copperplatelaw09.LexJoins', WHERE WHAT IT READS IS OF BULK AT MOST 1048576: true; the input reads as it did. -/
def lexJoinsUptoRow : OpenClaim := { program := "ytjgpmfjkcioinaadoor", sum := "df109fcb0f947a958ae148c7931f32ee248ac86718b253808947bd58619845ac", func := "copperplate/copperplatelaw09.LexJoins", spec := "lexJoins", inPlace := ["internal/bytealg.IndexByteString", "internal/bytealg.IndexString", "internal/abi.NoEscape", "internal/bytealg.MakeNoZero"], unfollowed := true, recurses := true, named := ["unicode/utf8.first", "unicode/utf8.acceptRanges", "unicode.CaseRanges", "internal/bytealg.MaxLen"], apart := false, laid := [("unicode/utf8.acceptRanges", laid_unicode_utf8_acceptRanges), ("unicode.CaseRanges", laid_unicode_CaseRanges), ("unicode/utf8.first", laid_unicode_utf8_first)], narrowed := true }
def LexJoinsUptoSaid : Prop := lexJoinsUptoRow.holds Tryd.pinned (OpenSpec.upto lexJoinsSpec)

/-- 'copperplatelaw09.LexText', WHERE WHAT IT READS IS OF BULK AT MOST 1048576: true; the input reads as it did. -/
def lexTextUptoRow : OpenClaim := { program := "ytjgpmfjkcioinaadoor", sum := "df109fcb0f947a958ae148c7931f32ee248ac86718b253808947bd58619845ac", func := "copperplate/copperplatelaw09.LexText", spec := "lexText", inPlace := ["internal/bytealg.IndexByteString", "internal/bytealg.IndexString", "internal/abi.NoEscape", "internal/bytealg.MakeNoZero"], unfollowed := true, recurses := true, named := ["unicode/utf8.first", "unicode/utf8.acceptRanges", "unicode.CaseRanges", "copperplate/quote.escapes", "internal/bytealg.MaxLen"], apart := false, laid := [("unicode/utf8.acceptRanges", laid_unicode_utf8_acceptRanges), ("copperplate/quote.escapes", laid_copperplate_quote_escapes), ("unicode.CaseRanges", laid_unicode_CaseRanges), ("unicode/utf8.first", laid_unicode_utf8_first)], narrowed := true }
def LexTextUptoSaid : Prop := lexTextUptoRow.holds Tryd.pinned (OpenSpec.upto lexTextSpec)

/-- 'copperplatelaw09.LexNone', WHERE WHAT IT READS IS OF BULK AT MOST 1048576: true; the input reads as it did. -/
def lexNoneUptoRow : OpenClaim := { program := "ytjgpmfjkcioinaadoor", sum := "df109fcb0f947a958ae148c7931f32ee248ac86718b253808947bd58619845ac", func := "copperplate/copperplatelaw09.LexNone", spec := "lexNone", inPlace := ["internal/bytealg.IndexByteString", "internal/bytealg.IndexString", "internal/abi.NoEscape", "internal/bytealg.MakeNoZero"], unfollowed := true, recurses := true, named := ["unicode/utf8.first", "unicode/utf8.acceptRanges", "unicode.CaseRanges", "internal/bytealg.MaxLen"], apart := false, laid := [("unicode/utf8.acceptRanges", laid_unicode_utf8_acceptRanges), ("unicode.CaseRanges", laid_unicode_CaseRanges), ("unicode/utf8.first", laid_unicode_utf8_first)], narrowed := true }
def LexNoneUptoSaid : Prop := lexNoneUptoRow.holds Tryd.pinned (OpenSpec.upto lexNoneSpec)

/-- 'copperplatelaw09.LexFirst', WHERE WHAT IT READS IS OF BULK AT MOST 1048576: true; the input reads as it did. -/
def lexFirstUptoRow : OpenClaim := { program := "ytjgpmfjkcioinaadoor", sum := "df109fcb0f947a958ae148c7931f32ee248ac86718b253808947bd58619845ac", func := "copperplate/copperplatelaw09.LexFirst", spec := "lexFirst", inPlace := ["internal/bytealg.IndexByteString", "internal/bytealg.IndexString", "internal/abi.NoEscape", "internal/bytealg.MakeNoZero"], unfollowed := true, recurses := true, named := ["unicode/utf8.first", "unicode/utf8.acceptRanges", "unicode.CaseRanges", "internal/bytealg.MaxLen"], apart := false, laid := [("unicode/utf8.acceptRanges", laid_unicode_utf8_acceptRanges), ("unicode.CaseRanges", laid_unicode_CaseRanges), ("unicode/utf8.first", laid_unicode_utf8_first)], narrowed := true }
def LexFirstUptoSaid : Prop := lexFirstUptoRow.holds Tryd.pinned (OpenSpec.upto lexFirstSpec)

/-- 'copperplatelaw09.LexNumber', WHERE WHAT IT READS IS OF BULK AT MOST 1048576: true; the input reads as it did. -/
def lexNumberUptoRow : OpenClaim := { program := "ytjgpmfjkcioinaadoor", sum := "df109fcb0f947a958ae148c7931f32ee248ac86718b253808947bd58619845ac", func := "copperplate/copperplatelaw09.LexNumber", spec := "lexNumber", inPlace := ["internal/bytealg.IndexByteString", "internal/bytealg.IndexString", "internal/abi.NoEscape", "internal/bytealg.MakeNoZero"], unfollowed := true, recurses := true, named := ["unicode/utf8.first", "unicode/utf8.acceptRanges", "unicode.CaseRanges", "internal/bytealg.MaxLen"], apart := false, laid := [("unicode/utf8.acceptRanges", laid_unicode_utf8_acceptRanges), ("unicode.CaseRanges", laid_unicode_CaseRanges), ("unicode/utf8.first", laid_unicode_utf8_first)], narrowed := true }
def LexNumberUptoSaid : Prop := lexNumberUptoRow.holds Tryd.pinned (OpenSpec.upto lexNumberSpec)

/-- 'copperplatelaw10.KindText', WHERE WHAT IT READS IS OF BULK AT MOST 1048576: true; the input reads as it did. -/
def kindTextUptoRow : OpenClaim := { program := "ytjgpmfjkcioinaadoor", sum := "df109fcb0f947a958ae148c7931f32ee248ac86718b253808947bd58619845ac", func := "copperplate/copperplatelaw10.KindText", spec := "kindText", inPlace := ["internal/bytealg.IndexByteString", "internal/bytealg.IndexString", "internal/abi.NoEscape", "internal/bytealg.MakeNoZero"], unfollowed := true, recurses := true, named := ["copperplate/kind.texts", "unicode/utf8.first", "unicode/utf8.acceptRanges", "unicode.CaseRanges", "internal/bytealg.MaxLen"], apart := false, laid := [("unicode/utf8.acceptRanges", laid_unicode_utf8_acceptRanges), ("copperplate/kind.texts", laid_copperplate_kind_texts), ("unicode.CaseRanges", laid_unicode_CaseRanges), ("unicode/utf8.first", laid_unicode_utf8_first)], narrowed := true }
def KindTextUptoSaid : Prop := kindTextUptoRow.holds Tryd.pinned (OpenSpec.upto kindTextSpec)

end Rows
end Go.Proofs.YtjgpmfjkcioinaaDoor
