/-
  DERIVED. GIVEN WITH THE SEED: THE CARDS: each row of YtjgpmfjkcioinaaDoorRows.lean that lists a variable, with what it lists TIED to the program's text (the seventh form; the later family's looks); each row that meets fmt, with fmt's text TOLD by the authors' own Lean function (tested against real Go, not proved from fmt's source: count such statements apart). THE CARD IS WHAT COUNTS. Prove the row's statement (the work); the ties are given (YtjgpmfjkcioinaaDoorTie.lean); close each card by the builder's one call (the guide's Derived/Test/ToyasCard.lean, 'card_holds'). Laid BY PROGRAM, IN A SANDBOX (cutbox-door.mjs). By AI agents, Wed Nov 11 2026. No macro, syntax, notation, axiom, sorry.
-/
import Derived.Test.YtjgpmfjkcioinaaDoorRows
import GoSem.ClaimSeven
namespace Go.Proofs.YtjgpmfjkcioinaaDoor
namespace Rows

/-- THE TIED CARD OF 'copperplatelaw09.LexPlaces'. -/
def lexPlacesCard : Claim7 := { stood := { row := lexPlacesRow, standIns := [], harness := (true, "1ed9a914f64689e5d0e1712fcda0c0e836833bc3227fd1d1259572ffa7ff3f77"), looks := true }, kinds := [], alts := [], laidByText := true, laidKinds := [.data, .pinned, .pinned], laidTests := true, laidLooks := .later }
def LexPlacesCardSaid : Prop := Claim7.holds Tryd.pinned (.plain (OpenSpec.ofChange lexPlacesSpec)) lexPlacesCard

/-- THE TIED CARD OF 'copperplatelaw09.LexJoins'. -/
def lexJoinsCard : Claim7 := { stood := { row := lexJoinsRow, standIns := [], harness := (true, "1ed9a914f64689e5d0e1712fcda0c0e836833bc3227fd1d1259572ffa7ff3f77"), looks := true }, kinds := [], alts := [], laidByText := true, laidKinds := [.data, .pinned, .pinned], laidTests := true, laidLooks := .later }
def LexJoinsCardSaid : Prop := Claim7.holds Tryd.pinned (.plain (OpenSpec.ofChange lexJoinsSpec)) lexJoinsCard

/-- THE TIED CARD OF 'copperplatelaw09.LexText'. -/
def lexTextCard : Claim7 := { stood := { row := lexTextRow, standIns := [], harness := (true, "1ed9a914f64689e5d0e1712fcda0c0e836833bc3227fd1d1259572ffa7ff3f77"), looks := true }, kinds := [], alts := [], laidByText := true, laidKinds := [.data, .data, .pinned, .pinned], laidTests := true, laidLooks := .later }
def LexTextCardSaid : Prop := Claim7.holds Tryd.pinned (.plain (OpenSpec.ofChange lexTextSpec)) lexTextCard

/-- THE TIED CARD OF 'copperplatelaw09.LexNone'. -/
def lexNoneCard : Claim7 := { stood := { row := lexNoneRow, standIns := [], harness := (true, "1ed9a914f64689e5d0e1712fcda0c0e836833bc3227fd1d1259572ffa7ff3f77"), looks := true }, kinds := [], alts := [], laidByText := true, laidKinds := [.data, .pinned, .pinned], laidTests := true, laidLooks := .later }
def LexNoneCardSaid : Prop := Claim7.holds Tryd.pinned (.plain (OpenSpec.ofChange lexNoneSpec)) lexNoneCard

/-- THE TIED CARD OF 'copperplatelaw09.LexFirst'. -/
def lexFirstCard : Claim7 := { stood := { row := lexFirstRow, standIns := [], harness := (true, "1ed9a914f64689e5d0e1712fcda0c0e836833bc3227fd1d1259572ffa7ff3f77"), looks := true }, kinds := [], alts := [], laidByText := true, laidKinds := [.data, .pinned, .pinned], laidTests := true, laidLooks := .later }
def LexFirstCardSaid : Prop := Claim7.holds Tryd.pinned (.plain (OpenSpec.ofChange lexFirstSpec)) lexFirstCard

/-- THE TIED CARD OF 'copperplatelaw09.LexNumber'. -/
def lexNumberCard : Claim7 := { stood := { row := lexNumberRow, standIns := [], harness := (true, "1ed9a914f64689e5d0e1712fcda0c0e836833bc3227fd1d1259572ffa7ff3f77"), looks := true }, kinds := [], alts := [], laidByText := true, laidKinds := [.data, .pinned, .pinned], laidTests := true, laidLooks := .later }
def LexNumberCardSaid : Prop := Claim7.holds Tryd.pinned (.plain (OpenSpec.ofChange lexNumberSpec)) lexNumberCard

/-- THE TIED CARD OF 'copperplatelaw10.KindText'. -/
def kindTextCard : Claim7 := { stood := { row := kindTextRow, standIns := [], harness := (true, "1ed9a914f64689e5d0e1712fcda0c0e836833bc3227fd1d1259572ffa7ff3f77"), looks := true }, kinds := [], alts := [], laidByText := true, laidKinds := [.data, .widerDeep, .pinned, .pinned], laidTests := true, laidLooks := .later }
def KindTextCardSaid : Prop := Claim7.holds Tryd.pinned (.plain (OpenSpec.ofChange kindTextSpec)) kindTextCard

/-- THE SECOND FORM's CARD OF 'copperplatelaw09.LexPlaces'. -/
def lexPlacesUptoCard : Claim7 := { stood := { row := lexPlacesUptoRow, standIns := [], harness := (true, "1ed9a914f64689e5d0e1712fcda0c0e836833bc3227fd1d1259572ffa7ff3f77"), looks := true }, kinds := [], alts := [], laidByText := true, laidKinds := [.data, .pinned, .pinned], laidTests := true, laidLooks := .later }
def LexPlacesUptoCardSaid : Prop := Claim7.holds Tryd.pinned (.plain (OpenSpec.upto lexPlacesSpec)) lexPlacesUptoCard

/-- THE SECOND FORM's CARD OF 'copperplatelaw09.LexJoins'. -/
def lexJoinsUptoCard : Claim7 := { stood := { row := lexJoinsUptoRow, standIns := [], harness := (true, "1ed9a914f64689e5d0e1712fcda0c0e836833bc3227fd1d1259572ffa7ff3f77"), looks := true }, kinds := [], alts := [], laidByText := true, laidKinds := [.data, .pinned, .pinned], laidTests := true, laidLooks := .later }
def LexJoinsUptoCardSaid : Prop := Claim7.holds Tryd.pinned (.plain (OpenSpec.upto lexJoinsSpec)) lexJoinsUptoCard

/-- THE SECOND FORM's CARD OF 'copperplatelaw09.LexText'. -/
def lexTextUptoCard : Claim7 := { stood := { row := lexTextUptoRow, standIns := [], harness := (true, "1ed9a914f64689e5d0e1712fcda0c0e836833bc3227fd1d1259572ffa7ff3f77"), looks := true }, kinds := [], alts := [], laidByText := true, laidKinds := [.data, .data, .pinned, .pinned], laidTests := true, laidLooks := .later }
def LexTextUptoCardSaid : Prop := Claim7.holds Tryd.pinned (.plain (OpenSpec.upto lexTextSpec)) lexTextUptoCard

/-- THE SECOND FORM's CARD OF 'copperplatelaw09.LexNone'. -/
def lexNoneUptoCard : Claim7 := { stood := { row := lexNoneUptoRow, standIns := [], harness := (true, "1ed9a914f64689e5d0e1712fcda0c0e836833bc3227fd1d1259572ffa7ff3f77"), looks := true }, kinds := [], alts := [], laidByText := true, laidKinds := [.data, .pinned, .pinned], laidTests := true, laidLooks := .later }
def LexNoneUptoCardSaid : Prop := Claim7.holds Tryd.pinned (.plain (OpenSpec.upto lexNoneSpec)) lexNoneUptoCard

/-- THE SECOND FORM's CARD OF 'copperplatelaw09.LexFirst'. -/
def lexFirstUptoCard : Claim7 := { stood := { row := lexFirstUptoRow, standIns := [], harness := (true, "1ed9a914f64689e5d0e1712fcda0c0e836833bc3227fd1d1259572ffa7ff3f77"), looks := true }, kinds := [], alts := [], laidByText := true, laidKinds := [.data, .pinned, .pinned], laidTests := true, laidLooks := .later }
def LexFirstUptoCardSaid : Prop := Claim7.holds Tryd.pinned (.plain (OpenSpec.upto lexFirstSpec)) lexFirstUptoCard

/-- THE SECOND FORM's CARD OF 'copperplatelaw09.LexNumber'. -/
def lexNumberUptoCard : Claim7 := { stood := { row := lexNumberUptoRow, standIns := [], harness := (true, "1ed9a914f64689e5d0e1712fcda0c0e836833bc3227fd1d1259572ffa7ff3f77"), looks := true }, kinds := [], alts := [], laidByText := true, laidKinds := [.data, .pinned, .pinned], laidTests := true, laidLooks := .later }
def LexNumberUptoCardSaid : Prop := Claim7.holds Tryd.pinned (.plain (OpenSpec.upto lexNumberSpec)) lexNumberUptoCard

/-- THE SECOND FORM's CARD OF 'copperplatelaw10.KindText'. -/
def kindTextUptoCard : Claim7 := { stood := { row := kindTextUptoRow, standIns := [], harness := (true, "1ed9a914f64689e5d0e1712fcda0c0e836833bc3227fd1d1259572ffa7ff3f77"), looks := true }, kinds := [], alts := [], laidByText := true, laidKinds := [.data, .widerDeep, .pinned, .pinned], laidTests := true, laidLooks := .later }
def KindTextUptoCardSaid : Prop := Claim7.holds Tryd.pinned (.plain (OpenSpec.upto kindTextSpec)) kindTextUptoCard
end Rows
end Go.Proofs.YtjgpmfjkcioinaaDoor
