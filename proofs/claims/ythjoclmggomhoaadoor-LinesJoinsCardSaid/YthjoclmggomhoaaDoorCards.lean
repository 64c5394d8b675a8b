/-
  DERIVED. GIVEN WITH THE SEED: THE CARDS: each row of YthjoclmggomhoaaDoorRows.lean that lists a variable, with what it lists TIED to the program's text (the seventh form; the later family's looks); each row that meets fmt, with fmt's text TOLD by the authors' own Lean function (tested against real Go, not proved from fmt's source: count such statements apart). THE CARD IS WHAT COUNTS. Prove the row's statement (the work); the ties are given (YthjoclmggomhoaaDoorTie.lean); close each card by the builder's one call (the guide's Derived/Test/ToyasCard.lean, 'card_holds'). Laid BY PROGRAM, IN A SANDBOX (cutbox-door.mjs). By AI agents, Wed Nov 11 2026. No macro, syntax, notation, axiom, sorry.
-/
import Derived.Test.YthjoclmggomhoaaDoorRows
import GoSem.ClaimSeven
namespace Go.Proofs.YthjoclmggomhoaaDoor
namespace Rows

/-- THE TIED CARD OF 'copperplatelaw21.LinesTells'. -/
def linesTellsCard : Claim7 := { stood := { row := linesTellsRow, standIns := [], harness := (true, "8e1c98029fbbc33e260ac7a8f544af3243ad6c37d076c1ca9d98f7235494e3f4"), looks := false }, kinds := [], alts := [], laidByText := true, laidKinds := [.data, .pinned], laidTests := true, laidLooks := .later }
def LinesTellsCardSaid : Prop := Claim7.holds Tryd.pinned (.plain (OpenSpec.ofChange linesTellsSpec)) linesTellsCard

/-- THE TIED CARD OF 'copperplatelaw21.LinesBack'. -/
def linesBackCard : Claim7 := { stood := { row := linesBackRow, standIns := [], harness := (true, "8e1c98029fbbc33e260ac7a8f544af3243ad6c37d076c1ca9d98f7235494e3f4"), looks := false }, kinds := [], alts := [], laidByText := true, laidKinds := [.data, .pinned], laidTests := true, laidLooks := .later }
def LinesBackCardSaid : Prop := Claim7.holds Tryd.pinned (.plain (OpenSpec.ofChange linesBackSpec)) linesBackCard

/-- THE TIED CARD OF 'copperplatelaw21.LinesOver'. -/
def linesOverCard : Claim7 := { stood := { row := linesOverRow, standIns := [], harness := (true, "8e1c98029fbbc33e260ac7a8f544af3243ad6c37d076c1ca9d98f7235494e3f4"), looks := false }, kinds := [], alts := [], laidByText := true, laidKinds := [.data, .pinned], laidTests := true, laidLooks := .later }
def LinesOverCardSaid : Prop := Claim7.holds Tryd.pinned (.plain (OpenSpec.ofChange linesOverSpec)) linesOverCard

/-- THE TIED CARD OF 'copperplatelaw21.LinesJoins'. -/
def linesJoinsCard : Claim7 := { stood := { row := linesJoinsRow, standIns := [], harness := (true, "8e1c98029fbbc33e260ac7a8f544af3243ad6c37d076c1ca9d98f7235494e3f4"), looks := false }, kinds := [], alts := [], laidByText := true, laidKinds := [.data, .pinned], laidTests := true, laidLooks := .later }
def LinesJoinsCardSaid : Prop := Claim7.holds Tryd.pinned (.plain (OpenSpec.ofChange linesJoinsSpec)) linesJoinsCard

/-- THE TIED CARD OF 'copperplatelaw21.LinesOne'. -/
def linesOneCard : Claim7 := { stood := { row := linesOneRow, standIns := [], harness := (true, "8e1c98029fbbc33e260ac7a8f544af3243ad6c37d076c1ca9d98f7235494e3f4"), looks := false }, kinds := [], alts := [], laidByText := true, laidKinds := [.data, .pinned], laidTests := true, laidLooks := .later }
def LinesOneCardSaid : Prop := Claim7.holds Tryd.pinned (.plain (OpenSpec.ofChange linesOneSpec)) linesOneCard

/-- THE TIED CARD OF 'copperplatelaw21.LinesMargin'. -/
def linesMarginCard : Claim7 := { stood := { row := linesMarginRow, standIns := [], harness := (true, "8e1c98029fbbc33e260ac7a8f544af3243ad6c37d076c1ca9d98f7235494e3f4"), looks := false }, kinds := [], alts := [], laidByText := true, laidKinds := [.data, .pinned], laidTests := true, laidLooks := .later }
def LinesMarginCardSaid : Prop := Claim7.holds Tryd.pinned (.plain (OpenSpec.ofChange linesMarginSpec)) linesMarginCard

/-- THE SECOND FORM's CARD OF 'copperplatelaw21.LinesTells'. -/
def linesTellsUptoCard : Claim7 := { stood := { row := linesTellsUptoRow, standIns := [], harness := (true, "8e1c98029fbbc33e260ac7a8f544af3243ad6c37d076c1ca9d98f7235494e3f4"), looks := false }, kinds := [], alts := [], laidByText := true, laidKinds := [.data, .pinned], laidTests := true, laidLooks := .later }
def LinesTellsUptoCardSaid : Prop := Claim7.holds Tryd.pinned (.plain (OpenSpec.upto linesTellsSpec)) linesTellsUptoCard

/-- THE SECOND FORM's CARD OF 'copperplatelaw21.LinesBack'. -/
def linesBackUptoCard : Claim7 := { stood := { row := linesBackUptoRow, standIns := [], harness := (true, "8e1c98029fbbc33e260ac7a8f544af3243ad6c37d076c1ca9d98f7235494e3f4"), looks := false }, kinds := [], alts := [], laidByText := true, laidKinds := [.data, .pinned], laidTests := true, laidLooks := .later }
def LinesBackUptoCardSaid : Prop := Claim7.holds Tryd.pinned (.plain (OpenSpec.upto linesBackSpec)) linesBackUptoCard

/-- THE SECOND FORM's CARD OF 'copperplatelaw21.LinesOver'. -/
def linesOverUptoCard : Claim7 := { stood := { row := linesOverUptoRow, standIns := [], harness := (true, "8e1c98029fbbc33e260ac7a8f544af3243ad6c37d076c1ca9d98f7235494e3f4"), looks := false }, kinds := [], alts := [], laidByText := true, laidKinds := [.data, .pinned], laidTests := true, laidLooks := .later }
def LinesOverUptoCardSaid : Prop := Claim7.holds Tryd.pinned (.plain (OpenSpec.upto linesOverSpec)) linesOverUptoCard

/-- THE SECOND FORM's CARD OF 'copperplatelaw21.LinesJoins'. -/
def linesJoinsUptoCard : Claim7 := { stood := { row := linesJoinsUptoRow, standIns := [], harness := (true, "8e1c98029fbbc33e260ac7a8f544af3243ad6c37d076c1ca9d98f7235494e3f4"), looks := false }, kinds := [], alts := [], laidByText := true, laidKinds := [.data, .pinned], laidTests := true, laidLooks := .later }
def LinesJoinsUptoCardSaid : Prop := Claim7.holds Tryd.pinned (.plain (OpenSpec.upto linesJoinsSpec)) linesJoinsUptoCard

/-- THE SECOND FORM's CARD OF 'copperplatelaw21.LinesOne'. -/
def linesOneUptoCard : Claim7 := { stood := { row := linesOneUptoRow, standIns := [], harness := (true, "8e1c98029fbbc33e260ac7a8f544af3243ad6c37d076c1ca9d98f7235494e3f4"), looks := false }, kinds := [], alts := [], laidByText := true, laidKinds := [.data, .pinned], laidTests := true, laidLooks := .later }
def LinesOneUptoCardSaid : Prop := Claim7.holds Tryd.pinned (.plain (OpenSpec.upto linesOneSpec)) linesOneUptoCard

/-- THE SECOND FORM's CARD OF 'copperplatelaw21.LinesMargin'. -/
def linesMarginUptoCard : Claim7 := { stood := { row := linesMarginUptoRow, standIns := [], harness := (true, "8e1c98029fbbc33e260ac7a8f544af3243ad6c37d076c1ca9d98f7235494e3f4"), looks := false }, kinds := [], alts := [], laidByText := true, laidKinds := [.data, .pinned], laidTests := true, laidLooks := .later }
def LinesMarginUptoCardSaid : Prop := Claim7.holds Tryd.pinned (.plain (OpenSpec.upto linesMarginSpec)) linesMarginUptoCard
end Rows
end Go.Proofs.YthjoclmggomhoaaDoor
