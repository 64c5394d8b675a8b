/-
  DERIVED. GIVEN WITH THE SEED: THE CARDS: each row of YtchbmihhkjpkaaaDoorRows.lean that lists a variable, with what it lists TIED to the program's text (the seventh form; the later family's looks); each row that meets fmt, with fmt's text TOLD by the authors' own Lean function (tested against real Go, not proved from fmt's source: count such statements apart). THE CARD IS WHAT COUNTS. Prove the row's statement (the work); the ties are given (YtchbmihhkjpkaaaDoorTie.lean); close each card by the builder's one call (the guide's Derived/Test/ToyasCard.lean, 'card_holds'). Laid BY PROGRAM, IN A SANDBOX (cutbox-door.mjs). By AI agents, Wed Nov 11 2026. No macro, syntax, notation, axiom, sorry.
-/
import Derived.Test.YtchbmihhkjpkaaaDoorRows
import GoSem.ClaimSeven
namespace Go.Proofs.YtchbmihhkjpkaaaDoor
namespace Rows

/-- THE TIED CARD OF 'copperplatelaw03.RealTells'. -/
def realTellsCard : Claim7 := { stood := { row := realTellsRow, standIns := [], harness := (true, "be913eb63c9d878c2662be1b55e10975f4dab9dce1c180b536102b72ad719217"), looks := false }, kinds := [], alts := [], laidByText := true, laidKinds := [.data, .pinned], laidTests := true, laidLooks := .later }
def RealTellsCardSaid : Prop := Claim7.holds Tryd.pinned (.plain (OpenSpec.ofChange realTellsSpec)) realTellsCard

/-- THE TIED CARD OF 'copperplatelaw03.RealMinus'. -/
def realMinusCard : Claim7 := { stood := { row := realMinusRow, standIns := [], harness := (true, "be913eb63c9d878c2662be1b55e10975f4dab9dce1c180b536102b72ad719217"), looks := false }, kinds := [], alts := [], laidByText := true, laidKinds := [.data, .pinned], laidTests := true, laidLooks := .later }
def RealMinusCardSaid : Prop := Claim7.holds Tryd.pinned (.plain (OpenSpec.ofChange realMinusSpec)) realMinusCard

/-- THE TIED CARD OF 'copperplatelaw03.RealWhole'. -/
def realWholeCard : Claim7 := { stood := { row := realWholeRow, standIns := [], harness := (true, "be913eb63c9d878c2662be1b55e10975f4dab9dce1c180b536102b72ad719217"), looks := false }, kinds := [], alts := [], laidByText := true, laidKinds := [.data, .pinned], laidTests := true, laidLooks := .later }
def RealWholeCardSaid : Prop := Claim7.holds Tryd.pinned (.plain (OpenSpec.ofChange realWholeSpec)) realWholeCard

/-- THE TIED CARD OF 'copperplatelaw03.RealSorts'. -/
def realSortsCard : Claim7 := { stood := { row := realSortsRow, standIns := [], harness := (true, "be913eb63c9d878c2662be1b55e10975f4dab9dce1c180b536102b72ad719217"), looks := false }, kinds := [], alts := [], laidByText := true, laidKinds := [.data, .pinned], laidTests := true, laidLooks := .later }
def RealSortsCardSaid : Prop := Claim7.holds Tryd.pinned (.plain (OpenSpec.ofChange realSortsSpec)) realSortsCard

/-- THE TIED CARD OF 'copperplatelaw03.RealZeros'. -/
def realZerosCard : Claim7 := { stood := { row := realZerosRow, standIns := [], harness := (true, "be913eb63c9d878c2662be1b55e10975f4dab9dce1c180b536102b72ad719217"), looks := false }, kinds := [], alts := [], laidByText := true, laidKinds := [.data, .pinned], laidTests := true, laidLooks := .later }
def RealZerosCardSaid : Prop := Claim7.holds Tryd.pinned (.plain (OpenSpec.ofChange realZerosSpec)) realZerosCard

/-- THE TIED CARD OF 'copperplatelaw03.RealEdges'. -/
def realEdgesCard : Claim7 := { stood := { row := realEdgesRow, standIns := [], harness := (true, "be913eb63c9d878c2662be1b55e10975f4dab9dce1c180b536102b72ad719217"), looks := false }, kinds := [], alts := [], laidByText := true, laidKinds := [.data, .pinned], laidTests := true, laidLooks := .later }
def RealEdgesCardSaid : Prop := Claim7.holds Tryd.pinned (.plain (OpenSpec.ofChange realEdgesSpec)) realEdgesCard

/-- THE TIED CARD OF 'copperplatelaw05.NumWorth'. -/
def numWorthCard : Claim7 := { stood := { row := numWorthRow, standIns := [], harness := (true, "be913eb63c9d878c2662be1b55e10975f4dab9dce1c180b536102b72ad719217"), looks := false }, kinds := [], alts := [], laidByText := true, laidKinds := [.data, .pinned], laidTests := true, laidLooks := .later }
def NumWorthCardSaid : Prop := Claim7.holds Tryd.pinned (.plain (OpenSpec.ofChange numWorthSpec)) numWorthCard

/-- THE SECOND FORM's CARD OF 'copperplatelaw03.RealTells'. -/
def realTellsUptoCard : Claim7 := { stood := { row := realTellsUptoRow, standIns := [], harness := (true, "be913eb63c9d878c2662be1b55e10975f4dab9dce1c180b536102b72ad719217"), looks := false }, kinds := [], alts := [], laidByText := true, laidKinds := [.data, .pinned], laidTests := true, laidLooks := .later }
def RealTellsUptoCardSaid : Prop := Claim7.holds Tryd.pinned (.plain (OpenSpec.upto realTellsSpec)) realTellsUptoCard

/-- THE SECOND FORM's CARD OF 'copperplatelaw03.RealMinus'. -/
def realMinusUptoCard : Claim7 := { stood := { row := realMinusUptoRow, standIns := [], harness := (true, "be913eb63c9d878c2662be1b55e10975f4dab9dce1c180b536102b72ad719217"), looks := false }, kinds := [], alts := [], laidByText := true, laidKinds := [.data, .pinned], laidTests := true, laidLooks := .later }
def RealMinusUptoCardSaid : Prop := Claim7.holds Tryd.pinned (.plain (OpenSpec.upto realMinusSpec)) realMinusUptoCard

/-- THE SECOND FORM's CARD OF 'copperplatelaw03.RealWhole'. -/
def realWholeUptoCard : Claim7 := { stood := { row := realWholeUptoRow, standIns := [], harness := (true, "be913eb63c9d878c2662be1b55e10975f4dab9dce1c180b536102b72ad719217"), looks := false }, kinds := [], alts := [], laidByText := true, laidKinds := [.data, .pinned], laidTests := true, laidLooks := .later }
def RealWholeUptoCardSaid : Prop := Claim7.holds Tryd.pinned (.plain (OpenSpec.upto realWholeSpec)) realWholeUptoCard

/-- THE SECOND FORM's CARD OF 'copperplatelaw03.RealSorts'. -/
def realSortsUptoCard : Claim7 := { stood := { row := realSortsUptoRow, standIns := [], harness := (true, "be913eb63c9d878c2662be1b55e10975f4dab9dce1c180b536102b72ad719217"), looks := false }, kinds := [], alts := [], laidByText := true, laidKinds := [.data, .pinned], laidTests := true, laidLooks := .later }
def RealSortsUptoCardSaid : Prop := Claim7.holds Tryd.pinned (.plain (OpenSpec.upto realSortsSpec)) realSortsUptoCard

/-- THE SECOND FORM's CARD OF 'copperplatelaw03.RealZeros'. -/
def realZerosUptoCard : Claim7 := { stood := { row := realZerosUptoRow, standIns := [], harness := (true, "be913eb63c9d878c2662be1b55e10975f4dab9dce1c180b536102b72ad719217"), looks := false }, kinds := [], alts := [], laidByText := true, laidKinds := [.data, .pinned], laidTests := true, laidLooks := .later }
def RealZerosUptoCardSaid : Prop := Claim7.holds Tryd.pinned (.plain (OpenSpec.upto realZerosSpec)) realZerosUptoCard

/-- THE SECOND FORM's CARD OF 'copperplatelaw03.RealEdges'. -/
def realEdgesUptoCard : Claim7 := { stood := { row := realEdgesUptoRow, standIns := [], harness := (true, "be913eb63c9d878c2662be1b55e10975f4dab9dce1c180b536102b72ad719217"), looks := false }, kinds := [], alts := [], laidByText := true, laidKinds := [.data, .pinned], laidTests := true, laidLooks := .later }
def RealEdgesUptoCardSaid : Prop := Claim7.holds Tryd.pinned (.plain (OpenSpec.upto realEdgesSpec)) realEdgesUptoCard

/-- THE SECOND FORM's CARD OF 'copperplatelaw05.NumWorth'. -/
def numWorthUptoCard : Claim7 := { stood := { row := numWorthUptoRow, standIns := [], harness := (true, "be913eb63c9d878c2662be1b55e10975f4dab9dce1c180b536102b72ad719217"), looks := false }, kinds := [], alts := [], laidByText := true, laidKinds := [.data, .pinned], laidTests := true, laidLooks := .later }
def NumWorthUptoCardSaid : Prop := Claim7.holds Tryd.pinned (.plain (OpenSpec.upto numWorthSpec)) numWorthUptoCard
end Rows
end Go.Proofs.YtchbmihhkjpkaaaDoor
