/-
  DERIVED. GIVEN WITH THE SEED: THE CARDS: each row of YthcneciafiaphaaDoorRows.lean that lists a variable, with what it lists TIED to the program's text (the seventh form; the later family's looks); each row that meets fmt, with fmt's text TOLD by the authors' own Lean function (tested against real Go, not proved from fmt's source: count such statements apart). THE CARD IS WHAT COUNTS. Prove the row's statement (the work); the ties are given (YthcneciafiaphaaDoorTie.lean); close each card by the builder's one call (the guide's Derived/Test/ToyasCard.lean, 'card_holds'). Laid BY PROGRAM, IN A SANDBOX (cutbox-door.mjs). By AI agents, Wed Nov 11 2026. No macro, syntax, notation, axiom, sorry.
-/
import Derived.Test.YthcneciafiaphaaDoorRows
import GoSem.ClaimSeven
namespace Go.Proofs.YthcneciafiaphaaDoor
namespace Rows

/-- THE TIED CARD OF 'copperplatelaw07.FoldTells'. -/
def foldTellsCard : Claim7 := { stood := { row := foldTellsRow, standIns := [], harness := (true, "d149f99873efada8ec4106a728d1ec051414cedcf9cb0f88f22bb4bae6774339"), looks := false }, kinds := [], alts := [], laidByText := true, laidKinds := [.data, .pinned], laidTests := true, laidLooks := .later }
def FoldTellsCardSaid : Prop := Claim7.holds Tryd.pinned (.plain (OpenSpec.ofChange foldTellsSpec)) foldTellsCard

/-- THE TIED CARD OF 'copperplatelaw07.FoldEnds'. -/
def foldEndsCard : Claim7 := { stood := { row := foldEndsRow, standIns := [], harness := (true, "d149f99873efada8ec4106a728d1ec051414cedcf9cb0f88f22bb4bae6774339"), looks := false }, kinds := [], alts := [], laidByText := true, laidKinds := [.data, .pinned], laidTests := true, laidLooks := .later }
def FoldEndsCardSaid : Prop := Claim7.holds Tryd.pinned (.plain (OpenSpec.ofChange foldEndsSpec)) foldEndsCard

/-- THE TIED CARD OF 'copperplatelaw07.FoldLines'. -/
def foldLinesCard : Claim7 := { stood := { row := foldLinesRow, standIns := [], harness := (true, "d149f99873efada8ec4106a728d1ec051414cedcf9cb0f88f22bb4bae6774339"), looks := false }, kinds := [], alts := [], laidByText := true, laidKinds := [.data, .pinned], laidTests := true, laidLooks := .later }
def FoldLinesCardSaid : Prop := Claim7.holds Tryd.pinned (.plain (OpenSpec.ofChange foldLinesSpec)) foldLinesCard

/-- THE TIED CARD OF 'copperplatelaw07.FoldOnce'. -/
def foldOnceCard : Claim7 := { stood := { row := foldOnceRow, standIns := [], harness := (true, "d149f99873efada8ec4106a728d1ec051414cedcf9cb0f88f22bb4bae6774339"), looks := false }, kinds := [], alts := [], laidByText := true, laidKinds := [.data, .pinned], laidTests := true, laidLooks := .later }
def FoldOnceCardSaid : Prop := Claim7.holds Tryd.pinned (.plain (OpenSpec.ofChange foldOnceSpec)) foldOnceCard

/-- THE TIED CARD OF 'copperplatelaw07.FoldMoves'. -/
def foldMovesCard : Claim7 := { stood := { row := foldMovesRow, standIns := [], harness := (true, "d149f99873efada8ec4106a728d1ec051414cedcf9cb0f88f22bb4bae6774339"), looks := false }, kinds := [], alts := [], laidByText := true, laidKinds := [.data, .pinned], laidTests := true, laidLooks := .later }
def FoldMovesCardSaid : Prop := Claim7.holds Tryd.pinned (.plain (OpenSpec.ofChange foldMovesSpec)) foldMovesCard

/-- THE TIED CARD OF 'copperplatelaw07.FoldBlank'. -/
def foldBlankCard : Claim7 := { stood := { row := foldBlankRow, standIns := [], harness := (true, "d149f99873efada8ec4106a728d1ec051414cedcf9cb0f88f22bb4bae6774339"), looks := false }, kinds := [], alts := [], laidByText := true, laidKinds := [.data, .pinned], laidTests := true, laidLooks := .later }
def FoldBlankCardSaid : Prop := Claim7.holds Tryd.pinned (.plain (OpenSpec.ofChange foldBlankSpec)) foldBlankCard

/-- THE TIED CARD OF 'copperplatelaw07.FoldFirst'. -/
def foldFirstCard : Claim7 := { stood := { row := foldFirstRow, standIns := [], harness := (true, "d149f99873efada8ec4106a728d1ec051414cedcf9cb0f88f22bb4bae6774339"), looks := false }, kinds := [], alts := [], laidByText := true, laidKinds := [.data, .pinned], laidTests := true, laidLooks := .later }
def FoldFirstCardSaid : Prop := Claim7.holds Tryd.pinned (.plain (OpenSpec.ofChange foldFirstSpec)) foldFirstCard

/-- THE SECOND FORM's CARD OF 'copperplatelaw07.FoldTells'. -/
def foldTellsUptoCard : Claim7 := { stood := { row := foldTellsUptoRow, standIns := [], harness := (true, "d149f99873efada8ec4106a728d1ec051414cedcf9cb0f88f22bb4bae6774339"), looks := false }, kinds := [], alts := [], laidByText := true, laidKinds := [.data, .pinned], laidTests := true, laidLooks := .later }
def FoldTellsUptoCardSaid : Prop := Claim7.holds Tryd.pinned (.plain (OpenSpec.upto foldTellsSpec)) foldTellsUptoCard

/-- THE SECOND FORM's CARD OF 'copperplatelaw07.FoldEnds'. -/
def foldEndsUptoCard : Claim7 := { stood := { row := foldEndsUptoRow, standIns := [], harness := (true, "d149f99873efada8ec4106a728d1ec051414cedcf9cb0f88f22bb4bae6774339"), looks := false }, kinds := [], alts := [], laidByText := true, laidKinds := [.data, .pinned], laidTests := true, laidLooks := .later }
def FoldEndsUptoCardSaid : Prop := Claim7.holds Tryd.pinned (.plain (OpenSpec.upto foldEndsSpec)) foldEndsUptoCard

/-- THE SECOND FORM's CARD OF 'copperplatelaw07.FoldLines'. -/
def foldLinesUptoCard : Claim7 := { stood := { row := foldLinesUptoRow, standIns := [], harness := (true, "d149f99873efada8ec4106a728d1ec051414cedcf9cb0f88f22bb4bae6774339"), looks := false }, kinds := [], alts := [], laidByText := true, laidKinds := [.data, .pinned], laidTests := true, laidLooks := .later }
def FoldLinesUptoCardSaid : Prop := Claim7.holds Tryd.pinned (.plain (OpenSpec.upto foldLinesSpec)) foldLinesUptoCard

/-- THE SECOND FORM's CARD OF 'copperplatelaw07.FoldOnce'. -/
def foldOnceUptoCard : Claim7 := { stood := { row := foldOnceUptoRow, standIns := [], harness := (true, "d149f99873efada8ec4106a728d1ec051414cedcf9cb0f88f22bb4bae6774339"), looks := false }, kinds := [], alts := [], laidByText := true, laidKinds := [.data, .pinned], laidTests := true, laidLooks := .later }
def FoldOnceUptoCardSaid : Prop := Claim7.holds Tryd.pinned (.plain (OpenSpec.upto foldOnceSpec)) foldOnceUptoCard

/-- THE SECOND FORM's CARD OF 'copperplatelaw07.FoldMoves'. -/
def foldMovesUptoCard : Claim7 := { stood := { row := foldMovesUptoRow, standIns := [], harness := (true, "d149f99873efada8ec4106a728d1ec051414cedcf9cb0f88f22bb4bae6774339"), looks := false }, kinds := [], alts := [], laidByText := true, laidKinds := [.data, .pinned], laidTests := true, laidLooks := .later }
def FoldMovesUptoCardSaid : Prop := Claim7.holds Tryd.pinned (.plain (OpenSpec.upto foldMovesSpec)) foldMovesUptoCard

/-- THE SECOND FORM's CARD OF 'copperplatelaw07.FoldBlank'. -/
def foldBlankUptoCard : Claim7 := { stood := { row := foldBlankUptoRow, standIns := [], harness := (true, "d149f99873efada8ec4106a728d1ec051414cedcf9cb0f88f22bb4bae6774339"), looks := false }, kinds := [], alts := [], laidByText := true, laidKinds := [.data, .pinned], laidTests := true, laidLooks := .later }
def FoldBlankUptoCardSaid : Prop := Claim7.holds Tryd.pinned (.plain (OpenSpec.upto foldBlankSpec)) foldBlankUptoCard

/-- THE SECOND FORM's CARD OF 'copperplatelaw07.FoldFirst'. -/
def foldFirstUptoCard : Claim7 := { stood := { row := foldFirstUptoRow, standIns := [], harness := (true, "d149f99873efada8ec4106a728d1ec051414cedcf9cb0f88f22bb4bae6774339"), looks := false }, kinds := [], alts := [], laidByText := true, laidKinds := [.data, .pinned], laidTests := true, laidLooks := .later }
def FoldFirstUptoCardSaid : Prop := Claim7.holds Tryd.pinned (.plain (OpenSpec.upto foldFirstSpec)) foldFirstUptoCard
end Rows
end Go.Proofs.YthcneciafiaphaaDoor
