/-
  DERIVED. GIVEN WITH THE SEED: THE CARDS: each row of YthbphgchnloipaaDoorRows.lean that lists a variable, with what it lists TIED to the program's text (the seventh form; the later family's looks); each row that meets fmt, with fmt's text TOLD by the authors' own Lean function (tested against real Go, not proved from fmt's source: count such statements apart). THE CARD IS WHAT COUNTS. Prove the row's statement (the work); the ties are given (YthbphgchnloipaaDoorTie.lean); close each card by the builder's one call (the guide's Derived/Test/ToyasCard.lean, 'card_holds'). Laid BY PROGRAM, IN A SANDBOX (cutbox-door.mjs). By AI agents, Wed Nov 11 2026. No macro, syntax, notation, axiom, sorry.
-/
import Derived.Test.YthbphgchnloipaaDoorRows
import GoSem.ClaimSeven
namespace Go.Proofs.YthbphgchnloipaaDoor
namespace Rows

/-- THE TIED CARD OF 'copperplatelaw10.KindTells'. -/
def kindTellsCard : Claim7 := { stood := { row := kindTellsRow, standIns := [], harness := (true, "0e4743b7bbc691b7623c19ac99649fa596839f4ea47681c985646381f9200e37"), looks := false }, kinds := [], alts := [], laidByText := true, laidKinds := [.widerDeep], laidTests := true, laidLooks := .later }
def KindTellsCardSaid : Prop := Claim7.holds Tryd.pinned (.plain (OpenSpec.ofChange kindTellsSpec)) kindTellsCard

/-- THE TIED CARD OF 'copperplatelaw10.KindIn'. -/
def kindInCard : Claim7 := { stood := { row := kindInRow, standIns := [], harness := (true, "0e4743b7bbc691b7623c19ac99649fa596839f4ea47681c985646381f9200e37"), looks := false }, kinds := [], alts := [], laidByText := true, laidKinds := [.widerDeep], laidTests := true, laidLooks := .later }
def KindInCardSaid : Prop := Claim7.holds Tryd.pinned (.plain (OpenSpec.ofChange kindInSpec)) kindInCard

/-- THE TIED CARD OF 'copperplatelaw10.KindName'. -/
def kindNameCard : Claim7 := { stood := { row := kindNameRow, standIns := [], harness := (true, "0e4743b7bbc691b7623c19ac99649fa596839f4ea47681c985646381f9200e37"), looks := false }, kinds := [], alts := [], laidByText := true, laidKinds := [.widerDeep], laidTests := true, laidLooks := .later }
def KindNameCardSaid : Prop := Claim7.holds Tryd.pinned (.plain (OpenSpec.ofChange kindNameSpec)) kindNameCard

/-- THE TIED CARD OF 'copperplatelaw10.KindAll'. -/
def kindAllCard : Claim7 := { stood := { row := kindAllRow, standIns := [], harness := (true, "0e4743b7bbc691b7623c19ac99649fa596839f4ea47681c985646381f9200e37"), looks := false }, kinds := [], alts := [], laidByText := true, laidKinds := [.widerDeep], laidTests := true, laidLooks := .later }
def KindAllCardSaid : Prop := Claim7.holds Tryd.pinned (.plain (OpenSpec.ofChange kindAllSpec)) kindAllCard

/-- THE TIED CARD OF 'copperplatelaw10.KindPlace'. -/
def kindPlaceCard : Claim7 := { stood := { row := kindPlaceRow, standIns := [], harness := (true, "0e4743b7bbc691b7623c19ac99649fa596839f4ea47681c985646381f9200e37"), looks := false }, kinds := [], alts := [], laidByText := true, laidKinds := [.widerDeep], laidTests := true, laidLooks := .later }
def KindPlaceCardSaid : Prop := Claim7.holds Tryd.pinned (.plain (OpenSpec.ofChange kindPlaceSpec)) kindPlaceCard

/-- THE SECOND FORM's CARD OF 'copperplatelaw10.KindTells'. -/
def kindTellsUptoCard : Claim7 := { stood := { row := kindTellsUptoRow, standIns := [], harness := (true, "0e4743b7bbc691b7623c19ac99649fa596839f4ea47681c985646381f9200e37"), looks := false }, kinds := [], alts := [], laidByText := true, laidKinds := [.widerDeep], laidTests := true, laidLooks := .later }
def KindTellsUptoCardSaid : Prop := Claim7.holds Tryd.pinned (.plain (OpenSpec.upto kindTellsSpec)) kindTellsUptoCard

/-- THE SECOND FORM's CARD OF 'copperplatelaw10.KindIn'. -/
def kindInUptoCard : Claim7 := { stood := { row := kindInUptoRow, standIns := [], harness := (true, "0e4743b7bbc691b7623c19ac99649fa596839f4ea47681c985646381f9200e37"), looks := false }, kinds := [], alts := [], laidByText := true, laidKinds := [.widerDeep], laidTests := true, laidLooks := .later }
def KindInUptoCardSaid : Prop := Claim7.holds Tryd.pinned (.plain (OpenSpec.upto kindInSpec)) kindInUptoCard

/-- THE SECOND FORM's CARD OF 'copperplatelaw10.KindName'. -/
def kindNameUptoCard : Claim7 := { stood := { row := kindNameUptoRow, standIns := [], harness := (true, "0e4743b7bbc691b7623c19ac99649fa596839f4ea47681c985646381f9200e37"), looks := false }, kinds := [], alts := [], laidByText := true, laidKinds := [.widerDeep], laidTests := true, laidLooks := .later }
def KindNameUptoCardSaid : Prop := Claim7.holds Tryd.pinned (.plain (OpenSpec.upto kindNameSpec)) kindNameUptoCard

/-- THE SECOND FORM's CARD OF 'copperplatelaw10.KindAll'. -/
def kindAllUptoCard : Claim7 := { stood := { row := kindAllUptoRow, standIns := [], harness := (true, "0e4743b7bbc691b7623c19ac99649fa596839f4ea47681c985646381f9200e37"), looks := false }, kinds := [], alts := [], laidByText := true, laidKinds := [.widerDeep], laidTests := true, laidLooks := .later }
def KindAllUptoCardSaid : Prop := Claim7.holds Tryd.pinned (.plain (OpenSpec.upto kindAllSpec)) kindAllUptoCard

/-- THE SECOND FORM's CARD OF 'copperplatelaw10.KindPlace'. -/
def kindPlaceUptoCard : Claim7 := { stood := { row := kindPlaceUptoRow, standIns := [], harness := (true, "0e4743b7bbc691b7623c19ac99649fa596839f4ea47681c985646381f9200e37"), looks := false }, kinds := [], alts := [], laidByText := true, laidKinds := [.widerDeep], laidTests := true, laidLooks := .later }
def KindPlaceUptoCardSaid : Prop := Claim7.holds Tryd.pinned (.plain (OpenSpec.upto kindPlaceSpec)) kindPlaceUptoCard
end Rows
end Go.Proofs.YthbphgchnloipaaDoor
