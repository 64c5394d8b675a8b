/-
  NARROWER THAN 'FOR EVERY INPUT', by the rows' own cells (each row's printed sentence says how): KindTells: laid · KindIn: laid · KindName: laid · KindAll: laid · KindPlace: laid.
  DERIVED. THE GIVEN ROWS OF THIS SEAT. 5 by the template 'for every input the law returns true; each argument reads behind the call as it read before'; 0 by the template 'total and deterministic' (their statements: YthbphgchnloipaaDoorTotals.lean).
  GIVEN WITH THE SEED: the statements are not yours to turn. If you find one false, say at which input.
  Laid BY PROGRAM, IN A SANDBOX (cutbox-rows.mjs): the forced cells as the released guide's own fill.sh prints them over the translation 8aa384215242c2d9… (all of the seat's roots in one cut). By AI agents, Wed Nov 11 2026. No macro, syntax, notation, axiom, sorry.
-/
import Derived.Test.YthbphgchnloipaaDoorChecked
import GoSem.Claim
import GoSem.ClaimJoined
import GoSem.ClaimMapViews
import Derived.JoinedTies
import Derived.KernelRfl
namespace Go.Proofs.YthbphgchnloipaaDoor
/- THE CELL 'sum', in the pinned program and in every row, IS THE sha256 OF THE DUMP (.gsa) THAT YthbphgchnloipaaDoorProg.lean LOADS. Nothing in Lean hashes anything: it is a label: what it is worth is what the hold of that sum in a sandbox is worth. -/
noncomputable def Tryd.pinned : Pinned := { name := "ythbphgchnloipaadoor", sum := "8aa384215242c2d95ce308f0b6a5c863fa144a76f1410e1fdd7eb0e93b0edf16", checked := Tryd.checked }
namespace Rows
def none {H : Type} : Left H := { results := [], args := [] }

/- WHAT THE LISTED PACKAGE-LEVEL VARIABLES READ AS WHEN THE CALL BEGINS. Each datum BY PROGRAM (the guide's laid-datum.mjs) off the statement by which the dump's own 'gosem.cut.vars' lays the variable. In a bare row this is a premise. The card (YthbphgchnloipaaDoorCards.lean) ties it to the program's text. -/
def laid_copperplate_kind_texts {H : Type} : DataW H := .agg [.lit (.string []), .lit (.string [33]), .lit (.string [36]), .lit (.string [38]), .lit (.string [40]), .lit (.string [41]), .lit (.string [46, 46, 46]), .lit (.string [58]), .lit (.string [61]), .lit (.string [64]), .lit (.string [91]), .lit (.string [93]), .lit (.string [123]), .lit (.string [124]), .lit (.string [125]), .lit (.string []), .lit (.string []), .lit (.string []), .lit (.string []), .lit (.string [113, 117, 101, 114, 121]), .lit (.string [109, 117, 116, 97, 116, 105, 111, 110]), .lit (.string [115, 117, 98, 115, 99, 114, 105, 112, 116, 105, 111, 110]), .lit (.string [102, 114, 97, 103, 109, 101, 110, 116]), .lit (.string [111, 110]), .lit (.string [116, 121, 112, 101]), .lit (.string [105, 110, 116, 101, 114, 102, 97, 99, 101]), .lit (.string [101, 110, 117, 109]), .lit (.string [117, 110, 105, 111, 110]), .lit (.string [105, 110, 112, 117, 116]), .lit (.string [115, 99, 97, 108, 97, 114]), .lit (.string [105, 109, 112, 108, 101, 109, 101, 110, 116, 115])]

/-- 'copperplatelaw10.KindTells': WHATEVER THE INPUT: true; the input reads as it did. -/
def kindTellsSpec : ChangeSpec := { name := "kindTells", fn := fun _ => fun
  | [d1, d2, d3, d4] => { results := [.lit (.bool true)], args := [d1, d2, d3, d4] }
  | _ => none }
def kindTellsRow : OpenClaim := { program := "ythbphgchnloipaadoor", sum := "8aa384215242c2d95ce308f0b6a5c863fa144a76f1410e1fdd7eb0e93b0edf16", func := "copperplate/copperplatelaw10.KindTells", spec := "kindTells", unfollowed := true, recurses := true, named := ["copperplate/kind.texts"], apart := false, laid := [("copperplate/kind.texts", laid_copperplate_kind_texts)] }
def KindTellsSaid : Prop := kindTellsRow.holds Tryd.pinned (OpenSpec.ofChange kindTellsSpec)

/-- ITS FALSE NEIGHBOUR: 'it returns false'. Refute it at one input. -/
def kindTellsWrong : ChangeSpec := { name := "kindTells", fn := fun _ => fun
  | [d1, d2, d3, d4] => { results := [.lit (.bool false)], args := [d1, d2, d3, d4] }
  | _ => none }
def KindTellsWrongFalsely : Prop := kindTellsRow.holds Tryd.pinned (OpenSpec.ofChange kindTellsWrong)

/-- 'copperplatelaw10.KindIn': WHATEVER THE INPUT: true; the input reads as it did. -/
def kindInSpec : ChangeSpec := { name := "kindIn", fn := fun _ => fun
  | [d] => { results := [.lit (.bool true)], args := [d] }
  | _ => none }
def kindInRow : OpenClaim := { program := "ythbphgchnloipaadoor", sum := "8aa384215242c2d95ce308f0b6a5c863fa144a76f1410e1fdd7eb0e93b0edf16", func := "copperplate/copperplatelaw10.KindIn", spec := "kindIn", unfollowed := true, recurses := true, named := ["copperplate/kind.texts"], apart := false, laid := [("copperplate/kind.texts", laid_copperplate_kind_texts)] }
def KindInSaid : Prop := kindInRow.holds Tryd.pinned (OpenSpec.ofChange kindInSpec)

/-- ITS FALSE NEIGHBOUR: 'it returns false'. Refute it at one input. -/
def kindInWrong : ChangeSpec := { name := "kindIn", fn := fun _ => fun
  | [d] => { results := [.lit (.bool false)], args := [d] }
  | _ => none }
def KindInWrongFalsely : Prop := kindInRow.holds Tryd.pinned (OpenSpec.ofChange kindInWrong)

/-- 'copperplatelaw10.KindName': WHATEVER THE INPUT: true; the input reads as it did. -/
def kindNameSpec : ChangeSpec := { name := "kindName", fn := fun _ => fun
  | [d] => { results := [.lit (.bool true)], args := [d] }
  | _ => none }
def kindNameRow : OpenClaim := { program := "ythbphgchnloipaadoor", sum := "8aa384215242c2d95ce308f0b6a5c863fa144a76f1410e1fdd7eb0e93b0edf16", func := "copperplate/copperplatelaw10.KindName", spec := "kindName", unfollowed := true, recurses := true, named := ["copperplate/kind.texts"], apart := false, laid := [("copperplate/kind.texts", laid_copperplate_kind_texts)] }
def KindNameSaid : Prop := kindNameRow.holds Tryd.pinned (OpenSpec.ofChange kindNameSpec)

/-- ITS FALSE NEIGHBOUR: 'it returns false'. Refute it at one input. -/
def kindNameWrong : ChangeSpec := { name := "kindName", fn := fun _ => fun
  | [d] => { results := [.lit (.bool false)], args := [d] }
  | _ => none }
def KindNameWrongFalsely : Prop := kindNameRow.holds Tryd.pinned (OpenSpec.ofChange kindNameWrong)

/-- 'copperplatelaw10.KindAll': WHATEVER THE INPUT: true; the input reads as it did. -/
def kindAllSpec : ChangeSpec := { name := "kindAll", fn := fun _ => fun
  | [d1, d2, d3] => { results := [.lit (.bool true)], args := [d1, d2, d3] }
  | _ => none }
def kindAllRow : OpenClaim := { program := "ythbphgchnloipaadoor", sum := "8aa384215242c2d95ce308f0b6a5c863fa144a76f1410e1fdd7eb0e93b0edf16", func := "copperplate/copperplatelaw10.KindAll", spec := "kindAll", unfollowed := true, recurses := true, named := ["copperplate/kind.texts"], apart := false, laid := [("copperplate/kind.texts", laid_copperplate_kind_texts)] }
def KindAllSaid : Prop := kindAllRow.holds Tryd.pinned (OpenSpec.ofChange kindAllSpec)

/-- ITS FALSE NEIGHBOUR: 'it returns false'. Refute it at one input. -/
def kindAllWrong : ChangeSpec := { name := "kindAll", fn := fun _ => fun
  | [d1, d2, d3] => { results := [.lit (.bool false)], args := [d1, d2, d3] }
  | _ => none }
def KindAllWrongFalsely : Prop := kindAllRow.holds Tryd.pinned (OpenSpec.ofChange kindAllWrong)

/-- 'copperplatelaw10.KindPlace': WHATEVER THE INPUT: true; the input reads as it did. -/
def kindPlaceSpec : ChangeSpec := { name := "kindPlace", fn := fun _ => fun
  | [d1, d2, d3] => { results := [.lit (.bool true)], args := [d1, d2, d3] }
  | _ => none }
def kindPlaceRow : OpenClaim := { program := "ythbphgchnloipaadoor", sum := "8aa384215242c2d95ce308f0b6a5c863fa144a76f1410e1fdd7eb0e93b0edf16", func := "copperplate/copperplatelaw10.KindPlace", spec := "kindPlace", unfollowed := true, recurses := true, named := ["copperplate/kind.texts"], apart := false, laid := [("copperplate/kind.texts", laid_copperplate_kind_texts)] }
def KindPlaceSaid : Prop := kindPlaceRow.holds Tryd.pinned (OpenSpec.ofChange kindPlaceSpec)

/-- ITS FALSE NEIGHBOUR: 'it returns false'. Refute it at one input. -/
def kindPlaceWrong : ChangeSpec := { name := "kindPlace", fn := fun _ => fun
  | [d1, d2, d3] => { results := [.lit (.bool false)], args := [d1, d2, d3] }
  | _ => none }
def KindPlaceWrongFalsely : Prop := kindPlaceRow.holds Tryd.pinned (OpenSpec.ofChange kindPlaceWrong)

/- THE SECOND FORM. 'bulk': how many values and letters a reading holds, each counted each time it is reached (what is shared counts as often as it is met; a slice's spare places count too). A statement '..UptoSaid' is the law's where the arguments, and the package variables that the reading takes, are together of bulk at most 1048576: NARROWER than '..Said'. Prove '..Said' where nothing that the law and all that it calls make is longer than what came in: it says more and counts as full. Else prove '..UptoSaid'. A law counts once. -/
mutual
def uptoBulk {H : Type} : DataW H → Nat
  | .lit (.string bytes) => bytes.length + 1
  | .lit _ => 1
  | .nil => 1
  | .ptr d => uptoBulk d + 1
  | .slice elems spare => uptoBulkAll elems + uptoBulkAll spare + 1
  | .agg parts => uptoBulkAll parts + 1
  | .iface _ d => uptoBulk d + 1
  | .map entries => uptoBulkEntries entries + 1
  | .held _ => 1
def uptoBulkAll {H : Type} : List (DataW H) → Nat
  | [] => 0
  | d :: r => uptoBulk d + uptoBulkAll r
def uptoBulkEntries {H : Type} : List (Lit × DataW H) → Nat
  | [] => 0
  | x :: r => uptoBulkEntry x + uptoBulkEntries r
def uptoBulkEntry {H : Type} : Lit × DataW H → Nat
  | (.string bytes, d) => bytes.length + uptoBulk d + 1
  | (_, d) => uptoBulk d + 1
 end
def uptoSmall : (H : Type) → List (DataW H) → Bool := fun _ ds => decide (uptoBulkAll ds ≤ 1048576)
def OpenSpec.upto (s : _root_.Go.ChangeSpec) : _root_.Go.OpenSpec := { _root_.Go.OpenSpec.ofChange s with cond := some uptoSmall }

/-- 'copperplatelaw10.KindTells', WHERE WHAT IT READS IS OF BULK AT MOST 1048576: true; the input reads as it did. -/
def kindTellsUptoRow : OpenClaim := { program := "ythbphgchnloipaadoor", sum := "8aa384215242c2d95ce308f0b6a5c863fa144a76f1410e1fdd7eb0e93b0edf16", func := "copperplate/copperplatelaw10.KindTells", spec := "kindTells", unfollowed := true, recurses := true, named := ["copperplate/kind.texts"], apart := false, laid := [("copperplate/kind.texts", laid_copperplate_kind_texts)], narrowed := true }
def KindTellsUptoSaid : Prop := kindTellsUptoRow.holds Tryd.pinned (OpenSpec.upto kindTellsSpec)

/-- 'copperplatelaw10.KindIn', WHERE WHAT IT READS IS OF BULK AT MOST 1048576: true; the input reads as it did. -/
def kindInUptoRow : OpenClaim := { program := "ythbphgchnloipaadoor", sum := "8aa384215242c2d95ce308f0b6a5c863fa144a76f1410e1fdd7eb0e93b0edf16", func := "copperplate/copperplatelaw10.KindIn", spec := "kindIn", unfollowed := true, recurses := true, named := ["copperplate/kind.texts"], apart := false, laid := [("copperplate/kind.texts", laid_copperplate_kind_texts)], narrowed := true }
def KindInUptoSaid : Prop := kindInUptoRow.holds Tryd.pinned (OpenSpec.upto kindInSpec)

/-- 'copperplatelaw10.KindName', WHERE WHAT IT READS IS OF BULK AT MOST 1048576: true; the input reads as it did. -/
def kindNameUptoRow : OpenClaim := { program := "ythbphgchnloipaadoor", sum := "8aa384215242c2d95ce308f0b6a5c863fa144a76f1410e1fdd7eb0e93b0edf16", func := "copperplate/copperplatelaw10.KindName", spec := "kindName", unfollowed := true, recurses := true, named := ["copperplate/kind.texts"], apart := false, laid := [("copperplate/kind.texts", laid_copperplate_kind_texts)], narrowed := true }
def KindNameUptoSaid : Prop := kindNameUptoRow.holds Tryd.pinned (OpenSpec.upto kindNameSpec)

/-- 'copperplatelaw10.KindAll', WHERE WHAT IT READS IS OF BULK AT MOST 1048576: true; the input reads as it did. -/
def kindAllUptoRow : OpenClaim := { program := "ythbphgchnloipaadoor", sum := "8aa384215242c2d95ce308f0b6a5c863fa144a76f1410e1fdd7eb0e93b0edf16", func := "copperplate/copperplatelaw10.KindAll", spec := "kindAll", unfollowed := true, recurses := true, named := ["copperplate/kind.texts"], apart := false, laid := [("copperplate/kind.texts", laid_copperplate_kind_texts)], narrowed := true }
def KindAllUptoSaid : Prop := kindAllUptoRow.holds Tryd.pinned (OpenSpec.upto kindAllSpec)

/-- 'copperplatelaw10.KindPlace', WHERE WHAT IT READS IS OF BULK AT MOST 1048576: true; the input reads as it did. -/
def kindPlaceUptoRow : OpenClaim := { program := "ythbphgchnloipaadoor", sum := "8aa384215242c2d95ce308f0b6a5c863fa144a76f1410e1fdd7eb0e93b0edf16", func := "copperplate/copperplatelaw10.KindPlace", spec := "kindPlace", unfollowed := true, recurses := true, named := ["copperplate/kind.texts"], apart := false, laid := [("copperplate/kind.texts", laid_copperplate_kind_texts)], narrowed := true }
def KindPlaceUptoSaid : Prop := kindPlaceUptoRow.holds Tryd.pinned (OpenSpec.upto kindPlaceSpec)

end Rows
end Go.Proofs.YthbphgchnloipaaDoor
