/-
  NARROWER THAN 'FOR EVERY INPUT', by the rows' own cells (each row's printed sentence says how): FoldTells: laid · FoldEnds: laid · FoldLines: laid · FoldOnce: laid · FoldMoves: laid · FoldBlank: laid · FoldFirst: laid.
  DERIVED. THE GIVEN ROWS OF THIS SEAT. 7 by the template 'for every input the law returns true; each argument reads behind the call as it read before'; 0 by the template 'total and deterministic' (their statements: YthcneciafiaphaaDoorTotals.lean).
  GIVEN WITH THE SEED: the statements are not yours to turn. If you find one false, say at which input.
  Laid BY PROGRAM, IN A SANDBOX (cutbox-rows.mjs): the forced cells as the released guide's own fill.sh prints them over the translation 0738a354269f0d52… (all of the seat's roots in one cut). By AI agents, Wed Nov 11 2026. No macro, syntax, notation, axiom, sorry.
-/
import Derived.Test.YthcneciafiaphaaDoorChecked
import GoSem.PinnedTables
import GoSem.Claim
import GoSem.ClaimJoined
import GoSem.ClaimMapViews
import Derived.JoinedTies
import Derived.KernelRfl
namespace Go.Proofs.YthcneciafiaphaaDoor
/- THE CELL 'sum', in the pinned program and in every row, IS THE sha256 OF THE DUMP (.gsa) THAT YthcneciafiaphaaDoorProg.lean LOADS. Nothing in Lean hashes anything: it is a label: what it is worth is what the hold of that sum in a sandbox is worth. -/
noncomputable def Tryd.pinned : Pinned := { name := "ythcneciafiaphaadoor", sum := "0738a354269f0d523558290b425ca2cb09ab0e258ffc94a2406065e83f3b3c5e", checked := Tryd.checked }
namespace Rows
def none {H : Type} : Left H := { results := [], args := [] }

/- WHAT THE LISTED PACKAGE-LEVEL VARIABLES READ AS WHEN THE CALL BEGINS. Each datum BY PROGRAM (the guide's laid-datum.mjs) off the statement by which the dump's own 'gosem.cut.vars' lays the variable. In a bare row this is a premise. The card (YthcneciafiaphaaDoorCards.lean) ties it to the program's text. -/
def laid_unicode_utf8_acceptRanges {H : Type} : DataW H := .agg [.agg [.lit (.int .u8 128), .lit (.int .u8 191)], .agg [.lit (.int .u8 160), .lit (.int .u8 191)], .agg [.lit (.int .u8 128), .lit (.int .u8 159)], .agg [.lit (.int .u8 144), .lit (.int .u8 191)], .agg [.lit (.int .u8 128), .lit (.int .u8 143)], .agg [.lit (.int .u8 0), .lit (.int .u8 0)], .agg [.lit (.int .u8 0), .lit (.int .u8 0)], .agg [.lit (.int .u8 0), .lit (.int .u8 0)], .agg [.lit (.int .u8 0), .lit (.int .u8 0)], .agg [.lit (.int .u8 0), .lit (.int .u8 0)], .agg [.lit (.int .u8 0), .lit (.int .u8 0)], .agg [.lit (.int .u8 0), .lit (.int .u8 0)], .agg [.lit (.int .u8 0), .lit (.int .u8 0)], .agg [.lit (.int .u8 0), .lit (.int .u8 0)], .agg [.lit (.int .u8 0), .lit (.int .u8 0)], .agg [.lit (.int .u8 0), .lit (.int .u8 0)]]
/-- One of Go's own tables, pinned by name: the form's constant. -/
def laid_unicode_utf8_first : DataW Unit := Go.Pinned.utf8First

/-- 'copperplatelaw07.FoldTells': WHATEVER THE INPUT: true; the input reads as it did. -/
def foldTellsSpec : ChangeSpec := { name := "foldTells", fn := fun _ => fun
  | [d1, d2, d3] => { results := [.lit (.bool true)], args := [d1, d2, d3] }
  | _ => none }
def foldTellsRow : OpenClaim := { program := "ythcneciafiaphaadoor", sum := "0738a354269f0d523558290b425ca2cb09ab0e258ffc94a2406065e83f3b3c5e", func := "copperplate/copperplatelaw07.FoldTells", spec := "foldTells", inPlace := ["internal/bytealg.IndexByteString", "internal/bytealg.IndexString", "internal/abi.NoEscape", "internal/bytealg.MakeNoZero"], unfollowed := true, recurses := true, named := ["unicode/utf8.first", "unicode/utf8.acceptRanges", "internal/bytealg.MaxLen"], apart := false, laid := [("unicode/utf8.acceptRanges", laid_unicode_utf8_acceptRanges), ("unicode/utf8.first", laid_unicode_utf8_first)] }
def FoldTellsSaid : Prop := foldTellsRow.holds Tryd.pinned (OpenSpec.ofChange foldTellsSpec)

/-- ITS FALSE NEIGHBOUR: 'it returns false'. Refute it at one input. -/
def foldTellsWrong : ChangeSpec := { name := "foldTells", fn := fun _ => fun
  | [d1, d2, d3] => { results := [.lit (.bool false)], args := [d1, d2, d3] }
  | _ => none }
def FoldTellsWrongFalsely : Prop := foldTellsRow.holds Tryd.pinned (OpenSpec.ofChange foldTellsWrong)

/-- 'copperplatelaw07.FoldEnds': WHATEVER THE INPUT: true; the input reads as it did. -/
def foldEndsSpec : ChangeSpec := { name := "foldEnds", fn := fun _ => fun
  | [d1, d2, d3] => { results := [.lit (.bool true)], args := [d1, d2, d3] }
  | _ => none }
def foldEndsRow : OpenClaim := { program := "ythcneciafiaphaadoor", sum := "0738a354269f0d523558290b425ca2cb09ab0e258ffc94a2406065e83f3b3c5e", func := "copperplate/copperplatelaw07.FoldEnds", spec := "foldEnds", inPlace := ["internal/bytealg.IndexByteString", "internal/bytealg.IndexString", "internal/abi.NoEscape", "internal/bytealg.MakeNoZero"], unfollowed := true, recurses := true, named := ["unicode/utf8.first", "unicode/utf8.acceptRanges", "internal/bytealg.MaxLen"], apart := false, laid := [("unicode/utf8.acceptRanges", laid_unicode_utf8_acceptRanges), ("unicode/utf8.first", laid_unicode_utf8_first)] }
def FoldEndsSaid : Prop := foldEndsRow.holds Tryd.pinned (OpenSpec.ofChange foldEndsSpec)

/-- ITS FALSE NEIGHBOUR: 'it returns false'. Refute it at one input. -/
def foldEndsWrong : ChangeSpec := { name := "foldEnds", fn := fun _ => fun
  | [d1, d2, d3] => { results := [.lit (.bool false)], args := [d1, d2, d3] }
  | _ => none }
def FoldEndsWrongFalsely : Prop := foldEndsRow.holds Tryd.pinned (OpenSpec.ofChange foldEndsWrong)

/-- 'copperplatelaw07.FoldLines': WHATEVER THE INPUT: true; the input reads as it did. -/
def foldLinesSpec : ChangeSpec := { name := "foldLines", fn := fun _ => fun
  | [d1, d2, d3] => { results := [.lit (.bool true)], args := [d1, d2, d3] }
  | _ => none }
def foldLinesRow : OpenClaim := { program := "ythcneciafiaphaadoor", sum := "0738a354269f0d523558290b425ca2cb09ab0e258ffc94a2406065e83f3b3c5e", func := "copperplate/copperplatelaw07.FoldLines", spec := "foldLines", inPlace := ["internal/bytealg.IndexByteString", "internal/bytealg.IndexString", "internal/abi.NoEscape", "internal/bytealg.MakeNoZero"], unfollowed := true, recurses := true, named := ["unicode/utf8.first", "unicode/utf8.acceptRanges", "internal/bytealg.MaxLen"], apart := false, laid := [("unicode/utf8.acceptRanges", laid_unicode_utf8_acceptRanges), ("unicode/utf8.first", laid_unicode_utf8_first)] }
def FoldLinesSaid : Prop := foldLinesRow.holds Tryd.pinned (OpenSpec.ofChange foldLinesSpec)

/-- ITS FALSE NEIGHBOUR: 'it returns false'. Refute it at one input. -/
def foldLinesWrong : ChangeSpec := { name := "foldLines", fn := fun _ => fun
  | [d1, d2, d3] => { results := [.lit (.bool false)], args := [d1, d2, d3] }
  | _ => none }
def FoldLinesWrongFalsely : Prop := foldLinesRow.holds Tryd.pinned (OpenSpec.ofChange foldLinesWrong)

/-- 'copperplatelaw07.FoldOnce': WHATEVER THE INPUT: true; the input reads as it did. -/
def foldOnceSpec : ChangeSpec := { name := "foldOnce", fn := fun _ => fun
  | [d] => { results := [.lit (.bool true)], args := [d] }
  | _ => none }
def foldOnceRow : OpenClaim := { program := "ythcneciafiaphaadoor", sum := "0738a354269f0d523558290b425ca2cb09ab0e258ffc94a2406065e83f3b3c5e", func := "copperplate/copperplatelaw07.FoldOnce", spec := "foldOnce", inPlace := ["internal/bytealg.IndexByteString", "internal/bytealg.IndexString", "internal/abi.NoEscape", "internal/bytealg.MakeNoZero"], unfollowed := true, recurses := true, named := ["unicode/utf8.first", "unicode/utf8.acceptRanges", "internal/bytealg.MaxLen"], apart := false, laid := [("unicode/utf8.acceptRanges", laid_unicode_utf8_acceptRanges), ("unicode/utf8.first", laid_unicode_utf8_first)] }
def FoldOnceSaid : Prop := foldOnceRow.holds Tryd.pinned (OpenSpec.ofChange foldOnceSpec)

/-- ITS FALSE NEIGHBOUR: 'it returns false'. Refute it at one input. -/
def foldOnceWrong : ChangeSpec := { name := "foldOnce", fn := fun _ => fun
  | [d] => { results := [.lit (.bool false)], args := [d] }
  | _ => none }
def FoldOnceWrongFalsely : Prop := foldOnceRow.holds Tryd.pinned (OpenSpec.ofChange foldOnceWrong)

/-- 'copperplatelaw07.FoldMoves': WHATEVER THE INPUT: true; the input reads as it did. -/
def foldMovesSpec : ChangeSpec := { name := "foldMoves", fn := fun _ => fun
  | [d1, d2] => { results := [.lit (.bool true)], args := [d1, d2] }
  | _ => none }
def foldMovesRow : OpenClaim := { program := "ythcneciafiaphaadoor", sum := "0738a354269f0d523558290b425ca2cb09ab0e258ffc94a2406065e83f3b3c5e", func := "copperplate/copperplatelaw07.FoldMoves", spec := "foldMoves", inPlace := ["internal/bytealg.IndexByteString", "internal/bytealg.IndexString", "internal/abi.NoEscape", "internal/bytealg.MakeNoZero"], unfollowed := true, recurses := true, named := ["unicode/utf8.first", "unicode/utf8.acceptRanges", "internal/bytealg.MaxLen"], apart := false, laid := [("unicode/utf8.acceptRanges", laid_unicode_utf8_acceptRanges), ("unicode/utf8.first", laid_unicode_utf8_first)] }
def FoldMovesSaid : Prop := foldMovesRow.holds Tryd.pinned (OpenSpec.ofChange foldMovesSpec)

/-- ITS FALSE NEIGHBOUR: 'it returns false'. Refute it at one input. -/
def foldMovesWrong : ChangeSpec := { name := "foldMoves", fn := fun _ => fun
  | [d1, d2] => { results := [.lit (.bool false)], args := [d1, d2] }
  | _ => none }
def FoldMovesWrongFalsely : Prop := foldMovesRow.holds Tryd.pinned (OpenSpec.ofChange foldMovesWrong)

/-- 'copperplatelaw07.FoldBlank': WHATEVER THE INPUT: true; the input reads as it did. -/
def foldBlankSpec : ChangeSpec := { name := "foldBlank", fn := fun _ => fun
  | [d1, d2] => { results := [.lit (.bool true)], args := [d1, d2] }
  | _ => none }
def foldBlankRow : OpenClaim := { program := "ythcneciafiaphaadoor", sum := "0738a354269f0d523558290b425ca2cb09ab0e258ffc94a2406065e83f3b3c5e", func := "copperplate/copperplatelaw07.FoldBlank", spec := "foldBlank", inPlace := ["internal/bytealg.IndexByteString", "internal/bytealg.IndexString", "internal/abi.NoEscape", "internal/bytealg.MakeNoZero"], unfollowed := true, recurses := true, named := ["unicode/utf8.first", "unicode/utf8.acceptRanges", "internal/bytealg.MaxLen"], apart := false, laid := [("unicode/utf8.acceptRanges", laid_unicode_utf8_acceptRanges), ("unicode/utf8.first", laid_unicode_utf8_first)] }
def FoldBlankSaid : Prop := foldBlankRow.holds Tryd.pinned (OpenSpec.ofChange foldBlankSpec)

/-- ITS FALSE NEIGHBOUR: 'it returns false'. Refute it at one input. -/
def foldBlankWrong : ChangeSpec := { name := "foldBlank", fn := fun _ => fun
  | [d1, d2] => { results := [.lit (.bool false)], args := [d1, d2] }
  | _ => none }
def FoldBlankWrongFalsely : Prop := foldBlankRow.holds Tryd.pinned (OpenSpec.ofChange foldBlankWrong)

/-- 'copperplatelaw07.FoldFirst': WHATEVER THE INPUT: true; the input reads as it did. -/
def foldFirstSpec : ChangeSpec := { name := "foldFirst", fn := fun _ => fun
  | [d] => { results := [.lit (.bool true)], args := [d] }
  | _ => none }
def foldFirstRow : OpenClaim := { program := "ythcneciafiaphaadoor", sum := "0738a354269f0d523558290b425ca2cb09ab0e258ffc94a2406065e83f3b3c5e", func := "copperplate/copperplatelaw07.FoldFirst", spec := "foldFirst", inPlace := ["internal/bytealg.IndexByteString", "internal/bytealg.IndexString", "internal/abi.NoEscape", "internal/bytealg.MakeNoZero"], unfollowed := true, recurses := true, named := ["unicode/utf8.first", "unicode/utf8.acceptRanges", "internal/bytealg.MaxLen"], apart := false, laid := [("unicode/utf8.acceptRanges", laid_unicode_utf8_acceptRanges), ("unicode/utf8.first", laid_unicode_utf8_first)] }
def FoldFirstSaid : Prop := foldFirstRow.holds Tryd.pinned (OpenSpec.ofChange foldFirstSpec)

/-- ITS FALSE NEIGHBOUR: 'it returns false'. Refute it at one input. -/
def foldFirstWrong : ChangeSpec := { name := "foldFirst", fn := fun _ => fun
  | [d] => { results := [.lit (.bool false)], args := [d] }
  | _ => none }
def FoldFirstWrongFalsely : Prop := foldFirstRow.holds Tryd.pinned (OpenSpec.ofChange foldFirstWrong)

/- THE SECOND FORM. 'bulk': how many values and letters a reading holds, each counted each time it is reached (what is shared counts as often as it is met; a slice's spare places count too). A statement '..UptoSaid' is the law's where the arguments, and the package variables that the reading takes, are together of bulk at most 1048576: NARROWER than '..Said'. Prove '..Said' where nothing that the law and all that it calls make is longer than what came in: it says more and counts as full. Else prove '..UptoSaid'. A law counts once. -/
mutual
def uptoBulk {H : Type} : DataW H → Nat
  | .lit (.string bytes) => bytes.length + 1
  | .lit _ => 1
  | .nil => 1
  | .ptr d => uptoBulk d + 1
  | .slice elems spare => uptoBulkAll elems + uptoBulkAll spare + 1
  | .agg parts => uptoBulkAll parts + 1
  | .iface _ d => uptoBulk d + 1
  | .map entries => uptoBulkEntries entries + 1
  | .held _ => 1
def uptoBulkAll {H : Type} : List (DataW H) → Nat
  | [] => 0
  | d :: r => uptoBulk d + uptoBulkAll r
def uptoBulkEntries {H : Type} : List (Lit × DataW H) → Nat
  | [] => 0
  | x :: r => uptoBulkEntry x + uptoBulkEntries r
def uptoBulkEntry {H : Type} : Lit × DataW H → Nat
  | (.string bytes, d) => bytes.length + uptoBulk d + 1
  | (_, d) => uptoBulk d + 1
 end
def uptoSmall : (H : Type) → List (DataW H) → Bool := fun _ ds => decide (uptoBulkAll ds ≤ 1048576)
def OpenSpec.upto (s : _root_.Go.ChangeSpec) : _root_.Go.OpenSpec := { _root_.Go.OpenSpec.ofChange s with cond := some uptoSmall }

/-- 'copperplatelaw07.FoldTells', WHERE WHAT IT READS IS OF BULK AT MOST 1048576: true; the input reads as it did. -/
def foldTellsUptoRow : OpenClaim := { program := "ythcneciafiaphaadoor", sum := "0738a354269f0d523558290b425ca2cb09ab0e258ffc94a2406065e83f3b3c5e", func := "copperplate/copperplatelaw07.FoldTells", spec := "foldTells", inPlace := ["internal/bytealg.IndexByteString", "internal/bytealg.IndexString", "internal/abi.NoEscape", "internal/bytealg.MakeNoZero"], unfollowed := true, recurses := true, named := ["unicode/utf8.first", "unicode/utf8.acceptRanges", "internal/bytealg.MaxLen"], apart := false, laid := [("unicode/utf8.acceptRanges", laid_unicode_utf8_acceptRanges), ("unicode/utf8.first", laid_unicode_utf8_first)], narrowed := true }
def FoldTellsUptoSaid : Prop := foldTellsUptoRow.holds Tryd.pinned (OpenSpec.upto foldTellsSpec)

/-- 'copperplatelaw07.FoldEnds', WHERE WHAT IT READS IS OF BULK AT MOST 1048576: true; the input reads as it did. -/
def foldEndsUptoRow : OpenClaim := { program := "ythcneciafiaphaadoor", sum := "0738a354269f0d523558290b425ca2cb09ab0e258ffc94a2406065e83f3b3c5e", func := "copperplate/copperplatelaw07.FoldEnds", spec := "foldEnds", inPlace := ["internal/bytealg.IndexByteString", "internal/bytealg.IndexString", "internal/abi.NoEscape", "internal/bytealg.MakeNoZero"], unfollowed := true, recurses := true, named := ["unicode/utf8.first", "unicode/utf8.acceptRanges", "internal/bytealg.MaxLen"], apart := false, laid := [("unicode/utf8.acceptRanges", laid_unicode_utf8_acceptRanges), ("unicode/utf8.first", laid_unicode_utf8_first)], narrowed := true }
def FoldEndsUptoSaid : Prop := foldEndsUptoRow.holds Tryd.pinned (OpenSpec.upto foldEndsSpec)

/-- 'copperplatelaw07.FoldLines', WHERE WHAT IT READS IS OF BULK AT MOST 1048576: true; the input reads as it did. -/
def foldLinesUptoRow : OpenClaim := { program := "ythcneciafiaphaadoor", sum := "0738a354269f0d523558290b425ca2cb09ab0e258ffc94a2406065e83f3b3c5e", func := "copperplate/copperplatelaw07.FoldLines", spec := "foldLines", inPlace := ["internal/bytealg.IndexByteString", "internal/bytealg.IndexString", "internal/abi.NoEscape", "internal/bytealg.MakeNoZero"], unfollowed := true, recurses := true, named := ["unicode/utf8.first", "unicode/utf8.acceptRanges", "internal/bytealg.MaxLen"], apart := false, laid := [("unicode/utf8.acceptRanges", laid_unicode_utf8_acceptRanges), ("unicode/utf8.first", laid_unicode_utf8_first)], narrowed := true }
def FoldLinesUptoSaid : Prop := foldLinesUptoRow.holds Tryd.pinned (OpenSpec.upto foldLinesSpec)

/-- 'copperplatelaw07.FoldOnce', WHERE WHAT IT READS IS OF BULK AT MOST 1048576: true; the input reads as it did. -/
def foldOnceUptoRow : OpenClaim := { program := "ythcneciafiaphaadoor", sum := "0738a354269f0d523558290b425ca2cb09ab0e258ffc94a2406065e83f3b3c5e", func := "copperplate/copperplatelaw07.FoldOnce", spec := "foldOnce", inPlace := ["internal/bytealg.IndexByteString", "internal/bytealg.IndexString", "internal/abi.NoEscape", "internal/bytealg.MakeNoZero"], unfollowed := true, recurses := true, named := ["unicode/utf8.first", "unicode/utf8.acceptRanges", "internal/bytealg.MaxLen"], apart := false, laid := [("unicode/utf8.acceptRanges", laid_unicode_utf8_acceptRanges), ("unicode/utf8.first", laid_unicode_utf8_first)], narrowed := true }
def FoldOnceUptoSaid : Prop := foldOnceUptoRow.holds Tryd.pinned (OpenSpec.upto foldOnceSpec)

/-- 'copperplatelaw07.FoldMoves', WHERE WHAT IT READS IS OF BULK AT MOST 1048576: true; the input reads as it did. -/
def foldMovesUptoRow : OpenClaim := { program := "ythcneciafiaphaadoor", sum := "0738a354269f0d523558290b425ca2cb09ab0e258ffc94a2406065e83f3b3c5e", func := "copperplate/copperplatelaw07.FoldMoves", spec := "foldMoves", inPlace := ["internal/bytealg.IndexByteString", "internal/bytealg.IndexString", "internal/abi.NoEscape", "internal/bytealg.MakeNoZero"], unfollowed := true, recurses := true, named := ["unicode/utf8.first", "unicode/utf8.acceptRanges", "internal/bytealg.MaxLen"], apart := false, laid := [("unicode/utf8.acceptRanges", laid_unicode_utf8_acceptRanges), ("unicode/utf8.first", laid_unicode_utf8_first)], narrowed := true }
def FoldMovesUptoSaid : Prop := foldMovesUptoRow.holds Tryd.pinned (OpenSpec.upto foldMovesSpec)

/-- 'copperplatelaw07.FoldBlank', WHERE WHAT IT READS IS OF BULK AT MOST 1048576: true; the input reads as it did. -/
def foldBlankUptoRow : OpenClaim := { program := "ythcneciafiaphaadoor", sum := "0738a354269f0d523558290b425ca2cb09ab0e258ffc94a2406065e83f3b3c5e", func := "copperplate/copperplatelaw07.FoldBlank", spec := "foldBlank", inPlace := ["internal/bytealg.IndexByteString", "internal/bytealg.IndexString", "internal/abi.NoEscape", "internal/bytealg.MakeNoZero"], unfollowed := true, recurses := true, named := ["unicode/utf8.first", "unicode/utf8.acceptRanges", "internal/bytealg.MaxLen"], apart := false, laid := [("unicode/utf8.acceptRanges", laid_unicode_utf8_acceptRanges), ("unicode/utf8.first", laid_unicode_utf8_first)], narrowed := true }
def FoldBlankUptoSaid : Prop := foldBlankUptoRow.holds Tryd.pinned (OpenSpec.upto foldBlankSpec)

/-- 'copperplatelaw07.FoldFirst', WHERE WHAT IT READS IS OF BULK AT MOST 1048576: true; the input reads as it did. -/
def foldFirstUptoRow : OpenClaim := { program := "ythcneciafiaphaadoor", sum := "0738a354269f0d523558290b425ca2cb09ab0e258ffc94a2406065e83f3b3c5e", func := "copperplate/copperplatelaw07.FoldFirst", spec := "foldFirst", inPlace := ["internal/bytealg.IndexByteString", "internal/bytealg.IndexString", "internal/abi.NoEscape", "internal/bytealg.MakeNoZero"], unfollowed := true, recurses := true, named := ["unicode/utf8.first", "unicode/utf8.acceptRanges", "internal/bytealg.MaxLen"], apart := false, laid := [("unicode/utf8.acceptRanges", laid_unicode_utf8_acceptRanges), ("unicode/utf8.first", laid_unicode_utf8_first)], narrowed := true }
def FoldFirstUptoSaid : Prop := foldFirstUptoRow.holds Tryd.pinned (OpenSpec.upto foldFirstSpec)

end Rows
end Go.Proofs.YthcneciafiaphaaDoor
