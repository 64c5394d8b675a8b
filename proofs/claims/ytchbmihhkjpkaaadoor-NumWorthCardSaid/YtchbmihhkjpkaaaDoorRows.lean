/-
  NARROWER THAN 'FOR EVERY INPUT', by the rows' own cells (each row's printed sentence says how): RealTells: laid · RealMinus: laid · RealWhole: laid · RealSorts: laid · RealZeros: laid · RealEdges: laid · NumWorth: laid.
  DERIVED. THE GIVEN ROWS OF THIS SEAT. 7 by the template 'for every input the law returns true; each argument reads behind the call as it read before'; 0 by the template 'total and deterministic' (their statements: YtchbmihhkjpkaaaDoorTotals.lean).
  GIVEN WITH THE SEED: the statements are not yours to turn. If you find one false, say at which input.
  Laid BY PROGRAM, IN A SANDBOX (cutbox-rows.mjs): the forced cells as the released guide's own fill.sh prints them over the translation afad78e88ed8900a… (all of the seat's roots in one cut). By AI agents, Wed Nov 11 2026. No macro, syntax, notation, axiom, sorry.
-/
import Derived.Test.YtchbmihhkjpkaaaDoorChecked
import GoSem.PinnedTables
import GoSem.Claim
import GoSem.ClaimJoined
import GoSem.ClaimMapViews
import Derived.JoinedTies
import Derived.KernelRfl
namespace Go.Proofs.YtchbmihhkjpkaaaDoor
/- THE CELL 'sum', in the pinned program and in every row, IS THE sha256 OF THE DUMP (.gsa) THAT YtchbmihhkjpkaaaDoorProg.lean LOADS. Nothing in Lean hashes anything: it is a label: what it is worth is what the hold of that sum in a sandbox is worth. -/
noncomputable def Tryd.pinned : Pinned := { name := "ytchbmihhkjpkaaadoor", sum := "afad78e88ed8900a9df6e789cdd8178574bba562c28013805d1d19edc4d316f1", checked := Tryd.checked }
namespace Rows
def none {H : Type} : Left H := { results := [], args := [] }

/- WHAT THE LISTED PACKAGE-LEVEL VARIABLES READ AS WHEN THE CALL BEGINS. Each datum BY PROGRAM (the guide's laid-datum.mjs) off the statement by which the dump's own 'gosem.cut.vars' lays the variable. In a bare row this is a premise. The card (YtchbmihhkjpkaaaDoorCards.lean) ties it to the program's text. -/
def laid_unicode_utf8_acceptRanges {H : Type} : DataW H := .agg [.agg [.lit (.int .u8 128), .lit (.int .u8 191)], .agg [.lit (.int .u8 160), .lit (.int .u8 191)], .agg [.lit (.int .u8 128), .lit (.int .u8 159)], .agg [.lit (.int .u8 144), .lit (.int .u8 191)], .agg [.lit (.int .u8 128), .lit (.int .u8 143)], .agg [.lit (.int .u8 0), .lit (.int .u8 0)], .agg [.lit (.int .u8 0), .lit (.int .u8 0)], .agg [.lit (.int .u8 0), .lit (.int .u8 0)], .agg [.lit (.int .u8 0), .lit (.int .u8 0)], .agg [.lit (.int .u8 0), .lit (.int .u8 0)], .agg [.lit (.int .u8 0), .lit (.int .u8 0)], .agg [.lit (.int .u8 0), .lit (.int .u8 0)], .agg [.lit (.int .u8 0), .lit (.int .u8 0)], .agg [.lit (.int .u8 0), .lit (.int .u8 0)], .agg [.lit (.int .u8 0), .lit (.int .u8 0)], .agg [.lit (.int .u8 0), .lit (.int .u8 0)]]
/-- One of Go's own tables, pinned by name: the form's constant. -/
def laid_unicode_utf8_first : DataW Unit := Go.Pinned.utf8First

/-- 'copperplatelaw03.RealTells': WHATEVER THE INPUT: true; the input reads as it did. -/
def realTellsSpec : ChangeSpec := { name := "realTells", fn := fun _ => fun
  | [d1, d2, d3] => { results := [.lit (.bool true)], args := [d1, d2, d3] }
  | _ => none }
def realTellsRow : OpenClaim := { program := "ytchbmihhkjpkaaadoor", sum := "afad78e88ed8900a9df6e789cdd8178574bba562c28013805d1d19edc4d316f1", func := "copperplate/copperplatelaw03.RealTells", spec := "realTells", inPlace := ["internal/bytealg.IndexByteString", "math.Float64frombits", "internal/bytealg.IndexString", "math.Float64bits"], unfollowed := true, recurses := true, named := ["unicode/utf8.first", "unicode/utf8.acceptRanges", "internal/bytealg.MaxLen"], apart := false, laid := [("unicode/utf8.acceptRanges", laid_unicode_utf8_acceptRanges), ("unicode/utf8.first", laid_unicode_utf8_first)] }
def RealTellsSaid : Prop := realTellsRow.holds Tryd.pinned (OpenSpec.ofChange realTellsSpec)

/-- ITS FALSE NEIGHBOUR: 'it returns false'. Refute it at one input. -/
def realTellsWrong : ChangeSpec := { name := "realTells", fn := fun _ => fun
  | [d1, d2, d3] => { results := [.lit (.bool false)], args := [d1, d2, d3] }
  | _ => none }
def RealTellsWrongFalsely : Prop := realTellsRow.holds Tryd.pinned (OpenSpec.ofChange realTellsWrong)

/-- 'copperplatelaw03.RealMinus': WHATEVER THE INPUT: true; the input reads as it did. -/
def realMinusSpec : ChangeSpec := { name := "realMinus", fn := fun _ => fun
  | [d] => { results := [.lit (.bool true)], args := [d] }
  | _ => none }
def realMinusRow : OpenClaim := { program := "ytchbmihhkjpkaaadoor", sum := "afad78e88ed8900a9df6e789cdd8178574bba562c28013805d1d19edc4d316f1", func := "copperplate/copperplatelaw03.RealMinus", spec := "realMinus", inPlace := ["internal/bytealg.IndexByteString", "math.Float64frombits", "internal/bytealg.IndexString", "math.Float64bits"], unfollowed := true, recurses := true, named := ["unicode/utf8.first", "unicode/utf8.acceptRanges", "internal/bytealg.MaxLen"], apart := false, laid := [("unicode/utf8.acceptRanges", laid_unicode_utf8_acceptRanges), ("unicode/utf8.first", laid_unicode_utf8_first)] }
def RealMinusSaid : Prop := realMinusRow.holds Tryd.pinned (OpenSpec.ofChange realMinusSpec)

/-- ITS FALSE NEIGHBOUR: 'it returns false'. Refute it at one input. -/
def realMinusWrong : ChangeSpec := { name := "realMinus", fn := fun _ => fun
  | [d] => { results := [.lit (.bool false)], args := [d] }
  | _ => none }
def RealMinusWrongFalsely : Prop := realMinusRow.holds Tryd.pinned (OpenSpec.ofChange realMinusWrong)

/-- 'copperplatelaw03.RealWhole': WHATEVER THE INPUT: true; the input reads as it did. -/
def realWholeSpec : ChangeSpec := { name := "realWhole", fn := fun _ => fun
  | [d1, d2] => { results := [.lit (.bool true)], args := [d1, d2] }
  | _ => none }
def realWholeRow : OpenClaim := { program := "ytchbmihhkjpkaaadoor", sum := "afad78e88ed8900a9df6e789cdd8178574bba562c28013805d1d19edc4d316f1", func := "copperplate/copperplatelaw03.RealWhole", spec := "realWhole", inPlace := ["internal/bytealg.IndexByteString", "math.Float64frombits", "internal/bytealg.IndexString", "math.Float64bits"], unfollowed := true, recurses := true, named := ["unicode/utf8.first", "unicode/utf8.acceptRanges", "internal/bytealg.MaxLen"], apart := false, laid := [("unicode/utf8.acceptRanges", laid_unicode_utf8_acceptRanges), ("unicode/utf8.first", laid_unicode_utf8_first)] }
def RealWholeSaid : Prop := realWholeRow.holds Tryd.pinned (OpenSpec.ofChange realWholeSpec)

/-- ITS FALSE NEIGHBOUR: 'it returns false'. Refute it at one input. -/
def realWholeWrong : ChangeSpec := { name := "realWhole", fn := fun _ => fun
  | [d1, d2] => { results := [.lit (.bool false)], args := [d1, d2] }
  | _ => none }
def RealWholeWrongFalsely : Prop := realWholeRow.holds Tryd.pinned (OpenSpec.ofChange realWholeWrong)

/-- 'copperplatelaw03.RealSorts': WHATEVER THE INPUT: true; the input reads as it did. -/
def realSortsSpec : ChangeSpec := { name := "realSorts", fn := fun _ => fun
  | [d1, d2] => { results := [.lit (.bool true)], args := [d1, d2] }
  | _ => none }
def realSortsRow : OpenClaim := { program := "ytchbmihhkjpkaaadoor", sum := "afad78e88ed8900a9df6e789cdd8178574bba562c28013805d1d19edc4d316f1", func := "copperplate/copperplatelaw03.RealSorts", spec := "realSorts", inPlace := ["internal/bytealg.IndexByteString", "math.Float64frombits", "internal/bytealg.IndexString", "math.Float64bits"], unfollowed := true, recurses := true, named := ["unicode/utf8.first", "unicode/utf8.acceptRanges", "internal/bytealg.MaxLen"], apart := false, laid := [("unicode/utf8.acceptRanges", laid_unicode_utf8_acceptRanges), ("unicode/utf8.first", laid_unicode_utf8_first)] }
def RealSortsSaid : Prop := realSortsRow.holds Tryd.pinned (OpenSpec.ofChange realSortsSpec)

/-- ITS FALSE NEIGHBOUR: 'it returns false'. Refute it at one input. -/
def realSortsWrong : ChangeSpec := { name := "realSorts", fn := fun _ => fun
  | [d1, d2] => { results := [.lit (.bool false)], args := [d1, d2] }
  | _ => none }
def RealSortsWrongFalsely : Prop := realSortsRow.holds Tryd.pinned (OpenSpec.ofChange realSortsWrong)

/-- 'copperplatelaw03.RealZeros': WHATEVER THE INPUT: true; the input reads as it did. -/
def realZerosSpec : ChangeSpec := { name := "realZeros", fn := fun _ => fun
  | [d1, d2, d3, d4] => { results := [.lit (.bool true)], args := [d1, d2, d3, d4] }
  | _ => none }
def realZerosRow : OpenClaim := { program := "ytchbmihhkjpkaaadoor", sum := "afad78e88ed8900a9df6e789cdd8178574bba562c28013805d1d19edc4d316f1", func := "copperplate/copperplatelaw03.RealZeros", spec := "realZeros", inPlace := ["internal/bytealg.IndexByteString", "math.Float64frombits", "internal/bytealg.IndexString", "math.Float64bits"], unfollowed := true, recurses := true, named := ["unicode/utf8.first", "unicode/utf8.acceptRanges", "internal/bytealg.MaxLen"], apart := false, laid := [("unicode/utf8.acceptRanges", laid_unicode_utf8_acceptRanges), ("unicode/utf8.first", laid_unicode_utf8_first)] }
def RealZerosSaid : Prop := realZerosRow.holds Tryd.pinned (OpenSpec.ofChange realZerosSpec)

/-- ITS FALSE NEIGHBOUR: 'it returns false'. Refute it at one input. -/
def realZerosWrong : ChangeSpec := { name := "realZeros", fn := fun _ => fun
  | [d1, d2, d3, d4] => { results := [.lit (.bool false)], args := [d1, d2, d3, d4] }
  | _ => none }
def RealZerosWrongFalsely : Prop := realZerosRow.holds Tryd.pinned (OpenSpec.ofChange realZerosWrong)

/-- 'copperplatelaw03.RealEdges': WHATEVER THE INPUT: true; the input reads as it did. -/
def realEdgesSpec : ChangeSpec := { name := "realEdges", fn := fun _ => fun
  | [d1, d2, d3] => { results := [.lit (.bool true)], args := [d1, d2, d3] }
  | _ => none }
def realEdgesRow : OpenClaim := { program := "ytchbmihhkjpkaaadoor", sum := "afad78e88ed8900a9df6e789cdd8178574bba562c28013805d1d19edc4d316f1", func := "copperplate/copperplatelaw03.RealEdges", spec := "realEdges", inPlace := ["internal/bytealg.IndexByteString", "math.Float64frombits", "internal/bytealg.IndexString", "math.Float64bits"], unfollowed := true, recurses := true, named := ["unicode/utf8.first", "unicode/utf8.acceptRanges", "internal/bytealg.MaxLen"], apart := false, laid := [("unicode/utf8.acceptRanges", laid_unicode_utf8_acceptRanges), ("unicode/utf8.first", laid_unicode_utf8_first)] }
def RealEdgesSaid : Prop := realEdgesRow.holds Tryd.pinned (OpenSpec.ofChange realEdgesSpec)

/-- ITS FALSE NEIGHBOUR: 'it returns false'. Refute it at one input. -/
def realEdgesWrong : ChangeSpec := { name := "realEdges", fn := fun _ => fun
  | [d1, d2, d3] => { results := [.lit (.bool false)], args := [d1, d2, d3] }
  | _ => none }
def RealEdgesWrongFalsely : Prop := realEdgesRow.holds Tryd.pinned (OpenSpec.ofChange realEdgesWrong)

/-- 'copperplatelaw05.NumWorth': WHATEVER THE INPUT: true; the input reads as it did. -/
def numWorthSpec : ChangeSpec := { name := "numWorth", fn := fun _ => fun
  | [d] => { results := [.lit (.bool true)], args := [d] }
  | _ => none }
def numWorthRow : OpenClaim := { program := "ytchbmihhkjpkaaadoor", sum := "afad78e88ed8900a9df6e789cdd8178574bba562c28013805d1d19edc4d316f1", func := "copperplate/copperplatelaw05.NumWorth", spec := "numWorth", inPlace := ["internal/bytealg.IndexByteString", "math.Float64frombits", "internal/bytealg.IndexString", "math.Float64bits"], unfollowed := true, recurses := true, named := ["unicode/utf8.first", "unicode/utf8.acceptRanges", "internal/bytealg.MaxLen"], apart := false, laid := [("unicode/utf8.acceptRanges", laid_unicode_utf8_acceptRanges), ("unicode/utf8.first", laid_unicode_utf8_first)] }
def NumWorthSaid : Prop := numWorthRow.holds Tryd.pinned (OpenSpec.ofChange numWorthSpec)

/-- ITS FALSE NEIGHBOUR: 'it returns false'. Refute it at one input. -/
def numWorthWrong : ChangeSpec := { name := "numWorth", fn := fun _ => fun
  | [d] => { results := [.lit (.bool false)], args := [d] }
  | _ => none }
def NumWorthWrongFalsely : Prop := numWorthRow.holds Tryd.pinned (OpenSpec.ofChange numWorthWrong)

/- THE SECOND FORM. 'bulk': how many values and letters a reading holds, each counted each time it is reached (what is shared counts as often as it is met; a slice's spare places count too). A statement '..UptoSaid' is the law's where the arguments, and the package variables that the reading takes, are together of bulk at most 1048576: NARROWER than '..Said'. Prove '..Said' where nothing that the law and all that it calls make is longer than what came in: it says more and counts as full. Else prove '..UptoSaid'. A law counts once. -/
mutual
def uptoBulk {H : Type} : DataW H → Nat
  | .lit (.string bytes) => bytes.length + 1
  | .lit _ => 1
  | .nil => 1
  | .ptr d => uptoBulk d + 1
  | .slice elems spare => uptoBulkAll elems + uptoBulkAll spare + 1
  | .agg parts => uptoBulkAll parts + 1
  | .iface _ d => uptoBulk d + 1
  | .map entries => uptoBulkEntries entries + 1
  | .held _ => 1
def uptoBulkAll {H : Type} : List (DataW H) → Nat
  | [] => 0
  | d :: r => uptoBulk d + uptoBulkAll r
def uptoBulkEntries {H : Type} : List (Lit × DataW H) → Nat
  | [] => 0
  | x :: r => uptoBulkEntry x + uptoBulkEntries r
def uptoBulkEntry {H : Type} : Lit × DataW H → Nat
  | (.string bytes, d) => bytes.length + uptoBulk d + 1
  | (_, d) => uptoBulk d + 1
 end
def uptoSmall : (H : Type) → List (DataW H) → Bool := fun _ ds => decide (uptoBulkAll ds ≤ 1048576)
def OpenSpec.upto (s : _root_.Go.ChangeSpec) : _root_.Go.OpenSpec := { _root_.Go.OpenSpec.ofChange s with cond := some uptoSmall }

/-- 'copperplatelaw03.RealTells', WHERE WHAT IT READS IS OF BULK AT MOST 1048576: true; the input reads as it did. -/
def realTellsUptoRow : OpenClaim := { program := "ytchbmihhkjpkaaadoor", sum := "afad78e88ed8900a9df6e789cdd8178574bba562c28013805d1d19edc4d316f1", func := "copperplate/copperplatelaw03.RealTells", spec := "realTells", inPlace := ["internal/bytealg.IndexByteString", "math.Float64frombits", "internal/bytealg.IndexString", "math.Float64bits"], unfollowed := true, recurses := true, named := ["unicode/utf8.first", "unicode/utf8.acceptRanges", "internal/bytealg.MaxLen"], apart := false, laid := [("unicode/utf8.acceptRanges", laid_unicode_utf8_acceptRanges), ("unicode/utf8.first", laid_unicode_utf8_first)], narrowed := true }
def RealTellsUptoSaid : Prop := realTellsUptoRow.holds Tryd.pinned (OpenSpec.upto realTellsSpec)

/-- 'copperplatelaw03.RealMinus', WHERE WHAT IT READS IS OF BULK AT MOST 1048576: true; the input reads as it did. -/
def realMinusUptoRow : OpenClaim := { program := "ytchbmihhkjpkaaadoor", sum := "afad78e88ed8900a9df6e789cdd8178574bba562c28013805d1d19edc4d316f1", func := "copperplate/copperplatelaw03.RealMinus", spec := "realMinus", inPlace := ["internal/bytealg.IndexByteString", "math.Float64frombits", "internal/bytealg.IndexString", "math.Float64bits"], unfollowed := true, recurses := true, named := ["unicode/utf8.first", "unicode/utf8.acceptRanges", "internal/bytealg.MaxLen"], apart := false, laid := [("unicode/utf8.acceptRanges", laid_unicode_utf8_acceptRanges), ("unicode/utf8.first", laid_unicode_utf8_first)], narrowed := true }
def RealMinusUptoSaid : Prop := realMinusUptoRow.holds Tryd.pinned (OpenSpec.upto realMinusSpec)

/-- 'copperplatelaw03.RealWhole', WHERE WHAT IT READS IS OF BULK AT MOST 1048576: true; the input reads as it did. -/
def realWholeUptoRow : OpenClaim := { program := "ytchbmihhkjpkaaadoor", sum := "afad78e88ed8900a9df6e789cdd8178574bba562c28013805d1d19edc4d316f1", func := "copperplate/copperplatelaw03.RealWhole", spec := "realWhole", inPlace := ["internal/bytealg.IndexByteString", "math.Float64frombits", "internal/bytealg.IndexString", "math.Float64bits"], unfollowed := true, recurses := true, named := ["unicode/utf8.first", "unicode/utf8.acceptRanges", "internal/bytealg.MaxLen"], apart := false, laid := [("unicode/utf8.acceptRanges", laid_unicode_utf8_acceptRanges), ("unicode/utf8.first", laid_unicode_utf8_first)], narrowed := true }
def RealWholeUptoSaid : Prop := realWholeUptoRow.holds Tryd.pinned (OpenSpec.upto realWholeSpec)

/-- 'copperplatelaw03.RealSorts', WHERE WHAT IT READS IS OF BULK AT MOST 1048576: true; the input reads as it did. -/
def realSortsUptoRow : OpenClaim := { program := "ytchbmihhkjpkaaadoor", sum := "afad78e88ed8900a9df6e789cdd8178574bba562c28013805d1d19edc4d316f1", func := "copperplate/copperplatelaw03.RealSorts", spec := "realSorts", inPlace := ["internal/bytealg.IndexByteString", "math.Float64frombits", "internal/bytealg.IndexString", "math.Float64bits"], unfollowed := true, recurses := true, named := ["unicode/utf8.first", "unicode/utf8.acceptRanges", "internal/bytealg.MaxLen"], apart := false, laid := [("unicode/utf8.acceptRanges", laid_unicode_utf8_acceptRanges), ("unicode/utf8.first", laid_unicode_utf8_first)], narrowed := true }
def RealSortsUptoSaid : Prop := realSortsUptoRow.holds Tryd.pinned (OpenSpec.upto realSortsSpec)

/-- 'copperplatelaw03.RealZeros', WHERE WHAT IT READS IS OF BULK AT MOST 1048576: true; the input reads as it did. -/
def realZerosUptoRow : OpenClaim := { program := "ytchbmihhkjpkaaadoor", sum := "afad78e88ed8900a9df6e789cdd8178574bba562c28013805d1d19edc4d316f1", func := "copperplate/copperplatelaw03.RealZeros", spec := "realZeros", inPlace := ["internal/bytealg.IndexByteString", "math.Float64frombits", "internal/bytealg.IndexString", "math.Float64bits"], unfollowed := true, recurses := true, named := ["unicode/utf8.first", "unicode/utf8.acceptRanges", "internal/bytealg.MaxLen"], apart := false, laid := [("unicode/utf8.acceptRanges", laid_unicode_utf8_acceptRanges), ("unicode/utf8.first", laid_unicode_utf8_first)], narrowed := true }
def RealZerosUptoSaid : Prop := realZerosUptoRow.holds Tryd.pinned (OpenSpec.upto realZerosSpec)

/-- 'copperplatelaw03.RealEdges', WHERE WHAT IT READS IS OF BULK AT MOST 1048576: true; the input reads as it did. -/
def realEdgesUptoRow : OpenClaim := { program := "ytchbmihhkjpkaaadoor", sum := "afad78e88ed8900a9df6e789cdd8178574bba562c28013805d1d19edc4d316f1", func := "copperplate/copperplatelaw03.RealEdges", spec := "realEdges", inPlace := ["internal/bytealg.IndexByteString", "math.Float64frombits", "internal/bytealg.IndexString", "math.Float64bits"], unfollowed := true, recurses := true, named := ["unicode/utf8.first", "unicode/utf8.acceptRanges", "internal/bytealg.MaxLen"], apart := false, laid := [("unicode/utf8.acceptRanges", laid_unicode_utf8_acceptRanges), ("unicode/utf8.first", laid_unicode_utf8_first)], narrowed := true }
def RealEdgesUptoSaid : Prop := realEdgesUptoRow.holds Tryd.pinned (OpenSpec.upto realEdgesSpec)

/-- 'copperplatelaw05.NumWorth', WHERE WHAT IT READS IS OF BULK AT MOST 1048576: true; the input reads as it did. -/
def numWorthUptoRow : OpenClaim := { program := "ytchbmihhkjpkaaadoor", sum := "afad78e88ed8900a9df6e789cdd8178574bba562c28013805d1d19edc4d316f1", func := "copperplate/copperplatelaw05.NumWorth", spec := "numWorth", inPlace := ["internal/bytealg.IndexByteString", "math.Float64frombits", "internal/bytealg.IndexString", "math.Float64bits"], unfollowed := true, recurses := true, named := ["unicode/utf8.first", "unicode/utf8.acceptRanges", "internal/bytealg.MaxLen"], apart := false, laid := [("unicode/utf8.acceptRanges", laid_unicode_utf8_acceptRanges), ("unicode/utf8.first", laid_unicode_utf8_first)], narrowed := true }
def NumWorthUptoSaid : Prop := numWorthUptoRow.holds Tryd.pinned (OpenSpec.upto numWorthSpec)

end Rows
end Go.Proofs.YtchbmihhkjpkaaaDoor
