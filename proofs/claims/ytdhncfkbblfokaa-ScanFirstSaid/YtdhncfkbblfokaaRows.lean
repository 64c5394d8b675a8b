/-
  No cell of these rows narrows 'for every input' (looked for: loops, veiled, ifaces, maps, wideKeys, modest, calm, conditions, laid).
  DERIVED. THE GIVEN ROWS OF THIS SEAT. 11 by the template 'for every input the law returns true; each argument reads behind the call as it read before'; 0 by the template 'total and deterministic' (their statements: YtdhncfkbblfokaaTotals.lean).
  GIVEN WITH THE SEED: the statements are not yours to turn. If you find one false, say at which input.
  Laid BY PROGRAM, IN A SANDBOX (cutbox-rows.mjs): the forced cells as the released guide's own fill.sh prints them over the translation 757592a0077264e2… (all of the seat's roots in one cut). By AI agents, Wed Nov 11 2026. No macro, syntax, notation, axiom, sorry.
-/
import Derived.Test.YtdhncfkbblfokaaChecked
import GoSem.Claim
import GoSem.ClaimJoined
import GoSem.ClaimMapViews
import Derived.JoinedTies
import Derived.KernelRfl
namespace Go.Proofs.Ytdhncfkbblfokaa
/- THE CELL 'sum', in the pinned program and in every row, IS THE sha256 OF THE DUMP (.gsa) THAT YtdhncfkbblfokaaProg.lean LOADS. Nothing in Lean hashes anything: it is a label: what it is worth is what the hold of that sum in a sandbox is worth. -/
noncomputable def Try.pinned : Pinned := { name := "ytdhncfkbblfokaa", sum := "757592a0077264e273f952e35dc014e3ec74f88a86ceb7bf18de58a695c10e0f", checked := Try.checked }
namespace Rows
def none {H : Type} : Left H := { results := [], args := [] }

/-- 'copperplatelaw04.ScanTells': WHATEVER THE INPUT: true; the input reads as it did. -/
def scanTellsSpec : ChangeSpec := { name := "scanTells", fn := fun _ => fun
  | [d1, d2, d3] => { results := [.lit (.bool true)], args := [d1, d2, d3] }
  | _ => none }
def scanTellsRow : OpenClaim := { program := "ytdhncfkbblfokaa", sum := "757592a0077264e273f952e35dc014e3ec74f88a86ceb7bf18de58a695c10e0f", func := "copperplate/copperplatelaw04.ScanTells", spec := "scanTells", inPlace := ["internal/bytealg.IndexByteString", "internal/bytealg.IndexString"], unfollowed := true, recurses := true, named := ["internal/bytealg.MaxLen"], apart := false }
def ScanTellsSaid : Prop := scanTellsRow.holds Try.pinned (OpenSpec.ofChange scanTellsSpec)

/-- ITS FALSE NEIGHBOUR: 'it returns false'. Refute it at one input. -/
def scanTellsWrong : ChangeSpec := { name := "scanTells", fn := fun _ => fun
  | [d1, d2, d3] => { results := [.lit (.bool false)], args := [d1, d2, d3] }
  | _ => none }
def ScanTellsWrongFalsely : Prop := scanTellsRow.holds Try.pinned (OpenSpec.ofChange scanTellsWrong)

/-- 'copperplatelaw04.ScanEnds': WHATEVER THE INPUT: true; the input reads as it did. -/
def scanEndsSpec : ChangeSpec := { name := "scanEnds", fn := fun _ => fun
  | [d1, d2, d3] => { results := [.lit (.bool true)], args := [d1, d2, d3] }
  | _ => none }
def scanEndsRow : OpenClaim := { program := "ytdhncfkbblfokaa", sum := "757592a0077264e273f952e35dc014e3ec74f88a86ceb7bf18de58a695c10e0f", func := "copperplate/copperplatelaw04.ScanEnds", spec := "scanEnds", inPlace := ["internal/bytealg.IndexByteString", "internal/bytealg.IndexString"], unfollowed := true, recurses := true, named := ["internal/bytealg.MaxLen"], apart := false }
def ScanEndsSaid : Prop := scanEndsRow.holds Try.pinned (OpenSpec.ofChange scanEndsSpec)

/-- ITS FALSE NEIGHBOUR: 'it returns false'. Refute it at one input. -/
def scanEndsWrong : ChangeSpec := { name := "scanEnds", fn := fun _ => fun
  | [d1, d2, d3] => { results := [.lit (.bool false)], args := [d1, d2, d3] }
  | _ => none }
def ScanEndsWrongFalsely : Prop := scanEndsRow.holds Try.pinned (OpenSpec.ofChange scanEndsWrong)

/-- 'copperplatelaw04.ScanFirst': WHATEVER THE INPUT: true; the input reads as it did. -/
def scanFirstSpec : ChangeSpec := { name := "scanFirst", fn := fun _ => fun
  | [d1, d2, d3] => { results := [.lit (.bool true)], args := [d1, d2, d3] }
  | _ => none }
def scanFirstRow : OpenClaim := { program := "ytdhncfkbblfokaa", sum := "757592a0077264e273f952e35dc014e3ec74f88a86ceb7bf18de58a695c10e0f", func := "copperplate/copperplatelaw04.ScanFirst", spec := "scanFirst", inPlace := ["internal/bytealg.IndexByteString", "internal/bytealg.IndexString"], unfollowed := true, recurses := true, named := ["internal/bytealg.MaxLen"], apart := false }
def ScanFirstSaid : Prop := scanFirstRow.holds Try.pinned (OpenSpec.ofChange scanFirstSpec)

/-- ITS FALSE NEIGHBOUR: 'it returns false'. Refute it at one input. -/
def scanFirstWrong : ChangeSpec := { name := "scanFirst", fn := fun _ => fun
  | [d1, d2, d3] => { results := [.lit (.bool false)], args := [d1, d2, d3] }
  | _ => none }
def ScanFirstWrongFalsely : Prop := scanFirstRow.holds Try.pinned (OpenSpec.ofChange scanFirstWrong)

/-- 'copperplatelaw04.ScanComment': WHATEVER THE INPUT: true; the input reads as it did. -/
def scanCommentSpec : ChangeSpec := { name := "scanComment", fn := fun _ => fun
  | [d1, d2] => { results := [.lit (.bool true)], args := [d1, d2] }
  | _ => none }
def scanCommentRow : OpenClaim := { program := "ytdhncfkbblfokaa", sum := "757592a0077264e273f952e35dc014e3ec74f88a86ceb7bf18de58a695c10e0f", func := "copperplate/copperplatelaw04.ScanComment", spec := "scanComment", inPlace := ["internal/bytealg.IndexByteString", "internal/bytealg.IndexString"], unfollowed := true, recurses := true, named := ["internal/bytealg.MaxLen"], apart := false }
def ScanCommentSaid : Prop := scanCommentRow.holds Try.pinned (OpenSpec.ofChange scanCommentSpec)

/-- ITS FALSE NEIGHBOUR: 'it returns false'. Refute it at one input. -/
def scanCommentWrong : ChangeSpec := { name := "scanComment", fn := fun _ => fun
  | [d1, d2] => { results := [.lit (.bool false)], args := [d1, d2] }
  | _ => none }
def ScanCommentWrongFalsely : Prop := scanCommentRow.holds Try.pinned (OpenSpec.ofChange scanCommentWrong)

/-- 'copperplatelaw04.ScanJoins': WHATEVER THE INPUT: true; the input reads as it did. -/
def scanJoinsSpec : ChangeSpec := { name := "scanJoins", fn := fun _ => fun
  | [d1, d2] => { results := [.lit (.bool true)], args := [d1, d2] }
  | _ => none }
def scanJoinsRow : OpenClaim := { program := "ytdhncfkbblfokaa", sum := "757592a0077264e273f952e35dc014e3ec74f88a86ceb7bf18de58a695c10e0f", func := "copperplate/copperplatelaw04.ScanJoins", spec := "scanJoins", inPlace := ["internal/bytealg.IndexByteString", "internal/bytealg.IndexString"], unfollowed := true, recurses := true, named := ["internal/bytealg.MaxLen"], apart := false }
def ScanJoinsSaid : Prop := scanJoinsRow.holds Try.pinned (OpenSpec.ofChange scanJoinsSpec)

/-- ITS FALSE NEIGHBOUR: 'it returns false'. Refute it at one input. -/
def scanJoinsWrong : ChangeSpec := { name := "scanJoins", fn := fun _ => fun
  | [d1, d2] => { results := [.lit (.bool false)], args := [d1, d2] }
  | _ => none }
def ScanJoinsWrongFalsely : Prop := scanJoinsRow.holds Try.pinned (OpenSpec.ofChange scanJoinsWrong)

/-- 'copperplatelaw04.ScanByte': WHATEVER THE INPUT: true; the input reads as it did. -/
def scanByteSpec : ChangeSpec := { name := "scanByte", fn := fun _ => fun
  | [d] => { results := [.lit (.bool true)], args := [d] }
  | _ => none }
def scanByteRow : OpenClaim := { program := "ytdhncfkbblfokaa", sum := "757592a0077264e273f952e35dc014e3ec74f88a86ceb7bf18de58a695c10e0f", func := "copperplate/copperplatelaw04.ScanByte", spec := "scanByte", inPlace := ["internal/bytealg.IndexByteString", "internal/bytealg.IndexString"], unfollowed := true, recurses := true, named := ["internal/bytealg.MaxLen"], apart := false }
def ScanByteSaid : Prop := scanByteRow.holds Try.pinned (OpenSpec.ofChange scanByteSpec)

/-- ITS FALSE NEIGHBOUR: 'it returns false'. Refute it at one input. -/
def scanByteWrong : ChangeSpec := { name := "scanByte", fn := fun _ => fun
  | [d] => { results := [.lit (.bool false)], args := [d] }
  | _ => none }
def ScanByteWrongFalsely : Prop := scanByteRow.holds Try.pinned (OpenSpec.ofChange scanByteWrong)

/-- 'copperplatelaw05.NumTells': WHATEVER THE INPUT: true; the input reads as it did. -/
def numTellsSpec : ChangeSpec := { name := "numTells", fn := fun _ => fun
  | [d1, d2] => { results := [.lit (.bool true)], args := [d1, d2] }
  | _ => none }
def numTellsRow : OpenClaim := { program := "ytdhncfkbblfokaa", sum := "757592a0077264e273f952e35dc014e3ec74f88a86ceb7bf18de58a695c10e0f", func := "copperplate/copperplatelaw05.NumTells", spec := "numTells", unfollowed := true, recurses := true, apart := false }
def NumTellsSaid : Prop := numTellsRow.holds Try.pinned (OpenSpec.ofChange numTellsSpec)

/-- ITS FALSE NEIGHBOUR: 'it returns false'. Refute it at one input. -/
def numTellsWrong : ChangeSpec := { name := "numTells", fn := fun _ => fun
  | [d1, d2] => { results := [.lit (.bool false)], args := [d1, d2] }
  | _ => none }
def NumTellsWrongFalsely : Prop := numTellsRow.holds Try.pinned (OpenSpec.ofChange numTellsWrong)

/-- 'copperplatelaw05.NumEnds': WHATEVER THE INPUT: true; the input reads as it did. -/
def numEndsSpec : ChangeSpec := { name := "numEnds", fn := fun _ => fun
  | [d1, d2] => { results := [.lit (.bool true)], args := [d1, d2] }
  | _ => none }
def numEndsRow : OpenClaim := { program := "ytdhncfkbblfokaa", sum := "757592a0077264e273f952e35dc014e3ec74f88a86ceb7bf18de58a695c10e0f", func := "copperplate/copperplatelaw05.NumEnds", spec := "numEnds", unfollowed := true, recurses := true, apart := false }
def NumEndsSaid : Prop := numEndsRow.holds Try.pinned (OpenSpec.ofChange numEndsSpec)

/-- ITS FALSE NEIGHBOUR: 'it returns false'. Refute it at one input. -/
def numEndsWrong : ChangeSpec := { name := "numEnds", fn := fun _ => fun
  | [d1, d2] => { results := [.lit (.bool false)], args := [d1, d2] }
  | _ => none }
def NumEndsWrongFalsely : Prop := numEndsRow.holds Try.pinned (OpenSpec.ofChange numEndsWrong)

/-- 'copperplatelaw05.NumMinus': WHATEVER THE INPUT: true; the input reads as it did. -/
def numMinusSpec : ChangeSpec := { name := "numMinus", fn := fun _ => fun
  | [d] => { results := [.lit (.bool true)], args := [d] }
  | _ => none }
def numMinusRow : OpenClaim := { program := "ytdhncfkbblfokaa", sum := "757592a0077264e273f952e35dc014e3ec74f88a86ceb7bf18de58a695c10e0f", func := "copperplate/copperplatelaw05.NumMinus", spec := "numMinus", unfollowed := true, recurses := true, apart := false }
def NumMinusSaid : Prop := numMinusRow.holds Try.pinned (OpenSpec.ofChange numMinusSpec)

/-- ITS FALSE NEIGHBOUR: 'it returns false'. Refute it at one input. -/
def numMinusWrong : ChangeSpec := { name := "numMinus", fn := fun _ => fun
  | [d] => { results := [.lit (.bool false)], args := [d] }
  | _ => none }
def NumMinusWrongFalsely : Prop := numMinusRow.holds Try.pinned (OpenSpec.ofChange numMinusWrong)

/-- 'copperplatelaw05.NumDigits': WHATEVER THE INPUT: true; the input reads as it did. -/
def numDigitsSpec : ChangeSpec := { name := "numDigits", fn := fun _ => fun
  | [d1, d2] => { results := [.lit (.bool true)], args := [d1, d2] }
  | _ => none }
def numDigitsRow : OpenClaim := { program := "ytdhncfkbblfokaa", sum := "757592a0077264e273f952e35dc014e3ec74f88a86ceb7bf18de58a695c10e0f", func := "copperplate/copperplatelaw05.NumDigits", spec := "numDigits", unfollowed := true, recurses := true, apart := false }
def NumDigitsSaid : Prop := numDigitsRow.holds Try.pinned (OpenSpec.ofChange numDigitsSpec)

/-- ITS FALSE NEIGHBOUR: 'it returns false'. Refute it at one input. -/
def numDigitsWrong : ChangeSpec := { name := "numDigits", fn := fun _ => fun
  | [d1, d2] => { results := [.lit (.bool false)], args := [d1, d2] }
  | _ => none }
def NumDigitsWrongFalsely : Prop := numDigitsRow.holds Try.pinned (OpenSpec.ofChange numDigitsWrong)

/-- 'copperplatelaw05.NumPlace': WHATEVER THE INPUT: true; the input reads as it did. -/
def numPlaceSpec : ChangeSpec := { name := "numPlace", fn := fun _ => fun
  | [d1, d2] => { results := [.lit (.bool true)], args := [d1, d2] }
  | _ => none }
def numPlaceRow : OpenClaim := { program := "ytdhncfkbblfokaa", sum := "757592a0077264e273f952e35dc014e3ec74f88a86ceb7bf18de58a695c10e0f", func := "copperplate/copperplatelaw05.NumPlace", spec := "numPlace", unfollowed := true, recurses := true, apart := false }
def NumPlaceSaid : Prop := numPlaceRow.holds Try.pinned (OpenSpec.ofChange numPlaceSpec)

/-- ITS FALSE NEIGHBOUR: 'it returns false'. Refute it at one input. -/
def numPlaceWrong : ChangeSpec := { name := "numPlace", fn := fun _ => fun
  | [d1, d2] => { results := [.lit (.bool false)], args := [d1, d2] }
  | _ => none }
def NumPlaceWrongFalsely : Prop := numPlaceRow.holds Try.pinned (OpenSpec.ofChange numPlaceWrong)

/- THE SECOND FORM. 'bulk': how many values and letters a reading holds, each counted each time it is reached (what is shared counts as often as it is met; a slice's spare places count too). A statement '..UptoSaid' is the law's where the arguments, and the package variables that the reading takes, are together of bulk at most 1048576: NARROWER than '..Said'. Prove '..Said' where nothing that the law and all that it calls make is longer than what came in: it says more and counts as full. Else prove '..UptoSaid'. A law counts once. -/
mutual
def uptoBulk {H : Type} : DataW H → Nat
  | .lit (.string bytes) => bytes.length + 1
  | .lit _ => 1
  | .nil => 1
  | .ptr d => uptoBulk d + 1
  | .slice elems spare => uptoBulkAll elems + uptoBulkAll spare + 1
  | .agg parts => uptoBulkAll parts + 1
  | .iface _ d => uptoBulk d + 1
  | .map entries => uptoBulkEntries entries + 1
  | .held _ => 1
def uptoBulkAll {H : Type} : List (DataW H) → Nat
  | [] => 0
  | d :: r => uptoBulk d + uptoBulkAll r
def uptoBulkEntries {H : Type} : List (Lit × DataW H) → Nat
  | [] => 0
  | x :: r => uptoBulkEntry x + uptoBulkEntries r
def uptoBulkEntry {H : Type} : Lit × DataW H → Nat
  | (.string bytes, d) => bytes.length + uptoBulk d + 1
  | (_, d) => uptoBulk d + 1
 end
def uptoSmall : (H : Type) → List (DataW H) → Bool := fun _ ds => decide (uptoBulkAll ds ≤ 1048576)
def OpenSpec.upto (s : _root_.Go.ChangeSpec) : _root_.Go.OpenSpec := { _root_.Go.OpenSpec.ofChange s with cond := some uptoSmall }

/-- 'copperplatelaw04.ScanTells', WHERE WHAT IT READS IS OF BULK AT MOST 1048576: true; the input reads as it did. -/
def scanTellsUptoRow : OpenClaim := { program := "ytdhncfkbblfokaa", sum := "757592a0077264e273f952e35dc014e3ec74f88a86ceb7bf18de58a695c10e0f", func := "copperplate/copperplatelaw04.ScanTells", spec := "scanTells", inPlace := ["internal/bytealg.IndexByteString", "internal/bytealg.IndexString"], unfollowed := true, recurses := true, named := ["internal/bytealg.MaxLen"], apart := false, narrowed := true }
def ScanTellsUptoSaid : Prop := scanTellsUptoRow.holds Try.pinned (OpenSpec.upto scanTellsSpec)

/-- 'copperplatelaw04.ScanEnds', WHERE WHAT IT READS IS OF BULK AT MOST 1048576: true; the input reads as it did. -/
def scanEndsUptoRow : OpenClaim := { program := "ytdhncfkbblfokaa", sum := "757592a0077264e273f952e35dc014e3ec74f88a86ceb7bf18de58a695c10e0f", func := "copperplate/copperplatelaw04.ScanEnds", spec := "scanEnds", inPlace := ["internal/bytealg.IndexByteString", "internal/bytealg.IndexString"], unfollowed := true, recurses := true, named := ["internal/bytealg.MaxLen"], apart := false, narrowed := true }
def ScanEndsUptoSaid : Prop := scanEndsUptoRow.holds Try.pinned (OpenSpec.upto scanEndsSpec)

/-- 'copperplatelaw04.ScanFirst', WHERE WHAT IT READS IS OF BULK AT MOST 1048576: true; the input reads as it did. -/
def scanFirstUptoRow : OpenClaim := { program := "ytdhncfkbblfokaa", sum := "757592a0077264e273f952e35dc014e3ec74f88a86ceb7bf18de58a695c10e0f", func := "copperplate/copperplatelaw04.ScanFirst", spec := "scanFirst", inPlace := ["internal/bytealg.IndexByteString", "internal/bytealg.IndexString"], unfollowed := true, recurses := true, named := ["internal/bytealg.MaxLen"], apart := false, narrowed := true }
def ScanFirstUptoSaid : Prop := scanFirstUptoRow.holds Try.pinned (OpenSpec.upto scanFirstSpec)

/-- 'copperplatelaw04.ScanComment', WHERE WHAT IT READS IS OF BULK AT MOST 1048576: true; the input reads as it did. -/
def scanCommentUptoRow : OpenClaim := { program := "ytdhncfkbblfokaa", sum := "757592a0077264e273f952e35dc014e3ec74f88a86ceb7bf18de58a695c10e0f", func := "copperplate/copperplatelaw04.ScanComment", spec := "scanComment", inPlace := ["internal/bytealg.IndexByteString", "internal/bytealg.IndexString"], unfollowed := true, recurses := true, named := ["internal/bytealg.MaxLen"], apart := false, narrowed := true }
def ScanCommentUptoSaid : Prop := scanCommentUptoRow.holds Try.pinned (OpenSpec.upto scanCommentSpec)

/-- 'copperplatelaw04.ScanJoins', WHERE WHAT IT READS IS OF BULK AT MOST 1048576: true; the input reads as it did. -/
def scanJoinsUptoRow : OpenClaim := { program := "ytdhncfkbblfokaa", sum := "757592a0077264e273f952e35dc014e3ec74f88a86ceb7bf18de58a695c10e0f", func := "copperplate/copperplatelaw04.ScanJoins", spec := "scanJoins", inPlace := ["internal/bytealg.IndexByteString", "internal/bytealg.IndexString"], unfollowed := true, recurses := true, named := ["internal/bytealg.MaxLen"], apart := false, narrowed := true }
def ScanJoinsUptoSaid : Prop := scanJoinsUptoRow.holds Try.pinned (OpenSpec.upto scanJoinsSpec)

/-- 'copperplatelaw04.ScanByte', WHERE WHAT IT READS IS OF BULK AT MOST 1048576: true; the input reads as it did. -/
def scanByteUptoRow : OpenClaim := { program := "ytdhncfkbblfokaa", sum := "757592a0077264e273f952e35dc014e3ec74f88a86ceb7bf18de58a695c10e0f", func := "copperplate/copperplatelaw04.ScanByte", spec := "scanByte", inPlace := ["internal/bytealg.IndexByteString", "internal/bytealg.IndexString"], unfollowed := true, recurses := true, named := ["internal/bytealg.MaxLen"], apart := false, narrowed := true }
def ScanByteUptoSaid : Prop := scanByteUptoRow.holds Try.pinned (OpenSpec.upto scanByteSpec)

/-- 'copperplatelaw05.NumTells', WHERE WHAT IT READS IS OF BULK AT MOST 1048576: true; the input reads as it did. -/
def numTellsUptoRow : OpenClaim := { program := "ytdhncfkbblfokaa", sum := "757592a0077264e273f952e35dc014e3ec74f88a86ceb7bf18de58a695c10e0f", func := "copperplate/copperplatelaw05.NumTells", spec := "numTells", unfollowed := true, recurses := true, apart := false, narrowed := true }
def NumTellsUptoSaid : Prop := numTellsUptoRow.holds Try.pinned (OpenSpec.upto numTellsSpec)

/-- 'copperplatelaw05.NumEnds', WHERE WHAT IT READS IS OF BULK AT MOST 1048576: true; the input reads as it did. -/
def numEndsUptoRow : OpenClaim := { program := "ytdhncfkbblfokaa", sum := "757592a0077264e273f952e35dc014e3ec74f88a86ceb7bf18de58a695c10e0f", func := "copperplate/copperplatelaw05.NumEnds", spec := "numEnds", unfollowed := true, recurses := true, apart := false, narrowed := true }
def NumEndsUptoSaid : Prop := numEndsUptoRow.holds Try.pinned (OpenSpec.upto numEndsSpec)

/-- 'copperplatelaw05.NumMinus', WHERE WHAT IT READS IS OF BULK AT MOST 1048576: true; the input reads as it did. -/
def numMinusUptoRow : OpenClaim := { program := "ytdhncfkbblfokaa", sum := "757592a0077264e273f952e35dc014e3ec74f88a86ceb7bf18de58a695c10e0f", func := "copperplate/copperplatelaw05.NumMinus", spec := "numMinus", unfollowed := true, recurses := true, apart := false, narrowed := true }
def NumMinusUptoSaid : Prop := numMinusUptoRow.holds Try.pinned (OpenSpec.upto numMinusSpec)

/-- 'copperplatelaw05.NumDigits', WHERE WHAT IT READS IS OF BULK AT MOST 1048576: true; the input reads as it did. -/
def numDigitsUptoRow : OpenClaim := { program := "ytdhncfkbblfokaa", sum := "757592a0077264e273f952e35dc014e3ec74f88a86ceb7bf18de58a695c10e0f", func := "copperplate/copperplatelaw05.NumDigits", spec := "numDigits", unfollowed := true, recurses := true, apart := false, narrowed := true }
def NumDigitsUptoSaid : Prop := numDigitsUptoRow.holds Try.pinned (OpenSpec.upto numDigitsSpec)

/-- 'copperplatelaw05.NumPlace', WHERE WHAT IT READS IS OF BULK AT MOST 1048576: true; the input reads as it did. -/
def numPlaceUptoRow : OpenClaim := { program := "ytdhncfkbblfokaa", sum := "757592a0077264e273f952e35dc014e3ec74f88a86ceb7bf18de58a695c10e0f", func := "copperplate/copperplatelaw05.NumPlace", spec := "numPlace", unfollowed := true, recurses := true, apart := false, narrowed := true }
def NumPlaceUptoSaid : Prop := numPlaceUptoRow.holds Try.pinned (OpenSpec.upto numPlaceSpec)

end Rows
end Go.Proofs.Ytdhncfkbblfokaa
