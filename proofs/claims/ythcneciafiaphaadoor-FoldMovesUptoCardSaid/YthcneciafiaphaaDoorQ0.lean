-- Printed for this seat by a program of this session (qprint.py), out of the translation; Lean checks it.
import Derived.Test.YthcneciafiaphaaDoorProg
import Derived.Below
import Derived.Deep.Draws
import Derived.Deep.AppendLies
import Derived.Maps.AppendAt
import Derived.OwnWalk
import Derived.Laws.BytesArg
import Derived.Laws.MakeOwn
import Derived.Laws.OwnMore
import Derived.Deep.OwnRows
import Derived.Tactics
import Derived.Lib.ConvBytes
import Derived.Laws.Slices
import Derived.WalkKit
import Derived.KernelRfl
import Derived.RowKit3
import Derived.Deep.LoopGhost
import Derived.Deep.QuietTactic
import Derived.BigQuiet
import Derived.WideLaws
import Derived.Deep.DeepCutAuto
import Derived.Deep.CutBlock
import Derived.Deep.RegionHeld3
import Derived.Laws.Rows
import Derived.Lib.AppendStr
import Derived.ArgAppend
import Derived.Laws.IdiomCopy
import Derived.OrdersHeld
import Derived.Laws.BitsLemmas
import Derived.RowKit
import Derived.Test.YthcneciafiaphaaDoorFC
import Derived.Test.YthcneciafiaphaaDoorWWords
import Derived.Test.YthcneciafiaphaaDoorWLast
import Derived.Test.YthcneciafiaphaaDoorWTab
import Derived.Test.YthcneciafiaphaaDoorWFour
import Derived.Test.YthcneciafiaphaaDoorWQPut
import Derived.Test.YthcneciafiaphaaDoorWApart
import Derived.Test.YthcneciafiaphaaDoorWArr
import Derived.Test.YthcneciafiaphaaDoorWZeros
import Derived.Test.YthcneciafiaphaaDoorWFoot
import Derived.Test.YthcneciafiaphaaDoorWKept
import Derived.Test.YthcneciafiaphaaDoorWShare
import Derived.Test.YthcneciafiaphaaDoorWN
import Derived.Test.YthcneciafiaphaaDoorWFootNe
import Derived.Test.YthcneciafiaphaaDoorWAt
import Derived.Test.YthcneciafiaphaaDoorWEqStruct
import Derived.Test.YthcneciafiaphaaDoorWRepsOne
import Derived.Test.YthcneciafiaphaaDoorWInv
import Derived.Test.YthcneciafiaphaaDoorWInvWords
import Derived.Test.YthcneciafiaphaaDoorWGuard
import Derived.Test.YthcneciafiaphaaDoorWNEv
import Derived.Test.YthcneciafiaphaaDoorWMore
namespace Go.Proofs.YthcneciafiaphaaDoor.Q
open Go.Proofs.YthcneciafiaphaaDoor.G
open Go.RowKit Go.Proofs.YthcneciafiaphaaDoorW.PrintWords Go.Proofs.YthcneciafiaphaaDoorW.PrintLast Go.Proofs.YthcneciafiaphaaDoorW.PrintMore
attribute [local go_sem] max2_int min2_int max_two min_two max_three min_three max_four min_four   -- for this text's walks alone
set_option linter.unusedVariables false
set_option linter.unusedSimpArgs false



def errW : Option Int → Value
  | none => .nilIface
  | some c => .iface 0 (.int .i64 c)
theorem errW_none : errW none = .nilIface := rfl
theorem errW_some (c : Int) : errW (some c) = .iface 0 (.int .i64 c) := rfl

theorem info5 : (Tryd.prog.info? 5).map (fun i => (i.zero, i.size, i.bytes)) = some (some (.int .u8 0), 1, 1) := by kernel_rfl
theorem info9 : (Tryd.prog.info? 9).map (fun i => (i.zero, i.size, i.bytes)) = some (some (.string ⟨#[]⟩), 1, 16) := by kernel_rfl
-- the values' own types

end Go.Proofs.YthcneciafiaphaaDoor.Q
