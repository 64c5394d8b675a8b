-- Printed for this seat by a program of this session (qprint.py), out of the translation; Lean checks it.
import Derived.Test.YthjoclmggomhoaaDoorProg
import Derived.Below
import Derived.Deep.Draws
import Derived.Deep.AppendLies
import Derived.Maps.AppendAt
import Derived.OwnWalk
import Derived.Laws.BytesArg
import Derived.Laws.MakeOwn
import Derived.Laws.OwnMore
import Derived.Deep.OwnRows
import Derived.Tactics
import Derived.Lib.ConvBytes
import Derived.Laws.Slices
import Derived.WalkKit
import Derived.KernelRfl
import Derived.RowKit3
import Derived.Deep.LoopGhost
import Derived.Deep.QuietTactic
import Derived.BigQuiet
import Derived.WideLaws
import Derived.Deep.DeepCutAuto
import Derived.Deep.CutBlock
import Derived.Deep.RegionHeld3
import Derived.Laws.Rows
import Derived.Lib.AppendStr
import Derived.ArgAppend
import Derived.Laws.IdiomCopy
import Derived.OrdersHeld
import Derived.Laws.BitsLemmas
import Derived.RowKit
import Derived.Test.YthjoclmggomhoaaDoorS8
import Derived.Test.YthjoclmggomhoaaDoorWWords
import Derived.Test.YthjoclmggomhoaaDoorWLast
import Derived.Test.YthjoclmggomhoaaDoorWTab
import Derived.Test.YthjoclmggomhoaaDoorWFour
import Derived.Test.YthjoclmggomhoaaDoorWQPut
import Derived.Test.YthjoclmggomhoaaDoorWApart
import Derived.Test.YthjoclmggomhoaaDoorWArr
import Derived.Test.YthjoclmggomhoaaDoorWZeros
import Derived.Test.YthjoclmggomhoaaDoorWFoot
import Derived.Test.YthjoclmggomhoaaDoorWKept
import Derived.Test.YthjoclmggomhoaaDoorWShare
import Derived.Test.YthjoclmggomhoaaDoorWN
import Derived.Test.YthjoclmggomhoaaDoorWFootNe
import Derived.Test.YthjoclmggomhoaaDoorWAt
import Derived.Test.YthjoclmggomhoaaDoorWEqStruct
import Derived.Test.YthjoclmggomhoaaDoorWRepsOne
import Derived.Test.YthjoclmggomhoaaDoorWInv
import Derived.Test.YthjoclmggomhoaaDoorWInvWords
import Derived.Test.YthjoclmggomhoaaDoorWGuard
import Derived.Test.YthjoclmggomhoaaDoorWNEv
import Derived.Test.YthjoclmggomhoaaDoorWMore
namespace Go.Proofs.YthjoclmggomhoaaDoor.Q
open Go.Proofs.YthjoclmggomhoaaDoor.G
open Go.RowKit Go.Proofs.YthjoclmggomhoaaDoorW.PrintWords Go.Proofs.YthjoclmggomhoaaDoorW.PrintLast Go.Proofs.YthjoclmggomhoaaDoorW.PrintMore
attribute [local go_sem] max2_int min2_int max_two min_two max_three min_three max_four min_four   -- for this text's walks alone
set_option linter.unusedVariables false
set_option linter.unusedSimpArgs false



def errW : Option Int → Value
  | none => .nilIface
  | some c => .iface 0 (.int .i64 c)
theorem errW_none : errW none = .nilIface := rfl
theorem errW_some (c : Int) : errW (some c) = .iface 0 (.int .i64 c) := rfl

theorem info3 : (Tryd.prog.info? 3).map (fun i => (i.zero, i.size, i.bytes)) = some (some (.int .i64 0), 1, 8) := by kernel_rfl
theorem info5 : (Tryd.prog.info? 5).map (fun i => (i.zero, i.size, i.bytes)) = some (some (.int .u8 0), 1, 1) := by kernel_rfl
theorem info9 : (Tryd.prog.info? 9).map (fun i => (i.zero, i.size, i.bytes)) = some (some (.string ⟨#[]⟩), 1, 16) := by kernel_rfl
-- the values' own types

end Go.Proofs.YthjoclmggomhoaaDoor.Q
