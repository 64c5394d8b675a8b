-- Printed for this seat by a program of this session (qprint.py), out of the translation; Lean checks it.
import Derived.Test.YtcebkppagamjiaaDoorProg
import Derived.Below
import Derived.Deep.Draws
import Derived.Deep.AppendLies
import Derived.Maps.AppendAt
import Derived.OwnWalk
import Derived.Laws.BytesArg
import Derived.Laws.MakeOwn
import Derived.Laws.OwnMore
import Derived.Deep.OwnRows
import Derived.Tactics
import Derived.Lib.ConvBytes
import Derived.Laws.Slices
import Derived.WalkKit
import Derived.KernelRfl
import Derived.RowKit3
import Derived.Deep.LoopGhost
import Derived.Deep.QuietTactic
import Derived.BigQuiet
import Derived.WideLaws
import Derived.Deep.DeepCutAuto
import Derived.Deep.CutBlock
import Derived.Deep.RegionHeld3
import Derived.Laws.Rows
import Derived.Lib.AppendStr
import Derived.ArgAppend
import Derived.Laws.IdiomCopy
import Derived.OrdersHeld
import Derived.Laws.BitsLemmas
import Derived.RowKit
import Derived.Test.YtcebkppagamjiaaDoorWA
import Derived.Test.YtcebkppagamjiaaDoorWWords
import Derived.Test.YtcebkppagamjiaaDoorWLast
import Derived.Test.YtcebkppagamjiaaDoorWTab
import Derived.Test.YtcebkppagamjiaaDoorWFour
import Derived.Test.YtcebkppagamjiaaDoorWQPut
import Derived.Test.YtcebkppagamjiaaDoorWApart
import Derived.Test.YtcebkppagamjiaaDoorWArr
import Derived.Test.YtcebkppagamjiaaDoorWZeros
import Derived.Test.YtcebkppagamjiaaDoorWFoot
import Derived.Test.YtcebkppagamjiaaDoorWKept
import Derived.Test.YtcebkppagamjiaaDoorWShare
import Derived.Test.YtcebkppagamjiaaDoorWN
import Derived.Test.YtcebkppagamjiaaDoorWFootNe
import Derived.Test.YtcebkppagamjiaaDoorWAt
import Derived.Test.YtcebkppagamjiaaDoorWEqStruct
import Derived.Test.YtcebkppagamjiaaDoorWRepsOne
import Derived.Test.YtcebkppagamjiaaDoorWInv
import Derived.Test.YtcebkppagamjiaaDoorWInvWords
import Derived.Test.YtcebkppagamjiaaDoorWGuard
import Derived.Test.YtcebkppagamjiaaDoorWNEv
import Derived.Test.YtcebkppagamjiaaDoorWMore
namespace Go.Proofs.YtcebkppagamjiaaDoor.Y
open Go.Proofs.YtcebkppagamjiaaDoor.G
open Go.RowKit Go.Proofs.YtcebkppagamjiaaDoorW.PrintWords Go.Proofs.YtcebkppagamjiaaDoorW.PrintLast Go.Proofs.YtcebkppagamjiaaDoorW.PrintMore
attribute [local go_sem] max2_int min2_int max_two min_two max_three min_three max_four min_four   -- for this text's walks alone
set_option linter.unusedVariables false
set_option linter.unusedSimpArgs false



def errW : Option Int → Value
  | none => .nilIface
  | some c => .iface 0 (.int .i64 c)
theorem errW_none : errW none = .nilIface := rfl
theorem errW_some (c : Int) : errW (some c) = .iface 0 (.int .i64 c) := rfl

theorem info5 : (Tryd.prog.info? 5).map (fun i => (i.zero, i.size, i.bytes)) = some (some (.int .u8 0), 1, 1) := by kernel_rfl
-- the values' own types

end Go.Proofs.YtcebkppagamjiaaDoor.Y
