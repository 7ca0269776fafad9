-- printed by wip/tools/myprint.py out of the translation. Not trusted: Lean checks it.
import Derived.Test.YtoglfjeggfbngaaProg
import Derived.Below
import Derived.Deep.Draws
import Derived.Deep.AppendLies
import Derived.Maps.AppendAt
import Derived.OwnWalk
import Derived.Laws.BytesArg
import Derived.Laws.MakeOwn
import Derived.Laws.OwnMore
import Derived.Deep.OwnRows
import Derived.Tactics
import Derived.Lib.ConvBytes
import Derived.Laws.Slices
import Derived.WalkKit
import Derived.KernelRfl
import Derived.RowKit3
import Derived.Deep.LoopGhost
import Derived.Deep.QuietTactic
import Derived.BigQuiet
import Derived.WideLaws
import Derived.Deep.DeepCutAuto
import Derived.Deep.CutBlock
import Derived.Deep.RegionHeld3
import Derived.Laws.Rows
import Derived.Lib.AppendStr
import Derived.ArgAppend
import Derived.Laws.IdiomCopy
import Derived.OrdersHeld
import Derived.Laws.BitsLemmas
import Derived.RowKit
import Derived.Test.YtoglfjeggfbngaaWWords
import Derived.Test.YtoglfjeggfbngaaWLast
import Derived.Test.YtoglfjeggfbngaaWTab
import Derived.Test.YtoglfjeggfbngaaWFour
import Derived.Test.YtoglfjeggfbngaaWQPut
import Derived.Test.YtoglfjeggfbngaaWApart
import Derived.Test.YtoglfjeggfbngaaWArr
import Derived.Test.YtoglfjeggfbngaaWZeros
import Derived.Test.YtoglfjeggfbngaaWFoot
import Derived.Test.YtoglfjeggfbngaaWKept
import Derived.Test.YtoglfjeggfbngaaWShare
import Derived.Test.YtoglfjeggfbngaaWN
import Derived.Test.YtoglfjeggfbngaaWFootNe
import Derived.Test.YtoglfjeggfbngaaWAt
import Derived.Test.YtoglfjeggfbngaaWEqStruct
import Derived.Test.YtoglfjeggfbngaaWRepsOne
import Derived.Test.YtoglfjeggfbngaaWInv
import Derived.Test.YtoglfjeggfbngaaWInvWords
import Derived.Test.YtoglfjeggfbngaaWGuard
import Derived.Test.YtoglfjeggfbngaaWNEv
import Derived.Test.YtoglfjeggfbngaaWMore
namespace Go.Proofs.Ytoglfjeggfbngaa.P
open Go.RowKit Go.Proofs.YtoglfjeggfbngaaW.PrintWords Go.Proofs.YtoglfjeggfbngaaW.PrintLast Go.Proofs.YtoglfjeggfbngaaW.PrintMore
attribute [local go_sem] max2_int min2_int max_two min_two max_three min_three max_four min_four   -- for this text's walks alone
set_option linter.unusedVariables false
set_option linter.unusedSimpArgs false



def errW : Option Int → Value
  | none => .nilIface
  | some c => .iface 0 (.int .i64 c)
theorem errW_none : errW none = .nilIface := rfl
theorem errW_some (c : Int) : errW (some c) = .iface 0 (.int .i64 c) := rfl

-- the values' own types

end Go.Proofs.Ytoglfjeggfbngaa.P
