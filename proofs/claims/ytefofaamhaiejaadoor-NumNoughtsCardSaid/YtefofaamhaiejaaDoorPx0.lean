-- printed by wip/tools/myprint.py out of the translation. Not trusted: Lean checks it.
import Derived.Test.YtefofaamhaiejaaDoorProg
import Derived.Test.YtefofaamhaiejaaDoorShelf
import Derived.Test.YtefofaamhaiejaaDoorTb10
import Derived.Below
import Derived.Deep.Draws
import Derived.Deep.AppendLies
import Derived.Maps.AppendAt
import Derived.OwnWalk
import Derived.Laws.BytesArg
import Derived.Laws.MakeOwn
import Derived.Laws.OwnMore
import Derived.Deep.OwnRows
import Derived.Tactics
import Derived.Lib.ConvBytes
import Derived.Laws.Slices
import Derived.WalkKit
import Derived.KernelRfl
import Derived.RowKit3
import Derived.Deep.LoopGhost
import Derived.Deep.QuietTactic
import Derived.BigQuiet
import Derived.WideLaws
import Derived.Deep.DeepCutAuto
import Derived.Deep.CutBlock
import Derived.Deep.RegionHeld3
import Derived.Laws.Rows
import Derived.Lib.AppendStr
import Derived.ArgAppend
import Derived.Laws.IdiomCopy
import Derived.OrdersHeld
import Derived.Laws.BitsLemmas
import Derived.RowKit
import Derived.Test.YtefofaamhaiejaaDoorWWords
import Derived.Test.YtefofaamhaiejaaDoorWLast
import Derived.Test.YtefofaamhaiejaaDoorWTab
import Derived.Test.YtefofaamhaiejaaDoorWFour
import Derived.Test.YtefofaamhaiejaaDoorWQPut
import Derived.Test.YtefofaamhaiejaaDoorWApart
import Derived.Test.YtefofaamhaiejaaDoorWArr
import Derived.Test.YtefofaamhaiejaaDoorWZeros
import Derived.Test.YtefofaamhaiejaaDoorWFoot
import Derived.Test.YtefofaamhaiejaaDoorWKept
import Derived.Test.YtefofaamhaiejaaDoorWShare
import Derived.Test.YtefofaamhaiejaaDoorWN
import Derived.Test.YtefofaamhaiejaaDoorWFootNe
import Derived.Test.YtefofaamhaiejaaDoorWAt
import Derived.Test.YtefofaamhaiejaaDoorWEqStruct
import Derived.Test.YtefofaamhaiejaaDoorWRepsOne
import Derived.Test.YtefofaamhaiejaaDoorWInv
import Derived.Test.YtefofaamhaiejaaDoorWInvWords
import Derived.Test.YtefofaamhaiejaaDoorWGuard
import Derived.Test.YtefofaamhaiejaaDoorWNEv
import Derived.Test.YtefofaamhaiejaaDoorWMore
namespace Go.Proofs.YtefofaamhaiejaaDoor.P
open Go.RowKit Go.Proofs.YtefofaamhaiejaaDoorW.PrintWords Go.Proofs.YtefofaamhaiejaaDoorW.PrintLast Go.Proofs.YtefofaamhaiejaaDoorW.PrintMore
attribute [local go_sem] max2_int min2_int max_two min_two max_three min_three max_four min_four   -- for this text's walks alone
set_option linter.unusedVariables false
set_option linter.unusedSimpArgs false



def errW : Option Int → Value
  | none => .nilIface
  | some c => .iface 0 (.int .i64 c)
theorem errW_none : errW none = .nilIface := rfl
theorem errW_some (c : Int) : errW (some c) = .iface 0 (.int .i64 c) := rfl

-- the values' own types

end Go.Proofs.YtefofaamhaiejaaDoor.P
