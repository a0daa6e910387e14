-- Printed by a program of this session (wip/tools/mkprint.py) out of the translation.
import Derived.Test.YtflceedohhhdiaaProg
import Derived.Below
import Derived.Deep.Draws
import Derived.Deep.AppendLies
import Derived.Maps.AppendAt
import Derived.OwnWalk
import Derived.Laws.BytesArg
import Derived.Laws.MakeOwn
import Derived.Laws.OwnMore
import Derived.Deep.OwnRows
import Derived.Tactics
import Derived.Lib.ConvBytes
import Derived.Laws.Slices
import Derived.WalkKit
import Derived.KernelRfl
import Derived.RowKit3
import Derived.Deep.LoopGhost
import Derived.Deep.QuietTactic
import Derived.BigQuiet
import Derived.WideLaws
import Derived.Deep.DeepCutAuto
import Derived.Deep.CutBlock
import Derived.Deep.RegionHeld3
import Derived.Laws.Rows
import Derived.Lib.AppendStr
import Derived.ArgAppend
import Derived.Laws.IdiomCopy
import Derived.OrdersHeld
import Derived.Laws.BitsLemmas
import Derived.RowKit
import Derived.Test.YtflceedohhhdiaaWWords
import Derived.Test.YtflceedohhhdiaaWLast
import Derived.Test.YtflceedohhhdiaaWTab
import Derived.Test.YtflceedohhhdiaaWFour
import Derived.Test.YtflceedohhhdiaaWQPut
import Derived.Test.YtflceedohhhdiaaWApart
import Derived.Test.YtflceedohhhdiaaWArr
import Derived.Test.YtflceedohhhdiaaWZeros
import Derived.Test.YtflceedohhhdiaaWFoot
import Derived.Test.YtflceedohhhdiaaWKept
import Derived.Test.YtflceedohhhdiaaWShare
import Derived.Test.YtflceedohhhdiaaWN
import Derived.Test.YtflceedohhhdiaaWFootNe
import Derived.Test.YtflceedohhhdiaaWAt
import Derived.Test.YtflceedohhhdiaaWEqStruct
import Derived.Test.YtflceedohhhdiaaWRepsOne
import Derived.Test.YtflceedohhhdiaaWInv
import Derived.Test.YtflceedohhhdiaaWInvWords
import Derived.Test.YtflceedohhhdiaaWGuard
import Derived.Test.YtflceedohhhdiaaWNEv
import Derived.Test.YtflceedohhhdiaaWMore
import Derived.Test.YtflceedohhhdiaaGiven
namespace Go.Proofs.Ytflceedohhhdiaa.XM
open Go.RowKit Go.Proofs.Ytflceedohhhdiaa.Given Go.Proofs.YtflceedohhhdiaaW.PrintWords Go.Proofs.YtflceedohhhdiaaW.PrintLast Go.Proofs.YtflceedohhhdiaaW.PrintMore
attribute [local go_sem] max2_int min2_int max_two min_two max_three min_three max_four min_four   -- for this text's walks alone
set_option linter.unusedVariables false
set_option linter.unusedSimpArgs false



def errW : Option Int → Value
  | none => .nilIface
  | some c => .iface 0 (.int .i64 c)
theorem errW_none : errW none = .nilIface := rfl
theorem errW_some (c : Int) : errW (some c) = .iface 0 (.int .i64 c) := rfl

-- the values' own types

end Go.Proofs.Ytflceedohhhdiaa.XM
