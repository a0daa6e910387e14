-- Printed by a program of this session (wip/tools/mkprint.py) out of the translation.
import Derived.Test.YtlpbfhbfaphicaaProg
import Derived.Below
import Derived.Deep.Draws
import Derived.Deep.AppendLies
import Derived.Maps.AppendAt
import Derived.OwnWalk
import Derived.Laws.BytesArg
import Derived.Laws.MakeOwn
import Derived.Laws.OwnMore
import Derived.Deep.OwnRows
import Derived.Tactics
import Derived.Lib.ConvBytes
import Derived.Laws.Slices
import Derived.WalkKit
import Derived.KernelRfl
import Derived.RowKit3
import Derived.Deep.LoopGhost
import Derived.Deep.QuietTactic
import Derived.BigQuiet
import Derived.WideLaws
import Derived.Deep.DeepCutAuto
import Derived.Deep.CutBlock
import Derived.Deep.RegionHeld3
import Derived.Laws.Rows
import Derived.Lib.AppendStr
import Derived.ArgAppend
import Derived.Laws.IdiomCopy
import Derived.OrdersHeld
import Derived.Laws.BitsLemmas
import Derived.RowKit
import Derived.Test.YtlpbfhbfaphicaaWWords
import Derived.Test.YtlpbfhbfaphicaaWLast
import Derived.Test.YtlpbfhbfaphicaaWTab
import Derived.Test.YtlpbfhbfaphicaaWFour
import Derived.Test.YtlpbfhbfaphicaaWQPut
import Derived.Test.YtlpbfhbfaphicaaWApart
import Derived.Test.YtlpbfhbfaphicaaWArr
import Derived.Test.YtlpbfhbfaphicaaWZeros
import Derived.Test.YtlpbfhbfaphicaaWFoot
import Derived.Test.YtlpbfhbfaphicaaWKept
import Derived.Test.YtlpbfhbfaphicaaWShare
import Derived.Test.YtlpbfhbfaphicaaWN
import Derived.Test.YtlpbfhbfaphicaaWFootNe
import Derived.Test.YtlpbfhbfaphicaaWAt
import Derived.Test.YtlpbfhbfaphicaaWEqStruct
import Derived.Test.YtlpbfhbfaphicaaWRepsOne
import Derived.Test.YtlpbfhbfaphicaaWInv
import Derived.Test.YtlpbfhbfaphicaaWInvWords
import Derived.Test.YtlpbfhbfaphicaaWGuard
import Derived.Test.YtlpbfhbfaphicaaWNEv
import Derived.Test.YtlpbfhbfaphicaaWMore
namespace Go.Proofs.Ytlpbfhbfaphicaa.XC
open Go.RowKit Go.Proofs.YtlpbfhbfaphicaaW.PrintWords Go.Proofs.YtlpbfhbfaphicaaW.PrintLast Go.Proofs.YtlpbfhbfaphicaaW.PrintMore
attribute [local go_sem] max2_int min2_int max_two min_two max_three min_three max_four min_four   -- for this text's walks alone
set_option linter.unusedVariables false
set_option linter.unusedSimpArgs false



def errW : Option Int → Value
  | none => .nilIface
  | some c => .iface 0 (.int .i64 c)
theorem errW_none : errW none = .nilIface := rfl
theorem errW_some (c : Int) : errW (some c) = .iface 0 (.int .i64 c) := rfl

-- the values' own types

end Go.Proofs.Ytlpbfhbfaphicaa.XC
