-- Printed by a program of this session (wip/tools/mkprint.py) out of the translation.
import Derived.Test.YtcnnaciilphadaaProg
import Derived.Below
import Derived.Deep.Draws
import Derived.Deep.AppendLies
import Derived.Maps.AppendAt
import Derived.OwnWalk
import Derived.Laws.BytesArg
import Derived.Laws.MakeOwn
import Derived.Laws.OwnMore
import Derived.Deep.OwnRows
import Derived.Tactics
import Derived.Lib.ConvBytes
import Derived.Laws.Slices
import Derived.WalkKit
import Derived.KernelRfl
import Derived.RowKit3
import Derived.Deep.LoopGhost
import Derived.Deep.QuietTactic
import Derived.BigQuiet
import Derived.WideLaws
import Derived.Deep.DeepCutAuto
import Derived.Deep.CutBlock
import Derived.Deep.RegionHeld3
import Derived.Laws.Rows
import Derived.Lib.AppendStr
import Derived.ArgAppend
import Derived.Laws.IdiomCopy
import Derived.OrdersHeld
import Derived.Laws.BitsLemmas
import Derived.RowKit
import Derived.Test.YtcnnaciilphadaaWWords
import Derived.Test.YtcnnaciilphadaaWLast
import Derived.Test.YtcnnaciilphadaaWTab
import Derived.Test.YtcnnaciilphadaaWQPut
import Derived.Test.YtcnnaciilphadaaWApart
import Derived.Test.YtcnnaciilphadaaWArr
import Derived.Test.YtcnnaciilphadaaWZeros
import Derived.Test.YtcnnaciilphadaaWFoot
import Derived.Test.YtcnnaciilphadaaWKept
import Derived.Test.YtcnnaciilphadaaWShare
import Derived.Test.YtcnnaciilphadaaWN
import Derived.Test.YtcnnaciilphadaaWEqStruct
import Derived.Test.YtcnnaciilphadaaWRepsOne
import Derived.Test.YtcnnaciilphadaaWGuard
import Derived.Test.YtcnnaciilphadaaWNEv
import Derived.Test.YtcnnaciilphadaaWMore
import Derived.Test.YtcnnaciilphadaaGiven
namespace Go.Proofs.Ytcnnaciilphadaa.XR
open Go.RowKit Go.Proofs.Ytcnnaciilphadaa.Given Go.Proofs.YtcnnaciilphadaaW.PrintWords Go.Proofs.YtcnnaciilphadaaW.PrintLast Go.Proofs.YtcnnaciilphadaaW.PrintMore
attribute [local go_sem] max2_int min2_int max_two min_two max_three min_three max_four min_four   -- for this text's walks alone
set_option linter.unusedVariables false
set_option linter.unusedSimpArgs false



def errW : Option Int → Value
  | none => .nilIface
  | some c => .iface 0 (.int .i64 c)
theorem errW_none : errW none = .nilIface := rfl
theorem errW_some (c : Int) : errW (some c) = .iface 0 (.int .i64 c) := rfl

-- the values' own types

theorem zA {α : Type _} (l : List α) (i : Nat) (a : α) : l.toArray.setIfInBounds i a = (l.set i a).toArray := List.setIfInBounds_toArray ..
theorem zB {α : Type _} (a : α) (l : List α) (b : α) : (a :: l).set 0 b = b :: l := rfl
theorem zC {α : Type _} (a : α) (l : List α) (n : Nat) (b : α) : (a :: l).set (n + 1) b = a :: l.set n b := rfl

end Go.Proofs.Ytcnnaciilphadaa.XR
