/- Parts of this claim's texts, packed by wip/tools/prune.py: what the proof does not reach is left out. -/
import Derived.Test.YtcphlhphdpjnfaaZR1
import Derived.Laws.StructEq
section
namespace Go.Proofs.YtcphlhphdpjnfaaW.PrintWords
open Go.RowKit
section
variable {P : Program} {d : Nat} {xs ys : Array Value} {f : Field} {fs : List Field} {a b : Value} {r s : Bool} {w : World}
end
end Go.Proofs.YtcphlhphdpjnfaaW.PrintWords
end
