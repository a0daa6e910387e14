/- Parts of this claim's texts, packed by wip/tools/prune.py: what the proof does not reach is left out. -/
import Derived.Test.YtcphlhphdpjnfaaZR7
import Derived.Lib.LazyBuf
section
namespace Go.Proofs.Ytcphlhphdpjnfaa.Given04
open Go Go.RowKit Go.Proofs.YtcphlhphdpjnfaaW.PrintWords Go.Proofs.YtcphlhphdpjnfaaW.PrintLast Go.Proofs.YtcphlhphdpjnfaaW.PrintMore Go.Proofs.Ytcphlhphdpjnfaa.Given Go.Proofs.Ytcphlhphdpjnfaa.M Go.Proofs.Ytcphlhphdpjnfaa.Mont Go.Proofs.Ytcphlhphdpjnfaa.XS Go.Proofs.Ytcphlhphdpjnfaa.XT
end Go.Proofs.Ytcphlhphdpjnfaa.Given04
end
