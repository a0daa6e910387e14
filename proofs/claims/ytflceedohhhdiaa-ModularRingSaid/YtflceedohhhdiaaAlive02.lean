/- The document's example of layer 2 holds of the printed program. -/
import Derived.Test.YtflceedohhhdiaaMod
namespace Go.Proofs.Ytflceedohhhdiaa.XM
open Go Go.RowKit Go.Proofs.YtflceedohhhdiaaW.PrintWords Go.Proofs.YtflceedohhhdiaaW.PrintLast Go.Proofs.YtflceedohhhdiaaW.PrintMore Go.Proofs.Ytflceedohhhdiaa.Given Go.Proofs.Ytflceedohhhdiaa.M
theorem alive02 : Ev (fun k => epicyclelaw02_alive.f k) true := Ev.of epicyclelaw02_alive.mono (k := 40) (by decide +kernel)
end Go.Proofs.Ytflceedohhhdiaa.XM
