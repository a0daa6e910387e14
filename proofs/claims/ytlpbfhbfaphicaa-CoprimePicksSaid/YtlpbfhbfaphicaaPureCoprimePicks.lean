/- CoprimePicks answers true, of all numbers: the printed form's plain law. -/
import Derived.Test.YtlpbfhbfaphicaaPick15
namespace Go.Proofs.Ytlpbfhbfaphicaa.Pure
open Go Go.RowKit Go.Proofs.Ytlpbfhbfaphicaa.XE Go.Proofs.YtlpbfhbfaphicaaW.PrintWords Go.Proofs.YtlpbfhbfaphicaaW.PrintLast Go.Proofs.YtlpbfhbfaphicaaW.PrintMore

theorem CoprimePicks : epicyclelaw15_CoprimePicks.Pure := fun a b t k _ _ _ _ => Ev.rounds (D15.picks_ev a b t k)

end Go.Proofs.Ytlpbfhbfaphicaa.Pure
