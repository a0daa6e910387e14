/- Layer 4: ProofChecks' walk. -/
import Derived.Test.YtcnnaciilphadaaRefEv04b
import Derived.Test.YtcnnaciilphadaaArg04o
namespace Go.Proofs.Ytcnnaciilphadaa.XP
open Go Go.RowKit Go.Proofs.YtcnnaciilphadaaW.PrintWords Go.Proofs.YtcnnaciilphadaaW.PrintLast Go.Proofs.YtcnnaciilphadaaW.PrintMore Go.Proofs.Ytcnnaciilphadaa.Given Go.Proofs.Ytcnnaciilphadaa.Given04 Go.Proofs.Ytcnnaciilphadaa.M Go.Proofs.Ytcnnaciilphadaa.Mont Go.Proofs.Ytcnnaciilphadaa.Opens

theorem checks_walk (A : Option Addr) (c : Nat) (l : List S46) (w : World) (hc : l.length ≤ c) (hr : Kd.C k46 w A l.length l) (ho : okArg l) :
    Calls Try.prog 8 #[.slice A l.length c] w fun e w' => e = .returned (.bool true) ∧ Below w.heap.size w w' := by
  obtain ⟨k, hk⟩ := Ev.rounds (checks_ev (okArg_row ho))
  exact epicyclelaw04_ProofChecks.calls k A c l w hr hc hk

end Go.Proofs.Ytcnnaciilphadaa.XP
