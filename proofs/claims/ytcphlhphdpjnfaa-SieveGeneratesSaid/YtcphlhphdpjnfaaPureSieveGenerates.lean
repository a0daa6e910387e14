/- Generator's answer is the document's, and generates: the plain law. -/
import Derived.Test.YtcphlhphdpjnfaaGen05
import Derived.Test.YtcphlhphdpjnfaaRef02P
namespace Go.Proofs.Ytcphlhphdpjnfaa.Pure
open Go Go.RowKit Go.Proofs.Ytcphlhphdpjnfaa.XS Go.Proofs.YtcphlhphdpjnfaaW.PrintWords Go.Proofs.YtcphlhphdpjnfaaW.PrintLast Go.Proofs.YtcphlhphdpjnfaaW.PrintMore Go.Proofs.Ytcphlhphdpjnfaa.Given Go.Proofs.Ytcphlhphdpjnfaa.Given05 Go.Proofs.Ytcphlhphdpjnfaa.M Go.Proofs.Ytcphlhphdpjnfaa.Num

theorem SieveGenerates : epicyclelaw05_SieveGenerates.Pure := by
  intro x0 x1 h0 h1
  have u0 := wf_U h0
  have u1 := wf_U h1
  refine Ev.rounds ?_
  by_cases hp : OddP x0
  · obtain ⟨p, rfl⟩ : ∃ p : Nat, x0 = p := ⟨x0.toNat, by have := hp.1; omega⟩
    have pp : Prime p := hp.2.2
    have b1 := hp.1
    have b2 := hp.2.1
    obtain ⟨r, hr⟩ := XS.exists_least pp (by omega)
    have r2 := hr.1
    have rp := hr.2.1
    have full := hr.2.2.1
    have hw : IntKind.u64.wrap ((p : Int) - 1) = ((p - 1 : Nat) : Int) := by rw [wu64_id _ (by omega) (by omega)]; omega
    have Pw := ref02_Pow_ev (a := (r : Int)) (e := x1) (m := (p : Int)) ⟨by omega, by omega⟩ u1 u0 (by omega)
    refine Ev.congr (fun k => rfl) (Ev.bind alive_ev (evP rfl (Ev.bind (Generator_odd hp hr) (Ev.bind (rGenerator_odd hp hr) (evP rfl (evN (by omega) (Ev.bind Pw (evN (by rw [hw]; omega) ?_))))))))
    have e : (((r : Int) ^ x1.toNat % (p : Int) == 1) == (Int.tmod x1 (IntKind.u64.wrap ((p : Int) - 1)) == 0)) = true := by
      rw [beq_iff_eq, Bool.eq_iff_iff, beq_iff_eq, beq_iff_eq, hw, tmod_pos u1.1, ← Int.natCast_pow, ← Int.natCast_emod]
      obtain ⟨n, rfl⟩ : ∃ n : Nat, x1 = n := ⟨x1.toNat, by have := u1.1; omega⟩
      rw [Int.toNat_natCast, ← Int.natCast_emod]
      have := full n
      constructor
      · intro h
        have := this.1 (by omega)
        rw [Nat.mod_eq_zero_of_dvd this]; rfl
      · intro h
        have := this.2 (Nat.dvd_of_mod_eq_zero (by omega))
        rw [this]; rfl
    rw [e]
    exact Ev.now _
  · exact Ev.congr (fun k => rfl) (Ev.bind alive_ev (evP rfl (Ev.bind (Generator_not hp) (Ev.bind (rGenerator_not hp) (evP rfl (evP rfl (Ev.now _)))))))

end Go.Proofs.Ytcphlhphdpjnfaa.Pure
