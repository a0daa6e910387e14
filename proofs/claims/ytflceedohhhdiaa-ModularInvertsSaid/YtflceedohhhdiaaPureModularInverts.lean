/- What has an inverse is just what is coprime to the modulus, from 2 on; the inverse is a rest, and makes 1. -/
import Derived.Test.YtflceedohhhdiaaAlive02
import Derived.Test.YtflceedohhhdiaaInv
namespace Go.Proofs.Ytflceedohhhdiaa.Pure
open Go Go.RowKit Go.Proofs.Ytflceedohhhdiaa.XM Go.Proofs.YtflceedohhhdiaaW.PrintWords Go.Proofs.YtflceedohhhdiaaW.PrintLast Go.Proofs.YtflceedohhhdiaaW.PrintMore Go.Proofs.Ytflceedohhhdiaa.Given Go.Proofs.Ytflceedohhhdiaa.M

theorem ModularInverts : epicyclelaw02_ModularInverts.Pure := by
  intro a m wa wm
  have ha := wf_U wa
  have hm := wf_U wm
  obtain ⟨a, rfl⟩ := Int.eq_ofNat_of_zero_le ha.1
  obtain ⟨m, rfl⟩ := Int.eq_ofNat_of_zero_le hm.1
  refine Ev.rounds (g := fun k => epicyclelaw02_ModularInverts.f k a m) ?_
  refine Ev.bind (f := fun k t => _) alive02 ?_
  refine congrE ⟨_, fun k => by rw [if_pos rfl], ?_⟩
  by_cases h : (m : Int) < 2
  · refine Ev.bind (modular_Inv_small h) ?_
    exact evP h (Ev.now _)
  · obtain ⟨R, hR, hI⟩ := modular_Inv_ev (a := a) (m := m) hm (by omega)
    refine Ev.bind hR ?_
    refine congrE ⟨_, fun k => by rw [if_neg h], ?_⟩
    refine Ev.bind (ref02_Gcd_ev a m) ?_
    by_cases hg : Nat.gcd a m = 1
    · obtain ⟨i1, i2, i3, i4⟩ := hI.1 hg
      have hRU : U R.1 := by unfold U at *; omega
      have e := ref02_Mul_ev ha hRU hm (by omega)
      have e1 : (a : Int) * R.1 % m = 1 := by
        rw [Int.mul_comm, emod_of_dvd_sub i4, Int.emod_eq_of_lt (by omega) (by omega)]
      rw [e1] at e
      refine congrE ⟨_, fun k => by rw [if_pos (by omega), if_pos i1, if_pos i3], ?_⟩
      refine Ev.bind e ?_
      refine congrE ⟨_, fun k => by rw [if_pos rfl], ?_⟩
      have c := modular_Coprime_ev a m
      rw [decide_eq_true hg] at c
      exact Ev.bind c (Ev.now _)
    · have hz := hI.2 hg
      subst hz
      refine congrE ⟨_, fun k => by rw [if_neg (by omega), if_pos rfl, if_neg (by simp)], ?_⟩
      have c := modular_Coprime_ev a m
      rw [decide_eq_false hg] at c
      exact Ev.bind c (Ev.now _)

end Go.Proofs.Ytflceedohhhdiaa.Pure
