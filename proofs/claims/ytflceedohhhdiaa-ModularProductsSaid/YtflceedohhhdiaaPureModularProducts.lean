/- Mul and Pow answer what the document says, of all numbers (0 modulo 0). -/
import Derived.Test.YtflceedohhhdiaaAlive02
namespace Go.Proofs.Ytflceedohhhdiaa.Pure
open Go Go.RowKit Go.Proofs.Ytflceedohhhdiaa.XM Go.Proofs.YtflceedohhhdiaaW.PrintWords Go.Proofs.YtflceedohhhdiaaW.PrintLast Go.Proofs.YtflceedohhhdiaaW.PrintMore Go.Proofs.Ytflceedohhhdiaa.Given Go.Proofs.Ytflceedohhhdiaa.M

theorem ModularProducts : epicyclelaw02_ModularProducts.Pure := by
  intro a b m wa wb wm
  have ha := wf_U wa
  have hb := wf_U wb
  have hm := wf_U wm
  refine Ev.rounds (g := fun k => epicyclelaw02_ModularProducts.f k a b m) ?_
  refine Ev.bind (f := fun k t => _) alive02 ?_
  refine congrE ⟨_, fun k => by rw [if_pos rfl], ?_⟩
  by_cases h : m = 0
  · subst h
    refine congrE ⟨_, fun k => by rw [if_pos rfl], ?_⟩
    refine Ev.bind (modular_Mul_zero a b) ?_
    refine congrE ⟨_, fun k => by rw [if_pos rfl], ?_⟩
    exact Ev.bind (modular_Pow_zero a b) (Ev.now _)
  · refine congrE ⟨_, fun k => by rw [if_neg h], ?_⟩
    refine Ev.bind (modular_Mul_ev ha hb hm h) (Ev.bind (ref02_Mul_ev ha hb hm h) ?_)
    refine congrE ⟨_, fun k => by rw [if_pos rfl], ?_⟩
    refine Ev.bind (modular_Pow_ev ha hb hm h) (Ev.bind (ref02_Pow_ev ha hb hm h) ?_)
    refine congrE ⟨_, fun k => by rw [beq_self_eq_true], ?_⟩
    exact Ev.now _

end Go.Proofs.Ytflceedohhhdiaa.Pure
