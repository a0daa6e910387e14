/- Add, Sub and Neg answer what the document says, of all numbers (0 modulo 0). -/
import Derived.Test.YtflceedohhhdiaaAlive02
namespace Go.Proofs.Ytflceedohhhdiaa.Pure
open Go Go.RowKit Go.Proofs.Ytflceedohhhdiaa.XM Go.Proofs.YtflceedohhhdiaaW.PrintWords Go.Proofs.YtflceedohhhdiaaW.PrintLast Go.Proofs.YtflceedohhhdiaaW.PrintMore Go.Proofs.Ytflceedohhhdiaa.Given Go.Proofs.Ytflceedohhhdiaa.M

theorem ModularSums : epicyclelaw02_ModularSums.Pure := by
  intro a b m wa wb wm
  have ha := wf_U wa
  have hb := wf_U wb
  have hm := wf_U wm
  refine Ev.rounds (g := fun k => epicyclelaw02_ModularSums.f k a b m) ?_
  refine Ev.bind (f := fun k t => _) alive02 ?_
  refine congrE ⟨_, fun k => by rw [if_pos rfl], ?_⟩
  by_cases h : m = 0
  · subst h
    refine congrE ⟨_, fun k => by rw [if_pos rfl], ?_⟩
    refine Ev.bind (modular_Add_zero a b) ?_
    refine congrE ⟨_, fun k => by rw [if_pos rfl], ?_⟩
    refine Ev.bind (modular_Sub_zero a b) ?_
    refine congrE ⟨_, fun k => by rw [if_pos rfl, modular_Neg_zero], ?_⟩
    exact Ev.now _
  · refine congrE ⟨_, fun k => by rw [if_neg h], ?_⟩
    refine Ev.bind (modular_Add_ev ha hb hm h) ?_
    have e := modular_Sub_ev ha hb hm h
    rw [ref02_Add_eq ha hb hm h, modular_Neg_eq ha hm h, ref02_Neg_eq ha hm h, ref02_Neg_eq hb hm h]
    simp only [Option.bind_some, if_true]
    refine Ev.bind e ?_
    refine congrE ⟨_, fun k => by rw [ref02_Add_eq ha (U_emod (-b) hm h) hm h], ?_⟩
    rw [Int.add_emod_emod, ← Int.sub_eq_add_neg]
    refine congrE ⟨_, fun k => by rw [Option.bind_some, beq_self_eq_true], ?_⟩
    exact Ev.now _

end Go.Proofs.Ytflceedohhhdiaa.Pure
