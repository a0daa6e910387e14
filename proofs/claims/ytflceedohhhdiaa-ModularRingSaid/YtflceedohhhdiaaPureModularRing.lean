/- Rests are a ring: sums and products in any order, products spread over sums, opposites come to 0. -/
import Derived.Test.YtflceedohhhdiaaAlive02
namespace Go.Proofs.Ytflceedohhhdiaa.Pure
open Go Go.RowKit Go.Proofs.Ytflceedohhhdiaa.XM Go.Proofs.YtflceedohhhdiaaW.PrintWords Go.Proofs.YtflceedohhhdiaaW.PrintLast Go.Proofs.YtflceedohhhdiaaW.PrintMore Go.Proofs.Ytflceedohhhdiaa.Given Go.Proofs.Ytflceedohhhdiaa.M

theorem evR {α : Type} {g : Nat → Option α} {r r' : α} (e : Ev g r) (h : r = r') : Ev g r' := h ▸ e

theorem ModularRing : epicyclelaw02_ModularRing.Pure := by
  intro a b c m wa wb wc wm
  have ha := wf_U wa
  have hb := wf_U wb
  have hc := wf_U wc
  have hm := wf_U wm
  refine Ev.rounds (g := fun k => epicyclelaw02_ModularRing.f k a b c m) ?_
  refine Ev.bind (f := fun k t => _) alive02 ?_
  refine evP rfl ?_
  by_cases h : m = 0
  · exact evP h (Ev.now _)
  refine evN h ?_
  have u := fun x => U_emod x hm h
  have one : U 1 := by unfold U; omega
  refine Ev.bind (modular_Add_ev hb hc hm h) (Ev.bind (evR (modular_Mul_ev ha (u (b + c)) hm h) (emod_mul_r _ _ _)) ?_)
  refine Ev.bind (modular_Mul_ev ha hb hm h) (Ev.bind (modular_Mul_ev ha hc hm h) (Ev.bind (evR (modular_Add_ev (u (a * b)) (u (a * c)) hm h) (r' := a * (b + c) % m) (by rw [Int.emod_add_emod, Int.add_emod_emod, Int.mul_add])) ?_))
  refine evP rfl ?_
  refine Ev.bind (modular_Add_ev ha hb hm h) (Ev.bind (evR (modular_Add_ev (u (a + b)) hc hm h) (r' := (a + b + c) % m) (by rw [Int.emod_add_emod])) ?_)
  refine Ev.bind (modular_Add_ev hb hc hm h) (Ev.bind (evR (modular_Add_ev ha (u (b + c)) hm h) (r' := (a + b + c) % m) (by rw [Int.add_emod_emod, Int.add_assoc])) ?_)
  refine evP rfl ?_
  refine Ev.bind (modular_Mul_ev ha hb hm h) (Ev.bind (evR (modular_Mul_ev (u (a * b)) hc hm h) (r' := a * b * c % m) (by rw [emod_mul_l])) ?_)
  refine Ev.bind (modular_Mul_ev hb hc hm h) (Ev.bind (evR (modular_Mul_ev ha (u (b * c)) hm h) (r' := a * b * c % m) (by rw [emod_mul_r, Int.mul_assoc])) ?_)
  refine evP rfl ?_
  refine Ev.bind (modular_Mul_ev ha hb hm h) (Ev.bind (evR (modular_Mul_ev hb ha hm h) (r' := a * b % m) (by rw [Int.mul_comm])) ?_)
  refine evP rfl ?_
  rw [modular_Neg_eq ha hm h]
  refine Ev.bind (Ev.now _) ?_
  refine Ev.bind (evR (modular_Add_ev ha (u (-a)) hm h) (r' := 0) (by rw [Int.add_emod_emod, Int.add_right_neg, Int.zero_emod])) ?_
  refine evP rfl ?_
  refine Ev.bind (evR (modular_Mul_ev ha one hm h) (r' := a % m) (by rw [Int.mul_one])) ?_
  rw [tmod_pos ha.1]
  refine congrE ⟨_, fun k => by rw [beq_self_eq_true], ?_⟩
  exact Ev.now _

end Go.Proofs.Ytflceedohhhdiaa.Pure
