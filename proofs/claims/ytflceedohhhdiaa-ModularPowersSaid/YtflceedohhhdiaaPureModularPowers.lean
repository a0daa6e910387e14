/- Powers of sums of exponents are products, of products powers of powers (exponents below 2^31). -/
import Derived.Test.YtflceedohhhdiaaAlive02
namespace Go.Proofs.Ytflceedohhhdiaa.Pure
open Go Go.RowKit Go.Proofs.Ytflceedohhhdiaa.XM Go.Proofs.YtflceedohhhdiaaW.PrintWords Go.Proofs.YtflceedohhhdiaaW.PrintLast Go.Proofs.YtflceedohhhdiaaW.PrintMore Go.Proofs.Ytflceedohhhdiaa.Given Go.Proofs.Ytflceedohhhdiaa.M

theorem ModularPowers : epicyclelaw02_ModularPowers.Pure := by
  intro a e f m wa we wf_ wm
  have ha := wf_U wa
  have he := wf_U we
  have hf := wf_U wf_
  have hm := wf_U wm
  refine Ev.rounds (g := fun k => epicyclelaw02_ModularPowers.f k a e f m) ?_
  refine Ev.bind (f := fun k t => _) alive02 ?_
  refine congrE ⟨_, fun k => by rw [if_pos rfl], ?_⟩
  have ht : Ev (fun k => epicyclelaw02_ModularPowers.j0 k a e f m true) true := by
    refine Ev.step (fun k => ?_) (Ev.now _)
    simp only [epicyclelaw02_ModularPowers.j0, if_true]
  by_cases h : m = 0
  · refine congrE ⟨_, fun k => by rw [if_pos h], ?_⟩
    exact ht
  · by_cases h1 : e ≥ 2147483648
    · refine congrE ⟨_, fun k => by rw [if_neg h, if_pos h1], ?_⟩
      exact ht
    · by_cases h2 : f ≥ 2147483648
      · refine congrE ⟨_, fun k => by rw [if_neg h, if_neg h1, decide_eq_true h2], ?_⟩
        exact ht
      · refine congrE ⟨_, fun k => by rw [if_neg h, if_neg h1, decide_eq_false h2], ?_⟩
        refine stepE ⟨_, fun k => by simp only [epicyclelaw02_ModularPowers.j0]; rw [if_neg (by simp)], ?_⟩
        have hef : e * f < 2147483648 * 2147483648 := by
          have := mul_le_of he.1 hf.1 (A := 2147483647) (B := 2147483647) (by omega) (by omega)
          omega
        have hef0 : 0 ≤ e * f := Int.mul_nonneg he.1 hf.1
        have w1 : IntKind.u64.wrap (e + f) = e + f := wu64_id _ (by unfold U at *; omega) (by omega)
        have w2 : IntKind.u64.wrap (e * f) = e * f := wu64_id _ hef0 (by omega)
        rw [w1, w2]
        have p1 := modular_Pow_ev (e := e + f) ha (by unfold U at *; omega) hm h
        have p2 := modular_Pow_ev ha he hm h
        have p3 := modular_Pow_ev ha hf hm h
        have p4 := modular_Mul_ev (U_emod (a ^ e.toNat) hm h) (U_emod (a ^ f.toNat) hm h) hm h
        have p5 := modular_Pow_ev (e := e * f) ha (by unfold U at *; omega) hm h
        have p6 := modular_Pow_ev (U_emod (a ^ e.toNat) hm h) hf hm h
        have s1 : a ^ e.toNat % m * (a ^ f.toNat % m) % m = a ^ (e + f).toNat % m := by
          rw [emod_mul_l, emod_mul_r, ← Int.pow_add, show e.toNat + f.toNat = (e + f).toNat from by unfold U at *; omega]
        have s2 : (a ^ e.toNat % m) ^ f.toNat % m = a ^ (e * f).toNat % m := by
          rw [emod_pow, ← Int.pow_mul, Int.toNat_mul he.1 hf.1]
        rw [s1] at p4
        rw [s2] at p6
        refine Ev.bind p1 (Ev.bind p2 (Ev.bind p3 (Ev.bind p4 ?_)))
        refine congrE ⟨_, fun k => by rw [if_pos rfl], ?_⟩
        refine Ev.bind p5 (Ev.bind p2 (Ev.bind p6 ?_))
        refine congrE ⟨_, fun k => by rw [beq_self_eq_true], ?_⟩
        exact Ev.now _

end Go.Proofs.Ytflceedohhhdiaa.Pure
