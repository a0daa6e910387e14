/- Join answers the one number below the product that leaves both rests, and no other one does; or that there is none. -/
import Derived.Test.YtflceedohhhdiaaAlive02
import Derived.Test.YtflceedohhhdiaaInv
namespace Go.Proofs.Ytflceedohhhdiaa.Pure
open Go Go.RowKit Go.Proofs.Ytflceedohhhdiaa.XM Go.Proofs.YtflceedohhhdiaaW.PrintWords Go.Proofs.YtflceedohhhdiaaW.PrintLast Go.Proofs.YtflceedohhhdiaaW.PrintMore Go.Proofs.Ytflceedohhhdiaa.Given Go.Proofs.Ytflceedohhhdiaa.M

theorem ModularJoins : epicyclelaw02_ModularJoins.Pure := by
  intro r a s b o wr wa ws wb wo
  have hr := wf_U wr
  have ha := wf_U wa
  have hs := wf_U ws
  have hb := wf_U wb
  have ho := wf_U wo
  obtain ⟨a, rfl⟩ := Int.eq_ofNat_of_zero_le ha.1
  obtain ⟨b, rfl⟩ := Int.eq_ofNat_of_zero_le hb.1
  refine Ev.rounds (g := fun k => epicyclelaw02_ModularJoins.f k r a s b o) ?_
  refine Ev.bind (f := fun k t => _) alive02 ?_
  refine congrE ⟨_, fun k => by rw [if_pos rfl], ?_⟩
  have none_ : Ev (fun k => epicyclelaw02_ModularJoins.j0 k r a s b o 0 false true) true := by
    refine stepE ⟨_, fun k => by simp only [epicyclelaw02_ModularJoins.j0, if_true]; rfl, ?_⟩
    exact Ev.now _
  by_cases hz1 : a = 0
  · refine Ev.bind (modular_Join_none ha hb (.inl hz1)) ?_
    exact congrE ⟨_, fun k => by rw [if_pos (by omega)], none_⟩
  by_cases hz2 : b = 0
  · refine Ev.bind (modular_Join_none ha hb (.inr (.inl hz2))) ?_
    exact congrE ⟨_, fun k => by rw [if_neg (by omega), if_pos (by omega)], none_⟩
  by_cases hg : Nat.gcd a b = 1
  · have hwr : IntKind.u64.wrap (Int.tdiv (18446744073709551615 : Int) b) = 18446744073709551615 / b := by
      rw [tdiv_pos (by omega), wu64_id _ (Int.ediv_nonneg (by omega) (Int.natCast_nonneg b)) (by have := Int.ediv_le_self (b : Int) (show (0 : Int) ≤ 18446744073709551615 by omega); omega)]
    by_cases hab : (a : Int) * b < 18446744073709551616
    · obtain ⟨x, hx, x0, x1, x2, x3⟩ := modular_Join_ev hr hs hz1 hz2 hg hab
      refine Ev.bind hx ?_
      refine congrE ⟨_, fun k => by rw [if_neg (by omega), if_neg (by omega)], ?_⟩
      refine Ev.bind (ref02_Gcd_ev a b) ?_
      have hle : ¬ ((a : Int) > 18446744073709551615 / b) := by
        have : (a : Int) ≤ 18446744073709551615 / b := Int.le_ediv_of_mul_le (by omega) (by omega)
        omega
      refine congrE ⟨_, fun k => by rw [if_pos (by omega), hwr, decide_eq_false hle], ?_⟩
      have hw : IntKind.u64.wrap ((a : Int) * b) = a * b := wu64_id _ (Int.mul_nonneg (by omega) (by omega)) hab
      refine stepE ⟨_, fun k => by simp only [epicyclelaw02_ModularJoins.j0]; rw [if_neg (by simp), if_pos trivial, hw, if_neg (by omega), if_neg (by omega), tmod_pos x0, tmod_pos hr.1, if_pos x2, if_neg (by omega), tmod_pos x0, tmod_pos hs.1, if_pos x3], ?_⟩
      by_cases h1 : o ≥ (a : Int) * b
      · rw [if_pos h1]; exact Ev.now _
      · rw [if_neg h1]
        by_cases h2 : o = x
        · rw [if_pos h2]; exact Ev.now _
        · rw [if_neg h2, tmod_pos ho.1, tmod_pos ho.1]
          by_cases h3 : o % a = r % a
          · rw [if_pos h3]
            have : (o % (b : Int) != s % b) = true := by
              rw [bne_iff_ne]
              intro h4
              exact h2 (join_unique hg ho.1 (by omega) x0 x1 (h3.trans x2.symm) (h4.trans x3.symm))
            rw [this]; exact Ev.now _
          · rw [if_neg h3]; exact Ev.now _
    · refine Ev.bind (modular_Join_none ha hb (.inr (.inr (.inr (by omega))))) ?_
      refine congrE ⟨_, fun k => by rw [if_neg (by omega), if_neg (by omega)], ?_⟩
      refine Ev.bind (ref02_Gcd_ev a b) ?_
      have hgt : (a : Int) > 18446744073709551615 / b := by
        have : 18446744073709551615 / (b : Int) < a := Int.ediv_lt_of_lt_mul (by omega) (by omega)
        omega
      exact congrE ⟨_, fun k => by rw [if_pos (by omega), hwr, decide_eq_true hgt], none_⟩
  · refine Ev.bind (modular_Join_none ha hb (.inr (.inr (.inl hg)))) ?_
    refine congrE ⟨_, fun k => by rw [if_neg (by omega), if_neg (by omega)], ?_⟩
    refine Ev.bind (ref02_Gcd_ev a b) ?_
    exact congrE ⟨_, fun k => by rw [if_neg (by omega)], none_⟩

end Go.Proofs.Ytflceedohhhdiaa.Pure
