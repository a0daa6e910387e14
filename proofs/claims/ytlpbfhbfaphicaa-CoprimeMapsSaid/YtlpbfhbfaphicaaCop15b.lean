/- Layer 15: Fits, In, Out, in plain words. -/
import Derived.Test.YtlpbfhbfaphicaaRd01
import Derived.Test.YtlpbfhbfaphicaaOut15
import Derived.Test.YtlpbfhbfaphicaaXE2
namespace Go.Proofs.Ytlpbfhbfaphicaa.D15
open Go Go.RowKit Go.Proofs.YtlpbfhbfaphicaaW.PrintWords Go.Proofs.YtlpbfhbfaphicaaW.PrintLast Go.Proofs.YtlpbfhbfaphicaaW.PrintMore Go.Proofs.Ytlpbfhbfaphicaa.M Go.Proofs.Ytlpbfhbfaphicaa.XC Go.Proofs.Ytlpbfhbfaphicaa.XE

set_option linter.unusedVariables false
/-! ### Fits -/
theorem gcd_ev (d : Nat) : ∀ (n x : Nat), n < d → Ev (fun k => modular_Gcd.l0 k (x : Int) (n : Int)) ((Nat.gcd x n : Nat) : Int) := by
  induction d with
  | zero => intro n x h; omega
  | succ d ih =>
    intro n x hd
    by_cases c : n = 0
    · subst c
      exact stepE ⟨_, fun k => by simp only [modular_Gcd.l0]; rw [if_neg (by decide)], by rw [Nat.gcd_zero_right]; exact Ev.now _⟩
    · have p1 : (n : Int) > 0 := by omega
      have p2 : ¬ (n : Int) = 0 := by omega
      have e : Int.tmod (x : Int) (n : Int) = ((x % n : Nat) : Int) := by rw [tmod_pos (Int.natCast_nonneg _), Int.natCast_emod]
      have hlt : x % n < n := Nat.mod_lt _ (by omega)
      refine stepE ⟨_, fun k => by simp only [modular_Gcd.l0]; rw [if_pos p1, if_neg p2, e], ?_⟩
      have := ih (x % n) n (by omega)
      rw [Nat.gcd_comm x n, Nat.gcd_rec n x, Nat.gcd_comm]
      exact this
/-- Is a part of n, coprime to the rest? -/
def fitB (n a : Int) : Bool := decide (1 < a ∧ a < n ∧ n % a = 0 ∧ Nat.gcd a.toNat (n / a).toNat = 1)
theorem fits_ev {n a : Int} (hn : n ≤ 1100000) : Ev (fun k => coprime_Fits.f k n a) (fitB n a) := by
  by_cases h0 : n > 1
  · by_cases h1 : a > 1
    · by_cases h2 : a < n
      · have a0 : ¬ a = 0 := by omega
        have n0 : 0 ≤ n := by omega
        by_cases h3 : n % a = 0
        · have q0 : 0 ≤ n / a := Int.ediv_nonneg n0 (by omega)
          have q1 : n / a ≤ n := Int.ediv_le_self _ n0
          have w1 : IntKind.u64.wrap a = ((a.toNat : Nat) : Int) := by rw [wu64_id _ (by omega) (by omega)]; omega
          have w2 : IntKind.u64.wrap (wrap64 (Int.tdiv n a)) = (((n / a).toNat : Nat) : Int) := by rw [tdiv_pos n0, w64_id _ (by omega) (by omega), wu64_id _ (by omega) (by omega)]; omega
          have G : Ev (fun k => modular_Coprime.f k (IntKind.u64.wrap a) (IntKind.u64.wrap (wrap64 (Int.tdiv n a)))) (((Nat.gcd a.toNat (n / a).toNat : Nat) : Int) == 1) := by
            rw [w1, w2]
            exact Ev.congr (fun k => rfl) (Ev.bind (gcd_ev _ _ _ (Nat.lt_succ_self _)) (Ev.now _))
          have e : fitB n a = (((Nat.gcd a.toNat (n / a).toNat : Nat) : Int) == 1) := by
            unfold fitB
            by_cases c : Nat.gcd a.toNat (n / a).toNat = 1
            · rw [decide_eq_true ⟨h1, h2, h3, c⟩, c]; rfl
            · rw [decide_eq_false (fun h => c h.2.2.2)]
              symm
              exact beq_eq_false_iff_ne.2 (by omega)
          rw [e]
          exact Ev.congr (fun k => by unfold coprime_Fits.f; rw [if_pos h0, if_pos h1, if_pos h2, if_neg a0, if_pos (by rw [tmod_pos n0]; exact h3)]) (Ev.bind G (Ev.now _))
        · have e : fitB n a = false := decide_eq_false fun h => h3 h.2.2.1
          rw [e]
          exact Ev.congr (f := fun _ => some false) (fun k => by unfold coprime_Fits.f; rw [if_pos h0, if_pos h1, if_pos h2, if_neg a0, if_neg (by rw [tmod_pos n0]; exact h3)]) (Ev.now _)
      · have e : fitB n a = false := decide_eq_false fun h => h2 h.2.1
        rw [e]
        exact Ev.congr (f := fun _ => some false) (fun k => by unfold coprime_Fits.f; rw [if_pos h0, if_pos h1, if_neg h2]) (Ev.now _)
    · have e : fitB n a = false := decide_eq_false fun h => h1 h.1
      rw [e]
      exact Ev.congr (f := fun _ => some false) (fun k => by unfold coprime_Fits.f; rw [if_pos h0, if_neg h1]) (Ev.now _)
  · have e : fitB n a = false := decide_eq_false fun h => by omega
    rw [e]
    exact Ev.congr (f := fun _ => some false) (fun k => by unfold coprime_Fits.f; rw [if_neg h0]) (Ev.now _)

end Go.Proofs.Ytlpbfhbfaphicaa.D15
