/- modular.Mul and modular.Pow in plain numbers (layer 2's, for later layers). -/
import Derived.Test.YtcphlhphdpjnfaaDiv
import Derived.Test.YtcphlhphdpjnfaaNt
namespace Go.Proofs.Ytcphlhphdpjnfaa.XS
open Go Go.RowKit Go.Proofs.YtcphlhphdpjnfaaW.PrintWords Go.Proofs.YtcphlhphdpjnfaaW.PrintLast Go.Proofs.YtcphlhphdpjnfaaW.PrintMore Go.Proofs.Ytcphlhphdpjnfaa.Given Go.Proofs.Ytcphlhphdpjnfaa.M

theorem modular_Mul_ev {a b m : Int} (ha : U a) (hb : U b) (hm : U m) (h : m ≠ 0) : Ev (fun k => modular_Mul.f k a b m) (a * b % m) := by
  have hlt : a * b < 18446744073709551616 * 18446744073709551616 := by
    have := mul_le_of ha.1 hb.1 (A := 18446744073709551615) (B := 18446744073709551615) (by unfold U at *; omega) (by unfold U at *; omega)
    omega
  have h0 : 0 ≤ a * b := Int.mul_nonneg ha.1 hb.1
  have e := bits_Rem64_ev (a * b / 18446744073709551616) (a * b % 18446744073709551616) m (by unfold U; omega) (by unfold U; omega) hm h
  rw [show a * b / 18446744073709551616 * 18446744073709551616 + a * b % 18446744073709551616 = a * b from by omega] at e
  refine Ev.congr (fun k => ?_) (Ev.bind e (Ev.now _))
  unfold modular_Mul.f bits_Mul64.f
  rw [if_neg h, if_pos ⟨ha.1, ha.2, hb.1, hb.2⟩]
  rfl

theorem modular_Pow_l0 {m : Int} (hm : U m) (h : m ≠ 0) (n : Nat) : ∀ (e : Nat) (a out : Int), e ≤ n → (e : Int) < 18446744073709551616 → U a → U out → out % m = out →
    Ev (fun k => modular_Pow.l0 k a e m out) (out * a ^ e % m) := by
  induction n using Nat.strongRecOn with
  | _ n ih =>
    intro e a out hen heU ha ho hom
    by_cases hz : e = 0
    · subst hz
      rw [Int.pow_zero, Int.mul_one, hom]
      refine Ev.step (fun k => ?_) (Ev.now _)
      simp only [modular_Pow.l0]
      rw [if_neg (by simp)]
    · have hc : ((e : Int) / 2) = ((e / 2 : Nat) : Int) := by omega
      have hU : U (e : Int) := by unfold U; omega
      by_cases hb : e % 2 = 1
      · have i := ih (e / 2) (by omega) (e / 2) (a * a % m) (out * a % m) (by omega) (by omega) (U_emod _ hm h) (U_emod _ hm h) (Int.emod_emod _ _)
        have e1 : out * a % m * (a * a % m) ^ (e / 2) % m = out * a ^ e % m := by
          rw [emod_mul_l, ← emod_mul_r, emod_pow, emod_mul_r, Int.mul_assoc, pow_half1 a e hb]
        rw [e1] at i
        refine stepE ⟨_, fun k => by simp only [modular_Pow.l0]; rw [if_pos (by omega), if_pos (by rw [and1 _ hU]; omega), hc], ?_⟩
        exact Ev.bind (modular_Mul_ev ho ha hm h) (Ev.bind (modular_Mul_ev ha ha hm h) i)
      · have i := ih (e / 2) (by omega) (e / 2) (a * a % m) out (by omega) (by omega) (U_emod _ hm h) ho hom
        have e1 : out * (a * a % m) ^ (e / 2) % m = out * a ^ e % m := by
          rw [← emod_mul_r, emod_pow, emod_mul_r, pow_half a e (by omega)]
        rw [e1] at i
        refine stepE ⟨_, fun k => by simp only [modular_Pow.l0]; rw [if_pos (by omega), if_neg (by rw [and1 _ hU]; omega), hc], ?_⟩
        exact Ev.bind (modular_Mul_ev ha ha hm h) i

theorem modular_Pow_ev {a e m : Int} (ha : U a) (he : U e) (hm : U m) (h : m ≠ 0) : Ev (fun k => modular_Pow.f k a e m) (a ^ e.toNat % m) := by
  obtain ⟨n, rfl⟩ := Int.eq_ofNat_of_zero_le he.1
  have i := modular_Pow_l0 hm h n n a (1 % m) (Nat.le_refl _) he.2 ha (U_one hm h) (Int.emod_emod _ _)
  rw [emod_mul_l, Int.one_mul] at i
  refine Ev.congr (fun k => ?_) i
  unfold modular_Pow.f
  rw [if_neg h]


end Go.Proofs.Ytcphlhphdpjnfaa.XS
