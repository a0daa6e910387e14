/- Gcd divides both, and whatever divides both divides it; it is the document's. -/
import Derived.Test.YtflceedohhhdiaaAlive02
namespace Go.Proofs.Ytflceedohhhdiaa.Pure
open Go Go.RowKit Go.Proofs.Ytflceedohhhdiaa.XM Go.Proofs.YtflceedohhhdiaaW.PrintWords Go.Proofs.YtflceedohhhdiaaW.PrintLast Go.Proofs.YtflceedohhhdiaaW.PrintMore Go.Proofs.Ytflceedohhhdiaa.Given Go.Proofs.Ytflceedohhhdiaa.M

theorem ModularGcd : epicyclelaw02_ModularGcd.Pure := by
  intro a b d wa wb wd
  have ha := wf_U wa
  have hb := wf_U wb
  have hd := wf_U wd
  obtain ⟨a, rfl⟩ := Int.eq_ofNat_of_zero_le ha.1
  obtain ⟨b, rfl⟩ := Int.eq_ofNat_of_zero_le hb.1
  obtain ⟨d, rfl⟩ := Int.eq_ofNat_of_zero_le hd.1
  refine Ev.rounds (g := fun k => epicyclelaw02_ModularGcd.f k a b d) ?_
  refine Ev.bind (f := fun k t => _) alive02 ?_
  refine congrE ⟨_, fun k => by rw [if_pos rfl], ?_⟩
  have e3 := modular_Gcd_ev b a
  rw [Nat.gcd_comm] at e3
  refine Ev.bind (modular_Gcd_ev a b) (Ev.bind (ref02_Gcd_ev a b) ?_)
  refine congrE ⟨_, fun k => by rw [if_pos rfl], ?_⟩
  refine Ev.bind e3 ?_
  have hne : (((Nat.gcd a b : Nat) : Int) != ((Nat.gcd a b : Nat) : Int)) = false := by simp
  rw [hne]
  refine stepE ⟨_, fun k => by simp only [epicyclelaw02_ModularGcd.j0]; rw [if_neg (by simp)], ?_⟩
  by_cases hz : Nat.gcd a b = 0
  · obtain ⟨rfl, rfl⟩ := Nat.gcd_eq_zero_iff.1 hz
    exact Ev.congr (fun k => by simp) (Ev.now _)
  · have h1 : Int.tmod (a : Int) ((Nat.gcd a b : Nat) : Int) = 0 := by
      rw [tmod_pos (by omega), ← Int.natCast_emod, Nat.mod_eq_zero_of_dvd (Nat.gcd_dvd_left a b)]; rfl
    have h2 : Int.tmod (b : Int) ((Nat.gcd a b : Nat) : Int) = 0 := by
      rw [tmod_pos (by omega), ← Int.natCast_emod, Nat.mod_eq_zero_of_dvd (Nat.gcd_dvd_right a b)]; rfl
    rw [if_neg (by omega), if_pos h1, if_pos h2]
    by_cases h3 : (d : Int) = 0
    · rw [if_pos h3]; exact Ev.now _
    · rw [if_neg h3]
      by_cases h4 : Int.tmod (a : Int) d = 0
      · rw [if_pos h4]
        by_cases h5 : Int.tmod (b : Int) d = 0
        · rw [if_pos h5]
          have h6 : Int.tmod ((Nat.gcd a b : Nat) : Int) d = 0 := by
            rw [tmod_pos (by omega), ← Int.natCast_emod] at h4 h5
            rw [tmod_pos (by omega), ← Int.natCast_emod, Nat.mod_eq_zero_of_dvd (Nat.dvd_gcd (Nat.dvd_of_mod_eq_zero (by omega)) (Nat.dvd_of_mod_eq_zero (by omega)))]; rfl
          rw [h6]; exact Ev.now _
        · rw [if_neg h5]; exact Ev.now _
      · rw [if_neg h4]; exact Ev.now _

end Go.Proofs.Ytflceedohhhdiaa.Pure
