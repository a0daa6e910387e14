/- Parts of this claim's texts, packed by wip/tools/prune.py: what the proof does not reach is left out. -/
import Derived.Test.YtndkmnjbjlfeaaaGreatPP7
section
namespace Go.Proofs.YtndkmnjbjlfeaaaGreat.XS
open Go Go.RowKit Go.Proofs.YtndkmnjbjlfeaaaGreatW.PrintWords Go.Proofs.YtndkmnjbjlfeaaaGreatW.PrintLast Go.Proofs.YtndkmnjbjlfeaaaGreatW.PrintMore Go.Proofs.YtndkmnjbjlfeaaaGreat.Given Go.Proofs.YtndkmnjbjlfeaaaGreat.M
theorem ref02_Add_eq {a b m : Int} (ha : U a) (hb : U b) (hm : U m) (h : m ≠ 0) : epicycleref02_Add.f a b m = some ((a + b) % m) := by
  have hp := pos_of_U hm h
  unfold epicycleref02_Add.f
  rw [if_neg h, tmod_pos ha.1, tmod_pos hb.1]
  have a0 := Int.emod_nonneg a h
  have a1 := Int.emod_lt_of_pos a hp
  have b0 := Int.emod_nonneg b h
  have b1 := Int.emod_lt_of_pos b hp
  have hs : (a + b) % m = (a % m + b % m) % m := by rw [Int.emod_add_emod, Int.add_emod_emod]
  rw [hs]
  unfold U at *
  generalize a % m = x at *
  generalize b % m = y at *
  rw [wu64_id (m - y) (by omega) (by omega)]
  by_cases hc : x ≥ m - y
  · rw [if_pos hc, wu64_id _ (by omega) (by omega)]
    congr 1
    have e : (x + y) % m = (x + y - m) % m := (Int.sub_emod_right _ _).symm
    rw [e, Int.emod_eq_of_lt (by omega) (by omega)]
    omega
  · rw [if_neg hc, wu64_id _ (by omega) (by omega), Int.emod_eq_of_lt (by omega) (by omega)]
theorem ref02_Mul_l0 {m : Int} (hm : U m) (h : m ≠ 0) (n : Nat) : ∀ (b : Nat) (a out : Int), b ≤ n → (b : Int) < 18446744073709551616 → U a → U out → out % m = out →
    Ev (fun k => epicycleref02_Mul.l0 k a b m out) ((out + a * b) % m) := by
  induction n using Nat.strongRecOn with
  | _ n ih =>
    intro b a out hbn hbU ha ho hom
    by_cases hz : b = 0
    · subst hz
      rw [show ((0 : Nat) : Int) = 0 from rfl, Int.mul_zero, Int.add_zero, hom]
      refine Ev.step (fun k => ?_) (Ev.now _)
      simp only [epicycleref02_Mul.l0]
      rw [if_neg (by simp)]
    · have hc : IntKind.u64.wrap (Int.tdiv (b : Int) 2) = ((b / 2 : Nat) : Int) := by
        rw [tdiv_pos (by omega), wu64_id _ (by omega) (by omega)]; omega
      by_cases hb : b % 2 = 1
      · have i := ih (b / 2) (by omega) (b / 2) ((a + a) % m) ((out + a) % m) (by omega) (by omega) (U_emod _ hm h) (U_emod _ hm h) (Int.emod_emod _ _)
        have e1 : ((out + a) % m + (a + a) % m * ((b / 2 : Nat) : Int)) % m = (out + a * b) % m := by
          rw [Int.emod_add_emod, ← Int.add_emod_emod, emod_mul_l, Int.add_emod_emod]
          congr 1
          have hb2 : (b : Int) = 1 + 2 * ((b / 2 : Nat) : Int) := by omega
          generalize ((b / 2 : Nat) : Int) = c at *
          rw [hb2, Int.mul_add, Int.add_mul, Int.mul_one, show a * (2 * c) = a * c + a * c from by rw [show (2 : Int) * c = c + c from by omega, Int.mul_add]]
          omega
        rw [e1] at i
        refine Ev.step (fun k => ?_) i
        simp only [epicycleref02_Mul.l0]
        rw [if_pos (by omega), if_pos (by rw [tmod_pos (by omega)]; omega), ref02_Add_eq ho ha hm h, ref02_Add_eq ha ha hm h, hc]
        rfl
      · have i := ih (b / 2) (by omega) (b / 2) ((a + a) % m) out (by omega) (by omega) (U_emod _ hm h) ho hom
        have e1 : (out + (a + a) % m * ((b / 2 : Nat) : Int)) % m = (out + a * b) % m := by
          rw [← Int.add_emod_emod, emod_mul_l, Int.add_emod_emod]
          congr 1
          have hb2 : (b : Int) = 2 * ((b / 2 : Nat) : Int) := by omega
          generalize ((b / 2 : Nat) : Int) = c at *
          rw [hb2, Int.add_mul, show a * (2 * c) = a * c + a * c from by rw [show (2 : Int) * c = c + c from by omega, Int.mul_add]]
        rw [e1] at i
        refine Ev.step (fun k => ?_) i
        simp only [epicycleref02_Mul.l0]
        rw [if_pos (by omega), if_neg (by rw [tmod_pos (by omega)]; omega), ref02_Add_eq ha ha hm h, hc]
        rfl
theorem ref02_Mul_ev {a b m : Int} (ha : U a) (hb : U b) (hm : U m) (h : m ≠ 0) : Ev (fun k => epicycleref02_Mul.f k a b m) (a * b % m) := by
  obtain ⟨n, rfl⟩ := Int.eq_ofNat_of_zero_le hb.1
  have i := ref02_Mul_l0 hm h n n (a % m) 0 (Nat.le_refl _) hb.2 (U_emod _ hm h) (by unfold U; omega) (by simp)
  rw [Int.zero_add, emod_mul_l] at i
  refine Ev.congr (fun k => ?_) i
  unfold epicycleref02_Mul.f
  rw [if_neg h, tmod_pos ha.1]
theorem ref02_Pow_ev' {a m : Int} (ha : U a) (hm : U m) (h : m ≠ 0) (n : Nat) : ∀ e : Nat, e ≤ n → (e : Int) < 18446744073709551616 → Ev (fun k => epicycleref02_Pow.f k a e m) (a ^ e % m) := by
  induction n using Nat.strongRecOn with
  | _ n ih =>
    intro e hen heU
    by_cases hz : e = 0
    · subst hz
      refine Ev.step (fun k => ?_) (Ev.now _)
      simp only [epicycleref02_Pow.f]
      rw [if_pos (by simp), if_neg h, Int.pow_zero]
    · have hc : IntKind.u64.wrap (Int.tdiv (e : Int) 2) = ((e / 2 : Nat) : Int) := by
        rw [tdiv_pos (by omega), wu64_id _ (by omega) (by omega)]; omega
      have i := ih (e / 2) (by omega) (e / 2) (by omega) (by omega)
      have u1 := U_emod (a ^ (e / 2)) hm h
      have m1 := ref02_Mul_ev u1 u1 hm h
      have e0 : a ^ (e / 2) % m * (a ^ (e / 2) % m) % m = (a * a) ^ (e / 2) % m := by
        rw [emod_mul_l, emod_mul_r, Int.mul_pow]
      rw [e0] at m1
      by_cases hb : e % 2 = 1
      · have m2 := ref02_Mul_ev (U_emod ((a * a) ^ (e / 2)) hm h) ha hm h
        have e1 : (a * a) ^ (e / 2) % m * a % m = a ^ e % m := by rw [emod_mul_l, Int.mul_comm, pow_half1 a e hb]
        rw [e1] at m2
        refine stepE ⟨_, fun k => by simp only [epicycleref02_Pow.f]; rw [if_neg (by omega), hc], ?_⟩
        refine Ev.bind i (Ev.bind m1 ?_)
        rw [tmod_pos (by omega)]
        refine congrE ⟨_, fun k => by rw [if_pos (by omega)], ?_⟩
        exact Ev.bind m2 (Ev.now _)
      · rw [pow_half a e (by omega)] at m1
        refine stepE ⟨_, fun k => by simp only [epicycleref02_Pow.f]; rw [if_neg (by omega), hc], ?_⟩
        refine Ev.bind i (Ev.bind m1 ?_)
        rw [tmod_pos (by omega)]
        refine congrE ⟨_, fun k => by rw [if_neg (by omega)], ?_⟩
        exact Ev.now _
theorem ref02_Pow_ev {a e m : Int} (ha : U a) (he : U e) (hm : U m) (h : m ≠ 0) : Ev (fun k => epicycleref02_Pow.f k a e m) (a ^ e.toNat % m) := by
  obtain ⟨n, rfl⟩ := Int.eq_ofNat_of_zero_le he.1
  exact ref02_Pow_ev' ha hm h n n (Nat.le_refl _) he.2
end Go.Proofs.YtndkmnjbjlfeaaaGreat.XS
end
