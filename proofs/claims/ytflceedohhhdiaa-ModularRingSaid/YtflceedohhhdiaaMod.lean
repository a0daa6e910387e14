/- Layer 2 (modular), and the document's answers (epicycleref02), as printed: what they come to, in plain numbers. -/
import Derived.Test.YtflceedohhhdiaaDiv
import Derived.Test.YtflceedohhhdiaaXM4
import Derived.Test.YtflceedohhhdiaaXM5
namespace Go.Proofs.Ytflceedohhhdiaa.XM
open Go Go.RowKit Go.Proofs.YtflceedohhhdiaaW.PrintWords Go.Proofs.YtflceedohhhdiaaW.PrintLast Go.Proofs.YtflceedohhhdiaaW.PrintMore Go.Proofs.Ytflceedohhhdiaa.Given Go.Proofs.Ytflceedohhhdiaa.M

theorem U_emod (a : Int) {m : Int} (hm : U m) (h : m ≠ 0) : U (a % m) := by
  unfold U at *
  have := Int.emod_nonneg a h
  have := Int.emod_lt_of_pos a (by omega : 0 < m)
  omega

theorem pos_of_U {m : Int} (hm : U m) (h : m ≠ 0) : 0 < m := by unfold U at hm; omega

theorem modular_Add_ev {a b m : Int} (ha : U a) (hb : U b) (hm : U m) (h : m ≠ 0) : Ev (fun k => modular_Add.f k a b m) ((a + b) % m) := by
  have h1 := U_emod a hm h
  have h2 := U_emod b hm h
  have hs : (a % m + b % m + 0) / 18446744073709551616 * 18446744073709551616 + (a % m + b % m + 0) % 18446744073709551616 = a % m + b % m := by omega
  have e := bits_Rem64_ev ((a % m + b % m + 0) / 18446744073709551616) ((a % m + b % m + 0) % 18446744073709551616) m (by unfold U at *; omega) (by unfold U at *; omega) hm h
  rw [hs, Int.emod_add_emod, Int.add_emod_emod] at e
  refine Ev.congr (fun k => ?_) (Ev.bind e (Ev.now _))
  unfold modular_Add.f bits_Add64.f
  rw [if_neg h, tmod_pos ha.1, tmod_pos hb.1, if_pos (by unfold U at *; omega)]
  rfl

theorem modular_Add_zero (a b : Int) : Ev (fun k => modular_Add.f k a b 0) 0 :=
  Ev.congr (fun k => by unfold modular_Add.f; rw [if_pos rfl]) (Ev.now _)

theorem neg_emod_eq {a m : Int} (hm : 0 < m) (h : a % m ≠ 0) : (-a) % m = m - a % m := by
  have h0 := Int.emod_nonneg a (by omega : m ≠ 0)
  have h1 := Int.emod_lt_of_pos a hm
  have : (-a) % m = (m - a % m) % m := by
    rw [Int.emod_eq_emod_iff_emod_sub_eq_zero]
    have e := Int.mul_ediv_add_emod a m
    have : -a - (m - a % m) = m * (-(a / m) - 1) := by
      rw [Int.mul_sub, Int.mul_neg]; omega
    rw [this, Int.mul_emod_right]
  rw [this, Int.emod_eq_of_lt (by omega) (by omega)]

theorem modular_Neg_eq {a m : Int} (ha : U a) (hm : U m) (h : m ≠ 0) : modular_Neg.f a m = some ((-a) % m) := by
  unfold modular_Neg.f
  rw [if_neg h, tmod_pos ha.1]
  have hp := pos_of_U hm h
  by_cases hz : a % m = 0
  · rw [if_pos hz]
    congr 1
    have := Int.emod_emod_of_dvd a (Int.dvd_refl m)
    rw [eq_comm, Int.emod_eq_zero_of_dvd]
    exact (Int.dvd_neg).2 (Int.dvd_of_emod_eq_zero hz)
  · rw [if_neg hz, neg_emod_eq hp hz]
    have := U_emod a hm h
    unfold U at *
    rw [wu64_id _ (by have := Int.emod_lt_of_pos a hp; omega) (by omega)]

theorem modular_Neg_zero (a : Int) : modular_Neg.f a 0 = some 0 := by
  unfold modular_Neg.f; rw [if_pos rfl]

theorem modular_Sub_ev {a b m : Int} (ha : U a) (hb : U b) (hm : U m) (h : m ≠ 0) : Ev (fun k => modular_Sub.f k a b m) ((a - b) % m) := by
  have e := modular_Add_ev ha (U_emod (-b) hm h) hm h
  rw [Int.add_emod_emod, ← Int.sub_eq_add_neg] at e
  refine Ev.congr (fun k => ?_) (Ev.bind e (Ev.now _))
  unfold modular_Sub.f
  rw [modular_Neg_eq hb hm h]
  rfl

theorem modular_Sub_zero (a b : Int) : Ev (fun k => modular_Sub.f k a b 0) 0 := by
  refine Ev.congr (fun k => ?_) (Ev.bind (modular_Add_zero a 0) (Ev.now _))
  unfold modular_Sub.f
  rw [modular_Neg_zero]
  rfl

theorem modular_Mul_ev {a b m : Int} (ha : U a) (hb : U b) (hm : U m) (h : m ≠ 0) : Ev (fun k => modular_Mul.f k a b m) (a * b % m) := by
  have hlt : a * b < 18446744073709551616 * 18446744073709551616 := by
    have := mul_le_of ha.1 hb.1 (A := 18446744073709551615) (B := 18446744073709551615) (by unfold U at *; omega) (by unfold U at *; omega)
    omega
  have h0 : 0 ≤ a * b := Int.mul_nonneg ha.1 hb.1
  have e := bits_Rem64_ev (a * b / 18446744073709551616) (a * b % 18446744073709551616) m (by unfold U; omega) (by unfold U; omega) hm h
  rw [show a * b / 18446744073709551616 * 18446744073709551616 + a * b % 18446744073709551616 = a * b from by omega] at e
  refine Ev.congr (fun k => ?_) (Ev.bind e (Ev.now _))
  unfold modular_Mul.f bits_Mul64.f
  rw [if_neg h, if_pos ⟨ha.1, ha.2, hb.1, hb.2⟩]
  rfl

theorem modular_Mul_zero (a b : Int) : Ev (fun k => modular_Mul.f k a b 0) 0 :=
  Ev.congr (fun k => by unfold modular_Mul.f; rw [if_pos rfl]) (Ev.now _)

theorem emod_mul_l (a b m : Int) : a % m * b % m = a * b % m := by rw [Int.mul_emod, Int.emod_emod, ← Int.mul_emod]
theorem emod_mul_r (a b m : Int) : a * (b % m) % m = a * b % m := by rw [Int.mul_emod, Int.emod_emod, ← Int.mul_emod]

theorem emod_pow (a m : Int) (n : Nat) : (a % m) ^ n % m = a ^ n % m := by
  induction n with
  | zero => rw [Int.pow_zero, Int.pow_zero]
  | succ n ih => rw [Int.pow_succ, Int.pow_succ, emod_mul_r, ← emod_mul_l, ih, emod_mul_l]

theorem pow_half (a : Int) (n : Nat) (h : n % 2 = 0) : (a * a) ^ (n / 2) = a ^ n := by
  have : n = n / 2 + n / 2 := by omega
  rw [Int.mul_pow, ← Int.pow_add, ← this]
theorem pow_half1 (a : Int) (n : Nat) (h : n % 2 = 1) : a * (a * a) ^ (n / 2) = a ^ n := by
  have : n = 1 + (n / 2 + n / 2) := by omega
  rw [Int.mul_pow, ← Int.pow_add, show a * a ^ (n / 2 + n / 2) = a ^ 1 * a ^ (n / 2 + n / 2) from by rw [Int.pow_succ]; simp, ← Int.pow_add, ← this]

theorem U_one {m : Int} (hm : U m) (h : m ≠ 0) : U (1 % m) := U_emod 1 hm h

theorem modular_Pow_l0 {m : Int} (hm : U m) (h : m ≠ 0) (n : Nat) : ∀ (e : Nat) (a out : Int), e ≤ n → (e : Int) < 18446744073709551616 → U a → U out → out % m = out →
    Ev (fun k => modular_Pow.l0 k a e m out) (out * a ^ e % m) := by
  induction n using Nat.strongRecOn with
  | _ n ih =>
    intro e a out hen heU ha ho hom
    by_cases hz : e = 0
    · subst hz
      rw [Int.pow_zero, Int.mul_one, hom]
      refine Ev.step (fun k => ?_) (Ev.now _)
      simp only [modular_Pow.l0]
      rw [if_neg (by simp)]
    · have hc : ((e : Int) / 2) = ((e / 2 : Nat) : Int) := by omega
      have hU : U (e : Int) := by unfold U; omega
      by_cases hb : e % 2 = 1
      · have i := ih (e / 2) (by omega) (e / 2) (a * a % m) (out * a % m) (by omega) (by omega) (U_emod _ hm h) (U_emod _ hm h) (Int.emod_emod _ _)
        have e1 : out * a % m * (a * a % m) ^ (e / 2) % m = out * a ^ e % m := by
          rw [emod_mul_l, ← emod_mul_r, emod_pow, emod_mul_r, Int.mul_assoc, pow_half1 a e hb]
        rw [e1] at i
        refine stepE ⟨_, fun k => by simp only [modular_Pow.l0]; rw [if_pos (by omega), if_pos (by rw [and1 _ hU]; omega), hc], ?_⟩
        exact Ev.bind (modular_Mul_ev ho ha hm h) (Ev.bind (modular_Mul_ev ha ha hm h) i)
      · have i := ih (e / 2) (by omega) (e / 2) (a * a % m) out (by omega) (by omega) (U_emod _ hm h) ho hom
        have e1 : out * (a * a % m) ^ (e / 2) % m = out * a ^ e % m := by
          rw [← emod_mul_r, emod_pow, emod_mul_r, pow_half a e (by omega)]
        rw [e1] at i
        refine stepE ⟨_, fun k => by simp only [modular_Pow.l0]; rw [if_pos (by omega), if_neg (by rw [and1 _ hU]; omega), hc], ?_⟩
        exact Ev.bind (modular_Mul_ev ha ha hm h) i

theorem modular_Pow_ev {a e m : Int} (ha : U a) (he : U e) (hm : U m) (h : m ≠ 0) : Ev (fun k => modular_Pow.f k a e m) (a ^ e.toNat % m) := by
  obtain ⟨n, rfl⟩ := Int.eq_ofNat_of_zero_le he.1
  have i := modular_Pow_l0 hm h n n a (1 % m) (Nat.le_refl _) he.2 ha (U_one hm h) (Int.emod_emod _ _)
  rw [emod_mul_l, Int.one_mul] at i
  refine Ev.congr (fun k => ?_) i
  unfold modular_Pow.f
  rw [if_neg h]

theorem modular_Pow_zero (a e : Int) : Ev (fun k => modular_Pow.f k a e 0) 0 :=
  Ev.congr (fun k => by unfold modular_Pow.f; rw [if_pos rfl]) (Ev.now _)

/-! the document's answers -/
theorem ref02_Add_eq {a b m : Int} (ha : U a) (hb : U b) (hm : U m) (h : m ≠ 0) : epicycleref02_Add.f a b m = some ((a + b) % m) := by
  have hp := pos_of_U hm h
  unfold epicycleref02_Add.f
  rw [if_neg h, tmod_pos ha.1, tmod_pos hb.1]
  have a0 := Int.emod_nonneg a h
  have a1 := Int.emod_lt_of_pos a hp
  have b0 := Int.emod_nonneg b h
  have b1 := Int.emod_lt_of_pos b hp
  have hs : (a + b) % m = (a % m + b % m) % m := by rw [Int.emod_add_emod, Int.add_emod_emod]
  rw [hs]
  unfold U at *
  generalize a % m = x at *
  generalize b % m = y at *
  rw [wu64_id (m - y) (by omega) (by omega)]
  by_cases hc : x ≥ m - y
  · rw [if_pos hc, wu64_id _ (by omega) (by omega)]
    congr 1
    have e : (x + y) % m = (x + y - m) % m := (Int.sub_emod_right _ _).symm
    rw [e, Int.emod_eq_of_lt (by omega) (by omega)]
    omega
  · rw [if_neg hc, wu64_id _ (by omega) (by omega), Int.emod_eq_of_lt (by omega) (by omega)]

theorem ref02_Neg_eq {a m : Int} (ha : U a) (hm : U m) (h : m ≠ 0) : epicycleref02_Neg.f a m = some ((-a) % m) := by
  rw [← modular_Neg_eq ha hm h]
  unfold epicycleref02_Neg.f modular_Neg.f
  rw [if_neg h, if_neg h]

theorem ref02_Mul_l0 {m : Int} (hm : U m) (h : m ≠ 0) (n : Nat) : ∀ (b : Nat) (a out : Int), b ≤ n → (b : Int) < 18446744073709551616 → U a → U out → out % m = out →
    Ev (fun k => epicycleref02_Mul.l0 k a b m out) ((out + a * b) % m) := by
  induction n using Nat.strongRecOn with
  | _ n ih =>
    intro b a out hbn hbU ha ho hom
    by_cases hz : b = 0
    · subst hz
      rw [show ((0 : Nat) : Int) = 0 from rfl, Int.mul_zero, Int.add_zero, hom]
      refine Ev.step (fun k => ?_) (Ev.now _)
      simp only [epicycleref02_Mul.l0]
      rw [if_neg (by simp)]
    · have hc : IntKind.u64.wrap (Int.tdiv (b : Int) 2) = ((b / 2 : Nat) : Int) := by
        rw [tdiv_pos (by omega), wu64_id _ (by omega) (by omega)]; omega
      by_cases hb : b % 2 = 1
      · have i := ih (b / 2) (by omega) (b / 2) ((a + a) % m) ((out + a) % m) (by omega) (by omega) (U_emod _ hm h) (U_emod _ hm h) (Int.emod_emod _ _)
        have e1 : ((out + a) % m + (a + a) % m * ((b / 2 : Nat) : Int)) % m = (out + a * b) % m := by
          rw [Int.emod_add_emod, ← Int.add_emod_emod, emod_mul_l, Int.add_emod_emod]
          congr 1
          have hb2 : (b : Int) = 1 + 2 * ((b / 2 : Nat) : Int) := by omega
          generalize ((b / 2 : Nat) : Int) = c at *
          rw [hb2, Int.mul_add, Int.add_mul, Int.mul_one, show a * (2 * c) = a * c + a * c from by rw [show (2 : Int) * c = c + c from by omega, Int.mul_add]]
          omega
        rw [e1] at i
        refine Ev.step (fun k => ?_) i
        simp only [epicycleref02_Mul.l0]
        rw [if_pos (by omega), if_pos (by rw [tmod_pos (by omega)]; omega), ref02_Add_eq ho ha hm h, ref02_Add_eq ha ha hm h, hc]
        rfl
      · have i := ih (b / 2) (by omega) (b / 2) ((a + a) % m) out (by omega) (by omega) (U_emod _ hm h) ho hom
        have e1 : (out + (a + a) % m * ((b / 2 : Nat) : Int)) % m = (out + a * b) % m := by
          rw [← Int.add_emod_emod, emod_mul_l, Int.add_emod_emod]
          congr 1
          have hb2 : (b : Int) = 2 * ((b / 2 : Nat) : Int) := by omega
          generalize ((b / 2 : Nat) : Int) = c at *
          rw [hb2, Int.add_mul, show a * (2 * c) = a * c + a * c from by rw [show (2 : Int) * c = c + c from by omega, Int.mul_add]]
        rw [e1] at i
        refine Ev.step (fun k => ?_) i
        simp only [epicycleref02_Mul.l0]
        rw [if_pos (by omega), if_neg (by rw [tmod_pos (by omega)]; omega), ref02_Add_eq ha ha hm h, hc]
        rfl

theorem ref02_Mul_ev {a b m : Int} (ha : U a) (hb : U b) (hm : U m) (h : m ≠ 0) : Ev (fun k => epicycleref02_Mul.f k a b m) (a * b % m) := by
  obtain ⟨n, rfl⟩ := Int.eq_ofNat_of_zero_le hb.1
  have i := ref02_Mul_l0 hm h n n (a % m) 0 (Nat.le_refl _) hb.2 (U_emod _ hm h) (by unfold U; omega) (by simp)
  rw [Int.zero_add, emod_mul_l] at i
  refine Ev.congr (fun k => ?_) i
  unfold epicycleref02_Mul.f
  rw [if_neg h, tmod_pos ha.1]

theorem ref02_Pow_ev' {a m : Int} (ha : U a) (hm : U m) (h : m ≠ 0) (n : Nat) : ∀ e : Nat, e ≤ n → (e : Int) < 18446744073709551616 → Ev (fun k => epicycleref02_Pow.f k a e m) (a ^ e % m) := by
  induction n using Nat.strongRecOn with
  | _ n ih =>
    intro e hen heU
    by_cases hz : e = 0
    · subst hz
      refine Ev.step (fun k => ?_) (Ev.now _)
      simp only [epicycleref02_Pow.f]
      rw [if_pos (by simp), if_neg h, Int.pow_zero]
    · have hc : IntKind.u64.wrap (Int.tdiv (e : Int) 2) = ((e / 2 : Nat) : Int) := by
        rw [tdiv_pos (by omega), wu64_id _ (by omega) (by omega)]; omega
      have i := ih (e / 2) (by omega) (e / 2) (by omega) (by omega)
      have u1 := U_emod (a ^ (e / 2)) hm h
      have m1 := ref02_Mul_ev u1 u1 hm h
      have e0 : a ^ (e / 2) % m * (a ^ (e / 2) % m) % m = (a * a) ^ (e / 2) % m := by
        rw [emod_mul_l, emod_mul_r, Int.mul_pow]
      rw [e0] at m1
      by_cases hb : e % 2 = 1
      · have m2 := ref02_Mul_ev (U_emod ((a * a) ^ (e / 2)) hm h) ha hm h
        have e1 : (a * a) ^ (e / 2) % m * a % m = a ^ e % m := by rw [emod_mul_l, Int.mul_comm, pow_half1 a e hb]
        rw [e1] at m2
        refine stepE ⟨_, fun k => by simp only [epicycleref02_Pow.f]; rw [if_neg (by omega), hc], ?_⟩
        refine Ev.bind i (Ev.bind m1 ?_)
        rw [tmod_pos (by omega)]
        refine congrE ⟨_, fun k => by rw [if_pos (by omega)], ?_⟩
        exact Ev.bind m2 (Ev.now _)
      · rw [pow_half a e (by omega)] at m1
        refine stepE ⟨_, fun k => by simp only [epicycleref02_Pow.f]; rw [if_neg (by omega), hc], ?_⟩
        refine Ev.bind i (Ev.bind m1 ?_)
        rw [tmod_pos (by omega)]
        refine congrE ⟨_, fun k => by rw [if_neg (by omega)], ?_⟩
        exact Ev.now _

theorem ref02_Pow_ev {a e m : Int} (ha : U a) (he : U e) (hm : U m) (h : m ≠ 0) : Ev (fun k => epicycleref02_Pow.f k a e m) (a ^ e.toNat % m) := by
  obtain ⟨n, rfl⟩ := Int.eq_ofNat_of_zero_le he.1
  exact ref02_Pow_ev' ha hm h n n (Nat.le_refl _) he.2

/-! greatest common divisors -/
theorem modular_Gcd_l0 (n : Nat) : ∀ x y : Nat, y ≤ n → Ev (fun k => modular_Gcd.l0 k x y) ((Nat.gcd x y : Nat) : Int) := by
  induction n using Nat.strongRecOn with
  | _ n ih =>
    intro x y hy
    by_cases hz : y = 0
    · subst hz
      rw [Nat.gcd_zero_right]
      refine Ev.step (fun k => ?_) (Ev.now _)
      simp only [modular_Gcd.l0]
      rw [if_neg (by simp)]
    · have i := ih (x % y) (by have := Nat.mod_lt x (by omega : y > 0); omega) y (x % y) (Nat.le_refl _)
      rw [Nat.gcd_comm, ← Nat.gcd_rec, Nat.gcd_comm] at i
      refine Ev.step (fun k => ?_) i
      simp only [modular_Gcd.l0]
      rw [if_pos (by omega), if_neg (by omega), tmod_pos (by omega), ← Int.natCast_emod]

theorem modular_Gcd_ev (x y : Nat) : Ev (fun k => modular_Gcd.f k x y) ((Nat.gcd x y : Nat) : Int) := modular_Gcd_l0 y x y (Nat.le_refl _)

theorem ref02_Gcd_ev' (n : Nat) : ∀ x y : Nat, y ≤ n → Ev (fun k => epicycleref02_Gcd.f k x y) ((Nat.gcd x y : Nat) : Int) := by
  induction n using Nat.strongRecOn with
  | _ n ih =>
    intro x y hy
    by_cases hz : y = 0
    · subst hz
      rw [Nat.gcd_zero_right]
      refine Ev.step (fun k => ?_) (Ev.now _)
      simp only [epicycleref02_Gcd.f]
      rw [if_pos (by simp)]
    · have i := ih (x % y) (by have := Nat.mod_lt x (by omega : y > 0); omega) y (x % y) (Nat.le_refl _)
      rw [Nat.gcd_comm, ← Nat.gcd_rec, Nat.gcd_comm] at i
      refine Ev.step (fun k => ?_) (Ev.bind i (Ev.now _))
      simp only [epicycleref02_Gcd.f]
      rw [if_neg (by omega), tmod_pos (by omega), ← Int.natCast_emod]

theorem ref02_Gcd_ev (x y : Nat) : Ev (fun k => epicycleref02_Gcd.f k x y) ((Nat.gcd x y : Nat) : Int) := ref02_Gcd_ev' y x y (Nat.le_refl _)

theorem modular_Coprime_ev (x y : Nat) : Ev (fun k => modular_Coprime.f k x y) (decide (Nat.gcd x y = 1)) := by
  have e : Ev (fun k => modular_Coprime.f k x y) (((Nat.gcd x y : Nat) : Int) == 1) := Ev.bind (modular_Gcd_ev x y) (Ev.now _)
  have : (((Nat.gcd x y : Nat) : Int) == 1) = decide (Nat.gcd x y = 1) := by
    rw [Bool.eq_iff_iff]; simp; omega
  rwa [this] at e

end Go.Proofs.Ytflceedohhhdiaa.XM
