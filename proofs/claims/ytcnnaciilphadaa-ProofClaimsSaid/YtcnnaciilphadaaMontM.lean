/- Products without divisions: the plain numbers behind layer 3. -/
import Derived.Test.YtcnnaciilphadaaNt
namespace Go.Proofs.Ytcnnaciilphadaa.M
open Go Go.RowKit Go.Proofs.YtcnnaciilphadaaW.PrintWords

/-- A modulus that layer 3 takes. -/
def GoodM (m : Int) : Prop := m % 2 = 1 ∧ 3 ≤ m ∧ m < 9223372036854775808
instance (m : Int) : Decidable (GoodM m) := by unfold GoodM; infer_instance
/-- What makes 1 with 2^64. -/
def rinv (m : Int) : Int := ((m + 1) / 2) ^ 64 % m
def mIn (m x : Int) : Int := x * 18446744073709551616 % m
def mOut (m x : Int) : Int := x * rinv m % m
def mMul (m x y : Int) : Int := x * y * rinv m % m
def mOne (m : Int) : Int := 18446744073709551616 % m
def mSq (m : Int) : Int := mOne m * mOne m % m
def mAdd (m x y : Int) : Int := (x + y) % m
def mNeg (m x : Int) : Int := (-x) % m
def mSub (m x y : Int) : Int := (x - y) % m
def mPow (m x e : Int) : Int := (x * rinv m) ^ e.toNat * 18446744073709551616 % m

section
variable {m : Int}
theorem good_pos (g : GoodM m) : 0 < m := by unfold GoodM at g; omega
theorem good_ne (g : GoodM m) : m ≠ 0 := by unfold GoodM at g; omega
theorem good_U (g : GoodM m) : U m := by unfold GoodM at g; unfold U; omega
theorem U_mod (g : GoodM m) (x : Int) : U (x % m) := U_emod x (good_U g) (good_ne g)
theorem lt_mod (g : GoodM m) (x : Int) : x % m < m := Int.emod_lt_of_pos x (good_pos g)
theorem ge_mod (g : GoodM m) (x : Int) : 0 ≤ x % m := Int.emod_nonneg x (good_ne g)

theorem one_pow_mod (g : GoodM m) (n : Nat) : (m + 1) ^ n % m = 1 := by
  have e : (m + 1) % m = 1 := by
    rw [Int.add_emod, Int.emod_self, Int.zero_add, Int.emod_emod, Int.emod_eq_of_lt (by omega) (by unfold GoodM at g; omega)]
  have := emod_pow (m + 1) m n
  rw [e, Int.one_pow, Int.emod_eq_of_lt (by omega) (by unfold GoodM at g; omega)] at this
  exact this.symm

theorem rinv_mul (g : GoodM m) : 18446744073709551616 * rinv m % m = 1 := by
  unfold rinv
  rw [emod_mul_r, show (18446744073709551616 : Int) = 2 ^ 64 from by decide, ← Int.mul_pow]
  have : 2 * ((m + 1) / 2) = m + 1 := by unfold GoodM at g; omega
  rw [this]
  exact one_pow_mod g 64

/-- 2^64 can be struck on both sides. -/
theorem strike (g : GoodM m) {x y : Int} (h : x * 18446744073709551616 % m = y * 18446744073709551616 % m) : x % m = y % m := by
  have e : ∀ z : Int, z % m = z * 18446744073709551616 % m * rinv m % m := by
    intro z
    rw [emod_mul_l, Int.mul_assoc, ← emod_mul_r, rinv_mul g, Int.mul_one]
  rw [e x, e y, h]

theorem times_rinv (g : GoodM m) (x : Int) : x * rinv m % m * 18446744073709551616 % m = x % m := by
  rw [emod_mul_l, Int.mul_assoc, Int.mul_comm (rinv m), ← emod_mul_r, rinv_mul g, Int.mul_one]

/-- The reduction of a number below m times 2^64. -/
theorem redc (g : GoodM m) {hi lo t q P h l c T : Int} (ht : (18446744073709551616 : Int) ∣ m * t + 1) (h0 : 0 ≤ hi) (h1 : hi < m) (l0 : 0 ≤ lo) (l1 : lo < 18446744073709551616)
    (hq : q = lo * t % 18446744073709551616) (hP : P = q * m) (hh : h = P / 18446744073709551616) (hl : l = P % 18446744073709551616) (hc : c = (lo + l) / 18446744073709551616) (hT : T = hi + h + c) :
    0 ≤ h ∧ 0 ≤ l ∧ l < 18446744073709551616 ∧ 0 ≤ c ∧ c ≤ 1 ∧ 0 ≤ T ∧ T < 2 * m ∧ T % m = mOut m (hi * 18446744073709551616 + lo) := by
  have gp := good_pos g
  have hq0 : 0 ≤ q := by rw [hq]; exact Int.emod_nonneg _ (by omega)
  have hq1 : q < 18446744073709551616 := by rw [hq]; exact Int.emod_lt_of_pos _ (by omega)
  have hP0 : 0 ≤ P := by rw [hP]; exact Int.mul_nonneg hq0 (by omega)
  have hP1 : P ≤ 18446744073709551615 * m := by rw [hP]; exact Int.mul_le_mul_of_nonneg_right (by omega) (by omega)
  have hd : (18446744073709551616 : Int) ∣ lo + P := by
    have e1 : (18446744073709551616 : Int) ∣ q - lo * t := by rw [hq]; exact dvd_emod_sub _ _
    have e2 : lo + P = lo * (m * t + 1) + (q - lo * t) * m := by
      rw [hP, Int.sub_mul, Int.mul_add, Int.mul_one, show lo * (m * t) = lo * t * m from by rw [Int.mul_comm m, Int.mul_assoc]]
      omega
    rw [e2]
    exact Int.dvd_add (Int.dvd_mul_of_dvd_right ht) (Int.dvd_mul_of_dvd_left e1)
  have hd2 := Int.emod_eq_zero_of_dvd hd
  have hTR : T * 18446744073709551616 = hi * 18446744073709551616 + lo + P := by omega
  refine ⟨by omega, by omega, by omega, by omega, by omega, by omega, by omega, ?_⟩
  have e : T * 18446744073709551616 % m = mOut m (hi * 18446744073709551616 + lo) * 18446744073709551616 % m := by
    unfold mOut
    rw [times_rinv g, hTR, hP, Int.add_mul_emod_self_right]
  have := strike g e
  rw [this]
  unfold mOut
  rw [Int.emod_emod]

theorem redc_end {T v : Int} (h0 : 0 ≤ T) (h1 : T < 2 * m) (h : T % m = v) : (if T ≥ m then T - m else T) = v := by
  rw [← h]
  by_cases hc : T ≥ m
  · rw [if_pos hc]
    have e : T % m = (T - m) % m := (Int.sub_emod_right _ _).symm
    rw [e, Int.emod_eq_of_lt (by omega) (by omega)]
  · rw [if_neg hc, Int.emod_eq_of_lt h0 (by omega)]

/-! what stands for what -/
theorem mMul_rest (x y : Int) : mOut m (x % m * (y % m)) = mMul m x y := by
  unfold mOut mMul
  rw [← emod_mul_l, ← emod_mul_l (x * y), emod_mul_l x, emod_mul_r]

theorem mOut_rest (x : Int) : mOut m (x % m) = mOut m x := by
  unfold mOut; rw [emod_mul_l]

theorem mMul_sq (g : GoodM m) (x : Int) : mMul m x (mSq m) = mIn m x := by
  refine (Int.emod_emod _ _).symm.trans ?_
  refine (strike g (y := mIn m x) ?_).trans (Int.emod_emod _ _)
  rw [times_rinv g]
  unfold mSq mIn mOne
  rw [emod_mul_r, emod_mul_l, ← emod_mul_r, emod_mul_l, emod_mul_r, ← Int.mul_assoc, emod_mul_r]

theorem out_in (g : GoodM m) (x : Int) : mOut m (mIn m x) = x % m := by
  unfold mOut mIn
  rw [emod_mul_l, Int.mul_assoc, ← emod_mul_r, rinv_mul g, Int.mul_one]
theorem in_out (g : GoodM m) (x : Int) : mIn m (mOut m x) = x % m := times_rinv g x
theorem out_one (g : GoodM m) : mOut m (mOne m) = 1 := by
  unfold mOut mOne
  rw [emod_mul_l, rinv_mul g]
theorem mul_in (g : GoodM m) (x y : Int) : mMul m (mIn m x) y = x * y % m := by
  unfold mMul mIn
  rw [← emod_mul_l, emod_mul_l (x * 18446744073709551616), emod_mul_l, show x * 18446744073709551616 * y * rinv m = x * y * (18446744073709551616 * rinv m) from by rw [Int.mul_right_comm x, Int.mul_assoc (x * y)], ← emod_mul_r, rinv_mul g, Int.mul_one]
theorem mul_one_ (g : GoodM m) (x : Int) : mMul m x (mOne m) = x % m := by
  unfold mMul mOne
  rw [← emod_mul_l, emod_mul_r, emod_mul_l, Int.mul_assoc, ← emod_mul_r, rinv_mul g, Int.mul_one]
theorem mul_comm_ (x y : Int) : mMul m x y = mMul m y x := by unfold mMul; rw [Int.mul_comm x y]
theorem mul_in_in (g : GoodM m) (x y : Int) : mMul m (mIn m x) (mIn m y) = mIn m (x * y) := by
  rw [mul_in g]; unfold mIn; rw [emod_mul_r, Int.mul_assoc]
theorem add_in_in (x y : Int) : mAdd m (mIn m x) (mIn m y) = mIn m (x + y) := by
  unfold mAdd mIn; rw [Int.emod_add_emod, Int.add_emod_emod, Int.add_mul]
theorem sub_in_in (x y : Int) : mSub m (mIn m x) (mIn m y) = mIn m (x - y) := by
  unfold mSub mIn
  rw [Int.sub_mul]
  refine emod_of_dvd_sub ?_
  have a1 : m ∣ x * 18446744073709551616 % m - x * 18446744073709551616 := dvd_emod_sub _ _
  have a2 : m ∣ y * 18446744073709551616 % m - y * 18446744073709551616 := dvd_emod_sub _ _
  have := Int.dvd_sub a1 a2
  generalize x * 18446744073709551616 % m = p at *
  generalize y * 18446744073709551616 % m = q at *
  rw [show p - q - (x * 18446744073709551616 - y * 18446744073709551616) = p - x * 18446744073709551616 - (q - y * 18446744073709551616) from by omega]
  exact this
theorem neg_in (x : Int) : mNeg m (mIn m x) = mIn m (-x) := by
  unfold mNeg mIn
  refine emod_of_dvd_sub ?_
  have a1 : m ∣ x * 18446744073709551616 % m - x * 18446744073709551616 := dvd_emod_sub _ _
  have := (Int.dvd_neg).2 a1
  generalize x * 18446744073709551616 % m = p at *
  rw [show -p - -x * 18446744073709551616 = -(p - x * 18446744073709551616) from by rw [Int.neg_mul]; omega]
  exact this
theorem pow_in (g : GoodM m) (x e : Int) : mPow m (mIn m x) e = mIn m (x ^ e.toNat) := by
  unfold mPow mIn
  have h2 : x * 18446744073709551616 % m * rinv m % m = x % m := by rw [emod_mul_l, Int.mul_assoc, ← emod_mul_r, rinv_mul g, Int.mul_one]
  rw [← emod_mul_l, ← emod_pow, h2, emod_pow, emod_mul_l]
theorem in_rest (x : Int) : mIn m (x % m) = mIn m x := by unfold mIn; rw [emod_mul_l]

/-- A step of the loop of Pow. -/
theorem pow_step0 (x : Int) (e : Nat) : mPow m x ((e : Nat) : Int) = (x * rinv m) ^ e * 18446744073709551616 % m := rfl
end

/-- One step towards the inverse modulo 2^64: the rest is squared. -/
theorem newton {m x D E : Int} (hx : D ∣ m * x - 1) (hE : E ∣ D * D) (hR : E ∣ 18446744073709551616) :
    E ∣ m * IntKind.u64.wrap (x * IntKind.u64.wrap (2 - IntKind.u64.wrap (m * x))) - 1 := by
  rw [wu64, wu64, wu64]
  have a1 : E ∣ m * x % 18446744073709551616 - m * x := Int.dvd_trans hR (dvd_emod_sub _ _)
  generalize m * x % 18446744073709551616 = A at *
  have a2 : E ∣ (2 - A) % 18446744073709551616 - (2 - A) := Int.dvd_trans hR (dvd_emod_sub _ _)
  generalize (2 - A) % 18446744073709551616 = B at *
  have a3 : E ∣ x * B % 18446744073709551616 - x * B := Int.dvd_trans hR (dvd_emod_sub _ _)
  generalize x * B % 18446744073709551616 = C at *
  have a4 : E ∣ (m * x - 1) * (m * x - 1) := Int.dvd_trans hE (Int.mul_dvd_mul hx hx)
  have e : m * C - 1 = m * (C - x * B) + m * x * (B - (2 - A)) - m * x * (A - m * x) - (m * x - 1) * (m * x - 1) := by
    have e1 : m * (x * B) = m * x * B := (Int.mul_assoc _ _ _).symm
    rw [Int.mul_sub m, e1]
    generalize m * x = y
    simp only [Int.mul_sub, Int.sub_mul, Int.mul_one, Int.one_mul]
    omega
  rw [e]
  exact Int.dvd_sub (Int.dvd_sub (Int.dvd_add (Int.dvd_mul_of_dvd_right a3) (Int.dvd_mul_of_dvd_right a2)) (Int.dvd_mul_of_dvd_right a1)) a4

theorem newton0 {m : Int} (h : m % 2 = 1) : (8 : Int) ∣ m * m - 1 := by
  obtain ⟨k, hk⟩ : ∃ k, m = 2 * k + 1 := ⟨m / 2, by omega⟩
  have hkk : (k * (k + 1)) % 2 = 0 := by
    have : k % 2 = 0 ∨ k % 2 = 1 := by omega
    rcases this with h | h
    · rw [Int.mul_emod, h]; simp
    · rw [Int.mul_emod, show (k + 1) % 2 = 0 from by omega]; simp
  have e : m * m - 1 = 4 * (k * (k + 1)) := by
    rw [hk]
    simp only [Int.mul_add, Int.add_mul, Int.mul_one, Int.one_mul]
    rw [show 2 * k * (2 * k) = 4 * (k * k) from by rw [Int.mul_assoc, Int.mul_left_comm k 2 k]; omega]
    omega
  omega

end Go.Proofs.Ytcnnaciilphadaa.M
