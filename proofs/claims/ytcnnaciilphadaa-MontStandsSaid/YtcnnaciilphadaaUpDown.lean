/- epicycleref03: Up and Down, as printed, are the products by 2^64 and by what makes 1 with it. -/
import Derived.Test.YtcnnaciilphadaaRef02
import Derived.Test.YtcnnaciilphadaaMontM
namespace Go.Proofs.Ytcnnaciilphadaa.M
theorem mMul_rests (m x y : Int) : mMul m x y = mMul m (x % m) (y % m) := by
  unfold mMul
  rw [← emod_mul_l (x * y), ← emod_mul_l (x % m * (y % m)), emod_mul_l x, emod_mul_r]
theorem mSub_rests (m x y : Int) : mSub m x y = mSub m (x % m) (y % m) := by
  unfold mSub
  refine emod_of_dvd_sub ?_
  have a1 : m ∣ x % m - x := dvd_emod_sub _ _
  have a2 : m ∣ y % m - y := dvd_emod_sub _ _
  have := Int.dvd_sub a2 a1
  generalize x % m = p at *
  generalize y % m = q at *
  rw [show x - y - (p - q) = q - y - (p - x) from by omega]
  exact this
theorem mNeg_rest (m x : Int) : mNeg m x = mNeg m (x % m) := by
  unfold mNeg
  refine emod_of_dvd_sub ?_
  have a1 : m ∣ x % m - x := dvd_emod_sub _ _
  generalize x % m = p at *
  rw [show -x - -p = p - x from by omega]
  exact a1
theorem mPow_rest (m x e : Int) : mPow m x e = mPow m (x % m) e := by
  unfold mPow
  rw [← emod_mul_l, ← emod_pow, ← emod_mul_l x, emod_pow, emod_mul_l]
end Go.Proofs.Ytcnnaciilphadaa.M
namespace Go.Proofs.Ytcnnaciilphadaa.XR
open Go Go.RowKit Go.Proofs.YtcnnaciilphadaaW.PrintWords Go.Proofs.YtcnnaciilphadaaW.PrintLast Go.Proofs.YtcnnaciilphadaaW.PrintMore Go.Proofs.Ytcnnaciilphadaa.Given Go.Proofs.Ytcnnaciilphadaa.M

theorem ref03_Up_l0 {m : Int} (hg : GoodM m) (n : Nat) : ∀ (i : Nat) (a : Int), i + n = 64 → U a → a % m = a → Ev (fun k => epicycleref03_Up.l0 k a m i) (a * 2 ^ n % m) := by
  induction n with
  | zero =>
    intro i a hi ha hr
    rw [Int.pow_zero, Int.mul_one, hr]
    refine stepE ⟨_, fun k => by simp only [epicycleref03_Up.l0]; rw [if_neg (by omega)], Ev.now _⟩
  | succ n ih =>
    intro i a hi ha hr
    have e := ih (i + 1) ((a + a) % m) (by omega) (U_mod hg _) (Int.emod_emod _ _)
    have e1 : (a + a) % m * 2 ^ n % m = a * 2 ^ (n + 1) % m := by
      rw [emod_mul_l, Int.pow_succ, ← Int.mul_assoc, show a + a = 2 * a from by omega, Int.mul_assoc, Int.mul_comm]
    rw [e1] at e
    refine stepE ⟨_, fun k => by simp only [epicycleref03_Up.l0]; rw [if_pos (by omega), ref02_Add_eq ha ha (good_U hg) (good_ne hg), Option.bind_some, w64_id (i + 1) (by omega) (by omega)], ?_⟩
    exact e

theorem ref03_Up_ev {m a : Int} (hg : GoodM m) (ha : U a) : Ev (fun k => epicycleref03_Up.f k a m) (mIn m a) := by
  have e := ref03_Up_l0 hg 64 0 (a % m) rfl (U_mod hg _) (Int.emod_emod _ _)
  rw [emod_mul_l] at e
  refine congrE ⟨_, fun k => by unfold epicycleref03_Up.f; rw [if_neg (good_ne hg), tmod_pos ha.1], ?_⟩
  exact e

/-- The half of a rest. -/
theorem half_eq {m a : Int} (hg : GoodM m) (h0 : 0 ≤ a) (h1 : a < m) : ∃ b, epicycleref03_Half.f a m = some b ∧ 0 ≤ b ∧ b < m ∧ b % m = a * ((m + 1) / 2) % m := by
  have hb : m < 9223372036854775808 := hg.2.2
  have hodd : m % 2 = 1 := hg.1
  have key : ∀ b : Int, (2 * b - a) % m = 0 → b % m = a * ((m + 1) / 2) % m := by
    intro b hbb
    have e2 : 2 * ((m + 1) / 2) = m + 1 := by omega
    refine emod_of_dvd_sub ?_
    have d := Int.dvd_of_emod_eq_zero hbb
    generalize (m + 1) / 2 = h at *
    have e3 : b - a * h = (2 * b - a) * h - b * m := by
      rw [Int.sub_mul, show 2 * b * h = b * (2 * h) from by rw [Int.mul_comm 2 b, Int.mul_assoc], e2, Int.mul_add, Int.mul_one]; omega
    rw [e3]
    exact Int.dvd_sub (Int.dvd_mul_of_dvd_left d) (Int.dvd_mul_left _ _)
  unfold epicycleref03_Half.f
  rw [tmod_pos h0, tdiv_pos h0, tdiv_pos (by omega)]
  by_cases h2 : a % 2 = 0
  · rw [if_pos h2, wu64_id _ (by omega) (by omega)]
    refine ⟨_, rfl, by omega, by omega, key _ ?_⟩
    rw [show 2 * (a / 2) - a = 0 from by omega, Int.zero_emod]
  · rw [if_neg h2, wu64_id (a / 2) (by omega) (by omega), wu64_id (m / 2) (by omega) (by omega), wu64_id (a / 2 + m / 2) (by omega) (by omega), wu64_id _ (by omega) (by omega)]
    refine ⟨_, rfl, by omega, by omega, key _ ?_⟩
    rw [show 2 * (a / 2 + m / 2 + 1) - a = m from by omega, Int.emod_self]

theorem ref03_Down_l0 {m : Int} (hg : GoodM m) (n : Nat) : ∀ (i : Nat) (a : Int), i + n = 64 → 0 ≤ a → a < m → Ev (fun k => epicycleref03_Down.l0 k a m i) (a * ((m + 1) / 2) ^ n % m) := by
  induction n with
  | zero =>
    intro i a hi h0 h1
    rw [Int.pow_zero, Int.mul_one, Int.emod_eq_of_lt h0 h1]
    refine stepE ⟨_, fun k => by simp only [epicycleref03_Down.l0]; rw [if_neg (by omega)], Ev.now _⟩
  | succ n ih =>
    intro i a hi h0 h1
    obtain ⟨b, hb, b0, b1, b2⟩ := half_eq hg h0 h1
    have e := ih (i + 1) b (by omega) b0 b1
    have e1 : b * ((m + 1) / 2) ^ n % m = a * ((m + 1) / 2) ^ (n + 1) % m := by
      rw [← emod_mul_l, b2, emod_mul_l, Int.pow_succ, Int.mul_assoc, Int.mul_comm ((m + 1) / 2)]
    rw [e1] at e
    refine stepE ⟨_, fun k => by simp only [epicycleref03_Down.l0]; rw [if_pos (by omega), hb, Option.bind_some, w64_id (i + 1) (by omega) (by omega)], ?_⟩
    exact e

theorem ref03_Down_ev {m a : Int} (hg : GoodM m) (h0 : 0 ≤ a) (h1 : a < m) : Ev (fun k => epicycleref03_Down.f k a m) (mOut m a) := by
  have e := ref03_Down_l0 hg 64 0 a rfl h0 h1
  unfold mOut rinv
  rw [emod_mul_r]
  exact e

end Go.Proofs.Ytcnnaciilphadaa.XR
