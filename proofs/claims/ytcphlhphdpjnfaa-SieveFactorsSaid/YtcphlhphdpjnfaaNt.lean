/- Rests of whole numbers: plain facts. -/
import Derived.Test.YtcphlhphdpjnfaaArith
namespace Go.Proofs.Ytcphlhphdpjnfaa.M
open Go Go.RowKit Go.Proofs.YtcphlhphdpjnfaaW.PrintWords

theorem U_emod (a : Int) {m : Int} (hm : U m) (h : m ≠ 0) : U (a % m) := by
  unfold U at *
  have := Int.emod_nonneg a h
  have := Int.emod_lt_of_pos a (by omega : 0 < m)
  omega

theorem pos_of_U {m : Int} (hm : U m) (h : m ≠ 0) : 0 < m := by unfold U at hm; omega

theorem neg_emod_eq {a m : Int} (hm : 0 < m) (h : a % m ≠ 0) : (-a) % m = m - a % m := by
  have h0 := Int.emod_nonneg a (by omega : m ≠ 0)
  have h1 := Int.emod_lt_of_pos a hm
  have : (-a) % m = (m - a % m) % m := by
    rw [Int.emod_eq_emod_iff_emod_sub_eq_zero]
    have e := Int.mul_ediv_add_emod a m
    have : -a - (m - a % m) = m * (-(a / m) - 1) := by
      rw [Int.mul_sub, Int.mul_neg]; omega
    rw [this, Int.mul_emod_right]
  rw [this, Int.emod_eq_of_lt (by omega) (by omega)]

theorem emod_mul_l (a b m : Int) : a % m * b % m = a * b % m := by rw [Int.mul_emod, Int.emod_emod, ← Int.mul_emod]
theorem emod_mul_r (a b m : Int) : a * (b % m) % m = a * b % m := by rw [Int.mul_emod, Int.emod_emod, ← Int.mul_emod]

theorem emod_pow (a m : Int) (n : Nat) : (a % m) ^ n % m = a ^ n % m := by
  induction n with
  | zero => rw [Int.pow_zero, Int.pow_zero]
  | succ n ih => rw [Int.pow_succ, Int.pow_succ, emod_mul_r, ← emod_mul_l, ih, emod_mul_l]

theorem pow_half (a : Int) (n : Nat) (h : n % 2 = 0) : (a * a) ^ (n / 2) = a ^ n := by
  have : n = n / 2 + n / 2 := by omega
  rw [Int.mul_pow, ← Int.pow_add, ← this]
theorem pow_half1 (a : Int) (n : Nat) (h : n % 2 = 1) : a * (a * a) ^ (n / 2) = a ^ n := by
  have : n = 1 + (n / 2 + n / 2) := by omega
  rw [Int.mul_pow, ← Int.pow_add, show a * a ^ (n / 2 + n / 2) = a ^ 1 * a ^ (n / 2 + n / 2) from by rw [Int.pow_succ]; simp, ← Int.pow_add, ← this]

theorem U_one {m : Int} (hm : U m) (h : m ≠ 0) : U (1 % m) := U_emod 1 hm h

theorem dvd_emod_sub (x m : Int) : m ∣ x % m - x := by
  rw [Int.emod_def]
  exact ⟨-(x / m), by rw [Int.mul_neg]; omega⟩

theorem emod_of_dvd_sub {x y m : Int} (h : m ∣ x - y) : x % m = y % m := Int.emod_eq_emod_iff_emod_sub_eq_zero.2 (Int.emod_eq_zero_of_dvd h)
theorem dvd_sub_of_emod {x y m : Int} (h : x % m = y % m) : m ∣ x - y := Int.dvd_of_emod_eq_zero (Int.emod_eq_emod_iff_emod_sub_eq_zero.1 h)

theorem _root_.Int.mul_mul_mul_comm_ (a b c d : Int) : a * b * (c * d) = a * c * (b * d) := by
  rw [Int.mul_assoc, Int.mul_left_comm b c d, ← Int.mul_assoc]
theorem evR {α : Type} {g : Nat → Option α} {r r' : α} (e : Ev g r) (h : r = r') : Ev g r' := h ▸ e

end Go.Proofs.Ytcphlhphdpjnfaa.M
