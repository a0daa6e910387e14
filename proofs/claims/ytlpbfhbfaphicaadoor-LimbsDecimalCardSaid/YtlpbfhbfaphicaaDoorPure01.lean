/- Layer 1: what the bits' functions say of numbers. -/
import Derived.Test.YtlpbfhbfaphicaaDoorLess01
namespace Go.Proofs.YtlpbfhbfaphicaaDoor.L01
open Go Go.Proofs.YtlpbfhbfaphicaaDoor.M

theorem car_is (n m : Nat) : ∀ i, car (bt n) (bt m) i = decide (2 ^ i ≤ n % 2 ^ i + m % 2 ^ i)
  | 0 => by simp [car, Nat.mod_one]
  | i + 1 => by
    have ih := car_is n m i
    rw [car, ih]
    have en : bt n i = decide (n / 2 ^ i % 2 = 1) := Nat.testBit_eq_decide_div_mod_eq
    have em : bt m i = decide (m / 2 ^ i % 2 = 1) := Nat.testBit_eq_decide_div_mod_eq
    have hn := Nat.mod_pow_succ (b := 2) (k := i) (x := n)
    have hm := Nat.mod_pow_succ (b := 2) (k := i) (x := m)
    have ln : n % 2 ^ i < 2 ^ i := Nat.mod_lt _ (Nat.pow_pos (by decide))
    have lm : m % 2 ^ i < 2 ^ i := Nat.mod_lt _ (Nat.pow_pos (by decide))
    rw [en, em, hn, hm, Nat.pow_succ]
    generalize 2 ^ i = P at *
    generalize n % P = a at *
    generalize m % P = b at *
    rcases Nat.mod_two_eq_zero_or_one (n / P) with h1 | h1 <;> rcases Nat.mod_two_eq_zero_or_one (m / P) with h2 | h2 <;> rw [h1, h2] <;> by_cases h3 : P ≤ a + b <;> simp [h3] <;> omega
theorem sum_bt (n m : Nat) : sumB (bt n) (bt m) = bt (n + m) := by
  funext i
  have e : ∀ x, bt x i = decide (x / 2 ^ i % 2 = 1) := fun x => Nat.testBit_eq_decide_div_mod_eq
  rw [sumB, car_is, e, e, e]
  have hP : 0 < 2 ^ i := Nat.pow_pos (by decide)
  have ln : n % 2 ^ i < 2 ^ i := Nat.mod_lt _ hP
  have lm : m % 2 ^ i < 2 ^ i := Nat.mod_lt _ hP
  have hs : (n + m) / 2 ^ i = n / 2 ^ i + m / 2 ^ i + (if 2 ^ i ≤ n % 2 ^ i + m % 2 ^ i then 1 else 0) := Nat.add_div hP
  rw [hs]
  generalize 2 ^ i = P at *
  generalize n % P = a at *
  generalize m % P = b at *
  generalize n / P = c at *
  generalize m / P = d at *
  rcases Nat.mod_two_eq_zero_or_one c with h1 | h1 <;> rcases Nat.mod_two_eq_zero_or_one d with h2 | h2 <;> by_cases h3 : P ≤ a + b <;> simp [h1, h2, h3] <;> omega
theorem num_bt (n : Nat) : ∀ (k p : Nat), num (bt n) p k = n / 2 ^ p % 2 ^ k
  | 0, p => by simp [num, Nat.mod_one]
  | k + 1, p => by
    rw [num, num_bt n k (p + 1)]
    have h := div_bit n p
    rw [h, show 2 ^ (k + 1) = 2 * 2 ^ k by rw [Nat.pow_succ, Nat.mul_comm], Nat.mod_mul]
    generalize n / 2 ^ (p + 1) = d
    by_cases hb : bt n p
    · rw [if_pos hb, show (2 * d + 1) / 2 = d by omega]; omega
    · rw [if_neg hb, show (2 * d + 0) / 2 = d by omega]; omega
/-- The number of 192 bits. -/
def n3 (n : Nat) : N3 := ⟨((n % 2 ^ 64 : Nat) : Int), ((n / 2 ^ 64 % 2 ^ 64 : Nat) : Int), ((n / 2 ^ 128 % 2 ^ 64 : Nat) : Int)⟩
theorem n3_V (n : Nat) : (n3 n).V = ((n % 2 ^ 192 : Nat) : Int) := by
  unfold n3 N3.V
  dsimp only
  omega
theorem n3_ok (n : Nat) : (n3 n).ok := by
  unfold n3 N3.ok M.U
  dsimp only
  omega
theorem n_lt {a : N3} (ha : a.ok) : a.n < 2 ^ 192 := by
  obtain ⟨hx, hy, hz⟩ := ha
  unfold M.U at hx hy hz
  unfold N3.n N3.V
  omega
theorem n_V {a : N3} (ha : a.ok) : (a.n : Int) = a.V := by
  obtain ⟨hx, hy, hz⟩ := ha
  unfold M.U at hx hy hz
  unfold N3.n N3.V
  omega
theorem n3_n {a : N3} (ha : a.ok) : n3 a.n = a := by
  obtain ⟨x, y, z⟩ := a
  obtain ⟨hx, hy, hz⟩ := ha
  unfold M.U at hx hy hz
  unfold N3.n N3.V n3
  dsimp only at *
  congr 1 <;> omega
theorem n3_mod (n : Nat) : n3 (n % 2 ^ 192) = n3 n := by
  unfold n3
  congr 1 <;> omega
/-- Turned: the opposite's bits. -/
theorem turned_bt {n : Nat} (hn : n < 2 ^ 192) : put (sumB (upto 192 (fun j => !bt n j)) (put none' 0 true)) 192 false = bt ((2 ^ 192 - n) % 2 ^ 192) := by
  have h1 : upto 192 (fun j => !bt n j) = bt (2 ^ 192 - (n + 1)) := by
    funext j
    exact (Nat.testBit_two_pow_sub_succ hn j).symm
  have h2 : put none' 0 true = bt 1 := by
    funext j
    unfold put bt
    by_cases h : j = 0
    · subst h; rfl
    · rw [if_neg h]
      refine (Nat.testBit_lt_two_pow ?_).symm
      exact Nat.one_lt_two_pow h
  rw [h1, h2, sum_bt, show 2 ^ 192 - (n + 1) + 1 = 2 ^ 192 - n by omega]
  funext j
  unfold put bt
  rw [Nat.testBit_mod_two_pow]
  by_cases h : j = 192
  · subst h; simp
  · rw [if_neg h]
    by_cases hj : j < 192
    · simp [hj]
    · rw [decide_eq_false hj, Bool.false_and]
      refine Nat.testBit_lt_two_pow (Nat.lt_of_le_of_lt (Nat.sub_le _ _) (Nat.pow_lt_pow_right (by decide) (by omega)))
end Go.Proofs.YtlpbfhbfaphicaaDoor.L01
