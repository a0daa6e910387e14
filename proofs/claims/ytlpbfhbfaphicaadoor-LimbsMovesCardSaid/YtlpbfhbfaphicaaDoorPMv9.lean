/- Parts of this claim's texts, packed by wip/tools/prune.py: what the proof does not reach is left out. -/
import Derived.Test.YtlpbfhbfaphicaaDoorPMv8
import Derived.Laws.BitsAllLaws
section
namespace Go.Proofs.YtlpbfhbfaphicaaDoor.L01
open Go
theorem left_word (N p : Nat) {r : Nat} (hr : r < 64) : (N / 2 ^ (64 * (p + 1)) % 2 ^ 64) * 2 ^ r % 2 ^ 64 ||| (N / 2 ^ (64 * p) % 2 ^ 64) / 2 ^ (64 - r) = N * 2 ^ r / 2 ^ (64 * (p + 1)) % 2 ^ 64 := by
  refine Nat.eq_of_testBit_eq fun j => ?_
  simp only [Nat.testBit_or, Nat.testBit_mod_two_pow, Nat.testBit_mul_two_pow, Nat.testBit_div_two_pow]
  by_cases h : j < 64
  · by_cases h2 : r ≤ j
    · have e1 : j - r < 64 := by omega
      have e2 : ¬ j + (64 - r) < 64 := by omega
      have e3 : r ≤ j + 64 * (p + 1) := by omega
      have e4 : j + 64 * (p + 1) - r = j - r + 64 * (p + 1) := by omega
      simp [h, h2, e1, e2, e3, e4]
    · have e2 : j + (64 - r) < 64 := by omega
      have e3 : r ≤ j + 64 * (p + 1) := by omega
      have e4 : j + 64 * (p + 1) - r = j + (64 - r) + 64 * p := by omega
      simp [h, h2, e2, e3, e4]
  · have e2 : ¬ j + (64 - r) < 64 := by omega
    simp [h, e2]
theorem right_word (N p : Nat) {r : Nat} (hr : r < 64) : (N / 2 ^ (64 * p) % 2 ^ 64) / 2 ^ r ||| (N / 2 ^ (64 * (p + 1)) % 2 ^ 64) * 2 ^ (64 - r) % 2 ^ 64 = N / 2 ^ r / 2 ^ (64 * p) % 2 ^ 64 := by
  refine Nat.eq_of_testBit_eq fun j => ?_
  simp only [Nat.testBit_or, Nat.testBit_mod_two_pow, Nat.testBit_mul_two_pow, Nat.testBit_div_two_pow]
  by_cases h : j < 64
  · by_cases h2 : 64 - r ≤ j
    · have e1 : j - (64 - r) < 64 := by omega
      have e2 : ¬ j + r < 64 := by omega
      have e4 : j + 64 * p + r = j - (64 - r) + 64 * (p + 1) := by omega
      simp [h, h2, e1, e2, e4]
    · have e2 : j + r < 64 := by omega
      have e4 : j + 64 * p + r = j + r + 64 * p := by omega
      simp [h, h2, e2, e4]
  · have e2 : ¬ j + r < 64 := by omega
    simp [h, e2]
end Go.Proofs.YtlpbfhbfaphicaaDoor.L01
end
section
namespace Go.Proofs.YtlpbfhbfaphicaaDoor.L01
open Go Go.RowKit Go.Proofs.YtlpbfhbfaphicaaDoor.M
theorem h64 : (2 : Nat) ^ 64 = 18446744073709551616 := by decide
theorem so_nat {X Y r : Nat} (hY : Y < 2 ^ 64) (hr : r < 64) : so (X : Int) (Y : Int) (r : Int) = ((X * 2 ^ r % 2 ^ 64 ||| Y / 2 ^ (64 - r) : Nat) : Int) := by
  unfold so
  rw [wu64, Int.toNat_natCast, show (64 - (r : Int)).toNat = 64 - r by omega]
  have e1 : (X : Int) * 2 ^ r % 18446744073709551616 = ((X * 2 ^ r % 2 ^ 64 : Nat) : Int) := by rw [h64, Int.natCast_emod, Int.natCast_mul, Int.natCast_pow]; rfl
  have e2 : (Y : Int) / 2 ^ (64 - r) = ((Y / 2 ^ (64 - r) : Nat) : Int) := by push_cast; rfl
  rw [e1, e2]
  rw [h64] at *
  refine bits_or_u64_nat _ _ ?_ ?_
  · exact Nat.mod_lt _ (by decide)
  · exact Nat.lt_of_le_of_lt (Nat.div_le_self _ _) (by omega)
theorem sl_nat {X r : Nat} : sl (X : Int) (r : Int) = ((X * 2 ^ r % 2 ^ 64 : Nat) : Int) := by
  unfold sl
  rw [wu64, Int.toNat_natCast, h64, Int.natCast_emod, Int.natCast_mul, Int.natCast_pow]
  rfl
theorem ro_nat {X Y r : Nat} (hX : X < 2 ^ 64) (hr : r < 64) : ro (X : Int) (Y : Int) (r : Int) = ((X / 2 ^ r ||| Y * 2 ^ (64 - r) % 2 ^ 64 : Nat) : Int) := by
  unfold ro
  rw [wu64, Int.toNat_natCast, show (64 - (r : Int)).toNat = 64 - r by omega]
  have e1 : (Y : Int) * 2 ^ (64 - r) % 18446744073709551616 = ((Y * 2 ^ (64 - r) % 2 ^ 64 : Nat) : Int) := by rw [h64, Int.natCast_emod, Int.natCast_mul, Int.natCast_pow]; rfl
  have e2 : (X : Int) / 2 ^ r = ((X / 2 ^ r : Nat) : Int) := by push_cast; rfl
  rw [e1, e2]
  rw [h64] at *
  refine bits_or_u64_nat _ _ ?_ ?_
  · exact Nat.lt_of_le_of_lt (Nat.div_le_self _ _) (by omega)
  · exact Nat.mod_lt _ (by decide)
theorem sr_nat {X r : Nat} : sr (X : Int) (r : Int) = ((X / 2 ^ r : Nat) : Int) := by
  unfold sr
  rw [Int.toNat_natCast]
  push_cast
  rfl
end Go.Proofs.YtlpbfhbfaphicaaDoor.L01
end
section
namespace Go.Proofs.YtlpbfhbfaphicaaDoor.L01
open Go Go.RowKit Go.Proofs.YtlpbfhbfaphicaaDoor.M
theorem parts {a : N3} (ha : a.ok) : a.x = ((a.n % 2 ^ 64 : Nat) : Int) ∧ a.y = ((a.n / 2 ^ 64 % 2 ^ 64 : Nat) : Int) ∧ a.z = ((a.n / 2 ^ 128 % 2 ^ 64 : Nat) : Int) := by
  have h := n3_n ha
  unfold n3 at h
  exact ⟨(congrArg N3.x h).symm, (congrArg N3.y h).symm, (congrArg N3.z h).symm⟩
theorem mod_lt64 (x : Nat) : x % 2 ^ 64 < 2 ^ 64 := Nat.mod_lt _ (by decide)
theorem low_mul (N c : Nat) : N % 2 ^ 64 * c % 2 ^ 64 = N * c % 2 ^ 64 := by rw [Nat.mul_mod, Nat.mod_mod, ← Nat.mul_mod]
theorem lw0 (N : Nat) {r : Nat} (hr : r < 64) : N / 2 ^ 64 % 2 ^ 64 * 2 ^ r % 2 ^ 64 ||| N % 2 ^ 64 / 2 ^ (64 - r) = N * 2 ^ r / 2 ^ 64 % 2 ^ 64 := by
  have h := left_word N 0 hr
  rw [show 64 * (0 + 1) = 64 from rfl, show 64 * 0 = 0 from rfl, Nat.pow_zero, Nat.div_one] at h
  exact h
theorem lw1 (N : Nat) {r : Nat} (hr : r < 64) : N / 2 ^ 128 % 2 ^ 64 * 2 ^ r % 2 ^ 64 ||| N / 2 ^ 64 % 2 ^ 64 / 2 ^ (64 - r) = N * 2 ^ r / 2 ^ 128 % 2 ^ 64 := left_word N 1 hr
theorem rw0 (N : Nat) {r : Nat} (hr : r < 64) : N % 2 ^ 64 / 2 ^ r ||| N / 2 ^ 64 % 2 ^ 64 * 2 ^ (64 - r) % 2 ^ 64 = N / 2 ^ r % 2 ^ 64 := by
  have h := right_word N 0 hr
  rw [show 64 * (0 + 1) = 64 from rfl, show 64 * 0 = 0 from rfl, Nat.pow_zero, Nat.div_one, Nat.div_one] at h
  exact h
theorem rw1 (N : Nat) {r : Nat} (hr : r < 64) : N / 2 ^ 64 % 2 ^ 64 / 2 ^ r ||| N / 2 ^ 128 % 2 ^ 64 * 2 ^ (64 - r) % 2 ^ 64 = N / 2 ^ r / 2 ^ 64 % 2 ^ 64 := right_word N 1 hr
theorem n3_up (M : Nat) : n3 (M * 2 ^ 64) = ⟨0, ((M % 2 ^ 64 : Nat) : Int), ((M / 2 ^ 64 % 2 ^ 64 : Nat) : Int)⟩ := by
  unfold n3
  congr 1 <;> omega
theorem n3_up2 (M : Nat) : n3 (M * 2 ^ 128) = ⟨0, 0, ((M % 2 ^ 64 : Nat) : Int)⟩ := by
  unfold n3
  congr 1 <;> omega
theorem n3_up3 (M : Nat) : n3 (M * 2 ^ 192) = ⟨0, 0, 0⟩ := by
  unfold n3
  congr 1 <;> omega
theorem left_n {a : N3} {n : Int} {k : Nat} (ha : a.ok) (hk : min (max n 0) 192 = (k : Int)) (w : World) : Calls Tryd.prog 19 #[T3 a, .int .i64 n] w fun e w' => e = .returned (T3 (n3 (a.n * 2 ^ k))) ∧ Below w.heap.size w w' := by
  obtain ⟨hx, hy, hz⟩ := parts ha
  have hk192 : k ≤ 192 := by omega
  obtain ⟨r, hr, h⟩ : ∃ r, r < 64 ∧ (k = r ∨ k = r + 64 ∨ k = r + 128 ∨ (k = 192 ∧ r = 0)) := ⟨k % 64, Nat.mod_lt _ (by decide), by omega⟩
  rcases h with rfl | rfl | rfl | ⟨rfl, rfl⟩
  · have e : n3 (a.n * 2 ^ k) = ⟨sl a.x k, so a.y a.x k, so a.z a.y k⟩ := by
      rw [hx, hy, hz, sl_nat, so_nat (mod_lt64 _) hr, so_nat (mod_lt64 _) hr, low_mul, lw0 _ hr, lw1 _ hr]
      rfl
    rw [e]
    exact left_0 ha hr (by omega) w
  · have e : n3 (a.n * 2 ^ (r + 64)) = ⟨0, sl a.x r, so a.y a.x r⟩ := by
      rw [hx, hy, sl_nat, so_nat (mod_lt64 _) hr, low_mul, lw0 _ hr, Nat.pow_add, ← Nat.mul_assoc, n3_up]
    rw [e]
    exact left_1 ha hr (by omega) w
  · have e : n3 (a.n * 2 ^ (r + 128)) = ⟨0, 0, sl a.x r⟩ := by
      rw [hx, sl_nat, low_mul, Nat.pow_add, ← Nat.mul_assoc, n3_up2]
    rw [e]
    exact left_2 ha hr (by omega) w
  · rw [n3_up3]
    exact left_3 ha hr (by omega) w
theorem rw2 {N : Nat} (hN : N < 2 ^ 192) (r : Nat) : N / 2 ^ 128 % 2 ^ 64 / 2 ^ r = N / 2 ^ r / 2 ^ 128 % 2 ^ 64 := by
  rw [Nat.div_div_eq_div_mul, Nat.mul_comm, ← Nat.div_div_eq_div_mul, Nat.mod_eq_of_lt (by omega)]
  have h : N / 2 ^ 128 / 2 ^ r ≤ N / 2 ^ 128 := Nat.div_le_self _ _
  rw [Nat.mod_eq_of_lt (by omega)]
theorem n3_dn {M : Nat} (h : M < 2 ^ 192) : n3 (M / 2 ^ 64) = ⟨((M / 2 ^ 64 % 2 ^ 64 : Nat) : Int), ((M / 2 ^ 128 % 2 ^ 64 : Nat) : Int), 0⟩ := by
  unfold n3
  congr 1 <;> omega
theorem n3_dn2 {M : Nat} (h : M < 2 ^ 192) : n3 (M / 2 ^ 128) = ⟨((M / 2 ^ 128 % 2 ^ 64 : Nat) : Int), 0, 0⟩ := by
  unfold n3
  congr 1 <;> omega
theorem n3_dn3 {M : Nat} (h : M < 2 ^ 192) : n3 (M / 2 ^ 192) = ⟨0, 0, 0⟩ := by
  unfold n3
  congr 1 <;> omega
theorem right_n {a : N3} {n : Int} {k : Nat} (ha : a.ok) (hk : min (max n 0) 192 = (k : Int)) (w : World) : Calls Tryd.prog 20 #[T3 a, .int .i64 n] w fun e w' => e = .returned (T3 (n3 (a.n / 2 ^ k))) ∧ Below w.heap.size w w' := by
  obtain ⟨hx, hy, hz⟩ := parts ha
  have hN := n_lt ha
  have hk192 : k ≤ 192 := by omega
  obtain ⟨r, hr, h⟩ : ∃ r, r < 64 ∧ (k = r ∨ k = r + 64 ∨ k = r + 128 ∨ (k = 192 ∧ r = 0)) := ⟨k % 64, Nat.mod_lt _ (by decide), by omega⟩
  have hM : a.n / 2 ^ r < 2 ^ 192 := Nat.lt_of_le_of_lt (Nat.div_le_self _ _) hN
  rcases h with rfl | rfl | rfl | ⟨rfl, rfl⟩
  · have e : n3 (a.n / 2 ^ k) = ⟨ro a.x a.y k, ro a.y a.z k, sr a.z k⟩ := by
      rw [hx, hy, hz, sr_nat, ro_nat (mod_lt64 _) hr, ro_nat (mod_lt64 _) hr, rw0 _ hr, rw1 _ hr, rw2 hN]
      rfl
    rw [e]
    exact right_0 ha hr (by omega) w
  · have e : n3 (a.n / 2 ^ (r + 64)) = ⟨ro a.y a.z r, sr a.z r, 0⟩ := by
      rw [hy, hz, sr_nat, ro_nat (mod_lt64 _) hr, rw1 _ hr, rw2 hN, Nat.pow_add, ← Nat.div_div_eq_div_mul, n3_dn hM]
    rw [e]
    exact right_1 ha hr (by omega) w
  · have e : n3 (a.n / 2 ^ (r + 128)) = ⟨sr a.z r, 0, 0⟩ := by
      rw [hz, sr_nat, rw2 hN, Nat.pow_add, ← Nat.div_div_eq_div_mul, n3_dn2 hM]
    rw [e]
    exact right_2 ha hr (by omega) w
  · rw [n3_dn3 hN]
    exact right_3 ha hr (by omega) w
end Go.Proofs.YtlpbfhbfaphicaaDoor.L01
end
section
namespace Go.Proofs.YtlpbfhbfaphicaaDoor.L01
open Go Go.RowKit Go.Proofs.YtlpbfhbfaphicaaDoor.M
theorem mv_up (N k : Nat) : mvB (bt N) (k : Int) 192 = bt (N * 2 ^ k % 2 ^ 192) := by
  funext j
  unfold mvB bt
  rw [Nat.testBit_mod_two_pow, Nat.testBit_mul_two_pow]
  by_cases hj : j < 192
  · by_cases h : k ≤ j
    · rw [decide_eq_true (show (0 : Int) ≤ (j : Int) - (k : Int) by omega), decide_eq_true (show (j : Int) - (k : Int) < ((192 : Nat) : Int) by omega), show ((j : Int) - (k : Int)).toNat = j - k by omega]
      simp [h, hj]
    · rw [decide_eq_false (show ¬ (0 : Int) ≤ (j : Int) - (k : Int) by omega)]
      simp [h]
  · simp [hj]
theorem mv_down {N : Nat} (hN : N < 2 ^ 192) (k : Nat) : mvB (bt N) (-(k : Int)) 192 = bt (N / 2 ^ k) := by
  funext j
  unfold mvB bt
  rw [Nat.testBit_div_two_pow, show ((j : Int) - -(k : Int)).toNat = j + k by omega, decide_eq_true (show (0 : Int) ≤ (j : Int) - -(k : Int) by omega), Bool.true_and]
  by_cases hj : j + k < 192
  · rw [decide_eq_true (show (j : Int) - -(k : Int) < ((192 : Nat) : Int) by omega), decide_eq_true (show j < 192 by omega)]
    rfl
  · rw [decide_eq_false (show ¬ (j : Int) - -(k : Int) < ((192 : Nat) : Int) by omega)]
    rw [Nat.testBit_lt_two_pow (Nat.lt_of_lt_of_le hN (Nat.pow_le_pow_right (by decide) (show 192 ≤ j + k by omega)))]
    simp
theorem mvup_n (N : Nat) {k : Nat} (hk : k ≤ 192) (w : World) : Calls Tryd.prog 22 #[TB (bt N), .int .i64 (k : Int), .int .i64 192] w fun e w' => e = .returned (TB (bt (N * 2 ^ k % 2 ^ 192))) ∧ Below w.heap.size w w' := by
  rw [← mv_up]
  exact moved_calls (bt N) (n := (k : Int)) (m := 192) (by omega) (by decide) w
theorem mvdn_n {N : Nat} (hN : N < 2 ^ 192) {k : Nat} (hk : k ≤ 192) (w : World) : Calls Tryd.prog 22 #[TB (bt N), .int .i64 (-(k : Int)), .int .i64 192] w fun e w' => e = .returned (TB (bt (N / 2 ^ k))) ∧ Below w.heap.size w w' := by
  rw [← mv_down hN]
  exact moved_calls (bt N) (n := -(k : Int)) (m := 192) (by omega) (by decide) w
theorem back_bt (N k i : Nat) : bt (N * 2 ^ k % 2 ^ 192 / 2 ^ k) i = (decide (i + k < 192) && bt N i) := by
  unfold bt
  rw [Nat.testBit_div_two_pow, Nat.testBit_mod_two_pow, Nat.testBit_mul_two_pow, Nat.add_sub_cancel]
  simp
end Go.Proofs.YtlpbfhbfaphicaaDoor.L01
end
