/- Layer 1: a number's decimal digits, the lowest first, doubled bit by bit: plain facts. -/
import Derived.Test.YtlpbfhbfaphicaaDoorDet01
import Derived.Test.YtlpbfhbfaphicaaDoorDec01
namespace Go.Proofs.YtlpbfhbfaphicaaDoor.L01
open Go Go.RowKit Go.Lib

/-- The digits, the lowest first. -/
def dg (u : Nat) : List Nat := if h : u < 10 then [u] else (u % 10) :: dg (u / 10)
termination_by u
decreasing_by omega
theorem dg_one {u : Nat} (h : u < 10) : dg u = [u] := by rw [dg, dif_pos h]
theorem dg_more {u : Nat} (h : ¬ u < 10) : dg u = (u % 10) :: dg (u / 10) := by rw [dg, dif_neg h]
theorem dg_dec (u : Nat) : Lib.decDigits u = ((dg u).map fun d => UInt8.ofNat (48 + d)).reverse := by
  induction u using Nat.strongRecOn with
  | _ u ih =>
    by_cases h : u < 10
    · rw [Lib.decDigits_one h, dg_one h]
      rfl
    · have e : Lib.decDigits u = Lib.decDigits (u / 10) ++ [UInt8.ofNat (48 + u % 10)] := by rw [Lib.decDigits, dif_neg h]
      rw [e, dg_more h, ih _ (by omega), List.map_cons, List.reverse_cons]
theorem dg_lt (u : Nat) : ∀ d ∈ dg u, d < 10 := by
  induction u using Nat.strongRecOn with
  | _ u ih =>
    by_cases h : u < 10
    · rw [dg_one h]
      intro d hd
      rw [List.mem_singleton.1 hd]
      exact h
    · rw [dg_more h]
      intro d hd
      rcases List.mem_cons.1 hd with rfl | hd
      · omega
      · exact ih _ (by omega) d hd
theorem dg_len (k : Nat) : ∀ u, u < 10 ^ (k + 1) → (dg u).length ≤ k + 1 ∧ 0 < (dg u).length := by
  induction k with
  | zero =>
    intro u h
    rw [dg_one (by simpa using h)]
    simp
  | succ k ih =>
    intro u h
    by_cases c : u < 10
    · rw [dg_one c]
      simp
    · obtain ⟨h1, h2⟩ := ih (u / 10) (Nat.div_lt_of_lt_mul (by rw [Nat.pow_succ, Nat.mul_comm] at h; exact h))
      rw [dg_more c, List.length_cons]
      omega
/-- Doubled, with a carry. -/
def dbl : Nat → List Nat → List Nat × Nat
  | c, [] => ([], c)
  | c, d :: t => ((2 * d + c) % 10 :: (dbl ((2 * d + c) / 10) t).1, (dbl ((2 * d + c) / 10) t).2)
theorem dbl_len : ∀ (l : List Nat) (c : Nat), (dbl c l).1.length = l.length
  | [], _ => rfl
  | d :: t, c => by
    show (dbl ((2 * d + c) / 10) t).1.length + 1 = _
    rw [dbl_len t]
    rfl
theorem dbl_dg (n : Nat) : ∀ c, c ≤ 1 → (dbl c (dg n)).2 ≤ 1 ∧ (if 0 < (dbl c (dg n)).2 then (dbl c (dg n)).1 ++ [(dbl c (dg n)).2] else (dbl c (dg n)).1) = dg (2 * n + c) := by
  induction n using Nat.strongRecOn with
  | _ n ih =>
    intro c hc
    by_cases h : n < 10
    · rw [dg_one h]
      show (2 * n + c) / 10 ≤ 1 ∧ (if 0 < (2 * n + c) / 10 then [(2 * n + c) % 10] ++ [(2 * n + c) / 10] else [(2 * n + c) % 10]) = _
      refine ⟨by omega, ?_⟩
      by_cases h2 : 2 * n + c < 10
      · rw [if_neg (by omega), dg_one h2, Nat.mod_eq_of_lt h2]
      · rw [if_pos (by omega), dg_more h2, dg_one (by omega)]
        rfl
    · rw [dg_more h]
      obtain ⟨c1, hc1⟩ : ∃ c1, (2 * (n % 10) + c) / 10 = c1 := ⟨_, rfl⟩
      have hc2 : c1 ≤ 1 := by omega
      obtain ⟨h1, h2⟩ := ih (n / 10) (by omega) c1 hc2
      have e1 : (dbl c (n % 10 :: dg (n / 10))).1 = (2 * (n % 10) + c) % 10 :: (dbl c1 (dg (n / 10))).1 := by rw [← hc1]; rfl
      have e2 : (dbl c (n % 10 :: dg (n / 10))).2 = (dbl c1 (dg (n / 10))).2 := by rw [← hc1]; rfl
      rw [e1, e2]
      refine ⟨h1, ?_⟩
      rw [dg_more (show ¬ 2 * n + c < 10 by omega), show (2 * n + c) / 10 = 2 * (n / 10) + c1 by omega, ← h2, show (2 * n + c) % 10 = (2 * (n % 10) + c) % 10 by omega]
      by_cases h3 : 0 < (dbl c1 (dg (n / 10))).2
      · rw [if_pos h3, if_pos h3]
        rfl
      · rw [if_neg h3, if_neg h3]
end Go.Proofs.YtlpbfhbfaphicaaDoor.L01
