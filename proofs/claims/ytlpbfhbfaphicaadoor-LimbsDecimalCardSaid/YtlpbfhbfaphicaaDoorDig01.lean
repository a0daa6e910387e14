/- Layer 1: decimal digits, by pieces of eighteen: plain facts. -/
import Derived.Test.YtlpbfhbfaphicaaDoorFmt01
namespace Go.Proofs.YtlpbfhbfaphicaaDoor.L01
open Go Go.RowKit Go.Lib

/-- k digits of a number, the lowest last. -/
def pad : Nat → Nat → List UInt8
  | 0, _ => []
  | k + 1, r => pad k (r / 10) ++ [UInt8.ofNat (48 + r % 10)]
theorem pad_len (k : Nat) : ∀ r, (pad k r).length = k := by
  induction k with
  | zero => intro r; rfl
  | succ k ih => intro r; show (pad k (r / 10) ++ [_]).length = _; rw [List.length_append, ih]; rfl
theorem dec_pad (k : Nat) : ∀ q r : Nat, 0 < q → r < 10 ^ k → Lib.decDigits (q * 10 ^ k + r) = Lib.decDigits q ++ pad k r := by
  induction k with
  | zero =>
    intro q r hq hr
    have : r = 0 := by simpa using hr
    subst this
    simp [pad]
  | succ k ih =>
    intro q r hq hr
    have hp : 10 ^ (k + 1) = 10 ^ k * 10 := Nat.pow_succ 10 k
    have h1 : 1 ≤ 10 ^ k := Nat.pow_pos (by decide)
    have hge : 10 ≤ q * 10 ^ (k + 1) + r := by
      rw [hp]
      have : 1 * (1 * 10) ≤ q * (10 ^ k * 10) := Nat.mul_le_mul hq (Nat.mul_le_mul_right _ h1)
      omega
    rw [Lib.decDigits, dif_neg (by omega)]
    have e1 : (q * 10 ^ (k + 1) + r) / 10 = q * 10 ^ k + r / 10 := by
      rw [hp, ← Nat.mul_assoc, Nat.mul_comm _ 10, Nat.mul_add_div (by decide)]
    have e2 : (q * 10 ^ (k + 1) + r) % 10 = r % 10 := by
      rw [hp, ← Nat.mul_assoc, Nat.mul_comm _ 10, Nat.mul_add_mod]
    rw [e1, e2, ih q (r / 10) hq (Nat.div_lt_of_lt_mul (by rw [hp, Nat.mul_comm] at hr; exact hr)), List.append_assoc]
    rfl
theorem pad_zero (k : Nat) : pad k 0 = List.replicate k 48 := by
  induction k with
  | zero => rfl
  | succ k ih =>
    show pad k (0 / 10) ++ [UInt8.ofNat (48 + 0 % 10)] = _
    rw [Nat.zero_div, ih, List.replicate_succ']
    rfl
theorem pad_dec (k : Nat) : ∀ r : Nat, r < 10 ^ (k + 1) → pad (k + 1) r = List.replicate (k + 1 - (Lib.decDigits r).length) 48 ++ Lib.decDigits r ∧ (Lib.decDigits r).length ≤ k + 1 := by
  induction k with
  | zero =>
    intro r hr
    have hr' : r < 10 := by simpa using hr
    rw [Lib.decDigits_one hr']
    refine ⟨?_, by simp⟩
    show pad 0 (r / 10) ++ [UInt8.ofNat (48 + r % 10)] = _
    rw [Nat.mod_eq_of_lt hr']
    rfl
  | succ k ih =>
    intro r hr
    show pad (k + 1) (r / 10) ++ [UInt8.ofNat (48 + r % 10)] = _ ∧ _
    by_cases c : r < 10
    · rw [Nat.div_eq_of_lt c, pad_zero, Nat.mod_eq_of_lt c, Lib.decDigits_one c]
      refine ⟨?_, by simp⟩
      simp
    · obtain ⟨i1, i2⟩ := ih (r / 10) (Nat.div_lt_of_lt_mul (by rw [Nat.pow_succ, Nat.mul_comm] at hr; exact hr))
      have e : Lib.decDigits r = Lib.decDigits (r / 10) ++ [UInt8.ofNat (48 + r % 10)] := by rw [Lib.decDigits, dif_neg c]
      rw [i1, e, List.length_append, List.append_assoc]
      refine ⟨?_, by simp; omega⟩
      congr 2
      simp
/-- A number's digits, by its upper part and its lowest eighteen. -/
theorem dec_step {q r : Nat} (hq : 0 < q) (hr : r < 1000000000000000000) : Lib.decDigits (1000000000000000000 * q + r) = Lib.decDigits q ++ (List.replicate (18 - (Lib.decDigits r).length) 48 ++ Lib.decDigits r) ∧ (Lib.decDigits r).length ≤ 18 := by
  have h := pad_dec 17 r hr
  rw [← h.1, Nat.mul_comm]
  exact ⟨dec_pad 18 q r hq hr, h.2⟩
theorem tab_below {w w' : World} (h : Tab w) (hb : Below w.heap.size w w') : Tab w' := by
  unfold Tab Lib.TabIs World.var? at h ⊢
  cases hg : Tryd.prog.globalNamed "internal/strconv.uint64pow10" with
  | none => rw [hg] at h; cases h
  | some g =>
    rw [hg] at h
    simp only [Option.bind_some] at h ⊢
    have hlt : g < w.heap.size := by
      rcases Nat.lt_or_ge g w.heap.size with h' | h'
      · exact h'
      · rw [Array.getElem?_eq_none h'] at h; cases h
    rw [hb.block g hlt]
    exact h

end Go.Proofs.YtlpbfhbfaphicaaDoor.L01
