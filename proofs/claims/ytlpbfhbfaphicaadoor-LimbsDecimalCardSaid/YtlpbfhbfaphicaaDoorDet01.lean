/- Layer 1: bit; sums, differences, opposites and comparisons as numbers. -/
import Derived.Test.YtlpbfhbfaphicaaDoorLbit01
import Derived.Test.YtlpbfhbfaphicaaDoorWhole01
namespace Go.Proofs.YtlpbfhbfaphicaaDoor.L01
open Go Go.RowKit Go.Proofs.YtlpbfhbfaphicaaDoorW.PrintWords Go.Proofs.YtlpbfhbfaphicaaDoorW.PrintLast Go.Proofs.YtlpbfhbfaphicaaDoorW.PrintMore Go.Proofs.YtlpbfhbfaphicaaDoor.Given Go.Proofs.YtlpbfhbfaphicaaDoor.M Go.Proofs.YtlpbfhbfaphicaaDoor.XB

set_option linter.unusedVariables false
theorem whole_bt (n : Nat) : wholeN (bt n) = n3 n := by
  unfold wholeN n3
  rw [num_bt, num_bt, num_bt, Nat.pow_zero, Nat.div_one]
theorem whole_n (n : Nat) (w : World) : Calls Tryd.prog 21 #[TB (bt n)] w fun e w' => e = .returned (T3 (n3 n)) ∧ Below w.heap.size w w' := by
  rw [← whole_bt]
  exact whole_calls _ w
theorem sum_n (n m : Nat) (w : World) : Calls Tryd.prog 24 #[TB (bt n), TB (bt m)] w fun e w' => e = .returned (TB (bt (n + m))) ∧ Below w.heap.size w w' := by
  rw [← sum_bt]
  exact sum_calls _ _ w
theorem eq_n3 {s : N3} (hs : s.ok) {n : Nat} (h : ∃ k : Int, s.V = (n : Int) - 6277101735386680763835789423207666416102355444464034512896 * k) : s = n3 n := by
  obtain ⟨k, h⟩ := h
  rw [← n3_n hs, ← n3_mod n, ← n3_mod s.n]
  congr 1
  have := n_V hs
  have := n_lt hs
  omega
theorem add_n {a b : N3} (ha : a.ok) (hb : b.ok) (w : World) : Calls Tryd.prog 14 #[T3 a, T3 b] w fun e w' => e = .returned (.tuple #[T3 (n3 (a.n + b.n)), .bool (bt (a.n + b.n) 192)]) ∧ Below w.heap.size w w' := by
  refine (add_calls ha hb w).mono ?_
  rintro e w' ⟨s, c, rfl, hb', hs, h0, h1, hV⟩
  refine ⟨?_, hb'⟩
  have en := n_V ha
  have em := n_V hb
  have e1 : s = n3 (a.n + b.n) := eq_n3 hs ⟨c, by omega⟩
  have e2 : (c == 1) = bt (a.n + b.n) 192 := by
    have l1 := n_lt ha
    have l2 := n_lt hb
    have l3 := n_lt hs
    have e3 := n_V hs
    have e : bt (a.n + b.n) 192 = decide ((a.n + b.n) / 2 ^ 192 % 2 = 1) := Nat.testBit_eq_decide_div_mod_eq
    rw [e]
    show decide (c = 1) = _
    exact decide_eq_decide.2 (by omega)
  rw [← e1, ← e2]
theorem neg_n {b : N3} (hb : b.ok) (w : World) : Calls Tryd.prog 16 #[T3 b] w fun e w' => e = .returned (T3 (n3 ((2 ^ 192 - b.n) % 2 ^ 192))) ∧ Below w.heap.size w w' := by
  refine (neg_calls hb w).mono ?_
  rintro e w' ⟨s, c, rfl, hb', hs, h0, h1, hV⟩
  refine ⟨?_, hb'⟩
  have em := n_V hb
  have l2 := n_lt hb
  rw [n3_mod, ← eq_n3 hs (n := 2 ^ 192 - b.n) ⟨1 - c, by omega⟩]
theorem sub_n {a b : N3} (ha : a.ok) (hb : b.ok) (w : World) : Calls Tryd.prog 15 #[T3 a, T3 b] w fun e w' => e = .returned (.tuple #[T3 (n3 (a.n + (2 ^ 192 - b.n) % 2 ^ 192)), .bool (decide (a.n < b.n))]) ∧ Below w.heap.size w w' := by
  refine (sub_calls ha hb w).mono ?_
  rintro e w' ⟨s, c, rfl, hb', hs, h0, h1, hV⟩
  refine ⟨?_, hb'⟩
  have en := n_V ha
  have em := n_V hb
  have l1 := n_lt ha
  have l2 := n_lt hb
  have l3 := n_lt hs
  have e3 := n_V hs
  have e1 : s = n3 (a.n + (2 ^ 192 - b.n) % 2 ^ 192) := eq_n3 hs (by
    by_cases h : b.n = 0
    · exact ⟨-c, by omega⟩
    · exact ⟨1 - c, by omega⟩)
  have e2 : (c == 1) = decide (a.n < b.n) := by
    show decide (c = 1) = _
    exact decide_eq_decide.2 (by omega)
  rw [← e1, ← e2]
def cmpN (n m : Nat) : Int := if n < m then -1 else if m < n then 1 else 0
theorem compare_n {a b : N3} (ha : a.ok) (hb : b.ok) (w : World) : Calls Tryd.prog 27 #[T3 a, T3 b] w fun e w' => e = .returned (.int .i64 (cmpN a.n b.n)) ∧ Below w.heap.size w w' := by
  refine (compare_calls ha hb w).mono ?_
  rintro e w' ⟨r, rfl, hb', hr⟩
  refine ⟨?_, hb'⟩
  have en := n_V ha
  have em := n_V hb
  have : r = cmpN a.n b.n := by
    unfold cmpN
    split
    · omega
    · split <;> omega
  rw [this]
theorem bt_lt {n : Nat} (h : n < 2 ^ 192) : n < 2 ^ 256 := Nat.lt_trans h (by decide)
end Go.Proofs.YtlpbfhbfaphicaaDoor.L01
