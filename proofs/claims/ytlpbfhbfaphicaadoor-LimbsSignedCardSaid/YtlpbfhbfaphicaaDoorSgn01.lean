/- Layer 1: LimbsSigned: numbers with a sign keep their value, and their sums theirs: walked. -/
import Derived.Test.YtlpbfhbfaphicaaDoorSpr01
import Derived.Deep.RegionHeld3
import Derived.Deep.QuietTactic
import Derived.BigQuiet
namespace Go.Proofs.YtlpbfhbfaphicaaDoor.L01
open Go Go.RowKit Go.Lib Go.Proofs.YtlpbfhbfaphicaaDoorW.PrintWords Go.Proofs.YtlpbfhbfaphicaaDoorW.PrintLast Go.Proofs.YtlpbfhbfaphicaaDoorW.PrintMore Go.Proofs.YtlpbfhbfaphicaaDoor.Given Go.Proofs.YtlpbfhbfaphicaaDoor.M

set_option linter.unusedVariables false
def I64 (n : Int) : Prop := -9223372036854775808 ≤ n ∧ n ≤ 9223372036854775807
theorem ofN_ok {n : Int} (h : I64 n) : (ofN n).ok := by
  unfold I64 at h
  unfold ofN N3.ok M.U
  split <;> refine ⟨⟨?_, ?_⟩, ⟨?_, ?_⟩, ⟨?_, ?_⟩⟩ <;> dsimp only <;> omega
theorem ofN_V {n : Int} : (ofN n).V = if 0 ≤ n then n else n + 6277101735386680763835789423207666416102355444464034512896 := by
  unfold ofN N3.V
  by_cases c : 0 ≤ n
  · rw [if_pos c, if_pos c]; dsimp only; omega
  · rw [if_neg c, if_neg c]; dsimp only; omega
theorem ofN_x {n : Int} (h : I64 n) : wrap64 (ofN n).x = n := by
  unfold I64 at h
  unfold ofN wrap64
  split <;> dsimp only <;> omega
/-- Int of a number that has a value of 64 bits, and of one that hasn't. -/
theorem int_yes {a : N3} (ha : a.ok) {v : Int} (hv : wrap64 a.x = v) (h : a = ofN v) (W : World) : Calls Tryd.prog 17 #[T3 a] W fun e w' => e = .returned (.tuple #[.int .i64 v, .bool true]) ∧ Below W.heap.size W w' := by
  refine (int_calls ha W).mono ?_
  rintro e w' ⟨b, rfl, hb, hbi⟩
  have : b = true := hbi.2 (by rw [hv]; exact h)
  subst this
  exact ⟨by rw [if_pos rfl, hv], hb⟩
theorem int_no {a : N3} (ha : a.ok) (h : a ≠ ofN (wrap64 a.x)) (W : World) : Calls Tryd.prog 17 #[T3 a] W fun e w' => e = .returned (.tuple #[.int .i64 0, .bool false]) ∧ Below W.heap.size W w' := by
  refine (int_calls ha W).mono ?_
  rintro e w' ⟨b, rfl, hb, hbi⟩
  have : b = false := by
    cases b with
    | false => rfl
    | true => exact absurd (hbi.1 rfl) h
  subst this
  exact ⟨by rw [if_neg Bool.false_ne_true], hb⟩
/-- Does a sum of two numbers of 64 bits with a sign, going round to S, keep its value? -/
def fitsB (n m S : Int) : Bool := decide ((n < 0 ∧ 0 ≤ m) ∨ (0 ≤ n ∧ m < 0) ∨ (0 ≤ n ∧ 0 ≤ S) ∨ (n < 0 ∧ S < 0))
theorem sum_x {n m c : Int} {s : N3} (hn : I64 n) (hm : I64 m) (hs : s.ok) (h : s.V + 6277101735386680763835789423207666416102355444464034512896 * c = (ofN n).V + (ofN m).V) : wrap64 s.x = wrap64 (n + m) := by
  rw [ofN_V, ofN_V] at h
  obtain ⟨u0, u1, u2⟩ := hs
  unfold M.U at u0 u1 u2
  unfold N3.V at h
  unfold wrap64
  obtain ⟨x, y, z⟩ := s
  dsimp only at *
  have : ∃ k : Int, x = n + m + 18446744073709551616 * k := by
    split at h <;> split at h
    · exact ⟨- y - 18446744073709551616 * z - 340282366920938463463374607431768211456 * c, by omega⟩
    · exact ⟨- y - 18446744073709551616 * z - 340282366920938463463374607431768211456 * c + 340282366920938463463374607431768211456, by omega⟩
    · exact ⟨- y - 18446744073709551616 * z - 340282366920938463463374607431768211456 * c + 340282366920938463463374607431768211456, by omega⟩
    · exact ⟨- y - 18446744073709551616 * z - 340282366920938463463374607431768211456 * c + 680564733841876926926749214863536422912, by omega⟩
  obtain ⟨k, rfl⟩ := this
  omega
theorem sum_fits {n m c : Int} {s : N3} (hn : I64 n) (hm : I64 m) (hs : s.ok) (h : s.V + 6277101735386680763835789423207666416102355444464034512896 * c = (ofN n).V + (ofN m).V) : s = ofN (wrap64 (n + m)) ↔ fitsB n m (wrap64 (n + m)) = true := by
  have hx := sum_x hn hm hs h
  have hS : I64 (wrap64 (n + m)) := by unfold I64 wrap64; omega
  have hSe : wrap64 (n + m) = n + m ∨ wrap64 (n + m) = n + m - 18446744073709551616 ∨ wrap64 (n + m) = n + m + 18446744073709551616 := by
    unfold I64 at hn hm
    unfold wrap64
    omega
  generalize wrap64 (n + m) = S at *
  unfold fitsB
  rw [decide_eq_true_iff]
  have hV := ofN_V (n := S)
  rw [ofN_V, ofN_V] at h
  unfold I64 at hn hm hS
  constructor
  · intro e
    rw [e, hV] at h
    have key : ∀ A B C : Int, A + 6277101735386680763835789423207666416102355444464034512896 * c = B + C → True := fun _ _ _ _ => trivial
    split at h <;> split at h <;> split at h <;> omega
  · intro f
    refine N3.eq_of hs (ofN_ok hS) (if 0 ≤ n then (if 0 ≤ m then (if 0 ≤ S then -c else -c - 1) else (if 0 ≤ S then 1 - c else -c)) else (if 0 ≤ m then (if 0 ≤ S then 1 - c else -c) else (if 0 ≤ S then 2 - c else 1 - c))) ?_
    rw [hV]
    split at h <;> split at h <;> split <;> (try split) <;> (try split) <;> omega

end Go.Proofs.YtlpbfhbfaphicaaDoor.L01
