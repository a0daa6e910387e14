/- Parts of this claim's texts, packed by wip/tools/prune.py: what the proof does not reach is left out. -/
import Derived.Test.YtcphlhphdpjnfaaZR3
import Derived.Lib.BitFns
import Derived.Lib.ItoaNum
section
namespace Go.Proofs.Ytcphlhphdpjnfaa.M
open Go Go.RowKit Go.Proofs.YtcphlhphdpjnfaaW.PrintWords Go.Proofs.YtcphlhphdpjnfaaW.PrintMore
theorem wu64 (n : Int) : IntKind.u64.wrap n = n % 18446744073709551616 := by
  simp [IntKind.wrap, IntKind.bits, IntKind.signed]
theorem wu64_id (n : Int) (h0 : 0 ≤ n) (h1 : n < 18446744073709551616) : IntKind.u64.wrap n = n := by
  rw [wu64]; omega
theorem wraps_u64 (n : Int) (h0 : 0 ≤ n) (h1 : n < 2 ^ 64) : IntKind.u64.wrap n = n := by
  rw [wu64]; omega
theorem w64_id (n : Int) (h0 : -9223372036854775808 ≤ n) (h1 : n < 9223372036854775808) : wrap64 n = n := by
  unfold wrap64; omega
def U (x : Int) : Prop := 0 ≤ x ∧ x < 18446744073709551616
theorem wf_U {x : Int} (h : (Lit.int .u64 x).wf = true) : U x := by
  simp [Lit.wf, IntKind.min, IntKind.max, IntKind.bits, IntKind.signed] at h
  unfold U; omega
theorem tmod_pos {a b : Int} (h : 0 ≤ a) : Int.tmod a b = a % b := by
  rw [Int.tmod_eq_emod_of_nonneg h]
theorem tdiv_pos {a b : Int} (h : 0 ≤ a) : Int.tdiv a b = a / b := by
  rw [Int.tdiv_eq_ediv_of_nonneg h]
theorem and32 (x : Int) (h : U x) : Go.bits .and .u64 x 4294967295 = x % 4294967296 :=
  bits_mask .u64 64 (by decide) wraps_u64 32 (by decide) x h.1 (by unfold U at h; omega)
theorem and1 (x : Int) (h : U x) : Go.bits .and .u64 x 1 = x % 2 := by
  have := bits_mask .u64 64 (by decide) wraps_u64 1 (by decide) x h.1 (by unfold U at h; omega)
  simpa using this
theorem stepE {α : Type} {g : Nat → Option α} {r : α} (h : ∃ f : Nat → Option α, (∀ k, g (k + 1) = f k) ∧ Ev f r) : Ev g r := by
  obtain ⟨f, h1, h2⟩ := h; exact Ev.step h1 h2
theorem evP {α : Type} {c : Prop} [Decidable c] {g f : Nat → Option α} {r : α} (h : c) (e : Ev g r) : Ev (fun k => if c then g k else f k) r :=
  Ev.congr (fun _ => if_pos h) e
theorem evN {α : Type} {c : Prop} [Decidable c] {g f : Nat → Option α} {r : α} (h : ¬ c) (e : Ev f r) : Ev (fun k => if c then g k else f k) r :=
  Ev.congr (fun _ => if_neg h) e
end Go.Proofs.Ytcphlhphdpjnfaa.M
end
section
namespace Go.Proofs.Ytcphlhphdpjnfaa.M
open Go Go.RowKit Go.Proofs.YtcphlhphdpjnfaaW.PrintWords
theorem U_emod (a : Int) {m : Int} (hm : U m) (h : m ≠ 0) : U (a % m) := by
  unfold U at *
  have := Int.emod_nonneg a h
  have := Int.emod_lt_of_pos a (by omega : 0 < m)
  omega
theorem emod_mul_l (a b m : Int) : a % m * b % m = a * b % m := by rw [Int.mul_emod, Int.emod_emod, ← Int.mul_emod]
theorem emod_mul_r (a b m : Int) : a * (b % m) % m = a * b % m := by rw [Int.mul_emod, Int.emod_emod, ← Int.mul_emod]
theorem emod_pow (a m : Int) (n : Nat) : (a % m) ^ n % m = a ^ n % m := by
  induction n with
  | zero => rw [Int.pow_zero, Int.pow_zero]
  | succ n ih => rw [Int.pow_succ, Int.pow_succ, emod_mul_r, ← emod_mul_l, ih, emod_mul_l]
theorem pow_half (a : Int) (n : Nat) (h : n % 2 = 0) : (a * a) ^ (n / 2) = a ^ n := by
  have : n = n / 2 + n / 2 := by omega
  rw [Int.mul_pow, ← Int.pow_add, ← this]
theorem pow_half1 (a : Int) (n : Nat) (h : n % 2 = 1) : a * (a * a) ^ (n / 2) = a ^ n := by
  have : n = 1 + (n / 2 + n / 2) := by omega
  rw [Int.mul_pow, ← Int.pow_add, show a * a ^ (n / 2 + n / 2) = a ^ 1 * a ^ (n / 2 + n / 2) from by rw [Int.pow_succ]; simp, ← Int.pow_add, ← this]
theorem U_one {m : Int} (hm : U m) (h : m ≠ 0) : U (1 % m) := U_emod 1 hm h
end Go.Proofs.Ytcphlhphdpjnfaa.M
end
section
namespace Go.Proofs.Ytcphlhphdpjnfaa.M
open Go Go.RowKit Go.Proofs.YtcphlhphdpjnfaaW.PrintWords
def GoodM (m : Int) : Prop := m % 2 = 1 ∧ 3 ≤ m ∧ m < 9223372036854775808
instance (m : Int) : Decidable (GoodM m) := by unfold GoodM; infer_instance
def mOne (m : Int) : Int := 18446744073709551616 % m
def mSq (m : Int) : Int := mOne m * mOne m % m
section
variable {m : Int}
end
end Go.Proofs.Ytcphlhphdpjnfaa.M
end
