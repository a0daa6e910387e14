/- Plain arithmetic: wraps, masks, one digit of a long division. -/
import Derived.Laws.BitsLemmas
import Derived.RowKit
import Derived.Lib.BitFns
import Derived.Lib.ItoaNum
import Derived.Test.YtlpbfhbfaphicaaDoorWMore
namespace Go.Proofs.YtlpbfhbfaphicaaDoor.M
open Go Go.RowKit Go.Proofs.YtlpbfhbfaphicaaDoorW.PrintWords Go.Proofs.YtlpbfhbfaphicaaDoorW.PrintMore

theorem wu64 (n : Int) : IntKind.u64.wrap n = n % 18446744073709551616 := by
  simp [IntKind.wrap, IntKind.bits, IntKind.signed]

theorem wu64_id (n : Int) (h0 : 0 ≤ n) (h1 : n < 18446744073709551616) : IntKind.u64.wrap n = n := by
  rw [wu64]; omega

theorem wraps_u64 (n : Int) (h0 : 0 ≤ n) (h1 : n < 2 ^ 64) : IntKind.u64.wrap n = n := by
  rw [wu64]; omega

theorem w64_id (n : Int) (h0 : -9223372036854775808 ≤ n) (h1 : n < 9223372036854775808) : wrap64 n = n := by
  unfold wrap64; omega

/-- A number of 64 bits. -/
def U (x : Int) : Prop := 0 ≤ x ∧ x < 18446744073709551616

theorem U_wrap (x : Int) : U (IntKind.u64.wrap x) := by
  rw [wu64]; unfold U; omega

theorem wf_U {x : Int} (h : (Lit.int .u64 x).wf = true) : U x := by
  simp [Lit.wf, IntKind.min, IntKind.max, IntKind.bits, IntKind.signed] at h
  unfold U; omega

theorem wf_I {x : Int} (h : (Lit.int .i64 x).wf = true) : -9223372036854775808 ≤ x ∧ x < 9223372036854775808 := by
  simp [Lit.wf, IntKind.min, IntKind.max, IntKind.bits, IntKind.signed] at h
  omega

theorem tmod_pos {a b : Int} (h : 0 ≤ a) : Int.tmod a b = a % b := by
  rw [Int.tmod_eq_emod_of_nonneg h]
theorem tdiv_pos {a b : Int} (h : 0 ≤ a) : Int.tdiv a b = a / b := by
  rw [Int.tdiv_eq_ediv_of_nonneg h]

theorem and32 (x : Int) (h : U x) : Go.bits .and .u64 x 4294967295 = x % 4294967296 :=
  bits_mask .u64 64 (by decide) wraps_u64 32 (by decide) x h.1 (by unfold U at h; omega)

theorem and1 (x : Int) (h : U x) : Go.bits .and .u64 x 1 = x % 2 := by
  have := bits_mask .u64 64 (by decide) wraps_u64 1 (by decide) x h.1 (by unfold U at h; omega)
  simpa using this

theorem stepE {α : Type} {g : Nat → Option α} {r : α} (h : ∃ f : Nat → Option α, (∀ k, g (k + 1) = f k) ∧ Ev f r) : Ev g r := by
  obtain ⟨f, h1, h2⟩ := h; exact Ev.step h1 h2
theorem congrE {α : Type} {g : Nat → Option α} {r : α} (h : ∃ f : Nat → Option α, (∀ k, g k = f k) ∧ Ev f r) : Ev g r := by
  obtain ⟨f, h1, h2⟩ := h; exact Ev.congr h1 h2

theorem evP {α : Type} {c : Prop} [Decidable c] {g f : Nat → Option α} {r : α} (h : c) (e : Ev g r) : Ev (fun k => if c then g k else f k) r :=
  Ev.congr (fun _ => if_pos h) e
theorem evN {α : Type} {c : Prop} [Decidable c] {g f : Nat → Option α} {r : α} (h : ¬ c) (e : Ev f r) : Ev (fun k => if c then g k else f k) r :=
  Ev.congr (fun _ => if_neg h) e

end Go.Proofs.YtlpbfhbfaphicaaDoor.M
