/- The functions of math/bits that this session gives by hand: plain Lean functions and their contracts. -/
import Derived.Test.YtlpbfhbfaphicaaDoorProg
import Derived.Test.YtlpbfhbfaphicaaDoorShelf
import Derived.Laws.Externs
import Derived.KernelRfl
import Derived.Test.YtlpbfhbfaphicaaDoorWMore
namespace Go.Proofs.YtlpbfhbfaphicaaDoor.Given
open Go Go.RowKit Go.Proofs.YtlpbfhbfaphicaaDoorW.PrintWords Go.Proofs.YtlpbfhbfaphicaaDoorW.PrintLast Go.Proofs.YtlpbfhbfaphicaaDoorW.PrintMore

/-- Short names for two ends of a quiet region. -/
theorem qA {e : Ending} {w : World} {a b : Nat} : e = e ∧ ∃ k, (w.drewN a).drewN b = w.drewN k := ⟨rfl, _, World.drewN_drewN _ _ _⟩
theorem qB {e : Ending} {w : World} {a b c : Nat} : e = e ∧ ∃ k, (w.drewN (a + b)).drewN c = w.drewN (a + k) := ⟨rfl, b + c, (World.drewN_drewN _ _ _).trans (congrArg (World.drewN _) (Nat.add_assoc _ _ _))⟩

/-- math/bits.Add64 (a body-less function of the model), where the carry is 0 or 1. -/
def bits_Add64.f (a b c : Int) : Option (Int × Int) :=
  if 0 ≤ a ∧ 0 ≤ b ∧ 0 ≤ c ∧ c ≤ 1 then some ((a + b + c) % 18446744073709551616, (a + b + c) / 18446744073709551616) else none

theorem bits_Add64.run (a b c r1 r2 : Int) (w : World) (h : bits_Add64.f a b c = some (r1, r2)) :
    (callFunc 37 #[.int .u64 a, .int .u64 b, .int .u64 c]).run Tryd.prog w = .ok (.value (.tuple #[.int .u64 r1, .int .u64 r2])) w := by
  unfold bits_Add64.f at h
  by_cases h0 : 0 ≤ a ∧ 0 ≤ b ∧ 0 ≤ c ∧ c ≤ 1
  · rw [if_pos h0] at h
    obtain ⟨h0, h1, h2, h3⟩ := h0
    simp only [Option.some.injEq, Prod.mk.injEq] at h
    obtain ⟨rfl, rfl⟩ := h
    rw [run_callFunc_extern Tryd.func37 (by kernel_rfl) (by kernel_rfl) (by kernel_rfl) (e := add64Entry) (by kernel_rfl), run_add64 a b c h0 h1 h2 h3]
    rfl
  · rw [if_neg h0] at h; cases h

/-- math/bits.Mul64 of two numbers of 64 bits. -/
def bits_Mul64.f (a b : Int) : Option (Int × Int) :=
  if 0 ≤ a ∧ a < 18446744073709551616 ∧ 0 ≤ b ∧ b < 18446744073709551616 then some (a * b / 18446744073709551616, a * b % 18446744073709551616) else none

theorem bits_Mul64.calls (a0 a1 r1 r2 : Int) (w : World) (h : bits_Mul64.f a0 a1 = some (r1, r2)) :
    Calls Tryd.prog 39 #[.int .u64 a0, .int .u64 a1] w fun e w' => e = .returned (.tuple #[.int .u64 r1, .int .u64 r2]) ∧ Drawn0 w w' := by
  unfold bits_Mul64.f at h
  by_cases h0 : 0 ≤ a0 ∧ a0 < 18446744073709551616 ∧ 0 ≤ a1 ∧ a1 < 18446744073709551616
  · rw [if_pos h0] at h
    obtain ⟨h0, h1, h2, h3⟩ := h0
    simp only [Option.some.injEq, Prod.mk.injEq] at h
    obtain ⟨rfl, rfl⟩ := h
    obtain ⟨x, rfl⟩ := Int.eq_ofNat_of_zero_le h0
    obtain ⟨y, rfl⟩ := Int.eq_ofNat_of_zero_le h2
    refine (Tryd.bits_Mul64 x y (by omega) (by omega) w).mono ?_
    rintro e w' ⟨rfl, rfl⟩
    refine ⟨?_, Drawn0.refl _⟩
    rw [Int.natCast_ediv, Int.natCast_emod, Int.natCast_mul]
    rfl
  · rw [if_neg h0] at h; cases h

/-- math/bits.LeadingZeros64. -/
def bits_LeadingZeros64.f (a : Int) : Option Int :=
  if 0 ≤ a ∧ a ≤ 18446744073709551615 then some (64 - (Lib.bitLen a.toNat : Int)) else none

theorem bits_LeadingZeros64.calls (a0 r : Int) (w : World) (h : bits_LeadingZeros64.f a0 = some r) :
    Calls Tryd.prog 50 #[.int .u64 a0] w fun e w' => e = .returned (.int .i64 r) ∧ Drawn0 w w' := by
  unfold bits_LeadingZeros64.f at h
  by_cases h0 : 0 ≤ a0 ∧ a0 ≤ 18446744073709551615
  · rw [if_pos h0] at h
    obtain rfl := Option.some.inj h
    refine (Tryd.bits_LeadingZeros64 a0 w h0.1 h0.2).mono ?_
    rintro e w' ⟨rfl, rfl⟩
    exact ⟨rfl, Drawn0.refl _⟩
  · rw [if_neg h0] at h; cases h

end Go.Proofs.YtlpbfhbfaphicaaDoor.Given
