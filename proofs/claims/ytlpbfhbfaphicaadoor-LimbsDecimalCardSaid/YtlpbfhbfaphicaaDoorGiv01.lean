/- Layer 1: the functions of math/bits, and words for arrays of three numbers. -/
import Derived.Test.YtlpbfhbfaphicaaDoorGiven
import Derived.Test.YtlpbfhbfaphicaaDoorDiv
import Derived.Test.YtlpbfhbfaphicaaDoorRd01
import Derived.Handy
import Derived.LoopN
import Derived.StillTailTactics
import Derived.Deep.WholeRow
import Derived.WalkKit
namespace Go.Proofs.YtlpbfhbfaphicaaDoor.L01
open Go Go.RowKit Go.Proofs.YtlpbfhbfaphicaaDoorW.PrintWords Go.Proofs.YtlpbfhbfaphicaaDoorW.PrintLast Go.Proofs.YtlpbfhbfaphicaaDoorW.PrintMore Go.Proofs.YtlpbfhbfaphicaaDoor.Given Go.Proofs.YtlpbfhbfaphicaaDoor.M Go.Proofs.YtlpbfhbfaphicaaDoor.XB

/-- math/bits.Sub64. -/
def sub64Entry : Array Value → Sem Value := fun args => do
  let (x, y, b) ← Extern.MathBitsCarry.three "Sub64" args
  pure (Extern.MathBitsCarry.pair ((x + Extern.MathBitsCarry.m64 - y - b) % Extern.MathBitsCarry.m64) (if x < y + b then 1 else 0))
theorem sub_run {x y c d e : Int} (hx : U x) (hy : U y) (hc0 : 0 ≤ c) (hc : c ≤ 1) (hd : d = (x - y - c) % 18446744073709551616) (he : e = if x < y + c then 1 else 0) (w : World) :
    (callFunc 38 #[.int .u64 x, .int .u64 y, .int .u64 c]).run Tryd.prog w = .ok (.value (.tuple #[.int .u64 d, .int .u64 e])) w := by
  subst hd he
  unfold U at hx hy
  have key : ∀ k : Nat, k ≤ 1 → (sub64Entry #[.int .u64 x, .int .u64 y, .int .u64 (k : Int)]).run Tryd.prog w =
      .ok (Extern.MathBitsCarry.pair ((x.toNat + Extern.MathBitsCarry.m64 - y.toNat - k) % Extern.MathBitsCarry.m64) (if x.toNat < y.toNat + k then 1 else 0)) w := by
    intro k hk
    have : k = 0 ∨ k = 1 := by omega
    rcases this with rfl | rfl <;> rfl
  obtain ⟨k, rfl⟩ := Int.eq_ofNat_of_zero_le hc0
  obtain ⟨X, rfl⟩ := Int.eq_ofNat_of_zero_le hx.1
  obtain ⟨Y, rfl⟩ := Int.eq_ofNat_of_zero_le hy.1
  rw [run_callFunc_extern Tryd.func38 (by kernel_rfl) (by kernel_rfl) (by kernel_rfl) (e := sub64Entry) (by kernel_rfl), key k (by omega)]
  have hX : X < 18446744073709551616 := by have := hx.2; omega
  have hY : Y < 18446744073709551616 := by have := hy.2; omega
  have hk : k ≤ 1 := by omega
  have e1 : ((((X + 18446744073709551616 - Y - k) % 18446744073709551616 : Nat)) : Int) = ((X : Int) - (Y : Int) - (k : Int)) % 18446744073709551616 := by omega
  have e2 : (((if X < Y + k then 1 else 0 : Nat)) : Int) = if (X : Int) < (Y : Int) + (k : Int) then 1 else 0 := by
    by_cases c : X < Y + k
    · rw [if_pos c, if_pos (by omega)]; rfl
    · rw [if_neg c, if_neg (by omega)]; rfl
  simp only [Extern.MathBitsCarry.pair, Extern.MathBitsCarry.m64, Int.toNat_natCast, Result.andThen]
  rw [← e1, ← e2]
  rfl
theorem add_run {x y c d e : Int} (hx : U x) (hy : U y) (hc0 : 0 ≤ c) (hc : c ≤ 1) (hd : d = (x + y + c) % 18446744073709551616) (he : e = (x + y + c) / 18446744073709551616) (w : World) :
    (callFunc 37 #[.int .u64 x, .int .u64 y, .int .u64 c]).run Tryd.prog w = .ok (.value (.tuple #[.int .u64 d, .int .u64 e])) w := by
  subst hd he
  exact bits_Add64.run x y c _ _ w (by unfold bits_Add64.f; rw [if_pos ⟨hx.1, hy.1, hc0, hc⟩])

end Go.Proofs.YtlpbfhbfaphicaaDoor.L01
