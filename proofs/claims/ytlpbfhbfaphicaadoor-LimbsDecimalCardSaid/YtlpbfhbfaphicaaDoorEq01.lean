/- Layer 1: two arrays of three numbers, compared. -/
import Derived.Test.YtlpbfhbfaphicaaDoorThr01
namespace Go.Proofs.YtlpbfhbfaphicaaDoor.L01
open Go Go.RowKit Go.Proofs.YtlpbfhbfaphicaaDoorW.PrintWords Go.Proofs.YtlpbfhbfaphicaaDoorW.PrintLast Go.Proofs.YtlpbfhbfaphicaaDoorW.PrintMore

theorem eq3_d (d : Nat) (t : TypeId) (ht : Tryd.prog.underlying t = some (.array 3 22)) (hi : ∀ (p q : Int) (w : World), (Op.equalIn d 22 (.int .u64 p) (.int .u64 q)).run Tryd.prog w = .ok (p == q) w) (a b c x y z : Int) (W : World) :
    Sem.run Tryd.prog (Op.equalIn (d + 1) t (.agg #[.int .u64 a, .int .u64 b, .int .u64 c]) (.agg #[.int .u64 x, .int .u64 y, .int .u64 z])) W = .ok (decide (a = x ∧ b = y ∧ c = z)) W := by
  simp only [Op.equalIn, Sem.run_bind, run_underlying ht, Result.andThen_ok]
  have hs : ∀ w, (sizeOf 22).run Tryd.prog w = .ok 1 w := Tryd.sizeOf22
  have hp0 : ∀ (u v x : Value) (w : World), (part 22 #[u, v, x] 0).run Tryd.prog w = .ok u w := fun u v x w => by go_simp
  have hp1 : ∀ (u v x : Value) (w : World), (part 22 #[u, v, x] 1).run Tryd.prog w = .ok v w := fun u v x w => by go_simp
  have hp2 : ∀ (u v x : Value) (w : World), (part 22 #[u, v, x] 2).run Tryd.prog w = .ok x w := fun u v x w => by go_simp
  have r : List.range' 0 3 1 = [0, 1, 2] := rfl
  simp only [hs, Result.andThen_ok, Std.Legacy.Range.forIn_eq_forIn_range', Std.Legacy.Range.size, Nat.sub_zero, Nat.add_sub_cancel, Nat.div_one, r, List.forIn_cons, List.forIn_nil, Sem.run_bind, Nat.zero_mul, Nat.mul_one, hp0, hi]
  by_cases h1 : a = x
  · by_cases h2 : b = y
    · by_cases h3 : c = z
      · simp [h1, h2, h3, hp1, hp2, hi]
      · simp [h1, h2, h3, hp1, hp2, hi]
    · simp [h1, h2, hp1, hi]
  · simp [h1]
theorem eq3_t (t : TypeId) (ht : Tryd.prog.underlying t = some (.array 3 22)) (a b c x y z : Int) (W : World) : Sem.run Tryd.prog (Op.equalIn 10000 t (.agg #[.int .u64 a, .int .u64 b, .int .u64 c]) (.agg #[.int .u64 x, .int .u64 y, .int .u64 z])) W = .ok (decide (a = x ∧ b = y ∧ c = z)) W :=
  eq3_d 9999 t ht (fun p q w => run_equalIn_int w 9998 _ .u64 .u64 p q Tryd.underlying22) a b c x y z W

end Go.Proofs.YtlpbfhbfaphicaaDoor.L01
