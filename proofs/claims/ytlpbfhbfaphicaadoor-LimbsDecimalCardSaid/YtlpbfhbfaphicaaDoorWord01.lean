/- Layer 1: Word, walked: the number that 64 bits are. -/
import Derived.Test.YtlpbfhbfaphicaaDoorBits01
namespace Go.Proofs.YtlpbfhbfaphicaaDoor.L01
open Go Go.RowKit Go.Proofs.YtlpbfhbfaphicaaDoorW.PrintWords Go.Proofs.YtlpbfhbfaphicaaDoorW.PrintLast Go.Proofs.YtlpbfhbfaphicaaDoorW.PrintMore Go.Proofs.YtlpbfhbfaphicaaDoor.Given Go.Proofs.YtlpbfhbfaphicaaDoor.M Go.Proofs.YtlpbfhbfaphicaaDoor.XB

set_option linter.unusedVariables false
theorem num_lt (f : Nat → Bool) : ∀ (n p : Nat), num f p n < 2 ^ n
  | 0, p => by simp [num]
  | n + 1, p => by
    have := num_lt f n (p + 1)
    simp only [num]
    rw [Nat.pow_succ]
    split <;> omega
set_option maxHeartbeats 1000000 in
set_option maxRecDepth 100000 in
theorem word_calls (f : Nat → Bool) {p : Nat} (hp : p + 64 ≤ 256) (w : World) : Calls Tryd.prog 30 #[TB f, .int .i64 (p : Int)] w fun e w' => e = .returned (.int .u64 ((num f p 64 : Nat) : Int)) ∧ Below w.heap.size w w' := by
  have HP := Aside0.mk hp
  clear hp
  go_enter Tryd.func30, Tryd.ntmps30
  go_wp2
  have HG0 : Aside0 (Below w.heap.size w (w.alloc (Obj.cells (bA f) 29))) := ⟨below_alloc (Below.refl _ _) _⟩
  have HS0 : Aside0 (BoxB (w.alloc (Obj.cells (bA f) 29)) w.heap.size f) := ⟨BoxB.new w f⟩
  generalize (w.alloc (Obj.cells (bA f) 29)) = W0 at HG0 HS0 ⊢
  go_loopg [5, 6] 65 (fun kq v5 v6 w' => ∃ (k : Nat) (n i : Int), v5 = .int .u64 n ∧ v6 = .int .i64 i ∧ Aside0 (k ≤ 64 ∧ k + kq = 65 ∧ i = 63 - (k : Int) ∧ n = ((num f (p + 64 - k) k : Nat) : Int)) ∧ Aside0 (Below w.heap.size w w') ∧ Aside0 (BoxB w' w.heap.size f))
  case atStart => exact ⟨0, 0, 63, rfl, rfl, ⟨by omega, rfl, rfl, rfl⟩, HG0, HS0⟩
  case round =>
    clear HG0 HS0
    obtain ⟨k, n, i, rfl, rfl, HI, HG, HS⟩ := hrel
    cases gk with
    | zero => exact absurd HI.out (by omega)
    | succ k1 =>
      obtain ⟨hk, hk1, hi, hn⟩ := HI.out
      have hp := HP.out
      have hlt := num_lt f k (p + 64 - k)
      have h64 : (2 : Nat) ^ 64 = 18446744073709551616 := by decide
      by_cases c : k < 64
      · have cb : decide ((0 : Int) ≤ i) = true := decide_eq_true (by omega)
        obtain ⟨q, hq⟩ : ∃ q : Nat, p + 63 - k = q := ⟨_, rfl⟩
        have hq2 : q < 256 := by omega
        have hpow : 2 ^ k * 2 ≤ 2 ^ 64 := by rw [← Nat.pow_succ]; exact Nat.pow_le_pow_right (by decide) (by omega)
        have e1 : IntKind.i64.wrap ((p : Int) + i) = (q : Int) := by rw [i64_w]; unfold wrap64; omega
        have p3 : (0 : Int) ≤ (q : Int) := Int.natCast_nonneg _
        have p4 : (q : Int) < 256 := by omega
        obtain ⟨n2, hn2⟩ : ∃ z : Int, 2 * n = z := ⟨_, rfl⟩
        have e2 : IntKind.u64.wrap (2 * n) = n2 := by rw [wu64]; omega
        have e3 : IntKind.u64.wrap (n2 + 1) = n2 + 1 := by rw [wu64]; omega
        obtain ⟨i2, hi2⟩ : ∃ z : Int, i - 1 = z := ⟨_, rfl⟩
        have e4 : IntKind.i64.wrap (i - 1) = i2 := by rw [i64_w]; unfold wrap64; omega
        have hnum : num f (p + 64 - (k + 1)) (k + 1) = (if f q then 1 else 0) + 2 * num f (p + 64 - k) k := by
          have a1 : p + 64 - (k + 1) = q := by omega
          have a2 : q + 1 = p + 64 - k := by omega
          rw [a1, num, a2]
        have HJ : Aside0 (k + 1 ≤ 64 ∧ k + 1 + k1 = 65 ∧ i2 = 63 - ((k + 1 : Nat) : Int)) := ⟨by omega⟩
        obtain ⟨hc9, hf9⟩ := HS.out.cell hq2
        have HNf : Aside0 (f q = false → n2 = ((num f (p + 64 - (k + 1)) (k + 1) : Nat) : Int)) := ⟨fun h => by rw [hnum, h]; simp; omega⟩
        have HNt : Aside0 (f q = true → n2 + 1 = ((num f (p + 64 - (k + 1)) (k + 1) : Nat) : Int)) := ⟨fun h => by rw [hnum, h]; simp; omega⟩
        clear hk hk1 hi hn hp hlt h64 c hq hq2 hpow hn2 hi2 hnum
        cases hb : f q with
        | false =>
          rw [hb] at hc9
          go_wp2
          go_roundg k1
          case measure => exact Nat.lt_succ_self _
          case rel => exact ⟨k + 1, n2, i2, rfl, rfl, ⟨HJ.out.1, HJ.out.2.1, HJ.out.2.2, HNf.out hb⟩, HG, HS⟩
        | true =>
          rw [hb] at hc9
          go_wp2
          go_roundg k1
          case measure => exact Nat.lt_succ_self _
          case rel => exact ⟨k + 1, n2 + 1, i2, rfl, rfl, ⟨HJ.out.1, HJ.out.2.1, HJ.out.2.2, HNt.out hb⟩, HG, HS⟩
      · have cb : decide ((0 : Int) ≤ i) = false := decide_eq_false (by omega)
        have hk64 : k = 64 := by omega
        subst hk64
        have HN : Aside0 (n = ((num f p 64 : Nat) : Int)) := ⟨by rw [hn]; rfl⟩
        clear hk hk1 hi hn hp hlt h64 c
        go_wp2
        go_ret
        refine ⟨?_, HG.out⟩
        rw [HN.out]
        rfl
end Go.Proofs.YtlpbfhbfaphicaaDoor.L01
