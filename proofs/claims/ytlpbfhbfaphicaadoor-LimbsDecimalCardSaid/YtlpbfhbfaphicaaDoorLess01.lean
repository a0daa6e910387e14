/- Layer 1: Less, walked: is a number of bits less than another one? -/
import Derived.Test.YtlpbfhbfaphicaaDoorBit01
namespace Go.Proofs.YtlpbfhbfaphicaaDoor.L01
open Go Go.RowKit Go.Proofs.YtlpbfhbfaphicaaDoorW.PrintWords Go.Proofs.YtlpbfhbfaphicaaDoorW.PrintLast Go.Proofs.YtlpbfhbfaphicaaDoorW.PrintMore Go.Proofs.YtlpbfhbfaphicaaDoor.Given Go.Proofs.YtlpbfhbfaphicaaDoor.M Go.Proofs.YtlpbfhbfaphicaaDoor.XB

set_option linter.unusedVariables false
attribute [-go_sem] loadVar storeVar
attribute [local go_sem] lv_u lv_i lv_b lv_3 lv_T sv_u sv_i sv_b sv_3 sv_T
theorem div_bit (n k : Nat) : n / 2 ^ k = 2 * (n / 2 ^ (k + 1)) + (if bt n k then 1 else 0) := by
  have e : bt n k = decide (n / 2 ^ k % 2 = 1) := Nat.testBit_eq_decide_div_mod_eq
  rw [Nat.pow_succ, ← Nat.div_div_eq_div_mul, e]
  by_cases h : n / 2 ^ k % 2 = 1
  · rw [if_pos (decide_eq_true h)]; omega
  · rw [if_neg (by rw [decide_eq_false h]; exact Bool.false_ne_true)]; omega
set_option maxHeartbeats 1000000 in
set_option maxRecDepth 100000 in
theorem less_calls {n m : Nat} (hn : n < 2 ^ 256) (hm : m < 2 ^ 256) (w : World) : Calls Tryd.prog 25 #[TB (bt n), TB (bt m)] w fun e w' => e = .returned (.bool (decide (n < m))) ∧ Below w.heap.size w w' := by
  have HN := Aside0.mk hn
  have HM := Aside0.mk hm
  clear hn hm
  go_enter Tryd.func25, Tryd.ntmps25
  go_upto_region 1 with (fail)
  have HG0 : Aside0 (Below w.heap.size w ((w.alloc (Obj.cells (bA (bt n)) 29)).alloc (Obj.cells (bA (bt m)) 29))) := ⟨by repeat (first | exact Below.refl _ _ | apply below_alloc)⟩
  have HF0 : Aside0 (BoxB ((w.alloc (Obj.cells (bA (bt n)) 29)).alloc (Obj.cells (bA (bt m)) 29)) w.heap.size (bt n)) := ⟨(BoxB.new w _).alloc _⟩
  have HK0 : Aside0 (BoxB ((w.alloc (Obj.cells (bA (bt n)) 29)).alloc (Obj.cells (bA (bt m)) 29)) (w.heap.size + 1) (bt m)) := ⟨BoxB.new' (by simp only [World.size_alloc])⟩
  generalize ((w.alloc (Obj.cells (bA (bt n)) 29)).alloc (Obj.cells (bA (bt m)) 29)) = W0 at HG0 HF0 HK0 ⊢
  go_upto_region 2 with (fail)
  go_loopg [5] 257 (fun kq v5 w' => ∃ (k : Nat) (i : Int), v5 = .int .i64 i ∧ Aside0 (k ≤ 256 ∧ kq = k + 1 ∧ i = (k : Int) - 1 ∧ n / 2 ^ k = m / 2 ^ k) ∧ Aside0 (Below w.heap.size w w') ∧ Aside0 (BoxB w' w.heap.size (bt n)) ∧ Aside0 (BoxB w' (w.heap.size + 1) (bt m)))
  case atStart => exact ⟨256, 255, rfl, ⟨by omega, rfl, rfl, by rw [Nat.div_eq_of_lt HN.out, Nat.div_eq_of_lt HM.out]⟩, HG0, HF0, HK0⟩
  case round =>
    clear HG0 HF0 HK0
    obtain ⟨k, i, rfl, HI, HG, HF, HK⟩ := hrel
    obtain ⟨hk, hk1, hi, he⟩ := HI.out
    cases k with
    | zero =>
      have cb : decide ((0 : Int) ≤ i) = false := decide_eq_false (by omega)
      have HL : Aside0 (decide (n < m) = false) := ⟨by
        rw [Nat.pow_zero, Nat.div_one, Nat.div_one] at he
        exact decide_eq_false (by omega)⟩
      clear he hi hk hk1 HI
      go_wp2
      go_ret
      refine ⟨?_, HG.out⟩
      rw [HL.out]
      rfl
    | succ k =>
      obtain rfl : gk = k + 1 + 1 := hk1
      have cb : decide ((0 : Int) ≤ i) = true := decide_eq_true (by omega)
      obtain rfl : i = (k : Int) := by omega
      have c2 : k < 256 := by omega
      have p3 : (0 : Int) ≤ (k : Int) := Int.natCast_nonneg _
      have p4 : (k : Int) < 256 := by omega
      obtain ⟨hcf, hff⟩ := HF.out.cell c2
      obtain ⟨hcg, hfg⟩ := HK.out.cell c2
      have hdn := div_bit n k
      have hdm := div_bit m k
      have ws : IntKind.i64.wrap ((k : Int) - 1) = (k : Int) - 1 := by rw [i64_w]; unfold wrap64; omega
      have HK256 : Aside0 (k ≤ 256) := ⟨by omega⟩
      have hlt : n / 2 ^ k < m / 2 ^ k → n < m := fun h => by
        refine Nat.lt_of_not_le fun hge => ?_
        have := Nat.div_le_div_right (c := 2 ^ k) hge
        omega
      have hgt : m / 2 ^ k < n / 2 ^ k → m < n := fun h => by
        refine Nat.lt_of_not_le fun hge => ?_
        have := Nat.div_le_div_right (c := 2 ^ k) hge
        omega
      obtain ⟨A1, hA1⟩ : ∃ z, n / 2 ^ k = z := ⟨_, rfl⟩
      obtain ⟨A2, hA2⟩ : ∃ z, m / 2 ^ k = z := ⟨_, rfl⟩
      obtain ⟨A3, hA3⟩ : ∃ z, n / 2 ^ (k + 1) = z := ⟨_, rfl⟩
      obtain ⟨A4, hA4⟩ : ∃ z, m / 2 ^ (k + 1) = z := ⟨_, rfl⟩
      rw [hA3, hA4] at he
      rw [hA1, hA3] at hdn
      rw [hA2, hA4] at hdm
      rw [hA1, hA2] at hlt hgt
      cases hx : bt n k with
      | false =>
        rw [hx] at hcf hdn
        cases hy : bt m k with
        | false =>
          rw [hy] at hcg hdm
          have HE : Aside0 (n / 2 ^ k = m / 2 ^ k) := ⟨by rw [hA1, hA2, hdn, hdm, he]⟩
          clear hdn hdm he hA1 hA2 hA3 hA4 hlt hgt c2 hk HI hi
          go_wp2
          go_quiet (fail)
          go_wp2
          go_roundg (k + 1)
          case measure => exact Nat.lt_succ_self _
          case rel => exact ⟨k, (k : Int) - 1, rfl, ⟨HK256.out, rfl, rfl, HE.out⟩, ⟨by (repeat (first | exact HG.out | apply pw_below_drewN | apply below_drew1))⟩, ⟨HF.out⟩, ⟨HK.out⟩⟩
        | true =>
          rw [hy] at hcg hdm
          have HL : Aside0 (decide (n < m) = true) := ⟨decide_eq_true (hlt (by rw [hdn, hdm, he]; simp))⟩
          clear hdn hdm he hA1 hA2 hA3 hA4 hlt hgt c2 hk HI hi
          go_wp2
          go_quiet (fail)
          go_wp2
          go_ret
          refine ⟨?_, by (repeat (first | exact HG.out | apply pw_below_drewN | apply below_drew1))⟩
          rw [HL.out]
          rfl
      | true =>
        rw [hx] at hcf hdn
        cases hy : bt m k with
        | false =>
          rw [hy] at hcg hdm
          have HL : Aside0 (decide (n < m) = false) := ⟨decide_eq_false (fun h => by
            have := hgt (by rw [hdn, hdm, he]; simp)
            omega)⟩
          clear hdn hdm he hA1 hA2 hA3 hA4 hlt hgt c2 hk HI hi
          go_wp2
          go_quiet (fail)
          go_wp2
          go_ret
          refine ⟨?_, by (repeat (first | exact HG.out | apply pw_below_drewN | apply below_drew1))⟩
          rw [HL.out]
          rfl
        | true =>
          rw [hy] at hcg hdm
          have HE : Aside0 (n / 2 ^ k = m / 2 ^ k) := ⟨by rw [hA1, hA2, hdn, hdm, he]⟩
          clear hdn hdm he hA1 hA2 hA3 hA4 hlt hgt c2 hk HI hi
          go_wp2
          go_quiet (fail)
          go_wp2
          go_roundg (k + 1)
          case measure => exact Nat.lt_succ_self _
          case rel => exact ⟨k, (k : Int) - 1, rfl, ⟨HK256.out, rfl, rfl, HE.out⟩, ⟨by (repeat (first | exact HG.out | apply pw_below_drewN | apply below_drew1))⟩, ⟨HF.out⟩, ⟨HK.out⟩⟩
end Go.Proofs.YtlpbfhbfaphicaaDoor.L01
