/- Layer 1: the document's Rest, walked: what is left, divided by m. -/
import Derived.Test.YtlpbfhbfaphicaaDoorPure01
namespace Go.Proofs.YtlpbfhbfaphicaaDoor.L01
open Go Go.RowKit Go.Proofs.YtlpbfhbfaphicaaDoorW.PrintWords Go.Proofs.YtlpbfhbfaphicaaDoorW.PrintLast Go.Proofs.YtlpbfhbfaphicaaDoorW.PrintMore Go.Proofs.YtlpbfhbfaphicaaDoor.Given Go.Proofs.YtlpbfhbfaphicaaDoor.M Go.Proofs.YtlpbfhbfaphicaaDoor.XB

set_option linter.unusedVariables false
attribute [-go_sem] loadVar storeVar
attribute [local go_sem] lv_u lv_i lv_b lv_3 lv_T sv_u sv_i sv_b sv_3 sv_T
theorem rest_step {A B b m r : Nat} (hm : 0 < m) (h : A = 2 * B + b) (hr : r = B % m) (hb : b ≤ 1) : A % m = (if (if m - r ≤ r then r - (m - r) else r + r) + b = m then 0 else (if m - r ≤ r then r - (m - r) else r + r) + b) := by
  have hlt : r < m := by rw [hr]; exact Nat.mod_lt _ hm
  have e : A % m = (2 * r + b) % m := by
    rw [h, hr]
    conv => lhs; rw [← Nat.div_add_mod B m]
    rw [Nat.mul_add, Nat.add_assoc, ← Nat.mul_assoc, Nat.mul_comm 2 m, Nat.mul_assoc, Nat.mul_add_mod]
  rw [e]
  by_cases c : m - r ≤ r
  · rw [if_pos c]
    by_cases d : r - (m - r) + b = m
    · rw [if_pos d]
      have : 2 * r + b = m * 2 := by omega
      rw [this, Nat.mul_mod_right]
    · rw [if_neg d]
      have : 2 * r + b = m + (r - (m - r) + b) := by omega
      rw [this, Nat.add_mod_left, Nat.mod_eq_of_lt (by omega)]
  · rw [if_neg c]
    by_cases d : r + r + b = m
    · rw [if_pos d, show 2 * r + b = m by omega, Nat.mod_self]
    · rw [if_neg d, show 2 * r + b = r + r + b by omega, Nat.mod_eq_of_lt (by omega)]
set_option maxHeartbeats 1000000 in
set_option maxRecDepth 100000 in
theorem rrest_calls {n m : Nat} (hn : n < 2 ^ 256) (hm : m < 2 ^ 64) (w : World) : Calls Tryd.prog 32 #[TB (bt n), .int .u64 (m : Int)] w fun e w' => e = .returned (.int .u64 ((if m = 0 then 0 else n % m : Nat) : Int)) ∧ Below w.heap.size w w' := by
  have HN := Aside0.mk (And.intro hn hm)
  clear hn hm
  obtain ⟨M, hM⟩ : ∃ M : Int, (m : Int) = M := ⟨_, rfl⟩
  have HM := Aside0.mk hM
  rw [hM]
  by_cases hm0 : m = 0
  · have cb : decide (M = 0) = true := decide_eq_true (by omega)
    have cb2 : (M == 0) = true := cb
    rw [if_pos hm0]
    have HZ := Aside0.mk hm0
    obtain rfl : (0 : Int) = M := by omega
    clear hm0 hM
    go_enter Tryd.func32, Tryd.ntmps32
    go_wp2
    go_ret
    refine ⟨?_, below_alloc (Below.refl _ _) _⟩
    rfl
  have cb : decide (M = 0) = false := decide_eq_false (by omega)
  have cb2 : (M == 0) = false := cb
  rw [if_neg hm0]
  have HZ : Aside0 (0 < m) := ⟨by omega⟩
  clear hm0 hM
  go_enter Tryd.func32, Tryd.ntmps32
  go_upto_region 3 with (fail)
  have HG0 : Aside0 (Below w.heap.size w (w.alloc (Obj.cells (bA (bt n)) 29))) := ⟨below_alloc (Below.refl _ _) _⟩
  have HF0 : Aside0 (BoxB (w.alloc (Obj.cells (bA (bt n)) 29)) w.heap.size (bt n)) := ⟨BoxB.new w _⟩
  generalize (w.alloc (Obj.cells (bA (bt n)) 29)) = W0 at HG0 HF0 ⊢
  clear cb cb2
  go_upto_region 5 with (fail)
  go_loopg [5, 6] 257 (fun kq v5 v6 w' => ∃ (k : Nat) (i r : Int), v5 = .int .u64 r ∧ v6 = .int .i64 i ∧ Aside0 (k ≤ 256 ∧ kq = k + 1 ∧ i = (k : Int) - 1 ∧ r = ((n / 2 ^ k % m : Nat) : Int)) ∧ Aside0 (Below w.heap.size w w') ∧ Aside0 (BoxB w' w.heap.size (bt n)))
  case atStart => exact ⟨256, 255, 0, rfl, rfl, ⟨by omega, rfl, rfl, by rw [Nat.div_eq_of_lt HN.out.1, Nat.zero_mod]; rfl⟩, HG0, HF0⟩
  case round =>
    clear HG0 HF0
    obtain ⟨k, i, r, rfl, rfl, HI, HG, HF⟩ := hrel
    obtain ⟨hk, hk1, hi, hr⟩ := HI.out
    cases k with
    | zero =>
      have cb : decide ((0 : Int) ≤ i) = false := decide_eq_false (by omega)
      have HL : Aside0 (r = ((n % m : Nat) : Int)) := ⟨by rw [hr, Nat.pow_zero, Nat.div_one]⟩
      clear hr hi hk hk1 HI
      go_wp2
      go_ret
      refine ⟨?_, HG.out⟩
      rw [← HL.out]
      rfl
    | succ k =>
      obtain rfl : gk = k + 1 + 1 := hk1
      obtain ⟨hn, hm⟩ := HN.out
      have hM := HM.out
      have hZ := HZ.out
      have h64 : (2 : Nat) ^ 64 = 18446744073709551616 := by decide
      have cb : decide ((0 : Int) ≤ i) = true := decide_eq_true (by omega)
      have c2 : k < 256 := by omega
      have p3 : (0 : Int) ≤ i := by omega
      have p4 : i < 256 := by omega
      have tn : i.toNat = k := by omega
      obtain ⟨hcf, hff⟩ := HF.out.cell c2
      have hdn := div_bit n k
      obtain ⟨i2, hi2⟩ : ∃ j : Int, i - 1 = j := ⟨_, rfl⟩
      have ws : IntKind.i64.wrap (i - 1) = i2 := by rw [i64_w]; unfold wrap64; omega
      have HI2 : Aside0 (k ≤ 256 ∧ i2 = (k : Int) - 1) := ⟨by omega⟩
      obtain ⟨R, hR⟩ : ∃ R, n / 2 ^ (k + 1) % m = R := ⟨_, rfl⟩
      rw [hR] at hr
      have hRm : R < m := by rw [← hR]; exact Nat.mod_lt _ hZ
      obtain ⟨b, hb⟩ : ∃ b, bt n k = b := ⟨_, rfl⟩
      rw [hb] at hcf hdn
      have hst := rest_step hZ hdn hR.symm (by split <;> omega)
      obtain ⟨A1, hA1⟩ : ∃ A, n / 2 ^ k % m = A := ⟨_, rfl⟩
      rw [hA1] at hst
      obtain ⟨t, ht⟩ : ∃ t : Int, M - r = t := ⟨_, rfl⟩
      have w1 : IntKind.u64.wrap (M - r) = t := by rw [wu64]; omega
      clear hdn hi2 hb hR h64 c2 hi hk
      have HNext : ∀ (v : Int), v = ((A1 : Nat) : Int) → v = ((n / 2 ^ k % m : Nat) : Int) := fun v h => by rw [hA1]; exact h
      have HNX := Aside0.mk HNext
      clear HNext hA1
      by_cases c3 : m - R ≤ R
      · have c3b : decide (t ≤ r) = true := decide_eq_true (by omega)
        rw [if_pos c3] at hst
        obtain ⟨q, hq⟩ : ∃ q : Int, r - t = q := ⟨_, rfl⟩
        have w2 : IntKind.u64.wrap (r - t) = q := by rw [wu64]; omega
        cases b with
        | false =>
          by_cases c4 : q = M
          · have c4b : decide (q = M) = true := decide_eq_true c4
            have c4c : (q == M) = true := c4b
            have HV : Aside0 ((0 : Int) = ((n / 2 ^ k % m : Nat) : Int)) := ⟨HNX.out _ (by
              rw [if_pos (by simp only [Bool.false_eq_true, if_false]; omega)] at hst
              omega)⟩
            clear c4
            clear hq c3 hr hRm hn hm hM hZ ht hst
            go_wp2
            go_roundg (k + 1)
            case measure => exact Nat.lt_succ_self _
            case rel => exact ⟨k, i2, 0, rfl, rfl, ⟨HI2.out.1, rfl, HI2.out.2, HV.out⟩, HG, HF⟩
          · have c4b : decide (q = M) = false := decide_eq_false c4
            have c4c : (q == M) = false := c4b
            have HV : Aside0 (q = ((n / 2 ^ k % m : Nat) : Int)) := ⟨HNX.out _ (by
              rw [if_neg (by simp only [Bool.false_eq_true, if_false]; omega)] at hst
              simp only [Bool.false_eq_true, if_false] at hst
              omega)⟩
            clear c4
            clear hq c3 hr hRm hn hm hM hZ ht hst
            go_wp2
            go_roundg (k + 1)
            case measure => exact Nat.lt_succ_self _
            case rel => exact ⟨k, i2, q, rfl, rfl, ⟨HI2.out.1, rfl, HI2.out.2, HV.out⟩, HG, HF⟩
        | true =>
          obtain ⟨q2, hq2⟩ : ∃ z : Int, q + 1 = z := ⟨_, rfl⟩
          have w3 : IntKind.u64.wrap (q + 1) = q2 := by rw [wu64]; omega
          by_cases c4 : q2 = M
          · have c4b : decide (q2 = M) = true := decide_eq_true c4
            have c4c : (q2 == M) = true := c4b
            have HV : Aside0 ((0 : Int) = ((n / 2 ^ k % m : Nat) : Int)) := ⟨HNX.out _ (by
              rw [if_pos (by simp only [if_true]; omega)] at hst
              omega)⟩
            clear c4 hq2
            clear hq c3 hr hRm hn hm hM hZ ht hst
            go_wp2
            go_roundg (k + 1)
            case measure => exact Nat.lt_succ_self _
            case rel => exact ⟨k, i2, 0, rfl, rfl, ⟨HI2.out.1, rfl, HI2.out.2, HV.out⟩, HG, HF⟩
          · have c4b : decide (q2 = M) = false := decide_eq_false c4
            have c4c : (q2 == M) = false := c4b
            have HV : Aside0 (q2 = ((n / 2 ^ k % m : Nat) : Int)) := ⟨HNX.out _ (by
              rw [if_neg (by simp only [if_true]; omega)] at hst
              simp only [if_true] at hst
              omega)⟩
            clear c4 hq2
            clear hq c3 hr hRm hn hm hM hZ ht hst
            go_wp2
            go_roundg (k + 1)
            case measure => exact Nat.lt_succ_self _
            case rel => exact ⟨k, i2, q2, rfl, rfl, ⟨HI2.out.1, rfl, HI2.out.2, HV.out⟩, HG, HF⟩
      · have c3b : decide (t ≤ r) = false := decide_eq_false (by omega)
        rw [if_neg c3] at hst
        obtain ⟨q, hq⟩ : ∃ q : Int, r + r = q := ⟨_, rfl⟩
        have w2 : IntKind.u64.wrap (r + r) = q := by rw [wu64]; omega
        cases b with
        | false =>
          by_cases c4 : q = M
          · have c4b : decide (q = M) = true := decide_eq_true c4
            have c4c : (q == M) = true := c4b
            have HV : Aside0 ((0 : Int) = ((n / 2 ^ k % m : Nat) : Int)) := ⟨HNX.out _ (by
              rw [if_pos (by simp only [Bool.false_eq_true, if_false]; omega)] at hst
              omega)⟩
            clear c4
            clear hq c3 hr hRm hn hm hM hZ ht hst
            go_wp2
            go_roundg (k + 1)
            case measure => exact Nat.lt_succ_self _
            case rel => exact ⟨k, i2, 0, rfl, rfl, ⟨HI2.out.1, rfl, HI2.out.2, HV.out⟩, HG, HF⟩
          · have c4b : decide (q = M) = false := decide_eq_false c4
            have c4c : (q == M) = false := c4b
            have HV : Aside0 (q = ((n / 2 ^ k % m : Nat) : Int)) := ⟨HNX.out _ (by
              rw [if_neg (by simp only [Bool.false_eq_true, if_false]; omega)] at hst
              simp only [Bool.false_eq_true, if_false] at hst
              omega)⟩
            clear c4
            clear hq c3 hr hRm hn hm hM hZ ht hst
            go_wp2
            go_roundg (k + 1)
            case measure => exact Nat.lt_succ_self _
            case rel => exact ⟨k, i2, q, rfl, rfl, ⟨HI2.out.1, rfl, HI2.out.2, HV.out⟩, HG, HF⟩
        | true =>
          obtain ⟨q2, hq2⟩ : ∃ z : Int, q + 1 = z := ⟨_, rfl⟩
          have w3 : IntKind.u64.wrap (q + 1) = q2 := by rw [wu64]; omega
          by_cases c4 : q2 = M
          · have c4b : decide (q2 = M) = true := decide_eq_true c4
            have c4c : (q2 == M) = true := c4b
            have HV : Aside0 ((0 : Int) = ((n / 2 ^ k % m : Nat) : Int)) := ⟨HNX.out _ (by
              rw [if_pos (by simp only [if_true]; omega)] at hst
              omega)⟩
            clear c4 hq2
            clear hq c3 hr hRm hn hm hM hZ ht hst
            go_wp2
            go_roundg (k + 1)
            case measure => exact Nat.lt_succ_self _
            case rel => exact ⟨k, i2, 0, rfl, rfl, ⟨HI2.out.1, rfl, HI2.out.2, HV.out⟩, HG, HF⟩
          · have c4b : decide (q2 = M) = false := decide_eq_false c4
            have c4c : (q2 == M) = false := c4b
            have HV : Aside0 (q2 = ((n / 2 ^ k % m : Nat) : Int)) := ⟨HNX.out _ (by
              rw [if_neg (by simp only [if_true]; omega)] at hst
              simp only [if_true] at hst
              omega)⟩
            clear c4 hq2
            clear hq c3 hr hRm hn hm hM hZ ht hst
            go_wp2
            go_roundg (k + 1)
            case measure => exact Nat.lt_succ_self _
            case rel => exact ⟨k, i2, q2, rfl, rfl, ⟨HI2.out.1, rfl, HI2.out.2, HV.out⟩, HG, HF⟩
end Go.Proofs.YtlpbfhbfaphicaaDoor.L01
