/- Layer 1: Moved, walked: bits to higher or lower places. -/
import Derived.Test.YtlpbfhbfaphicaaDoorTurn01
namespace Go.Proofs.YtlpbfhbfaphicaaDoor.L01
open Go Go.RowKit Go.Proofs.YtlpbfhbfaphicaaDoorW.PrintWords Go.Proofs.YtlpbfhbfaphicaaDoorW.PrintLast Go.Proofs.YtlpbfhbfaphicaaDoorW.PrintMore Go.Proofs.YtlpbfhbfaphicaaDoor.Given Go.Proofs.YtlpbfhbfaphicaaDoor.M Go.Proofs.YtlpbfhbfaphicaaDoor.XB

set_option linter.unusedVariables false
attribute [-go_sem] loadVar storeVar
attribute [local go_sem] lv_u lv_i lv_b lv_3 lv_T sv_u sv_i sv_b sv_3 sv_T
/-- Bits moved by n places, within m. -/
def mvB (f : Nat → Bool) (n : Int) (m : Nat) : Nat → Bool := fun j => decide (j < m) && (decide (0 ≤ (j : Int) - n) && decide ((j : Int) - n < m) && f ((j : Int) - n).toNat)
theorem upto_false {f : Nat → Bool} {k : Nat} (h : f k = false) : upto (k + 1) f = upto k f := by
  funext j
  unfold upto
  by_cases e : j = k
  · subst e; simp [h]
  · congr 1
    exact decide_eq_decide.2 (by omega)
theorem upto_mv (f : Nat → Bool) (n : Int) (m : Nat) : upto m (mvB f n m) = mvB f n m := by
  funext j
  unfold upto mvB
  by_cases h : j < m
  · simp [h]
  · simp [h]
set_option maxHeartbeats 1000000 in
set_option maxRecDepth 100000 in
theorem moved_calls (f : Nat → Bool) {n : Int} {m : Nat} (hn : -256 ≤ n ∧ n ≤ 256) (hm : m ≤ 256) (w : World) : Calls Tryd.prog 22 #[TB f, .int .i64 n, .int .i64 (m : Int)] w fun e w' => e = .returned (TB (mvB f n m)) ∧ Below w.heap.size w w' := by
  have HN := Aside0.mk (And.intro hn hm)
  clear hn hm
  have hz := zero_bits
  go_enter Tryd.func22, Tryd.ntmps22
  go_upto_region 2 with (fail)
  have HG0 : Aside0 (Below w.heap.size w (((w.alloc (Obj.cells (bA f) 29)).alloc (Obj.cells (bA none') 29)).alloc (Obj.cells (bA none') 29))) := ⟨by repeat (first | exact Below.refl _ _ | apply below_alloc)⟩
  have HF0 : Aside0 (BoxB (((w.alloc (Obj.cells (bA f) 29)).alloc (Obj.cells (bA none') 29)).alloc (Obj.cells (bA none') 29)) w.heap.size f) := ⟨((BoxB.new w _).alloc _).alloc _⟩
  have HR0 : Aside0 (BoxB (((w.alloc (Obj.cells (bA f) 29)).alloc (Obj.cells (bA none') 29)).alloc (Obj.cells (bA none') 29)) (w.heap.size + 1) none') := ⟨(BoxB.new' (by simp only [World.size_alloc])).alloc _⟩
  have HO0 : Aside0 (BoxB (((w.alloc (Obj.cells (bA f) 29)).alloc (Obj.cells (bA none') 29)).alloc (Obj.cells (bA none') 29)) (w.heap.size + 1 + 1) none') := ⟨BoxB.new' (by simp only [World.size_alloc])⟩
  generalize (((w.alloc (Obj.cells (bA f) 29)).alloc (Obj.cells (bA none') 29)).alloc (Obj.cells (bA none') 29)) = W0 at HG0 HF0 HR0 HO0 ⊢
  clear hz
  go_upto_region 3 with (fail)
  obtain ⟨M, hM⟩ : ∃ M : Int, (m : Int) = M := ⟨_, rfl⟩
  have HM := Aside0.mk hM
  rw [hM]
  clear hM
  go_loopg [8] (m + 1) (fun kq v8 w' => ∃ (k : Nat) (i : Int), v8 = .int .i64 i ∧ Aside0 (k ≤ m ∧ k + kq = m + 1 ∧ i = (k : Int)) ∧ Aside0 (Below w.heap.size w w') ∧ Aside0 (BoxB w' w.heap.size f) ∧ Aside0 (BoxB w' (w.heap.size + 1) none') ∧ Aside0 (BoxB w' (w.heap.size + 1 + 1) (upto k (mvB f n m))))
  case atStart => exact ⟨0, 0, rfl, ⟨by omega, by omega, rfl⟩, HG0, HF0, HR0, by rw [upto_zero]; exact HO0⟩
  case round =>
    clear HG0 HF0 HR0 HO0
    obtain ⟨k, i, rfl, HI, HG, HF, HR, HO⟩ := hrel
    cases gk with
    | zero => exact absurd HI.out (by omega)
    | succ k1 =>
      obtain ⟨hk, hk1, hi⟩ := HI.out
      obtain ⟨hn, hm⟩ := HN.out
      have hM := HM.out
      by_cases c1 : k < m
      · have cb : decide (i < M) = true := decide_eq_true (by omega)
        have HJ : Aside0 (k + 1 ≤ m ∧ k + 1 + k1 = m + 1) := ⟨by omega⟩
        obtain ⟨i2, hi2⟩ : ∃ j : Int, i + 1 = j := ⟨_, rfl⟩
        have ws : IntKind.i64.wrap (i + 1) = i2 := by rw [i64_w]; unfold wrap64; omega
        have HI2 : Aside0 (i2 = ((k + 1 : Nat) : Int)) := ⟨by omega⟩
        obtain ⟨d, hd⟩ : ∃ d : Int, i - n = d := ⟨_, rfl⟩
        have wd : IntKind.i64.wrap (i - n) = d := by rw [i64_w]; unfold wrap64; omega
        have hmv : mvB f n m k = (decide (0 ≤ d) && decide (d < M) && f d.toNat) := by
          unfold mvB
          rw [decide_eq_true c1, Bool.true_and, ← hi, hd, hM]
        by_cases d1 : 0 ≤ d
        · have d1b : decide ((0 : Int) ≤ d) = true := decide_eq_true d1
          by_cases d2 : d < M
          · have d2b : decide (d < M) = true := decide_eq_true d2
            have c2 : k < 256 := by omega
            have c3 : d.toNat < 256 := by omega
            have p0 : (0 : Int) ≤ d := d1
            have p1 : d < 256 := by omega
            have p3 : (0 : Int) ≤ i := by omega
            have p4 : i < 256 := by omega
            have tn : i.toNat = k := by omega
            obtain ⟨q, hq⟩ : ∃ q, d.toNat = q := ⟨_, rfl⟩
            rw [hq] at c3
            obtain ⟨hcf, hff⟩ := HF.out.cell c3
            obtain ⟨hco, hfo⟩ := HO.out.cell c2
            rw [d1b, d2b, hq] at hmv
            obtain ⟨b, hb⟩ : ∃ b, f q = b := ⟨_, rfl⟩
            rw [hb] at hcf hmv
            have HON := BoxB.set (x := b) HO.out c2
            have hpu := put_upto k (mvB f n m)
            rw [hmv] at hpu
            rw [show (true && true && b) = b from by cases b <;> rfl] at hpu
            rw [hpu] at HON
            have HON2 := Aside0.mk HON
            clear hk hk1 hi hb hi2 c1 c2 c3 HON hpu hmv hn hm hM hd d1 d2
            go_wp2
            go_roundg k1
            case measure => exact Nat.lt_succ_self _
            case rel => exact ⟨k + 1, i2, rfl, ⟨HJ.out.1, HJ.out.2, HI2.out⟩, ⟨below_set HG.out (by omega)⟩, ⟨HF.out.far (g' := w.heap.size + 1 + 1) (p := k) (u := .bool b) (by omega)⟩, ⟨HR.out.far (g' := w.heap.size + 1 + 1) (p := k) (u := .bool b) (by omega)⟩, HON2⟩
          · have d2b : decide (d < M) = false := decide_eq_false d2
            rw [d1b, d2b] at hmv
            have HON2 : Aside0 (BoxB wr (w.heap.size + 1 + 1) (upto (k + 1) (mvB f n m))) := ⟨by rw [upto_false (by rw [hmv]; rfl)]; exact HO.out⟩
            clear hk hk1 hi hi2 c1 hmv hn hm hM hd d1 d2
            go_wp2
            go_roundg k1
            case measure => exact Nat.lt_succ_self _
            case rel => exact ⟨k + 1, i2, rfl, ⟨HJ.out.1, HJ.out.2, HI2.out⟩, HG, HF, HR, HON2⟩
        · have d1b : decide ((0 : Int) ≤ d) = false := decide_eq_false d1
          rw [d1b] at hmv
          have HON2 : Aside0 (BoxB wr (w.heap.size + 1 + 1) (upto (k + 1) (mvB f n m))) := ⟨by rw [upto_false (by rw [hmv]; rfl)]; exact HO.out⟩
          clear hk hk1 hi hi2 c1 hmv hn hm hM hd d1
          go_wp2
          go_roundg k1
          case measure => exact Nat.lt_succ_self _
          case rel => exact ⟨k + 1, i2, rfl, ⟨HJ.out.1, HJ.out.2, HI2.out⟩, HG, HF, HR, HON2⟩
      · have cb : decide (i < M) = false := decide_eq_false (by omega)
        obtain rfl : k = m := by omega
        have hO2 : BoxB wr (w.heap.size + 1 + 1) (mvB f n k) := by
          have hO := HO.out
          rw [upto_mv] at hO
          exact hO
        have hl := lv_bits hO2
        have hs := sv_bits (f' := mvB f n k) HR.out
        have hl2 := lv_bits (BoxB.row (f' := mvB f n k) HR.out)
        have HE := Aside0.mk (below_row (c := bA (mvB f n k)) HG.out (show w.heap.size ≤ w.heap.size + 1 by omega))
        clear hO2 c1 hk hk1 hi hn hm hM
        go_wp2
        exact bodyPost_ret (v := TB (mvB f n k)) (by simp [results, Tryd.results22, go_sem, hl2]) rfl ⟨rfl, HE.out⟩
theorem moved_up (n : Nat) {i : Nat} (hi : i < 64) : bA (mvB (bt n) (i : Int) 256) = bA (bt (n * 2 ^ i)) := bA_ext fun j hj => by
  unfold mvB bt
  rw [Nat.testBit_mul_two_pow, decide_eq_true hj, Bool.true_and]
  by_cases h : i ≤ j
  · rw [decide_eq_true (show (0 : Int) ≤ (j : Int) - (i : Int) by omega), decide_eq_true (show (j : Int) - (i : Int) < ((256 : Nat) : Int) by omega), show ((j : Int) - (i : Int)).toNat = j - i by omega]
    simp [h]
  · rw [decide_eq_false (show ¬ (0 : Int) ≤ (j : Int) - (i : Int) by omega)]
    simp [h]
end Go.Proofs.YtlpbfhbfaphicaaDoor.L01
