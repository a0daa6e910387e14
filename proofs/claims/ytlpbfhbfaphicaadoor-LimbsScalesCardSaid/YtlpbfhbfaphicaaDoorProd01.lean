/- Layer 1: the document's Product, walked. -/
import Derived.Test.YtlpbfhbfaphicaaDoorMoved01
import Derived.Deep.RegionWith
namespace Go.Proofs.YtlpbfhbfaphicaaDoor.L01
open Go Go.RowKit Go.Proofs.YtlpbfhbfaphicaaDoorW.PrintWords Go.Proofs.YtlpbfhbfaphicaaDoorW.PrintLast Go.Proofs.YtlpbfhbfaphicaaDoorW.PrintMore Go.Proofs.YtlpbfhbfaphicaaDoor.Given Go.Proofs.YtlpbfhbfaphicaaDoor.M Go.Proofs.YtlpbfhbfaphicaaDoor.XB

set_option linter.unusedVariables false
attribute [-go_sem] loadVar storeVar
attribute [local go_sem] lv_u lv_i lv_b lv_3 lv_T sv_u sv_i sv_b sv_3 sv_T
theorem mvd_calls (n : Nat) {i : Nat} (hi : i < 64) (w : World) : Calls Tryd.prog 22 #[TB (bt n), .int .i64 (i : Int), .int .i64 256] w fun e w' => e = .returned (TB (bt (n * 2 ^ i))) ∧ Below w.heap.size w w' := by
  have := moved_calls (bt n) (n := (i : Int)) (m := 256) (by omega) (by decide) w
  rw [show TB (mvB (bt n) (i : Int) 256) = TB (bt (n * 2 ^ i)) from congrArg Value.agg (moved_up n hi)] at this
  exact this
theorem sumn_calls (n m : Nat) (w : World) : Calls Tryd.prog 24 #[TB (bt n), TB (bt m)] w fun e w' => e = .returned (TB (bt (n + m))) ∧ Below w.heap.size w w' := by
  rw [← sum_bt]
  exact sum_calls _ _ w
set_option maxHeartbeats 2000000 in
set_option maxRecDepth 100000 in
theorem product_calls (n : Nat) {k : Nat} (hk : k < 2 ^ 64) (w : World) : Calls Tryd.prog 28 #[TB (bt n), .int .u64 (k : Int)] w fun e w' => e = .returned (TB (bt (n * k))) ∧ Below w.heap.size w w' := by
  have HK := Aside0.mk hk
  clear hk
  have hz := zero_bits
  go_enter Tryd.func28, Tryd.ntmps28
  go_upto_region 2 with (fail)
  have HG0 : Aside0 (Below w.heap.size w (((w.alloc (Obj.cells (bA (bt n)) 29)).alloc (Obj.cells (bA none') 29)).alloc (Obj.cells (bA none') 29))) := ⟨by repeat (first | exact Below.refl _ _ | apply below_alloc)⟩
  have HF0 : Aside0 (BoxB (((w.alloc (Obj.cells (bA (bt n)) 29)).alloc (Obj.cells (bA none') 29)).alloc (Obj.cells (bA none') 29)) w.heap.size (bt n)) := ⟨((BoxB.new w _).alloc _).alloc _⟩
  have HR0 : Aside0 (BoxB (((w.alloc (Obj.cells (bA (bt n)) 29)).alloc (Obj.cells (bA none') 29)).alloc (Obj.cells (bA none') 29)) (w.heap.size + 1) none') := ⟨(BoxB.new' (by simp only [World.size_alloc])).alloc _⟩
  have HO0 : Aside0 (BoxB (((w.alloc (Obj.cells (bA (bt n)) 29)).alloc (Obj.cells (bA none') 29)).alloc (Obj.cells (bA none') 29)) (w.heap.size + 1 + 1) none') := ⟨BoxB.new' (by simp only [World.size_alloc])⟩
  generalize (((w.alloc (Obj.cells (bA (bt n)) 29)).alloc (Obj.cells (bA none') 29)).alloc (Obj.cells (bA none') 29)) = W0 at HG0 HF0 HR0 HO0 ⊢
  clear hz
  go_upto_region 3 with (fail)
  go_loopg [6] 65 (fun kq v6 w' => ∃ (j : Nat) (i : Int), v6 = .int .i64 i ∧ Aside0 (j ≤ 64 ∧ j + kq = 65 ∧ i = (j : Int)) ∧ Aside0 (Below w.heap.size w w') ∧ Aside0 (BoxB w' w.heap.size (bt n)) ∧ Aside0 (BoxB w' (w.heap.size + 1) none') ∧ Aside0 (BoxB w' (w.heap.size + 1 + 1) (bt (n * (k % 2 ^ j)))))
  case atStart => exact ⟨0, 0, rfl, ⟨by omega, rfl, rfl⟩, HG0, HF0, HR0, by
    rw [Nat.pow_zero, Nat.mod_one, Nat.mul_zero, show bt 0 = none' from by funext j; exact Nat.zero_testBit j]
    exact HO0⟩
  case round =>
    clear HG0 HF0 HR0 HO0
    obtain ⟨j, i, rfl, HI, HG, HF, HR, HO⟩ := hrel
    cases gk with
    | zero => exact absurd HI.out (by omega)
    | succ k1 =>
      obtain ⟨hj, hj1, rfl⟩ := HI.out
      by_cases c1 : j < 64
      · have cb : decide ((j : Int) < 64) = true := decide_eq_true (by omega)
        have cn : decide (j < 64) = true := decide_eq_true c1
        have HJ : Aside0 (j + 1 ≤ 64 ∧ j + 1 + k1 = 65) := ⟨by omega⟩
        obtain ⟨i2, hi2⟩ : ∃ z : Int, (j : Int) + 1 = z := ⟨_, rfl⟩
        have ws : IntKind.i64.wrap ((j : Int) + 1) = i2 := by rw [i64_w]; unfold wrap64; omega
        have HI2 : Aside0 (i2 = ((j + 1 : Nat) : Int)) := ⟨by omega⟩
        have CP := Aside0.mk (power_calls c1)
        have CM := Aside0.mk (mvd_calls n c1)
        obtain ⟨P, hP⟩ : ∃ P, 2 ^ j = P := ⟨_, rfl⟩
        have hP0 : 0 < P := by rw [← hP]; exact Nat.pow_pos (by decide)
        have hmod := Nat.mod_pow_succ (b := 2) (k := j) (x := k)
        rw [hP] at CP hmod
        obtain ⟨D, hD⟩ : ∃ D, k / P = D := ⟨_, rfl⟩
        rw [hD] at hmod
        have hk := HK.out
        have f0 : ((P : Int) == 0) = false := beq_eq_false_iff_ne.2 (by omega)
        have f0n : ¬ (P : Int) = 0 := by omega
        have f0m : ¬ P = 0 := by omega
        have f1 : Int.tdiv (k : Int) (P : Int) = (D : Int) := by rw [Int.tdiv_eq_ediv_of_nonneg (Int.natCast_nonneg _), ← Int.natCast_ediv, hD]
        have hDk : D ≤ k := by rw [← hD]; exact Nat.div_le_self _ _
        have f1w : IntKind.u64.wrap (D : Int) = (D : Int) := by rw [wu64]; omega
        obtain ⟨E, hE⟩ : ∃ E : Int, Int.tmod (D : Int) 2 = E := ⟨_, rfl⟩
        have f2w : IntKind.u64.wrap E = E := by rw [← hE, tmod_pos (Int.natCast_nonneg _), wu64]; omega
        have hE2 : E = ((D % 2 : Nat) : Int) := by rw [← hE, tmod_pos (Int.natCast_nonneg _)]; omega
        by_cases hb : D % 2 = 1
        · have f3 : (E == 1) = true := by rw [hE2, hb]; rfl
          have f4 : decide (E = 1) = true := f3
          have hnew : n * (k % 2 ^ (j + 1)) = n * (k % 2 ^ j) + n * 2 ^ j := by rw [hmod, hb, Nat.mul_one, Nat.mul_add, hP]
          have CS := Aside0.mk (sumn_calls (n * (k % 2 ^ j)) (n * 2 ^ j))
          rw [← hnew] at CS
          obtain ⟨X, hX⟩ : ∃ X, n * (k % 2 ^ (j + 1)) = X := ⟨_, rfl⟩
          obtain ⟨Y, hY⟩ : ∃ X, n * (k % 2 ^ j) = X := ⟨_, rfl⟩
          obtain ⟨Z, hZ⟩ : ∃ X, n * 2 ^ j = X := ⟨_, rfl⟩
          rw [hX, hY, hZ] at CS
          rw [hZ] at CM
          rw [hY] at HO
          have HX := Aside0.mk hX
          clear hj hj1 c1 hi2 hP hP0 hmod hD hk hDk hE2 hb hnew hX hY hZ
          go_upto_region 6 with (go_at_call 40; (with_reducible refine (CP.out _).mono ?_); rintro e w' ⟨rfl, n1, rfl⟩)
          have HG6 : Aside0 (Below w.heap.size w (wr.drewN n1)) := ⟨pw_below_drewN HG.out n1⟩
          have HF6 := Aside0.mk (HF.out.drewN n1)
          have HR6 := Aside0.mk (HR.out.drewN n1)
          have HO6 := Aside0.mk (HO.out.drewN n1)
          clear HG HF HR HO
          generalize (wr.drewN n1) = W6 at HG6 HF6 HR6 HO6 ⊢
          have hl5 := lv_bits HO6.out
          have hl2 := lv_bits HF6.out
          have hl5d := lv_bits HO6.out.drew
          have hl2d := lv_bits HF6.out.drew
          go_region_with (first
            | (go_at_call 22; (with_reducible refine (CM.out _).mono ?_); rintro e w8 ⟨rfl, hb⟩; have HN := Aside0.mk (below_step (w := w) (by repeat (with_reducible first | exact HG6.out | apply below_drew1)) hb); have Kf := Aside0.mk (BoxB.kept (by repeat (with_reducible first | exact HF6.out | apply BoxB.drew)) hb); have Kr := Aside0.mk (BoxB.kept (by repeat (with_reducible first | exact HR6.out | apply BoxB.drew)) hb); have Ko := Aside0.mk (BoxB.kept (by repeat (with_reducible first | exact HO6.out | apply BoxB.drew)) hb); clear hb HG6 HF6 HR6 HO6; (try clear hl5 hl2); (try clear hl5d hl2d); have HG6 := HN; have HF6 := Kf; have HR6 := Kr; have HO6 := Ko; clear HN Kf Kr Ko; have hl5 := lv_bits HO6.out)
            | (go_at_call 24; (with_reducible refine (CS.out _).mono ?_); rintro e w9 ⟨rfl, hb⟩; have HN := Aside0.mk (below_step (w := w) (by repeat (with_reducible first | exact HG6.out | apply below_drew1)) hb); have Kf := Aside0.mk (BoxB.kept (by repeat (with_reducible first | exact HF6.out | apply BoxB.drew)) hb); have Kr := Aside0.mk (BoxB.kept (by repeat (with_reducible first | exact HR6.out | apply BoxB.drew)) hb); have Ko := Aside0.mk (BoxB.kept (by repeat (with_reducible first | exact HO6.out | apply BoxB.drew)) hb); clear hb HG6 HF6 HR6 HO6; (try clear hl5 hl2); (try clear hl5d hl2d); have HG6 := HN; have HF6 := Kf; have HR6 := Kr; have HO6 := Ko; clear HN Kf Kr Ko; have hs := sv_bits (f' := bt X) HO6.out))
          all_goals (
            go_wp2
            go_roundg k1
            case measure => exact Nat.lt_succ_self _
            case rel => exact ⟨j + 1, i2, rfl, ⟨HJ.out.1, HJ.out.2, HI2.out⟩, ⟨below_row HG6.out (by omega)⟩, ⟨HF6.out.farRow (by omega)⟩, ⟨HR6.out.farRow (by omega)⟩, ⟨by rw [HX.out]; exact HO6.out.row⟩⟩)
        · have f3 : (E == 1) = false := by rw [hE2, show D % 2 = 0 by omega]; rfl
          have f4 : decide (E = 1) = false := f3
          have hnew : k % 2 ^ (j + 1) = k % 2 ^ j := by rw [hmod, show D % 2 = 0 by omega, Nat.mul_zero, Nat.add_zero, hP]
          have HON : Aside0 (BoxB wr (w.heap.size + 1 + 1) (bt (n * (k % 2 ^ (j + 1))))) := ⟨by rw [hnew]; exact HO.out⟩
          clear hj hj1 c1 hi2 hP hP0 hmod hD hk hDk hE2 hb hnew CM
          go_wp2_with (go_at_call 40; (with_reducible refine (CP.out _).mono ?_); rintro e w' ⟨rfl, n1, rfl⟩)
          go_roundg k1
          case measure => exact Nat.lt_succ_self _
          case rel => exact ⟨j + 1, i2, rfl, ⟨HJ.out.1, HJ.out.2, HI2.out⟩, ⟨pw_below_drewN HG.out _⟩, ⟨HF.out.drewN _⟩, ⟨HR.out.drewN _⟩, ⟨HON.out.drewN _⟩⟩
      · have cb : decide ((j : Int) < 64) = false := decide_eq_false (by omega)
        have cn : decide (j < 64) = false := decide_eq_false c1
        obtain rfl : j = 64 := by omega
        have hO2 : BoxB wr (w.heap.size + 1 + 1) (bt (n * k)) := by
          have hO := HO.out
          rw [Nat.mod_eq_of_lt HK.out] at hO
          exact hO
        have hl := lv_bits hO2
        have hs := sv_bits (f' := bt (n * k)) HR.out
        have hl2 := lv_bits (BoxB.row (f' := bt (n * k)) HR.out)
        have HE := Aside0.mk (below_row (c := bA (bt (n * k))) HG.out (show w.heap.size ≤ w.heap.size + 1 by omega))
        clear hO2 c1 hj hj1
        go_wp2
        exact bodyPost_ret (v := TB (bt (n * k))) (by simp [results, Tryd.results28, go_sem, hl2]) rfl ⟨rfl, HE.out⟩
end Go.Proofs.YtlpbfhbfaphicaaDoor.L01
