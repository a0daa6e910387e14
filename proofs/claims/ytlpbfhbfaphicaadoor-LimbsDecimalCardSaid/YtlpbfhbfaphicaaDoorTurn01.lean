/- Layer 1: Turned, walked: the opposite's bits. -/
import Derived.Test.YtlpbfhbfaphicaaDoorPure01
namespace Go.Proofs.YtlpbfhbfaphicaaDoor.L01
open Go Go.RowKit Go.Proofs.YtlpbfhbfaphicaaDoorW.PrintWords Go.Proofs.YtlpbfhbfaphicaaDoorW.PrintLast Go.Proofs.YtlpbfhbfaphicaaDoorW.PrintMore Go.Proofs.YtlpbfhbfaphicaaDoor.Given Go.Proofs.YtlpbfhbfaphicaaDoor.M Go.Proofs.YtlpbfhbfaphicaaDoor.XB

set_option linter.unusedVariables false
attribute [-go_sem] loadVar storeVar
attribute [local go_sem] lv_u lv_i lv_b lv_3 lv_T sv_u sv_i sv_b sv_3 sv_T
theorem BoxB.farRow {w : World} {g g' : Nat} {f : Nat → Bool} {c : Array Value} (h : BoxB w g f) (hne : g ≠ g') : BoxB (w.setRow g' c) g f := by
  unfold BoxB at *
  simp only [World.setRow]
  rw [Array.getElem?_modify, if_neg (fun e => hne e.symm), h]
set_option maxHeartbeats 1000000 in
set_option maxRecDepth 100000 in
theorem turned_calls {n : Nat} (hn : n < 2 ^ 192) (w : World) : Calls Tryd.prog 26 #[TB (bt n)] w fun e w' => e = .returned (TB (bt ((2 ^ 192 - n) % 2 ^ 192))) ∧ Below w.heap.size w w' := by
  have HN := Aside0.mk hn
  clear hn
  have hz := zero_bits
  go_enter Tryd.func26, Tryd.ntmps26
  go_upto_region 2 with (fail)
  have HG0 : Aside0 (Below w.heap.size w (((w.alloc (Obj.cells (bA (bt n)) 29)).alloc (Obj.cells (bA none') 29)).alloc (Obj.cells (bA none') 29))) := ⟨by repeat (first | exact Below.refl _ _ | apply below_alloc)⟩
  have HF0 : Aside0 (BoxB (((w.alloc (Obj.cells (bA (bt n)) 29)).alloc (Obj.cells (bA none') 29)).alloc (Obj.cells (bA none') 29)) w.heap.size (bt n)) := ⟨((BoxB.new w _).alloc _).alloc _⟩
  have HR0 : Aside0 (BoxB (((w.alloc (Obj.cells (bA (bt n)) 29)).alloc (Obj.cells (bA none') 29)).alloc (Obj.cells (bA none') 29)) (w.heap.size + 1) none') := ⟨(BoxB.new' (by simp only [World.size_alloc])).alloc _⟩
  have HO0 : Aside0 (BoxB (((w.alloc (Obj.cells (bA (bt n)) 29)).alloc (Obj.cells (bA none') 29)).alloc (Obj.cells (bA none') 29)) (w.heap.size + 1 + 1) none') := ⟨BoxB.new' (by simp only [World.size_alloc])⟩
  generalize (((w.alloc (Obj.cells (bA (bt n)) 29)).alloc (Obj.cells (bA none') 29)).alloc (Obj.cells (bA none') 29)) = W0 at HG0 HF0 HR0 HO0 ⊢
  go_upto_region 3 with (fail)
  go_loopg [4] 193 (fun kq v4 w' => ∃ (k : Nat) (i : Int), v4 = .int .i64 i ∧ Aside0 (k ≤ 192 ∧ k + kq = 193 ∧ i = (k : Int)) ∧ Aside0 (Below w.heap.size w w') ∧ Aside0 (BoxB w' w.heap.size (bt n)) ∧ Aside0 (BoxB w' (w.heap.size + 1) none') ∧ Aside0 (BoxB w' (w.heap.size + 1 + 1) (upto k (fun j => !bt n j))))
  case atStart => exact ⟨0, 0, rfl, ⟨by omega, rfl, rfl⟩, HG0, HF0, HR0, by rw [upto_zero]; exact HO0⟩
  case round =>
    clear HG0 HF0 HR0 HO0
    obtain ⟨k, i, rfl, HI, HG, HF, HR, HO⟩ := hrel
    cases gk with
    | zero => exact absurd HI.out (by omega)
    | succ k1 =>
      obtain ⟨hk, hk1, hi⟩ := HI.out
      by_cases c1 : k < 192
      · have cb : decide (i < 192) = true := decide_eq_true (by omega)
        have c2 : k < 256 := by omega
        have p3 : (0 : Int) ≤ i := by omega
        have p4 : i < 256 := by omega
        have tn : i.toNat = k := by omega
        obtain ⟨hcf, hff⟩ := HF.out.cell c2
        obtain ⟨hco, hfo⟩ := HO.out.cell c2
        obtain ⟨b, hb⟩ : ∃ b, bt n k = b := ⟨_, rfl⟩
        rw [hb] at hcf
        have HJ : Aside0 (k + 1 ≤ 192 ∧ k + 1 + k1 = 193) := ⟨by omega⟩
        obtain ⟨i2, hi2⟩ : ∃ j : Int, i + 1 = j := ⟨_, rfl⟩
        have ws : IntKind.i64.wrap (i + 1) = i2 := by rw [i64_w]; unfold wrap64; omega
        have HI2 : Aside0 (i2 = ((k + 1 : Nat) : Int)) := ⟨by omega⟩
        have HON := BoxB.set (x := !b) HO.out c2
        have hpu := put_upto k (fun j => !bt n j)
        (try dsimp only at hpu)
        rw [hb] at hpu
        rw [hpu] at HON
        have HON2 := Aside0.mk HON
        clear hk hk1 hi hb hi2 c1 c2 HON hpu
        go_wp2
        go_roundg k1
        case measure => exact Nat.lt_succ_self _
        case rel => exact ⟨k + 1, i2, rfl, ⟨HJ.out.1, HJ.out.2, HI2.out⟩, ⟨below_set HG.out (by omega)⟩, ⟨HF.out.far (g' := w.heap.size + 1 + 1) (p := k) (u := .bool (!b)) (by omega)⟩, ⟨HR.out.far (g' := w.heap.size + 1 + 1) (p := k) (u := .bool (!b)) (by omega)⟩, HON2⟩
      · have cb : decide (i < 192) = false := decide_eq_false (by omega)
        obtain rfl : k = 192 := by omega
        clear c1 hk hk1 hi HI HF
        go_upto_region 7 with (fail)
        have hgl := HO.out.lt
        have HG1 : Aside0 (Below w.heap.size w (wr.alloc (Obj.cells (bA none') 29))) := ⟨below_alloc HG.out _⟩
        have HR1 : Aside0 (BoxB (wr.alloc (Obj.cells (bA none') 29)) (w.heap.size + 1) none') := ⟨HR.out.alloc _⟩
        have HO1 := Aside0.mk (HO.out.alloc (.cells (bA none') 29 (0, 0)))
        have H51 : Aside0 (BoxB (wr.alloc (Obj.cells (bA none') 29)) wr.heap.size none') := ⟨BoxB.new wr _⟩
        clear HG HR HO
        generalize wr.heap.size = g5 at hgl H51 ⊢
        generalize (wr.alloc (Obj.cells (bA none') 29)) = W1 at HG1 HR1 HO1 H51 ⊢
        obtain ⟨hc5, hf5⟩ := H51.out.cell (show 0 < 256 by decide)
        clear hz
        go_upto_region 8 with (fail)
        have HG2 : Aside0 (Below w.heap.size w (W1.setCell ⟨g5, 0, none⟩ (.bool true))) := ⟨below_set HG1.out (by omega)⟩
        have HR2 : Aside0 (BoxB (W1.setCell ⟨g5, 0, none⟩ (.bool true)) (w.heap.size + 1) none') := ⟨HR1.out.far (by omega)⟩
        have HO2 := Aside0.mk (HO1.out.far (p := 0) (u := .bool true) (show w.heap.size + 1 + 1 ≠ g5 by omega))
        have H52 := Aside0.mk (BoxB.set (x := true) H51.out (show 0 < 256 by decide))
        clear HG1 HR1 HO1 H51 hc5 hf5
        generalize (W1.setCell ⟨g5, 0, none⟩ (.bool true)) = W2 at HG2 HR2 HO2 H52 ⊢
        have hl3 := lv_bits HO2.out
        have hl5 := lv_bits H52.out
        obtain ⟨S, hS⟩ : ∃ S, sumB (upto 192 (fun j => !bt n j)) (put none' 0 true) = S := ⟨_, rfl⟩
        have CS := Aside0.mk (sum_calls (upto 192 (fun j => !bt n j)) (put none' 0 true))
        rw [hS] at CS
        have HS := Aside0.mk hS
        clear hS
        go_upto_region 9 with (go_at_call 24; (with_reducible refine (CS.out _).mono ?_); rintro e w8 ⟨rfl, hb⟩; have HG3 := Aside0.mk (below_step HG2.out hb); have HR3 := Aside0.mk (HR2.out.kept hb); have HO3 := Aside0.mk (HO2.out.kept hb); clear hb hl3 hl5; have hs3 := sv_bits (f' := S) HO3.out)
        have HG4 := Aside0.mk (below_row (c := bA S) HG3.out (show w.heap.size ≤ w.heap.size + 1 + 1 by omega))
        have HO4 := Aside0.mk (BoxB.row (f' := S) HO3.out)
        have HR4 : Aside0 (BoxB (w8.setRow (w.heap.size + 1 + 1) (bA S)) (w.heap.size + 1) none') := ⟨HR3.out.farRow (by omega)⟩
        clear HG2 HR2 HO2 H52 HG3 HR3 HO3 hs3
        generalize (w8.setRow (w.heap.size + 1 + 1) (bA S)) = W3 at HG4 HO4 HR4 ⊢
        obtain ⟨hc9, hf9⟩ := HO4.out.cell (show 192 < 256 by decide)
        go_upto_region 10 with (fail)
        have HG5 := Aside0.mk (below_set (j := 192) (v := .bool false) HG4.out (show w.heap.size ≤ w.heap.size + 1 + 1 by omega))
        have HO5 := BoxB.set (x := false) HO4.out (show 192 < 256 by decide)
        have HR5 := HR4.out.far (p := 192) (u := .bool false) (show w.heap.size + 1 ≠ w.heap.size + 1 + 1 by omega)
        rw [← HS.out, turned_bt HN.out] at HO5
        clear HG4 HO4 HR4 hc9 hf9
        generalize (W3.setCell ⟨w.heap.size + 1 + 1, 192, none⟩ (.bool false)) = W4 at HG5 HO5 HR5 ⊢
        obtain ⟨N, hN⟩ : ∃ N, (2 ^ 192 - n) % 2 ^ 192 = N := ⟨_, rfl⟩
        rw [hN] at HO5
        have hl := lv_bits HO5
        have hs := sv_bits (f' := bt N) HR5
        have hl2 := lv_bits (BoxB.row (f' := bt N) HR5)
        have HE := Aside0.mk (below_row (c := bA (bt N)) HG5.out (show w.heap.size ≤ w.heap.size + 1 by omega))
        clear HO5 HR5 HG5
        go_wp2
        exact bodyPost_ret (v := TB (bt N)) (by simp [results, Tryd.results26, go_sem, hl2]) rfl ⟨by rw [hN], HE.out⟩
end Go.Proofs.YtlpbfhbfaphicaaDoor.L01
