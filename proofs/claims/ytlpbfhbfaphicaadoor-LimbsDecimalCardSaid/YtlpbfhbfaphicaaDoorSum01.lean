/- Layer 1: Sum of bits, walked. -/
import Derived.Test.YtlpbfhbfaphicaaDoorBits01
namespace Go.Proofs.YtlpbfhbfaphicaaDoor.L01
open Go Go.RowKit Go.Proofs.YtlpbfhbfaphicaaDoorW.PrintWords Go.Proofs.YtlpbfhbfaphicaaDoorW.PrintLast Go.Proofs.YtlpbfhbfaphicaaDoorW.PrintMore Go.Proofs.YtlpbfhbfaphicaaDoor.Given Go.Proofs.YtlpbfhbfaphicaaDoor.M Go.Proofs.YtlpbfhbfaphicaaDoor.XB

set_option linter.unusedVariables false
attribute [-go_sem] loadVar storeVar
attribute [local go_sem] lv_u lv_i lv_b lv_3 lv_T sv_u sv_i sv_b sv_3 sv_T
/-- What is carried into a place. -/
def car (f g : Nat → Bool) : Nat → Bool
  | 0 => false
  | i + 1 => f i && g i || car f g i && (f i || g i)
def sumB (f g : Nat → Bool) : Nat → Bool := fun j => (f j != g j) != car f g j
/-- The first i places of a function. -/
def upto (i : Nat) (f : Nat → Bool) : Nat → Bool := fun j => decide (j < i) && f j
theorem upto_zero (f : Nat → Bool) : upto 0 f = none' := by funext j; simp [upto]
theorem put_upto (i : Nat) (f : Nat → Bool) : put (upto i f) i (f i) = upto (i + 1) f := by
  funext j
  unfold put upto
  by_cases h : j = i
  · subst h; simp
  · rw [if_neg h]
    congr 1
    exact decide_eq_decide.2 (by omega)
theorem upto_all (f : Nat → Bool) : bA (upto 256 f) = bA f := bA_ext fun i h => by simp [upto, h]
set_option maxHeartbeats 1000000 in
set_option maxRecDepth 100000 in
theorem sum_calls (f g : Nat → Bool) (w : World) : Calls Tryd.prog 24 #[TB f, TB g] w fun e w' => e = .returned (TB (sumB f g)) ∧ Below w.heap.size w w' := by
  have hz := zero_bits
  go_enter Tryd.func24, Tryd.ntmps24
  go_upto_region 3 with (fail)
  have HG0 : Aside0 (Below w.heap.size w ((((w.alloc (Obj.cells (bA f) 29)).alloc (Obj.cells (bA g) 29)).alloc (Obj.cells (bA none') 29)).alloc (Obj.cells (bA none') 29))) := ⟨by repeat (first | exact Below.refl _ _ | apply below_alloc)⟩
  have HF0 : Aside0 (BoxB ((((w.alloc (Obj.cells (bA f) 29)).alloc (Obj.cells (bA g) 29)).alloc (Obj.cells (bA none') 29)).alloc (Obj.cells (bA none') 29)) w.heap.size f) := ⟨(((BoxB.new w f).alloc _).alloc _).alloc _⟩
  have HK0 : Aside0 (BoxB ((((w.alloc (Obj.cells (bA f) 29)).alloc (Obj.cells (bA g) 29)).alloc (Obj.cells (bA none') 29)).alloc (Obj.cells (bA none') 29)) (w.heap.size + 1) g) := ⟨((BoxB.new' (by simp only [World.size_alloc])).alloc _).alloc _⟩
  have HR0 : Aside0 (BoxB ((((w.alloc (Obj.cells (bA f) 29)).alloc (Obj.cells (bA g) 29)).alloc (Obj.cells (bA none') 29)).alloc (Obj.cells (bA none') 29)) (w.heap.size + 1 + 1) none') := ⟨(BoxB.new' (by simp only [World.size_alloc])).alloc _⟩
  have HO0 : Aside0 (BoxB ((((w.alloc (Obj.cells (bA f) 29)).alloc (Obj.cells (bA g) 29)).alloc (Obj.cells (bA none') 29)).alloc (Obj.cells (bA none') 29)) (w.heap.size + 1 + 1 + 1) none') := ⟨BoxB.new' (by simp only [World.size_alloc])⟩
  generalize ((((w.alloc (Obj.cells (bA f) 29)).alloc (Obj.cells (bA g) 29)).alloc (Obj.cells (bA none') 29)).alloc (Obj.cells (bA none') 29)) = W0 at HG0 HF0 HK0 HR0 HO0 ⊢
  clear hz
  go_upto_region 4 with (fail)
  go_loopg [6, 8] 257 (fun kq v6 v8 w' => ∃ (k : Nat) (i : Int) (c : Bool), v6 = .bool c ∧ v8 = .int .i64 i ∧ Aside0 (k ≤ 256 ∧ k + kq = 257 ∧ i = (k : Int) ∧ c = car f g k) ∧ Aside0 (Below w.heap.size w w') ∧ Aside0 (BoxB w' w.heap.size f) ∧ Aside0 (BoxB w' (w.heap.size + 1) g) ∧ Aside0 (BoxB w' (w.heap.size + 1 + 1) none') ∧ Aside0 (BoxB w' (w.heap.size + 1 + 1 + 1) (upto k (sumB f g))))
  case atStart => exact ⟨0, 0, false, rfl, rfl, ⟨by omega, rfl, rfl, rfl⟩, HG0, HF0, HK0, HR0, by rw [upto_zero]; exact HO0⟩
  case round =>
    clear HG0 HF0 HK0 HR0 HO0
    obtain ⟨k, i, c, rfl, rfl, HI, HG, HF, HK, HR, HO⟩ := hrel
    cases gk with
    | zero => exact absurd HI.out (by omega)
    | succ k1 =>
      obtain ⟨hk, hk1, rfl, hc⟩ := HI.out
      by_cases c1 : k < 256
      · have cb : decide ((k : Int) < 256) = true := decide_eq_true (by omega)
        have cn : decide (k < 256) = true := decide_eq_true c1
        have p3 : (0 : Int) ≤ (k : Int) := Int.natCast_nonneg _
        have p4 : (k : Int) < 256 := by omega
        have ws : IntKind.i64.wrap ((k : Int) + 1) = ((k + 1 : Nat) : Int) := by rw [i64_w]; unfold wrap64; omega
        obtain ⟨hcf, hff⟩ := HF.out.cell c1
        obtain ⟨hcg, hfg⟩ := HK.out.cell c1
        obtain ⟨hco, hfo⟩ := HO.out.cell c1
        have HJ : Aside0 (k + 1 ≤ 256 ∧ k + 1 + k1 = 257) := ⟨by omega⟩
        have hne1 : (w.heap.size + 1 + 1 + 1 = w.heap.size) = False := eq_false (by omega)
        have hne2 : (w.heap.size + 1 + 1 + 1 = w.heap.size + 1) = False := eq_false (by omega)
        obtain ⟨x, hx⟩ : ∃ x, f k = x := ⟨_, rfl⟩
        obtain ⟨y, hy⟩ : ∃ x, g k = x := ⟨_, rfl⟩
        rw [hx] at hcf
        rw [hy] at hcg
        have HCN : Aside0 (car f g (k + 1) = (x && y || c && (x || y))) := ⟨by rw [car, hx, hy, ← hc]⟩
        have HSN : Aside0 (sumB f g k = ((x != y) != c)) := ⟨by rw [sumB, hx, hy, ← hc]⟩
        obtain ⟨z, hz⟩ : ∃ z, sumB f g k = z := ⟨_, rfl⟩
        have HOn : Aside0 (BoxB (wr.drew.setCell ⟨w.heap.size + 1 + 1 + 1, k, none⟩ (.bool z)) (w.heap.size + 1 + 1 + 1) (upto (k + 1) (sumB f g))) := ⟨by
          have := BoxB.set (x := z) HO.out.drew c1
          rw [← hz, put_upto] at this
          rw [← hz]
          exact this⟩
        have HGn := Aside0.mk (below_set (j := k) (v := .bool z) HG.out (show w.heap.size ≤ w.heap.size + 1 + 1 + 1 by omega))
        have HFn := Aside0.mk (HF.out.far (p := k) (u := .bool z) (show w.heap.size ≠ w.heap.size + 1 + 1 + 1 by omega))
        have HKn := Aside0.mk (HK.out.far (p := k) (u := .bool z) (show w.heap.size + 1 ≠ w.heap.size + 1 + 1 + 1 by omega))
        have HRn := Aside0.mk (HR.out.far (p := k) (u := .bool z) (show w.heap.size + 1 + 1 ≠ w.heap.size + 1 + 1 + 1 by omega))
        have HZ : Aside0 (z = ((x != y) != c)) := ⟨by rw [← hz]; exact HSN.out⟩
        clear hx hy hc hz hk hk1 c1
        cases x <;> cases y <;> cases c <;> (
          obtain rfl : z = _ := HZ.out
          clear HZ HSN
          go_wp2
          go_region
          go_wp2
          go_roundg k1
          case measure => exact Nat.lt_succ_self _
          case rel => exact ⟨k + 1, _, _, rfl, rfl, ⟨HJ.out.1, HJ.out.2, rfl, by rw [HCN.out]; rfl⟩, ⟨by (repeat (with_reducible apply below_drew1)); exact HGn.out⟩, ⟨HFn.out⟩, ⟨HKn.out⟩, ⟨HRn.out⟩, ⟨HOn.out⟩⟩)
      · have cb : decide ((k : Int) < 256) = false := decide_eq_false (by omega)
        have cn : decide (k < 256) = false := decide_eq_false c1
        obtain rfl : k = 256 := by omega
        have hO := HO.out
        rw [BoxB, upto_all] at hO
        have hO2 : BoxB wr (w.heap.size + 1 + 1 + 1) (sumB f g) := hO
        have hl := lv_bits hO2
        have hs := sv_bits (f' := sumB f g) HR.out
        have hr : BoxB (wr.setRow (w.heap.size + 1 + 1) (bA (sumB f g))) (w.heap.size + 1 + 1) (sumB f g) := HR.out.row
        have hl2 := lv_bits hr
        have HE := Aside0.mk (below_row (c := bA (sumB f g)) HG.out (show w.heap.size ≤ w.heap.size + 1 + 1 by omega))
        clear hO hO2 hr c1 hk hk1 hc
        go_wp2
        exact bodyPost_ret (v := TB (sumB f g)) (by simp [results, Tryd.results24, go_sem, hl2]) rfl ⟨rfl, HE.out⟩
end Go.Proofs.YtlpbfhbfaphicaaDoor.L01
