/- Layer 1: Bit, walked: a number's bits. -/
import Derived.Test.YtlpbfhbfaphicaaDoorSum01
import Derived.Deep.RegionWith
namespace Go.Proofs.YtlpbfhbfaphicaaDoor.L01
open Go Go.RowKit Go.Proofs.YtlpbfhbfaphicaaDoorW.PrintWords Go.Proofs.YtlpbfhbfaphicaaDoorW.PrintLast Go.Proofs.YtlpbfhbfaphicaaDoorW.PrintMore Go.Proofs.YtlpbfhbfaphicaaDoor.Given Go.Proofs.YtlpbfhbfaphicaaDoor.M Go.Proofs.YtlpbfhbfaphicaaDoor.XB

set_option linter.unusedVariables false
attribute [-go_sem] loadVar storeVar
attribute [local go_sem] lv_u lv_i lv_b lv_3 lv_T sv_u sv_i sv_b sv_3 sv_T
theorem power_all : ∀ n : Fin 64, epicycleref01_power.f 65 ((n.1 : Nat) : Int) = some ((2 ^ n.1 : Nat) : Int) := by decide +kernel
theorem power_calls {n : Nat} (h : n < 64) (w : World) : Calls Tryd.prog 40 #[.int .i64 (n : Int)] w fun e w' => e = .returned (.int .u64 ((2 ^ n : Nat) : Int)) ∧ Drawn0 w w' :=
  epicycleref01_power.calls 65 (n : Int) _ w (power_all ⟨n, h⟩)
/-- A number's bits. -/
def bt (n : Nat) : Nat → Bool := fun j => n.testBit j
def N3.n (a : N3) : Nat := a.V.toNat
/-- The part in which a bit lies. -/
def N3.at (a : N3) (q : Nat) : Int := if q = 0 then a.x else if q = 1 then a.y else a.z
theorem bit_at {a : N3} (ha : a.ok) {i : Nat} (hi : i < 192) : bt a.n i = (((a.at (i / 64)).toNat / 2 ^ (i % 64)) % 2 == 1) := by
  obtain ⟨x, y, z⟩ := a
  obtain ⟨hx, hy, hz⟩ := ha
  unfold M.U at hx hy hz
  dsimp only at hx hy hz
  obtain ⟨X, rfl⟩ := Int.eq_ofNat_of_zero_le hx.1
  obtain ⟨Y, rfl⟩ := Int.eq_ofNat_of_zero_le hy.1
  obtain ⟨Z, rfl⟩ := Int.eq_ofNat_of_zero_le hz.1
  have hn : (⟨(X : Int), (Y : Int), (Z : Int)⟩ : N3).n = X + 2 ^ 64 * (Y + 2 ^ 64 * Z) := by
    unfold N3.n N3.V
    dsimp only
    omega
  have e : ∀ m : Nat, (m % 2 == 1) = decide (m % 2 = 1) := fun m => rfl
  rw [hn, bt, e]
  have hX : X < 2 ^ 64 := by omega
  have hY : Y < 2 ^ 64 := by omega
  have hZ : Z < 2 ^ 64 := by omega
  rw [Nat.add_comm X, Nat.testBit_two_pow_mul_add _ hX]
  unfold N3.at
  by_cases h0 : i < 64
  · rw [if_pos h0, if_pos (show i / 64 = 0 by omega), Nat.mod_eq_of_lt h0, Nat.testBit_eq_decide_div_mod_eq]
    rfl
  · rw [if_neg h0, Nat.add_comm Y, Nat.testBit_two_pow_mul_add _ hY, if_neg (show ¬ i / 64 = 0 by omega)]
    by_cases h1 : i < 128
    · rw [if_pos (show i - 64 < 64 by omega), if_pos (show i / 64 = 1 by omega), show i % 64 = i - 64 by omega, Nat.testBit_eq_decide_div_mod_eq]
      rfl
    · rw [if_neg (show ¬ i - 64 < 64 by omega), if_neg (show ¬ i / 64 = 1 by omega), show i % 64 = i - 64 - 64 by omega, Nat.testBit_eq_decide_div_mod_eq]
      rfl
theorem bit_high {a : N3} (ha : a.ok) {i : Nat} (hi : 192 ≤ i) : bt a.n i = false := by
  unfold bt
  refine Nat.testBit_lt_two_pow ?_
  have h1 : a.n < 2 ^ 192 := by
    obtain ⟨hx, hy, hz⟩ := ha
    unfold M.U at hx hy hz
    unfold N3.n N3.V
    omega
  exact Nat.lt_of_lt_of_le h1 (Nat.pow_le_pow_right (by decide) hi)
/-- A box of three numbers, of the plain type. -/
def Box23 (w : World) (g : Nat) (a : N3) : Prop := w.heap[g]? = some (.cells (cs3 a) 23 (0, 0))
theorem Box23.facts {w : World} {g : Nat} {a : N3} (h : Box23 w g a) : (w.cell? ⟨g, 0, none⟩ = some (.int .u64 a.x) ∧ w.cell? ⟨g, 1, none⟩ = some (.int .u64 a.y) ∧ w.cell? ⟨g, 2, none⟩ = some (.int .u64 a.z)) ∧ (w.frozen? ⟨g, 0, none⟩ = false ∧ w.frozen? ⟨g, 1, none⟩ = false ∧ w.frozen? ⟨g, 2, none⟩ = false) ∧ g < w.heap.size :=
  ⟨⟨(blk_cell h 0).trans rfl, (blk_cell h 1).trans rfl, (blk_cell h 2).trans rfl⟩, ⟨blk_frozen h 0, blk_frozen h 1, blk_frozen h 2⟩, blk_lt h⟩
theorem Box23.at {w : World} {g : Nat} {a : N3} (h : Box23 w g a) {q : Nat} (hq : q < 3) : w.cell? ⟨g, q, none⟩ = some (.int .u64 (a.at q)) := by
  refine (blk_cell h q).trans ?_
  match q, hq with
  | 0, _ => rfl
  | 1, _ => rfl
  | 2, _ => rfl
theorem Box23.kept {W w' : World} {g : Nat} {a : N3} (h : Box23 W g a) (hb : Below W.heap.size W w') : Box23 w' g a := blk_below h hb
theorem Box23.new' {W : World} {g : Nat} {a : N3} (hg : g = W.heap.size) : Box23 (W.alloc (.cells (cs3 a) 23 (0, 0))) g a := hg ▸ blk_new _ _
theorem Box23.alloc {W : World} {g : Nat} {a : N3} (h : Box23 W g a) (o : Obj) : Box23 (W.alloc o) g a := blk_alloc h o
theorem Box23.drew {W : World} {g : Nat} {a : N3} (h : Box23 W g a) : Box23 W.drew g a := h
theorem Box23.far {w : World} {g g' p : Nat} {a : N3} {u : Value} (h : Box23 w g a) (hne : g ≠ g') : Box23 (w.setCell ⟨g', p, none⟩ u) g a := blk_far h hne u
theorem N3.at_ok {a : N3} (ha : a.ok) (q : Nat) : M.U (a.at q) := by
  unfold N3.at
  split
  · exact ha.1
  · split
    · exact ha.2.1
    · exact ha.2.2
set_option maxHeartbeats 1000000 in
set_option maxRecDepth 100000 in
theorem bit_calls {a : N3} (ha : a.ok) (w : World) : Calls Tryd.prog 36 #[T3 a] w fun e w' => e = .returned (TB (bt a.n)) ∧ Below w.heap.size w w' := by
  have HA := Aside0.mk ha
  clear ha
  have hz := zero_bits
  go_enter Tryd.func36, Tryd.ntmps36
  go_upto_region 2 with (fail)
  have HG0 : Aside0 (Below w.heap.size w (((w.alloc (Obj.cells (cs3 a) 23)).alloc (Obj.cells (bA none') 29)).alloc (Obj.cells (bA none') 29))) := ⟨by repeat (first | exact Below.refl _ _ | apply below_alloc)⟩
  have HF0 : Aside0 (Box23 (((w.alloc (Obj.cells (cs3 a) 23)).alloc (Obj.cells (bA none') 29)).alloc (Obj.cells (bA none') 29)) w.heap.size a) := ⟨((Box23.new' rfl).alloc _).alloc _⟩
  have HR0 : Aside0 (BoxB (((w.alloc (Obj.cells (cs3 a) 23)).alloc (Obj.cells (bA none') 29)).alloc (Obj.cells (bA none') 29)) (w.heap.size + 1) none') := ⟨(BoxB.new' (by simp only [World.size_alloc])).alloc _⟩
  have HO0 : Aside0 (BoxB (((w.alloc (Obj.cells (cs3 a) 23)).alloc (Obj.cells (bA none') 29)).alloc (Obj.cells (bA none') 29)) (w.heap.size + 1 + 1) none') := ⟨BoxB.new' (by simp only [World.size_alloc])⟩
  generalize (((w.alloc (Obj.cells #[.int .u64 a.x, .int .u64 a.y, .int .u64 a.z] 23)).alloc (Obj.cells (bA none') 29)).alloc (Obj.cells (bA none') 29)) = W0 at HG0 HF0 HR0 HO0 ⊢
  clear hz
  go_upto_region 3 with (fail)
  go_loopg [4] 193 (fun kq v4 w' => ∃ (k : Nat) (i : Int), v4 = .int .i64 i ∧ Aside0 (k ≤ 192 ∧ k + kq = 193 ∧ i = (k : Int)) ∧ Aside0 (Below w.heap.size w w') ∧ Aside0 (Box23 w' w.heap.size a) ∧ Aside0 (BoxB w' (w.heap.size + 1) none') ∧ Aside0 (BoxB w' (w.heap.size + 1 + 1) (upto k (bt a.n))))
  case atStart => exact ⟨0, 0, rfl, ⟨by omega, rfl, rfl⟩, HG0, HF0, HR0, by rw [upto_zero]; exact HO0⟩
  case round =>
    clear HG0 HF0 HR0 HO0
    obtain ⟨k, i, rfl, HI, HG, HF, HR, HO⟩ := hrel
    cases gk with
    | zero => exact absurd HI.out (by omega)
    | succ k1 =>
      obtain ⟨hk, hk1, hi⟩ := HI.out
      by_cases c1 : k < 192
      · have cb : decide (i < 192) = true := decide_eq_true (by omega)
        have c2 : k < 256 := by omega
        obtain ⟨q, hq⟩ : ∃ q, k / 64 = q := ⟨_, rfl⟩
        obtain ⟨r, hr⟩ : ∃ q, k % 64 = q := ⟨_, rfl⟩
        have hr64 : r < 64 := by omega
        have hq3 : q < 3 := by omega
        have e1 : Int.tdiv i 64 = (q : Int) := by rw [hi, Int.tdiv_eq_ediv_of_nonneg (Int.natCast_nonneg _)]; omega
        have e2 : Int.tmod i 64 = (r : Int) := by rw [hi, tmod_pos (Int.natCast_nonneg _)]; omega
        have e1w : IntKind.i64.wrap (q : Int) = (q : Int) := by rw [i64_w]; unfold wrap64; omega
        have e2w : IntKind.i64.wrap (r : Int) = (r : Int) := by rw [i64_w]; unfold wrap64; omega
        have p1 : (0 : Int) ≤ (q : Int) := Int.natCast_nonneg _
        have p2 : (q : Int) < 3 := by omega
        have p3 : (0 : Int) ≤ i := by omega
        have p4 : i < 256 := by omega
        have tn : i.toNat = k := by omega
        have hin := HF.out.at hq3
        obtain ⟨X, hX⟩ := Int.eq_ofNat_of_zero_le (N3.at_ok HA.out q).1
        have hXb := (N3.at_ok HA.out q).2
        rw [hX] at hin hXb
        have hbit := bit_at HA.out c1
        rw [hq, hr, hX] at hbit
        obtain ⟨P, hP⟩ : ∃ P, 2 ^ r = P := ⟨_, rfl⟩
        have hP0 : 0 < P := by rw [← hP]; exact Nat.pow_pos (by decide)
        have CP := Aside0.mk (power_calls hr64)
        rw [hP] at CP hbit
        have f0 : ((P : Int) == 0) = false := beq_eq_false_iff_ne.2 (by omega)
        have f0n : ¬ (P : Int) = 0 := by omega
        obtain ⟨D, hD⟩ : ∃ D, X / P = D := ⟨_, rfl⟩
        have f1 : Int.tdiv (X : Int) (P : Int) = (D : Int) := by rw [Int.tdiv_eq_ediv_of_nonneg (Int.natCast_nonneg _), ← Int.natCast_ediv, hD]
        have f1w : IntKind.u64.wrap (D : Int) = (D : Int) := by
          have : X / P ≤ X := Nat.div_le_self _ _
          rw [wu64]; omega
        obtain ⟨b, hb⟩ : ∃ b : Bool, ((D : Int).tmod 2 == 1) = b := ⟨_, rfl⟩
        have HB5 := Aside0.mk hb
        have hbn : bt a.n k = b := by
          rw [hbit, ← hb, tmod_pos (Int.natCast_nonneg _), show ((X : Int)).toNat = X from rfl, hD]
          show decide (D % 2 = 1) = decide ((D : Int) % 2 = 1)
          exact decide_eq_decide.2 (by omega)
        obtain ⟨hco, hfo⟩ := HO.out.cell c2
        have HJ : Aside0 (k + 1 ≤ 192 ∧ k + 1 + k1 = 193) := ⟨by omega⟩
        obtain ⟨i2, hi2⟩ : ∃ j : Int, i + 1 = j := ⟨_, rfl⟩
        have ws : IntKind.i64.wrap (i + 1) = i2 := by rw [i64_w]; unfold wrap64; omega
        have HI2 : Aside0 (i2 = ((k + 1 : Nat) : Int)) := ⟨by omega⟩
        have HON : Aside0 (∀ W, BoxB W (w.heap.size + 1 + 1) (upto k (bt a.n)) → BoxB (W.setCell ⟨w.heap.size + 1 + 1, k, none⟩ (.bool b)) (w.heap.size + 1 + 1) (upto (k + 1) (bt a.n))) := ⟨fun W h => by
          have := BoxB.set (x := b) h c2
          rw [← hbn, put_upto] at this
          rw [← hbn]
          exact this⟩
        clear hk hk1 hi hq hr hr64 hq3 hX hXb hbit hP hP0 hD hb hbn hi2 c1 c2
        go_wp2
        go_region_with (go_at_call 40; (with_reducible refine (CP.out _).mono ?_); rintro e w' ⟨rfl, n1, rfl⟩)
        all_goals (
          rw [HB5.out]
          go_wp2
          go_roundg k1
          case measure => exact Nat.lt_succ_self _
          case rel => exact ⟨k + 1, i2, rfl, ⟨HJ.out.1, HJ.out.2, HI2.out⟩, ⟨below_set (pw_below_drewN HG.out _) (by omega)⟩, ⟨HF.out.far (g' := w.heap.size + 1 + 1) (p := k) (u := .bool b) (by omega)⟩, ⟨HR.out.far (g' := w.heap.size + 1 + 1) (p := k) (u := .bool b) (by omega)⟩, ⟨HON.out _ (HO.out.drewN _)⟩⟩)
      · have cb : decide (i < 192) = false := decide_eq_false (by omega)
        obtain rfl : k = 192 := by omega
        have hO2 : BoxB wr (w.heap.size + 1 + 1) (bt a.n) := by
          have hO := HO.out
          unfold BoxB at *
          rw [hO]
          rw [show bA (upto 192 (bt a.n)) = bA (bt a.n) from bA_ext fun j hj => by
            unfold upto
            by_cases h : j < 192
            · simp [h]
            · rw [bit_high HA.out (by omega)]; simp]
        have hl := lv_bits hO2
        have hs := sv_bits (f' := bt a.n) HR.out
        have hr : BoxB (wr.setRow (w.heap.size + 1) (bA (bt a.n))) (w.heap.size + 1) (bt a.n) := HR.out.row
        have hl2 := lv_bits hr
        have HE := Aside0.mk (below_row (c := bA (bt a.n)) HG.out (show w.heap.size ≤ w.heap.size + 1 by omega))
        clear hO2 hr c1 hk hk1 hi
        go_wp2
        exact bodyPost_ret (v := TB (bt a.n)) (by simp [results, Tryd.results36, go_sem, hl2]) rfl ⟨rfl, HE.out⟩
end Go.Proofs.YtlpbfhbfaphicaaDoor.L01
