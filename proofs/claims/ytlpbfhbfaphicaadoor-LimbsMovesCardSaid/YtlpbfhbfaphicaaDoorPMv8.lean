/- Parts of this claim's texts, packed by wip/tools/prune.py: what the proof does not reach is left out. -/
import Derived.Test.YtlpbfhbfaphicaaDoorPMv7
import Derived.Deep.RegionWith
section
namespace Go.Proofs.YtlpbfhbfaphicaaDoor.L01
open Go Go.RowKit Go.Proofs.YtlpbfhbfaphicaaDoorW.PrintWords Go.Proofs.YtlpbfhbfaphicaaDoorW.PrintLast Go.Proofs.YtlpbfhbfaphicaaDoorW.PrintMore Go.Proofs.YtlpbfhbfaphicaaDoor.Given Go.Proofs.YtlpbfhbfaphicaaDoor.M Go.Proofs.YtlpbfhbfaphicaaDoor.XB
def ofN (n : Int) : N3 := if 0 ≤ n then ⟨n, 0, 0⟩ else ⟨n + 18446744073709551616, 18446744073709551615, 18446744073709551615⟩
theorem ofN_eq {n : Int} (hn : -9223372036854775808 ≤ n ∧ n ≤ 9223372036854775807) : T3 (ofN n) = .agg #[.int .u64 (IntKind.u64.wrap n), .int .u64 (IntKind.u64.wrap (n / 9223372036854775808)), .int .u64 (IntKind.u64.wrap (n / 9223372036854775808))] := by
  unfold ofN
  rw [wu64, wu64]
  by_cases c : 0 ≤ n
  · rw [if_pos c, show n / 9223372036854775808 = 0 by omega, show n % 18446744073709551616 = n by omega]
    rfl
  · rw [if_neg c, show n / 9223372036854775808 = -1 by omega, show n % 18446744073709551616 = n + 18446744073709551616 by omega]
    rfl
set_option maxHeartbeats 4000000 in
set_option maxRecDepth 100000 in
theorem of_calls {n : Int} (hn : -9223372036854775808 ≤ n ∧ n ≤ 9223372036854775807) (w : World) :
    Calls Tryd.prog 18 #[.int .i64 n] w fun e w' => e = .returned (T3 (ofN n)) ∧ Below w.heap.size w w' := by
  rw [ofN_eq hn]
  clear hn
  go_enter Tryd.func18, Tryd.ntmps18
  go_wp2
  exact bodyPost_ret (v := .agg #[.int .u64 (IntKind.u64.wrap n), .int .u64 (IntKind.u64.wrap (n / 9223372036854775808)), .int .u64 (IntKind.u64.wrap (n / 9223372036854775808))]) (by simp [results, Tryd.results18, go_sem]) rfl ⟨rfl, below_alloc (Below.refl _ _) _⟩
set_option maxHeartbeats 4000000 in
set_option maxRecDepth 100000 in
theorem int_calls {a : N3} (ha : a.ok) (w : World) :
    Calls Tryd.prog 17 #[T3 a] w fun e w' => ∃ b : Bool, e = .returned (.tuple #[.int .i64 (if b = true then wrap64 a.x else 0), .bool b]) ∧ Below w.heap.size w w' ∧ (b = true ↔ a = ofN (wrap64 a.x)) := by
  obtain ⟨a0, a1, a2⟩ := a
  obtain ⟨n, hn⟩ : ∃ z, wrap64 a0 = z := ⟨_, rfl⟩
  have hnb : -9223372036854775808 ≤ n ∧ n ≤ 9223372036854775807 := by rw [← hn]; unfold wrap64; omega
  have hn' : IntKind.i64.wrap a0 = n := by simp only [i64_w]; exact hn
  have OC := fun w => of_calls hnb w
  dsimp only
  rw [hn]
  have HN := Aside0.mk hn
  obtain ⟨o, ho⟩ : ∃ z, ofN n = z := ⟨_, rfl⟩
  rw [ho] at OC
  rw [ho]
  obtain ⟨o0, o1, o2⟩ := o
  obtain ⟨q, hq⟩ : ∃ q : Bool, decide (o0 = a0 ∧ o1 = a1 ∧ o2 = a2) = q := ⟨_, rfl⟩
  have E3 := eq3_t 24 Tryd.underlying24 o0 o1 o2 a0 a1 a2
  rw [hq] at E3
  have HQ : Aside0 (q = true ↔ (⟨a0, a1, a2⟩ : N3) = ⟨o0, o1, o2⟩) := ⟨by
    rw [← hq, decide_eq_true_iff]
    constructor
    · rintro ⟨rfl, rfl, rfl⟩; rfl
    · intro h; cases h; exact ⟨rfl, rfl, rfl⟩⟩
  clear hnb ho ha hq hn
  go_enter Tryd.func17, Tryd.ntmps17
  cases q
  · go_wp2
    go_region_with (go_at_call 18; (with_reducible refine (OC _).mono ?_); rintro e w' ⟨rfl, hb⟩; have HB := Aside0.mk (below_step (w := w) (by repeat (first | exact Below.refl _ _ | apply below_alloc | apply below_drew1)) hb); have hk : Box3 w' w.heap.size ⟨a0, a1, a2⟩ := Box3.kept (W := (w.alloc _).drew) (Box3.drew (Box3.new w ⟨a0, a1, a2⟩)) hb; obtain ⟨⟨k0, k1, k2⟩, ⟨f0, f1, f2⟩, kl⟩ := hk.facts; clear hb hk)
    all_goals go_wp2
    all_goals go_ret2
    all_goals exact ⟨false, rfl, HB.out, HQ.out⟩
  · go_wp2
    go_region_with (go_at_call 18; (with_reducible refine (OC _).mono ?_); rintro e w' ⟨rfl, hb⟩; have HB := Aside0.mk (below_step (w := w) (by repeat (first | exact Below.refl _ _ | apply below_alloc | apply below_drew1)) hb); have hk : Box3 w' w.heap.size ⟨a0, a1, a2⟩ := Box3.kept (W := (w.alloc _).drew) (Box3.drew (Box3.new w ⟨a0, a1, a2⟩)) hb; obtain ⟨⟨k0, k1, k2⟩, ⟨f0, f1, f2⟩, kl⟩ := hk.facts; clear hb hk)
    all_goals go_wp2
    all_goals go_ret2
    all_goals exact ⟨true, rfl, HB.out, by simpa using HQ.out⟩
end Go.Proofs.YtlpbfhbfaphicaaDoor.L01
end
section
namespace Go.Proofs.YtlpbfhbfaphicaaDoor.L01
open Go Go.RowKit Go.Proofs.YtlpbfhbfaphicaaDoorW.PrintWords Go.Proofs.YtlpbfhbfaphicaaDoorW.PrintLast Go.Proofs.YtlpbfhbfaphicaaDoorW.PrintMore Go.Proofs.YtlpbfhbfaphicaaDoor.Given Go.Proofs.YtlpbfhbfaphicaaDoor.M Go.Proofs.YtlpbfhbfaphicaaDoor.XB
set_option linter.unusedVariables false
attribute [-go_sem] loadVar storeVar
attribute [local go_sem] lv_u lv_i lv_b lv_3 lv_T sv_u sv_i sv_b sv_3 sv_T
theorem power_all : ∀ n : Fin 64, epicycleref01_power.f 65 ((n.1 : Nat) : Int) = some ((2 ^ n.1 : Nat) : Int) := by decide +kernel
theorem power_calls {n : Nat} (h : n < 64) (w : World) : Calls Tryd.prog 40 #[.int .i64 (n : Int)] w fun e w' => e = .returned (.int .u64 ((2 ^ n : Nat) : Int)) ∧ Drawn0 w w' :=
  epicycleref01_power.calls 65 (n : Int) _ w (power_all ⟨n, h⟩)
def bt (n : Nat) : Nat → Bool := fun j => n.testBit j
def N3.n (a : N3) : Nat := a.V.toNat
def N3.at (a : N3) (q : Nat) : Int := if q = 0 then a.x else if q = 1 then a.y else a.z
theorem bit_at {a : N3} (ha : a.ok) {i : Nat} (hi : i < 192) : bt a.n i = (((a.at (i / 64)).toNat / 2 ^ (i % 64)) % 2 == 1) := by
  obtain ⟨x, y, z⟩ := a
  obtain ⟨hx, hy, hz⟩ := ha
  unfold M.U at hx hy hz
  dsimp only at hx hy hz
  obtain ⟨X, rfl⟩ := Int.eq_ofNat_of_zero_le hx.1
  obtain ⟨Y, rfl⟩ := Int.eq_ofNat_of_zero_le hy.1
  obtain ⟨Z, rfl⟩ := Int.eq_ofNat_of_zero_le hz.1
  have hn : (⟨(X : Int), (Y : Int), (Z : Int)⟩ : N3).n = X + 2 ^ 64 * (Y + 2 ^ 64 * Z) := by
    unfold N3.n N3.V
    dsimp only
    omega
  have e : ∀ m : Nat, (m % 2 == 1) = decide (m % 2 = 1) := fun m => rfl
  rw [hn, bt, e]
  have hX : X < 2 ^ 64 := by omega
  have hY : Y < 2 ^ 64 := by omega
  have hZ : Z < 2 ^ 64 := by omega
  rw [Nat.add_comm X, Nat.testBit_two_pow_mul_add _ hX]
  unfold N3.at
  by_cases h0 : i < 64
  · rw [if_pos h0, if_pos (show i / 64 = 0 by omega), Nat.mod_eq_of_lt h0, Nat.testBit_eq_decide_div_mod_eq]
    rfl
  · rw [if_neg h0, Nat.add_comm Y, Nat.testBit_two_pow_mul_add _ hY, if_neg (show ¬ i / 64 = 0 by omega)]
    by_cases h1 : i < 128
    · rw [if_pos (show i - 64 < 64 by omega), if_pos (show i / 64 = 1 by omega), show i % 64 = i - 64 by omega, Nat.testBit_eq_decide_div_mod_eq]
      rfl
    · rw [if_neg (show ¬ i - 64 < 64 by omega), if_neg (show ¬ i / 64 = 1 by omega), show i % 64 = i - 64 - 64 by omega, Nat.testBit_eq_decide_div_mod_eq]
      rfl
theorem bit_high {a : N3} (ha : a.ok) {i : Nat} (hi : 192 ≤ i) : bt a.n i = false := by
  unfold bt
  refine Nat.testBit_lt_two_pow ?_
  have h1 : a.n < 2 ^ 192 := by
    obtain ⟨hx, hy, hz⟩ := ha
    unfold M.U at hx hy hz
    unfold N3.n N3.V
    omega
  exact Nat.lt_of_lt_of_le h1 (Nat.pow_le_pow_right (by decide) hi)
def Box23 (w : World) (g : Nat) (a : N3) : Prop := w.heap[g]? = some (.cells (cs3 a) 23 (0, 0))
theorem Box23.facts {w : World} {g : Nat} {a : N3} (h : Box23 w g a) : (w.cell? ⟨g, 0, none⟩ = some (.int .u64 a.x) ∧ w.cell? ⟨g, 1, none⟩ = some (.int .u64 a.y) ∧ w.cell? ⟨g, 2, none⟩ = some (.int .u64 a.z)) ∧ (w.frozen? ⟨g, 0, none⟩ = false ∧ w.frozen? ⟨g, 1, none⟩ = false ∧ w.frozen? ⟨g, 2, none⟩ = false) ∧ g < w.heap.size :=
  ⟨⟨(blk_cell h 0).trans rfl, (blk_cell h 1).trans rfl, (blk_cell h 2).trans rfl⟩, ⟨blk_frozen h 0, blk_frozen h 1, blk_frozen h 2⟩, blk_lt h⟩
theorem Box23.at {w : World} {g : Nat} {a : N3} (h : Box23 w g a) {q : Nat} (hq : q < 3) : w.cell? ⟨g, q, none⟩ = some (.int .u64 (a.at q)) := by
  refine (blk_cell h q).trans ?_
  match q, hq with
  | 0, _ => rfl
  | 1, _ => rfl
  | 2, _ => rfl
theorem Box23.kept {W w' : World} {g : Nat} {a : N3} (h : Box23 W g a) (hb : Below W.heap.size W w') : Box23 w' g a := blk_below h hb
theorem Box23.new' {W : World} {g : Nat} {a : N3} (hg : g = W.heap.size) : Box23 (W.alloc (.cells (cs3 a) 23 (0, 0))) g a := hg ▸ blk_new _ _
theorem Box23.alloc {W : World} {g : Nat} {a : N3} (h : Box23 W g a) (o : Obj) : Box23 (W.alloc o) g a := blk_alloc h o
theorem Box23.drew {W : World} {g : Nat} {a : N3} (h : Box23 W g a) : Box23 W.drew g a := h
theorem Box23.far {w : World} {g g' p : Nat} {a : N3} {u : Value} (h : Box23 w g a) (hne : g ≠ g') : Box23 (w.setCell ⟨g', p, none⟩ u) g a := blk_far h hne u
theorem N3.at_ok {a : N3} (ha : a.ok) (q : Nat) : M.U (a.at q) := by
  unfold N3.at
  split
  · exact ha.1
  · split
    · exact ha.2.1
    · exact ha.2.2
set_option maxHeartbeats 1000000 in
set_option maxRecDepth 100000 in
theorem bit_calls {a : N3} (ha : a.ok) (w : World) : Calls Tryd.prog 36 #[T3 a] w fun e w' => e = .returned (TB (bt a.n)) ∧ Below w.heap.size w w' := by
  have HA := Aside0.mk ha
  clear ha
  have hz := zero_bits
  go_enter Tryd.func36, Tryd.ntmps36
  go_upto_region 2 with (fail)
  have HG0 : Aside0 (Below w.heap.size w (((w.alloc (Obj.cells (cs3 a) 23)).alloc (Obj.cells (bA none') 29)).alloc (Obj.cells (bA none') 29))) := ⟨by repeat (first | exact Below.refl _ _ | apply below_alloc)⟩
  have HF0 : Aside0 (Box23 (((w.alloc (Obj.cells (cs3 a) 23)).alloc (Obj.cells (bA none') 29)).alloc (Obj.cells (bA none') 29)) w.heap.size a) := ⟨((Box23.new' rfl).alloc _).alloc _⟩
  have HR0 : Aside0 (BoxB (((w.alloc (Obj.cells (cs3 a) 23)).alloc (Obj.cells (bA none') 29)).alloc (Obj.cells (bA none') 29)) (w.heap.size + 1) none') := ⟨(BoxB.new' (by simp only [World.size_alloc])).alloc _⟩
  have HO0 : Aside0 (BoxB (((w.alloc (Obj.cells (cs3 a) 23)).alloc (Obj.cells (bA none') 29)).alloc (Obj.cells (bA none') 29)) (w.heap.size + 1 + 1) none') := ⟨BoxB.new' (by simp only [World.size_alloc])⟩
  generalize (((w.alloc (Obj.cells #[.int .u64 a.x, .int .u64 a.y, .int .u64 a.z] 23)).alloc (Obj.cells (bA none') 29)).alloc (Obj.cells (bA none') 29)) = W0 at HG0 HF0 HR0 HO0 ⊢
  clear hz
  go_upto_region 3 with (fail)
  go_loopg [4] 193 (fun kq v4 w' => ∃ (k : Nat) (i : Int), v4 = .int .i64 i ∧ Aside0 (k ≤ 192 ∧ k + kq = 193 ∧ i = (k : Int)) ∧ Aside0 (Below w.heap.size w w') ∧ Aside0 (Box23 w' w.heap.size a) ∧ Aside0 (BoxB w' (w.heap.size + 1) none') ∧ Aside0 (BoxB w' (w.heap.size + 1 + 1) (upto k (bt a.n))))
  case atStart => exact ⟨0, 0, rfl, ⟨by omega, rfl, rfl⟩, HG0, HF0, HR0, by rw [upto_zero]; exact HO0⟩
  case round =>
    clear HG0 HF0 HR0 HO0
    obtain ⟨k, i, rfl, HI, HG, HF, HR, HO⟩ := hrel
    cases gk with
    | zero => exact absurd HI.out (by omega)
    | succ k1 =>
      obtain ⟨hk, hk1, hi⟩ := HI.out
      by_cases c1 : k < 192
      · have cb : decide (i < 192) = true := decide_eq_true (by omega)
        have c2 : k < 256 := by omega
        obtain ⟨q, hq⟩ : ∃ q, k / 64 = q := ⟨_, rfl⟩
        obtain ⟨r, hr⟩ : ∃ q, k % 64 = q := ⟨_, rfl⟩
        have hr64 : r < 64 := by omega
        have hq3 : q < 3 := by omega
        have e1 : Int.tdiv i 64 = (q : Int) := by rw [hi, Int.tdiv_eq_ediv_of_nonneg (Int.natCast_nonneg _)]; omega
        have e2 : Int.tmod i 64 = (r : Int) := by rw [hi, tmod_pos (Int.natCast_nonneg _)]; omega
        have e1w : IntKind.i64.wrap (q : Int) = (q : Int) := by rw [i64_w]; unfold wrap64; omega
        have e2w : IntKind.i64.wrap (r : Int) = (r : Int) := by rw [i64_w]; unfold wrap64; omega
        have p1 : (0 : Int) ≤ (q : Int) := Int.natCast_nonneg _
        have p2 : (q : Int) < 3 := by omega
        have p3 : (0 : Int) ≤ i := by omega
        have p4 : i < 256 := by omega
        have tn : i.toNat = k := by omega
        have hin := HF.out.at hq3
        obtain ⟨X, hX⟩ := Int.eq_ofNat_of_zero_le (N3.at_ok HA.out q).1
        have hXb := (N3.at_ok HA.out q).2
        rw [hX] at hin hXb
        have hbit := bit_at HA.out c1
        rw [hq, hr, hX] at hbit
        obtain ⟨P, hP⟩ : ∃ P, 2 ^ r = P := ⟨_, rfl⟩
        have hP0 : 0 < P := by rw [← hP]; exact Nat.pow_pos (by decide)
        have CP := Aside0.mk (power_calls hr64)
        rw [hP] at CP hbit
        have f0 : ((P : Int) == 0) = false := beq_eq_false_iff_ne.2 (by omega)
        have f0n : ¬ (P : Int) = 0 := by omega
        obtain ⟨D, hD⟩ : ∃ D, X / P = D := ⟨_, rfl⟩
        have f1 : Int.tdiv (X : Int) (P : Int) = (D : Int) := by rw [Int.tdiv_eq_ediv_of_nonneg (Int.natCast_nonneg _), ← Int.natCast_ediv, hD]
        have f1w : IntKind.u64.wrap (D : Int) = (D : Int) := by
          have : X / P ≤ X := Nat.div_le_self _ _
          rw [wu64]; omega
        obtain ⟨b, hb⟩ : ∃ b : Bool, ((D : Int).tmod 2 == 1) = b := ⟨_, rfl⟩
        have HB5 := Aside0.mk hb
        have hbn : bt a.n k = b := by
          rw [hbit, ← hb, tmod_pos (Int.natCast_nonneg _), show ((X : Int)).toNat = X from rfl, hD]
          show decide (D % 2 = 1) = decide ((D : Int) % 2 = 1)
          exact decide_eq_decide.2 (by omega)
        obtain ⟨hco, hfo⟩ := HO.out.cell c2
        have HJ : Aside0 (k + 1 ≤ 192 ∧ k + 1 + k1 = 193) := ⟨by omega⟩
        obtain ⟨i2, hi2⟩ : ∃ j : Int, i + 1 = j := ⟨_, rfl⟩
        have ws : IntKind.i64.wrap (i + 1) = i2 := by rw [i64_w]; unfold wrap64; omega
        have HI2 : Aside0 (i2 = ((k + 1 : Nat) : Int)) := ⟨by omega⟩
        have HON : Aside0 (∀ W, BoxB W (w.heap.size + 1 + 1) (upto k (bt a.n)) → BoxB (W.setCell ⟨w.heap.size + 1 + 1, k, none⟩ (.bool b)) (w.heap.size + 1 + 1) (upto (k + 1) (bt a.n))) := ⟨fun W h => by
          have := BoxB.set (x := b) h c2
          rw [← hbn, put_upto] at this
          rw [← hbn]
          exact this⟩
        clear hk hk1 hi hq hr hr64 hq3 hX hXb hbit hP hP0 hD hb hbn hi2 c1 c2
        go_wp2
        go_region_with (go_at_call 40; (with_reducible refine (CP.out _).mono ?_); rintro e w' ⟨rfl, n1, rfl⟩)
        all_goals (
          rw [HB5.out]
          go_wp2
          go_roundg k1
          case measure => exact Nat.lt_succ_self _
          case rel => exact ⟨k + 1, i2, rfl, ⟨HJ.out.1, HJ.out.2, HI2.out⟩, ⟨below_set (pw_below_drewN HG.out _) (by omega)⟩, ⟨HF.out.far (g' := w.heap.size + 1 + 1) (p := k) (u := .bool b) (by omega)⟩, ⟨HR.out.far (g' := w.heap.size + 1 + 1) (p := k) (u := .bool b) (by omega)⟩, ⟨HON.out _ (HO.out.drewN _)⟩⟩)
      · have cb : decide (i < 192) = false := decide_eq_false (by omega)
        obtain rfl : k = 192 := by omega
        have hO2 : BoxB wr (w.heap.size + 1 + 1) (bt a.n) := by
          have hO := HO.out
          unfold BoxB at *
          rw [hO]
          rw [show bA (upto 192 (bt a.n)) = bA (bt a.n) from bA_ext fun j hj => by
            unfold upto
            by_cases h : j < 192
            · simp [h]
            · rw [bit_high HA.out (by omega)]; simp]
        have hl := lv_bits hO2
        have hs := sv_bits (f' := bt a.n) HR.out
        have hr : BoxB (wr.setRow (w.heap.size + 1) (bA (bt a.n))) (w.heap.size + 1) (bt a.n) := HR.out.row
        have hl2 := lv_bits hr
        have HE := Aside0.mk (below_row (c := bA (bt a.n)) HG.out (show w.heap.size ≤ w.heap.size + 1 by omega))
        clear hO2 hr c1 hk hk1 hi
        go_wp2
        exact bodyPost_ret (v := TB (bt a.n)) (by simp [results, Tryd.results36, go_sem, hl2]) rfl ⟨rfl, HE.out⟩
end Go.Proofs.YtlpbfhbfaphicaaDoor.L01
end
section
namespace Go.Proofs.YtlpbfhbfaphicaaDoor.L01
open Go Go.RowKit Go.Proofs.YtlpbfhbfaphicaaDoorW.PrintWords Go.Proofs.YtlpbfhbfaphicaaDoorW.PrintLast Go.Proofs.YtlpbfhbfaphicaaDoorW.PrintMore Go.Proofs.YtlpbfhbfaphicaaDoor.Given Go.Proofs.YtlpbfhbfaphicaaDoor.M Go.Proofs.YtlpbfhbfaphicaaDoor.XB
set_option linter.unusedVariables false
attribute [-go_sem] loadVar storeVar
attribute [local go_sem] lv_u lv_i lv_b lv_3 lv_T sv_u sv_i sv_b sv_3 sv_T
theorem word0 (f : Nat → Bool) (w : World) : Calls Tryd.prog 30 #[TB f, .int .i64 0] w fun e w' => e = .returned (.int .u64 ((num f 0 64 : Nat) : Int)) ∧ Below w.heap.size w w' := word_calls f (p := 0) (by decide) w
theorem word64 (f : Nat → Bool) (w : World) : Calls Tryd.prog 30 #[TB f, .int .i64 64] w fun e w' => e = .returned (.int .u64 ((num f 64 64 : Nat) : Int)) ∧ Below w.heap.size w w' := word_calls f (p := 64) (by decide) w
theorem word128 (f : Nat → Bool) (w : World) : Calls Tryd.prog 30 #[TB f, .int .i64 128] w fun e w' => e = .returned (.int .u64 ((num f 128 64 : Nat) : Int)) ∧ Below w.heap.size w w' := word_calls f (p := 128) (by decide) w
def wholeN (f : Nat → Bool) : N3 := ⟨((num f 0 64 : Nat) : Int), ((num f 64 64 : Nat) : Int), ((num f 128 64 : Nat) : Int)⟩
set_option maxHeartbeats 4000000 in
set_option maxRecDepth 100000 in
theorem whole_calls (f : Nat → Bool) (w : World) : Calls Tryd.prog 21 #[TB f] w fun e w' => e = .returned (T3 (wholeN f)) ∧ Below w.heap.size w w' := by
  obtain ⟨x, hx⟩ : ∃ x : Int, ((num f 0 64 : Nat) : Int) = x := ⟨_, rfl⟩
  obtain ⟨y, hy⟩ : ∃ x : Int, ((num f 64 64 : Nat) : Int) = x := ⟨_, rfl⟩
  obtain ⟨z, hz⟩ : ∃ x : Int, ((num f 128 64 : Nat) : Int) = x := ⟨_, rfl⟩
  have e0 : wholeN f = ⟨x, y, z⟩ := by unfold wholeN; rw [hx, hy, hz]
  have C0 := Aside0.mk (word0 f)
  have C1 := Aside0.mk (word64 f)
  have C2 := Aside0.mk (word128 f)
  rw [hx] at C0
  rw [hy] at C1
  rw [hz] at C2
  rw [e0]
  clear hx hy hz e0
  go_enter Tryd.func21, Tryd.ntmps21
  go_upto_region 1 with (fail)
  have HB : Aside0 (Below w.heap.size w ((w.alloc (Obj.cells (bA f) 29)).alloc (Obj.cells (cs3 ⟨0, 0, 0⟩) 23))) := ⟨below_alloc (below_alloc (Below.refl _ _) _) _⟩
  have Bf : Aside0 (BoxB ((w.alloc (Obj.cells (bA f) 29)).alloc (Obj.cells (cs3 ⟨0, 0, 0⟩) 23)) w.heap.size f) := ⟨(BoxB.new w f).alloc _⟩
  have Bz : Aside0 (Box23 ((w.alloc (Obj.cells (bA f) 29)).alloc (Obj.cells (cs3 ⟨0, 0, 0⟩) 23)) (w.heap.size + 1) ⟨0, 0, 0⟩) := ⟨Box23.new' (by simp only [World.size_alloc])⟩
  generalize ((w.alloc (Obj.cells (bA f) 29)).alloc (Obj.cells #[.int .u64 0, .int .u64 0, .int .u64 0] 23)) = W0 at HB Bf Bz ⊢
  have hl := lv_bits Bf.out
  have hl2 := lv_bits Bf.out.drew
  obtain ⟨⟨z0, z1, z2⟩, ⟨y0, y1, y2⟩, zl⟩ := Bz.out.facts
  go_region_with (first
    | (go_at_call 30; (with_reducible refine (C0.out _).mono ?_); rintro e w2 ⟨rfl, hb⟩; have HN := Aside0.mk (below_step (w := w) (by repeat (with_reducible first | exact HB.out | apply below_drew1)) hb); have Kf := Aside0.mk (BoxB.kept (by repeat (with_reducible first | exact Bf.out | apply BoxB.drew)) hb); have Kz := Aside0.mk (Box23.kept (by repeat (with_reducible first | exact Bz.out | apply Box23.drew)) hb); clear hl z0 z1 z2 y0 y1 y2 zl; (try clear hl2); have hl := lv_bits Kf.out; obtain ⟨⟨z0, z1, z2⟩, ⟨y0, y1, y2⟩, zl⟩ := Kz.out.facts; clear hb HB Bf Bz; have HB := HN; have Bf := Kf; have Bz := Kz; clear HN Kf Kz) 
    | (go_at_call 30; (with_reducible refine (C1.out _).mono ?_); rintro e w2 ⟨rfl, hb⟩; have HN := Aside0.mk (below_step (w := w) (by repeat (with_reducible first | exact HB.out | apply below_drew1)) hb); have Kf := Aside0.mk (BoxB.kept (by repeat (with_reducible first | exact Bf.out | apply BoxB.drew)) hb); have Kz := Aside0.mk (Box23.kept (by repeat (with_reducible first | exact Bz.out | apply Box23.drew)) hb); clear hl z0 z1 z2 y0 y1 y2 zl; (try clear hl2); have hl := lv_bits Kf.out; obtain ⟨⟨z0, z1, z2⟩, ⟨y0, y1, y2⟩, zl⟩ := Kz.out.facts; clear hb HB Bf Bz; have HB := HN; have Bf := Kf; have Bz := Kz; clear HN Kf Kz) 
    | (go_at_call 30; (with_reducible refine (C2.out _).mono ?_); rintro e w2 ⟨rfl, hb⟩; have HN := Aside0.mk (below_step (w := w) (by repeat (with_reducible first | exact HB.out | apply below_drew1)) hb); have Kf := Aside0.mk (BoxB.kept (by repeat (with_reducible first | exact Bf.out | apply BoxB.drew)) hb); have Kz := Aside0.mk (Box23.kept (by repeat (with_reducible first | exact Bz.out | apply Box23.drew)) hb); clear hl z0 z1 z2 y0 y1 y2 zl; (try clear hl2); have hl := lv_bits Kf.out; obtain ⟨⟨z0, z1, z2⟩, ⟨y0, y1, y2⟩, zl⟩ := Kz.out.facts; clear hb HB Bf Bz; have HB := HN; have Bf := Kf; have Bz := Kz; clear HN Kf Kz))
  all_goals go_wp2
  all_goals exact bodyPost_ret (v := T3 ⟨x, y, z⟩) (by simp [results, Tryd.results21, go_sem, z0, z1, z2, Result.andThen]) rfl ⟨rfl, by repeat (first | exact HB.out | (refine below_set ?_ (by omega)))⟩
end Go.Proofs.YtlpbfhbfaphicaaDoor.L01
end
section
namespace Go.Proofs.YtlpbfhbfaphicaaDoor.L01
open Go Go.RowKit Go.Proofs.YtlpbfhbfaphicaaDoorW.PrintWords Go.Proofs.YtlpbfhbfaphicaaDoorW.PrintLast Go.Proofs.YtlpbfhbfaphicaaDoorW.PrintMore Go.Proofs.YtlpbfhbfaphicaaDoor.Given Go.Proofs.YtlpbfhbfaphicaaDoor.M Go.Proofs.YtlpbfhbfaphicaaDoor.XB
set_option linter.unusedVariables false
attribute [-go_sem] loadVar storeVar
attribute [local go_sem] lv_u lv_i lv_b lv_3 lv_T sv_u sv_i sv_b sv_3 sv_T
theorem div_bit (n k : Nat) : n / 2 ^ k = 2 * (n / 2 ^ (k + 1)) + (if bt n k then 1 else 0) := by
  have e : bt n k = decide (n / 2 ^ k % 2 = 1) := Nat.testBit_eq_decide_div_mod_eq
  rw [Nat.pow_succ, ← Nat.div_div_eq_div_mul, e]
  by_cases h : n / 2 ^ k % 2 = 1
  · rw [if_pos (decide_eq_true h)]; omega
  · rw [if_neg (by rw [decide_eq_false h]; exact Bool.false_ne_true)]; omega
end Go.Proofs.YtlpbfhbfaphicaaDoor.L01
end
section
namespace Go.Proofs.YtlpbfhbfaphicaaDoor.L01
open Go Go.Proofs.YtlpbfhbfaphicaaDoor.M
theorem num_bt (n : Nat) : ∀ (k p : Nat), num (bt n) p k = n / 2 ^ p % 2 ^ k
  | 0, p => by simp [num, Nat.mod_one]
  | k + 1, p => by
    rw [num, num_bt n k (p + 1)]
    have h := div_bit n p
    rw [h, show 2 ^ (k + 1) = 2 * 2 ^ k by rw [Nat.pow_succ, Nat.mul_comm], Nat.mod_mul]
    generalize n / 2 ^ (p + 1) = d
    by_cases hb : bt n p
    · rw [if_pos hb, show (2 * d + 1) / 2 = d by omega]; omega
    · rw [if_neg hb, show (2 * d + 0) / 2 = d by omega]; omega
def n3 (n : Nat) : N3 := ⟨((n % 2 ^ 64 : Nat) : Int), ((n / 2 ^ 64 % 2 ^ 64 : Nat) : Int), ((n / 2 ^ 128 % 2 ^ 64 : Nat) : Int)⟩
theorem n3_V (n : Nat) : (n3 n).V = ((n % 2 ^ 192 : Nat) : Int) := by
  unfold n3 N3.V
  dsimp only
  omega
theorem n3_ok (n : Nat) : (n3 n).ok := by
  unfold n3 N3.ok M.U
  dsimp only
  omega
theorem n_lt {a : N3} (ha : a.ok) : a.n < 2 ^ 192 := by
  obtain ⟨hx, hy, hz⟩ := ha
  unfold M.U at hx hy hz
  unfold N3.n N3.V
  omega
theorem n3_n {a : N3} (ha : a.ok) : n3 a.n = a := by
  obtain ⟨x, y, z⟩ := a
  obtain ⟨hx, hy, hz⟩ := ha
  unfold M.U at hx hy hz
  unfold N3.n N3.V n3
  dsimp only at *
  congr 1 <;> omega
theorem n3_mod (n : Nat) : n3 (n % 2 ^ 192) = n3 n := by
  unfold n3
  congr 1 <;> omega
end Go.Proofs.YtlpbfhbfaphicaaDoor.L01
end
section
namespace Go.Proofs.YtlpbfhbfaphicaaDoor.L01
open Go Go.RowKit Go.Proofs.YtlpbfhbfaphicaaDoorW.PrintWords Go.Proofs.YtlpbfhbfaphicaaDoorW.PrintLast Go.Proofs.YtlpbfhbfaphicaaDoorW.PrintMore Go.Proofs.YtlpbfhbfaphicaaDoor.Given Go.Proofs.YtlpbfhbfaphicaaDoor.M Go.Proofs.YtlpbfhbfaphicaaDoor.XB
set_option linter.unusedVariables false
attribute [-go_sem] loadVar storeVar
attribute [local go_sem] lv_u lv_i lv_b lv_3 lv_T sv_u sv_i sv_b sv_3 sv_T
end Go.Proofs.YtlpbfhbfaphicaaDoor.L01
end
section
namespace Go.Proofs.YtlpbfhbfaphicaaDoor.L01
open Go Go.RowKit Go.Proofs.YtlpbfhbfaphicaaDoorW.PrintWords Go.Proofs.YtlpbfhbfaphicaaDoorW.PrintLast Go.Proofs.YtlpbfhbfaphicaaDoorW.PrintMore Go.Proofs.YtlpbfhbfaphicaaDoor.Given Go.Proofs.YtlpbfhbfaphicaaDoor.M Go.Proofs.YtlpbfhbfaphicaaDoor.XB
set_option linter.unusedVariables false
attribute [-go_sem] loadVar storeVar
attribute [local go_sem] lv_u lv_i lv_b lv_3 lv_T sv_u sv_i sv_b sv_3 sv_T
set_option maxHeartbeats 1000000 in
set_option maxRecDepth 100000 in
theorem lbit_calls {a : N3} (ha : a.ok) (w : World) : Calls Tryd.prog 13 #[T3 a] w fun e w' => e = .returned (TB (bt a.n)) ∧ Below w.heap.size w w' := by
  have CB := Aside0.mk (bit_calls ha)
  clear ha
  have hz := zero_bits
  go_enter Tryd.func13, Tryd.ntmps13
  go_upto_region 1 with (fail)
  have HG : Aside0 (Below w.heap.size w ((w.alloc (Obj.cells (cs3 a) 24)).alloc (Obj.cells (bA none') 29))) := ⟨by repeat (first | exact Below.refl _ _ | apply below_alloc)⟩
  have HR : Aside0 (BoxB ((w.alloc (Obj.cells (cs3 a) 24)).alloc (Obj.cells (bA none') 29)) (w.heap.size + 1) none') := ⟨BoxB.new' (by simp only [World.size_alloc])⟩
  have Ba : Aside0 (Box3 ((w.alloc (Obj.cells (cs3 a) 24)).alloc (Obj.cells (bA none') 29)) w.heap.size a) := ⟨(Box3.new w a).alloc _⟩
  generalize ((w.alloc (Obj.cells #[.int .u64 a.x, .int .u64 a.y, .int .u64 a.z] 24)).alloc (Obj.cells (bA none') 29)) = W0 at HG HR Ba ⊢
  obtain ⟨⟨l0, l1, l2⟩, ⟨f0, f1, f2⟩, nl⟩ := Ba.out.facts
  clear hz
  go_wp2_with (go_at_call 36; (with_reducible refine (CB.out _).mono ?_); rintro e w2 ⟨rfl, hb⟩; have HE := Aside0.mk (below_row (c := bA (bt a.n)) (below_step HG.out hb) (Nat.le_succ w.heap.size)); have hs := sv_bits (f' := bt a.n) (HR.out.kept hb); have hl2 := lv_bits (BoxB.row (f' := bt a.n) (HR.out.kept hb)))
  exact bodyPost_ret (v := TB (bt a.n)) (by simp [results, Tryd.results13, go_sem, hl2]) rfl ⟨rfl, HE.out⟩
end Go.Proofs.YtlpbfhbfaphicaaDoor.L01
end
section
namespace Go.Proofs.YtlpbfhbfaphicaaDoor.L01
open Go Go.RowKit Go.Proofs.YtlpbfhbfaphicaaDoorW.PrintWords Go.Proofs.YtlpbfhbfaphicaaDoorW.PrintLast Go.Proofs.YtlpbfhbfaphicaaDoorW.PrintMore Go.Proofs.YtlpbfhbfaphicaaDoor.Given Go.Proofs.YtlpbfhbfaphicaaDoor.M Go.Proofs.YtlpbfhbfaphicaaDoor.XB
set_option linter.unusedVariables false
theorem whole_bt (n : Nat) : wholeN (bt n) = n3 n := by
  unfold wholeN n3
  rw [num_bt, num_bt, num_bt, Nat.pow_zero, Nat.div_one]
theorem whole_n (n : Nat) (w : World) : Calls Tryd.prog 21 #[TB (bt n)] w fun e w' => e = .returned (T3 (n3 n)) ∧ Below w.heap.size w w' := by
  rw [← whole_bt]
  exact whole_calls _ w
end Go.Proofs.YtlpbfhbfaphicaaDoor.L01
end
section
namespace Go.Proofs.YtlpbfhbfaphicaaDoor.L01
open Go Go.RowKit Go.Proofs.YtlpbfhbfaphicaaDoorW.PrintWords Go.Proofs.YtlpbfhbfaphicaaDoorW.PrintLast Go.Proofs.YtlpbfhbfaphicaaDoorW.PrintMore Go.Proofs.YtlpbfhbfaphicaaDoor.Given Go.Proofs.YtlpbfhbfaphicaaDoor.M Go.Proofs.YtlpbfhbfaphicaaDoor.XB
set_option linter.unusedVariables false
abbrev sl (x R : Int) : Int := IntKind.u64.wrap (x * 2 ^ R.toNat)
abbrev so (x y R : Int) : Int := bits BinOp.or IntKind.u64 (IntKind.u64.wrap (x * 2 ^ R.toNat)) (y / 2 ^ (64 - R).toNat)
set_option maxHeartbeats 2000000 in
set_option maxRecDepth 100000 in
theorem left_0 {a : N3} {n : Int} {r : Nat} (ha : a.ok) (hr : r < 64) (hk : min (max n 0) 192 = (0 + r : Int)) (w : World) : Calls Tryd.prog 19 #[T3 a, .int .i64 n] w fun e w' => e = .returned (T3 ⟨sl a.x ((r : Nat) : Int), so a.y a.x ((r : Nat) : Int), so a.z a.y ((r : Nat) : Int)⟩) ∧ Below w.heap.size w w' := by
  obtain ⟨k, hk0⟩ : ∃ k : Int, (0 + r : Int) = k := ⟨_, rfl⟩
  obtain ⟨R, hR⟩ : ∃ k : Int, (r : Int) = k := ⟨_, rfl⟩
  rw [hk0] at hk
  try rw [hR]
  have q1 : Int.tdiv k 64 = 0 := by rw [Int.tdiv_eq_ediv_of_nonneg (by omega)]; omega
  have q2 : Int.tmod k 64 = R := by rw [tmod_pos (by omega)]; omega
  have q3 : IntKind.i64.wrap R = R := by rw [i64_w]; unfold wrap64; omega
  have q4 : IntKind.u64.wrap R = R := by rw [wu64]; omega
  have q5 : (0 : Int) ≤ R := by omega
  have q6 : R ≤ 64 := by omega
  have q7 : IntKind.u64.wrap (64 - R) = 64 - R := by rw [wu64]; omega
  have q8 : (0 : Int) ≤ 64 - R := by omega
  have q9 : 64 - R ≤ 64 := by omega
  go_enter Tryd.func19, Tryd.ntmps19
  go_upto_region 5 with (fail)
  refine wp_loop_rounds 4 ?_
  rw [rounds_succ]
  go_wp2
  rw [rounds_succ]
  go_wp2
  go_region
  go_wp2
  rw [rounds_succ]
  go_wp2
  go_region
  go_wp2
  rw [rounds_succ]
  go_wp2
  exact bodyPost_ret (v := T3 ⟨sl a.x (R), so a.y a.x (R), so a.z a.y (R)⟩) (by simp [results, Tryd.results19, go_sem]) rfl ⟨rfl, by repeat (first | exact Below.refl _ _ | apply below_alloc | apply below_drew1)⟩
set_option maxHeartbeats 2000000 in
set_option maxRecDepth 100000 in
theorem left_1 {a : N3} {n : Int} {r : Nat} (ha : a.ok) (hr : r < 64) (hk : min (max n 0) 192 = (64 + r : Int)) (w : World) : Calls Tryd.prog 19 #[T3 a, .int .i64 n] w fun e w' => e = .returned (T3 ⟨0, sl a.x ((r : Nat) : Int), so a.y a.x ((r : Nat) : Int)⟩) ∧ Below w.heap.size w w' := by
  obtain ⟨k, hk0⟩ : ∃ k : Int, (64 + r : Int) = k := ⟨_, rfl⟩
  obtain ⟨R, hR⟩ : ∃ k : Int, (r : Int) = k := ⟨_, rfl⟩
  rw [hk0] at hk
  try rw [hR]
  have q1 : Int.tdiv k 64 = 1 := by rw [Int.tdiv_eq_ediv_of_nonneg (by omega)]; omega
  have q2 : Int.tmod k 64 = R := by rw [tmod_pos (by omega)]; omega
  have q3 : IntKind.i64.wrap R = R := by rw [i64_w]; unfold wrap64; omega
  have q4 : IntKind.u64.wrap R = R := by rw [wu64]; omega
  have q5 : (0 : Int) ≤ R := by omega
  have q6 : R ≤ 64 := by omega
  have q7 : IntKind.u64.wrap (64 - R) = 64 - R := by rw [wu64]; omega
  have q8 : (0 : Int) ≤ 64 - R := by omega
  have q9 : 64 - R ≤ 64 := by omega
  go_enter Tryd.func19, Tryd.ntmps19
  go_upto_region 5 with (fail)
  refine wp_loop_rounds 4 ?_
  rw [rounds_succ]
  go_wp2
  rw [rounds_succ]
  go_wp2
  go_region
  go_wp2
  rw [rounds_succ]
  go_wp2
  exact bodyPost_ret (v := T3 ⟨0, sl a.x (R), so a.y a.x (R)⟩) (by simp [results, Tryd.results19, go_sem]) rfl ⟨rfl, by repeat (first | exact Below.refl _ _ | apply below_alloc | apply below_drew1)⟩
set_option maxHeartbeats 2000000 in
set_option maxRecDepth 100000 in
theorem left_2 {a : N3} {n : Int} {r : Nat} (ha : a.ok) (hr : r < 64) (hk : min (max n 0) 192 = (128 + r : Int)) (w : World) : Calls Tryd.prog 19 #[T3 a, .int .i64 n] w fun e w' => e = .returned (T3 ⟨0, 0, sl a.x ((r : Nat) : Int)⟩) ∧ Below w.heap.size w w' := by
  obtain ⟨k, hk0⟩ : ∃ k : Int, (128 + r : Int) = k := ⟨_, rfl⟩
  obtain ⟨R, hR⟩ : ∃ k : Int, (r : Int) = k := ⟨_, rfl⟩
  rw [hk0] at hk
  try rw [hR]
  have q1 : Int.tdiv k 64 = 2 := by rw [Int.tdiv_eq_ediv_of_nonneg (by omega)]; omega
  have q2 : Int.tmod k 64 = R := by rw [tmod_pos (by omega)]; omega
  have q3 : IntKind.i64.wrap R = R := by rw [i64_w]; unfold wrap64; omega
  have q4 : IntKind.u64.wrap R = R := by rw [wu64]; omega
  have q5 : (0 : Int) ≤ R := by omega
  have q6 : R ≤ 64 := by omega
  have q7 : IntKind.u64.wrap (64 - R) = 64 - R := by rw [wu64]; omega
  have q8 : (0 : Int) ≤ 64 - R := by omega
  have q9 : 64 - R ≤ 64 := by omega
  go_enter Tryd.func19, Tryd.ntmps19
  go_upto_region 5 with (fail)
  refine wp_loop_rounds 4 ?_
  rw [rounds_succ]
  go_wp2
  rw [rounds_succ]
  go_wp2
  exact bodyPost_ret (v := T3 ⟨0, 0, sl a.x (R)⟩) (by simp [results, Tryd.results19, go_sem]) rfl ⟨rfl, by repeat (first | exact Below.refl _ _ | apply below_alloc | apply below_drew1)⟩
set_option maxHeartbeats 2000000 in
set_option maxRecDepth 100000 in
theorem left_3 {a : N3} {n : Int} {r : Nat} (ha : a.ok) (hr : r < 64) (hk : min (max n 0) 192 = (192 + r : Int)) (w : World) : Calls Tryd.prog 19 #[T3 a, .int .i64 n] w fun e w' => e = .returned (T3 ⟨0, 0, 0⟩) ∧ Below w.heap.size w w' := by
  obtain ⟨k, hk0⟩ : ∃ k : Int, (192 + r : Int) = k := ⟨_, rfl⟩
  obtain ⟨R, hR⟩ : ∃ k : Int, (r : Int) = k := ⟨_, rfl⟩
  rw [hk0] at hk
  try rw [hR]
  have q1 : Int.tdiv k 64 = 3 := by rw [Int.tdiv_eq_ediv_of_nonneg (by omega)]; omega
  have q2 : Int.tmod k 64 = R := by rw [tmod_pos (by omega)]; omega
  have q3 : IntKind.i64.wrap R = R := by rw [i64_w]; unfold wrap64; omega
  have q4 : IntKind.u64.wrap R = R := by rw [wu64]; omega
  have q5 : (0 : Int) ≤ R := by omega
  have q6 : R ≤ 64 := by omega
  have q7 : IntKind.u64.wrap (64 - R) = 64 - R := by rw [wu64]; omega
  have q8 : (0 : Int) ≤ 64 - R := by omega
  have q9 : 64 - R ≤ 64 := by omega
  go_enter Tryd.func19, Tryd.ntmps19
  go_upto_region 5 with (fail)
  refine wp_loop_rounds 4 ?_
  rw [rounds_succ]
  go_wp2
  exact bodyPost_ret (v := T3 ⟨0, 0, 0⟩) (by simp [results, Tryd.results19, go_sem]) rfl ⟨rfl, by repeat (first | exact Below.refl _ _ | apply below_alloc | apply below_drew1)⟩
end Go.Proofs.YtlpbfhbfaphicaaDoor.L01
end
section
namespace Go.Proofs.YtlpbfhbfaphicaaDoor.L01
open Go Go.RowKit Go.Proofs.YtlpbfhbfaphicaaDoorW.PrintWords Go.Proofs.YtlpbfhbfaphicaaDoorW.PrintLast Go.Proofs.YtlpbfhbfaphicaaDoorW.PrintMore Go.Proofs.YtlpbfhbfaphicaaDoor.Given Go.Proofs.YtlpbfhbfaphicaaDoor.M Go.Proofs.YtlpbfhbfaphicaaDoor.XB
set_option linter.unusedVariables false
abbrev sr (x R : Int) : Int := x / 2 ^ R.toNat
abbrev ro (x y R : Int) : Int := bits BinOp.or IntKind.u64 (x / 2 ^ R.toNat) (IntKind.u64.wrap (y * 2 ^ (64 - R).toNat))
set_option maxHeartbeats 2000000 in
set_option maxRecDepth 100000 in
theorem right_0 {a : N3} {n : Int} {r : Nat} (ha : a.ok) (hr : r < 64) (hk : min (max n 0) 192 = (0 + r : Int)) (w : World) : Calls Tryd.prog 20 #[T3 a, .int .i64 n] w fun e w' => e = .returned (T3 ⟨ro a.x a.y ((r : Nat) : Int), ro a.y a.z ((r : Nat) : Int), sr a.z ((r : Nat) : Int)⟩) ∧ Below w.heap.size w w' := by
  obtain ⟨k, hk0⟩ : ∃ k : Int, (0 + r : Int) = k := ⟨_, rfl⟩
  obtain ⟨R, hR⟩ : ∃ k : Int, (r : Int) = k := ⟨_, rfl⟩
  rw [hk0] at hk
  try rw [hR]
  have q1 : Int.tdiv k 64 = 0 := by rw [Int.tdiv_eq_ediv_of_nonneg (by omega)]; omega
  have q2 : Int.tmod k 64 = R := by rw [tmod_pos (by omega)]; omega
  have q3 : IntKind.i64.wrap R = R := by rw [i64_w]; unfold wrap64; omega
  have q4 : IntKind.u64.wrap R = R := by rw [wu64]; omega
  have q5 : (0 : Int) ≤ R := by omega
  have q6 : R ≤ 64 := by omega
  have q7 : IntKind.u64.wrap (64 - R) = 64 - R := by rw [wu64]; omega
  have q8 : (0 : Int) ≤ 64 - R := by omega
  have q9 : 64 - R ≤ 64 := by omega
  go_enter Tryd.func20, Tryd.ntmps20
  go_upto_region 5 with (fail)
  refine wp_loop_rounds 4 ?_
  rw [rounds_succ]
  go_wp2
  go_region
  go_wp2
  rw [rounds_succ]
  go_wp2
  go_region
  go_wp2
  rw [rounds_succ]
  go_wp2
  rw [rounds_succ]
  go_wp2
  exact bodyPost_ret (v := T3 ⟨ro a.x a.y (R), ro a.y a.z (R), sr a.z (R)⟩) (by simp [results, Tryd.results20, go_sem]) rfl ⟨rfl, by repeat (first | exact Below.refl _ _ | apply below_alloc | apply below_drew1)⟩
set_option maxHeartbeats 2000000 in
set_option maxRecDepth 100000 in
theorem right_1 {a : N3} {n : Int} {r : Nat} (ha : a.ok) (hr : r < 64) (hk : min (max n 0) 192 = (64 + r : Int)) (w : World) : Calls Tryd.prog 20 #[T3 a, .int .i64 n] w fun e w' => e = .returned (T3 ⟨ro a.y a.z ((r : Nat) : Int), sr a.z ((r : Nat) : Int), 0⟩) ∧ Below w.heap.size w w' := by
  obtain ⟨k, hk0⟩ : ∃ k : Int, (64 + r : Int) = k := ⟨_, rfl⟩
  obtain ⟨R, hR⟩ : ∃ k : Int, (r : Int) = k := ⟨_, rfl⟩
  rw [hk0] at hk
  try rw [hR]
  have q1 : Int.tdiv k 64 = 1 := by rw [Int.tdiv_eq_ediv_of_nonneg (by omega)]; omega
  have q2 : Int.tmod k 64 = R := by rw [tmod_pos (by omega)]; omega
  have q3 : IntKind.i64.wrap R = R := by rw [i64_w]; unfold wrap64; omega
  have q4 : IntKind.u64.wrap R = R := by rw [wu64]; omega
  have q5 : (0 : Int) ≤ R := by omega
  have q6 : R ≤ 64 := by omega
  have q7 : IntKind.u64.wrap (64 - R) = 64 - R := by rw [wu64]; omega
  have q8 : (0 : Int) ≤ 64 - R := by omega
  have q9 : 64 - R ≤ 64 := by omega
  go_enter Tryd.func20, Tryd.ntmps20
  go_upto_region 5 with (fail)
  refine wp_loop_rounds 4 ?_
  rw [rounds_succ]
  go_wp2
  go_region
  go_wp2
  rw [rounds_succ]
  go_wp2
  rw [rounds_succ]
  go_wp2
  exact bodyPost_ret (v := T3 ⟨ro a.y a.z (R), sr a.z (R), 0⟩) (by simp [results, Tryd.results20, go_sem]) rfl ⟨rfl, by repeat (first | exact Below.refl _ _ | apply below_alloc | apply below_drew1)⟩
set_option maxHeartbeats 2000000 in
set_option maxRecDepth 100000 in
theorem right_2 {a : N3} {n : Int} {r : Nat} (ha : a.ok) (hr : r < 64) (hk : min (max n 0) 192 = (128 + r : Int)) (w : World) : Calls Tryd.prog 20 #[T3 a, .int .i64 n] w fun e w' => e = .returned (T3 ⟨sr a.z ((r : Nat) : Int), 0, 0⟩) ∧ Below w.heap.size w w' := by
  obtain ⟨k, hk0⟩ : ∃ k : Int, (128 + r : Int) = k := ⟨_, rfl⟩
  obtain ⟨R, hR⟩ : ∃ k : Int, (r : Int) = k := ⟨_, rfl⟩
  rw [hk0] at hk
  try rw [hR]
  have q1 : Int.tdiv k 64 = 2 := by rw [Int.tdiv_eq_ediv_of_nonneg (by omega)]; omega
  have q2 : Int.tmod k 64 = R := by rw [tmod_pos (by omega)]; omega
  have q3 : IntKind.i64.wrap R = R := by rw [i64_w]; unfold wrap64; omega
  have q4 : IntKind.u64.wrap R = R := by rw [wu64]; omega
  have q5 : (0 : Int) ≤ R := by omega
  have q6 : R ≤ 64 := by omega
  have q7 : IntKind.u64.wrap (64 - R) = 64 - R := by rw [wu64]; omega
  have q8 : (0 : Int) ≤ 64 - R := by omega
  have q9 : 64 - R ≤ 64 := by omega
  go_enter Tryd.func20, Tryd.ntmps20
  go_upto_region 5 with (fail)
  refine wp_loop_rounds 4 ?_
  rw [rounds_succ]
  go_wp2
  rw [rounds_succ]
  go_wp2
  exact bodyPost_ret (v := T3 ⟨sr a.z (R), 0, 0⟩) (by simp [results, Tryd.results20, go_sem]) rfl ⟨rfl, by repeat (first | exact Below.refl _ _ | apply below_alloc | apply below_drew1)⟩
set_option maxHeartbeats 2000000 in
set_option maxRecDepth 100000 in
theorem right_3 {a : N3} {n : Int} {r : Nat} (ha : a.ok) (hr : r < 64) (hk : min (max n 0) 192 = (192 + r : Int)) (w : World) : Calls Tryd.prog 20 #[T3 a, .int .i64 n] w fun e w' => e = .returned (T3 ⟨0, 0, 0⟩) ∧ Below w.heap.size w w' := by
  obtain ⟨k, hk0⟩ : ∃ k : Int, (192 + r : Int) = k := ⟨_, rfl⟩
  obtain ⟨R, hR⟩ : ∃ k : Int, (r : Int) = k := ⟨_, rfl⟩
  rw [hk0] at hk
  try rw [hR]
  have q1 : Int.tdiv k 64 = 3 := by rw [Int.tdiv_eq_ediv_of_nonneg (by omega)]; omega
  have q2 : Int.tmod k 64 = R := by rw [tmod_pos (by omega)]; omega
  have q3 : IntKind.i64.wrap R = R := by rw [i64_w]; unfold wrap64; omega
  have q4 : IntKind.u64.wrap R = R := by rw [wu64]; omega
  have q5 : (0 : Int) ≤ R := by omega
  have q6 : R ≤ 64 := by omega
  have q7 : IntKind.u64.wrap (64 - R) = 64 - R := by rw [wu64]; omega
  have q8 : (0 : Int) ≤ 64 - R := by omega
  have q9 : 64 - R ≤ 64 := by omega
  go_enter Tryd.func20, Tryd.ntmps20
  go_upto_region 5 with (fail)
  refine wp_loop_rounds 4 ?_
  rw [rounds_succ]
  go_wp2
  exact bodyPost_ret (v := T3 ⟨0, 0, 0⟩) (by simp [results, Tryd.results20, go_sem]) rfl ⟨rfl, by repeat (first | exact Below.refl _ _ | apply below_alloc | apply below_drew1)⟩
end Go.Proofs.YtlpbfhbfaphicaaDoor.L01
end
section
namespace Go.Proofs.YtlpbfhbfaphicaaDoor.L01
open Go Go.RowKit Go.Proofs.YtlpbfhbfaphicaaDoorW.PrintWords Go.Proofs.YtlpbfhbfaphicaaDoorW.PrintLast Go.Proofs.YtlpbfhbfaphicaaDoorW.PrintMore Go.Proofs.YtlpbfhbfaphicaaDoor.Given Go.Proofs.YtlpbfhbfaphicaaDoor.M Go.Proofs.YtlpbfhbfaphicaaDoor.XB
set_option linter.unusedVariables false
attribute [-go_sem] loadVar storeVar
attribute [local go_sem] lv_u lv_i lv_b lv_3 lv_T sv_u sv_i sv_b sv_3 sv_T
def mvB (f : Nat → Bool) (n : Int) (m : Nat) : Nat → Bool := fun j => decide (j < m) && (decide (0 ≤ (j : Int) - n) && decide ((j : Int) - n < m) && f ((j : Int) - n).toNat)
theorem upto_false {f : Nat → Bool} {k : Nat} (h : f k = false) : upto (k + 1) f = upto k f := by
  funext j
  unfold upto
  by_cases e : j = k
  · subst e; simp [h]
  · congr 1
    exact decide_eq_decide.2 (by omega)
theorem upto_mv (f : Nat → Bool) (n : Int) (m : Nat) : upto m (mvB f n m) = mvB f n m := by
  funext j
  unfold upto mvB
  by_cases h : j < m
  · simp [h]
  · simp [h]
set_option maxHeartbeats 1000000 in
set_option maxRecDepth 100000 in
theorem moved_calls (f : Nat → Bool) {n : Int} {m : Nat} (hn : -256 ≤ n ∧ n ≤ 256) (hm : m ≤ 256) (w : World) : Calls Tryd.prog 22 #[TB f, .int .i64 n, .int .i64 (m : Int)] w fun e w' => e = .returned (TB (mvB f n m)) ∧ Below w.heap.size w w' := by
  have HN := Aside0.mk (And.intro hn hm)
  clear hn hm
  have hz := zero_bits
  go_enter Tryd.func22, Tryd.ntmps22
  go_upto_region 2 with (fail)
  have HG0 : Aside0 (Below w.heap.size w (((w.alloc (Obj.cells (bA f) 29)).alloc (Obj.cells (bA none') 29)).alloc (Obj.cells (bA none') 29))) := ⟨by repeat (first | exact Below.refl _ _ | apply below_alloc)⟩
  have HF0 : Aside0 (BoxB (((w.alloc (Obj.cells (bA f) 29)).alloc (Obj.cells (bA none') 29)).alloc (Obj.cells (bA none') 29)) w.heap.size f) := ⟨((BoxB.new w _).alloc _).alloc _⟩
  have HR0 : Aside0 (BoxB (((w.alloc (Obj.cells (bA f) 29)).alloc (Obj.cells (bA none') 29)).alloc (Obj.cells (bA none') 29)) (w.heap.size + 1) none') := ⟨(BoxB.new' (by simp only [World.size_alloc])).alloc _⟩
  have HO0 : Aside0 (BoxB (((w.alloc (Obj.cells (bA f) 29)).alloc (Obj.cells (bA none') 29)).alloc (Obj.cells (bA none') 29)) (w.heap.size + 1 + 1) none') := ⟨BoxB.new' (by simp only [World.size_alloc])⟩
  generalize (((w.alloc (Obj.cells (bA f) 29)).alloc (Obj.cells (bA none') 29)).alloc (Obj.cells (bA none') 29)) = W0 at HG0 HF0 HR0 HO0 ⊢
  clear hz
  go_upto_region 3 with (fail)
  obtain ⟨M, hM⟩ : ∃ M : Int, (m : Int) = M := ⟨_, rfl⟩
  have HM := Aside0.mk hM
  rw [hM]
  clear hM
  go_loopg [8] (m + 1) (fun kq v8 w' => ∃ (k : Nat) (i : Int), v8 = .int .i64 i ∧ Aside0 (k ≤ m ∧ k + kq = m + 1 ∧ i = (k : Int)) ∧ Aside0 (Below w.heap.size w w') ∧ Aside0 (BoxB w' w.heap.size f) ∧ Aside0 (BoxB w' (w.heap.size + 1) none') ∧ Aside0 (BoxB w' (w.heap.size + 1 + 1) (upto k (mvB f n m))))
  case atStart => exact ⟨0, 0, rfl, ⟨by omega, by omega, rfl⟩, HG0, HF0, HR0, by rw [upto_zero]; exact HO0⟩
  case round =>
    clear HG0 HF0 HR0 HO0
    obtain ⟨k, i, rfl, HI, HG, HF, HR, HO⟩ := hrel
    cases gk with
    | zero => exact absurd HI.out (by omega)
    | succ k1 =>
      obtain ⟨hk, hk1, hi⟩ := HI.out
      obtain ⟨hn, hm⟩ := HN.out
      have hM := HM.out
      by_cases c1 : k < m
      · have cb : decide (i < M) = true := decide_eq_true (by omega)
        have HJ : Aside0 (k + 1 ≤ m ∧ k + 1 + k1 = m + 1) := ⟨by omega⟩
        obtain ⟨i2, hi2⟩ : ∃ j : Int, i + 1 = j := ⟨_, rfl⟩
        have ws : IntKind.i64.wrap (i + 1) = i2 := by rw [i64_w]; unfold wrap64; omega
        have HI2 : Aside0 (i2 = ((k + 1 : Nat) : Int)) := ⟨by omega⟩
        obtain ⟨d, hd⟩ : ∃ d : Int, i - n = d := ⟨_, rfl⟩
        have wd : IntKind.i64.wrap (i - n) = d := by rw [i64_w]; unfold wrap64; omega
        have hmv : mvB f n m k = (decide (0 ≤ d) && decide (d < M) && f d.toNat) := by
          unfold mvB
          rw [decide_eq_true c1, Bool.true_and, ← hi, hd, hM]
        by_cases d1 : 0 ≤ d
        · have d1b : decide ((0 : Int) ≤ d) = true := decide_eq_true d1
          by_cases d2 : d < M
          · have d2b : decide (d < M) = true := decide_eq_true d2
            have c2 : k < 256 := by omega
            have c3 : d.toNat < 256 := by omega
            have p0 : (0 : Int) ≤ d := d1
            have p1 : d < 256 := by omega
            have p3 : (0 : Int) ≤ i := by omega
            have p4 : i < 256 := by omega
            have tn : i.toNat = k := by omega
            obtain ⟨q, hq⟩ : ∃ q, d.toNat = q := ⟨_, rfl⟩
            rw [hq] at c3
            obtain ⟨hcf, hff⟩ := HF.out.cell c3
            obtain ⟨hco, hfo⟩ := HO.out.cell c2
            rw [d1b, d2b, hq] at hmv
            obtain ⟨b, hb⟩ : ∃ b, f q = b := ⟨_, rfl⟩
            rw [hb] at hcf hmv
            have HON := BoxB.set (x := b) HO.out c2
            have hpu := put_upto k (mvB f n m)
            rw [hmv] at hpu
            rw [show (true && true && b) = b from by cases b <;> rfl] at hpu
            rw [hpu] at HON
            have HON2 := Aside0.mk HON
            clear hk hk1 hi hb hi2 c1 c2 c3 HON hpu hmv hn hm hM hd d1 d2
            go_wp2
            go_roundg k1
            case measure => exact Nat.lt_succ_self _
            case rel => exact ⟨k + 1, i2, rfl, ⟨HJ.out.1, HJ.out.2, HI2.out⟩, ⟨below_set HG.out (by omega)⟩, ⟨HF.out.far (g' := w.heap.size + 1 + 1) (p := k) (u := .bool b) (by omega)⟩, ⟨HR.out.far (g' := w.heap.size + 1 + 1) (p := k) (u := .bool b) (by omega)⟩, HON2⟩
          · have d2b : decide (d < M) = false := decide_eq_false d2
            rw [d1b, d2b] at hmv
            have HON2 : Aside0 (BoxB wr (w.heap.size + 1 + 1) (upto (k + 1) (mvB f n m))) := ⟨by rw [upto_false (by rw [hmv]; rfl)]; exact HO.out⟩
            clear hk hk1 hi hi2 c1 hmv hn hm hM hd d1 d2
            go_wp2
            go_roundg k1
            case measure => exact Nat.lt_succ_self _
            case rel => exact ⟨k + 1, i2, rfl, ⟨HJ.out.1, HJ.out.2, HI2.out⟩, HG, HF, HR, HON2⟩
        · have d1b : decide ((0 : Int) ≤ d) = false := decide_eq_false d1
          rw [d1b] at hmv
          have HON2 : Aside0 (BoxB wr (w.heap.size + 1 + 1) (upto (k + 1) (mvB f n m))) := ⟨by rw [upto_false (by rw [hmv]; rfl)]; exact HO.out⟩
          clear hk hk1 hi hi2 c1 hmv hn hm hM hd d1
          go_wp2
          go_roundg k1
          case measure => exact Nat.lt_succ_self _
          case rel => exact ⟨k + 1, i2, rfl, ⟨HJ.out.1, HJ.out.2, HI2.out⟩, HG, HF, HR, HON2⟩
      · have cb : decide (i < M) = false := decide_eq_false (by omega)
        obtain rfl : k = m := by omega
        have hO2 : BoxB wr (w.heap.size + 1 + 1) (mvB f n k) := by
          have hO := HO.out
          rw [upto_mv] at hO
          exact hO
        have hl := lv_bits hO2
        have hs := sv_bits (f' := mvB f n k) HR.out
        have hl2 := lv_bits (BoxB.row (f' := mvB f n k) HR.out)
        have HE := Aside0.mk (below_row (c := bA (mvB f n k)) HG.out (show w.heap.size ≤ w.heap.size + 1 by omega))
        clear hO2 c1 hk hk1 hi hn hm hM
        go_wp2
        exact bodyPost_ret (v := TB (mvB f n k)) (by simp [results, Tryd.results22, go_sem, hl2]) rfl ⟨rfl, HE.out⟩
end Go.Proofs.YtlpbfhbfaphicaaDoor.L01
end
