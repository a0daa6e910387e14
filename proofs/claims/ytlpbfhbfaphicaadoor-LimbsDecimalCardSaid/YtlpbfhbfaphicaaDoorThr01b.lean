/- Layer 1: Scale, Times, Of, Int, walked. -/
import Derived.Test.YtlpbfhbfaphicaaDoorEq01
import Derived.Deep.RegionWith
namespace Go.Proofs.YtlpbfhbfaphicaaDoor.L01
open Go Go.RowKit Go.Proofs.YtlpbfhbfaphicaaDoorW.PrintWords Go.Proofs.YtlpbfhbfaphicaaDoorW.PrintLast Go.Proofs.YtlpbfhbfaphicaaDoorW.PrintMore Go.Proofs.YtlpbfhbfaphicaaDoor.Given Go.Proofs.YtlpbfhbfaphicaaDoor.M Go.Proofs.YtlpbfhbfaphicaaDoor.XB

theorem idx0 (x y z : Int) (W : World) : Sem.run Tryd.prog (Instr.index 24 (.agg #[.int .u64 x, .int .u64 y, .int .u64 z]) (.int .i64 0)) W = .ok (.int .u64 x) W := by first | rfl | kernel_rfl | (go_simp; done) | (go_simp; rfl)
theorem idx1 (x y z : Int) (W : World) : Sem.run Tryd.prog (Instr.index 24 (.agg #[.int .u64 x, .int .u64 y, .int .u64 z]) (.int .i64 1)) W = .ok (.int .u64 y) W := by first | rfl | kernel_rfl | (go_simp; done) | (go_simp; rfl)
theorem idx2 (x y z : Int) (W : World) : Sem.run Tryd.prog (Instr.index 24 (.agg #[.int .u64 x, .int .u64 y, .int .u64 z]) (.int .i64 2)) W = .ok (.int .u64 z) W := by first | rfl | kernel_rfl | (go_simp; done) | (go_simp; rfl)
theorem mul_calls {x y hi lo : Int} (hx : M.U x) (hy : M.U y) (hh : hi = x * y / 18446744073709551616) (hl : lo = x * y % 18446744073709551616) (w : World) :
    Calls Tryd.prog 39 #[.int .u64 x, .int .u64 y] w fun e w' => e = .returned (.tuple #[.int .u64 hi, .int .u64 lo]) ∧ w' = w := by
  unfold M.U at hx hy
  obtain ⟨X, rfl⟩ := Int.eq_ofNat_of_zero_le hx.1
  obtain ⟨Y, rfl⟩ := Int.eq_ofNat_of_zero_le hy.1
  refine (Tryd.bits_Mul64 X Y (by omega) (by omega) w).mono ?_
  rintro e w' ⟨rfl, rfl⟩
  refine ⟨?_, rfl⟩
  rw [hh, hl, Int.natCast_ediv, Int.natCast_emod, Int.natCast_mul]
  rfl
theorem mul_hi {x y : Int} (hx : M.U x) (hy : M.U y) : 0 ≤ x * y / 18446744073709551616 ∧ x * y / 18446744073709551616 ≤ 18446744073709551614 := by
  unfold M.U at hx hy
  have h1 : 0 ≤ x * y := Int.mul_nonneg hx.1 hy.1
  have h2 : x * y ≤ 18446744073709551615 * 18446744073709551615 := Int.mul_le_mul (by omega) (by omega) hy.1 (by decide)
  omega
set_option maxHeartbeats 4000000 in
set_option maxRecDepth 100000 in
theorem scale_calls {a : N3} {k : Int} (ha : a.ok) (hk : M.U k) (w : World) :
    Calls Tryd.prog 23 #[T3 a, .int .u64 k] w fun e w' => ∃ (s : N3) (c : Int), e = .returned (.tuple #[T3 s, .int .u64 c]) ∧ Below w.heap.size w w' ∧ s.ok ∧ M.U c ∧ s.V + 6277101735386680763835789423207666416102355444464034512896 * c = a.x * k + 18446744073709551616 * (a.y * k) + 340282366920938463463374607431768211456 * (a.z * k) := by
  obtain ⟨a0, a1, a2⟩ := a
  obtain ⟨ha0, ha1, ha2⟩ := ha
  dsimp only at *
  have m0 := mul_hi ha0 hk
  have m1 := mul_hi ha1 hk
  have m2 := mul_hi ha2 hk
  obtain ⟨h0, hh0⟩ : ∃ z, z = a0 * k / 18446744073709551616 := ⟨_, rfl⟩
  obtain ⟨l0, hl0⟩ : ∃ z, z = a0 * k % 18446744073709551616 := ⟨_, rfl⟩
  obtain ⟨h1, hh1⟩ : ∃ z, z = a1 * k / 18446744073709551616 := ⟨_, rfl⟩
  obtain ⟨l1, hl1⟩ : ∃ z, z = a1 * k % 18446744073709551616 := ⟨_, rfl⟩
  obtain ⟨h2, hh2⟩ : ∃ z, z = a2 * k / 18446744073709551616 := ⟨_, rfl⟩
  obtain ⟨l2, hl2⟩ : ∃ z, z = a2 * k % 18446744073709551616 := ⟨_, rfl⟩
  have M0 := fun w => mul_calls ha0 hk hh0 hl0 w
  have M1 := fun w => mul_calls ha1 hk hh1 hl1 w
  have M2 := fun w => mul_calls ha2 hk hh2 hl2 w
  have e0 : 18446744073709551616 * h0 + l0 = a0 * k := by rw [hh0, hl0]; exact Int.mul_ediv_add_emod _ _
  have e1 : 18446744073709551616 * h1 + l1 = a1 * k := by rw [hh1, hl1]; exact Int.mul_ediv_add_emod _ _
  have e2 : 18446744073709551616 * h2 + l2 = a2 * k := by rw [hh2, hl2]; exact Int.mul_ediv_add_emod _ _
  rw [← hh0] at m0
  rw [← hh1] at m1
  rw [← hh2] at m2
  have u0 : M.U l0 := by rw [hl0]; exact U_mod _
  have u1 : M.U l1 := by rw [hl1]; exact U_mod _
  have u2 : M.U l2 := by rw [hl2]; exact U_mod _
  clear hh0 hl0 hh1 hl1 hh2 hl2
  generalize hp0 : a0 * k = p0 at e0 ⊢
  generalize hp1 : a1 * k = p1 at e1 ⊢
  generalize hp2 : a2 * k = p2 at e2 ⊢
  have uz : M.U 0 := by unfold M.U; decide
  obtain ⟨s0, hs0⟩ : ∃ z, z = (l0 + 0 + 0) % 18446744073709551616 := ⟨_, rfl⟩
  obtain ⟨b0, hb0⟩ : ∃ z, z = (l0 + 0 + 0) / 18446744073709551616 := ⟨_, rfl⟩
  have X0 := add_run u0 uz (by decide) (by decide) hs0 hb0
  obtain ⟨c0, hc0⟩ : ∃ z, IntKind.u64.wrap (h0 + b0) = z := ⟨_, rfl⟩
  have hb0b : 0 ≤ b0 ∧ b0 ≤ 1 := by rw [hb0]; exact C_div u0 uz (by decide) (by decide)
  have hc0e : c0 = h0 + b0 := by rw [← hc0]; exact wu64_id _ (by omega) (by omega)
  have uc0 : M.U c0 := by unfold M.U; omega
  obtain ⟨s1, hs1⟩ : ∃ z, z = (l1 + c0 + 0) % 18446744073709551616 := ⟨_, rfl⟩
  obtain ⟨b1, hb1⟩ : ∃ z, z = (l1 + c0 + 0) / 18446744073709551616 := ⟨_, rfl⟩
  have X1 := add_run u1 uc0 (by decide) (by decide) hs1 hb1
  obtain ⟨c1, hc1⟩ : ∃ z, IntKind.u64.wrap (h1 + b1) = z := ⟨_, rfl⟩
  have hb1b : 0 ≤ b1 ∧ b1 ≤ 1 := by rw [hb1]; exact C_div u1 uc0 (by decide) (by decide)
  have hc1e : c1 = h1 + b1 := by rw [← hc1]; exact wu64_id _ (by omega) (by omega)
  have uc1 : M.U c1 := by unfold M.U; omega
  obtain ⟨s2, hs2⟩ : ∃ z, z = (l2 + c1 + 0) % 18446744073709551616 := ⟨_, rfl⟩
  obtain ⟨b2, hb2⟩ : ∃ z, z = (l2 + c1 + 0) / 18446744073709551616 := ⟨_, rfl⟩
  have X2 := add_run u2 uc1 (by decide) (by decide) hs2 hb2
  obtain ⟨c2, hc2⟩ : ∃ z, IntKind.u64.wrap (h2 + b2) = z := ⟨_, rfl⟩
  have hb2b : 0 ≤ b2 ∧ b2 ≤ 1 := by rw [hb2]; exact C_div u2 uc1 (by decide) (by decide)
  have hc2e : c2 = h2 + b2 := by rw [← hc2]; exact wu64_id _ (by omega) (by omega)
  have uc2 : M.U c2 := by unfold M.U; omega
  have HF : Aside0 ((⟨s0, s1, s2⟩ : N3).ok ∧ M.U c2 ∧ (⟨s0, s1, s2⟩ : N3).V + 6277101735386680763835789423207666416102355444464034512896 * c2 = p0 + 18446744073709551616 * p1 + 340282366920938463463374607431768211456 * p2) :=
    ⟨⟨by rw [hs0]; exact U_mod _, by rw [hs1]; exact U_mod _, by rw [hs2]; exact U_mod _⟩, uc2, by clear X0 X1 X2 M0 M1 M2; unfold N3.V; dsimp only; omega⟩
  have C0 := Aside0.mk hc0
  have C1 := Aside0.mk hc1
  have C2 := Aside0.mk hc2
  clear hs0 hb0 hs1 hb1 hs2 hb2 hc0e hc1e hc2e hb0b hb1b hb2b uc0 uc1 uc2 u0 u1 u2 m0 m1 m2 e0 e1 e2 hp0 hp1 hp2 ha0 ha1 ha2 hk
  have I0 := idx0 a0 a1 a2
  have I1 := idx1 a0 a1 a2
  have I2 := idx2 a0 a1 a2
  go_enter Tryd.func23, Tryd.ntmps23
  go_wp2
  refine wp_loop_rounds 4 ?_
  rw [rounds_succ]
  go_wp2_with (go_at_call 39; (with_reducible refine (M0 _).mono ?_); rintro e w' ⟨rfl, rfl⟩)
  rw [rounds_succ]
  go_wp2_with (go_at_call 39; (with_reducible refine (M1 _).mono ?_); rintro e w' ⟨rfl, rfl⟩)
  rw [rounds_succ]
  go_wp2_with (go_at_call 39; (with_reducible refine (M2 _).mono ?_); rintro e w' ⟨rfl, rfl⟩)
  rw [rounds_succ]
  go_wp2
  exact bodyPost_ret (v := .tuple #[T3 ⟨s0, s1, s2⟩, .int .u64 c2]) (by simp [results, Tryd.results23, go_sem]) rfl ⟨⟨s0, s1, s2⟩, c2, rfl, by repeat (first | exact Below.refl _ _ | apply below_alloc | apply below_drew1), HF.out⟩
set_option maxHeartbeats 4000000 in
set_option maxRecDepth 100000 in
theorem times_calls {x y hi lo : Int} (hx : M.U x) (hy : M.U y) (hh : hi = x * y / 18446744073709551616) (hl : lo = x * y % 18446744073709551616) (w : World) :
    Calls Tryd.prog 29 #[.int .u64 x, .int .u64 y] w fun e w' => e = .returned (.tuple #[.int .u64 hi, .int .u64 lo]) ∧ w' = w := by
  have M0 := fun w => mul_calls hx hy hh hl w
  clear hh hl hx hy
  go_enter Tryd.func29, Tryd.ntmps29
  go_wp2_with (go_at_call 39; (with_reducible refine (M0 _).mono ?_); rintro e w' ⟨rfl, rfl⟩)
  go_ret2
  exact ⟨rfl, rfl⟩
/-- A number with a sign, of 192 bits. -/
def ofN (n : Int) : N3 := if 0 ≤ n then ⟨n, 0, 0⟩ else ⟨n + 18446744073709551616, 18446744073709551615, 18446744073709551615⟩
theorem ofN_eq {n : Int} (hn : -9223372036854775808 ≤ n ∧ n ≤ 9223372036854775807) : T3 (ofN n) = .agg #[.int .u64 (IntKind.u64.wrap n), .int .u64 (IntKind.u64.wrap (n / 9223372036854775808)), .int .u64 (IntKind.u64.wrap (n / 9223372036854775808))] := by
  unfold ofN
  rw [wu64, wu64]
  by_cases c : 0 ≤ n
  · rw [if_pos c, show n / 9223372036854775808 = 0 by omega, show n % 18446744073709551616 = n by omega]
    rfl
  · rw [if_neg c, show n / 9223372036854775808 = -1 by omega, show n % 18446744073709551616 = n + 18446744073709551616 by omega]
    rfl
set_option maxHeartbeats 4000000 in
set_option maxRecDepth 100000 in
theorem of_calls {n : Int} (hn : -9223372036854775808 ≤ n ∧ n ≤ 9223372036854775807) (w : World) :
    Calls Tryd.prog 18 #[.int .i64 n] w fun e w' => e = .returned (T3 (ofN n)) ∧ Below w.heap.size w w' := by
  rw [ofN_eq hn]
  clear hn
  go_enter Tryd.func18, Tryd.ntmps18
  go_wp2
  exact bodyPost_ret (v := .agg #[.int .u64 (IntKind.u64.wrap n), .int .u64 (IntKind.u64.wrap (n / 9223372036854775808)), .int .u64 (IntKind.u64.wrap (n / 9223372036854775808))]) (by simp [results, Tryd.results18, go_sem]) rfl ⟨rfl, below_alloc (Below.refl _ _) _⟩
set_option maxHeartbeats 4000000 in
set_option maxRecDepth 100000 in
theorem int_calls {a : N3} (ha : a.ok) (w : World) :
    Calls Tryd.prog 17 #[T3 a] w fun e w' => ∃ b : Bool, e = .returned (.tuple #[.int .i64 (if b = true then wrap64 a.x else 0), .bool b]) ∧ Below w.heap.size w w' ∧ (b = true ↔ a = ofN (wrap64 a.x)) := by
  obtain ⟨a0, a1, a2⟩ := a
  obtain ⟨n, hn⟩ : ∃ z, wrap64 a0 = z := ⟨_, rfl⟩
  have hnb : -9223372036854775808 ≤ n ∧ n ≤ 9223372036854775807 := by rw [← hn]; unfold wrap64; omega
  have hn' : IntKind.i64.wrap a0 = n := by simp only [i64_w]; exact hn
  have OC := fun w => of_calls hnb w
  dsimp only
  rw [hn]
  have HN := Aside0.mk hn
  obtain ⟨o, ho⟩ : ∃ z, ofN n = z := ⟨_, rfl⟩
  rw [ho] at OC
  rw [ho]
  obtain ⟨o0, o1, o2⟩ := o
  obtain ⟨q, hq⟩ : ∃ q : Bool, decide (o0 = a0 ∧ o1 = a1 ∧ o2 = a2) = q := ⟨_, rfl⟩
  have E3 := eq3_t 24 Tryd.underlying24 o0 o1 o2 a0 a1 a2
  rw [hq] at E3
  have HQ : Aside0 (q = true ↔ (⟨a0, a1, a2⟩ : N3) = ⟨o0, o1, o2⟩) := ⟨by
    rw [← hq, decide_eq_true_iff]
    constructor
    · rintro ⟨rfl, rfl, rfl⟩; rfl
    · intro h; cases h; exact ⟨rfl, rfl, rfl⟩⟩
  clear hnb ho ha hq hn
  go_enter Tryd.func17, Tryd.ntmps17
  cases q
  · go_wp2
    go_region_with (go_at_call 18; (with_reducible refine (OC _).mono ?_); rintro e w' ⟨rfl, hb⟩; have HB := Aside0.mk (below_step (w := w) (by repeat (first | exact Below.refl _ _ | apply below_alloc | apply below_drew1)) hb); have hk : Box3 w' w.heap.size ⟨a0, a1, a2⟩ := Box3.kept (W := (w.alloc _).drew) (Box3.drew (Box3.new w ⟨a0, a1, a2⟩)) hb; obtain ⟨⟨k0, k1, k2⟩, ⟨f0, f1, f2⟩, kl⟩ := hk.facts; clear hb hk)
    all_goals go_wp2
    all_goals go_ret2
    all_goals exact ⟨false, rfl, HB.out, HQ.out⟩
  · go_wp2
    go_region_with (go_at_call 18; (with_reducible refine (OC _).mono ?_); rintro e w' ⟨rfl, hb⟩; have HB := Aside0.mk (below_step (w := w) (by repeat (first | exact Below.refl _ _ | apply below_alloc | apply below_drew1)) hb); have hk : Box3 w' w.heap.size ⟨a0, a1, a2⟩ := Box3.kept (W := (w.alloc _).drew) (Box3.drew (Box3.new w ⟨a0, a1, a2⟩)) hb; obtain ⟨⟨k0, k1, k2⟩, ⟨f0, f1, f2⟩, kl⟩ := hk.facts; clear hb hk)
    all_goals go_wp2
    all_goals go_ret2
    all_goals exact ⟨true, rfl, HB.out, by simpa using HQ.out⟩

end Go.Proofs.YtlpbfhbfaphicaaDoor.L01
