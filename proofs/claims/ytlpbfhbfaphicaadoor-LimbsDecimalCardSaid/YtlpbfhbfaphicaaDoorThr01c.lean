/- Layer 1: Compare, Rest, piece, walked. -/
import Derived.Test.YtlpbfhbfaphicaaDoorThr01
namespace Go.Proofs.YtlpbfhbfaphicaaDoor.L01
open Go Go.RowKit Go.Proofs.YtlpbfhbfaphicaaDoorW.PrintWords Go.Proofs.YtlpbfhbfaphicaaDoorW.PrintLast Go.Proofs.YtlpbfhbfaphicaaDoorW.PrintMore Go.Proofs.YtlpbfhbfaphicaaDoor.Given Go.Proofs.YtlpbfhbfaphicaaDoor.M Go.Proofs.YtlpbfhbfaphicaaDoor.XB

theorem cmp_of {x y : Int} : (x < y ∧ decide (x < y) = true) ∨ (y < x ∧ decide (x < y) = false ∧ decide (y < x) = true) ∨ (x = y ∧ decide (x < y) = false ∧ decide (y < x) = false) := by
  rcases Int.lt_trichotomy x y with h | h | h
  · exact .inl ⟨h, decide_eq_true h⟩
  · exact .inr (.inr ⟨h, decide_eq_false (by omega), decide_eq_false (by omega)⟩)
  · exact .inr (.inl ⟨h, decide_eq_false (by omega), decide_eq_true h⟩)
set_option maxHeartbeats 1000000 in
set_option maxRecDepth 100000 in
theorem compare_calls {a b : N3} (ha : a.ok) (hb : b.ok) (w : World) :
    Calls Tryd.prog 27 #[T3 a, T3 b] w fun e w' => ∃ r : Int, e = .returned (.int .i64 r) ∧ Below w.heap.size w w' ∧ ((r = -1 ∧ a.V < b.V) ∨ (r = 1 ∧ b.V < a.V) ∨ (r = 0 ∧ a.V = b.V)) := by
  obtain ⟨a0, a1, a2⟩ := a
  obtain ⟨b0, b1, b2⟩ := b
  have HU := Aside0.mk (And.intro ha hb)
  clear ha hb
  have fin : ∀ r : Int, ((r = -1 ∧ (a2 < b2 ∨ a2 = b2 ∧ (a1 < b1 ∨ a1 = b1 ∧ a0 < b0))) ∨ (r = 1 ∧ (b2 < a2 ∨ a2 = b2 ∧ (b1 < a1 ∨ a1 = b1 ∧ b0 < a0))) ∨ (r = 0 ∧ a2 = b2 ∧ a1 = b1 ∧ a0 = b0)) → ((r = -1 ∧ (⟨a0, a1, a2⟩ : N3).V < (⟨b0, b1, b2⟩ : N3).V) ∨ (r = 1 ∧ (⟨b0, b1, b2⟩ : N3).V < (⟨a0, a1, a2⟩ : N3).V) ∨ (r = 0 ∧ (⟨a0, a1, a2⟩ : N3).V = (⟨b0, b1, b2⟩ : N3).V)) := by
    intro r h
    obtain ⟨⟨u0, u1, u2⟩, ⟨v0, v1, v2⟩⟩ := HU.out
    unfold M.U at u0 u1 u2 v0 v1 v2
    unfold N3.V
    dsimp only at *
    omega
  have HF := Aside0.mk fin
  clear fin HU
  rcases cmp_of (x := a2) (y := b2) with ⟨h2, d2⟩ | ⟨h2, d2, e2⟩ | ⟨h2, d2, e2⟩
  · obtain ⟨r, hr⟩ : ∃ r : Int, r = -1 := ⟨_, rfl⟩
    have H := Aside0.mk (HF.out r (.inl ⟨hr, .inl h2⟩))
    have HR := Aside0.mk hr
    clear hr
    clear HF h2
    go_enter Tryd.func27, Tryd.ntmps27
    go_wp2
    refine wp_loop_rounds 4 ?_
    repeat (first | (rw [rounds_succ]; go_wp2) | (go_region; go_wp2))
    go_ret
    exact ⟨_, rfl, by repeat (first | exact Below.refl _ _ | apply below_alloc | apply below_drew1), by have h_ := H.out; rw [HR.out] at h_; exact h_⟩
  · obtain ⟨r, hr⟩ : ∃ r : Int, r = 1 := ⟨_, rfl⟩
    have H := Aside0.mk (HF.out r (.inr (.inl ⟨hr, .inl h2⟩)))
    have HR := Aside0.mk hr
    clear hr
    clear HF h2
    go_enter Tryd.func27, Tryd.ntmps27
    go_wp2
    refine wp_loop_rounds 4 ?_
    repeat (first | (rw [rounds_succ]; go_wp2) | (go_region; go_wp2))
    go_ret
    exact ⟨_, rfl, by repeat (first | exact Below.refl _ _ | apply below_alloc | apply below_drew1), by have h_ := H.out; rw [HR.out] at h_; exact h_⟩
  rcases cmp_of (x := a1) (y := b1) with ⟨h1, d1⟩ | ⟨h1, d1, e1⟩ | ⟨h1, d1, e1⟩
  · obtain ⟨r, hr⟩ : ∃ r : Int, r = -1 := ⟨_, rfl⟩
    have H := Aside0.mk (HF.out r (.inl ⟨hr, .inr ⟨h2, .inl h1⟩⟩))
    have HR := Aside0.mk hr
    clear hr
    clear HF h1 h2
    go_enter Tryd.func27, Tryd.ntmps27
    go_wp2
    refine wp_loop_rounds 4 ?_
    repeat (first | (rw [rounds_succ]; go_wp2) | (go_region; go_wp2))
    go_ret
    exact ⟨_, rfl, by repeat (first | exact Below.refl _ _ | apply below_alloc | apply below_drew1), by have h_ := H.out; rw [HR.out] at h_; exact h_⟩
  · obtain ⟨r, hr⟩ : ∃ r : Int, r = 1 := ⟨_, rfl⟩
    have H := Aside0.mk (HF.out r (.inr (.inl ⟨hr, .inr ⟨h2, .inl h1⟩⟩)))
    have HR := Aside0.mk hr
    clear hr
    clear HF h1 h2
    go_enter Tryd.func27, Tryd.ntmps27
    go_wp2
    refine wp_loop_rounds 4 ?_
    repeat (first | (rw [rounds_succ]; go_wp2) | (go_region; go_wp2))
    go_ret
    exact ⟨_, rfl, by repeat (first | exact Below.refl _ _ | apply below_alloc | apply below_drew1), by have h_ := H.out; rw [HR.out] at h_; exact h_⟩
  rcases cmp_of (x := a0) (y := b0) with ⟨h0, d0⟩ | ⟨h0, d0, e0⟩ | ⟨h0, d0, e0⟩
  · obtain ⟨r, hr⟩ : ∃ r : Int, r = -1 := ⟨_, rfl⟩
    have H := Aside0.mk (HF.out r (.inl ⟨hr, .inr ⟨h2, .inr ⟨h1, h0⟩⟩⟩))
    have HR := Aside0.mk hr
    clear hr
    clear HF h0 h1 h2
    go_enter Tryd.func27, Tryd.ntmps27
    go_wp2
    refine wp_loop_rounds 4 ?_
    repeat (first | (rw [rounds_succ]; go_wp2) | (go_region; go_wp2))
    go_ret
    exact ⟨_, rfl, by repeat (first | exact Below.refl _ _ | apply below_alloc | apply below_drew1), by have h_ := H.out; rw [HR.out] at h_; exact h_⟩
  · obtain ⟨r, hr⟩ : ∃ r : Int, r = 1 := ⟨_, rfl⟩
    have H := Aside0.mk (HF.out r (.inr (.inl ⟨hr, .inr ⟨h2, .inr ⟨h1, h0⟩⟩⟩)))
    have HR := Aside0.mk hr
    clear hr
    clear HF h0 h1 h2
    go_enter Tryd.func27, Tryd.ntmps27
    go_wp2
    refine wp_loop_rounds 4 ?_
    repeat (first | (rw [rounds_succ]; go_wp2) | (go_region; go_wp2))
    go_ret
    exact ⟨_, rfl, by repeat (first | exact Below.refl _ _ | apply below_alloc | apply below_drew1), by have h_ := H.out; rw [HR.out] at h_; exact h_⟩
  · obtain ⟨r, hr⟩ : ∃ r : Int, r = 0 := ⟨_, rfl⟩
    have H := Aside0.mk (HF.out r (.inr (.inr ⟨hr, h2, h1, h0⟩)))
    have HR := Aside0.mk hr
    clear hr
    clear HF h0 h1 h2
    go_enter Tryd.func27, Tryd.ntmps27
    go_wp2
    refine wp_loop_rounds 4 ?_
    repeat (first | (rw [rounds_succ]; go_wp2) | (go_region; go_wp2))
    go_ret
    exact ⟨_, rfl, by repeat (first | exact Below.refl _ _ | apply below_alloc | apply below_drew1), by have h_ := H.out; rw [HR.out] at h_; exact h_⟩
theorem rem_calls {x y m r : Int} (hx : M.U x) (hy : M.U y) (hm : M.U m) (h0 : m ≠ 0) (hr : r = (x * 18446744073709551616 + y) % m) (w : World) :
    Calls Tryd.prog 41 #[.int .u64 x, .int .u64 y, .int .u64 m] w fun e w' => e = .returned (.int .u64 r) ∧ ∃ n, w' = w.drewN n := by
  obtain ⟨k, hk⟩ := Ev.rounds (bits_Rem64_ev x y m hx hy hm h0)
  rw [← hr] at hk
  refine (bits_Rem64.calls k x y m r w hk).mono ?_
  rintro e w' ⟨rfl, nd, rfl⟩
  exact ⟨rfl, nd, rfl⟩
theorem div_calls {x y m q r : Int} (hx : 0 ≤ x) (hy : M.U y) (hm : M.U m) (h0 : x < m) (hq : q = (x * 18446744073709551616 + y) / m) (hr : r = (x * 18446744073709551616 + y) % m) (w : World) :
    Calls Tryd.prog 42 #[.int .u64 x, .int .u64 y, .int .u64 m] w fun e w' => e = .returned (.tuple #[.int .u64 q, .int .u64 r]) ∧ ∃ n, w' = w.drewN n := by
  obtain ⟨k, hk⟩ := Ev.rounds (bits_Div64_ev x y m hx hy hm h0)
  rw [← hr, ← hq] at hk
  refine (bits_Div64.calls k x y m q r w hk).mono ?_
  rintro e w' ⟨rfl, nd, rfl⟩
  exact ⟨rfl, nd, rfl⟩
theorem rem_step {x y m : Int} (hm : M.U m) (h0 : m ≠ 0) : M.U ((x * 18446744073709551616 + y) % m) ∧ (x * 18446744073709551616 + y) % m < m := by
  unfold M.U at *
  have h1 := Int.emod_nonneg (x * 18446744073709551616 + y) h0
  have h2 := Int.emod_lt_of_pos (x * 18446744073709551616 + y) (show 0 < m by omega)
  omega
set_option maxHeartbeats 1000000 in
set_option maxRecDepth 100000 in
theorem rest_calls {a : N3} {m : Int} (ha : a.ok) (hm : M.U m) (w : World) :
    Calls Tryd.prog 31 #[T3 a, .int .u64 m] w fun e w' => e = .returned (.int .u64 (if m = 0 then 0 else a.V % m)) ∧ Below w.heap.size w w' := by
  obtain ⟨a0, a1, a2⟩ := a
  obtain ⟨ha0, ha1, ha2⟩ := ha
  dsimp only at *
  by_cases h0 : m = 0
  · subst h0
    rw [if_pos rfl]
    clear hm ha0 ha1 ha2
    go_enter Tryd.func31, Tryd.ntmps31
    go_wp2
    go_ret
    exact ⟨rfl, by repeat (first | exact Below.refl _ _ | apply below_alloc | apply below_drew1)⟩
  · rw [if_neg h0]
    have h0b : (m == 0) = false := beq_eq_false_iff_ne.2 h0
    obtain ⟨r2, hr2⟩ : ∃ z, z = (0 * 18446744073709551616 + a2) % m := ⟨_, rfl⟩
    have q2 := rem_step (x := 0) (y := a2) hm h0
    rw [← hr2] at q2
    obtain ⟨r1, hr1⟩ : ∃ z, z = (r2 * 18446744073709551616 + a1) % m := ⟨_, rfl⟩
    have q1 := rem_step (x := r2) (y := a1) hm h0
    rw [← hr1] at q1
    obtain ⟨r0, hr0⟩ : ∃ z, z = (r1 * 18446744073709551616 + a0) % m := ⟨_, rfl⟩
    have uz : M.U 0 := by unfold M.U; decide
    have R2 := fun w => rem_calls uz ha2 hm h0 hr2 w
    have R1 := fun w => rem_calls q2.1 ha1 hm h0 hr1 w
    have R0 := fun w => rem_calls q1.1 ha0 hm h0 hr0 w
    have s1 : ∀ p q : Int, (p % m * 18446744073709551616 + q) % m = (p * 18446744073709551616 + q) % m := fun p q => by
      rw [Int.add_emod, Int.mul_emod, Int.emod_emod_of_dvd _ (Int.dvd_refl m), ← Int.mul_emod, ← Int.add_emod]
    have e1 : r1 = ((0 * 18446744073709551616 + a2) * 18446744073709551616 + a1) % m := by rw [hr1, hr2, s1]
    have e : (a0 + 18446744073709551616 * a1 + 340282366920938463463374607431768211456 * a2) % m = r0 := by
      rw [hr0, e1, s1]
      exact congrArg (· % m) (by omega)
    have HE := Aside0.mk e
    clear e e1 s1 q2 q1 hr0 hr1 hr2 h0 hm ha0 ha1 ha2 uz
    go_enter Tryd.func31, Tryd.ntmps31
    go_wp2
    refine wp_loop_rounds 4 ?_
    rw [rounds_succ]
    go_wp2_with (go_at_call 41; (with_reducible refine (R2 _).mono ?_); rintro e w' ⟨rfl, n2, rfl⟩)
    rw [rounds_succ]
    go_wp2_with (go_at_call 41; (with_reducible refine (R1 _).mono ?_); rintro e w' ⟨rfl, n1, rfl⟩)
    rw [rounds_succ]
    go_wp2_with (go_at_call 41; (with_reducible refine (R0 _).mono ?_); rintro e w' ⟨rfl, n0, rfl⟩)
    rw [rounds_succ]
    go_wp2
    go_ret
    exact ⟨by rw [show (⟨a0, a1, a2⟩ : N3).V % m = r0 from HE.out]; rfl, by repeat (first | exact Below.refl _ _ | apply below_alloc | apply pw_below_drewN | apply below_drew1)⟩
end Go.Proofs.YtlpbfhbfaphicaaDoor.L01
