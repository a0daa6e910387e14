/- Layer 1: piece, walked. -/
import Derived.Test.YtlpbfhbfaphicaaDoorThr01c
namespace Go.Proofs.YtlpbfhbfaphicaaDoor.L01
open Go Go.RowKit Go.Proofs.YtlpbfhbfaphicaaDoorW.PrintWords Go.Proofs.YtlpbfhbfaphicaaDoorW.PrintLast Go.Proofs.YtlpbfhbfaphicaaDoorW.PrintMore Go.Proofs.YtlpbfhbfaphicaaDoor.Given Go.Proofs.YtlpbfhbfaphicaaDoor.M Go.Proofs.YtlpbfhbfaphicaaDoor.XB

set_option maxHeartbeats 400000 in
set_option maxRecDepth 100000 in
theorem piece_calls {a : N3} (ha : a.ok) (w : World) :
    Calls Tryd.prog 33 #[T3 a] w fun e w' => ∃ (s : N3) (r : Int), e = .returned (.tuple #[T3 s, .int .u64 r]) ∧ Below w.heap.size w w' ∧ s.ok ∧ 0 ≤ r ∧ r < 1000000000000000000 ∧ a.V = 1000000000000000000 * s.V + r := by
  obtain ⟨a0, a1, a2⟩ := a
  obtain ⟨ha0, ha1, ha2⟩ := ha
  dsimp only at *
  have hm : M.U 1000000000000000000 := by unfold M.U; omega
  obtain ⟨q2, hq2⟩ : ∃ z : Int, z = (0 * 18446744073709551616 + a2) / 1000000000000000000 := ⟨_, rfl⟩
  obtain ⟨r2, hr2⟩ : ∃ z : Int, z = (0 * 18446744073709551616 + a2) % 1000000000000000000 := ⟨_, rfl⟩
  obtain ⟨q1, hq1⟩ : ∃ z, z = (r2 * 18446744073709551616 + a1) / 1000000000000000000 := ⟨_, rfl⟩
  obtain ⟨r1, hr1⟩ : ∃ z, z = (r2 * 18446744073709551616 + a1) % 1000000000000000000 := ⟨_, rfl⟩
  obtain ⟨q0, hq0⟩ : ∃ z, z = (r1 * 18446744073709551616 + a0) / 1000000000000000000 := ⟨_, rfl⟩
  obtain ⟨r0, hr0⟩ : ∃ z, z = (r1 * 18446744073709551616 + a0) % 1000000000000000000 := ⟨_, rfl⟩
  have D2 := fun w => div_calls (show (0 : Int) ≤ 0 by omega) ha2 hm (by omega) hq2 hr2 w
  have D1 := fun w => div_calls (show 0 ≤ r2 by omega) ha1 hm (by omega) hq1 hr1 w
  have D0 := fun w => div_calls (show 0 ≤ r1 by omega) ha0 hm (by omega) hq0 hr0 w
  have HF : Aside0 ((⟨q0, q1, q2⟩ : N3).ok ∧ 0 ≤ r0 ∧ r0 < 1000000000000000000 ∧ (⟨a0, a1, a2⟩ : N3).V = 1000000000000000000 * (⟨q0, q1, q2⟩ : N3).V + r0) := ⟨by
    clear D0 D1 D2
    unfold N3.ok N3.V M.U at *
    dsimp only
    omega⟩
  clear hq0 hq1 hq2 hr0 hr1 hr2 ha0 ha1 ha2 hm
  go_enter Tryd.func33, Tryd.ntmps33
  go_wp2
  refine wp_loop_rounds 4 ?_
  rw [rounds_succ]
  go_wp2_with (go_at_call 42; (with_reducible refine (D2 _).mono ?_); rintro e w' ⟨rfl, n2, rfl⟩)
  rw [rounds_succ]
  go_wp2_with (go_at_call 42; (with_reducible refine (D1 _).mono ?_); rintro e w' ⟨rfl, n1, rfl⟩)
  rw [rounds_succ]
  go_wp2_with (go_at_call 42; (with_reducible refine (D0 _).mono ?_); rintro e w' ⟨rfl, n0, rfl⟩)
  rw [rounds_succ]
  go_wp2
  exact bodyPost_ret (v := .tuple #[T3 ⟨q0, q1, q2⟩, .int .u64 r0]) (by simp [results, Tryd.results33, go_sem]) rfl ⟨⟨q0, q1, q2⟩, r0, rfl, by repeat (with_reducible first | exact Below.refl _ _ | apply below_alloc | apply pw_below_drewN | (refine below_set ?_ (by omega))), HF.out⟩

end Go.Proofs.YtlpbfhbfaphicaaDoor.L01
