-- thinned
-- Printed by a program of this session (wip/tools/mkprint.py) out of the translation.
import Derived.Test.YtcnnaciilphadaaXP0
import Derived.Test.YtcnnaciilphadaaXP3
import Derived.Test.YtcnnaciilphadaaXP4
import Derived.Test.YtcnnaciilphadaaXP6
import Derived.Test.YtcnnaciilphadaaGiven
import Derived.Test.YtcnnaciilphadaaGiven04
namespace Go.Proofs.Ytcnnaciilphadaa.XP
open Go.RowKit Go.Proofs.Ytcnnaciilphadaa.Given Go.Proofs.Ytcnnaciilphadaa.Given04 Go.Proofs.YtcnnaciilphadaaW.PrintWords Go.Proofs.YtcnnaciilphadaaW.PrintLast Go.Proofs.YtcnnaciilphadaaW.PrintMore
attribute [local go_sem] max2_int min2_int max_two min_two max_three min_three max_four min_four   -- for this text's walks alone
set_option linter.unusedVariables false
set_option linter.unusedSimpArgs false

/-! ### epicycleref04_Check: function 36 -/
def epicycleref04_Check.l0 : Nat → List (S46) → Int → Int → Option (Int × Int)
 | 0, _, _, _ => none
 | k + 1, x0, x9, x10 => if x10 < x9 then ((epicycleref04_Right.f k x0 x10).bind fun t178 => (if t178 = true then (epicycleref04_Check.l0 k x0 x9 (wrap64 (x10 + 1))) else (some (x10, 3)))) else (some (0, 0))
def epicycleref04_Check.f (k : Nat) (l0 : List (S46)) : Option (Int × Int) := if (l0.length : Int) > 32 then (some (0, 13)) else (epicycleref04_Check.l0 k l0 (l0.length : Int) 0)
theorem epicycleref04_Check.mono_l : ∀ k, (∀ y0 y1 y2, LeO (epicycleref04_Check.l0 k y0 y1 y2) (epicycleref04_Check.l0 (k + 1) y0 y1 y2))
 | 0 => fun _ _ _ r h => by simp [epicycleref04_Check.l0] at h
 | k + 1 => by
  have ih0 := epicycleref04_Check.mono_l k
  ·intro y0 y1 y2
   unfold epicycleref04_Check.l0
   repeat' first
   | (with_reducible exact ih0 _ _ _)
   | (with_reducible exact epicycleref04_Right.mono _ _ _)
   | (with_reducible exact LeO.refl _)
   | (with_reducible exact LeO.none _)
   | (with_reducible refine LeO.ite ?_ ?_)
   | (with_reducible refine LeO.bind ?_ (fun _ => ?_))
   | exact ih0 _ _ _
   | exact epicycleref04_Right.mono _ _ _
   | exact LeO.none _
   | refine LeO.ite ?_ ?_
   | refine LeO.bind ?_ (fun _ => ?_)
theorem epicycleref04_Check.mono : ∀ a0 k, LeO (epicycleref04_Check.f k a0) (epicycleref04_Check.f (k + 1) a0) := by
 intro a0 k
 have ih0 := epicycleref04_Check.mono_l k
 unfold epicycleref04_Check.f
 repeat' first
   | (with_reducible exact ih0 _ _ _)
   | (with_reducible exact epicycleref04_Right.mono _ _ _)
   | (with_reducible exact LeO.refl _)
   | (with_reducible exact LeO.none _)
   | (with_reducible refine LeO.ite ?_ ?_)
   | (with_reducible refine LeO.bind ?_ (fun _ => ?_))
   | exact ih0 _ _ _
   | exact epicycleref04_Right.mono _ _ _
   | exact LeO.none _
   | refine LeO.ite ?_ ?_
   | refine LeO.bind ?_ (fun _ => ?_)
set_option maxHeartbeats 8000000 in
set_option maxRecDepth 100000 in
theorem epicycleref04_Check.calls (k : Nat) (A0 : Option Addr) (c0 : Nat) (l0 : List (S46)) (r1 : Int) (r2 : Int) (w : World) (hr0 : Kd.C k46 w A0 l0.length l0) (hc0 : l0.length ≤ c0) (h : epicycleref04_Check.f k l0 = some (r1, r2)) :
  Calls Try.prog 36 #[.slice A0 l0.length c0] w fun e w' => e = .returned (.tuple #[.int .i64 r1, .int .i64 r2]) ∧ Below w.heap.size w w' := by
 have HR0 := Aside0.mk hr0
 have HC0 := Aside0.mk hc0
 clear hr0 hc0
 have HB := Aside0.mk (Below.refl w.heap.size w)
 have H : (if (l0.length : Int) > 32 then (some (0, 13)) else (epicycleref04_Check.l0 k l0 (l0.length : Int) 0)) = some (r1, r2) := h
 clear h
 by_cases c2 : (l0.length : Int) > 32
 ·rw [if_pos c2] at H
  have c2b0 : decide (32 < (l0.length : Int)) = true := decide_eq_true c2
  have c2b1 : decide (32 < l0.length) = true := decide_eq_true (by omega)
  clear c2
  simp only [Option.some.injEq, Prod.mk.injEq] at H
  obtain ⟨rfl, rfl⟩ := H
  go_enter Try.func36, Try.ntmps36
  go_wp2
  go_ret2
  exact ⟨by first | rfl | (simp [errW_none, errW_some] <;> rfl) | (simp [*, errW_none, errW_some] <;> rfl), by repeat (first | (with_reducible first | exact HB.out | apply below_alloc | apply pw_below_drewN | apply below_drew1) | exact HB.out)⟩
 ·rw [if_neg c2] at H
  have c2b0 : decide (32 < (l0.length : Int)) = false := decide_eq_false c2
  have c2b1 : decide (32 < l0.length) = false := decide_eq_false (by omega)
  clear c2
  have H' := Aside0.mk H
  clear H
  go_enter Try.func36, Try.ntmps36
  go_wp2
  go_loopg [10] k (fun kq v10 w' => ∃ (x10_1 : Int), v10 = .int .i64 x10_1 ∧ Aside0 (epicycleref04_Check.l0 kq l0 (l0.length : Int) x10_1 = some (r1, r2)) ∧ Aside0 (kq ≤ k) ∧ Aside0 (Below w.heap.size w w'))
  case atStart => exact ⟨(0), (by first | rfl | (simp; done) | (simp [*]; done)), H', ⟨Nat.le_refl _⟩, ⟨by repeat (first | (with_reducible first | exact HB.out | apply below_alloc | apply pw_below_drewN | apply below_drew1) | exact HB.out)⟩⟩
  case round =>
   clear H'
   try clear c2
   try clear c2b0
   try clear c2b1
   try clear p2
   obtain ⟨x10_1, rfl, HA, HK1, HB⟩ := hrel
   cases gk with
   | zero => exact absurd HA.out (by simp [epicycleref04_Check.l0])
   | succ k1 =>
    have H := HA.out
    clear HA
    simp only [epicycleref04_Check.l0] at H
    by_cases c3 : x10_1 < (l0.length : Int)
    ·rw [if_pos c3] at H
     have c3b0 : decide (x10_1 < (l0.length : Int)) = true := decide_eq_true c3
     clear c3
     replace H := Option.bind_eq_some_iff.mp H
     obtain ⟨t178, A40, H⟩ := H
     replace H : (if t178 = true then (epicycleref04_Check.l0 k1 l0 (l0.length : Int) (wrap64 (x10_1 + 1))) else (some (x10_1, 3))) = some (r1, r2) := H
     have A4 := Aside0.mk A40
     clear A40
     by_cases c5 : t178 = true
     ·subst c5
      have H1 : (epicycleref04_Check.l0 k1 l0 (l0.length : Int) (wrap64 (x10_1 + 1))) = some (r1, r2) := by rw [if_pos rfl] at H <;> exact H
      clear H
      have H := H1
      clear H1
      have H' := Aside0.mk H
      clear H
      go_wp2_with (first | ((with_reducible refine gate_callee (f := 46) rfl ?_); refine goesL_ (some 15) rfl rfl Try.func46 (by kernel_rfl) rfl #[.slice A0 l0.length c0, .int .i64 x10_1] rfl (by (try simp only [List.map_toArray, List.map_cons, List.map_nil]); first | done | rfl | (simp only [List.length_drop, List.length_take]; rfl)) ?_; (with_reducible refine (epicycleref04_Right.calls k1 _ _ l0 x10_1 true _ ?side1 ?side2 A4.out).mono ?_); (case side1 => repeat (first | exact (Kd.C_below HR0.out HB.out) | (with_reducible refine Kd.C_alloc ?_ _) | (with_reducible refine Kd.C_drewN ?_ _) | (with_reducible refine Kd.C_drew ?_))); (case side2 => exact HC0.out); rintro e w6 ⟨rfl, hb⟩; refine ⟨_, rfl, ?_⟩; have n0_ := Aside0.mk (below_step (by repeat (first | (with_reducible first | exact HB.out | apply below_alloc | apply pw_below_drewN | apply below_drew1) | exact HB.out)) hb); clear HB; have HB := n0_; clear n0_; (try clear hb); (try clear hb2); (try clear hk); (try clear hi)))
      go_roundg k1
      case measure => have := HK1.out; omega
      case rel => exact ⟨(wrap64 (x10_1 + 1)), (by first | rfl | (simp; done) | (simp [*]; done)), H', ⟨by have := HK1.out; omega⟩, ⟨by repeat (first | (with_reducible first | exact HB.out | apply below_alloc | apply pw_below_drewN | apply below_drew1) | exact HB.out)⟩⟩
     ·replace c5 := Bool.eq_false_iff.mpr c5
      subst c5
      have H1 : (some (x10_1, 3)) = some (r1, r2) := by rw [if_neg (show ¬ (false = true) by decide)] at H <;> exact H
      clear H
      have H := H1
      clear H1
      simp only [Option.some.injEq, Prod.mk.injEq] at H
      obtain ⟨rfl, rfl⟩ := H
      go_wp2_with (first | ((with_reducible refine gate_callee (f := 46) rfl ?_); refine goesL_ (some 15) rfl rfl Try.func46 (by kernel_rfl) rfl #[.slice A0 l0.length c0, .int .i64 x10_1] rfl (by (try simp only [List.map_toArray, List.map_cons, List.map_nil]); first | done | rfl | (simp only [List.length_drop, List.length_take]; rfl)) ?_; (with_reducible refine (epicycleref04_Right.calls k1 _ _ l0 x10_1 false _ ?side1 ?side2 A4.out).mono ?_); (case side1 => repeat (first | exact (Kd.C_below HR0.out HB.out) | (with_reducible refine Kd.C_alloc ?_ _) | (with_reducible refine Kd.C_drewN ?_ _) | (with_reducible refine Kd.C_drew ?_))); (case side2 => exact HC0.out); rintro e w7 ⟨rfl, hb⟩; refine ⟨_, rfl, ?_⟩; have n0_ := Aside0.mk (below_step (by repeat (first | (with_reducible first | exact HB.out | apply below_alloc | apply pw_below_drewN | apply below_drew1) | exact HB.out)) hb); clear HB; have HB := n0_; clear n0_; (try clear hb); (try clear hb2); (try clear hk); (try clear hi)))
      go_ret2
      exact ⟨by first | rfl | (simp [errW_none, errW_some] <;> rfl) | (simp [*, errW_none, errW_some] <;> rfl), by repeat (first | (with_reducible first | exact HB.out | apply below_alloc | apply pw_below_drewN | apply below_drew1) | exact HB.out)⟩
    ·rw [if_neg c3] at H
     have c3b0 : decide (x10_1 < (l0.length : Int)) = false := decide_eq_false c3
     clear c3
     simp only [Option.some.injEq, Prod.mk.injEq] at H
     obtain ⟨rfl, rfl⟩ := H
     go_wp2
     go_ret2
     exact ⟨by first | rfl | (simp [errW_none, errW_some] <;> rfl) | (simp [*, errW_none, errW_some] <;> rfl), by repeat (first | (with_reducible first | exact HB.out | apply below_alloc | apply pw_below_drewN | apply below_drew1) | exact HB.out)⟩

end Go.Proofs.Ytcnnaciilphadaa.XP
