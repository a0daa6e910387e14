-- Printed by a program of this session (wip/tools/mkprint.py) out of the translation.
import Derived.Test.YtcphlhphdpjnfaaXS0
import Derived.Test.YtcphlhphdpjnfaaXS2b
import Derived.Test.YtcphlhphdpjnfaaXS3
import Derived.Test.YtcphlhphdpjnfaaGiven
import Derived.Test.YtcphlhphdpjnfaaGiven05b
namespace Go.Proofs.Ytcphlhphdpjnfaa.XS
open Go.RowKit Go.Proofs.Ytcphlhphdpjnfaa.Given Go.Proofs.Ytcphlhphdpjnfaa.Given05 Go.Proofs.YtcphlhphdpjnfaaW.PrintWords Go.Proofs.YtcphlhphdpjnfaaW.PrintLast Go.Proofs.YtcphlhphdpjnfaaW.PrintMore
attribute [local go_sem] max2_int min2_int max_two min_two max_three min_three max_four min_four   -- for this text's walks alone
set_option linter.unusedVariables false
set_option linter.unusedSimpArgs false

/-! ### epicyclelaw05_SieveFactors: function 4 -/
mutual
def epicyclelaw05_SieveFactors.j0 : Nat → Int → List (S33) → List (S34) → Bool → Option (Bool)
  | 0, _, _, _, _ => none
  | k + 1, x0, x3, x4, x26 => if x26 = true then (some false) else (epicyclelaw05_SieveFactors.l0 k x0 x4 1 x3 (x3.length : Int) 0)
def epicyclelaw05_SieveFactors.l0 : Nat → Int → List (S34) → Int → List (S33) → Int → Int → Option (Bool)
  | 0, _, _, _, _, _, _ => none
  | k + 1, x0, x4, x5, x27, x28, x29 => if x29 < x28 then (if 0 ≤ x29 then (if x29 < (x27.length : Int) then (if x29 < (x4.length : Int) then (if ((rd_T33 x27 x29).f0) = ((rd_T34 x4 x29).f0) then (epicyclelaw05_SieveFactors.j2 k x0 x4 x5 x27 x28 x29 (((rd_T33 x27 x29).f1) != ((rd_T34 x4 x29).f1)) ((rd_T33 x27 x29).f0) ((rd_T33 x27 x29).f1)) else (epicyclelaw05_SieveFactors.j2 k x0 x4 x5 x27 x28 x29 true ((rd_T33 x27 x29).f0) ((rd_T33 x27 x29).f1))) else (none)) else (none)) else (none)) else (if x5 = x0 then (some true) else (if x0 < 2 then (some true) else (some (decide (x0 > 4294967296)))))
def epicyclelaw05_SieveFactors.j2 : Nat → Int → List (S34) → Int → List (S33) → Int → Int → Bool → Int → Int → Option (Bool)
  | 0, _, _, _, _, _, _, _, _, _ => none
  | k + 1, x0, x4, x5, x27, x28, x29, x51, x157000, x157001 => if x51 = true then (some false) else (epicyclelaw05_SieveFactors.l1 k x0 x4 x5 0 x27 x28 x29 x157000 x157001)
def epicyclelaw05_SieveFactors.l1 : Nat → Int → List (S34) → Int → Int → List (S33) → Int → Int → Int → Int → Option (Bool)
  | 0, _, _, _, _, _, _, _, _, _ => none
  | k + 1, x0, x4, x5, x8, x27, x28, x29, x157000, x157001 => if x8 < x157001 then (epicyclelaw05_SieveFactors.l1 k x0 x4 (IntKind.u64.wrap (x5 * x157000)) (wrap64 (x8 + 1)) x27 x28 x29 x157000 x157001) else (epicyclelaw05_SieveFactors.l0 k x0 x4 x5 x27 x28 (wrap64 (x29 + 1)))
end
def epicyclelaw05_SieveFactors.f (k : Nat) (a0 : Int) : Option (Bool) := (epicyclelaw05_alive.f k).bind fun t146 => (if t146 = true then ((sieve_Factor.f k a0).bind fun t147 => ((epicycleref05_Factor.f k a0).bind fun t150 => (if (t147.length : Int) = (t150.length : Int) then ((sieve_Prime.f k a0).bind fun t153 => ((epicycleref05_Prime.f k a0).bind fun t154 => (epicyclelaw05_SieveFactors.j0 k a0 t147 t150 (t153 != t154)))) else (epicyclelaw05_SieveFactors.j0 k a0 t147 t150 true)))) else (some false))
theorem epicyclelaw05_SieveFactors.mono_l : ∀ k, (∀ y0 y1 y2 y3, LeO (epicyclelaw05_SieveFactors.j0 k y0 y1 y2 y3) (epicyclelaw05_SieveFactors.j0 (k + 1) y0 y1 y2 y3)) ∧ (∀ y0 y1 y2 y3 y4 y5, LeO (epicyclelaw05_SieveFactors.l0 k y0 y1 y2 y3 y4 y5) (epicyclelaw05_SieveFactors.l0 (k + 1) y0 y1 y2 y3 y4 y5)) ∧ (∀ y0 y1 y2 y3 y4 y5 y6 y7 y8, LeO (epicyclelaw05_SieveFactors.j2 k y0 y1 y2 y3 y4 y5 y6 y7 y8) (epicyclelaw05_SieveFactors.j2 (k + 1) y0 y1 y2 y3 y4 y5 y6 y7 y8)) ∧ (∀ y0 y1 y2 y3 y4 y5 y6 y7 y8, LeO (epicyclelaw05_SieveFactors.l1 k y0 y1 y2 y3 y4 y5 y6 y7 y8) (epicyclelaw05_SieveFactors.l1 (k + 1) y0 y1 y2 y3 y4 y5 y6 y7 y8))
  | 0 => ⟨fun _ _ _ _ r h => by simp [epicyclelaw05_SieveFactors.j0] at h, fun _ _ _ _ _ _ r h => by simp [epicyclelaw05_SieveFactors.l0] at h, fun _ _ _ _ _ _ _ _ _ r h => by simp [epicyclelaw05_SieveFactors.j2] at h, fun _ _ _ _ _ _ _ _ _ r h => by simp [epicyclelaw05_SieveFactors.l1] at h⟩
  | k + 1 => by
    obtain ⟨ih0, ih1, ih2, ih3⟩ := epicyclelaw05_SieveFactors.mono_l k
    refine ⟨?_, ?_, ?_, ?_⟩
    · intro y0 y1 y2 y3
      unfold epicyclelaw05_SieveFactors.j0
      repeat' first
      | (with_reducible exact ih0 _ _ _ _)
      | (with_reducible exact ih1 _ _ _ _ _ _)
      | (with_reducible exact ih2 _ _ _ _ _ _ _ _ _)
      | (with_reducible exact ih3 _ _ _ _ _ _ _ _ _)
      | (with_reducible exact epicyclelaw05_alive.mono _)
      | (with_reducible exact epicycleref05_Factor.mono _ _)
      | (with_reducible exact epicycleref05_Prime.mono _ _)
      | (with_reducible exact sieve_Factor.mono _ _)
      | (with_reducible exact sieve_Prime.mono _ _)
      | (with_reducible exact LeO.refl _)
      | (with_reducible exact LeO.none _)
      | (with_reducible refine LeO.ite ?_ ?_)
      | (with_reducible refine LeO.bind ?_ (fun _ => ?_))
      | exact ih0 _ _ _ _
      | exact ih1 _ _ _ _ _ _
      | exact ih2 _ _ _ _ _ _ _ _ _
      | exact ih3 _ _ _ _ _ _ _ _ _
      | exact epicyclelaw05_alive.mono _
      | exact epicycleref05_Factor.mono _ _
      | exact epicycleref05_Prime.mono _ _
      | exact sieve_Factor.mono _ _
      | exact sieve_Prime.mono _ _
      | exact LeO.none _
      | refine LeO.ite ?_ ?_
      | refine LeO.bind ?_ (fun _ => ?_)
    · intro y0 y1 y2 y3 y4 y5
      unfold epicyclelaw05_SieveFactors.l0
      repeat' first
      | (with_reducible exact ih0 _ _ _ _)
      | (with_reducible exact ih1 _ _ _ _ _ _)
      | (with_reducible exact ih2 _ _ _ _ _ _ _ _ _)
      | (with_reducible exact ih3 _ _ _ _ _ _ _ _ _)
      | (with_reducible exact epicyclelaw05_alive.mono _)
      | (with_reducible exact epicycleref05_Factor.mono _ _)
      | (with_reducible exact epicycleref05_Prime.mono _ _)
      | (with_reducible exact sieve_Factor.mono _ _)
      | (with_reducible exact sieve_Prime.mono _ _)
      | (with_reducible exact LeO.refl _)
      | (with_reducible exact LeO.none _)
      | (with_reducible refine LeO.ite ?_ ?_)
      | (with_reducible refine LeO.bind ?_ (fun _ => ?_))
      | exact ih0 _ _ _ _
      | exact ih1 _ _ _ _ _ _
      | exact ih2 _ _ _ _ _ _ _ _ _
      | exact ih3 _ _ _ _ _ _ _ _ _
      | exact epicyclelaw05_alive.mono _
      | exact epicycleref05_Factor.mono _ _
      | exact epicycleref05_Prime.mono _ _
      | exact sieve_Factor.mono _ _
      | exact sieve_Prime.mono _ _
      | exact LeO.none _
      | refine LeO.ite ?_ ?_
      | refine LeO.bind ?_ (fun _ => ?_)
    · intro y0 y1 y2 y3 y4 y5 y6 y7 y8
      unfold epicyclelaw05_SieveFactors.j2
      repeat' first
      | (with_reducible exact ih0 _ _ _ _)
      | (with_reducible exact ih1 _ _ _ _ _ _)
      | (with_reducible exact ih2 _ _ _ _ _ _ _ _ _)
      | (with_reducible exact ih3 _ _ _ _ _ _ _ _ _)
      | (with_reducible exact epicyclelaw05_alive.mono _)
      | (with_reducible exact epicycleref05_Factor.mono _ _)
      | (with_reducible exact epicycleref05_Prime.mono _ _)
      | (with_reducible exact sieve_Factor.mono _ _)
      | (with_reducible exact sieve_Prime.mono _ _)
      | (with_reducible exact LeO.refl _)
      | (with_reducible exact LeO.none _)
      | (with_reducible refine LeO.ite ?_ ?_)
      | (with_reducible refine LeO.bind ?_ (fun _ => ?_))
      | exact ih0 _ _ _ _
      | exact ih1 _ _ _ _ _ _
      | exact ih2 _ _ _ _ _ _ _ _ _
      | exact ih3 _ _ _ _ _ _ _ _ _
      | exact epicyclelaw05_alive.mono _
      | exact epicycleref05_Factor.mono _ _
      | exact epicycleref05_Prime.mono _ _
      | exact sieve_Factor.mono _ _
      | exact sieve_Prime.mono _ _
      | exact LeO.none _
      | refine LeO.ite ?_ ?_
      | refine LeO.bind ?_ (fun _ => ?_)
    · intro y0 y1 y2 y3 y4 y5 y6 y7 y8
      unfold epicyclelaw05_SieveFactors.l1
      repeat' first
      | (with_reducible exact ih0 _ _ _ _)
      | (with_reducible exact ih1 _ _ _ _ _ _)
      | (with_reducible exact ih2 _ _ _ _ _ _ _ _ _)
      | (with_reducible exact ih3 _ _ _ _ _ _ _ _ _)
      | (with_reducible exact epicyclelaw05_alive.mono _)
      | (with_reducible exact epicycleref05_Factor.mono _ _)
      | (with_reducible exact epicycleref05_Prime.mono _ _)
      | (with_reducible exact sieve_Factor.mono _ _)
      | (with_reducible exact sieve_Prime.mono _ _)
      | (with_reducible exact LeO.refl _)
      | (with_reducible exact LeO.none _)
      | (with_reducible refine LeO.ite ?_ ?_)
      | (with_reducible refine LeO.bind ?_ (fun _ => ?_))
      | exact ih0 _ _ _ _
      | exact ih1 _ _ _ _ _ _
      | exact ih2 _ _ _ _ _ _ _ _ _
      | exact ih3 _ _ _ _ _ _ _ _ _
      | exact epicyclelaw05_alive.mono _
      | exact epicycleref05_Factor.mono _ _
      | exact epicycleref05_Prime.mono _ _
      | exact sieve_Factor.mono _ _
      | exact sieve_Prime.mono _ _
      | exact LeO.none _
      | refine LeO.ite ?_ ?_
      | refine LeO.bind ?_ (fun _ => ?_)
theorem epicyclelaw05_SieveFactors.mono : ∀ a0 k, LeO (epicyclelaw05_SieveFactors.f k a0) (epicyclelaw05_SieveFactors.f (k + 1) a0) := by
  intro a0 k
  obtain ⟨ih0, ih1, ih2, ih3⟩ := epicyclelaw05_SieveFactors.mono_l k
  unfold epicyclelaw05_SieveFactors.f
  repeat' first
      | (with_reducible exact ih0 _ _ _ _)
      | (with_reducible exact ih1 _ _ _ _ _ _)
      | (with_reducible exact ih2 _ _ _ _ _ _ _ _ _)
      | (with_reducible exact ih3 _ _ _ _ _ _ _ _ _)
      | (with_reducible exact epicyclelaw05_alive.mono _)
      | (with_reducible exact epicycleref05_Factor.mono _ _)
      | (with_reducible exact epicycleref05_Prime.mono _ _)
      | (with_reducible exact sieve_Factor.mono _ _)
      | (with_reducible exact sieve_Prime.mono _ _)
      | (with_reducible exact LeO.refl _)
      | (with_reducible exact LeO.none _)
      | (with_reducible refine LeO.ite ?_ ?_)
      | (with_reducible refine LeO.bind ?_ (fun _ => ?_))
      | exact ih0 _ _ _ _
      | exact ih1 _ _ _ _ _ _
      | exact ih2 _ _ _ _ _ _ _ _ _
      | exact ih3 _ _ _ _ _ _ _ _ _
      | exact epicyclelaw05_alive.mono _
      | exact epicycleref05_Factor.mono _ _
      | exact epicycleref05_Prime.mono _ _
      | exact sieve_Factor.mono _ _
      | exact sieve_Prime.mono _ _
      | exact LeO.none _
      | refine LeO.ite ?_ ?_
      | refine LeO.bind ?_ (fun _ => ?_)
set_option maxHeartbeats 8000000 in
set_option maxRecDepth 100000 in
theorem epicyclelaw05_SieveFactors.calls (k : Nat) (a0 : Int) (w : World) (h : epicyclelaw05_SieveFactors.f k a0 = some true) :
    Calls Try.prog 4 #[.int .u64 a0] w fun e w' => e = .returned (.bool true) ∧ Below w.heap.size w w' := by
  have hu33 := Try.underlying33
  have HB := Aside0.mk (Below.refl w.heap.size w)
  have H : ((epicyclelaw05_alive.f k).bind fun t146 => (if t146 = true then ((sieve_Factor.f k a0).bind fun t147 => ((epicycleref05_Factor.f k a0).bind fun t150 => (if (t147.length : Int) = (t150.length : Int) then ((sieve_Prime.f k a0).bind fun t153 => ((epicycleref05_Prime.f k a0).bind fun t154 => (epicyclelaw05_SieveFactors.j0 k a0 t147 t150 (t153 != t154)))) else (epicyclelaw05_SieveFactors.j0 k a0 t147 t150 true)))) else (some false))) = some true := h
  clear h
  replace H := Option.bind_eq_some_iff.mp H
  obtain ⟨t146, A20, H⟩ := H
  replace H : (if t146 = true then ((sieve_Factor.f k a0).bind fun t147 => ((epicycleref05_Factor.f k a0).bind fun t150 => (if (t147.length : Int) = (t150.length : Int) then ((sieve_Prime.f k a0).bind fun t153 => ((epicycleref05_Prime.f k a0).bind fun t154 => (epicyclelaw05_SieveFactors.j0 k a0 t147 t150 (t153 != t154)))) else (epicyclelaw05_SieveFactors.j0 k a0 t147 t150 true)))) else (some false)) = some true := H
  have A2 := Aside0.mk A20
  clear A20
  by_cases c3 : t146 = true
  · subst c3
    have H1 : ((sieve_Factor.f k a0).bind fun t147 => ((epicycleref05_Factor.f k a0).bind fun t150 => (if (t147.length : Int) = (t150.length : Int) then ((sieve_Prime.f k a0).bind fun t153 => ((epicycleref05_Prime.f k a0).bind fun t154 => (epicyclelaw05_SieveFactors.j0 k a0 t147 t150 (t153 != t154)))) else (epicyclelaw05_SieveFactors.j0 k a0 t147 t150 true)))) = some true := by rw [if_pos rfl] at H <;> exact H
    clear H
    have H := H1
    clear H1
    replace H := Option.bind_eq_some_iff.mp H
    obtain ⟨t147, A40, H⟩ := H
    replace H : ((epicycleref05_Factor.f k a0).bind fun t150 => (if (t147.length : Int) = (t150.length : Int) then ((sieve_Prime.f k a0).bind fun t153 => ((epicycleref05_Prime.f k a0).bind fun t154 => (epicyclelaw05_SieveFactors.j0 k a0 t147 t150 (t153 != t154)))) else (epicyclelaw05_SieveFactors.j0 k a0 t147 t150 true))) = some true := H
    have A4 := Aside0.mk A40
    clear A40
    replace H := Option.bind_eq_some_iff.mp H
    obtain ⟨t150, A50, H⟩ := H
    replace H : (if (t147.length : Int) = (t150.length : Int) then ((sieve_Prime.f k a0).bind fun t153 => ((epicycleref05_Prime.f k a0).bind fun t154 => (epicyclelaw05_SieveFactors.j0 k a0 t147 t150 (t153 != t154)))) else (epicyclelaw05_SieveFactors.j0 k a0 t147 t150 true)) = some true := H
    have A5 := Aside0.mk A50
    clear A50
    have HC6 := Aside0.mk H
    clear H
    go_enter Try.func4, Try.ntmps4
    go_upto_region 4 with (first | (go_at_call 8; (with_reducible refine (epicyclelaw05_alive.calls k  true _ A2.out).mono ?_); rintro e w7 ⟨rfl, hb⟩; have n0_ := Aside0.mk (below_step (by repeat (first | (with_reducible first | exact HB.out | apply below_alloc | apply pw_below_drewN | apply below_drew1) | exact HB.out)) hb); clear HB; have HB := n0_; clear n0_; (try clear hb); (try clear hb2); (try clear hk); (try clear hi)) | (go_at_call 11; (with_reducible refine (sieve_Factor.calls k a0 t147 _ A4.out).mono ?_); rintro e w8 ⟨v148, rfl, ho0, hb⟩; have n0_ := Aside0.mk (Kd.R_lower ho0 (below_size (by repeat (first | (with_reducible first | exact HB.out | apply below_alloc | apply pw_below_drewN | apply below_drew1) | exact HB.out)))); have n1_ := Aside0.mk (below_step (by repeat (first | (with_reducible first | exact HB.out | apply below_alloc | apply pw_below_drewN | apply below_drew1) | exact HB.out)) hb); clear HB; have HO149 := n0_; have HB := n1_; clear n0_ n1_; (try clear hb); (try clear hb2); (try clear hk); (try clear hi); (try clear ho0)) | (go_at_call 12; (with_reducible refine (epicycleref05_Factor.calls k a0 t150 _ A5.out).mono ?_); rintro e w9 ⟨v151, rfl, ho0, hb⟩; have n0_ := Aside0.mk (Kd.R_below (by (with_reducible repeat (first | apply Kd.R_alloc | apply Kd.R_drewN | apply Kd.R_drew)); exact HO149.out) hb); have n1_ := Aside0.mk (Kd.R_lower ho0 (below_size (by repeat (first | (with_reducible first | exact HB.out | apply below_alloc | apply pw_below_drewN | apply below_drew1) | exact HB.out)))); have n2_ := Aside0.mk (below_step (by repeat (first | (with_reducible first | exact HB.out | apply below_alloc | apply pw_below_drewN | apply below_drew1) | exact HB.out)) hb); clear HO149; clear HB; have HO149 := n0_; have HO152 := n1_; have HB := n2_; clear n0_ n1_ n2_; (try clear hb); (try clear hb2); (try clear hk); (try clear hi); (try clear ho0)))
    repeat (go_quiet (first | (go_at_call 8; (with_reducible refine (epicyclelaw05_alive.calls k  true _ A2.out).mono ?_); rintro e w7 ⟨rfl, hb⟩; have n0_ := Aside0.mk (below_step (by repeat (first | (with_reducible first | exact HB.out | apply below_alloc | apply pw_below_drewN | apply below_drew1) | exact HB.out)) hb); clear HB; have HB := n0_; clear n0_; (try clear hb); (try clear hb2); (try clear hk); (try clear hi)) | (go_at_call 11; (with_reducible refine (sieve_Factor.calls k a0 t147 _ A4.out).mono ?_); rintro e w8 ⟨v148, rfl, ho0, hb⟩; have n0_ := Aside0.mk (Kd.R_lower ho0 (below_size (by repeat (first | (with_reducible first | exact HB.out | apply below_alloc | apply pw_below_drewN | apply below_drew1) | exact HB.out)))); have n1_ := Aside0.mk (below_step (by repeat (first | (with_reducible first | exact HB.out | apply below_alloc | apply pw_below_drewN | apply below_drew1) | exact HB.out)) hb); clear HB; have HO149 := n0_; have HB := n1_; clear n0_ n1_; (try clear hb); (try clear hb2); (try clear hk); (try clear hi); (try clear ho0)) | (go_at_call 12; (with_reducible refine (epicycleref05_Factor.calls k a0 t150 _ A5.out).mono ?_); rintro e w9 ⟨v151, rfl, ho0, hb⟩; have n0_ := Aside0.mk (Kd.R_below (by (with_reducible repeat (first | apply Kd.R_alloc | apply Kd.R_drewN | apply Kd.R_drew)); exact HO149.out) hb); have n1_ := Aside0.mk (Kd.R_lower ho0 (below_size (by repeat (first | (with_reducible first | exact HB.out | apply below_alloc | apply pw_below_drewN | apply below_drew1) | exact HB.out)))); have n2_ := Aside0.mk (below_step (by repeat (first | (with_reducible first | exact HB.out | apply below_alloc | apply pw_below_drewN | apply below_drew1) | exact HB.out)) hb); clear HO149; clear HB; have HO149 := n0_; have HO152 := n1_; have HB := n2_; clear n0_ n1_ n2_; (try clear hb); (try clear hb2); (try clear hk); (try clear hi); (try clear ho0))); go_upto_region 4 with (first | (go_at_call 8; (with_reducible refine (epicyclelaw05_alive.calls k  true _ A2.out).mono ?_); rintro e w7 ⟨rfl, hb⟩; have n0_ := Aside0.mk (below_step (by repeat (first | (with_reducible first | exact HB.out | apply below_alloc | apply pw_below_drewN | apply below_drew1) | exact HB.out)) hb); clear HB; have HB := n0_; clear n0_; (try clear hb); (try clear hb2); (try clear hk); (try clear hi)) | (go_at_call 11; (with_reducible refine (sieve_Factor.calls k a0 t147 _ A4.out).mono ?_); rintro e w8 ⟨v148, rfl, ho0, hb⟩; have n0_ := Aside0.mk (Kd.R_lower ho0 (below_size (by repeat (first | (with_reducible first | exact HB.out | apply below_alloc | apply pw_below_drewN | apply below_drew1) | exact HB.out)))); have n1_ := Aside0.mk (below_step (by repeat (first | (with_reducible first | exact HB.out | apply below_alloc | apply pw_below_drewN | apply below_drew1) | exact HB.out)) hb); clear HB; have HO149 := n0_; have HB := n1_; clear n0_ n1_; (try clear hb); (try clear hb2); (try clear hk); (try clear hi); (try clear ho0)) | (go_at_call 12; (with_reducible refine (epicycleref05_Factor.calls k a0 t150 _ A5.out).mono ?_); rintro e w9 ⟨v151, rfl, ho0, hb⟩; have n0_ := Aside0.mk (Kd.R_below (by (with_reducible repeat (first | apply Kd.R_alloc | apply Kd.R_drewN | apply Kd.R_drew)); exact HO149.out) hb); have n1_ := Aside0.mk (Kd.R_lower ho0 (below_size (by repeat (first | (with_reducible first | exact HB.out | apply below_alloc | apply pw_below_drewN | apply below_drew1) | exact HB.out)))); have n2_ := Aside0.mk (below_step (by repeat (first | (with_reducible first | exact HB.out | apply below_alloc | apply pw_below_drewN | apply below_drew1) | exact HB.out)) hb); clear HO149; clear HB; have HO149 := n0_; have HO152 := n1_; have HB := n2_; clear n0_ n1_ n2_; (try clear hb); (try clear hb2); (try clear hk); (try clear hi); (try clear ho0))))
    (try simp only [Act.put, List.setIfInBounds_toArray, List.set_cons_zero, List.set_cons_succ])
    go_cut [26] (fun v26 wc => ∃ (kq : Nat) (x26_5 : Bool), v26 = .bool x26_5 ∧ Aside0 (epicyclelaw05_SieveFactors.j0 kq a0 t147 t150 x26_5 = some true) ∧ Aside0 (kq ≤ k) ∧ Aside0 (Kd.R k33 33 wc w.heap.size (fun _ => True) v148 t147) ∧ Aside0 (Kd.R k34 34 wc w.heap.size (fun _ => True) v151 t150) ∧ Aside0 (Below w.heap.size w wc))
    case first =>
      have H := HC6.out
      clear HC6
      by_cases c10 : (t147.length : Int) = (t150.length : Int)
      · rw [if_pos c10] at H
        have c10b0 : ((t147.length : Int) == (t150.length : Int)) = true := beq_iff_eq.mpr c10
        have c10b1 : ((t147.length : Int) != (t150.length : Int)) = false := bne_eq_false_iff_eq.mpr c10
        have c10b2 : (t147.length == t150.length) = true := by first | simpa using c10 | (simp at c10 ⊢; omega)
        clear c10
        (first | rw [c10b0] | (simp only [i64_w, i32_w]; rw [c10b0]) | skip)
        replace H := Option.bind_eq_some_iff.mp H
        obtain ⟨t153, A110, H⟩ := H
        replace H : ((epicycleref05_Prime.f k a0).bind fun t154 => (epicyclelaw05_SieveFactors.j0 k a0 t147 t150 (t153 != t154))) = some true := H
        have A11 := Aside0.mk A110
        clear A110
        replace H := Option.bind_eq_some_iff.mp H
        obtain ⟨t154, A120, H⟩ := H
        replace H : (epicyclelaw05_SieveFactors.j0 k a0 t147 t150 (t153 != t154)) = some true := H
        have A12 := Aside0.mk A120
        clear A120
        have H' := Aside0.mk H
        clear H
        obtain ⟨Ao13, co13, eo13⟩ := Kd.R_slice HO149.out
        subst eo13
        obtain ⟨Ao14, co14, eo14⟩ := Kd.R_slice HO152.out
        subst eo14
        go_wp2_with (first | (go_at_call 13; (with_reducible refine (sieve_Prime.calls k a0 t153 _ A11.out).mono ?_); rintro e w15 ⟨rfl, hb⟩; have n0_ := Aside0.mk (Kd.R_below (by (with_reducible repeat (first | apply Kd.R_alloc | apply Kd.R_drewN | apply Kd.R_drew)); exact HO149.out) hb); have n1_ := Aside0.mk (Kd.R_below (by (with_reducible repeat (first | apply Kd.R_alloc | apply Kd.R_drewN | apply Kd.R_drew)); exact HO152.out) hb); have n2_ := Aside0.mk (below_step (by repeat (first | (with_reducible first | exact HB.out | apply below_alloc | apply pw_below_drewN | apply below_drew1) | exact HB.out)) hb); clear HO149; clear HO152; clear HB; have HO149 := n0_; have HO152 := n1_; have HB := n2_; clear n0_ n1_ n2_; (try clear hb); (try clear hb2); (try clear hk); (try clear hi)) | (go_at_call 10; (with_reducible refine (epicycleref05_Prime.calls k a0 t154 _ A12.out).mono ?_); rintro e w' ⟨rfl, ⟨nd, rfl⟩⟩; (try first | exact ⟨rfl, _, World.drewN_drewN _ _ _⟩ | exact ⟨rfl, _, Eq.trans (World.drewN_drewN _ _ _) (congrArg (World.drewN _) (Nat.add_assoc _ _ _))⟩)))
        repeat (go_quiet (first | (go_at_call 13; (with_reducible refine (sieve_Prime.calls k a0 t153 _ A11.out).mono ?_); rintro e w15 ⟨rfl, hb⟩; have n0_ := Aside0.mk (Kd.R_below (by (with_reducible repeat (first | apply Kd.R_alloc | apply Kd.R_drewN | apply Kd.R_drew)); exact HO149.out) hb); have n1_ := Aside0.mk (Kd.R_below (by (with_reducible repeat (first | apply Kd.R_alloc | apply Kd.R_drewN | apply Kd.R_drew)); exact HO152.out) hb); have n2_ := Aside0.mk (below_step (by repeat (first | (with_reducible first | exact HB.out | apply below_alloc | apply pw_below_drewN | apply below_drew1) | exact HB.out)) hb); clear HO149; clear HO152; clear HB; have HO149 := n0_; have HO152 := n1_; have HB := n2_; clear n0_ n1_ n2_; (try clear hb); (try clear hb2); (try clear hk); (try clear hi)) | (go_at_call 10; (with_reducible refine (epicycleref05_Prime.calls k a0 t154 _ A12.out).mono ?_); rintro e w' ⟨rfl, ⟨nd, rfl⟩⟩; (try first | exact ⟨rfl, _, World.drewN_drewN _ _ _⟩ | exact ⟨rfl, _, Eq.trans (World.drewN_drewN _ _ _) (congrArg (World.drewN _) (Nat.add_assoc _ _ _))⟩))); try go_wp2_with (first | (go_at_call 13; (with_reducible refine (sieve_Prime.calls k a0 t153 _ A11.out).mono ?_); rintro e w15 ⟨rfl, hb⟩; have n0_ := Aside0.mk (Kd.R_below (by (with_reducible repeat (first | apply Kd.R_alloc | apply Kd.R_drewN | apply Kd.R_drew)); exact HO149.out) hb); have n1_ := Aside0.mk (Kd.R_below (by (with_reducible repeat (first | apply Kd.R_alloc | apply Kd.R_drewN | apply Kd.R_drew)); exact HO152.out) hb); have n2_ := Aside0.mk (below_step (by repeat (first | (with_reducible first | exact HB.out | apply below_alloc | apply pw_below_drewN | apply below_drew1) | exact HB.out)) hb); clear HO149; clear HO152; clear HB; have HO149 := n0_; have HO152 := n1_; have HB := n2_; clear n0_ n1_ n2_; (try clear hb); (try clear hb2); (try clear hk); (try clear hi)) | (go_at_call 10; (with_reducible refine (epicycleref05_Prime.calls k a0 t154 _ A12.out).mono ?_); rintro e w' ⟨rfl, ⟨nd, rfl⟩⟩; (try first | exact ⟨rfl, _, World.drewN_drewN _ _ _⟩ | exact ⟨rfl, _, Eq.trans (World.drewN_drewN _ _ _) (congrArg (World.drewN _) (Nat.add_assoc _ _ _))⟩))))
        go_meet
        case rel => exact ⟨_, ((t153 != t154)), (by first | rfl | (simp; done) | (simp [*]; done)), H', ⟨by first | omega | exact Nat.le_refl _⟩, ⟨by (with_reducible repeat (first | apply Kd.R_alloc | apply Kd.R_drewN | apply Kd.R_drew)); exact HO149.out⟩, ⟨by (with_reducible repeat (first | apply Kd.R_alloc | apply Kd.R_drewN | apply Kd.R_drew)); exact HO152.out⟩, ⟨by repeat (first | (with_reducible first | exact HB.out | apply below_alloc | apply pw_below_drewN | apply below_drew1) | exact HB.out)⟩⟩
      · rw [if_neg c10] at H
        have c10b0 : ((t147.length : Int) == (t150.length : Int)) = false := beq_eq_false_iff_ne.mpr c10
        have c10b1 : ((t147.length : Int) != (t150.length : Int)) = true := bne_iff_ne.mpr c10
        have c10b2 : (t147.length == t150.length) = false := by first | simpa using c10 | (simp at c10 ⊢; omega)
        (first | rw [c10b0] | (simp only [i64_w, i32_w]; rw [c10b0]) | skip)
        have H' := Aside0.mk H
        clear H
        obtain ⟨Ao16, co16, eo16⟩ := Kd.R_slice HO149.out
        subst eo16
        obtain ⟨Ao17, co17, eo17⟩ := Kd.R_slice HO152.out
        subst eo17
        go_wp2
        repeat (go_quiet (fail); try go_wp2)
        go_meet
        case rel => exact ⟨_, (true), (by first | rfl | (simp; done) | (simp [*]; done)), H', ⟨by first | omega | exact Nat.le_refl _⟩, ⟨by (with_reducible repeat (first | apply Kd.R_alloc | apply Kd.R_drewN | apply Kd.R_drew)); exact HO149.out⟩, ⟨by (with_reducible repeat (first | apply Kd.R_alloc | apply Kd.R_drewN | apply Kd.R_drew)); exact HO152.out⟩, ⟨by repeat (first | (with_reducible first | exact HB.out | apply below_alloc | apply pw_below_drewN | apply below_drew1) | exact HB.out)⟩⟩
    case rest =>
      clear HC6
      try clear c1
      try clear p2
      try clear c3
      try clear c4
      try clear c10
      try clear c10b0
      try clear c10b1
      try clear c10b2
      obtain ⟨kq, x26_5, rfl, HA, HJ5, HO_3, HO_4, HB⟩ := hcut
      cases kq with
      | zero => exact absurd HA.out (by simp [epicyclelaw05_SieveFactors.j0])
      | succ kj5 =>
        have H := HA.out
        clear HA
        simp only [epicyclelaw05_SieveFactors.j0] at H
        by_cases c18 : x26_5 = true
        · subst c18
          have H1 : (some false) = some true := by rw [if_pos rfl] at H <;> exact H
          clear H
          have H := H1
          clear H1
          exact absurd H (by simp)
        · replace c18 := Bool.eq_false_iff.mpr c18
          subst c18
          have H1 : (epicyclelaw05_SieveFactors.l0 kj5 a0 t150 1 t147 (t147.length : Int) 0) = some true := by rw [if_neg (show ¬ (false = true) by decide)] at H <;> exact H
          clear H
          have H := H1
          clear H1
          have H' := Aside0.mk H
          clear H
          obtain ⟨Ao19, co19, eo19⟩ := Kd.R_slice HO_3.out
          subst eo19
          go_wp2
          repeat (go_quiet (fail); try go_wp2)
          go_loopg [5, 29] kj5 (fun kq v5 v29 w' => ∃ (x5_2 : Int) (x29_2 : Int), v5 = .int .u64 x5_2 ∧ v29 = .int .i64 x29_2 ∧ Aside0 (epicyclelaw05_SieveFactors.l0 kq a0 t150 x5_2 t147 (t147.length : Int) x29_2 = some true) ∧ Aside0 (kq ≤ kj5) ∧ Aside0 (Kd.R k34 34 w' w.heap.size (fun _ => True) v151 t150) ∧ Aside0 (Kd.R k33 33 w' w.heap.size (fun _ => True) (.slice Ao19 t147.length co19) t147) ∧ Aside0 (Below w.heap.size w w'))
          case atStart => exact ⟨(1), (0), (by first | rfl | (simp; done) | (simp [*]; done)), (by first | rfl | (simp; done) | (simp [*]; done)), H', ⟨Nat.le_refl _⟩, ⟨by (with_reducible repeat (first | apply Kd.R_alloc | apply Kd.R_drewN | apply Kd.R_drew)); exact HO_4.out⟩, ⟨by (with_reducible repeat (first | apply Kd.R_alloc | apply Kd.R_drewN | apply Kd.R_drew)); exact HO_3.out⟩, ⟨by repeat (first | (with_reducible first | exact HB.out | apply below_alloc | apply pw_below_drewN | apply below_drew1) | exact HB.out)⟩⟩
          case round =>
            clear H'
            try clear c1
            try clear p2
            try clear c3
            try clear c4
            try clear c10
            try clear c10b0
            try clear c10b1
            try clear c10b2
            try clear c18
            try clear p2
            obtain ⟨x5_2, x29_2, rfl, rfl, HA, HK2, HO_4, HO_27, HB⟩ := hrel
            cases gk with
            | zero => exact absurd HA.out (by simp [epicyclelaw05_SieveFactors.l0])
            | succ k2 =>
              have H := HA.out
              clear HA
              simp only [epicyclelaw05_SieveFactors.l0] at H
              by_cases c20 : x29_2 < (t147.length : Int)
              · rw [if_pos c20] at H
                have c20b0 : decide (x29_2 < (t147.length : Int)) = true := decide_eq_true c20
                clear c20
                by_cases c21 : 0 ≤ x29_2
                · rw [if_pos c21] at H
                  have c21b0 : decide (0 ≤ x29_2) = true := decide_eq_true c21
                  clear c21
                  by_cases c22 : x29_2 < (t147.length : Int)
                  · rw [if_pos c22] at H
                    have c22b0 : decide (x29_2 < (t147.length : Int)) = true := decide_eq_true c22
                    clear c22
                    have HC23 := Aside0.mk H
                    clear H
                    have p155 : 0 ≤ (x29_2 : Int) := of_decide_eq_true (by first | (with_reducible assumption) | assumption)
                    have q155 : x29_2 < (t147.length : Int) := of_decide_eq_true (by first | (with_reducible assumption) | assumption)
                    obtain ⟨ad155, e155, hx155_0, hx155_1⟩ := at_T33 (Kd.R_reads' HO_27.out).2.2 x29_2 p155 q155
                    cases e155
                    replace p155 := eq_true p155
                    replace q155 := eq_true q155
                    go_upto_region 10 with (first | ((with_reducible refine gate_dst (N := 7) rfl ?_); refine box_event ?hg (N := 7) ?hd (cs := #[.int .u64 0, .int .i64 0]) (t := 33) ?hr ?_; (case hd => rfl); (case hg => rfl); (case hr => first | (go_simp; done) | (go_simp; rfl)); intro gb156 hg w24 hbox hb; have n0_ := Aside0.mk (Kd.R_below (by (with_reducible repeat (first | apply Kd.R_alloc | apply Kd.R_drewN | apply Kd.R_drew)); exact HO_4.out) hb); have n1_ := Aside0.mk (Kd.R_below (Kd.R_elderB (by (with_reducible repeat (first | apply Kd.R_alloc | apply Kd.R_drewN | apply Kd.R_drew)); exact HO_27.out) gb156 (Nat.le_of_eq hg.symm)) hb); have n2_ := Aside0.mk (below_step (by repeat (first | (with_reducible first | exact HB.out | apply below_alloc | apply pw_below_drewN | apply below_drew1) | exact HB.out)) hb); have n3_ := Aside0.mk (hbox); have n4_ := Aside0.mk ((by rw [hg]; exact (below_size (by repeat (first | (with_reducible first | exact HB.out | apply below_alloc | apply pw_below_drewN | apply below_drew1) | exact HB.out))) : w.heap.size ≤ gb156)); have n5_ := Aside0.mk ((by rw [hg]; exact (below_size (by repeat (first | (with_reducible first | exact HB.out | apply below_alloc | apply pw_below_drewN | apply below_drew1) | exact HB.out))) : w.heap.size ≤ gb156)); clear HO_4; clear HO_27; clear HB; have HO_4 := n0_; have HO_27 := n1_; have HB := n2_; have BK156 := n3_; have GW156 := n4_; have GE156 := n5_; clear n0_ n1_ n2_ n3_ n4_ n5_; clear hb hbox hg; have hcz25_0 : w24.cell? ⟨gb156, 0, none⟩ = some (.int .u64 0) := (blk_cell BK156.out 0).trans rfl; have hcz25_1 : w24.cell? ⟨gb156, 1, none⟩ = some (.int .i64 0) := (blk_cell BK156.out 1).trans rfl; have hfz25_0 := blk_frozen BK156.out 0; have hfz25_1 := blk_frozen BK156.out 1))
                    repeat (go_quiet (first | ((with_reducible refine gate_dst (N := 7) rfl ?_); refine box_event ?hg (N := 7) ?hd (cs := #[.int .u64 0, .int .i64 0]) (t := 33) ?hr ?_; (case hd => rfl); (case hg => rfl); (case hr => first | (go_simp; done) | (go_simp; rfl)); intro gb156 hg w24 hbox hb; have n0_ := Aside0.mk (Kd.R_below (by (with_reducible repeat (first | apply Kd.R_alloc | apply Kd.R_drewN | apply Kd.R_drew)); exact HO_4.out) hb); have n1_ := Aside0.mk (Kd.R_below (Kd.R_elderB (by (with_reducible repeat (first | apply Kd.R_alloc | apply Kd.R_drewN | apply Kd.R_drew)); exact HO_27.out) gb156 (Nat.le_of_eq hg.symm)) hb); have n2_ := Aside0.mk (below_step (by repeat (first | (with_reducible first | exact HB.out | apply below_alloc | apply pw_below_drewN | apply below_drew1) | exact HB.out)) hb); have n3_ := Aside0.mk (hbox); have n4_ := Aside0.mk ((by rw [hg]; exact (below_size (by repeat (first | (with_reducible first | exact HB.out | apply below_alloc | apply pw_below_drewN | apply below_drew1) | exact HB.out))) : w.heap.size ≤ gb156)); have n5_ := Aside0.mk ((by rw [hg]; exact (below_size (by repeat (first | (with_reducible first | exact HB.out | apply below_alloc | apply pw_below_drewN | apply below_drew1) | exact HB.out))) : w.heap.size ≤ gb156)); clear HO_4; clear HO_27; clear HB; have HO_4 := n0_; have HO_27 := n1_; have HB := n2_; have BK156 := n3_; have GW156 := n4_; have GE156 := n5_; clear n0_ n1_ n2_ n3_ n4_ n5_; clear hb hbox hg; have hcz25_0 : w24.cell? ⟨gb156, 0, none⟩ = some (.int .u64 0) := (blk_cell BK156.out 0).trans rfl; have hcz25_1 : w24.cell? ⟨gb156, 1, none⟩ = some (.int .i64 0) := (blk_cell BK156.out 1).trans rfl; have hfz25_0 := blk_frozen BK156.out 0; have hfz25_1 := blk_frozen BK156.out 1)); go_upto_region 10 with (first | ((with_reducible refine gate_dst (N := 7) rfl ?_); refine box_event ?hg (N := 7) ?hd (cs := #[.int .u64 0, .int .i64 0]) (t := 33) ?hr ?_; (case hd => rfl); (case hg => rfl); (case hr => first | (go_simp; done) | (go_simp; rfl)); intro gb156 hg w24 hbox hb; have n0_ := Aside0.mk (Kd.R_below (by (with_reducible repeat (first | apply Kd.R_alloc | apply Kd.R_drewN | apply Kd.R_drew)); exact HO_4.out) hb); have n1_ := Aside0.mk (Kd.R_below (Kd.R_elderB (by (with_reducible repeat (first | apply Kd.R_alloc | apply Kd.R_drewN | apply Kd.R_drew)); exact HO_27.out) gb156 (Nat.le_of_eq hg.symm)) hb); have n2_ := Aside0.mk (below_step (by repeat (first | (with_reducible first | exact HB.out | apply below_alloc | apply pw_below_drewN | apply below_drew1) | exact HB.out)) hb); have n3_ := Aside0.mk (hbox); have n4_ := Aside0.mk ((by rw [hg]; exact (below_size (by repeat (first | (with_reducible first | exact HB.out | apply below_alloc | apply pw_below_drewN | apply below_drew1) | exact HB.out))) : w.heap.size ≤ gb156)); have n5_ := Aside0.mk ((by rw [hg]; exact (below_size (by repeat (first | (with_reducible first | exact HB.out | apply below_alloc | apply pw_below_drewN | apply below_drew1) | exact HB.out))) : w.heap.size ≤ gb156)); clear HO_4; clear HO_27; clear HB; have HO_4 := n0_; have HO_27 := n1_; have HB := n2_; have BK156 := n3_; have GW156 := n4_; have GE156 := n5_; clear n0_ n1_ n2_ n3_ n4_ n5_; clear hb hbox hg; have hcz25_0 : w24.cell? ⟨gb156, 0, none⟩ = some (.int .u64 0) := (blk_cell BK156.out 0).trans rfl; have hcz25_1 : w24.cell? ⟨gb156, 1, none⟩ = some (.int .i64 0) := (blk_cell BK156.out 1).trans rfl; have hfz25_0 := blk_frozen BK156.out 0; have hfz25_1 := blk_frozen BK156.out 1)))
                    (try simp only [Act.put, List.setIfInBounds_toArray, List.set_cons_zero, List.set_cons_succ])
                    go_cut [51] (fun v51 wc => ∃ (kq : Nat) (x51_22 : Bool), v51 = .bool x51_22 ∧ Aside0 (epicyclelaw05_SieveFactors.j2 kq a0 t150 x5_2 t147 (t147.length : Int) x29_2 x51_22 ((rd_T33 t147 x29_2).f0) ((rd_T33 t147 x29_2).f1) = some true) ∧ Aside0 (kq ≤ k2) ∧ Aside0 (Kd.R k34 34 wc w.heap.size (fun _ => True) v151 t150) ∧ Aside0 (Kd.R k33 33 wc w.heap.size (fun k_ => k_ ≠ gb156) (.slice (some ad155) t147.length co19) t147) ∧ Aside0 (wc.heap[gb156]? = some (.cells #[.int .u64 ((rd_T33 t147 x29_2).f0), .int .i64 ((rd_T33 t147 x29_2).f1)] 33 (0, 0))) ∧ Aside0 (Below w.heap.size w wc))
                    case first =>
                      have H := HC23.out
                      clear HC23
                      by_cases c26 : x29_2 < (t150.length : Int)
                      · rw [if_pos c26] at H
                        have c26b0 : decide (x29_2 < (t150.length : Int)) = true := decide_eq_true c26
                        clear c26
                        (first | rw [c26b0] | (simp only [i64_w, i32_w]; rw [c26b0]) | skip)
                        by_cases c27 : ((rd_T33 t147 x29_2).f0) = ((rd_T34 t150 x29_2).f0)
                        · rw [if_pos c27] at H
                          have c27b0 : (((rd_T33 t147 x29_2).f0) == ((rd_T34 t150 x29_2).f0)) = true := beq_iff_eq.mpr c27
                          have c27b1 : (((rd_T33 t147 x29_2).f0) != ((rd_T34 t150 x29_2).f0)) = false := bne_eq_false_iff_eq.mpr c27
                          clear c27
                          have H' := Aside0.mk H
                          clear H
                          have hcz28_0 : w24.cell? ⟨gb156, 0, none⟩ = some (.int .u64 0) := (blk_cell BK156.out 0).trans rfl
                          have hcz28_1 : w24.cell? ⟨gb156, 1, none⟩ = some (.int .i64 0) := (blk_cell BK156.out 1).trans rfl
                          have hfz28_0 := blk_frozen BK156.out 0
                          have hfz28_1 := blk_frozen BK156.out 1
                          obtain ⟨Ao29, co29, eo29⟩ := Kd.R_slice HO_4.out
                          subst eo29
                          have p157 : 0 ≤ (x29_2 : Int) := of_decide_eq_true (by first | (with_reducible assumption) | assumption)
                          have q157 : x29_2 < (t150.length : Int) := of_decide_eq_true (by first | (with_reducible assumption) | assumption)
                          obtain ⟨ad157, e157, hx157_0, hx157_1⟩ := at_T34 (Kd.R_reads' HO_4.out).2.2 x29_2 p157 q157
                          cases e157
                          have hn157_0 : ad157.block ≠ gb156 := Kd.own_blk (Kd.R_ne HO_4.out BK156.out (by decide))
                          have hn157_1 : ad157.block ≠ gb156 := Kd.own_blk (Kd.R_ne HO_4.out BK156.out (by decide))
                          replace hx157_0 := (cell_far (p := ⟨gb156, 0, none⟩) (by first | (rw [add_block]; exact hn157_0) | (show (Addr.add _ _).block ≠ _; rw [add_block]; exact hn157_0) | exact hn157_0) (.int .u64 ((rd_T33 t147 x29_2).f0))).trans hx157_0
                          replace hx157_1 := (cell_far (p := ⟨gb156, 0, none⟩) (by first | (rw [add_block]; exact hn157_0) | (show (Addr.add _ _).block ≠ _; rw [add_block]; exact hn157_0) | exact hn157_0) (.int .u64 ((rd_T33 t147 x29_2).f0))).trans hx157_1
                          replace hx157_0 := (cell_far (p := ⟨gb156, 1, none⟩) (by first | (rw [add_block]; exact hn157_1) | (show (Addr.add _ _).block ≠ _; rw [add_block]; exact hn157_1) | exact hn157_1) (.int .i64 ((rd_T33 t147 x29_2).f1))).trans hx157_0
                          replace hx157_1 := (cell_far (p := ⟨gb156, 1, none⟩) (by first | (rw [add_block]; exact hn157_1) | (show (Addr.add _ _).block ≠ _; rw [add_block]; exact hn157_1) | exact hn157_1) (.int .i64 ((rd_T33 t147 x29_2).f1))).trans hx157_1
                          (try have hy157_0 := fun (n_ : Nat) => (show ((((w24.drewN n_).setCell ⟨gb156, 0, none⟩ (.int .u64 ((rd_T33 t147 x29_2).f0))).setCell ⟨gb156, 1, none⟩ (.int .i64 ((rd_T33 t147 x29_2).f1)))).cell? _ = some _ from hx157_0))
                          (try have hy157_1 := fun (n_ : Nat) => (show ((((w24.drewN n_).setCell ⟨gb156, 0, none⟩ (.int .u64 ((rd_T33 t147 x29_2).f0))).setCell ⟨gb156, 1, none⟩ (.int .i64 ((rd_T33 t147 x29_2).f1)))).cell? _ = some _ from hx157_1))
                          clear hn157_0
                          clear hn157_1
                          replace p157 := eq_true p157
                          replace q157 := eq_true q157
                          have p158 : 0 ≤ (x29_2 : Int) := of_decide_eq_true (by first | (with_reducible assumption) | assumption)
                          have q158 : x29_2 < (t150.length : Int) := of_decide_eq_true (by first | (with_reducible assumption) | assumption)
                          obtain ⟨ad158, e158, hx158_0, hx158_1⟩ := at_T34 (Kd.R_reads' HO_4.out).2.2 x29_2 p158 q158
                          obtain rfl : ad157 = ad158 := (by injection e158)
                          have hn158_0 : ad157.block ≠ gb156 := Kd.own_blk (Kd.R_ne HO_4.out BK156.out (by decide))
                          have hn158_1 : ad157.block ≠ gb156 := Kd.own_blk (Kd.R_ne HO_4.out BK156.out (by decide))
                          replace hx158_0 := (cell_far (p := ⟨gb156, 0, none⟩) (by first | (rw [add_block]; exact hn158_0) | (show (Addr.add _ _).block ≠ _; rw [add_block]; exact hn158_0) | exact hn158_0) (.int .u64 ((rd_T33 t147 x29_2).f0))).trans hx158_0
                          replace hx158_1 := (cell_far (p := ⟨gb156, 0, none⟩) (by first | (rw [add_block]; exact hn158_0) | (show (Addr.add _ _).block ≠ _; rw [add_block]; exact hn158_0) | exact hn158_0) (.int .u64 ((rd_T33 t147 x29_2).f0))).trans hx158_1
                          replace hx158_0 := (cell_far (p := ⟨gb156, 1, none⟩) (by first | (rw [add_block]; exact hn158_1) | (show (Addr.add _ _).block ≠ _; rw [add_block]; exact hn158_1) | exact hn158_1) (.int .i64 ((rd_T33 t147 x29_2).f1))).trans hx158_0
                          replace hx158_1 := (cell_far (p := ⟨gb156, 1, none⟩) (by first | (rw [add_block]; exact hn158_1) | (show (Addr.add _ _).block ≠ _; rw [add_block]; exact hn158_1) | exact hn158_1) (.int .i64 ((rd_T33 t147 x29_2).f1))).trans hx158_1
                          (try have hy158_0 := fun (n_ : Nat) => (show ((((w24.drewN n_).setCell ⟨gb156, 0, none⟩ (.int .u64 ((rd_T33 t147 x29_2).f0))).setCell ⟨gb156, 1, none⟩ (.int .i64 ((rd_T33 t147 x29_2).f1)))).cell? _ = some _ from hx158_0))
                          (try have hy158_1 := fun (n_ : Nat) => (show ((((w24.drewN n_).setCell ⟨gb156, 0, none⟩ (.int .u64 ((rd_T33 t147 x29_2).f0))).setCell ⟨gb156, 1, none⟩ (.int .i64 ((rd_T33 t147 x29_2).f1)))).cell? _ = some _ from hx158_1))
                          clear hn158_0
                          clear hn158_1
                          replace p158 := eq_true p158
                          replace q158 := eq_true q158
                          go_wp2
                          repeat (go_quiet (fail); try go_wp2)
                          go_meet
                          case rel => exact ⟨_, ((((rd_T33 t147 x29_2).f1) != ((rd_T34 t150 x29_2).f1))), (by first | rfl | (simp; done) | (simp [*]; done)), H', ⟨by have := HJ5.out; have := HK2.out; first | omega | exact Nat.le_refl _⟩, ⟨by (with_reducible repeat (first | apply Kd.R_alloc | apply Kd.R_drewN | apply Kd.R_drew)); exact Kd.R_mono (Kd.R_far (p := ⟨gb156, 1, none⟩) (Kd.R_far (p := ⟨gb156, 0, none⟩) (Kd.R_types HO_4.out BK156.out (by decide)) (fun _ hk => hk.2) (.int .u64 ((rd_T33 t147 x29_2).f0))) (fun _ hk => hk.2) (.int .i64 ((rd_T33 t147 x29_2).f1))) (fun _ hk => trivial)⟩, ⟨by (with_reducible repeat (first | apply Kd.R_alloc | apply Kd.R_drewN | apply Kd.R_drew)); exact Kd.R_mono (Kd.R_far (p := ⟨gb156, 1, none⟩) (Kd.R_far (p := ⟨gb156, 0, none⟩) (Kd.R_mono HO_27.out (fun k_ hk => (⟨hk, hk.2⟩ : _ ∧ k_ ≠ gb156))) (fun _ hk => hk.2) (.int .u64 ((rd_T33 t147 x29_2).f0))) (fun _ hk => hk.2) (.int .i64 ((rd_T33 t147 x29_2).f1))) (fun _ hk => hk.1.2)⟩, ⟨by (with_reducible repeat (first | refine blk_drewN ?_ _ | refine blk_drew ?_ | refine blk_alloc ?_ _)); refine blk_put (cs := #[.int .u64 ((rd_T33 t147 x29_2).f0), .int .i64 0]) ?_ 1 _ rfl; (with_reducible repeat (first | refine blk_drewN ?_ _ | refine blk_drew ?_ | refine blk_alloc ?_ _)); refine blk_put (cs := #[.int .u64 0, .int .i64 0]) ?_ 0 _ rfl; (with_reducible repeat (first | refine blk_drewN ?_ _ | refine blk_drew ?_ | refine blk_alloc ?_ _)); exact BK156.out⟩, ⟨by repeat (first | (with_reducible first | exact HB.out | apply below_alloc | apply pw_below_drewN | apply below_drew1 | refine below_set ?_ GE156.out) | exact HB.out)⟩⟩
                        · rw [if_neg c27] at H
                          have c27b0 : (((rd_T33 t147 x29_2).f0) == ((rd_T34 t150 x29_2).f0)) = false := beq_eq_false_iff_ne.mpr c27
                          have c27b1 : (((rd_T33 t147 x29_2).f0) != ((rd_T34 t150 x29_2).f0)) = true := bne_iff_ne.mpr c27
                          have H' := Aside0.mk H
                          clear H
                          have hcz30_0 : w24.cell? ⟨gb156, 0, none⟩ = some (.int .u64 0) := (blk_cell BK156.out 0).trans rfl
                          have hcz30_1 : w24.cell? ⟨gb156, 1, none⟩ = some (.int .i64 0) := (blk_cell BK156.out 1).trans rfl
                          have hfz30_0 := blk_frozen BK156.out 0
                          have hfz30_1 := blk_frozen BK156.out 1
                          obtain ⟨Ao31, co31, eo31⟩ := Kd.R_slice HO_4.out
                          subst eo31
                          have p157 : 0 ≤ (x29_2 : Int) := of_decide_eq_true (by first | (with_reducible assumption) | assumption)
                          have q157 : x29_2 < (t150.length : Int) := of_decide_eq_true (by first | (with_reducible assumption) | assumption)
                          obtain ⟨ad157, e157, hx157_0, hx157_1⟩ := at_T34 (Kd.R_reads' HO_4.out).2.2 x29_2 p157 q157
                          cases e157
                          have hn157_0 : ad157.block ≠ gb156 := Kd.own_blk (Kd.R_ne HO_4.out BK156.out (by decide))
                          have hn157_1 : ad157.block ≠ gb156 := Kd.own_blk (Kd.R_ne HO_4.out BK156.out (by decide))
                          replace hx157_0 := (cell_far (p := ⟨gb156, 0, none⟩) (by first | (rw [add_block]; exact hn157_0) | (show (Addr.add _ _).block ≠ _; rw [add_block]; exact hn157_0) | exact hn157_0) (.int .u64 ((rd_T33 t147 x29_2).f0))).trans hx157_0
                          replace hx157_1 := (cell_far (p := ⟨gb156, 0, none⟩) (by first | (rw [add_block]; exact hn157_0) | (show (Addr.add _ _).block ≠ _; rw [add_block]; exact hn157_0) | exact hn157_0) (.int .u64 ((rd_T33 t147 x29_2).f0))).trans hx157_1
                          replace hx157_0 := (cell_far (p := ⟨gb156, 1, none⟩) (by first | (rw [add_block]; exact hn157_1) | (show (Addr.add _ _).block ≠ _; rw [add_block]; exact hn157_1) | exact hn157_1) (.int .i64 ((rd_T33 t147 x29_2).f1))).trans hx157_0
                          replace hx157_1 := (cell_far (p := ⟨gb156, 1, none⟩) (by first | (rw [add_block]; exact hn157_1) | (show (Addr.add _ _).block ≠ _; rw [add_block]; exact hn157_1) | exact hn157_1) (.int .i64 ((rd_T33 t147 x29_2).f1))).trans hx157_1
                          (try have hy157_0 := fun (n_ : Nat) => (show ((((w24.drewN n_).setCell ⟨gb156, 0, none⟩ (.int .u64 ((rd_T33 t147 x29_2).f0))).setCell ⟨gb156, 1, none⟩ (.int .i64 ((rd_T33 t147 x29_2).f1)))).cell? _ = some _ from hx157_0))
                          (try have hy157_1 := fun (n_ : Nat) => (show ((((w24.drewN n_).setCell ⟨gb156, 0, none⟩ (.int .u64 ((rd_T33 t147 x29_2).f0))).setCell ⟨gb156, 1, none⟩ (.int .i64 ((rd_T33 t147 x29_2).f1)))).cell? _ = some _ from hx157_1))
                          clear hn157_0
                          clear hn157_1
                          replace p157 := eq_true p157
                          replace q157 := eq_true q157
                          go_wp2
                          repeat (go_quiet (fail); try go_wp2)
                          go_meet
                          case rel => exact ⟨_, (true), (by first | rfl | (simp; done) | (simp [*]; done)), H', ⟨by have := HJ5.out; have := HK2.out; first | omega | exact Nat.le_refl _⟩, ⟨by (with_reducible repeat (first | apply Kd.R_alloc | apply Kd.R_drewN | apply Kd.R_drew)); exact Kd.R_mono (Kd.R_far (p := ⟨gb156, 1, none⟩) (Kd.R_far (p := ⟨gb156, 0, none⟩) (Kd.R_types HO_4.out BK156.out (by decide)) (fun _ hk => hk.2) (.int .u64 ((rd_T33 t147 x29_2).f0))) (fun _ hk => hk.2) (.int .i64 ((rd_T33 t147 x29_2).f1))) (fun _ hk => trivial)⟩, ⟨by (with_reducible repeat (first | apply Kd.R_alloc | apply Kd.R_drewN | apply Kd.R_drew)); exact Kd.R_mono (Kd.R_far (p := ⟨gb156, 1, none⟩) (Kd.R_far (p := ⟨gb156, 0, none⟩) (Kd.R_mono HO_27.out (fun k_ hk => (⟨hk, hk.2⟩ : _ ∧ k_ ≠ gb156))) (fun _ hk => hk.2) (.int .u64 ((rd_T33 t147 x29_2).f0))) (fun _ hk => hk.2) (.int .i64 ((rd_T33 t147 x29_2).f1))) (fun _ hk => hk.1.2)⟩, ⟨by (with_reducible repeat (first | refine blk_drewN ?_ _ | refine blk_drew ?_ | refine blk_alloc ?_ _)); refine blk_put (cs := #[.int .u64 ((rd_T33 t147 x29_2).f0), .int .i64 0]) ?_ 1 _ rfl; (with_reducible repeat (first | refine blk_drewN ?_ _ | refine blk_drew ?_ | refine blk_alloc ?_ _)); refine blk_put (cs := #[.int .u64 0, .int .i64 0]) ?_ 0 _ rfl; (with_reducible repeat (first | refine blk_drewN ?_ _ | refine blk_drew ?_ | refine blk_alloc ?_ _)); exact BK156.out⟩, ⟨by repeat (first | (with_reducible first | exact HB.out | apply below_alloc | apply pw_below_drewN | apply below_drew1 | refine below_set ?_ GE156.out) | exact HB.out)⟩⟩
                      · rw [if_neg c26] at H
                        exact absurd H (by simp)
                    case rest =>
                      clear HC23
                      try clear c1
                      try clear p1
                      try clear q1
                      try clear hx1
                      try clear c2
                      try clear p2
                      try clear c3
                      try clear c4
                      try clear c10
                      try clear c10b0
                      try clear c10b1
                      try clear c10b2
                      try clear p15
                      try clear q15
                      try clear hx15
                      try clear c18
                      try clear c20
                      try clear c20b0
                      try clear c21
                      try clear c21b0
                      try clear c22
                      try clear c22b0
                      try clear c26
                      try clear c26b0
                      try clear c27
                      try clear c27b0
                      try clear c27b1
                      try clear hcz25_0
                      try clear hcz25_1
                      try clear hcz28_0
                      try clear hcz28_1
                      try clear hcz30_0
                      try clear hcz30_1
                      try clear hfz25_0
                      try clear hfz25_1
                      try clear hfz28_0
                      try clear hfz28_1
                      try clear hfz30_0
                      try clear hfz30_1
                      try clear hx155_0
                      try clear hx155_1
                      try clear hx157_0
                      try clear hx157_1
                      try clear hx158_0
                      try clear hx158_1
                      try clear p155
                      try clear p157
                      try clear p158
                      try clear p2
                      try clear q155
                      try clear q157
                      try clear q158
                      obtain ⟨kq, x51_22, rfl, HA, HJ22, HO_4, HO_27, BK156, HB⟩ := hcut
                      cases kq with
                      | zero => exact absurd HA.out (by simp [epicyclelaw05_SieveFactors.j2])
                      | succ kj22 =>
                        have H := HA.out
                        clear HA
                        simp only [epicyclelaw05_SieveFactors.j2] at H
                        by_cases c32 : x51_22 = true
                        · subst c32
                          have H1 : (some false) = some true := by rw [if_pos rfl] at H <;> exact H
                          clear H
                          have H := H1
                          clear H1
                          exact absurd H (by simp)
                        · replace c32 := Bool.eq_false_iff.mpr c32
                          subst c32
                          have H1 : (epicyclelaw05_SieveFactors.l1 kj22 a0 t150 x5_2 0 t147 (t147.length : Int) x29_2 ((rd_T33 t147 x29_2).f0) ((rd_T33 t147 x29_2).f1)) = some true := by rw [if_neg (show ¬ (false = true) by decide)] at H <;> exact H
                          clear H
                          have H := H1
                          clear H1
                          have H' := Aside0.mk H
                          clear H
                          go_wp2
                          repeat (go_quiet (fail); try go_wp2)
                          go_loopg [5, 8] kj22 (fun kq v5 v8 w' => ∃ (x5_4 : Int) (x8_4 : Int), v5 = .int .u64 x5_4 ∧ v8 = .int .i64 x8_4 ∧ Aside0 (epicyclelaw05_SieveFactors.l1 kq a0 t150 x5_4 x8_4 t147 (t147.length : Int) x29_2 ((rd_T33 t147 x29_2).f0) ((rd_T33 t147 x29_2).f1) = some true) ∧ Aside0 (kq ≤ kj22) ∧ Aside0 (Kd.R k34 34 w' w.heap.size (fun _ => True) v151 t150) ∧ Aside0 (Kd.R k33 33 w' w.heap.size (fun k_ => k_ ≠ gb156) (.slice (some ad155) t147.length co19) t147) ∧ Aside0 (w'.heap[gb156]? = some (.cells #[.int .u64 ((rd_T33 t147 x29_2).f0), .int .i64 ((rd_T33 t147 x29_2).f1)] 33 (0, 0))) ∧ Aside0 (Below w.heap.size w w'))
                          case atStart => exact ⟨(x5_2), (0), (by first | rfl | (simp; done) | (simp [*]; done)), (by first | rfl | (simp; done) | (simp [*]; done)), H', ⟨Nat.le_refl _⟩, ⟨by (with_reducible repeat (first | apply Kd.R_alloc | apply Kd.R_drewN | apply Kd.R_drew)); exact HO_4.out⟩, ⟨by (with_reducible repeat (first | apply Kd.R_alloc | apply Kd.R_drewN | apply Kd.R_drew)); exact HO_27.out⟩, ⟨by (with_reducible repeat (first | refine blk_drewN ?_ _ | refine blk_drew ?_ | refine blk_alloc ?_ _)); exact BK156.out⟩, ⟨by repeat (first | (with_reducible first | exact HB.out | apply below_alloc | apply pw_below_drewN | apply below_drew1 | refine below_set ?_ GE156.out) | exact HB.out)⟩⟩
                          case round =>
                            clear H'
                            try clear c1
                            try clear p1
                            try clear q1
                            try clear hx1
                            try clear c2
                            try clear p2
                            try clear c3
                            try clear c4
                            try clear c10
                            try clear c10b0
                            try clear c10b1
                            try clear c10b2
                            try clear p15
                            try clear q15
                            try clear hx15
                            try clear c18
                            try clear c20
                            try clear c20b0
                            try clear c21
                            try clear c21b0
                            try clear c22
                            try clear c22b0
                            try clear c26
                            try clear c26b0
                            try clear c27
                            try clear c27b0
                            try clear c27b1
                            try clear c32
                            try clear hcz25_0
                            try clear hcz25_1
                            try clear hcz28_0
                            try clear hcz28_1
                            try clear hcz30_0
                            try clear hcz30_1
                            try clear hfz25_0
                            try clear hfz25_1
                            try clear hfz28_0
                            try clear hfz28_1
                            try clear hfz30_0
                            try clear hfz30_1
                            try clear hx155_0
                            try clear hx155_1
                            try clear hx157_0
                            try clear hx157_1
                            try clear hx158_0
                            try clear hx158_1
                            try clear p1
                            try clear p15
                            try clear p155
                            try clear p157
                            try clear p158
                            try clear p2
                            try clear q1
                            try clear q15
                            try clear q155
                            try clear q157
                            try clear q158
                            obtain ⟨x5_4, x8_4, rfl, rfl, HA, HK4, HO_4, HO_27, BK156, HB⟩ := hrel
                            cases gk with
                            | zero => exact absurd HA.out (by simp [epicyclelaw05_SieveFactors.l1])
                            | succ k4 =>
                              have H := HA.out
                              clear HA
                              simp only [epicyclelaw05_SieveFactors.l1] at H
                              by_cases c33 : x8_4 < ((rd_T33 t147 x29_2).f1)
                              · rw [if_pos c33] at H
                                have c33b0 : decide (x8_4 < ((rd_T33 t147 x29_2).f1)) = true := decide_eq_true c33
                                clear c33
                                have H' := Aside0.mk H
                                clear H
                                have hcz34_0 : wr.cell? ⟨gb156, 0, none⟩ = some (.int .u64 ((rd_T33 t147 x29_2).f0)) := (blk_cell BK156.out 0).trans rfl
                                have hcz34_1 : wr.cell? ⟨gb156, 1, none⟩ = some (.int .i64 ((rd_T33 t147 x29_2).f1)) := (blk_cell BK156.out 1).trans rfl
                                have hfz34_0 := blk_frozen BK156.out 0
                                have hfz34_1 := blk_frozen BK156.out 1
                                go_wp2
                                repeat (go_quiet (fail); try go_wp2)
                                go_roundg k4
                                case measure => have := HJ5.out; have := HK2.out; have := HJ22.out; have := HK4.out; omega
                                case rel => exact ⟨(IntKind.u64.wrap (x5_4 * ((rd_T33 t147 x29_2).f0))), (wrap64 (x8_4 + 1)), (by first | rfl | (simp; done) | (simp [*]; done)), (by first | rfl | (simp; done) | (simp [*]; done)), H', ⟨by have := HJ5.out; have := HK2.out; have := HJ22.out; have := HK4.out; omega⟩, ⟨by (with_reducible repeat (first | apply Kd.R_alloc | apply Kd.R_drewN | apply Kd.R_drew)); exact HO_4.out⟩, ⟨by (with_reducible repeat (first | apply Kd.R_alloc | apply Kd.R_drewN | apply Kd.R_drew)); exact HO_27.out⟩, ⟨by (with_reducible repeat (first | refine blk_drewN ?_ _ | refine blk_drew ?_ | refine blk_alloc ?_ _)); exact BK156.out⟩, ⟨by repeat (first | (with_reducible first | exact HB.out | apply below_alloc | apply pw_below_drewN | apply below_drew1 | refine below_set ?_ GE156.out) | exact HB.out)⟩⟩
                              · rw [if_neg c33] at H
                                have c33b0 : decide (x8_4 < ((rd_T33 t147 x29_2).f1)) = false := decide_eq_false c33
                                clear c33
                                have H' := Aside0.mk H
                                clear H
                                have hcz35_0 : wr.cell? ⟨gb156, 0, none⟩ = some (.int .u64 ((rd_T33 t147 x29_2).f0)) := (blk_cell BK156.out 0).trans rfl
                                have hcz35_1 : wr.cell? ⟨gb156, 1, none⟩ = some (.int .i64 ((rd_T33 t147 x29_2).f1)) := (blk_cell BK156.out 1).trans rfl
                                have hfz35_0 := blk_frozen BK156.out 0
                                have hfz35_1 := blk_frozen BK156.out 1
                                go_wp2
                                repeat (go_quiet (fail); try go_wp2)
                                go_roundg k4
                                case measure => have := HJ5.out; have := HK2.out; have := HJ22.out; have := HK4.out; omega
                                case rel => exact ⟨(x5_4), (wrap64 (x29_2 + 1)), (by first | rfl | (simp; done) | (simp [*]; done)), (by first | rfl | (simp; done) | (simp [*]; done)), H', ⟨by have := HJ5.out; have := HK2.out; have := HJ22.out; have := HK4.out; omega⟩, ⟨by (with_reducible repeat (first | apply Kd.R_alloc | apply Kd.R_drewN | apply Kd.R_drew)); exact HO_4.out⟩, ⟨by (with_reducible repeat (first | apply Kd.R_alloc | apply Kd.R_drewN | apply Kd.R_drew)); exact Kd.R_mono HO_27.out (fun _ hk => trivial)⟩, ⟨by repeat (first | (with_reducible first | exact HB.out | apply below_alloc | apply pw_below_drewN | apply below_drew1 | refine below_set ?_ GE156.out) | exact HB.out)⟩⟩
                  · rw [if_neg c22] at H
                    exact absurd H (by simp)
                · rw [if_neg c21] at H
                  exact absurd H (by simp)
              · rw [if_neg c20] at H
                have c20b0 : decide (x29_2 < (t147.length : Int)) = false := decide_eq_false c20
                clear c20
                by_cases c36 : x5_2 = a0
                · rw [if_pos c36] at H
                  have c36b0 : (x5_2 == a0) = true := beq_iff_eq.mpr c36
                  have c36b1 : (x5_2 != a0) = false := bne_eq_false_iff_eq.mpr c36
                  clear c36
                  clear H
                  go_wp2
                  repeat (go_quiet (fail); try go_wp2)
                  go_ret
                  exact ⟨by first | rfl | (simp [errW_none, errW_some] <;> rfl) | (simp [*, errW_none, errW_some] <;> rfl), by repeat (first | (with_reducible first | exact HB.out | apply below_alloc | apply pw_below_drewN | apply below_drew1) | exact HB.out)⟩
                · rw [if_neg c36] at H
                  have c36b0 : (x5_2 == a0) = false := beq_eq_false_iff_ne.mpr c36
                  have c36b1 : (x5_2 != a0) = true := bne_iff_ne.mpr c36
                  by_cases c37 : a0 < 2
                  · rw [if_pos c37] at H
                    have c37b0 : decide (a0 < 2) = true := decide_eq_true c37
                    clear c37
                    clear H
                    go_wp2
                    repeat (go_quiet (fail); try go_wp2)
                    go_ret
                    exact ⟨by first | rfl | (simp [errW_none, errW_some] <;> rfl) | (simp [*, errW_none, errW_some] <;> rfl), by repeat (first | (with_reducible first | exact HB.out | apply below_alloc | apply pw_below_drewN | apply below_drew1) | exact HB.out)⟩
                  · rw [if_neg c37] at H
                    have c37b0 : decide (a0 < 2) = false := decide_eq_false c37
                    clear c37
                    have hR_ := Option.some.inj H
                    go_wp2
                    repeat (go_quiet (fail); try go_wp2)
                    go_ret
                    exact ⟨by first | rfl | (simp [errW_none, errW_some] <;> rfl) | (simp [*, errW_none, errW_some] <;> rfl), by repeat (first | (with_reducible first | exact HB.out | apply below_alloc | apply pw_below_drewN | apply below_drew1) | exact HB.out)⟩
  · replace c3 := Bool.eq_false_iff.mpr c3
    subst c3
    have H1 : (some false) = some true := by rw [if_neg (show ¬ (false = true) by decide)] at H <;> exact H
    clear H
    have H := H1
    clear H1
    exact absurd H (by simp)

/-- THE ONE PURE STATEMENT of epicyclelaw05_SieveFactors: yours. -/
def epicyclelaw05_SieveFactors.Pure : Prop := ∀ (a0 : Int), (Lit.int .u64 a0).wf = true → ∃ k, epicyclelaw05_SieveFactors.f k a0 = some true
theorem epicyclelaw05_SieveFactors.walk (P : epicyclelaw05_SieveFactors.Pure) (a0 : Int) (w : World) (w0 : (Lit.int .u64 a0).wf = true) :
    Calls Try.prog 4 #[.int .u64 a0] w fun e w' => e = .returned (.bool true) ∧ Below w.heap.size w w' := by
  obtain ⟨k, h⟩ := P a0 w0
  refine (epicyclelaw05_SieveFactors.calls k a0 w h).mono ?_
  rintro e w' ⟨rfl, hd⟩
  exact ⟨rfl, hd⟩

/-! ### epicycleref05_Odd: function 18 -/
def epicycleref05_Odd.f (k : Nat) (a0 : Int) : Option (Bool) := if a0 > 2 then (if a0 ≤ 65536 then ((epicycleref05_Prime.f k a0).bind fun t159 => (some t159)) else (some false)) else (some false)
theorem epicycleref05_Odd.mono : ∀ a0 k, LeO (epicycleref05_Odd.f k a0) (epicycleref05_Odd.f (k + 1) a0) := by
  intro a0 k
  unfold epicycleref05_Odd.f
  repeat' first
      | (with_reducible exact epicycleref05_Prime.mono _ _)
      | (with_reducible exact LeO.refl _)
      | (with_reducible exact LeO.none _)
      | (with_reducible refine LeO.ite ?_ ?_)
      | (with_reducible refine LeO.bind ?_ (fun _ => ?_))
      | exact epicycleref05_Prime.mono _ _
      | exact LeO.none _
      | refine LeO.ite ?_ ?_
      | refine LeO.bind ?_ (fun _ => ?_)
set_option maxHeartbeats 8000000 in
set_option maxRecDepth 100000 in
theorem epicycleref05_Odd.calls (k : Nat) (a0 : Int) (r : Bool) (w : World) (h : epicycleref05_Odd.f k a0 = some r) :
    Calls Try.prog 18 #[.int .u64 a0] w fun e w' => e = .returned (.bool r) ∧ Drawn0 w w' := by
  have H : (if a0 > 2 then (if a0 ≤ 65536 then ((epicycleref05_Prime.f k a0).bind fun t159 => (some t159)) else (some false)) else (some false)) = some r := h
  clear h
  by_cases c2 : a0 > 2
  · rw [if_pos c2] at H
    have c2b0 : decide (2 < a0) = true := decide_eq_true c2
    clear c2
    by_cases c3 : a0 ≤ 65536
    · rw [if_pos c3] at H
      have c3b0 : decide (a0 ≤ 65536) = true := decide_eq_true c3
      clear c3
      replace H := Option.bind_eq_some_iff.mp H
      obtain ⟨t159, A40, H⟩ := H
      replace H : (some t159) = some r := H
      have A4 := Aside0.mk A40
      clear A40
      obtain rfl := Option.some.inj H
      go_enter Try.func18, Try.ntmps18
      go_wp2_with (first | (go_at_call 10; (with_reducible refine (epicycleref05_Prime.calls k a0 t159 _ A4.out).mono ?_); rintro e w' ⟨rfl, ⟨nd, rfl⟩⟩))
      go_ret
      exact ⟨by first | rfl | (simp; done) | (simp [*]; done), by repeat (first | exact Drawn0.refl _ | apply Drawn0.step)⟩
    · rw [if_neg c3] at H
      have c3b0 : decide (a0 ≤ 65536) = false := decide_eq_false c3
      clear c3
      obtain rfl := Option.some.inj H
      go_enter Try.func18, Try.ntmps18
      go_wp2
      go_ret
      exact ⟨by first | rfl | (simp; done) | (simp [*]; done), by repeat (first | exact Drawn0.refl _ | apply Drawn0.step)⟩
  · rw [if_neg c2] at H
    have c2b0 : decide (2 < a0) = false := decide_eq_false c2
    clear c2
    obtain rfl := Option.some.inj H
    go_enter Try.func18, Try.ntmps18
    go_wp2
    go_ret
    exact ⟨by first | rfl | (simp; done) | (simp [*]; done), by repeat (first | exact Drawn0.refl _ | apply Drawn0.step)⟩

/-! ### epicycleref05_Order: function 26 -/
def epicycleref05_Order.l0 : Nat → Int → Int → Int → Int → Option (Int)
  | 0, _, _, _, _ => none
  | k + 1, x0, x1, x5, x6 => if x6 = 1 then (some x5) else (if x1 = 0 then (none) else (epicycleref05_Order.l0 k x0 x1 (IntKind.u64.wrap (x5 + 1)) (Int.tmod (IntKind.u64.wrap (x6 * x0)) x1)))
def epicycleref05_Order.f (k : Nat) (a0 : Int) (a1 : Int) : Option (Int) := if a1 = 0 then (none) else (epicycleref05_Order.l0 k a0 a1 1 (Int.tmod a0 a1))
theorem epicycleref05_Order.mono_l : ∀ k, (∀ y0 y1 y2 y3, LeO (epicycleref05_Order.l0 k y0 y1 y2 y3) (epicycleref05_Order.l0 (k + 1) y0 y1 y2 y3))
  | 0 => fun _ _ _ _ r h => by simp [epicycleref05_Order.l0] at h
  | k + 1 => by
    have ih0 := epicycleref05_Order.mono_l k
    · intro y0 y1 y2 y3
      unfold epicycleref05_Order.l0
      repeat' first
      | (with_reducible exact ih0 _ _ _ _)
      | (with_reducible exact LeO.refl _)
      | (with_reducible exact LeO.none _)
      | (with_reducible refine LeO.ite ?_ ?_)
      | (with_reducible refine LeO.bind ?_ (fun _ => ?_))
      | exact ih0 _ _ _ _
      | exact LeO.none _
      | refine LeO.ite ?_ ?_
      | refine LeO.bind ?_ (fun _ => ?_)
theorem epicycleref05_Order.mono : ∀ a0 a1 k, LeO (epicycleref05_Order.f k a0 a1) (epicycleref05_Order.f (k + 1) a0 a1) := by
  intro a0 a1 k
  have ih0 := epicycleref05_Order.mono_l k
  unfold epicycleref05_Order.f
  repeat' first
      | (with_reducible exact ih0 _ _ _ _)
      | (with_reducible exact LeO.refl _)
      | (with_reducible exact LeO.none _)
      | (with_reducible refine LeO.ite ?_ ?_)
      | (with_reducible refine LeO.bind ?_ (fun _ => ?_))
      | exact ih0 _ _ _ _
      | exact LeO.none _
      | refine LeO.ite ?_ ?_
      | refine LeO.bind ?_ (fun _ => ?_)
set_option maxHeartbeats 8000000 in
set_option maxRecDepth 100000 in
theorem epicycleref05_Order.calls (k : Nat) (a0 : Int) (a1 : Int) (r : Int) (w : World) (h : epicycleref05_Order.f k a0 a1 = some r) :
    Calls Try.prog 26 #[.int .u64 a0, .int .u64 a1] w fun e w' => e = .returned (.int .u64 r) ∧ Drawn0 w w' := by
  have H : (if a1 = 0 then (none) else (epicycleref05_Order.l0 k a0 a1 1 (Int.tmod a0 a1))) = some r := h
  clear h
  by_cases c3 : a1 = 0
  · rw [if_pos c3] at H
    exact absurd H (by simp)
  · rw [if_neg c3] at H
    have c3b0 : (a1 == 0) = false := beq_eq_false_iff_ne.mpr c3
    have c3b1 : (a1 != 0) = true := bne_iff_ne.mpr c3
    have H' := Aside0.mk H
    clear H
    go_enter Try.func26, Try.ntmps26
    go_wp2
    go_loopg [5, 6] k (fun kq v5 v6 w' => ∃ (x5_1 : Int) (x6_1 : Int), v5 = .int .u64 x5_1 ∧ v6 = .int .u64 x6_1 ∧ Aside0 (epicycleref05_Order.l0 kq a0 a1 x5_1 x6_1 = some r) ∧ Aside0 (kq ≤ k) ∧ Drawn0 w w')
    case atStart => exact ⟨(1), (Int.tmod a0 a1), (by first | rfl | (simp; done) | (simp [*]; done)), (by first | rfl | (simp; done) | (simp [*]; done)), H', ⟨Nat.le_refl _⟩, by repeat (first | exact Drawn0.refl _ | apply Drawn0.step)⟩
    case round =>
      clear H'
      try clear c2
      try clear p2
      try clear c3
      try clear c3b0
      try clear c3b1
      obtain ⟨x5_1, x6_1, rfl, rfl, HA, HK1, ⟨m1, rfl⟩⟩ := hrel
      cases gk with
      | zero => exact absurd HA.out (by simp [epicycleref05_Order.l0])
      | succ k1 =>
        have H := HA.out
        clear HA
        simp only [epicycleref05_Order.l0] at H
        by_cases c4 : x6_1 = 1
        · rw [if_pos c4] at H
          have c4b0 : (x6_1 == 1) = true := beq_iff_eq.mpr c4
          have c4b1 : (x6_1 != 1) = false := bne_eq_false_iff_eq.mpr c4
          clear c4
          obtain rfl := Option.some.inj H
          go_wp2
          go_ret
          exact ⟨by first | rfl | (simp; done) | (simp [*]; done), by repeat (first | exact Drawn0.refl _ | apply Drawn0.step)⟩
        · rw [if_neg c4] at H
          have c4b0 : (x6_1 == 1) = false := beq_eq_false_iff_ne.mpr c4
          have c4b1 : (x6_1 != 1) = true := bne_iff_ne.mpr c4
          by_cases c5 : a1 = 0
          · rw [if_pos c5] at H
            exact absurd H (by simp)
          · rw [if_neg c5] at H
            have c5b0 : (a1 == 0) = false := beq_eq_false_iff_ne.mpr c5
            have c5b1 : (a1 != 0) = true := bne_iff_ne.mpr c5
            have H' := Aside0.mk H
            clear H
            go_wp2
            go_roundg k1
            case measure => have := HK1.out; omega
            case rel => exact ⟨(IntKind.u64.wrap (x5_1 + 1)), (Int.tmod (IntKind.u64.wrap (x6_1 * a0)) a1), (by first | rfl | (simp; done) | (simp [*]; done)), (by first | rfl | (simp; done) | (simp [*]; done)), H', ⟨by have := HK1.out; omega⟩, by repeat (first | exact Drawn0.refl _ | apply Drawn0.step)⟩

end Go.Proofs.Ytcphlhphdpjnfaa.XS
