-- Printed by a program of this session (wip/tools/mkprint.py) out of the translation.
import Derived.Test.YtlpbfhbfaphicaaXE0
import Derived.Test.YtlpbfhbfaphicaaXE1
import Derived.Test.YtlpbfhbfaphicaaOut15
namespace Go.Proofs.Ytlpbfhbfaphicaa.XE
open Go.RowKit Go.Proofs.Ytlpbfhbfaphicaa.XC Go.Proofs.YtlpbfhbfaphicaaW.PrintWords Go.Proofs.YtlpbfhbfaphicaaW.PrintLast Go.Proofs.YtlpbfhbfaphicaaW.PrintMore
attribute [local go_sem] max2_int min2_int max_two min_two max_three min_three max_four min_four   -- for this text's walks alone
set_option linter.unusedVariables false
set_option linter.unusedSimpArgs false

/-! ### epicyclelaw15_CoprimePicks: function 4 -/
mutual
noncomputable def epicyclelaw15_CoprimePicks.j0 : Nat → Int → Int → Int → Int → Bool → Option (Bool)
  | 0, _, _, _, _, _ => none
  | k + 1, x0, x1, x2, x3, x42 => if x42 = true then (some true) else ((coprime_In.f k x0 x1).bind fun t121 => ((coprime_Out.f k x0 x1).bind fun t124 => (if (t121.length : Int) = (wrap64 (x0 * x1)) then (epicyclelaw15_CoprimePicks.j1 k x0 x1 x2 x3 t121 t124 ((t124.length : Int) != (wrap64 (x0 * x1)))) else (epicyclelaw15_CoprimePicks.j1 k x0 x1 x2 x3 t121 t124 true))))
noncomputable def epicyclelaw15_CoprimePicks.j1 : Nat → Int → Int → Int → Int → List Int → List Int → Bool → Option (Bool)
  | 0, _, _, _, _, _, _, _ => none
  | k + 1, x0, x1, x2, x3, x9, x10, x62 => if x62 = true then (some false) else (if x1 = 0 then (none) else (if 0 ≤ x3 then (if x3 < (x10.length : Int) then (if 0 ≤ x2 then (if x2 < (x9.length : Int) then (if (wrap64 (x0 * x1)) = 0 then (none) else (some ((Int.tmod (wrap64 ((rd x9 x2) * x3)) (wrap64 (x0 * x1))) == (Int.tmod (wrap64 ((wrap64 (x1 * (wrap64 ((wrap64 (Int.tdiv x2 x1)) * (wrap64 (Int.tdiv (rd x10 x3) x1)))))) + (wrap64 (x0 * (wrap64 ((Int.tmod x2 x1) * (Int.tmod (rd x10 x3) x1))))))) (wrap64 (x0 * x1)))))) else (none)) else (none)) else (none)) else (none)))
end
noncomputable def epicyclelaw15_CoprimePicks.f (k : Nat) (a0 : Int) (a1 : Int) (a2 : Int) (a3 : Int) : Option (Bool) := (epicyclelaw15_alive.f k).bind fun t119 => (if t119 = true then ((epicycleref15_Table.f k a0 a1).bind fun t120 => (if t120 = true then (if a2 < 0 then (epicyclelaw15_CoprimePicks.j0 k a0 a1 a2 a3 true) else (if a2 ≥ (wrap64 (a0 * a1)) then (epicyclelaw15_CoprimePicks.j0 k a0 a1 a2 a3 true) else (if a3 < 0 then (epicyclelaw15_CoprimePicks.j0 k a0 a1 a2 a3 true) else (epicyclelaw15_CoprimePicks.j0 k a0 a1 a2 a3 (decide (a3 ≥ (wrap64 (a0 * a1)))))))) else (epicyclelaw15_CoprimePicks.j0 k a0 a1 a2 a3 true))) else (some false))
theorem epicyclelaw15_CoprimePicks.mono_l : ∀ k, (∀ y0 y1 y2 y3 y4, LeO (epicyclelaw15_CoprimePicks.j0 k y0 y1 y2 y3 y4) (epicyclelaw15_CoprimePicks.j0 (k + 1) y0 y1 y2 y3 y4)) ∧ (∀ y0 y1 y2 y3 y4 y5 y6, LeO (epicyclelaw15_CoprimePicks.j1 k y0 y1 y2 y3 y4 y5 y6) (epicyclelaw15_CoprimePicks.j1 (k + 1) y0 y1 y2 y3 y4 y5 y6))
  | 0 => ⟨fun _ _ _ _ _ r h => by simp [epicyclelaw15_CoprimePicks.j0] at h, fun _ _ _ _ _ _ _ r h => by simp [epicyclelaw15_CoprimePicks.j1] at h⟩
  | k + 1 => by
    obtain ⟨ih0, ih1⟩ := epicyclelaw15_CoprimePicks.mono_l k
    refine ⟨?_, ?_⟩
    · intro y0 y1 y2 y3 y4
      unfold epicyclelaw15_CoprimePicks.j0
      repeat' first
      | (with_reducible exact ih0 _ _ _ _ _)
      | (with_reducible exact ih1 _ _ _ _ _ _ _)
      | (with_reducible exact coprime_In.mono _ _ _)
      | (with_reducible exact coprime_Out.mono _ _ _)
      | (with_reducible exact epicyclelaw15_alive.mono _)
      | (with_reducible exact epicycleref15_Table.mono _ _ _)
      | (with_reducible exact LeO.refl _)
      | (with_reducible exact LeO.none _)
      | (with_reducible refine LeO.ite ?_ ?_)
      | (with_reducible refine LeO.bind ?_ (fun _ => ?_))
      | exact ih0 _ _ _ _ _
      | exact ih1 _ _ _ _ _ _ _
      | exact coprime_In.mono _ _ _
      | exact coprime_Out.mono _ _ _
      | exact epicyclelaw15_alive.mono _
      | exact epicycleref15_Table.mono _ _ _
      | exact LeO.none _
      | refine LeO.ite ?_ ?_
      | refine LeO.bind ?_ (fun _ => ?_)
    · intro y0 y1 y2 y3 y4 y5 y6
      unfold epicyclelaw15_CoprimePicks.j1
      repeat' first
      | (with_reducible exact ih0 _ _ _ _ _)
      | (with_reducible exact ih1 _ _ _ _ _ _ _)
      | (with_reducible exact coprime_In.mono _ _ _)
      | (with_reducible exact coprime_Out.mono _ _ _)
      | (with_reducible exact epicyclelaw15_alive.mono _)
      | (with_reducible exact epicycleref15_Table.mono _ _ _)
      | (with_reducible exact LeO.refl _)
      | (with_reducible exact LeO.none _)
      | (with_reducible refine LeO.ite ?_ ?_)
      | (with_reducible refine LeO.bind ?_ (fun _ => ?_))
      | exact ih0 _ _ _ _ _
      | exact ih1 _ _ _ _ _ _ _
      | exact coprime_In.mono _ _ _
      | exact coprime_Out.mono _ _ _
      | exact epicyclelaw15_alive.mono _
      | exact epicycleref15_Table.mono _ _ _
      | exact LeO.none _
      | refine LeO.ite ?_ ?_
      | refine LeO.bind ?_ (fun _ => ?_)
theorem epicyclelaw15_CoprimePicks.mono : ∀ a0 a1 a2 a3 k, LeO (epicyclelaw15_CoprimePicks.f k a0 a1 a2 a3) (epicyclelaw15_CoprimePicks.f (k + 1) a0 a1 a2 a3) := by
  intro a0 a1 a2 a3 k
  obtain ⟨ih0, ih1⟩ := epicyclelaw15_CoprimePicks.mono_l k
  unfold epicyclelaw15_CoprimePicks.f
  repeat' first
      | (with_reducible exact ih0 _ _ _ _ _)
      | (with_reducible exact ih1 _ _ _ _ _ _ _)
      | (with_reducible exact coprime_In.mono _ _ _)
      | (with_reducible exact coprime_Out.mono _ _ _)
      | (with_reducible exact epicyclelaw15_alive.mono _)
      | (with_reducible exact epicycleref15_Table.mono _ _ _)
      | (with_reducible exact LeO.refl _)
      | (with_reducible exact LeO.none _)
      | (with_reducible refine LeO.ite ?_ ?_)
      | (with_reducible refine LeO.bind ?_ (fun _ => ?_))
      | exact ih0 _ _ _ _ _
      | exact ih1 _ _ _ _ _ _ _
      | exact coprime_In.mono _ _ _
      | exact coprime_Out.mono _ _ _
      | exact epicyclelaw15_alive.mono _
      | exact epicycleref15_Table.mono _ _ _
      | exact LeO.none _
      | refine LeO.ite ?_ ?_
      | refine LeO.bind ?_ (fun _ => ?_)
set_option maxHeartbeats 8000000 in
set_option maxRecDepth 100000 in
theorem epicyclelaw15_CoprimePicks.calls (k : Nat) (a0 : Int) (a1 : Int) (a2 : Int) (a3 : Int) (w : World) (h : epicyclelaw15_CoprimePicks.f k a0 a1 a2 a3 = some true) :
    Calls Try.prog 4 #[.int .i64 a0, .int .i64 a1, .int .i64 a2, .int .i64 a3] w fun e w' => e = .returned (.bool true) ∧ Below w.heap.size w w' := by
  have HB := Aside0.mk (Below.refl w.heap.size w)
  have H : ((epicyclelaw15_alive.f k).bind fun t119 => (if t119 = true then ((epicycleref15_Table.f k a0 a1).bind fun t120 => (if t120 = true then (if a2 < 0 then (epicyclelaw15_CoprimePicks.j0 k a0 a1 a2 a3 true) else (if a2 ≥ (wrap64 (a0 * a1)) then (epicyclelaw15_CoprimePicks.j0 k a0 a1 a2 a3 true) else (if a3 < 0 then (epicyclelaw15_CoprimePicks.j0 k a0 a1 a2 a3 true) else (epicyclelaw15_CoprimePicks.j0 k a0 a1 a2 a3 (decide (a3 ≥ (wrap64 (a0 * a1)))))))) else (epicyclelaw15_CoprimePicks.j0 k a0 a1 a2 a3 true))) else (some false))) = some true := h
  clear h
  replace H := Option.bind_eq_some_iff.mp H
  obtain ⟨t119, A50, H⟩ := H
  replace H : (if t119 = true then ((epicycleref15_Table.f k a0 a1).bind fun t120 => (if t120 = true then (if a2 < 0 then (epicyclelaw15_CoprimePicks.j0 k a0 a1 a2 a3 true) else (if a2 ≥ (wrap64 (a0 * a1)) then (epicyclelaw15_CoprimePicks.j0 k a0 a1 a2 a3 true) else (if a3 < 0 then (epicyclelaw15_CoprimePicks.j0 k a0 a1 a2 a3 true) else (epicyclelaw15_CoprimePicks.j0 k a0 a1 a2 a3 (decide (a3 ≥ (wrap64 (a0 * a1)))))))) else (epicyclelaw15_CoprimePicks.j0 k a0 a1 a2 a3 true))) else (some false)) = some true := H
  have A5 := Aside0.mk A50
  clear A50
  by_cases c6 : t119 = true
  · subst c6
    have H1 : ((epicycleref15_Table.f k a0 a1).bind fun t120 => (if t120 = true then (if a2 < 0 then (epicyclelaw15_CoprimePicks.j0 k a0 a1 a2 a3 true) else (if a2 ≥ (wrap64 (a0 * a1)) then (epicyclelaw15_CoprimePicks.j0 k a0 a1 a2 a3 true) else (if a3 < 0 then (epicyclelaw15_CoprimePicks.j0 k a0 a1 a2 a3 true) else (epicyclelaw15_CoprimePicks.j0 k a0 a1 a2 a3 (decide (a3 ≥ (wrap64 (a0 * a1)))))))) else (epicyclelaw15_CoprimePicks.j0 k a0 a1 a2 a3 true))) = some true := by rw [if_pos rfl] at H <;> exact H
    clear H
    have H := H1
    clear H1
    have HC7 := Aside0.mk H
    clear H
    go_enter Try.func4, Try.ntmps4
    go_upto_region 3 with (first | (go_at_call 8; (with_reducible refine (epicyclelaw15_alive.calls k  true _ A5.out).mono ?_); rintro e w8 ⟨rfl, hb⟩; have n0_ := Aside0.mk (below_step (by repeat (first | (with_reducible first | exact HB.out | apply below_alloc | apply pw_below_drewN | apply below_drew1) | exact HB.out)) hb); clear HB; have HB := n0_; clear n0_; (try clear hb); (try clear hb2); (try clear hk); (try clear hi)))
    repeat (go_quiet (first | (go_at_call 8; (with_reducible refine (epicyclelaw15_alive.calls k  true _ A5.out).mono ?_); rintro e w8 ⟨rfl, hb⟩; have n0_ := Aside0.mk (below_step (by repeat (first | (with_reducible first | exact HB.out | apply below_alloc | apply pw_below_drewN | apply below_drew1) | exact HB.out)) hb); clear HB; have HB := n0_; clear n0_; (try clear hb); (try clear hb2); (try clear hk); (try clear hi))); go_upto_region 3 with (first | (go_at_call 8; (with_reducible refine (epicyclelaw15_alive.calls k  true _ A5.out).mono ?_); rintro e w8 ⟨rfl, hb⟩; have n0_ := Aside0.mk (below_step (by repeat (first | (with_reducible first | exact HB.out | apply below_alloc | apply pw_below_drewN | apply below_drew1) | exact HB.out)) hb); clear HB; have HB := n0_; clear n0_; (try clear hb); (try clear hb2); (try clear hk); (try clear hi))))
    (try simp only [Act.put, List.setIfInBounds_toArray, List.set_cons_zero, List.set_cons_succ])
    go_cut [42] (fun v42 wc => ∃ (kq : Nat) (x42_6 : Bool), v42 = .bool x42_6 ∧ Aside0 (epicyclelaw15_CoprimePicks.j0 kq a0 a1 a2 a3 x42_6 = some true) ∧ Aside0 (kq ≤ k) ∧ Aside0 (Below w.heap.size w wc))
    case first =>
      have H := HC7.out
      clear HC7
      replace H := Option.bind_eq_some_iff.mp H
      obtain ⟨t120, A90, H⟩ := H
      replace H : (if t120 = true then (if a2 < 0 then (epicyclelaw15_CoprimePicks.j0 k a0 a1 a2 a3 true) else (if a2 ≥ (wrap64 (a0 * a1)) then (epicyclelaw15_CoprimePicks.j0 k a0 a1 a2 a3 true) else (if a3 < 0 then (epicyclelaw15_CoprimePicks.j0 k a0 a1 a2 a3 true) else (epicyclelaw15_CoprimePicks.j0 k a0 a1 a2 a3 (decide (a3 ≥ (wrap64 (a0 * a1)))))))) else (epicyclelaw15_CoprimePicks.j0 k a0 a1 a2 a3 true)) = some true := H
      have A9 := Aside0.mk A90
      clear A90
      by_cases c10 : t120 = true
      · subst c10
        have H1 : (if a2 < 0 then (epicyclelaw15_CoprimePicks.j0 k a0 a1 a2 a3 true) else (if a2 ≥ (wrap64 (a0 * a1)) then (epicyclelaw15_CoprimePicks.j0 k a0 a1 a2 a3 true) else (if a3 < 0 then (epicyclelaw15_CoprimePicks.j0 k a0 a1 a2 a3 true) else (epicyclelaw15_CoprimePicks.j0 k a0 a1 a2 a3 (decide (a3 ≥ (wrap64 (a0 * a1)))))))) = some true := by rw [if_pos rfl] at H <;> exact H
        clear H
        have H := H1
        clear H1
        by_cases c11 : a2 < 0
        · rw [if_pos c11] at H
          have c11b0 : decide (a2 < 0) = true := decide_eq_true c11
          clear c11
          (first | rw [c11b0] | (simp only [i64_w, i32_w]; rw [c11b0]) | skip)
          have H' := Aside0.mk H
          clear H
          go_wp2_with (first | (go_at_call 13; (with_reducible refine (epicycleref15_Table.calls k a0 a1 true _ A9.out).mono ?_); rintro e w' ⟨rfl, ⟨nd, rfl⟩⟩; (try first | exact ⟨rfl, _, World.drewN_drewN _ _ _⟩ | exact ⟨rfl, _, Eq.trans (World.drewN_drewN _ _ _) (congrArg (World.drewN _) (Nat.add_assoc _ _ _))⟩)))
          repeat (go_quiet (first | (go_at_call 13; (with_reducible refine (epicycleref15_Table.calls k a0 a1 true _ A9.out).mono ?_); rintro e w' ⟨rfl, ⟨nd, rfl⟩⟩; (try first | exact ⟨rfl, _, World.drewN_drewN _ _ _⟩ | exact ⟨rfl, _, Eq.trans (World.drewN_drewN _ _ _) (congrArg (World.drewN _) (Nat.add_assoc _ _ _))⟩))); try go_wp2_with (first | (go_at_call 13; (with_reducible refine (epicycleref15_Table.calls k a0 a1 true _ A9.out).mono ?_); rintro e w' ⟨rfl, ⟨nd, rfl⟩⟩; (try first | exact ⟨rfl, _, World.drewN_drewN _ _ _⟩ | exact ⟨rfl, _, Eq.trans (World.drewN_drewN _ _ _) (congrArg (World.drewN _) (Nat.add_assoc _ _ _))⟩))))
          go_meet
          case rel => exact ⟨_, (true), (by first | rfl | (simp; done) | (simp [*]; done)), H', ⟨by first | omega | exact Nat.le_refl _⟩, ⟨by repeat (first | (with_reducible first | exact HB.out | apply below_alloc | apply pw_below_drewN | apply below_drew1) | exact HB.out)⟩⟩
        · rw [if_neg c11] at H
          have c11b0 : decide (a2 < 0) = false := decide_eq_false c11
          clear c11
          (first | rw [c11b0] | (simp only [i64_w, i32_w]; rw [c11b0]) | skip)
          by_cases c12 : a2 ≥ (wrap64 (a0 * a1))
          · rw [if_pos c12] at H
            have c12b0 : decide ((wrap64 (a0 * a1)) ≤ a2) = true := decide_eq_true c12
            clear c12
            have H' := Aside0.mk H
            clear H
            go_wp2_with (first | (go_at_call 13; (with_reducible refine (epicycleref15_Table.calls k a0 a1 true _ A9.out).mono ?_); rintro e w' ⟨rfl, ⟨nd, rfl⟩⟩; (try first | exact ⟨rfl, _, World.drewN_drewN _ _ _⟩ | exact ⟨rfl, _, Eq.trans (World.drewN_drewN _ _ _) (congrArg (World.drewN _) (Nat.add_assoc _ _ _))⟩)))
            repeat (go_quiet (first | (go_at_call 13; (with_reducible refine (epicycleref15_Table.calls k a0 a1 true _ A9.out).mono ?_); rintro e w' ⟨rfl, ⟨nd, rfl⟩⟩; (try first | exact ⟨rfl, _, World.drewN_drewN _ _ _⟩ | exact ⟨rfl, _, Eq.trans (World.drewN_drewN _ _ _) (congrArg (World.drewN _) (Nat.add_assoc _ _ _))⟩))); try go_wp2_with (first | (go_at_call 13; (with_reducible refine (epicycleref15_Table.calls k a0 a1 true _ A9.out).mono ?_); rintro e w' ⟨rfl, ⟨nd, rfl⟩⟩; (try first | exact ⟨rfl, _, World.drewN_drewN _ _ _⟩ | exact ⟨rfl, _, Eq.trans (World.drewN_drewN _ _ _) (congrArg (World.drewN _) (Nat.add_assoc _ _ _))⟩))))
            go_meet
            case rel => exact ⟨_, (true), (by first | rfl | (simp; done) | (simp [*]; done)), H', ⟨by first | omega | exact Nat.le_refl _⟩, ⟨by repeat (first | (with_reducible first | exact HB.out | apply below_alloc | apply pw_below_drewN | apply below_drew1) | exact HB.out)⟩⟩
          · rw [if_neg c12] at H
            have c12b0 : decide ((wrap64 (a0 * a1)) ≤ a2) = false := decide_eq_false c12
            clear c12
            by_cases c13 : a3 < 0
            · rw [if_pos c13] at H
              have c13b0 : decide (a3 < 0) = true := decide_eq_true c13
              clear c13
              have H' := Aside0.mk H
              clear H
              go_wp2_with (first | (go_at_call 13; (with_reducible refine (epicycleref15_Table.calls k a0 a1 true _ A9.out).mono ?_); rintro e w' ⟨rfl, ⟨nd, rfl⟩⟩; (try first | exact ⟨rfl, _, World.drewN_drewN _ _ _⟩ | exact ⟨rfl, _, Eq.trans (World.drewN_drewN _ _ _) (congrArg (World.drewN _) (Nat.add_assoc _ _ _))⟩)))
              repeat (go_quiet (first | (go_at_call 13; (with_reducible refine (epicycleref15_Table.calls k a0 a1 true _ A9.out).mono ?_); rintro e w' ⟨rfl, ⟨nd, rfl⟩⟩; (try first | exact ⟨rfl, _, World.drewN_drewN _ _ _⟩ | exact ⟨rfl, _, Eq.trans (World.drewN_drewN _ _ _) (congrArg (World.drewN _) (Nat.add_assoc _ _ _))⟩))); try go_wp2_with (first | (go_at_call 13; (with_reducible refine (epicycleref15_Table.calls k a0 a1 true _ A9.out).mono ?_); rintro e w' ⟨rfl, ⟨nd, rfl⟩⟩; (try first | exact ⟨rfl, _, World.drewN_drewN _ _ _⟩ | exact ⟨rfl, _, Eq.trans (World.drewN_drewN _ _ _) (congrArg (World.drewN _) (Nat.add_assoc _ _ _))⟩))))
              go_meet
              case rel => exact ⟨_, (true), (by first | rfl | (simp; done) | (simp [*]; done)), H', ⟨by first | omega | exact Nat.le_refl _⟩, ⟨by repeat (first | (with_reducible first | exact HB.out | apply below_alloc | apply pw_below_drewN | apply below_drew1) | exact HB.out)⟩⟩
            · rw [if_neg c13] at H
              have c13b0 : decide (a3 < 0) = false := decide_eq_false c13
              clear c13
              have H' := Aside0.mk H
              clear H
              go_wp2_with (first | (go_at_call 13; (with_reducible refine (epicycleref15_Table.calls k a0 a1 true _ A9.out).mono ?_); rintro e w' ⟨rfl, ⟨nd, rfl⟩⟩; (try first | exact ⟨rfl, _, World.drewN_drewN _ _ _⟩ | exact ⟨rfl, _, Eq.trans (World.drewN_drewN _ _ _) (congrArg (World.drewN _) (Nat.add_assoc _ _ _))⟩)))
              repeat (go_quiet (first | (go_at_call 13; (with_reducible refine (epicycleref15_Table.calls k a0 a1 true _ A9.out).mono ?_); rintro e w' ⟨rfl, ⟨nd, rfl⟩⟩; (try first | exact ⟨rfl, _, World.drewN_drewN _ _ _⟩ | exact ⟨rfl, _, Eq.trans (World.drewN_drewN _ _ _) (congrArg (World.drewN _) (Nat.add_assoc _ _ _))⟩))); try go_wp2_with (first | (go_at_call 13; (with_reducible refine (epicycleref15_Table.calls k a0 a1 true _ A9.out).mono ?_); rintro e w' ⟨rfl, ⟨nd, rfl⟩⟩; (try first | exact ⟨rfl, _, World.drewN_drewN _ _ _⟩ | exact ⟨rfl, _, Eq.trans (World.drewN_drewN _ _ _) (congrArg (World.drewN _) (Nat.add_assoc _ _ _))⟩))))
              go_meet
              case rel => exact ⟨_, (decide (a3 ≥ (wrap64 (a0 * a1)))), (by first | rfl | (simp; done) | (simp [*]; done)), H', ⟨by first | omega | exact Nat.le_refl _⟩, ⟨by repeat (first | (with_reducible first | exact HB.out | apply below_alloc | apply pw_below_drewN | apply below_drew1) | exact HB.out)⟩⟩
      · replace c10 := Bool.eq_false_iff.mpr c10
        subst c10
        have H1 : (epicyclelaw15_CoprimePicks.j0 k a0 a1 a2 a3 true) = some true := by rw [if_neg (show ¬ (false = true) by decide)] at H <;> exact H
        clear H
        have H := H1
        clear H1
        have H' := Aside0.mk H
        clear H
        go_wp2_with (first | (go_at_call 13; (with_reducible refine (epicycleref15_Table.calls k a0 a1 false _ A9.out).mono ?_); rintro e w' ⟨rfl, ⟨nd, rfl⟩⟩; (try first | exact ⟨rfl, _, World.drewN_drewN _ _ _⟩ | exact ⟨rfl, _, Eq.trans (World.drewN_drewN _ _ _) (congrArg (World.drewN _) (Nat.add_assoc _ _ _))⟩)))
        repeat (go_quiet (first | (go_at_call 13; (with_reducible refine (epicycleref15_Table.calls k a0 a1 false _ A9.out).mono ?_); rintro e w' ⟨rfl, ⟨nd, rfl⟩⟩; (try first | exact ⟨rfl, _, World.drewN_drewN _ _ _⟩ | exact ⟨rfl, _, Eq.trans (World.drewN_drewN _ _ _) (congrArg (World.drewN _) (Nat.add_assoc _ _ _))⟩))); try go_wp2_with (first | (go_at_call 13; (with_reducible refine (epicycleref15_Table.calls k a0 a1 false _ A9.out).mono ?_); rintro e w' ⟨rfl, ⟨nd, rfl⟩⟩; (try first | exact ⟨rfl, _, World.drewN_drewN _ _ _⟩ | exact ⟨rfl, _, Eq.trans (World.drewN_drewN _ _ _) (congrArg (World.drewN _) (Nat.add_assoc _ _ _))⟩))))
        go_meet
        case rel => exact ⟨_, (true), (by first | rfl | (simp; done) | (simp [*]; done)), H', ⟨by first | omega | exact Nat.le_refl _⟩, ⟨by repeat (first | (with_reducible first | exact HB.out | apply below_alloc | apply pw_below_drewN | apply below_drew1) | exact HB.out)⟩⟩
    case rest =>
      clear HC7
      try clear c1
      try clear p2
      try clear c4
      try clear c6
      try clear p6
      try clear c10
      try clear c11
      try clear c11b0
      try clear c12
      try clear c12b0
      try clear c13
      try clear c13b0
      obtain ⟨kq, x42_6, rfl, HA, HJ6, HB⟩ := hcut
      cases kq with
      | zero => exact absurd HA.out (by simp [epicyclelaw15_CoprimePicks.j0])
      | succ kj6 =>
        have H := HA.out
        clear HA
        simp only [epicyclelaw15_CoprimePicks.j0] at H
        by_cases c14 : x42_6 = true
        · subst c14
          have H1 : (some true) = some true := by rw [if_pos rfl] at H <;> exact H
          clear H
          have H := H1
          clear H1
          clear H
          go_wp2
          repeat (go_quiet (fail); try go_wp2)
          go_ret
          exact ⟨by first | rfl | (simp [errW_none, errW_some] <;> rfl) | (simp [*, errW_none, errW_some] <;> rfl), by repeat (first | (with_reducible first | exact HB.out | apply below_alloc | apply pw_below_drewN | apply below_drew1) | exact HB.out)⟩
        · replace c14 := Bool.eq_false_iff.mpr c14
          subst c14
          have H1 : ((coprime_In.f kj6 a0 a1).bind fun t121 => ((coprime_Out.f kj6 a0 a1).bind fun t124 => (if (t121.length : Int) = (wrap64 (a0 * a1)) then (epicyclelaw15_CoprimePicks.j1 kj6 a0 a1 a2 a3 t121 t124 ((t124.length : Int) != (wrap64 (a0 * a1)))) else (epicyclelaw15_CoprimePicks.j1 kj6 a0 a1 a2 a3 t121 t124 true)))) = some true := by rw [if_neg (show ¬ (false = true) by decide)] at H <;> exact H
          clear H
          have H := H1
          clear H1
          replace H := Option.bind_eq_some_iff.mp H
          obtain ⟨t121, A150, H⟩ := H
          replace H : ((coprime_Out.f kj6 a0 a1).bind fun t124 => (if (t121.length : Int) = (wrap64 (a0 * a1)) then (epicyclelaw15_CoprimePicks.j1 kj6 a0 a1 a2 a3 t121 t124 ((t124.length : Int) != (wrap64 (a0 * a1)))) else (epicyclelaw15_CoprimePicks.j1 kj6 a0 a1 a2 a3 t121 t124 true))) = some true := H
          have A15 := Aside0.mk A150
          clear A150
          replace H := Option.bind_eq_some_iff.mp H
          obtain ⟨t124, A160, H⟩ := H
          replace H : (if (t121.length : Int) = (wrap64 (a0 * a1)) then (epicyclelaw15_CoprimePicks.j1 kj6 a0 a1 a2 a3 t121 t124 ((t124.length : Int) != (wrap64 (a0 * a1)))) else (epicyclelaw15_CoprimePicks.j1 kj6 a0 a1 a2 a3 t121 t124 true)) = some true := H
          have A16 := Aside0.mk A160
          clear A160
          have HC17 := Aside0.mk H
          clear H
          go_upto_region 6 with (first | (go_at_call 11; (with_reducible refine (coprime_In.calls kj6 a0 a1 t121 _ A15.out).mono ?_); rintro e w18 ⟨v122, rfl, ho0, hb⟩; have n0_ := Aside0.mk (Kd.R_lower ho0 (below_size (by repeat (first | (with_reducible first | exact HB.out | apply below_alloc | apply pw_below_drewN | apply below_drew1) | exact HB.out)))); have n1_ := Aside0.mk (below_step (by repeat (first | (with_reducible first | exact HB.out | apply below_alloc | apply pw_below_drewN | apply below_drew1) | exact HB.out)) hb); clear HB; have HO123 := n0_; have HB := n1_; clear n0_ n1_; (try clear hb); (try clear hb2); (try clear hk); (try clear hi); (try clear ho0)) | (go_at_call 12; (with_reducible refine (coprime_Out.calls kj6 a0 a1 t124 _ A16.out).mono ?_); rintro e w19 ⟨v125, rfl, ho0, hb⟩; have n0_ := Aside0.mk (Kd.R_elder' (by (with_reducible repeat (first | apply Kd.R_alloc | apply Kd.R_drewN | apply Kd.R_drew)); exact HO123.out) (Kd.R_base ho0) hb); have n1_ := Aside0.mk (Kd.R_lower (Kd.R_new' ho0 (Kd.R_lt (by (with_reducible repeat (first | apply Kd.R_alloc | apply Kd.R_drewN | apply Kd.R_drew)); exact HO123.out))) (below_size (by repeat (first | (with_reducible first | exact HB.out | apply below_alloc | apply pw_below_drewN | apply below_drew1) | exact HB.out)))); have n2_ := Aside0.mk (below_step (by repeat (first | (with_reducible first | exact HB.out | apply below_alloc | apply pw_below_drewN | apply below_drew1) | exact HB.out)) hb); clear HO123; clear HB; have HO123 := n0_; have HO126 := n1_; have HB := n2_; clear n0_ n1_ n2_; (try clear hb); (try clear hb2); (try clear hk); (try clear hi); (try clear ho0)))
          repeat (go_quiet (first | (go_at_call 11; (with_reducible refine (coprime_In.calls kj6 a0 a1 t121 _ A15.out).mono ?_); rintro e w18 ⟨v122, rfl, ho0, hb⟩; have n0_ := Aside0.mk (Kd.R_lower ho0 (below_size (by repeat (first | (with_reducible first | exact HB.out | apply below_alloc | apply pw_below_drewN | apply below_drew1) | exact HB.out)))); have n1_ := Aside0.mk (below_step (by repeat (first | (with_reducible first | exact HB.out | apply below_alloc | apply pw_below_drewN | apply below_drew1) | exact HB.out)) hb); clear HB; have HO123 := n0_; have HB := n1_; clear n0_ n1_; (try clear hb); (try clear hb2); (try clear hk); (try clear hi); (try clear ho0)) | (go_at_call 12; (with_reducible refine (coprime_Out.calls kj6 a0 a1 t124 _ A16.out).mono ?_); rintro e w19 ⟨v125, rfl, ho0, hb⟩; have n0_ := Aside0.mk (Kd.R_elder' (by (with_reducible repeat (first | apply Kd.R_alloc | apply Kd.R_drewN | apply Kd.R_drew)); exact HO123.out) (Kd.R_base ho0) hb); have n1_ := Aside0.mk (Kd.R_lower (Kd.R_new' ho0 (Kd.R_lt (by (with_reducible repeat (first | apply Kd.R_alloc | apply Kd.R_drewN | apply Kd.R_drew)); exact HO123.out))) (below_size (by repeat (first | (with_reducible first | exact HB.out | apply below_alloc | apply pw_below_drewN | apply below_drew1) | exact HB.out)))); have n2_ := Aside0.mk (below_step (by repeat (first | (with_reducible first | exact HB.out | apply below_alloc | apply pw_below_drewN | apply below_drew1) | exact HB.out)) hb); clear HO123; clear HB; have HO123 := n0_; have HO126 := n1_; have HB := n2_; clear n0_ n1_ n2_; (try clear hb); (try clear hb2); (try clear hk); (try clear hi); (try clear ho0))); go_upto_region 6 with (first | (go_at_call 11; (with_reducible refine (coprime_In.calls kj6 a0 a1 t121 _ A15.out).mono ?_); rintro e w18 ⟨v122, rfl, ho0, hb⟩; have n0_ := Aside0.mk (Kd.R_lower ho0 (below_size (by repeat (first | (with_reducible first | exact HB.out | apply below_alloc | apply pw_below_drewN | apply below_drew1) | exact HB.out)))); have n1_ := Aside0.mk (below_step (by repeat (first | (with_reducible first | exact HB.out | apply below_alloc | apply pw_below_drewN | apply below_drew1) | exact HB.out)) hb); clear HB; have HO123 := n0_; have HB := n1_; clear n0_ n1_; (try clear hb); (try clear hb2); (try clear hk); (try clear hi); (try clear ho0)) | (go_at_call 12; (with_reducible refine (coprime_Out.calls kj6 a0 a1 t124 _ A16.out).mono ?_); rintro e w19 ⟨v125, rfl, ho0, hb⟩; have n0_ := Aside0.mk (Kd.R_elder' (by (with_reducible repeat (first | apply Kd.R_alloc | apply Kd.R_drewN | apply Kd.R_drew)); exact HO123.out) (Kd.R_base ho0) hb); have n1_ := Aside0.mk (Kd.R_lower (Kd.R_new' ho0 (Kd.R_lt (by (with_reducible repeat (first | apply Kd.R_alloc | apply Kd.R_drewN | apply Kd.R_drew)); exact HO123.out))) (below_size (by repeat (first | (with_reducible first | exact HB.out | apply below_alloc | apply pw_below_drewN | apply below_drew1) | exact HB.out)))); have n2_ := Aside0.mk (below_step (by repeat (first | (with_reducible first | exact HB.out | apply below_alloc | apply pw_below_drewN | apply below_drew1) | exact HB.out)) hb); clear HO123; clear HB; have HO123 := n0_; have HO126 := n1_; have HB := n2_; clear n0_ n1_ n2_; (try clear hb); (try clear hb2); (try clear hk); (try clear hi); (try clear ho0))))
          (try simp only [Act.put, List.setIfInBounds_toArray, List.set_cons_zero, List.set_cons_succ])
          go_cut [62] (fun v62 wc => ∃ (kq : Nat) (x62_16 : Bool), v62 = .bool x62_16 ∧ Aside0 (epicyclelaw15_CoprimePicks.j1 kq a0 a1 a2 a3 t121 t124 x62_16 = some true) ∧ Aside0 (kq ≤ kj6) ∧ Aside0 (Kd.R (Kd.int .i64) 3 wc w.heap.size (fun k_ => some k_ ≠ (v125 : Value).ownBlock) v122 t121) ∧ Aside0 (Kd.R (Kd.int .i64) 3 wc w.heap.size (fun k_ => some k_ ≠ (v122 : Value).ownBlock) v125 t124) ∧ Aside0 (Below w.heap.size w wc))
          case first =>
            have H := HC17.out
            clear HC17
            by_cases c20 : (t121.length : Int) = (wrap64 (a0 * a1))
            · rw [if_pos c20] at H
              have c20b0 : ((t121.length : Int) == (wrap64 (a0 * a1))) = true := beq_iff_eq.mpr c20
              have c20b1 : ((t121.length : Int) != (wrap64 (a0 * a1))) = false := bne_eq_false_iff_eq.mpr c20
              clear c20
              (first | rw [c20b0] | (simp only [i64_w, i32_w]; rw [c20b0]) | skip)
              have H' := Aside0.mk H
              clear H
              obtain ⟨Ao21, co21, eo21⟩ := Kd.R_slice HO123.out
              subst eo21
              obtain ⟨Ao22, co22, eo22⟩ := Kd.R_slice HO126.out
              subst eo22
              go_wp2
              repeat (go_quiet (fail); try go_wp2)
              go_meet
              case rel => exact ⟨_, (((t124.length : Int) != (wrap64 (a0 * a1)))), (by first | rfl | (simp; done) | (simp [*]; done)), H', ⟨by have := HJ6.out; first | omega | exact Nat.le_refl _⟩, ⟨by (with_reducible repeat (first | apply Kd.R_alloc | apply Kd.R_drewN | apply Kd.R_drew)); exact Kd.R_mono HO123.out (fun _ hk => hk.2)⟩, ⟨by (with_reducible repeat (first | apply Kd.R_alloc | apply Kd.R_drewN | apply Kd.R_drew)); exact Kd.R_mono HO126.out (fun _ hk => hk.2)⟩, ⟨by repeat (first | (with_reducible first | exact HB.out | apply below_alloc | apply pw_below_drewN | apply below_drew1) | exact HB.out)⟩⟩
            · rw [if_neg c20] at H
              have c20b0 : ((t121.length : Int) == (wrap64 (a0 * a1))) = false := beq_eq_false_iff_ne.mpr c20
              have c20b1 : ((t121.length : Int) != (wrap64 (a0 * a1))) = true := bne_iff_ne.mpr c20
              (first | rw [c20b0] | (simp only [i64_w, i32_w]; rw [c20b0]) | skip)
              have H' := Aside0.mk H
              clear H
              obtain ⟨Ao23, co23, eo23⟩ := Kd.R_slice HO123.out
              subst eo23
              go_wp2
              repeat (go_quiet (fail); try go_wp2)
              go_meet
              case rel => exact ⟨_, (true), (by first | rfl | (simp; done) | (simp [*]; done)), H', ⟨by have := HJ6.out; first | omega | exact Nat.le_refl _⟩, ⟨by (with_reducible repeat (first | apply Kd.R_alloc | apply Kd.R_drewN | apply Kd.R_drew)); exact Kd.R_mono HO123.out (fun _ hk => hk.2)⟩, ⟨by (with_reducible repeat (first | apply Kd.R_alloc | apply Kd.R_drewN | apply Kd.R_drew)); exact Kd.R_mono HO126.out (fun _ hk => hk.2)⟩, ⟨by repeat (first | (with_reducible first | exact HB.out | apply below_alloc | apply pw_below_drewN | apply below_drew1) | exact HB.out)⟩⟩
          case rest =>
            clear HC17
            try clear c1
            try clear c2
            try clear p2
            try clear c4
            try clear c6
            try clear p6
            try clear c10
            try clear c11
            try clear c11b0
            try clear c12
            try clear c12b0
            try clear c13
            try clear c13b0
            try clear c14
            try clear c20
            try clear c20b0
            try clear c20b1
            try clear p2
            try clear p6
            obtain ⟨kq, x62_16, rfl, HA, HJ16, HO_9, HO_10, HB⟩ := hcut
            cases kq with
            | zero => exact absurd HA.out (by simp [epicyclelaw15_CoprimePicks.j1])
            | succ kj16 =>
              have H := HA.out
              clear HA
              simp only [epicyclelaw15_CoprimePicks.j1] at H
              by_cases c24 : x62_16 = true
              · subst c24
                have H1 : (some false) = some true := by rw [if_pos rfl] at H <;> exact H
                clear H
                have H := H1
                clear H1
                exact absurd H (by simp)
              · replace c24 := Bool.eq_false_iff.mpr c24
                subst c24
                have H1 : (if a1 = 0 then (none) else (if 0 ≤ a3 then (if a3 < (t124.length : Int) then (if 0 ≤ a2 then (if a2 < (t121.length : Int) then (if (wrap64 (a0 * a1)) = 0 then (none) else (some ((Int.tmod (wrap64 ((rd t121 a2) * a3)) (wrap64 (a0 * a1))) == (Int.tmod (wrap64 ((wrap64 (a1 * (wrap64 ((wrap64 (Int.tdiv a2 a1)) * (wrap64 (Int.tdiv (rd t124 a3) a1)))))) + (wrap64 (a0 * (wrap64 ((Int.tmod a2 a1) * (Int.tmod (rd t124 a3) a1))))))) (wrap64 (a0 * a1)))))) else (none)) else (none)) else (none)) else (none))) = some true := by rw [if_neg (show ¬ (false = true) by decide)] at H <;> exact H
                clear H
                have H := H1
                clear H1
                by_cases c25 : a1 = 0
                · rw [if_pos c25] at H
                  exact absurd H (by simp)
                · rw [if_neg c25] at H
                  have c25b0 : (a1 == 0) = false := beq_eq_false_iff_ne.mpr c25
                  have c25b1 : (a1 != 0) = true := bne_iff_ne.mpr c25
                  by_cases c26 : 0 ≤ a3
                  · rw [if_pos c26] at H
                    have c26b0 : decide (0 ≤ a3) = true := decide_eq_true c26
                    clear c26
                    by_cases c27 : a3 < (t124.length : Int)
                    · rw [if_pos c27] at H
                      have c27b0 : decide (a3 < (t124.length : Int)) = true := decide_eq_true c27
                      clear c27
                      by_cases c28 : 0 ≤ a2
                      · rw [if_pos c28] at H
                        have c28b0 : decide (0 ≤ a2) = true := decide_eq_true c28
                        clear c28
                        by_cases c29 : a2 < (t121.length : Int)
                        · rw [if_pos c29] at H
                          have c29b0 : decide (a2 < (t121.length : Int)) = true := decide_eq_true c29
                          clear c29
                          by_cases c30 : (wrap64 (a0 * a1)) = 0
                          · rw [if_pos c30] at H
                            exact absurd H (by simp)
                          · rw [if_neg c30] at H
                            have c30b0 : ((wrap64 (a0 * a1)) == 0) = false := beq_eq_false_iff_ne.mpr c30
                            have c30b1 : ((wrap64 (a0 * a1)) != 0) = true := bne_iff_ne.mpr c30
                            have hR_ := Option.some.inj H
                            obtain ⟨Ao31, co31, eo31⟩ := Kd.R_slice HO_10.out
                            subst eo31
                            have p127 : 0 ≤ (a3 : Int) := of_decide_eq_true (by first | (with_reducible assumption) | assumption)
                            have q127 : a3 < (t124.length : Int) := of_decide_eq_true (by first | (with_reducible assumption) | assumption)
                            obtain ⟨ad127, e127, hx127_0⟩ := Kd.at_int (Kd.R_reads' HO_10.out).2.2 a3 p127 q127
                            cases e127
                            replace p127 := eq_true p127
                            replace q127 := eq_true q127
                            have p128 : 0 ≤ (a3 : Int) := of_decide_eq_true (by first | (with_reducible assumption) | assumption)
                            have q128 : a3 < (t124.length : Int) := of_decide_eq_true (by first | (with_reducible assumption) | assumption)
                            obtain ⟨ad128, e128, hx128_0⟩ := Kd.at_int (Kd.R_reads' HO_10.out).2.2 a3 p128 q128
                            obtain rfl : ad127 = ad128 := (by injection e128)
                            replace p128 := eq_true p128
                            replace q128 := eq_true q128
                            obtain ⟨Ao32, co32, eo32⟩ := Kd.R_slice HO_9.out
                            subst eo32
                            have p129 : 0 ≤ (a2 : Int) := of_decide_eq_true (by first | (with_reducible assumption) | assumption)
                            have q129 : a2 < (t121.length : Int) := of_decide_eq_true (by first | (with_reducible assumption) | assumption)
                            obtain ⟨ad129, e129, hx129_0⟩ := Kd.at_int (Kd.R_reads' HO_9.out).2.2 a2 p129 q129
                            cases e129
                            replace p129 := eq_true p129
                            replace q129 := eq_true q129
                            go_wp2
                            repeat (go_quiet (fail); try go_wp2)
                            go_ret
                            exact ⟨by first | rfl | (simp [errW_none, errW_some] <;> rfl) | (simp [*, errW_none, errW_some] <;> rfl), by repeat (first | (with_reducible first | exact HB.out | apply below_alloc | apply pw_below_drewN | apply below_drew1) | exact HB.out)⟩
                        · rw [if_neg c29] at H
                          exact absurd H (by simp)
                      · rw [if_neg c28] at H
                        exact absurd H (by simp)
                    · rw [if_neg c27] at H
                      exact absurd H (by simp)
                  · rw [if_neg c26] at H
                    exact absurd H (by simp)
  · replace c6 := Bool.eq_false_iff.mpr c6
    subst c6
    have H1 : (some false) = some true := by rw [if_neg (show ¬ (false = true) by decide)] at H <;> exact H
    clear H
    have H := H1
    clear H1
    exact absurd H (by simp)

/-- THE ONE PURE STATEMENT of epicyclelaw15_CoprimePicks: yours. -/
def epicyclelaw15_CoprimePicks.Pure : Prop := ∀ (a0 : Int) (a1 : Int) (a2 : Int) (a3 : Int), (Lit.int .i64 a0).wf = true → (Lit.int .i64 a1).wf = true → (Lit.int .i64 a2).wf = true → (Lit.int .i64 a3).wf = true → ∃ k, epicyclelaw15_CoprimePicks.f k a0 a1 a2 a3 = some true
theorem epicyclelaw15_CoprimePicks.walk (P : epicyclelaw15_CoprimePicks.Pure) (a0 : Int) (a1 : Int) (a2 : Int) (a3 : Int) (w : World) (w0 : (Lit.int .i64 a0).wf = true) (w1 : (Lit.int .i64 a1).wf = true) (w2 : (Lit.int .i64 a2).wf = true) (w3 : (Lit.int .i64 a3).wf = true) :
    Calls Try.prog 4 #[.int .i64 a0, .int .i64 a1, .int .i64 a2, .int .i64 a3] w fun e w' => e = .returned (.bool true) ∧ Below w.heap.size w w' := by
  obtain ⟨k, h⟩ := P a0 a1 a2 a3 w0 w1 w2 w3
  refine (epicyclelaw15_CoprimePicks.calls k a0 a1 a2 a3 w h).mono ?_
  rintro e w' ⟨rfl, hd⟩
  exact ⟨rfl, hd⟩

end Go.Proofs.Ytlpbfhbfaphicaa.XE
