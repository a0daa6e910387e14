-- Printed by a program of this session (wip/tools/mkprint.py) out of the translation.
import Derived.Test.YtcphlhphdpjnfaaXS0
import Derived.Test.YtcphlhphdpjnfaaGiven
namespace Go.Proofs.Ytcphlhphdpjnfaa.XS
open Go.RowKit Go.Proofs.Ytcphlhphdpjnfaa.Given Go.Proofs.YtcphlhphdpjnfaaW.PrintWords Go.Proofs.YtcphlhphdpjnfaaW.PrintLast Go.Proofs.YtcphlhphdpjnfaaW.PrintMore
attribute [local go_sem] max2_int min2_int max_two min_two max_three min_three max_four min_four   -- for this text's walks alone
set_option linter.unusedVariables false
set_option linter.unusedSimpArgs false

/-! ### sieve_Factor: function 11 -/
mutual
def sieve_Factor.j0 : Nat → Int → Bool → Option ((List (S33)))
  | 0, _, _ => none
  | k + 1, x0, x11 => if x11 = true then (some ([] : List (S33))) else (sieve_Factor.l0 k x0 ([] : List (S33)) 2)
def sieve_Factor.l0 : Nat → Int → List (S33) → Int → Option ((List (S33)))
  | 0, _, _, _ => none
  | k + 1, x0, x3, x4 => if x0 > 1 then (if (IntKind.u64.wrap (x4 * x4)) > x0 then (sieve_Factor.j2 k x0 x3 x0) else (sieve_Factor.j2 k x0 x3 x4)) else (some x3)
def sieve_Factor.j2 : Nat → Int → List (S33) → Int → Option ((List (S33)))
  | 0, _, _, _ => none
  | k + 1, x0, x3, x4 => sieve_Factor.l1 k x0 x3 x4 0
def sieve_Factor.l1 : Nat → Int → List (S33) → Int → Int → Option ((List (S33)))
  | 0, _, _, _, _ => none
  | k + 1, x0, x3, x4, x5 => if x4 = 0 then (none) else (if (Int.tmod x0 x4) = 0 then (sieve_Factor.l1 k (IntKind.u64.wrap (Int.tdiv x0 x4)) x3 x4 (wrap64 (x5 + 1))) else (if x5 > 0 then (if x3.length < 8796093022208 then (sieve_Factor.l0 k x0 (x3 ++ [(⟨x4, x5⟩ : S33)]) (IntKind.u64.wrap (x4 + 1))) else (none)) else (sieve_Factor.l0 k x0 x3 (IntKind.u64.wrap (x4 + 1)))))
end
def sieve_Factor.f (k : Nat) (a0 : Int) : Option ((List (S33))) := if a0 < 2 then (sieve_Factor.j0 k a0 true) else (sieve_Factor.j0 k a0 (decide (a0 > 4294967296)))
theorem sieve_Factor.mono_l : ∀ k, (∀ y0 y1, LeO (sieve_Factor.j0 k y0 y1) (sieve_Factor.j0 (k + 1) y0 y1)) ∧ (∀ y0 y1 y2, LeO (sieve_Factor.l0 k y0 y1 y2) (sieve_Factor.l0 (k + 1) y0 y1 y2)) ∧ (∀ y0 y1 y2, LeO (sieve_Factor.j2 k y0 y1 y2) (sieve_Factor.j2 (k + 1) y0 y1 y2)) ∧ (∀ y0 y1 y2 y3, LeO (sieve_Factor.l1 k y0 y1 y2 y3) (sieve_Factor.l1 (k + 1) y0 y1 y2 y3))
  | 0 => ⟨fun _ _ r h => by simp [sieve_Factor.j0] at h, fun _ _ _ r h => by simp [sieve_Factor.l0] at h, fun _ _ _ r h => by simp [sieve_Factor.j2] at h, fun _ _ _ _ r h => by simp [sieve_Factor.l1] at h⟩
  | k + 1 => by
    obtain ⟨ih0, ih1, ih2, ih3⟩ := sieve_Factor.mono_l k
    refine ⟨?_, ?_, ?_, ?_⟩
    · intro y0 y1
      unfold sieve_Factor.j0
      repeat' first
      | (with_reducible exact ih0 _ _)
      | (with_reducible exact ih1 _ _ _)
      | (with_reducible exact ih2 _ _ _)
      | (with_reducible exact ih3 _ _ _ _)
      | (with_reducible exact LeO.refl _)
      | (with_reducible exact LeO.none _)
      | (with_reducible refine LeO.ite ?_ ?_)
      | (with_reducible refine LeO.bind ?_ (fun _ => ?_))
      | exact ih0 _ _
      | exact ih1 _ _ _
      | exact ih2 _ _ _
      | exact ih3 _ _ _ _
      | exact LeO.none _
      | refine LeO.ite ?_ ?_
      | refine LeO.bind ?_ (fun _ => ?_)
    · intro y0 y1 y2
      unfold sieve_Factor.l0
      repeat' first
      | (with_reducible exact ih0 _ _)
      | (with_reducible exact ih1 _ _ _)
      | (with_reducible exact ih2 _ _ _)
      | (with_reducible exact ih3 _ _ _ _)
      | (with_reducible exact LeO.refl _)
      | (with_reducible exact LeO.none _)
      | (with_reducible refine LeO.ite ?_ ?_)
      | (with_reducible refine LeO.bind ?_ (fun _ => ?_))
      | exact ih0 _ _
      | exact ih1 _ _ _
      | exact ih2 _ _ _
      | exact ih3 _ _ _ _
      | exact LeO.none _
      | refine LeO.ite ?_ ?_
      | refine LeO.bind ?_ (fun _ => ?_)
    · intro y0 y1 y2
      unfold sieve_Factor.j2
      repeat' first
      | (with_reducible exact ih0 _ _)
      | (with_reducible exact ih1 _ _ _)
      | (with_reducible exact ih2 _ _ _)
      | (with_reducible exact ih3 _ _ _ _)
      | (with_reducible exact LeO.refl _)
      | (with_reducible exact LeO.none _)
      | (with_reducible refine LeO.ite ?_ ?_)
      | (with_reducible refine LeO.bind ?_ (fun _ => ?_))
      | exact ih0 _ _
      | exact ih1 _ _ _
      | exact ih2 _ _ _
      | exact ih3 _ _ _ _
      | exact LeO.none _
      | refine LeO.ite ?_ ?_
      | refine LeO.bind ?_ (fun _ => ?_)
    · intro y0 y1 y2 y3
      unfold sieve_Factor.l1
      repeat' first
      | (with_reducible exact ih0 _ _)
      | (with_reducible exact ih1 _ _ _)
      | (with_reducible exact ih2 _ _ _)
      | (with_reducible exact ih3 _ _ _ _)
      | (with_reducible exact LeO.refl _)
      | (with_reducible exact LeO.none _)
      | (with_reducible refine LeO.ite ?_ ?_)
      | (with_reducible refine LeO.bind ?_ (fun _ => ?_))
      | exact ih0 _ _
      | exact ih1 _ _ _
      | exact ih2 _ _ _
      | exact ih3 _ _ _ _
      | exact LeO.none _
      | refine LeO.ite ?_ ?_
      | refine LeO.bind ?_ (fun _ => ?_)
theorem sieve_Factor.mono : ∀ a0 k, LeO (sieve_Factor.f k a0) (sieve_Factor.f (k + 1) a0) := by
  intro a0 k
  obtain ⟨ih0, ih1, ih2, ih3⟩ := sieve_Factor.mono_l k
  unfold sieve_Factor.f
  repeat' first
      | (with_reducible exact ih0 _ _)
      | (with_reducible exact ih1 _ _ _)
      | (with_reducible exact ih2 _ _ _)
      | (with_reducible exact ih3 _ _ _ _)
      | (with_reducible exact LeO.refl _)
      | (with_reducible exact LeO.none _)
      | (with_reducible refine LeO.ite ?_ ?_)
      | (with_reducible refine LeO.bind ?_ (fun _ => ?_))
      | exact ih0 _ _
      | exact ih1 _ _ _
      | exact ih2 _ _ _
      | exact ih3 _ _ _ _
      | exact LeO.none _
      | refine LeO.ite ?_ ?_
      | refine LeO.bind ?_ (fun _ => ?_)
set_option maxHeartbeats 8000000 in
set_option maxRecDepth 100000 in
theorem sieve_Factor.calls (k : Nat) (a0 : Int) (r : List (S33)) (w : World) (h : sieve_Factor.f k a0 = some r) :
    Calls Try.prog 11 #[.int .u64 a0] w fun e w' => ∃ v0_ : Value, e = .returned (v0_) ∧ Kd.R k33 33 w' w.heap.size (fun _ => True) v0_ r ∧ Below w.heap.size w w' := by
  have hu33 := Try.underlying33
  have HB := Aside0.mk (Below.refl w.heap.size w)
  have H : (if a0 < 2 then (sieve_Factor.j0 k a0 true) else (sieve_Factor.j0 k a0 (decide (a0 > 4294967296)))) = some r := h
  clear h
  have HC2 := Aside0.mk H
  clear H
  go_enter Try.func11, Try.ntmps11
  go_upto_region 1 with (fail)
  go_cut [11] (fun v11 wc => ∃ (kq : Nat) (x11_1 : Bool), v11 = .bool x11_1 ∧ Aside0 (sieve_Factor.j0 kq a0 x11_1 = some r) ∧ Aside0 (kq ≤ k) ∧ Aside0 (Below w.heap.size w wc))
  case first =>
    have H := HC2.out
    clear HC2
    by_cases c3 : a0 < 2
    · rw [if_pos c3] at H
      have c3b0 : decide (a0 < 2) = true := decide_eq_true c3
      clear c3
      (first | rw [c3b0] | (simp only [i64_w, i32_w]; rw [c3b0]) | skip)
      have H' := Aside0.mk H
      clear H
      go_wp2
      go_meet
      case rel => exact ⟨_, (true), (by first | rfl | (simp; done) | (simp [*]; done)), H', ⟨by first | omega | exact Nat.le_refl _⟩, ⟨by repeat (first | (with_reducible first | exact HB.out | apply below_alloc | apply pw_below_drewN | apply below_drew1) | exact HB.out)⟩⟩
    · rw [if_neg c3] at H
      have c3b0 : decide (a0 < 2) = false := decide_eq_false c3
      clear c3
      (first | rw [c3b0] | (simp only [i64_w, i32_w]; rw [c3b0]) | skip)
      have H' := Aside0.mk H
      clear H
      go_wp2
      go_meet
      case rel => exact ⟨_, (decide (a0 > 4294967296)), (by first | rfl | (simp; done) | (simp [*]; done)), H', ⟨by first | omega | exact Nat.le_refl _⟩, ⟨by repeat (first | (with_reducible first | exact HB.out | apply below_alloc | apply pw_below_drewN | apply below_drew1) | exact HB.out)⟩⟩
  case rest =>
    clear HC2
    try clear c1
    try clear p2
    try clear c3
    try clear c3b0
    obtain ⟨kq, x11_1, rfl, HA, HJ1, HB⟩ := hcut
    cases kq with
    | zero => exact absurd HA.out (by simp [sieve_Factor.j0])
    | succ kj1 =>
      have H := HA.out
      clear HA
      simp only [sieve_Factor.j0] at H
      by_cases c4 : x11_1 = true
      · subst c4
        have H1 : (some ([] : List (S33))) = some r := by rw [if_pos rfl] at H <;> exact H
        clear H
        have H := H1
        clear H1
        obtain rfl := Option.some.inj H
        go_wp2
        go_ret
        exact ⟨_, by first | rfl | (simp [errW_none, errW_some] <;> rfl) | (simp [*, errW_none, errW_some] <;> rfl), by first | exact Kd.R_nil _ _ _ _ _ | exact Kd.N_nil _ _ _ _ _ | exact Kd.V_nil _ _ _ _ _ | exact Kd.Q_nil _ _ _ _ _ | exact Kd.S_nil _ _ _ _ _, by repeat (first | (with_reducible first | exact HB.out | apply below_alloc | apply pw_below_drewN | apply below_drew1) | exact HB.out)⟩
      · replace c4 := Bool.eq_false_iff.mpr c4
        subst c4
        have H1 : (sieve_Factor.l0 kj1 a0 ([] : List (S33)) 2) = some r := by rw [if_neg (show ¬ (false = true) by decide)] at H <;> exact H
        clear H
        have H := H1
        clear H1
        have H' := Aside0.mk H
        clear H
        go_wp2
        go_loopg [0, 3, 4] kj1 (fun kq v0 v3 v4 w' => ∃ (x0_2 : Int) (x3_2 : List (S33)) (x4_2 : Int), v0 = .int .u64 x0_2 ∧ v4 = .int .u64 x4_2 ∧ Aside0 (sieve_Factor.l0 kq x0_2 x3_2 x4_2 = some r) ∧ Aside0 (kq ≤ kj1) ∧ Aside0 (Kd.R k33 33 w' w.heap.size (fun _ => True) v3 x3_2) ∧ Aside0 (Below w.heap.size w w'))
        case atStart => exact ⟨(a0), (([] : List (S33))), (2), (by first | rfl | (simp; done) | (simp [*]; done)), (by first | rfl | (simp; done) | (simp [*]; done)), H', ⟨Nat.le_refl _⟩, ⟨by first | exact Kd.R_nil _ _ _ _ _ | exact Kd.N_nil _ _ _ _ _ | exact Kd.V_nil _ _ _ _ _ | exact Kd.Q_nil _ _ _ _ _ | exact Kd.S_nil _ _ _ _ _⟩, ⟨by repeat (first | (with_reducible first | exact HB.out | apply below_alloc | apply pw_below_drewN | apply below_drew1) | exact HB.out)⟩⟩
        case round =>
          clear H'
          try clear c1
          try clear p2
          try clear c3
          try clear c3b0
          try clear c4
          try clear p2
          obtain ⟨x0_2, x3_2, x4_2, rfl, rfl, HA, HK2, HO_3, HB⟩ := hrel
          cases gk with
          | zero => exact absurd HA.out (by simp [sieve_Factor.l0])
          | succ k2 =>
            have H := HA.out
            clear HA
            simp only [sieve_Factor.l0] at H
            by_cases c5 : x0_2 > 1
            · rw [if_pos c5] at H
              have c5b0 : decide (1 < x0_2) = true := decide_eq_true c5
              clear c5
              have HC6 := Aside0.mk H
              clear H
              go_upto_if 20 with (fail)
              go_cut [4] (fun v4 wc => ∃ (kq : Nat) (x4_5 : Int), v4 = .int .u64 x4_5 ∧ Aside0 (sieve_Factor.j2 kq x0_2 x3_2 x4_5 = some r) ∧ Aside0 (kq ≤ k2) ∧ Aside0 (Kd.R k33 33 wc w.heap.size (fun _ => True) u3 x3_2) ∧ Aside0 (Below w.heap.size w wc))
              case first =>
                have H := HC6.out
                clear HC6
                by_cases c7 : (IntKind.u64.wrap (x4_2 * x4_2)) > x0_2
                · rw [if_pos c7] at H
                  have c7b0 : decide (x0_2 < (IntKind.u64.wrap (x4_2 * x4_2))) = true := decide_eq_true c7
                  clear c7
                  (first | rw [c7b0] | (simp only [i64_w, i32_w]; rw [c7b0]) | skip)
                  have H' := Aside0.mk H
                  clear H
                  go_wp2
                  go_meet
                  case rel => exact ⟨_, (x0_2), (by first | rfl | (simp; done) | (simp [*]; done)), H', ⟨by have := HJ1.out; have := HK2.out; first | omega | exact Nat.le_refl _⟩, ⟨by (with_reducible repeat (first | apply Kd.R_alloc | apply Kd.R_drewN | apply Kd.R_drew)); exact HO_3.out⟩, ⟨by repeat (first | (with_reducible first | exact HB.out | apply below_alloc | apply pw_below_drewN | apply below_drew1) | exact HB.out)⟩⟩
                · rw [if_neg c7] at H
                  have c7b0 : decide (x0_2 < (IntKind.u64.wrap (x4_2 * x4_2))) = false := decide_eq_false c7
                  clear c7
                  (first | rw [c7b0] | (simp only [i64_w, i32_w]; rw [c7b0]) | skip)
                  have H' := Aside0.mk H
                  clear H
                  go_wp2
                  go_meet
                  case rel => exact ⟨_, (x4_2), (by first | rfl | (simp; done) | (simp [*]; done)), H', ⟨by have := HJ1.out; have := HK2.out; first | omega | exact Nat.le_refl _⟩, ⟨by (with_reducible repeat (first | apply Kd.R_alloc | apply Kd.R_drewN | apply Kd.R_drew)); exact HO_3.out⟩, ⟨by repeat (first | (with_reducible first | exact HB.out | apply below_alloc | apply pw_below_drewN | apply below_drew1) | exact HB.out)⟩⟩
              case rest =>
                clear HC6
                try clear c1
                try clear p2
                try clear c3
                try clear c3b0
                try clear c4
                try clear c5
                try clear c5b0
                try clear c7
                try clear c7b0
                try clear p2
                obtain ⟨kq, x4_5, rfl, HA, HJ5, HO_3, HB⟩ := hcut
                cases kq with
                | zero => exact absurd HA.out (by simp [sieve_Factor.j2])
                | succ kj5 =>
                  have H := HA.out
                  clear HA
                  simp only [sieve_Factor.j2] at H
                  have H' := Aside0.mk H
                  clear H
                  go_wp2
                  go_loopg [0, 5] kj5 (fun kq v0 v5 w' => ∃ (x0_4 : Int) (x5_4 : Int), v0 = .int .u64 x0_4 ∧ v5 = .int .i64 x5_4 ∧ Aside0 (sieve_Factor.l1 kq x0_4 x3_2 x4_5 x5_4 = some r) ∧ Aside0 (kq ≤ kj5) ∧ Aside0 (Kd.R k33 33 w' w.heap.size (fun _ => True) u3 x3_2) ∧ Aside0 (Below w.heap.size w w'))
                  case atStart => exact ⟨(x0_2), (0), (by first | rfl | (simp; done) | (simp [*]; done)), (by first | rfl | (simp; done) | (simp [*]; done)), H', ⟨Nat.le_refl _⟩, ⟨by (with_reducible repeat (first | apply Kd.R_alloc | apply Kd.R_drewN | apply Kd.R_drew)); exact HO_3.out⟩, ⟨by repeat (first | (with_reducible first | exact HB.out | apply below_alloc | apply pw_below_drewN | apply below_drew1) | exact HB.out)⟩⟩
                  case round =>
                    clear H'
                    try clear c1
                    try clear p2
                    try clear c3
                    try clear c3b0
                    try clear c4
                    try clear c5
                    try clear c5b0
                    try clear c7
                    try clear c7b0
                    try clear p2
                    obtain ⟨x0_4, x5_4, rfl, rfl, HA, HK4, HO_3, HB⟩ := hrel
                    cases gk with
                    | zero => exact absurd HA.out (by simp [sieve_Factor.l1])
                    | succ k4 =>
                      have H := HA.out
                      clear HA
                      simp only [sieve_Factor.l1] at H
                      by_cases c8 : x4_5 = 0
                      · rw [if_pos c8] at H
                        exact absurd H (by simp)
                      · rw [if_neg c8] at H
                        have c8b0 : (x4_5 == 0) = false := beq_eq_false_iff_ne.mpr c8
                        have c8b1 : (x4_5 != 0) = true := bne_iff_ne.mpr c8
                        by_cases c9 : (Int.tmod x0_4 x4_5) = 0
                        · rw [if_pos c9] at H
                          have c9b0 : ((Int.tmod x0_4 x4_5) == 0) = true := beq_iff_eq.mpr c9
                          have c9b1 : ((Int.tmod x0_4 x4_5) != 0) = false := bne_eq_false_iff_eq.mpr c9
                          clear c9
                          have H' := Aside0.mk H
                          clear H
                          go_wp2
                          go_roundg k4
                          case measure => have := HJ1.out; have := HK2.out; have := HJ5.out; have := HK4.out; omega
                          case rel => exact ⟨(IntKind.u64.wrap (Int.tdiv x0_4 x4_5)), (wrap64 (x5_4 + 1)), (by first | rfl | (simp; done) | (simp [*]; done)), (by first | rfl | (simp; done) | (simp [*]; done)), H', ⟨by have := HJ1.out; have := HK2.out; have := HJ5.out; have := HK4.out; omega⟩, ⟨by (with_reducible repeat (first | apply Kd.R_alloc | apply Kd.R_drewN | apply Kd.R_drew)); exact HO_3.out⟩, ⟨by repeat (first | (with_reducible first | exact HB.out | apply below_alloc | apply pw_below_drewN | apply below_drew1) | exact HB.out)⟩⟩
                        · rw [if_neg c9] at H
                          have c9b0 : ((Int.tmod x0_4 x4_5) == 0) = false := beq_eq_false_iff_ne.mpr c9
                          have c9b1 : ((Int.tmod x0_4 x4_5) != 0) = true := bne_iff_ne.mpr c9
                          by_cases c10 : x5_4 > 0
                          · rw [if_pos c10] at H
                            have c10b0 : decide (0 < x5_4) = true := decide_eq_true c10
                            clear c10
                            by_cases c11 : x3_2.length < 8796093022208
                            · rw [if_pos c11] at H
                              have LMc11 := Aside0.mk c11
                              clear c11
                              obtain ⟨y110, hy110⟩ : ∃ y_ : List (S33), y_ = (x3_2 ++ [(⟨x4_5, x5_4⟩ : S33)]) := ⟨_, rfl⟩
                              replace H : (sieve_Factor.l0 k4 x0_4 y110 (IntKind.u64.wrap (x4_5 + 1))) = some r := by first | (rw [hy110]; with_reducible exact H) | (have H2_ := (Option.bind_some _ _).symm.trans H; rw [hy110]; with_reducible exact H2_) | (have H2_ := (Option.bind_some _ _).symm.trans H; with_reducible exact H2_) | with_reducible exact H | (rw [hy110]; exact H) | exact H
                              have Ny110 := Aside0.mk hy110
                              clear hy110
                              have H' := Aside0.mk H
                              clear H
                              go_wp2_with (first | ((with_reducible refine gate_builtin (b := .append) (xs := #[.tmp 33, .tmp 37]) rfl ?_); at_builtin; refine Kd.R_append k33 (w0 := w) w.heap.size rfl (.tmp 33) (.tmp 37) 28 33 (.agg #[(.int .u64 0), (.int .i64 0)]) 16 rfl Try.underlying28 info33 rfl (by decide) (by omega) u3 x3_2 (⟨x4_5, x5_4⟩ : S33) [.int .u64 x4_5, .int .i64 x5_4] (fun _ => True) (fun _ => False) rfl rfl ?aP (fun _ hk => hk.elim) ?aF ?aO ?aB ?aS ?aL ?_; (case aP => exact k33_mkM _ _ _ (⟨x4_5, x5_4⟩ : S33)); (case aB => exact (by repeat (first | (with_reducible first | exact HB.out | apply below_alloc | apply pw_below_drewN | apply below_drew1) | exact HB.out))); (case aF => exact (fun _ _ => trivial)); (case aO => exact (by (with_reducible repeat (first | apply Kd.R_alloc | apply Kd.R_drewN | apply Kd.R_drew)); exact HO_3.out)); (case aS => exact (below_size (by repeat (first | (with_reducible first | exact HB.out | apply below_alloc | apply pw_below_drewN | apply below_drew1) | exact HB.out)))); (case aL => have := LMc11.out; omega); intro v111 w12 ho hb hg hat; rw [← Ny110.out] at ho; have n0_ := Aside0.mk (hb); have n1_ := Aside0.mk (ho); clear HB; clear HO_3; have HB := n0_; have HO112 := n1_; clear n0_ n1_; clear ho hb hg hat))
                              go_roundg k4
                              case measure => have := HJ1.out; have := HK2.out; have := HJ5.out; have := HK4.out; omega
                              case rel => exact ⟨(x0_4), (y110), (IntKind.u64.wrap (x4_5 + 1)), (by first | rfl | (simp; done) | (simp [*]; done)), (by first | rfl | (simp; done) | (simp [*]; done)), H', ⟨by have := HJ1.out; have := HK2.out; have := HJ5.out; have := HK4.out; omega⟩, ⟨by (with_reducible repeat (first | apply Kd.R_alloc | apply Kd.R_drewN | apply Kd.R_drew)); exact HO112.out⟩, ⟨by repeat (first | (with_reducible first | exact HB.out | apply below_alloc | apply pw_below_drewN | apply below_drew1) | exact HB.out)⟩⟩
                            · rw [if_neg c11] at H
                              exact absurd H (by simp)
                          · rw [if_neg c10] at H
                            have c10b0 : decide (0 < x5_4) = false := decide_eq_false c10
                            clear c10
                            have H' := Aside0.mk H
                            clear H
                            go_wp2
                            go_roundg k4
                            case measure => have := HJ1.out; have := HK2.out; have := HJ5.out; have := HK4.out; omega
                            case rel => exact ⟨(x0_4), (x3_2), (IntKind.u64.wrap (x4_5 + 1)), (by first | rfl | (simp; done) | (simp [*]; done)), (by first | rfl | (simp; done) | (simp [*]; done)), H', ⟨by have := HJ1.out; have := HK2.out; have := HJ5.out; have := HK4.out; omega⟩, ⟨by (with_reducible repeat (first | apply Kd.R_alloc | apply Kd.R_drewN | apply Kd.R_drew)); exact HO_3.out⟩, ⟨by repeat (first | (with_reducible first | exact HB.out | apply below_alloc | apply pw_below_drewN | apply below_drew1) | exact HB.out)⟩⟩
            · rw [if_neg c5] at H
              have c5b0 : decide (1 < x0_2) = false := decide_eq_false c5
              clear c5
              obtain rfl := Option.some.inj H
              go_wp2
              go_ret
              exact ⟨_, by first | rfl | (simp [errW_none, errW_some] <;> rfl) | (simp [*, errW_none, errW_some] <;> rfl), by (with_reducible repeat (first | apply Kd.R_alloc | apply Kd.R_drewN | apply Kd.R_drew)); exact HO_3.out, by repeat (first | (with_reducible first | exact HB.out | apply below_alloc | apply pw_below_drewN | apply below_drew1) | exact HB.out)⟩

/-! ### sieve_Prime: function 13 -/
def sieve_Prime.f (k : Nat) (a0 : Int) : Option (Bool) := (sieve_Factor.f k a0).bind fun t113 => (if (t113.length : Int) = 1 then (if 0 < (t113.length : Int) then (some (((rd_T33 t113 0).f1) == 1)) else (none)) else (some false))
theorem sieve_Prime.mono : ∀ a0 k, LeO (sieve_Prime.f k a0) (sieve_Prime.f (k + 1) a0) := by
  intro a0 k
  unfold sieve_Prime.f
  repeat' first
      | (with_reducible exact sieve_Factor.mono _ _)
      | (with_reducible exact LeO.refl _)
      | (with_reducible exact LeO.none _)
      | (with_reducible refine LeO.ite ?_ ?_)
      | (with_reducible refine LeO.bind ?_ (fun _ => ?_))
      | exact sieve_Factor.mono _ _
      | exact LeO.none _
      | refine LeO.ite ?_ ?_
      | refine LeO.bind ?_ (fun _ => ?_)
set_option maxHeartbeats 8000000 in
set_option maxRecDepth 100000 in
theorem sieve_Prime.calls (k : Nat) (a0 : Int) (r : Bool) (w : World) (h : sieve_Prime.f k a0 = some r) :
    Calls Try.prog 13 #[.int .u64 a0] w fun e w' => e = .returned (.bool r) ∧ Below w.heap.size w w' := by
  have HB := Aside0.mk (Below.refl w.heap.size w)
  have H : ((sieve_Factor.f k a0).bind fun t113 => (if (t113.length : Int) = 1 then (if 0 < (t113.length : Int) then (some (((rd_T33 t113 0).f1) == 1)) else (none)) else (some false))) = some r := h
  clear h
  replace H := Option.bind_eq_some_iff.mp H
  obtain ⟨t113, A20, H⟩ := H
  replace H : (if (t113.length : Int) = 1 then (if 0 < (t113.length : Int) then (some (((rd_T33 t113 0).f1) == 1)) else (none)) else (some false)) = some r := H
  have A2 := Aside0.mk A20
  clear A20
  by_cases c3 : (t113.length : Int) = 1
  · rw [if_pos c3] at H
    have c3b0 : ((t113.length : Int) == 1) = true := beq_iff_eq.mpr c3
    have c3b1 : ((t113.length : Int) != 1) = false := bne_eq_false_iff_eq.mpr c3
    clear c3
    by_cases c4 : 0 < (t113.length : Int)
    · rw [if_pos c4] at H
      have c4b0 : decide (0 < (t113.length : Int)) = true := decide_eq_true c4
      have c4b1 : decide (0 < t113.length) = true := decide_eq_true (by omega)
      clear c4
      obtain rfl := Option.some.inj H
      go_enter Try.func13, Try.ntmps13
      go_wp2_with (first | ((with_reducible refine gate_callee (f := 11) rfl ?_); refine goesL_ (some 5) rfl rfl Try.func11 (by kernel_rfl) rfl #[.int .u64 a0] rfl (by (try simp only [List.map_toArray, List.map_cons, List.map_nil]); first | done | rfl | (simp only [List.length_drop, List.length_take]; rfl)) ?_; (with_reducible refine (sieve_Factor.calls k a0 t113 _ A2.out).mono ?_); rintro e w5 ⟨v114, rfl, ho0, hb⟩; refine ⟨_, rfl, ?_⟩; have n0_ := Aside0.mk (Kd.R_lower ho0 (below_size (by repeat (first | (with_reducible first | exact HB.out | apply below_alloc | apply pw_below_drewN | apply below_drew1) | exact HB.out)))); have n1_ := Aside0.mk (below_step (by repeat (first | (with_reducible first | exact HB.out | apply below_alloc | apply pw_below_drewN | apply below_drew1) | exact HB.out)) hb); clear HB; have HO115 := n0_; have HB := n1_; clear n0_ n1_; (try clear hb); (try clear hb2); (try clear hk); (try clear hi); (try clear ho0); obtain ⟨Ao6, co6, eo6⟩ := Kd.R_slice HO115.out; subst eo6; have p116 : 0 ≤ (0 : Int) := (by omega); have q116 : 0 < (t113.length : Int) := of_decide_eq_true (by first | (with_reducible assumption) | assumption); obtain ⟨ad116, e116, hx116_0, hx116_1⟩ := at_T33 (Kd.R_reads' HO115.out).2.2 0 p116 q116; cases e116; have qi116 : (0 < t113.length) = True := eq_true (by omega); (try rw [show ((0 : Int)).toNat = 0 from rfl] at hx116_0); (try rw [show 0 * 2 = 0 from rfl] at hx116_0); (try rw [Addr.add_zero'] at hx116_0); (try rw [show ((0 : Int)).toNat = 0 from rfl] at hx116_1); (try rw [show 0 * 2 = 0 from rfl] at hx116_1); (try rw [Addr.add_zero'] at hx116_1); replace p116 := eq_true p116; replace q116 := eq_true q116))
      go_ret
      exact ⟨by first | rfl | (simp [errW_none, errW_some] <;> rfl) | (simp [*, errW_none, errW_some] <;> rfl), by repeat (first | (with_reducible first | exact HB.out | apply below_alloc | apply pw_below_drewN | apply below_drew1) | exact HB.out)⟩
    · rw [if_neg c4] at H
      exact absurd H (by simp)
  · rw [if_neg c3] at H
    have c3b0 : ((t113.length : Int) == 1) = false := beq_eq_false_iff_ne.mpr c3
    have c3b1 : ((t113.length : Int) != 1) = true := bne_iff_ne.mpr c3
    obtain rfl := Option.some.inj H
    go_enter Try.func13, Try.ntmps13
    go_wp2_with (first | ((with_reducible refine gate_callee (f := 11) rfl ?_); refine goesL_ (some 5) rfl rfl Try.func11 (by kernel_rfl) rfl #[.int .u64 a0] rfl (by (try simp only [List.map_toArray, List.map_cons, List.map_nil]); first | done | rfl | (simp only [List.length_drop, List.length_take]; rfl)) ?_; (with_reducible refine (sieve_Factor.calls k a0 t113 _ A2.out).mono ?_); rintro e w7 ⟨v114, rfl, ho0, hb⟩; refine ⟨_, rfl, ?_⟩; have n0_ := Aside0.mk (Kd.R_lower ho0 (below_size (by repeat (first | (with_reducible first | exact HB.out | apply below_alloc | apply pw_below_drewN | apply below_drew1) | exact HB.out)))); have n1_ := Aside0.mk (below_step (by repeat (first | (with_reducible first | exact HB.out | apply below_alloc | apply pw_below_drewN | apply below_drew1) | exact HB.out)) hb); clear HB; have HO115 := n0_; have HB := n1_; clear n0_ n1_; (try clear hb); (try clear hb2); (try clear hk); (try clear hi); (try clear ho0); obtain ⟨Ao8, co8, eo8⟩ := Kd.R_slice HO115.out; subst eo8))
    go_ret
    exact ⟨by first | rfl | (simp [errW_none, errW_some] <;> rfl) | (simp [*, errW_none, errW_some] <;> rfl), by repeat (first | (with_reducible first | exact HB.out | apply below_alloc | apply pw_below_drewN | apply below_drew1) | exact HB.out)⟩

/-! ### sieve_odd: function 22 -/
def sieve_odd.f (k : Nat) (a0 : Int) : Option (Bool) := if a0 > 2 then (if a0 ≤ 65536 then ((sieve_Prime.f k a0).bind fun t117 => (some t117)) else (some false)) else (some false)
theorem sieve_odd.mono : ∀ a0 k, LeO (sieve_odd.f k a0) (sieve_odd.f (k + 1) a0) := by
  intro a0 k
  unfold sieve_odd.f
  repeat' first
      | (with_reducible exact sieve_Prime.mono _ _)
      | (with_reducible exact LeO.refl _)
      | (with_reducible exact LeO.none _)
      | (with_reducible refine LeO.ite ?_ ?_)
      | (with_reducible refine LeO.bind ?_ (fun _ => ?_))
      | exact sieve_Prime.mono _ _
      | exact LeO.none _
      | refine LeO.ite ?_ ?_
      | refine LeO.bind ?_ (fun _ => ?_)
set_option maxHeartbeats 8000000 in
set_option maxRecDepth 100000 in
theorem sieve_odd.calls (k : Nat) (a0 : Int) (r : Bool) (w : World) (h : sieve_odd.f k a0 = some r) :
    Calls Try.prog 22 #[.int .u64 a0] w fun e w' => e = .returned (.bool r) ∧ Below w.heap.size w w' := by
  have HB := Aside0.mk (Below.refl w.heap.size w)
  have H : (if a0 > 2 then (if a0 ≤ 65536 then ((sieve_Prime.f k a0).bind fun t117 => (some t117)) else (some false)) else (some false)) = some r := h
  clear h
  by_cases c2 : a0 > 2
  · rw [if_pos c2] at H
    have c2b0 : decide (2 < a0) = true := decide_eq_true c2
    clear c2
    by_cases c3 : a0 ≤ 65536
    · rw [if_pos c3] at H
      have c3b0 : decide (a0 ≤ 65536) = true := decide_eq_true c3
      clear c3
      replace H := Option.bind_eq_some_iff.mp H
      obtain ⟨t117, A40, H⟩ := H
      replace H : (some t117) = some r := H
      have A4 := Aside0.mk A40
      clear A40
      obtain rfl := Option.some.inj H
      go_enter Try.func22, Try.ntmps22
      go_wp2_with (first | (go_at_call 13; (with_reducible refine (sieve_Prime.calls k a0 t117 _ A4.out).mono ?_); rintro e w5 ⟨rfl, hb⟩; have n0_ := Aside0.mk (below_step (by repeat (first | (with_reducible first | exact HB.out | apply below_alloc | apply pw_below_drewN | apply below_drew1) | exact HB.out)) hb); clear HB; have HB := n0_; clear n0_; (try clear hb); (try clear hb2); (try clear hk); (try clear hi)))
      go_ret
      exact ⟨by first | rfl | (simp [errW_none, errW_some] <;> rfl) | (simp [*, errW_none, errW_some] <;> rfl), by repeat (first | (with_reducible first | exact HB.out | apply below_alloc | apply pw_below_drewN | apply below_drew1) | exact HB.out)⟩
    · rw [if_neg c3] at H
      have c3b0 : decide (a0 ≤ 65536) = false := decide_eq_false c3
      clear c3
      obtain rfl := Option.some.inj H
      go_enter Try.func22, Try.ntmps22
      go_wp2
      go_ret
      exact ⟨by first | rfl | (simp [errW_none, errW_some] <;> rfl) | (simp [*, errW_none, errW_some] <;> rfl), by repeat (first | (with_reducible first | exact HB.out | apply below_alloc | apply pw_below_drewN | apply below_drew1) | exact HB.out)⟩
  · rw [if_neg c2] at H
    have c2b0 : decide (2 < a0) = false := decide_eq_false c2
    clear c2
    obtain rfl := Option.some.inj H
    go_enter Try.func22, Try.ntmps22
    go_wp2
    go_ret
    exact ⟨by first | rfl | (simp [errW_none, errW_some] <;> rfl) | (simp [*, errW_none, errW_some] <;> rfl), by repeat (first | (with_reducible first | exact HB.out | apply below_alloc | apply pw_below_drewN | apply below_drew1) | exact HB.out)⟩

/-! ### sieve_Primes: function 9 -/
mutual
def sieve_Primes.l0 : Nat → Int → List Bool → List Int → Int → Option (List Int)
  | 0, _, _, _, _ => none
  | k + 1, x0, x3, x4, x5 => if x5 ≤ x0 then (if 0 ≤ x5 then (if x5 < (x3.length : Int) then (if rdOf false x3 x5 = true then (sieve_Primes.l0 k x0 x3 x4 (wrap64 (x5 + 1))) else (if x4.length < 17592186044416 then (sieve_Primes.l1 k x0 x3 (x4 ++ [x5]) x5 (wrap64 (x5 * x5))) else (none))) else (none)) else (none)) else (some x4)
def sieve_Primes.l1 : Nat → Int → List Bool → List Int → Int → Int → Option (List Int)
  | 0, _, _, _, _, _ => none
  | k + 1, x0, x3, x4, x5, x6 => if x6 ≤ x0 then (if 0 ≤ x6 then (if x6 < (x3.length : Int) then (sieve_Primes.l1 k x0 (x3.set (x6 : Int).toNat true) x4 x5 (wrap64 (x6 + x5))) else (none)) else (none)) else (sieve_Primes.l0 k x0 x3 x4 (wrap64 (x5 + 1)))
end
def sieve_Primes.f (k : Nat) (a0 : Int) : Option (List Int) := if 0 ≤ ((mn (mx a0 1) 65536) + 1) then (if ((mn (mx a0 1) 65536) + 1 : Int).toNat ≤ 281474976710656 then (sieve_Primes.l0 k (mn (mx a0 1) 65536) (List.replicate ((mn (mx a0 1) 65536) + 1 : Int).toNat false) ([] : List Int) 2) else (none)) else (none)
theorem sieve_Primes.mono_l : ∀ k, (∀ y0 y1 y2 y3, LeO (sieve_Primes.l0 k y0 y1 y2 y3) (sieve_Primes.l0 (k + 1) y0 y1 y2 y3)) ∧ (∀ y0 y1 y2 y3 y4, LeO (sieve_Primes.l1 k y0 y1 y2 y3 y4) (sieve_Primes.l1 (k + 1) y0 y1 y2 y3 y4))
  | 0 => ⟨fun _ _ _ _ r h => by simp [sieve_Primes.l0] at h, fun _ _ _ _ _ r h => by simp [sieve_Primes.l1] at h⟩
  | k + 1 => by
    obtain ⟨ih0, ih1⟩ := sieve_Primes.mono_l k
    refine ⟨?_, ?_⟩
    · intro y0 y1 y2 y3
      unfold sieve_Primes.l0
      repeat' first
      | (with_reducible exact ih0 _ _ _ _)
      | (with_reducible exact ih1 _ _ _ _ _)
      | (with_reducible exact LeO.refl _)
      | (with_reducible exact LeO.none _)
      | (with_reducible refine LeO.ite ?_ ?_)
      | (with_reducible refine LeO.bind ?_ (fun _ => ?_))
      | exact ih0 _ _ _ _
      | exact ih1 _ _ _ _ _
      | exact LeO.none _
      | refine LeO.ite ?_ ?_
      | refine LeO.bind ?_ (fun _ => ?_)
    · intro y0 y1 y2 y3 y4
      unfold sieve_Primes.l1
      repeat' first
      | (with_reducible exact ih0 _ _ _ _)
      | (with_reducible exact ih1 _ _ _ _ _)
      | (with_reducible exact LeO.refl _)
      | (with_reducible exact LeO.none _)
      | (with_reducible refine LeO.ite ?_ ?_)
      | (with_reducible refine LeO.bind ?_ (fun _ => ?_))
      | exact ih0 _ _ _ _
      | exact ih1 _ _ _ _ _
      | exact LeO.none _
      | refine LeO.ite ?_ ?_
      | refine LeO.bind ?_ (fun _ => ?_)
theorem sieve_Primes.mono : ∀ a0 k, LeO (sieve_Primes.f k a0) (sieve_Primes.f (k + 1) a0) := by
  intro a0 k
  obtain ⟨ih0, ih1⟩ := sieve_Primes.mono_l k
  unfold sieve_Primes.f
  repeat' first
      | (with_reducible exact ih0 _ _ _ _)
      | (with_reducible exact ih1 _ _ _ _ _)
      | (with_reducible exact LeO.refl _)
      | (with_reducible exact LeO.none _)
      | (with_reducible refine LeO.ite ?_ ?_)
      | (with_reducible refine LeO.bind ?_ (fun _ => ?_))
      | exact ih0 _ _ _ _
      | exact ih1 _ _ _ _ _
      | exact LeO.none _
      | refine LeO.ite ?_ ?_
      | refine LeO.bind ?_ (fun _ => ?_)
set_option maxHeartbeats 8000000 in
set_option maxRecDepth 100000 in
theorem sieve_Primes.calls (k : Nat) (a0 : Int) (r : List Int) (w : World) (h : sieve_Primes.f k a0 = some r) :
    Calls Try.prog 9 #[.int .i64 a0] w fun e w' => ∃ v0_ : Value, e = .returned (v0_) ∧ Kd.R (Kd.int .i64) 3 w' w.heap.size (fun _ => True) v0_ r ∧ Below w.heap.size w w' := by
  have HB := Aside0.mk (Below.refl w.heap.size w)
  have H : (if 0 ≤ ((mn (mx a0 1) 65536) + 1) then (if ((mn (mx a0 1) 65536) + 1 : Int).toNat ≤ 281474976710656 then (sieve_Primes.l0 k (mn (mx a0 1) 65536) (List.replicate ((mn (mx a0 1) 65536) + 1 : Int).toNat false) ([] : List Int) 2) else (none)) else (none)) = some r := h
  clear h
  obtain ⟨ji2, hji2⟩ : ∃ j_ : Int, (mx a0 1) = j_ := ⟨_, rfl⟩
  replace H : (if 0 ≤ ((mn (ji2) 65536) + 1) then (if ((mn (ji2) 65536) + 1 : Int).toNat ≤ 281474976710656 then (sieve_Primes.l0 k (mn (ji2) 65536) (List.replicate ((mn (ji2) 65536) + 1 : Int).toNat false) ([] : List Int) 2) else (none)) else (none)) = some r := by first | (rw [hji2] at H <;> exact H) | (simp only [hji2] at H ⊢; exact H)
  (try (have hji2l : 1 ≤ ji2 := by (rw [← hji2]; unfold mx; (repeat' split) <;> omega)))
  (try (have hji2m : 0 ≤ ji2 := by omega))
  have hji2_ : (if a0 < 1 then 1 else a0) = ji2 := hji2
  obtain ⟨ji3, hji3⟩ : ∃ j_ : Int, (mn (ji2) 65536) = j_ := ⟨_, rfl⟩
  replace H : (if 0 ≤ ((ji3) + 1) then (if ((ji3) + 1 : Int).toNat ≤ 281474976710656 then (sieve_Primes.l0 k ji3 (List.replicate ((ji3) + 1 : Int).toNat false) ([] : List Int) 2) else (none)) else (none)) = some r := by first | (rw [hji3] at H <;> exact H) | (simp only [hji3] at H ⊢; exact H)
  have hji3_ : (if 65536 < (ji2) then 65536 else (ji2)) = ji3 := hji3
  obtain ⟨ji4, hji4⟩ : ∃ j_ : Int, ((ji3) + 1) = j_ := ⟨_, rfl⟩
  replace H : (if 0 ≤ (ji4) then (if (ji4 : Int).toNat ≤ 281474976710656 then (sieve_Primes.l0 k ji3 (List.replicate (ji4 : Int).toNat false) ([] : List Int) 2) else (none)) else (none)) = some r := by first | (rw [hji4] at H <;> exact H) | (simp only [hji4] at H ⊢; exact H)
  by_cases c5 : 0 ≤ (ji4)
  · rw [if_pos c5] at H
    have c5b0 := eq_true c5
    have c5b1 : decide (0 ≤ (ji4)) = true := decide_eq_true c5
    clear c5
    by_cases c6 : (ji4 : Int).toNat ≤ 281474976710656
    · rw [if_pos c6] at H
      have c6b0 := eq_true c6
      have c6b1 : decide ((ji4 : Int).toNat ≤ 281474976710656) = true := decide_eq_true c6
      clear c6
      obtain ⟨y118, hy118⟩ : ∃ y_ : List Bool, y_ = (List.replicate (ji4 : Int).toNat false) := ⟨_, rfl⟩
      replace H : (sieve_Primes.l0 k ji3 y118 ([] : List Int) 2) = some r := by first | (rw [hy118]; with_reducible exact H) | (have H2_ := (Option.bind_some _ _).symm.trans H; rw [hy118]; with_reducible exact H2_) | (have H2_ := (Option.bind_some _ _).symm.trans H; with_reducible exact H2_) | with_reducible exact H | (rw [hy118]; exact H) | exact H
      have Ny118 := Aside0.mk hy118
      clear hy118
      have H' := Aside0.mk H
      clear H
      go_enter Try.func9, Try.ntmps9
      go_wp2_with (first | ((with_reducible refine gate_dst (N := 12) rfl ?_); refine Kd.R_make Kd.bool _ 4 rfl (N := 12) rfl 52 _ _ rfl ji4 rfl rfl Try.underlying52 (.bool false) 1 info4 rfl (by decide) (by omega) false (ok := fun _ => True) (okp := fun _ => True) rfl (fun _ hk => hk) trivial (of_decide_eq_true (by first | (with_reducible assumption) | assumption)) (Nat.le_trans (Nat.mul_le_mul_right _ (of_decide_eq_true (by first | (with_reducible assumption) | assumption) : ji4.toNat ≤ 281474976710656)) (by omega)) (Below.refl _ _) (Nat.le_refl _) ?_; intro v119 w7 ho8 hb hg_ hnew_; clear hg_ hnew_; (first | rw [← Ny118.out] at ho8 | (simp only [Int.reduceToNat] at ho8; rw [← Ny118.out] at ho8)); have n0_ := Aside0.mk (Kd.R_lower ho8 (below_size (by repeat (first | (with_reducible first | exact HB.out | apply below_alloc | apply pw_below_drewN | apply below_drew1) | exact HB.out)))); have n1_ := Aside0.mk (below_step (by repeat (first | (with_reducible first | exact HB.out | apply below_alloc | apply pw_below_drewN | apply below_drew1) | exact HB.out)) hb); clear HB; have HO120 := n0_; have HB := n1_; clear n0_ n1_; clear hb ho8))
      go_loopg [4, 5] k (fun kq v4 v5 w' => ∃ (x3_1 : List Bool) (x4_1 : List Int) (x5_1 : Int), v5 = .int .i64 x5_1 ∧ Aside0 (sieve_Primes.l0 kq ji3 x3_1 x4_1 x5_1 = some r) ∧ Aside0 (kq ≤ k) ∧ Aside0 (Kd.R Kd.bool 4 w' w.heap.size (fun _ => True) v119 x3_1) ∧ Aside0 (Kd.R (Kd.int .i64) 3 w' w.heap.size (fun _ => True) v4 x4_1) ∧ Aside0 (Below w.heap.size w w'))
      case atStart => exact ⟨(y118), (([] : List Int)), (2), (by first | rfl | (simp; done) | (simp [*]; done)), H', ⟨Nat.le_refl _⟩, ⟨by (with_reducible repeat (first | apply Kd.R_alloc | apply Kd.R_drewN | apply Kd.R_drew)); exact HO120.out⟩, ⟨by first | exact Kd.R_nil _ _ _ _ _ | exact Kd.N_nil _ _ _ _ _ | exact Kd.V_nil _ _ _ _ _ | exact Kd.Q_nil _ _ _ _ _ | exact Kd.S_nil _ _ _ _ _⟩, ⟨by repeat (first | (with_reducible first | exact HB.out | apply below_alloc | apply pw_below_drewN | apply below_drew1) | exact HB.out)⟩⟩
      case round =>
        clear H'
        try clear p2
        try clear c5
        try clear c5b0
        try clear c5b1
        try clear c6
        try clear c6b0
        try clear c6b1
        obtain ⟨x3_1, x4_1, x5_1, rfl, HA, HK1, HO_3, HO_4, HB⟩ := hrel
        cases gk with
        | zero => exact absurd HA.out (by simp [sieve_Primes.l0])
        | succ k1 =>
          have H := HA.out
          clear HA
          simp only [sieve_Primes.l0] at H
          by_cases c9 : x5_1 ≤ ji3
          · rw [if_pos c9] at H
            have c9b0 : decide (x5_1 ≤ ji3) = true := decide_eq_true c9
            clear c9
            by_cases c10 : 0 ≤ x5_1
            · rw [if_pos c10] at H
              have c10b0 : decide (0 ≤ x5_1) = true := decide_eq_true c10
              clear c10
              by_cases c11 : x5_1 < (x3_1.length : Int)
              · rw [if_pos c11] at H
                have c11b0 : decide (x5_1 < (x3_1.length : Int)) = true := decide_eq_true c11
                clear c11
                obtain ⟨bq12, hbq12⟩ : ∃ b_ : Bool, b_ = (rdOf false x3_1 x5_1) := ⟨_, rfl⟩
                replace H : (if bq12 = true then (sieve_Primes.l0 k1 ji3 x3_1 x4_1 (wrap64 (x5_1 + 1))) else (if x4_1.length < 17592186044416 then (sieve_Primes.l1 k1 ji3 x3_1 (x4_1 ++ [x5_1]) x5_1 (wrap64 (x5_1 * x5_1))) else (none))) = some r := by rw [← hbq12] at H <;> exact H
                have Nbq12 := Aside0.mk hbq12
                clear hbq12
                by_cases c13 : bq12 = true
                · subst c13
                  have H1 : (sieve_Primes.l0 k1 ji3 x3_1 x4_1 (wrap64 (x5_1 + 1))) = some r := by rw [if_pos rfl] at H <;> exact H
                  clear H
                  have H := H1
                  clear H1
                  have H' := Aside0.mk H
                  clear H
                  obtain ⟨Ao14, co14, eo14⟩ := Kd.R_slice HO_3.out
                  subst eo14
                  have p121 : 0 ≤ (x5_1 : Int) := of_decide_eq_true (by first | (with_reducible assumption) | assumption)
                  have q121 : x5_1 < (x3_1.length : Int) := of_decide_eq_true (by first | (with_reducible assumption) | assumption)
                  obtain ⟨ad121, e121, hx121_0⟩ := Kd.at_bool (Kd.R_reads' HO_3.out).2.2 x5_1 p121 q121
                  (try rw [← Nbq12.out] at hx121_0)
                  cases e121
                  replace p121 := eq_true p121
                  replace q121 := eq_true q121
                  go_wp2
                  go_roundg k1
                  case measure => have := HK1.out; omega
                  case rel => exact ⟨(x3_1), (x4_1), (wrap64 (x5_1 + 1)), (by first | rfl | (simp; done) | (simp [*]; done)), H', ⟨by have := HK1.out; omega⟩, ⟨by (with_reducible repeat (first | apply Kd.R_alloc | apply Kd.R_drewN | apply Kd.R_drew)); exact HO_3.out⟩, ⟨by (with_reducible repeat (first | apply Kd.R_alloc | apply Kd.R_drewN | apply Kd.R_drew)); exact HO_4.out⟩, ⟨by repeat (first | (with_reducible first | exact HB.out | apply below_alloc | apply pw_below_drewN | apply below_drew1) | exact HB.out)⟩⟩
                · replace c13 := Bool.eq_false_iff.mpr c13
                  subst c13
                  have H1 : (if x4_1.length < 17592186044416 then (sieve_Primes.l1 k1 ji3 x3_1 (x4_1 ++ [x5_1]) x5_1 (wrap64 (x5_1 * x5_1))) else (none)) = some r := by rw [if_neg (show ¬ (false = true) by decide)] at H <;> exact H
                  clear H
                  have H := H1
                  clear H1
                  by_cases c15 : x4_1.length < 17592186044416
                  · rw [if_pos c15] at H
                    have LMc15 := Aside0.mk c15
                    clear c15
                    obtain ⟨y122, hy122⟩ : ∃ y_ : List Int, y_ = (x4_1 ++ [x5_1]) := ⟨_, rfl⟩
                    replace H : (sieve_Primes.l1 k1 ji3 x3_1 y122 x5_1 (wrap64 (x5_1 * x5_1))) = some r := by first | (rw [hy122]; with_reducible exact H) | (have H2_ := (Option.bind_some _ _).symm.trans H; rw [hy122]; with_reducible exact H2_) | (have H2_ := (Option.bind_some _ _).symm.trans H; with_reducible exact H2_) | with_reducible exact H | (rw [hy122]; exact H) | exact H
                    have Ny122 := Aside0.mk hy122
                    clear hy122
                    have H' := Aside0.mk H
                    clear H
                    obtain ⟨Ao16, co16, eo16⟩ := Kd.R_slice HO_3.out
                    subst eo16
                    have p121 : 0 ≤ (x5_1 : Int) := of_decide_eq_true (by first | (with_reducible assumption) | assumption)
                    have q121 : x5_1 < (x3_1.length : Int) := of_decide_eq_true (by first | (with_reducible assumption) | assumption)
                    obtain ⟨ad121, e121, hx121_0⟩ := Kd.at_bool (Kd.R_reads' HO_3.out).2.2 x5_1 p121 q121
                    (try rw [← Nbq12.out] at hx121_0)
                    cases e121
                    obtain ⟨go20, co20, eo20, gb20, gl20, cl20, HG20⟩ := Kd.R_form HO_3.out (by omega)
                    cases eo20
                    clear gb20 gl20 cl20 HG20
                    (first | simp only [add_plain] at hx121_0 | skip)
                    replace p121 := eq_true p121
                    replace q121 := eq_true q121
                    go_wp2_with (first | ((with_reducible refine gate_builtin (b := .append) (xs := #[.tmp 22, .tmp 24]) rfl ?_); at_builtin; refine Kd.R_append (Kd.int .i64) (w0 := w) w.heap.size rfl (.tmp 22) (.tmp 24) 23 3 (.int .i64 0) 8 rfl Try.underlying23 info3 rfl (by decide) (by omega) u4 x4_1 x5_1 [.int .i64 x5_1] (fun _ => True) (fun _ => False) rfl rfl ?aP (fun _ hk => hk.elim) ?aF ?aO ?aB ?aS ?aL ?_; (case aP => exact rfl); (case aB => exact (by repeat (first | (with_reducible first | exact HB.out | apply below_alloc | apply pw_below_drewN | apply below_drew1) | exact HB.out))); (case aF => exact (fun _ _ => trivial)); (case aO => exact (by (with_reducible repeat (first | apply Kd.R_alloc | apply Kd.R_drewN | apply Kd.R_drew)); exact HO_4.out)); (case aS => exact (below_size (by repeat (first | (with_reducible first | exact HB.out | apply below_alloc | apply pw_below_drewN | apply below_drew1) | exact HB.out)))); (case aL => have := LMc15.out; omega); intro v123 w17 ho hb hg hat; rw [← Ny122.out] at ho; have n0_ := Aside0.mk (Kd.R_over' (by (with_reducible repeat (first | apply Kd.R_alloc | apply Kd.R_drewN | apply Kd.R_drew)); exact HO_3.out) (Kd.R_typed (by (with_reducible repeat (first | apply Kd.R_alloc | apply Kd.R_drewN | apply Kd.R_drew)); exact HO_4.out)) (by decide) hg); have n1_ := Aside0.mk (hb); have n2_ := Aside0.mk (ho); clear HO_3; clear HB; clear HO_4; have HO_3 := n0_; have HB := n1_; have HO124 := n2_; clear n0_ n1_ n2_; clear ho hb hg hat))
                    go_loopg [6] k1 (fun kq v6 w' => ∃ (x3_2 : List Bool) (x6_2 : Int), v6 = .int .i64 x6_2 ∧ Aside0 (sieve_Primes.l1 kq ji3 x3_2 y122 x5_1 x6_2 = some r) ∧ Aside0 (kq ≤ k1) ∧ Aside0 (Kd.R Kd.bool 4 w' w.heap.size (fun _ => True) (.slice (some (⟨go20, 0, none⟩ : Addr)) x3_1.length co16) x3_2) ∧ Aside0 (Kd.R (Kd.int .i64) 3 w' w.heap.size (fun _ => True) v123 y122) ∧ Aside0 (Below w.heap.size w w'))
                    case atStart => exact ⟨(x3_1), (wrap64 (x5_1 * x5_1)), (by first | rfl | (simp; done) | (simp [*]; done)), H', ⟨Nat.le_refl _⟩, ⟨by (with_reducible repeat (first | apply Kd.R_alloc | apply Kd.R_drewN | apply Kd.R_drew)); exact HO_3.out⟩, ⟨by (with_reducible repeat (first | apply Kd.R_alloc | apply Kd.R_drewN | apply Kd.R_drew)); exact HO124.out⟩, ⟨by repeat (first | (with_reducible first | exact HB.out | apply below_alloc | apply pw_below_drewN | apply below_drew1) | exact HB.out)⟩⟩
                    case round =>
                      clear H'
                      try clear c1
                      try clear p1
                      try clear q1
                      try clear hx1
                      try clear p2
                      try clear c5
                      try clear c5b0
                      try clear c5b1
                      try clear c6
                      try clear c6b0
                      try clear c6b1
                      try clear p6
                      try clear c9
                      try clear c9b0
                      try clear c10
                      try clear c10b0
                      try clear c11
                      try clear c11b0
                      try clear p12
                      try clear q12
                      try clear hx12
                      try clear c13
                      try clear c15
                      try clear hx121_0
                      try clear p121
                      try clear p2
                      try clear q121
                      obtain ⟨x3_2, x6_2, rfl, HA, HK2, HO_3, HO_4, HB⟩ := hrel
                      have hl3_2 := (Kd.R_reads' HO_3.out).1
                      rw [hl3_2] at HO_3
                      (try simp only [hl3_2])
                      (try simp only [hl3_2] at HO_4)
                      cases gk with
                      | zero => exact absurd HA.out (by simp [sieve_Primes.l1])
                      | succ k2 =>
                        have H := HA.out
                        clear HA
                        simp only [sieve_Primes.l1] at H
                        by_cases c18 : x6_2 ≤ ji3
                        · rw [if_pos c18] at H
                          have c18b0 : decide (x6_2 ≤ ji3) = true := decide_eq_true c18
                          clear c18
                          by_cases c19 : 0 ≤ x6_2
                          · rw [if_pos c19] at H
                            have c19b0 : decide (0 ≤ x6_2) = true := decide_eq_true c19
                            clear c19
                            by_cases c20 : x6_2 < (x3_2.length : Int)
                            · rw [if_pos c20] at H
                              have c20b0 : decide (x6_2 < (x3_2.length : Int)) = true := decide_eq_true c20
                              clear c20
                              obtain ⟨y125, hy125⟩ : ∃ y_ : List Bool, y_ = (x3_2.set (x6_2 : Int).toNat true) := ⟨_, rfl⟩
                              replace H : (sieve_Primes.l1 k2 ji3 y125 y122 x5_1 (wrap64 (x6_2 + x5_1))) = some r := by first | (rw [hy125]; with_reducible exact H) | (have H2_ := (Option.bind_some _ _).symm.trans H; rw [hy125]; with_reducible exact H2_) | (have H2_ := (Option.bind_some _ _).symm.trans H; with_reducible exact H2_) | with_reducible exact H | (rw [hy125]; exact H) | exact H
                              have Ny125 := Aside0.mk hy125
                              clear hy125
                              have H' := Aside0.mk H
                              clear H
                              have p21 : 0 ≤ (x6_2 : Int) := of_decide_eq_true (by first | (with_reducible assumption) | assumption)
                              have q21 : (x6_2 : Int) < ((x3_2.length : Int) : Int) := of_decide_eq_true (by first | (with_reducible assumption) | assumption)
                              obtain ⟨go21, co21, eo21, gb21, gl21, cl21, HG21⟩ := Kd.R_form HO_3.out (by omega)
                              (first | cases eo21 | (injection eo21 with ea_ en_ ec_; (first | subst ea_ | (injection ea_ with ea_; subst ea_)); subst ec_; clear en_))
                              have GB21 := Aside0.mk gb21
                              have GG21 := Aside0.mk HG21
                              clear gb21 gl21 HG21
                              (first | simp only [add_plain] at hx121_0 | skip)
                              obtain ⟨hx21_0, hf21_0⟩ := Kd.R_celln false HO_3.out (x6_2 : Int) p21 q21
                              replace p21 := eq_true p21
                              replace q21 := eq_true q21
                              have HP22 := Kd.R_putg HO_3.out (x6_2 : Int) true
                              go_wp2_with (first | ((with_reducible refine gate_store (t := 4) (p := 37) rfl ?_); refine store_event (t := 4) (p := 37) (v := ?vo_w23) (w1 := (wr.setCell ⟨go20, (x6_2 : Int).toNat, none⟩ (.bool true))) ?hg ?ho ?hn ?hr ?_; (case ho => rfl); (case hg => rfl); (case hn => rfl); (case hr => first | (go_simp; done) | (go_simp; rfl)); intro w23 hw; have hg : wr.grownBy w23 (some go20) := (by rw [hw]; exact HP22.2); have hp_ : Kd.R Kd.bool 4 w23 w.heap.size (fun _ => True) (.slice (some ⟨go20, 0, none⟩) x3_2.length co16) y125 := (by rw [hw, Ny125.out]; exact HP22.1); clear HP22; have n0_ := Aside0.mk (hp_); have n1_ := Aside0.mk (Kd.R_over' (v := (.slice (some ⟨go20, 0, none⟩) x3_2.length co16)) (by (with_reducible repeat (first | apply Kd.R_alloc | apply Kd.R_drewN | apply Kd.R_drew)); exact HO_4.out) (Kd.R_typed HO_3.out) (by decide) hg); have n2_ := Aside0.mk ((by rw [hw]; exact below_set (HB.out) GB21.out : Below w.heap.size w w23)); clear HO_3; clear HO_4; clear HB; have HO_3 := n0_; have HO_4 := n1_; have HB := n2_; clear n0_ n1_ n2_; clear hg hw hp_))
                              (try simp only [← hl3_2])
                              go_roundg k2
                              case measure => have := HK1.out; have := HK2.out; omega
                              case rel => exact ⟨(y125), (wrap64 (x6_2 + x5_1)), (by first | rfl | (simp; done) | (simp [*]; done)), H', ⟨by have := HK1.out; have := HK2.out; omega⟩, ⟨by (try simp only [hl3_2]); (with_reducible repeat (first | apply Kd.R_alloc | apply Kd.R_drewN | apply Kd.R_drew)); exact HO_3.out⟩, ⟨by (try simp only [hl3_2]); (with_reducible repeat (first | apply Kd.R_alloc | apply Kd.R_drewN | apply Kd.R_drew)); exact HO_4.out⟩, ⟨by repeat (first | (with_reducible first | exact HB.out | apply below_alloc | apply pw_below_drewN | apply below_drew1) | exact HB.out)⟩⟩
                            · rw [if_neg c20] at H
                              exact absurd H (by simp)
                          · rw [if_neg c19] at H
                            exact absurd H (by simp)
                        · rw [if_neg c18] at H
                          have c18b0 : decide (x6_2 ≤ ji3) = false := decide_eq_false c18
                          clear c18
                          have H' := Aside0.mk H
                          clear H
                          go_wp2
                          (try simp only [← hl3_2])
                          go_roundg k2
                          case measure => have := HK1.out; have := HK2.out; omega
                          case rel => exact ⟨(x3_2), (y122), (wrap64 (x5_1 + 1)), (by first | rfl | (simp; done) | (simp [*]; done)), H', ⟨by have := HK1.out; have := HK2.out; omega⟩, ⟨by (try simp only [hl3_2]); (with_reducible repeat (first | apply Kd.R_alloc | apply Kd.R_drewN | apply Kd.R_drew)); exact HO_3.out⟩, ⟨by (try simp only [hl3_2]); (with_reducible repeat (first | apply Kd.R_alloc | apply Kd.R_drewN | apply Kd.R_drew)); exact HO_4.out⟩, ⟨by repeat (first | (with_reducible first | exact HB.out | apply below_alloc | apply pw_below_drewN | apply below_drew1) | exact HB.out)⟩⟩
                  · rw [if_neg c15] at H
                    exact absurd H (by simp)
              · rw [if_neg c11] at H
                exact absurd H (by simp)
            · rw [if_neg c10] at H
              exact absurd H (by simp)
          · rw [if_neg c9] at H
            have c9b0 : decide (x5_1 ≤ ji3) = false := decide_eq_false c9
            clear c9
            obtain rfl := Option.some.inj H
            go_wp2
            go_ret
            exact ⟨_, by first | rfl | (simp [errW_none, errW_some] <;> rfl) | (simp only [← hji2, ← hji3, ← hji4]; first | rfl | (simp [errW_none, errW_some] <;> rfl)) | (simp [*, errW_none, errW_some] <;> rfl), by (with_reducible repeat (first | apply Kd.R_alloc | apply Kd.R_drewN | apply Kd.R_drew)); exact HO_4.out, by repeat (first | (with_reducible first | exact HB.out | apply below_alloc | apply pw_below_drewN | apply below_drew1) | exact HB.out)⟩
    · rw [if_neg c6] at H
      exact absurd H (by simp)
  · rw [if_neg c5] at H
    exact absurd H (by simp)

end Go.Proofs.Ytcphlhphdpjnfaa.XS
