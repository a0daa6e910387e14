-- Printed by a program of this session (wip/tools/mkprint.py) out of the translation.
import Derived.Test.YtlpbfhbfaphicaaXC0
namespace Go.Proofs.Ytlpbfhbfaphicaa.XC
open Go.RowKit Go.Proofs.YtlpbfhbfaphicaaW.PrintWords Go.Proofs.YtlpbfhbfaphicaaW.PrintLast Go.Proofs.YtlpbfhbfaphicaaW.PrintMore
attribute [local go_sem] max2_int min2_int max_two min_two max_three min_three max_four min_four   -- for this text's walks alone
set_option linter.unusedVariables false
set_option linter.unusedSimpArgs false

/-! ### modular_Gcd: function 33 -/
def modular_Gcd.l0 : Nat → Int → Int → Option (Int)
  | 0, _, _ => none
  | k + 1, x0, x1 => if x1 > 0 then (if x1 = 0 then (none) else (modular_Gcd.l0 k x1 (Int.tmod x0 x1))) else (some x0)
def modular_Gcd.f (k : Nat) (a0 : Int) (a1 : Int) : Option (Int) := modular_Gcd.l0 k a0 a1
theorem modular_Gcd.mono_l : ∀ k, (∀ y0 y1, LeO (modular_Gcd.l0 k y0 y1) (modular_Gcd.l0 (k + 1) y0 y1))
  | 0 => fun _ _ r h => by simp [modular_Gcd.l0] at h
  | k + 1 => by
    have ih0 := modular_Gcd.mono_l k
    · intro y0 y1
      unfold modular_Gcd.l0
      repeat' first
      | (with_reducible exact ih0 _ _)
      | (with_reducible exact LeO.refl _)
      | (with_reducible exact LeO.none _)
      | (with_reducible refine LeO.ite ?_ ?_)
      | (with_reducible refine LeO.bind ?_ (fun _ => ?_))
      | exact ih0 _ _
      | exact LeO.none _
      | refine LeO.ite ?_ ?_
      | refine LeO.bind ?_ (fun _ => ?_)
theorem modular_Gcd.mono : ∀ a0 a1 k, LeO (modular_Gcd.f k a0 a1) (modular_Gcd.f (k + 1) a0 a1) := by
  intro a0 a1 k
  have ih0 := modular_Gcd.mono_l k
  unfold modular_Gcd.f
  repeat' first
      | (with_reducible exact ih0 _ _)
      | (with_reducible exact LeO.refl _)
      | (with_reducible exact LeO.none _)
      | (with_reducible refine LeO.ite ?_ ?_)
      | (with_reducible refine LeO.bind ?_ (fun _ => ?_))
      | exact ih0 _ _
      | exact LeO.none _
      | refine LeO.ite ?_ ?_
      | refine LeO.bind ?_ (fun _ => ?_)
set_option maxHeartbeats 8000000 in
set_option maxRecDepth 100000 in
theorem modular_Gcd.calls (k : Nat) (a0 : Int) (a1 : Int) (r : Int) (w : World) (h : modular_Gcd.f k a0 a1 = some r) :
    Calls Try.prog 33 #[.int .u64 a0, .int .u64 a1] w fun e w' => e = .returned (.int .u64 r) ∧ Drawn0 w w' := by
  have H : (modular_Gcd.l0 k a0 a1) = some r := h
  clear h
  have H' := Aside0.mk H
  clear H
  go_enter Try.func33, Try.ntmps33
  go_wp2
  repeat (go_quiet (fail); try go_wp2)
  go_loopg [0, 1] k (fun kq v0 v1 w' => ∃ (x0_1 : Int) (x1_1 : Int), v0 = .int .u64 x0_1 ∧ v1 = .int .u64 x1_1 ∧ Aside0 (modular_Gcd.l0 kq x0_1 x1_1 = some r) ∧ Aside0 (kq ≤ k) ∧ Drawn0 w w')
  case atStart => exact ⟨(a0), (a1), (by first | rfl | (simp; done) | (simp [*]; done)), (by first | rfl | (simp; done) | (simp [*]; done)), H', ⟨Nat.le_refl _⟩, by repeat (first | exact Drawn0.refl _ | apply Drawn0.step)⟩
  case round =>
    clear H'
    try clear p2
    obtain ⟨x0_1, x1_1, rfl, rfl, HA, HK1, ⟨m1, rfl⟩⟩ := hrel
    cases gk with
    | zero => exact absurd HA.out (by simp [modular_Gcd.l0])
    | succ k1 =>
      have H := HA.out
      clear HA
      simp only [modular_Gcd.l0] at H
      by_cases c3 : x1_1 > 0
      · rw [if_pos c3] at H
        have c3b0 : decide (0 < x1_1) = true := decide_eq_true c3
        clear c3
        by_cases c4 : x1_1 = 0
        · rw [if_pos c4] at H
          exact absurd H (by simp)
        · rw [if_neg c4] at H
          have c4b0 : (x1_1 == 0) = false := beq_eq_false_iff_ne.mpr c4
          have c4b1 : (x1_1 != 0) = true := bne_iff_ne.mpr c4
          have H' := Aside0.mk H
          clear H
          go_wp2
          repeat (go_quiet (fail); try go_wp2)
          go_roundg k1
          case measure => have := HK1.out; omega
          case rel => exact ⟨(x1_1), (Int.tmod x0_1 x1_1), (by first | rfl | (simp; done) | (simp [*]; done)), (by first | rfl | (simp; done) | (simp [*]; done)), H', ⟨by have := HK1.out; omega⟩, by repeat (first | exact Drawn0.refl _ | apply Drawn0.step)⟩
      · rw [if_neg c3] at H
        have c3b0 : decide (0 < x1_1) = false := decide_eq_false c3
        clear c3
        obtain rfl := Option.some.inj H
        go_wp2
        repeat (go_quiet (fail); try go_wp2)
        go_ret
        exact ⟨by first | rfl | (simp; done) | (simp [*]; done), by repeat (first | exact Drawn0.refl _ | apply Drawn0.step)⟩

/-! ### modular_Coprime: function 27 -/
def modular_Coprime.f (k : Nat) (a0 : Int) (a1 : Int) : Option (Bool) := (modular_Gcd.f k a0 a1).bind fun t101 => (some (t101 == 1))
theorem modular_Coprime.mono : ∀ a0 a1 k, LeO (modular_Coprime.f k a0 a1) (modular_Coprime.f (k + 1) a0 a1) := by
  intro a0 a1 k
  unfold modular_Coprime.f
  repeat' first
      | (with_reducible exact modular_Gcd.mono _ _ _)
      | (with_reducible exact LeO.refl _)
      | (with_reducible exact LeO.none _)
      | (with_reducible refine LeO.ite ?_ ?_)
      | (with_reducible refine LeO.bind ?_ (fun _ => ?_))
      | exact modular_Gcd.mono _ _ _
      | exact LeO.none _
      | refine LeO.ite ?_ ?_
      | refine LeO.bind ?_ (fun _ => ?_)
set_option maxHeartbeats 8000000 in
set_option maxRecDepth 100000 in
theorem modular_Coprime.calls (k : Nat) (a0 : Int) (a1 : Int) (r : Bool) (w : World) (h : modular_Coprime.f k a0 a1 = some r) :
    Calls Try.prog 27 #[.int .u64 a0, .int .u64 a1] w fun e w' => e = .returned (.bool r) ∧ Drawn0 w w' := by
  have H : ((modular_Gcd.f k a0 a1).bind fun t101 => (some (t101 == 1))) = some r := h
  clear h
  replace H := Option.bind_eq_some_iff.mp H
  obtain ⟨t101, A30, H⟩ := H
  replace H : (some (t101 == 1)) = some r := H
  have A3 := Aside0.mk A30
  clear A30
  obtain rfl := Option.some.inj H
  go_enter Try.func27, Try.ntmps27
  go_wp2_with (first | ((with_reducible refine gate_callee (f := 33) rfl ?_); refine goesL_ (some 7) rfl rfl Try.func33 (by kernel_rfl) rfl #[.int .u64 a0, .int .u64 a1] rfl (by (try simp only [List.map_toArray, List.map_cons, List.map_nil]); first | done | rfl | (simp only [List.length_drop, List.length_take]; rfl)) ?_; (with_reducible refine (modular_Gcd.calls k a0 a1 t101 _ A3.out).mono ?_); rintro e w' ⟨rfl, ⟨nd, rfl⟩⟩; refine ⟨_, rfl, ?_⟩))
  go_ret
  exact ⟨by first | rfl | (simp; done) | (simp [*]; done), by repeat (first | exact Drawn0.refl _ | apply Drawn0.step)⟩

/-! ### coprime_Fits: function 9 -/
def coprime_Fits.f (k : Nat) (a0 : Int) (a1 : Int) : Option (Bool) := if a0 > 1 then (if a1 > 1 then (if a1 < a0 then (if a1 = 0 then (none) else (if (Int.tmod a0 a1) = 0 then ((modular_Coprime.f k (IntKind.u64.wrap (a1)) (IntKind.u64.wrap (wrap64 (Int.tdiv a0 a1)))).bind fun t102 => (some t102)) else (some false))) else (some false)) else (some false)) else (some false)
theorem coprime_Fits.mono : ∀ a0 a1 k, LeO (coprime_Fits.f k a0 a1) (coprime_Fits.f (k + 1) a0 a1) := by
  intro a0 a1 k
  unfold coprime_Fits.f
  repeat' first
      | (with_reducible exact modular_Coprime.mono _ _ _)
      | (with_reducible exact LeO.refl _)
      | (with_reducible exact LeO.none _)
      | (with_reducible refine LeO.ite ?_ ?_)
      | (with_reducible refine LeO.bind ?_ (fun _ => ?_))
      | exact modular_Coprime.mono _ _ _
      | exact LeO.none _
      | refine LeO.ite ?_ ?_
      | refine LeO.bind ?_ (fun _ => ?_)
set_option maxHeartbeats 8000000 in
set_option maxRecDepth 100000 in
theorem coprime_Fits.calls (k : Nat) (a0 : Int) (a1 : Int) (r : Bool) (w : World) (h : coprime_Fits.f k a0 a1 = some r) :
    Calls Try.prog 9 #[.int .i64 a0, .int .i64 a1] w fun e w' => e = .returned (.bool r) ∧ Drawn0 w w' := by
  have H : (if a0 > 1 then (if a1 > 1 then (if a1 < a0 then (if a1 = 0 then (none) else (if (Int.tmod a0 a1) = 0 then ((modular_Coprime.f k (IntKind.u64.wrap (a1)) (IntKind.u64.wrap (wrap64 (Int.tdiv a0 a1)))).bind fun t102 => (some t102)) else (some false))) else (some false)) else (some false)) else (some false)) = some r := h
  clear h
  by_cases c3 : a0 > 1
  · rw [if_pos c3] at H
    have c3b0 : decide (1 < a0) = true := decide_eq_true c3
    clear c3
    by_cases c4 : a1 > 1
    · rw [if_pos c4] at H
      have c4b0 : decide (1 < a1) = true := decide_eq_true c4
      clear c4
      by_cases c5 : a1 < a0
      · rw [if_pos c5] at H
        have c5b0 : decide (a1 < a0) = true := decide_eq_true c5
        clear c5
        by_cases c6 : a1 = 0
        · rw [if_pos c6] at H
          exact absurd H (by simp)
        · rw [if_neg c6] at H
          have c6b0 : (a1 == 0) = false := beq_eq_false_iff_ne.mpr c6
          have c6b1 : (a1 != 0) = true := bne_iff_ne.mpr c6
          by_cases c7 : (Int.tmod a0 a1) = 0
          · rw [if_pos c7] at H
            have c7b0 : ((Int.tmod a0 a1) == 0) = true := beq_iff_eq.mpr c7
            have c7b1 : ((Int.tmod a0 a1) != 0) = false := bne_eq_false_iff_eq.mpr c7
            clear c7
            replace H := Option.bind_eq_some_iff.mp H
            obtain ⟨t102, A80, H⟩ := H
            replace H : (some t102) = some r := H
            have A8 := Aside0.mk A80
            clear A80
            obtain rfl := Option.some.inj H
            go_enter Try.func9, Try.ntmps9
            go_wp2_with (first | (go_at_call 27; (with_reducible refine (modular_Coprime.calls k (IntKind.u64.wrap (a1)) (IntKind.u64.wrap (wrap64 (Int.tdiv a0 a1))) t102 _ A8.out).mono ?_); rintro e w' ⟨rfl, ⟨nd, rfl⟩⟩))
            go_ret
            exact ⟨by first | rfl | (simp; done) | (simp [*]; done), by repeat (first | exact Drawn0.refl _ | apply Drawn0.step)⟩
          · rw [if_neg c7] at H
            have c7b0 : ((Int.tmod a0 a1) == 0) = false := beq_eq_false_iff_ne.mpr c7
            have c7b1 : ((Int.tmod a0 a1) != 0) = true := bne_iff_ne.mpr c7
            obtain rfl := Option.some.inj H
            go_enter Try.func9, Try.ntmps9
            go_wp2
            go_ret
            exact ⟨by first | rfl | (simp; done) | (simp [*]; done), by repeat (first | exact Drawn0.refl _ | apply Drawn0.step)⟩
      · rw [if_neg c5] at H
        have c5b0 : decide (a1 < a0) = false := decide_eq_false c5
        clear c5
        obtain rfl := Option.some.inj H
        go_enter Try.func9, Try.ntmps9
        go_wp2
        go_ret
        exact ⟨by first | rfl | (simp; done) | (simp [*]; done), by repeat (first | exact Drawn0.refl _ | apply Drawn0.step)⟩
    · rw [if_neg c4] at H
      have c4b0 : decide (1 < a1) = false := decide_eq_false c4
      clear c4
      obtain rfl := Option.some.inj H
      go_enter Try.func9, Try.ntmps9
      go_wp2
      go_ret
      exact ⟨by first | rfl | (simp; done) | (simp [*]; done), by repeat (first | exact Drawn0.refl _ | apply Drawn0.step)⟩
  · rw [if_neg c3] at H
    have c3b0 : decide (1 < a0) = false := decide_eq_false c3
    clear c3
    obtain rfl := Option.some.inj H
    go_enter Try.func9, Try.ntmps9
    go_wp2
    go_ret
    exact ⟨by first | rfl | (simp; done) | (simp [*]; done), by repeat (first | exact Drawn0.refl _ | apply Drawn0.step)⟩

/-! ### coprime_small: function 28 -/
def coprime_small.f (a0 : Int) (a1 : Int) : Option (Bool) := if a0 > 0 then (if a1 > 0 then (if a1 = 0 then (none) else (some (decide (a0 ≤ (wrap64 (Int.tdiv (1024 : Int) a1)))))) else (some false)) else (some false)
set_option maxHeartbeats 8000000 in
set_option maxRecDepth 100000 in
theorem coprime_small.calls (a0 : Int) (a1 : Int) (r : Bool) (w : World) (h : coprime_small.f a0 a1 = some r) :
    Calls Try.prog 28 #[.int .i64 a0, .int .i64 a1] w fun e w' => e = .returned (.bool r) ∧ Drawn0 w w' := by
  have H : (if a0 > 0 then (if a1 > 0 then (if a1 = 0 then (none) else (some (decide (a0 ≤ (wrap64 (Int.tdiv (1024 : Int) a1)))))) else (some false)) else (some false)) = some r := h
  clear h
  by_cases c3 : a0 > 0
  · rw [if_pos c3] at H
    have c3b0 : decide (0 < a0) = true := decide_eq_true c3
    clear c3
    by_cases c4 : a1 > 0
    · rw [if_pos c4] at H
      have c4b0 : decide (0 < a1) = true := decide_eq_true c4
      clear c4
      by_cases c5 : a1 = 0
      · rw [if_pos c5] at H
        exact absurd H (by simp)
      · rw [if_neg c5] at H
        have c5b0 : (a1 == 0) = false := beq_eq_false_iff_ne.mpr c5
        have c5b1 : (a1 != 0) = true := bne_iff_ne.mpr c5
        obtain rfl := Option.some.inj H
        go_enter Try.func28, Try.ntmps28
        go_wp2
        go_ret
        exact ⟨by first | rfl | (simp; done) | (simp [*]; done), by repeat (first | exact Drawn0.refl _ | apply Drawn0.step)⟩
    · rw [if_neg c4] at H
      have c4b0 : decide (0 < a1) = false := decide_eq_false c4
      clear c4
      obtain rfl := Option.some.inj H
      go_enter Try.func28, Try.ntmps28
      go_wp2
      go_ret
      exact ⟨by first | rfl | (simp; done) | (simp [*]; done), by repeat (first | exact Drawn0.refl _ | apply Drawn0.step)⟩
  · rw [if_neg c3] at H
    have c3b0 : decide (0 < a0) = false := decide_eq_false c3
    clear c3
    obtain rfl := Option.some.inj H
    go_enter Try.func28, Try.ntmps28
    go_wp2
    go_ret
    exact ⟨by first | rfl | (simp; done) | (simp [*]; done), by repeat (first | exact Drawn0.refl _ | apply Drawn0.step)⟩

end Go.Proofs.Ytlpbfhbfaphicaa.XC
