-- Printed by a program of this session (wip/tools/mkprint.py) out of the translation.
import Derived.Test.YtflceedohhhdiaaXM0
import Derived.Test.YtflceedohhhdiaaXM1
import Derived.Test.YtflceedohhhdiaaXM2
import Derived.Test.YtflceedohhhdiaaXM4
namespace Go.Proofs.Ytflceedohhhdiaa.XM
open Go.RowKit Go.Proofs.Ytflceedohhhdiaa.Given Go.Proofs.YtflceedohhhdiaaW.PrintWords Go.Proofs.YtflceedohhhdiaaW.PrintLast Go.Proofs.YtflceedohhhdiaaW.PrintMore
attribute [local go_sem] max2_int min2_int max_two min_two max_three min_three max_four min_four   -- for this text's walks alone
set_option linter.unusedVariables false
set_option linter.unusedSimpArgs false

/-! ### modular_Pow: function 46 -/
def modular_Pow.l0 : Nat → Int → Int → Int → Int → Option (Int)
  | 0, _, _, _, _ => none
  | k + 1, x0, x1, x2, x7 => if x1 > 0 then (if (Go.bits .and .u64 x1 1) = 1 then ((modular_Mul.f k x7 x0 x2).bind fun t178 => ((modular_Mul.f k x0 x0 x2).bind fun t179 => (modular_Pow.l0 k t179 (x1 / 2) x2 t178))) else ((modular_Mul.f k x0 x0 x2).bind fun t180 => (modular_Pow.l0 k t180 (x1 / 2) x2 x7))) else (some x7)
def modular_Pow.f (k : Nat) (a0 : Int) (a1 : Int) (a2 : Int) : Option (Int) := if a2 = 0 then (some 0) else (modular_Pow.l0 k a0 a1 a2 ((1 : Int) % a2))
theorem modular_Pow.mono_l : ∀ k, (∀ y0 y1 y2 y3, LeO (modular_Pow.l0 k y0 y1 y2 y3) (modular_Pow.l0 (k + 1) y0 y1 y2 y3))
  | 0 => fun _ _ _ _ r h => by simp [modular_Pow.l0] at h
  | k + 1 => by
    have ih0 := modular_Pow.mono_l k
    · intro y0 y1 y2 y3
      unfold modular_Pow.l0
      repeat' first
      | (with_reducible exact ih0 _ _ _ _)
      | (with_reducible exact modular_Mul.mono _ _ _ _)
      | (with_reducible exact LeO.refl _)
      | (with_reducible exact LeO.none _)
      | (with_reducible refine LeO.ite ?_ ?_)
      | (with_reducible refine LeO.bind ?_ (fun _ => ?_))
      | exact ih0 _ _ _ _
      | exact modular_Mul.mono _ _ _ _
      | exact LeO.none _
      | refine LeO.ite ?_ ?_
      | refine LeO.bind ?_ (fun _ => ?_)
theorem modular_Pow.mono : ∀ a0 a1 a2 k, LeO (modular_Pow.f k a0 a1 a2) (modular_Pow.f (k + 1) a0 a1 a2) := by
  intro a0 a1 a2 k
  have ih0 := modular_Pow.mono_l k
  unfold modular_Pow.f
  repeat' first
      | (with_reducible exact ih0 _ _ _ _)
      | (with_reducible exact modular_Mul.mono _ _ _ _)
      | (with_reducible exact LeO.refl _)
      | (with_reducible exact LeO.none _)
      | (with_reducible refine LeO.ite ?_ ?_)
      | (with_reducible refine LeO.bind ?_ (fun _ => ?_))
      | exact ih0 _ _ _ _
      | exact modular_Mul.mono _ _ _ _
      | exact LeO.none _
      | refine LeO.ite ?_ ?_
      | refine LeO.bind ?_ (fun _ => ?_)
set_option maxHeartbeats 8000000 in
set_option maxRecDepth 100000 in
theorem modular_Pow.calls (k : Nat) (a0 : Int) (a1 : Int) (a2 : Int) (r : Int) (w : World) (h : modular_Pow.f k a0 a1 a2 = some r) :
    Calls Try.prog 46 #[.int .u64 a0, .int .u64 a1, .int .u64 a2] w fun e w' => e = .returned (.int .u64 r) ∧ Drawn0 w w' := by
  have H : (if a2 = 0 then (some 0) else (modular_Pow.l0 k a0 a1 a2 ((1 : Int) % a2))) = some r := h
  clear h
  by_cases c4 : a2 = 0
  · rw [if_pos c4] at H
    have c4b0 : (a2 == 0) = true := beq_iff_eq.mpr c4
    have c4b1 : (a2 != 0) = false := bne_eq_false_iff_eq.mpr c4
    clear c4
    obtain rfl := Option.some.inj H
    go_enter Try.func46, Try.ntmps46
    go_wp2
    go_ret
    exact ⟨by first | rfl | (simp; done) | (simp [*]; done), by repeat (first | exact Drawn0.refl _ | apply Drawn0.step)⟩
  · rw [if_neg c4] at H
    have c4b0 : (a2 == 0) = false := beq_eq_false_iff_ne.mpr c4
    have c4b1 : (a2 != 0) = true := bne_iff_ne.mpr c4
    have H' := Aside0.mk H
    clear H
    go_enter Try.func46, Try.ntmps46
    go_wp2
    go_loopg [0, 1, 7] k (fun kq v0 v1 v7 w' => ∃ (x0_1 : Int) (x1_1 : Int) (x7_1 : Int), v0 = .int .u64 x0_1 ∧ v1 = .int .u64 x1_1 ∧ v7 = .int .u64 x7_1 ∧ Aside0 (modular_Pow.l0 kq x0_1 x1_1 a2 x7_1 = some r) ∧ Aside0 (kq ≤ k) ∧ Drawn0 w w')
    case atStart => exact ⟨(a0), (a1), ((1 : Int) % a2), (by first | rfl | (simp; done) | (simp [*]; done)), (by first | rfl | (simp; done) | (simp [*]; done)), (by first | rfl | (simp; done) | (simp [*]; done)), H', ⟨Nat.le_refl _⟩, by repeat (first | exact Drawn0.refl _ | apply Drawn0.step)⟩
    case round =>
      clear H'
      try clear p2
      try clear c4
      try clear c4b0
      try clear c4b1
      obtain ⟨x0_1, x1_1, x7_1, rfl, rfl, rfl, HA, HK1, ⟨m1, rfl⟩⟩ := hrel
      cases gk with
      | zero => exact absurd HA.out (by simp [modular_Pow.l0])
      | succ k1 =>
        have H := HA.out
        clear HA
        simp only [modular_Pow.l0] at H
        by_cases c5 : x1_1 > 0
        · rw [if_pos c5] at H
          have c5b0 : decide (0 < x1_1) = true := decide_eq_true c5
          clear c5
          by_cases c6 : (Go.bits .and .u64 x1_1 1) = 1
          · rw [if_pos c6] at H
            have c6b0 : ((Go.bits .and .u64 x1_1 1) == 1) = true := beq_iff_eq.mpr c6
            have c6b1 : ((Go.bits .and .u64 x1_1 1) != 1) = false := bne_eq_false_iff_eq.mpr c6
            clear c6
            replace H := Option.bind_eq_some_iff.mp H
            obtain ⟨t178, A70, H⟩ := H
            replace H : ((modular_Mul.f k1 x0_1 x0_1 a2).bind fun t179 => (modular_Pow.l0 k1 t179 (x1_1 / 2) a2 t178)) = some r := H
            have A7 := Aside0.mk A70
            clear A70
            replace H := Option.bind_eq_some_iff.mp H
            obtain ⟨t179, A80, H⟩ := H
            replace H : (modular_Pow.l0 k1 t179 (x1_1 / 2) a2 t178) = some r := H
            have A8 := Aside0.mk A80
            clear A80
            have H' := Aside0.mk H
            clear H
            go_wp2_with (first | ((with_reducible refine gate_callee (f := 39) rfl ?_); refine goesL_ (some 22) rfl rfl Try.func39 (by kernel_rfl) rfl #[.int .u64 x7_1, .int .u64 x0_1, .int .u64 a2] rfl (by (try simp only [List.map_toArray, List.map_cons, List.map_nil]); first | done | rfl | (simp only [List.length_drop, List.length_take]; rfl)) ?_; (with_reducible refine (modular_Mul.calls k1 x7_1 x0_1 a2 t178 _ A7.out).mono ?_); rintro e w' ⟨rfl, ⟨nd, rfl⟩⟩; refine ⟨_, rfl, ?_⟩) | ((with_reducible refine gate_callee (f := 39) rfl ?_); refine goesL_ (some 26) rfl rfl Try.func39 (by kernel_rfl) rfl #[.int .u64 x0_1, .int .u64 x0_1, .int .u64 a2] rfl (by (try simp only [List.map_toArray, List.map_cons, List.map_nil]); first | done | rfl | (simp only [List.length_drop, List.length_take]; rfl)) ?_; (with_reducible refine (modular_Mul.calls k1 x0_1 x0_1 a2 t179 _ A8.out).mono ?_); rintro e w' ⟨rfl, ⟨nd, rfl⟩⟩; refine ⟨_, rfl, ?_⟩))
            go_roundg k1
            case measure => have := HK1.out; omega
            case rel => exact ⟨(t179), (x1_1 / 2), (t178), (by first | rfl | (simp; done) | (simp [*]; done)), (by first | rfl | (simp; done) | (simp [*]; done)), (by first | rfl | (simp; done) | (simp [*]; done)), H', ⟨by have := HK1.out; omega⟩, by repeat (first | exact Drawn0.refl _ | apply Drawn0.step)⟩
          · rw [if_neg c6] at H
            have c6b0 : ((Go.bits .and .u64 x1_1 1) == 1) = false := beq_eq_false_iff_ne.mpr c6
            have c6b1 : ((Go.bits .and .u64 x1_1 1) != 1) = true := bne_iff_ne.mpr c6
            replace H := Option.bind_eq_some_iff.mp H
            obtain ⟨t180, A90, H⟩ := H
            replace H : (modular_Pow.l0 k1 t180 (x1_1 / 2) a2 x7_1) = some r := H
            have A9 := Aside0.mk A90
            clear A90
            have H' := Aside0.mk H
            clear H
            go_wp2_with (first | ((with_reducible refine gate_callee (f := 39) rfl ?_); refine goesL_ (some 26) rfl rfl Try.func39 (by kernel_rfl) rfl #[.int .u64 x0_1, .int .u64 x0_1, .int .u64 a2] rfl (by (try simp only [List.map_toArray, List.map_cons, List.map_nil]); first | done | rfl | (simp only [List.length_drop, List.length_take]; rfl)) ?_; (with_reducible refine (modular_Mul.calls k1 x0_1 x0_1 a2 t180 _ A9.out).mono ?_); rintro e w' ⟨rfl, ⟨nd, rfl⟩⟩; refine ⟨_, rfl, ?_⟩))
            go_roundg k1
            case measure => have := HK1.out; omega
            case rel => exact ⟨(t180), (x1_1 / 2), (x7_1), (by first | rfl | (simp; done) | (simp [*]; done)), (by first | rfl | (simp; done) | (simp [*]; done)), (by first | rfl | (simp; done) | (simp [*]; done)), H', ⟨by have := HK1.out; omega⟩, by repeat (first | exact Drawn0.refl _ | apply Drawn0.step)⟩
        · rw [if_neg c5] at H
          have c5b0 : decide (0 < x1_1) = false := decide_eq_false c5
          clear c5
          obtain rfl := Option.some.inj H
          go_wp2
          go_ret
          exact ⟨by first | rfl | (simp; done) | (simp [*]; done), by repeat (first | exact Drawn0.refl _ | apply Drawn0.step)⟩

/-! ### epicycleref02_Pow: function 47 -/
def epicycleref02_Pow.f : Nat → Int → Int → Int → Option (Int)
  | 0, _, _, _ => none
  | k + 1, a0, a1, a2 => if a1 = 0 then (if a2 = 0 then (none) else (some ((1 : Int) % a2))) else ((epicycleref02_Pow.f k a0 (IntKind.u64.wrap (Int.tdiv a1 2)) a2).bind fun t181 => ((epicycleref02_Mul.f k t181 t181 a2).bind fun t182 => (if (Int.tmod a1 2) = 1 then ((epicycleref02_Mul.f k t182 a0 a2).bind fun t183 => (some t183)) else (some t182))))
theorem epicycleref02_Pow.mono_l : ∀ k, (∀ y0 y1 y2, LeO (epicycleref02_Pow.f k y0 y1 y2) (epicycleref02_Pow.f (k + 1) y0 y1 y2))
  | 0 => fun _ _ _ r h => by simp [epicycleref02_Pow.f] at h
  | k + 1 => by
    have ih0 := epicycleref02_Pow.mono_l k
    · intro y0 y1 y2
      unfold epicycleref02_Pow.f
      repeat' first
      | (with_reducible exact ih0 _ _ _)
      | (with_reducible exact epicycleref02_Mul.mono _ _ _ _)
      | (with_reducible exact LeO.refl _)
      | (with_reducible exact LeO.none _)
      | (with_reducible refine LeO.ite ?_ ?_)
      | (with_reducible refine LeO.bind ?_ (fun _ => ?_))
      | exact ih0 _ _ _
      | exact epicycleref02_Mul.mono _ _ _ _
      | exact LeO.none _
      | refine LeO.ite ?_ ?_
      | refine LeO.bind ?_ (fun _ => ?_)
theorem epicycleref02_Pow.mono : ∀ a0 a1 a2 k, LeO (epicycleref02_Pow.f k a0 a1 a2) (epicycleref02_Pow.f (k + 1) a0 a1 a2) := by
  intro a0 a1 a2 k
  have ih0 := epicycleref02_Pow.mono_l k
  exact ih0 a0 a1 a2
set_option maxHeartbeats 8000000 in
set_option maxRecDepth 100000 in
theorem epicycleref02_Pow.calls (k : Nat) : ∀ (a0 : Int) (a1 : Int) (a2 : Int) (r : Int) (w : World) (h : epicycleref02_Pow.f k a0 a1 a2 = some r),
    Calls Try.prog 47 #[.int .u64 a0, .int .u64 a1, .int .u64 a2] w fun e w' => e = .returned (.int .u64 r) ∧ Drawn0 w w' := by
  induction k using Nat.strongRecOn with
  | _ k ih =>
  intro a0 a1 a2 r w h
  cases k with
  | zero => exact absurd h (by simp [epicycleref02_Pow.f])
  | succ k =>
  simp only [epicycleref02_Pow.f] at h
  have H : (if a1 = 0 then (if a2 = 0 then (none) else (some ((1 : Int) % a2))) else ((epicycleref02_Pow.f k a0 (IntKind.u64.wrap (Int.tdiv a1 2)) a2).bind fun t181 => ((epicycleref02_Mul.f k t181 t181 a2).bind fun t182 => (if (Int.tmod a1 2) = 1 then ((epicycleref02_Mul.f k t182 a0 a2).bind fun t183 => (some t183)) else (some t182))))) = some r := h
  clear h
  by_cases c4 : a1 = 0
  · rw [if_pos c4] at H
    have c4b0 : (a1 == 0) = true := beq_iff_eq.mpr c4
    have c4b1 : (a1 != 0) = false := bne_eq_false_iff_eq.mpr c4
    clear c4
    by_cases c5 : a2 = 0
    · rw [if_pos c5] at H
      exact absurd H (by simp)
    · rw [if_neg c5] at H
      have c5b0 : (a2 == 0) = false := beq_eq_false_iff_ne.mpr c5
      have c5b1 : (a2 != 0) = true := bne_iff_ne.mpr c5
      obtain rfl := Option.some.inj H
      go_enter Try.func47, Try.ntmps47
      go_wp2
      go_ret
      exact ⟨by first | rfl | (simp; done) | (simp [*]; done), by repeat (first | exact Drawn0.refl _ | apply Drawn0.step)⟩
  · rw [if_neg c4] at H
    have c4b0 : (a1 == 0) = false := beq_eq_false_iff_ne.mpr c4
    have c4b1 : (a1 != 0) = true := bne_iff_ne.mpr c4
    replace H := Option.bind_eq_some_iff.mp H
    obtain ⟨t181, A60, H⟩ := H
    replace H : ((epicycleref02_Mul.f k t181 t181 a2).bind fun t182 => (if (Int.tmod a1 2) = 1 then ((epicycleref02_Mul.f k t182 a0 a2).bind fun t183 => (some t183)) else (some t182))) = some r := H
    have A6 := Aside0.mk A60
    clear A60
    replace H := Option.bind_eq_some_iff.mp H
    obtain ⟨t182, A70, H⟩ := H
    replace H : (if (Int.tmod a1 2) = 1 then ((epicycleref02_Mul.f k t182 a0 a2).bind fun t183 => (some t183)) else (some t182)) = some r := H
    have A7 := Aside0.mk A70
    clear A70
    by_cases c8 : (Int.tmod a1 2) = 1
    · rw [if_pos c8] at H
      have c8b0 : ((Int.tmod a1 2) == 1) = true := beq_iff_eq.mpr c8
      have c8b1 : ((Int.tmod a1 2) != 1) = false := bne_eq_false_iff_eq.mpr c8
      clear c8
      replace H := Option.bind_eq_some_iff.mp H
      obtain ⟨t183, A90, H⟩ := H
      replace H : (some t183) = some r := H
      have A9 := Aside0.mk A90
      clear A90
      obtain rfl := Option.some.inj H
      go_enter Try.func47, Try.ntmps47
      go_wp2_with (first | ((with_reducible refine gate_callee (f := 47) rfl ?_); refine goesL_ (some 17) rfl rfl Try.func47 (by kernel_rfl) rfl #[.int .u64 a0, .int .u64 (IntKind.u64.wrap (Int.tdiv a1 2)), .int .u64 a2] rfl (by (try simp only [List.map_toArray, List.map_cons, List.map_nil]); first | done | rfl | (simp only [List.length_drop, List.length_take]; rfl)) ?_; (with_reducible refine (ih k (by omega) a0 (IntKind.u64.wrap (Int.tdiv a1 2)) a2 t181 _ A6.out).mono ?_); rintro e w' ⟨rfl, ⟨nd, rfl⟩⟩; refine ⟨_, rfl, ?_⟩) | ((with_reducible refine gate_callee (f := 43) rfl ?_); refine goesL_ (some 21) rfl rfl Try.func43 (by kernel_rfl) rfl #[.int .u64 t181, .int .u64 t181, .int .u64 a2] rfl (by (try simp only [List.map_toArray, List.map_cons, List.map_nil]); first | done | rfl | (simp only [List.length_drop, List.length_take]; rfl)) ?_; (with_reducible refine (epicycleref02_Mul.calls k t181 t181 a2 t182 _ A7.out).mono ?_); rintro e w' ⟨rfl, ⟨nd, rfl⟩⟩; refine ⟨_, rfl, ?_⟩) | ((with_reducible refine gate_callee (f := 43) rfl ?_); refine goesL_ (some 28) rfl rfl Try.func43 (by kernel_rfl) rfl #[.int .u64 t182, .int .u64 a0, .int .u64 a2] rfl (by (try simp only [List.map_toArray, List.map_cons, List.map_nil]); first | done | rfl | (simp only [List.length_drop, List.length_take]; rfl)) ?_; (with_reducible refine (epicycleref02_Mul.calls k t182 a0 a2 t183 _ A9.out).mono ?_); rintro e w' ⟨rfl, ⟨nd, rfl⟩⟩; refine ⟨_, rfl, ?_⟩))
      go_ret
      exact ⟨by first | rfl | (simp; done) | (simp [*]; done), by repeat (first | exact Drawn0.refl _ | apply Drawn0.step)⟩
    · rw [if_neg c8] at H
      have c8b0 : ((Int.tmod a1 2) == 1) = false := beq_eq_false_iff_ne.mpr c8
      have c8b1 : ((Int.tmod a1 2) != 1) = true := bne_iff_ne.mpr c8
      obtain rfl := Option.some.inj H
      go_enter Try.func47, Try.ntmps47
      go_wp2_with (first | ((with_reducible refine gate_callee (f := 47) rfl ?_); refine goesL_ (some 17) rfl rfl Try.func47 (by kernel_rfl) rfl #[.int .u64 a0, .int .u64 (IntKind.u64.wrap (Int.tdiv a1 2)), .int .u64 a2] rfl (by (try simp only [List.map_toArray, List.map_cons, List.map_nil]); first | done | rfl | (simp only [List.length_drop, List.length_take]; rfl)) ?_; (with_reducible refine (ih k (by omega) a0 (IntKind.u64.wrap (Int.tdiv a1 2)) a2 t181 _ A6.out).mono ?_); rintro e w' ⟨rfl, ⟨nd, rfl⟩⟩; refine ⟨_, rfl, ?_⟩) | ((with_reducible refine gate_callee (f := 43) rfl ?_); refine goesL_ (some 21) rfl rfl Try.func43 (by kernel_rfl) rfl #[.int .u64 t181, .int .u64 t181, .int .u64 a2] rfl (by (try simp only [List.map_toArray, List.map_cons, List.map_nil]); first | done | rfl | (simp only [List.length_drop, List.length_take]; rfl)) ?_; (with_reducible refine (epicycleref02_Mul.calls k t181 t181 a2 t182 _ A7.out).mono ?_); rintro e w' ⟨rfl, ⟨nd, rfl⟩⟩; refine ⟨_, rfl, ?_⟩))
      go_ret
      exact ⟨by first | rfl | (simp; done) | (simp [*]; done), by repeat (first | exact Drawn0.refl _ | apply Drawn0.step)⟩

/-! ### epicyclelaw02_ModularProducts: function 13 -/
def epicyclelaw02_ModularProducts.f (k : Nat) (a0 : Int) (a1 : Int) (a2 : Int) : Option (Bool) := (epicyclelaw02_alive.f k).bind fun t184 => (if t184 = true then (if a2 = 0 then ((modular_Mul.f k a0 a1 a2).bind fun t185 => (if t185 = 0 then ((modular_Pow.f k a0 a1 a2).bind fun t186 => (some (t186 == 0))) else (some false))) else ((modular_Mul.f k a0 a1 a2).bind fun t187 => ((epicycleref02_Mul.f k a0 a1 a2).bind fun t188 => (if t187 = t188 then ((modular_Pow.f k a0 a1 a2).bind fun t189 => ((epicycleref02_Pow.f k a0 a1 a2).bind fun t190 => (some (t189 == t190)))) else (some false))))) else (some false))
theorem epicyclelaw02_ModularProducts.mono : ∀ a0 a1 a2 k, LeO (epicyclelaw02_ModularProducts.f k a0 a1 a2) (epicyclelaw02_ModularProducts.f (k + 1) a0 a1 a2) := by
  intro a0 a1 a2 k
  unfold epicyclelaw02_ModularProducts.f
  repeat' first
      | (with_reducible exact epicyclelaw02_alive.mono _)
      | (with_reducible exact epicycleref02_Mul.mono _ _ _ _)
      | (with_reducible exact epicycleref02_Pow.mono _ _ _ _)
      | (with_reducible exact modular_Mul.mono _ _ _ _)
      | (with_reducible exact modular_Pow.mono _ _ _ _)
      | (with_reducible exact LeO.refl _)
      | (with_reducible exact LeO.none _)
      | (with_reducible refine LeO.ite ?_ ?_)
      | (with_reducible refine LeO.bind ?_ (fun _ => ?_))
      | exact epicyclelaw02_alive.mono _
      | exact epicycleref02_Mul.mono _ _ _ _
      | exact epicycleref02_Pow.mono _ _ _ _
      | exact modular_Mul.mono _ _ _ _
      | exact modular_Pow.mono _ _ _ _
      | exact LeO.none _
      | refine LeO.ite ?_ ?_
      | refine LeO.bind ?_ (fun _ => ?_)
set_option maxHeartbeats 8000000 in
set_option maxRecDepth 100000 in
theorem epicyclelaw02_ModularProducts.calls (k : Nat) (a0 : Int) (a1 : Int) (a2 : Int) (w : World) (h : epicyclelaw02_ModularProducts.f k a0 a1 a2 = some true) :
    Calls Try.prog 13 #[.int .u64 a0, .int .u64 a1, .int .u64 a2] w fun e w' => e = .returned (.bool true) ∧ Drawn0 w w' := by
  have H : ((epicyclelaw02_alive.f k).bind fun t184 => (if t184 = true then (if a2 = 0 then ((modular_Mul.f k a0 a1 a2).bind fun t185 => (if t185 = 0 then ((modular_Pow.f k a0 a1 a2).bind fun t186 => (some (t186 == 0))) else (some false))) else ((modular_Mul.f k a0 a1 a2).bind fun t187 => ((epicycleref02_Mul.f k a0 a1 a2).bind fun t188 => (if t187 = t188 then ((modular_Pow.f k a0 a1 a2).bind fun t189 => ((epicycleref02_Pow.f k a0 a1 a2).bind fun t190 => (some (t189 == t190)))) else (some false))))) else (some false))) = some true := h
  clear h
  replace H := Option.bind_eq_some_iff.mp H
  obtain ⟨t184, A40, H⟩ := H
  replace H : (if t184 = true then (if a2 = 0 then ((modular_Mul.f k a0 a1 a2).bind fun t185 => (if t185 = 0 then ((modular_Pow.f k a0 a1 a2).bind fun t186 => (some (t186 == 0))) else (some false))) else ((modular_Mul.f k a0 a1 a2).bind fun t187 => ((epicycleref02_Mul.f k a0 a1 a2).bind fun t188 => (if t187 = t188 then ((modular_Pow.f k a0 a1 a2).bind fun t189 => ((epicycleref02_Pow.f k a0 a1 a2).bind fun t190 => (some (t189 == t190)))) else (some false))))) else (some false)) = some true := H
  have A4 := Aside0.mk A40
  clear A40
  by_cases c5 : t184 = true
  · subst c5
    have H1 : (if a2 = 0 then ((modular_Mul.f k a0 a1 a2).bind fun t185 => (if t185 = 0 then ((modular_Pow.f k a0 a1 a2).bind fun t186 => (some (t186 == 0))) else (some false))) else ((modular_Mul.f k a0 a1 a2).bind fun t187 => ((epicycleref02_Mul.f k a0 a1 a2).bind fun t188 => (if t187 = t188 then ((modular_Pow.f k a0 a1 a2).bind fun t189 => ((epicycleref02_Pow.f k a0 a1 a2).bind fun t190 => (some (t189 == t190)))) else (some false))))) = some true := by rw [if_pos rfl] at H <;> exact H
    clear H
    have H := H1
    clear H1
    by_cases c6 : a2 = 0
    · rw [if_pos c6] at H
      have c6b0 : (a2 == 0) = true := beq_iff_eq.mpr c6
      have c6b1 : (a2 != 0) = false := bne_eq_false_iff_eq.mpr c6
      clear c6
      replace H := Option.bind_eq_some_iff.mp H
      obtain ⟨t185, A70, H⟩ := H
      replace H : (if t185 = 0 then ((modular_Pow.f k a0 a1 a2).bind fun t186 => (some (t186 == 0))) else (some false)) = some true := H
      have A7 := Aside0.mk A70
      clear A70
      by_cases c8 : t185 = 0
      · rw [if_pos c8] at H
        have c8b0 : (t185 == 0) = true := beq_iff_eq.mpr c8
        have c8b1 : (t185 != 0) = false := bne_eq_false_iff_eq.mpr c8
        clear c8
        replace H := Option.bind_eq_some_iff.mp H
        obtain ⟨t186, A90, H⟩ := H
        replace H : (some (t186 == 0)) = some true := H
        have A9 := Aside0.mk A90
        clear A90
        have hR_ := Option.some.inj H
        go_enter Try.func13, Try.ntmps13
        go_wp2_with (first | ((with_reducible refine gate_callee (f := 33) rfl ?_); refine goesL_ (some 7) rfl rfl Try.func33 (by kernel_rfl) rfl #[] rfl (by (try simp only [List.map_toArray, List.map_cons, List.map_nil]); first | done | rfl | (simp only [List.length_drop, List.length_take]; rfl)) ?_; (with_reducible refine (epicyclelaw02_alive.calls k  true _ A4.out).mono ?_); rintro e w' ⟨rfl, ⟨nd, rfl⟩⟩; refine ⟨_, rfl, ?_⟩) | ((with_reducible refine gate_callee (f := 39) rfl ?_); refine goesL_ (some 14) rfl rfl Try.func39 (by kernel_rfl) rfl #[.int .u64 a0, .int .u64 a1, .int .u64 a2] rfl (by (try simp only [List.map_toArray, List.map_cons, List.map_nil]); first | done | rfl | (simp only [List.length_drop, List.length_take]; rfl)) ?_; (with_reducible refine (modular_Mul.calls k a0 a1 a2 t185 _ A7.out).mono ?_); rintro e w' ⟨rfl, ⟨nd, rfl⟩⟩; refine ⟨_, rfl, ?_⟩) | (go_at_call 46; (with_reducible refine (modular_Pow.calls k a0 a1 a2 t186 _ A9.out).mono ?_); rintro e w' ⟨rfl, ⟨nd, rfl⟩⟩))
        go_ret
        exact ⟨by first | rfl | (simp; done) | (simp [*]; done), by repeat (first | exact Drawn0.refl _ | apply Drawn0.step)⟩
      · rw [if_neg c8] at H
        have c8b0 : (t185 == 0) = false := beq_eq_false_iff_ne.mpr c8
        have c8b1 : (t185 != 0) = true := bne_iff_ne.mpr c8
        exact absurd H (by simp)
    · rw [if_neg c6] at H
      have c6b0 : (a2 == 0) = false := beq_eq_false_iff_ne.mpr c6
      have c6b1 : (a2 != 0) = true := bne_iff_ne.mpr c6
      replace H := Option.bind_eq_some_iff.mp H
      obtain ⟨t187, A100, H⟩ := H
      replace H : ((epicycleref02_Mul.f k a0 a1 a2).bind fun t188 => (if t187 = t188 then ((modular_Pow.f k a0 a1 a2).bind fun t189 => ((epicycleref02_Pow.f k a0 a1 a2).bind fun t190 => (some (t189 == t190)))) else (some false))) = some true := H
      have A10 := Aside0.mk A100
      clear A100
      replace H := Option.bind_eq_some_iff.mp H
      obtain ⟨t188, A110, H⟩ := H
      replace H : (if t187 = t188 then ((modular_Pow.f k a0 a1 a2).bind fun t189 => ((epicycleref02_Pow.f k a0 a1 a2).bind fun t190 => (some (t189 == t190)))) else (some false)) = some true := H
      have A11 := Aside0.mk A110
      clear A110
      by_cases c12 : t187 = t188
      · rw [if_pos c12] at H
        have c12b0 : (t187 == t188) = true := beq_iff_eq.mpr c12
        have c12b1 : (t187 != t188) = false := bne_eq_false_iff_eq.mpr c12
        clear c12
        replace H := Option.bind_eq_some_iff.mp H
        obtain ⟨t189, A130, H⟩ := H
        replace H : ((epicycleref02_Pow.f k a0 a1 a2).bind fun t190 => (some (t189 == t190))) = some true := H
        have A13 := Aside0.mk A130
        clear A130
        replace H := Option.bind_eq_some_iff.mp H
        obtain ⟨t190, A140, H⟩ := H
        replace H : (some (t189 == t190)) = some true := H
        have A14 := Aside0.mk A140
        clear A140
        have hR_ := Option.some.inj H
        go_enter Try.func13, Try.ntmps13
        go_wp2_with (first | ((with_reducible refine gate_callee (f := 33) rfl ?_); refine goesL_ (some 7) rfl rfl Try.func33 (by kernel_rfl) rfl #[] rfl (by (try simp only [List.map_toArray, List.map_cons, List.map_nil]); first | done | rfl | (simp only [List.length_drop, List.length_take]; rfl)) ?_; (with_reducible refine (epicyclelaw02_alive.calls k  true _ A4.out).mono ?_); rintro e w' ⟨rfl, ⟨nd, rfl⟩⟩; refine ⟨_, rfl, ?_⟩) | ((with_reducible refine gate_callee (f := 39) rfl ?_); refine goesL_ (some 26) rfl rfl Try.func39 (by kernel_rfl) rfl #[.int .u64 a0, .int .u64 a1, .int .u64 a2] rfl (by (try simp only [List.map_toArray, List.map_cons, List.map_nil]); first | done | rfl | (simp only [List.length_drop, List.length_take]; rfl)) ?_; (with_reducible refine (modular_Mul.calls k a0 a1 a2 t187 _ A10.out).mono ?_); rintro e w' ⟨rfl, ⟨nd, rfl⟩⟩; refine ⟨_, rfl, ?_⟩) | ((with_reducible refine gate_callee (f := 43) rfl ?_); refine goesL_ (some 30) rfl rfl Try.func43 (by kernel_rfl) rfl #[.int .u64 a0, .int .u64 a1, .int .u64 a2] rfl (by (try simp only [List.map_toArray, List.map_cons, List.map_nil]); first | done | rfl | (simp only [List.length_drop, List.length_take]; rfl)) ?_; (with_reducible refine (epicycleref02_Mul.calls k a0 a1 a2 t188 _ A11.out).mono ?_); rintro e w' ⟨rfl, ⟨nd, rfl⟩⟩; refine ⟨_, rfl, ?_⟩) | (go_at_call 46; (with_reducible refine (modular_Pow.calls k a0 a1 a2 t189 _ A13.out).mono ?_); rintro e w' ⟨rfl, ⟨nd, rfl⟩⟩) | (go_at_call 47; (with_reducible refine (epicycleref02_Pow.calls k a0 a1 a2 t190 _ A14.out).mono ?_); rintro e w' ⟨rfl, ⟨nd, rfl⟩⟩))
        go_ret
        exact ⟨by first | rfl | (simp; done) | (simp [*]; done), by repeat (first | exact Drawn0.refl _ | apply Drawn0.step)⟩
      · rw [if_neg c12] at H
        have c12b0 : (t187 == t188) = false := beq_eq_false_iff_ne.mpr c12
        have c12b1 : (t187 != t188) = true := bne_iff_ne.mpr c12
        exact absurd H (by simp)
  · replace c5 := Bool.eq_false_iff.mpr c5
    subst c5
    have H1 : (some false) = some true := by rw [if_neg (show ¬ (false = true) by decide)] at H <;> exact H
    clear H
    have H := H1
    clear H1
    exact absurd H (by simp)

/-- THE ONE PURE STATEMENT of epicyclelaw02_ModularProducts: yours. -/
def epicyclelaw02_ModularProducts.Pure : Prop := ∀ (a0 : Int) (a1 : Int) (a2 : Int), (Lit.int .u64 a0).wf = true → (Lit.int .u64 a1).wf = true → (Lit.int .u64 a2).wf = true → ∃ k, epicyclelaw02_ModularProducts.f k a0 a1 a2 = some true
theorem epicyclelaw02_ModularProducts.walk (P : epicyclelaw02_ModularProducts.Pure) (a0 : Int) (a1 : Int) (a2 : Int) (w : World) (w0 : (Lit.int .u64 a0).wf = true) (w1 : (Lit.int .u64 a1).wf = true) (w2 : (Lit.int .u64 a2).wf = true) :
    Calls Try.prog 13 #[.int .u64 a0, .int .u64 a1, .int .u64 a2] w fun e w' => e = .returned (.bool true) ∧ Below w.heap.size w w' := by
  obtain ⟨k, h⟩ := P a0 a1 a2 w0 w1 w2
  refine (epicyclelaw02_ModularProducts.calls k a0 a1 a2 w h).mono ?_
  rintro e w' ⟨rfl, hd⟩
  exact ⟨rfl, hd.below⟩

/-! ### epicyclelaw02_ModularPowers: function 14 -/
def epicyclelaw02_ModularPowers.j0 : Nat → Int → Int → Int → Int → Bool → Option (Bool)
  | 0, _, _, _, _, _ => none
  | k + 1, x0, x1, x2, x3, x20 => if x20 = true then (some true) else ((modular_Pow.f k x0 (IntKind.u64.wrap (x1 + x2)) x3).bind fun t192 => ((modular_Pow.f k x0 x1 x3).bind fun t193 => ((modular_Pow.f k x0 x2 x3).bind fun t194 => ((modular_Mul.f k t193 t194 x3).bind fun t195 => (if t192 = t195 then ((modular_Pow.f k x0 (IntKind.u64.wrap (x1 * x2)) x3).bind fun t196 => ((modular_Pow.f k x0 x1 x3).bind fun t197 => ((modular_Pow.f k t197 x2 x3).bind fun t198 => (some (t196 == t198))))) else (some false))))))
def epicyclelaw02_ModularPowers.f (k : Nat) (a0 : Int) (a1 : Int) (a2 : Int) (a3 : Int) : Option (Bool) := (epicyclelaw02_alive.f k).bind fun t191 => (if t191 = true then (if a3 = 0 then (epicyclelaw02_ModularPowers.j0 k a0 a1 a2 a3 true) else (if a1 ≥ 2147483648 then (epicyclelaw02_ModularPowers.j0 k a0 a1 a2 a3 true) else (epicyclelaw02_ModularPowers.j0 k a0 a1 a2 a3 (decide (a2 ≥ 2147483648))))) else (some false))
theorem epicyclelaw02_ModularPowers.mono_l : ∀ k, (∀ y0 y1 y2 y3 y4, LeO (epicyclelaw02_ModularPowers.j0 k y0 y1 y2 y3 y4) (epicyclelaw02_ModularPowers.j0 (k + 1) y0 y1 y2 y3 y4))
  | 0 => fun _ _ _ _ _ r h => by simp [epicyclelaw02_ModularPowers.j0] at h
  | k + 1 => by
    have ih0 := epicyclelaw02_ModularPowers.mono_l k
    · intro y0 y1 y2 y3 y4
      unfold epicyclelaw02_ModularPowers.j0
      repeat' first
      | (with_reducible exact ih0 _ _ _ _ _)
      | (with_reducible exact epicyclelaw02_alive.mono _)
      | (with_reducible exact modular_Mul.mono _ _ _ _)
      | (with_reducible exact modular_Pow.mono _ _ _ _)
      | (with_reducible exact LeO.refl _)
      | (with_reducible exact LeO.none _)
      | (with_reducible refine LeO.ite ?_ ?_)
      | (with_reducible refine LeO.bind ?_ (fun _ => ?_))
      | exact ih0 _ _ _ _ _
      | exact epicyclelaw02_alive.mono _
      | exact modular_Mul.mono _ _ _ _
      | exact modular_Pow.mono _ _ _ _
      | exact LeO.none _
      | refine LeO.ite ?_ ?_
      | refine LeO.bind ?_ (fun _ => ?_)
theorem epicyclelaw02_ModularPowers.mono : ∀ a0 a1 a2 a3 k, LeO (epicyclelaw02_ModularPowers.f k a0 a1 a2 a3) (epicyclelaw02_ModularPowers.f (k + 1) a0 a1 a2 a3) := by
  intro a0 a1 a2 a3 k
  have ih0 := epicyclelaw02_ModularPowers.mono_l k
  unfold epicyclelaw02_ModularPowers.f
  repeat' first
      | (with_reducible exact ih0 _ _ _ _ _)
      | (with_reducible exact epicyclelaw02_alive.mono _)
      | (with_reducible exact modular_Mul.mono _ _ _ _)
      | (with_reducible exact modular_Pow.mono _ _ _ _)
      | (with_reducible exact LeO.refl _)
      | (with_reducible exact LeO.none _)
      | (with_reducible refine LeO.ite ?_ ?_)
      | (with_reducible refine LeO.bind ?_ (fun _ => ?_))
      | exact ih0 _ _ _ _ _
      | exact epicyclelaw02_alive.mono _
      | exact modular_Mul.mono _ _ _ _
      | exact modular_Pow.mono _ _ _ _
      | exact LeO.none _
      | refine LeO.ite ?_ ?_
      | refine LeO.bind ?_ (fun _ => ?_)
set_option maxHeartbeats 8000000 in
set_option maxRecDepth 100000 in
theorem epicyclelaw02_ModularPowers.calls (k : Nat) (a0 : Int) (a1 : Int) (a2 : Int) (a3 : Int) (w : World) (h : epicyclelaw02_ModularPowers.f k a0 a1 a2 a3 = some true) :
    Calls Try.prog 14 #[.int .u64 a0, .int .u64 a1, .int .u64 a2, .int .u64 a3] w fun e w' => e = .returned (.bool true) ∧ Drawn0 w w' := by
  have H : ((epicyclelaw02_alive.f k).bind fun t191 => (if t191 = true then (if a3 = 0 then (epicyclelaw02_ModularPowers.j0 k a0 a1 a2 a3 true) else (if a1 ≥ 2147483648 then (epicyclelaw02_ModularPowers.j0 k a0 a1 a2 a3 true) else (epicyclelaw02_ModularPowers.j0 k a0 a1 a2 a3 (decide (a2 ≥ 2147483648))))) else (some false))) = some true := h
  clear h
  replace H := Option.bind_eq_some_iff.mp H
  obtain ⟨t191, A50, H⟩ := H
  replace H : (if t191 = true then (if a3 = 0 then (epicyclelaw02_ModularPowers.j0 k a0 a1 a2 a3 true) else (if a1 ≥ 2147483648 then (epicyclelaw02_ModularPowers.j0 k a0 a1 a2 a3 true) else (epicyclelaw02_ModularPowers.j0 k a0 a1 a2 a3 (decide (a2 ≥ 2147483648))))) else (some false)) = some true := H
  have A5 := Aside0.mk A50
  clear A50
  by_cases c6 : t191 = true
  · subst c6
    have H1 : (if a3 = 0 then (epicyclelaw02_ModularPowers.j0 k a0 a1 a2 a3 true) else (if a1 ≥ 2147483648 then (epicyclelaw02_ModularPowers.j0 k a0 a1 a2 a3 true) else (epicyclelaw02_ModularPowers.j0 k a0 a1 a2 a3 (decide (a2 ≥ 2147483648))))) = some true := by rw [if_pos rfl] at H <;> exact H
    clear H
    have H := H1
    clear H1
    have HC7 := Aside0.mk H
    clear H
    go_enter Try.func14, Try.ntmps14
    go_upto_region 3 with (first | ((with_reducible refine gate_callee (f := 33) rfl ?_); refine goesL_ (some 9) rfl rfl Try.func33 (by kernel_rfl) rfl #[] rfl (by (try simp only [List.map_toArray, List.map_cons, List.map_nil]); first | done | rfl | (simp only [List.length_drop, List.length_take]; rfl)) ?_; (with_reducible refine (epicyclelaw02_alive.calls k  true _ A5.out).mono ?_); rintro e w' ⟨rfl, ⟨nd, rfl⟩⟩; refine ⟨_, rfl, ?_⟩))
    (try simp only [Act.put, List.setIfInBounds_toArray, List.set_cons_zero, List.set_cons_succ])
    go_cut [20] (fun v20 wc => ∃ (kq : Nat) (x20_6 : Bool), v20 = .bool x20_6 ∧ Aside0 (epicyclelaw02_ModularPowers.j0 kq a0 a1 a2 a3 x20_6 = some true) ∧ Aside0 (kq ≤ k) ∧ Drawn0 w wc)
    case first =>
      have H := HC7.out
      clear HC7
      by_cases c8 : a3 = 0
      · rw [if_pos c8] at H
        have c8b0 : (a3 == 0) = true := beq_iff_eq.mpr c8
        have c8b1 : (a3 != 0) = false := bne_eq_false_iff_eq.mpr c8
        clear c8
        (first | rw [c8b0] | (simp only [i64_w, i32_w]; rw [c8b0]) | skip)
        have H' := Aside0.mk H
        clear H
        go_wp2
        go_meet
        case rel => exact ⟨_, (true), (by first | rfl | (simp; done) | (simp [*]; done)), H', ⟨by first | omega | exact Nat.le_refl _⟩, by repeat (first | exact Drawn0.refl _ | apply Drawn0.step)⟩
      · rw [if_neg c8] at H
        have c8b0 : (a3 == 0) = false := beq_eq_false_iff_ne.mpr c8
        have c8b1 : (a3 != 0) = true := bne_iff_ne.mpr c8
        (first | rw [c8b0] | (simp only [i64_w, i32_w]; rw [c8b0]) | skip)
        by_cases c9 : a1 ≥ 2147483648
        · rw [if_pos c9] at H
          have c9b0 : decide (2147483648 ≤ a1) = true := decide_eq_true c9
          clear c9
          have H' := Aside0.mk H
          clear H
          go_wp2
          go_meet
          case rel => exact ⟨_, (true), (by first | rfl | (simp; done) | (simp [*]; done)), H', ⟨by first | omega | exact Nat.le_refl _⟩, by repeat (first | exact Drawn0.refl _ | apply Drawn0.step)⟩
        · rw [if_neg c9] at H
          have c9b0 : decide (2147483648 ≤ a1) = false := decide_eq_false c9
          clear c9
          have H' := Aside0.mk H
          clear H
          go_wp2
          go_meet
          case rel => exact ⟨_, (decide (a2 ≥ 2147483648)), (by first | rfl | (simp; done) | (simp [*]; done)), H', ⟨by first | omega | exact Nat.le_refl _⟩, by repeat (first | exact Drawn0.refl _ | apply Drawn0.step)⟩
    case rest =>
      clear HC7
      try clear c1
      try clear p2
      try clear c3
      try clear c6
      try clear c8
      try clear c8b0
      try clear c8b1
      try clear c9
      try clear c9b0
      obtain ⟨kq, x20_6, rfl, HA, HJ6, ⟨mc6, rfl⟩⟩ := hcut
      cases kq with
      | zero => exact absurd HA.out (by simp [epicyclelaw02_ModularPowers.j0])
      | succ kj6 =>
        have H := HA.out
        clear HA
        simp only [epicyclelaw02_ModularPowers.j0] at H
        by_cases c10 : x20_6 = true
        · subst c10
          have H1 : (some true) = some true := by rw [if_pos rfl] at H <;> exact H
          clear H
          have H := H1
          clear H1
          clear H
          go_wp2
          go_ret
          exact ⟨by first | rfl | (simp; done) | (simp [*]; done), by repeat (first | exact Drawn0.refl _ | apply Drawn0.step)⟩
        · replace c10 := Bool.eq_false_iff.mpr c10
          subst c10
          have H1 : ((modular_Pow.f kj6 a0 (IntKind.u64.wrap (a1 + a2)) a3).bind fun t192 => ((modular_Pow.f kj6 a0 a1 a3).bind fun t193 => ((modular_Pow.f kj6 a0 a2 a3).bind fun t194 => ((modular_Mul.f kj6 t193 t194 a3).bind fun t195 => (if t192 = t195 then ((modular_Pow.f kj6 a0 (IntKind.u64.wrap (a1 * a2)) a3).bind fun t196 => ((modular_Pow.f kj6 a0 a1 a3).bind fun t197 => ((modular_Pow.f kj6 t197 a2 a3).bind fun t198 => (some (t196 == t198))))) else (some false)))))) = some true := by rw [if_neg (show ¬ (false = true) by decide)] at H <;> exact H
          clear H
          have H := H1
          clear H1
          replace H := Option.bind_eq_some_iff.mp H
          obtain ⟨t192, A110, H⟩ := H
          replace H : ((modular_Pow.f kj6 a0 a1 a3).bind fun t193 => ((modular_Pow.f kj6 a0 a2 a3).bind fun t194 => ((modular_Mul.f kj6 t193 t194 a3).bind fun t195 => (if t192 = t195 then ((modular_Pow.f kj6 a0 (IntKind.u64.wrap (a1 * a2)) a3).bind fun t196 => ((modular_Pow.f kj6 a0 a1 a3).bind fun t197 => ((modular_Pow.f kj6 t197 a2 a3).bind fun t198 => (some (t196 == t198))))) else (some false))))) = some true := H
          have A11 := Aside0.mk A110
          clear A110
          replace H := Option.bind_eq_some_iff.mp H
          obtain ⟨t193, A120, H⟩ := H
          replace H : ((modular_Pow.f kj6 a0 a2 a3).bind fun t194 => ((modular_Mul.f kj6 t193 t194 a3).bind fun t195 => (if t192 = t195 then ((modular_Pow.f kj6 a0 (IntKind.u64.wrap (a1 * a2)) a3).bind fun t196 => ((modular_Pow.f kj6 a0 a1 a3).bind fun t197 => ((modular_Pow.f kj6 t197 a2 a3).bind fun t198 => (some (t196 == t198))))) else (some false)))) = some true := H
          have A12 := Aside0.mk A120
          clear A120
          replace H := Option.bind_eq_some_iff.mp H
          obtain ⟨t194, A130, H⟩ := H
          replace H : ((modular_Mul.f kj6 t193 t194 a3).bind fun t195 => (if t192 = t195 then ((modular_Pow.f kj6 a0 (IntKind.u64.wrap (a1 * a2)) a3).bind fun t196 => ((modular_Pow.f kj6 a0 a1 a3).bind fun t197 => ((modular_Pow.f kj6 t197 a2 a3).bind fun t198 => (some (t196 == t198))))) else (some false))) = some true := H
          have A13 := Aside0.mk A130
          clear A130
          replace H := Option.bind_eq_some_iff.mp H
          obtain ⟨t195, A140, H⟩ := H
          replace H : (if t192 = t195 then ((modular_Pow.f kj6 a0 (IntKind.u64.wrap (a1 * a2)) a3).bind fun t196 => ((modular_Pow.f kj6 a0 a1 a3).bind fun t197 => ((modular_Pow.f kj6 t197 a2 a3).bind fun t198 => (some (t196 == t198))))) else (some false)) = some true := H
          have A14 := Aside0.mk A140
          clear A140
          by_cases c15 : t192 = t195
          · rw [if_pos c15] at H
            have c15b0 : (t192 == t195) = true := beq_iff_eq.mpr c15
            have c15b1 : (t192 != t195) = false := bne_eq_false_iff_eq.mpr c15
            clear c15
            replace H := Option.bind_eq_some_iff.mp H
            obtain ⟨t196, A160, H⟩ := H
            replace H : ((modular_Pow.f kj6 a0 a1 a3).bind fun t197 => ((modular_Pow.f kj6 t197 a2 a3).bind fun t198 => (some (t196 == t198)))) = some true := H
            have A16 := Aside0.mk A160
            clear A160
            replace H := Option.bind_eq_some_iff.mp H
            obtain ⟨t197, A170, H⟩ := H
            replace H : ((modular_Pow.f kj6 t197 a2 a3).bind fun t198 => (some (t196 == t198))) = some true := H
            have A17 := Aside0.mk A170
            clear A170
            replace H := Option.bind_eq_some_iff.mp H
            obtain ⟨t198, A180, H⟩ := H
            replace H : (some (t196 == t198)) = some true := H
            have A18 := Aside0.mk A180
            clear A180
            have hR_ := Option.some.inj H
            go_wp2_with (first | ((with_reducible refine gate_callee (f := 46) rfl ?_); refine goesL_ (some 26) rfl rfl Try.func46 (by kernel_rfl) rfl #[.int .u64 a0, .int .u64 (IntKind.u64.wrap (a1 + a2)), .int .u64 a3] rfl (by (try simp only [List.map_toArray, List.map_cons, List.map_nil]); first | done | rfl | (simp only [List.length_drop, List.length_take]; rfl)) ?_; (with_reducible refine (modular_Pow.calls kj6 a0 (IntKind.u64.wrap (a1 + a2)) a3 t192 _ A11.out).mono ?_); rintro e w' ⟨rfl, ⟨nd, rfl⟩⟩; refine ⟨_, rfl, ?_⟩) | ((with_reducible refine gate_callee (f := 46) rfl ?_); refine goesL_ (some 30) rfl rfl Try.func46 (by kernel_rfl) rfl #[.int .u64 a0, .int .u64 a1, .int .u64 a3] rfl (by (try simp only [List.map_toArray, List.map_cons, List.map_nil]); first | done | rfl | (simp only [List.length_drop, List.length_take]; rfl)) ?_; (with_reducible refine (modular_Pow.calls kj6 a0 a1 a3 t193 _ A12.out).mono ?_); rintro e w' ⟨rfl, ⟨nd, rfl⟩⟩; refine ⟨_, rfl, ?_⟩) | ((with_reducible refine gate_callee (f := 46) rfl ?_); refine goesL_ (some 34) rfl rfl Try.func46 (by kernel_rfl) rfl #[.int .u64 a0, .int .u64 a2, .int .u64 a3] rfl (by (try simp only [List.map_toArray, List.map_cons, List.map_nil]); first | done | rfl | (simp only [List.length_drop, List.length_take]; rfl)) ?_; (with_reducible refine (modular_Pow.calls kj6 a0 a2 a3 t194 _ A13.out).mono ?_); rintro e w' ⟨rfl, ⟨nd, rfl⟩⟩; refine ⟨_, rfl, ?_⟩) | ((with_reducible refine gate_callee (f := 39) rfl ?_); refine goesL_ (some 36) rfl rfl Try.func39 (by kernel_rfl) rfl #[.int .u64 t193, .int .u64 t194, .int .u64 a3] rfl (by (try simp only [List.map_toArray, List.map_cons, List.map_nil]); first | done | rfl | (simp only [List.length_drop, List.length_take]; rfl)) ?_; (with_reducible refine (modular_Mul.calls kj6 t193 t194 a3 t195 _ A14.out).mono ?_); rintro e w' ⟨rfl, ⟨nd, rfl⟩⟩; refine ⟨_, rfl, ?_⟩) | (go_at_call 46; (with_reducible refine (modular_Pow.calls kj6 a0 (IntKind.u64.wrap (a1 * a2)) a3 t196 _ A16.out).mono ?_); rintro e w' ⟨rfl, ⟨nd, rfl⟩⟩) | (go_at_call 46; (with_reducible refine (modular_Pow.calls kj6 a0 a1 a3 t197 _ A17.out).mono ?_); rintro e w' ⟨rfl, ⟨nd, rfl⟩⟩) | (go_at_call 46; (with_reducible refine (modular_Pow.calls kj6 t197 a2 a3 t198 _ A18.out).mono ?_); rintro e w' ⟨rfl, ⟨nd, rfl⟩⟩))
            go_ret
            exact ⟨by first | rfl | (simp; done) | (simp [*]; done), by repeat (first | exact Drawn0.refl _ | apply Drawn0.step)⟩
          · rw [if_neg c15] at H
            have c15b0 : (t192 == t195) = false := beq_eq_false_iff_ne.mpr c15
            have c15b1 : (t192 != t195) = true := bne_iff_ne.mpr c15
            exact absurd H (by simp)
  · replace c6 := Bool.eq_false_iff.mpr c6
    subst c6
    have H1 : (some false) = some true := by rw [if_neg (show ¬ (false = true) by decide)] at H <;> exact H
    clear H
    have H := H1
    clear H1
    exact absurd H (by simp)

/-- THE ONE PURE STATEMENT of epicyclelaw02_ModularPowers: yours. -/
def epicyclelaw02_ModularPowers.Pure : Prop := ∀ (a0 : Int) (a1 : Int) (a2 : Int) (a3 : Int), (Lit.int .u64 a0).wf = true → (Lit.int .u64 a1).wf = true → (Lit.int .u64 a2).wf = true → (Lit.int .u64 a3).wf = true → ∃ k, epicyclelaw02_ModularPowers.f k a0 a1 a2 a3 = some true
theorem epicyclelaw02_ModularPowers.walk (P : epicyclelaw02_ModularPowers.Pure) (a0 : Int) (a1 : Int) (a2 : Int) (a3 : Int) (w : World) (w0 : (Lit.int .u64 a0).wf = true) (w1 : (Lit.int .u64 a1).wf = true) (w2 : (Lit.int .u64 a2).wf = true) (w3 : (Lit.int .u64 a3).wf = true) :
    Calls Try.prog 14 #[.int .u64 a0, .int .u64 a1, .int .u64 a2, .int .u64 a3] w fun e w' => e = .returned (.bool true) ∧ Below w.heap.size w w' := by
  obtain ⟨k, h⟩ := P a0 a1 a2 a3 w0 w1 w2 w3
  refine (epicyclelaw02_ModularPowers.calls k a0 a1 a2 a3 w h).mono ?_
  rintro e w' ⟨rfl, hd⟩
  exact ⟨rfl, hd.below⟩

end Go.Proofs.Ytflceedohhhdiaa.XM
