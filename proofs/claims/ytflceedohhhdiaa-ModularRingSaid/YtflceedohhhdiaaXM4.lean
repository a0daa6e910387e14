-- Printed by a program of this session (wip/tools/mkprint.py) out of the translation.
import Derived.Test.YtflceedohhhdiaaXM0
import Derived.Test.YtflceedohhhdiaaXM2
import Derived.Test.YtflceedohhhdiaaXM3
namespace Go.Proofs.Ytflceedohhhdiaa.XM
open Go.RowKit Go.Proofs.Ytflceedohhhdiaa.Given Go.Proofs.YtflceedohhhdiaaW.PrintWords Go.Proofs.YtflceedohhhdiaaW.PrintLast Go.Proofs.YtflceedohhhdiaaW.PrintMore
attribute [local go_sem] max2_int min2_int max_two min_two max_three min_three max_four min_four   -- for this text's walks alone
set_option linter.unusedVariables false
set_option linter.unusedSimpArgs false

/-! ### epicycleref02_Mul: function 43 -/
def epicycleref02_Mul.l0 : Nat → Int → Int → Int → Int → Option (Int)
  | 0, _, _, _, _ => none
  | k + 1, x0, x1, x2, x7 => if x1 > 0 then (if (Int.tmod x1 2) = 1 then ((epicycleref02_Add.f x7 x0 x2).bind fun t160 => ((epicycleref02_Add.f x0 x0 x2).bind fun t161 => (epicycleref02_Mul.l0 k t161 (IntKind.u64.wrap (Int.tdiv x1 2)) x2 t160))) else ((epicycleref02_Add.f x0 x0 x2).bind fun t162 => (epicycleref02_Mul.l0 k t162 (IntKind.u64.wrap (Int.tdiv x1 2)) x2 x7))) else (some x7)
def epicycleref02_Mul.f (k : Nat) (a0 : Int) (a1 : Int) (a2 : Int) : Option (Int) := if a2 = 0 then (none) else (epicycleref02_Mul.l0 k (Int.tmod a0 a2) a1 a2 0)
theorem epicycleref02_Mul.mono_l : ∀ k, (∀ y0 y1 y2 y3, LeO (epicycleref02_Mul.l0 k y0 y1 y2 y3) (epicycleref02_Mul.l0 (k + 1) y0 y1 y2 y3))
  | 0 => fun _ _ _ _ r h => by simp [epicycleref02_Mul.l0] at h
  | k + 1 => by
    have ih0 := epicycleref02_Mul.mono_l k
    · intro y0 y1 y2 y3
      unfold epicycleref02_Mul.l0
      repeat' first
      | (with_reducible exact ih0 _ _ _ _)
      | (with_reducible exact LeO.refl _)
      | (with_reducible exact LeO.none _)
      | (with_reducible refine LeO.ite ?_ ?_)
      | (with_reducible refine LeO.bind ?_ (fun _ => ?_))
      | exact ih0 _ _ _ _
      | exact LeO.none _
      | refine LeO.ite ?_ ?_
      | refine LeO.bind ?_ (fun _ => ?_)
theorem epicycleref02_Mul.mono : ∀ a0 a1 a2 k, LeO (epicycleref02_Mul.f k a0 a1 a2) (epicycleref02_Mul.f (k + 1) a0 a1 a2) := by
  intro a0 a1 a2 k
  have ih0 := epicycleref02_Mul.mono_l k
  unfold epicycleref02_Mul.f
  repeat' first
      | (with_reducible exact ih0 _ _ _ _)
      | (with_reducible exact LeO.refl _)
      | (with_reducible exact LeO.none _)
      | (with_reducible refine LeO.ite ?_ ?_)
      | (with_reducible refine LeO.bind ?_ (fun _ => ?_))
      | exact ih0 _ _ _ _
      | exact LeO.none _
      | refine LeO.ite ?_ ?_
      | refine LeO.bind ?_ (fun _ => ?_)
set_option maxHeartbeats 8000000 in
set_option maxRecDepth 100000 in
theorem epicycleref02_Mul.calls (k : Nat) (a0 : Int) (a1 : Int) (a2 : Int) (r : Int) (w : World) (h : epicycleref02_Mul.f k a0 a1 a2 = some r) :
    Calls Try.prog 43 #[.int .u64 a0, .int .u64 a1, .int .u64 a2] w fun e w' => e = .returned (.int .u64 r) ∧ Drawn0 w w' := by
  have H : (if a2 = 0 then (none) else (epicycleref02_Mul.l0 k (Int.tmod a0 a2) a1 a2 0)) = some r := h
  clear h
  by_cases c4 : a2 = 0
  · rw [if_pos c4] at H
    exact absurd H (by simp)
  · rw [if_neg c4] at H
    have c4b0 : (a2 == 0) = false := beq_eq_false_iff_ne.mpr c4
    have c4b1 : (a2 != 0) = true := bne_iff_ne.mpr c4
    have H' := Aside0.mk H
    clear H
    go_enter Try.func43, Try.ntmps43
    go_wp2
    go_loopg [0, 1, 7] k (fun kq v0 v1 v7 w' => ∃ (x0_1 : Int) (x1_1 : Int) (x7_1 : Int), v0 = .int .u64 x0_1 ∧ v1 = .int .u64 x1_1 ∧ v7 = .int .u64 x7_1 ∧ Aside0 (epicycleref02_Mul.l0 kq x0_1 x1_1 a2 x7_1 = some r) ∧ Aside0 (kq ≤ k) ∧ Drawn0 w w')
    case atStart => exact ⟨(Int.tmod a0 a2), (a1), (0), (by first | rfl | (simp; done) | (simp [*]; done)), (by first | rfl | (simp; done) | (simp [*]; done)), (by first | rfl | (simp; done) | (simp [*]; done)), H', ⟨Nat.le_refl _⟩, by repeat (first | exact Drawn0.refl _ | apply Drawn0.step)⟩
    case round =>
      clear H'
      try clear p2
      try clear c4
      try clear c4b0
      try clear c4b1
      obtain ⟨x0_1, x1_1, x7_1, rfl, rfl, rfl, HA, HK1, ⟨m1, rfl⟩⟩ := hrel
      cases gk with
      | zero => exact absurd HA.out (by simp [epicycleref02_Mul.l0])
      | succ k1 =>
        have H := HA.out
        clear HA
        simp only [epicycleref02_Mul.l0] at H
        by_cases c5 : x1_1 > 0
        · rw [if_pos c5] at H
          have c5b0 : decide (0 < x1_1) = true := decide_eq_true c5
          clear c5
          by_cases c6 : (Int.tmod x1_1 2) = 1
          · rw [if_pos c6] at H
            have c6b0 : ((Int.tmod x1_1 2) == 1) = true := beq_iff_eq.mpr c6
            have c6b1 : ((Int.tmod x1_1 2) != 1) = false := bne_eq_false_iff_eq.mpr c6
            clear c6
            replace H := Option.bind_eq_some_iff.mp H
            obtain ⟨t160, A70, H⟩ := H
            replace H : ((epicycleref02_Add.f x0_1 x0_1 a2).bind fun t161 => (epicycleref02_Mul.l0 k1 t161 (IntKind.u64.wrap (Int.tdiv x1_1 2)) a2 t160)) = some r := H
            have A7 := Aside0.mk A70
            clear A70
            replace H := Option.bind_eq_some_iff.mp H
            obtain ⟨t161, A80, H⟩ := H
            replace H : (epicycleref02_Mul.l0 k1 t161 (IntKind.u64.wrap (Int.tdiv x1_1 2)) a2 t160) = some r := H
            have A8 := Aside0.mk A80
            clear A80
            have H' := Aside0.mk H
            clear H
            go_wp2_with (first | ((with_reducible refine gate_callee (f := 37) rfl ?_); refine goesL_ (some 19) rfl rfl Try.func37 (by kernel_rfl) rfl #[.int .u64 x7_1, .int .u64 x0_1, .int .u64 a2] rfl (by (try simp only [List.map_toArray, List.map_cons, List.map_nil]); first | done | rfl | (simp only [List.length_drop, List.length_take]; rfl)) ?_; (with_reducible refine (epicycleref02_Add.calls x7_1 x0_1 a2 t160 _ A7.out).mono ?_); rintro e w' ⟨rfl, ⟨nd, rfl⟩⟩; refine ⟨_, rfl, ?_⟩) | ((with_reducible refine gate_callee (f := 37) rfl ?_); refine goesL_ (some 23) rfl rfl Try.func37 (by kernel_rfl) rfl #[.int .u64 x0_1, .int .u64 x0_1, .int .u64 a2] rfl (by (try simp only [List.map_toArray, List.map_cons, List.map_nil]); first | done | rfl | (simp only [List.length_drop, List.length_take]; rfl)) ?_; (with_reducible refine (epicycleref02_Add.calls x0_1 x0_1 a2 t161 _ A8.out).mono ?_); rintro e w' ⟨rfl, ⟨nd, rfl⟩⟩; refine ⟨_, rfl, ?_⟩))
            go_roundg k1
            case measure => have := HK1.out; omega
            case rel => exact ⟨(t161), (IntKind.u64.wrap (Int.tdiv x1_1 2)), (t160), (by first | rfl | (simp; done) | (simp [*]; done)), (by first | rfl | (simp; done) | (simp [*]; done)), (by first | rfl | (simp; done) | (simp [*]; done)), H', ⟨by have := HK1.out; omega⟩, by repeat (first | exact Drawn0.refl _ | apply Drawn0.step)⟩
          · rw [if_neg c6] at H
            have c6b0 : ((Int.tmod x1_1 2) == 1) = false := beq_eq_false_iff_ne.mpr c6
            have c6b1 : ((Int.tmod x1_1 2) != 1) = true := bne_iff_ne.mpr c6
            replace H := Option.bind_eq_some_iff.mp H
            obtain ⟨t162, A90, H⟩ := H
            replace H : (epicycleref02_Mul.l0 k1 t162 (IntKind.u64.wrap (Int.tdiv x1_1 2)) a2 x7_1) = some r := H
            have A9 := Aside0.mk A90
            clear A90
            have H' := Aside0.mk H
            clear H
            go_wp2_with (first | ((with_reducible refine gate_callee (f := 37) rfl ?_); refine goesL_ (some 23) rfl rfl Try.func37 (by kernel_rfl) rfl #[.int .u64 x0_1, .int .u64 x0_1, .int .u64 a2] rfl (by (try simp only [List.map_toArray, List.map_cons, List.map_nil]); first | done | rfl | (simp only [List.length_drop, List.length_take]; rfl)) ?_; (with_reducible refine (epicycleref02_Add.calls x0_1 x0_1 a2 t162 _ A9.out).mono ?_); rintro e w' ⟨rfl, ⟨nd, rfl⟩⟩; refine ⟨_, rfl, ?_⟩))
            go_roundg k1
            case measure => have := HK1.out; omega
            case rel => exact ⟨(t162), (IntKind.u64.wrap (Int.tdiv x1_1 2)), (x7_1), (by first | rfl | (simp; done) | (simp [*]; done)), (by first | rfl | (simp; done) | (simp [*]; done)), (by first | rfl | (simp; done) | (simp [*]; done)), H', ⟨by have := HK1.out; omega⟩, by repeat (first | exact Drawn0.refl _ | apply Drawn0.step)⟩
        · rw [if_neg c5] at H
          have c5b0 : decide (0 < x1_1) = false := decide_eq_false c5
          clear c5
          obtain rfl := Option.some.inj H
          go_wp2
          go_ret
          exact ⟨by first | rfl | (simp; done) | (simp [*]; done), by repeat (first | exact Drawn0.refl _ | apply Drawn0.step)⟩

/-! ### epicyclelaw02_ModularInverts: function 10 -/
def epicyclelaw02_ModularInverts.f (k : Nat) (a0 : Int) (a1 : Int) : Option (Bool) := (epicyclelaw02_alive.f k).bind fun t163 => (if t163 = true then ((modular_Inv.f k a0 a1).bind fun bt164 => (if a1 < 2 then (if bt164.1 = 0 then (some (!bt164.2)) else (some false)) else ((epicycleref02_Gcd.f k a0 a1).bind fun t166 => (if t166 = 1 then (if bt164.2 = true then (if bt164.1 < a1 then ((epicycleref02_Mul.f k a0 bt164.1 a1).bind fun t167 => (if t167 = 1 then ((modular_Coprime.f k a0 a1).bind fun t168 => (some t168)) else (some false))) else (some false)) else (some false)) else (if bt164.1 = 0 then (if bt164.2 = true then (some false) else ((modular_Coprime.f k a0 a1).bind fun t169 => (some (!t169)))) else (some false)))))) else (some false))
theorem epicyclelaw02_ModularInverts.mono : ∀ a0 a1 k, LeO (epicyclelaw02_ModularInverts.f k a0 a1) (epicyclelaw02_ModularInverts.f (k + 1) a0 a1) := by
  intro a0 a1 k
  unfold epicyclelaw02_ModularInverts.f
  repeat' first
      | (with_reducible exact epicyclelaw02_alive.mono _)
      | (with_reducible exact epicycleref02_Gcd.mono _ _ _)
      | (with_reducible exact epicycleref02_Mul.mono _ _ _ _)
      | (with_reducible exact modular_Coprime.mono _ _ _)
      | (with_reducible exact modular_Inv.mono _ _ _)
      | (with_reducible exact LeO.refl _)
      | (with_reducible exact LeO.none _)
      | (with_reducible refine LeO.ite ?_ ?_)
      | (with_reducible refine LeO.bind ?_ (fun _ => ?_))
      | exact epicyclelaw02_alive.mono _
      | exact epicycleref02_Gcd.mono _ _ _
      | exact epicycleref02_Mul.mono _ _ _ _
      | exact modular_Coprime.mono _ _ _
      | exact modular_Inv.mono _ _ _
      | exact LeO.none _
      | refine LeO.ite ?_ ?_
      | refine LeO.bind ?_ (fun _ => ?_)
set_option maxHeartbeats 8000000 in
set_option maxRecDepth 100000 in
theorem epicyclelaw02_ModularInverts.calls (k : Nat) (a0 : Int) (a1 : Int) (w : World) (h : epicyclelaw02_ModularInverts.f k a0 a1 = some true) :
    Calls Try.prog 10 #[.int .u64 a0, .int .u64 a1] w fun e w' => e = .returned (.bool true) ∧ Drawn0 w w' := by
  have H : ((epicyclelaw02_alive.f k).bind fun t163 => (if t163 = true then ((modular_Inv.f k a0 a1).bind fun bt164 => (if a1 < 2 then (if bt164.1 = 0 then (some (!bt164.2)) else (some false)) else ((epicycleref02_Gcd.f k a0 a1).bind fun t166 => (if t166 = 1 then (if bt164.2 = true then (if bt164.1 < a1 then ((epicycleref02_Mul.f k a0 bt164.1 a1).bind fun t167 => (if t167 = 1 then ((modular_Coprime.f k a0 a1).bind fun t168 => (some t168)) else (some false))) else (some false)) else (some false)) else (if bt164.1 = 0 then (if bt164.2 = true then (some false) else ((modular_Coprime.f k a0 a1).bind fun t169 => (some (!t169)))) else (some false)))))) else (some false))) = some true := h
  clear h
  replace H := Option.bind_eq_some_iff.mp H
  obtain ⟨t163, A30, H⟩ := H
  replace H : (if t163 = true then ((modular_Inv.f k a0 a1).bind fun bt164 => (if a1 < 2 then (if bt164.1 = 0 then (some (!bt164.2)) else (some false)) else ((epicycleref02_Gcd.f k a0 a1).bind fun t166 => (if t166 = 1 then (if bt164.2 = true then (if bt164.1 < a1 then ((epicycleref02_Mul.f k a0 bt164.1 a1).bind fun t167 => (if t167 = 1 then ((modular_Coprime.f k a0 a1).bind fun t168 => (some t168)) else (some false))) else (some false)) else (some false)) else (if bt164.1 = 0 then (if bt164.2 = true then (some false) else ((modular_Coprime.f k a0 a1).bind fun t169 => (some (!t169)))) else (some false)))))) else (some false)) = some true := H
  have A3 := Aside0.mk A30
  clear A30
  by_cases c4 : t163 = true
  · subst c4
    have H1 : ((modular_Inv.f k a0 a1).bind fun bt164 => (if a1 < 2 then (if bt164.1 = 0 then (some (!bt164.2)) else (some false)) else ((epicycleref02_Gcd.f k a0 a1).bind fun t166 => (if t166 = 1 then (if bt164.2 = true then (if bt164.1 < a1 then ((epicycleref02_Mul.f k a0 bt164.1 a1).bind fun t167 => (if t167 = 1 then ((modular_Coprime.f k a0 a1).bind fun t168 => (some t168)) else (some false))) else (some false)) else (some false)) else (if bt164.1 = 0 then (if bt164.2 = true then (some false) else ((modular_Coprime.f k a0 a1).bind fun t169 => (some (!t169)))) else (some false)))))) = some true := by rw [if_pos rfl] at H <;> exact H
    clear H
    have H := H1
    clear H1
    replace H := Option.bind_eq_some_iff.mp H
    obtain ⟨⟨t164, t165⟩, A50, H⟩ := H
    replace H : (if a1 < 2 then (if t164 = 0 then (some (!t165)) else (some false)) else ((epicycleref02_Gcd.f k a0 a1).bind fun t166 => (if t166 = 1 then (if t165 = true then (if t164 < a1 then ((epicycleref02_Mul.f k a0 t164 a1).bind fun t167 => (if t167 = 1 then ((modular_Coprime.f k a0 a1).bind fun t168 => (some t168)) else (some false))) else (some false)) else (some false)) else (if t164 = 0 then (if t165 = true then (some false) else ((modular_Coprime.f k a0 a1).bind fun t169 => (some (!t169)))) else (some false))))) = some true := H
    have A5 := Aside0.mk A50
    clear A50
    by_cases c6 : a1 < 2
    · rw [if_pos c6] at H
      have c6b0 : decide (a1 < 2) = true := decide_eq_true c6
      clear c6
      by_cases c7 : t164 = 0
      · rw [if_pos c7] at H
        have c7b0 : (t164 == 0) = true := beq_iff_eq.mpr c7
        have c7b1 : (t164 != 0) = false := bne_eq_false_iff_eq.mpr c7
        clear c7
        have hR_ := Option.some.inj H
        go_enter Try.func10, Try.ntmps10
        go_wp2_with (first | ((with_reducible refine gate_callee (f := 33) rfl ?_); refine goesL_ (some 7) rfl rfl Try.func33 (by kernel_rfl) rfl #[] rfl (by (try simp only [List.map_toArray, List.map_cons, List.map_nil]); first | done | rfl | (simp only [List.length_drop, List.length_take]; rfl)) ?_; (with_reducible refine (epicyclelaw02_alive.calls k  true _ A3.out).mono ?_); rintro e w' ⟨rfl, ⟨nd, rfl⟩⟩; refine ⟨_, rfl, ?_⟩) | ((with_reducible refine gate_callee (f := 40) rfl ?_); refine goesL_ (some 12) rfl rfl Try.func40 (by kernel_rfl) rfl #[.int .u64 a0, .int .u64 a1] rfl (by (try simp only [List.map_toArray, List.map_cons, List.map_nil]); first | done | rfl | (simp only [List.length_drop, List.length_take]; rfl)) ?_; (with_reducible refine (modular_Inv.calls k a0 a1 t164 t165 _ A5.out).mono ?_); rintro e w' ⟨rfl, ⟨nd, rfl⟩⟩; refine ⟨_, rfl, ?_⟩))
        go_ret
        exact ⟨by first | rfl | (simp; done) | (simp [*]; done), by repeat (first | exact Drawn0.refl _ | apply Drawn0.step)⟩
      · rw [if_neg c7] at H
        have c7b0 : (t164 == 0) = false := beq_eq_false_iff_ne.mpr c7
        have c7b1 : (t164 != 0) = true := bne_iff_ne.mpr c7
        exact absurd H (by simp)
    · rw [if_neg c6] at H
      have c6b0 : decide (a1 < 2) = false := decide_eq_false c6
      clear c6
      replace H := Option.bind_eq_some_iff.mp H
      obtain ⟨t166, A80, H⟩ := H
      replace H : (if t166 = 1 then (if t165 = true then (if t164 < a1 then ((epicycleref02_Mul.f k a0 t164 a1).bind fun t167 => (if t167 = 1 then ((modular_Coprime.f k a0 a1).bind fun t168 => (some t168)) else (some false))) else (some false)) else (some false)) else (if t164 = 0 then (if t165 = true then (some false) else ((modular_Coprime.f k a0 a1).bind fun t169 => (some (!t169)))) else (some false))) = some true := H
      have A8 := Aside0.mk A80
      clear A80
      by_cases c9 : t166 = 1
      · rw [if_pos c9] at H
        have c9b0 : (t166 == 1) = true := beq_iff_eq.mpr c9
        have c9b1 : (t166 != 1) = false := bne_eq_false_iff_eq.mpr c9
        clear c9
        by_cases c10 : t165 = true
        · subst c10
          have H1 : (if t164 < a1 then ((epicycleref02_Mul.f k a0 t164 a1).bind fun t167 => (if t167 = 1 then ((modular_Coprime.f k a0 a1).bind fun t168 => (some t168)) else (some false))) else (some false)) = some true := by rw [if_pos rfl] at H <;> exact H
          clear H
          have H := H1
          clear H1
          by_cases c11 : t164 < a1
          · rw [if_pos c11] at H
            have c11b0 : decide (t164 < a1) = true := decide_eq_true c11
            clear c11
            replace H := Option.bind_eq_some_iff.mp H
            obtain ⟨t167, A120, H⟩ := H
            replace H : (if t167 = 1 then ((modular_Coprime.f k a0 a1).bind fun t168 => (some t168)) else (some false)) = some true := H
            have A12 := Aside0.mk A120
            clear A120
            by_cases c13 : t167 = 1
            · rw [if_pos c13] at H
              have c13b0 : (t167 == 1) = true := beq_iff_eq.mpr c13
              have c13b1 : (t167 != 1) = false := bne_eq_false_iff_eq.mpr c13
              clear c13
              replace H := Option.bind_eq_some_iff.mp H
              obtain ⟨t168, A140, H⟩ := H
              replace H : (some t168) = some true := H
              have A14 := Aside0.mk A140
              clear A140
              have hR_ := Option.some.inj H
              go_enter Try.func10, Try.ntmps10
              go_wp2_with (first | ((with_reducible refine gate_callee (f := 33) rfl ?_); refine goesL_ (some 7) rfl rfl Try.func33 (by kernel_rfl) rfl #[] rfl (by (try simp only [List.map_toArray, List.map_cons, List.map_nil]); first | done | rfl | (simp only [List.length_drop, List.length_take]; rfl)) ?_; (with_reducible refine (epicyclelaw02_alive.calls k  true _ A3.out).mono ?_); rintro e w' ⟨rfl, ⟨nd, rfl⟩⟩; refine ⟨_, rfl, ?_⟩) | ((with_reducible refine gate_callee (f := 40) rfl ?_); refine goesL_ (some 12) rfl rfl Try.func40 (by kernel_rfl) rfl #[.int .u64 a0, .int .u64 a1] rfl (by (try simp only [List.map_toArray, List.map_cons, List.map_nil]); first | done | rfl | (simp only [List.length_drop, List.length_take]; rfl)) ?_; (with_reducible refine (modular_Inv.calls k a0 a1 t164 true _ A5.out).mono ?_); rintro e w' ⟨rfl, ⟨nd, rfl⟩⟩; refine ⟨_, rfl, ?_⟩) | ((with_reducible refine gate_callee (f := 41) rfl ?_); refine goesL_ (some 25) rfl rfl Try.func41 (by kernel_rfl) rfl #[.int .u64 a0, .int .u64 a1] rfl (by (try simp only [List.map_toArray, List.map_cons, List.map_nil]); first | done | rfl | (simp only [List.length_drop, List.length_take]; rfl)) ?_; (with_reducible refine (epicycleref02_Gcd.calls k a0 a1 t166 _ A8.out).mono ?_); rintro e w' ⟨rfl, ⟨nd, rfl⟩⟩; refine ⟨_, rfl, ?_⟩) | (go_at_call 43; (with_reducible refine (epicycleref02_Mul.calls k a0 t164 a1 t167 _ A12.out).mono ?_); rintro e w' ⟨rfl, ⟨nd, rfl⟩⟩) | (go_at_call 42; (with_reducible refine (modular_Coprime.calls k a0 a1 t168 _ A14.out).mono ?_); rintro e w' ⟨rfl, ⟨nd, rfl⟩⟩))
              go_ret
              exact ⟨by first | rfl | (simp; done) | (simp [*]; done), by repeat (first | exact Drawn0.refl _ | apply Drawn0.step)⟩
            · rw [if_neg c13] at H
              have c13b0 : (t167 == 1) = false := beq_eq_false_iff_ne.mpr c13
              have c13b1 : (t167 != 1) = true := bne_iff_ne.mpr c13
              exact absurd H (by simp)
          · rw [if_neg c11] at H
            have c11b0 : decide (t164 < a1) = false := decide_eq_false c11
            clear c11
            exact absurd H (by simp)
        · replace c10 := Bool.eq_false_iff.mpr c10
          subst c10
          have H1 : (some false) = some true := by rw [if_neg (show ¬ (false = true) by decide)] at H <;> exact H
          clear H
          have H := H1
          clear H1
          exact absurd H (by simp)
      · rw [if_neg c9] at H
        have c9b0 : (t166 == 1) = false := beq_eq_false_iff_ne.mpr c9
        have c9b1 : (t166 != 1) = true := bne_iff_ne.mpr c9
        by_cases c15 : t164 = 0
        · rw [if_pos c15] at H
          have c15b0 : (t164 == 0) = true := beq_iff_eq.mpr c15
          have c15b1 : (t164 != 0) = false := bne_eq_false_iff_eq.mpr c15
          clear c15
          by_cases c16 : t165 = true
          · subst c16
            have H1 : (some false) = some true := by rw [if_pos rfl] at H <;> exact H
            clear H
            have H := H1
            clear H1
            exact absurd H (by simp)
          · replace c16 := Bool.eq_false_iff.mpr c16
            subst c16
            have H1 : ((modular_Coprime.f k a0 a1).bind fun t169 => (some (!t169))) = some true := by rw [if_neg (show ¬ (false = true) by decide)] at H <;> exact H
            clear H
            have H := H1
            clear H1
            replace H := Option.bind_eq_some_iff.mp H
            obtain ⟨t169, A170, H⟩ := H
            replace H : (some (!t169)) = some true := H
            have A17 := Aside0.mk A170
            clear A170
            have hR_ := Option.some.inj H
            go_enter Try.func10, Try.ntmps10
            go_wp2_with (first | ((with_reducible refine gate_callee (f := 33) rfl ?_); refine goesL_ (some 7) rfl rfl Try.func33 (by kernel_rfl) rfl #[] rfl (by (try simp only [List.map_toArray, List.map_cons, List.map_nil]); first | done | rfl | (simp only [List.length_drop, List.length_take]; rfl)) ?_; (with_reducible refine (epicyclelaw02_alive.calls k  true _ A3.out).mono ?_); rintro e w' ⟨rfl, ⟨nd, rfl⟩⟩; refine ⟨_, rfl, ?_⟩) | ((with_reducible refine gate_callee (f := 40) rfl ?_); refine goesL_ (some 12) rfl rfl Try.func40 (by kernel_rfl) rfl #[.int .u64 a0, .int .u64 a1] rfl (by (try simp only [List.map_toArray, List.map_cons, List.map_nil]); first | done | rfl | (simp only [List.length_drop, List.length_take]; rfl)) ?_; (with_reducible refine (modular_Inv.calls k a0 a1 t164 false _ A5.out).mono ?_); rintro e w' ⟨rfl, ⟨nd, rfl⟩⟩; refine ⟨_, rfl, ?_⟩) | ((with_reducible refine gate_callee (f := 41) rfl ?_); refine goesL_ (some 25) rfl rfl Try.func41 (by kernel_rfl) rfl #[.int .u64 a0, .int .u64 a1] rfl (by (try simp only [List.map_toArray, List.map_cons, List.map_nil]); first | done | rfl | (simp only [List.length_drop, List.length_take]; rfl)) ?_; (with_reducible refine (epicycleref02_Gcd.calls k a0 a1 t166 _ A8.out).mono ?_); rintro e w' ⟨rfl, ⟨nd, rfl⟩⟩; refine ⟨_, rfl, ?_⟩) | (go_at_call 42; (with_reducible refine (modular_Coprime.calls k a0 a1 t169 _ A17.out).mono ?_); rintro e w' ⟨rfl, ⟨nd, rfl⟩⟩))
            go_ret
            exact ⟨by first | rfl | (simp; done) | (simp [*]; done), by repeat (first | exact Drawn0.refl _ | apply Drawn0.step)⟩
        · rw [if_neg c15] at H
          have c15b0 : (t164 == 0) = false := beq_eq_false_iff_ne.mpr c15
          have c15b1 : (t164 != 0) = true := bne_iff_ne.mpr c15
          exact absurd H (by simp)
  · replace c4 := Bool.eq_false_iff.mpr c4
    subst c4
    have H1 : (some false) = some true := by rw [if_neg (show ¬ (false = true) by decide)] at H <;> exact H
    clear H
    have H := H1
    clear H1
    exact absurd H (by simp)

/-- THE ONE PURE STATEMENT of epicyclelaw02_ModularInverts: yours. -/
def epicyclelaw02_ModularInverts.Pure : Prop := ∀ (a0 : Int) (a1 : Int), (Lit.int .u64 a0).wf = true → (Lit.int .u64 a1).wf = true → ∃ k, epicyclelaw02_ModularInverts.f k a0 a1 = some true
theorem epicyclelaw02_ModularInverts.walk (P : epicyclelaw02_ModularInverts.Pure) (a0 : Int) (a1 : Int) (w : World) (w0 : (Lit.int .u64 a0).wf = true) (w1 : (Lit.int .u64 a1).wf = true) :
    Calls Try.prog 10 #[.int .u64 a0, .int .u64 a1] w fun e w' => e = .returned (.bool true) ∧ Below w.heap.size w w' := by
  obtain ⟨k, h⟩ := P a0 a1 w0 w1
  refine (epicyclelaw02_ModularInverts.calls k a0 a1 w h).mono ?_
  rintro e w' ⟨rfl, hd⟩
  exact ⟨rfl, hd.below⟩

/-! ### epicyclelaw02_ModularGcd: function 11 -/
def epicyclelaw02_ModularGcd.j0 : Nat → Int → Int → Int → Int → Bool → Option (Bool)
  | 0, _, _, _, _, _ => none
  | k + 1, x0, x1, x2, x7, x24 => if x24 = true then (some false) else (if x7 = 0 then (if x0 = 0 then (some (x1 == 0)) else (some false)) else (if (Int.tmod x0 x7) = 0 then (if (Int.tmod x1 x7) = 0 then (if x2 = 0 then (some true) else (if (Int.tmod x0 x2) = 0 then (if (Int.tmod x1 x2) = 0 then (some ((Int.tmod x7 x2) == 0)) else (some true)) else (some true))) else (some false)) else (some false)))
def epicyclelaw02_ModularGcd.f (k : Nat) (a0 : Int) (a1 : Int) (a2 : Int) : Option (Bool) := (epicyclelaw02_alive.f k).bind fun t170 => (if t170 = true then ((modular_Gcd.f k a0 a1).bind fun t171 => ((epicycleref02_Gcd.f k a0 a1).bind fun t172 => (if t171 = t172 then ((modular_Gcd.f k a1 a0).bind fun t173 => (epicyclelaw02_ModularGcd.j0 k a0 a1 a2 t171 (t173 != t171))) else (epicyclelaw02_ModularGcd.j0 k a0 a1 a2 t171 true)))) else (some false))
theorem epicyclelaw02_ModularGcd.mono_l : ∀ k, (∀ y0 y1 y2 y3 y4, LeO (epicyclelaw02_ModularGcd.j0 k y0 y1 y2 y3 y4) (epicyclelaw02_ModularGcd.j0 (k + 1) y0 y1 y2 y3 y4))
  | 0 => fun _ _ _ _ _ r h => by simp [epicyclelaw02_ModularGcd.j0] at h
  | k + 1 => by
    have ih0 := epicyclelaw02_ModularGcd.mono_l k
    · intro y0 y1 y2 y3 y4
      unfold epicyclelaw02_ModularGcd.j0
      repeat' first
      | (with_reducible exact ih0 _ _ _ _ _)
      | (with_reducible exact epicyclelaw02_alive.mono _)
      | (with_reducible exact epicycleref02_Gcd.mono _ _ _)
      | (with_reducible exact modular_Gcd.mono _ _ _)
      | (with_reducible exact LeO.refl _)
      | (with_reducible exact LeO.none _)
      | (with_reducible refine LeO.ite ?_ ?_)
      | (with_reducible refine LeO.bind ?_ (fun _ => ?_))
      | exact ih0 _ _ _ _ _
      | exact epicyclelaw02_alive.mono _
      | exact epicycleref02_Gcd.mono _ _ _
      | exact modular_Gcd.mono _ _ _
      | exact LeO.none _
      | refine LeO.ite ?_ ?_
      | refine LeO.bind ?_ (fun _ => ?_)
theorem epicyclelaw02_ModularGcd.mono : ∀ a0 a1 a2 k, LeO (epicyclelaw02_ModularGcd.f k a0 a1 a2) (epicyclelaw02_ModularGcd.f (k + 1) a0 a1 a2) := by
  intro a0 a1 a2 k
  have ih0 := epicyclelaw02_ModularGcd.mono_l k
  unfold epicyclelaw02_ModularGcd.f
  repeat' first
      | (with_reducible exact ih0 _ _ _ _ _)
      | (with_reducible exact epicyclelaw02_alive.mono _)
      | (with_reducible exact epicycleref02_Gcd.mono _ _ _)
      | (with_reducible exact modular_Gcd.mono _ _ _)
      | (with_reducible exact LeO.refl _)
      | (with_reducible exact LeO.none _)
      | (with_reducible refine LeO.ite ?_ ?_)
      | (with_reducible refine LeO.bind ?_ (fun _ => ?_))
      | exact ih0 _ _ _ _ _
      | exact epicyclelaw02_alive.mono _
      | exact epicycleref02_Gcd.mono _ _ _
      | exact modular_Gcd.mono _ _ _
      | exact LeO.none _
      | refine LeO.ite ?_ ?_
      | refine LeO.bind ?_ (fun _ => ?_)
set_option maxHeartbeats 8000000 in
set_option maxRecDepth 100000 in
theorem epicyclelaw02_ModularGcd.calls (k : Nat) (a0 : Int) (a1 : Int) (a2 : Int) (w : World) (h : epicyclelaw02_ModularGcd.f k a0 a1 a2 = some true) :
    Calls Try.prog 11 #[.int .u64 a0, .int .u64 a1, .int .u64 a2] w fun e w' => e = .returned (.bool true) ∧ Drawn0 w w' := by
  have H : ((epicyclelaw02_alive.f k).bind fun t170 => (if t170 = true then ((modular_Gcd.f k a0 a1).bind fun t171 => ((epicycleref02_Gcd.f k a0 a1).bind fun t172 => (if t171 = t172 then ((modular_Gcd.f k a1 a0).bind fun t173 => (epicyclelaw02_ModularGcd.j0 k a0 a1 a2 t171 (t173 != t171))) else (epicyclelaw02_ModularGcd.j0 k a0 a1 a2 t171 true)))) else (some false))) = some true := h
  clear h
  replace H := Option.bind_eq_some_iff.mp H
  obtain ⟨t170, A40, H⟩ := H
  replace H : (if t170 = true then ((modular_Gcd.f k a0 a1).bind fun t171 => ((epicycleref02_Gcd.f k a0 a1).bind fun t172 => (if t171 = t172 then ((modular_Gcd.f k a1 a0).bind fun t173 => (epicyclelaw02_ModularGcd.j0 k a0 a1 a2 t171 (t173 != t171))) else (epicyclelaw02_ModularGcd.j0 k a0 a1 a2 t171 true)))) else (some false)) = some true := H
  have A4 := Aside0.mk A40
  clear A40
  by_cases c5 : t170 = true
  · subst c5
    have H1 : ((modular_Gcd.f k a0 a1).bind fun t171 => ((epicycleref02_Gcd.f k a0 a1).bind fun t172 => (if t171 = t172 then ((modular_Gcd.f k a1 a0).bind fun t173 => (epicyclelaw02_ModularGcd.j0 k a0 a1 a2 t171 (t173 != t171))) else (epicyclelaw02_ModularGcd.j0 k a0 a1 a2 t171 true)))) = some true := by rw [if_pos rfl] at H <;> exact H
    clear H
    have H := H1
    clear H1
    replace H := Option.bind_eq_some_iff.mp H
    obtain ⟨t171, A60, H⟩ := H
    replace H : ((epicycleref02_Gcd.f k a0 a1).bind fun t172 => (if t171 = t172 then ((modular_Gcd.f k a1 a0).bind fun t173 => (epicyclelaw02_ModularGcd.j0 k a0 a1 a2 t171 (t173 != t171))) else (epicyclelaw02_ModularGcd.j0 k a0 a1 a2 t171 true))) = some true := H
    have A6 := Aside0.mk A60
    clear A60
    have HC7 := Aside0.mk H
    clear H
    go_enter Try.func11, Try.ntmps11
    go_upto_region 4 with (first | ((with_reducible refine gate_callee (f := 33) rfl ?_); refine goesL_ (some 8) rfl rfl Try.func33 (by kernel_rfl) rfl #[] rfl (by (try simp only [List.map_toArray, List.map_cons, List.map_nil]); first | done | rfl | (simp only [List.length_drop, List.length_take]; rfl)) ?_; (with_reducible refine (epicyclelaw02_alive.calls k  true _ A4.out).mono ?_); rintro e w' ⟨rfl, ⟨nd, rfl⟩⟩; refine ⟨_, rfl, ?_⟩) | ((with_reducible refine gate_callee (f := 44) rfl ?_); refine goesL_ (some 12) rfl rfl Try.func44 (by kernel_rfl) rfl #[.int .u64 a0, .int .u64 a1] rfl (by (try simp only [List.map_toArray, List.map_cons, List.map_nil]); first | done | rfl | (simp only [List.length_drop, List.length_take]; rfl)) ?_; (with_reducible refine (modular_Gcd.calls k a0 a1 t171 _ A6.out).mono ?_); rintro e w' ⟨rfl, ⟨nd, rfl⟩⟩; refine ⟨_, rfl, ?_⟩))
    (try simp only [Act.put, List.setIfInBounds_toArray, List.set_cons_zero, List.set_cons_succ])
    go_cut [24] (fun v24 wc => ∃ (kq : Nat) (x24_6 : Bool), v24 = .bool x24_6 ∧ Aside0 (epicyclelaw02_ModularGcd.j0 kq a0 a1 a2 t171 x24_6 = some true) ∧ Aside0 (kq ≤ k) ∧ Drawn0 w wc)
    case first =>
      have H := HC7.out
      clear HC7
      replace H := Option.bind_eq_some_iff.mp H
      obtain ⟨t172, A80, H⟩ := H
      replace H : (if t171 = t172 then ((modular_Gcd.f k a1 a0).bind fun t173 => (epicyclelaw02_ModularGcd.j0 k a0 a1 a2 t171 (t173 != t171))) else (epicyclelaw02_ModularGcd.j0 k a0 a1 a2 t171 true)) = some true := H
      have A8 := Aside0.mk A80
      clear A80
      by_cases c9 : t171 = t172
      · rw [if_pos c9] at H
        have c9b0 : (t171 == t172) = true := beq_iff_eq.mpr c9
        have c9b1 : (t171 != t172) = false := bne_eq_false_iff_eq.mpr c9
        clear c9
        (first | rw [c9b0] | (simp only [i64_w, i32_w]; rw [c9b0]) | skip)
        replace H := Option.bind_eq_some_iff.mp H
        obtain ⟨t173, A100, H⟩ := H
        replace H : (epicyclelaw02_ModularGcd.j0 k a0 a1 a2 t171 (t173 != t171)) = some true := H
        have A10 := Aside0.mk A100
        clear A100
        have H' := Aside0.mk H
        clear H
        go_wp2_with (first | ((with_reducible refine gate_callee (f := 41) rfl ?_); refine goesL_ (some 16) rfl rfl Try.func41 (by kernel_rfl) rfl #[.int .u64 a0, .int .u64 a1] rfl (by (try simp only [List.map_toArray, List.map_cons, List.map_nil]); first | done | rfl | (simp only [List.length_drop, List.length_take]; rfl)) ?_; (with_reducible refine (epicycleref02_Gcd.calls k a0 a1 t172 _ A8.out).mono ?_); rintro e w' ⟨rfl, ⟨nd, rfl⟩⟩; refine ⟨_, rfl, ?_⟩) | (go_at_call 44; (with_reducible refine (modular_Gcd.calls k a1 a0 t173 _ A10.out).mono ?_); rintro e w' ⟨rfl, ⟨nd, rfl⟩⟩))
        go_meet
        case rel => exact ⟨_, ((t173 != t171)), (by first | rfl | (simp; done) | (simp [*]; done)), H', ⟨by first | omega | exact Nat.le_refl _⟩, by repeat (first | exact Drawn0.refl _ | apply Drawn0.step)⟩
      · rw [if_neg c9] at H
        have c9b0 : (t171 == t172) = false := beq_eq_false_iff_ne.mpr c9
        have c9b1 : (t171 != t172) = true := bne_iff_ne.mpr c9
        (first | rw [c9b0] | (simp only [i64_w, i32_w]; rw [c9b0]) | skip)
        have H' := Aside0.mk H
        clear H
        go_wp2_with (first | ((with_reducible refine gate_callee (f := 41) rfl ?_); refine goesL_ (some 16) rfl rfl Try.func41 (by kernel_rfl) rfl #[.int .u64 a0, .int .u64 a1] rfl (by (try simp only [List.map_toArray, List.map_cons, List.map_nil]); first | done | rfl | (simp only [List.length_drop, List.length_take]; rfl)) ?_; (with_reducible refine (epicycleref02_Gcd.calls k a0 a1 t172 _ A8.out).mono ?_); rintro e w' ⟨rfl, ⟨nd, rfl⟩⟩; refine ⟨_, rfl, ?_⟩))
        go_meet
        case rel => exact ⟨_, (true), (by first | rfl | (simp; done) | (simp [*]; done)), H', ⟨by first | omega | exact Nat.le_refl _⟩, by repeat (first | exact Drawn0.refl _ | apply Drawn0.step)⟩
    case rest =>
      clear HC7
      try clear c1
      try clear p2
      try clear c3
      try clear c4
      try clear c5
      try clear c9
      try clear c9b0
      try clear c9b1
      obtain ⟨kq, x24_6, rfl, HA, HJ6, ⟨mc6, rfl⟩⟩ := hcut
      cases kq with
      | zero => exact absurd HA.out (by simp [epicyclelaw02_ModularGcd.j0])
      | succ kj6 =>
        have H := HA.out
        clear HA
        simp only [epicyclelaw02_ModularGcd.j0] at H
        by_cases c11 : x24_6 = true
        · subst c11
          have H1 : (some false) = some true := by rw [if_pos rfl] at H <;> exact H
          clear H
          have H := H1
          clear H1
          exact absurd H (by simp)
        · replace c11 := Bool.eq_false_iff.mpr c11
          subst c11
          have H1 : (if t171 = 0 then (if a0 = 0 then (some (a1 == 0)) else (some false)) else (if (Int.tmod a0 t171) = 0 then (if (Int.tmod a1 t171) = 0 then (if a2 = 0 then (some true) else (if (Int.tmod a0 a2) = 0 then (if (Int.tmod a1 a2) = 0 then (some ((Int.tmod t171 a2) == 0)) else (some true)) else (some true))) else (some false)) else (some false))) = some true := by rw [if_neg (show ¬ (false = true) by decide)] at H <;> exact H
          clear H
          have H := H1
          clear H1
          by_cases c12 : t171 = 0
          · rw [if_pos c12] at H
            have c12b0 : (t171 == 0) = true := beq_iff_eq.mpr c12
            have c12b1 : (t171 != 0) = false := bne_eq_false_iff_eq.mpr c12
            clear c12
            by_cases c13 : a0 = 0
            · rw [if_pos c13] at H
              have c13b0 : (a0 == 0) = true := beq_iff_eq.mpr c13
              have c13b1 : (a0 != 0) = false := bne_eq_false_iff_eq.mpr c13
              clear c13
              have hR_ := Option.some.inj H
              go_wp2
              go_ret
              exact ⟨by first | rfl | (simp; done) | (simp [*]; done), by repeat (first | exact Drawn0.refl _ | apply Drawn0.step)⟩
            · rw [if_neg c13] at H
              have c13b0 : (a0 == 0) = false := beq_eq_false_iff_ne.mpr c13
              have c13b1 : (a0 != 0) = true := bne_iff_ne.mpr c13
              exact absurd H (by simp)
          · rw [if_neg c12] at H
            have c12b0 : (t171 == 0) = false := beq_eq_false_iff_ne.mpr c12
            have c12b1 : (t171 != 0) = true := bne_iff_ne.mpr c12
            by_cases c14 : (Int.tmod a0 t171) = 0
            · rw [if_pos c14] at H
              have c14b0 : ((Int.tmod a0 t171) == 0) = true := beq_iff_eq.mpr c14
              have c14b1 : ((Int.tmod a0 t171) != 0) = false := bne_eq_false_iff_eq.mpr c14
              clear c14
              by_cases c15 : (Int.tmod a1 t171) = 0
              · rw [if_pos c15] at H
                have c15b0 : ((Int.tmod a1 t171) == 0) = true := beq_iff_eq.mpr c15
                have c15b1 : ((Int.tmod a1 t171) != 0) = false := bne_eq_false_iff_eq.mpr c15
                clear c15
                by_cases c16 : a2 = 0
                · rw [if_pos c16] at H
                  have c16b0 : (a2 == 0) = true := beq_iff_eq.mpr c16
                  have c16b1 : (a2 != 0) = false := bne_eq_false_iff_eq.mpr c16
                  clear c16
                  clear H
                  go_wp2
                  go_ret
                  exact ⟨by first | rfl | (simp; done) | (simp [*]; done), by repeat (first | exact Drawn0.refl _ | apply Drawn0.step)⟩
                · rw [if_neg c16] at H
                  have c16b0 : (a2 == 0) = false := beq_eq_false_iff_ne.mpr c16
                  have c16b1 : (a2 != 0) = true := bne_iff_ne.mpr c16
                  by_cases c17 : (Int.tmod a0 a2) = 0
                  · rw [if_pos c17] at H
                    have c17b0 : ((Int.tmod a0 a2) == 0) = true := beq_iff_eq.mpr c17
                    have c17b1 : ((Int.tmod a0 a2) != 0) = false := bne_eq_false_iff_eq.mpr c17
                    clear c17
                    by_cases c18 : (Int.tmod a1 a2) = 0
                    · rw [if_pos c18] at H
                      have c18b0 : ((Int.tmod a1 a2) == 0) = true := beq_iff_eq.mpr c18
                      have c18b1 : ((Int.tmod a1 a2) != 0) = false := bne_eq_false_iff_eq.mpr c18
                      clear c18
                      have hR_ := Option.some.inj H
                      go_wp2
                      go_ret
                      exact ⟨by first | rfl | (simp; done) | (simp [*]; done), by repeat (first | exact Drawn0.refl _ | apply Drawn0.step)⟩
                    · rw [if_neg c18] at H
                      have c18b0 : ((Int.tmod a1 a2) == 0) = false := beq_eq_false_iff_ne.mpr c18
                      have c18b1 : ((Int.tmod a1 a2) != 0) = true := bne_iff_ne.mpr c18
                      clear H
                      go_wp2
                      go_ret
                      exact ⟨by first | rfl | (simp; done) | (simp [*]; done), by repeat (first | exact Drawn0.refl _ | apply Drawn0.step)⟩
                  · rw [if_neg c17] at H
                    have c17b0 : ((Int.tmod a0 a2) == 0) = false := beq_eq_false_iff_ne.mpr c17
                    have c17b1 : ((Int.tmod a0 a2) != 0) = true := bne_iff_ne.mpr c17
                    clear H
                    go_wp2
                    go_ret
                    exact ⟨by first | rfl | (simp; done) | (simp [*]; done), by repeat (first | exact Drawn0.refl _ | apply Drawn0.step)⟩
              · rw [if_neg c15] at H
                have c15b0 : ((Int.tmod a1 t171) == 0) = false := beq_eq_false_iff_ne.mpr c15
                have c15b1 : ((Int.tmod a1 t171) != 0) = true := bne_iff_ne.mpr c15
                exact absurd H (by simp)
            · rw [if_neg c14] at H
              have c14b0 : ((Int.tmod a0 t171) == 0) = false := beq_eq_false_iff_ne.mpr c14
              have c14b1 : ((Int.tmod a0 t171) != 0) = true := bne_iff_ne.mpr c14
              exact absurd H (by simp)
  · replace c5 := Bool.eq_false_iff.mpr c5
    subst c5
    have H1 : (some false) = some true := by rw [if_neg (show ¬ (false = true) by decide)] at H <;> exact H
    clear H
    have H := H1
    clear H1
    exact absurd H (by simp)

/-- THE ONE PURE STATEMENT of epicyclelaw02_ModularGcd: yours. -/
def epicyclelaw02_ModularGcd.Pure : Prop := ∀ (a0 : Int) (a1 : Int) (a2 : Int), (Lit.int .u64 a0).wf = true → (Lit.int .u64 a1).wf = true → (Lit.int .u64 a2).wf = true → ∃ k, epicyclelaw02_ModularGcd.f k a0 a1 a2 = some true
theorem epicyclelaw02_ModularGcd.walk (P : epicyclelaw02_ModularGcd.Pure) (a0 : Int) (a1 : Int) (a2 : Int) (w : World) (w0 : (Lit.int .u64 a0).wf = true) (w1 : (Lit.int .u64 a1).wf = true) (w2 : (Lit.int .u64 a2).wf = true) :
    Calls Try.prog 11 #[.int .u64 a0, .int .u64 a1, .int .u64 a2] w fun e w' => e = .returned (.bool true) ∧ Below w.heap.size w w' := by
  obtain ⟨k, h⟩ := P a0 a1 a2 w0 w1 w2
  refine (epicyclelaw02_ModularGcd.calls k a0 a1 a2 w h).mono ?_
  rintro e w' ⟨rfl, hd⟩
  exact ⟨rfl, hd.below⟩

/-! ### epicyclelaw02_ModularJoins: function 12 -/
def epicyclelaw02_ModularJoins.j0 : Nat → Int → Int → Int → Int → Int → Int → Bool → Bool → Option (Bool)
  | 0, _, _, _, _, _, _, _, _ => none
  | k + 1, x0, x1, x2, x3, x4, x11, x12, x40 => if x40 = true then (if x11 = 0 then (some (!x12)) else (some false)) else (if x12 = true then (if x11 ≥ (IntKind.u64.wrap (x1 * x3)) then (some false) else (if x1 = 0 then (none) else (if (Int.tmod x11 x1) = (Int.tmod x0 x1) then (if x3 = 0 then (none) else (if (Int.tmod x11 x3) = (Int.tmod x2 x3) then (if x4 ≥ (IntKind.u64.wrap (x1 * x3)) then (some true) else (if x4 = x11 then (some true) else (if (Int.tmod x4 x1) = (Int.tmod x0 x1) then (some ((Int.tmod x4 x3) != (Int.tmod x2 x3))) else (some true)))) else (some false))) else (some false)))) else (some false))
def epicyclelaw02_ModularJoins.f (k : Nat) (a0 : Int) (a1 : Int) (a2 : Int) (a3 : Int) (a4 : Int) : Option (Bool) := (epicyclelaw02_alive.f k).bind fun t174 => (if t174 = true then ((modular_Join.f k a0 a1 a2 a3).bind fun bt175 => (if a1 = 0 then (epicyclelaw02_ModularJoins.j0 k a0 a1 a2 a3 a4 bt175.1 bt175.2 true) else (if a3 = 0 then (epicyclelaw02_ModularJoins.j0 k a0 a1 a2 a3 a4 bt175.1 bt175.2 true) else ((epicycleref02_Gcd.f k a1 a3).bind fun t177 => (if t177 = 1 then (epicyclelaw02_ModularJoins.j0 k a0 a1 a2 a3 a4 bt175.1 bt175.2 (decide (a1 > (IntKind.u64.wrap (Int.tdiv (18446744073709551615 : Int) a3))))) else (epicyclelaw02_ModularJoins.j0 k a0 a1 a2 a3 a4 bt175.1 bt175.2 true)))))) else (some false))
theorem epicyclelaw02_ModularJoins.mono_l : ∀ k, (∀ y0 y1 y2 y3 y4 y5 y6 y7, LeO (epicyclelaw02_ModularJoins.j0 k y0 y1 y2 y3 y4 y5 y6 y7) (epicyclelaw02_ModularJoins.j0 (k + 1) y0 y1 y2 y3 y4 y5 y6 y7))
  | 0 => fun _ _ _ _ _ _ _ _ r h => by simp [epicyclelaw02_ModularJoins.j0] at h
  | k + 1 => by
    have ih0 := epicyclelaw02_ModularJoins.mono_l k
    · intro y0 y1 y2 y3 y4 y5 y6 y7
      unfold epicyclelaw02_ModularJoins.j0
      repeat' first
      | (with_reducible exact ih0 _ _ _ _ _ _ _ _)
      | (with_reducible exact epicyclelaw02_alive.mono _)
      | (with_reducible exact epicycleref02_Gcd.mono _ _ _)
      | (with_reducible exact modular_Join.mono _ _ _ _ _)
      | (with_reducible exact LeO.refl _)
      | (with_reducible exact LeO.none _)
      | (with_reducible refine LeO.ite ?_ ?_)
      | (with_reducible refine LeO.bind ?_ (fun _ => ?_))
      | exact ih0 _ _ _ _ _ _ _ _
      | exact epicyclelaw02_alive.mono _
      | exact epicycleref02_Gcd.mono _ _ _
      | exact modular_Join.mono _ _ _ _ _
      | exact LeO.none _
      | refine LeO.ite ?_ ?_
      | refine LeO.bind ?_ (fun _ => ?_)
theorem epicyclelaw02_ModularJoins.mono : ∀ a0 a1 a2 a3 a4 k, LeO (epicyclelaw02_ModularJoins.f k a0 a1 a2 a3 a4) (epicyclelaw02_ModularJoins.f (k + 1) a0 a1 a2 a3 a4) := by
  intro a0 a1 a2 a3 a4 k
  have ih0 := epicyclelaw02_ModularJoins.mono_l k
  unfold epicyclelaw02_ModularJoins.f
  repeat' first
      | (with_reducible exact ih0 _ _ _ _ _ _ _ _)
      | (with_reducible exact epicyclelaw02_alive.mono _)
      | (with_reducible exact epicycleref02_Gcd.mono _ _ _)
      | (with_reducible exact modular_Join.mono _ _ _ _ _)
      | (with_reducible exact LeO.refl _)
      | (with_reducible exact LeO.none _)
      | (with_reducible refine LeO.ite ?_ ?_)
      | (with_reducible refine LeO.bind ?_ (fun _ => ?_))
      | exact ih0 _ _ _ _ _ _ _ _
      | exact epicyclelaw02_alive.mono _
      | exact epicycleref02_Gcd.mono _ _ _
      | exact modular_Join.mono _ _ _ _ _
      | exact LeO.none _
      | refine LeO.ite ?_ ?_
      | refine LeO.bind ?_ (fun _ => ?_)
set_option maxHeartbeats 8000000 in
set_option maxRecDepth 100000 in
theorem epicyclelaw02_ModularJoins.calls (k : Nat) (a0 : Int) (a1 : Int) (a2 : Int) (a3 : Int) (a4 : Int) (w : World) (h : epicyclelaw02_ModularJoins.f k a0 a1 a2 a3 a4 = some true) :
    Calls Try.prog 12 #[.int .u64 a0, .int .u64 a1, .int .u64 a2, .int .u64 a3, .int .u64 a4] w fun e w' => e = .returned (.bool true) ∧ Drawn0 w w' := by
  have H : ((epicyclelaw02_alive.f k).bind fun t174 => (if t174 = true then ((modular_Join.f k a0 a1 a2 a3).bind fun bt175 => (if a1 = 0 then (epicyclelaw02_ModularJoins.j0 k a0 a1 a2 a3 a4 bt175.1 bt175.2 true) else (if a3 = 0 then (epicyclelaw02_ModularJoins.j0 k a0 a1 a2 a3 a4 bt175.1 bt175.2 true) else ((epicycleref02_Gcd.f k a1 a3).bind fun t177 => (if t177 = 1 then (epicyclelaw02_ModularJoins.j0 k a0 a1 a2 a3 a4 bt175.1 bt175.2 (decide (a1 > (IntKind.u64.wrap (Int.tdiv (18446744073709551615 : Int) a3))))) else (epicyclelaw02_ModularJoins.j0 k a0 a1 a2 a3 a4 bt175.1 bt175.2 true)))))) else (some false))) = some true := h
  clear h
  replace H := Option.bind_eq_some_iff.mp H
  obtain ⟨t174, A60, H⟩ := H
  replace H : (if t174 = true then ((modular_Join.f k a0 a1 a2 a3).bind fun bt175 => (if a1 = 0 then (epicyclelaw02_ModularJoins.j0 k a0 a1 a2 a3 a4 bt175.1 bt175.2 true) else (if a3 = 0 then (epicyclelaw02_ModularJoins.j0 k a0 a1 a2 a3 a4 bt175.1 bt175.2 true) else ((epicycleref02_Gcd.f k a1 a3).bind fun t177 => (if t177 = 1 then (epicyclelaw02_ModularJoins.j0 k a0 a1 a2 a3 a4 bt175.1 bt175.2 (decide (a1 > (IntKind.u64.wrap (Int.tdiv (18446744073709551615 : Int) a3))))) else (epicyclelaw02_ModularJoins.j0 k a0 a1 a2 a3 a4 bt175.1 bt175.2 true)))))) else (some false)) = some true := H
  have A6 := Aside0.mk A60
  clear A60
  by_cases c7 : t174 = true
  · subst c7
    have H1 : ((modular_Join.f k a0 a1 a2 a3).bind fun bt175 => (if a1 = 0 then (epicyclelaw02_ModularJoins.j0 k a0 a1 a2 a3 a4 bt175.1 bt175.2 true) else (if a3 = 0 then (epicyclelaw02_ModularJoins.j0 k a0 a1 a2 a3 a4 bt175.1 bt175.2 true) else ((epicycleref02_Gcd.f k a1 a3).bind fun t177 => (if t177 = 1 then (epicyclelaw02_ModularJoins.j0 k a0 a1 a2 a3 a4 bt175.1 bt175.2 (decide (a1 > (IntKind.u64.wrap (Int.tdiv (18446744073709551615 : Int) a3))))) else (epicyclelaw02_ModularJoins.j0 k a0 a1 a2 a3 a4 bt175.1 bt175.2 true)))))) = some true := by rw [if_pos rfl] at H <;> exact H
    clear H
    have H := H1
    clear H1
    replace H := Option.bind_eq_some_iff.mp H
    obtain ⟨⟨t175, t176⟩, A80, H⟩ := H
    replace H : (if a1 = 0 then (epicyclelaw02_ModularJoins.j0 k a0 a1 a2 a3 a4 t175 t176 true) else (if a3 = 0 then (epicyclelaw02_ModularJoins.j0 k a0 a1 a2 a3 a4 t175 t176 true) else ((epicycleref02_Gcd.f k a1 a3).bind fun t177 => (if t177 = 1 then (epicyclelaw02_ModularJoins.j0 k a0 a1 a2 a3 a4 t175 t176 (decide (a1 > (IntKind.u64.wrap (Int.tdiv (18446744073709551615 : Int) a3))))) else (epicyclelaw02_ModularJoins.j0 k a0 a1 a2 a3 a4 t175 t176 true))))) = some true := H
    have A8 := Aside0.mk A80
    clear A80
    have HC9 := Aside0.mk H
    clear H
    go_enter Try.func12, Try.ntmps12
    go_upto_region 4 with (first | (go_at_call 33; (with_reducible refine (epicyclelaw02_alive.calls k  true _ A6.out).mono ?_); rintro e w' ⟨rfl, ⟨nd, rfl⟩⟩; (try first | exact ⟨rfl, _, World.drewN_drewN _ _ _⟩ | exact ⟨rfl, _, Eq.trans (World.drewN_drewN _ _ _) (congrArg (World.drewN _) (Nat.add_assoc _ _ _))⟩)) | (go_at_call 45; (with_reducible refine (modular_Join.calls k a0 a1 a2 a3 t175 t176 _ A8.out).mono ?_); rintro e w' ⟨rfl, ⟨nd, rfl⟩⟩; (try first | exact ⟨rfl, _, World.drewN_drewN _ _ _⟩ | exact ⟨rfl, _, Eq.trans (World.drewN_drewN _ _ _) (congrArg (World.drewN _) (Nat.add_assoc _ _ _))⟩)))
    repeat (go_quiet (first | (go_at_call 33; (with_reducible refine (epicyclelaw02_alive.calls k  true _ A6.out).mono ?_); rintro e w' ⟨rfl, ⟨nd, rfl⟩⟩; (try first | exact ⟨rfl, _, World.drewN_drewN _ _ _⟩ | exact ⟨rfl, _, Eq.trans (World.drewN_drewN _ _ _) (congrArg (World.drewN _) (Nat.add_assoc _ _ _))⟩)) | (go_at_call 45; (with_reducible refine (modular_Join.calls k a0 a1 a2 a3 t175 t176 _ A8.out).mono ?_); rintro e w' ⟨rfl, ⟨nd, rfl⟩⟩; (try first | exact ⟨rfl, _, World.drewN_drewN _ _ _⟩ | exact ⟨rfl, _, Eq.trans (World.drewN_drewN _ _ _) (congrArg (World.drewN _) (Nat.add_assoc _ _ _))⟩))); go_upto_region 4 with (first | (go_at_call 33; (with_reducible refine (epicyclelaw02_alive.calls k  true _ A6.out).mono ?_); rintro e w' ⟨rfl, ⟨nd, rfl⟩⟩; (try first | exact ⟨rfl, _, World.drewN_drewN _ _ _⟩ | exact ⟨rfl, _, Eq.trans (World.drewN_drewN _ _ _) (congrArg (World.drewN _) (Nat.add_assoc _ _ _))⟩)) | (go_at_call 45; (with_reducible refine (modular_Join.calls k a0 a1 a2 a3 t175 t176 _ A8.out).mono ?_); rintro e w' ⟨rfl, ⟨nd, rfl⟩⟩; (try first | exact ⟨rfl, _, World.drewN_drewN _ _ _⟩ | exact ⟨rfl, _, Eq.trans (World.drewN_drewN _ _ _) (congrArg (World.drewN _) (Nat.add_assoc _ _ _))⟩))))
    (try simp only [Act.put, List.setIfInBounds_toArray, List.set_cons_zero, List.set_cons_succ])
    go_cut [40] (fun v40 wc => ∃ (kq : Nat) (x40_8 : Bool), v40 = .bool x40_8 ∧ Aside0 (epicyclelaw02_ModularJoins.j0 kq a0 a1 a2 a3 a4 t175 t176 x40_8 = some true) ∧ Aside0 (kq ≤ k) ∧ Drawn0 w wc)
    case first =>
      have H := HC9.out
      clear HC9
      by_cases c10 : a1 = 0
      · rw [if_pos c10] at H
        have c10b0 : (a1 == 0) = true := beq_iff_eq.mpr c10
        have c10b1 : (a1 != 0) = false := bne_eq_false_iff_eq.mpr c10
        clear c10
        (first | rw [c10b0] | (simp only [i64_w, i32_w]; rw [c10b0]) | skip)
        have H' := Aside0.mk H
        clear H
        go_wp2
        repeat (go_quiet (fail); try go_wp2)
        go_meet
        case rel => exact ⟨_, (true), (by first | rfl | (simp; done) | (simp [*]; done)), H', ⟨by first | omega | exact Nat.le_refl _⟩, by repeat (first | exact Drawn0.refl _ | apply Drawn0.step)⟩
      · rw [if_neg c10] at H
        have c10b0 : (a1 == 0) = false := beq_eq_false_iff_ne.mpr c10
        have c10b1 : (a1 != 0) = true := bne_iff_ne.mpr c10
        (first | rw [c10b0] | (simp only [i64_w, i32_w]; rw [c10b0]) | skip)
        by_cases c11 : a3 = 0
        · rw [if_pos c11] at H
          have c11b0 : (a3 == 0) = true := beq_iff_eq.mpr c11
          have c11b1 : (a3 != 0) = false := bne_eq_false_iff_eq.mpr c11
          clear c11
          have H' := Aside0.mk H
          clear H
          go_wp2
          repeat (go_quiet (fail); try go_wp2)
          go_meet
          case rel => exact ⟨_, (true), (by first | rfl | (simp; done) | (simp [*]; done)), H', ⟨by first | omega | exact Nat.le_refl _⟩, by repeat (first | exact Drawn0.refl _ | apply Drawn0.step)⟩
        · rw [if_neg c11] at H
          have c11b0 : (a3 == 0) = false := beq_eq_false_iff_ne.mpr c11
          have c11b1 : (a3 != 0) = true := bne_iff_ne.mpr c11
          replace H := Option.bind_eq_some_iff.mp H
          obtain ⟨t177, A120, H⟩ := H
          replace H : (if t177 = 1 then (epicyclelaw02_ModularJoins.j0 k a0 a1 a2 a3 a4 t175 t176 (decide (a1 > (IntKind.u64.wrap (Int.tdiv (18446744073709551615 : Int) a3))))) else (epicyclelaw02_ModularJoins.j0 k a0 a1 a2 a3 a4 t175 t176 true)) = some true := H
          have A12 := Aside0.mk A120
          clear A120
          by_cases c13 : t177 = 1
          · rw [if_pos c13] at H
            have c13b0 : (t177 == 1) = true := beq_iff_eq.mpr c13
            have c13b1 : (t177 != 1) = false := bne_eq_false_iff_eq.mpr c13
            clear c13
            have H' := Aside0.mk H
            clear H
            go_wp2_with (first | (go_at_call 41; (with_reducible refine (epicycleref02_Gcd.calls k a1 a3 t177 _ A12.out).mono ?_); rintro e w' ⟨rfl, ⟨nd, rfl⟩⟩; (try first | exact ⟨rfl, _, World.drewN_drewN _ _ _⟩ | exact ⟨rfl, _, Eq.trans (World.drewN_drewN _ _ _) (congrArg (World.drewN _) (Nat.add_assoc _ _ _))⟩)))
            repeat (go_quiet (first | (go_at_call 41; (with_reducible refine (epicycleref02_Gcd.calls k a1 a3 t177 _ A12.out).mono ?_); rintro e w' ⟨rfl, ⟨nd, rfl⟩⟩; (try first | exact ⟨rfl, _, World.drewN_drewN _ _ _⟩ | exact ⟨rfl, _, Eq.trans (World.drewN_drewN _ _ _) (congrArg (World.drewN _) (Nat.add_assoc _ _ _))⟩))); try go_wp2_with (first | (go_at_call 41; (with_reducible refine (epicycleref02_Gcd.calls k a1 a3 t177 _ A12.out).mono ?_); rintro e w' ⟨rfl, ⟨nd, rfl⟩⟩; (try first | exact ⟨rfl, _, World.drewN_drewN _ _ _⟩ | exact ⟨rfl, _, Eq.trans (World.drewN_drewN _ _ _) (congrArg (World.drewN _) (Nat.add_assoc _ _ _))⟩))))
            go_meet
            case rel => exact ⟨_, (decide (a1 > (IntKind.u64.wrap (Int.tdiv (18446744073709551615 : Int) a3)))), (by first | rfl | (simp; done) | (simp [*]; done)), H', ⟨by first | omega | exact Nat.le_refl _⟩, by repeat (first | exact Drawn0.refl _ | apply Drawn0.step)⟩
          · rw [if_neg c13] at H
            have c13b0 : (t177 == 1) = false := beq_eq_false_iff_ne.mpr c13
            have c13b1 : (t177 != 1) = true := bne_iff_ne.mpr c13
            have H' := Aside0.mk H
            clear H
            go_wp2_with (first | (go_at_call 41; (with_reducible refine (epicycleref02_Gcd.calls k a1 a3 t177 _ A12.out).mono ?_); rintro e w' ⟨rfl, ⟨nd, rfl⟩⟩; (try first | exact ⟨rfl, _, World.drewN_drewN _ _ _⟩ | exact ⟨rfl, _, Eq.trans (World.drewN_drewN _ _ _) (congrArg (World.drewN _) (Nat.add_assoc _ _ _))⟩)))
            repeat (go_quiet (first | (go_at_call 41; (with_reducible refine (epicycleref02_Gcd.calls k a1 a3 t177 _ A12.out).mono ?_); rintro e w' ⟨rfl, ⟨nd, rfl⟩⟩; (try first | exact ⟨rfl, _, World.drewN_drewN _ _ _⟩ | exact ⟨rfl, _, Eq.trans (World.drewN_drewN _ _ _) (congrArg (World.drewN _) (Nat.add_assoc _ _ _))⟩))); try go_wp2_with (first | (go_at_call 41; (with_reducible refine (epicycleref02_Gcd.calls k a1 a3 t177 _ A12.out).mono ?_); rintro e w' ⟨rfl, ⟨nd, rfl⟩⟩; (try first | exact ⟨rfl, _, World.drewN_drewN _ _ _⟩ | exact ⟨rfl, _, Eq.trans (World.drewN_drewN _ _ _) (congrArg (World.drewN _) (Nat.add_assoc _ _ _))⟩))))
            go_meet
            case rel => exact ⟨_, (true), (by first | rfl | (simp; done) | (simp [*]; done)), H', ⟨by first | omega | exact Nat.le_refl _⟩, by repeat (first | exact Drawn0.refl _ | apply Drawn0.step)⟩
    case rest =>
      clear HC9
      try clear c1
      try clear p2
      try clear c7
      try clear c10
      try clear c10b0
      try clear c10b1
      try clear c11
      try clear c11b0
      try clear c11b1
      try clear c12
      try clear c13
      try clear c13b0
      try clear c13b1
      obtain ⟨kq, x40_8, rfl, HA, HJ8, ⟨mc8, rfl⟩⟩ := hcut
      cases kq with
      | zero => exact absurd HA.out (by simp [epicyclelaw02_ModularJoins.j0])
      | succ kj8 =>
        have H := HA.out
        clear HA
        simp only [epicyclelaw02_ModularJoins.j0] at H
        by_cases c14 : x40_8 = true
        · subst c14
          have H1 : (if t175 = 0 then (some (!t176)) else (some false)) = some true := by rw [if_pos rfl] at H <;> exact H
          clear H
          have H := H1
          clear H1
          by_cases c15 : t175 = 0
          · rw [if_pos c15] at H
            have c15b0 : (t175 == 0) = true := beq_iff_eq.mpr c15
            have c15b1 : (t175 != 0) = false := bne_eq_false_iff_eq.mpr c15
            clear c15
            have hR_ := Option.some.inj H
            go_wp2
            repeat (go_quiet (fail); try go_wp2)
            go_ret
            exact ⟨by first | rfl | (simp; done) | (simp [*]; done), by repeat (first | exact Drawn0.refl _ | apply Drawn0.step)⟩
          · rw [if_neg c15] at H
            have c15b0 : (t175 == 0) = false := beq_eq_false_iff_ne.mpr c15
            have c15b1 : (t175 != 0) = true := bne_iff_ne.mpr c15
            exact absurd H (by simp)
        · replace c14 := Bool.eq_false_iff.mpr c14
          subst c14
          have H1 : (if t176 = true then (if t175 ≥ (IntKind.u64.wrap (a1 * a3)) then (some false) else (if a1 = 0 then (none) else (if (Int.tmod t175 a1) = (Int.tmod a0 a1) then (if a3 = 0 then (none) else (if (Int.tmod t175 a3) = (Int.tmod a2 a3) then (if a4 ≥ (IntKind.u64.wrap (a1 * a3)) then (some true) else (if a4 = t175 then (some true) else (if (Int.tmod a4 a1) = (Int.tmod a0 a1) then (some ((Int.tmod a4 a3) != (Int.tmod a2 a3))) else (some true)))) else (some false))) else (some false)))) else (some false)) = some true := by rw [if_neg (show ¬ (false = true) by decide)] at H <;> exact H
          clear H
          have H := H1
          clear H1
          by_cases c16 : t176 = true
          · subst c16
            have H1 : (if t175 ≥ (IntKind.u64.wrap (a1 * a3)) then (some false) else (if a1 = 0 then (none) else (if (Int.tmod t175 a1) = (Int.tmod a0 a1) then (if a3 = 0 then (none) else (if (Int.tmod t175 a3) = (Int.tmod a2 a3) then (if a4 ≥ (IntKind.u64.wrap (a1 * a3)) then (some true) else (if a4 = t175 then (some true) else (if (Int.tmod a4 a1) = (Int.tmod a0 a1) then (some ((Int.tmod a4 a3) != (Int.tmod a2 a3))) else (some true)))) else (some false))) else (some false)))) = some true := by rw [if_pos rfl] at H <;> exact H
            clear H
            have H := H1
            clear H1
            by_cases c17 : t175 ≥ (IntKind.u64.wrap (a1 * a3))
            · rw [if_pos c17] at H
              have c17b0 : decide ((IntKind.u64.wrap (a1 * a3)) ≤ t175) = true := decide_eq_true c17
              clear c17
              exact absurd H (by simp)
            · rw [if_neg c17] at H
              have c17b0 : decide ((IntKind.u64.wrap (a1 * a3)) ≤ t175) = false := decide_eq_false c17
              clear c17
              by_cases c18 : a1 = 0
              · rw [if_pos c18] at H
                exact absurd H (by simp)
              · rw [if_neg c18] at H
                have c18b0 : (a1 == 0) = false := beq_eq_false_iff_ne.mpr c18
                have c18b1 : (a1 != 0) = true := bne_iff_ne.mpr c18
                by_cases c19 : (Int.tmod t175 a1) = (Int.tmod a0 a1)
                · rw [if_pos c19] at H
                  have c19b0 : ((Int.tmod t175 a1) == (Int.tmod a0 a1)) = true := beq_iff_eq.mpr c19
                  have c19b1 : ((Int.tmod t175 a1) != (Int.tmod a0 a1)) = false := bne_eq_false_iff_eq.mpr c19
                  clear c19
                  by_cases c20 : a3 = 0
                  · rw [if_pos c20] at H
                    exact absurd H (by simp)
                  · rw [if_neg c20] at H
                    have c20b0 : (a3 == 0) = false := beq_eq_false_iff_ne.mpr c20
                    have c20b1 : (a3 != 0) = true := bne_iff_ne.mpr c20
                    by_cases c21 : (Int.tmod t175 a3) = (Int.tmod a2 a3)
                    · rw [if_pos c21] at H
                      have c21b0 : ((Int.tmod t175 a3) == (Int.tmod a2 a3)) = true := beq_iff_eq.mpr c21
                      have c21b1 : ((Int.tmod t175 a3) != (Int.tmod a2 a3)) = false := bne_eq_false_iff_eq.mpr c21
                      clear c21
                      by_cases c22 : a4 ≥ (IntKind.u64.wrap (a1 * a3))
                      · rw [if_pos c22] at H
                        have c22b0 : decide ((IntKind.u64.wrap (a1 * a3)) ≤ a4) = true := decide_eq_true c22
                        clear c22
                        clear H
                        go_wp2
                        repeat (go_quiet (fail); try go_wp2)
                        go_ret
                        exact ⟨by first | rfl | (simp; done) | (simp [*]; done), by repeat (first | exact Drawn0.refl _ | apply Drawn0.step)⟩
                      · rw [if_neg c22] at H
                        have c22b0 : decide ((IntKind.u64.wrap (a1 * a3)) ≤ a4) = false := decide_eq_false c22
                        clear c22
                        by_cases c23 : a4 = t175
                        · rw [if_pos c23] at H
                          have c23b0 : (a4 == t175) = true := beq_iff_eq.mpr c23
                          have c23b1 : (a4 != t175) = false := bne_eq_false_iff_eq.mpr c23
                          clear c23
                          clear H
                          go_wp2
                          repeat (go_quiet (fail); try go_wp2)
                          go_ret
                          exact ⟨by first | rfl | (simp; done) | (simp [*]; done), by repeat (first | exact Drawn0.refl _ | apply Drawn0.step)⟩
                        · rw [if_neg c23] at H
                          have c23b0 : (a4 == t175) = false := beq_eq_false_iff_ne.mpr c23
                          have c23b1 : (a4 != t175) = true := bne_iff_ne.mpr c23
                          by_cases c24 : (Int.tmod a4 a1) = (Int.tmod a0 a1)
                          · rw [if_pos c24] at H
                            have c24b0 : ((Int.tmod a4 a1) == (Int.tmod a0 a1)) = true := beq_iff_eq.mpr c24
                            have c24b1 : ((Int.tmod a4 a1) != (Int.tmod a0 a1)) = false := bne_eq_false_iff_eq.mpr c24
                            clear c24
                            have hR_ := Option.some.inj H
                            go_wp2
                            repeat (go_quiet (fail); try go_wp2)
                            go_ret
                            exact ⟨by first | rfl | (simp; done) | (simp [*]; done), by repeat (first | exact Drawn0.refl _ | apply Drawn0.step)⟩
                          · rw [if_neg c24] at H
                            have c24b0 : ((Int.tmod a4 a1) == (Int.tmod a0 a1)) = false := beq_eq_false_iff_ne.mpr c24
                            have c24b1 : ((Int.tmod a4 a1) != (Int.tmod a0 a1)) = true := bne_iff_ne.mpr c24
                            clear H
                            go_wp2
                            repeat (go_quiet (fail); try go_wp2)
                            go_ret
                            exact ⟨by first | rfl | (simp; done) | (simp [*]; done), by repeat (first | exact Drawn0.refl _ | apply Drawn0.step)⟩
                    · rw [if_neg c21] at H
                      have c21b0 : ((Int.tmod t175 a3) == (Int.tmod a2 a3)) = false := beq_eq_false_iff_ne.mpr c21
                      have c21b1 : ((Int.tmod t175 a3) != (Int.tmod a2 a3)) = true := bne_iff_ne.mpr c21
                      exact absurd H (by simp)
                · rw [if_neg c19] at H
                  have c19b0 : ((Int.tmod t175 a1) == (Int.tmod a0 a1)) = false := beq_eq_false_iff_ne.mpr c19
                  have c19b1 : ((Int.tmod t175 a1) != (Int.tmod a0 a1)) = true := bne_iff_ne.mpr c19
                  exact absurd H (by simp)
          · replace c16 := Bool.eq_false_iff.mpr c16
            subst c16
            have H1 : (some false) = some true := by rw [if_neg (show ¬ (false = true) by decide)] at H <;> exact H
            clear H
            have H := H1
            clear H1
            exact absurd H (by simp)
  · replace c7 := Bool.eq_false_iff.mpr c7
    subst c7
    have H1 : (some false) = some true := by rw [if_neg (show ¬ (false = true) by decide)] at H <;> exact H
    clear H
    have H := H1
    clear H1
    exact absurd H (by simp)

/-- THE ONE PURE STATEMENT of epicyclelaw02_ModularJoins: yours. -/
def epicyclelaw02_ModularJoins.Pure : Prop := ∀ (a0 : Int) (a1 : Int) (a2 : Int) (a3 : Int) (a4 : Int), (Lit.int .u64 a0).wf = true → (Lit.int .u64 a1).wf = true → (Lit.int .u64 a2).wf = true → (Lit.int .u64 a3).wf = true → (Lit.int .u64 a4).wf = true → ∃ k, epicyclelaw02_ModularJoins.f k a0 a1 a2 a3 a4 = some true
theorem epicyclelaw02_ModularJoins.walk (P : epicyclelaw02_ModularJoins.Pure) (a0 : Int) (a1 : Int) (a2 : Int) (a3 : Int) (a4 : Int) (w : World) (w0 : (Lit.int .u64 a0).wf = true) (w1 : (Lit.int .u64 a1).wf = true) (w2 : (Lit.int .u64 a2).wf = true) (w3 : (Lit.int .u64 a3).wf = true) (w4 : (Lit.int .u64 a4).wf = true) :
    Calls Try.prog 12 #[.int .u64 a0, .int .u64 a1, .int .u64 a2, .int .u64 a3, .int .u64 a4] w fun e w' => e = .returned (.bool true) ∧ Below w.heap.size w w' := by
  obtain ⟨k, h⟩ := P a0 a1 a2 a3 a4 w0 w1 w2 w3 w4
  refine (epicyclelaw02_ModularJoins.calls k a0 a1 a2 a3 a4 w h).mono ?_
  rintro e w' ⟨rfl, hd⟩
  exact ⟨rfl, hd.below⟩

end Go.Proofs.Ytflceedohhhdiaa.XM
