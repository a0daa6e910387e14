-- Printed by a program of this session (wip/tools/mkprint.py) out of the translation.
import Derived.Test.YtcnnaciilphadaaXR0
import Derived.Test.YtcnnaciilphadaaXR1
namespace Go.Proofs.Ytcnnaciilphadaa.XR
open Go.RowKit Go.Proofs.Ytcnnaciilphadaa.Given Go.Proofs.YtcnnaciilphadaaW.PrintWords Go.Proofs.YtcnnaciilphadaaW.PrintLast Go.Proofs.YtcnnaciilphadaaW.PrintMore
attribute [local go_sem] max2_int min2_int max_two min_two max_three min_three max_four min_four   -- for this text's walks alone
set_option linter.unusedVariables false
set_option linter.unusedSimpArgs false

/-! ### epicycleref02_Pow: function 28 -/
def epicycleref02_Pow.f : Nat → Int → Int → Int → Option (Int)
  | 0, _, _, _ => none
  | k + 1, a0, a1, a2 => if a1 = 0 then (if a2 = 0 then (none) else (some ((1 : Int) % a2))) else ((epicycleref02_Pow.f k a0 (IntKind.u64.wrap (Int.tdiv a1 2)) a2).bind fun t107 => ((epicycleref02_Mul.f k t107 t107 a2).bind fun t108 => (if (Int.tmod a1 2) = 1 then ((epicycleref02_Mul.f k t108 a0 a2).bind fun t109 => (some t109)) else (some t108))))
theorem epicycleref02_Pow.mono_l : ∀ k, (∀ y0 y1 y2, LeO (epicycleref02_Pow.f k y0 y1 y2) (epicycleref02_Pow.f (k + 1) y0 y1 y2))
  | 0 => fun _ _ _ r h => by simp [epicycleref02_Pow.f] at h
  | k + 1 => by
    have ih0 := epicycleref02_Pow.mono_l k
    · intro y0 y1 y2
      unfold epicycleref02_Pow.f
      repeat' first
      | (with_reducible exact ih0 _ _ _)
      | (with_reducible exact epicycleref02_Mul.mono _ _ _ _)
      | (with_reducible exact LeO.refl _)
      | (with_reducible exact LeO.none _)
      | (with_reducible refine LeO.ite ?_ ?_)
      | (with_reducible refine LeO.bind ?_ (fun _ => ?_))
      | exact ih0 _ _ _
      | exact epicycleref02_Mul.mono _ _ _ _
      | exact LeO.none _
      | refine LeO.ite ?_ ?_
      | refine LeO.bind ?_ (fun _ => ?_)
theorem epicycleref02_Pow.mono : ∀ a0 a1 a2 k, LeO (epicycleref02_Pow.f k a0 a1 a2) (epicycleref02_Pow.f (k + 1) a0 a1 a2) := by
  intro a0 a1 a2 k
  have ih0 := epicycleref02_Pow.mono_l k
  exact ih0 a0 a1 a2
set_option maxHeartbeats 8000000 in
set_option maxRecDepth 100000 in
theorem epicycleref02_Pow.calls (k : Nat) : ∀ (a0 : Int) (a1 : Int) (a2 : Int) (r : Int) (w : World) (h : epicycleref02_Pow.f k a0 a1 a2 = some r),
    Calls Try.prog 28 #[.int .u64 a0, .int .u64 a1, .int .u64 a2] w fun e w' => e = .returned (.int .u64 r) ∧ Drawn0 w w' := by
  induction k using Nat.strongRecOn with
  | _ k ih =>
  intro a0 a1 a2 r w h
  cases k with
  | zero => exact absurd h (by simp [epicycleref02_Pow.f])
  | succ k =>
  simp only [epicycleref02_Pow.f] at h
  have H : (if a1 = 0 then (if a2 = 0 then (none) else (some ((1 : Int) % a2))) else ((epicycleref02_Pow.f k a0 (IntKind.u64.wrap (Int.tdiv a1 2)) a2).bind fun t107 => ((epicycleref02_Mul.f k t107 t107 a2).bind fun t108 => (if (Int.tmod a1 2) = 1 then ((epicycleref02_Mul.f k t108 a0 a2).bind fun t109 => (some t109)) else (some t108))))) = some r := h
  clear h
  by_cases c4 : a1 = 0
  · rw [if_pos c4] at H
    have c4b0 : (a1 == 0) = true := beq_iff_eq.mpr c4
    have c4b1 : (a1 != 0) = false := bne_eq_false_iff_eq.mpr c4
    clear c4
    by_cases c5 : a2 = 0
    · rw [if_pos c5] at H
      exact absurd H (by simp)
    · rw [if_neg c5] at H
      have c5b0 : (a2 == 0) = false := beq_eq_false_iff_ne.mpr c5
      have c5b1 : (a2 != 0) = true := bne_iff_ne.mpr c5
      obtain rfl := Option.some.inj H
      go_enter Try.func28, Try.ntmps28
      go_wp2
      go_ret
      exact ⟨by first | rfl | (simp; done) | (simp [*]; done), by repeat (first | exact Drawn0.refl _ | apply Drawn0.step)⟩
  · rw [if_neg c4] at H
    have c4b0 : (a1 == 0) = false := beq_eq_false_iff_ne.mpr c4
    have c4b1 : (a1 != 0) = true := bne_iff_ne.mpr c4
    replace H := Option.bind_eq_some_iff.mp H
    obtain ⟨t107, A60, H⟩ := H
    replace H : ((epicycleref02_Mul.f k t107 t107 a2).bind fun t108 => (if (Int.tmod a1 2) = 1 then ((epicycleref02_Mul.f k t108 a0 a2).bind fun t109 => (some t109)) else (some t108))) = some r := H
    have A6 := Aside0.mk A60
    clear A60
    replace H := Option.bind_eq_some_iff.mp H
    obtain ⟨t108, A70, H⟩ := H
    replace H : (if (Int.tmod a1 2) = 1 then ((epicycleref02_Mul.f k t108 a0 a2).bind fun t109 => (some t109)) else (some t108)) = some r := H
    have A7 := Aside0.mk A70
    clear A70
    by_cases c8 : (Int.tmod a1 2) = 1
    · rw [if_pos c8] at H
      have c8b0 : ((Int.tmod a1 2) == 1) = true := beq_iff_eq.mpr c8
      have c8b1 : ((Int.tmod a1 2) != 1) = false := bne_eq_false_iff_eq.mpr c8
      clear c8
      replace H := Option.bind_eq_some_iff.mp H
      obtain ⟨t109, A90, H⟩ := H
      replace H : (some t109) = some r := H
      have A9 := Aside0.mk A90
      clear A90
      obtain rfl := Option.some.inj H
      go_enter Try.func28, Try.ntmps28
      go_wp2_with (first | ((with_reducible refine gate_callee (f := 28) rfl ?_); refine goesL_ (some 17) rfl rfl Try.func28 (by kernel_rfl) rfl #[.int .u64 a0, .int .u64 (IntKind.u64.wrap (Int.tdiv a1 2)), .int .u64 a2] rfl (by (try simp only [List.map_toArray, List.map_cons, List.map_nil]); first | done | rfl | (simp only [List.length_drop, List.length_take]; rfl)) ?_; (with_reducible refine (ih k (by omega) a0 (IntKind.u64.wrap (Int.tdiv a1 2)) a2 t107 _ A6.out).mono ?_); rintro e w' ⟨rfl, ⟨nd, rfl⟩⟩; refine ⟨_, rfl, ?_⟩) | ((with_reducible refine gate_callee (f := 21) rfl ?_); refine goesL_ (some 21) rfl rfl Try.func21 (by kernel_rfl) rfl #[.int .u64 t107, .int .u64 t107, .int .u64 a2] rfl (by (try simp only [List.map_toArray, List.map_cons, List.map_nil]); first | done | rfl | (simp only [List.length_drop, List.length_take]; rfl)) ?_; (with_reducible refine (epicycleref02_Mul.calls k t107 t107 a2 t108 _ A7.out).mono ?_); rintro e w' ⟨rfl, ⟨nd, rfl⟩⟩; refine ⟨_, rfl, ?_⟩) | ((with_reducible refine gate_callee (f := 21) rfl ?_); refine goesL_ (some 28) rfl rfl Try.func21 (by kernel_rfl) rfl #[.int .u64 t108, .int .u64 a0, .int .u64 a2] rfl (by (try simp only [List.map_toArray, List.map_cons, List.map_nil]); first | done | rfl | (simp only [List.length_drop, List.length_take]; rfl)) ?_; (with_reducible refine (epicycleref02_Mul.calls k t108 a0 a2 t109 _ A9.out).mono ?_); rintro e w' ⟨rfl, ⟨nd, rfl⟩⟩; refine ⟨_, rfl, ?_⟩))
      go_ret
      exact ⟨by first | rfl | (simp; done) | (simp [*]; done), by repeat (first | exact Drawn0.refl _ | apply Drawn0.step)⟩
    · rw [if_neg c8] at H
      have c8b0 : ((Int.tmod a1 2) == 1) = false := beq_eq_false_iff_ne.mpr c8
      have c8b1 : ((Int.tmod a1 2) != 1) = true := bne_iff_ne.mpr c8
      obtain rfl := Option.some.inj H
      go_enter Try.func28, Try.ntmps28
      go_wp2_with (first | ((with_reducible refine gate_callee (f := 28) rfl ?_); refine goesL_ (some 17) rfl rfl Try.func28 (by kernel_rfl) rfl #[.int .u64 a0, .int .u64 (IntKind.u64.wrap (Int.tdiv a1 2)), .int .u64 a2] rfl (by (try simp only [List.map_toArray, List.map_cons, List.map_nil]); first | done | rfl | (simp only [List.length_drop, List.length_take]; rfl)) ?_; (with_reducible refine (ih k (by omega) a0 (IntKind.u64.wrap (Int.tdiv a1 2)) a2 t107 _ A6.out).mono ?_); rintro e w' ⟨rfl, ⟨nd, rfl⟩⟩; refine ⟨_, rfl, ?_⟩) | ((with_reducible refine gate_callee (f := 21) rfl ?_); refine goesL_ (some 21) rfl rfl Try.func21 (by kernel_rfl) rfl #[.int .u64 t107, .int .u64 t107, .int .u64 a2] rfl (by (try simp only [List.map_toArray, List.map_cons, List.map_nil]); first | done | rfl | (simp only [List.length_drop, List.length_take]; rfl)) ?_; (with_reducible refine (epicycleref02_Mul.calls k t107 t107 a2 t108 _ A7.out).mono ?_); rintro e w' ⟨rfl, ⟨nd, rfl⟩⟩; refine ⟨_, rfl, ?_⟩))
      go_ret
      exact ⟨by first | rfl | (simp; done) | (simp [*]; done), by repeat (first | exact Drawn0.refl _ | apply Drawn0.step)⟩

/-! ### epicycleref03_Good: function 16 -/
def epicycleref03_Good.f (a0 : Int) : Option (Bool) := if (Int.tmod a0 2) = 1 then (if a0 > 1 then (some (decide (a0 < 9223372036854775808))) else (some false)) else (some false)
set_option maxHeartbeats 8000000 in
set_option maxRecDepth 100000 in
theorem epicycleref03_Good.calls (a0 : Int) (r : Bool) (w : World) (h : epicycleref03_Good.f a0 = some r) :
    Calls Try.prog 16 #[.int .u64 a0] w fun e w' => e = .returned (.bool r) ∧ Drawn0 w w' := by
  have H : (if (Int.tmod a0 2) = 1 then (if a0 > 1 then (some (decide (a0 < 9223372036854775808))) else (some false)) else (some false)) = some r := h
  clear h
  by_cases c2 : (Int.tmod a0 2) = 1
  · rw [if_pos c2] at H
    have c2b0 : ((Int.tmod a0 2) == 1) = true := beq_iff_eq.mpr c2
    have c2b1 : ((Int.tmod a0 2) != 1) = false := bne_eq_false_iff_eq.mpr c2
    clear c2
    by_cases c3 : a0 > 1
    · rw [if_pos c3] at H
      have c3b0 : decide (1 < a0) = true := decide_eq_true c3
      clear c3
      obtain rfl := Option.some.inj H
      go_enter Try.func16, Try.ntmps16
      go_wp2
      go_ret
      exact ⟨by first | rfl | (simp; done) | (simp [*]; done), by repeat (first | exact Drawn0.refl _ | apply Drawn0.step)⟩
    · rw [if_neg c3] at H
      have c3b0 : decide (1 < a0) = false := decide_eq_false c3
      clear c3
      obtain rfl := Option.some.inj H
      go_enter Try.func16, Try.ntmps16
      go_wp2
      go_ret
      exact ⟨by first | rfl | (simp; done) | (simp [*]; done), by repeat (first | exact Drawn0.refl _ | apply Drawn0.step)⟩
  · rw [if_neg c2] at H
    have c2b0 : ((Int.tmod a0 2) == 1) = false := beq_eq_false_iff_ne.mpr c2
    have c2b1 : ((Int.tmod a0 2) != 1) = true := bne_iff_ne.mpr c2
    obtain rfl := Option.some.inj H
    go_enter Try.func16, Try.ntmps16
    go_wp2
    go_ret
    exact ⟨by first | rfl | (simp; done) | (simp [*]; done), by repeat (first | exact Drawn0.refl _ | apply Drawn0.step)⟩

/-! ### epicycleref03_Up: function 30 -/
def epicycleref03_Up.l0 : Nat → Int → Int → Int → Option (Int)
  | 0, _, _, _ => none
  | k + 1, x0, x1, x5 => if x5 < 64 then ((epicycleref02_Add.f x0 x0 x1).bind fun t110 => (epicycleref03_Up.l0 k t110 x1 (wrap64 (x5 + 1)))) else (some x0)
def epicycleref03_Up.f (k : Nat) (a0 : Int) (a1 : Int) : Option (Int) := if a1 = 0 then (none) else (epicycleref03_Up.l0 k (Int.tmod a0 a1) a1 0)
theorem epicycleref03_Up.mono_l : ∀ k, (∀ y0 y1 y2, LeO (epicycleref03_Up.l0 k y0 y1 y2) (epicycleref03_Up.l0 (k + 1) y0 y1 y2))
  | 0 => fun _ _ _ r h => by simp [epicycleref03_Up.l0] at h
  | k + 1 => by
    have ih0 := epicycleref03_Up.mono_l k
    · intro y0 y1 y2
      unfold epicycleref03_Up.l0
      repeat' first
      | (with_reducible exact ih0 _ _ _)
      | (with_reducible exact LeO.refl _)
      | (with_reducible exact LeO.none _)
      | (with_reducible refine LeO.ite ?_ ?_)
      | (with_reducible refine LeO.bind ?_ (fun _ => ?_))
      | exact ih0 _ _ _
      | exact LeO.none _
      | refine LeO.ite ?_ ?_
      | refine LeO.bind ?_ (fun _ => ?_)
theorem epicycleref03_Up.mono : ∀ a0 a1 k, LeO (epicycleref03_Up.f k a0 a1) (epicycleref03_Up.f (k + 1) a0 a1) := by
  intro a0 a1 k
  have ih0 := epicycleref03_Up.mono_l k
  unfold epicycleref03_Up.f
  repeat' first
      | (with_reducible exact ih0 _ _ _)
      | (with_reducible exact LeO.refl _)
      | (with_reducible exact LeO.none _)
      | (with_reducible refine LeO.ite ?_ ?_)
      | (with_reducible refine LeO.bind ?_ (fun _ => ?_))
      | exact ih0 _ _ _
      | exact LeO.none _
      | refine LeO.ite ?_ ?_
      | refine LeO.bind ?_ (fun _ => ?_)
set_option maxHeartbeats 8000000 in
set_option maxRecDepth 100000 in
theorem epicycleref03_Up.calls (k : Nat) (a0 : Int) (a1 : Int) (r : Int) (w : World) (h : epicycleref03_Up.f k a0 a1 = some r) :
    Calls Try.prog 30 #[.int .u64 a0, .int .u64 a1] w fun e w' => e = .returned (.int .u64 r) ∧ Drawn0 w w' := by
  have H : (if a1 = 0 then (none) else (epicycleref03_Up.l0 k (Int.tmod a0 a1) a1 0)) = some r := h
  clear h
  by_cases c3 : a1 = 0
  · rw [if_pos c3] at H
    exact absurd H (by simp)
  · rw [if_neg c3] at H
    have c3b0 : (a1 == 0) = false := beq_eq_false_iff_ne.mpr c3
    have c3b1 : (a1 != 0) = true := bne_iff_ne.mpr c3
    have H' := Aside0.mk H
    clear H
    go_enter Try.func30, Try.ntmps30
    go_wp2
    go_loopg [0, 5] k (fun kq v0 v5 w' => ∃ (x0_1 : Int) (x5_1 : Int), v0 = .int .u64 x0_1 ∧ v5 = .int .i64 x5_1 ∧ Aside0 (epicycleref03_Up.l0 kq x0_1 a1 x5_1 = some r) ∧ Aside0 (kq ≤ k) ∧ Drawn0 w w')
    case atStart => exact ⟨(Int.tmod a0 a1), (0), (by first | rfl | (simp; done) | (simp [*]; done)), (by first | rfl | (simp; done) | (simp [*]; done)), H', ⟨Nat.le_refl _⟩, by repeat (first | exact Drawn0.refl _ | apply Drawn0.step)⟩
    case round =>
      clear H'
      try clear p2
      try clear c3
      try clear c3b0
      try clear c3b1
      obtain ⟨x0_1, x5_1, rfl, rfl, HA, HK1, ⟨m1, rfl⟩⟩ := hrel
      cases gk with
      | zero => exact absurd HA.out (by simp [epicycleref03_Up.l0])
      | succ k1 =>
        have H := HA.out
        clear HA
        simp only [epicycleref03_Up.l0] at H
        by_cases c4 : x5_1 < 64
        · rw [if_pos c4] at H
          have c4b0 : decide (x5_1 < 64) = true := decide_eq_true c4
          clear c4
          replace H := Option.bind_eq_some_iff.mp H
          obtain ⟨t110, A50, H⟩ := H
          replace H : (epicycleref03_Up.l0 k1 t110 a1 (wrap64 (x5_1 + 1))) = some r := H
          have A5 := Aside0.mk A50
          clear A50
          have H' := Aside0.mk H
          clear H
          go_wp2_with (first | ((with_reducible refine gate_callee (f := 23) rfl ?_); refine goesL_ (some 16) rfl rfl Try.func23 (by kernel_rfl) rfl #[.int .u64 x0_1, .int .u64 x0_1, .int .u64 a1] rfl (by (try simp only [List.map_toArray, List.map_cons, List.map_nil]); first | done | rfl | (simp only [List.length_drop, List.length_take]; rfl)) ?_; (with_reducible refine (epicycleref02_Add.calls x0_1 x0_1 a1 t110 _ A5.out).mono ?_); rintro e w' ⟨rfl, ⟨nd, rfl⟩⟩; refine ⟨_, rfl, ?_⟩))
          go_roundg k1
          case measure => have := HK1.out; omega
          case rel => exact ⟨(t110), (wrap64 (x5_1 + 1)), (by first | rfl | (simp; done) | (simp [*]; done)), (by first | rfl | (simp; done) | (simp [*]; done)), H', ⟨by have := HK1.out; omega⟩, by repeat (first | exact Drawn0.refl _ | apply Drawn0.step)⟩
        · rw [if_neg c4] at H
          have c4b0 : decide (x5_1 < 64) = false := decide_eq_false c4
          clear c4
          obtain rfl := Option.some.inj H
          go_wp2
          go_ret
          exact ⟨by first | rfl | (simp; done) | (simp [*]; done), by repeat (first | exact Drawn0.refl _ | apply Drawn0.step)⟩

/-! ### epicycleref03_Half: function 44 -/
def epicycleref03_Half.f (a0 : Int) (a1 : Int) : Option (Int) := if (Int.tmod a0 2) = 0 then (some (IntKind.u64.wrap (Int.tdiv a0 2))) else (some (IntKind.u64.wrap ((IntKind.u64.wrap ((IntKind.u64.wrap (Int.tdiv a0 2)) + (IntKind.u64.wrap (Int.tdiv a1 2)))) + 1)))
set_option maxHeartbeats 8000000 in
set_option maxRecDepth 100000 in
theorem epicycleref03_Half.calls (a0 : Int) (a1 : Int) (r : Int) (w : World) (h : epicycleref03_Half.f a0 a1 = some r) :
    Calls Try.prog 44 #[.int .u64 a0, .int .u64 a1] w fun e w' => e = .returned (.int .u64 r) ∧ Drawn0 w w' := by
  have H : (if (Int.tmod a0 2) = 0 then (some (IntKind.u64.wrap (Int.tdiv a0 2))) else (some (IntKind.u64.wrap ((IntKind.u64.wrap ((IntKind.u64.wrap (Int.tdiv a0 2)) + (IntKind.u64.wrap (Int.tdiv a1 2)))) + 1)))) = some r := h
  clear h
  by_cases c3 : (Int.tmod a0 2) = 0
  · rw [if_pos c3] at H
    have c3b0 : ((Int.tmod a0 2) == 0) = true := beq_iff_eq.mpr c3
    have c3b1 : ((Int.tmod a0 2) != 0) = false := bne_eq_false_iff_eq.mpr c3
    clear c3
    obtain rfl := Option.some.inj H
    go_enter Try.func44, Try.ntmps44
    go_wp2
    go_ret
    exact ⟨by first | rfl | (simp; done) | (simp [*]; done), by repeat (first | exact Drawn0.refl _ | apply Drawn0.step)⟩
  · rw [if_neg c3] at H
    have c3b0 : ((Int.tmod a0 2) == 0) = false := beq_eq_false_iff_ne.mpr c3
    have c3b1 : ((Int.tmod a0 2) != 0) = true := bne_iff_ne.mpr c3
    obtain rfl := Option.some.inj H
    go_enter Try.func44, Try.ntmps44
    go_wp2
    go_ret
    exact ⟨by first | rfl | (simp; done) | (simp [*]; done), by repeat (first | exact Drawn0.refl _ | apply Drawn0.step)⟩

/-! ### epicycleref03_Down: function 31 -/
def epicycleref03_Down.l0 : Nat → Int → Int → Int → Option (Int)
  | 0, _, _, _ => none
  | k + 1, x0, x1, x5 => if x5 < 64 then ((epicycleref03_Half.f x0 x1).bind fun t111 => (epicycleref03_Down.l0 k t111 x1 (wrap64 (x5 + 1)))) else (some x0)
def epicycleref03_Down.f (k : Nat) (a0 : Int) (a1 : Int) : Option (Int) := epicycleref03_Down.l0 k a0 a1 0
theorem epicycleref03_Down.mono_l : ∀ k, (∀ y0 y1 y2, LeO (epicycleref03_Down.l0 k y0 y1 y2) (epicycleref03_Down.l0 (k + 1) y0 y1 y2))
  | 0 => fun _ _ _ r h => by simp [epicycleref03_Down.l0] at h
  | k + 1 => by
    have ih0 := epicycleref03_Down.mono_l k
    · intro y0 y1 y2
      unfold epicycleref03_Down.l0
      repeat' first
      | (with_reducible exact ih0 _ _ _)
      | (with_reducible exact LeO.refl _)
      | (with_reducible exact LeO.none _)
      | (with_reducible refine LeO.ite ?_ ?_)
      | (with_reducible refine LeO.bind ?_ (fun _ => ?_))
      | exact ih0 _ _ _
      | exact LeO.none _
      | refine LeO.ite ?_ ?_
      | refine LeO.bind ?_ (fun _ => ?_)
theorem epicycleref03_Down.mono : ∀ a0 a1 k, LeO (epicycleref03_Down.f k a0 a1) (epicycleref03_Down.f (k + 1) a0 a1) := by
  intro a0 a1 k
  have ih0 := epicycleref03_Down.mono_l k
  unfold epicycleref03_Down.f
  repeat' first
      | (with_reducible exact ih0 _ _ _)
      | (with_reducible exact LeO.refl _)
      | (with_reducible exact LeO.none _)
      | (with_reducible refine LeO.ite ?_ ?_)
      | (with_reducible refine LeO.bind ?_ (fun _ => ?_))
      | exact ih0 _ _ _
      | exact LeO.none _
      | refine LeO.ite ?_ ?_
      | refine LeO.bind ?_ (fun _ => ?_)
set_option maxHeartbeats 8000000 in
set_option maxRecDepth 100000 in
theorem epicycleref03_Down.calls (k : Nat) (a0 : Int) (a1 : Int) (r : Int) (w : World) (h : epicycleref03_Down.f k a0 a1 = some r) :
    Calls Try.prog 31 #[.int .u64 a0, .int .u64 a1] w fun e w' => e = .returned (.int .u64 r) ∧ Drawn0 w w' := by
  have H : (epicycleref03_Down.l0 k a0 a1 0) = some r := h
  clear h
  have H' := Aside0.mk H
  clear H
  go_enter Try.func31, Try.ntmps31
  go_wp2
  go_loopg [0, 5] k (fun kq v0 v5 w' => ∃ (x0_1 : Int) (x5_1 : Int), v0 = .int .u64 x0_1 ∧ v5 = .int .i64 x5_1 ∧ Aside0 (epicycleref03_Down.l0 kq x0_1 a1 x5_1 = some r) ∧ Aside0 (kq ≤ k) ∧ Drawn0 w w')
  case atStart => exact ⟨(a0), (0), (by first | rfl | (simp; done) | (simp [*]; done)), (by first | rfl | (simp; done) | (simp [*]; done)), H', ⟨Nat.le_refl _⟩, by repeat (first | exact Drawn0.refl _ | apply Drawn0.step)⟩
  case round =>
    clear H'
    try clear p2
    obtain ⟨x0_1, x5_1, rfl, rfl, HA, HK1, ⟨m1, rfl⟩⟩ := hrel
    cases gk with
    | zero => exact absurd HA.out (by simp [epicycleref03_Down.l0])
    | succ k1 =>
      have H := HA.out
      clear HA
      simp only [epicycleref03_Down.l0] at H
      by_cases c3 : x5_1 < 64
      · rw [if_pos c3] at H
        have c3b0 : decide (x5_1 < 64) = true := decide_eq_true c3
        clear c3
        replace H := Option.bind_eq_some_iff.mp H
        obtain ⟨t111, A40, H⟩ := H
        replace H : (epicycleref03_Down.l0 k1 t111 a1 (wrap64 (x5_1 + 1))) = some r := H
        have A4 := Aside0.mk A40
        clear A40
        have H' := Aside0.mk H
        clear H
        go_wp2_with (first | ((with_reducible refine gate_callee (f := 44) rfl ?_); refine goesL_ (some 12) rfl rfl Try.func44 (by kernel_rfl) rfl #[.int .u64 x0_1, .int .u64 a1] rfl (by (try simp only [List.map_toArray, List.map_cons, List.map_nil]); first | done | rfl | (simp only [List.length_drop, List.length_take]; rfl)) ?_; (with_reducible refine (epicycleref03_Half.calls x0_1 a1 t111 _ A4.out).mono ?_); rintro e w' ⟨rfl, ⟨nd, rfl⟩⟩; refine ⟨_, rfl, ?_⟩))
        go_roundg k1
        case measure => have := HK1.out; omega
        case rel => exact ⟨(t111), (wrap64 (x5_1 + 1)), (by first | rfl | (simp; done) | (simp [*]; done)), (by first | rfl | (simp; done) | (simp [*]; done)), H', ⟨by have := HK1.out; omega⟩, by repeat (first | exact Drawn0.refl _ | apply Drawn0.step)⟩
      · rw [if_neg c3] at H
        have c3b0 : decide (x5_1 < 64) = false := decide_eq_false c3
        clear c3
        obtain rfl := Option.some.inj H
        go_wp2
        go_ret
        exact ⟨by first | rfl | (simp; done) | (simp [*]; done), by repeat (first | exact Drawn0.refl _ | apply Drawn0.step)⟩

end Go.Proofs.Ytcnnaciilphadaa.XR
