-- Printed by a program of this session (wip/tools/mkprint.py) out of the translation.
import Derived.Test.YtflceedohhhdiaaXM0
import Derived.Test.YtflceedohhhdiaaXM1
namespace Go.Proofs.Ytflceedohhhdiaa.XM
open Go.RowKit Go.Proofs.Ytflceedohhhdiaa.Given Go.Proofs.YtflceedohhhdiaaW.PrintWords Go.Proofs.YtflceedohhhdiaaW.PrintLast Go.Proofs.YtflceedohhhdiaaW.PrintMore
attribute [local go_sem] max2_int min2_int max_two min_two max_three min_three max_four min_four   -- for this text's walks alone
set_option linter.unusedVariables false
set_option linter.unusedSimpArgs false

/-! ### modular_Inv: function 40 -/
def modular_Inv.l0 : Nat → Int → Int → Int → Int → Int → Option (Int × Bool)
  | 0, _, _, _, _, _ => none
  | k + 1, x1, x6, x7, x8, x9 => if x7 > 0 then (if x7 = 0 then (none) else ((modular_Mul.f k (IntKind.u64.wrap (Int.tdiv x6 x7)) x9 x1).bind fun t112 => ((modular_Sub.f k x8 t112 x1).bind fun t113 => (modular_Inv.l0 k x1 x7 (IntKind.u64.wrap (x6 - (IntKind.u64.wrap ((IntKind.u64.wrap (Int.tdiv x6 x7)) * x7)))) x9 t113)))) else (if x6 = 1 then (some (x8, true)) else (some (0, false)))
def modular_Inv.f (k : Nat) (a0 : Int) (a1 : Int) : Option (Int × Bool) := if a1 < 2 then (some (0, false)) else (if a1 = 0 then (none) else (modular_Inv.l0 k a1 a1 (Int.tmod a0 a1) 0 1))
theorem modular_Inv.mono_l : ∀ k, (∀ y0 y1 y2 y3 y4, LeO (modular_Inv.l0 k y0 y1 y2 y3 y4) (modular_Inv.l0 (k + 1) y0 y1 y2 y3 y4))
  | 0 => fun _ _ _ _ _ r h => by simp [modular_Inv.l0] at h
  | k + 1 => by
    have ih0 := modular_Inv.mono_l k
    · intro y0 y1 y2 y3 y4
      unfold modular_Inv.l0
      repeat' first
      | (with_reducible exact ih0 _ _ _ _ _)
      | (with_reducible exact modular_Mul.mono _ _ _ _)
      | (with_reducible exact modular_Sub.mono _ _ _ _)
      | (with_reducible exact LeO.refl _)
      | (with_reducible exact LeO.none _)
      | (with_reducible refine LeO.ite ?_ ?_)
      | (with_reducible refine LeO.bind ?_ (fun _ => ?_))
      | exact ih0 _ _ _ _ _
      | exact modular_Mul.mono _ _ _ _
      | exact modular_Sub.mono _ _ _ _
      | exact LeO.none _
      | refine LeO.ite ?_ ?_
      | refine LeO.bind ?_ (fun _ => ?_)
theorem modular_Inv.mono : ∀ a0 a1 k, LeO (modular_Inv.f k a0 a1) (modular_Inv.f (k + 1) a0 a1) := by
  intro a0 a1 k
  have ih0 := modular_Inv.mono_l k
  unfold modular_Inv.f
  repeat' first
      | (with_reducible exact ih0 _ _ _ _ _)
      | (with_reducible exact modular_Mul.mono _ _ _ _)
      | (with_reducible exact modular_Sub.mono _ _ _ _)
      | (with_reducible exact LeO.refl _)
      | (with_reducible exact LeO.none _)
      | (with_reducible refine LeO.ite ?_ ?_)
      | (with_reducible refine LeO.bind ?_ (fun _ => ?_))
      | exact ih0 _ _ _ _ _
      | exact modular_Mul.mono _ _ _ _
      | exact modular_Sub.mono _ _ _ _
      | exact LeO.none _
      | refine LeO.ite ?_ ?_
      | refine LeO.bind ?_ (fun _ => ?_)
set_option maxHeartbeats 8000000 in
set_option maxRecDepth 100000 in
theorem modular_Inv.calls (k : Nat) (a0 : Int) (a1 : Int) (r1 : Int) (r2 : Bool) (w : World) (h : modular_Inv.f k a0 a1 = some (r1, r2)) :
    Calls Try.prog 40 #[.int .u64 a0, .int .u64 a1] w fun e w' => e = .returned (.tuple #[.int .u64 r1, .bool r2]) ∧ Drawn0 w w' := by
  have H : (if a1 < 2 then (some (0, false)) else (if a1 = 0 then (none) else (modular_Inv.l0 k a1 a1 (Int.tmod a0 a1) 0 1))) = some (r1, r2) := h
  clear h
  by_cases c3 : a1 < 2
  · rw [if_pos c3] at H
    have c3b0 : decide (a1 < 2) = true := decide_eq_true c3
    clear c3
    simp only [Option.some.injEq, Prod.mk.injEq] at H
    obtain ⟨rfl, rfl⟩ := H
    go_enter Try.func40, Try.ntmps40
    go_wp2
    repeat (go_quiet (fail); try go_wp2)
    go_ret2
    exact ⟨by first | rfl | (simp; done) | (simp [*]; done), by repeat (first | exact Drawn0.refl _ | apply Drawn0.step)⟩
  · rw [if_neg c3] at H
    have c3b0 : decide (a1 < 2) = false := decide_eq_false c3
    clear c3
    by_cases c4 : a1 = 0
    · rw [if_pos c4] at H
      exact absurd H (by simp)
    · rw [if_neg c4] at H
      have c4b0 : (a1 == 0) = false := beq_eq_false_iff_ne.mpr c4
      have c4b1 : (a1 != 0) = true := bne_iff_ne.mpr c4
      have H' := Aside0.mk H
      clear H
      go_enter Try.func40, Try.ntmps40
      go_wp2
      repeat (go_quiet (fail); try go_wp2)
      go_loopg [6, 7, 8, 9] k (fun kq v6 v7 v8 v9 w' => ∃ (x6_1 : Int) (x7_1 : Int) (x8_1 : Int) (x9_1 : Int), v6 = .int .u64 x6_1 ∧ v7 = .int .u64 x7_1 ∧ v8 = .int .u64 x8_1 ∧ v9 = .int .u64 x9_1 ∧ Aside0 (modular_Inv.l0 kq a1 x6_1 x7_1 x8_1 x9_1 = some (r1, r2)) ∧ Aside0 (kq ≤ k) ∧ Drawn0 w w')
      case atStart => exact ⟨(a1), (Int.tmod a0 a1), (0), (1), (by first | rfl | (simp; done) | (simp [*]; done)), (by first | rfl | (simp; done) | (simp [*]; done)), (by first | rfl | (simp; done) | (simp [*]; done)), (by first | rfl | (simp; done) | (simp [*]; done)), H', ⟨Nat.le_refl _⟩, by repeat (first | exact Drawn0.refl _ | apply Drawn0.step)⟩
      case round =>
        clear H'
        try clear p2
        try clear c3
        try clear c3b0
        try clear c4
        try clear c4b0
        try clear c4b1
        obtain ⟨x6_1, x7_1, x8_1, x9_1, rfl, rfl, rfl, rfl, HA, HK1, ⟨m1, rfl⟩⟩ := hrel
        cases gk with
        | zero => exact absurd HA.out (by simp [modular_Inv.l0])
        | succ k1 =>
          have H := HA.out
          clear HA
          simp only [modular_Inv.l0] at H
          by_cases c5 : x7_1 > 0
          · rw [if_pos c5] at H
            have c5b0 : decide (0 < x7_1) = true := decide_eq_true c5
            clear c5
            by_cases c6 : x7_1 = 0
            · rw [if_pos c6] at H
              exact absurd H (by simp)
            · rw [if_neg c6] at H
              have c6b0 : (x7_1 == 0) = false := beq_eq_false_iff_ne.mpr c6
              have c6b1 : (x7_1 != 0) = true := bne_iff_ne.mpr c6
              replace H := Option.bind_eq_some_iff.mp H
              obtain ⟨t112, A70, H⟩ := H
              replace H : ((modular_Sub.f k1 x8_1 t112 a1).bind fun t113 => (modular_Inv.l0 k1 a1 x7_1 (IntKind.u64.wrap (x6_1 - (IntKind.u64.wrap ((IntKind.u64.wrap (Int.tdiv x6_1 x7_1)) * x7_1)))) x9_1 t113)) = some (r1, r2) := H
              have A7 := Aside0.mk A70
              clear A70
              replace H := Option.bind_eq_some_iff.mp H
              obtain ⟨t113, A80, H⟩ := H
              replace H : (modular_Inv.l0 k1 a1 x7_1 (IntKind.u64.wrap (x6_1 - (IntKind.u64.wrap ((IntKind.u64.wrap (Int.tdiv x6_1 x7_1)) * x7_1)))) x9_1 t113) = some (r1, r2) := H
              have A8 := Aside0.mk A80
              clear A80
              have H' := Aside0.mk H
              clear H
              go_wp2_with (first | (go_at_call 39; (with_reducible refine (modular_Mul.calls k1 (IntKind.u64.wrap (Int.tdiv x6_1 x7_1)) x9_1 a1 t112 _ A7.out).mono ?_); rintro e w' ⟨rfl, ⟨nd, rfl⟩⟩; (try first | exact ⟨rfl, _, World.drewN_drewN _ _ _⟩ | exact ⟨rfl, _, Eq.trans (World.drewN_drewN _ _ _) (congrArg (World.drewN _) (Nat.add_assoc _ _ _))⟩)) | (go_at_call 35; (with_reducible refine (modular_Sub.calls k1 x8_1 t112 a1 t113 _ A8.out).mono ?_); rintro e w' ⟨rfl, ⟨nd, rfl⟩⟩; (try first | exact ⟨rfl, _, World.drewN_drewN _ _ _⟩ | exact ⟨rfl, _, Eq.trans (World.drewN_drewN _ _ _) (congrArg (World.drewN _) (Nat.add_assoc _ _ _))⟩)))
              repeat (go_quiet (first | (go_at_call 39; (with_reducible refine (modular_Mul.calls k1 (IntKind.u64.wrap (Int.tdiv x6_1 x7_1)) x9_1 a1 t112 _ A7.out).mono ?_); rintro e w' ⟨rfl, ⟨nd, rfl⟩⟩; (try first | exact ⟨rfl, _, World.drewN_drewN _ _ _⟩ | exact ⟨rfl, _, Eq.trans (World.drewN_drewN _ _ _) (congrArg (World.drewN _) (Nat.add_assoc _ _ _))⟩)) | (go_at_call 35; (with_reducible refine (modular_Sub.calls k1 x8_1 t112 a1 t113 _ A8.out).mono ?_); rintro e w' ⟨rfl, ⟨nd, rfl⟩⟩; (try first | exact ⟨rfl, _, World.drewN_drewN _ _ _⟩ | exact ⟨rfl, _, Eq.trans (World.drewN_drewN _ _ _) (congrArg (World.drewN _) (Nat.add_assoc _ _ _))⟩))); try go_wp2_with (first | (go_at_call 39; (with_reducible refine (modular_Mul.calls k1 (IntKind.u64.wrap (Int.tdiv x6_1 x7_1)) x9_1 a1 t112 _ A7.out).mono ?_); rintro e w' ⟨rfl, ⟨nd, rfl⟩⟩; (try first | exact ⟨rfl, _, World.drewN_drewN _ _ _⟩ | exact ⟨rfl, _, Eq.trans (World.drewN_drewN _ _ _) (congrArg (World.drewN _) (Nat.add_assoc _ _ _))⟩)) | (go_at_call 35; (with_reducible refine (modular_Sub.calls k1 x8_1 t112 a1 t113 _ A8.out).mono ?_); rintro e w' ⟨rfl, ⟨nd, rfl⟩⟩; (try first | exact ⟨rfl, _, World.drewN_drewN _ _ _⟩ | exact ⟨rfl, _, Eq.trans (World.drewN_drewN _ _ _) (congrArg (World.drewN _) (Nat.add_assoc _ _ _))⟩))))
              go_roundg k1
              case measure => have := HK1.out; omega
              case rel => exact ⟨(x7_1), (IntKind.u64.wrap (x6_1 - (IntKind.u64.wrap ((IntKind.u64.wrap (Int.tdiv x6_1 x7_1)) * x7_1)))), (x9_1), (t113), (by first | rfl | (simp; done) | (simp [*]; done)), (by first | rfl | (simp; done) | (simp [*]; done)), (by first | rfl | (simp; done) | (simp [*]; done)), (by first | rfl | (simp; done) | (simp [*]; done)), H', ⟨by have := HK1.out; omega⟩, by repeat (first | exact Drawn0.refl _ | apply Drawn0.step)⟩
          · rw [if_neg c5] at H
            have c5b0 : decide (0 < x7_1) = false := decide_eq_false c5
            clear c5
            by_cases c9 : x6_1 = 1
            · rw [if_pos c9] at H
              have c9b0 : (x6_1 == 1) = true := beq_iff_eq.mpr c9
              have c9b1 : (x6_1 != 1) = false := bne_eq_false_iff_eq.mpr c9
              clear c9
              simp only [Option.some.injEq, Prod.mk.injEq] at H
              obtain ⟨rfl, rfl⟩ := H
              go_wp2
              repeat (go_quiet (fail); try go_wp2)
              go_ret2
              exact ⟨by first | rfl | (simp; done) | (simp [*]; done), by repeat (first | exact Drawn0.refl _ | apply Drawn0.step)⟩
            · rw [if_neg c9] at H
              have c9b0 : (x6_1 == 1) = false := beq_eq_false_iff_ne.mpr c9
              have c9b1 : (x6_1 != 1) = true := bne_iff_ne.mpr c9
              simp only [Option.some.injEq, Prod.mk.injEq] at H
              obtain ⟨rfl, rfl⟩ := H
              go_wp2
              repeat (go_quiet (fail); try go_wp2)
              go_ret2
              exact ⟨by first | rfl | (simp; done) | (simp [*]; done), by repeat (first | exact Drawn0.refl _ | apply Drawn0.step)⟩

/-! ### modular_Gcd: function 44 -/
def modular_Gcd.l0 : Nat → Int → Int → Option (Int)
  | 0, _, _ => none
  | k + 1, x0, x1 => if x1 > 0 then (if x1 = 0 then (none) else (modular_Gcd.l0 k x1 (Int.tmod x0 x1))) else (some x0)
def modular_Gcd.f (k : Nat) (a0 : Int) (a1 : Int) : Option (Int) := modular_Gcd.l0 k a0 a1
theorem modular_Gcd.mono_l : ∀ k, (∀ y0 y1, LeO (modular_Gcd.l0 k y0 y1) (modular_Gcd.l0 (k + 1) y0 y1))
  | 0 => fun _ _ r h => by simp [modular_Gcd.l0] at h
  | k + 1 => by
    have ih0 := modular_Gcd.mono_l k
    · intro y0 y1
      unfold modular_Gcd.l0
      repeat' first
      | (with_reducible exact ih0 _ _)
      | (with_reducible exact LeO.refl _)
      | (with_reducible exact LeO.none _)
      | (with_reducible refine LeO.ite ?_ ?_)
      | (with_reducible refine LeO.bind ?_ (fun _ => ?_))
      | exact ih0 _ _
      | exact LeO.none _
      | refine LeO.ite ?_ ?_
      | refine LeO.bind ?_ (fun _ => ?_)
theorem modular_Gcd.mono : ∀ a0 a1 k, LeO (modular_Gcd.f k a0 a1) (modular_Gcd.f (k + 1) a0 a1) := by
  intro a0 a1 k
  have ih0 := modular_Gcd.mono_l k
  unfold modular_Gcd.f
  repeat' first
      | (with_reducible exact ih0 _ _)
      | (with_reducible exact LeO.refl _)
      | (with_reducible exact LeO.none _)
      | (with_reducible refine LeO.ite ?_ ?_)
      | (with_reducible refine LeO.bind ?_ (fun _ => ?_))
      | exact ih0 _ _
      | exact LeO.none _
      | refine LeO.ite ?_ ?_
      | refine LeO.bind ?_ (fun _ => ?_)
set_option maxHeartbeats 8000000 in
set_option maxRecDepth 100000 in
theorem modular_Gcd.calls (k : Nat) (a0 : Int) (a1 : Int) (r : Int) (w : World) (h : modular_Gcd.f k a0 a1 = some r) :
    Calls Try.prog 44 #[.int .u64 a0, .int .u64 a1] w fun e w' => e = .returned (.int .u64 r) ∧ Drawn0 w w' := by
  have H : (modular_Gcd.l0 k a0 a1) = some r := h
  clear h
  have H' := Aside0.mk H
  clear H
  go_enter Try.func44, Try.ntmps44
  go_wp2
  repeat (go_quiet (fail); try go_wp2)
  go_loopg [0, 1] k (fun kq v0 v1 w' => ∃ (x0_1 : Int) (x1_1 : Int), v0 = .int .u64 x0_1 ∧ v1 = .int .u64 x1_1 ∧ Aside0 (modular_Gcd.l0 kq x0_1 x1_1 = some r) ∧ Aside0 (kq ≤ k) ∧ Drawn0 w w')
  case atStart => exact ⟨(a0), (a1), (by first | rfl | (simp; done) | (simp [*]; done)), (by first | rfl | (simp; done) | (simp [*]; done)), H', ⟨Nat.le_refl _⟩, by repeat (first | exact Drawn0.refl _ | apply Drawn0.step)⟩
  case round =>
    clear H'
    try clear p2
    obtain ⟨x0_1, x1_1, rfl, rfl, HA, HK1, ⟨m1, rfl⟩⟩ := hrel
    cases gk with
    | zero => exact absurd HA.out (by simp [modular_Gcd.l0])
    | succ k1 =>
      have H := HA.out
      clear HA
      simp only [modular_Gcd.l0] at H
      by_cases c3 : x1_1 > 0
      · rw [if_pos c3] at H
        have c3b0 : decide (0 < x1_1) = true := decide_eq_true c3
        clear c3
        by_cases c4 : x1_1 = 0
        · rw [if_pos c4] at H
          exact absurd H (by simp)
        · rw [if_neg c4] at H
          have c4b0 : (x1_1 == 0) = false := beq_eq_false_iff_ne.mpr c4
          have c4b1 : (x1_1 != 0) = true := bne_iff_ne.mpr c4
          have H' := Aside0.mk H
          clear H
          go_wp2
          repeat (go_quiet (fail); try go_wp2)
          go_roundg k1
          case measure => have := HK1.out; omega
          case rel => exact ⟨(x1_1), (Int.tmod x0_1 x1_1), (by first | rfl | (simp; done) | (simp [*]; done)), (by first | rfl | (simp; done) | (simp [*]; done)), H', ⟨by have := HK1.out; omega⟩, by repeat (first | exact Drawn0.refl _ | apply Drawn0.step)⟩
      · rw [if_neg c3] at H
        have c3b0 : decide (0 < x1_1) = false := decide_eq_false c3
        clear c3
        obtain rfl := Option.some.inj H
        go_wp2
        repeat (go_quiet (fail); try go_wp2)
        go_ret
        exact ⟨by first | rfl | (simp; done) | (simp [*]; done), by repeat (first | exact Drawn0.refl _ | apply Drawn0.step)⟩

/-! ### modular_Coprime: function 42 -/
def modular_Coprime.f (k : Nat) (a0 : Int) (a1 : Int) : Option (Bool) := (modular_Gcd.f k a0 a1).bind fun t114 => (some (t114 == 1))
theorem modular_Coprime.mono : ∀ a0 a1 k, LeO (modular_Coprime.f k a0 a1) (modular_Coprime.f (k + 1) a0 a1) := by
  intro a0 a1 k
  unfold modular_Coprime.f
  repeat' first
      | (with_reducible exact modular_Gcd.mono _ _ _)
      | (with_reducible exact LeO.refl _)
      | (with_reducible exact LeO.none _)
      | (with_reducible refine LeO.ite ?_ ?_)
      | (with_reducible refine LeO.bind ?_ (fun _ => ?_))
      | exact modular_Gcd.mono _ _ _
      | exact LeO.none _
      | refine LeO.ite ?_ ?_
      | refine LeO.bind ?_ (fun _ => ?_)
set_option maxHeartbeats 8000000 in
set_option maxRecDepth 100000 in
theorem modular_Coprime.calls (k : Nat) (a0 : Int) (a1 : Int) (r : Bool) (w : World) (h : modular_Coprime.f k a0 a1 = some r) :
    Calls Try.prog 42 #[.int .u64 a0, .int .u64 a1] w fun e w' => e = .returned (.bool r) ∧ Drawn0 w w' := by
  have H : ((modular_Gcd.f k a0 a1).bind fun t114 => (some (t114 == 1))) = some r := h
  clear h
  replace H := Option.bind_eq_some_iff.mp H
  obtain ⟨t114, A30, H⟩ := H
  replace H : (some (t114 == 1)) = some r := H
  have A3 := Aside0.mk A30
  clear A30
  obtain rfl := Option.some.inj H
  go_enter Try.func42, Try.ntmps42
  go_wp2_with (first | ((with_reducible refine gate_callee (f := 44) rfl ?_); refine goesL_ (some 7) rfl rfl Try.func44 (by kernel_rfl) rfl #[.int .u64 a0, .int .u64 a1] rfl (by (try simp only [List.map_toArray, List.map_cons, List.map_nil]); first | done | rfl | (simp only [List.length_drop, List.length_take]; rfl)) ?_; (with_reducible refine (modular_Gcd.calls k a0 a1 t114 _ A3.out).mono ?_); rintro e w' ⟨rfl, ⟨nd, rfl⟩⟩; refine ⟨_, rfl, ?_⟩))
  go_ret
  exact ⟨by first | rfl | (simp; done) | (simp [*]; done), by repeat (first | exact Drawn0.refl _ | apply Drawn0.step)⟩

/-! ### modular_Join: function 45 -/
mutual
def modular_Join.j0 : Nat → Int → Int → Int → Int → Int → Bool → Option (Int × Bool)
  | 0, _, _, _, _, _, _ => none
  | k + 1, x0, x1, x2, x3, x11, x31 => if x31 = true then (some (0, false)) else ((modular_Inv.f k x1 x3).bind fun bt118 => (if bt118.2 = true then (modular_Join.j1 k x0 x1 x2 x3 x11 bt118.1) else (modular_Join.j1 k x0 x1 x2 x3 x11 0)))
def modular_Join.j1 : Nat → Int → Int → Int → Int → Int → Int → Option (Int × Bool)
  | 0, _, _, _, _, _, _ => none
  | k + 1, x0, x1, x2, x3, x11, x12 => if x1 = 0 then (none) else (if x3 = 0 then (none) else ((modular_Sub.f k (Int.tmod x2 x3) (Int.tmod x0 x1) x3).bind fun t120 => ((modular_Mul.f k t120 x12 x3).bind fun t121 => ((modular_Mul.f k x1 t121 x11).bind fun t122 => ((modular_Add.f k (Int.tmod x0 x1) t122 x11).bind fun t123 => (some (t123, true)))))))
end
def modular_Join.f (k : Nat) (a0 : Int) (a1 : Int) (a2 : Int) (a3 : Int) : Option (Int × Bool) := (bits_Mul64.f a1 a3).bind fun bt115 => (if bt115.1 > 0 then (modular_Join.j0 k a0 a1 a2 a3 bt115.2 true) else (if bt115.2 = 0 then (modular_Join.j0 k a0 a1 a2 a3 bt115.2 true) else ((modular_Coprime.f k a1 a3).bind fun t117 => (modular_Join.j0 k a0 a1 a2 a3 bt115.2 (!t117)))))
theorem modular_Join.mono_l : ∀ k, (∀ y0 y1 y2 y3 y4 y5, LeO (modular_Join.j0 k y0 y1 y2 y3 y4 y5) (modular_Join.j0 (k + 1) y0 y1 y2 y3 y4 y5)) ∧ (∀ y0 y1 y2 y3 y4 y5, LeO (modular_Join.j1 k y0 y1 y2 y3 y4 y5) (modular_Join.j1 (k + 1) y0 y1 y2 y3 y4 y5))
  | 0 => ⟨fun _ _ _ _ _ _ r h => by simp [modular_Join.j0] at h, fun _ _ _ _ _ _ r h => by simp [modular_Join.j1] at h⟩
  | k + 1 => by
    obtain ⟨ih0, ih1⟩ := modular_Join.mono_l k
    refine ⟨?_, ?_⟩
    · intro y0 y1 y2 y3 y4 y5
      unfold modular_Join.j0
      repeat' first
      | (with_reducible exact ih0 _ _ _ _ _ _)
      | (with_reducible exact ih1 _ _ _ _ _ _)
      | (with_reducible exact modular_Add.mono _ _ _ _)
      | (with_reducible exact modular_Coprime.mono _ _ _)
      | (with_reducible exact modular_Inv.mono _ _ _)
      | (with_reducible exact modular_Mul.mono _ _ _ _)
      | (with_reducible exact modular_Sub.mono _ _ _ _)
      | (with_reducible exact LeO.refl _)
      | (with_reducible exact LeO.none _)
      | (with_reducible refine LeO.ite ?_ ?_)
      | (with_reducible refine LeO.bind ?_ (fun _ => ?_))
      | exact ih0 _ _ _ _ _ _
      | exact ih1 _ _ _ _ _ _
      | exact modular_Add.mono _ _ _ _
      | exact modular_Coprime.mono _ _ _
      | exact modular_Inv.mono _ _ _
      | exact modular_Mul.mono _ _ _ _
      | exact modular_Sub.mono _ _ _ _
      | exact LeO.none _
      | refine LeO.ite ?_ ?_
      | refine LeO.bind ?_ (fun _ => ?_)
    · intro y0 y1 y2 y3 y4 y5
      unfold modular_Join.j1
      repeat' first
      | (with_reducible exact ih0 _ _ _ _ _ _)
      | (with_reducible exact ih1 _ _ _ _ _ _)
      | (with_reducible exact modular_Add.mono _ _ _ _)
      | (with_reducible exact modular_Coprime.mono _ _ _)
      | (with_reducible exact modular_Inv.mono _ _ _)
      | (with_reducible exact modular_Mul.mono _ _ _ _)
      | (with_reducible exact modular_Sub.mono _ _ _ _)
      | (with_reducible exact LeO.refl _)
      | (with_reducible exact LeO.none _)
      | (with_reducible refine LeO.ite ?_ ?_)
      | (with_reducible refine LeO.bind ?_ (fun _ => ?_))
      | exact ih0 _ _ _ _ _ _
      | exact ih1 _ _ _ _ _ _
      | exact modular_Add.mono _ _ _ _
      | exact modular_Coprime.mono _ _ _
      | exact modular_Inv.mono _ _ _
      | exact modular_Mul.mono _ _ _ _
      | exact modular_Sub.mono _ _ _ _
      | exact LeO.none _
      | refine LeO.ite ?_ ?_
      | refine LeO.bind ?_ (fun _ => ?_)
theorem modular_Join.mono : ∀ a0 a1 a2 a3 k, LeO (modular_Join.f k a0 a1 a2 a3) (modular_Join.f (k + 1) a0 a1 a2 a3) := by
  intro a0 a1 a2 a3 k
  obtain ⟨ih0, ih1⟩ := modular_Join.mono_l k
  unfold modular_Join.f
  repeat' first
      | (with_reducible exact ih0 _ _ _ _ _ _)
      | (with_reducible exact ih1 _ _ _ _ _ _)
      | (with_reducible exact modular_Add.mono _ _ _ _)
      | (with_reducible exact modular_Coprime.mono _ _ _)
      | (with_reducible exact modular_Inv.mono _ _ _)
      | (with_reducible exact modular_Mul.mono _ _ _ _)
      | (with_reducible exact modular_Sub.mono _ _ _ _)
      | (with_reducible exact LeO.refl _)
      | (with_reducible exact LeO.none _)
      | (with_reducible refine LeO.ite ?_ ?_)
      | (with_reducible refine LeO.bind ?_ (fun _ => ?_))
      | exact ih0 _ _ _ _ _ _
      | exact ih1 _ _ _ _ _ _
      | exact modular_Add.mono _ _ _ _
      | exact modular_Coprime.mono _ _ _
      | exact modular_Inv.mono _ _ _
      | exact modular_Mul.mono _ _ _ _
      | exact modular_Sub.mono _ _ _ _
      | exact LeO.none _
      | refine LeO.ite ?_ ?_
      | refine LeO.bind ?_ (fun _ => ?_)
set_option maxHeartbeats 8000000 in
set_option maxRecDepth 100000 in
theorem modular_Join.calls (k : Nat) (a0 : Int) (a1 : Int) (a2 : Int) (a3 : Int) (r1 : Int) (r2 : Bool) (w : World) (h : modular_Join.f k a0 a1 a2 a3 = some (r1, r2)) :
    Calls Try.prog 45 #[.int .u64 a0, .int .u64 a1, .int .u64 a2, .int .u64 a3] w fun e w' => e = .returned (.tuple #[.int .u64 r1, .bool r2]) ∧ Drawn0 w w' := by
  have H : ((bits_Mul64.f a1 a3).bind fun bt115 => (if bt115.1 > 0 then (modular_Join.j0 k a0 a1 a2 a3 bt115.2 true) else (if bt115.2 = 0 then (modular_Join.j0 k a0 a1 a2 a3 bt115.2 true) else ((modular_Coprime.f k a1 a3).bind fun t117 => (modular_Join.j0 k a0 a1 a2 a3 bt115.2 (!t117)))))) = some (r1, r2) := h
  clear h
  replace H := Option.bind_eq_some_iff.mp H
  obtain ⟨⟨t115, t116⟩, A50, H⟩ := H
  replace H : (if t115 > 0 then (modular_Join.j0 k a0 a1 a2 a3 t116 true) else (if t116 = 0 then (modular_Join.j0 k a0 a1 a2 a3 t116 true) else ((modular_Coprime.f k a1 a3).bind fun t117 => (modular_Join.j0 k a0 a1 a2 a3 t116 (!t117))))) = some (r1, r2) := H
  have A5 := Aside0.mk A50
  clear A50
  have HC6 := Aside0.mk H
  clear H
  go_enter Try.func45, Try.ntmps45
  go_upto_region 2 with (first | (go_at_call 56; (with_reducible refine (bits_Mul64.calls a1 a3 t115 t116 _ A5.out).mono ?_); rintro e w' ⟨rfl, ⟨nd, rfl⟩⟩; (try first | exact ⟨rfl, _, World.drewN_drewN _ _ _⟩ | exact ⟨rfl, _, Eq.trans (World.drewN_drewN _ _ _) (congrArg (World.drewN _) (Nat.add_assoc _ _ _))⟩)))
  repeat (go_quiet (first | (go_at_call 56; (with_reducible refine (bits_Mul64.calls a1 a3 t115 t116 _ A5.out).mono ?_); rintro e w' ⟨rfl, ⟨nd, rfl⟩⟩; (try first | exact ⟨rfl, _, World.drewN_drewN _ _ _⟩ | exact ⟨rfl, _, Eq.trans (World.drewN_drewN _ _ _) (congrArg (World.drewN _) (Nat.add_assoc _ _ _))⟩))); go_upto_region 2 with (first | (go_at_call 56; (with_reducible refine (bits_Mul64.calls a1 a3 t115 t116 _ A5.out).mono ?_); rintro e w' ⟨rfl, ⟨nd, rfl⟩⟩; (try first | exact ⟨rfl, _, World.drewN_drewN _ _ _⟩ | exact ⟨rfl, _, Eq.trans (World.drewN_drewN _ _ _) (congrArg (World.drewN _) (Nat.add_assoc _ _ _))⟩))))
  (try simp only [Act.put, List.setIfInBounds_toArray, List.set_cons_zero, List.set_cons_succ])
  go_cut [31] (fun v31 wc => ∃ (kq : Nat) (x31_5 : Bool), v31 = .bool x31_5 ∧ Aside0 (modular_Join.j0 kq a0 a1 a2 a3 t116 x31_5 = some (r1, r2)) ∧ Aside0 (kq ≤ k) ∧ Drawn0 w wc)
  case first =>
    have H := HC6.out
    clear HC6
    by_cases c7 : t115 > 0
    · rw [if_pos c7] at H
      have c7b0 : decide (0 < t115) = true := decide_eq_true c7
      clear c7
      (first | rw [c7b0] | (simp only [i64_w, i32_w]; rw [c7b0]) | skip)
      have H' := Aside0.mk H
      clear H
      go_wp2
      repeat (go_quiet (fail); try go_wp2)
      go_meet
      case rel => exact ⟨_, (true), (by first | rfl | (simp; done) | (simp [*]; done)), H', ⟨by first | omega | exact Nat.le_refl _⟩, by repeat (first | exact Drawn0.refl _ | apply Drawn0.step)⟩
    · rw [if_neg c7] at H
      have c7b0 : decide (0 < t115) = false := decide_eq_false c7
      clear c7
      (first | rw [c7b0] | (simp only [i64_w, i32_w]; rw [c7b0]) | skip)
      by_cases c8 : t116 = 0
      · rw [if_pos c8] at H
        have c8b0 : (t116 == 0) = true := beq_iff_eq.mpr c8
        have c8b1 : (t116 != 0) = false := bne_eq_false_iff_eq.mpr c8
        clear c8
        have H' := Aside0.mk H
        clear H
        go_wp2
        repeat (go_quiet (fail); try go_wp2)
        go_meet
        case rel => exact ⟨_, (true), (by first | rfl | (simp; done) | (simp [*]; done)), H', ⟨by first | omega | exact Nat.le_refl _⟩, by repeat (first | exact Drawn0.refl _ | apply Drawn0.step)⟩
      · rw [if_neg c8] at H
        have c8b0 : (t116 == 0) = false := beq_eq_false_iff_ne.mpr c8
        have c8b1 : (t116 != 0) = true := bne_iff_ne.mpr c8
        replace H := Option.bind_eq_some_iff.mp H
        obtain ⟨t117, A90, H⟩ := H
        replace H : (modular_Join.j0 k a0 a1 a2 a3 t116 (!t117)) = some (r1, r2) := H
        have A9 := Aside0.mk A90
        clear A90
        have H' := Aside0.mk H
        clear H
        go_wp2_with (first | (go_at_call 42; (with_reducible refine (modular_Coprime.calls k a1 a3 t117 _ A9.out).mono ?_); rintro e w' ⟨rfl, ⟨nd, rfl⟩⟩; (try first | exact ⟨rfl, _, World.drewN_drewN _ _ _⟩ | exact ⟨rfl, _, Eq.trans (World.drewN_drewN _ _ _) (congrArg (World.drewN _) (Nat.add_assoc _ _ _))⟩)))
        repeat (go_quiet (first | (go_at_call 42; (with_reducible refine (modular_Coprime.calls k a1 a3 t117 _ A9.out).mono ?_); rintro e w' ⟨rfl, ⟨nd, rfl⟩⟩; (try first | exact ⟨rfl, _, World.drewN_drewN _ _ _⟩ | exact ⟨rfl, _, Eq.trans (World.drewN_drewN _ _ _) (congrArg (World.drewN _) (Nat.add_assoc _ _ _))⟩))); try go_wp2_with (first | (go_at_call 42; (with_reducible refine (modular_Coprime.calls k a1 a3 t117 _ A9.out).mono ?_); rintro e w' ⟨rfl, ⟨nd, rfl⟩⟩; (try first | exact ⟨rfl, _, World.drewN_drewN _ _ _⟩ | exact ⟨rfl, _, Eq.trans (World.drewN_drewN _ _ _) (congrArg (World.drewN _) (Nat.add_assoc _ _ _))⟩))))
        go_meet
        case rel => exact ⟨_, (!t117), (by first | rfl | (simp; done) | (simp [*]; done)), H', ⟨by first | omega | exact Nat.le_refl _⟩, by repeat (first | exact Drawn0.refl _ | apply Drawn0.step)⟩
  case rest =>
    clear HC6
    try clear p2
    try clear c4
    try clear c7
    try clear c7b0
    try clear c8
    try clear c8b0
    try clear c8b1
    obtain ⟨kq, x31_5, rfl, HA, HJ5, ⟨mc5, rfl⟩⟩ := hcut
    cases kq with
    | zero => exact absurd HA.out (by simp [modular_Join.j0])
    | succ kj5 =>
      have H := HA.out
      clear HA
      simp only [modular_Join.j0] at H
      by_cases c10 : x31_5 = true
      · subst c10
        have H1 : (some (0, false)) = some (r1, r2) := by rw [if_pos rfl] at H <;> exact H
        clear H
        have H := H1
        clear H1
        simp only [Option.some.injEq, Prod.mk.injEq] at H
        obtain ⟨rfl, rfl⟩ := H
        go_wp2
        repeat (go_quiet (fail); try go_wp2)
        go_ret2
        exact ⟨by first | rfl | (simp; done) | (simp [*]; done), by repeat (first | exact Drawn0.refl _ | apply Drawn0.step)⟩
      · replace c10 := Bool.eq_false_iff.mpr c10
        subst c10
        have H1 : ((modular_Inv.f kj5 a1 a3).bind fun bt118 => (if bt118.2 = true then (modular_Join.j1 kj5 a0 a1 a2 a3 t116 bt118.1) else (modular_Join.j1 kj5 a0 a1 a2 a3 t116 0))) = some (r1, r2) := by rw [if_neg (show ¬ (false = true) by decide)] at H <;> exact H
        clear H
        have H := H1
        clear H1
        replace H := Option.bind_eq_some_iff.mp H
        obtain ⟨⟨t118, t119⟩, A110, H⟩ := H
        replace H : (if t119 = true then (modular_Join.j1 kj5 a0 a1 a2 a3 t116 t118) else (modular_Join.j1 kj5 a0 a1 a2 a3 t116 0)) = some (r1, r2) := H
        have A11 := Aside0.mk A110
        clear A110
        have HC12 := Aside0.mk H
        clear H
        go_upto_if 39 with (first | (go_at_call 40; (with_reducible refine (modular_Inv.calls kj5 a1 a3 t118 t119 _ A11.out).mono ?_); rintro e w' ⟨rfl, ⟨nd, rfl⟩⟩; (try first | exact ⟨rfl, _, World.drewN_drewN _ _ _⟩ | exact ⟨rfl, _, Eq.trans (World.drewN_drewN _ _ _) (congrArg (World.drewN _) (Nat.add_assoc _ _ _))⟩)))
        repeat (go_quiet (first | (go_at_call 40; (with_reducible refine (modular_Inv.calls kj5 a1 a3 t118 t119 _ A11.out).mono ?_); rintro e w' ⟨rfl, ⟨nd, rfl⟩⟩; (try first | exact ⟨rfl, _, World.drewN_drewN _ _ _⟩ | exact ⟨rfl, _, Eq.trans (World.drewN_drewN _ _ _) (congrArg (World.drewN _) (Nat.add_assoc _ _ _))⟩))); go_upto_if 39 with (first | (go_at_call 40; (with_reducible refine (modular_Inv.calls kj5 a1 a3 t118 t119 _ A11.out).mono ?_); rintro e w' ⟨rfl, ⟨nd, rfl⟩⟩; (try first | exact ⟨rfl, _, World.drewN_drewN _ _ _⟩ | exact ⟨rfl, _, Eq.trans (World.drewN_drewN _ _ _) (congrArg (World.drewN _) (Nat.add_assoc _ _ _))⟩))))
        (try simp only [Act.put, List.setIfInBounds_toArray, List.set_cons_zero, List.set_cons_succ])
        go_cut [12] (fun v12 wc => ∃ (kq : Nat) (x12_11 : Int), v12 = .int .u64 x12_11 ∧ Aside0 (modular_Join.j1 kq a0 a1 a2 a3 t116 x12_11 = some (r1, r2)) ∧ Aside0 (kq ≤ kj5) ∧ Drawn0 w wc)
        case first =>
          have H := HC12.out
          clear HC12
          by_cases c13 : t119 = true
          · subst c13
            have H1 : (modular_Join.j1 kj5 a0 a1 a2 a3 t116 t118) = some (r1, r2) := by rw [if_pos rfl] at H <;> exact H
            clear H
            have H := H1
            clear H1
            have H' := Aside0.mk H
            clear H
            go_wp2
            repeat (go_quiet (fail); try go_wp2)
            go_meet
            case rel => exact ⟨_, (t118), (by first | rfl | (simp; done) | (simp [*]; done)), H', ⟨by have := HJ5.out; first | omega | exact Nat.le_refl _⟩, by repeat (first | exact Drawn0.refl _ | apply Drawn0.step)⟩
          · replace c13 := Bool.eq_false_iff.mpr c13
            subst c13
            have H1 : (modular_Join.j1 kj5 a0 a1 a2 a3 t116 0) = some (r1, r2) := by rw [if_neg (show ¬ (false = true) by decide)] at H <;> exact H
            clear H
            have H := H1
            clear H1
            have H' := Aside0.mk H
            clear H
            go_wp2
            repeat (go_quiet (fail); try go_wp2)
            go_meet
            case rel => exact ⟨_, (0), (by first | rfl | (simp; done) | (simp [*]; done)), H', ⟨by have := HJ5.out; first | omega | exact Nat.le_refl _⟩, by repeat (first | exact Drawn0.refl _ | apply Drawn0.step)⟩
        case rest =>
          clear HC12
          try clear c1
          try clear p2
          try clear c4
          try clear c5
          try clear c7
          try clear c7b0
          try clear c8
          try clear c8b0
          try clear c8b1
          try clear c10
          try clear c13
          try clear p2
          obtain ⟨kq, x12_11, rfl, HA, HJ11, ⟨mc11, rfl⟩⟩ := hcut
          cases kq with
          | zero => exact absurd HA.out (by simp [modular_Join.j1])
          | succ kj11 =>
            have H := HA.out
            clear HA
            simp only [modular_Join.j1] at H
            by_cases c14 : a1 = 0
            · rw [if_pos c14] at H
              exact absurd H (by simp)
            · rw [if_neg c14] at H
              have c14b0 : (a1 == 0) = false := beq_eq_false_iff_ne.mpr c14
              have c14b1 : (a1 != 0) = true := bne_iff_ne.mpr c14
              by_cases c15 : a3 = 0
              · rw [if_pos c15] at H
                exact absurd H (by simp)
              · rw [if_neg c15] at H
                have c15b0 : (a3 == 0) = false := beq_eq_false_iff_ne.mpr c15
                have c15b1 : (a3 != 0) = true := bne_iff_ne.mpr c15
                replace H := Option.bind_eq_some_iff.mp H
                obtain ⟨t120, A160, H⟩ := H
                replace H : ((modular_Mul.f kj11 t120 x12_11 a3).bind fun t121 => ((modular_Mul.f kj11 a1 t121 t116).bind fun t122 => ((modular_Add.f kj11 (Int.tmod a0 a1) t122 t116).bind fun t123 => (some (t123, true))))) = some (r1, r2) := H
                have A16 := Aside0.mk A160
                clear A160
                replace H := Option.bind_eq_some_iff.mp H
                obtain ⟨t121, A170, H⟩ := H
                replace H : ((modular_Mul.f kj11 a1 t121 t116).bind fun t122 => ((modular_Add.f kj11 (Int.tmod a0 a1) t122 t116).bind fun t123 => (some (t123, true)))) = some (r1, r2) := H
                have A17 := Aside0.mk A170
                clear A170
                replace H := Option.bind_eq_some_iff.mp H
                obtain ⟨t122, A180, H⟩ := H
                replace H : ((modular_Add.f kj11 (Int.tmod a0 a1) t122 t116).bind fun t123 => (some (t123, true))) = some (r1, r2) := H
                have A18 := Aside0.mk A180
                clear A180
                replace H := Option.bind_eq_some_iff.mp H
                obtain ⟨t123, A190, H⟩ := H
                replace H : (some (t123, true)) = some (r1, r2) := H
                have A19 := Aside0.mk A190
                clear A190
                simp only [Option.some.injEq, Prod.mk.injEq] at H
                obtain ⟨rfl, rfl⟩ := H
                go_wp2_with (first | (go_at_call 35; (with_reducible refine (modular_Sub.calls kj11 (Int.tmod a2 a3) (Int.tmod a0 a1) a3 t120 _ A16.out).mono ?_); rintro e w' ⟨rfl, ⟨nd, rfl⟩⟩; (try first | exact ⟨rfl, _, World.drewN_drewN _ _ _⟩ | exact ⟨rfl, _, Eq.trans (World.drewN_drewN _ _ _) (congrArg (World.drewN _) (Nat.add_assoc _ _ _))⟩)) | (go_at_call 39; (with_reducible refine (modular_Mul.calls kj11 t120 x12_11 a3 t121 _ A17.out).mono ?_); rintro e w' ⟨rfl, ⟨nd, rfl⟩⟩; (try first | exact ⟨rfl, _, World.drewN_drewN _ _ _⟩ | exact ⟨rfl, _, Eq.trans (World.drewN_drewN _ _ _) (congrArg (World.drewN _) (Nat.add_assoc _ _ _))⟩)) | (go_at_call 39; (with_reducible refine (modular_Mul.calls kj11 a1 t121 t116 t122 _ A18.out).mono ?_); rintro e w' ⟨rfl, ⟨nd, rfl⟩⟩; (try first | exact ⟨rfl, _, World.drewN_drewN _ _ _⟩ | exact ⟨rfl, _, Eq.trans (World.drewN_drewN _ _ _) (congrArg (World.drewN _) (Nat.add_assoc _ _ _))⟩)) | (go_at_call 34; (with_reducible refine (modular_Add.calls kj11 (Int.tmod a0 a1) t122 t116 t123 _ A19.out).mono ?_); rintro e w' ⟨rfl, ⟨nd, rfl⟩⟩; (try first | exact ⟨rfl, _, World.drewN_drewN _ _ _⟩ | exact ⟨rfl, _, Eq.trans (World.drewN_drewN _ _ _) (congrArg (World.drewN _) (Nat.add_assoc _ _ _))⟩)))
                repeat (go_quiet (first | (go_at_call 35; (with_reducible refine (modular_Sub.calls kj11 (Int.tmod a2 a3) (Int.tmod a0 a1) a3 t120 _ A16.out).mono ?_); rintro e w' ⟨rfl, ⟨nd, rfl⟩⟩; (try first | exact ⟨rfl, _, World.drewN_drewN _ _ _⟩ | exact ⟨rfl, _, Eq.trans (World.drewN_drewN _ _ _) (congrArg (World.drewN _) (Nat.add_assoc _ _ _))⟩)) | (go_at_call 39; (with_reducible refine (modular_Mul.calls kj11 t120 x12_11 a3 t121 _ A17.out).mono ?_); rintro e w' ⟨rfl, ⟨nd, rfl⟩⟩; (try first | exact ⟨rfl, _, World.drewN_drewN _ _ _⟩ | exact ⟨rfl, _, Eq.trans (World.drewN_drewN _ _ _) (congrArg (World.drewN _) (Nat.add_assoc _ _ _))⟩)) | (go_at_call 39; (with_reducible refine (modular_Mul.calls kj11 a1 t121 t116 t122 _ A18.out).mono ?_); rintro e w' ⟨rfl, ⟨nd, rfl⟩⟩; (try first | exact ⟨rfl, _, World.drewN_drewN _ _ _⟩ | exact ⟨rfl, _, Eq.trans (World.drewN_drewN _ _ _) (congrArg (World.drewN _) (Nat.add_assoc _ _ _))⟩)) | (go_at_call 34; (with_reducible refine (modular_Add.calls kj11 (Int.tmod a0 a1) t122 t116 t123 _ A19.out).mono ?_); rintro e w' ⟨rfl, ⟨nd, rfl⟩⟩; (try first | exact ⟨rfl, _, World.drewN_drewN _ _ _⟩ | exact ⟨rfl, _, Eq.trans (World.drewN_drewN _ _ _) (congrArg (World.drewN _) (Nat.add_assoc _ _ _))⟩))); try go_wp2_with (first | (go_at_call 35; (with_reducible refine (modular_Sub.calls kj11 (Int.tmod a2 a3) (Int.tmod a0 a1) a3 t120 _ A16.out).mono ?_); rintro e w' ⟨rfl, ⟨nd, rfl⟩⟩; (try first | exact ⟨rfl, _, World.drewN_drewN _ _ _⟩ | exact ⟨rfl, _, Eq.trans (World.drewN_drewN _ _ _) (congrArg (World.drewN _) (Nat.add_assoc _ _ _))⟩)) | (go_at_call 39; (with_reducible refine (modular_Mul.calls kj11 t120 x12_11 a3 t121 _ A17.out).mono ?_); rintro e w' ⟨rfl, ⟨nd, rfl⟩⟩; (try first | exact ⟨rfl, _, World.drewN_drewN _ _ _⟩ | exact ⟨rfl, _, Eq.trans (World.drewN_drewN _ _ _) (congrArg (World.drewN _) (Nat.add_assoc _ _ _))⟩)) | (go_at_call 39; (with_reducible refine (modular_Mul.calls kj11 a1 t121 t116 t122 _ A18.out).mono ?_); rintro e w' ⟨rfl, ⟨nd, rfl⟩⟩; (try first | exact ⟨rfl, _, World.drewN_drewN _ _ _⟩ | exact ⟨rfl, _, Eq.trans (World.drewN_drewN _ _ _) (congrArg (World.drewN _) (Nat.add_assoc _ _ _))⟩)) | (go_at_call 34; (with_reducible refine (modular_Add.calls kj11 (Int.tmod a0 a1) t122 t116 t123 _ A19.out).mono ?_); rintro e w' ⟨rfl, ⟨nd, rfl⟩⟩; (try first | exact ⟨rfl, _, World.drewN_drewN _ _ _⟩ | exact ⟨rfl, _, Eq.trans (World.drewN_drewN _ _ _) (congrArg (World.drewN _) (Nat.add_assoc _ _ _))⟩))))
                go_ret2
                exact ⟨by first | rfl | (simp; done) | (simp [*]; done), by repeat (first | exact Drawn0.refl _ | apply Drawn0.step)⟩

/-! ### epicyclelaw02_alive: function 33 -/
def epicyclelaw02_alive.f (k : Nat)  : Option (Bool) := (modular_Inv.f k 3 7).bind fun bt124 => ((modular_Join.f k 2 3 3 5).bind fun bt126 => (if bt124.1 = 5 then (if bt124.2 = true then (if bt126.1 = 8 then (if bt126.2 = true then ((modular_Add.f k 6 6 7).bind fun t128 => (some (t128 == 5))) else (some false)) else (some false)) else (some false)) else (some false)))
theorem epicyclelaw02_alive.mono : ∀ k, LeO (epicyclelaw02_alive.f k ) (epicyclelaw02_alive.f (k + 1) ) := by
  intro  k
  unfold epicyclelaw02_alive.f
  repeat' first
      | (with_reducible exact modular_Add.mono _ _ _ _)
      | (with_reducible exact modular_Inv.mono _ _ _)
      | (with_reducible exact modular_Join.mono _ _ _ _ _)
      | (with_reducible exact LeO.refl _)
      | (with_reducible exact LeO.none _)
      | (with_reducible refine LeO.ite ?_ ?_)
      | (with_reducible refine LeO.bind ?_ (fun _ => ?_))
      | exact modular_Add.mono _ _ _ _
      | exact modular_Inv.mono _ _ _
      | exact modular_Join.mono _ _ _ _ _
      | exact LeO.none _
      | refine LeO.ite ?_ ?_
      | refine LeO.bind ?_ (fun _ => ?_)
set_option maxHeartbeats 8000000 in
set_option maxRecDepth 100000 in
theorem epicyclelaw02_alive.calls (k : Nat)  (r : Bool) (w : World) (h : epicyclelaw02_alive.f k  = some r) :
    Calls Try.prog 33 #[] w fun e w' => e = .returned (.bool r) ∧ Drawn0 w w' := by
  have H : ((modular_Inv.f k 3 7).bind fun bt124 => ((modular_Join.f k 2 3 3 5).bind fun bt126 => (if bt124.1 = 5 then (if bt124.2 = true then (if bt126.1 = 8 then (if bt126.2 = true then ((modular_Add.f k 6 6 7).bind fun t128 => (some (t128 == 5))) else (some false)) else (some false)) else (some false)) else (some false)))) = some r := h
  clear h
  replace H := Option.bind_eq_some_iff.mp H
  obtain ⟨⟨t124, t125⟩, A10, H⟩ := H
  replace H : ((modular_Join.f k 2 3 3 5).bind fun bt126 => (if t124 = 5 then (if t125 = true then (if bt126.1 = 8 then (if bt126.2 = true then ((modular_Add.f k 6 6 7).bind fun t128 => (some (t128 == 5))) else (some false)) else (some false)) else (some false)) else (some false))) = some r := H
  have A1 := Aside0.mk A10
  clear A10
  replace H := Option.bind_eq_some_iff.mp H
  obtain ⟨⟨t126, t127⟩, A20, H⟩ := H
  replace H : (if t124 = 5 then (if t125 = true then (if t126 = 8 then (if t127 = true then ((modular_Add.f k 6 6 7).bind fun t128 => (some (t128 == 5))) else (some false)) else (some false)) else (some false)) else (some false)) = some r := H
  have A2 := Aside0.mk A20
  clear A20
  by_cases c3 : t124 = 5
  · rw [if_pos c3] at H
    have c3b0 : (t124 == 5) = true := beq_iff_eq.mpr c3
    have c3b1 : (t124 != 5) = false := bne_eq_false_iff_eq.mpr c3
    clear c3
    by_cases c4 : t125 = true
    · subst c4
      have H1 : (if t126 = 8 then (if t127 = true then ((modular_Add.f k 6 6 7).bind fun t128 => (some (t128 == 5))) else (some false)) else (some false)) = some r := by rw [if_pos rfl] at H <;> exact H
      clear H
      have H := H1
      clear H1
      by_cases c5 : t126 = 8
      · rw [if_pos c5] at H
        have c5b0 : (t126 == 8) = true := beq_iff_eq.mpr c5
        have c5b1 : (t126 != 8) = false := bne_eq_false_iff_eq.mpr c5
        clear c5
        by_cases c6 : t127 = true
        · subst c6
          have H1 : ((modular_Add.f k 6 6 7).bind fun t128 => (some (t128 == 5))) = some r := by rw [if_pos rfl] at H <;> exact H
          clear H
          have H := H1
          clear H1
          replace H := Option.bind_eq_some_iff.mp H
          obtain ⟨t128, A70, H⟩ := H
          replace H : (some (t128 == 5)) = some r := H
          have A7 := Aside0.mk A70
          clear A70
          obtain rfl := Option.some.inj H
          go_enter Try.func33, Try.ntmps33
          go_wp2_with (first | ((with_reducible refine gate_callee (f := 40) rfl ?_); refine goesL_ (some 6) rfl rfl Try.func40 (by kernel_rfl) rfl #[.int .u64 3, .int .u64 7] rfl (by (try simp only [List.map_toArray, List.map_cons, List.map_nil]); first | done | rfl | (simp only [List.length_drop, List.length_take]; rfl)) ?_; (with_reducible refine (modular_Inv.calls k 3 7 t124 true _ A1.out).mono ?_); rintro e w' ⟨rfl, ⟨nd, rfl⟩⟩; refine ⟨_, rfl, ?_⟩) | ((with_reducible refine gate_callee (f := 45) rfl ?_); refine goesL_ (some 10) rfl rfl Try.func45 (by kernel_rfl) rfl #[.int .u64 2, .int .u64 3, .int .u64 3, .int .u64 5] rfl (by (try simp only [List.map_toArray, List.map_cons, List.map_nil]); first | done | rfl | (simp only [List.length_drop, List.length_take]; rfl)) ?_; (with_reducible refine (modular_Join.calls k 2 3 3 5 t126 true _ A2.out).mono ?_); rintro e w' ⟨rfl, ⟨nd, rfl⟩⟩; refine ⟨_, rfl, ?_⟩) | (go_at_call 34; (with_reducible refine (modular_Add.calls k 6 6 7 t128 _ A7.out).mono ?_); rintro e w' ⟨rfl, ⟨nd, rfl⟩⟩))
          go_ret
          exact ⟨by first | rfl | (simp; done) | (simp [*]; done), by repeat (first | exact Drawn0.refl _ | apply Drawn0.step)⟩
        · replace c6 := Bool.eq_false_iff.mpr c6
          subst c6
          have H1 : (some false) = some r := by rw [if_neg (show ¬ (false = true) by decide)] at H <;> exact H
          clear H
          have H := H1
          clear H1
          obtain rfl := Option.some.inj H
          go_enter Try.func33, Try.ntmps33
          go_wp2_with (first | ((with_reducible refine gate_callee (f := 40) rfl ?_); refine goesL_ (some 6) rfl rfl Try.func40 (by kernel_rfl) rfl #[.int .u64 3, .int .u64 7] rfl (by (try simp only [List.map_toArray, List.map_cons, List.map_nil]); first | done | rfl | (simp only [List.length_drop, List.length_take]; rfl)) ?_; (with_reducible refine (modular_Inv.calls k 3 7 t124 true _ A1.out).mono ?_); rintro e w' ⟨rfl, ⟨nd, rfl⟩⟩; refine ⟨_, rfl, ?_⟩) | ((with_reducible refine gate_callee (f := 45) rfl ?_); refine goesL_ (some 10) rfl rfl Try.func45 (by kernel_rfl) rfl #[.int .u64 2, .int .u64 3, .int .u64 3, .int .u64 5] rfl (by (try simp only [List.map_toArray, List.map_cons, List.map_nil]); first | done | rfl | (simp only [List.length_drop, List.length_take]; rfl)) ?_; (with_reducible refine (modular_Join.calls k 2 3 3 5 t126 false _ A2.out).mono ?_); rintro e w' ⟨rfl, ⟨nd, rfl⟩⟩; refine ⟨_, rfl, ?_⟩))
          go_ret
          exact ⟨by first | rfl | (simp; done) | (simp [*]; done), by repeat (first | exact Drawn0.refl _ | apply Drawn0.step)⟩
      · rw [if_neg c5] at H
        have c5b0 : (t126 == 8) = false := beq_eq_false_iff_ne.mpr c5
        have c5b1 : (t126 != 8) = true := bne_iff_ne.mpr c5
        obtain rfl := Option.some.inj H
        go_enter Try.func33, Try.ntmps33
        go_wp2_with (first | ((with_reducible refine gate_callee (f := 40) rfl ?_); refine goesL_ (some 6) rfl rfl Try.func40 (by kernel_rfl) rfl #[.int .u64 3, .int .u64 7] rfl (by (try simp only [List.map_toArray, List.map_cons, List.map_nil]); first | done | rfl | (simp only [List.length_drop, List.length_take]; rfl)) ?_; (with_reducible refine (modular_Inv.calls k 3 7 t124 true _ A1.out).mono ?_); rintro e w' ⟨rfl, ⟨nd, rfl⟩⟩; refine ⟨_, rfl, ?_⟩) | ((with_reducible refine gate_callee (f := 45) rfl ?_); refine goesL_ (some 10) rfl rfl Try.func45 (by kernel_rfl) rfl #[.int .u64 2, .int .u64 3, .int .u64 3, .int .u64 5] rfl (by (try simp only [List.map_toArray, List.map_cons, List.map_nil]); first | done | rfl | (simp only [List.length_drop, List.length_take]; rfl)) ?_; (with_reducible refine (modular_Join.calls k 2 3 3 5 t126 t127 _ A2.out).mono ?_); rintro e w' ⟨rfl, ⟨nd, rfl⟩⟩; refine ⟨_, rfl, ?_⟩))
        go_ret
        exact ⟨by first | rfl | (simp; done) | (simp [*]; done), by repeat (first | exact Drawn0.refl _ | apply Drawn0.step)⟩
    · replace c4 := Bool.eq_false_iff.mpr c4
      subst c4
      have H1 : (some false) = some r := by rw [if_neg (show ¬ (false = true) by decide)] at H <;> exact H
      clear H
      have H := H1
      clear H1
      obtain rfl := Option.some.inj H
      go_enter Try.func33, Try.ntmps33
      go_wp2_with (first | ((with_reducible refine gate_callee (f := 40) rfl ?_); refine goesL_ (some 6) rfl rfl Try.func40 (by kernel_rfl) rfl #[.int .u64 3, .int .u64 7] rfl (by (try simp only [List.map_toArray, List.map_cons, List.map_nil]); first | done | rfl | (simp only [List.length_drop, List.length_take]; rfl)) ?_; (with_reducible refine (modular_Inv.calls k 3 7 t124 false _ A1.out).mono ?_); rintro e w' ⟨rfl, ⟨nd, rfl⟩⟩; refine ⟨_, rfl, ?_⟩) | ((with_reducible refine gate_callee (f := 45) rfl ?_); refine goesL_ (some 10) rfl rfl Try.func45 (by kernel_rfl) rfl #[.int .u64 2, .int .u64 3, .int .u64 3, .int .u64 5] rfl (by (try simp only [List.map_toArray, List.map_cons, List.map_nil]); first | done | rfl | (simp only [List.length_drop, List.length_take]; rfl)) ?_; (with_reducible refine (modular_Join.calls k 2 3 3 5 t126 t127 _ A2.out).mono ?_); rintro e w' ⟨rfl, ⟨nd, rfl⟩⟩; refine ⟨_, rfl, ?_⟩))
      go_ret
      exact ⟨by first | rfl | (simp; done) | (simp [*]; done), by repeat (first | exact Drawn0.refl _ | apply Drawn0.step)⟩
  · rw [if_neg c3] at H
    have c3b0 : (t124 == 5) = false := beq_eq_false_iff_ne.mpr c3
    have c3b1 : (t124 != 5) = true := bne_iff_ne.mpr c3
    obtain rfl := Option.some.inj H
    go_enter Try.func33, Try.ntmps33
    go_wp2_with (first | ((with_reducible refine gate_callee (f := 40) rfl ?_); refine goesL_ (some 6) rfl rfl Try.func40 (by kernel_rfl) rfl #[.int .u64 3, .int .u64 7] rfl (by (try simp only [List.map_toArray, List.map_cons, List.map_nil]); first | done | rfl | (simp only [List.length_drop, List.length_take]; rfl)) ?_; (with_reducible refine (modular_Inv.calls k 3 7 t124 t125 _ A1.out).mono ?_); rintro e w' ⟨rfl, ⟨nd, rfl⟩⟩; refine ⟨_, rfl, ?_⟩) | ((with_reducible refine gate_callee (f := 45) rfl ?_); refine goesL_ (some 10) rfl rfl Try.func45 (by kernel_rfl) rfl #[.int .u64 2, .int .u64 3, .int .u64 3, .int .u64 5] rfl (by (try simp only [List.map_toArray, List.map_cons, List.map_nil]); first | done | rfl | (simp only [List.length_drop, List.length_take]; rfl)) ?_; (with_reducible refine (modular_Join.calls k 2 3 3 5 t126 t127 _ A2.out).mono ?_); rintro e w' ⟨rfl, ⟨nd, rfl⟩⟩; refine ⟨_, rfl, ?_⟩))
    go_ret
    exact ⟨by first | rfl | (simp; done) | (simp [*]; done), by repeat (first | exact Drawn0.refl _ | apply Drawn0.step)⟩

/-! ### epicycleref02_Add: function 37 -/
def epicycleref02_Add.f (a0 : Int) (a1 : Int) (a2 : Int) : Option (Int) := if a2 = 0 then (none) else (if (Int.tmod a0 a2) ≥ (IntKind.u64.wrap (a2 - (Int.tmod a1 a2))) then (some (IntKind.u64.wrap ((Int.tmod a0 a2) - (IntKind.u64.wrap (a2 - (Int.tmod a1 a2)))))) else (some (IntKind.u64.wrap ((Int.tmod a0 a2) + (Int.tmod a1 a2)))))
set_option maxHeartbeats 8000000 in
set_option maxRecDepth 100000 in
theorem epicycleref02_Add.calls (a0 : Int) (a1 : Int) (a2 : Int) (r : Int) (w : World) (h : epicycleref02_Add.f a0 a1 a2 = some r) :
    Calls Try.prog 37 #[.int .u64 a0, .int .u64 a1, .int .u64 a2] w fun e w' => e = .returned (.int .u64 r) ∧ Drawn0 w w' := by
  have H : (if a2 = 0 then (none) else (if (Int.tmod a0 a2) ≥ (IntKind.u64.wrap (a2 - (Int.tmod a1 a2))) then (some (IntKind.u64.wrap ((Int.tmod a0 a2) - (IntKind.u64.wrap (a2 - (Int.tmod a1 a2)))))) else (some (IntKind.u64.wrap ((Int.tmod a0 a2) + (Int.tmod a1 a2)))))) = some r := h
  clear h
  by_cases c4 : a2 = 0
  · rw [if_pos c4] at H
    exact absurd H (by simp)
  · rw [if_neg c4] at H
    have c4b0 : (a2 == 0) = false := beq_eq_false_iff_ne.mpr c4
    have c4b1 : (a2 != 0) = true := bne_iff_ne.mpr c4
    by_cases c5 : (Int.tmod a0 a2) ≥ (IntKind.u64.wrap (a2 - (Int.tmod a1 a2)))
    · rw [if_pos c5] at H
      have c5b0 : decide ((IntKind.u64.wrap (a2 - (Int.tmod a1 a2))) ≤ (Int.tmod a0 a2)) = true := decide_eq_true c5
      clear c5
      obtain rfl := Option.some.inj H
      go_enter Try.func37, Try.ntmps37
      go_wp2
      go_ret
      exact ⟨by first | rfl | (simp; done) | (simp [*]; done), by repeat (first | exact Drawn0.refl _ | apply Drawn0.step)⟩
    · rw [if_neg c5] at H
      have c5b0 : decide ((IntKind.u64.wrap (a2 - (Int.tmod a1 a2))) ≤ (Int.tmod a0 a2)) = false := decide_eq_false c5
      clear c5
      obtain rfl := Option.some.inj H
      go_enter Try.func37, Try.ntmps37
      go_wp2
      go_ret
      exact ⟨by first | rfl | (simp; done) | (simp [*]; done), by repeat (first | exact Drawn0.refl _ | apply Drawn0.step)⟩

/-! ### epicycleref02_Neg: function 38 -/
def epicycleref02_Neg.f (a0 : Int) (a1 : Int) : Option (Int) := if a1 = 0 then (none) else (if (Int.tmod a0 a1) = 0 then (some 0) else (some (IntKind.u64.wrap (a1 - (Int.tmod a0 a1)))))
set_option maxHeartbeats 8000000 in
set_option maxRecDepth 100000 in
theorem epicycleref02_Neg.calls (a0 : Int) (a1 : Int) (r : Int) (w : World) (h : epicycleref02_Neg.f a0 a1 = some r) :
    Calls Try.prog 38 #[.int .u64 a0, .int .u64 a1] w fun e w' => e = .returned (.int .u64 r) ∧ Drawn0 w w' := by
  have H : (if a1 = 0 then (none) else (if (Int.tmod a0 a1) = 0 then (some 0) else (some (IntKind.u64.wrap (a1 - (Int.tmod a0 a1)))))) = some r := h
  clear h
  by_cases c3 : a1 = 0
  · rw [if_pos c3] at H
    exact absurd H (by simp)
  · rw [if_neg c3] at H
    have c3b0 : (a1 == 0) = false := beq_eq_false_iff_ne.mpr c3
    have c3b1 : (a1 != 0) = true := bne_iff_ne.mpr c3
    by_cases c4 : (Int.tmod a0 a1) = 0
    · rw [if_pos c4] at H
      have c4b0 : ((Int.tmod a0 a1) == 0) = true := beq_iff_eq.mpr c4
      have c4b1 : ((Int.tmod a0 a1) != 0) = false := bne_eq_false_iff_eq.mpr c4
      clear c4
      obtain rfl := Option.some.inj H
      go_enter Try.func38, Try.ntmps38
      go_wp2
      go_ret
      exact ⟨by first | rfl | (simp; done) | (simp [*]; done), by repeat (first | exact Drawn0.refl _ | apply Drawn0.step)⟩
    · rw [if_neg c4] at H
      have c4b0 : ((Int.tmod a0 a1) == 0) = false := beq_eq_false_iff_ne.mpr c4
      have c4b1 : ((Int.tmod a0 a1) != 0) = true := bne_iff_ne.mpr c4
      obtain rfl := Option.some.inj H
      go_enter Try.func38, Try.ntmps38
      go_wp2
      go_ret
      exact ⟨by first | rfl | (simp; done) | (simp [*]; done), by repeat (first | exact Drawn0.refl _ | apply Drawn0.step)⟩

/-! ### epicyclelaw02_ModularSums: function 8 -/
def epicyclelaw02_ModularSums.f (k : Nat) (a0 : Int) (a1 : Int) (a2 : Int) : Option (Bool) := (epicyclelaw02_alive.f k).bind fun t129 => (if t129 = true then (if a2 = 0 then ((modular_Add.f k a0 a1 a2).bind fun t130 => (if t130 = 0 then ((modular_Sub.f k a0 a1 a2).bind fun t131 => (if t131 = 0 then ((modular_Neg.f a0 a2).bind fun t132 => (some (t132 == 0))) else (some false))) else (some false))) else ((modular_Add.f k a0 a1 a2).bind fun t133 => ((epicycleref02_Add.f a0 a1 a2).bind fun t134 => (if t133 = t134 then ((modular_Neg.f a0 a2).bind fun t135 => ((epicycleref02_Neg.f a0 a2).bind fun t136 => (if t135 = t136 then ((modular_Sub.f k a0 a1 a2).bind fun t137 => ((epicycleref02_Neg.f a1 a2).bind fun t138 => ((epicycleref02_Add.f a0 t138 a2).bind fun t139 => (some (t137 == t139))))) else (some false)))) else (some false))))) else (some false))
theorem epicyclelaw02_ModularSums.mono : ∀ a0 a1 a2 k, LeO (epicyclelaw02_ModularSums.f k a0 a1 a2) (epicyclelaw02_ModularSums.f (k + 1) a0 a1 a2) := by
  intro a0 a1 a2 k
  unfold epicyclelaw02_ModularSums.f
  repeat' first
      | (with_reducible exact epicyclelaw02_alive.mono _)
      | (with_reducible exact modular_Add.mono _ _ _ _)
      | (with_reducible exact modular_Sub.mono _ _ _ _)
      | (with_reducible exact LeO.refl _)
      | (with_reducible exact LeO.none _)
      | (with_reducible refine LeO.ite ?_ ?_)
      | (with_reducible refine LeO.bind ?_ (fun _ => ?_))
      | exact epicyclelaw02_alive.mono _
      | exact modular_Add.mono _ _ _ _
      | exact modular_Sub.mono _ _ _ _
      | exact LeO.none _
      | refine LeO.ite ?_ ?_
      | refine LeO.bind ?_ (fun _ => ?_)
set_option maxHeartbeats 8000000 in
set_option maxRecDepth 100000 in
theorem epicyclelaw02_ModularSums.calls (k : Nat) (a0 : Int) (a1 : Int) (a2 : Int) (w : World) (h : epicyclelaw02_ModularSums.f k a0 a1 a2 = some true) :
    Calls Try.prog 8 #[.int .u64 a0, .int .u64 a1, .int .u64 a2] w fun e w' => e = .returned (.bool true) ∧ Drawn0 w w' := by
  have H : ((epicyclelaw02_alive.f k).bind fun t129 => (if t129 = true then (if a2 = 0 then ((modular_Add.f k a0 a1 a2).bind fun t130 => (if t130 = 0 then ((modular_Sub.f k a0 a1 a2).bind fun t131 => (if t131 = 0 then ((modular_Neg.f a0 a2).bind fun t132 => (some (t132 == 0))) else (some false))) else (some false))) else ((modular_Add.f k a0 a1 a2).bind fun t133 => ((epicycleref02_Add.f a0 a1 a2).bind fun t134 => (if t133 = t134 then ((modular_Neg.f a0 a2).bind fun t135 => ((epicycleref02_Neg.f a0 a2).bind fun t136 => (if t135 = t136 then ((modular_Sub.f k a0 a1 a2).bind fun t137 => ((epicycleref02_Neg.f a1 a2).bind fun t138 => ((epicycleref02_Add.f a0 t138 a2).bind fun t139 => (some (t137 == t139))))) else (some false)))) else (some false))))) else (some false))) = some true := h
  clear h
  replace H := Option.bind_eq_some_iff.mp H
  obtain ⟨t129, A40, H⟩ := H
  replace H : (if t129 = true then (if a2 = 0 then ((modular_Add.f k a0 a1 a2).bind fun t130 => (if t130 = 0 then ((modular_Sub.f k a0 a1 a2).bind fun t131 => (if t131 = 0 then ((modular_Neg.f a0 a2).bind fun t132 => (some (t132 == 0))) else (some false))) else (some false))) else ((modular_Add.f k a0 a1 a2).bind fun t133 => ((epicycleref02_Add.f a0 a1 a2).bind fun t134 => (if t133 = t134 then ((modular_Neg.f a0 a2).bind fun t135 => ((epicycleref02_Neg.f a0 a2).bind fun t136 => (if t135 = t136 then ((modular_Sub.f k a0 a1 a2).bind fun t137 => ((epicycleref02_Neg.f a1 a2).bind fun t138 => ((epicycleref02_Add.f a0 t138 a2).bind fun t139 => (some (t137 == t139))))) else (some false)))) else (some false))))) else (some false)) = some true := H
  have A4 := Aside0.mk A40
  clear A40
  by_cases c5 : t129 = true
  · subst c5
    have H1 : (if a2 = 0 then ((modular_Add.f k a0 a1 a2).bind fun t130 => (if t130 = 0 then ((modular_Sub.f k a0 a1 a2).bind fun t131 => (if t131 = 0 then ((modular_Neg.f a0 a2).bind fun t132 => (some (t132 == 0))) else (some false))) else (some false))) else ((modular_Add.f k a0 a1 a2).bind fun t133 => ((epicycleref02_Add.f a0 a1 a2).bind fun t134 => (if t133 = t134 then ((modular_Neg.f a0 a2).bind fun t135 => ((epicycleref02_Neg.f a0 a2).bind fun t136 => (if t135 = t136 then ((modular_Sub.f k a0 a1 a2).bind fun t137 => ((epicycleref02_Neg.f a1 a2).bind fun t138 => ((epicycleref02_Add.f a0 t138 a2).bind fun t139 => (some (t137 == t139))))) else (some false)))) else (some false))))) = some true := by rw [if_pos rfl] at H <;> exact H
    clear H
    have H := H1
    clear H1
    by_cases c6 : a2 = 0
    · rw [if_pos c6] at H
      have c6b0 : (a2 == 0) = true := beq_iff_eq.mpr c6
      have c6b1 : (a2 != 0) = false := bne_eq_false_iff_eq.mpr c6
      clear c6
      replace H := Option.bind_eq_some_iff.mp H
      obtain ⟨t130, A70, H⟩ := H
      replace H : (if t130 = 0 then ((modular_Sub.f k a0 a1 a2).bind fun t131 => (if t131 = 0 then ((modular_Neg.f a0 a2).bind fun t132 => (some (t132 == 0))) else (some false))) else (some false)) = some true := H
      have A7 := Aside0.mk A70
      clear A70
      by_cases c8 : t130 = 0
      · rw [if_pos c8] at H
        have c8b0 : (t130 == 0) = true := beq_iff_eq.mpr c8
        have c8b1 : (t130 != 0) = false := bne_eq_false_iff_eq.mpr c8
        clear c8
        replace H := Option.bind_eq_some_iff.mp H
        obtain ⟨t131, A90, H⟩ := H
        replace H : (if t131 = 0 then ((modular_Neg.f a0 a2).bind fun t132 => (some (t132 == 0))) else (some false)) = some true := H
        have A9 := Aside0.mk A90
        clear A90
        by_cases c10 : t131 = 0
        · rw [if_pos c10] at H
          have c10b0 : (t131 == 0) = true := beq_iff_eq.mpr c10
          have c10b1 : (t131 != 0) = false := bne_eq_false_iff_eq.mpr c10
          clear c10
          replace H := Option.bind_eq_some_iff.mp H
          obtain ⟨t132, A110, H⟩ := H
          replace H : (some (t132 == 0)) = some true := H
          have A11 := Aside0.mk A110
          clear A110
          have hR_ := Option.some.inj H
          go_enter Try.func8, Try.ntmps8
          go_wp2_with (first | ((with_reducible refine gate_callee (f := 33) rfl ?_); refine goesL_ (some 7) rfl rfl Try.func33 (by kernel_rfl) rfl #[] rfl (by (try simp only [List.map_toArray, List.map_cons, List.map_nil]); first | done | rfl | (simp only [List.length_drop, List.length_take]; rfl)) ?_; (with_reducible refine (epicyclelaw02_alive.calls k  true _ A4.out).mono ?_); rintro e w' ⟨rfl, ⟨nd, rfl⟩⟩; refine ⟨_, rfl, ?_⟩) | ((with_reducible refine gate_callee (f := 34) rfl ?_); refine goesL_ (some 14) rfl rfl Try.func34 (by kernel_rfl) rfl #[.int .u64 a0, .int .u64 a1, .int .u64 a2] rfl (by (try simp only [List.map_toArray, List.map_cons, List.map_nil]); first | done | rfl | (simp only [List.length_drop, List.length_take]; rfl)) ?_; (with_reducible refine (modular_Add.calls k a0 a1 a2 t130 _ A7.out).mono ?_); rintro e w' ⟨rfl, ⟨nd, rfl⟩⟩; refine ⟨_, rfl, ?_⟩) | (go_at_call 35; (with_reducible refine (modular_Sub.calls k a0 a1 a2 t131 _ A9.out).mono ?_); rintro e w' ⟨rfl, ⟨nd, rfl⟩⟩) | (go_at_call 36; (with_reducible refine (modular_Neg.calls a0 a2 t132 _ A11.out).mono ?_); rintro e w' ⟨rfl, ⟨nd, rfl⟩⟩))
          go_ret
          exact ⟨by first | rfl | (simp; done) | (simp [*]; done), by repeat (first | exact Drawn0.refl _ | apply Drawn0.step)⟩
        · rw [if_neg c10] at H
          have c10b0 : (t131 == 0) = false := beq_eq_false_iff_ne.mpr c10
          have c10b1 : (t131 != 0) = true := bne_iff_ne.mpr c10
          exact absurd H (by simp)
      · rw [if_neg c8] at H
        have c8b0 : (t130 == 0) = false := beq_eq_false_iff_ne.mpr c8
        have c8b1 : (t130 != 0) = true := bne_iff_ne.mpr c8
        exact absurd H (by simp)
    · rw [if_neg c6] at H
      have c6b0 : (a2 == 0) = false := beq_eq_false_iff_ne.mpr c6
      have c6b1 : (a2 != 0) = true := bne_iff_ne.mpr c6
      replace H := Option.bind_eq_some_iff.mp H
      obtain ⟨t133, A120, H⟩ := H
      replace H : ((epicycleref02_Add.f a0 a1 a2).bind fun t134 => (if t133 = t134 then ((modular_Neg.f a0 a2).bind fun t135 => ((epicycleref02_Neg.f a0 a2).bind fun t136 => (if t135 = t136 then ((modular_Sub.f k a0 a1 a2).bind fun t137 => ((epicycleref02_Neg.f a1 a2).bind fun t138 => ((epicycleref02_Add.f a0 t138 a2).bind fun t139 => (some (t137 == t139))))) else (some false)))) else (some false))) = some true := H
      have A12 := Aside0.mk A120
      clear A120
      replace H := Option.bind_eq_some_iff.mp H
      obtain ⟨t134, A130, H⟩ := H
      replace H : (if t133 = t134 then ((modular_Neg.f a0 a2).bind fun t135 => ((epicycleref02_Neg.f a0 a2).bind fun t136 => (if t135 = t136 then ((modular_Sub.f k a0 a1 a2).bind fun t137 => ((epicycleref02_Neg.f a1 a2).bind fun t138 => ((epicycleref02_Add.f a0 t138 a2).bind fun t139 => (some (t137 == t139))))) else (some false)))) else (some false)) = some true := H
      have A13 := Aside0.mk A130
      clear A130
      by_cases c14 : t133 = t134
      · rw [if_pos c14] at H
        have c14b0 : (t133 == t134) = true := beq_iff_eq.mpr c14
        have c14b1 : (t133 != t134) = false := bne_eq_false_iff_eq.mpr c14
        clear c14
        replace H := Option.bind_eq_some_iff.mp H
        obtain ⟨t135, A150, H⟩ := H
        replace H : ((epicycleref02_Neg.f a0 a2).bind fun t136 => (if t135 = t136 then ((modular_Sub.f k a0 a1 a2).bind fun t137 => ((epicycleref02_Neg.f a1 a2).bind fun t138 => ((epicycleref02_Add.f a0 t138 a2).bind fun t139 => (some (t137 == t139))))) else (some false))) = some true := H
        have A15 := Aside0.mk A150
        clear A150
        replace H := Option.bind_eq_some_iff.mp H
        obtain ⟨t136, A160, H⟩ := H
        replace H : (if t135 = t136 then ((modular_Sub.f k a0 a1 a2).bind fun t137 => ((epicycleref02_Neg.f a1 a2).bind fun t138 => ((epicycleref02_Add.f a0 t138 a2).bind fun t139 => (some (t137 == t139))))) else (some false)) = some true := H
        have A16 := Aside0.mk A160
        clear A160
        by_cases c17 : t135 = t136
        · rw [if_pos c17] at H
          have c17b0 : (t135 == t136) = true := beq_iff_eq.mpr c17
          have c17b1 : (t135 != t136) = false := bne_eq_false_iff_eq.mpr c17
          clear c17
          replace H := Option.bind_eq_some_iff.mp H
          obtain ⟨t137, A180, H⟩ := H
          replace H : ((epicycleref02_Neg.f a1 a2).bind fun t138 => ((epicycleref02_Add.f a0 t138 a2).bind fun t139 => (some (t137 == t139)))) = some true := H
          have A18 := Aside0.mk A180
          clear A180
          replace H := Option.bind_eq_some_iff.mp H
          obtain ⟨t138, A190, H⟩ := H
          replace H : ((epicycleref02_Add.f a0 t138 a2).bind fun t139 => (some (t137 == t139))) = some true := H
          have A19 := Aside0.mk A190
          clear A190
          replace H := Option.bind_eq_some_iff.mp H
          obtain ⟨t139, A200, H⟩ := H
          replace H : (some (t137 == t139)) = some true := H
          have A20 := Aside0.mk A200
          clear A200
          have hR_ := Option.some.inj H
          go_enter Try.func8, Try.ntmps8
          go_wp2_with (first | ((with_reducible refine gate_callee (f := 33) rfl ?_); refine goesL_ (some 7) rfl rfl Try.func33 (by kernel_rfl) rfl #[] rfl (by (try simp only [List.map_toArray, List.map_cons, List.map_nil]); first | done | rfl | (simp only [List.length_drop, List.length_take]; rfl)) ?_; (with_reducible refine (epicyclelaw02_alive.calls k  true _ A4.out).mono ?_); rintro e w' ⟨rfl, ⟨nd, rfl⟩⟩; refine ⟨_, rfl, ?_⟩) | ((with_reducible refine gate_callee (f := 34) rfl ?_); refine goesL_ (some 32) rfl rfl Try.func34 (by kernel_rfl) rfl #[.int .u64 a0, .int .u64 a1, .int .u64 a2] rfl (by (try simp only [List.map_toArray, List.map_cons, List.map_nil]); first | done | rfl | (simp only [List.length_drop, List.length_take]; rfl)) ?_; (with_reducible refine (modular_Add.calls k a0 a1 a2 t133 _ A12.out).mono ?_); rintro e w' ⟨rfl, ⟨nd, rfl⟩⟩; refine ⟨_, rfl, ?_⟩) | ((with_reducible refine gate_callee (f := 37) rfl ?_); refine goesL_ (some 36) rfl rfl Try.func37 (by kernel_rfl) rfl #[.int .u64 a0, .int .u64 a1, .int .u64 a2] rfl (by (try simp only [List.map_toArray, List.map_cons, List.map_nil]); first | done | rfl | (simp only [List.length_drop, List.length_take]; rfl)) ?_; (with_reducible refine (epicycleref02_Add.calls a0 a1 a2 t134 _ A13.out).mono ?_); rintro e w' ⟨rfl, ⟨nd, rfl⟩⟩; refine ⟨_, rfl, ?_⟩) | (go_at_call 36; (with_reducible refine (modular_Neg.calls a0 a2 t135 _ A15.out).mono ?_); rintro e w' ⟨rfl, ⟨nd, rfl⟩⟩) | (go_at_call 38; (with_reducible refine (epicycleref02_Neg.calls a0 a2 t136 _ A16.out).mono ?_); rintro e w' ⟨rfl, ⟨nd, rfl⟩⟩) | (go_at_call 35; (with_reducible refine (modular_Sub.calls k a0 a1 a2 t137 _ A18.out).mono ?_); rintro e w' ⟨rfl, ⟨nd, rfl⟩⟩) | (go_at_call 38; (with_reducible refine (epicycleref02_Neg.calls a1 a2 t138 _ A19.out).mono ?_); rintro e w' ⟨rfl, ⟨nd, rfl⟩⟩) | (go_at_call 37; (with_reducible refine (epicycleref02_Add.calls a0 t138 a2 t139 _ A20.out).mono ?_); rintro e w' ⟨rfl, ⟨nd, rfl⟩⟩))
          go_ret
          exact ⟨by first | rfl | (simp; done) | (simp [*]; done), by repeat (first | exact Drawn0.refl _ | apply Drawn0.step)⟩
        · rw [if_neg c17] at H
          have c17b0 : (t135 == t136) = false := beq_eq_false_iff_ne.mpr c17
          have c17b1 : (t135 != t136) = true := bne_iff_ne.mpr c17
          exact absurd H (by simp)
      · rw [if_neg c14] at H
        have c14b0 : (t133 == t134) = false := beq_eq_false_iff_ne.mpr c14
        have c14b1 : (t133 != t134) = true := bne_iff_ne.mpr c14
        exact absurd H (by simp)
  · replace c5 := Bool.eq_false_iff.mpr c5
    subst c5
    have H1 : (some false) = some true := by rw [if_neg (show ¬ (false = true) by decide)] at H <;> exact H
    clear H
    have H := H1
    clear H1
    exact absurd H (by simp)

/-- THE ONE PURE STATEMENT of epicyclelaw02_ModularSums: yours. -/
def epicyclelaw02_ModularSums.Pure : Prop := ∀ (a0 : Int) (a1 : Int) (a2 : Int), (Lit.int .u64 a0).wf = true → (Lit.int .u64 a1).wf = true → (Lit.int .u64 a2).wf = true → ∃ k, epicyclelaw02_ModularSums.f k a0 a1 a2 = some true
theorem epicyclelaw02_ModularSums.walk (P : epicyclelaw02_ModularSums.Pure) (a0 : Int) (a1 : Int) (a2 : Int) (w : World) (w0 : (Lit.int .u64 a0).wf = true) (w1 : (Lit.int .u64 a1).wf = true) (w2 : (Lit.int .u64 a2).wf = true) :
    Calls Try.prog 8 #[.int .u64 a0, .int .u64 a1, .int .u64 a2] w fun e w' => e = .returned (.bool true) ∧ Below w.heap.size w w' := by
  obtain ⟨k, h⟩ := P a0 a1 a2 w0 w1 w2
  refine (epicyclelaw02_ModularSums.calls k a0 a1 a2 w h).mono ?_
  rintro e w' ⟨rfl, hd⟩
  exact ⟨rfl, hd.below⟩

end Go.Proofs.Ytflceedohhhdiaa.XM
