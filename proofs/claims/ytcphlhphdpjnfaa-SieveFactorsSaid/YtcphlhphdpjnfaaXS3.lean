-- Printed by a program of this session (wip/tools/mkprint.py) out of the translation.
import Derived.Test.YtcphlhphdpjnfaaXS0
import Derived.Test.YtcphlhphdpjnfaaXS2b
import Derived.Test.YtcphlhphdpjnfaaGiven
import Derived.Test.YtcphlhphdpjnfaaGiven05b
namespace Go.Proofs.Ytcphlhphdpjnfaa.XS
open Go.RowKit Go.Proofs.Ytcphlhphdpjnfaa.Given Go.Proofs.Ytcphlhphdpjnfaa.Given05 Go.Proofs.YtcphlhphdpjnfaaW.PrintWords Go.Proofs.YtcphlhphdpjnfaaW.PrintLast Go.Proofs.YtcphlhphdpjnfaaW.PrintMore
attribute [local go_sem] max2_int min2_int max_two min_two max_three min_three max_four min_four   -- for this text's walks alone
set_option linter.unusedVariables false
set_option linter.unusedSimpArgs false

/-! ### epicycleref05_Prime: function 10 -/
mutual
def epicycleref05_Prime.j0 : Nat → Int → Bool → Option (Bool)
  | 0, _, _ => none
  | k + 1, x0, x9 => if x9 = true then (some false) else (epicycleref05_Prime.l0 k x0 2)
def epicycleref05_Prime.l0 : Nat → Int → Int → Option (Bool)
  | 0, _, _ => none
  | k + 1, x0, x3 => if (IntKind.u64.wrap (x3 * x3)) ≤ x0 then (if x3 = 0 then (none) else (if (Int.tmod x0 x3) = 0 then (some false) else (epicycleref05_Prime.l0 k x0 (IntKind.u64.wrap (x3 + 1))))) else (some true)
end
def epicycleref05_Prime.f (k : Nat) (a0 : Int) : Option (Bool) := if a0 < 2 then (epicycleref05_Prime.j0 k a0 true) else (epicycleref05_Prime.j0 k a0 (decide (a0 > 4294967296)))
theorem epicycleref05_Prime.mono_l : ∀ k, (∀ y0 y1, LeO (epicycleref05_Prime.j0 k y0 y1) (epicycleref05_Prime.j0 (k + 1) y0 y1)) ∧ (∀ y0 y1, LeO (epicycleref05_Prime.l0 k y0 y1) (epicycleref05_Prime.l0 (k + 1) y0 y1))
  | 0 => ⟨fun _ _ r h => by simp [epicycleref05_Prime.j0] at h, fun _ _ r h => by simp [epicycleref05_Prime.l0] at h⟩
  | k + 1 => by
    obtain ⟨ih0, ih1⟩ := epicycleref05_Prime.mono_l k
    refine ⟨?_, ?_⟩
    · intro y0 y1
      unfold epicycleref05_Prime.j0
      repeat' first
      | (with_reducible exact ih0 _ _)
      | (with_reducible exact ih1 _ _)
      | (with_reducible exact LeO.refl _)
      | (with_reducible exact LeO.none _)
      | (with_reducible refine LeO.ite ?_ ?_)
      | (with_reducible refine LeO.bind ?_ (fun _ => ?_))
      | exact ih0 _ _
      | exact ih1 _ _
      | exact LeO.none _
      | refine LeO.ite ?_ ?_
      | refine LeO.bind ?_ (fun _ => ?_)
    · intro y0 y1
      unfold epicycleref05_Prime.l0
      repeat' first
      | (with_reducible exact ih0 _ _)
      | (with_reducible exact ih1 _ _)
      | (with_reducible exact LeO.refl _)
      | (with_reducible exact LeO.none _)
      | (with_reducible refine LeO.ite ?_ ?_)
      | (with_reducible refine LeO.bind ?_ (fun _ => ?_))
      | exact ih0 _ _
      | exact ih1 _ _
      | exact LeO.none _
      | refine LeO.ite ?_ ?_
      | refine LeO.bind ?_ (fun _ => ?_)
theorem epicycleref05_Prime.mono : ∀ a0 k, LeO (epicycleref05_Prime.f k a0) (epicycleref05_Prime.f (k + 1) a0) := by
  intro a0 k
  obtain ⟨ih0, ih1⟩ := epicycleref05_Prime.mono_l k
  unfold epicycleref05_Prime.f
  repeat' first
      | (with_reducible exact ih0 _ _)
      | (with_reducible exact ih1 _ _)
      | (with_reducible exact LeO.refl _)
      | (with_reducible exact LeO.none _)
      | (with_reducible refine LeO.ite ?_ ?_)
      | (with_reducible refine LeO.bind ?_ (fun _ => ?_))
      | exact ih0 _ _
      | exact ih1 _ _
      | exact LeO.none _
      | refine LeO.ite ?_ ?_
      | refine LeO.bind ?_ (fun _ => ?_)
set_option maxHeartbeats 8000000 in
set_option maxRecDepth 100000 in
theorem epicycleref05_Prime.calls (k : Nat) (a0 : Int) (r : Bool) (w : World) (h : epicycleref05_Prime.f k a0 = some r) :
    Calls Try.prog 10 #[.int .u64 a0] w fun e w' => e = .returned (.bool r) ∧ Drawn0 w w' := by
  have H : (if a0 < 2 then (epicycleref05_Prime.j0 k a0 true) else (epicycleref05_Prime.j0 k a0 (decide (a0 > 4294967296)))) = some r := h
  clear h
  have HC2 := Aside0.mk H
  clear H
  go_enter Try.func10, Try.ntmps10
  go_upto_region 1 with (fail)
  go_cut [9] (fun v9 wc => ∃ (kq : Nat) (x9_1 : Bool), v9 = .bool x9_1 ∧ Aside0 (epicycleref05_Prime.j0 kq a0 x9_1 = some r) ∧ Aside0 (kq ≤ k) ∧ Drawn0 w wc)
  case first =>
    have H := HC2.out
    clear HC2
    by_cases c3 : a0 < 2
    · rw [if_pos c3] at H
      have c3b0 : decide (a0 < 2) = true := decide_eq_true c3
      clear c3
      (first | rw [c3b0] | (simp only [i64_w, i32_w]; rw [c3b0]) | skip)
      have H' := Aside0.mk H
      clear H
      go_wp2
      go_meet
      case rel => exact ⟨_, (true), (by first | rfl | (simp; done) | (simp [*]; done)), H', ⟨by first | omega | exact Nat.le_refl _⟩, by repeat (first | exact Drawn0.refl _ | apply Drawn0.step)⟩
    · rw [if_neg c3] at H
      have c3b0 : decide (a0 < 2) = false := decide_eq_false c3
      clear c3
      (first | rw [c3b0] | (simp only [i64_w, i32_w]; rw [c3b0]) | skip)
      have H' := Aside0.mk H
      clear H
      go_wp2
      go_meet
      case rel => exact ⟨_, (decide (a0 > 4294967296)), (by first | rfl | (simp; done) | (simp [*]; done)), H', ⟨by first | omega | exact Nat.le_refl _⟩, by repeat (first | exact Drawn0.refl _ | apply Drawn0.step)⟩
  case rest =>
    clear HC2
    try clear c1
    try clear p2
    try clear c3
    try clear c3b0
    obtain ⟨kq, x9_1, rfl, HA, HJ1, ⟨mc1, rfl⟩⟩ := hcut
    cases kq with
    | zero => exact absurd HA.out (by simp [epicycleref05_Prime.j0])
    | succ kj1 =>
      have H := HA.out
      clear HA
      simp only [epicycleref05_Prime.j0] at H
      by_cases c4 : x9_1 = true
      · subst c4
        have H1 : (some false) = some r := by rw [if_pos rfl] at H <;> exact H
        clear H
        have H := H1
        clear H1
        obtain rfl := Option.some.inj H
        go_wp2
        go_ret
        exact ⟨by first | rfl | (simp; done) | (simp [*]; done), by repeat (first | exact Drawn0.refl _ | apply Drawn0.step)⟩
      · replace c4 := Bool.eq_false_iff.mpr c4
        subst c4
        have H1 : (epicycleref05_Prime.l0 kj1 a0 2) = some r := by rw [if_neg (show ¬ (false = true) by decide)] at H <;> exact H
        clear H
        have H := H1
        clear H1
        have H' := Aside0.mk H
        clear H
        go_wp2
        go_loopg [3] kj1 (fun kq v3 w' => ∃ (x3_2 : Int), v3 = .int .u64 x3_2 ∧ Aside0 (epicycleref05_Prime.l0 kq a0 x3_2 = some r) ∧ Aside0 (kq ≤ kj1) ∧ Drawn0 w w')
        case atStart => exact ⟨(2), (by first | rfl | (simp; done) | (simp [*]; done)), H', ⟨Nat.le_refl _⟩, by repeat (first | exact Drawn0.refl _ | apply Drawn0.step)⟩
        case round =>
          clear H'
          try clear c1
          try clear p2
          try clear c3
          try clear c3b0
          try clear c4
          try clear p2
          obtain ⟨x3_2, rfl, HA, HK2, ⟨m2, rfl⟩⟩ := hrel
          cases gk with
          | zero => exact absurd HA.out (by simp [epicycleref05_Prime.l0])
          | succ k2 =>
            have H := HA.out
            clear HA
            simp only [epicycleref05_Prime.l0] at H
            by_cases c5 : (IntKind.u64.wrap (x3_2 * x3_2)) ≤ a0
            · rw [if_pos c5] at H
              have c5b0 : decide ((IntKind.u64.wrap (x3_2 * x3_2)) ≤ a0) = true := decide_eq_true c5
              clear c5
              by_cases c6 : x3_2 = 0
              · rw [if_pos c6] at H
                exact absurd H (by simp)
              · rw [if_neg c6] at H
                have c6b0 : (x3_2 == 0) = false := beq_eq_false_iff_ne.mpr c6
                have c6b1 : (x3_2 != 0) = true := bne_iff_ne.mpr c6
                by_cases c7 : (Int.tmod a0 x3_2) = 0
                · rw [if_pos c7] at H
                  have c7b0 : ((Int.tmod a0 x3_2) == 0) = true := beq_iff_eq.mpr c7
                  have c7b1 : ((Int.tmod a0 x3_2) != 0) = false := bne_eq_false_iff_eq.mpr c7
                  clear c7
                  obtain rfl := Option.some.inj H
                  go_wp2
                  go_ret
                  exact ⟨by first | rfl | (simp; done) | (simp [*]; done), by repeat (first | exact Drawn0.refl _ | apply Drawn0.step)⟩
                · rw [if_neg c7] at H
                  have c7b0 : ((Int.tmod a0 x3_2) == 0) = false := beq_eq_false_iff_ne.mpr c7
                  have c7b1 : ((Int.tmod a0 x3_2) != 0) = true := bne_iff_ne.mpr c7
                  have H' := Aside0.mk H
                  clear H
                  go_wp2
                  go_roundg k2
                  case measure => have := HJ1.out; have := HK2.out; omega
                  case rel => exact ⟨(IntKind.u64.wrap (x3_2 + 1)), (by first | rfl | (simp; done) | (simp [*]; done)), H', ⟨by have := HJ1.out; have := HK2.out; omega⟩, by repeat (first | exact Drawn0.refl _ | apply Drawn0.step)⟩
            · rw [if_neg c5] at H
              have c5b0 : decide ((IntKind.u64.wrap (x3_2 * x3_2)) ≤ a0) = false := decide_eq_false c5
              clear c5
              obtain rfl := Option.some.inj H
              go_wp2
              go_ret
              exact ⟨by first | rfl | (simp; done) | (simp [*]; done), by repeat (first | exact Drawn0.refl _ | apply Drawn0.step)⟩

/-! ### epicyclelaw05_SievePrimes: function 3 -/
mutual
def epicyclelaw05_SievePrimes.l0 : Nat → Int → Int → List Int → Bool → List Int → Int → Int → Option (Bool)
  | 0, _, _, _, _, _, _, _ => none
  | k + 1, x0, x1, x5, x6, x13, x14, x15 => if x15 < x14 then (if 0 ≤ x15 then (if x15 < (x13.length : Int) then (if x15 > 0 then (if 0 ≤ (wrap64 (x15 - 1)) then (if (wrap64 (x15 - 1)) < (x5.length : Int) then (epicyclelaw05_SievePrimes.j1 k x0 x1 x5 x6 (rd x13 x15) x13 x14 x15 (decide ((rd x5 (wrap64 (x15 - 1))) ≥ (rd x13 x15)))) else (none)) else (none)) else (epicyclelaw05_SievePrimes.j1 k x0 x1 x5 x6 (rd x13 x15) x13 x14 x15 false)) else (none)) else (none)) else (if x1 ≥ 2 then (if x1 ≤ x0 then (if x1 ≤ 65536 then ((epicycleref05_Prime.f k (IntKind.u64.wrap (x1))).bind fun t137 => (some (x6 == t137))) else (some (x6 == false))) else (some (x6 == false))) else (some (x6 == false)))
def epicyclelaw05_SievePrimes.j1 : Nat → Int → Int → List Int → Bool → Int → List Int → Int → Int → Bool → Option (Bool)
  | 0, _, _, _, _, _, _, _, _, _ => none
  | k + 1, x0, x1, x5, x6, x8, x13, x14, x15, x30 => if x30 = true then (some false) else (if x6 = true then (epicyclelaw05_SievePrimes.l0 k x0 x1 x5 true x13 x14 (wrap64 (x15 + 1))) else (epicyclelaw05_SievePrimes.l0 k x0 x1 x5 (x8 == x1) x13 x14 (wrap64 (x15 + 1))))
end
def epicyclelaw05_SievePrimes.f (k : Nat) (a0 : Int) (a1 : Int) : Option (Bool) := (epicyclelaw05_alive.f k).bind fun t133 => (if t133 = true then ((sieve_Primes.f k a0).bind fun t134 => (epicyclelaw05_SievePrimes.l0 k a0 a1 t134 false t134 (t134.length : Int) 0)) else (some false))
theorem epicyclelaw05_SievePrimes.mono_l : ∀ k, (∀ y0 y1 y2 y3 y4 y5 y6, LeO (epicyclelaw05_SievePrimes.l0 k y0 y1 y2 y3 y4 y5 y6) (epicyclelaw05_SievePrimes.l0 (k + 1) y0 y1 y2 y3 y4 y5 y6)) ∧ (∀ y0 y1 y2 y3 y4 y5 y6 y7 y8, LeO (epicyclelaw05_SievePrimes.j1 k y0 y1 y2 y3 y4 y5 y6 y7 y8) (epicyclelaw05_SievePrimes.j1 (k + 1) y0 y1 y2 y3 y4 y5 y6 y7 y8))
  | 0 => ⟨fun _ _ _ _ _ _ _ r h => by simp [epicyclelaw05_SievePrimes.l0] at h, fun _ _ _ _ _ _ _ _ _ r h => by simp [epicyclelaw05_SievePrimes.j1] at h⟩
  | k + 1 => by
    obtain ⟨ih0, ih1⟩ := epicyclelaw05_SievePrimes.mono_l k
    refine ⟨?_, ?_⟩
    · intro y0 y1 y2 y3 y4 y5 y6
      unfold epicyclelaw05_SievePrimes.l0
      repeat' first
      | (with_reducible exact ih0 _ _ _ _ _ _ _)
      | (with_reducible exact ih1 _ _ _ _ _ _ _ _ _)
      | (with_reducible exact epicyclelaw05_alive.mono _)
      | (with_reducible exact epicycleref05_Prime.mono _ _)
      | (with_reducible exact sieve_Primes.mono _ _)
      | (with_reducible exact LeO.refl _)
      | (with_reducible exact LeO.none _)
      | (with_reducible refine LeO.ite ?_ ?_)
      | (with_reducible refine LeO.bind ?_ (fun _ => ?_))
      | exact ih0 _ _ _ _ _ _ _
      | exact ih1 _ _ _ _ _ _ _ _ _
      | exact epicyclelaw05_alive.mono _
      | exact epicycleref05_Prime.mono _ _
      | exact sieve_Primes.mono _ _
      | exact LeO.none _
      | refine LeO.ite ?_ ?_
      | refine LeO.bind ?_ (fun _ => ?_)
    · intro y0 y1 y2 y3 y4 y5 y6 y7 y8
      unfold epicyclelaw05_SievePrimes.j1
      repeat' first
      | (with_reducible exact ih0 _ _ _ _ _ _ _)
      | (with_reducible exact ih1 _ _ _ _ _ _ _ _ _)
      | (with_reducible exact epicyclelaw05_alive.mono _)
      | (with_reducible exact epicycleref05_Prime.mono _ _)
      | (with_reducible exact sieve_Primes.mono _ _)
      | (with_reducible exact LeO.refl _)
      | (with_reducible exact LeO.none _)
      | (with_reducible refine LeO.ite ?_ ?_)
      | (with_reducible refine LeO.bind ?_ (fun _ => ?_))
      | exact ih0 _ _ _ _ _ _ _
      | exact ih1 _ _ _ _ _ _ _ _ _
      | exact epicyclelaw05_alive.mono _
      | exact epicycleref05_Prime.mono _ _
      | exact sieve_Primes.mono _ _
      | exact LeO.none _
      | refine LeO.ite ?_ ?_
      | refine LeO.bind ?_ (fun _ => ?_)
theorem epicyclelaw05_SievePrimes.mono : ∀ a0 a1 k, LeO (epicyclelaw05_SievePrimes.f k a0 a1) (epicyclelaw05_SievePrimes.f (k + 1) a0 a1) := by
  intro a0 a1 k
  obtain ⟨ih0, ih1⟩ := epicyclelaw05_SievePrimes.mono_l k
  unfold epicyclelaw05_SievePrimes.f
  repeat' first
      | (with_reducible exact ih0 _ _ _ _ _ _ _)
      | (with_reducible exact ih1 _ _ _ _ _ _ _ _ _)
      | (with_reducible exact epicyclelaw05_alive.mono _)
      | (with_reducible exact epicycleref05_Prime.mono _ _)
      | (with_reducible exact sieve_Primes.mono _ _)
      | (with_reducible exact LeO.refl _)
      | (with_reducible exact LeO.none _)
      | (with_reducible refine LeO.ite ?_ ?_)
      | (with_reducible refine LeO.bind ?_ (fun _ => ?_))
      | exact ih0 _ _ _ _ _ _ _
      | exact ih1 _ _ _ _ _ _ _ _ _
      | exact epicyclelaw05_alive.mono _
      | exact epicycleref05_Prime.mono _ _
      | exact sieve_Primes.mono _ _
      | exact LeO.none _
      | refine LeO.ite ?_ ?_
      | refine LeO.bind ?_ (fun _ => ?_)
set_option maxHeartbeats 8000000 in
set_option maxRecDepth 100000 in
theorem epicyclelaw05_SievePrimes.calls (k : Nat) (a0 : Int) (a1 : Int) (w : World) (h : epicyclelaw05_SievePrimes.f k a0 a1 = some true) :
    Calls Try.prog 3 #[.int .i64 a0, .int .i64 a1] w fun e w' => e = .returned (.bool true) ∧ Below w.heap.size w w' := by
  have HB := Aside0.mk (Below.refl w.heap.size w)
  have H : ((epicyclelaw05_alive.f k).bind fun t133 => (if t133 = true then ((sieve_Primes.f k a0).bind fun t134 => (epicyclelaw05_SievePrimes.l0 k a0 a1 t134 false t134 (t134.length : Int) 0)) else (some false))) = some true := h
  clear h
  replace H := Option.bind_eq_some_iff.mp H
  obtain ⟨t133, A30, H⟩ := H
  replace H : (if t133 = true then ((sieve_Primes.f k a0).bind fun t134 => (epicyclelaw05_SievePrimes.l0 k a0 a1 t134 false t134 (t134.length : Int) 0)) else (some false)) = some true := H
  have A3 := Aside0.mk A30
  clear A30
  by_cases c4 : t133 = true
  · subst c4
    have H1 : ((sieve_Primes.f k a0).bind fun t134 => (epicyclelaw05_SievePrimes.l0 k a0 a1 t134 false t134 (t134.length : Int) 0)) = some true := by rw [if_pos rfl] at H <;> exact H
    clear H
    have H := H1
    clear H1
    replace H := Option.bind_eq_some_iff.mp H
    obtain ⟨t134, A50, H⟩ := H
    replace H : (epicyclelaw05_SievePrimes.l0 k a0 a1 t134 false t134 (t134.length : Int) 0) = some true := H
    have A5 := Aside0.mk A50
    clear A50
    have H' := Aside0.mk H
    clear H
    go_enter Try.func3, Try.ntmps3
    go_wp2_with (first | ((with_reducible refine gate_callee (f := 8) rfl ?_); refine goesL_ (some 9) rfl rfl Try.func8 (by kernel_rfl) rfl #[] rfl (by (try simp only [List.map_toArray, List.map_cons, List.map_nil]); first | done | rfl | (simp only [List.length_drop, List.length_take]; rfl)) ?_; (with_reducible refine (epicyclelaw05_alive.calls k  true _ A3.out).mono ?_); rintro e w6 ⟨rfl, hb⟩; refine ⟨_, rfl, ?_⟩; have n0_ := Aside0.mk (below_step (by repeat (first | (with_reducible first | exact HB.out | apply below_alloc | apply pw_below_drewN | apply below_drew1) | exact HB.out)) hb); clear HB; have HB := n0_; clear n0_; (try clear hb); (try clear hb2); (try clear hk); (try clear hi)) | ((with_reducible refine gate_callee (f := 9) rfl ?_); refine goesL_ (some 12) rfl rfl Try.func9 (by kernel_rfl) rfl #[.int .i64 a0] rfl (by (try simp only [List.map_toArray, List.map_cons, List.map_nil]); first | done | rfl | (simp only [List.length_drop, List.length_take]; rfl)) ?_; (with_reducible refine (sieve_Primes.calls k a0 t134 _ A5.out).mono ?_); rintro e w7 ⟨v135, rfl, ho0, hb⟩; refine ⟨_, rfl, ?_⟩; have n0_ := Aside0.mk (Kd.R_lower ho0 (below_size (by repeat (first | (with_reducible first | exact HB.out | apply below_alloc | apply pw_below_drewN | apply below_drew1) | exact HB.out)))); have n1_ := Aside0.mk (below_step (by repeat (first | (with_reducible first | exact HB.out | apply below_alloc | apply pw_below_drewN | apply below_drew1) | exact HB.out)) hb); clear HB; have HO136 := n0_; have HB := n1_; clear n0_ n1_; (try clear hb); (try clear hb2); (try clear hk); (try clear hi); (try clear ho0); obtain ⟨Ao8, co8, eo8⟩ := Kd.R_slice HO136.out; subst eo8))
    go_loopg [6, 15] k (fun kq v6 v15 w' => ∃ (x6_1 : Bool) (x15_1 : Int), v6 = .bool x6_1 ∧ v15 = .int .i64 x15_1 ∧ Aside0 (epicyclelaw05_SievePrimes.l0 kq a0 a1 t134 x6_1 t134 (t134.length : Int) x15_1 = some true) ∧ Aside0 (kq ≤ k) ∧ Aside0 (Kd.R (Kd.int .i64) 3 w' w.heap.size (fun _ => True) (.slice Ao8 t134.length co8) t134) ∧ Aside0 (Kd.R (Kd.int .i64) 3 w' w.heap.size (fun _ => True) (.slice Ao8 t134.length co8) t134) ∧ Aside0 (Below w.heap.size w w'))
    case atStart => exact ⟨(false), (0), (by first | rfl | (simp; done) | (simp [*]; done)), (by first | rfl | (simp; done) | (simp [*]; done)), H', ⟨Nat.le_refl _⟩, ⟨by (with_reducible repeat (first | apply Kd.R_alloc | apply Kd.R_drewN | apply Kd.R_drew)); exact HO136.out⟩, ⟨by (with_reducible repeat (first | apply Kd.R_alloc | apply Kd.R_drewN | apply Kd.R_drew)); exact HO136.out⟩, ⟨by repeat (first | (with_reducible first | exact HB.out | apply below_alloc | apply pw_below_drewN | apply below_drew1) | exact HB.out)⟩⟩
    case round =>
      clear H'
      try clear p2
      try clear c3
      try clear c4
      try clear c8
      obtain ⟨x6_1, x15_1, rfl, rfl, HA, HK1, HO_5, HO_13, HB⟩ := hrel
      cases gk with
      | zero => exact absurd HA.out (by simp [epicyclelaw05_SievePrimes.l0])
      | succ k1 =>
        have H := HA.out
        clear HA
        simp only [epicyclelaw05_SievePrimes.l0] at H
        by_cases c9 : x15_1 < (t134.length : Int)
        · rw [if_pos c9] at H
          have c9b0 : decide (x15_1 < (t134.length : Int)) = true := decide_eq_true c9
          clear c9
          by_cases c10 : 0 ≤ x15_1
          · rw [if_pos c10] at H
            have c10b0 : decide (0 ≤ x15_1) = true := decide_eq_true c10
            clear c10
            by_cases c11 : x15_1 < (t134.length : Int)
            · rw [if_pos c11] at H
              have c11b0 : decide (x15_1 < (t134.length : Int)) = true := decide_eq_true c11
              clear c11
              have HC12 := Aside0.mk H
              clear H
              have p138 : 0 ≤ (x15_1 : Int) := of_decide_eq_true (by first | (with_reducible assumption) | assumption)
              have q138 : x15_1 < (t134.length : Int) := of_decide_eq_true (by first | (with_reducible assumption) | assumption)
              obtain ⟨ad138, e138, hx138_0⟩ := Kd.at_int (Kd.R_reads' HO_13.out).2.2 x15_1 p138 q138
              cases e138
              replace p138 := eq_true p138
              replace q138 := eq_true q138
              go_upto_region 8 with (fail)
              go_cut [30] (fun v30 wc => ∃ (kq : Nat) (x30_11 : Bool), v30 = .bool x30_11 ∧ Aside0 (epicyclelaw05_SievePrimes.j1 kq a0 a1 t134 x6_1 (rd t134 x15_1) t134 (t134.length : Int) x15_1 x30_11 = some true) ∧ Aside0 (kq ≤ k1) ∧ Aside0 (Kd.R (Kd.int .i64) 3 wc w.heap.size (fun _ => True) (.slice (some ad138) t134.length co8) t134) ∧ Aside0 (Kd.R (Kd.int .i64) 3 wc w.heap.size (fun _ => True) (.slice (some ad138) t134.length co8) t134) ∧ Aside0 (Below w.heap.size w wc))
              case first =>
                have H := HC12.out
                clear HC12
                by_cases c13 : x15_1 > 0
                · rw [if_pos c13] at H
                  have c13b0 : decide (0 < x15_1) = true := decide_eq_true c13
                  clear c13
                  (first | rw [c13b0] | (simp only [i64_w, i32_w]; rw [c13b0]) | skip)
                  obtain ⟨ji14, hji14⟩ : ∃ j_ : Int, (wrap64 (x15_1 - 1)) = j_ := ⟨_, rfl⟩
                  replace H : (if 0 ≤ (ji14) then (if (ji14) < (t134.length : Int) then (epicyclelaw05_SievePrimes.j1 k1 a0 a1 t134 x6_1 (rd t134 x15_1) t134 (t134.length : Int) x15_1 (decide ((rd t134 (ji14)) ≥ (rd t134 x15_1)))) else (none)) else (none)) = some true := by first | (rw [hji14] at H <;> exact H) | (simp only [hji14] at H ⊢; exact H)
                  have hji14w : (IntKind.i64.wrap (x15_1 - 1)) = ji14 := (i64_w _).trans hji14
                  by_cases c15 : 0 ≤ (ji14)
                  · rw [if_pos c15] at H
                    have c15b0 : decide (0 ≤ (ji14)) = true := decide_eq_true c15
                    clear c15
                    by_cases c16 : (ji14) < (t134.length : Int)
                    · rw [if_pos c16] at H
                      have c16b0 : decide ((ji14) < (t134.length : Int)) = true := decide_eq_true c16
                      clear c16
                      have H' := Aside0.mk H
                      clear H
                      have p139 : 0 ≤ ((ji14) : Int) := of_decide_eq_true (by first | (with_reducible assumption) | assumption)
                      have q139 : (ji14) < (t134.length : Int) := of_decide_eq_true (by first | (with_reducible assumption) | assumption)
                      obtain ⟨ad139, e139, hx139_0⟩ := Kd.at_int (Kd.R_reads' HO_5.out).2.2 (ji14) p139 q139
                      obtain rfl : ad138 = ad139 := (by injection e139)
                      replace p139 := eq_true p139
                      replace q139 := eq_true q139
                      go_wp2
                      go_meet
                      case rel => exact ⟨_, (decide ((rd t134 (ji14)) ≥ (rd t134 x15_1))), (by first | rfl | (simp; done) | (simp only [← hji14] <;> (first | rfl | simp)) | (simp [*]; done)), H', ⟨by have := HK1.out; first | omega | exact Nat.le_refl _⟩, ⟨by (with_reducible repeat (first | apply Kd.R_alloc | apply Kd.R_drewN | apply Kd.R_drew)); exact HO_5.out⟩, ⟨by (with_reducible repeat (first | apply Kd.R_alloc | apply Kd.R_drewN | apply Kd.R_drew)); exact HO_13.out⟩, ⟨by repeat (first | (with_reducible first | exact HB.out | apply below_alloc | apply pw_below_drewN | apply below_drew1) | exact HB.out)⟩⟩
                    · rw [if_neg c16] at H
                      exact absurd H (by simp)
                  · rw [if_neg c15] at H
                    exact absurd H (by simp)
                · rw [if_neg c13] at H
                  have c13b0 : decide (0 < x15_1) = false := decide_eq_false c13
                  clear c13
                  (first | rw [c13b0] | (simp only [i64_w, i32_w]; rw [c13b0]) | skip)
                  have H' := Aside0.mk H
                  clear H
                  go_wp2
                  go_meet
                  case rel => exact ⟨_, (false), (by first | rfl | (simp; done) | (simp [*]; done)), H', ⟨by have := HK1.out; first | omega | exact Nat.le_refl _⟩, ⟨by (with_reducible repeat (first | apply Kd.R_alloc | apply Kd.R_drewN | apply Kd.R_drew)); exact HO_5.out⟩, ⟨by (with_reducible repeat (first | apply Kd.R_alloc | apply Kd.R_drewN | apply Kd.R_drew)); exact HO_13.out⟩, ⟨by repeat (first | (with_reducible first | exact HB.out | apply below_alloc | apply pw_below_drewN | apply below_drew1) | exact HB.out)⟩⟩
              case rest =>
                clear HC12
                try clear c1
                try clear p1
                try clear q1
                try clear hx1
                try clear p2
                try clear c3
                try clear c4
                try clear p6
                try clear c8
                try clear c9
                try clear c9b0
                try clear c10
                try clear c10b0
                try clear c11
                try clear c11b0
                try clear c13
                try clear c13b0
                try clear p13
                try clear q13
                try clear hx13
                try clear c15
                try clear c15b0
                try clear c16
                try clear c16b0
                try clear hx138_0
                try clear hx139_0
                try clear p138
                try clear p139
                try clear p2
                try clear q138
                try clear q139
                obtain ⟨kq, x30_11, rfl, HA, HJ11, HO_5, HO_13, HB⟩ := hcut
                cases kq with
                | zero => exact absurd HA.out (by simp [epicyclelaw05_SievePrimes.j1])
                | succ kj11 =>
                  have H := HA.out
                  clear HA
                  simp only [epicyclelaw05_SievePrimes.j1] at H
                  by_cases c17 : x30_11 = true
                  · subst c17
                    have H1 : (some false) = some true := by rw [if_pos rfl] at H <;> exact H
                    clear H
                    have H := H1
                    clear H1
                    exact absurd H (by simp)
                  · replace c17 := Bool.eq_false_iff.mpr c17
                    subst c17
                    have H1 : (if x6_1 = true then (epicyclelaw05_SievePrimes.l0 kj11 a0 a1 t134 true t134 (t134.length : Int) (wrap64 (x15_1 + 1))) else (epicyclelaw05_SievePrimes.l0 kj11 a0 a1 t134 ((rd t134 x15_1) == a1) t134 (t134.length : Int) (wrap64 (x15_1 + 1)))) = some true := by rw [if_neg (show ¬ (false = true) by decide)] at H <;> exact H
                    clear H
                    have H := H1
                    clear H1
                    by_cases c18 : x6_1 = true
                    · subst c18
                      have H1 : (epicyclelaw05_SievePrimes.l0 kj11 a0 a1 t134 true t134 (t134.length : Int) (wrap64 (x15_1 + 1))) = some true := by rw [if_pos rfl] at H <;> exact H
                      clear H
                      have H := H1
                      clear H1
                      have H' := Aside0.mk H
                      clear H
                      go_wp2
                      go_roundg kj11
                      case measure => have := HK1.out; have := HJ11.out; omega
                      case rel => exact ⟨(true), (wrap64 (x15_1 + 1)), (by first | rfl | (simp; done) | (simp [*]; done)), (by first | rfl | (simp; done) | (simp [*]; done)), H', ⟨by have := HK1.out; have := HJ11.out; omega⟩, ⟨by (with_reducible repeat (first | apply Kd.R_alloc | apply Kd.R_drewN | apply Kd.R_drew)); exact HO_5.out⟩, ⟨by (with_reducible repeat (first | apply Kd.R_alloc | apply Kd.R_drewN | apply Kd.R_drew)); exact HO_13.out⟩, ⟨by repeat (first | (with_reducible first | exact HB.out | apply below_alloc | apply pw_below_drewN | apply below_drew1) | exact HB.out)⟩⟩
                    · replace c18 := Bool.eq_false_iff.mpr c18
                      subst c18
                      have H1 : (epicyclelaw05_SievePrimes.l0 kj11 a0 a1 t134 ((rd t134 x15_1) == a1) t134 (t134.length : Int) (wrap64 (x15_1 + 1))) = some true := by rw [if_neg (show ¬ (false = true) by decide)] at H <;> exact H
                      clear H
                      have H := H1
                      clear H1
                      have H' := Aside0.mk H
                      clear H
                      go_wp2
                      go_roundg kj11
                      case measure => have := HK1.out; have := HJ11.out; omega
                      case rel => exact ⟨(((rd t134 x15_1) == a1)), (wrap64 (x15_1 + 1)), (by first | rfl | (simp; done) | (simp [*]; done)), (by first | rfl | (simp; done) | (simp [*]; done)), H', ⟨by have := HK1.out; have := HJ11.out; omega⟩, ⟨by (with_reducible repeat (first | apply Kd.R_alloc | apply Kd.R_drewN | apply Kd.R_drew)); exact HO_5.out⟩, ⟨by (with_reducible repeat (first | apply Kd.R_alloc | apply Kd.R_drewN | apply Kd.R_drew)); exact HO_13.out⟩, ⟨by repeat (first | (with_reducible first | exact HB.out | apply below_alloc | apply pw_below_drewN | apply below_drew1) | exact HB.out)⟩⟩
            · rw [if_neg c11] at H
              exact absurd H (by simp)
          · rw [if_neg c10] at H
            exact absurd H (by simp)
        · rw [if_neg c9] at H
          have c9b0 : decide (x15_1 < (t134.length : Int)) = false := decide_eq_false c9
          clear c9
          by_cases c19 : a1 ≥ 2
          · rw [if_pos c19] at H
            have c19b0 : decide (2 ≤ a1) = true := decide_eq_true c19
            clear c19
            by_cases c20 : a1 ≤ a0
            · rw [if_pos c20] at H
              have c20b0 : decide (a1 ≤ a0) = true := decide_eq_true c20
              clear c20
              by_cases c21 : a1 ≤ 65536
              · rw [if_pos c21] at H
                have c21b0 : decide (a1 ≤ 65536) = true := decide_eq_true c21
                clear c21
                replace H := Option.bind_eq_some_iff.mp H
                obtain ⟨t137, A220, H⟩ := H
                replace H : (some (x6_1 == t137)) = some true := H
                have A22 := Aside0.mk A220
                clear A220
                have hR_ := Option.some.inj H
                go_wp2_with (first | (go_at_call 10; (with_reducible refine (epicycleref05_Prime.calls k1 (IntKind.u64.wrap (a1)) t137 _ A22.out).mono ?_); rintro e w' ⟨rfl, ⟨nd, rfl⟩⟩))
                go_ret
                exact ⟨by first | rfl | (simp [errW_none, errW_some] <;> rfl) | (simp [*, errW_none, errW_some] <;> rfl), by repeat (first | (with_reducible first | exact HB.out | apply below_alloc | apply pw_below_drewN | apply below_drew1) | exact HB.out)⟩
              · rw [if_neg c21] at H
                have c21b0 : decide (a1 ≤ 65536) = false := decide_eq_false c21
                clear c21
                have hR_ := Option.some.inj H
                go_wp2
                go_ret
                exact ⟨by first | rfl | (simp [errW_none, errW_some] <;> rfl) | (simp [*, errW_none, errW_some] <;> rfl), by repeat (first | (with_reducible first | exact HB.out | apply below_alloc | apply pw_below_drewN | apply below_drew1) | exact HB.out)⟩
            · rw [if_neg c20] at H
              have c20b0 : decide (a1 ≤ a0) = false := decide_eq_false c20
              clear c20
              have hR_ := Option.some.inj H
              go_wp2
              go_ret
              exact ⟨by first | rfl | (simp [errW_none, errW_some] <;> rfl) | (simp [*, errW_none, errW_some] <;> rfl), by repeat (first | (with_reducible first | exact HB.out | apply below_alloc | apply pw_below_drewN | apply below_drew1) | exact HB.out)⟩
          · rw [if_neg c19] at H
            have c19b0 : decide (2 ≤ a1) = false := decide_eq_false c19
            clear c19
            have hR_ := Option.some.inj H
            go_wp2
            go_ret
            exact ⟨by first | rfl | (simp [errW_none, errW_some] <;> rfl) | (simp [*, errW_none, errW_some] <;> rfl), by repeat (first | (with_reducible first | exact HB.out | apply below_alloc | apply pw_below_drewN | apply below_drew1) | exact HB.out)⟩
  · replace c4 := Bool.eq_false_iff.mpr c4
    subst c4
    have H1 : (some false) = some true := by rw [if_neg (show ¬ (false = true) by decide)] at H <;> exact H
    clear H
    have H := H1
    clear H1
    exact absurd H (by simp)

/-- THE ONE PURE STATEMENT of epicyclelaw05_SievePrimes: yours. -/
def epicyclelaw05_SievePrimes.Pure : Prop := ∀ (a0 : Int) (a1 : Int), (Lit.int .i64 a0).wf = true → (Lit.int .i64 a1).wf = true → ∃ k, epicyclelaw05_SievePrimes.f k a0 a1 = some true
theorem epicyclelaw05_SievePrimes.walk (P : epicyclelaw05_SievePrimes.Pure) (a0 : Int) (a1 : Int) (w : World) (w0 : (Lit.int .i64 a0).wf = true) (w1 : (Lit.int .i64 a1).wf = true) :
    Calls Try.prog 3 #[.int .i64 a0, .int .i64 a1] w fun e w' => e = .returned (.bool true) ∧ Below w.heap.size w w' := by
  obtain ⟨k, h⟩ := P a0 a1 w0 w1
  refine (epicyclelaw05_SievePrimes.calls k a0 a1 w h).mono ?_
  rintro e w' ⟨rfl, hd⟩
  exact ⟨rfl, hd⟩

/-! ### epicycleref05_Factor: function 12 -/
mutual
def epicycleref05_Factor.j0 : Nat → Int → List (S34) → Bool → Option ((List (S34)))
  | 0, _, _, _ => none
  | k + 1, x0, x3, x11 => if x11 = true then (some x3) else (epicycleref05_Factor.l0 k x0 x3 2)
def epicycleref05_Factor.l0 : Nat → Int → List (S34) → Int → Option ((List (S34)))
  | 0, _, _, _ => none
  | k + 1, x0, x3, x4 => if (IntKind.u64.wrap (x4 * x4)) ≤ x0 then (epicycleref05_Factor.l1 k x0 x3 x4 0) else (if x0 > 1 then (if x3.length < 8796093022208 then (some (x3 ++ [(⟨x0, 1⟩ : S34)])) else (none)) else (some x3))
def epicycleref05_Factor.l1 : Nat → Int → List (S34) → Int → Int → Option ((List (S34)))
  | 0, _, _, _, _ => none
  | k + 1, x0, x3, x4, x5 => if x4 = 0 then (none) else (if (Int.tmod x0 x4) = 0 then (epicycleref05_Factor.l1 k (IntKind.u64.wrap (Int.tdiv x0 x4)) x3 x4 (wrap64 (x5 + 1))) else (if x5 > 0 then (if x3.length < 8796093022208 then (epicycleref05_Factor.l0 k x0 (x3 ++ [(⟨x4, x5⟩ : S34)]) (IntKind.u64.wrap (x4 + 1))) else (none)) else (epicycleref05_Factor.l0 k x0 x3 (IntKind.u64.wrap (x4 + 1)))))
end
def epicycleref05_Factor.f (k : Nat) (a0 : Int) : Option ((List (S34))) := if a0 < 2 then (epicycleref05_Factor.j0 k a0 ([] : List (S34)) true) else (epicycleref05_Factor.j0 k a0 ([] : List (S34)) (decide (a0 > 4294967296)))
theorem epicycleref05_Factor.mono_l : ∀ k, (∀ y0 y1 y2, LeO (epicycleref05_Factor.j0 k y0 y1 y2) (epicycleref05_Factor.j0 (k + 1) y0 y1 y2)) ∧ (∀ y0 y1 y2, LeO (epicycleref05_Factor.l0 k y0 y1 y2) (epicycleref05_Factor.l0 (k + 1) y0 y1 y2)) ∧ (∀ y0 y1 y2 y3, LeO (epicycleref05_Factor.l1 k y0 y1 y2 y3) (epicycleref05_Factor.l1 (k + 1) y0 y1 y2 y3))
  | 0 => ⟨fun _ _ _ r h => by simp [epicycleref05_Factor.j0] at h, fun _ _ _ r h => by simp [epicycleref05_Factor.l0] at h, fun _ _ _ _ r h => by simp [epicycleref05_Factor.l1] at h⟩
  | k + 1 => by
    obtain ⟨ih0, ih1, ih2⟩ := epicycleref05_Factor.mono_l k
    refine ⟨?_, ?_, ?_⟩
    · intro y0 y1 y2
      unfold epicycleref05_Factor.j0
      repeat' first
      | (with_reducible exact ih0 _ _ _)
      | (with_reducible exact ih1 _ _ _)
      | (with_reducible exact ih2 _ _ _ _)
      | (with_reducible exact LeO.refl _)
      | (with_reducible exact LeO.none _)
      | (with_reducible refine LeO.ite ?_ ?_)
      | (with_reducible refine LeO.bind ?_ (fun _ => ?_))
      | exact ih0 _ _ _
      | exact ih1 _ _ _
      | exact ih2 _ _ _ _
      | exact LeO.none _
      | refine LeO.ite ?_ ?_
      | refine LeO.bind ?_ (fun _ => ?_)
    · intro y0 y1 y2
      unfold epicycleref05_Factor.l0
      repeat' first
      | (with_reducible exact ih0 _ _ _)
      | (with_reducible exact ih1 _ _ _)
      | (with_reducible exact ih2 _ _ _ _)
      | (with_reducible exact LeO.refl _)
      | (with_reducible exact LeO.none _)
      | (with_reducible refine LeO.ite ?_ ?_)
      | (with_reducible refine LeO.bind ?_ (fun _ => ?_))
      | exact ih0 _ _ _
      | exact ih1 _ _ _
      | exact ih2 _ _ _ _
      | exact LeO.none _
      | refine LeO.ite ?_ ?_
      | refine LeO.bind ?_ (fun _ => ?_)
    · intro y0 y1 y2 y3
      unfold epicycleref05_Factor.l1
      repeat' first
      | (with_reducible exact ih0 _ _ _)
      | (with_reducible exact ih1 _ _ _)
      | (with_reducible exact ih2 _ _ _ _)
      | (with_reducible exact LeO.refl _)
      | (with_reducible exact LeO.none _)
      | (with_reducible refine LeO.ite ?_ ?_)
      | (with_reducible refine LeO.bind ?_ (fun _ => ?_))
      | exact ih0 _ _ _
      | exact ih1 _ _ _
      | exact ih2 _ _ _ _
      | exact LeO.none _
      | refine LeO.ite ?_ ?_
      | refine LeO.bind ?_ (fun _ => ?_)
theorem epicycleref05_Factor.mono : ∀ a0 k, LeO (epicycleref05_Factor.f k a0) (epicycleref05_Factor.f (k + 1) a0) := by
  intro a0 k
  obtain ⟨ih0, ih1, ih2⟩ := epicycleref05_Factor.mono_l k
  unfold epicycleref05_Factor.f
  repeat' first
      | (with_reducible exact ih0 _ _ _)
      | (with_reducible exact ih1 _ _ _)
      | (with_reducible exact ih2 _ _ _ _)
      | (with_reducible exact LeO.refl _)
      | (with_reducible exact LeO.none _)
      | (with_reducible refine LeO.ite ?_ ?_)
      | (with_reducible refine LeO.bind ?_ (fun _ => ?_))
      | exact ih0 _ _ _
      | exact ih1 _ _ _
      | exact ih2 _ _ _ _
      | exact LeO.none _
      | refine LeO.ite ?_ ?_
      | refine LeO.bind ?_ (fun _ => ?_)
set_option maxHeartbeats 8000000 in
set_option maxRecDepth 100000 in
theorem epicycleref05_Factor.calls (k : Nat) (a0 : Int) (r : List (S34)) (w : World) (h : epicycleref05_Factor.f k a0 = some r) :
    Calls Try.prog 12 #[.int .u64 a0] w fun e w' => ∃ v0_ : Value, e = .returned (v0_) ∧ Kd.R k34 34 w' w.heap.size (fun _ => True) v0_ r ∧ Below w.heap.size w w' := by
  have hu34 := Try.underlying34
  have HB := Aside0.mk (Below.refl w.heap.size w)
  have H : (if a0 < 2 then (epicycleref05_Factor.j0 k a0 ([] : List (S34)) true) else (epicycleref05_Factor.j0 k a0 ([] : List (S34)) (decide (a0 > 4294967296)))) = some r := h
  clear h
  have HC2 := Aside0.mk H
  clear H
  go_enter Try.func12, Try.ntmps12
  go_upto_region 2 with (fail)
  go_cut [11] (fun v11 wc => ∃ (kq : Nat) (x11_1 : Bool), v11 = .bool x11_1 ∧ Aside0 (epicycleref05_Factor.j0 kq a0 ([] : List (S34)) x11_1 = some r) ∧ Aside0 (kq ≤ k) ∧ Aside0 (Kd.R k34 34 wc w.heap.size (fun _ => True) (.slice none 0 0) ([] : List (S34))) ∧ Aside0 (Below w.heap.size w wc))
  case first =>
    have H := HC2.out
    clear HC2
    by_cases c3 : a0 < 2
    · rw [if_pos c3] at H
      have c3b0 : decide (a0 < 2) = true := decide_eq_true c3
      clear c3
      (first | rw [c3b0] | (simp only [i64_w, i32_w]; rw [c3b0]) | skip)
      have H' := Aside0.mk H
      clear H
      go_wp2
      go_meet
      case rel => exact ⟨_, (true), (by first | rfl | (simp; done) | (simp [*]; done)), H', ⟨by first | omega | exact Nat.le_refl _⟩, ⟨by first | exact Kd.R_nil _ _ _ _ _ | exact Kd.N_nil _ _ _ _ _ | exact Kd.V_nil _ _ _ _ _ | exact Kd.Q_nil _ _ _ _ _ | exact Kd.S_nil _ _ _ _ _⟩, ⟨by repeat (first | (with_reducible first | exact HB.out | apply below_alloc | apply pw_below_drewN | apply below_drew1) | exact HB.out)⟩⟩
    · rw [if_neg c3] at H
      have c3b0 : decide (a0 < 2) = false := decide_eq_false c3
      clear c3
      (first | rw [c3b0] | (simp only [i64_w, i32_w]; rw [c3b0]) | skip)
      have H' := Aside0.mk H
      clear H
      go_wp2
      go_meet
      case rel => exact ⟨_, (decide (a0 > 4294967296)), (by first | rfl | (simp; done) | (simp [*]; done)), H', ⟨by first | omega | exact Nat.le_refl _⟩, ⟨by first | exact Kd.R_nil _ _ _ _ _ | exact Kd.N_nil _ _ _ _ _ | exact Kd.V_nil _ _ _ _ _ | exact Kd.Q_nil _ _ _ _ _ | exact Kd.S_nil _ _ _ _ _⟩, ⟨by repeat (first | (with_reducible first | exact HB.out | apply below_alloc | apply pw_below_drewN | apply below_drew1) | exact HB.out)⟩⟩
  case rest =>
    clear HC2
    try clear c1
    try clear p2
    try clear c3
    try clear c3b0
    obtain ⟨kq, x11_1, rfl, HA, HJ1, HO_3, HB⟩ := hcut
    cases kq with
    | zero => exact absurd HA.out (by simp [epicycleref05_Factor.j0])
    | succ kj1 =>
      have H := HA.out
      clear HA
      simp only [epicycleref05_Factor.j0] at H
      by_cases c4 : x11_1 = true
      · subst c4
        have H1 : (some ([] : List (S34))) = some r := by rw [if_pos rfl] at H <;> exact H
        clear H
        have H := H1
        clear H1
        obtain rfl := Option.some.inj H
        go_wp2
        go_ret
        exact ⟨_, by first | rfl | (simp [errW_none, errW_some] <;> rfl) | (simp [*, errW_none, errW_some] <;> rfl), by (with_reducible repeat (first | apply Kd.R_alloc | apply Kd.R_drewN | apply Kd.R_drew)); exact HO_3.out, by repeat (first | (with_reducible first | exact HB.out | apply below_alloc | apply pw_below_drewN | apply below_drew1) | exact HB.out)⟩
      · replace c4 := Bool.eq_false_iff.mpr c4
        subst c4
        have H1 : (epicycleref05_Factor.l0 kj1 a0 ([] : List (S34)) 2) = some r := by rw [if_neg (show ¬ (false = true) by decide)] at H <;> exact H
        clear H
        have H := H1
        clear H1
        have H' := Aside0.mk H
        clear H
        go_wp2
        go_loopg [0, 3, 4] kj1 (fun kq v0 v3 v4 w' => ∃ (x0_2 : Int) (x3_2 : List (S34)) (x4_2 : Int), v0 = .int .u64 x0_2 ∧ v4 = .int .u64 x4_2 ∧ Aside0 (epicycleref05_Factor.l0 kq x0_2 x3_2 x4_2 = some r) ∧ Aside0 (kq ≤ kj1) ∧ Aside0 (Kd.R k34 34 w' w.heap.size (fun _ => True) v3 x3_2) ∧ Aside0 (Below w.heap.size w w'))
        case atStart => exact ⟨(a0), (([] : List (S34))), (2), (by first | rfl | (simp; done) | (simp [*]; done)), (by first | rfl | (simp; done) | (simp [*]; done)), H', ⟨Nat.le_refl _⟩, ⟨by (with_reducible repeat (first | apply Kd.R_alloc | apply Kd.R_drewN | apply Kd.R_drew)); exact HO_3.out⟩, ⟨by repeat (first | (with_reducible first | exact HB.out | apply below_alloc | apply pw_below_drewN | apply below_drew1) | exact HB.out)⟩⟩
        case round =>
          clear H'
          try clear c1
          try clear p2
          try clear c3
          try clear c3b0
          try clear c4
          try clear p2
          obtain ⟨x0_2, x3_2, x4_2, rfl, rfl, HA, HK2, HO_3, HB⟩ := hrel
          cases gk with
          | zero => exact absurd HA.out (by simp [epicycleref05_Factor.l0])
          | succ k2 =>
            have H := HA.out
            clear HA
            simp only [epicycleref05_Factor.l0] at H
            by_cases c5 : (IntKind.u64.wrap (x4_2 * x4_2)) ≤ x0_2
            · rw [if_pos c5] at H
              have c5b0 : decide ((IntKind.u64.wrap (x4_2 * x4_2)) ≤ x0_2) = true := decide_eq_true c5
              clear c5
              have H' := Aside0.mk H
              clear H
              go_wp2
              go_loopg [0, 5] k2 (fun kq v0 v5 w' => ∃ (x0_3 : Int) (x5_3 : Int), v0 = .int .u64 x0_3 ∧ v5 = .int .i64 x5_3 ∧ Aside0 (epicycleref05_Factor.l1 kq x0_3 x3_2 x4_2 x5_3 = some r) ∧ Aside0 (kq ≤ k2) ∧ Aside0 (Kd.R k34 34 w' w.heap.size (fun _ => True) u3 x3_2) ∧ Aside0 (Below w.heap.size w w'))
              case atStart => exact ⟨(x0_2), (0), (by first | rfl | (simp; done) | (simp [*]; done)), (by first | rfl | (simp; done) | (simp [*]; done)), H', ⟨Nat.le_refl _⟩, ⟨by (with_reducible repeat (first | apply Kd.R_alloc | apply Kd.R_drewN | apply Kd.R_drew)); exact HO_3.out⟩, ⟨by repeat (first | (with_reducible first | exact HB.out | apply below_alloc | apply pw_below_drewN | apply below_drew1) | exact HB.out)⟩⟩
              case round =>
                clear H'
                try clear c1
                try clear p2
                try clear c3
                try clear c3b0
                try clear c4
                try clear c5
                try clear c5b0
                try clear p2
                obtain ⟨x0_3, x5_3, rfl, rfl, HA, HK3, HO_3, HB⟩ := hrel
                cases gk with
                | zero => exact absurd HA.out (by simp [epicycleref05_Factor.l1])
                | succ k3 =>
                  have H := HA.out
                  clear HA
                  simp only [epicycleref05_Factor.l1] at H
                  by_cases c6 : x4_2 = 0
                  · rw [if_pos c6] at H
                    exact absurd H (by simp)
                  · rw [if_neg c6] at H
                    have c6b0 : (x4_2 == 0) = false := beq_eq_false_iff_ne.mpr c6
                    have c6b1 : (x4_2 != 0) = true := bne_iff_ne.mpr c6
                    by_cases c7 : (Int.tmod x0_3 x4_2) = 0
                    · rw [if_pos c7] at H
                      have c7b0 : ((Int.tmod x0_3 x4_2) == 0) = true := beq_iff_eq.mpr c7
                      have c7b1 : ((Int.tmod x0_3 x4_2) != 0) = false := bne_eq_false_iff_eq.mpr c7
                      clear c7
                      have H' := Aside0.mk H
                      clear H
                      go_wp2
                      go_roundg k3
                      case measure => have := HJ1.out; have := HK2.out; have := HK3.out; omega
                      case rel => exact ⟨(IntKind.u64.wrap (Int.tdiv x0_3 x4_2)), (wrap64 (x5_3 + 1)), (by first | rfl | (simp; done) | (simp [*]; done)), (by first | rfl | (simp; done) | (simp [*]; done)), H', ⟨by have := HJ1.out; have := HK2.out; have := HK3.out; omega⟩, ⟨by (with_reducible repeat (first | apply Kd.R_alloc | apply Kd.R_drewN | apply Kd.R_drew)); exact HO_3.out⟩, ⟨by repeat (first | (with_reducible first | exact HB.out | apply below_alloc | apply pw_below_drewN | apply below_drew1) | exact HB.out)⟩⟩
                    · rw [if_neg c7] at H
                      have c7b0 : ((Int.tmod x0_3 x4_2) == 0) = false := beq_eq_false_iff_ne.mpr c7
                      have c7b1 : ((Int.tmod x0_3 x4_2) != 0) = true := bne_iff_ne.mpr c7
                      by_cases c8 : x5_3 > 0
                      · rw [if_pos c8] at H
                        have c8b0 : decide (0 < x5_3) = true := decide_eq_true c8
                        clear c8
                        by_cases c9 : x3_2.length < 8796093022208
                        · rw [if_pos c9] at H
                          have LMc9 := Aside0.mk c9
                          clear c9
                          obtain ⟨y140, hy140⟩ : ∃ y_ : List (S34), y_ = (x3_2 ++ [(⟨x4_2, x5_3⟩ : S34)]) := ⟨_, rfl⟩
                          replace H : (epicycleref05_Factor.l0 k3 x0_3 y140 (IntKind.u64.wrap (x4_2 + 1))) = some r := by first | (rw [hy140]; with_reducible exact H) | (have H2_ := (Option.bind_some _ _).symm.trans H; rw [hy140]; with_reducible exact H2_) | (have H2_ := (Option.bind_some _ _).symm.trans H; with_reducible exact H2_) | with_reducible exact H | (rw [hy140]; exact H) | exact H
                          have Ny140 := Aside0.mk hy140
                          clear hy140
                          have H' := Aside0.mk H
                          clear H
                          go_wp2_with (first | ((with_reducible refine gate_builtin (b := .append) (xs := #[.tmp 31, .tmp 35]) rfl ?_); at_builtin; refine Kd.R_append k34 (w0 := w) w.heap.size rfl (.tmp 31) (.tmp 35) 30 34 (.agg #[(.int .u64 0), (.int .i64 0)]) 16 rfl Try.underlying30 info34 rfl (by decide) (by omega) u3 x3_2 (⟨x4_2, x5_3⟩ : S34) [.int .u64 x4_2, .int .i64 x5_3] (fun _ => True) (fun _ => False) rfl rfl ?aP (fun _ hk => hk.elim) ?aF ?aO ?aB ?aS ?aL ?_; (case aP => exact k34_mkM _ _ _ (⟨x4_2, x5_3⟩ : S34)); (case aB => exact (by repeat (first | (with_reducible first | exact HB.out | apply below_alloc | apply pw_below_drewN | apply below_drew1) | exact HB.out))); (case aF => exact (fun _ _ => trivial)); (case aO => exact (by (with_reducible repeat (first | apply Kd.R_alloc | apply Kd.R_drewN | apply Kd.R_drew)); exact HO_3.out)); (case aS => exact (below_size (by repeat (first | (with_reducible first | exact HB.out | apply below_alloc | apply pw_below_drewN | apply below_drew1) | exact HB.out)))); (case aL => have := LMc9.out; omega); intro v141 w10 ho hb hg hat; rw [← Ny140.out] at ho; have n0_ := Aside0.mk (hb); have n1_ := Aside0.mk (ho); clear HB; clear HO_3; have HB := n0_; have HO142 := n1_; clear n0_ n1_; clear ho hb hg hat))
                          go_roundg k3
                          case measure => have := HJ1.out; have := HK2.out; have := HK3.out; omega
                          case rel => exact ⟨(x0_3), (y140), (IntKind.u64.wrap (x4_2 + 1)), (by first | rfl | (simp; done) | (simp [*]; done)), (by first | rfl | (simp; done) | (simp [*]; done)), H', ⟨by have := HJ1.out; have := HK2.out; have := HK3.out; omega⟩, ⟨by (with_reducible repeat (first | apply Kd.R_alloc | apply Kd.R_drewN | apply Kd.R_drew)); exact HO142.out⟩, ⟨by repeat (first | (with_reducible first | exact HB.out | apply below_alloc | apply pw_below_drewN | apply below_drew1) | exact HB.out)⟩⟩
                        · rw [if_neg c9] at H
                          exact absurd H (by simp)
                      · rw [if_neg c8] at H
                        have c8b0 : decide (0 < x5_3) = false := decide_eq_false c8
                        clear c8
                        have H' := Aside0.mk H
                        clear H
                        go_wp2
                        go_roundg k3
                        case measure => have := HJ1.out; have := HK2.out; have := HK3.out; omega
                        case rel => exact ⟨(x0_3), (x3_2), (IntKind.u64.wrap (x4_2 + 1)), (by first | rfl | (simp; done) | (simp [*]; done)), (by first | rfl | (simp; done) | (simp [*]; done)), H', ⟨by have := HJ1.out; have := HK2.out; have := HK3.out; omega⟩, ⟨by (with_reducible repeat (first | apply Kd.R_alloc | apply Kd.R_drewN | apply Kd.R_drew)); exact HO_3.out⟩, ⟨by repeat (first | (with_reducible first | exact HB.out | apply below_alloc | apply pw_below_drewN | apply below_drew1) | exact HB.out)⟩⟩
            · rw [if_neg c5] at H
              have c5b0 : decide ((IntKind.u64.wrap (x4_2 * x4_2)) ≤ x0_2) = false := decide_eq_false c5
              clear c5
              by_cases c11 : x0_2 > 1
              · rw [if_pos c11] at H
                have c11b0 : decide (1 < x0_2) = true := decide_eq_true c11
                clear c11
                by_cases c12 : x3_2.length < 8796093022208
                · rw [if_pos c12] at H
                  have LMc12 := Aside0.mk c12
                  clear c12
                  obtain ⟨y143, hy143⟩ : ∃ y_ : List (S34), y_ = (x3_2 ++ [(⟨x0_2, 1⟩ : S34)]) := ⟨_, rfl⟩
                  replace H : (some y143) = some r := by first | (rw [hy143]; with_reducible exact H) | (have H2_ := (Option.bind_some _ _).symm.trans H; rw [hy143]; with_reducible exact H2_) | (have H2_ := (Option.bind_some _ _).symm.trans H; with_reducible exact H2_) | with_reducible exact H | (rw [hy143]; exact H) | exact H
                  have Ny143 := Aside0.mk hy143
                  clear hy143
                  obtain rfl := Option.some.inj H
                  go_wp2_with (first | ((with_reducible refine gate_builtin (b := .append) (xs := #[.tmp 39, .tmp 42]) rfl ?_); at_builtin; refine Kd.R_append k34 (w0 := w) w.heap.size rfl (.tmp 39) (.tmp 42) 30 34 (.agg #[(.int .u64 0), (.int .i64 0)]) 16 rfl Try.underlying30 info34 rfl (by decide) (by omega) u3 x3_2 (⟨x0_2, 1⟩ : S34) [.int .u64 x0_2, .int .i64 1] (fun _ => True) (fun _ => False) rfl rfl ?aP (fun _ hk => hk.elim) ?aF ?aO ?aB ?aS ?aL ?_; (case aP => exact k34_mkM _ _ _ (⟨x0_2, 1⟩ : S34)); (case aB => exact (by repeat (first | (with_reducible first | exact HB.out | apply below_alloc | apply pw_below_drewN | apply below_drew1) | exact HB.out))); (case aF => exact (fun _ _ => trivial)); (case aO => exact (by (with_reducible repeat (first | apply Kd.R_alloc | apply Kd.R_drewN | apply Kd.R_drew)); exact HO_3.out)); (case aS => exact (below_size (by repeat (first | (with_reducible first | exact HB.out | apply below_alloc | apply pw_below_drewN | apply below_drew1) | exact HB.out)))); (case aL => have := LMc12.out; omega); intro v144 w13 ho hb hg hat; rw [← Ny143.out] at ho; have n0_ := Aside0.mk (hb); have n1_ := Aside0.mk (ho); clear HB; clear HO_3; have HB := n0_; have HO145 := n1_; clear n0_ n1_; clear ho hb hg hat))
                  go_ret
                  exact ⟨_, by first | rfl | (simp [errW_none, errW_some] <;> rfl) | (simp [*, errW_none, errW_some] <;> rfl), by (with_reducible repeat (first | apply Kd.R_alloc | apply Kd.R_drewN | apply Kd.R_drew)); exact HO145.out, by repeat (first | (with_reducible first | exact HB.out | apply below_alloc | apply pw_below_drewN | apply below_drew1) | exact HB.out)⟩
                · rw [if_neg c12] at H
                  exact absurd H (by simp)
              · rw [if_neg c11] at H
                have c11b0 : decide (1 < x0_2) = false := decide_eq_false c11
                clear c11
                obtain rfl := Option.some.inj H
                go_wp2
                go_ret
                exact ⟨_, by first | rfl | (simp [errW_none, errW_some] <;> rfl) | (simp [*, errW_none, errW_some] <;> rfl), by (with_reducible repeat (first | apply Kd.R_alloc | apply Kd.R_drewN | apply Kd.R_drew)); exact HO_3.out, by repeat (first | (with_reducible first | exact HB.out | apply below_alloc | apply pw_below_drewN | apply below_drew1) | exact HB.out)⟩

end Go.Proofs.Ytcphlhphdpjnfaa.XS
