/- Parts of this claim's texts, packed by wip/tools/prune.py: what the proof does not reach is left out. -/
import Derived.Test.YtndkmnjbjlfeaaaPR5
import Derived.Laws.Externs
section
namespace Go.Proofs.Ytndkmnjbjlfeaaa.Given
open Go Go.RowKit Go.Proofs.YtndkmnjbjlfeaaaW.PrintWords Go.Proofs.YtndkmnjbjlfeaaaW.PrintLast Go.Proofs.YtndkmnjbjlfeaaaW.PrintMore
theorem qA {e : Ending} {w : World} {a b : Nat} : e = e ∧ ∃ k, (w.drewN a).drewN b = w.drewN k := ⟨rfl, _, World.drewN_drewN _ _ _⟩
theorem qB {e : Ending} {w : World} {a b c : Nat} : e = e ∧ ∃ k, (w.drewN (a + b)).drewN c = w.drewN (a + k) := ⟨rfl, b + c, (World.drewN_drewN _ _ _).trans (congrArg (World.drewN _) (Nat.add_assoc _ _ _))⟩
def bits_Add64.f (a b c : Int) : Option (Int × Int) :=
  if 0 ≤ a ∧ 0 ≤ b ∧ 0 ≤ c ∧ c ≤ 1 then some ((a + b + c) % 18446744073709551616, (a + b + c) / 18446744073709551616) else none
theorem bits_Add64.run (a b c r1 r2 : Int) (w : World) (h : bits_Add64.f a b c = some (r1, r2)) :
    (callFunc 85 #[.int .u64 a, .int .u64 b, .int .u64 c]).run Try.prog w = .ok (.value (.tuple #[.int .u64 r1, .int .u64 r2])) w := by
  unfold bits_Add64.f at h
  by_cases h0 : 0 ≤ a ∧ 0 ≤ b ∧ 0 ≤ c ∧ c ≤ 1
  · rw [if_pos h0] at h
    obtain ⟨h0, h1, h2, h3⟩ := h0
    simp only [Option.some.injEq, Prod.mk.injEq] at h
    obtain ⟨rfl, rfl⟩ := h
    rw [run_callFunc_extern Try.func85 (by kernel_rfl) (by kernel_rfl) (by kernel_rfl) (e := add64Entry) (by kernel_rfl), run_add64 a b c h0 h1 h2 h3]
    rfl
  · rw [if_neg h0] at h; cases h
def bits_Mul64.f (a b : Int) : Option (Int × Int) :=
  if 0 ≤ a ∧ a < 18446744073709551616 ∧ 0 ≤ b ∧ b < 18446744073709551616 then some (a * b / 18446744073709551616, a * b % 18446744073709551616) else none
theorem bits_Mul64.calls (a0 a1 r1 r2 : Int) (w : World) (h : bits_Mul64.f a0 a1 = some (r1, r2)) :
    Calls Try.prog 42 #[.int .u64 a0, .int .u64 a1] w fun e w' => e = .returned (.tuple #[.int .u64 r1, .int .u64 r2]) ∧ Drawn0 w w' := by
  unfold bits_Mul64.f at h
  by_cases h0 : 0 ≤ a0 ∧ a0 < 18446744073709551616 ∧ 0 ≤ a1 ∧ a1 < 18446744073709551616
  · rw [if_pos h0] at h
    obtain ⟨h0, h1, h2, h3⟩ := h0
    simp only [Option.some.injEq, Prod.mk.injEq] at h
    obtain ⟨rfl, rfl⟩ := h
    obtain ⟨x, rfl⟩ := Int.eq_ofNat_of_zero_le h0
    obtain ⟨y, rfl⟩ := Int.eq_ofNat_of_zero_le h2
    refine (Try.bits_Mul64 x y (by omega) (by omega) w).mono ?_
    rintro e w' ⟨rfl, rfl⟩
    refine ⟨?_, Drawn0.refl _⟩
    rw [Int.natCast_ediv, Int.natCast_emod, Int.natCast_mul]
    rfl
  · rw [if_neg h0] at h; cases h
def bits_LeadingZeros64.f (a : Int) : Option Int :=
  if 0 ≤ a ∧ a ≤ 18446744073709551615 then some (64 - (Lib.bitLen a.toNat : Int)) else none
theorem bits_LeadingZeros64.calls (a0 r : Int) (w : World) (h : bits_LeadingZeros64.f a0 = some r) :
    Calls Try.prog 81 #[.int .u64 a0] w fun e w' => e = .returned (.int .i64 r) ∧ Drawn0 w w' := by
  unfold bits_LeadingZeros64.f at h
  by_cases h0 : 0 ≤ a0 ∧ a0 ≤ 18446744073709551615
  · rw [if_pos h0] at h
    obtain rfl := Option.some.inj h
    refine (Try.bits_LeadingZeros64 a0 w h0.1 h0.2).mono ?_
    rintro e w' ⟨rfl, rfl⟩
    exact ⟨rfl, Drawn0.refl _⟩
  · rw [if_neg h0] at h; cases h
end Go.Proofs.Ytndkmnjbjlfeaaa.Given
end
section
namespace Go.Proofs.Ytndkmnjbjlfeaaa.XS
open Go.RowKit Go.Proofs.Ytndkmnjbjlfeaaa.Given Go.Proofs.YtndkmnjbjlfeaaaW.PrintWords Go.Proofs.YtndkmnjbjlfeaaaW.PrintLast Go.Proofs.YtndkmnjbjlfeaaaW.PrintMore
attribute [local go_sem] max2_int min2_int max_two min_two max_three min_three max_four min_four   -- for this text's walks alone
set_option linter.unusedVariables false
set_option linter.unusedSimpArgs false
mutual
def sieve_Factor.j0 : Nat → Int → Bool → Option ((List (S75)))
 | 0, _, _ => none
 | k + 1, x0, x11 => if x11 = true then (some ([] : List (S75))) else (sieve_Factor.l0 k x0 ([] : List (S75)) 2)
def sieve_Factor.l0 : Nat → Int → List (S75) → Int → Option ((List (S75)))
 | 0, _, _, _ => none
 | k + 1, x0, x3, x4 => if x0 > 1 then (if (IntKind.u64.wrap (x4 * x4)) > x0 then (sieve_Factor.j2 k x0 x3 x0) else (sieve_Factor.j2 k x0 x3 x4)) else (some x3)
def sieve_Factor.j2 : Nat → Int → List (S75) → Int → Option ((List (S75)))
 | 0, _, _, _ => none
 | k + 1, x0, x3, x4 => sieve_Factor.l1 k x0 x3 x4 0
def sieve_Factor.l1 : Nat → Int → List (S75) → Int → Int → Option ((List (S75)))
 | 0, _, _, _, _ => none
 | k + 1, x0, x3, x4, x5 => if x4 = 0 then (none) else (if (Int.tmod x0 x4) = 0 then (sieve_Factor.l1 k (IntKind.u64.wrap (Int.tdiv x0 x4)) x3 x4 (wrap64 (x5 + 1))) else (if x5 > 0 then (if x3.length < 8796093022208 then (sieve_Factor.l0 k x0 (x3 ++ [(⟨x4, x5⟩ : S75)]) (IntKind.u64.wrap (x4 + 1))) else (none)) else (sieve_Factor.l0 k x0 x3 (IntKind.u64.wrap (x4 + 1)))))
end
def sieve_Factor.f (k : Nat) (a0 : Int) : Option ((List (S75))) := if a0 < 2 then (sieve_Factor.j0 k a0 true) else (sieve_Factor.j0 k a0 (decide (a0 > 4294967296)))
theorem sieve_Factor.mono_l : ∀ k, (∀ y0 y1, LeO (sieve_Factor.j0 k y0 y1) (sieve_Factor.j0 (k + 1) y0 y1)) ∧ (∀ y0 y1 y2, LeO (sieve_Factor.l0 k y0 y1 y2) (sieve_Factor.l0 (k + 1) y0 y1 y2)) ∧ (∀ y0 y1 y2, LeO (sieve_Factor.j2 k y0 y1 y2) (sieve_Factor.j2 (k + 1) y0 y1 y2)) ∧ (∀ y0 y1 y2 y3, LeO (sieve_Factor.l1 k y0 y1 y2 y3) (sieve_Factor.l1 (k + 1) y0 y1 y2 y3))
 | 0 => ⟨fun _ _ r h => by simp [sieve_Factor.j0] at h, fun _ _ _ r h => by simp [sieve_Factor.l0] at h, fun _ _ _ r h => by simp [sieve_Factor.j2] at h, fun _ _ _ _ r h => by simp [sieve_Factor.l1] at h⟩
 | k + 1 => by
  obtain ⟨ih0, ih1, ih2, ih3⟩ := sieve_Factor.mono_l k
  refine ⟨?_, ?_, ?_, ?_⟩
  ·intro y0 y1
   unfold sieve_Factor.j0
   repeat' first
   | (with_reducible exact ih0 _ _)
   | (with_reducible exact ih1 _ _ _)
   | (with_reducible exact ih2 _ _ _)
   | (with_reducible exact ih3 _ _ _ _)
   | (with_reducible exact LeO.refl _)
   | (with_reducible exact LeO.none _)
   | (with_reducible refine LeO.ite ?_ ?_)
   | (with_reducible refine LeO.bind ?_ (fun _ => ?_))
   | exact ih0 _ _
   | exact ih1 _ _ _
   | exact ih2 _ _ _
   | exact ih3 _ _ _ _
   | exact LeO.none _
   | refine LeO.ite ?_ ?_
   | refine LeO.bind ?_ (fun _ => ?_)
  ·intro y0 y1 y2
   unfold sieve_Factor.l0
   repeat' first
   | (with_reducible exact ih0 _ _)
   | (with_reducible exact ih1 _ _ _)
   | (with_reducible exact ih2 _ _ _)
   | (with_reducible exact ih3 _ _ _ _)
   | (with_reducible exact LeO.refl _)
   | (with_reducible exact LeO.none _)
   | (with_reducible refine LeO.ite ?_ ?_)
   | (with_reducible refine LeO.bind ?_ (fun _ => ?_))
   | exact ih0 _ _
   | exact ih1 _ _ _
   | exact ih2 _ _ _
   | exact ih3 _ _ _ _
   | exact LeO.none _
   | refine LeO.ite ?_ ?_
   | refine LeO.bind ?_ (fun _ => ?_)
  ·intro y0 y1 y2
   unfold sieve_Factor.j2
   repeat' first
   | (with_reducible exact ih0 _ _)
   | (with_reducible exact ih1 _ _ _)
   | (with_reducible exact ih2 _ _ _)
   | (with_reducible exact ih3 _ _ _ _)
   | (with_reducible exact LeO.refl _)
   | (with_reducible exact LeO.none _)
   | (with_reducible refine LeO.ite ?_ ?_)
   | (with_reducible refine LeO.bind ?_ (fun _ => ?_))
   | exact ih0 _ _
   | exact ih1 _ _ _
   | exact ih2 _ _ _
   | exact ih3 _ _ _ _
   | exact LeO.none _
   | refine LeO.ite ?_ ?_
   | refine LeO.bind ?_ (fun _ => ?_)
  ·intro y0 y1 y2 y3
   unfold sieve_Factor.l1
   repeat' first
   | (with_reducible exact ih0 _ _)
   | (with_reducible exact ih1 _ _ _)
   | (with_reducible exact ih2 _ _ _)
   | (with_reducible exact ih3 _ _ _ _)
   | (with_reducible exact LeO.refl _)
   | (with_reducible exact LeO.none _)
   | (with_reducible refine LeO.ite ?_ ?_)
   | (with_reducible refine LeO.bind ?_ (fun _ => ?_))
   | exact ih0 _ _
   | exact ih1 _ _ _
   | exact ih2 _ _ _
   | exact ih3 _ _ _ _
   | exact LeO.none _
   | refine LeO.ite ?_ ?_
   | refine LeO.bind ?_ (fun _ => ?_)
theorem sieve_Factor.mono : ∀ a0 k, LeO (sieve_Factor.f k a0) (sieve_Factor.f (k + 1) a0) := by
 intro a0 k
 obtain ⟨ih0, ih1, ih2, ih3⟩ := sieve_Factor.mono_l k
 unfold sieve_Factor.f
 repeat' first
   | (with_reducible exact ih0 _ _)
   | (with_reducible exact ih1 _ _ _)
   | (with_reducible exact ih2 _ _ _)
   | (with_reducible exact ih3 _ _ _ _)
   | (with_reducible exact LeO.refl _)
   | (with_reducible exact LeO.none _)
   | (with_reducible refine LeO.ite ?_ ?_)
   | (with_reducible refine LeO.bind ?_ (fun _ => ?_))
   | exact ih0 _ _
   | exact ih1 _ _ _
   | exact ih2 _ _ _
   | exact ih3 _ _ _ _
   | exact LeO.none _
   | refine LeO.ite ?_ ?_
   | refine LeO.bind ?_ (fun _ => ?_)
set_option maxHeartbeats 8000000 in
set_option maxRecDepth 100000 in
theorem sieve_Factor.calls (k : Nat) (a0 : Int) (r : List (S75)) (w : World) (h : sieve_Factor.f k a0 = some r) :
  Calls Try.prog 35 #[.int .u64 a0] w fun e w' => ∃ v0_ : Value, e = .returned (v0_) ∧ Kd.R k75 75 w' w.heap.size (fun _ => True) v0_ r ∧ Below w.heap.size w w' := by
 have hu75 := Try.underlying75
 have HB := Aside0.mk (Below.refl w.heap.size w)
 have H : (if a0 < 2 then (sieve_Factor.j0 k a0 true) else (sieve_Factor.j0 k a0 (decide (a0 > 4294967296)))) = some r := h
 clear h
 have HC2 := Aside0.mk H
 clear H
 go_enter Try.func35, Try.ntmps35
 go_upto_region 1 with (fail)
 go_cut [11] (fun v11 wc => ∃ (kq : Nat) (x11_1 : Bool), v11 = .bool x11_1 ∧ Aside0 (sieve_Factor.j0 kq a0 x11_1 = some r) ∧ Aside0 (kq ≤ k) ∧ Aside0 (Below w.heap.size w wc))
 case first =>
  have H := HC2.out
  clear HC2
  by_cases c3 : a0 < 2
  ·rw [if_pos c3] at H
   have c3b0 : decide (a0 < 2) = true := decide_eq_true c3
   clear c3
   (first | rw [c3b0] | (simp only [i64_w, i32_w]; rw [c3b0]) | skip)
   have H' := Aside0.mk H
   clear H
   go_wp2
   go_meet
   case rel => exact ⟨_, (true), (by first | rfl | (simp; done) | (simp [*]; done)), H', ⟨by first | omega | exact Nat.le_refl _⟩, ⟨by repeat (first | (with_reducible first | exact HB.out | apply below_alloc | apply pw_below_drewN | apply below_drew1) | exact HB.out)⟩⟩
  ·rw [if_neg c3] at H
   have c3b0 : decide (a0 < 2) = false := decide_eq_false c3
   clear c3
   (first | rw [c3b0] | (simp only [i64_w, i32_w]; rw [c3b0]) | skip)
   have H' := Aside0.mk H
   clear H
   go_wp2
   go_meet
   case rel => exact ⟨_, (decide (a0 > 4294967296)), (by first | rfl | (simp; done) | (simp [*]; done)), H', ⟨by first | omega | exact Nat.le_refl _⟩, ⟨by repeat (first | (with_reducible first | exact HB.out | apply below_alloc | apply pw_below_drewN | apply below_drew1) | exact HB.out)⟩⟩
 case rest =>
  clear HC2
  try clear p2
  try clear c3
  try clear c3b0
  obtain ⟨kq, x11_1, rfl, HA, HJ1, HB⟩ := hcut
  cases kq with
  | zero => exact absurd HA.out (by simp [sieve_Factor.j0])
  | succ kj1 =>
   have H := HA.out
   clear HA
   simp only [sieve_Factor.j0] at H
   by_cases c4 : x11_1 = true
   ·subst c4
    have H1 : (some ([] : List (S75))) = some r := by rw [if_pos rfl] at H <;> exact H
    clear H
    have H := H1
    clear H1
    obtain rfl := Option.some.inj H
    go_wp2
    go_ret
    exact ⟨_, by first | rfl | (simp [errW_none, errW_some] <;> rfl) | (simp [*, errW_none, errW_some] <;> rfl), by first | exact Kd.R_nil _ _ _ _ _ | exact Kd.N_nil _ _ _ _ _ | exact Kd.V_nil _ _ _ _ _ | exact Kd.Q_nil _ _ _ _ _ | exact Kd.S_nil _ _ _ _ _, by repeat (first | (with_reducible first | exact HB.out | apply below_alloc | apply pw_below_drewN | apply below_drew1) | exact HB.out)⟩
   ·replace c4 := Bool.eq_false_iff.mpr c4
    subst c4
    have H1 : (sieve_Factor.l0 kj1 a0 ([] : List (S75)) 2) = some r := by rw [if_neg (show ¬ (false = true) by decide)] at H <;> exact H
    clear H
    have H := H1
    clear H1
    have H' := Aside0.mk H
    clear H
    go_wp2
    go_loopg [0, 3, 4] kj1 (fun kq v0 v3 v4 w' => ∃ (x0_2 : Int) (x3_2 : List (S75)) (x4_2 : Int), v0 = .int .u64 x0_2 ∧ v4 = .int .u64 x4_2 ∧ Aside0 (sieve_Factor.l0 kq x0_2 x3_2 x4_2 = some r) ∧ Aside0 (kq ≤ kj1) ∧ Aside0 (Kd.R k75 75 w' w.heap.size (fun _ => True) v3 x3_2) ∧ Aside0 (Below w.heap.size w w'))
    case atStart => exact ⟨(a0), (([] : List (S75))), (2), (by first | rfl | (simp; done) | (simp [*]; done)), (by first | rfl | (simp; done) | (simp [*]; done)), H', ⟨Nat.le_refl _⟩, ⟨by first | exact Kd.R_nil _ _ _ _ _ | exact Kd.N_nil _ _ _ _ _ | exact Kd.V_nil _ _ _ _ _ | exact Kd.Q_nil _ _ _ _ _ | exact Kd.S_nil _ _ _ _ _⟩, ⟨by repeat (first | (with_reducible first | exact HB.out | apply below_alloc | apply pw_below_drewN | apply below_drew1) | exact HB.out)⟩⟩
    case round =>
     clear H'
     try clear p2
     try clear c3
     try clear c3b0
     try clear c4
     try clear p2
     obtain ⟨x0_2, x3_2, x4_2, rfl, rfl, HA, HK2, HO_3, HB⟩ := hrel
     cases gk with
     | zero => exact absurd HA.out (by simp [sieve_Factor.l0])
     | succ k2 =>
      have H := HA.out
      clear HA
      simp only [sieve_Factor.l0] at H
      by_cases c5 : x0_2 > 1
      ·rw [if_pos c5] at H
       have c5b0 : decide (1 < x0_2) = true := decide_eq_true c5
       clear c5
       have HC6 := Aside0.mk H
       clear H
       go_upto_if 20 with (fail)
       go_cut [4] (fun v4 wc => ∃ (kq : Nat) (x4_5 : Int), v4 = .int .u64 x4_5 ∧ Aside0 (sieve_Factor.j2 kq x0_2 x3_2 x4_5 = some r) ∧ Aside0 (kq ≤ k2) ∧ Aside0 (Kd.R k75 75 wc w.heap.size (fun _ => True) u3 x3_2) ∧ Aside0 (Below w.heap.size w wc))
       case first =>
        have H := HC6.out
        clear HC6
        by_cases c7 : (IntKind.u64.wrap (x4_2 * x4_2)) > x0_2
        ·rw [if_pos c7] at H
         have c7b0 : decide (x0_2 < (IntKind.u64.wrap (x4_2 * x4_2))) = true := decide_eq_true c7
         clear c7
         (first | rw [c7b0] | (simp only [i64_w, i32_w]; rw [c7b0]) | skip)
         have H' := Aside0.mk H
         clear H
         go_wp2
         go_meet
         case rel => exact ⟨_, (x0_2), (by first | rfl | (simp; done) | (simp [*]; done)), H', ⟨by have := HJ1.out; have := HK2.out; first | omega | exact Nat.le_refl _⟩, ⟨by (with_reducible repeat (first | apply Kd.R_alloc | apply Kd.R_drewN | apply Kd.R_drew)); exact HO_3.out⟩, ⟨by repeat (first | (with_reducible first | exact HB.out | apply below_alloc | apply pw_below_drewN | apply below_drew1) | exact HB.out)⟩⟩
        ·rw [if_neg c7] at H
         have c7b0 : decide (x0_2 < (IntKind.u64.wrap (x4_2 * x4_2))) = false := decide_eq_false c7
         clear c7
         (first | rw [c7b0] | (simp only [i64_w, i32_w]; rw [c7b0]) | skip)
         have H' := Aside0.mk H
         clear H
         go_wp2
         go_meet
         case rel => exact ⟨_, (x4_2), (by first | rfl | (simp; done) | (simp [*]; done)), H', ⟨by have := HJ1.out; have := HK2.out; first | omega | exact Nat.le_refl _⟩, ⟨by (with_reducible repeat (first | apply Kd.R_alloc | apply Kd.R_drewN | apply Kd.R_drew)); exact HO_3.out⟩, ⟨by repeat (first | (with_reducible first | exact HB.out | apply below_alloc | apply pw_below_drewN | apply below_drew1) | exact HB.out)⟩⟩
       case rest =>
        clear HC6
        try clear p2
        try clear c3
        try clear c3b0
        try clear c4
        try clear c5
        try clear c5b0
        try clear c7
        try clear c7b0
        try clear p2
        obtain ⟨kq, x4_5, rfl, HA, HJ5, HO_3, HB⟩ := hcut
        cases kq with
        | zero => exact absurd HA.out (by simp [sieve_Factor.j2])
        | succ kj5 =>
         have H := HA.out
         clear HA
         simp only [sieve_Factor.j2] at H
         have H' := Aside0.mk H
         clear H
         go_wp2
         go_loopg [0, 5] kj5 (fun kq v0 v5 w' => ∃ (x0_4 : Int) (x5_4 : Int), v0 = .int .u64 x0_4 ∧ v5 = .int .i64 x5_4 ∧ Aside0 (sieve_Factor.l1 kq x0_4 x3_2 x4_5 x5_4 = some r) ∧ Aside0 (kq ≤ kj5) ∧ Aside0 (Kd.R k75 75 w' w.heap.size (fun _ => True) u3 x3_2) ∧ Aside0 (Below w.heap.size w w'))
         case atStart => exact ⟨(x0_2), (0), (by first | rfl | (simp; done) | (simp [*]; done)), (by first | rfl | (simp; done) | (simp [*]; done)), H', ⟨Nat.le_refl _⟩, ⟨by (with_reducible repeat (first | apply Kd.R_alloc | apply Kd.R_drewN | apply Kd.R_drew)); exact HO_3.out⟩, ⟨by repeat (first | (with_reducible first | exact HB.out | apply below_alloc | apply pw_below_drewN | apply below_drew1) | exact HB.out)⟩⟩
         case round =>
          clear H'
          try clear p2
          try clear c3
          try clear c3b0
          try clear c4
          try clear c5
          try clear c5b0
          try clear c7
          try clear c7b0
          try clear p2
          obtain ⟨x0_4, x5_4, rfl, rfl, HA, HK4, HO_3, HB⟩ := hrel
          cases gk with
          | zero => exact absurd HA.out (by simp [sieve_Factor.l1])
          | succ k4 =>
           have H := HA.out
           clear HA
           simp only [sieve_Factor.l1] at H
           by_cases c8 : x4_5 = 0
           ·rw [if_pos c8] at H
            exact absurd H (by simp)
           ·rw [if_neg c8] at H
            have c8b0 : (x4_5 == 0) = false := beq_eq_false_iff_ne.mpr c8
            have c8b1 : (x4_5 != 0) = true := bne_iff_ne.mpr c8
            by_cases c9 : (Int.tmod x0_4 x4_5) = 0
            ·rw [if_pos c9] at H
             have c9b0 : ((Int.tmod x0_4 x4_5) == 0) = true := beq_iff_eq.mpr c9
             have c9b1 : ((Int.tmod x0_4 x4_5) != 0) = false := bne_eq_false_iff_eq.mpr c9
             clear c9
             have H' := Aside0.mk H
             clear H
             go_wp2
             go_roundg k4
             case measure => have := HJ1.out; have := HK2.out; have := HJ5.out; have := HK4.out; omega
             case rel => exact ⟨(IntKind.u64.wrap (Int.tdiv x0_4 x4_5)), (wrap64 (x5_4 + 1)), (by first | rfl | (simp; done) | (simp [*]; done)), (by first | rfl | (simp; done) | (simp [*]; done)), H', ⟨by have := HJ1.out; have := HK2.out; have := HJ5.out; have := HK4.out; omega⟩, ⟨by (with_reducible repeat (first | apply Kd.R_alloc | apply Kd.R_drewN | apply Kd.R_drew)); exact HO_3.out⟩, ⟨by repeat (first | (with_reducible first | exact HB.out | apply below_alloc | apply pw_below_drewN | apply below_drew1) | exact HB.out)⟩⟩
            ·rw [if_neg c9] at H
             have c9b0 : ((Int.tmod x0_4 x4_5) == 0) = false := beq_eq_false_iff_ne.mpr c9
             have c9b1 : ((Int.tmod x0_4 x4_5) != 0) = true := bne_iff_ne.mpr c9
             by_cases c10 : x5_4 > 0
             ·rw [if_pos c10] at H
              have c10b0 : decide (0 < x5_4) = true := decide_eq_true c10
              clear c10
              by_cases c11 : x3_2.length < 8796093022208
              ·rw [if_pos c11] at H
               have LMc11 := Aside0.mk c11
               clear c11
               obtain ⟨y101, hy101⟩ : ∃ y_ : List (S75), y_ = (x3_2 ++ [(⟨x4_5, x5_4⟩ : S75)]) := ⟨_, rfl⟩
               replace H : (sieve_Factor.l0 k4 x0_4 y101 (IntKind.u64.wrap (x4_5 + 1))) = some r := by first | (rw [hy101]; with_reducible exact H) | (have H2_ := (Option.bind_some _ _).symm.trans H; rw [hy101]; with_reducible exact H2_) | (have H2_ := (Option.bind_some _ _).symm.trans H; with_reducible exact H2_) | with_reducible exact H | (rw [hy101]; exact H) | exact H
               have Ny101 := Aside0.mk hy101
               clear hy101
               have H' := Aside0.mk H
               clear H
               go_wp2_with (first | ((with_reducible refine gate_builtin (b := .append) (xs := #[.tmp 33, .tmp 37]) rfl ?_); at_builtin; refine Kd.R_append k75 (w0 := w) w.heap.size rfl (.tmp 33) (.tmp 37) 56 75 (.agg #[(.int .u64 0), (.int .i64 0)]) 16 rfl Try.underlying56 info75 rfl (by decide) (by omega) u3 x3_2 (⟨x4_5, x5_4⟩ : S75) [.int .u64 x4_5, .int .i64 x5_4] (fun _ => True) (fun _ => False) rfl rfl ?aP (fun _ hk => hk.elim) ?aF ?aO ?aB ?aS ?aL ?_; (case aP => exact k75_mkM _ _ _ (⟨x4_5, x5_4⟩ : S75)); (case aB => exact (by repeat (first | (with_reducible first | exact HB.out | apply below_alloc | apply pw_below_drewN | apply below_drew1) | exact HB.out))); (case aF => exact (fun _ _ => trivial)); (case aO => exact (by (with_reducible repeat (first | apply Kd.R_alloc | apply Kd.R_drewN | apply Kd.R_drew)); exact HO_3.out)); (case aS => exact (below_size (by repeat (first | (with_reducible first | exact HB.out | apply below_alloc | apply pw_below_drewN | apply below_drew1) | exact HB.out)))); (case aL => have := LMc11.out; omega); intro v102 w12 ho hb hg hat; rw [← Ny101.out] at ho; have n0_ := Aside0.mk (hb); have n1_ := Aside0.mk (ho); clear HB; clear HO_3; have HB := n0_; have HO103 := n1_; clear n0_ n1_; clear ho hb hg hat))
               go_roundg k4
               case measure => have := HJ1.out; have := HK2.out; have := HJ5.out; have := HK4.out; omega
               case rel => exact ⟨(x0_4), (y101), (IntKind.u64.wrap (x4_5 + 1)), (by first | rfl | (simp; done) | (simp [*]; done)), (by first | rfl | (simp; done) | (simp [*]; done)), H', ⟨by have := HJ1.out; have := HK2.out; have := HJ5.out; have := HK4.out; omega⟩, ⟨by (with_reducible repeat (first | apply Kd.R_alloc | apply Kd.R_drewN | apply Kd.R_drew)); exact HO103.out⟩, ⟨by repeat (first | (with_reducible first | exact HB.out | apply below_alloc | apply pw_below_drewN | apply below_drew1) | exact HB.out)⟩⟩
              ·rw [if_neg c11] at H
               exact absurd H (by simp)
             ·rw [if_neg c10] at H
              have c10b0 : decide (0 < x5_4) = false := decide_eq_false c10
              clear c10
              have H' := Aside0.mk H
              clear H
              go_wp2
              go_roundg k4
              case measure => have := HJ1.out; have := HK2.out; have := HJ5.out; have := HK4.out; omega
              case rel => exact ⟨(x0_4), (x3_2), (IntKind.u64.wrap (x4_5 + 1)), (by first | rfl | (simp; done) | (simp [*]; done)), (by first | rfl | (simp; done) | (simp [*]; done)), H', ⟨by have := HJ1.out; have := HK2.out; have := HJ5.out; have := HK4.out; omega⟩, ⟨by (with_reducible repeat (first | apply Kd.R_alloc | apply Kd.R_drewN | apply Kd.R_drew)); exact HO_3.out⟩, ⟨by repeat (first | (with_reducible first | exact HB.out | apply below_alloc | apply pw_below_drewN | apply below_drew1) | exact HB.out)⟩⟩
      ·rw [if_neg c5] at H
       have c5b0 : decide (1 < x0_2) = false := decide_eq_false c5
       clear c5
       obtain rfl := Option.some.inj H
       go_wp2
       go_ret
       exact ⟨_, by first | rfl | (simp [errW_none, errW_some] <;> rfl) | (simp [*, errW_none, errW_some] <;> rfl), by (with_reducible repeat (first | apply Kd.R_alloc | apply Kd.R_drewN | apply Kd.R_drew)); exact HO_3.out, by repeat (first | (with_reducible first | exact HB.out | apply below_alloc | apply pw_below_drewN | apply below_drew1) | exact HB.out)⟩
def sieve_Prime.f (k : Nat) (a0 : Int) : Option (Bool) := (sieve_Factor.f k a0).bind fun t104 => (if (t104.length : Int) = 1 then (if 0 < (t104.length : Int) then (some (((rd_T75 t104 0).f1) == 1)) else (none)) else (some false))
theorem sieve_Prime.mono : ∀ a0 k, LeO (sieve_Prime.f k a0) (sieve_Prime.f (k + 1) a0) := by
 intro a0 k
 unfold sieve_Prime.f
 repeat' first
   | (with_reducible exact sieve_Factor.mono _ _)
   | (with_reducible exact LeO.refl _)
   | (with_reducible exact LeO.none _)
   | (with_reducible refine LeO.ite ?_ ?_)
   | (with_reducible refine LeO.bind ?_ (fun _ => ?_))
   | exact sieve_Factor.mono _ _
   | exact LeO.none _
   | refine LeO.ite ?_ ?_
   | refine LeO.bind ?_ (fun _ => ?_)
set_option maxHeartbeats 8000000 in
set_option maxRecDepth 100000 in
theorem sieve_Prime.calls (k : Nat) (a0 : Int) (r : Bool) (w : World) (h : sieve_Prime.f k a0 = some r) :
  Calls Try.prog 34 #[.int .u64 a0] w fun e w' => e = .returned (.bool r) ∧ Below w.heap.size w w' := by
 have HB := Aside0.mk (Below.refl w.heap.size w)
 have H : ((sieve_Factor.f k a0).bind fun t104 => (if (t104.length : Int) = 1 then (if 0 < (t104.length : Int) then (some (((rd_T75 t104 0).f1) == 1)) else (none)) else (some false))) = some r := h
 clear h
 replace H := Option.bind_eq_some_iff.mp H
 obtain ⟨t104, A20, H⟩ := H
 replace H : (if (t104.length : Int) = 1 then (if 0 < (t104.length : Int) then (some (((rd_T75 t104 0).f1) == 1)) else (none)) else (some false)) = some r := H
 have A2 := Aside0.mk A20
 clear A20
 by_cases c3 : (t104.length : Int) = 1
 ·rw [if_pos c3] at H
  have c3b0 : ((t104.length : Int) == 1) = true := beq_iff_eq.mpr c3
  have c3b1 : ((t104.length : Int) != 1) = false := bne_eq_false_iff_eq.mpr c3
  clear c3
  by_cases c4 : 0 < (t104.length : Int)
  ·rw [if_pos c4] at H
   have c4b0 : decide (0 < (t104.length : Int)) = true := decide_eq_true c4
   have c4b1 : decide (0 < t104.length) = true := decide_eq_true (by omega)
   clear c4
   obtain rfl := Option.some.inj H
   go_enter Try.func34, Try.ntmps34
   go_wp2_with (first | ((with_reducible refine gate_callee (f := 35) rfl ?_); refine goesL_ (some 5) rfl rfl Try.func35 (by kernel_rfl) rfl #[.int .u64 a0] rfl (by (try simp only [List.map_toArray, List.map_cons, List.map_nil]); first | done | rfl | (simp only [List.length_drop, List.length_take]; rfl)) ?_; (with_reducible refine (sieve_Factor.calls k a0 t104 _ A2.out).mono ?_); rintro e w5 ⟨v105, rfl, ho0, hb⟩; refine ⟨_, rfl, ?_⟩; have n0_ := Aside0.mk (Kd.R_lower ho0 (below_size (by repeat (first | (with_reducible first | exact HB.out | apply below_alloc | apply pw_below_drewN | apply below_drew1) | exact HB.out)))); have n1_ := Aside0.mk (below_step (by repeat (first | (with_reducible first | exact HB.out | apply below_alloc | apply pw_below_drewN | apply below_drew1) | exact HB.out)) hb); clear HB; have HO106 := n0_; have HB := n1_; clear n0_ n1_; (try clear hb); (try clear hb2); (try clear hk); (try clear hi); (try clear ho0); obtain ⟨Ao6, co6, eo6⟩ := Kd.R_slice HO106.out; subst eo6; have p107 : 0 ≤ (0 : Int) := (by omega); have q107 : 0 < (t104.length : Int) := of_decide_eq_true (by first | (with_reducible assumption) | assumption); obtain ⟨ad107, e107, hx107_0, hx107_1⟩ := at_T75 (Kd.R_reads' HO106.out).2.2 0 p107 q107; cases e107; have qi107 : (0 < t104.length) = True := eq_true (by omega); (try rw [show ((0 : Int)).toNat = 0 from rfl] at hx107_0); (try rw [show 0 * 2 = 0 from rfl] at hx107_0); (try rw [Addr.add_zero'] at hx107_0); (try rw [show ((0 : Int)).toNat = 0 from rfl] at hx107_1); (try rw [show 0 * 2 = 0 from rfl] at hx107_1); (try rw [Addr.add_zero'] at hx107_1); replace p107 := eq_true p107; replace q107 := eq_true q107))
   go_ret
   exact ⟨by first | rfl | (simp [errW_none, errW_some] <;> rfl) | (simp [*, errW_none, errW_some] <;> rfl), by repeat (first | (with_reducible first | exact HB.out | apply below_alloc | apply pw_below_drewN | apply below_drew1) | exact HB.out)⟩
  ·rw [if_neg c4] at H
   exact absurd H (by simp)
 ·rw [if_neg c3] at H
  have c3b0 : ((t104.length : Int) == 1) = false := beq_eq_false_iff_ne.mpr c3
  have c3b1 : ((t104.length : Int) != 1) = true := bne_iff_ne.mpr c3
  obtain rfl := Option.some.inj H
  go_enter Try.func34, Try.ntmps34
  go_wp2_with (first | ((with_reducible refine gate_callee (f := 35) rfl ?_); refine goesL_ (some 5) rfl rfl Try.func35 (by kernel_rfl) rfl #[.int .u64 a0] rfl (by (try simp only [List.map_toArray, List.map_cons, List.map_nil]); first | done | rfl | (simp only [List.length_drop, List.length_take]; rfl)) ?_; (with_reducible refine (sieve_Factor.calls k a0 t104 _ A2.out).mono ?_); rintro e w7 ⟨v105, rfl, ho0, hb⟩; refine ⟨_, rfl, ?_⟩; have n0_ := Aside0.mk (Kd.R_lower ho0 (below_size (by repeat (first | (with_reducible first | exact HB.out | apply below_alloc | apply pw_below_drewN | apply below_drew1) | exact HB.out)))); have n1_ := Aside0.mk (below_step (by repeat (first | (with_reducible first | exact HB.out | apply below_alloc | apply pw_below_drewN | apply below_drew1) | exact HB.out)) hb); clear HB; have HO106 := n0_; have HB := n1_; clear n0_ n1_; (try clear hb); (try clear hb2); (try clear hk); (try clear hi); (try clear ho0); obtain ⟨Ao8, co8, eo8⟩ := Kd.R_slice HO106.out; subst eo8))
  go_ret
  exact ⟨by first | rfl | (simp [errW_none, errW_some] <;> rfl) | (simp [*, errW_none, errW_some] <;> rfl), by repeat (first | (with_reducible first | exact HB.out | apply below_alloc | apply pw_below_drewN | apply below_drew1) | exact HB.out)⟩
def sieve_odd.f (k : Nat) (a0 : Int) : Option (Bool) := if a0 > 2 then (if a0 ≤ 65536 then ((sieve_Prime.f k a0).bind fun t108 => (some t108)) else (some false)) else (some false)
theorem sieve_odd.mono : ∀ a0 k, LeO (sieve_odd.f k a0) (sieve_odd.f (k + 1) a0) := by
 intro a0 k
 unfold sieve_odd.f
 repeat' first
   | (with_reducible exact sieve_Prime.mono _ _)
   | (with_reducible exact LeO.refl _)
   | (with_reducible exact LeO.none _)
   | (with_reducible refine LeO.ite ?_ ?_)
   | (with_reducible refine LeO.bind ?_ (fun _ => ?_))
   | exact sieve_Prime.mono _ _
   | exact LeO.none _
   | refine LeO.ite ?_ ?_
   | refine LeO.bind ?_ (fun _ => ?_)
set_option maxHeartbeats 8000000 in
set_option maxRecDepth 100000 in
theorem sieve_odd.calls (k : Nat) (a0 : Int) (r : Bool) (w : World) (h : sieve_odd.f k a0 = some r) :
  Calls Try.prog 18 #[.int .u64 a0] w fun e w' => e = .returned (.bool r) ∧ Below w.heap.size w w' := by
 have HB := Aside0.mk (Below.refl w.heap.size w)
 have H : (if a0 > 2 then (if a0 ≤ 65536 then ((sieve_Prime.f k a0).bind fun t108 => (some t108)) else (some false)) else (some false)) = some r := h
 clear h
 by_cases c2 : a0 > 2
 ·rw [if_pos c2] at H
  have c2b0 : decide (2 < a0) = true := decide_eq_true c2
  clear c2
  by_cases c3 : a0 ≤ 65536
  ·rw [if_pos c3] at H
   have c3b0 : decide (a0 ≤ 65536) = true := decide_eq_true c3
   clear c3
   replace H := Option.bind_eq_some_iff.mp H
   obtain ⟨t108, A40, H⟩ := H
   replace H : (some t108) = some r := H
   have A4 := Aside0.mk A40
   clear A40
   obtain rfl := Option.some.inj H
   go_enter Try.func18, Try.ntmps18
   go_wp2_with (first | (go_at_call 34; (with_reducible refine (sieve_Prime.calls k a0 t108 _ A4.out).mono ?_); rintro e w5 ⟨rfl, hb⟩; have n0_ := Aside0.mk (below_step (by repeat (first | (with_reducible first | exact HB.out | apply below_alloc | apply pw_below_drewN | apply below_drew1) | exact HB.out)) hb); clear HB; have HB := n0_; clear n0_; (try clear hb); (try clear hb2); (try clear hk); (try clear hi)))
   go_ret
   exact ⟨by first | rfl | (simp [errW_none, errW_some] <;> rfl) | (simp [*, errW_none, errW_some] <;> rfl), by repeat (first | (with_reducible first | exact HB.out | apply below_alloc | apply pw_below_drewN | apply below_drew1) | exact HB.out)⟩
  ·rw [if_neg c3] at H
   have c3b0 : decide (a0 ≤ 65536) = false := decide_eq_false c3
   clear c3
   obtain rfl := Option.some.inj H
   go_enter Try.func18, Try.ntmps18
   go_wp2
   go_ret
   exact ⟨by first | rfl | (simp [errW_none, errW_some] <;> rfl) | (simp [*, errW_none, errW_some] <;> rfl), by repeat (first | (with_reducible first | exact HB.out | apply below_alloc | apply pw_below_drewN | apply below_drew1) | exact HB.out)⟩
 ·rw [if_neg c2] at H
  have c2b0 : decide (2 < a0) = false := decide_eq_false c2
  clear c2
  obtain rfl := Option.some.inj H
  go_enter Try.func18, Try.ntmps18
  go_wp2
  go_ret
  exact ⟨by first | rfl | (simp [errW_none, errW_some] <;> rfl) | (simp [*, errW_none, errW_some] <;> rfl), by repeat (first | (with_reducible first | exact HB.out | apply below_alloc | apply pw_below_drewN | apply below_drew1) | exact HB.out)⟩
end Go.Proofs.Ytndkmnjbjlfeaaa.XS
end
section
namespace Go.Proofs.Ytndkmnjbjlfeaaa.XS
open Go.RowKit Go.Proofs.Ytndkmnjbjlfeaaa.Given Go.Proofs.YtndkmnjbjlfeaaaW.PrintWords Go.Proofs.YtndkmnjbjlfeaaaW.PrintLast Go.Proofs.YtndkmnjbjlfeaaaW.PrintMore
attribute [local go_sem] max2_int min2_int max_two min_two max_three min_three max_four min_four   -- for this text's walks alone
set_option linter.unusedVariables false
set_option linter.unusedSimpArgs false
mutual
def bits_Div64.j2 : Nat → Int → Int → Int → Int → Int → Int → Int → Int → Option (Int × Int)
 | 0, _, _, _, _, _, _, _, _ => none
 | k + 1, x2, x8, x9, x10, x11, x13, x14, x15 => if x9 = 0 then (none) else (bits_Div64.l1 k x2 x8 x9 x10 x14 x15 (IntKind.u64.wrap ((IntKind.u64.wrap ((IntKind.u64.wrap ((IntKind.u64.wrap (x11 * 4294967296)) + x13)) - (IntKind.u64.wrap (x15 * x2)))) - (IntKind.u64.wrap ((IntKind.u64.wrap (Int.tdiv (IntKind.u64.wrap ((IntKind.u64.wrap ((IntKind.u64.wrap (x11 * 4294967296)) + x13)) - (IntKind.u64.wrap (x15 * x2)))) x9)) * x9)))) (IntKind.u64.wrap ((IntKind.u64.wrap ((IntKind.u64.wrap (x11 * 4294967296)) + x13)) - (IntKind.u64.wrap (x15 * x2)))) (IntKind.u64.wrap (Int.tdiv (IntKind.u64.wrap ((IntKind.u64.wrap ((IntKind.u64.wrap (x11 * 4294967296)) + x13)) - (IntKind.u64.wrap (x15 * x2)))) x9)))
def bits_Div64.l1 : Nat → Int → Int → Int → Int → Int → Int → Int → Int → Int → Option (Int × Int)
 | 0, _, _, _, _, _, _, _, _, _ => none
 | k + 1, x2, x8, x9, x10, x14, x15, x16, x17, x18 => if x18 ≥ 4294967296 then (bits_Div64.j4 k x2 x8 x9 x10 x14 x15 x16 x17 x18 true) else (bits_Div64.j4 k x2 x8 x9 x10 x14 x15 x16 x17 x18 (decide ((IntKind.u64.wrap (x18 * x10)) > (IntKind.u64.wrap ((IntKind.u64.wrap (4294967296 * x16)) + x14)))))
def bits_Div64.j4 : Nat → Int → Int → Int → Int → Int → Int → Int → Int → Int → Bool → Option (Int × Int)
 | 0, _, _, _, _, _, _, _, _, _, _ => none
 | k + 1, x2, x8, x9, x10, x14, x15, x16, x17, x18, x113 => if x113 = true then (if (IntKind.u64.wrap (x16 + x9)) ≥ 4294967296 then (if 0 ≤ x8 then (some (IntKind.u64.wrap ((IntKind.u64.wrap (x15 * 4294967296)) + (IntKind.u64.wrap (x18 - 1))), shr .u64 (IntKind.u64.wrap ((IntKind.u64.wrap ((IntKind.u64.wrap (x17 * 4294967296)) + x14)) - (IntKind.u64.wrap ((IntKind.u64.wrap (x18 - 1)) * x2)))) x8)) else (none)) else (bits_Div64.l1 k x2 x8 x9 x10 x14 x15 (IntKind.u64.wrap (x16 + x9)) x17 (IntKind.u64.wrap (x18 - 1)))) else (if 0 ≤ x8 then (some (IntKind.u64.wrap ((IntKind.u64.wrap (x15 * 4294967296)) + x18), shr .u64 (IntKind.u64.wrap ((IntKind.u64.wrap ((IntKind.u64.wrap (x17 * 4294967296)) + x14)) - (IntKind.u64.wrap (x18 * x2)))) x8)) else (none))
def bits_Div64.l0 : Nat → Int → Int → Int → Int → Int → Int → Int → Int → Int → Option (Int × Int)
 | 0, _, _, _, _, _, _, _, _, _ => none
 | k + 1, x2, x8, x9, x10, x11, x13, x14, x15, x16 => if x15 ≥ 4294967296 then (bits_Div64.j1 k x2 x8 x9 x10 x11 x13 x14 x15 x16 true) else (bits_Div64.j1 k x2 x8 x9 x10 x11 x13 x14 x15 x16 (decide ((IntKind.u64.wrap (x15 * x10)) > (IntKind.u64.wrap ((IntKind.u64.wrap (4294967296 * x16)) + x13)))))
def bits_Div64.j1 : Nat → Int → Int → Int → Int → Int → Int → Int → Int → Int → Bool → Option (Int × Int)
 | 0, _, _, _, _, _, _, _, _, _, _ => none
 | k + 1, x2, x8, x9, x10, x11, x13, x14, x15, x16, x78 => if x78 = true then (if (IntKind.u64.wrap (x16 + x9)) ≥ 4294967296 then (bits_Div64.j2 k x2 x8 x9 x10 x11 x13 x14 (IntKind.u64.wrap (x15 - 1))) else (bits_Div64.l0 k x2 x8 x9 x10 x11 x13 x14 (IntKind.u64.wrap (x15 - 1)) (IntKind.u64.wrap (x16 + x9)))) else (bits_Div64.j2 k x2 x8 x9 x10 x11 x13 x14 x15)
end
def bits_Div64.f (k : Nat) (a0 : Int) (a1 : Int) (a2 : Int) : Option (Int × Int) := if a2 = 0 then (none) else (if a2 ≤ a0 then (none) else (if a0 = 0 then (some (IntKind.u64.wrap (Int.tdiv a1 a2), Int.tmod a1 a2)) else ((bits_LeadingZeros64.f a2).bind fun t109 => (if 0 ≤ (IntKind.u64.wrap (t109)) then (if 0 ≤ (IntKind.u64.wrap (64 - (IntKind.u64.wrap (t109)))) then (if ((shl .u64 a2 (IntKind.u64.wrap (t109))) / 4294967296) = 0 then (none) else (bits_Div64.l0 k (shl .u64 a2 (IntKind.u64.wrap (t109))) (IntKind.u64.wrap (t109)) ((shl .u64 a2 (IntKind.u64.wrap (t109))) / 4294967296) (Go.bits .and .u64 (shl .u64 a2 (IntKind.u64.wrap (t109))) 4294967295) (Go.bits .or .u64 (shl .u64 a0 (IntKind.u64.wrap (t109))) (shr .u64 a1 (IntKind.u64.wrap (64 - (IntKind.u64.wrap (t109)))))) ((shl .u64 a1 (IntKind.u64.wrap (t109))) / 4294967296) (Go.bits .and .u64 (shl .u64 a1 (IntKind.u64.wrap (t109))) 4294967295) (IntKind.u64.wrap (Int.tdiv (Go.bits .or .u64 (shl .u64 a0 (IntKind.u64.wrap (t109))) (shr .u64 a1 (IntKind.u64.wrap (64 - (IntKind.u64.wrap (t109)))))) ((shl .u64 a2 (IntKind.u64.wrap (t109))) / 4294967296))) (IntKind.u64.wrap ((Go.bits .or .u64 (shl .u64 a0 (IntKind.u64.wrap (t109))) (shr .u64 a1 (IntKind.u64.wrap (64 - (IntKind.u64.wrap (t109)))))) - (IntKind.u64.wrap ((IntKind.u64.wrap (Int.tdiv (Go.bits .or .u64 (shl .u64 a0 (IntKind.u64.wrap (t109))) (shr .u64 a1 (IntKind.u64.wrap (64 - (IntKind.u64.wrap (t109)))))) ((shl .u64 a2 (IntKind.u64.wrap (t109))) / 4294967296))) * ((shl .u64 a2 (IntKind.u64.wrap (t109))) / 4294967296))))))) else (none)) else (none)))))
set_option maxHeartbeats 8000000 in
set_option maxRecDepth 100000 in
theorem bits_Div64.calls (k : Nat) (a0 : Int) (a1 : Int) (a2 : Int) (r1 : Int) (r2 : Int) (w : World) (h : bits_Div64.f k a0 a1 a2 = some (r1, r2)) :
  Calls Try.prog 59 #[.int .u64 a0, .int .u64 a1, .int .u64 a2] w fun e w' => e = .returned (.tuple #[.int .u64 r1, .int .u64 r2]) ∧ Drawn0 w w' := by
 have H : (if a2 = 0 then (none) else (if a2 ≤ a0 then (none) else (if a0 = 0 then (some (IntKind.u64.wrap (Int.tdiv a1 a2), Int.tmod a1 a2)) else ((bits_LeadingZeros64.f a2).bind fun t109 => (if 0 ≤ (IntKind.u64.wrap (t109)) then (if 0 ≤ (IntKind.u64.wrap (64 - (IntKind.u64.wrap (t109)))) then (if ((shl .u64 a2 (IntKind.u64.wrap (t109))) / 4294967296) = 0 then (none) else (bits_Div64.l0 k (shl .u64 a2 (IntKind.u64.wrap (t109))) (IntKind.u64.wrap (t109)) ((shl .u64 a2 (IntKind.u64.wrap (t109))) / 4294967296) (Go.bits .and .u64 (shl .u64 a2 (IntKind.u64.wrap (t109))) 4294967295) (Go.bits .or .u64 (shl .u64 a0 (IntKind.u64.wrap (t109))) (shr .u64 a1 (IntKind.u64.wrap (64 - (IntKind.u64.wrap (t109)))))) ((shl .u64 a1 (IntKind.u64.wrap (t109))) / 4294967296) (Go.bits .and .u64 (shl .u64 a1 (IntKind.u64.wrap (t109))) 4294967295) (IntKind.u64.wrap (Int.tdiv (Go.bits .or .u64 (shl .u64 a0 (IntKind.u64.wrap (t109))) (shr .u64 a1 (IntKind.u64.wrap (64 - (IntKind.u64.wrap (t109)))))) ((shl .u64 a2 (IntKind.u64.wrap (t109))) / 4294967296))) (IntKind.u64.wrap ((Go.bits .or .u64 (shl .u64 a0 (IntKind.u64.wrap (t109))) (shr .u64 a1 (IntKind.u64.wrap (64 - (IntKind.u64.wrap (t109)))))) - (IntKind.u64.wrap ((IntKind.u64.wrap (Int.tdiv (Go.bits .or .u64 (shl .u64 a0 (IntKind.u64.wrap (t109))) (shr .u64 a1 (IntKind.u64.wrap (64 - (IntKind.u64.wrap (t109)))))) ((shl .u64 a2 (IntKind.u64.wrap (t109))) / 4294967296))) * ((shl .u64 a2 (IntKind.u64.wrap (t109))) / 4294967296))))))) else (none)) else (none)))))) = some (r1, r2) := h
 clear h
 by_cases c4 : a2 = 0
 ·rw [if_pos c4] at H
  exact absurd H (by simp)
 ·rw [if_neg c4] at H
  have c4b0 : (a2 == 0) = false := beq_eq_false_iff_ne.mpr c4
  have c4b1 : (a2 != 0) = true := bne_iff_ne.mpr c4
  by_cases c5 : a2 ≤ a0
  ·rw [if_pos c5] at H
   exact absurd H (by simp)
  ·rw [if_neg c5] at H
   have c5b0 : decide (a2 ≤ a0) = false := decide_eq_false c5
   clear c5
   by_cases c6 : a0 = 0
   ·rw [if_pos c6] at H
    have c6b0 : (a0 == 0) = true := beq_iff_eq.mpr c6
    have c6b1 : (a0 != 0) = false := bne_eq_false_iff_eq.mpr c6
    clear c6
    simp only [Option.some.injEq, Prod.mk.injEq] at H
    obtain ⟨rfl, rfl⟩ := H
    go_enter Try.func59, Try.ntmps59
    go_wp2
    repeat (go_quiet (fail); try go_wp2)
    go_ret2
    exact ⟨by first | rfl | (simp; done) | (simp [*]; done), by repeat (first | exact Drawn0.refl _ | apply Drawn0.step)⟩
   ·rw [if_neg c6] at H
    have c6b0 : (a0 == 0) = false := beq_eq_false_iff_ne.mpr c6
    have c6b1 : (a0 != 0) = true := bne_iff_ne.mpr c6
    replace H := Option.bind_eq_some_iff.mp H
    obtain ⟨t109, A70, H⟩ := H
    replace H : (if 0 ≤ (IntKind.u64.wrap (t109)) then (if 0 ≤ (IntKind.u64.wrap (64 - (IntKind.u64.wrap (t109)))) then (if ((shl .u64 a2 (IntKind.u64.wrap (t109))) / 4294967296) = 0 then (none) else (bits_Div64.l0 k (shl .u64 a2 (IntKind.u64.wrap (t109))) (IntKind.u64.wrap (t109)) ((shl .u64 a2 (IntKind.u64.wrap (t109))) / 4294967296) (Go.bits .and .u64 (shl .u64 a2 (IntKind.u64.wrap (t109))) 4294967295) (Go.bits .or .u64 (shl .u64 a0 (IntKind.u64.wrap (t109))) (shr .u64 a1 (IntKind.u64.wrap (64 - (IntKind.u64.wrap (t109)))))) ((shl .u64 a1 (IntKind.u64.wrap (t109))) / 4294967296) (Go.bits .and .u64 (shl .u64 a1 (IntKind.u64.wrap (t109))) 4294967295) (IntKind.u64.wrap (Int.tdiv (Go.bits .or .u64 (shl .u64 a0 (IntKind.u64.wrap (t109))) (shr .u64 a1 (IntKind.u64.wrap (64 - (IntKind.u64.wrap (t109)))))) ((shl .u64 a2 (IntKind.u64.wrap (t109))) / 4294967296))) (IntKind.u64.wrap ((Go.bits .or .u64 (shl .u64 a0 (IntKind.u64.wrap (t109))) (shr .u64 a1 (IntKind.u64.wrap (64 - (IntKind.u64.wrap (t109)))))) - (IntKind.u64.wrap ((IntKind.u64.wrap (Int.tdiv (Go.bits .or .u64 (shl .u64 a0 (IntKind.u64.wrap (t109))) (shr .u64 a1 (IntKind.u64.wrap (64 - (IntKind.u64.wrap (t109)))))) ((shl .u64 a2 (IntKind.u64.wrap (t109))) / 4294967296))) * ((shl .u64 a2 (IntKind.u64.wrap (t109))) / 4294967296))))))) else (none)) else (none)) = some (r1, r2) := H
    have A7 := Aside0.mk A70
    clear A70
    obtain ⟨ji8, hji8⟩ : ∃ j_ : Int, (IntKind.u64.wrap (t109)) = j_ := ⟨_, rfl⟩
    replace H : (if 0 ≤ (ji8) then (if 0 ≤ (IntKind.u64.wrap (64 - (ji8))) then (if ((shl .u64 a2 (ji8)) / 4294967296) = 0 then (none) else (bits_Div64.l0 k (shl .u64 a2 (ji8)) ji8 ((shl .u64 a2 (ji8)) / 4294967296) (Go.bits .and .u64 (shl .u64 a2 (ji8)) 4294967295) (Go.bits .or .u64 (shl .u64 a0 (ji8)) (shr .u64 a1 (IntKind.u64.wrap (64 - (ji8))))) ((shl .u64 a1 (ji8)) / 4294967296) (Go.bits .and .u64 (shl .u64 a1 (ji8)) 4294967295) (IntKind.u64.wrap (Int.tdiv (Go.bits .or .u64 (shl .u64 a0 (ji8)) (shr .u64 a1 (IntKind.u64.wrap (64 - (ji8))))) ((shl .u64 a2 (ji8)) / 4294967296))) (IntKind.u64.wrap ((Go.bits .or .u64 (shl .u64 a0 (ji8)) (shr .u64 a1 (IntKind.u64.wrap (64 - (ji8))))) - (IntKind.u64.wrap ((IntKind.u64.wrap (Int.tdiv (Go.bits .or .u64 (shl .u64 a0 (ji8)) (shr .u64 a1 (IntKind.u64.wrap (64 - (ji8))))) ((shl .u64 a2 (ji8)) / 4294967296))) * ((shl .u64 a2 (ji8)) / 4294967296))))))) else (none)) else (none)) = some (r1, r2) := by first | (rw [hji8] at H <;> exact H) | (simp only [hji8] at H ⊢; exact H)
    (try rw [hji8] at A7)
    by_cases c9 : 0 ≤ (ji8)
    ·rw [if_pos c9] at H
     have c9b0 := eq_true c9
     have c9b1 : decide (0 ≤ (ji8)) = true := decide_eq_true c9
     clear c9
     obtain ⟨ji10, hji10⟩ : ∃ j_ : Int, (shl .u64 a2 (ji8)) = j_ := ⟨_, rfl⟩
     replace H : (if 0 ≤ (IntKind.u64.wrap (64 - (ji8))) then (if ((ji10) / 4294967296) = 0 then (none) else (bits_Div64.l0 k ji10 ji8 ((ji10) / 4294967296) (Go.bits .and .u64 (ji10) 4294967295) (Go.bits .or .u64 (shl .u64 a0 (ji8)) (shr .u64 a1 (IntKind.u64.wrap (64 - (ji8))))) ((shl .u64 a1 (ji8)) / 4294967296) (Go.bits .and .u64 (shl .u64 a1 (ji8)) 4294967295) (IntKind.u64.wrap (Int.tdiv (Go.bits .or .u64 (shl .u64 a0 (ji8)) (shr .u64 a1 (IntKind.u64.wrap (64 - (ji8))))) ((ji10) / 4294967296))) (IntKind.u64.wrap ((Go.bits .or .u64 (shl .u64 a0 (ji8)) (shr .u64 a1 (IntKind.u64.wrap (64 - (ji8))))) - (IntKind.u64.wrap ((IntKind.u64.wrap (Int.tdiv (Go.bits .or .u64 (shl .u64 a0 (ji8)) (shr .u64 a1 (IntKind.u64.wrap (64 - (ji8))))) ((ji10) / 4294967296))) * ((ji10) / 4294967296))))))) else (none)) = some (r1, r2) := by first | (rw [hji10] at H <;> exact H) | (simp only [hji10] at H ⊢; exact H)
     (try rw [hji10] at A7)
     have hji10_ : (IntKind.u64.wrap (a2 * 2 ^ min (ji8).toNat 64)) = ji10 := hji10
     have hji10z : (ji8) ≤ 64 → (IntKind.u64.wrap (a2 * 2 ^ (ji8).toNat)) = ji10 := shl_small hji10
     have c11b0 := eq_true (of_decide_eq_true (by first | (with_reducible assumption) | assumption) : 0 ≤ (ji8))
     obtain ⟨ji12, hji12⟩ : ∃ j_ : Int, (shl .u64 a0 (ji8)) = j_ := ⟨_, rfl⟩
     replace H : (if 0 ≤ (IntKind.u64.wrap (64 - (ji8))) then (if ((ji10) / 4294967296) = 0 then (none) else (bits_Div64.l0 k ji10 ji8 ((ji10) / 4294967296) (Go.bits .and .u64 (ji10) 4294967295) (Go.bits .or .u64 (ji12) (shr .u64 a1 (IntKind.u64.wrap (64 - (ji8))))) ((shl .u64 a1 (ji8)) / 4294967296) (Go.bits .and .u64 (shl .u64 a1 (ji8)) 4294967295) (IntKind.u64.wrap (Int.tdiv (Go.bits .or .u64 (ji12) (shr .u64 a1 (IntKind.u64.wrap (64 - (ji8))))) ((ji10) / 4294967296))) (IntKind.u64.wrap ((Go.bits .or .u64 (ji12) (shr .u64 a1 (IntKind.u64.wrap (64 - (ji8))))) - (IntKind.u64.wrap ((IntKind.u64.wrap (Int.tdiv (Go.bits .or .u64 (ji12) (shr .u64 a1 (IntKind.u64.wrap (64 - (ji8))))) ((ji10) / 4294967296))) * ((ji10) / 4294967296))))))) else (none)) = some (r1, r2) := by first | (rw [hji12] at H <;> exact H) | (simp only [hji12] at H ⊢; exact H)
     (try rw [hji12] at A7)
     have hji12_ : (IntKind.u64.wrap (a0 * 2 ^ min (ji8).toNat 64)) = ji12 := hji12
     have hji12z : (ji8) ≤ 64 → (IntKind.u64.wrap (a0 * 2 ^ (ji8).toNat)) = ji12 := shl_small hji12
     obtain ⟨ji13, hji13⟩ : ∃ j_ : Int, (IntKind.u64.wrap (64 - (ji8))) = j_ := ⟨_, rfl⟩
     replace H : (if 0 ≤ (ji13) then (if ((ji10) / 4294967296) = 0 then (none) else (bits_Div64.l0 k ji10 ji8 ((ji10) / 4294967296) (Go.bits .and .u64 (ji10) 4294967295) (Go.bits .or .u64 (ji12) (shr .u64 a1 (ji13))) ((shl .u64 a1 (ji8)) / 4294967296) (Go.bits .and .u64 (shl .u64 a1 (ji8)) 4294967295) (IntKind.u64.wrap (Int.tdiv (Go.bits .or .u64 (ji12) (shr .u64 a1 (ji13))) ((ji10) / 4294967296))) (IntKind.u64.wrap ((Go.bits .or .u64 (ji12) (shr .u64 a1 (ji13))) - (IntKind.u64.wrap ((IntKind.u64.wrap (Int.tdiv (Go.bits .or .u64 (ji12) (shr .u64 a1 (ji13))) ((ji10) / 4294967296))) * ((ji10) / 4294967296))))))) else (none)) = some (r1, r2) := by first | (rw [hji13] at H <;> exact H) | (simp only [hji13] at H ⊢; exact H)
     (try rw [hji13] at A7)
     by_cases c14 : 0 ≤ (ji13)
     ·rw [if_pos c14] at H
      have c14b0 := eq_true c14
      have c14b1 : decide (0 ≤ (ji13)) = true := decide_eq_true c14
      clear c14
      obtain ⟨ji15, hji15⟩ : ∃ j_ : Int, (shr .u64 a1 (ji13)) = j_ := ⟨_, rfl⟩
      replace H : (if ((ji10) / 4294967296) = 0 then (none) else (bits_Div64.l0 k ji10 ji8 ((ji10) / 4294967296) (Go.bits .and .u64 (ji10) 4294967295) (Go.bits .or .u64 (ji12) (ji15)) ((shl .u64 a1 (ji8)) / 4294967296) (Go.bits .and .u64 (shl .u64 a1 (ji8)) 4294967295) (IntKind.u64.wrap (Int.tdiv (Go.bits .or .u64 (ji12) (ji15)) ((ji10) / 4294967296))) (IntKind.u64.wrap ((Go.bits .or .u64 (ji12) (ji15)) - (IntKind.u64.wrap ((IntKind.u64.wrap (Int.tdiv (Go.bits .or .u64 (ji12) (ji15)) ((ji10) / 4294967296))) * ((ji10) / 4294967296))))))) = some (r1, r2) := by first | (rw [hji15] at H <;> exact H) | (simp only [hji15] at H ⊢; exact H)
      (try rw [hji15] at A7)
      have hji15_ : (a1 / 2 ^ min (ji13).toNat 64) = ji15 := hji15
      have hji15z : (ji13) ≤ 64 → (a1 / 2 ^ (ji13).toNat) = ji15 := shr_small hji15
      have c16b0 := eq_true (of_decide_eq_true (by first | (with_reducible assumption) | assumption) : 0 ≤ (ji8))
      obtain ⟨ji17, hji17⟩ : ∃ j_ : Int, (shl .u64 a1 (ji8)) = j_ := ⟨_, rfl⟩
      replace H : (if ((ji10) / 4294967296) = 0 then (none) else (bits_Div64.l0 k ji10 ji8 ((ji10) / 4294967296) (Go.bits .and .u64 (ji10) 4294967295) (Go.bits .or .u64 (ji12) (ji15)) ((ji17) / 4294967296) (Go.bits .and .u64 (ji17) 4294967295) (IntKind.u64.wrap (Int.tdiv (Go.bits .or .u64 (ji12) (ji15)) ((ji10) / 4294967296))) (IntKind.u64.wrap ((Go.bits .or .u64 (ji12) (ji15)) - (IntKind.u64.wrap ((IntKind.u64.wrap (Int.tdiv (Go.bits .or .u64 (ji12) (ji15)) ((ji10) / 4294967296))) * ((ji10) / 4294967296))))))) = some (r1, r2) := by first | (rw [hji17] at H <;> exact H) | (simp only [hji17] at H ⊢; exact H)
      (try rw [hji17] at A7)
      have hji17_ : (IntKind.u64.wrap (a1 * 2 ^ min (ji8).toNat 64)) = ji17 := hji17
      have hji17z : (ji8) ≤ 64 → (IntKind.u64.wrap (a1 * 2 ^ (ji8).toNat)) = ji17 := shl_small hji17
      by_cases c18 : ((ji10) / 4294967296) = 0
      ·rw [if_pos c18] at H
       exact absurd H (by simp)
      ·rw [if_neg c18] at H
       have c18b0 : (((ji10) / 4294967296) == 0) = false := beq_eq_false_iff_ne.mpr c18
       have c18b1 : (((ji10) / 4294967296) != 0) = true := bne_iff_ne.mpr c18
       have HC19 := Aside0.mk H
       clear H
       go_enter Try.func59, Try.ntmps59
       go_upto_block 0 with (first | (go_at_call 81; (with_reducible refine (bits_LeadingZeros64.calls a2 t109 _ A7.out).mono ?_); rintro e w' ⟨rfl, ⟨nd, rfl⟩⟩; (try first | exact ⟨rfl, _, World.drewN_drewN _ _ _⟩ | exact ⟨rfl, _, Eq.trans (World.drewN_drewN _ _ _) (congrArg (World.drewN _) (Nat.add_assoc _ _ _))⟩)))
       repeat (go_quiet (first | (go_at_call 81; (with_reducible refine (bits_LeadingZeros64.calls a2 t109 _ A7.out).mono ?_); rintro e w' ⟨rfl, ⟨nd, rfl⟩⟩; (try first | exact ⟨rfl, _, World.drewN_drewN _ _ _⟩ | exact ⟨rfl, _, Eq.trans (World.drewN_drewN _ _ _) (congrArg (World.drewN _) (Nat.add_assoc _ _ _))⟩))); go_upto_block 0 with (first | (go_at_call 81; (with_reducible refine (bits_LeadingZeros64.calls a2 t109 _ A7.out).mono ?_); rintro e w' ⟨rfl, ⟨nd, rfl⟩⟩; (try first | exact ⟨rfl, _, World.drewN_drewN _ _ _⟩ | exact ⟨rfl, _, Eq.trans (World.drewN_drewN _ _ _) (congrArg (World.drewN _) (Nat.add_assoc _ _ _))⟩))))
       (try simp only [Act.put, List.setIfInBounds_toArray, List.set_cons_zero, List.set_cons_succ])
       (try simp only [hji8, hji10, hji12, hji13, hji15, hji17])
       go_cut [15] (fun v15 wc => ∃ (kq : Nat) (x15_18 : Int), v15 = .int .u64 x15_18 ∧ Aside0 (bits_Div64.j2 kq ji10 ji8 ((ji10) / 4294967296) (Go.bits .and .u64 (ji10) 4294967295) (Go.bits .or .u64 (ji12) (ji15)) ((ji17) / 4294967296) (Go.bits .and .u64 (ji17) 4294967295) x15_18 = some (r1, r2)) ∧ Aside0 (kq ≤ k) ∧ Drawn0 w wc)
       case first =>
        have H := HC19.out
        clear HC19
        have H' := Aside0.mk H
        clear H
        go_wp2
        repeat (go_quiet (fail); try go_wp2)
        (try simp only [hji8, hji10, hji12, hji13, hji15, hji17])
        go_loopg [15, 16] k (fun kq v15 v16 w' => ∃ (x15_1 : Int) (x16_1 : Int), v15 = .int .u64 x15_1 ∧ v16 = .int .u64 x16_1 ∧ Aside0 (bits_Div64.l0 kq ji10 ji8 ((ji10) / 4294967296) (Go.bits .and .u64 (ji10) 4294967295) (Go.bits .or .u64 (ji12) (ji15)) ((ji17) / 4294967296) (Go.bits .and .u64 (ji17) 4294967295) x15_1 x16_1 = some (r1, r2)) ∧ Aside0 (kq ≤ k) ∧ Drawn0 w w')
        case atStart => exact ⟨(IntKind.u64.wrap (Int.tdiv (Go.bits .or .u64 (ji12) (ji15)) ((ji10) / 4294967296))), (IntKind.u64.wrap ((Go.bits .or .u64 (ji12) (ji15)) - (IntKind.u64.wrap ((IntKind.u64.wrap (Int.tdiv (Go.bits .or .u64 (ji12) (ji15)) ((ji10) / 4294967296))) * ((ji10) / 4294967296))))), (by first | rfl | (simp; done) | (simp only [← hji10, ← hji12, ← hji15] <;> (first | rfl | simp)) | (simp [*]; done)), (by first | rfl | (simp; done) | (simp only [← hji10, ← hji12, ← hji15] <;> (first | rfl | simp)) | (simp [*]; done)), H', ⟨Nat.le_refl _⟩, by repeat (first | exact Drawn0.refl _ | apply Drawn0.step)⟩
        case round =>
         clear H'
         try clear c1
         try clear p2
         try clear c4
         try clear c4b0
         try clear c4b1
         try clear c5
         try clear c5b0
         try clear c6
         try clear c6b0
         try clear c6b1
         try clear c9
         try clear c9b0
         try clear c9b1
         try clear c11
         try clear c11b0
         try clear c14
         try clear c14b0
         try clear c14b1
         try clear c16
         try clear c16b0
         try clear c18
         try clear c18b0
         try clear c18b1
         obtain ⟨x15_1, x16_1, rfl, rfl, HA, HK1, ⟨m1, rfl⟩⟩ := hrel
         cases gk with
         | zero => exact absurd HA.out (by simp [bits_Div64.l0])
         | succ k1 =>
          have H := HA.out
          clear HA
          simp only [bits_Div64.l0] at H
          have HC20 := Aside0.mk H
          clear H
          go_upto_region 17 with (fail)
          repeat (go_quiet (fail); go_upto_region 17 with (fail))
          (try simp only [hji8, hji10, hji12, hji13, hji15, hji17])
          go_cut [78] (fun v78 wc => ∃ (kq : Nat) (x78_19 : Bool), v78 = .bool x78_19 ∧ Aside0 (bits_Div64.j1 kq ji10 ji8 ((ji10) / 4294967296) (Go.bits .and .u64 (ji10) 4294967295) (Go.bits .or .u64 (ji12) (ji15)) ((ji17) / 4294967296) (Go.bits .and .u64 (ji17) 4294967295) x15_1 x16_1 x78_19 = some (r1, r2)) ∧ Aside0 (kq ≤ k1) ∧ Drawn0 w wc)
          case first =>
           have H := HC20.out
           clear HC20
           by_cases c21 : x15_1 ≥ 4294967296
           ·rw [if_pos c21] at H
            have c21b0 : decide (4294967296 ≤ x15_1) = true := decide_eq_true c21
            clear c21
            (first | rw [c21b0] | (simp only [i64_w, i32_w]; rw [c21b0]) | skip)
            have H' := Aside0.mk H
            clear H
            go_wp2
            repeat (go_quiet (fail); try go_wp2)
            go_meet
            case rel => exact ⟨_, (true), (by first | rfl | (simp; done) | (simp [*]; done)), H', ⟨by have := HK1.out; first | omega | exact Nat.le_refl _⟩, by repeat (first | exact Drawn0.refl _ | apply Drawn0.step)⟩
           ·rw [if_neg c21] at H
            have c21b0 : decide (4294967296 ≤ x15_1) = false := decide_eq_false c21
            clear c21
            (first | rw [c21b0] | (simp only [i64_w, i32_w]; rw [c21b0]) | skip)
            have H' := Aside0.mk H
            clear H
            go_wp2
            repeat (go_quiet (fail); try go_wp2)
            go_meet
            case rel => exact ⟨_, (decide ((IntKind.u64.wrap (x15_1 * (Go.bits .and .u64 (ji10) 4294967295))) > (IntKind.u64.wrap ((IntKind.u64.wrap (4294967296 * x16_1)) + ((ji17) / 4294967296))))), (by first | rfl | (simp; done) | (simp only [← hji10, ← hji17] <;> (first | rfl | simp)) | (simp [*]; done)), H', ⟨by have := HK1.out; first | omega | exact Nat.le_refl _⟩, by repeat (first | exact Drawn0.refl _ | apply Drawn0.step)⟩
          case rest =>
           clear HC20
           try clear c1
           try clear c2
           try clear p2
           try clear c4
           try clear c4b0
           try clear c4b1
           try clear c5
           try clear c5b0
           try clear c6
           try clear c6b0
           try clear c6b1
           try clear c9
           try clear c9b0
           try clear c9b1
           try clear c11
           try clear c11b0
           try clear c14
           try clear c14b0
           try clear c14b1
           try clear c16
           try clear c16b0
           try clear c18
           try clear c18b0
           try clear c18b1
           try clear c21
           try clear c21b0
           try clear p2
           obtain ⟨kq, x78_19, rfl, HA, HJ19, ⟨mc19, rfl⟩⟩ := hcut
           cases kq with
           | zero => exact absurd HA.out (by simp [bits_Div64.j1])
           | succ kj19 =>
            have H := HA.out
            clear HA
            simp only [bits_Div64.j1] at H
            by_cases c22 : x78_19 = true
            ·subst c22
             have H1 : (if (IntKind.u64.wrap (x16_1 + ((ji10) / 4294967296))) ≥ 4294967296 then (bits_Div64.j2 kj19 ji10 ji8 ((ji10) / 4294967296) (Go.bits .and .u64 (ji10) 4294967295) (Go.bits .or .u64 (ji12) (ji15)) ((ji17) / 4294967296) (Go.bits .and .u64 (ji17) 4294967295) (IntKind.u64.wrap (x15_1 - 1))) else (bits_Div64.l0 kj19 ji10 ji8 ((ji10) / 4294967296) (Go.bits .and .u64 (ji10) 4294967295) (Go.bits .or .u64 (ji12) (ji15)) ((ji17) / 4294967296) (Go.bits .and .u64 (ji17) 4294967295) (IntKind.u64.wrap (x15_1 - 1)) (IntKind.u64.wrap (x16_1 + ((ji10) / 4294967296))))) = some (r1, r2) := by rw [if_pos rfl] at H <;> exact H
             clear H
             have H := H1
             clear H1
             by_cases c23 : (IntKind.u64.wrap (x16_1 + ((ji10) / 4294967296))) ≥ 4294967296
             ·rw [if_pos c23] at H
              have c23b0 : decide (4294967296 ≤ (IntKind.u64.wrap (x16_1 + ((ji10) / 4294967296)))) = true := decide_eq_true c23
              clear c23
              have H' := Aside0.mk H
              clear H
              go_wp2
              repeat (go_quiet (fail); try go_wp2)
              go_meet
              case rel => exact ⟨_, (IntKind.u64.wrap (x15_1 - 1)), (by first | rfl | (simp; done) | (simp [*]; done)), H', ⟨by have := HK1.out; have := HJ19.out; first | omega | exact Nat.le_refl _⟩, by repeat (first | exact Drawn0.refl _ | apply Drawn0.step)⟩
             ·rw [if_neg c23] at H
              have c23b0 : decide (4294967296 ≤ (IntKind.u64.wrap (x16_1 + ((ji10) / 4294967296)))) = false := decide_eq_false c23
              clear c23
              have H' := Aside0.mk H
              clear H
              go_wp2
              repeat (go_quiet (fail); try go_wp2)
              go_roundg kj19
              case measure => have := HK1.out; have := HJ19.out; omega
              case rel => exact ⟨(IntKind.u64.wrap (x15_1 - 1)), (IntKind.u64.wrap (x16_1 + ((ji10) / 4294967296))), (by first | rfl | (simp; done) | (simp [*]; done)), (by first | rfl | (simp; done) | (simp only [← hji10] <;> (first | rfl | simp)) | (simp [*]; done)), H', ⟨by have := HK1.out; have := HJ19.out; omega⟩, by repeat (first | exact Drawn0.refl _ | apply Drawn0.step)⟩
            ·replace c22 := Bool.eq_false_iff.mpr c22
             subst c22
             have H1 : (bits_Div64.j2 kj19 ji10 ji8 ((ji10) / 4294967296) (Go.bits .and .u64 (ji10) 4294967295) (Go.bits .or .u64 (ji12) (ji15)) ((ji17) / 4294967296) (Go.bits .and .u64 (ji17) 4294967295) x15_1) = some (r1, r2) := by rw [if_neg (show ¬ (false = true) by decide)] at H <;> exact H
             clear H
             have H := H1
             clear H1
             have H' := Aside0.mk H
             clear H
             go_wp2
             repeat (go_quiet (fail); try go_wp2)
             go_meet
             case rel => exact ⟨_, (x15_1), (by first | rfl | (simp; done) | (simp [*]; done)), H', ⟨by have := HK1.out; have := HJ19.out; first | omega | exact Nat.le_refl _⟩, by repeat (first | exact Drawn0.refl _ | apply Drawn0.step)⟩
       case rest =>
        clear HC19
        try clear c1
        try clear c2
        try clear p2
        try clear c4
        try clear c4b0
        try clear c4b1
        try clear c5
        try clear c5b0
        try clear c6
        try clear c6b0
        try clear c6b1
        try clear c9
        try clear c9b0
        try clear c9b1
        try clear c11
        try clear c11b0
        try clear c14
        try clear c14b0
        try clear c14b1
        try clear c16
        try clear c16b0
        try clear c18
        try clear c18b0
        try clear c18b1
        try clear c19
        try clear c21
        try clear c21b0
        try clear c22
        try clear c23
        try clear c23b0
        try clear p2
        obtain ⟨kq, x15_18, rfl, HA, HJ18, ⟨mc18, rfl⟩⟩ := hcut
        cases kq with
        | zero => exact absurd HA.out (by simp [bits_Div64.j2])
        | succ kj18 =>
         have H := HA.out
         clear HA
         simp only [bits_Div64.j2] at H
         by_cases c24 : ((ji10) / 4294967296) = 0
         ·rw [if_pos c24] at H
          exact absurd H (by simp)
         ·rw [if_neg c24] at H
          have c24b0 : (((ji10) / 4294967296) == 0) = false := beq_eq_false_iff_ne.mpr c24
          have c24b1 : (((ji10) / 4294967296) != 0) = true := bne_iff_ne.mpr c24
          have H' := Aside0.mk H
          clear H
          go_wp2
          repeat (go_quiet (fail); try go_wp2)
          (try simp only [hji8, hji10, hji12, hji13, hji15, hji17])
          go_loopg [16, 18] kj18 (fun kq v16 v18 w' => ∃ (x16_2 : Int) (x18_2 : Int), v16 = .int .u64 x16_2 ∧ v18 = .int .u64 x18_2 ∧ Aside0 (bits_Div64.l1 kq ji10 ji8 ((ji10) / 4294967296) (Go.bits .and .u64 (ji10) 4294967295) (Go.bits .and .u64 (ji17) 4294967295) x15_18 x16_2 (IntKind.u64.wrap ((IntKind.u64.wrap ((IntKind.u64.wrap ((Go.bits .or .u64 (ji12) (ji15)) * 4294967296)) + ((ji17) / 4294967296))) - (IntKind.u64.wrap (x15_18 * ji10)))) x18_2 = some (r1, r2)) ∧ Aside0 (kq ≤ kj18) ∧ Drawn0 w w')
          case atStart => exact ⟨(IntKind.u64.wrap ((IntKind.u64.wrap ((IntKind.u64.wrap ((IntKind.u64.wrap ((Go.bits .or .u64 (ji12) (ji15)) * 4294967296)) + ((ji17) / 4294967296))) - (IntKind.u64.wrap (x15_18 * ji10)))) - (IntKind.u64.wrap ((IntKind.u64.wrap (Int.tdiv (IntKind.u64.wrap ((IntKind.u64.wrap ((IntKind.u64.wrap ((Go.bits .or .u64 (ji12) (ji15)) * 4294967296)) + ((ji17) / 4294967296))) - (IntKind.u64.wrap (x15_18 * ji10)))) ((ji10) / 4294967296))) * ((ji10) / 4294967296))))), (IntKind.u64.wrap (Int.tdiv (IntKind.u64.wrap ((IntKind.u64.wrap ((IntKind.u64.wrap ((Go.bits .or .u64 (ji12) (ji15)) * 4294967296)) + ((ji17) / 4294967296))) - (IntKind.u64.wrap (x15_18 * ji10)))) ((ji10) / 4294967296))), (by first | rfl | (simp; done) | (simp only [← hji10, ← hji12, ← hji15, ← hji17] <;> (first | rfl | simp)) | (simp [*]; done)), (by first | rfl | (simp; done) | (simp only [← hji10, ← hji12, ← hji15, ← hji17] <;> (first | rfl | simp)) | (simp [*]; done)), H', ⟨Nat.le_refl _⟩, by repeat (first | exact Drawn0.refl _ | apply Drawn0.step)⟩
          case round =>
           clear H'
           try clear c1
           try clear c2
           try clear p2
           try clear c4
           try clear c4b0
           try clear c4b1
           try clear c5
           try clear c5b0
           try clear c6
           try clear c6b0
           try clear c6b1
           try clear c9
           try clear c9b0
           try clear c9b1
           try clear c11
           try clear c11b0
           try clear c14
           try clear c14b0
           try clear c14b1
           try clear c16
           try clear c16b0
           try clear c18
           try clear c18b0
           try clear c18b1
           try clear c19
           try clear c21
           try clear c21b0
           try clear c22
           try clear c23
           try clear c23b0
           try clear c24
           try clear c24b0
           try clear c24b1
           try clear p2
           obtain ⟨x16_2, x18_2, rfl, rfl, HA, HK2, ⟨m2, rfl⟩⟩ := hrel
           cases gk with
           | zero => exact absurd HA.out (by simp [bits_Div64.l1])
           | succ k2 =>
            have H := HA.out
            clear HA
            simp only [bits_Div64.l1] at H
            have HC25 := Aside0.mk H
            clear H
            go_upto_region 24 with (fail)
            repeat (go_quiet (fail); go_upto_region 24 with (fail))
            (try simp only [hji8, hji10, hji12, hji13, hji15, hji17])
            go_cut [113] (fun v113 wc => ∃ (kq : Nat) (x113_24 : Bool), v113 = .bool x113_24 ∧ Aside0 (bits_Div64.j4 kq ji10 ji8 ((ji10) / 4294967296) (Go.bits .and .u64 (ji10) 4294967295) (Go.bits .and .u64 (ji17) 4294967295) x15_18 x16_2 (IntKind.u64.wrap ((IntKind.u64.wrap ((IntKind.u64.wrap ((Go.bits .or .u64 (ji12) (ji15)) * 4294967296)) + ((ji17) / 4294967296))) - (IntKind.u64.wrap (x15_18 * ji10)))) x18_2 x113_24 = some (r1, r2)) ∧ Aside0 (kq ≤ k2) ∧ Drawn0 w wc)
            case first =>
             have H := HC25.out
             clear HC25
             by_cases c26 : x18_2 ≥ 4294967296
             ·rw [if_pos c26] at H
              have c26b0 : decide (4294967296 ≤ x18_2) = true := decide_eq_true c26
              clear c26
              (first | rw [c26b0] | (simp only [i64_w, i32_w]; rw [c26b0]) | skip)
              have H' := Aside0.mk H
              clear H
              go_wp2
              repeat (go_quiet (fail); try go_wp2)
              go_meet
              case rel => exact ⟨_, (true), (by first | rfl | (simp; done) | (simp [*]; done)), H', ⟨by have := HJ18.out; have := HK2.out; first | omega | exact Nat.le_refl _⟩, by repeat (first | exact Drawn0.refl _ | apply Drawn0.step)⟩
             ·rw [if_neg c26] at H
              have c26b0 : decide (4294967296 ≤ x18_2) = false := decide_eq_false c26
              clear c26
              (first | rw [c26b0] | (simp only [i64_w, i32_w]; rw [c26b0]) | skip)
              have H' := Aside0.mk H
              clear H
              go_wp2
              repeat (go_quiet (fail); try go_wp2)
              go_meet
              case rel => exact ⟨_, (decide ((IntKind.u64.wrap (x18_2 * (Go.bits .and .u64 (ji10) 4294967295))) > (IntKind.u64.wrap ((IntKind.u64.wrap (4294967296 * x16_2)) + (Go.bits .and .u64 (ji17) 4294967295))))), (by first | rfl | (simp; done) | (simp only [← hji10, ← hji17] <;> (first | rfl | simp)) | (simp [*]; done)), H', ⟨by have := HJ18.out; have := HK2.out; first | omega | exact Nat.le_refl _⟩, by repeat (first | exact Drawn0.refl _ | apply Drawn0.step)⟩
            case rest =>
             clear HC25
             try clear c1
             try clear c2
             try clear p2
             try clear c4
             try clear c4b0
             try clear c4b1
             try clear c5
             try clear c5b0
             try clear c6
             try clear c6b0
             try clear c6b1
             try clear c9
             try clear c9b0
             try clear c9b1
             try clear c11
             try clear c11b0
             try clear c14
             try clear c14b0
             try clear c14b1
             try clear c16
             try clear c16b0
             try clear c18
             try clear c18b0
             try clear c18b1
             try clear c19
             try clear c21
             try clear c21b0
             try clear c22
             try clear c23
             try clear c23b0
             try clear c24
             try clear c24b0
             try clear c24b1
             try clear c26
             try clear c26b0
             try clear p2
             obtain ⟨kq, x113_24, rfl, HA, HJ24, ⟨mc24, rfl⟩⟩ := hcut
             cases kq with
             | zero => exact absurd HA.out (by simp [bits_Div64.j4])
             | succ kj24 =>
              have H := HA.out
              clear HA
              simp only [bits_Div64.j4] at H
              by_cases c27 : x113_24 = true
              ·subst c27
               have H1 : (if (IntKind.u64.wrap (x16_2 + ((ji10) / 4294967296))) ≥ 4294967296 then (if 0 ≤ ji8 then (some (IntKind.u64.wrap ((IntKind.u64.wrap (x15_18 * 4294967296)) + (IntKind.u64.wrap (x18_2 - 1))), shr .u64 (IntKind.u64.wrap ((IntKind.u64.wrap ((IntKind.u64.wrap ((IntKind.u64.wrap ((IntKind.u64.wrap ((IntKind.u64.wrap ((Go.bits .or .u64 (ji12) (ji15)) * 4294967296)) + ((ji17) / 4294967296))) - (IntKind.u64.wrap (x15_18 * ji10)))) * 4294967296)) + (Go.bits .and .u64 (ji17) 4294967295))) - (IntKind.u64.wrap ((IntKind.u64.wrap (x18_2 - 1)) * ji10)))) ji8)) else (none)) else (bits_Div64.l1 kj24 ji10 ji8 ((ji10) / 4294967296) (Go.bits .and .u64 (ji10) 4294967295) (Go.bits .and .u64 (ji17) 4294967295) x15_18 (IntKind.u64.wrap (x16_2 + ((ji10) / 4294967296))) (IntKind.u64.wrap ((IntKind.u64.wrap ((IntKind.u64.wrap ((Go.bits .or .u64 (ji12) (ji15)) * 4294967296)) + ((ji17) / 4294967296))) - (IntKind.u64.wrap (x15_18 * ji10)))) (IntKind.u64.wrap (x18_2 - 1)))) = some (r1, r2) := by rw [if_pos rfl] at H <;> exact H
               clear H
               have H := H1
               clear H1
               by_cases c28 : (IntKind.u64.wrap (x16_2 + ((ji10) / 4294967296))) ≥ 4294967296
               ·rw [if_pos c28] at H
                have c28b0 : decide (4294967296 ≤ (IntKind.u64.wrap (x16_2 + ((ji10) / 4294967296)))) = true := decide_eq_true c28
                clear c28
                by_cases c29 : 0 ≤ ji8
                ·rw [if_pos c29] at H
                 have c29b0 := eq_true c29
                 have c29b1 : decide (0 ≤ ji8) = true := decide_eq_true c29
                 clear c29
                 obtain ⟨ji30, hji30⟩ : ∃ j_ : Int, (shr .u64 (IntKind.u64.wrap ((IntKind.u64.wrap ((IntKind.u64.wrap ((IntKind.u64.wrap ((IntKind.u64.wrap ((IntKind.u64.wrap ((Go.bits .or .u64 (ji12) (ji15)) * 4294967296)) + ((ji17) / 4294967296))) - (IntKind.u64.wrap (x15_18 * ji10)))) * 4294967296)) + (Go.bits .and .u64 (ji17) 4294967295))) - (IntKind.u64.wrap ((IntKind.u64.wrap (x18_2 - 1)) * ji10)))) ji8) = j_ := ⟨_, rfl⟩
                 replace H : (some (IntKind.u64.wrap ((IntKind.u64.wrap (x15_18 * 4294967296)) + (IntKind.u64.wrap (x18_2 - 1))), ji30)) = some (r1, r2) := by first | (rw [hji30] at H <;> exact H) | (simp only [hji30] at H ⊢; exact H)
                 have hji30_ : ((IntKind.u64.wrap ((IntKind.u64.wrap ((IntKind.u64.wrap ((IntKind.u64.wrap ((IntKind.u64.wrap ((IntKind.u64.wrap ((Go.bits .or .u64 (ji12) (ji15)) * 4294967296)) + ((ji17) / 4294967296))) - (IntKind.u64.wrap (x15_18 * ji10)))) * 4294967296)) + (Go.bits .and .u64 (ji17) 4294967295))) - (IntKind.u64.wrap ((IntKind.u64.wrap (x18_2 - 1)) * ji10)))) / 2 ^ min ji8.toNat 64) = ji30 := hji30
                 have hji30z : ji8 ≤ 64 → ((IntKind.u64.wrap ((IntKind.u64.wrap ((IntKind.u64.wrap ((IntKind.u64.wrap ((IntKind.u64.wrap ((IntKind.u64.wrap ((Go.bits .or .u64 (ji12) (ji15)) * 4294967296)) + ((ji17) / 4294967296))) - (IntKind.u64.wrap (x15_18 * ji10)))) * 4294967296)) + (Go.bits .and .u64 (ji17) 4294967295))) - (IntKind.u64.wrap ((IntKind.u64.wrap (x18_2 - 1)) * ji10)))) / 2 ^ ji8.toNat) = ji30 := shr_small hji30
                 simp only [Option.some.injEq, Prod.mk.injEq] at H
                 obtain ⟨rfl, rfl⟩ := H
                 go_wp2
                 repeat (go_quiet (fail); try go_wp2)
                 go_ret2
                 exact ⟨by first | rfl | (simp; done) | (simp only [← hji8, ← hji10, ← hji12, ← hji13, ← hji15, ← hji17, ← hji30] <;> (first | rfl | simp)) | (simp [*]; done), by repeat (first | exact Drawn0.refl _ | apply Drawn0.step)⟩
                ·rw [if_neg c29] at H
                 exact absurd H (by simp)
               ·rw [if_neg c28] at H
                have c28b0 : decide (4294967296 ≤ (IntKind.u64.wrap (x16_2 + ((ji10) / 4294967296)))) = false := decide_eq_false c28
                clear c28
                have H' := Aside0.mk H
                clear H
                go_wp2
                repeat (go_quiet (fail); try go_wp2)
                go_roundg kj24
                case measure => have := HJ18.out; have := HK2.out; have := HJ24.out; omega
                case rel => exact ⟨(IntKind.u64.wrap (x16_2 + ((ji10) / 4294967296))), (IntKind.u64.wrap (x18_2 - 1)), (by first | rfl | (simp; done) | (simp only [← hji10] <;> (first | rfl | simp)) | (simp [*]; done)), (by first | rfl | (simp; done) | (simp [*]; done)), H', ⟨by have := HJ18.out; have := HK2.out; have := HJ24.out; omega⟩, by repeat (first | exact Drawn0.refl _ | apply Drawn0.step)⟩
              ·replace c27 := Bool.eq_false_iff.mpr c27
               subst c27
               have H1 : (if 0 ≤ ji8 then (some (IntKind.u64.wrap ((IntKind.u64.wrap (x15_18 * 4294967296)) + x18_2), shr .u64 (IntKind.u64.wrap ((IntKind.u64.wrap ((IntKind.u64.wrap ((IntKind.u64.wrap ((IntKind.u64.wrap ((IntKind.u64.wrap ((Go.bits .or .u64 (ji12) (ji15)) * 4294967296)) + ((ji17) / 4294967296))) - (IntKind.u64.wrap (x15_18 * ji10)))) * 4294967296)) + (Go.bits .and .u64 (ji17) 4294967295))) - (IntKind.u64.wrap (x18_2 * ji10)))) ji8)) else (none)) = some (r1, r2) := by rw [if_neg (show ¬ (false = true) by decide)] at H <;> exact H
               clear H
               have H := H1
               clear H1
               by_cases c31 : 0 ≤ ji8
               ·rw [if_pos c31] at H
                have c31b0 := eq_true c31
                have c31b1 : decide (0 ≤ ji8) = true := decide_eq_true c31
                clear c31
                obtain ⟨ji32, hji32⟩ : ∃ j_ : Int, (shr .u64 (IntKind.u64.wrap ((IntKind.u64.wrap ((IntKind.u64.wrap ((IntKind.u64.wrap ((IntKind.u64.wrap ((IntKind.u64.wrap ((Go.bits .or .u64 (ji12) (ji15)) * 4294967296)) + ((ji17) / 4294967296))) - (IntKind.u64.wrap (x15_18 * ji10)))) * 4294967296)) + (Go.bits .and .u64 (ji17) 4294967295))) - (IntKind.u64.wrap (x18_2 * ji10)))) ji8) = j_ := ⟨_, rfl⟩
                replace H : (some (IntKind.u64.wrap ((IntKind.u64.wrap (x15_18 * 4294967296)) + x18_2), ji32)) = some (r1, r2) := by first | (rw [hji32] at H <;> exact H) | (simp only [hji32] at H ⊢; exact H)
                have hji32_ : ((IntKind.u64.wrap ((IntKind.u64.wrap ((IntKind.u64.wrap ((IntKind.u64.wrap ((IntKind.u64.wrap ((IntKind.u64.wrap ((Go.bits .or .u64 (ji12) (ji15)) * 4294967296)) + ((ji17) / 4294967296))) - (IntKind.u64.wrap (x15_18 * ji10)))) * 4294967296)) + (Go.bits .and .u64 (ji17) 4294967295))) - (IntKind.u64.wrap (x18_2 * ji10)))) / 2 ^ min ji8.toNat 64) = ji32 := hji32
                have hji32z : ji8 ≤ 64 → ((IntKind.u64.wrap ((IntKind.u64.wrap ((IntKind.u64.wrap ((IntKind.u64.wrap ((IntKind.u64.wrap ((IntKind.u64.wrap ((Go.bits .or .u64 (ji12) (ji15)) * 4294967296)) + ((ji17) / 4294967296))) - (IntKind.u64.wrap (x15_18 * ji10)))) * 4294967296)) + (Go.bits .and .u64 (ji17) 4294967295))) - (IntKind.u64.wrap (x18_2 * ji10)))) / 2 ^ ji8.toNat) = ji32 := shr_small hji32
                simp only [Option.some.injEq, Prod.mk.injEq] at H
                obtain ⟨rfl, rfl⟩ := H
                go_wp2
                repeat (go_quiet (fail); try go_wp2)
                go_ret2
                exact ⟨by first | rfl | (simp; done) | (simp only [← hji8, ← hji10, ← hji12, ← hji13, ← hji15, ← hji17, ← hji32] <;> (first | rfl | simp)) | (simp [*]; done), by repeat (first | exact Drawn0.refl _ | apply Drawn0.step)⟩
               ·rw [if_neg c31] at H
                exact absurd H (by simp)
     ·rw [if_neg c14] at H
      exact absurd H (by simp)
    ·rw [if_neg c9] at H
     exact absurd H (by simp)
def bits_Rem64.f (k : Nat) (a0 : Int) (a1 : Int) (a2 : Int) : Option (Int) := if a2 = 0 then (none) else ((bits_Div64.f k (Int.tmod a0 a2) a1 a2).bind fun bt110 => (some bt110.2))
set_option maxHeartbeats 8000000 in
set_option maxRecDepth 100000 in
theorem bits_Rem64.calls (k : Nat) (a0 : Int) (a1 : Int) (a2 : Int) (r : Int) (w : World) (h : bits_Rem64.f k a0 a1 a2 = some r) :
  Calls Try.prog 43 #[.int .u64 a0, .int .u64 a1, .int .u64 a2] w fun e w' => e = .returned (.int .u64 r) ∧ Drawn0 w w' := by
 have H : (if a2 = 0 then (none) else ((bits_Div64.f k (Int.tmod a0 a2) a1 a2).bind fun bt110 => (some bt110.2))) = some r := h
 clear h
 by_cases c4 : a2 = 0
 ·rw [if_pos c4] at H
  exact absurd H (by simp)
 ·rw [if_neg c4] at H
  have c4b0 : (a2 == 0) = false := beq_eq_false_iff_ne.mpr c4
  have c4b1 : (a2 != 0) = true := bne_iff_ne.mpr c4
  replace H := Option.bind_eq_some_iff.mp H
  obtain ⟨⟨t110, t111⟩, A50, H⟩ := H
  replace H : (some t111) = some r := H
  have A5 := Aside0.mk A50
  clear A50
  obtain rfl := Option.some.inj H
  go_enter Try.func43, Try.ntmps43
  go_wp2_with (first | ((with_reducible refine gate_callee (f := 59) rfl ?_); refine goesL_ (some 15) rfl rfl Try.func59 (by kernel_rfl) rfl #[.int .u64 (Int.tmod a0 a2), .int .u64 a1, .int .u64 a2] rfl (by (try simp only [List.map_toArray, List.map_cons, List.map_nil]); first | done | rfl | (simp only [List.length_drop, List.length_take]; rfl)) ?_; (with_reducible refine (bits_Div64.calls k (Int.tmod a0 a2) a1 a2 t110 t111 _ A5.out).mono ?_); rintro e w' ⟨rfl, ⟨nd, rfl⟩⟩; refine ⟨_, rfl, ?_⟩))
  go_ret
  exact ⟨by first | rfl | (simp; done) | (simp [*]; done), by repeat (first | exact Drawn0.refl _ | apply Drawn0.step)⟩
def modular_Mul.f (k : Nat) (a0 : Int) (a1 : Int) (a2 : Int) : Option (Int) := if a2 = 0 then (some 0) else ((bits_Mul64.f a0 a1).bind fun bt112 => ((bits_Rem64.f k bt112.1 bt112.2 a2).bind fun t114 => (some t114)))
set_option maxHeartbeats 8000000 in
set_option maxRecDepth 100000 in
theorem modular_Mul.calls (k : Nat) (a0 : Int) (a1 : Int) (a2 : Int) (r : Int) (w : World) (h : modular_Mul.f k a0 a1 a2 = some r) :
  Calls Try.prog 63 #[.int .u64 a0, .int .u64 a1, .int .u64 a2] w fun e w' => e = .returned (.int .u64 r) ∧ Drawn0 w w' := by
 have H : (if a2 = 0 then (some 0) else ((bits_Mul64.f a0 a1).bind fun bt112 => ((bits_Rem64.f k bt112.1 bt112.2 a2).bind fun t114 => (some t114)))) = some r := h
 clear h
 by_cases c4 : a2 = 0
 ·rw [if_pos c4] at H
  have c4b0 : (a2 == 0) = true := beq_iff_eq.mpr c4
  have c4b1 : (a2 != 0) = false := bne_eq_false_iff_eq.mpr c4
  clear c4
  obtain rfl := Option.some.inj H
  go_enter Try.func63, Try.ntmps63
  go_wp2
  go_ret
  exact ⟨by first | rfl | (simp; done) | (simp [*]; done), by repeat (first | exact Drawn0.refl _ | apply Drawn0.step)⟩
 ·rw [if_neg c4] at H
  have c4b0 : (a2 == 0) = false := beq_eq_false_iff_ne.mpr c4
  have c4b1 : (a2 != 0) = true := bne_iff_ne.mpr c4
  replace H := Option.bind_eq_some_iff.mp H
  obtain ⟨⟨t112, t113⟩, A50, H⟩ := H
  replace H : ((bits_Rem64.f k t112 t113 a2).bind fun t114 => (some t114)) = some r := H
  have A5 := Aside0.mk A50
  clear A50
  replace H := Option.bind_eq_some_iff.mp H
  obtain ⟨t114, A60, H⟩ := H
  replace H : (some t114) = some r := H
  have A6 := Aside0.mk A60
  clear A60
  obtain rfl := Option.some.inj H
  go_enter Try.func63, Try.ntmps63
  go_wp2_with (first | ((with_reducible refine gate_callee (f := 42) rfl ?_); refine goesL_ (some 14) rfl rfl Try.func42 (by kernel_rfl) rfl #[.int .u64 a0, .int .u64 a1] rfl (by (try simp only [List.map_toArray, List.map_cons, List.map_nil]); first | done | rfl | (simp only [List.length_drop, List.length_take]; rfl)) ?_; (with_reducible refine (bits_Mul64.calls a0 a1 t112 t113 _ A5.out).mono ?_); rintro e w' ⟨rfl, ⟨nd, rfl⟩⟩; refine ⟨_, rfl, ?_⟩) | ((with_reducible refine gate_callee (f := 43) rfl ?_); refine goesL_ (some 20) rfl rfl Try.func43 (by kernel_rfl) rfl #[.int .u64 t112, .int .u64 t113, .int .u64 a2] rfl (by (try simp only [List.map_toArray, List.map_cons, List.map_nil]); first | done | rfl | (simp only [List.length_drop, List.length_take]; rfl)) ?_; (with_reducible refine (bits_Rem64.calls k t112 t113 a2 t114 _ A6.out).mono ?_); rintro e w' ⟨rfl, ⟨nd, rfl⟩⟩; refine ⟨_, rfl, ?_⟩))
  go_ret
  exact ⟨by first | rfl | (simp; done) | (simp [*]; done), by repeat (first | exact Drawn0.refl _ | apply Drawn0.step)⟩
def modular_Pow.l0 : Nat → Int → Int → Int → Int → Option (Int)
 | 0, _, _, _, _ => none
 | k + 1, x0, x1, x2, x7 => if x1 > 0 then (if (Go.bits .and .u64 x1 1) = 1 then ((modular_Mul.f k x7 x0 x2).bind fun t115 => ((modular_Mul.f k x0 x0 x2).bind fun t116 => (modular_Pow.l0 k t116 (x1 / 2) x2 t115))) else ((modular_Mul.f k x0 x0 x2).bind fun t117 => (modular_Pow.l0 k t117 (x1 / 2) x2 x7))) else (some x7)
def modular_Pow.f (k : Nat) (a0 : Int) (a1 : Int) (a2 : Int) : Option (Int) := if a2 = 0 then (some 0) else (modular_Pow.l0 k a0 a1 a2 ((1 : Int) % a2))
set_option maxHeartbeats 8000000 in
set_option maxRecDepth 100000 in
theorem modular_Pow.calls (k : Nat) (a0 : Int) (a1 : Int) (a2 : Int) (r : Int) (w : World) (h : modular_Pow.f k a0 a1 a2 = some r) :
  Calls Try.prog 53 #[.int .u64 a0, .int .u64 a1, .int .u64 a2] w fun e w' => e = .returned (.int .u64 r) ∧ Drawn0 w w' := by
 have H : (if a2 = 0 then (some 0) else (modular_Pow.l0 k a0 a1 a2 ((1 : Int) % a2))) = some r := h
 clear h
 by_cases c4 : a2 = 0
 ·rw [if_pos c4] at H
  have c4b0 : (a2 == 0) = true := beq_iff_eq.mpr c4
  have c4b1 : (a2 != 0) = false := bne_eq_false_iff_eq.mpr c4
  clear c4
  obtain rfl := Option.some.inj H
  go_enter Try.func53, Try.ntmps53
  go_wp2
  go_ret
  exact ⟨by first | rfl | (simp; done) | (simp [*]; done), by repeat (first | exact Drawn0.refl _ | apply Drawn0.step)⟩
 ·rw [if_neg c4] at H
  have c4b0 : (a2 == 0) = false := beq_eq_false_iff_ne.mpr c4
  have c4b1 : (a2 != 0) = true := bne_iff_ne.mpr c4
  have H' := Aside0.mk H
  clear H
  go_enter Try.func53, Try.ntmps53
  go_wp2
  go_loopg [0, 1, 7] k (fun kq v0 v1 v7 w' => ∃ (x0_1 : Int) (x1_1 : Int) (x7_1 : Int), v0 = .int .u64 x0_1 ∧ v1 = .int .u64 x1_1 ∧ v7 = .int .u64 x7_1 ∧ Aside0 (modular_Pow.l0 kq x0_1 x1_1 a2 x7_1 = some r) ∧ Aside0 (kq ≤ k) ∧ Drawn0 w w')
  case atStart => exact ⟨(a0), (a1), ((1 : Int) % a2), (by first | rfl | (simp; done) | (simp [*]; done)), (by first | rfl | (simp; done) | (simp [*]; done)), (by first | rfl | (simp; done) | (simp [*]; done)), H', ⟨Nat.le_refl _⟩, by repeat (first | exact Drawn0.refl _ | apply Drawn0.step)⟩
  case round =>
   clear H'
   try clear p2
   try clear c4
   try clear c4b0
   try clear c4b1
   obtain ⟨x0_1, x1_1, x7_1, rfl, rfl, rfl, HA, HK1, ⟨m1, rfl⟩⟩ := hrel
   cases gk with
   | zero => exact absurd HA.out (by simp [modular_Pow.l0])
   | succ k1 =>
    have H := HA.out
    clear HA
    simp only [modular_Pow.l0] at H
    by_cases c5 : x1_1 > 0
    ·rw [if_pos c5] at H
     have c5b0 : decide (0 < x1_1) = true := decide_eq_true c5
     clear c5
     by_cases c6 : (Go.bits .and .u64 x1_1 1) = 1
     ·rw [if_pos c6] at H
      have c6b0 : ((Go.bits .and .u64 x1_1 1) == 1) = true := beq_iff_eq.mpr c6
      have c6b1 : ((Go.bits .and .u64 x1_1 1) != 1) = false := bne_eq_false_iff_eq.mpr c6
      clear c6
      replace H := Option.bind_eq_some_iff.mp H
      obtain ⟨t115, A70, H⟩ := H
      replace H : ((modular_Mul.f k1 x0_1 x0_1 a2).bind fun t116 => (modular_Pow.l0 k1 t116 (x1_1 / 2) a2 t115)) = some r := H
      have A7 := Aside0.mk A70
      clear A70
      replace H := Option.bind_eq_some_iff.mp H
      obtain ⟨t116, A80, H⟩ := H
      replace H : (modular_Pow.l0 k1 t116 (x1_1 / 2) a2 t115) = some r := H
      have A8 := Aside0.mk A80
      clear A80
      have H' := Aside0.mk H
      clear H
      go_wp2_with (first | ((with_reducible refine gate_callee (f := 63) rfl ?_); refine goesL_ (some 22) rfl rfl Try.func63 (by kernel_rfl) rfl #[.int .u64 x7_1, .int .u64 x0_1, .int .u64 a2] rfl (by (try simp only [List.map_toArray, List.map_cons, List.map_nil]); first | done | rfl | (simp only [List.length_drop, List.length_take]; rfl)) ?_; (with_reducible refine (modular_Mul.calls k1 x7_1 x0_1 a2 t115 _ A7.out).mono ?_); rintro e w' ⟨rfl, ⟨nd, rfl⟩⟩; refine ⟨_, rfl, ?_⟩) | ((with_reducible refine gate_callee (f := 63) rfl ?_); refine goesL_ (some 26) rfl rfl Try.func63 (by kernel_rfl) rfl #[.int .u64 x0_1, .int .u64 x0_1, .int .u64 a2] rfl (by (try simp only [List.map_toArray, List.map_cons, List.map_nil]); first | done | rfl | (simp only [List.length_drop, List.length_take]; rfl)) ?_; (with_reducible refine (modular_Mul.calls k1 x0_1 x0_1 a2 t116 _ A8.out).mono ?_); rintro e w' ⟨rfl, ⟨nd, rfl⟩⟩; refine ⟨_, rfl, ?_⟩))
      go_roundg k1
      case measure => have := HK1.out; omega
      case rel => exact ⟨(t116), (x1_1 / 2), (t115), (by first | rfl | (simp; done) | (simp [*]; done)), (by first | rfl | (simp; done) | (simp [*]; done)), (by first | rfl | (simp; done) | (simp [*]; done)), H', ⟨by have := HK1.out; omega⟩, by repeat (first | exact Drawn0.refl _ | apply Drawn0.step)⟩
     ·rw [if_neg c6] at H
      have c6b0 : ((Go.bits .and .u64 x1_1 1) == 1) = false := beq_eq_false_iff_ne.mpr c6
      have c6b1 : ((Go.bits .and .u64 x1_1 1) != 1) = true := bne_iff_ne.mpr c6
      replace H := Option.bind_eq_some_iff.mp H
      obtain ⟨t117, A90, H⟩ := H
      replace H : (modular_Pow.l0 k1 t117 (x1_1 / 2) a2 x7_1) = some r := H
      have A9 := Aside0.mk A90
      clear A90
      have H' := Aside0.mk H
      clear H
      go_wp2_with (first | ((with_reducible refine gate_callee (f := 63) rfl ?_); refine goesL_ (some 26) rfl rfl Try.func63 (by kernel_rfl) rfl #[.int .u64 x0_1, .int .u64 x0_1, .int .u64 a2] rfl (by (try simp only [List.map_toArray, List.map_cons, List.map_nil]); first | done | rfl | (simp only [List.length_drop, List.length_take]; rfl)) ?_; (with_reducible refine (modular_Mul.calls k1 x0_1 x0_1 a2 t117 _ A9.out).mono ?_); rintro e w' ⟨rfl, ⟨nd, rfl⟩⟩; refine ⟨_, rfl, ?_⟩))
      go_roundg k1
      case measure => have := HK1.out; omega
      case rel => exact ⟨(t117), (x1_1 / 2), (x7_1), (by first | rfl | (simp; done) | (simp [*]; done)), (by first | rfl | (simp; done) | (simp [*]; done)), (by first | rfl | (simp; done) | (simp [*]; done)), H', ⟨by have := HK1.out; omega⟩, by repeat (first | exact Drawn0.refl _ | apply Drawn0.step)⟩
    ·rw [if_neg c5] at H
     have c5b0 : decide (0 < x1_1) = false := decide_eq_false c5
     clear c5
     obtain rfl := Option.some.inj H
     go_wp2
     go_ret
     exact ⟨by first | rfl | (simp; done) | (simp [*]; done), by repeat (first | exact Drawn0.refl _ | apply Drawn0.step)⟩
def modular_Add.f (k : Nat) (a0 : Int) (a1 : Int) (a2 : Int) : Option (Int) := if a2 = 0 then (some 0) else ((bits_Add64.f (Int.tmod a0 a2) (Int.tmod a1 a2) 0).bind fun bt118 => ((bits_Rem64.f k bt118.2 bt118.1 a2).bind fun t120 => (some t120)))
set_option maxHeartbeats 8000000 in
set_option maxRecDepth 100000 in
theorem modular_Add.calls (k : Nat) (a0 : Int) (a1 : Int) (a2 : Int) (r : Int) (w : World) (h : modular_Add.f k a0 a1 a2 = some r) :
  Calls Try.prog 83 #[.int .u64 a0, .int .u64 a1, .int .u64 a2] w fun e w' => e = .returned (.int .u64 r) ∧ Drawn0 w w' := by
 have H : (if a2 = 0 then (some 0) else ((bits_Add64.f (Int.tmod a0 a2) (Int.tmod a1 a2) 0).bind fun bt118 => ((bits_Rem64.f k bt118.2 bt118.1 a2).bind fun t120 => (some t120)))) = some r := h
 clear h
 by_cases c4 : a2 = 0
 ·rw [if_pos c4] at H
  have c4b0 : (a2 == 0) = true := beq_iff_eq.mpr c4
  have c4b1 : (a2 != 0) = false := bne_eq_false_iff_eq.mpr c4
  clear c4
  obtain rfl := Option.some.inj H
  go_enter Try.func83, Try.ntmps83
  go_wp2
  repeat (go_quiet (fail); try go_wp2)
  go_ret
  exact ⟨by first | rfl | (simp; done) | (simp [*]; done), by repeat (first | exact Drawn0.refl _ | apply Drawn0.step)⟩
 ·rw [if_neg c4] at H
  have c4b0 : (a2 == 0) = false := beq_eq_false_iff_ne.mpr c4
  have c4b1 : (a2 != 0) = true := bne_iff_ne.mpr c4
  replace H := Option.bind_eq_some_iff.mp H
  obtain ⟨⟨t118, t119⟩, A50, H⟩ := H
  replace H : ((bits_Rem64.f k t119 t118 a2).bind fun t120 => (some t120)) = some r := H
  have A5 := Aside0.mk A50
  clear A50
  replace H := Option.bind_eq_some_iff.mp H
  obtain ⟨t120, A60, H⟩ := H
  replace H : (some t120) = some r := H
  have A6 := Aside0.mk A60
  clear A60
  obtain rfl := Option.some.inj H
  have XA5 := fun W => bits_Add64.run (Int.tmod a0 a2) (Int.tmod a1 a2) 0 t118 t119 W A5.out
  go_enter Try.func83, Try.ntmps83
  go_wp2_with (first | (go_at_call 43; (with_reducible refine (bits_Rem64.calls k t119 t118 a2 t120 _ A6.out).mono ?_); rintro e w' ⟨rfl, ⟨nd, rfl⟩⟩; (try first | exact ⟨rfl, _, World.drewN_drewN _ _ _⟩ | exact ⟨rfl, _, Eq.trans (World.drewN_drewN _ _ _) (congrArg (World.drewN _) (Nat.add_assoc _ _ _))⟩)))
  repeat (go_quiet (first | (go_at_call 43; (with_reducible refine (bits_Rem64.calls k t119 t118 a2 t120 _ A6.out).mono ?_); rintro e w' ⟨rfl, ⟨nd, rfl⟩⟩; (try first | exact ⟨rfl, _, World.drewN_drewN _ _ _⟩ | exact ⟨rfl, _, Eq.trans (World.drewN_drewN _ _ _) (congrArg (World.drewN _) (Nat.add_assoc _ _ _))⟩))); try go_wp2_with (first | (go_at_call 43; (with_reducible refine (bits_Rem64.calls k t119 t118 a2 t120 _ A6.out).mono ?_); rintro e w' ⟨rfl, ⟨nd, rfl⟩⟩; (try first | exact ⟨rfl, _, World.drewN_drewN _ _ _⟩ | exact ⟨rfl, _, Eq.trans (World.drewN_drewN _ _ _) (congrArg (World.drewN _) (Nat.add_assoc _ _ _))⟩))))
  go_ret
  exact ⟨by first | rfl | (simp; done) | (simp [*]; done), by repeat (first | exact Drawn0.refl _ | apply Drawn0.step)⟩
end Go.Proofs.Ytndkmnjbjlfeaaa.XS
end
section
namespace Go.Proofs.Ytndkmnjbjlfeaaa.XS
open Go.RowKit Go.Proofs.Ytndkmnjbjlfeaaa.Given Go.Proofs.YtndkmnjbjlfeaaaW.PrintWords Go.Proofs.YtndkmnjbjlfeaaaW.PrintLast Go.Proofs.YtndkmnjbjlfeaaaW.PrintMore
attribute [local go_sem] max2_int min2_int max_two min_two max_three min_three max_four min_four   -- for this text's walks alone
set_option linter.unusedVariables false
set_option linter.unusedSimpArgs false
def modular_Neg.j0 : Nat → Int → Int → Bool → Option (Int)
 | 0, _, _, _ => none
 | k + 1, x0, x1, x12 => if x12 = true then (some 0) else (if x1 = 0 then (none) else (some (IntKind.u64.wrap (x1 - (Int.tmod x0 x1)))))
def modular_Neg.f (k : Nat) (a0 : Int) (a1 : Int) : Option (Int) := if a1 = 0 then (modular_Neg.j0 k a0 a1 true) else (modular_Neg.j0 k a0 a1 ((Int.tmod a0 a1) == 0))
set_option maxHeartbeats 8000000 in
set_option maxRecDepth 100000 in
theorem modular_Neg.calls (k : Nat) (a0 : Int) (a1 : Int) (r : Int) (w : World) (h : modular_Neg.f k a0 a1 = some r) :
  Calls Try.prog 84 #[.int .u64 a0, .int .u64 a1] w fun e w' => e = .returned (.int .u64 r) ∧ Drawn0 w w' := by
 have H : (if a1 = 0 then (modular_Neg.j0 k a0 a1 true) else (modular_Neg.j0 k a0 a1 ((Int.tmod a0 a1) == 0))) = some r := h
 clear h
 have HC3 := Aside0.mk H
 clear H
 go_enter Try.func84, Try.ntmps84
 go_upto_region 1 with (fail)
 go_cut [12] (fun v12 wc => ∃ (kq : Nat) (x12_2 : Bool), v12 = .bool x12_2 ∧ Aside0 (modular_Neg.j0 kq a0 a1 x12_2 = some r) ∧ Aside0 (kq ≤ k) ∧ Drawn0 w wc)
 case first =>
  have H := HC3.out
  clear HC3
  by_cases c4 : a1 = 0
  ·rw [if_pos c4] at H
   have c4b0 : (a1 == 0) = true := beq_iff_eq.mpr c4
   have c4b1 : (a1 != 0) = false := bne_eq_false_iff_eq.mpr c4
   clear c4
   (first | rw [c4b0] | (simp only [i64_w, i32_w]; rw [c4b0]) | skip)
   have H' := Aside0.mk H
   clear H
   go_wp2
   go_meet
   case rel => exact ⟨_, (true), (by first | rfl | (simp; done) | (simp [*]; done)), H', ⟨by first | omega | exact Nat.le_refl _⟩, by repeat (first | exact Drawn0.refl _ | apply Drawn0.step)⟩
  ·rw [if_neg c4] at H
   have c4b0 : (a1 == 0) = false := beq_eq_false_iff_ne.mpr c4
   have c4b1 : (a1 != 0) = true := bne_iff_ne.mpr c4
   (first | rw [c4b0] | (simp only [i64_w, i32_w]; rw [c4b0]) | skip)
   have H' := Aside0.mk H
   clear H
   go_wp2
   go_meet
   case rel => exact ⟨_, (((Int.tmod a0 a1) == 0)), (by first | rfl | (simp; done) | (simp [*]; done)), H', ⟨by first | omega | exact Nat.le_refl _⟩, by repeat (first | exact Drawn0.refl _ | apply Drawn0.step)⟩
 case rest =>
  clear HC3
  try clear p2
  try clear c4
  try clear c4b0
  try clear c4b1
  obtain ⟨kq, x12_2, rfl, HA, HJ2, ⟨mc2, rfl⟩⟩ := hcut
  cases kq with
  | zero => exact absurd HA.out (by simp [modular_Neg.j0])
  | succ kj2 =>
   have H := HA.out
   clear HA
   simp only [modular_Neg.j0] at H
   by_cases c5 : x12_2 = true
   ·subst c5
    have H1 : (some 0) = some r := by rw [if_pos rfl] at H <;> exact H
    clear H
    have H := H1
    clear H1
    obtain rfl := Option.some.inj H
    go_wp2
    go_ret
    exact ⟨by first | rfl | (simp; done) | (simp [*]; done), by repeat (first | exact Drawn0.refl _ | apply Drawn0.step)⟩
   ·replace c5 := Bool.eq_false_iff.mpr c5
    subst c5
    have H1 : (if a1 = 0 then (none) else (some (IntKind.u64.wrap (a1 - (Int.tmod a0 a1))))) = some r := by rw [if_neg (show ¬ (false = true) by decide)] at H <;> exact H
    clear H
    have H := H1
    clear H1
    by_cases c6 : a1 = 0
    ·rw [if_pos c6] at H
     exact absurd H (by simp)
    ·rw [if_neg c6] at H
     have c6b0 : (a1 == 0) = false := beq_eq_false_iff_ne.mpr c6
     have c6b1 : (a1 != 0) = true := bne_iff_ne.mpr c6
     obtain rfl := Option.some.inj H
     go_wp2
     go_ret
     exact ⟨by first | rfl | (simp; done) | (simp [*]; done), by repeat (first | exact Drawn0.refl _ | apply Drawn0.step)⟩
def modular_Sub.f (k : Nat) (a0 : Int) (a1 : Int) (a2 : Int) : Option (Int) := (modular_Neg.f k a1 a2).bind fun t121 => ((modular_Add.f k a0 t121 a2).bind fun t122 => (some t122))
set_option maxHeartbeats 8000000 in
set_option maxRecDepth 100000 in
theorem modular_Sub.calls (k : Nat) (a0 : Int) (a1 : Int) (a2 : Int) (r : Int) (w : World) (h : modular_Sub.f k a0 a1 a2 = some r) :
  Calls Try.prog 62 #[.int .u64 a0, .int .u64 a1, .int .u64 a2] w fun e w' => e = .returned (.int .u64 r) ∧ Drawn0 w w' := by
 have H : ((modular_Neg.f k a1 a2).bind fun t121 => ((modular_Add.f k a0 t121 a2).bind fun t122 => (some t122))) = some r := h
 clear h
 replace H := Option.bind_eq_some_iff.mp H
 obtain ⟨t121, A40, H⟩ := H
 replace H : ((modular_Add.f k a0 t121 a2).bind fun t122 => (some t122)) = some r := H
 have A4 := Aside0.mk A40
 clear A40
 replace H := Option.bind_eq_some_iff.mp H
 obtain ⟨t122, A50, H⟩ := H
 replace H : (some t122) = some r := H
 have A5 := Aside0.mk A50
 clear A50
 obtain rfl := Option.some.inj H
 go_enter Try.func62, Try.ntmps62
 go_wp2_with (first | ((with_reducible refine gate_callee (f := 84) rfl ?_); refine goesL_ (some 10) rfl rfl Try.func84 (by kernel_rfl) rfl #[.int .u64 a1, .int .u64 a2] rfl (by (try simp only [List.map_toArray, List.map_cons, List.map_nil]); first | done | rfl | (simp only [List.length_drop, List.length_take]; rfl)) ?_; (with_reducible refine (modular_Neg.calls k a1 a2 t121 _ A4.out).mono ?_); rintro e w' ⟨rfl, ⟨nd, rfl⟩⟩; refine ⟨_, rfl, ?_⟩) | ((with_reducible refine gate_callee (f := 83) rfl ?_); refine goesL_ (some 12) rfl rfl Try.func83 (by kernel_rfl) rfl #[.int .u64 a0, .int .u64 t121, .int .u64 a2] rfl (by (try simp only [List.map_toArray, List.map_cons, List.map_nil]); first | done | rfl | (simp only [List.length_drop, List.length_take]; rfl)) ?_; (with_reducible refine (modular_Add.calls k a0 t121 a2 t122 _ A5.out).mono ?_); rintro e w' ⟨rfl, ⟨nd, rfl⟩⟩; refine ⟨_, rfl, ?_⟩))
 go_ret
 exact ⟨by first | rfl | (simp; done) | (simp [*]; done), by repeat (first | exact Drawn0.refl _ | apply Drawn0.step)⟩
def modular_Inv.l0 : Nat → Int → Int → Int → Int → Int → Option (Int × Bool)
 | 0, _, _, _, _, _ => none
 | k + 1, x1, x6, x7, x8, x9 => if x7 > 0 then (if x7 = 0 then (none) else ((modular_Mul.f k (IntKind.u64.wrap (Int.tdiv x6 x7)) x9 x1).bind fun t123 => ((modular_Sub.f k x8 t123 x1).bind fun t124 => (modular_Inv.l0 k x1 x7 (IntKind.u64.wrap (x6 - (IntKind.u64.wrap ((IntKind.u64.wrap (Int.tdiv x6 x7)) * x7)))) x9 t124)))) else (if x6 = 1 then (some (x8, true)) else (some (0, false)))
def modular_Inv.f (k : Nat) (a0 : Int) (a1 : Int) : Option (Int × Bool) := if a1 < 2 then (some (0, false)) else (if a1 = 0 then (none) else (modular_Inv.l0 k a1 a1 (Int.tmod a0 a1) 0 1))
set_option maxHeartbeats 8000000 in
set_option maxRecDepth 100000 in
theorem modular_Inv.calls (k : Nat) (a0 : Int) (a1 : Int) (r1 : Int) (r2 : Bool) (w : World) (h : modular_Inv.f k a0 a1 = some (r1, r2)) :
  Calls Try.prog 48 #[.int .u64 a0, .int .u64 a1] w fun e w' => e = .returned (.tuple #[.int .u64 r1, .bool r2]) ∧ Drawn0 w w' := by
 have H : (if a1 < 2 then (some (0, false)) else (if a1 = 0 then (none) else (modular_Inv.l0 k a1 a1 (Int.tmod a0 a1) 0 1))) = some (r1, r2) := h
 clear h
 by_cases c3 : a1 < 2
 ·rw [if_pos c3] at H
  have c3b0 : decide (a1 < 2) = true := decide_eq_true c3
  clear c3
  simp only [Option.some.injEq, Prod.mk.injEq] at H
  obtain ⟨rfl, rfl⟩ := H
  go_enter Try.func48, Try.ntmps48
  go_wp2
  repeat (go_quiet (fail); try go_wp2)
  go_ret2
  exact ⟨by first | rfl | (simp; done) | (simp [*]; done), by repeat (first | exact Drawn0.refl _ | apply Drawn0.step)⟩
 ·rw [if_neg c3] at H
  have c3b0 : decide (a1 < 2) = false := decide_eq_false c3
  clear c3
  by_cases c4 : a1 = 0
  ·rw [if_pos c4] at H
   exact absurd H (by simp)
  ·rw [if_neg c4] at H
   have c4b0 : (a1 == 0) = false := beq_eq_false_iff_ne.mpr c4
   have c4b1 : (a1 != 0) = true := bne_iff_ne.mpr c4
   have H' := Aside0.mk H
   clear H
   go_enter Try.func48, Try.ntmps48
   go_wp2
   repeat (go_quiet (fail); try go_wp2)
   go_loopg [6, 7, 8, 9] k (fun kq v6 v7 v8 v9 w' => ∃ (x6_1 : Int) (x7_1 : Int) (x8_1 : Int) (x9_1 : Int), v6 = .int .u64 x6_1 ∧ v7 = .int .u64 x7_1 ∧ v8 = .int .u64 x8_1 ∧ v9 = .int .u64 x9_1 ∧ Aside0 (modular_Inv.l0 kq a1 x6_1 x7_1 x8_1 x9_1 = some (r1, r2)) ∧ Aside0 (kq ≤ k) ∧ Drawn0 w w')
   case atStart => exact ⟨(a1), (Int.tmod a0 a1), (0), (1), (by first | rfl | (simp; done) | (simp [*]; done)), (by first | rfl | (simp; done) | (simp [*]; done)), (by first | rfl | (simp; done) | (simp [*]; done)), (by first | rfl | (simp; done) | (simp [*]; done)), H', ⟨Nat.le_refl _⟩, by repeat (first | exact Drawn0.refl _ | apply Drawn0.step)⟩
   case round =>
    clear H'
    try clear p2
    try clear c3
    try clear c3b0
    try clear c4
    try clear c4b0
    try clear c4b1
    obtain ⟨x6_1, x7_1, x8_1, x9_1, rfl, rfl, rfl, rfl, HA, HK1, ⟨m1, rfl⟩⟩ := hrel
    cases gk with
    | zero => exact absurd HA.out (by simp [modular_Inv.l0])
    | succ k1 =>
     have H := HA.out
     clear HA
     simp only [modular_Inv.l0] at H
     by_cases c5 : x7_1 > 0
     ·rw [if_pos c5] at H
      have c5b0 : decide (0 < x7_1) = true := decide_eq_true c5
      clear c5
      by_cases c6 : x7_1 = 0
      ·rw [if_pos c6] at H
       exact absurd H (by simp)
      ·rw [if_neg c6] at H
       have c6b0 : (x7_1 == 0) = false := beq_eq_false_iff_ne.mpr c6
       have c6b1 : (x7_1 != 0) = true := bne_iff_ne.mpr c6
       replace H := Option.bind_eq_some_iff.mp H
       obtain ⟨t123, A70, H⟩ := H
       replace H : ((modular_Sub.f k1 x8_1 t123 a1).bind fun t124 => (modular_Inv.l0 k1 a1 x7_1 (IntKind.u64.wrap (x6_1 - (IntKind.u64.wrap ((IntKind.u64.wrap (Int.tdiv x6_1 x7_1)) * x7_1)))) x9_1 t124)) = some (r1, r2) := H
       have A7 := Aside0.mk A70
       clear A70
       replace H := Option.bind_eq_some_iff.mp H
       obtain ⟨t124, A80, H⟩ := H
       replace H : (modular_Inv.l0 k1 a1 x7_1 (IntKind.u64.wrap (x6_1 - (IntKind.u64.wrap ((IntKind.u64.wrap (Int.tdiv x6_1 x7_1)) * x7_1)))) x9_1 t124) = some (r1, r2) := H
       have A8 := Aside0.mk A80
       clear A80
       have H' := Aside0.mk H
       clear H
       go_wp2_with (first | (go_at_call 63; (with_reducible refine (modular_Mul.calls k1 (IntKind.u64.wrap (Int.tdiv x6_1 x7_1)) x9_1 a1 t123 _ A7.out).mono ?_); rintro e w' ⟨rfl, ⟨nd, rfl⟩⟩; (try first | exact ⟨rfl, _, World.drewN_drewN _ _ _⟩ | exact ⟨rfl, _, Eq.trans (World.drewN_drewN _ _ _) (congrArg (World.drewN _) (Nat.add_assoc _ _ _))⟩)) | (go_at_call 62; (with_reducible refine (modular_Sub.calls k1 x8_1 t123 a1 t124 _ A8.out).mono ?_); rintro e w' ⟨rfl, ⟨nd, rfl⟩⟩; (try first | exact ⟨rfl, _, World.drewN_drewN _ _ _⟩ | exact ⟨rfl, _, Eq.trans (World.drewN_drewN _ _ _) (congrArg (World.drewN _) (Nat.add_assoc _ _ _))⟩)))
       repeat (go_quiet (first | (go_at_call 63; (with_reducible refine (modular_Mul.calls k1 (IntKind.u64.wrap (Int.tdiv x6_1 x7_1)) x9_1 a1 t123 _ A7.out).mono ?_); rintro e w' ⟨rfl, ⟨nd, rfl⟩⟩; (try first | exact ⟨rfl, _, World.drewN_drewN _ _ _⟩ | exact ⟨rfl, _, Eq.trans (World.drewN_drewN _ _ _) (congrArg (World.drewN _) (Nat.add_assoc _ _ _))⟩)) | (go_at_call 62; (with_reducible refine (modular_Sub.calls k1 x8_1 t123 a1 t124 _ A8.out).mono ?_); rintro e w' ⟨rfl, ⟨nd, rfl⟩⟩; (try first | exact ⟨rfl, _, World.drewN_drewN _ _ _⟩ | exact ⟨rfl, _, Eq.trans (World.drewN_drewN _ _ _) (congrArg (World.drewN _) (Nat.add_assoc _ _ _))⟩))); try go_wp2_with (first | (go_at_call 63; (with_reducible refine (modular_Mul.calls k1 (IntKind.u64.wrap (Int.tdiv x6_1 x7_1)) x9_1 a1 t123 _ A7.out).mono ?_); rintro e w' ⟨rfl, ⟨nd, rfl⟩⟩; (try first | exact ⟨rfl, _, World.drewN_drewN _ _ _⟩ | exact ⟨rfl, _, Eq.trans (World.drewN_drewN _ _ _) (congrArg (World.drewN _) (Nat.add_assoc _ _ _))⟩)) | (go_at_call 62; (with_reducible refine (modular_Sub.calls k1 x8_1 t123 a1 t124 _ A8.out).mono ?_); rintro e w' ⟨rfl, ⟨nd, rfl⟩⟩; (try first | exact ⟨rfl, _, World.drewN_drewN _ _ _⟩ | exact ⟨rfl, _, Eq.trans (World.drewN_drewN _ _ _) (congrArg (World.drewN _) (Nat.add_assoc _ _ _))⟩))))
       go_roundg k1
       case measure => have := HK1.out; omega
       case rel => exact ⟨(x7_1), (IntKind.u64.wrap (x6_1 - (IntKind.u64.wrap ((IntKind.u64.wrap (Int.tdiv x6_1 x7_1)) * x7_1)))), (x9_1), (t124), (by first | rfl | (simp; done) | (simp [*]; done)), (by first | rfl | (simp; done) | (simp [*]; done)), (by first | rfl | (simp; done) | (simp [*]; done)), (by first | rfl | (simp; done) | (simp [*]; done)), H', ⟨by have := HK1.out; omega⟩, by repeat (first | exact Drawn0.refl _ | apply Drawn0.step)⟩
     ·rw [if_neg c5] at H
      have c5b0 : decide (0 < x7_1) = false := decide_eq_false c5
      clear c5
      by_cases c9 : x6_1 = 1
      ·rw [if_pos c9] at H
       have c9b0 : (x6_1 == 1) = true := beq_iff_eq.mpr c9
       have c9b1 : (x6_1 != 1) = false := bne_eq_false_iff_eq.mpr c9
       clear c9
       simp only [Option.some.injEq, Prod.mk.injEq] at H
       obtain ⟨rfl, rfl⟩ := H
       go_wp2
       repeat (go_quiet (fail); try go_wp2)
       go_ret2
       exact ⟨by first | rfl | (simp; done) | (simp [*]; done), by repeat (first | exact Drawn0.refl _ | apply Drawn0.step)⟩
      ·rw [if_neg c9] at H
       have c9b0 : (x6_1 == 1) = false := beq_eq_false_iff_ne.mpr c9
       have c9b1 : (x6_1 != 1) = true := bne_iff_ne.mpr c9
       simp only [Option.some.injEq, Prod.mk.injEq] at H
       obtain ⟨rfl, rfl⟩ := H
       go_wp2
       repeat (go_quiet (fail); try go_wp2)
       go_ret2
       exact ⟨by first | rfl | (simp; done) | (simp [*]; done), by repeat (first | exact Drawn0.refl _ | apply Drawn0.step)⟩
end Go.Proofs.Ytndkmnjbjlfeaaa.XS
end
section

end
section
namespace Go.Proofs.Ytndkmnjbjlfeaaa.XS
open Go Go.RowKit Go.Proofs.YtndkmnjbjlfeaaaW.PrintWords Go.Proofs.YtndkmnjbjlfeaaaW.PrintLast Go.Proofs.YtndkmnjbjlfeaaaW.PrintMore Go.Proofs.Ytndkmnjbjlfeaaa.Given Go.Proofs.Ytndkmnjbjlfeaaa.M
section digit
variable {Y h l u d q r : Int}
theorem digit_le (hY : Y = h * 4294967296 + l) (hl : 0 ≤ l) (hh : 2147483648 ≤ h) (he : q * h + r = u) (hc : q * l ≤ 4294967296 * r + d) : q ≤ (u * 4294967296 + d) / Y := by
  have e : q * Y = q * h * 4294967296 + q * l := by rw [hY, Int.mul_add, ← Int.mul_assoc]
  have hp : 0 < Y := by omega
  refine Int.le_ediv_of_mul_le hp ?_
  omega
theorem digit_lt (hY : Y = h * 4294967296 + l) (hl : 0 ≤ l) (hh : 2147483648 ≤ h) (he : q * h + r = u) (hc : 4294967296 * r + d < q * l) : (u * 4294967296 + d) / Y < q := by
  have e : q * Y = q * h * 4294967296 + q * l := by rw [hY, Int.mul_add, ← Int.mul_assoc]
  have hp : 0 < Y := by omega
  refine Int.ediv_lt_of_lt_mul hp ?_
  omega
theorem digit_top (hp : 0 < Y) (hu : u < Y) (hd : d < 4294967296) : (u * 4294967296 + d) / Y < 4294967296 := by
  refine Int.ediv_lt_of_lt_mul hp ?_
  omega
end digit
theorem mul_le_of {a b A B : Int} (ha : 0 ≤ a) (hb : 0 ≤ b) (hA : a ≤ A) (hB : b ≤ B) : a * b ≤ A * B :=
  Int.mul_le_mul hA hB hb (by omega)
section
variable {Y s h l u d e : Int}
theorem div_l0 {R : Int × Int} (hY : Y = h * 4294967296 + l) (hl : 0 ≤ l) (hl2 : l < 4294967296) (hh : 2147483648 ≤ h) (hh2 : h < 4294967296) (hu0 : 0 ≤ u) (hu : u < Y) (hd0 : 0 ≤ d) (hd : d < 4294967296)
    (hR : Ev (fun k => bits_Div64.j2 k Y s h l u d e ((u * 4294967296 + d) / Y)) R) (n : Nat) :
    ∀ q r : Int, q * h + r = u → 0 ≤ r → r < 4294967296 → (u * 4294967296 + d) / Y ≤ q → q ≤ 4294967297 → q - (u * 4294967296 + d) / Y = n →
    Ev (fun k => bits_Div64.l0 k Y s h l u d e q r) R := by
  have hp : 0 < Y := by omega
  have htop := digit_top hp hu hd
  have hq0 : 0 ≤ (u * 4294967296 + d) / Y := Int.ediv_nonneg (by omega) (by omega)
  generalize hQ : (u * 4294967296 + d) / Y = Q at *
  have step : ∀ q r : Int, q * h + r = u → 0 ≤ r → r < 4294967296 → Q < q → q ≤ 4294967297 → (Q < q - 1 → Ev (fun k => bits_Div64.l0 k Y s h l u d e (q - 1) (r + h)) R) →
      (r + h < 4294967296 → Q = q - 1 → Ev (fun k => bits_Div64.l0 k Y s h l u d e (q - 1) (r + h)) R) →
      Ev (fun k => bits_Div64.j1 k Y s h l u d e q r true) R := by
    intro q r he hr0 hr hlt hq hnext hnext2
    by_cases hb : r + h < 4294967296
    · have hE : Ev (fun k => bits_Div64.l0 k Y s h l u d e (q - 1) (r + h)) R := by
        by_cases hx : Q < q - 1
        · exact hnext hx
        · exact hnext2 hb (by omega)
      refine Ev.step (fun k => ?_) hE
      simp only [bits_Div64.j1, if_true]
      rw [wu64_id (r + h) (by omega) (by omega), if_neg (by omega), wu64_id (q - 1) (by omega) (by omega)]
    · have hle : q - 1 ≤ Q := by
        rw [← hQ]
        refine digit_le (r := r + h) hY hl hh ?_ ?_
        · rw [Int.sub_mul]; omega
        · have := mul_le_of (a := q - 1) (b := l) (A := 4294967296) (B := 4294967295) (by omega) hl (by omega) (by omega)
          omega
      have hQe : Q = q - 1 := by omega
      refine Ev.step (fun k => ?_) hR
      simp only [bits_Div64.j1, if_true]
      rw [wu64_id (r + h) (by omega) (by omega), if_pos (by omega), wu64_id (q - 1) (by omega) (by omega), hQe]
  induction n with
  | zero =>
    intro q r he hr0 hr hQq hq hn
    obtain rfl : Q = q := by omega
    have hnc : ¬ (4294967296 * r + d < Q * l) := by
      intro hc
      have := digit_lt hY hl hh he hc
      omega
    have hm := mul_le_of (a := Q) (b := l) (A := 4294967297) (B := 4294967295) (by omega) hl (by omega) (by omega)
    have hm0 : 0 ≤ Q * l := Int.mul_nonneg hq0 hl
    refine Ev.step (f := fun k => bits_Div64.j1 k Y s h l u d e Q r false) (fun k => ?_) (Ev.step (fun k => ?_) hR)
    · simp only [bits_Div64.l0]
      rw [if_neg (by omega), wu64_id (Q * l) hm0 (by omega), wu64_id (4294967296 * r) (by omega) (by omega), wu64_id (4294967296 * r + d) (by omega) (by omega), decide_eq_false (by omega)]
    · simp only [bits_Div64.j1]
      rw [if_neg (by simp)]
  | succ n ih =>
    intro q r he hr0 hr hQq hq hn
    have hlt : Q < q := by omega
    have hc : 4294967296 ≤ q ∨ 4294967296 * r + d < q * l := by
      by_cases h1 : 4294967296 ≤ q
      · exact .inl h1
      · right
        refine Classical.byContradiction fun h2 => ?_
        have := digit_le (q := q) (r := r) hY hl hh he (Int.not_lt.1 h2)
        omega
    have hj := step q r he hr0 hr hlt hq (fun hx => by
        by_cases hb : r + h < 4294967296
        · exact ih (q - 1) (r + h) (by rw [Int.sub_mul]; omega) (by omega) hb (by omega) (by omega) (by omega)
        · exfalso
          have hle : q - 1 ≤ Q := by
            rw [← hQ]
            refine digit_le (r := r + h) hY hl hh ?_ ?_
            · rw [Int.sub_mul]; omega
            · have := mul_le_of (a := q - 1) (b := l) (A := 4294967296) (B := 4294967295) (by omega) hl (by omega) (by omega)
              omega
          omega)
      (fun hb hx => ih (q - 1) (r + h) (by rw [Int.sub_mul]; omega) (by omega) hb (by omega) (by omega) (by omega))
    have hm := mul_le_of (a := q) (b := l) (A := 4294967297) (B := 4294967295) (by omega) hl (by omega) (by omega)
    have hm0 : 0 ≤ q * l := Int.mul_nonneg (by omega) hl
    refine Ev.step (fun k => ?_) hj
    simp only [bits_Div64.l0]
    by_cases h1 : 4294967296 ≤ q
    · rw [if_pos (by omega)]
    · rw [if_neg (by omega), wu64_id (q * l) hm0 (by omega), wu64_id (4294967296 * r) (by omega) (by omega), wu64_id (4294967296 * r + d) (by omega) (by omega), decide_eq_true (by omega)]
theorem div_l1 {q1 : Int} (hY : Y = h * 4294967296 + l) (hl : 0 ≤ l) (hl2 : l < 4294967296) (hh : 2147483648 ≤ h) (hh2 : h < 4294967296) (hu0 : 0 ≤ u) (hu : u < Y) (hd0 : 0 ≤ d) (hd : d < 4294967296) (hs : 0 ≤ s) (hq1 : 0 ≤ q1) (hq1' : q1 < 4294967296) (n : Nat) :
    ∀ q r : Int, q * h + r = u → 0 ≤ r → r < 4294967296 → (u * 4294967296 + d) / Y ≤ q → q ≤ 4294967297 → q - (u * 4294967296 + d) / Y = n →
    Ev (fun k => bits_Div64.l1 k Y s h l d q1 r u q) (q1 * 4294967296 + (u * 4294967296 + d) / Y, shr .u64 ((u * 4294967296 + d) % Y) s) := by
  have hp : 0 < Y := by omega
  have htop := digit_top hp hu hd
  have hq0 : 0 ≤ (u * 4294967296 + d) / Y := Int.ediv_nonneg (by omega) (by omega)
  have hmod : (u * 4294967296 + d) - (u * 4294967296 + d) / Y * Y = (u * 4294967296 + d) % Y := by
    have := Int.mul_ediv_add_emod (u * 4294967296 + d) Y
    rw [Int.mul_comm] at this
    omega
  have hm1 := Int.emod_lt_of_pos (u * 4294967296 + d) hp
  have hm0 := Int.emod_nonneg (u * 4294967296 + d) (by omega : Y ≠ 0)
  have hrest : IntKind.u64.wrap (IntKind.u64.wrap (IntKind.u64.wrap (u * 4294967296) + d) - IntKind.u64.wrap ((u * 4294967296 + d) / Y * Y)) = (u * 4294967296 + d) % Y := by
    simp only [wu64]
    omega
  generalize hQ : (u * 4294967296 + d) / Y = Q at *
  have step : ∀ q r : Int, q * h + r = u → 0 ≤ r → r < 4294967296 → Q < q → q ≤ 4294967297 →
      (r + h < 4294967296 → Ev (fun k => bits_Div64.l1 k Y s h l d q1 (r + h) u (q - 1)) (q1 * 4294967296 + Q, shr .u64 ((u * 4294967296 + d) % Y) s)) →
      Ev (fun k => bits_Div64.j4 k Y s h l d q1 r u q true) (q1 * 4294967296 + Q, shr .u64 ((u * 4294967296 + d) % Y) s) := by
    intro q r he hr0 hr hlt hq hnext
    by_cases hb : r + h < 4294967296
    · refine Ev.step (fun k => ?_) (hnext hb)
      simp only [bits_Div64.j4, if_true]
      rw [wu64_id (r + h) (by omega) (by omega), if_neg (by omega), wu64_id (q - 1) (by omega) (by omega)]
    · have hle : q - 1 ≤ Q := by
        rw [← hQ]
        refine digit_le (r := r + h) hY hl hh ?_ ?_
        · rw [Int.sub_mul]; omega
        · have := mul_le_of (a := q - 1) (b := l) (A := 4294967296) (B := 4294967295) (by omega) hl (by omega) (by omega)
          omega
      have hQe : q - 1 = Q := by omega
      refine Ev.step (fun k => ?_) (Ev.now _)
      simp only [bits_Div64.j4, if_true]
      rw [wu64_id (r + h) (by omega) (by omega), if_pos (by omega), if_pos hs, wu64_id (q - 1) (by omega) (by omega), hQe, hrest, wu64_id (q1 * 4294967296) (by omega) (by omega), wu64_id (q1 * 4294967296 + Q) (by omega) (by omega)]
  induction n with
  | zero =>
    intro q r he hr0 hr hQq hq hn
    obtain rfl : Q = q := by omega
    have hnc : ¬ (4294967296 * r + d < Q * l) := by
      intro hc
      have := digit_lt hY hl hh he hc
      omega
    have hm := mul_le_of (a := Q) (b := l) (A := 4294967297) (B := 4294967295) (by omega) hl (by omega) (by omega)
    have hmm : 0 ≤ Q * l := Int.mul_nonneg hq0 hl
    refine Ev.step (f := fun k => bits_Div64.j4 k Y s h l d q1 r u Q false) (fun k => ?_) (Ev.step (fun k => ?_) (Ev.now _))
    · simp only [bits_Div64.l1]
      rw [if_neg (by omega), wu64_id (Q * l) hmm (by omega), wu64_id (4294967296 * r) (by omega) (by omega), wu64_id (4294967296 * r + d) (by omega) (by omega), decide_eq_false (by omega)]
    · simp only [bits_Div64.j4]
      rw [if_neg (by simp), if_pos hs, hrest, wu64_id (q1 * 4294967296) (by omega) (by omega), wu64_id (q1 * 4294967296 + Q) (by omega) (by omega)]
  | succ n ih =>
    intro q r he hr0 hr hQq hq hn
    have hlt : Q < q := by omega
    have hc : 4294967296 ≤ q ∨ 4294967296 * r + d < q * l := by
      by_cases h1 : 4294967296 ≤ q
      · exact .inl h1
      · right
        refine Classical.byContradiction fun h2 => ?_
        have := digit_le (q := q) (r := r) hY hl hh he (Int.not_lt.1 h2)
        omega
    have hj := step q r he hr0 hr hlt hq (fun hb => ih (q - 1) (r + h) (by rw [Int.sub_mul]; omega) (by omega) hb (by omega) (by omega) (by omega))
    have hm := mul_le_of (a := q) (b := l) (A := 4294967297) (B := 4294967295) (by omega) hl (by omega) (by omega)
    have hmm : 0 ≤ q * l := Int.mul_nonneg (by omega) hl
    refine Ev.step (fun k => ?_) hj
    simp only [bits_Div64.l1]
    by_cases h1 : 4294967296 ≤ q
    · rw [if_pos (by omega)]
    · rw [if_neg (by omega), wu64_id (q * l) hmm (by omega), wu64_id (4294967296 * r) (by omega) (by omega), wu64_id (4294967296 * r + d) (by omega) (by omega), decide_eq_true (by omega)]
end
section
variable {Y s h l u d e : Int}
theorem div_j2 (hY : Y = h * 4294967296 + l) (hl : 0 ≤ l) (hl2 : l < 4294967296) (hh : 2147483648 ≤ h) (hh2 : h < 4294967296) (hu0 : 0 ≤ u) (hu : u < Y) (hd0 : 0 ≤ d) (hd : d < 4294967296) (he0 : 0 ≤ e) (he : e < 4294967296) (hs : 0 ≤ s) :
    Ev (fun k => bits_Div64.j2 k Y s h l u d e ((u * 4294967296 + d) / Y)) ((u * 4294967296 + d) / Y * 4294967296 + ((u * 4294967296 + d) % Y * 4294967296 + e) / Y, shr .u64 (((u * 4294967296 + d) % Y * 4294967296 + e) % Y) s) := by
  have hp : 0 < Y := by omega
  have htop := digit_top hp hu hd
  have hq0 : 0 ≤ (u * 4294967296 + d) / Y := Int.ediv_nonneg (by omega) (by omega)
  have hmod : (u * 4294967296 + d) - (u * 4294967296 + d) / Y * Y = (u * 4294967296 + d) % Y := by
    have := Int.mul_ediv_add_emod (u * 4294967296 + d) Y
    rw [Int.mul_comm] at this
    omega
  have hm1 := Int.emod_lt_of_pos (u * 4294967296 + d) hp
  have hm0 := Int.emod_nonneg (u * 4294967296 + d) (by omega : Y ≠ 0)
  have hrest : IntKind.u64.wrap (IntKind.u64.wrap (IntKind.u64.wrap (u * 4294967296) + d) - IntKind.u64.wrap ((u * 4294967296 + d) / Y * Y)) = (u * 4294967296 + d) % Y := by
    simp only [wu64]
    omega
  generalize (u * 4294967296 + d) / Y = q1 at *
  generalize (u * 4294967296 + d) % Y = v at *
  have hv : v / h * h + v % h = v := by
    have := Int.mul_ediv_add_emod v h
    rw [Int.mul_comm] at this
    exact this
  have hvm1 := Int.emod_lt_of_pos v (by omega : 0 < h)
  have hvm0 := Int.emod_nonneg v (by omega : h ≠ 0)
  have hvd0 : 0 ≤ v / h := Int.ediv_nonneg hm0 (by omega)
  have hvd1 : v / h ≤ 4294967297 := by
    have : v / h < 4294967298 := Int.ediv_lt_of_lt_mul (by omega) (by omega)
    omega
  have hle : (v * 4294967296 + e) / Y ≤ v / h := by
    refine Classical.byContradiction fun hn => ?_
    have h1 := Int.ediv_mul_le (v * 4294967296 + e) (by omega : Y ≠ 0)
    have h2 : (v / h + 1) * Y ≤ (v * 4294967296 + e) / Y * Y := Int.mul_le_mul_of_nonneg_right (by omega) (by omega)
    have h3 : (v / h + 1) * Y = (v / h * h + h) * 4294967296 + (v / h + 1) * l := by rw [hY, Int.mul_add, ← Int.mul_assoc, Int.add_mul (v / h) 1 h, Int.one_mul]
    have h4 : 0 ≤ (v / h + 1) * l := Int.mul_nonneg (by omega) hl
    omega
  refine Ev.step (fun k => ?_) (div_l1 (s := s) (q1 := q1) hY hl hl2 hh hh2 hm0 hm1 he0 he hs hq0 htop ((v / h - (v * 4294967296 + e) / Y).toNat) (v / h) (v % h) hv hvm0 (by omega) hle hvd1 (by omega))
  simp only [bits_Div64.j2]
  rw [if_neg (by omega), hrest, tdiv_pos hm0, wu64_id (v / h) hvd0 (by omega), wu64_id (v / h * h) (Int.mul_nonneg hvd0 (by omega)) (by omega), show v - v / h * h = v % h from by omega, wu64_id (v % h) hvm0 (by omega)]
end
theorem bitLen_bounds (y : Nat) (h0 : y ≠ 0) (h : y < 18446744073709551616) : 1 ≤ Lib.bitLen y ∧ 2 ^ (Lib.bitLen y - 1) ≤ y ∧ y < 2 ^ Lib.bitLen y :=
  Lib.bitLenAux_bounds 64 y h h0
theorem div_join {N y p Y q1 q0 w : Int} (hp : 0 < p) (hY : Y = y * p) (hN : N * p = (q1 * 4294967296 + q0) * Y + w) (hw0 : 0 ≤ w) (hw : w < Y) :
    q1 * 4294967296 + q0 = N / y ∧ w / p = N % y := by
  generalize q1 * 4294967296 + q0 = Q at *
  have hw' : w = (N - Q * y) * p := by rw [Int.sub_mul, hN, hY, Int.mul_assoc]; omega
  have hyp : 0 < Y := by omega
  have hr0 : 0 ≤ N - Q * y := by
    refine Classical.byContradiction fun hn => ?_
    have : (N - Q * y) * p < 0 := Int.mul_neg_of_neg_of_pos (by omega) hp
    omega
  have hr1 : N - Q * y < y := by
    refine Int.lt_of_mul_lt_mul_right (a := p) ?_ (by omega)
    rw [← hw', ← hY]; exact hw
  have hy : 0 < y := by omega
  have e1 : N / y = Q := by
    rw [show N = (N - Q * y) + Q * y from by omega, Int.add_mul_ediv_right _ _ (by omega), Int.ediv_eq_zero_of_lt hr0 hr1]; omega
  refine ⟨e1.symm, ?_⟩
  rw [hw', Int.mul_ediv_cancel _ (by omega)]
  have := Int.mul_ediv_add_emod N y
  rw [e1, Int.mul_comm] at this
  omega
theorem two_pow_split (S : Nat) (h : S ≤ 64) : (2 : Int) ^ S * 2 ^ (64 - S) = 18446744073709551616 := by
  rw [← Int.pow_add, show S + (64 - S) = 64 from by omega]; rfl
theorem bits_Div64_ev (a0 a1 a2 : Int) (h0 : 0 ≤ a0) (h1 : U a1) (h2 : U a2) (h : a0 < a2) :
    Ev (fun k => bits_Div64.f k a0 a1 a2) ((a0 * 18446744073709551616 + a1) / a2, (a0 * 18446744073709551616 + a1) % a2) := by
  unfold U at h1 h2
  by_cases hz : a0 = 0
  · subst hz
    refine Ev.congr (fun k => ?_) (Ev.now _)
    unfold bits_Div64.f
    rw [if_neg (by omega), if_neg (by omega), if_pos rfl, tdiv_pos h1.1, tmod_pos h1.1, wu64_id _ (Int.ediv_nonneg h1.1 (by omega)) (by have := Int.ediv_le_self a2 h1.1; omega)]
    simp
  · obtain ⟨y, rfl⟩ := Int.eq_ofNat_of_zero_le h2.1
    obtain ⟨b1, b2, b3⟩ := bitLen_bounds y (by omega) (by omega)
    have b4 : Lib.bitLen y ≤ 64 := Lib.bitLen_le y 64 (by omega) (by have := h2.2; omega)
    generalize hL : Lib.bitLen y = L at *
    -- s = 64 - L
    obtain ⟨S, hS, hS2⟩ : ∃ S : Nat, 64 - (L : Int) = S ∧ S = 64 - L := ⟨64 - L, by omega, rfl⟩
    have hP := two_pow_split S (by omega)
    have hp0 : (0 : Int) < 2 ^ S := Int.pow_pos (by omega)
    have hp1 : (0 : Int) < 2 ^ (64 - S) := Int.pow_pos (by omega)
    have hLS : 64 - S = L := by omega
    have hb3 : ((y : Int)) < 2 ^ (64 - S) := by rw [hLS]; exact_mod_cast b3
    have hb2 : (2 : Int) ^ (64 - S) ≤ 2 * y := by
      rw [hLS, show L = (L - 1) + 1 from by omega, Int.pow_succ]
      have : ((2 ^ (L - 1) : Nat) : Int) ≤ y := by exact_mod_cast b2
      rw [Int.natCast_pow] at this
      have e2 : ((2 : Nat) : Int) = 2 := rfl
      rw [e2] at this
      omega
    have hYlt : (y : Int) * 2 ^ S < 18446744073709551616 := by
      rw [← hP, Int.mul_comm ((2 : Int) ^ S)]; exact Int.mul_lt_mul_of_pos_right hb3 hp0
    have hYge : (9223372036854775808 : Int) ≤ y * 2 ^ S := by
      have : (2 : Int) ^ (64 - S) * 2 ^ S ≤ 2 * y * 2 ^ S := Int.mul_le_mul_of_nonneg_right hb2 (by omega)
      rw [Int.mul_comm ((2 : Int) ^ (64 - S)), hP, Int.mul_assoc] at this
      omega
    have hs1 : shl .u64 (y : Int) (S : Int) = y * 2 ^ S := by
      unfold shl
      rw [show min ((S : Int)).toNat IntKind.u64.bits = S from by simp [IntKind.bits] <;> omega, wu64_id _ (by omega) hYlt]
    have hlt0 : a0 * 2 ^ S < y * 2 ^ S := Int.mul_lt_mul_of_pos_right h hp0
    have hs2 : shl .u64 a0 (S : Int) = a0 * 2 ^ S := by
      unfold shl
      rw [show min ((S : Int)).toNat IntKind.u64.bits = S from by simp [IntKind.bits] <;> omega, wu64_id _ (Int.mul_nonneg h0 (by omega)) (by omega)]
    have hs3 : shr .u64 a1 ((64 - S : Int)) = a1 / 2 ^ (64 - S) := by
      unfold shr
      rw [show min ((64 - S : Int)).toNat IntKind.u64.bits = 64 - S from by simp [IntKind.bits] <;> omega]
    have hs4 : shl .u64 a1 (S : Int) = (a1 * 2 ^ S) % 18446744073709551616 := by
      unfold shl
      rw [show min ((S : Int)).toNat IntKind.u64.bits = S from by simp [IntKind.bits] <;> omega, wu64]
    have hq : a1 / 2 ^ (64 - S) < 2 ^ S := by
      refine Int.ediv_lt_of_lt_mul hp1 ?_
      rw [hP]; exact h1.2
    have hq0 : 0 ≤ a1 / 2 ^ (64 - S) := Int.ediv_nonneg h1.1 (by omega)
    have hdiv : (a1 * 2 ^ S) / 18446744073709551616 = a1 / 2 ^ (64 - S) := by
      rw [← hP, Int.mul_comm a1, Int.mul_ediv_mul_of_pos _ _ hp0]
    have hun10 := Int.mul_ediv_add_emod (a1 * 2 ^ S) 18446744073709551616
    rw [hdiv] at hun10
    have hor : Go.bits .or .u64 (a0 * 2 ^ S) (a1 / 2 ^ (64 - S)) = a0 * 2 ^ S + a1 / 2 ^ (64 - S) := by
      have hpow : ((2 : Int) ^ S) ≤ 18446744073709551616 := by
        rw [← hP]
        have := Int.mul_le_mul_of_nonneg_left (by omega : (1 : Int) ≤ 2 ^ (64 - S)) (by omega : (0 : Int) ≤ 2 ^ S)
        omega
      exact bits_join .u64 64 (by decide) wraps_u64 S (a0 * 2 ^ S) (a1 / 2 ^ (64 - S)) (Int.mul_nonneg h0 (by omega)) (Int.mul_emod_left _ _) (by omega) hq0 hq (by omega)
    have hur : a0 * 2 ^ S + a1 / 2 ^ (64 - S) < y * 2 ^ S := by
      have : (a0 + 1) * 2 ^ S ≤ y * 2 ^ S := Int.mul_le_mul_of_nonneg_right (by omega) (by omega)
      rw [Int.add_mul, Int.one_mul] at this
      omega
    have hmul0 : 0 ≤ a0 * 2 ^ S := Int.mul_nonneg h0 (by omega)
    have hN : (a0 * 18446744073709551616 + a1) * 2 ^ S = (a0 * 2 ^ S + a1 / 2 ^ (64 - S)) * 18446744073709551616 + (a1 * 2 ^ S) % 18446744073709551616 := by
      have e1 : (a0 * 18446744073709551616 + a1) * 2 ^ S = a0 * 2 ^ S * 18446744073709551616 + a1 * 2 ^ S := by
        rw [Int.add_mul, Int.mul_right_comm]
      omega
    have hM0 := Int.emod_nonneg (a1 * 2 ^ S) (by omega : (18446744073709551616 : Int) ≠ 0)
    have hM1 := Int.emod_lt_of_pos (a1 * 2 ^ S) (by omega : (0 : Int) < 18446744073709551616)
    have hshr : ∀ w : Int, shr .u64 w (S : Int) = w / 2 ^ S := by
      intro w
      unfold shr
      rw [show min ((S : Int)).toNat IntKind.u64.bits = S from by simp [IntKind.bits] <;> omega]
    generalize hu : a0 * 2 ^ S + a1 / 2 ^ (64 - S) = u at *
    generalize hm : (a1 * 2 ^ S) % 18446744073709551616 = m at *
    generalize hp : (2 : Int) ^ S = p at *
    generalize hYY : (y : Int) * p = Y at *
    have hYdm : Y = Y / 4294967296 * 4294967296 + Y % 4294967296 := by omega
    have ev2 := div_j2 (s := (S : Int)) (Y := Y) (h := Y / 4294967296) (l := Y % 4294967296) (u := u) (d := m / 4294967296) (e := m % 4294967296) hYdm (by omega) (by omega) (by omega) (by omega) (by omega) hur (by omega) (by omega) (by omega) (by omega) (by omega)
    have hp' : 0 < Y := by omega
    have hu1 : u / (Y / 4294967296) * (Y / 4294967296) + u % (Y / 4294967296) = u := by
      have := Int.mul_ediv_add_emod u (Y / 4294967296)
      rw [Int.mul_comm] at this
      exact this
    have hvm1 := Int.emod_lt_of_pos u (by omega : 0 < Y / 4294967296)
    have hvm0 := Int.emod_nonneg u (by omega : Y / 4294967296 ≠ 0)
    have hvd0 : 0 ≤ u / (Y / 4294967296) := Int.ediv_nonneg (by omega) (by omega)
    have hvd1 : u / (Y / 4294967296) ≤ 4294967297 := by
      have : u / (Y / 4294967296) < 4294967298 := Int.ediv_lt_of_lt_mul (by omega) (by omega)
      omega
    have hle : (u * 4294967296 + m / 4294967296) / Y ≤ u / (Y / 4294967296) := by
      refine Classical.byContradiction fun hn => ?_
      have g1 := Int.ediv_mul_le (u * 4294967296 + m / 4294967296) (by omega : Y ≠ 0)
      have g2 : (u / (Y / 4294967296) + 1) * Y ≤ (u * 4294967296 + m / 4294967296) / Y * Y := Int.mul_le_mul_of_nonneg_right (by omega) (by omega)
      have g3 : (u / (Y / 4294967296) + 1) * Y = (u / (Y / 4294967296) * (Y / 4294967296) + Y / 4294967296) * 4294967296 + (u / (Y / 4294967296) + 1) * (Y % 4294967296) := by
        have : (u / (Y / 4294967296) + 1) * Y = (u / (Y / 4294967296) + 1) * (Y / 4294967296 * 4294967296 + Y % 4294967296) := by rw [← hYdm]
        rw [this, Int.mul_add, ← Int.mul_assoc, Int.add_mul (u / (Y / 4294967296)) 1 (Y / 4294967296), Int.one_mul]
      have g4 : 0 ≤ (u / (Y / 4294967296) + 1) * (Y % 4294967296) := Int.mul_nonneg (by omega) (by omega)
      omega
    have ev0 := div_l0 (s := (S : Int)) hYdm (by omega) (by omega) (by omega) (by omega) (by omega) hur (by omega) (by omega) ev2 ((u / (Y / 4294967296) - (u * 4294967296 + m / 4294967296) / Y).toNat) (u / (Y / 4294967296)) (u % (Y / 4294967296)) hu1 hvm0 (by omega) hle hvd1 (by omega)
    have hdm1 := Int.mul_ediv_add_emod (u * 4294967296 + m / 4294967296) Y
    have hdm2 := Int.mul_ediv_add_emod ((u * 4294967296 + m / 4294967296) % Y * 4294967296 + m % 4294967296) Y
    have hw1 := Int.emod_lt_of_pos ((u * 4294967296 + m / 4294967296) % Y * 4294967296 + m % 4294967296) hp'
    have hw0 := Int.emod_nonneg ((u * 4294967296 + m / 4294967296) % Y * 4294967296 + m % 4294967296) (by omega : Y ≠ 0)
    generalize (u * 4294967296 + m / 4294967296) / Y = q1 at *
    generalize (u * 4294967296 + m / 4294967296) % Y = v at *
    generalize (v * 4294967296 + m % 4294967296) / Y = q2 at *
    generalize (v * 4294967296 + m % 4294967296) % Y = w at *
    obtain ⟨j1, j2⟩ := div_join (N := a0 * 18446744073709551616 + a1) (y := (y : Int)) (p := p) (Y := Y) (q1 := q1) (q0 := q2) (w := w) hp0 hYY.symm (by
      rw [hN]
      have : (q1 * 4294967296 + q2) * Y = Y * q1 * 4294967296 + Y * q2 := by rw [Int.add_mul, Int.mul_right_comm, Int.mul_comm q1, Int.mul_comm q2]
      omega) hw0 hw1
    rw [j1, hshr, j2] at ev0
    refine Ev.congr (fun k => ?_) ev0
    unfold bits_Div64.f bits_LeadingZeros64.f
    rw [if_neg (by omega), if_neg (by omega), if_neg hz, if_pos (by omega)]
    simp only [Option.bind_some, Int.toNat_natCast, hL, hS]
    rw [wu64_id (S : Int) (by omega) (by omega), wu64_id (64 - (S : Int)) (by omega) (by omega), if_pos (by omega), if_pos (by omega), hs1, hs2, hs3, hs4, hor, if_neg (by omega), tdiv_pos (by omega),
      and32 Y (by unfold U; omega), and32 m (by unfold U; omega), wu64_id (u / (Y / 4294967296)) hvd0 (by omega), wu64_id (u / (Y / 4294967296) * (Y / 4294967296)) (Int.mul_nonneg hvd0 (by omega)) (by omega), show u - u / (Y / 4294967296) * (Y / 4294967296) = u % (Y / 4294967296) from by omega, wu64_id (u % (Y / 4294967296)) hvm0 (by omega)]
theorem bits_Rem64_ev (a0 a1 a2 : Int) (h0 : U a0) (h1 : U a1) (h2 : U a2) (h : a2 ≠ 0) :
    Ev (fun k => bits_Rem64.f k a0 a1 a2) ((a0 * 18446744073709551616 + a1) % a2) := by
  have hp : 0 < a2 := by unfold U at h2; omega
  have hm0 := Int.emod_nonneg a0 h
  have hm1 := Int.emod_lt_of_pos a0 hp
  have e := bits_Div64_ev (a0 % a2) a1 a2 hm0 h1 h2 hm1
  have hmod : (a0 % a2 * 18446744073709551616 + a1) % a2 = (a0 * 18446744073709551616 + a1) % a2 := by
    rw [Int.add_emod, Int.mul_emod, Int.emod_emod, ← Int.mul_emod, ← Int.add_emod]
  have e2 : Ev (fun k => (bits_Div64.f k (a0 % a2) a1 a2).bind fun b => (some b.2)) ((a0 % a2 * 18446744073709551616 + a1) % a2) := Ev.bind e (Ev.now _)
  rw [hmod] at e2
  refine Ev.congr (fun k => ?_) e2
  unfold bits_Rem64.f
  rw [if_neg h, tmod_pos h0.1]
end Go.Proofs.Ytndkmnjbjlfeaaa.XS
end
section
namespace Go.Proofs.Ytndkmnjbjlfeaaa.Mont
open Go Go.RowKit Go.Proofs.YtndkmnjbjlfeaaaW.PrintWords Go.Proofs.YtndkmnjbjlfeaaaW.PrintLast Go.Proofs.YtndkmnjbjlfeaaaW.PrintMore Go.Proofs.Ytndkmnjbjlfeaaa.Given Go.Proofs.Ytndkmnjbjlfeaaa.M Go.Proofs.Ytndkmnjbjlfeaaa.XS
def CtxBlk (W : World) (g : Nat) (m t : Int) : Prop := W.heap[g]? = some (.cells #[.int .u64 m, .int .u64 t, .int .u64 (mOne m), .int .u64 (mSq m)] 82 (0, 0))
def IsCtx (W : World) (v : Value) (m : Int) : Prop := ∃ (g : Nat) (t : Int), v = .pointer (some ⟨g, 0, none⟩) ∧ CtxBlk W g m t ∧ GoodM m ∧ U t ∧ (18446744073709551616 : Int) ∣ m * t + 1
def CtxP (W : World) (v : Value) : Option Int → Prop
  | none => v = .pointer none
  | some m => IsCtx W v m
theorem IsCtx.below {W W1 : World} {v : Value} {m : Int} (h : IsCtx W v m) (hb : Below W.heap.size W W1) : IsCtx W1 v m := by
  obtain ⟨g, t, e, hc, r⟩ := h
  exact ⟨g, t, e, blk_below hc hb, r⟩
theorem CtxP.below {W W1 : World} {v : Value} {o : Option Int} (h : CtxP W v o) (hb : Below W.heap.size W W1) : CtxP W1 v o := by
  cases o with
  | none => exact h
  | some m => exact IsCtx.below h hb
theorem IsCtx.drewN {W : World} {v : Value} {m : Int} (h : IsCtx W v m) (n : Nat) : IsCtx (W.drewN n) v m := h
section
variable {W : World} {g : Nat} {m t : Int} (h : CtxBlk W g m t)
include h
theorem CtxBlk.c0 : W.cell? ⟨g, 0, none⟩ = some (.int .u64 m) := (blk_cell h 0).trans rfl
theorem CtxBlk.c1 : W.cell? ⟨g, 1, none⟩ = some (.int .u64 t) := (blk_cell h 1).trans rfl
theorem CtxBlk.c2 : W.cell? ⟨g, 2, none⟩ = some (.int .u64 (mOne m)) := (blk_cell h 2).trans rfl
theorem CtxBlk.c3 : W.cell? ⟨g, 3, none⟩ = some (.int .u64 (mSq m)) := (blk_cell h 3).trans rfl
end
set_option maxHeartbeats 1000000 in
theorem cut_calls {g : Nat} {m t x r : Int} {w : World} (hc : CtxBlk w g m t) (hm : GoodM m) (hx : U x) (hr : Aside0 (r = x % m)) :
    Calls Try.prog 65 #[.pointer (some ⟨g, 0, none⟩), .int .u64 x] w fun e w' => e = .returned (.int .u64 r) ∧ Drawn0 w w' := by
  have h0 := hc.c0
  have f0 := blk_frozen hc 0
  clear hc
  by_cases h1 : m ≤ x
  · have hb : decide (m ≤ x) = true := decide_eq_true h1
    have hz : (m == 0) = false := beq_eq_false_iff_ne.mpr (good_ne hm)
    have hz1 : ¬ m = 0 := good_ne hm
    have hx0 : 0 ≤ x := hx.1
    clear hm hx h1
    go_enter Try.func65, Try.ntmps65
    go_wp2
    go_ret
    exact ⟨by rw [hr.out] <;> first | rfl | (simp; done), Drawn0.refl _⟩
  · have hb : decide (m ≤ x) = false := decide_eq_false h1
    have he : x % m = x := Int.emod_eq_of_lt hx.1 (by omega)
    have hr' := Aside0.mk (hr.out.trans he)
    clear hm hx h1 he
    go_enter Try.func65, Try.ntmps65
    go_wp2
    go_ret
    exact ⟨by rw [hr'.out] <;> first | rfl | (simp; done), Drawn0.refl _⟩
set_option maxHeartbeats 2000000 in
theorem reduce_calls {g : Nat} {m t hi lo r : Int} {w : World} (hc : CtxBlk w g m t) (hm : GoodM m) (hd : (18446744073709551616 : Int) ∣ m * t + 1) (h0 : 0 ≤ hi) (h1 : hi < m) (hl : U lo) (hr : Aside0 (r = mOut m (hi * 18446744073709551616 + lo))) :
    Calls Try.prog 64 #[.pointer (some ⟨g, 0, none⟩), .int .u64 hi, .int .u64 lo] w fun e w' => e = .returned (.int .u64 r) ∧ Drawn0 w w' := by
  obtain ⟨q, hq⟩ : ∃ q, q = lo * t % 18446744073709551616 := ⟨_, rfl⟩
  obtain ⟨P, hP⟩ : ∃ P, P = q * m := ⟨_, rfl⟩
  obtain ⟨h, hh⟩ : ∃ h, h = P / 18446744073709551616 := ⟨_, rfl⟩
  obtain ⟨l, hll⟩ : ∃ l, l = P % 18446744073709551616 := ⟨_, rfl⟩
  obtain ⟨c, hcc⟩ : ∃ c, c = (lo + l) / 18446744073709551616 := ⟨_, rfl⟩
  obtain ⟨T, hT⟩ : ∃ T, T = hi + h + c := ⟨_, rfl⟩
  obtain ⟨r0, r1, r2, r3, r4, r5, r6, r7⟩ := redc hm hd h0 h1 hl.1 hl.2 hq hP hh hll hcc hT
  have hend := redc_end r5 r6 r7
  have hmU := good_U hm
  have hq0 : U q := by rw [hq]; unfold U; omega
  have hw : IntKind.u64.wrap (lo * t) = q := by rw [wu64, hq]
  have m1 : bits_Mul64.f (IntKind.u64.wrap (lo * t)) m = some (h, l) := by
    unfold bits_Mul64.f
    rw [hw, if_pos ⟨hq0.1, hq0.2, hmU.1, hmU.2⟩, hh, hll, hP]
  obtain ⟨s1, a1⟩ : ∃ s1, bits_Add64.f lo l 0 = some (s1, c) := by
    refine ⟨(lo + l + 0) % 18446744073709551616, ?_⟩
    unfold bits_Add64.f
    rw [if_pos ⟨hl.1, r1, by omega, by omega⟩, hcc, Int.add_zero]
  obtain ⟨c2, a2⟩ : ∃ c2, bits_Add64.f hi h c = some (T, c2) := by
    refine ⟨(hi + h + c) / 18446744073709551616, ?_⟩
    unfold bits_Add64.f
    rw [if_pos ⟨h0, r0, r3, r4⟩, ← hT, Int.emod_eq_of_lt r5 (by unfold GoodM at hm; omega)]
  have x1 := fun W => bits_Add64.run lo l 0 s1 c W a1
  have x2 := fun W => bits_Add64.run hi h c T c2 W a2
  have M1 := Aside0.mk m1
  have k0 := hc.c0
  have k1 := hc.c1
  have f0 := blk_frozen hc 0
  have f1 := blk_frozen hc 1
  by_cases hTm : m ≤ T
  · have hb : decide (m ≤ T) = true := decide_eq_true hTm
    have e1 : r = IntKind.u64.wrap (T - m) := by rw [hr.out, ← hend, if_pos hTm, wu64_id _ (by omega) (by unfold GoodM at hm; omega)]
    have E1 := Aside0.mk e1
    clear e1 hc hm hd h0 h1 hl hr hq hP hh hll hcc hT r0 r1 r2 r3 r4 r5 r6 r7 hend hmU hq0 hw m1 a1 a2 hTm
    go_enter Try.func64, Try.ntmps64
    go_wp2
    repeat (go_quiet (first | (go_at_call 42; (with_reducible refine (bits_Mul64.calls _ _ h l _ M1.out).mono ?_); rintro e w' ⟨rfl, ⟨nd, rfl⟩⟩; (try first | exact qA | exact qB))); try go_wp2)
    go_ret
    exact ⟨by rw [E1.out] <;> first | rfl | (simp; done), by repeat (first | exact Drawn0.refl _ | apply Drawn0.step)⟩
  · have hb : decide (m ≤ T) = false := decide_eq_false hTm
    have e1 : r = T := by rw [hr.out, ← hend, if_neg hTm]
    have E1 := Aside0.mk e1
    clear e1 hc hm hd h0 h1 hl hr hq hP hh hll hcc hT r0 r1 r2 r3 r4 r5 r6 r7 hend hmU hq0 hw m1 a1 a2 hTm
    go_enter Try.func64, Try.ntmps64
    go_wp2
    repeat (go_quiet (first | (go_at_call 42; (with_reducible refine (bits_Mul64.calls _ _ h l _ M1.out).mono ?_); rintro e w' ⟨rfl, ⟨nd, rfl⟩⟩; (try first | exact qA | exact qB))); try go_wp2)
    go_ret
    exact ⟨by rw [E1.out] <;> first | rfl | (simp; done), by repeat (first | exact Drawn0.refl _ | apply Drawn0.step)⟩
theorem mul64_calls {x y h l : Int} {w : World} (hr : Aside0 (bits_Mul64.f x y = some (h, l))) :
    Calls Try.prog 42 #[.int .u64 x, .int .u64 y] w fun e w' => e = .returned (.tuple #[.int .u64 h, .int .u64 l]) ∧ Drawn0 w w' :=
  bits_Mul64.calls x y h l w hr.out
set_option maxHeartbeats 2000000 in
theorem Mul_some {v : Value} {m x y r : Int} {w : World} (hc : IsCtx w v m) (hx : U x) (hy : U y) (hr : Aside0 (r = mMul m x y)) :
    Calls Try.prog 50 #[v, .int .u64 x, .int .u64 y] w fun e w' => e = .returned (.int .u64 r) ∧ Drawn0 w w' := by
  obtain ⟨g, t, rfl, hb, hm, ht, hd⟩ := hc
  obtain ⟨x', hx'⟩ : ∃ x', x' = x % m := ⟨_, rfl⟩
  obtain ⟨y', hy'⟩ : ∃ y', y' = y % m := ⟨_, rfl⟩
  have ux := U_mod hm x
  have uy := U_mod hm y
  have lx := lt_mod hm x
  have ly := lt_mod hm y
  rw [← hx'] at ux lx
  rw [← hy'] at uy ly
  have p0 : 0 ≤ x' * y' := Int.mul_nonneg ux.1 uy.1
  have p1 : x' * y' ≤ (m - 1) * (m - 1) := Int.mul_le_mul (by omega) (by omega) uy.1 (by unfold GoodM at hm; omega)
  have p2 : (m - 1) * (m - 1) < m * 18446744073709551616 := by
    have : (m - 1) * (m - 1) ≤ (m - 1) * 18446744073709551616 := Int.mul_le_mul_of_nonneg_left (by unfold GoodM at hm; omega) (by unfold GoodM at hm; omega)
    unfold GoodM at hm; omega
  obtain ⟨h, hh⟩ : ∃ h, h = x' * y' / 18446744073709551616 := ⟨_, rfl⟩
  obtain ⟨l, hl⟩ : ∃ l, l = x' * y' % 18446744073709551616 := ⟨_, rfl⟩
  have M1 : Aside0 (bits_Mul64.f x' y' = some (h, l)) := ⟨by unfold bits_Mul64.f; rw [if_pos ⟨ux.1, ux.2, uy.1, uy.2⟩, hh, hl]⟩
  have R1 : Aside0 (r = mOut m (h * 18446744073709551616 + l)) := ⟨by
    rw [hr.out, ← mMul_rest, ← hx', ← hy', hh, hl]; congr 1; omega⟩
  have X1 := Aside0.mk hx'
  have Y1 := Aside0.mk hy'
  have h0 : 0 ≤ h := by rw [hh]; omega
  have h1 : h < m := by rw [hh]; omega
  have lU : U l := by rw [hl]; unfold U; omega
  have HB := Aside0.mk hb
  have HN : Aside0 (∀ n, CtxBlk (w.drewN n) g m t) := ⟨fun _ => hb⟩
  have HM := Aside0.mk hm
  have HD := Aside0.mk hd
  have HX := Aside0.mk hx
  have HY := Aside0.mk hy
  have H0 := Aside0.mk h0
  have H1 := Aside0.mk h1
  have HL := Aside0.mk lU
  clear hx' hy' ux uy lx ly p0 p1 p2 hh hl h0 h1 lU hb hm ht hd hx hy hr
  go_enter Try.func50, Try.ntmps50
  go_wp2_with (first
    | (go_at_call 65; (with_reducible refine (cut_calls HB.out HM.out HX.out X1).mono ?_); rintro e w' ⟨rfl, ⟨nd, rfl⟩⟩; (try first | exact qA | exact qB))
    | (go_at_call 65; (with_reducible refine (cut_calls (HN.out _) HM.out HX.out X1).mono ?_); rintro e w' ⟨rfl, ⟨nd, rfl⟩⟩; (try first | exact qA | exact qB))
    | (go_at_call 65; (with_reducible refine (cut_calls HB.out HM.out HY.out Y1).mono ?_); rintro e w' ⟨rfl, ⟨nd, rfl⟩⟩; (try first | exact qA | exact qB))
    | (go_at_call 65; (with_reducible refine (cut_calls (HN.out _) HM.out HY.out Y1).mono ?_); rintro e w' ⟨rfl, ⟨nd, rfl⟩⟩; (try first | exact qA | exact qB))
    | (go_at_call 42; (with_reducible refine (mul64_calls M1).mono ?_); rintro e w' ⟨rfl, ⟨nd, rfl⟩⟩; (try first | exact qA | exact qB))
    | (go_at_call 64; (with_reducible refine (reduce_calls HB.out HM.out HD.out H0.out H1.out HL.out R1).mono ?_); rintro e w' ⟨rfl, ⟨nd, rfl⟩⟩; (try first | exact qA | exact qB))
    | (go_at_call 64; (with_reducible refine (reduce_calls (HN.out _) HM.out HD.out H0.out H1.out HL.out R1).mono ?_); rintro e w' ⟨rfl, ⟨nd, rfl⟩⟩; (try first | exact qA | exact qB))
    )
  go_ret
  exact ⟨by first | rfl | (simp; done), by repeat (first | exact Drawn0.refl _ | apply Drawn0.step)⟩
set_option maxHeartbeats 2000000 in
theorem Out_some {v : Value} {m x r : Int} {w : World} (hc : IsCtx w v m) (hx : U x) (hr : Aside0 (r = mOut m x)) :
    Calls Try.prog 94 #[v, .int .u64 x] w fun e w' => e = .returned (.int .u64 r) ∧ Drawn0 w w' := by
  obtain ⟨g, t, rfl, hb, hm, ht, hd⟩ := hc
  obtain ⟨x', hx'⟩ : ∃ x', x' = x % m := ⟨_, rfl⟩
  have ux := U_mod hm x
  rw [← hx'] at ux
  have R1 : Aside0 (r = mOut m (0 * 18446744073709551616 + x')) := ⟨by rw [hr.out, hx', Int.zero_mul, Int.zero_add, mOut_rest]⟩
  have X1 := Aside0.mk hx'
  have h1 := good_pos hm
  have HB := Aside0.mk hb
  have HN : Aside0 (∀ n, CtxBlk (w.drewN n) g m t) := ⟨fun _ => hb⟩
  have HM := Aside0.mk hm
  have HD := Aside0.mk hd
  have HX := Aside0.mk hx
  have H1 := Aside0.mk h1
  have HL := Aside0.mk ux
  clear hx' ux h1 hb hm ht hd hx hr
  go_enter Try.func94, Try.ntmps94
  go_wp2_with (first
    | (go_at_call 65; (with_reducible refine (cut_calls HB.out HM.out HX.out X1).mono ?_); rintro e w' ⟨rfl, ⟨nd, rfl⟩⟩; (try first | exact qA | exact qB))
    | (go_at_call 65; (with_reducible refine (cut_calls (HN.out _) HM.out HX.out X1).mono ?_); rintro e w' ⟨rfl, ⟨nd, rfl⟩⟩; (try first | exact qA | exact qB))
    | (go_at_call 64; (with_reducible refine (reduce_calls HB.out HM.out HD.out (Int.le_refl 0) H1.out HL.out R1).mono ?_); rintro e w' ⟨rfl, ⟨nd, rfl⟩⟩; (try first | exact qA | exact qB))
    | (go_at_call 64; (with_reducible refine (reduce_calls (HN.out _) HM.out HD.out (Int.le_refl 0) H1.out HL.out R1).mono ?_); rintro e w' ⟨rfl, ⟨nd, rfl⟩⟩; (try first | exact qA | exact qB))
    )
  go_ret
  exact ⟨by first | rfl | (simp; done), by repeat (first | exact Drawn0.refl _ | apply Drawn0.step)⟩
set_option maxHeartbeats 2000000 in
theorem In_some {v : Value} {m x r : Int} {w : World} (hc : IsCtx w v m) (hx : U x) (hr : Aside0 (r = mIn m x)) :
    Calls Try.prog 45 #[v, .int .u64 x] w fun e w' => e = .returned (.int .u64 r) ∧ Drawn0 w w' := by
  have hc' := hc
  obtain ⟨g, t, rfl, hb, hm, ht, hd⟩ := hc'
  obtain ⟨s, hs⟩ : ∃ s, s = mSq m := ⟨_, rfl⟩
  have us : U s := by rw [hs]; exact U_mod hm _
  have R1 : Aside0 (r = mMul m x s) := ⟨by rw [hr.out, hs, mMul_sq hm]⟩
  have k3 := hb.c3
  have f3 := blk_frozen hb 3
  rw [← hs] at k3
  have HB := Aside0.mk hc
  have HN : Aside0 (∀ n, IsCtx (w.drewN n) (.pointer (some ⟨g, 0, none⟩)) m) := ⟨fun _ => hc⟩
  have HX := Aside0.mk hx
  have HL := Aside0.mk us
  clear us hs hb hm ht hd hx hr hc
  go_enter Try.func45, Try.ntmps45
  go_wp2_with (first
    | (go_at_call 50; (with_reducible refine (Mul_some HB.out HX.out HL.out R1).mono ?_); rintro e w' ⟨rfl, ⟨nd, rfl⟩⟩; (try first | exact qA | exact qB))
    | (go_at_call 50; (with_reducible refine (Mul_some (HN.out _) HX.out HL.out R1).mono ?_); rintro e w' ⟨rfl, ⟨nd, rfl⟩⟩; (try first | exact qA | exact qB))
    )
  go_ret
  exact ⟨by first | rfl | (simp; done), by repeat (first | exact Drawn0.refl _ | apply Drawn0.step)⟩
theorem One_some {v : Value} {m r : Int} {w : World} (hc : IsCtx w v m) (hr : Aside0 (r = mOne m)) :
    Calls Try.prog 80 #[v] w fun e w' => e = .returned (.int .u64 r) ∧ Drawn0 w w' := by
  obtain ⟨g, t, rfl, hb, hm, ht, hd⟩ := hc
  have k2 := hb.c2
  have f2 := blk_frozen hb 2
  rw [← hr.out] at k2
  clear hb hm ht hd hr
  go_enter Try.func80, Try.ntmps80
  go_wp2
  go_ret
  exact ⟨by first | rfl | (simp; done), by repeat (first | exact Drawn0.refl _ | apply Drawn0.step)⟩
set_option maxHeartbeats 2000000 in
theorem Add_some {v : Value} {m x y r : Int} {w : World} (hc : IsCtx w v m) (hx : U x) (hy : U y) (hr : Aside0 (r = mAdd m x y)) :
    Calls Try.prog 61 #[v, .int .u64 x, .int .u64 y] w fun e w' => e = .returned (.int .u64 r) ∧ Drawn0 w w' := by
  obtain ⟨g, t, rfl, hb, hm, ht, hd⟩ := hc
  obtain ⟨x', hx'⟩ : ∃ x', x' = x % m := ⟨_, rfl⟩
  obtain ⟨y', hy'⟩ : ∃ y', y' = y % m := ⟨_, rfl⟩
  have k0 := hb.c0
  have f0 := blk_frozen hb 0
  have X1 := Aside0.mk hx'
  have Y1 := Aside0.mk hy'
  have HB := Aside0.mk hb
  have HN : Aside0 (∀ n, CtxBlk (w.drewN n) g m t) := ⟨fun _ => hb⟩
  have HM := Aside0.mk hm
  have HX := Aside0.mk hx
  have HY := Aside0.mk hy
  have x0 := ge_mod hm x
  have x1 := lt_mod hm x
  have y0 := ge_mod hm y
  have y1 := lt_mod hm y
  have hmb : m < 9223372036854775808 := hm.2.2
  have hs : r = (x' + y') % m := by rw [hr.out, hx', hy', Int.emod_add_emod, Int.add_emod_emod]; rfl
  rw [← hx'] at x0 x1
  rw [← hy'] at y0 y1
  have hend := redc_end (T := x' + y') (m := m) (by omega) (by omega) hs.symm
  obtain ⟨s, hs'⟩ : ∃ s, s = x' + y' := ⟨_, rfl⟩
  have hw : IntKind.u64.wrap (x' + y') = s := by rw [wu64_id _ (by omega) (by omega), hs']
  by_cases hz : m ≤ s
  · have b1 : decide (m ≤ s) = true := decide_eq_true hz
    have e1 : r = IntKind.u64.wrap (s - m) := by rw [← hend, if_pos (by omega), wu64_id _ (by omega) (by omega), hs']
    have E1 := Aside0.mk e1
    clear e1 hz hs hs' hend hx' hy' x0 x1 y0 y1 hmb hb hm ht hd hx hy hr
    go_enter Try.func61, Try.ntmps61
    go_wp2_with (first
      | (go_at_call 65; (with_reducible refine (cut_calls HB.out HM.out HX.out X1).mono ?_); rintro e w' ⟨rfl, ⟨nd, rfl⟩⟩; (try first | exact qA | exact qB))
      | (go_at_call 65; (with_reducible refine (cut_calls (HN.out _) HM.out HX.out X1).mono ?_); rintro e w' ⟨rfl, ⟨nd, rfl⟩⟩; (try first | exact qA | exact qB))
      | (go_at_call 65; (with_reducible refine (cut_calls HB.out HM.out HY.out Y1).mono ?_); rintro e w' ⟨rfl, ⟨nd, rfl⟩⟩; (try first | exact qA | exact qB))
      | (go_at_call 65; (with_reducible refine (cut_calls (HN.out _) HM.out HY.out Y1).mono ?_); rintro e w' ⟨rfl, ⟨nd, rfl⟩⟩; (try first | exact qA | exact qB))
      )
    go_ret
    exact ⟨by rw [E1.out] <;> first | rfl | (simp; done), by repeat (first | exact Drawn0.refl _ | apply Drawn0.step)⟩
  · have b1 : decide (m ≤ s) = false := decide_eq_false hz
    have e1 : r = s := by rw [← hend, if_neg (by omega), hs']
    have E1 := Aside0.mk e1
    clear e1 hz hs hs' hend hx' hy' x0 x1 y0 y1 hmb hb hm ht hd hx hy hr
    go_enter Try.func61, Try.ntmps61
    go_wp2_with (first
      | (go_at_call 65; (with_reducible refine (cut_calls HB.out HM.out HX.out X1).mono ?_); rintro e w' ⟨rfl, ⟨nd, rfl⟩⟩; (try first | exact qA | exact qB))
      | (go_at_call 65; (with_reducible refine (cut_calls (HN.out _) HM.out HX.out X1).mono ?_); rintro e w' ⟨rfl, ⟨nd, rfl⟩⟩; (try first | exact qA | exact qB))
      | (go_at_call 65; (with_reducible refine (cut_calls HB.out HM.out HY.out Y1).mono ?_); rintro e w' ⟨rfl, ⟨nd, rfl⟩⟩; (try first | exact qA | exact qB))
      | (go_at_call 65; (with_reducible refine (cut_calls (HN.out _) HM.out HY.out Y1).mono ?_); rintro e w' ⟨rfl, ⟨nd, rfl⟩⟩; (try first | exact qA | exact qB))
      )
    go_ret
    exact ⟨by rw [E1.out] <;> first | rfl | (simp; done), by repeat (first | exact Drawn0.refl _ | apply Drawn0.step)⟩
end Go.Proofs.Ytndkmnjbjlfeaaa.Mont
end
section
namespace Go.Proofs.Ytndkmnjbjlfeaaa.F06
open Go Go.RowKit Go.Proofs.YtndkmnjbjlfeaaaW.PrintWords Go.Proofs.YtndkmnjbjlfeaaaW.PrintLast Go.Proofs.YtndkmnjbjlfeaaaW.PrintMore Go.Proofs.Ytndkmnjbjlfeaaa.Given Go.Proofs.Ytndkmnjbjlfeaaa.M Go.Proofs.Ytndkmnjbjlfeaaa.Mont Go.Proofs.Ytndkmnjbjlfeaaa.XS Go.Proofs.Ytndkmnjbjlfeaaa.XT
def toPtr : Value → Value
  | .slice A n _ => if n = 0 then .pointer none else .pointer (some (A.getD ⟨0, 0, none⟩))
  | v => v
theorem pf_none (A : Option Addr) (c : Nat) {n : Nat} (h : n = 0) : toPtr (.slice A n c) = .pointer none := by simp [toPtr, h]
theorem pf_some (A : Option Addr) (c : Nat) {n : Nat} (h : ¬ n = 0) : ∃ a, toPtr (.slice A n c) = .pointer (some a) := ⟨A.getD ⟨0, 0, none⟩, by simp [toPtr, h]⟩
theorem toPtr_at (a : Addr) (n c : Nat) : toPtr (.slice (some a) (n + 1) c) = .pointer (some a) := by simp [toPtr]
structure Fld where
  p : Int
  g : Int
  l : List S75
def zFld : Fld := ⟨0, 0, []⟩
def kFld : Kd Fld where
  sz := 4
  E := [82, 75]
  K := fun w x cs => ∃ cv A c, cs = [cv, .int .u64 x.p, .int .u64 x.g, .slice A x.l.length c] ∧ IsCtx w cv x.p ∧ U x.g ∧ x.l.length ≤ c ∧ Kd.C k75 w A x.l.length x.l
  M := fun w base ok x cs => ∃ (gc : Nat) (t : Int) (v : Value), cs = [.pointer (some ⟨gc, 0, none⟩), .int .u64 x.p, .int .u64 x.g, v] ∧ ok gc ∧ base ≤ gc ∧ CtxBlk w gc x.p t ∧ GoodM x.p ∧ U t ∧ (18446744073709551616 : Int) ∣ x.p * t + 1 ∧ U x.g ∧ Kd.R k75 75 w base ok v x.l
  K_len := by
    rintro w x cs ⟨cv, A, c, rfl, _⟩
    rfl
  K_one := by
    rintro w x cs ⟨cv, A, c, rfl, ⟨g, t, rfl, _⟩, _⟩ u hu
    simp only [List.mem_cons, List.not_mem_nil, or_false] at hu
    rcases hu with rfl | rfl | rfl | rfl <;> rfl
  K_below := by
    rintro w w1 x cs hb ⟨cv, A, c, rfl, hc, hg, hl, hr⟩
    exact ⟨cv, A, c, rfl, hc.below hb, hg, hl, Kd.C_below hr hb⟩
  K_of_M := by
    rintro w base ok x cs ⟨gc, t, v, rfl, _, _, hc, hm, ht, hd, hg, hr⟩
    obtain ⟨A, c, rfl, hl, hr⟩ := Kd.R_reads hr
    exact ⟨_, A, c, rfl, ⟨gc, t, rfl, hc, hm, ht, hd⟩, hg, hl, hr⟩
  M_mono := by
    rintro w base ok ok' x cs hok ⟨gc, t, v, rfl, h1, h2, hc, hm, ht, hd, hg, hr⟩
    exact ⟨gc, t, v, rfl, hok _ h1, h2, hc, hm, ht, hd, hg, Kd.R_mono hr hok⟩
  M_bound := by
    rintro w base ok x cs ⟨gc, t, v, rfl, h1, h2, hc, hm, ht, hd, hg, hr⟩
    refine ⟨gc, t, v, rfl, ⟨h1, h2, (Array.getElem?_eq_some_iff.1 hc).1, _, List.mem_cons_self, _, hc⟩, h2, hc, hm, ht, hd, hg, Kd.R_mono (Kd.R_bound hr) (fun k hk => ⟨hk.1, hk.2.1, hk.2.2.1, ?_⟩)⟩
    obtain ⟨q, hq, r⟩ := hk.2.2.2
    refine ⟨q, ?_, r⟩
    have e : (k75).E = [] := rfl
    rw [e, List.mem_singleton] at hq
    subst hq
    simp
  M_move := by
    rintro w w1 base ok x cs hm0 ⟨gc, t, v, rfl, h1, h2, hc, hm, ht, hd, hg, hr⟩
    exact ⟨gc, t, v, rfl, h1, h2, (hm0 gc h1).trans hc, hm, ht, hd, hg, Kd.R_move hr hm0⟩
  M_lower := by
    rintro w base base' ok x cs hb ⟨gc, t, v, rfl, h1, h2, hc, hm, ht, hd, hg, hr⟩
    exact ⟨gc, t, v, rfl, h1, Nat.le_trans hb h2, hc, hm, ht, hd, hg, Kd.R_lower hr hb⟩
theorem kFld_heap : Kd.Heap kFld := by
  refine ⟨?_⟩
  rintro w w1 x cs hb ⟨cv, A, c, rfl, ⟨g, t, e, hc, r⟩, hg, hl, hr⟩
  exact ⟨cv, A, c, rfl, ⟨g, t, e, (hb g (Array.getElem?_eq_some_iff.1 hc).1).trans hc, r⟩, hg, hl, Kd.Heap.C ⟨fun _ h => by obtain rfl := k75_open h; exact k75_mk _ _⟩ hb hr⟩
theorem fld_open {w : World} {A : Option Addr} {c : Nat} {F : Fld} {l : List Fld} (h : Kd.C kFld w A (F :: l).length (F :: l)) :
    ∃ (ad : Addr) (cv : Value) (A3 : Option Addr) (c3 : Nat), toPtr (.slice A (F :: l).length c) = .pointer (some ad) ∧ w.cell? ad = some cv ∧ w.cell? (ad.add 1) = some (.int .u64 F.p) ∧ w.cell? (ad.add 2) = some (.int .u64 F.g) ∧ w.cell? (ad.add 3) = some (.slice A3 F.l.length c3) ∧ IsCtx w cv F.p ∧ U F.g ∧ F.l.length ≤ c3 ∧ Kd.C k75 w A3 F.l.length F.l := by
  obtain ⟨ad, cs, rfl, _, hK, hc0⟩ := Kd.C_get h zFld 0 (by omega) (by simp)
  obtain ⟨cv, A3, c3, rfl, hx, hg, hl, hr⟩ := (hK : kFld.K w F cs)
  have hc : ∀ j u, [cv, .int .u64 F.p, .int .u64 F.g, .slice A3 F.l.length c3][j]? = some u → w.cell? (ad.add j) = some u := fun j u hj => by
    have := hc0 j u hj
    simpa using this
  refine ⟨ad, cv, A3, c3, by rw [List.length_cons]; exact toPtr_at _ _ _, ?_, hc 1 _ rfl, hc 2 _ rfl, hc 3 _ rfl, hx, hg, hl, hr⟩
  have := hc 0 _ rfl
  rwa [show ad.add 0 = ad by unfold Addr.add; split <;> simp_all] at this
end Go.Proofs.Ytndkmnjbjlfeaaa.F06
end
section
namespace Go.Proofs.Ytndkmnjbjlfeaaa.Mont
open Go Go.RowKit Go.Proofs.YtndkmnjbjlfeaaaW.PrintWords Go.Proofs.YtndkmnjbjlfeaaaW.PrintLast Go.Proofs.YtndkmnjbjlfeaaaW.PrintMore Go.Proofs.Ytndkmnjbjlfeaaa.Given Go.Proofs.Ytndkmnjbjlfeaaa.M Go.Proofs.Ytndkmnjbjlfeaaa.XS
def powRest (m o x : Int) (e : Nat) : Int := o * (x * rinv m) ^ e % m
theorem powRest_zero {m o x : Int} (h : o % m = o) : powRest m o x 0 = o := by unfold powRest; rw [Int.pow_zero, Int.mul_one, h]
theorem powRest_start (m x e : Int) : powRest m (mOne m) x e.toNat = mPow m x e := by
  unfold powRest mOne mPow; rw [emod_mul_l, Int.mul_comm]
theorem sq_rinv (m x : Int) : mMul m x x * rinv m % m = (x * rinv m) * (x * rinv m) % m := by
  unfold mMul
  rw [emod_mul_l]
  congr 1
  rw [Int.mul_assoc (x * x), Int.mul_mul_mul_comm_]
theorem powRest_even {m o x : Int} {e : Nat} (h : e % 2 = 0) : powRest m o (mMul m x x) (e / 2) = powRest m o x e := by
  unfold powRest
  rw [← emod_mul_r, ← emod_pow, sq_rinv, emod_pow, emod_mul_r, pow_half _ _ h]
theorem powRest_odd {m o x : Int} {e : Nat} (h : e % 2 = 1) : powRest m (mMul m o x) (mMul m x x) (e / 2) = powRest m o x e := by
  unfold powRest
  rw [← emod_mul_r, ← emod_pow, sq_rinv, emod_pow, emod_mul_r]
  unfold mMul
  rw [emod_mul_l, Int.mul_assoc o x, Int.mul_assoc o, pow_half1 _ _ h]
set_option maxHeartbeats 4000000 in
theorem Pow_some {v : Value} {m x e r : Int} {w : World} (hc : IsCtx w v m) (hx : U x) (he : U e) (hr : Aside0 (r = mPow m x e)) :
    Calls Try.prog 79 #[v, .int .u64 x, .int .u64 e] w fun e w' => e = .returned (.int .u64 r) ∧ Drawn0 w w' := by
  have hc' := hc
  obtain ⟨g, t, rfl, hb, hm, ht, hd⟩ := hc'
  obtain ⟨o, ho⟩ : ∃ o, o = mOne m := ⟨_, rfl⟩
  have k2 := hb.c2
  have f2 := blk_frozen hb 2
  rw [← ho] at k2
  have hI : U x ∧ U e ∧ U o ∧ o % m = o ∧ powRest m o x e.toNat = r := ⟨hx, he, by rw [ho]; exact U_mod hm _, by rw [ho]; exact Int.emod_emod _ _, by rw [ho, powRest_start, hr.out]⟩
  have HI := Aside0.mk hI
  have HB := Aside0.mk hc
  have HN : Aside0 (∀ n, IsCtx (w.drewN n) (.pointer (some ⟨g, 0, none⟩)) m) := ⟨fun _ => hc⟩
  have HM := Aside0.mk hm
  clear hI ho hb hm ht hd hx he hr hc
  go_enter Try.func79, Try.ntmps79
  go_wp2
  go_loopw [1, 2, 7] (fun a b c wr => ∃ X E O : Int, a = .int .u64 X ∧ b = .int .u64 E ∧ c = .int .u64 O ∧ Aside0 (U X ∧ U E ∧ U O ∧ O % m = O ∧ powRest m O X E.toNat = r) ∧ Drawn0 w wr) (fun _ b _ _ => (intOf b).toNat)
  case atStart => exact ⟨_, _, _, rfl, rfl, rfl, HI, Drawn0.refl _⟩
  case round =>
    clear HI k2 f2
    obtain ⟨X, E, O, rfl, rfl, rfl, HI, ⟨n, rfl⟩⟩ := hrel
    have hm := HM.out
    obtain ⟨uX, uE, uO, hO, hP⟩ := HI.out
    obtain ⟨X2, hX2⟩ : ∃ X2, X2 = mMul m X X := ⟨_, rfl⟩
    have S1 := Aside0.mk hX2
    have UX := Aside0.mk uX
    have UO := Aside0.mk uO
    by_cases h0 : 0 < E
    · have p0 : decide (0 < E) = true := decide_eq_true h0
      have hE0 : 0 ≤ E := by omega
      have hlt : (E / 2).toNat < E.toNat := by omega
      have hdv : (E / 2).toNat = E.toNat / 2 := by omega
      have uX2 : U X2 := by rw [hX2]; exact U_mod hm _
      have uE2 : U (E / 2) := by unfold U at *; omega
      have HLT := Aside0.mk hlt
      by_cases h1 : E % 2 = 1
      · have b1 : (Go.bits .and .u64 E 1 == 1) = true := by rw [and1 E uE, h1]; rfl
        obtain ⟨O2, hO2⟩ : ∃ O2, O2 = mMul m O X := ⟨_, rfl⟩
        have S2 := Aside0.mk hO2
        have HI' : Aside0 (U X2 ∧ U (E / 2) ∧ U O2 ∧ O2 % m = O2 ∧ powRest m O2 X2 (E / 2).toNat = r) :=
          ⟨uX2, uE2, by rw [hO2]; exact U_mod hm _, by rw [hO2]; exact Int.emod_emod _ _, by rw [hO2, hX2, hdv, powRest_odd (by omega), hP]⟩
        clear h0 hlt hdv uX2 uE2 h1 hO2 uX uE uO hO hP hX2 hm HI
        go_wp2_with (first
          | (go_at_call 50; (with_reducible refine (Mul_some HB.out UO.out UX.out S2).mono ?_); rintro e w' ⟨rfl, ⟨nd, rfl⟩⟩; (try first | exact qA | exact qB))
          | (go_at_call 50; (with_reducible refine (Mul_some (HN.out _) UO.out UX.out S2).mono ?_); rintro e w' ⟨rfl, ⟨nd, rfl⟩⟩; (try first | exact qA | exact qB))
          | (go_at_call 50; (with_reducible refine (Mul_some HB.out UX.out UX.out S1).mono ?_); rintro e w' ⟨rfl, ⟨nd, rfl⟩⟩; (try first | exact qA | exact qB))
          | (go_at_call 50; (with_reducible refine (Mul_some (HN.out _) UX.out UX.out S1).mono ?_); rintro e w' ⟨rfl, ⟨nd, rfl⟩⟩; (try first | exact qA | exact qB))
          )
        go_roundw
        case rel => exact ⟨X2, E / 2, O2, rfl, by first | rfl | (simp; done), rfl, HI', by repeat (first | exact Drawn0.refl _ | apply Drawn0.step)⟩
        case measure => simp [intOf]; have := HLT.out; omega
      · have b1 : (Go.bits .and .u64 E 1 == 1) = false := by rw [and1 E uE]; exact beq_eq_false_iff_ne.mpr h1
        have HI' : Aside0 (U X2 ∧ U (E / 2) ∧ U O ∧ O % m = O ∧ powRest m O X2 (E / 2).toNat = r) :=
          ⟨uX2, uE2, uO, hO, by rw [hX2, hdv, powRest_even (by omega), hP]⟩
        clear h0 hlt hdv uX2 uE2 h1 uX uE uO hO hP hX2 hm HI
        go_wp2_with (first
          | (go_at_call 50; (with_reducible refine (Mul_some HB.out UX.out UX.out S1).mono ?_); rintro e w' ⟨rfl, ⟨nd, rfl⟩⟩; (try first | exact qA | exact qB))
          | (go_at_call 50; (with_reducible refine (Mul_some (HN.out _) UX.out UX.out S1).mono ?_); rintro e w' ⟨rfl, ⟨nd, rfl⟩⟩; (try first | exact qA | exact qB))
          )
        go_roundw
        case rel => exact ⟨X2, E / 2, O, rfl, by first | rfl | (simp; done), rfl, HI', by repeat (first | exact Drawn0.refl _ | apply Drawn0.step)⟩
        case measure => simp [intOf]; have := HLT.out; omega
    · have p0 : decide (0 < E) = false := decide_eq_false h0
      have hz : E.toNat = 0 := by omega
      have HR : Aside0 (O = r) := ⟨by rw [← hP, hz, powRest_zero hO]⟩
      clear h0 hz uX uE uO hO hP hX2 hm HI
      go_wp2
      go_ret
      exact ⟨by rw [HR.out] <;> first | rfl | (simp; done), by repeat (first | exact Drawn0.refl _ | apply Drawn0.step)⟩
def newtonD : Nat → Int
  | 0 => 8
  | 1 => 64
  | 2 => 4096
  | 3 => 16777216
  | 4 => 281474976710656
  | _ => 18446744073709551616
theorem newton_step {m x : Int} (i : Nat) (hi : i < 5) (hx : newtonD i ∣ m * x - 1) :
    newtonD (i + 1) ∣ m * IntKind.u64.wrap (x * IntKind.u64.wrap (2 - IntKind.u64.wrap (m * x))) - 1 := by
  have h : i = 0 ∨ i = 1 ∨ i = 2 ∨ i = 3 ∨ i = 4 := by omega
  rcases h with rfl | rfl | rfl | rfl | rfl
  · exact newton (E := 64) hx ⟨1, by decide⟩ ⟨288230376151711744, by decide⟩
  · exact newton (E := 4096) hx ⟨1, by decide⟩ ⟨4503599627370496, by decide⟩
  · exact newton (E := 16777216) hx ⟨1, by decide⟩ ⟨1099511627776, by decide⟩
  · exact newton (E := 281474976710656) hx ⟨1, by decide⟩ ⟨65536, by decide⟩
  · exact newton (E := 18446744073709551616) hx ⟨4294967296, by decide⟩ ⟨1, by decide⟩
set_option maxHeartbeats 4000000 in
theorem New_fresh {m : Int} {w : World} (hm : GoodM m) :
    Calls Try.prog 24 #[.int .u64 m] w fun e w' => ∃ (g : Nat) (t : Int), e = .returned (.tuple #[.pointer (some ⟨g, 0, none⟩), .int .i64 0]) ∧ w.heap.size ≤ g ∧ CtxBlk w' g m t ∧ U t ∧ (18446744073709551616 : Int) ∣ m * t + 1 ∧ Below w.heap.size w w' := by
  have b1 : (Go.bits .and .u64 m 1 == 0) = false := by rw [and1 m (good_U hm), hm.1]; rfl
  have b2 : decide (m < 3) = false := decide_eq_false (by unfold GoodM at hm; omega)
  have b3 : decide (9223372036854775808 ≤ m) = false := decide_eq_false (by unfold GoodM at hm; omega)
  have hz : (m == 0) = false := beq_eq_false_iff_ne.mpr (good_ne hm)
  have hz1 : ¬ m = 0 := good_ne hm
  obtain ⟨o, ho⟩ : ∃ o, o = mOne m := ⟨_, rfl⟩
  have hone : Int.tmod (IntKind.u64.wrap (-m)) m = o := by
    have : IntKind.u64.wrap (-m) = 18446744073709551616 - m := by rw [wu64]; unfold GoodM at hm; omega
    rw [this, tmod_pos (by unfold GoodM at hm; omega), ho, Int.sub_emod_right]; rfl
  have uo : U o := by rw [ho]; exact U_mod hm _
  have uom : o < m := by rw [ho]; exact lt_mod hm _
  have p0 : 0 ≤ o * o := Int.mul_nonneg uo.1 uo.1
  have p1 : o * o ≤ (m - 1) * (m - 1) := Int.mul_le_mul (by omega) (by omega) uo.1 (by unfold GoodM at hm; omega)
  have p2 : (m - 1) * (m - 1) < m * 18446744073709551616 := by
    have : (m - 1) * (m - 1) ≤ (m - 1) * 18446744073709551616 := Int.mul_le_mul_of_nonneg_left (by unfold GoodM at hm; omega) (by unfold GoodM at hm; omega)
    unfold GoodM at hm; omega
  obtain ⟨h, hh⟩ : ∃ h, h = o * o / 18446744073709551616 := ⟨_, rfl⟩
  obtain ⟨l, hl⟩ : ∃ l, l = o * o % 18446744073709551616 := ⟨_, rfl⟩
  have M1 : Aside0 (bits_Mul64.f o o = some (h, l)) := ⟨by unfold bits_Mul64.f; rw [if_pos ⟨uo.1, uo.2, uo.1, uo.2⟩, hh, hl]⟩
  obtain ⟨s, hs⟩ : ∃ s, s = mSq m := ⟨_, rfl⟩
  obtain ⟨k, hk⟩ := Ev.rounds (bits_Rem64_ev h l m (by rw [hh]; unfold GoodM at hm; unfold U; omega) (by rw [hl]; unfold U; omega) (good_U hm) (good_ne hm))
  have K1 : Aside0 (bits_Rem64.f k h l m = some s) := ⟨by rw [hk, hs, hh, hl]; unfold mSq; rw [← ho]; congr 2; omega⟩
  have HM := Aside0.mk hm
  have HO := Aside0.mk ho
  have HS := Aside0.mk hs
  have hI : U m ∧ newtonD 0 ∣ m * m - 1 := ⟨good_U hm, newton0 hm.1⟩
  have HI := Aside0.mk hI
  clear hI ho hs uo uom p0 p1 p2 hh hl hk hm
  go_enter Try.func24, Try.ntmps24
  go_wp2
  go_loop [4, 20] (fun a c => ∃ (i : Nat) (X : Int), i ≤ 5 ∧ a = .int .u64 X ∧ c = .int .i64 i ∧ Aside0 (U X ∧ newtonD i ∣ m * X - 1)) (fun _ c => 5 - (intOf c).toNat)
  case atStart => exact ⟨0, m, by omega, rfl, rfl, HI⟩
  case round =>
    clear HI
    obtain ⟨i, X, hi5, rfl, rfl, HI⟩ := hrel
    by_cases hi : i < 5
    · have p0 : decide (i < 5) = true := decide_eq_true hi
      have HI' : Aside0 (U (IntKind.u64.wrap (X * IntKind.u64.wrap (2 - IntKind.u64.wrap (m * X)))) ∧ newtonD (i + 1) ∣ m * IntKind.u64.wrap (X * IntKind.u64.wrap (2 - IntKind.u64.wrap (m * X))) - 1) :=
        ⟨U_wrap _, newton_step i hi HI.out.2⟩
      clear HI
      go_wp2
      go_round
      case rel => exact ⟨i + 1, _, by omega, rfl, by go_num, HI'⟩
      case measure => simp [intOf]; omega
    · obtain rfl : i = 5 := by omega
      have p0 : decide ((5 : Nat) < 5) = false := by decide
      have hU := HI.out.1
      have hd : (18446744073709551616 : Int) ∣ m * IntKind.u64.wrap (-X) + 1 := by
        rw [wu64]
        have a1 : (18446744073709551616 : Int) ∣ -X % 18446744073709551616 - -X := dvd_emod_sub _ _
        have a2 : (18446744073709551616 : Int) ∣ m * X - 1 := HI.out.2
        generalize -X % 18446744073709551616 = B at *
        have e : m * B + 1 = m * (B - -X) - (m * X - 1) := by
          rw [Int.mul_sub, Int.mul_neg]; omega
        rw [e]
        exact Int.dvd_sub (Int.dvd_mul_of_dvd_right a1) a2
      have HD := Aside0.mk hd
      clear hd hU HI hi hi5
      go_wp2_with (first
        | (go_at_call 42; (with_reducible refine (mul64_calls M1).mono ?_); rintro e w' ⟨rfl, ⟨nd, rfl⟩⟩; (try first | exact qA | exact qB))
        | (go_at_call 43; (with_reducible refine (bits_Rem64.calls k h l m s _ K1.out).mono ?_); rintro e w' ⟨rfl, ⟨nd, rfl⟩⟩; (try first | exact qA | exact qB))
        )
      go_ret2
      refine ⟨w.heap.size, IntKind.u64.wrap (-X), by first | rfl | (simp; done), Nat.le_refl _, ?_, U_wrap _, HD.out, by repeat (first | exact Below.refl _ _ | apply below_alloc | apply pw_below_drewN)⟩
      unfold CtxBlk
      rw [← HO.out, ← HS.out]
      exact blk_new _ _
theorem New_good {m : Int} {w : World} (hm : GoodM m) :
    Calls Try.prog 24 #[.int .u64 m] w fun e w' => ∃ v, e = .returned (.tuple #[v, .int .i64 0]) ∧ IsCtx w' v m ∧ Below w.heap.size w w' := by
  refine (New_fresh hm).mono ?_
  rintro e w' ⟨g, t, he, _, hb, ht, hd, hB⟩
  exact ⟨_, he, ⟨g, t, rfl, hb, hm, ht, hd⟩, hB⟩
end Go.Proofs.Ytndkmnjbjlfeaaa.Mont
end
section
namespace Go.Proofs.Ytndkmnjbjlfeaaa.XS
open Go Go.RowKit Go.Proofs.YtndkmnjbjlfeaaaW.PrintWords Go.Proofs.YtndkmnjbjlfeaaaW.PrintLast Go.Proofs.YtndkmnjbjlfeaaaW.PrintMore Go.Proofs.Ytndkmnjbjlfeaaa.Given Go.Proofs.Ytndkmnjbjlfeaaa.M
theorem modular_Mul_ev {a b m : Int} (ha : U a) (hb : U b) (hm : U m) (h : m ≠ 0) : Ev (fun k => modular_Mul.f k a b m) (a * b % m) := by
  have hlt : a * b < 18446744073709551616 * 18446744073709551616 := by
    have := mul_le_of ha.1 hb.1 (A := 18446744073709551615) (B := 18446744073709551615) (by unfold U at *; omega) (by unfold U at *; omega)
    omega
  have h0 : 0 ≤ a * b := Int.mul_nonneg ha.1 hb.1
  have e := bits_Rem64_ev (a * b / 18446744073709551616) (a * b % 18446744073709551616) m (by unfold U; omega) (by unfold U; omega) hm h
  rw [show a * b / 18446744073709551616 * 18446744073709551616 + a * b % 18446744073709551616 = a * b from by omega] at e
  refine Ev.congr (fun k => ?_) (Ev.bind e (Ev.now _))
  unfold modular_Mul.f bits_Mul64.f
  rw [if_neg h, if_pos ⟨ha.1, ha.2, hb.1, hb.2⟩]
  rfl
theorem modular_Pow_l0 {m : Int} (hm : U m) (h : m ≠ 0) (n : Nat) : ∀ (e : Nat) (a out : Int), e ≤ n → (e : Int) < 18446744073709551616 → U a → U out → out % m = out →
    Ev (fun k => modular_Pow.l0 k a e m out) (out * a ^ e % m) := by
  induction n using Nat.strongRecOn with
  | _ n ih =>
    intro e a out hen heU ha ho hom
    by_cases hz : e = 0
    · subst hz
      rw [Int.pow_zero, Int.mul_one, hom]
      refine Ev.step (fun k => ?_) (Ev.now _)
      simp only [modular_Pow.l0]
      rw [if_neg (by simp)]
    · have hc : ((e : Int) / 2) = ((e / 2 : Nat) : Int) := by omega
      have hU : U (e : Int) := by unfold U; omega
      by_cases hb : e % 2 = 1
      · have i := ih (e / 2) (by omega) (e / 2) (a * a % m) (out * a % m) (by omega) (by omega) (U_emod _ hm h) (U_emod _ hm h) (Int.emod_emod _ _)
        have e1 : out * a % m * (a * a % m) ^ (e / 2) % m = out * a ^ e % m := by
          rw [emod_mul_l, ← emod_mul_r, emod_pow, emod_mul_r, Int.mul_assoc, pow_half1 a e hb]
        rw [e1] at i
        refine stepE ⟨_, fun k => by simp only [modular_Pow.l0]; rw [if_pos (by omega), if_pos (by rw [and1 _ hU]; omega), hc], ?_⟩
        exact Ev.bind (modular_Mul_ev ho ha hm h) (Ev.bind (modular_Mul_ev ha ha hm h) i)
      · have i := ih (e / 2) (by omega) (e / 2) (a * a % m) out (by omega) (by omega) (U_emod _ hm h) ho hom
        have e1 : out * (a * a % m) ^ (e / 2) % m = out * a ^ e % m := by
          rw [← emod_mul_r, emod_pow, emod_mul_r, pow_half a e (by omega)]
        rw [e1] at i
        refine stepE ⟨_, fun k => by simp only [modular_Pow.l0]; rw [if_pos (by omega), if_neg (by rw [and1 _ hU]; omega), hc], ?_⟩
        exact Ev.bind (modular_Mul_ev ha ha hm h) i
theorem modular_Pow_ev {a e m : Int} (ha : U a) (he : U e) (hm : U m) (h : m ≠ 0) : Ev (fun k => modular_Pow.f k a e m) (a ^ e.toNat % m) := by
  obtain ⟨n, rfl⟩ := Int.eq_ofNat_of_zero_le he.1
  have i := modular_Pow_l0 hm h n n a (1 % m) (Nat.le_refl _) he.2 ha (U_one hm h) (Int.emod_emod _ _)
  rw [emod_mul_l, Int.one_mul] at i
  refine Ev.congr (fun k => ?_) i
  unfold modular_Pow.f
  rw [if_neg h]
end Go.Proofs.Ytndkmnjbjlfeaaa.XS
end
section
namespace Go.Proofs.Ytndkmnjbjlfeaaa.XS
open Go Go.RowKit Go.Proofs.YtndkmnjbjlfeaaaW.PrintWords Go.Proofs.YtndkmnjbjlfeaaaW.PrintLast Go.Proofs.YtndkmnjbjlfeaaaW.PrintMore Go.Proofs.Ytndkmnjbjlfeaaa.Given Go.Proofs.Ytndkmnjbjlfeaaa.M
theorem modular_Add_ev {a b m : Int} (ha : U a) (hb : U b) (hm : U m) (h : m ≠ 0) : Ev (fun k => modular_Add.f k a b m) ((a + b) % m) := by
  have h1 := U_emod a hm h
  have h2 := U_emod b hm h
  have hs : (a % m + b % m + 0) / 18446744073709551616 * 18446744073709551616 + (a % m + b % m + 0) % 18446744073709551616 = a % m + b % m := by omega
  have e := bits_Rem64_ev ((a % m + b % m + 0) / 18446744073709551616) ((a % m + b % m + 0) % 18446744073709551616) m (by unfold U at *; omega) (by unfold U at *; omega) hm h
  rw [hs, Int.emod_add_emod, Int.add_emod_emod] at e
  refine Ev.congr (fun k => ?_) (Ev.bind e (Ev.now _))
  unfold modular_Add.f bits_Add64.f
  rw [if_neg h, tmod_pos ha.1, tmod_pos hb.1, if_pos (by unfold U at *; omega)]
  rfl
theorem modular_Neg_ev {a m : Int} (ha : U a) (hm : U m) (h : m ≠ 0) : Ev (fun k => modular_Neg.f k a m) ((-a) % m) := by
  have hp := pos_of_U hm h
  refine Ev.congr (f := fun k => modular_Neg.j0 k a m (a % m == 0)) (fun k => by unfold modular_Neg.f; rw [if_neg h, tmod_pos ha.1]) ?_
  refine Ev.step (f := fun _ => some ((-a) % m)) (fun k => ?_) (Ev.now _)
  simp only [modular_Neg.j0]
  by_cases hz : a % m = 0
  · rw [if_pos (beq_iff_eq.mpr hz)]
    congr 1
    rw [eq_comm, Int.emod_eq_zero_of_dvd]
    exact (Int.dvd_neg).2 (Int.dvd_of_emod_eq_zero hz)
  · rw [if_neg (by rw [beq_iff_eq]; exact hz), if_neg h, tmod_pos ha.1, neg_emod_eq hp hz]
    have := U_emod a hm h
    unfold U at *
    rw [wu64_id _ (by have := Int.emod_lt_of_pos a hp; omega) (by omega)]
theorem modular_Sub_ev {a b m : Int} (ha : U a) (hb : U b) (hm : U m) (h : m ≠ 0) : Ev (fun k => modular_Sub.f k a b m) ((a - b) % m) := by
  have e := modular_Add_ev ha (U_emod (-b) hm h) hm h
  rw [Int.add_emod_emod, ← Int.sub_eq_add_neg] at e
  exact Ev.congr (fun k => rfl) (Ev.bind (modular_Neg_ev hb hm h) (Ev.bind e (Ev.now _)))
def InvIs (a m : Int) (g : Nat) (R : Int × Bool) : Prop :=
  (g = 1 → R.2 = true ∧ 0 ≤ R.1 ∧ R.1 < m ∧ m ∣ R.1 * a - 1) ∧ (g ≠ 1 → R = (0, false))
theorem dvd_emod_sub (x m : Int) : m ∣ x % m - x := by
  rw [Int.emod_def]
  exact ⟨-(x / m), by rw [Int.mul_neg]; omega⟩
theorem modular_Inv_l0 {a m : Int} (hm : U m) (h2 : 2 ≤ m) (n : Nat) : ∀ (next r : Nat) (t step : Int), next ≤ n → (next : Int) ≤ m → (r : Int) ≤ m → 0 ≤ t → t < m → 0 ≤ step → step < m → m ∣ t * a - r → m ∣ step * a - next →
    ∃ R, Ev (fun k => modular_Inv.l0 k m r next t step) R ∧ InvIs a m (Nat.gcd r next) R := by
  have h : m ≠ 0 := by omega
  induction n using Nat.strongRecOn with
  | _ n ih =>
    intro next r t step hn hnm hrm ht0 ht hs0 hs hd1 hd2
    by_cases hz : next = 0
    · subst hz
      rw [Nat.gcd_zero_right]
      by_cases h1 : r = 1
      · refine ⟨(t, true), stepE ⟨_, fun k => by simp only [modular_Inv.l0]; rw [if_neg (by simp), if_pos (by omega)], Ev.now _⟩, fun _ => ⟨rfl, ht0, ht, ?_⟩, fun hh => absurd h1 hh⟩
        rw [h1] at hd1; exact hd1
      · exact ⟨(0, false), stepE ⟨_, fun k => by simp only [modular_Inv.l0]; rw [if_neg (by simp), if_neg (by omega)], Ev.now _⟩, fun hh => absurd hh h1, fun _ => rfl⟩
    · have hq0 : (0 : Int) ≤ (r : Int) / next := Int.ediv_nonneg (by omega) (by omega)
      have hqle : (r : Int) / next ≤ r := Int.ediv_le_self _ (by omega)
      have hqU : U ((r : Int) / next) := by unfold U at *; omega
      have hsU : U step := by unfold U at *; omega
      have htU : U t := by unfold U at *; omega
      have m1 := modular_Mul_ev hqU hsU hm h
      have m2 := modular_Sub_ev htU (U_emod ((r : Int) / next * step) hm h) hm h
      have hmod : ((r % next : Nat) : Int) = r - (r : Int) / next * next := by
        rw [Int.natCast_emod]
        have := Int.mul_ediv_add_emod (r : Int) next
        rw [Int.mul_comm] at this
        omega
      have hp0 : 0 ≤ (r : Int) / next * next := Int.mul_nonneg hq0 (by omega)
      have hlt : r % next < next := Nat.mod_lt _ (by omega)
      have hw : IntKind.u64.wrap ((r : Int) - IntKind.u64.wrap (IntKind.u64.wrap (Int.tdiv (r : Int) next) * next)) = ((r % next : Nat) : Int) := by
        rw [tdiv_pos (by omega), wu64_id _ hqU.1 hqU.2, wu64_id _ hp0 (by unfold U at hm; omega), wu64_id _ (by omega) (by unfold U at hm; omega)]
        omega
      generalize hq : (r : Int) / next = q at *
      have hdT : m ∣ (t - q * step % m) % m * a - ((r % next : Nat) : Int) := by
        have e1 : m ∣ (t - q * step % m) % m - (t - q * step % m) := dvd_emod_sub _ _
        have e2 : m ∣ q * step % m - q * step := dvd_emod_sub _ _
        have e3 : (t - q * step % m) % m * a - ((r % next : Nat) : Int) = ((t - q * step % m) % m - (t - q * step % m)) * a - (q * step % m - q * step) * a + (t * a - r) - q * (step * a - next) := by
          rw [hmod]
          generalize (t - q * step % m) % m = A
          generalize q * step % m = B
          simp only [Int.sub_mul, Int.mul_sub, Int.mul_assoc]
          omega
        rw [e3]
        exact Int.dvd_sub (Int.dvd_add (Int.dvd_sub (Int.dvd_mul_of_dvd_left e1) (Int.dvd_mul_of_dvd_left e2)) hd1) (Int.dvd_mul_of_dvd_right hd2)
      have hb0 := Int.emod_nonneg (t - q * step % m) h
      have hb1 := Int.emod_lt_of_pos (t - q * step % m) (by omega : 0 < m)
      obtain ⟨R, hR, hI⟩ := ih (r % next) (by omega) (r % next) next step ((t - q * step % m) % m) (Nat.le_refl _) (by omega) hnm hs0 hs hb0 hb1 hd2 hdT
      rw [Nat.gcd_comm, ← Nat.gcd_rec, Nat.gcd_comm] at hI
      refine ⟨R, ?_, hI⟩
      refine stepE ⟨_, fun k => by simp only [modular_Inv.l0]; rw [if_pos (by omega), if_neg (by omega), hw, tdiv_pos (by omega), hq, wu64_id _ hqU.1 hqU.2], ?_⟩
      exact Ev.bind m1 (Ev.bind m2 hR)
theorem modular_Inv_small {a m : Int} (hm : m < 2) : Ev (fun k => modular_Inv.f k a m) (0, false) :=
  Ev.congr (fun k => by unfold modular_Inv.f; rw [if_pos hm]) (Ev.now _)
theorem modular_Inv_ev {a m : Nat} (hm : U m) (h2 : 2 ≤ m) : ∃ R, Ev (fun k => modular_Inv.f k a m) R ∧ InvIs a m (Nat.gcd a m) R := by
  have hlt : a % m < m := Nat.mod_lt _ (by omega)
  obtain ⟨R, hR, hI⟩ := modular_Inv_l0 (a := a) hm (by omega) (a % m) (a % m) m 0 1 (Nat.le_refl _) (by omega) (by omega) (by omega) (by omega) (by omega) (by omega) (by rw [Int.zero_mul, Int.zero_sub]; exact (Int.dvd_neg).2 (Int.dvd_refl _))
    (by rw [Int.one_mul, Int.natCast_emod]; have := (Int.dvd_neg).2 (dvd_emod_sub (a : Int) m); rwa [Int.neg_sub] at this)
  have hg : Nat.gcd m (a % m) = Nat.gcd a m := by rw [Nat.gcd_comm, ← Nat.gcd_rec, Nat.gcd_comm]
  rw [hg] at hI
  refine ⟨R, congrE ⟨_, fun k => by unfold modular_Inv.f; rw [if_neg (by omega), if_neg (by omega), tmod_pos (by omega), ← Int.natCast_emod], hR⟩, hI⟩
theorem emod_of_dvd_sub {x y m : Int} (h : m ∣ x - y) : x % m = y % m := Int.emod_eq_emod_iff_emod_sub_eq_zero.2 (Int.emod_eq_zero_of_dvd h)
end Go.Proofs.Ytndkmnjbjlfeaaa.XS
end
section
namespace Go.Proofs.Ytndkmnjbjlfeaaa.Given04
open Go Go.RowKit Go.Proofs.YtndkmnjbjlfeaaaW.PrintWords Go.Proofs.YtndkmnjbjlfeaaaW.PrintLast Go.Proofs.YtndkmnjbjlfeaaaW.PrintMore Go.Proofs.Ytndkmnjbjlfeaaa.Given Go.Proofs.Ytndkmnjbjlfeaaa.M Go.Proofs.Ytndkmnjbjlfeaaa.Mont Go.Proofs.Ytndkmnjbjlfeaaa.XS Go.Proofs.Ytndkmnjbjlfeaaa.XT
theorem clo_calls {p g q : Int} {sv : Value} {b : Nat} {w : World} {r : Bool} (hb : w.heap[b]? = some (.cells #[.int .u64 q] 31 (0, 0))) (hr : Aside0 ((p == q) = r)) :
    Calls Try.prog 93 #[.agg #[.int .u64 p, .int .u64 g, sv], .pointer (some ⟨b, 0, none⟩)] w fun e w' => e = .returned (.bool r) ∧ Below w.heap.size w w' := by
  have hc : w.cell? ⟨b, 0, none⟩ = some (.int .u64 q) := (blk_cell hb 0).trans rfl
  have hf := blk_frozen hb 0
  have hu := Try.underlying58
  have hlt := blk_lt hb
  clear hb
  go_enter Try.func93, Try.ntmps93
  go_wp2
  go_ret
  exact ⟨by rw [← hr.out] <;> first | rfl | (simp; done), below_alloc (Below.refl _ _) _⟩
def hasP (l : List S58) (q : Int) : Bool := l.any fun e => e.f0 == q
theorem any_take_succ (l : List S58) (q : Int) (i : Nat) (h : i < l.length) : hasP (l.take (i + 1)) q = (hasP (l.take i) q || ((rd_T58 l (i : Int)).f0 == q)) := by
  unfold hasP rd_T58
  rw [List.take_succ_eq_append_getElem h, List.any_append]
  simp [List.getD, List.getElem?_eq_getElem h]
theorem hasP_of_take {l : List S58} {q : Int} {i : Nat} (h : hasP (l.take i) q = true) : hasP l q = true := by
  unfold hasP at *
  rw [List.any_eq_true] at *
  obtain ⟨x, hx, he⟩ := h
  exact ⟨x, List.mem_of_mem_take hx, he⟩
set_option maxHeartbeats 2000000 in
theorem index_calls {A0 : Option Addr} {c0 b : Nat} {l0 : List S58} {q : Int} {w : World} (hr0 : Kd.C k58 w A0 l0.length l0) (hb : w.heap[b]? = some (.cells #[.int .u64 q] 31 (0, 0))) :
    Calls Try.prog 96 #[.slice A0 l0.length c0, .func (Fn.func 93) #[] #[.pointer (some ⟨b, 0, none⟩)]] w fun e w' => ∃ i : Int, e = .returned (.int .i64 i) ∧ decide (0 ≤ i) = hasP l0 q ∧ Below w.heap.size w w' := by
  have hlen : l0.length ≤ 9223372036854775807 := hr0.2.1
  have HR0 := Aside0.mk hr0
  have HC := Aside0.mk hb
  have h0 : Aside0 (hasP (l0.take 0) q = false) := ⟨rfl⟩
  clear hr0 hb
  go_enter Try.func96, Try.ntmps96
  go_wp2
  go_loopw [8] (fun v8 w' => ∃ i : Nat, v8 = .int .i64 i ∧ i ≤ l0.length ∧ Aside0 (hasP (l0.take i) q = false) ∧ Aside0 (Below w.heap.size w w')) (fun v8 _ => l0.length - (intOf v8).toNat)
  case atStart => exact ⟨0, rfl, by omega, h0, ⟨Below.refl _ _⟩⟩
  case round =>
    clear h0
    obtain ⟨i, rfl, hi, H1, HB⟩ := hrel
    by_cases hlt : i < l0.length
    · have c3b0 : decide ((i : Int) < (l0.length : Int)) = true := decide_eq_true (by omega)
      have c3b1 : decide (i < l0.length) = true := decide_eq_true hlt
      have p1 : 0 ≤ (i : Int) := by omega
      have q1 : (i : Int) < (l0.length : Int) := by omega
      obtain ⟨ad, A2, c2, e1, hx0, hx1, hx2, hl2, hi2⟩ := at_T58 HR0.out i p1 q1
      cases e1
      replace hx0 := (HB.out.cell (World.block_lt_of_cell? w _ hx0)).trans hx0
      replace hx1 := (HB.out.cell (World.block_lt_of_cell? w _ hx1)).trans hx1
      replace hx2 := (HB.out.cell (World.block_lt_of_cell? w _ hx2)).trans hx2
      simp only [Int.toNat_natCast] at hx0 hx1 hx2
      have HBLK := Aside0.mk (blk_below HC.out HB.out)
      have hstep := any_take_succ l0 q i hlt
      clear hi2 hl2 hlt
      cases hm : ((rd_T58 l0 (i : Int)).f0 == q) with
      | true =>
        have HM := Aside0.mk hm
        have HF : Aside0 (hasP l0 q = true) := ⟨hasP_of_take (i := i + 1) (by rw [hstep, hm]; simp)⟩
        clear hm hstep
        go_wp2_with (go_at_call 93; (with_reducible refine (clo_calls HBLK.out HM).mono ?_); rintro e w2 ⟨rfl, hb2⟩; have HB2 := Aside0.mk hb2; clear hb2)
        go_ret
        exact ⟨i, by first | rfl | (simp; done), by rw [HF.out]; exact decide_eq_true (by omega), below_step HB.out HB2.out⟩
      | false =>
        have HM := Aside0.mk hm
        have HF : Aside0 (hasP (l0.take (i + 1)) q = false) := ⟨by rw [hstep, hm, H1.out]; rfl⟩
        clear hm hstep
        go_wp2_with (go_at_call 93; (with_reducible refine (clo_calls HBLK.out HM).mono ?_); rintro e w2 ⟨rfl, hb2⟩; have HB2 := Aside0.mk hb2; clear hb2)
        go_roundw
        case rel => exact ⟨i + 1, by go_num, by omega, HF, ⟨below_step HB.out HB2.out⟩⟩
        case measure => simp [intOf]; omega
    · have c3b0 : decide ((i : Int) < (l0.length : Int)) = false := decide_eq_false (by omega)
      have c3b1 : decide (i < l0.length) = false := decide_eq_false hlt
      have HF : Aside0 (hasP l0 q = false) := ⟨by have := H1.out; rwa [List.take_of_length_le (by omega)] at this⟩
      clear hlt
      go_wp2
      go_ret
      exact ⟨-1, by first | rfl | (simp; done), by rw [HF.out]; rfl, HB.out⟩
theorem contains_calls {A0 : Option Addr} {c0 b : Nat} {l0 : List S58} {q : Int} {w : World} (hr0 : Kd.C k58 w A0 l0.length l0) (hb : w.heap[b]? = some (.cells #[.int .u64 q] 31 (0, 0))) :
    Calls Try.prog 92 #[.slice A0 l0.length c0, .func (Fn.func 93) #[] #[.pointer (some ⟨b, 0, none⟩)]] w fun e w' => e = .returned (.bool (hasP l0 q)) ∧ Below w.heap.size w w' := by
  have HR0 := Aside0.mk hr0
  have HC := Aside0.mk hb
  clear hr0 hb
  go_enter Try.func92, Try.ntmps92
  go_wp2_with (go_at_call 96; (with_reducible refine (index_calls HR0.out HC.out).mono ?_); rintro e w2 ⟨i, rfl, hd, hb2⟩; have HB2 := Aside0.mk hb2; have HD := Aside0.mk hd; clear hb2 hd)
  go_ret
  exact ⟨by rw [← HD.out] <;> first | rfl | (simp; done), HB2.out⟩
def proof_claimed.f (l0 : List S58) (a1 : Int) : Option Bool := some (hasP l0 a1)
theorem proof_claimed.calls (A0 : Option Addr) (c0 : Nat) (l0 : List S58) (a1 : Int) (r : Bool) (w : World) (hr0 : Kd.C k58 w A0 l0.length l0) (_hc0 : l0.length ≤ c0) (h : proof_claimed.f l0 a1 = some r) :
    Calls Try.prog 78 #[.slice A0 l0.length c0, .int .u64 a1] w fun e w' => e = .returned (.bool r) ∧ Below w.heap.size w w' := by
  have HR : Aside0 (hasP l0 a1 = r) := ⟨Option.some.inj h⟩
  have HR0 : Aside0 (Kd.C k58 (w.alloc (.cells #[.int .u64 a1] 31)) A0 l0.length l0) := ⟨Kd.C_alloc hr0 _⟩
  have HC : Aside0 ((w.alloc (.cells #[.int .u64 a1] 31)).heap[w.heap.size]? = some (.cells #[.int .u64 a1] 31 (0, 0))) := ⟨blk_new _ _⟩
  clear h hr0
  go_enter Try.func78, Try.ntmps78
  go_wp2_with (go_at_call 92; (with_reducible refine (contains_calls HR0.out HC.out).mono ?_); rintro e w2 ⟨rfl, hb2⟩; have HB2 := Aside0.mk hb2; clear hb2)
  go_ret
  exact ⟨by rw [← HR.out] <;> first | rfl | (simp; done), below_step (below_alloc (Below.refl _ _) _) HB2.out⟩
end Go.Proofs.Ytndkmnjbjlfeaaa.Given04
end
section
namespace Go.Proofs.Ytndkmnjbjlfeaaa.Given04
open Go Go.RowKit Go.Proofs.YtndkmnjbjlfeaaaW.PrintWords Go.Proofs.YtndkmnjbjlfeaaaW.PrintLast Go.Proofs.YtndkmnjbjlfeaaaW.PrintMore Go.Proofs.Ytndkmnjbjlfeaaa.Given Go.Proofs.Ytndkmnjbjlfeaaa.M Go.Proofs.Ytndkmnjbjlfeaaa.Mont Go.Proofs.Ytndkmnjbjlfeaaa.XS Go.Proofs.Ytndkmnjbjlfeaaa.XT
theorem pow_one_iff {m : Int} (g : GoodM m) (x e : Int) : (mPow m (mIn m x) e == mOne m) = (x ^ e.toNat % m == 1) := by
  rw [pow_in g]
  have h1 : mOne m = mIn m 1 := by unfold mOne mIn; rw [Int.one_mul]
  have h2 : (1 : Int) % m = 1 := Int.emod_eq_of_lt (by omega) (by unfold GoodM at g; omega)
  rw [h1]
  by_cases h : x ^ e.toNat % m = 1
  · have : mIn m (x ^ e.toNat) = mIn m 1 := by rw [← in_rest (x ^ e.toNat), h]
    rw [this, h]; simp
  · have : mIn m (x ^ e.toNat) ≠ mIn m 1 := fun q => h (by have := strike g q; rw [this, h2])
    rw [beq_eq_false_iff_ne.mpr this, beq_eq_false_iff_ne.mpr h]
def bad1 (P G : Int) (x : S75) : Bool := G ^ ((P - 1) / x.f0).toNat % P == 1
def okF (P G : Int) (l : List S75) : Prop := GoodM P ∧ U G ∧ ∀ x ∈ l, 1 ≤ x.f0 ∧ U x.f0
instance (P G : Int) (l : List S75) : Decidable (okF P G l) := by unfold okF GoodM U; infer_instance
def proof_full.f (P G : Int) (l : List S75) : Option Bool :=
  if okF P G l then some ((G ^ (P - 1).toNat % P == 1) && !(l.any (bad1 P G))) else none
theorem any_take_succ1 (l : List S75) (f : S75 → Bool) (i : Nat) (h : i < l.length) : (l.take (i + 1)).any f = ((l.take i).any f || f (rd_T75 l (i : Int))) := by
  unfold rd_T75
  rw [List.take_succ_eq_append_getElem h, List.any_append]
  simp [List.getD, List.getElem?_eq_getElem h]
theorem any_of_take {l : List S75} {f : S75 → Bool} {i : Nat} (h : (l.take i).any f = true) : l.any f = true := by
  rw [List.any_eq_true] at *
  obtain ⟨x, hx, he⟩ := h
  exact ⟨x, List.mem_of_mem_take hx, he⟩
theorem rd_mem {l : List S75} {i : Nat} (h : i < l.length) : rd_T75 l (i : Int) ∈ l := by
  unfold rd_T75
  simp [List.getD, List.getElem?_eq_getElem h]
set_option maxRecDepth 100000 in
set_option maxHeartbeats 8000000 in
theorem proof_full.calls (P G : Int) (A0 : Option Addr) (c0 : Nat) (l : List S75) (r : Bool) (w : World) (hr0 : Kd.C k75 w A0 l.length l) (_hc0 : l.length ≤ c0) (h : proof_full.f P G l = some r) :
    Calls Try.prog 58 #[.agg #[.int .u64 P, .int .u64 G, .slice A0 l.length c0]] w fun e w' => e = .returned (.bool r) ∧ Below w.heap.size w w' := by
  unfold proof_full.f at h
  split at h
  case isFalse => cases h
  rename_i hok
  have HR := Aside0.mk (Option.some.inj h)
  clear h
  obtain ⟨w1, hw1⟩ : ∃ w1, w1 = w.alloc (.cells #[.int .u64 P, .int .u64 G, .slice A0 l.length c0] 58) := ⟨_, rfl⟩
  have hG : Aside0 (GoodM P) := ⟨hok.1⟩
  obtain ⟨g, hg⟩ : ∃ g, g = mIn P G := ⟨_, rfl⟩
  obtain ⟨o, ho⟩ : ∃ o, o = mOne P := ⟨_, rfl⟩
  obtain ⟨m1, hm1⟩ : ∃ m1, m1 = P - 1 := ⟨_, rfl⟩
  obtain ⟨pw, hpw⟩ : ∃ pw, pw = mPow P g m1 := ⟨_, rfl⟩
  have hwr : IntKind.u64.wrap (P - 1) = m1 := by rw [wu64, hm1]; have := hok.1; unfold GoodM at this; omega
  have SG := Aside0.mk hg
  have SO := Aside0.mk ho
  have SP := Aside0.mk hpw
  have UG := Aside0.mk hok.2.1
  have Ug : Aside0 (U g) := ⟨by rw [hg]; exact U_mod hok.1 _⟩
  have Um : Aside0 (U m1) := ⟨by rw [hm1]; have := hok.1; unfold GoodM at this; unfold U; omega⟩
  have HM1 := Aside0.mk hm1
  have HOK := Aside0.mk hok
  have HLEN : Aside0 (l.length ≤ 9223372036854775807) := ⟨hr0.2.1⟩
  have HB1 : Aside0 (w1.heap[w.heap.size]? = some (.cells #[.int .u64 P, .int .u64 G, .slice A0 l.length c0] 58 (0, 0))) := ⟨by rw [hw1]; exact blk_new _ _⟩
  have HC1 : Aside0 (Kd.C k75 w1 A0 l.length l) := ⟨by rw [hw1]; exact Kd.C_alloc hr0 _⟩
  have HW1 : Aside0 (Below w.heap.size w w1) := ⟨by rw [hw1]; exact below_alloc (Below.refl _ _) _⟩
  have hfirst : (pw == o) = (G ^ (P - 1).toNat % P == 1) := by rw [hpw, ho, hg, hm1, pow_one_iff hok.1]
  have hbx : w1.cell? ⟨w.heap.size, 0, none⟩ = some (.int .u64 P) := (blk_cell HB1.out 0).trans rfl
  cases hb : (pw == o) with
  | false =>
    have HR' : Aside0 (r = false) := ⟨by rw [← HR.out, ← hfirst, hb]; rfl⟩
    clear hr0 _hc0 hok HR hg ho hm1 hpw hfirst HOK HLEN
    go_enter Try.func58, Try.ntmps58
    go_wp2_with (first
        | (go_at_call 24; (with_reducible refine (New_good hG.out).mono ?_); rintro e w2 ⟨v, rfl, hv, hb2⟩; (have HB2 : Aside0 (Below w1.heap.size w1 w2) := ⟨by rw [hw1]; exact hb2⟩); have HE := Aside0.mk (blk_below HB1.out HB2.out); (have e0 : w2.cell? ⟨w.heap.size, 0, none⟩ = some (.int .u64 P) := (blk_cell HE.out 0).trans rfl); (have e1 : w2.cell? ⟨w.heap.size, 1, none⟩ = some (.int .u64 G) := (blk_cell HE.out 1).trans rfl); (have e2 : w2.cell? ⟨w.heap.size, 2, none⟩ = some (.slice A0 l.length c0) := (blk_cell HE.out 2).trans rfl); have HB := Aside0.mk hv; (have HN : Aside0 (∀ n, IsCtx (w2.drewN n) v P) := ⟨fun _ => HB.out⟩); clear hb2 hv)
        | (go_at_call 45; (with_reducible refine (In_some HB.out UG.out SG).mono ?_); rintro e w' ⟨rfl, ⟨nd, rfl⟩⟩; (try first | exact qA | exact qB))
        | (go_at_call 45; (with_reducible refine (In_some (HN.out _) UG.out SG).mono ?_); rintro e w' ⟨rfl, ⟨nd, rfl⟩⟩; (try first | exact qA | exact qB))
        | (go_at_call 79; (with_reducible refine (Pow_some HB.out Ug.out Um.out SP).mono ?_); rintro e w' ⟨rfl, ⟨nd, rfl⟩⟩; (try first | exact qA | exact qB))
        | (go_at_call 79; (with_reducible refine (Pow_some (HN.out _) Ug.out Um.out SP).mono ?_); rintro e w' ⟨rfl, ⟨nd, rfl⟩⟩; (try first | exact qA | exact qB))
        | (go_at_call 80; (with_reducible refine (One_some HB.out SO).mono ?_); rintro e w' ⟨rfl, ⟨nd, rfl⟩⟩; (try first | exact qA | exact qB))
        | (go_at_call 80; (with_reducible refine (One_some (HN.out _) SO).mono ?_); rintro e w' ⟨rfl, ⟨nd, rfl⟩⟩; (try first | exact qA | exact qB))
      )
    go_ret
    exact ⟨by rw [HR'.out] <;> first | rfl | (simp; done), by repeat (first | exact below_step HW1.out HB2.out | apply pw_below_drewN)⟩
  | true =>
    have HF : Aside0 ((!(l.any (bad1 P G))) = r) := ⟨by rw [← HR.out, ← hfirst, hb]; rfl⟩
    have hne : (pw != o) = false := by rw [bne, hb]; rfl
    have h00 : Aside0 ((l.take 0).any (bad1 P G) = false) := ⟨rfl⟩
    clear hr0 _hc0 hok HR hg ho hm1 hpw hfirst
    go_enter Try.func58, Try.ntmps58
    go_wp2_with (first
        | (go_at_call 24; (with_reducible refine (New_good hG.out).mono ?_); rintro e w2 ⟨v, rfl, hv, hb2⟩; (have HB2 : Aside0 (Below w1.heap.size w1 w2) := ⟨by rw [hw1]; exact hb2⟩); have HE := Aside0.mk (blk_below HB1.out HB2.out); (have e0 : w2.cell? ⟨w.heap.size, 0, none⟩ = some (.int .u64 P) := (blk_cell HE.out 0).trans rfl); (have e1 : w2.cell? ⟨w.heap.size, 1, none⟩ = some (.int .u64 G) := (blk_cell HE.out 1).trans rfl); (have e2 : w2.cell? ⟨w.heap.size, 2, none⟩ = some (.slice A0 l.length c0) := (blk_cell HE.out 2).trans rfl); have HB := Aside0.mk hv; (have HN : Aside0 (∀ n, IsCtx (w2.drewN n) v P) := ⟨fun _ => HB.out⟩); clear hb2 hv)
        | (go_at_call 45; (with_reducible refine (In_some HB.out UG.out SG).mono ?_); rintro e w' ⟨rfl, ⟨nd, rfl⟩⟩; (try first | exact qA | exact qB))
        | (go_at_call 45; (with_reducible refine (In_some (HN.out _) UG.out SG).mono ?_); rintro e w' ⟨rfl, ⟨nd, rfl⟩⟩; (try first | exact qA | exact qB))
        | (go_at_call 79; (with_reducible refine (Pow_some HB.out Ug.out Um.out SP).mono ?_); rintro e w' ⟨rfl, ⟨nd, rfl⟩⟩; (try first | exact qA | exact qB))
        | (go_at_call 79; (with_reducible refine (Pow_some (HN.out _) Ug.out Um.out SP).mono ?_); rintro e w' ⟨rfl, ⟨nd, rfl⟩⟩; (try first | exact qA | exact qB))
        | (go_at_call 80; (with_reducible refine (One_some HB.out SO).mono ?_); rintro e w' ⟨rfl, ⟨nd, rfl⟩⟩; (try first | exact qA | exact qB))
        | (go_at_call 80; (with_reducible refine (One_some (HN.out _) SO).mono ?_); rintro e w' ⟨rfl, ⟨nd, rfl⟩⟩; (try first | exact qA | exact qB))
      )
    go_loopw [30] (fun v30 wr => ∃ i : Nat, v30 = .int .i64 i ∧ i ≤ l.length ∧ Aside0 ((l.take i).any (bad1 P G) = false) ∧ Aside0 (Below w2.heap.size w2 wr)) (fun v30 _ => l.length - (intOf v30).toNat)
    case atStart => exact ⟨0, rfl, by omega, h00, ⟨by repeat (first | exact Below.refl _ _ | apply pw_below_drewN)⟩⟩
    case round =>
      clear h00
      have HC2 : Aside0 (Kd.C k75 w2 A0 l.length l) := ⟨Kd.C_below HC1.out HB2.out⟩
      obtain ⟨i, rfl, hi, H1, HBW⟩ := hrel
      have hlen := HLEN.out
      by_cases hlt : i < l.length
      · have c3b0 : decide ((i : Int) < (l.length : Int)) = true := decide_eq_true (by omega)
        have c3b1 : decide (i < l.length) = true := decide_eq_true hlt
        have p1 : 0 ≤ (i : Int) := by omega
        have q1 : (i : Int) < (l.length : Int) := by omega
        obtain ⟨ad, rfl, hx0, hx1⟩ := at_T75 HC2.out i (by omega) (by omega)
        replace hx0 := (HBW.out.cell (World.block_lt_of_cell? w2 _ hx0)).trans hx0
        replace hx1 := (HBW.out.cell (World.block_lt_of_cell? w2 _ hx1)).trans hx1
        simp only [Int.toNat_natCast] at hx0 hx1
        replace e0 := (HBW.out.cell (World.block_lt_of_cell? w2 _ e0)).trans e0
        replace e1 := (HBW.out.cell (World.block_lt_of_cell? w2 _ e1)).trans e1
        replace e2 := (HBW.out.cell (World.block_lt_of_cell? w2 _ e2)).trans e2
        have hstep := any_take_succ1 l (bad1 P G) i hlt
        have hxm := HOK.out.2.2 _ (rd_mem hlt)
        have HEB := Aside0.mk (blk_below HE.out HBW.out)
        obtain ⟨Q, hQ⟩ : ∃ Q, Q = (rd_T75 l (i : Int)).f0 := ⟨_, rfl⟩
        obtain ⟨E, hE⟩ : ∃ E, E = (rd_T75 l (i : Int)).f1 := ⟨_, rfl⟩
        rw [← hQ] at hx0 hxm
        rw [← hE] at hx1
        have hbd : bad1 P G (rd_T75 l (i : Int)) = (G ^ ((P - 1) / Q).toNat % P == 1) := by rw [hQ]; rfl
        rw [hbd, H1.out, Bool.false_or] at hstep
        obtain ⟨d, hd⟩ : ∃ d, d = (P - 1) / Q := ⟨_, rfl⟩
        obtain ⟨pd, hpd⟩ : ∃ pd, pd = mPow P g d := ⟨_, rfl⟩
        have hm1 := HM1.out
        have hz : (Q == 0) = false := beq_eq_false_iff_ne.mpr (by omega)
        have hz1 : ¬ Q = 0 := by omega
        have hdv : Int.tdiv m1 Q = d := by rw [tdiv_pos Um.out.1, hd, hm1]
        have SD := Aside0.mk hpd
        have Ud : Aside0 (U d) := ⟨by
          have u := Um.out
          have : (P - 1) / Q ≤ P - 1 := Int.ediv_le_self _ (by rw [← hm1]; exact u.1)
          have h0 : 0 ≤ (P - 1) / Q := Int.ediv_nonneg (by rw [← hm1]; exact u.1) (by omega)
          rw [hd]; unfold U at *; omega⟩
        have hdw : IntKind.u64.wrap d = d := by have u := Ud.out; rw [wu64]; exact Int.emod_eq_of_lt u.1 u.2
        have hcmp : (pd == o) = (l.take (i + 1)).any (bad1 P G) := by rw [hpd, SO.out, SG.out, pow_one_iff hG.out, hstep, hd]
        have HS := Aside0.mk hstep
        have HC := Aside0.mk hcmp
        have HLT := Aside0.mk hlt
        clear hstep hcmp hxm hQ hE hbd hd hpd hm1 hi hlt
        cases hbq : (pd == o) with
        | true =>
          have HR' : Aside0 (r = false) := ⟨by rw [← HF.out, any_of_take (i := i + 1) (by rw [← HC.out, hbq])]; rfl⟩
          go_wp2_with (first
            | ((with_reducible refine gate_dst (N := 7) rfl ?_); refine box_event ?hg (N := 7) ?hd (cs := #[.int .u64 0, .int .i64 0]) (t := 75) ?hr ?_; (case hd => rfl); (case hg => rfl); (case hr => first | (go_simp; done) | (go_simp; rfl)); intro gb hg w11 hbox hbx2; (have GE : Aside0 (w2.heap.size ≤ gb) := ⟨by rw [hg]; exact HBW.out.size⟩); (have ne1 : gb ≠ w.heap.size := (by have := blk_lt HE.out; have := GE.out; omega)); have ne2 := Ne.symm ne1; (have HBX : Aside0 (Below w2.heap.size w2 w11) := ⟨below_step HBW.out hbx2⟩); replace e0 := (hbx2.cell (World.block_lt_of_cell? wr _ e0)).trans e0; (have z0 : w11.cell? ⟨gb, 0, none⟩ = some (.int .u64 0) := (blk_cell hbox 0).trans rfl); (have z1 : w11.cell? ⟨gb, 1, none⟩ = some (.int .i64 0) := (blk_cell hbox 1).trans rfl); have z2 := blk_frozen hbox 0; have z3 := blk_frozen hbox 1; clear hbox hbx2 hg e1 e2 hx0 hx1)
            | (go_at_call 79; (with_reducible refine (Pow_some (HB.out.below (by repeat (first | exact HBX.out | apply pw_below_drewN | refine below_set ?_ GE.out))) Ug.out Ud.out SD).mono ?_); rintro e w' ⟨rfl, ⟨nd, rfl⟩⟩; (try first | exact qA | exact qB))
            | (go_at_call 80; (with_reducible refine (One_some (HB.out.below (by repeat (first | exact HBX.out | apply pw_below_drewN | refine below_set ?_ GE.out))) SO).mono ?_); rintro e w' ⟨rfl, ⟨nd, rfl⟩⟩; (try first | exact qA | exact qB))
          )
          go_ret
          exact ⟨by rw [HR'.out] <;> first | rfl | (simp; done), below_step (below_step HW1.out HB2.out) (by repeat (first | exact HBX.out | apply pw_below_drewN | refine below_set ?_ GE.out))⟩
        | false =>
          have HA : Aside0 ((l.take (i + 1)).any (bad1 P G) = false) := ⟨by rw [← HC.out, hbq]⟩
          go_wp2_with (first
            | ((with_reducible refine gate_dst (N := 7) rfl ?_); refine box_event ?hg (N := 7) ?hd (cs := #[.int .u64 0, .int .i64 0]) (t := 75) ?hr ?_; (case hd => rfl); (case hg => rfl); (case hr => first | (go_simp; done) | (go_simp; rfl)); intro gb hg w11 hbox hbx2; (have GE : Aside0 (w2.heap.size ≤ gb) := ⟨by rw [hg]; exact HBW.out.size⟩); (have ne1 : gb ≠ w.heap.size := (by have := blk_lt HE.out; have := GE.out; omega)); have ne2 := Ne.symm ne1; (have HBX : Aside0 (Below w2.heap.size w2 w11) := ⟨below_step HBW.out hbx2⟩); replace e0 := (hbx2.cell (World.block_lt_of_cell? wr _ e0)).trans e0; (have z0 : w11.cell? ⟨gb, 0, none⟩ = some (.int .u64 0) := (blk_cell hbox 0).trans rfl); (have z1 : w11.cell? ⟨gb, 1, none⟩ = some (.int .i64 0) := (blk_cell hbox 1).trans rfl); have z2 := blk_frozen hbox 0; have z3 := blk_frozen hbox 1; clear hbox hbx2 hg e1 e2 hx0 hx1)
            | (go_at_call 79; (with_reducible refine (Pow_some (HB.out.below (by repeat (first | exact HBX.out | apply pw_below_drewN | refine below_set ?_ GE.out))) Ug.out Ud.out SD).mono ?_); rintro e w' ⟨rfl, ⟨nd, rfl⟩⟩; (try first | exact qA | exact qB))
            | (go_at_call 80; (with_reducible refine (One_some (HB.out.below (by repeat (first | exact HBX.out | apply pw_below_drewN | refine below_set ?_ GE.out))) SO).mono ?_); rintro e w' ⟨rfl, ⟨nd, rfl⟩⟩; (try first | exact qA | exact qB))
          )
          go_roundw
          case rel => exact ⟨i + 1, by have := HLT.out; have := HLEN.out; go_num, by have := HLT.out; omega, HA, ⟨(by repeat (first | exact HBX.out | apply pw_below_drewN | refine below_set ?_ GE.out))⟩⟩
          case measure => have := HLT.out; have := HLEN.out; simp [intOf]; omega
      · have c3b0 : decide ((i : Int) < (l.length : Int)) = false := decide_eq_false (by omega)
        have c3b1 : decide (i < l.length) = false := decide_eq_false hlt
        have HR' : Aside0 (r = true) := ⟨by rw [← HF.out]; have := H1.out; rw [List.take_of_length_le (by omega)] at this; rw [this]; rfl⟩
        clear hlt hlen
        go_wp2
        go_ret
        exact ⟨by rw [HR'.out] <;> first | rfl | (simp; done), by repeat (first | exact below_step (below_step HW1.out HB2.out) HBW.out | apply pw_below_drewN)⟩
end Go.Proofs.Ytndkmnjbjlfeaaa.Given04
end
section
namespace Go.Proofs.Ytndkmnjbjlfeaaa.Given05
open Go Go.RowKit Go.Proofs.YtndkmnjbjlfeaaaW.PrintWords Go.Proofs.YtndkmnjbjlfeaaaW.PrintLast Go.Proofs.YtndkmnjbjlfeaaaW.PrintMore Go.Proofs.Ytndkmnjbjlfeaaa.Given Go.Proofs.Ytndkmnjbjlfeaaa.M Go.Proofs.Ytndkmnjbjlfeaaa.XS
def bad (p g : Int) (x : S75) : Bool := g ^ ((p - 1) / x.f0).toNat % p == 1
set_option maxHeartbeats 2000000 in
theorem clo_calls {Q E g p d v : Int} {k b c : Nat} {w : World} {r : Bool} (hb : w.heap[b]? = some (.cells #[.int .u64 g] 31 (0, 0))) (hc : w.heap[c]? = some (.cells #[.int .u64 p] 31 (0, 0)))
    (hp : IntKind.u64.wrap (p - 1) = p - 1) (hz1 : ¬ Q = 0) (hd : Int.tdiv (p - 1) Q = d) (hw : IntKind.u64.wrap d = d) (hk : modular_Pow.f k g d p = some v) (hr : (v == 1) = r) :
    Calls Try.prog 52 #[.agg #[.int .u64 Q, .int .i64 E], .pointer (some ⟨b, 0, none⟩), .pointer (some ⟨c, 0, none⟩)] w fun e w' => e = .returned (.bool r) ∧ Below w.heap.size w w' := by
  have c0 : w.cell? ⟨b, 0, none⟩ = some (.int .u64 g) := (blk_cell hb 0).trans rfl
  have c1 : w.cell? ⟨c, 0, none⟩ = some (.int .u64 p) := (blk_cell hc 0).trans rfl
  have f0 := blk_frozen hb 0
  have f1 := blk_frozen hc 0
  have lb := blk_lt hb
  have lc := blk_lt hc
  have HK := Aside0.mk hk
  clear hb hc hk
  go_enter Try.func52, Try.ntmps52
  go_wp2
  repeat (go_quiet (first | (go_at_call 53; (with_reducible refine (modular_Pow.calls k g d p v _ HK.out).mono ?_); rintro e w' ⟨rfl, ⟨nd, rfl⟩⟩; (try first | exact qA | exact qB))); try go_wp2_with (first | (go_at_call 53; (with_reducible refine (modular_Pow.calls k g d p v _ HK.out).mono ?_); rintro e w' ⟨rfl, ⟨nd, rfl⟩⟩; (try first | exact qA | exact qB))))
  go_ret
  exact ⟨by first | rfl | (simp; done), by repeat (first | exact Below.refl _ _ | apply below_alloc | apply pw_below_drewN)⟩
def okS (p g : Int) (l : List S75) : Prop := (3 ≤ p ∧ p < 9223372036854775808) ∧ U g ∧ ∀ x ∈ l, 1 ≤ x.f0 ∧ U x.f0
theorem clo_ok {E p g : Int} {x : S75} {l : List S75} {b c : Nat} {w : World} (ho : okS p g l) (hx : x ∈ l) (hb : w.heap[b]? = some (.cells #[.int .u64 g] 31 (0, 0))) (hc : w.heap[c]? = some (.cells #[.int .u64 p] 31 (0, 0))) :
    Calls Try.prog 52 #[.agg #[.int .u64 x.f0, .int .i64 E], .pointer (some ⟨b, 0, none⟩), .pointer (some ⟨c, 0, none⟩)] w fun e w' => e = .returned (.bool (bad p g x)) ∧ Below w.heap.size w w' := by
  obtain ⟨⟨p0, p1⟩, ug, hl⟩ := ho
  obtain ⟨x1, ux⟩ := hl x hx
  have h0 : 0 ≤ (p - 1) / x.f0 := Int.ediv_nonneg (by omega) (by omega)
  have h1 : (p - 1) / x.f0 ≤ p - 1 := Int.ediv_le_self _ (by omega)
  have ud : U ((p - 1) / x.f0) := by unfold U; omega
  have up : U p := by unfold U; omega
  obtain ⟨k, hk⟩ := Ev.rounds (modular_Pow_ev ug ud up (by omega))
  have hp : IntKind.u64.wrap (p - 1) = p - 1 := wu64_id _ (by omega) (by omega)
  have hd : Int.tdiv (p - 1) x.f0 = (p - 1) / x.f0 := tdiv_pos (by omega)
  exact clo_calls hb hc hp (by omega) hd (wu64_id _ ud.1 ud.2) hk rfl
theorem any_take (l : List S75) (f : S75 → Bool) (i : Nat) (h : i < l.length) : (l.take (i + 1)).any f = ((l.take i).any f || f (rd_T75 l (i : Int))) := by
  unfold rd_T75
  rw [List.take_succ_eq_append_getElem h, List.any_append]
  simp [List.getD, List.getElem?_eq_getElem h]
theorem any_of {l : List S75} {f : S75 → Bool} {i : Nat} (h : (l.take i).any f = true) : l.any f = true := by
  rw [List.any_eq_true] at *
  obtain ⟨x, hx, he⟩ := h
  exact ⟨x, List.mem_of_mem_take hx, he⟩
theorem rd_mem {l : List S75} {i : Nat} (h : i < l.length) : rd_T75 l (i : Int) ∈ l := by
  unfold rd_T75
  simp [List.getD, List.getElem?_eq_getElem h]
set_option maxHeartbeats 2000000 in
theorem index_calls {A0 : Option Addr} {c0 b c : Nat} {l : List S75} {p g : Int} {w : World} (hr0 : Kd.C k75 w A0 l.length l) (ho : okS p g l) (hb : w.heap[b]? = some (.cells #[.int .u64 g] 31 (0, 0))) (hc : w.heap[c]? = some (.cells #[.int .u64 p] 31 (0, 0))) :
    Calls Try.prog 66 #[.slice A0 l.length c0, .func (Fn.func 52) #[] #[.pointer (some ⟨b, 0, none⟩), .pointer (some ⟨c, 0, none⟩)]] w fun e w' => ∃ i : Int, e = .returned (.int .i64 i) ∧ decide (0 ≤ i) = l.any (bad p g) ∧ Below w.heap.size w w' := by
  have hlen : l.length ≤ 9223372036854775807 := hr0.2.1
  have HR0 := Aside0.mk hr0
  have HB0 := Aside0.mk hb
  have HC0 := Aside0.mk hc
  have HO := Aside0.mk ho
  have h0 : Aside0 ((l.take 0).any (bad p g) = false) := ⟨rfl⟩
  clear hr0 hb hc ho
  go_enter Try.func66, Try.ntmps66
  go_wp2
  go_loopw [8] (fun v8 w' => ∃ i : Nat, v8 = .int .i64 i ∧ i ≤ l.length ∧ Aside0 ((l.take i).any (bad p g) = false) ∧ Aside0 (Below w.heap.size w w')) (fun v8 _ => l.length - (intOf v8).toNat)
  case atStart => exact ⟨0, rfl, by omega, h0, ⟨Below.refl _ _⟩⟩
  case round =>
    clear h0
    obtain ⟨i, rfl, hi, H1, HB⟩ := hrel
    by_cases hlt : i < l.length
    · have c3b0 : decide ((i : Int) < (l.length : Int)) = true := decide_eq_true (by omega)
      have c3b1 : decide (i < l.length) = true := decide_eq_true hlt
      have p1 : 0 ≤ (i : Int) := by omega
      have q1 : (i : Int) < (l.length : Int) := by omega
      obtain ⟨ad, e1, hx0, hx1⟩ := at_T75 HR0.out i p1 q1
      cases e1
      replace hx0 := (HB.out.cell (World.block_lt_of_cell? w _ hx0)).trans hx0
      replace hx1 := (HB.out.cell (World.block_lt_of_cell? w _ hx1)).trans hx1
      simp only [Int.toNat_natCast] at hx0 hx1
      have HBG := Aside0.mk (blk_below HB0.out HB.out)
      have HBP := Aside0.mk (blk_below HC0.out HB.out)
      have hstep := any_take l (bad p g) i hlt
      have HX := Aside0.mk (rd_mem hlt)
      clear hlt
      cases hm : bad p g (rd_T75 l (i : Int)) with
      | true =>
        have HM := Aside0.mk hm
        have HF : Aside0 (l.any (bad p g) = true) := ⟨any_of (i := i + 1) (by rw [hstep, hm]; simp)⟩
        clear hm hstep
        go_wp2_with (go_at_call 52; (with_reducible refine (clo_ok HO.out HX.out HBG.out HBP.out).mono ?_); rw [HM.out]; rintro e w2 ⟨rfl, hb2⟩; have HB2 := Aside0.mk hb2; clear hb2)
        go_ret
        exact ⟨i, by first | rfl | (simp; done), by rw [HF.out]; exact decide_eq_true (by omega), below_step HB.out HB2.out⟩
      | false =>
        have HM := Aside0.mk hm
        have HF : Aside0 ((l.take (i + 1)).any (bad p g) = false) := ⟨by rw [hstep, hm, H1.out]; rfl⟩
        clear hm hstep
        go_wp2_with (go_at_call 52; (with_reducible refine (clo_ok HO.out HX.out HBG.out HBP.out).mono ?_); rw [HM.out]; rintro e w2 ⟨rfl, hb2⟩; have HB2 := Aside0.mk hb2; clear hb2)
        go_roundw
        case rel => exact ⟨i + 1, by go_num, by omega, HF, ⟨below_step HB.out HB2.out⟩⟩
        case measure => simp [intOf]; omega
    · have c3b0 : decide ((i : Int) < (l.length : Int)) = false := decide_eq_false (by omega)
      have c3b1 : decide (i < l.length) = false := decide_eq_false hlt
      have HF : Aside0 (l.any (bad p g) = false) := ⟨by have := H1.out; rwa [List.take_of_length_le (by omega)] at this⟩
      clear hlt
      go_wp2
      go_ret
      exact ⟨-1, by first | rfl | (simp; done), by rw [HF.out]; rfl, HB.out⟩
theorem contains_calls {A0 : Option Addr} {c0 b c : Nat} {l : List S75} {p g : Int} {r : Bool} {w : World} (hr0 : Kd.C k75 w A0 l.length l) (ho : okS p g l) (hb : w.heap[b]? = some (.cells #[.int .u64 g] 31 (0, 0))) (hc : w.heap[c]? = some (.cells #[.int .u64 p] 31 (0, 0))) (hr : Aside0 (l.any (bad p g) = r)) :
    Calls Try.prog 51 #[.slice A0 l.length c0, .func (Fn.func 52) #[] #[.pointer (some ⟨b, 0, none⟩), .pointer (some ⟨c, 0, none⟩)]] w fun e w' => e = .returned (.bool r) ∧ Below w.heap.size w w' := by
  have HR0 := Aside0.mk hr0
  have HB0 := Aside0.mk hb
  have HC0 := Aside0.mk hc
  have HO := Aside0.mk ho
  clear hr0 hb hc ho
  go_enter Try.func51, Try.ntmps51
  go_wp2_with (go_at_call 66; (with_reducible refine (index_calls HR0.out HO.out HB0.out HC0.out).mono ?_); rintro e w2 ⟨i, rfl, hd, hb2⟩; have HB2 := Aside0.mk hb2; have HD := Aside0.mk hd; clear hb2 hd)
  go_ret
  exact ⟨by rw [← hr.out, ← HD.out] <;> first | rfl | (simp; done), HB2.out⟩
end Go.Proofs.Ytndkmnjbjlfeaaa.Given05
end
section
namespace Go.Proofs.Ytndkmnjbjlfeaaa.Given05
open Go Go.RowKit Go.Proofs.YtndkmnjbjlfeaaaW.PrintWords Go.Proofs.YtndkmnjbjlfeaaaW.PrintLast Go.Proofs.YtndkmnjbjlfeaaaW.PrintMore Go.Proofs.Ytndkmnjbjlfeaaa.Given Go.Proofs.Ytndkmnjbjlfeaaa.M Go.Proofs.Ytndkmnjbjlfeaaa.XS
instance (p g : Int) (l : List S75) : Decidable (okS p g l) := by unfold okS U; infer_instance
def search (l : List S75) (p : Int) : Nat → Int → Option Int
  | 0, _ => none
  | k + 1, g => if okS p g l then (if l.any (bad p g) = true then search l p k (g + 1) else some g) else none
def sieve_Generator.f (k : Nat) (p : Int) : Option Int := (sieve_odd.f k p).bind fun t => if t = true then ((sieve_Factor.f k (IntKind.u64.wrap (p - 1))).bind fun l => search l p k 2) else some 0
theorem search_mono (l : List S75) (p : Int) : ∀ (k : Nat) (g : Int), LeO (search l p k g) (search l p (k + 1) g)
  | 0, _ => fun r h => by cases h
  | k + 1, g => fun r h => by
    unfold search at h ⊢
    split at h
    · rename_i c
      rw [if_pos c]
      split at h
      · rename_i c2
        rw [if_pos c2]
        exact search_mono l p k (g + 1) r h
      · rename_i c2
        rw [if_neg c2]
        exact h
    · cases h
theorem sieve_Generator.mono : ∀ (a0 : Int) (k : Nat), LeO (sieve_Generator.f k a0) (sieve_Generator.f (k + 1) a0) := fun a0 k r h => by
  unfold sieve_Generator.f at h ⊢
  obtain ⟨t, h1, h2⟩ := Option.bind_eq_some_iff.1 h
  rw [sieve_odd.mono a0 k t h1, Option.bind_some]
  split at h2
  · rename_i c
    rw [if_pos c]
    obtain ⟨l, h3, h4⟩ := Option.bind_eq_some_iff.1 h2
    rw [sieve_Factor.mono _ k l h3, Option.bind_some]
    exact search_mono l a0 k 2 r h4
  · rename_i c
    rw [if_neg c]
    exact h2
theorem search_ok {l : List S75} {p g r : Int} {k : Nat} (h : search l p k g = some r) : okS p g l := by
  cases k with
  | zero => cases h
  | succ k =>
    unfold search at h
    split at h
    · assumption
    · cases h
set_option maxRecDepth 100000 in
set_option maxHeartbeats 4000000 in
theorem sieve_Generator.calls (k : Nat) (a0 : Int) (r : Int) (w : World) (h : sieve_Generator.f k a0 = some r) :
    Calls Try.prog 36 #[.int .u64 a0] w fun e w' => e = .returned (.int .u64 r) ∧ Below w.heap.size w w' := by
  unfold sieve_Generator.f at h
  obtain ⟨t, h1, h2⟩ := Option.bind_eq_some_iff.1 h
  have H1 := Aside0.mk h1
  clear h h1
  cases t with
  | false =>
    have HR : Aside0 (r = 0) := ⟨by rw [if_neg Bool.false_ne_true] at h2; exact (Option.some.inj h2).symm⟩
    clear h2
    go_enter Try.func36, Try.ntmps36
    go_wp2_with (go_at_call 18; (with_reducible refine (sieve_odd.calls k a0 false _ H1.out).mono ?_); rintro e w2 ⟨rfl, hb2⟩; have HB2 := Aside0.mk hb2; clear hb2)
    go_ret
    exact ⟨by rw [HR.out] <;> first | rfl | (simp; done), below_step (below_alloc (Below.refl _ _) _) HB2.out⟩
  | true =>
    rw [if_pos rfl] at h2
    obtain ⟨l, h3, h4⟩ := Option.bind_eq_some_iff.1 h2
    have H3 := Aside0.mk h3
    have H4 := Aside0.mk h4
    have HBP : Aside0 ((w.alloc (.cells #[.int .u64 a0] 31)).heap[w.heap.size]? = some (.cells #[.int .u64 a0] 31 (0, 0))) := ⟨blk_new _ _⟩
    clear h2 h3 h4
    go_enter Try.func36, Try.ntmps36
    go_wp2_with (first
      | (go_at_call 18; (with_reducible refine (sieve_odd.calls k a0 true _ H1.out).mono ?_); rintro e w2 ⟨rfl, hb2⟩; have HB2 := Aside0.mk hb2; have HP2 := Aside0.mk (blk_below HBP.out HB2.out); (have e2 : w2.cell? ⟨w.heap.size, 0, none⟩ = some (.int .u64 a0) := (blk_cell HP2.out 0).trans rfl); clear hb2)
      | (go_at_call 35; (with_reducible refine (sieve_Factor.calls k (IntKind.u64.wrap (a0 - 1)) l _ H3.out).mono ?_); rintro e w3 ⟨v, rfl, hv, hb3⟩; (obtain ⟨A, c, rfl⟩ := Kd.R_slice hv); have HV := Aside0.mk (Kd.R_reads' hv).2.2; have HB3 := Aside0.mk hb3; have HP3 := Aside0.mk (blk_below HP2.out HB3.out); clear hb3 hv)
      )
    have HG0 : Aside0 ((w3.alloc (.cells #[.int .u64 2] 31)).heap[w3.heap.size]? = some (.cells #[.int .u64 2] 31 (0, 0))) := ⟨blk_new _ _⟩
    clear e2
    go_loopg [13] k (fun kq _v13 wr => ∃ g : Int, Aside0 (search l a0 kq g = some r) ∧ Aside0 (kq ≤ k) ∧ Aside0 (wr.heap[w3.heap.size]? = some (.cells #[.int .u64 g] 31 (0, 0))) ∧ Aside0 (Below w3.heap.size w3 wr))
    case atStart => exact ⟨2, H4, ⟨Nat.le_refl _⟩, HG0, ⟨by repeat (first | exact Below.refl _ _ | apply below_alloc)⟩⟩
    case round =>
      clear H4 HG0
      obtain ⟨g, HA, HK1, HG, HB⟩ := hrel
      cases gk with
      | zero => exact absurd HA.out (by simp [search])
      | succ k1 =>
        have HC := Aside0.mk (Kd.C_below HV.out HB.out)
        have HP := Aside0.mk (blk_below HP3.out HB.out)
        have hA := HA.out
        clear HA
        unfold search at hA
        split at hA
        case isFalse => cases hA
        rename_i hok
        have HO := Aside0.mk hok
        have g0 : (wr.cell? ⟨w3.heap.size, 0, none⟩) = some (.int .u64 g) := (blk_cell HG.out 0).trans rfl
        have gf := blk_frozen HG.out 0
        cases hany : l.any (bad a0 g) with
        | true =>
          rw [hany, if_pos rfl] at hA
          have HA := Aside0.mk hA
          have HN := Aside0.mk hany
          have hw : IntKind.u64.wrap (g + 1) = g + 1 := by have u := (search_ok hA).2.1; exact wu64_id _ u.1 u.2
          clear hA hok hany
          go_wp2_with (go_at_call 51; (with_reducible refine (contains_calls HC.out HO.out HG.out HP.out HN).mono ?_); rintro e w5 ⟨rfl, hb5⟩; have HB5 := Aside0.mk hb5; have HG5 := Aside0.mk (blk_below HG.out hb5); (have g5 : w5.cell? ⟨w3.heap.size, 0, none⟩ = some (.int .u64 g) := (blk_cell HG5.out 0).trans rfl); have gf5 := blk_frozen HG5.out 0; clear hb5 g0 gf)
          go_roundg k1
          case measure => have := HK1.out; omega
          case rel => exact ⟨g + 1, HA, ⟨by have := HK1.out; omega⟩, ⟨by refine blk_put (cs := #[.int .u64 g]) ?_ 0 _ rfl; exact HG5.out⟩, ⟨below_set (below_step HB.out HB5.out) (Nat.le_refl _)⟩⟩
        | false =>
          rw [hany, if_neg Bool.false_ne_true] at hA
          obtain rfl := Option.some.inj hA
          have HN := Aside0.mk hany
          clear hA hok hany
          go_wp2_with (go_at_call 51; (with_reducible refine (contains_calls HC.out HO.out HG.out HP.out HN).mono ?_); rintro e w5 ⟨rfl, hb5⟩; have HB5 := Aside0.mk hb5; have HG5 := Aside0.mk (blk_below HG.out hb5); (have g5 : w5.cell? ⟨w3.heap.size, 0, none⟩ = some (.int .u64 g) := (blk_cell HG5.out 0).trans rfl); have gf5 := blk_frozen HG5.out 0; clear hb5 g0 gf)
          go_ret
          exact ⟨by first | rfl | (simp; done), below_step (below_step (below_step (below_alloc (Below.refl _ _) _) HB2.out) HB3.out) (below_step HB.out HB5.out)⟩
end Go.Proofs.Ytndkmnjbjlfeaaa.Given05
end
section
namespace Go.Proofs.Ytndkmnjbjlfeaaa.GivenS
open Go Go.RowKit Go.Proofs.YtndkmnjbjlfeaaaW.PrintWords Go.Proofs.YtndkmnjbjlfeaaaW.PrintLast Go.Proofs.YtndkmnjbjlfeaaaW.PrintMore
def bits_Len.f (a : Int) : Option Int := if 0 ≤ a ∧ a ≤ 18446744073709551615 then some (Lib.bitLen a.toNat : Int) else none
theorem bits_Len.calls (a0 r : Int) (w : World) (h : bits_Len.f a0 = some r) :
    Calls Try.prog 56 #[.int .u64 a0] w fun e w' => e = .returned (.int .i64 r) ∧ Drawn0 w w' := by
  unfold bits_Len.f at h
  by_cases h0 : 0 ≤ a0 ∧ a0 ≤ 18446744073709551615
  · rw [if_pos h0] at h
    obtain rfl := Option.some.inj h
    refine (Try.bits_Len a0 w h0.1 h0.2).mono ?_
    rintro e w' ⟨rfl, rfl⟩
    exact ⟨rfl, Drawn0.refl _⟩
  · rw [if_neg h0] at h; cases h
end Go.Proofs.Ytndkmnjbjlfeaaa.GivenS
end
section
namespace Go.Proofs.Ytndkmnjbjlfeaaa.XQ
open Go.RowKit Go.Proofs.Ytndkmnjbjlfeaaa.Given Go.Proofs.Ytndkmnjbjlfeaaa.GivenS Go.Proofs.YtndkmnjbjlfeaaaW.PrintWords Go.Proofs.YtndkmnjbjlfeaaaW.PrintLast Go.Proofs.YtndkmnjbjlfeaaaW.PrintMore
attribute [local go_sem] max2_int min2_int max_two min_two max_three min_three max_four min_four   -- for this text's walks alone
set_option linter.unusedVariables false
set_option linter.unusedSimpArgs false
def cmp_isNaN_uint64.f (a0 : Int) : Option (Bool) := some (a0 != a0)
set_option maxHeartbeats 8000000 in
set_option maxRecDepth 100000 in
theorem cmp_isNaN_uint64.calls (a0 : Int) (r : Bool) (w : World) (h : cmp_isNaN_uint64.f a0 = some r) :
  Calls Try.prog 91 #[.int .u64 a0] w fun e w' => e = .returned (.bool r) ∧ Drawn0 w w' := by
 have H : (some (a0 != a0)) = some r := h
 clear h
 obtain rfl := Option.some.inj H
 go_enter Try.func91, Try.ntmps91
 go_wp2
 go_ret
 exact ⟨by first | rfl | (simp; done) | (simp [*]; done), by repeat (first | exact Drawn0.refl _ | apply Drawn0.step)⟩
def cmp_Less_uint64.f (a0 : Int) (a1 : Int) : Option (Bool) := (cmp_isNaN_uint64.f a0).bind fun t101 => (if t101 = true then ((cmp_isNaN_uint64.f a1).bind fun t102 => (if t102 = true then (some (decide (a0 < a1))) else (some true))) else (some (decide (a0 < a1))))
set_option maxHeartbeats 8000000 in
set_option maxRecDepth 100000 in
theorem cmp_Less_uint64.calls (a0 : Int) (a1 : Int) (r : Bool) (w : World) (h : cmp_Less_uint64.f a0 a1 = some r) :
  Calls Try.prog 73 #[.int .u64 a0, .int .u64 a1] w fun e w' => e = .returned (.bool r) ∧ Drawn0 w w' := by
 have H : ((cmp_isNaN_uint64.f a0).bind fun t101 => (if t101 = true then ((cmp_isNaN_uint64.f a1).bind fun t102 => (if t102 = true then (some (decide (a0 < a1))) else (some true))) else (some (decide (a0 < a1))))) = some r := h
 clear h
 replace H := Option.bind_eq_some_iff.mp H
 obtain ⟨t101, A30, H⟩ := H
 replace H : (if t101 = true then ((cmp_isNaN_uint64.f a1).bind fun t102 => (if t102 = true then (some (decide (a0 < a1))) else (some true))) else (some (decide (a0 < a1)))) = some r := H
 have A3 := Aside0.mk A30
 clear A30
 by_cases c4 : t101 = true
 ·subst c4
  have H1 : ((cmp_isNaN_uint64.f a1).bind fun t102 => (if t102 = true then (some (decide (a0 < a1))) else (some true))) = some r := by rw [if_pos rfl] at H <;> exact H
  clear H
  have H := H1
  clear H1
  replace H := Option.bind_eq_some_iff.mp H
  obtain ⟨t102, A50, H⟩ := H
  replace H : (if t102 = true then (some (decide (a0 < a1))) else (some true)) = some r := H
  have A5 := Aside0.mk A50
  clear A50
  by_cases c6 : t102 = true
  ·subst c6
   have H1 : (some (decide (a0 < a1))) = some r := by rw [if_pos rfl] at H <;> exact H
   clear H
   have H := H1
   clear H1
   obtain rfl := Option.some.inj H
   go_enter Try.func73, Try.ntmps73
   go_wp2_with (first | ((with_reducible refine gate_callee (f := 91) rfl ?_); refine goesL_ (some 6) rfl rfl Try.func91 (by kernel_rfl) rfl #[.int .u64 a0] rfl (by (try simp only [List.map_toArray, List.map_cons, List.map_nil]); first | done | rfl | (simp only [List.length_drop, List.length_take]; rfl)) ?_; (with_reducible refine (cmp_isNaN_uint64.calls a0 true _ A3.out).mono ?_); rintro e w' ⟨rfl, ⟨nd, rfl⟩⟩; refine ⟨_, rfl, ?_⟩) | (go_at_call 91; (with_reducible refine (cmp_isNaN_uint64.calls a1 true _ A5.out).mono ?_); rintro e w' ⟨rfl, ⟨nd, rfl⟩⟩))
   go_ret
   exact ⟨by first | rfl | (simp; done) | (simp [*]; done), by repeat (first | exact Drawn0.refl _ | apply Drawn0.step)⟩
  ·replace c6 := Bool.eq_false_iff.mpr c6
   subst c6
   have H1 : (some true) = some r := by rw [if_neg (show ¬ (false = true) by decide)] at H <;> exact H
   clear H
   have H := H1
   clear H1
   obtain rfl := Option.some.inj H
   go_enter Try.func73, Try.ntmps73
   go_wp2_with (first | ((with_reducible refine gate_callee (f := 91) rfl ?_); refine goesL_ (some 6) rfl rfl Try.func91 (by kernel_rfl) rfl #[.int .u64 a0] rfl (by (try simp only [List.map_toArray, List.map_cons, List.map_nil]); first | done | rfl | (simp only [List.length_drop, List.length_take]; rfl)) ?_; (with_reducible refine (cmp_isNaN_uint64.calls a0 true _ A3.out).mono ?_); rintro e w' ⟨rfl, ⟨nd, rfl⟩⟩; refine ⟨_, rfl, ?_⟩) | (go_at_call 91; (with_reducible refine (cmp_isNaN_uint64.calls a1 false _ A5.out).mono ?_); rintro e w' ⟨rfl, ⟨nd, rfl⟩⟩))
   go_ret
   exact ⟨by first | rfl | (simp; done) | (simp [*]; done), by repeat (first | exact Drawn0.refl _ | apply Drawn0.step)⟩
 ·replace c4 := Bool.eq_false_iff.mpr c4
  subst c4
  have H1 : (some (decide (a0 < a1))) = some r := by rw [if_neg (show ¬ (false = true) by decide)] at H <;> exact H
  clear H
  have H := H1
  clear H1
  obtain rfl := Option.some.inj H
  go_enter Try.func73, Try.ntmps73
  go_wp2_with (first | ((with_reducible refine gate_callee (f := 91) rfl ?_); refine goesL_ (some 6) rfl rfl Try.func91 (by kernel_rfl) rfl #[.int .u64 a0] rfl (by (try simp only [List.map_toArray, List.map_cons, List.map_nil]); first | done | rfl | (simp only [List.length_drop, List.length_take]; rfl)) ?_; (with_reducible refine (cmp_isNaN_uint64.calls a0 false _ A3.out).mono ?_); rintro e w' ⟨rfl, ⟨nd, rfl⟩⟩; refine ⟨_, rfl, ?_⟩))
  go_ret
  exact ⟨by first | rfl | (simp; done) | (simp [*]; done), by repeat (first | exact Drawn0.refl _ | apply Drawn0.step)⟩
mutual
def slices_insertionSortOrdered_uint64.l0 : Nat → List Int → Int → Int → Int → Option (List Int)
 | 0, _, _, _, _ => none
 | k + 1, x0, x1, x2, x6 => if x6 < x2 then (slices_insertionSortOrdered_uint64.l1 k x0 x1 x2 x6 x6) else (some x0)
def slices_insertionSortOrdered_uint64.l1 : Nat → List Int → Int → Int → Int → Int → Option (List Int)
 | 0, _, _, _, _, _ => none
 | k + 1, x0, x1, x2, x6, x7 => if x7 > x1 then (if 0 ≤ x7 then (if x7 < (x0.length : Int) then (if 0 ≤ (wrap64 (x7 - 1)) then (if (wrap64 (x7 - 1)) < (x0.length : Int) then ((cmp_Less_uint64.f (rd x0 x7) (rd x0 (wrap64 (x7 - 1)))).bind fun t105 => (if t105 = true then (slices_insertionSortOrdered_uint64.l1 k ((x0.set (x7 : Int).toNat (rd x0 (wrap64 (x7 - 1)))).set ((wrap64 (x7 - 1)) : Int).toNat (rd x0 x7)) x1 x2 x6 (wrap64 (x7 - 1))) else (slices_insertionSortOrdered_uint64.l0 k x0 x1 x2 (wrap64 (x6 + 1))))) else (none)) else (none)) else (none)) else (none)) else (slices_insertionSortOrdered_uint64.l0 k x0 x1 x2 (wrap64 (x6 + 1)))
end
def slices_insertionSortOrdered_uint64.f (k : Nat) (l0 : List Int) (a1 : Int) (a2 : Int) : Option (List Int) := slices_insertionSortOrdered_uint64.l0 k l0 a1 a2 (wrap64 (a1 + 1))
def slices_insertionSortOrdered_uint64.T4 : Bool × List (List Nat × List Nat) := (true, [([], []), ([], []), ([0, 1], [0, 1]), ([2], [2]), ([3], [3]), ([3], [3]), ([4, 5, 3], [3, 4, 5]), ([6, 3], [3, 6]), ([3], [3]), ([3], [3]), ([9, 3], [3, 9]), ([8, 10, 3], [3, 8, 10]), ([11, 3], [3, 11]), ([7, 12, 3, 3], [3, 7, 12]), ([3, 13], [3, 13])])
def slices_insertionSortOrdered_uint64.B4 : List Nat := [0, 0, 3, 7, 15, 15, 63, 127, 15, 15, 527, 1807, 3855, 8191, 16383]
theorem slices_insertionSortOrdered_uint64.tab4 : rtab .any (opsOf Try.f67 4) = slices_insertionSortOrdered_uint64.T4 := by kernel_rfl
theorem slices_insertionSortOrdered_uint64.bits4 : waitsOk slices_insertionSortOrdered_uint64.T4.2 slices_insertionSortOrdered_uint64.B4 = true := by kernel_rfl
def slices_insertionSortOrdered_uint64.T6 : Bool × List (List Nat × List Nat) := (true, [([], []), ([], []), ([], []), ([], []), ([3], [3]), ([], []), ([], []), ([6], [6]), ([5, 7], [5, 7]), ([8], [8]), ([], []), ([], []), ([10, 11], [10, 11]), ([12], [12]), ([0, 1, 0, 1, 5, 6, 7, 8, 9, 13], [0, 1]), ([14, 9, 0, 1, 5, 6, 7, 8, 9, 13], [9, 14]), ([2, 4, 0, 1, 2, 3, 4, 5, 6, 7, 8, 9, 10, 11, 12, 13, 14, 15], [2, 4]), ([16, 13, 15, 0, 1, 2, 3, 4, 5, 6, 7, 8, 9, 10, 11, 12, 13, 14, 15], [13, 16])])
def slices_insertionSortOrdered_uint64.B6 : List Nat := [0, 0, 0, 0, 8, 0, 0, 64, 224, 480, 0, 0, 3072, 7168, 16355, 32739, 65535, 131071]
theorem slices_insertionSortOrdered_uint64.tab6 : rtab .any (opsOf Try.f67 6) = slices_insertionSortOrdered_uint64.T6 := by kernel_rfl
theorem slices_insertionSortOrdered_uint64.bits6 : waitsOk slices_insertionSortOrdered_uint64.T6.2 slices_insertionSortOrdered_uint64.B6 = true := by kernel_rfl
set_option maxHeartbeats 8000000 in
set_option maxRecDepth 100000 in
theorem slices_insertionSortOrdered_uint64.calls (k : Nat) (P0_ : Nat → Prop) (u9000_ : Value) (l0 : List Int) (a1 : Int) (a2 : Int) (r : List Int) (w0 w : World) (hB : Below w0.heap.size w0 w) (ho0 : Kd.R (Kd.int .u64) 31 w w0.heap.size P0_ u9000_ l0) (h : slices_insertionSortOrdered_uint64.f k l0 a1 a2 = some r) :
  Calls Try.prog 67 #[u9000_, .int .i64 a1, .int .i64 a2] w fun e w' => e = .returned (.tuple #[]) ∧ Kd.R (Kd.int .u64) 31 w' w0.heap.size (fun k_ => (P0_ k_ ∨ w.heap.size ≤ k_)) u9000_ r ∧ Below w0.heap.size w0 w' ∧ Kept w w' (fun k_ => P0_ k_) := by
 have HO0 := Aside0.mk (show Kd.R (Kd.int .u64) 31 w w0.heap.size (fun k_ => (P0_ k_ ∨ w.heap.size ≤ k_)) u9000_ l0 from Kd.R_mono ho0 (fun k_ hk => (.inl hk)))
 have HK := Aside0.mk (Kept.refl w (fun k_ => P0_ k_))
 have HW0 := Aside0.mk hB.size
 have HB := Aside0.mk hB
 clear hB
 have H : (slices_insertionSortOrdered_uint64.l0 k l0 a1 a2 (wrap64 (a1 + 1))) = some r := h
 clear h
 have H' := Aside0.mk H
 clear H
 go_enter Try.func67, Try.ntmps67
 go_wp2
 go_loopg [6] k (fun kq v6 w' => ∃ (x0_1 : List Int) (x6_1 : Int), v6 = .int .i64 x6_1 ∧ Aside0 (slices_insertionSortOrdered_uint64.l0 kq x0_1 a1 a2 x6_1 = some r) ∧ Aside0 (kq ≤ k) ∧ Aside0 (Kd.R (Kd.int .u64) 31 w' w0.heap.size (fun k_ => (P0_ k_ ∨ w.heap.size ≤ k_)) u9000_ x0_1) ∧ Aside0 (Kept w w' (fun k_ => P0_ k_)) ∧ Aside0 (Below w0.heap.size w0 w'))
 case atStart => exact ⟨(l0), (wrap64 (a1 + 1)), (by first | rfl | (simp; done) | (simp [*]; done)), H', ⟨Nat.le_refl _⟩, ⟨by (with_reducible repeat (first | apply Kd.R_alloc | apply Kd.R_drewN | apply Kd.R_drew)); exact HO0.out⟩, ⟨by repeat (first | (with_reducible first | exact HK.out | apply Kept.alloc | apply Kept.drewN | apply Kept.drew) | exact HK.out)⟩, ⟨by repeat (first | (with_reducible first | exact HB.out | apply below_alloc | apply pw_below_drewN | apply below_drew1) | exact HB.out)⟩⟩
 case round =>
  clear H'
  try clear p2
  obtain ⟨x0_1, x6_1, rfl, HA, HK1, HO_0, HK, HB⟩ := hrel
  cases gk with
  | zero => exact absurd HA.out (by simp [slices_insertionSortOrdered_uint64.l0])
  | succ k1 =>
   have H := HA.out
   clear HA
   simp only [slices_insertionSortOrdered_uint64.l0] at H
   by_cases c4 : x6_1 < a2
   ·rw [if_pos c4] at H
    have c4b0 : decide (x6_1 < a2) = true := decide_eq_true c4
    clear c4
    have H' := Aside0.mk H
    clear H
    go_wp2
    go_loopg [7] k1 (fun kq v7 w' => ∃ (x0_2 : List Int) (x7_2 : Int), v7 = .int .i64 x7_2 ∧ Aside0 (slices_insertionSortOrdered_uint64.l1 kq x0_2 a1 a2 x6_1 x7_2 = some r) ∧ Aside0 (kq ≤ k1) ∧ Aside0 (Kd.R (Kd.int .u64) 31 w' w0.heap.size (fun k_ => (P0_ k_ ∨ w.heap.size ≤ k_)) u9000_ x0_2) ∧ Aside0 (Kept w w' (fun k_ => P0_ k_)) ∧ Aside0 (Below w0.heap.size w0 w'))
    case atStart => exact ⟨(x0_1), (x6_1), (by first | rfl | (simp; done) | (simp [*]; done)), H', ⟨Nat.le_refl _⟩, ⟨by (with_reducible repeat (first | apply Kd.R_alloc | apply Kd.R_drewN | apply Kd.R_drew)); exact HO_0.out⟩, ⟨by repeat (first | (with_reducible first | exact HK.out | apply Kept.alloc | apply Kept.drewN | apply Kept.drew) | exact HK.out)⟩, ⟨by repeat (first | (with_reducible first | exact HB.out | apply below_alloc | apply pw_below_drewN | apply below_drew1) | exact HB.out)⟩⟩
    case round =>
     clear H'
     try clear p2
     try clear c4
     try clear c4b0
     try clear p2
     obtain ⟨x0_2, x7_2, rfl, HA, HK2, HO_0, HK, HB⟩ := hrel
     cases gk with
     | zero => exact absurd HA.out (by simp [slices_insertionSortOrdered_uint64.l1])
     | succ k2 =>
      have H := HA.out
      clear HA
      simp only [slices_insertionSortOrdered_uint64.l1] at H
      by_cases c5 : x7_2 > a1
      ·rw [if_pos c5] at H
       have c5b0 : decide (a1 < x7_2) = true := decide_eq_true c5
       clear c5
       by_cases c6 : 0 ≤ x7_2
       ·rw [if_pos c6] at H
        have c6b0 : decide (0 ≤ x7_2) = true := decide_eq_true c6
        clear c6
        by_cases c7 : x7_2 < (x0_2.length : Int)
        ·rw [if_pos c7] at H
         have c7b0 : decide (x7_2 < (x0_2.length : Int)) = true := decide_eq_true c7
         clear c7
         obtain ⟨ji8, hji8⟩ : ∃ j_ : Int, (wrap64 (x7_2 - 1)) = j_ := ⟨_, rfl⟩
         replace H : (if 0 ≤ (ji8) then (if (ji8) < (x0_2.length : Int) then ((cmp_Less_uint64.f (rd x0_2 x7_2) (rd x0_2 (ji8))).bind fun t105 => (if t105 = true then (slices_insertionSortOrdered_uint64.l1 k2 ((x0_2.set (x7_2 : Int).toNat (rd x0_2 (ji8))).set ((ji8) : Int).toNat (rd x0_2 x7_2)) a1 a2 x6_1 ji8) else (slices_insertionSortOrdered_uint64.l0 k2 x0_2 a1 a2 (wrap64 (x6_1 + 1))))) else (none)) else (none)) = some r := by first | (rw [hji8] at H <;> exact H) | (simp only [hji8] at H ⊢; exact H)
         have hji8w : (IntKind.i64.wrap (x7_2 - 1)) = ji8 := (i64_w _).trans hji8
         by_cases c9 : 0 ≤ (ji8)
         ·rw [if_pos c9] at H
          have c9b0 : decide (0 ≤ (ji8)) = true := decide_eq_true c9
          clear c9
          by_cases c10 : (ji8) < (x0_2.length : Int)
          ·rw [if_pos c10] at H
           have c10b0 : decide ((ji8) < (x0_2.length : Int)) = true := decide_eq_true c10
           clear c10
           replace H := Option.bind_eq_some_iff.mp H
           obtain ⟨t105, A110, H⟩ := H
           replace H : (if t105 = true then (slices_insertionSortOrdered_uint64.l1 k2 ((x0_2.set (x7_2 : Int).toNat (rd x0_2 (ji8))).set ((ji8) : Int).toNat (rd x0_2 x7_2)) a1 a2 x6_1 ji8) else (slices_insertionSortOrdered_uint64.l0 k2 x0_2 a1 a2 (wrap64 (x6_1 + 1)))) = some r := H
           have A11 := Aside0.mk A110
           clear A110
           by_cases c12 : t105 = true
           ·subst c12
            have H1 : (slices_insertionSortOrdered_uint64.l1 k2 ((x0_2.set (x7_2 : Int).toNat (rd x0_2 (ji8))).set ((ji8) : Int).toNat (rd x0_2 x7_2)) a1 a2 x6_1 ji8) = some r := by rw [if_pos rfl] at H <;> exact H
            clear H
            have H := H1
            clear H1
            obtain ⟨y108, hy108⟩ : ∃ y_ : List Int, y_ = (x0_2.set (x7_2 : Int).toNat (rd x0_2 (ji8))) := ⟨_, rfl⟩
            replace H : (slices_insertionSortOrdered_uint64.l1 k2 (y108.set ((ji8) : Int).toNat (rd x0_2 x7_2)) a1 a2 x6_1 ji8) = some r := by first | (rw [hy108]; with_reducible exact H) | (have H2_ := (Option.bind_some _ _).symm.trans H; rw [hy108]; with_reducible exact H2_) | (have H2_ := (Option.bind_some _ _).symm.trans H; with_reducible exact H2_) | with_reducible exact H | (rw [hy108]; exact H) | exact H
            have Ny108 := Aside0.mk hy108
            clear hy108
            obtain ⟨y109, hy109⟩ : ∃ y_ : List Int, y_ = (y108.set ((ji8) : Int).toNat (rd x0_2 x7_2)) := ⟨_, rfl⟩
            replace H : (slices_insertionSortOrdered_uint64.l1 k2 y109 a1 a2 x6_1 ji8) = some r := by first | (rw [hy109]; with_reducible exact H) | (have H2_ := (Option.bind_some _ _).symm.trans H; rw [hy109]; with_reducible exact H2_) | (have H2_ := (Option.bind_some _ _).symm.trans H; with_reducible exact H2_) | with_reducible exact H | (rw [hy109]; exact H) | exact H
            have Ny109 := Aside0.mk hy109
            clear hy109
            have H' := Aside0.mk H
            clear H
            try go_wp2
            have n0_ := Aside0.mk (Kd.R_drew HO_0.out)
            have n1_ := Aside0.mk (Kept.drew HK.out)
            have n2_ := Aside0.mk (below_drew1 HB.out)
            clear HO_0
            clear HK
            clear HB
            have HO_0 := n0_
            have HK := n1_
            have HB := n2_
            clear n0_ n1_ n2_
            obtain ⟨Ao16, co16, eo16⟩ := Kd.R_slice HO_0.out
            (first | subst eo16 | (injection eo16 with f1_ f2_ f3_; have f4_ := f1_.symm; have f5_ := f3_.symm; clear f1_ f2_ f3_; subst f4_; subst f5_))
            have p103 : 0 ≤ (x7_2 : Int) := of_decide_eq_true (by first | (with_reducible assumption) | assumption)
            have q103 : x7_2 < (x0_2.length : Int) := of_decide_eq_true (by first | (with_reducible assumption) | assumption)
            obtain ⟨ad103, e103, hx103_0⟩ := Kd.at_int (Kd.R_reads' HO_0.out).2.2 x7_2 p103 q103
            cases e103
            replace p103 := eq_true p103
            replace q103 := eq_true q103
            have p104 : 0 ≤ ((ji8) : Int) := of_decide_eq_true (by first | (with_reducible assumption) | assumption)
            have q104 : (ji8) < (x0_2.length : Int) := of_decide_eq_true (by first | (with_reducible assumption) | assumption)
            obtain ⟨ad104, e104, hx104_0⟩ := Kd.at_int (Kd.R_reads' HO_0.out).2.2 (ji8) p104 q104
            obtain rfl : ad103 = ad104 := (by injection e104)
            replace p104 := eq_true p104
            replace q104 := eq_true q104
            refine start_ (n := 15) (S := fun w' => w'.cell? (ad103.add (x7_2).toNat) = some (.int .u64 (rd x0_2 x7_2)) ∧ w'.cell? (ad103.add ((ji8)).toNat) = some (.int .u64 (rd x0_2 (ji8)))) (ds := []) #[false, false, false, false, false, false, false, false, false, false, false, false, false, false, false] (by kernel_rfl) rfl rfl ⟨hx103_0, hx104_0⟩ (fun hHeld => ?_); refine with_tabW slices_insertionSortOrdered_uint64.tab4 slices_insertionSortOrdered_uint64.bits4 (fun HT_ HW_ => ?_)
            generalize wr.drew = w15 at HO_0 HK HB hx103_0 hx104_0 hHeld ⊢
            refine pure_ (i := 0) (N := some 16) (v := ?_) (a' := ?_) #[true, false, false, false, false, false, false, false, false, false, false, false, false, false, false] rfl rfl (any_of HT_.out (by kernel_rfl)) (fun _ _ _ h => h) (Or.inl ⟨by rfl, ?_⟩) ?_ ?_
            rotate_left
            ·intro w'
             go_simp
             with_reducible rfl
            rotate_left
            ·simp only [Act.put, List.setIfInBounds_toArray, List.set_cons_zero, List.set_cons_succ, i64_w, i32_w]
             rfl
            refine pure_ (i := 1) (N := some 17) (v := ?_) (a' := ?_) #[true, true, false, false, false, false, false, false, false, false, false, false, false, false, false] rfl rfl (any_of HT_.out (by kernel_rfl)) (fun _ _ _ h => h) (Or.inl ⟨by rfl, ?_⟩) ?_ ?_
            rotate_left
            ·intro w'
             go_simp
             with_reducible rfl
            rotate_left
            ·simp only [Act.put, List.setIfInBounds_toArray, List.set_cons_zero, List.set_cons_succ, i64_w, i32_w]
             rfl
            refine pure_ (i := 2) (N := some 18) (v := ?_) (a' := ?_) #[true, true, true, false, false, false, false, false, false, false, false, false, false, false, false] rfl rfl (any_of HT_.out (by kernel_rfl)) (fun _ _ _ h => h) (Or.inl ⟨by rfl, ?_⟩) ?_ ?_
            rotate_left
            ·intro w'
             go_simp
             with_reducible rfl
            rotate_left
            ·simp only [Act.put, List.setIfInBounds_toArray, List.set_cons_zero, List.set_cons_succ, i64_w, i32_w]
             rfl
            refine pure_ (i := 3) (N := some 19) (v := ?_) (a' := ?_) #[true, true, true, true, false, false, false, false, false, false, false, false, false, false, false] rfl rfl (any_of HT_.out (by kernel_rfl)) (fun _ _ _ h => h) (Or.inl ⟨by rfl, ?_⟩) ?_ ?_
            rotate_left
            ·intro w'
             go_simp
             with_reducible rfl
            rotate_left
            ·simp only [Act.put, List.setIfInBounds_toArray, List.set_cons_zero, List.set_cons_succ, i64_w, i32_w]
             rfl
            refine pure_ (i := 4) (N := some 20) (v := ?_) (a' := ?_) #[true, true, true, true, true, false, false, false, false, false, false, false, false, false, false] rfl rfl (any_of HT_.out (by kernel_rfl)) (fun _ _ _ h => h) (Or.inl ⟨by rfl, ?_⟩) ?_ ?_
            rotate_left
            ·intro w'
             go_simp
             with_reducible rfl
            rotate_left
            ·simp only [Act.put, List.setIfInBounds_toArray, List.set_cons_zero, List.set_cons_succ, i64_w, i32_w]
             rfl
            refine pure_ (i := 5) (N := some 21) (v := ?_) (a' := ?_) #[true, true, true, true, true, true, false, false, false, false, false, false, false, false, false] rfl rfl (any_of HT_.out (by kernel_rfl)) (fun _ _ _ h => h) (Or.inl ⟨by rfl, ?_⟩) ?_ ?_
            rotate_left
            ·intro w'
             go_simp
             with_reducible rfl
            rotate_left
            ·simp only [Act.put, List.setIfInBounds_toArray, List.set_cons_zero, List.set_cons_succ, i64_w, i32_w]
             rfl
            refine pure_ (i := 6) (N := some 22) (v := ?_) (a' := ?_) #[true, true, true, true, true, true, true, false, false, false, false, false, false, false, false] rfl rfl (any_of HT_.out (by kernel_rfl)) (fun _ _ _ h => h) (Or.inl ⟨by rfl, ?_⟩) ?_ ?_
            rotate_left
            ·intro w'
             go_simp
             with_reducible rfl
            rotate_left
            ·simp only [Act.put, List.setIfInBounds_toArray, List.set_cons_zero, List.set_cons_succ, i64_w, i32_w]
             rfl
            refine pure_ (i := 8) (N := some 24) (v := ?_) (a' := ?_) #[true, true, true, true, true, true, true, false, true, false, false, false, false, false, false] rfl rfl (any_of HT_.out (by kernel_rfl)) (fun _ _ _ h => h) (Or.inl ⟨by rfl, ?_⟩) ?_ ?_
            rotate_left
            ·intro w'
             go_simp
             with_reducible rfl
            rotate_left
            ·simp only [Act.put, List.setIfInBounds_toArray, List.set_cons_zero, List.set_cons_succ, i64_w, i32_w]
             rfl
            refine pure_ (i := 9) (N := some 25) (v := ?_) (a' := ?_) #[true, true, true, true, true, true, true, false, true, true, false, false, false, false, false] rfl rfl (any_of HT_.out (by kernel_rfl)) (fun _ _ _ h => h) (Or.inl ⟨by rfl, ?_⟩) ?_ ?_
            rotate_left
            ·intro w'
             go_simp
             with_reducible rfl
            rotate_left
            ·simp only [Act.put, List.setIfInBounds_toArray, List.set_cons_zero, List.set_cons_succ, i64_w, i32_w]
             rfl
            refine pure_ (i := 10) (N := some 26) (v := ?_) (a' := ?_) #[true, true, true, true, true, true, true, false, true, true, true, false, false, false, false] rfl rfl (any_of HT_.out (by kernel_rfl)) (fun _ _ _ h => h) (Or.inl ⟨by rfl, ?_⟩) ?_ ?_
            rotate_left
            ·intro w'
             go_simp
             with_reducible rfl
            rotate_left
            ·simp only [Act.put, List.setIfInBounds_toArray, List.set_cons_zero, List.set_cons_succ, i64_w, i32_w]
             rfl
            refine pure_ (i := 11) (N := some 27) (v := ?_) (a' := ?_) #[true, true, true, true, true, true, true, false, true, true, true, true, false, false, false] rfl rfl (any_of HT_.out (by kernel_rfl)) (fun _ _ _ h => h) (Or.inl ⟨by rfl, ?_⟩) ?_ ?_
            rotate_left
            ·intro w'
             go_simp
             with_reducible rfl
            rotate_left
            ·simp only [Act.put, List.setIfInBounds_toArray, List.set_cons_zero, List.set_cons_succ, i64_w, i32_w]
             rfl
            refine take_ (i := 7) (N := some 23) (v := ?_) (a' := ?_) #[true, true, true, true, true, true, true, true, true, true, true, true, false, false, false] rfl rfl (take_ofW HT_.out HW_.out (by kernel_rfl)) (fun _ _ _ h => h) (Or.inl ⟨by rfl, ?_⟩) hHeld ?_ ?_
            rotate_left
            ·rintro w' ⟨s0, s1⟩
             go_simp
             with_reducible rfl
            rotate_left
            ·simp only [Act.put, List.setIfInBounds_toArray, List.set_cons_zero, List.set_cons_succ, i64_w, i32_w]
             rfl
            refine take_ (i := 12) (N := some 28) (v := ?_) (a' := ?_) #[true, true, true, true, true, true, true, true, true, true, true, true, true, false, false] rfl rfl (take_ofW HT_.out HW_.out (by kernel_rfl)) (fun _ _ _ h => h) (Or.inl ⟨by rfl, ?_⟩) hHeld ?_ ?_
            rotate_left
            ·rintro w' ⟨s0, s1⟩
             go_simp
             with_reducible rfl
            rotate_left
            ·simp only [Act.put, List.setIfInBounds_toArray, List.set_cons_zero, List.set_cons_succ, i64_w, i32_w]
             rfl
            refine one_ (i := 13) (N := some 29) #[true, true, true, true, true, true, true, true, true, true, true, true, true, true, false] rfl rfl (one_of HT_.out (by kernel_rfl)) (by decide) (fun K hK => ?_)
            refine goes_ Try.func73 (by kernel_rfl) rfl #[.int .u64 (rd x0_2 x7_2), .int .u64 (rd x0_2 (ji8))] (by rfl) rfl rfl (by (try simp only [List.map_toArray, List.map_cons, List.map_nil]); first | done | (simp only [hji8]; rfl) | rfl | (simp only [List.length_drop, List.length_take]; rfl)) ?_
            with_reducible refine (cmp_Less_uint64.calls (rd x0_2 x7_2) (rd x0_2 (ji8)) true _ A11.out).mono ?_
            rintro e w' ⟨rfl, ⟨nd, rfl⟩⟩
            refine ⟨_, rfl, ?_⟩
            refine hK.out _ _ ⟨hHeld.1, hHeld.2⟩ (fun hHeld => ?_)
            clear hK K
            refine norm_ (a' := ?_) ?_ ?_
            rotate_left
            ·show Act.put _ (some 29) _ = _
             simp only [Act.put, List.setIfInBounds_toArray, List.set_cons_zero, List.set_cons_succ, i64_w, i32_w]
             rfl
            refine pure_ (i := 14) (N := some 30) (v := ?_) (a' := ?_) #[true, true, true, true, true, true, true, true, true, true, true, true, true, true, true] rfl rfl (any_of HT_.out (by kernel_rfl)) (fun _ _ _ h => h) (Or.inl ⟨by rfl, ?_⟩) ?_ ?_
            rotate_left
            ·intro w'
             go_simp
             with_reducible rfl
            rotate_left
            ·simp only [Act.put, List.setIfInBounds_toArray, List.set_cons_zero, List.set_cons_succ, i64_w, i32_w]
             rfl
            refine done_ (done_of HT_.out (by kernel_rfl)) ?_
            try go_wp2
            (try (rw [drewN_self w15]; generalize hq_ : World.drewN w15 _ = w15; have n0_ : Aside0 (Kd.R (Kd.int .u64) 31 w15 w0.heap.size (fun k_ => (P0_ k_ ∨ w.heap.size ≤ k_)) (.slice (some ad103) x0_2.length co16) x0_2) := ⟨by rw [← hq_]; exact (by (with_reducible repeat (first | apply Kd.R_alloc | apply Kd.R_drewN | apply Kd.R_drew)); exact HO_0.out)⟩; have n1_ : Aside0 (Kept w w15 (fun k_ => P0_ k_)) := ⟨by rw [← hq_]; exact (by repeat (first | (with_reducible first | exact HK.out | apply Kept.alloc | apply Kept.drewN | apply Kept.drew) | exact HK.out))⟩; have n2_ : Aside0 (Below w0.heap.size w0 w15) := ⟨by rw [← hq_]; exact (by repeat (first | (with_reducible first | exact HB.out | apply below_alloc | apply pw_below_drewN | apply below_drew1) | exact HB.out))⟩; clear HO_0 HK HB hq_; have HO_0 := n0_; have HK := n1_; have HB := n2_; clear n0_ n1_ n2_))
            have n0_ := Aside0.mk (Kd.R_drew HO_0.out)
            have n1_ := Aside0.mk (Kept.drew HK.out)
            have n2_ := Aside0.mk (below_drew1 HB.out)
            clear HO_0
            clear HK
            clear HB
            have HO_0 := n0_
            have HK := n1_
            have HB := n2_
            clear n0_ n1_ n2_
            have p106 : 0 ≤ ((ji8) : Int) := of_decide_eq_true (by first | (with_reducible assumption) | assumption)
            have q106 : (ji8) < (x0_2.length : Int) := of_decide_eq_true (by first | (with_reducible assumption) | assumption)
            obtain ⟨ad106, e106, hx106_0⟩ := Kd.at_int (Kd.R_reads' HO_0.out).2.2 (ji8) p106 q106
            obtain rfl : ad103 = ad106 := (by injection e106)
            replace p106 := eq_true p106
            replace q106 := eq_true q106
            have p107 : 0 ≤ (x7_2 : Int) := of_decide_eq_true (by first | (with_reducible assumption) | assumption)
            have q107 : x7_2 < (x0_2.length : Int) := of_decide_eq_true (by first | (with_reducible assumption) | assumption)
            obtain ⟨ad107, e107, hx107_0⟩ := Kd.at_int (Kd.R_reads' HO_0.out).2.2 x7_2 p107 q107
            obtain rfl : ad103 = ad107 := (by injection e107)
            replace p107 := eq_true p107
            replace q107 := eq_true q107
            have p13 : 0 ≤ (x7_2 : Int) := of_decide_eq_true (by first | (with_reducible assumption) | assumption)
            have q13 : (x7_2 : Int) < ((x0_2.length : Int) : Int) := of_decide_eq_true (by first | (with_reducible assumption) | assumption)
            obtain ⟨go13, co13, eo13, gb13, gl13, cl13, HG13⟩ := Kd.R_form HO_0.out (by omega)
            (first | cases eo13 | (injection eo13 with ea_ en_ ec_; (first | subst ea_ | (injection ea_ with ea_; subst ea_)); subst ec_; clear en_))
            have GB13 := Aside0.mk gb13
            have GG13 := Aside0.mk HG13
            clear gb13 gl13 HG13
            have HMgo13 := Aside0.mk (show (P0_ go13 ∨ w.heap.size ≤ go13) from (HO_0.out.1 _ rfl))
            (first | simp only [add_plain] at hx103_0 | skip)
            (first | simp only [add_plain] at hx104_0 | skip)
            (first | simp only [add_plain] at hx106_0 | skip)
            (first | simp only [add_plain] at hx107_0 | skip)
            obtain ⟨hx13_0, hf13_0⟩ := Kd.R_celln 0 HO_0.out (x7_2 : Int) p13 q13
            replace p13 := eq_true p13
            replace q13 := eq_true q13
            have HP18 := Kd.R_putn HO_0.out (x7_2 : Int) (rd x0_2 (ji8))
            rw [← Ny108.out] at HP18
            have HQ18 := Aside0.mk HP18
            clear HP18
            have p14 : 0 ≤ ((ji8) : Int) := of_decide_eq_true (by first | (with_reducible assumption) | assumption)
            have q14 : ((ji8) : Int) < ((x0_2.length : Int) : Int) := of_decide_eq_true (by first | (with_reducible assumption) | assumption)
            obtain ⟨hx14_0, hf14_0⟩ := Kd.R_celln 0 HQ18.out ((ji8) : Int) p14 q14
            replace p14 := eq_true p14
            replace q14 := eq_true q14
            have HP19 := Kd.R_putn HQ18.out ((ji8) : Int) (rd x0_2 x7_2)
            rw [← Ny109.out] at HP19
            have HQ19 := Aside0.mk HP19
            clear HP19
            refine start_ (n := 18) (S := fun w' => w'.cell? ⟨go13, ((ji8)).toNat, none⟩ = some (.int .u64 (rd x0_2 (ji8))) ∧ w'.cell? ⟨go13, (x7_2).toNat, none⟩ = some (.int .u64 (rd x0_2 x7_2))) (ds := [15, 17]) #[false, false, false, false, false, false, false, false, false, false, false, false, false, false, false, false, false, false] (by kernel_rfl) rfl rfl ⟨hx106_0, hx107_0⟩ (fun hHeld => ?_); refine with_tabW slices_insertionSortOrdered_uint64.tab6 slices_insertionSortOrdered_uint64.bits6 (fun HT_ HW_ => ?_)
            generalize w15.drew = w17 at HO_0 HK HB GG13 HQ18 HQ19 hf13_0 hf14_0 hx103_0 hx104_0 hx106_0 hx107_0 hx13_0 hx14_0 hHeld ⊢
            refine pure_ (i := 0) (N := some 33) (v := ?_) (a' := ?_) #[true, false, false, false, false, false, false, false, false, false, false, false, false, false, false, false, false, false] rfl rfl (any_of HT_.out (by kernel_rfl)) (fun _ _ _ h => h) (Or.inl ⟨by rfl, ?_⟩) ?_ ?_
            rotate_left
            ·intro w'
             go_simp
             with_reducible rfl
            rotate_left
            ·simp only [Act.put, List.setIfInBounds_toArray, List.set_cons_zero, List.set_cons_succ, i64_w, i32_w]
             rfl
            refine pure_ (i := 1) (N := some 34) (v := ?_) (a' := ?_) #[true, true, false, false, false, false, false, false, false, false, false, false, false, false, false, false, false, false] rfl rfl (any_of HT_.out (by kernel_rfl)) (fun _ _ _ h => h) (Or.inl ⟨by rfl, ?_⟩) ?_ ?_
            rotate_left
            ·intro w'
             go_simp
             with_reducible rfl
            rotate_left
            ·simp only [Act.put, List.setIfInBounds_toArray, List.set_cons_zero, List.set_cons_succ, i64_w, i32_w]
             rfl
            refine pure_ (i := 2) (N := some 35) (v := ?_) (a' := ?_) #[true, true, true, false, false, false, false, false, false, false, false, false, false, false, false, false, false, false] rfl rfl (any_of HT_.out (by kernel_rfl)) (fun _ _ _ h => h) (Or.inl ⟨by rfl, ?_⟩) ?_ ?_
            rotate_left
            ·intro w'
             go_simp
             with_reducible rfl
            rotate_left
            ·simp only [Act.put, List.setIfInBounds_toArray, List.set_cons_zero, List.set_cons_succ, i64_w, i32_w]
             rfl
            refine pure_ (i := 3) (N := some 36) (v := ?_) (a' := ?_) #[true, true, true, true, false, false, false, false, false, false, false, false, false, false, false, false, false, false] rfl rfl (any_of HT_.out (by kernel_rfl)) (fun _ _ _ h => h) (Or.inl ⟨by rfl, ?_⟩) ?_ ?_
            rotate_left
            ·intro w'
             go_simp
             with_reducible rfl
            rotate_left
            ·simp only [Act.put, List.setIfInBounds_toArray, List.set_cons_zero, List.set_cons_succ, i64_w, i32_w]
             rfl
            refine pure_ (i := 4) (N := some 37) (v := ?_) (a' := ?_) #[true, true, true, true, true, false, false, false, false, false, false, false, false, false, false, false, false, false] rfl rfl (any_of HT_.out (by kernel_rfl)) (fun _ _ _ h => h) (Or.inl ⟨by rfl, ?_⟩) ?_ ?_
            rotate_left
            ·intro w'
             go_simp
             with_reducible rfl
            rotate_left
            ·simp only [Act.put, List.setIfInBounds_toArray, List.set_cons_zero, List.set_cons_succ, i64_w, i32_w]
             rfl
            refine pure_ (i := 5) (N := some 38) (v := ?_) (a' := ?_) #[true, true, true, true, true, true, false, false, false, false, false, false, false, false, false, false, false, false] rfl rfl (any_of HT_.out (by kernel_rfl)) (fun _ _ _ h => h) (Or.inl ⟨by rfl, ?_⟩) ?_ ?_
            rotate_left
            ·intro w'
             go_simp
             with_reducible rfl
            rotate_left
            ·simp only [Act.put, List.setIfInBounds_toArray, List.set_cons_zero, List.set_cons_succ, i64_w, i32_w]
             rfl
            refine pure_ (i := 6) (N := some 39) (v := ?_) (a' := ?_) #[true, true, true, true, true, true, true, false, false, false, false, false, false, false, false, false, false, false] rfl rfl (any_of HT_.out (by kernel_rfl)) (fun _ _ _ h => h) (Or.inl ⟨by rfl, ?_⟩) ?_ ?_
            rotate_left
            ·intro w'
             go_simp
             with_reducible rfl
            rotate_left
            ·simp only [Act.put, List.setIfInBounds_toArray, List.set_cons_zero, List.set_cons_succ, i64_w, i32_w]
             rfl
            refine pure_ (i := 7) (N := some 40) (v := ?_) (a' := ?_) #[true, true, true, true, true, true, true, true, false, false, false, false, false, false, false, false, false, false] rfl rfl (any_of HT_.out (by kernel_rfl)) (fun _ _ _ h => h) (Or.inl ⟨by rfl, ?_⟩) ?_ ?_
            rotate_left
            ·intro w'
             go_simp
             with_reducible rfl
            rotate_left
            ·simp only [Act.put, List.setIfInBounds_toArray, List.set_cons_zero, List.set_cons_succ, i64_w, i32_w]
             rfl
            refine pure_ (i := 8) (N := some 41) (v := ?_) (a' := ?_) #[true, true, true, true, true, true, true, true, true, false, false, false, false, false, false, false, false, false] rfl rfl (any_of HT_.out (by kernel_rfl)) (fun _ _ _ h => h) (Or.inl ⟨by rfl, ?_⟩) ?_ ?_
            rotate_left
            ·intro w'
             go_simp
             with_reducible rfl
            rotate_left
            ·simp only [Act.put, List.setIfInBounds_toArray, List.set_cons_zero, List.set_cons_succ, i64_w, i32_w]
             rfl
            refine pure_ (i := 10) (N := some 43) (v := ?_) (a' := ?_) #[true, true, true, true, true, true, true, true, true, false, true, false, false, false, false, false, false, false] rfl rfl (any_of HT_.out (by kernel_rfl)) (fun _ _ _ h => h) (Or.inl ⟨by rfl, ?_⟩) ?_ ?_
            rotate_left
            ·intro w'
             go_simp
             with_reducible rfl
            rotate_left
            ·simp only [Act.put, List.setIfInBounds_toArray, List.set_cons_zero, List.set_cons_succ, i64_w, i32_w]
             rfl
            refine pure_ (i := 11) (N := some 44) (v := ?_) (a' := ?_) #[true, true, true, true, true, true, true, true, true, false, true, true, false, false, false, false, false, false] rfl rfl (any_of HT_.out (by kernel_rfl)) (fun _ _ _ h => h) (Or.inl ⟨by rfl, ?_⟩) ?_ ?_
            rotate_left
            ·intro w'
             go_simp
             with_reducible rfl
            rotate_left
            ·simp only [Act.put, List.setIfInBounds_toArray, List.set_cons_zero, List.set_cons_succ, i64_w, i32_w]
             rfl
            refine pure_ (i := 12) (N := some 45) (v := ?_) (a' := ?_) #[true, true, true, true, true, true, true, true, true, false, true, true, true, false, false, false, false, false] rfl rfl (any_of HT_.out (by kernel_rfl)) (fun _ _ _ h => h) (Or.inl ⟨by rfl, ?_⟩) ?_ ?_
            rotate_left
            ·intro w'
             go_simp
             with_reducible rfl
            rotate_left
            ·simp only [Act.put, List.setIfInBounds_toArray, List.set_cons_zero, List.set_cons_succ, i64_w, i32_w]
             rfl
            refine take_ (i := 9) (N := some 42) (v := ?_) (a' := ?_) #[true, true, true, true, true, true, true, true, true, true, true, true, true, false, false, false, false, false] rfl rfl (take_ofW HT_.out HW_.out (by kernel_rfl)) (fun _ _ _ h => h) (Or.inl ⟨by rfl, ?_⟩) hHeld ?_ ?_
            rotate_left
            ·rintro w' ⟨s0, s1⟩
             go_simp
             with_reducible rfl
            rotate_left
            ·simp only [Act.put, List.setIfInBounds_toArray, List.set_cons_zero, List.set_cons_succ, i64_w, i32_w]
             rfl
            refine take_ (i := 13) (N := some 46) (v := ?_) (a' := ?_) #[true, true, true, true, true, true, true, true, true, true, true, true, true, true, false, false, false, false] rfl rfl (take_ofW HT_.out HW_.out (by kernel_rfl)) (fun _ _ _ h => h) (Or.inl ⟨by rfl, ?_⟩) hHeld ?_ ?_
            rotate_left
            ·rintro w' ⟨s0, s1⟩
             go_simp
             with_reducible rfl
            rotate_left
            ·simp only [Act.put, List.setIfInBounds_toArray, List.set_cons_zero, List.set_cons_succ, i64_w, i32_w]
             rfl
            refine pure_ (i := 14) (N := some 47) (v := ?_) (a' := ?_) #[true, true, true, true, true, true, true, true, true, true, true, true, true, true, true, false, false, false] rfl rfl (any_of HT_.out (by kernel_rfl)) (fun _ _ _ h => h) (Or.inl ⟨by rfl, ?_⟩) ?_ ?_
            rotate_left
            ·intro w'
             go_simp
             with_reducible rfl
            rotate_left
            ·simp only [Act.put, List.setIfInBounds_toArray, List.set_cons_zero, List.set_cons_succ, i64_w, i32_w]
             rfl
            refine last_ (i := 15) (N := none) #[true, true, true, true, true, true, true, true, true, true, true, true, true, true, true, true, false, false] rfl rfl (one_of HT_.out (by kernel_rfl)) (by decide) (fun K hK => ?_)
            refine skip_ (w1 := ?_) (by rfl) rfl ?_ ?_
            rotate_left
            ·go_simp
             rfl
            refine hK.out _ _ ?_
            clear hK K
            refine pure_ (i := 16) (N := some 48) (v := ?_) (a' := ?_) #[true, true, true, true, true, true, true, true, true, true, true, true, true, true, true, true, true, false] rfl rfl (any_of HT_.out (by kernel_rfl)) (fun _ _ _ h => h) (Or.inl ⟨by rfl, ?_⟩) ?_ ?_
            rotate_left
            ·intro w'
             go_simp
             with_reducible rfl
            rotate_left
            ·simp only [Act.put, List.setIfInBounds_toArray, List.set_cons_zero, List.set_cons_succ, i64_w, i32_w]
             rfl
            refine last_ (i := 17) (N := none) #[true, true, true, true, true, true, true, true, true, true, true, true, true, true, true, true, true, true] rfl rfl (one_of HT_.out (by kernel_rfl)) (by decide) (fun K hK => ?_)
            refine skip_ (w1 := ?_) (by rfl) rfl ?_ ?_
            rotate_left
            ·go_simp
             rfl
            refine hK.out _ _ ?_
            clear hK K
            refine done_ (done_of HT_.out (by kernel_rfl)) ?_
            try go_wp2
            go_roundg k2
            case measure => have := HK1.out; have := HK2.out; omega
            case rel => exact ⟨(y109), (ji8), (by first | rfl | (simp; done) | (simp only [← hji8] <;> (first | rfl | simp)) | (simp [*]; done)), H', ⟨by have := HK1.out; have := HK2.out; omega⟩, ⟨by (with_reducible repeat (first | apply Kd.R_alloc | apply Kd.R_drewN | apply Kd.R_drew)); exact HQ19.out⟩, ⟨by repeat (first | (with_reducible first | exact HK.out | apply Kept.alloc | apply Kept.drewN | apply Kept.drew | refine Kept.setCell ?_ HMgo13.out _ | refine Kept.setCell ?_ HMgo13.out _) | exact HK.out)⟩, ⟨by repeat (first | (with_reducible first | exact HB.out | apply below_alloc | apply pw_below_drewN | apply below_drew1 | refine below_set ?_ GB13.out | refine below_set ?_ GB13.out) | exact HB.out)⟩⟩
           ·replace c12 := Bool.eq_false_iff.mpr c12
            subst c12
            have H1 : (slices_insertionSortOrdered_uint64.l0 k2 x0_2 a1 a2 (wrap64 (x6_1 + 1))) = some r := by rw [if_neg (show ¬ (false = true) by decide)] at H <;> exact H
            clear H
            have H := H1
            clear H1
            have H' := Aside0.mk H
            clear H
            try go_wp2
            have n0_ := Aside0.mk (Kd.R_drew HO_0.out)
            have n1_ := Aside0.mk (Kept.drew HK.out)
            have n2_ := Aside0.mk (below_drew1 HB.out)
            clear HO_0
            clear HK
            clear HB
            have HO_0 := n0_
            have HK := n1_
            have HB := n2_
            clear n0_ n1_ n2_
            obtain ⟨Ao21, co21, eo21⟩ := Kd.R_slice HO_0.out
            (first | subst eo21 | (injection eo21 with f1_ f2_ f3_; have f4_ := f1_.symm; have f5_ := f3_.symm; clear f1_ f2_ f3_; subst f4_; subst f5_))
            have p103 : 0 ≤ (x7_2 : Int) := of_decide_eq_true (by first | (with_reducible assumption) | assumption)
            have q103 : x7_2 < (x0_2.length : Int) := of_decide_eq_true (by first | (with_reducible assumption) | assumption)
            obtain ⟨ad103, e103, hx103_0⟩ := Kd.at_int (Kd.R_reads' HO_0.out).2.2 x7_2 p103 q103
            cases e103
            replace p103 := eq_true p103
            replace q103 := eq_true q103
            have p104 : 0 ≤ ((ji8) : Int) := of_decide_eq_true (by first | (with_reducible assumption) | assumption)
            have q104 : (ji8) < (x0_2.length : Int) := of_decide_eq_true (by first | (with_reducible assumption) | assumption)
            obtain ⟨ad104, e104, hx104_0⟩ := Kd.at_int (Kd.R_reads' HO_0.out).2.2 (ji8) p104 q104
            obtain rfl : ad103 = ad104 := (by injection e104)
            replace p104 := eq_true p104
            replace q104 := eq_true q104
            refine start_ (n := 15) (S := fun w' => w'.cell? (ad103.add (x7_2).toNat) = some (.int .u64 (rd x0_2 x7_2)) ∧ w'.cell? (ad103.add ((ji8)).toNat) = some (.int .u64 (rd x0_2 (ji8)))) (ds := []) #[false, false, false, false, false, false, false, false, false, false, false, false, false, false, false] (by kernel_rfl) rfl rfl ⟨hx103_0, hx104_0⟩ (fun hHeld => ?_); refine with_tabW slices_insertionSortOrdered_uint64.tab4 slices_insertionSortOrdered_uint64.bits4 (fun HT_ HW_ => ?_)
            generalize wr.drew = w20 at HO_0 HK HB hx103_0 hx104_0 hHeld ⊢
            refine pure_ (i := 0) (N := some 16) (v := ?_) (a' := ?_) #[true, false, false, false, false, false, false, false, false, false, false, false, false, false, false] rfl rfl (any_of HT_.out (by kernel_rfl)) (fun _ _ _ h => h) (Or.inl ⟨by rfl, ?_⟩) ?_ ?_
            rotate_left
            ·intro w'
             go_simp
             with_reducible rfl
            rotate_left
            ·simp only [Act.put, List.setIfInBounds_toArray, List.set_cons_zero, List.set_cons_succ, i64_w, i32_w]
             rfl
            refine pure_ (i := 1) (N := some 17) (v := ?_) (a' := ?_) #[true, true, false, false, false, false, false, false, false, false, false, false, false, false, false] rfl rfl (any_of HT_.out (by kernel_rfl)) (fun _ _ _ h => h) (Or.inl ⟨by rfl, ?_⟩) ?_ ?_
            rotate_left
            ·intro w'
             go_simp
             with_reducible rfl
            rotate_left
            ·simp only [Act.put, List.setIfInBounds_toArray, List.set_cons_zero, List.set_cons_succ, i64_w, i32_w]
             rfl
            refine pure_ (i := 2) (N := some 18) (v := ?_) (a' := ?_) #[true, true, true, false, false, false, false, false, false, false, false, false, false, false, false] rfl rfl (any_of HT_.out (by kernel_rfl)) (fun _ _ _ h => h) (Or.inl ⟨by rfl, ?_⟩) ?_ ?_
            rotate_left
            ·intro w'
             go_simp
             with_reducible rfl
            rotate_left
            ·simp only [Act.put, List.setIfInBounds_toArray, List.set_cons_zero, List.set_cons_succ, i64_w, i32_w]
             rfl
            refine pure_ (i := 3) (N := some 19) (v := ?_) (a' := ?_) #[true, true, true, true, false, false, false, false, false, false, false, false, false, false, false] rfl rfl (any_of HT_.out (by kernel_rfl)) (fun _ _ _ h => h) (Or.inl ⟨by rfl, ?_⟩) ?_ ?_
            rotate_left
            ·intro w'
             go_simp
             with_reducible rfl
            rotate_left
            ·simp only [Act.put, List.setIfInBounds_toArray, List.set_cons_zero, List.set_cons_succ, i64_w, i32_w]
             rfl
            refine pure_ (i := 4) (N := some 20) (v := ?_) (a' := ?_) #[true, true, true, true, true, false, false, false, false, false, false, false, false, false, false] rfl rfl (any_of HT_.out (by kernel_rfl)) (fun _ _ _ h => h) (Or.inl ⟨by rfl, ?_⟩) ?_ ?_
            rotate_left
            ·intro w'
             go_simp
             with_reducible rfl
            rotate_left
            ·simp only [Act.put, List.setIfInBounds_toArray, List.set_cons_zero, List.set_cons_succ, i64_w, i32_w]
             rfl
            refine pure_ (i := 5) (N := some 21) (v := ?_) (a' := ?_) #[true, true, true, true, true, true, false, false, false, false, false, false, false, false, false] rfl rfl (any_of HT_.out (by kernel_rfl)) (fun _ _ _ h => h) (Or.inl ⟨by rfl, ?_⟩) ?_ ?_
            rotate_left
            ·intro w'
             go_simp
             with_reducible rfl
            rotate_left
            ·simp only [Act.put, List.setIfInBounds_toArray, List.set_cons_zero, List.set_cons_succ, i64_w, i32_w]
             rfl
            refine pure_ (i := 6) (N := some 22) (v := ?_) (a' := ?_) #[true, true, true, true, true, true, true, false, false, false, false, false, false, false, false] rfl rfl (any_of HT_.out (by kernel_rfl)) (fun _ _ _ h => h) (Or.inl ⟨by rfl, ?_⟩) ?_ ?_
            rotate_left
            ·intro w'
             go_simp
             with_reducible rfl
            rotate_left
            ·simp only [Act.put, List.setIfInBounds_toArray, List.set_cons_zero, List.set_cons_succ, i64_w, i32_w]
             rfl
            refine pure_ (i := 8) (N := some 24) (v := ?_) (a' := ?_) #[true, true, true, true, true, true, true, false, true, false, false, false, false, false, false] rfl rfl (any_of HT_.out (by kernel_rfl)) (fun _ _ _ h => h) (Or.inl ⟨by rfl, ?_⟩) ?_ ?_
            rotate_left
            ·intro w'
             go_simp
             with_reducible rfl
            rotate_left
            ·simp only [Act.put, List.setIfInBounds_toArray, List.set_cons_zero, List.set_cons_succ, i64_w, i32_w]
             rfl
            refine pure_ (i := 9) (N := some 25) (v := ?_) (a' := ?_) #[true, true, true, true, true, true, true, false, true, true, false, false, false, false, false] rfl rfl (any_of HT_.out (by kernel_rfl)) (fun _ _ _ h => h) (Or.inl ⟨by rfl, ?_⟩) ?_ ?_
            rotate_left
            ·intro w'
             go_simp
             with_reducible rfl
            rotate_left
            ·simp only [Act.put, List.setIfInBounds_toArray, List.set_cons_zero, List.set_cons_succ, i64_w, i32_w]
             rfl
            refine pure_ (i := 10) (N := some 26) (v := ?_) (a' := ?_) #[true, true, true, true, true, true, true, false, true, true, true, false, false, false, false] rfl rfl (any_of HT_.out (by kernel_rfl)) (fun _ _ _ h => h) (Or.inl ⟨by rfl, ?_⟩) ?_ ?_
            rotate_left
            ·intro w'
             go_simp
             with_reducible rfl
            rotate_left
            ·simp only [Act.put, List.setIfInBounds_toArray, List.set_cons_zero, List.set_cons_succ, i64_w, i32_w]
             rfl
            refine pure_ (i := 11) (N := some 27) (v := ?_) (a' := ?_) #[true, true, true, true, true, true, true, false, true, true, true, true, false, false, false] rfl rfl (any_of HT_.out (by kernel_rfl)) (fun _ _ _ h => h) (Or.inl ⟨by rfl, ?_⟩) ?_ ?_
            rotate_left
            ·intro w'
             go_simp
             with_reducible rfl
            rotate_left
            ·simp only [Act.put, List.setIfInBounds_toArray, List.set_cons_zero, List.set_cons_succ, i64_w, i32_w]
             rfl
            refine take_ (i := 7) (N := some 23) (v := ?_) (a' := ?_) #[true, true, true, true, true, true, true, true, true, true, true, true, false, false, false] rfl rfl (take_ofW HT_.out HW_.out (by kernel_rfl)) (fun _ _ _ h => h) (Or.inl ⟨by rfl, ?_⟩) hHeld ?_ ?_
            rotate_left
            ·rintro w' ⟨s0, s1⟩
             go_simp
             with_reducible rfl
            rotate_left
            ·simp only [Act.put, List.setIfInBounds_toArray, List.set_cons_zero, List.set_cons_succ, i64_w, i32_w]
             rfl
            refine take_ (i := 12) (N := some 28) (v := ?_) (a' := ?_) #[true, true, true, true, true, true, true, true, true, true, true, true, true, false, false] rfl rfl (take_ofW HT_.out HW_.out (by kernel_rfl)) (fun _ _ _ h => h) (Or.inl ⟨by rfl, ?_⟩) hHeld ?_ ?_
            rotate_left
            ·rintro w' ⟨s0, s1⟩
             go_simp
             with_reducible rfl
            rotate_left
            ·simp only [Act.put, List.setIfInBounds_toArray, List.set_cons_zero, List.set_cons_succ, i64_w, i32_w]
             rfl
            refine one_ (i := 13) (N := some 29) #[true, true, true, true, true, true, true, true, true, true, true, true, true, true, false] rfl rfl (one_of HT_.out (by kernel_rfl)) (by decide) (fun K hK => ?_)
            refine goes_ Try.func73 (by kernel_rfl) rfl #[.int .u64 (rd x0_2 x7_2), .int .u64 (rd x0_2 (ji8))] (by rfl) rfl rfl (by (try simp only [List.map_toArray, List.map_cons, List.map_nil]); first | done | (simp only [hji8]; rfl) | rfl | (simp only [List.length_drop, List.length_take]; rfl)) ?_
            with_reducible refine (cmp_Less_uint64.calls (rd x0_2 x7_2) (rd x0_2 (ji8)) false _ A11.out).mono ?_
            rintro e w' ⟨rfl, ⟨nd, rfl⟩⟩
            refine ⟨_, rfl, ?_⟩
            refine hK.out _ _ ⟨hHeld.1, hHeld.2⟩ (fun hHeld => ?_)
            clear hK K
            refine norm_ (a' := ?_) ?_ ?_
            rotate_left
            ·show Act.put _ (some 29) _ = _
             simp only [Act.put, List.setIfInBounds_toArray, List.set_cons_zero, List.set_cons_succ, i64_w, i32_w]
             rfl
            refine pure_ (i := 14) (N := some 30) (v := ?_) (a' := ?_) #[true, true, true, true, true, true, true, true, true, true, true, true, true, true, true] rfl rfl (any_of HT_.out (by kernel_rfl)) (fun _ _ _ h => h) (Or.inl ⟨by rfl, ?_⟩) ?_ ?_
            rotate_left
            ·intro w'
             go_simp
             with_reducible rfl
            rotate_left
            ·simp only [Act.put, List.setIfInBounds_toArray, List.set_cons_zero, List.set_cons_succ, i64_w, i32_w]
             rfl
            refine done_ (done_of HT_.out (by kernel_rfl)) ?_
            try go_wp2
            go_roundg k2
            case measure => have := HK1.out; have := HK2.out; omega
            case rel => exact ⟨(x0_2), (wrap64 (x6_1 + 1)), (by first | rfl | (simp; done) | (simp [*]; done)), H', ⟨by have := HK1.out; have := HK2.out; omega⟩, ⟨by (with_reducible repeat (first | apply Kd.R_alloc | apply Kd.R_drewN | apply Kd.R_drew)); exact HO_0.out⟩, ⟨by repeat (first | (with_reducible first | exact HK.out | apply Kept.alloc | apply Kept.drewN | apply Kept.drew) | exact HK.out)⟩, ⟨by repeat (first | (with_reducible first | exact HB.out | apply below_alloc | apply pw_below_drewN | apply below_drew1) | exact HB.out)⟩⟩
          ·rw [if_neg c10] at H
           exact absurd H (by simp)
         ·rw [if_neg c9] at H
          exact absurd H (by simp)
        ·rw [if_neg c7] at H
         exact absurd H (by simp)
       ·rw [if_neg c6] at H
        exact absurd H (by simp)
      ·rw [if_neg c5] at H
       have c5b0 : decide (a1 < x7_2) = false := decide_eq_false c5
       clear c5
       have H' := Aside0.mk H
       clear H
       try go_wp2
       have n0_ := Aside0.mk (Kd.R_drew HO_0.out)
       have n1_ := Aside0.mk (Kept.drew HK.out)
       have n2_ := Aside0.mk (below_drew1 HB.out)
       clear HO_0
       clear HK
       clear HB
       have HO_0 := n0_
       have HK := n1_
       have HB := n2_
       clear n0_ n1_ n2_
       refine start_ (n := 15) (S := fun w' => True) (ds := []) #[false, false, false, false, false, false, false, false, false, false, false, false, false, false, false] (by kernel_rfl) rfl rfl trivial (fun hHeld => ?_); refine with_tabW slices_insertionSortOrdered_uint64.tab4 slices_insertionSortOrdered_uint64.bits4 (fun HT_ HW_ => ?_)
       generalize wr.drew = w22 at HO_0 HK HB hHeld ⊢
       refine pure_ (i := 0) (N := some 16) (v := ?_) (a' := ?_) #[true, false, false, false, false, false, false, false, false, false, false, false, false, false, false] rfl rfl (any_of HT_.out (by kernel_rfl)) (fun _ _ _ h => h) (Or.inl ⟨by rfl, ?_⟩) ?_ ?_
       rotate_left
       ·intro w'
        go_simp
        with_reducible rfl
       rotate_left
       ·simp only [Act.put, List.setIfInBounds_toArray, List.set_cons_zero, List.set_cons_succ, i64_w, i32_w]
        rfl
       refine pure_ (i := 1) (N := some 17) (v := ?_) (a' := ?_) #[true, true, false, false, false, false, false, false, false, false, false, false, false, false, false] rfl rfl (any_of HT_.out (by kernel_rfl)) (fun _ _ _ h => h) (Or.inl ⟨by rfl, ?_⟩) ?_ ?_
       rotate_left
       ·intro w'
        go_simp
        with_reducible rfl
       rotate_left
       ·simp only [Act.put, List.setIfInBounds_toArray, List.set_cons_zero, List.set_cons_succ, i64_w, i32_w]
        rfl
       refine pure_ (i := 2) (N := some 18) (v := ?_) (a' := ?_) #[true, true, true, false, false, false, false, false, false, false, false, false, false, false, false] rfl rfl (any_of HT_.out (by kernel_rfl)) (fun _ _ _ h => h) (Or.inl ⟨by rfl, ?_⟩) ?_ ?_
       rotate_left
       ·intro w'
        go_simp
        with_reducible rfl
       rotate_left
       ·simp only [Act.put, List.setIfInBounds_toArray, List.set_cons_zero, List.set_cons_succ, i64_w, i32_w]
        rfl
       refine pure_ (i := 3) (N := some 19) (v := ?_) (a' := ?_) #[true, true, true, true, false, false, false, false, false, false, false, false, false, false, false] rfl rfl (any_of HT_.out (by kernel_rfl)) (fun _ _ _ h => h) (Or.inl ⟨by rfl, ?_⟩) ?_ ?_
       rotate_left
       ·intro w'
        go_simp
        with_reducible rfl
       rotate_left
       ·simp only [Act.put, List.setIfInBounds_toArray, List.set_cons_zero, List.set_cons_succ, i64_w, i32_w]
        rfl
       refine pure_ (i := 4) (N := some 20) (v := undef) (a' := ?_) #[true, true, true, true, true, false, false, false, false, false, false, false, false, false, false] rfl rfl (any_of HT_.out (by kernel_rfl)) (fun _ _ _ h => h) (Or.inr ⟨by rfl, rfl⟩) ?_ ?_
       rotate_left
       ·simp only [Act.put, List.setIfInBounds_toArray, List.set_cons_zero, List.set_cons_succ, i64_w, i32_w]
        rfl
       refine pure_ (i := 5) (N := some 21) (v := undef) (a' := ?_) #[true, true, true, true, true, true, false, false, false, false, false, false, false, false, false] rfl rfl (any_of HT_.out (by kernel_rfl)) (fun _ _ _ h => h) (Or.inr ⟨by rfl, rfl⟩) ?_ ?_
       rotate_left
       ·simp only [Act.put, List.setIfInBounds_toArray, List.set_cons_zero, List.set_cons_succ, i64_w, i32_w]
        rfl
       refine pure_ (i := 6) (N := some 22) (v := undef) (a' := ?_) #[true, true, true, true, true, true, true, false, false, false, false, false, false, false, false] rfl rfl (any_of HT_.out (by kernel_rfl)) (fun _ _ _ h => h) (Or.inr ⟨by rfl, rfl⟩) ?_ ?_
       rotate_left
       ·simp only [Act.put, List.setIfInBounds_toArray, List.set_cons_zero, List.set_cons_succ, i64_w, i32_w]
        rfl
       refine pure_ (i := 7) (N := some 23) (v := undef) (a' := ?_) #[true, true, true, true, true, true, true, true, false, false, false, false, false, false, false] rfl rfl (any_of HT_.out (by kernel_rfl)) (fun _ _ _ h => h) (Or.inr ⟨by rfl, rfl⟩) ?_ ?_
       rotate_left
       ·simp only [Act.put, List.setIfInBounds_toArray, List.set_cons_zero, List.set_cons_succ, i64_w, i32_w]
        rfl
       refine pure_ (i := 8) (N := some 24) (v := undef) (a' := ?_) #[true, true, true, true, true, true, true, true, true, false, false, false, false, false, false] rfl rfl (any_of HT_.out (by kernel_rfl)) (fun _ _ _ h => h) (Or.inr ⟨by rfl, rfl⟩) ?_ ?_
       rotate_left
       ·simp only [Act.put, List.setIfInBounds_toArray, List.set_cons_zero, List.set_cons_succ, i64_w, i32_w]
        rfl
       refine pure_ (i := 9) (N := some 25) (v := undef) (a' := ?_) #[true, true, true, true, true, true, true, true, true, true, false, false, false, false, false] rfl rfl (any_of HT_.out (by kernel_rfl)) (fun _ _ _ h => h) (Or.inr ⟨by rfl, rfl⟩) ?_ ?_
       rotate_left
       ·simp only [Act.put, List.setIfInBounds_toArray, List.set_cons_zero, List.set_cons_succ, i64_w, i32_w]
        rfl
       refine pure_ (i := 10) (N := some 26) (v := undef) (a' := ?_) #[true, true, true, true, true, true, true, true, true, true, true, false, false, false, false] rfl rfl (any_of HT_.out (by kernel_rfl)) (fun _ _ _ h => h) (Or.inr ⟨by rfl, rfl⟩) ?_ ?_
       rotate_left
       ·simp only [Act.put, List.setIfInBounds_toArray, List.set_cons_zero, List.set_cons_succ, i64_w, i32_w]
        rfl
       refine pure_ (i := 11) (N := some 27) (v := undef) (a' := ?_) #[true, true, true, true, true, true, true, true, true, true, true, true, false, false, false] rfl rfl (any_of HT_.out (by kernel_rfl)) (fun _ _ _ h => h) (Or.inr ⟨by rfl, rfl⟩) ?_ ?_
       rotate_left
       ·simp only [Act.put, List.setIfInBounds_toArray, List.set_cons_zero, List.set_cons_succ, i64_w, i32_w]
        rfl
       refine pure_ (i := 12) (N := some 28) (v := undef) (a' := ?_) #[true, true, true, true, true, true, true, true, true, true, true, true, true, false, false] rfl rfl (any_of HT_.out (by kernel_rfl)) (fun _ _ _ h => h) (Or.inr ⟨by rfl, rfl⟩) ?_ ?_
       rotate_left
       ·simp only [Act.put, List.setIfInBounds_toArray, List.set_cons_zero, List.set_cons_succ, i64_w, i32_w]
        rfl
       refine pure_ (i := 13) (N := some 29) (v := undef) (a' := ?_) #[true, true, true, true, true, true, true, true, true, true, true, true, true, true, false] rfl rfl (any_of HT_.out (by kernel_rfl)) (fun _ _ _ h => h) (Or.inr ⟨by rfl, rfl⟩) ?_ ?_
       rotate_left
       ·simp only [Act.put, List.setIfInBounds_toArray, List.set_cons_zero, List.set_cons_succ, i64_w, i32_w]
        rfl
       refine pure_ (i := 14) (N := some 30) (v := ?_) (a' := ?_) #[true, true, true, true, true, true, true, true, true, true, true, true, true, true, true] rfl rfl (any_of HT_.out (by kernel_rfl)) (fun _ _ _ h => h) (Or.inl ⟨by rfl, ?_⟩) ?_ ?_
       rotate_left
       ·intro w'
        go_simp
        with_reducible rfl
       rotate_left
       ·simp only [Act.put, List.setIfInBounds_toArray, List.set_cons_zero, List.set_cons_succ, i64_w, i32_w]
        rfl
       refine done_ (done_of HT_.out (by kernel_rfl)) ?_
       try go_wp2
       go_roundg k2
       case measure => have := HK1.out; have := HK2.out; omega
       case rel => exact ⟨(x0_2), (wrap64 (x6_1 + 1)), (by first | rfl | (simp; done) | (simp [*]; done)), H', ⟨by have := HK1.out; have := HK2.out; omega⟩, ⟨by (with_reducible repeat (first | apply Kd.R_alloc | apply Kd.R_drewN | apply Kd.R_drew)); exact HO_0.out⟩, ⟨by repeat (first | (with_reducible first | exact HK.out | apply Kept.alloc | apply Kept.drewN | apply Kept.drew) | exact HK.out)⟩, ⟨by repeat (first | (with_reducible first | exact HB.out | apply below_alloc | apply pw_below_drewN | apply below_drew1) | exact HB.out)⟩⟩
   ·rw [if_neg c4] at H
    have c4b0 : decide (x6_1 < a2) = false := decide_eq_false c4
    clear c4
    obtain rfl := Option.some.inj H
    go_wp2
    first | go_end0 | ((try simp only [Exit.inBlock, Exit.then]); refine bodyPost_ret (results_none rfl _ _ _) rfl ?_)
    exact ⟨by first | rfl | (simp [errW_none, errW_some] <;> rfl) | (simp [*, errW_none, errW_some] <;> rfl), by (with_reducible repeat (first | apply Kd.R_alloc | apply Kd.R_drewN | apply Kd.R_drew)); exact HO_0.out, by repeat (first | (with_reducible first | exact HB.out | apply below_alloc | apply pw_below_drewN | apply below_drew1) | exact HB.out), by repeat (first | (with_reducible first | exact HK.out | apply Kept.alloc | apply Kept.drewN | apply Kept.drew) | exact HK.out)⟩
end Go.Proofs.Ytndkmnjbjlfeaaa.XQ
end
